/- RelayOrdersSaid: for every input the law returns true, and each argument reads behind the call as it read before. No condition. -/
import Derived.Deep.AppendLies
import Derived.ProofKit
import Derived.OpenShut
import Derived.ChangeOld
import Derived.Deep.Slices
import Derived.Deep.Fields
import Derived.Lib.SmallJoins
import Derived.Test.YtmkdhhhoodeemaaGreatRows
import Derived.WalkKit
import Derived.Below
import Derived.Carry
import Derived.Test.YtmkdhhhoodeemaaGreatRoLProofGa
import Derived.Test.YtmkdhhhoodeemaaGreatRoLProofGb
import Derived.Test.YtmkdhhhoodeemaaGreatRoLProofGc
import Derived.Test.YtmkdhhhoodeemaaGreatRoLProofGd
import Derived.Test.YtmkdhhhoodeemaaGreatRoLProofGe
import Derived.Test.YtmkdhhhoodeemaaGreatRoLProofGf
import Derived.Test.YtmkdhhhoodeemaaGreatRoLProofJa
import Derived.Test.YtmkdhhhoodeemaaGreatRoLProofJb
import Derived.Test.YtmkdhhhoodeemaaGreatRoLProofJc
import Derived.Test.YtmkdhhhoodeemaaGreatRoLProofJd
set_option linter.unusedVariables false
set_option linter.unusedSimpArgs false
set_option maxRecDepth 100000
set_option maxHeartbeats 16000000
namespace Go.Proofs.YtmkdhhhoodeemaaGreat
open Go Go.RowKit
def RProve (w : World) (gD bD : Nat) (v : Value) (l : List Ent) (Bs : List Int) (L' : List (List Int)) (e : Ending) (w' : World) : Prop :=
 ∃ LA lc BA bc v', e = .returned (.tuple #[.agg #[.int .i64 l.length, .int .i64 0, .slice LA l.length lc, .slice BA Bs.length bc], .int .i64 0]) ∧ EntRow w' (fun k => w.heap.size ≤ k) LA l ∧ IntF w' (fun k => w.heap.size ≤ k) BA Bs ∧ RBookAt w' gD bD v' L' ∧ Fr (fun k => k = gD ∨ v.ownBlock = some k) w w' ∧ ∀ k, v'.ownBlock = some k → v.ownBlock = some k ∨ w.heap.size ≤ k
theorem ref06_Prove_bad {w : World} {F : Nat → Prop} {A : Option Addr} {l : List Ent} {cap : Nat} (h : EntRow w F A l) (hll : l.length ≤ 1000000) (hno : risesE l = false) (bk : Value) :
  Calls Tryz.prog 52 #[bk, .slice A l.length cap, .int .i64 0, .int .i64 l.length] w (fun e w' => e = .returned (.tuple #[.agg #[.int .i64 0, .int .i64 0, .slice none 0 0, .slice none 0 0], .int .i64 1]) ∧ Fr (fun _ => False) w w') := by
 have hfP : Fr (fun _ => False) w (w.alloc (Obj.cells #[.int .i64 0, .int .i64 0, .slice none 0 0, .slice none 0 0] 60)) := (Fr.refl _ _).alloc _
 have hR0 := Blk.new w 60 #[.int .i64 0, .int .i64 0, .slice none 0 0, .slice none 0 0]
 have HR := Lib.hid (ref06_Right (cap := cap) (h.fr hfP (fun _ _ => id)) hll)
 rw [hno] at HR
 clear h hll hno
 go_enter Tryz.func52, Tryz.ntmps52
 go_wp2_with (first
  | (go_at_call 87; refine HR.out.mono ?_; rintro e w1 ⟨rfl, hf1⟩)
  | (refine wpList_store_row rfl 60 (.tmp 8) (.tmp 37) rfl w.heap.size #[.int .i64 0, .int .i64 0, .slice none 0 0, .slice none 0 0] rfl rfl 60 _ (hR0.fr hf1 id) (by kernel_rfl) rfl (by simp [Value.oneCell']) ?_))
 have hR1 := Blk.setRow_ (ds := #[.int .i64 0, .int .i64 0, .slice none 0 0, .slice none 0 0]) (hR0.fr hf1 id)
 have hfe := (hfP.then_ hf1).trans (Fr.setRow_ (w := w1) (g := w.heap.size) (ds := #[.int .i64 0, .int .i64 0, .slice none 0 0, .slice none 0 0])) (fun k hk e => by omega)
 generalize w1.setRow w.heap.size #[.int .i64 0, .int .i64 0, .slice none 0 0, .slice none 0 0] = wz at *
 refine bodyPost_ret (v := .tuple #[.agg #[.int .i64 0, .int .i64 0, .slice none 0 0, .slice none 0 0], .int .i64 1]) (results_row2 Tryz.results52 _ wz w.heap.size 60 #[.int .i64 0, .int .i64 0, .slice none 0 0, .slice none 0 0] (0, 0) _ rfl hR1 Tryz.underlying60 rfl (by kernel_rfl) rfl) rfl ?_
 exact ⟨rfl, hfe⟩
theorem ref06_Prove_all {w : World} {gD bD : Nat} {v : Value} {L : List (List Int)} (hb : RBookAt w gD bD v L) (hL8 : ∀ t ∈ L, B8 t) (hbase : bD ≤ w.heap.size) (hL : L.length < 65536) {F : Nat → Prop} {A : Option Addr} {l : List Ent} {cap : Nat} (h : EntRow w F A l) (hll : l.length ≤ 60000) (hyes : risesE l = true) (hcap : l.length ≤ cap) (hne : 0 < l.length) :
  Calls Tryz.prog 52 #[.pointer (some ⟨gD, 0, none⟩), .slice A l.length cap, .int .i64 0, .int .i64 l.length] w (RProve w gD bD v l [] L) := by
 obtain ⟨b, o, rfl, _, _⟩ := h 0 l[0] (List.getElem?_eq_getElem hne)
 have HRow := Lib.hid h
 obtain ⟨n, hn⟩ : ∃ n : Nat, l.length = n := ⟨_, rfl⟩
 have hfP : Fr (fun _ => False) w (w.alloc (Obj.cells #[.int .i64 0, .int .i64 0, .slice none 0 0, .slice none 0 0] 60)) := (Fr.refl _ _).alloc _
 have hR0 := Blk.new w 60 #[.int .i64 0, .int .i64 0, .slice none 0 0, .slice none 0 0]
 have HR := Lib.hid (ref06_Right (cap := cap) (h.fr hfP (fun _ _ => id)) (by omega))
 rw [hn, hyes] at HR
 rw [hn] at hll hcap ⊢
 rw [hn] at hne
 have HN := Lib.hid hn
 clear h hyes hn
 go_enter Tryz.func52, Tryz.ntmps52
 have hw0 : wrap64 ((n : Int) - 0) = (n : Int) := by unfold wrap64; omega
 have hw1 : wrap64 (n : Int) = (n : Int) := by unfold wrap64; omega
 have q0 : ¬ (n : Int) < 0 := by omega
 go_upto_region 3 with (go_at_call 87; refine HR.out.mono ?_; rintro e w1 ⟨rfl, hf1⟩)
 have hR1 := (hR0.fr hf1 id).alloc (Obj.cells #[.pointer (some ⟨gD, 0, none⟩), .int .i64 0] 176)
 have ht1 := Blk.new w1 176 #[.pointer (some ⟨gD, 0, none⟩), .int .i64 0]
 have hf01 := (hfP.then_ hf1).alloc (Obj.cells #[.pointer (some ⟨gD, 0, none⟩), .int .i64 0] 176)
 have hgt : w.heap.size < w1.heap.size := (hR0.fr hf1 id).lt
 go_upto_region 4 with fail
 generalize w1.alloc (Obj.cells #[.pointer (some ⟨gD, 0, none⟩), .int .i64 0] 176) = w2 at *
 obtain ⟨gt, hgt'⟩ : ∃ x, Hid (w1.heap.size = x) := ⟨_, rfl⟩
 rw [hgt'.out] at ht1 hgt ⊢
 obtain ⟨i, hi, hz, hsz, hby⟩ := ent_info
 have hR2 : EntRow w2 F (some ⟨b, o, none⟩) l := HRow.out.fr hf01 (fun _ _ => id)
 have hnE := entRow_news (hR2.fr ((Fr.refl (fun _ => False) w2).alloc (Obj.cells #[] 119)) (fun _ _ => id))
 have hlen : (entsV l).length = l.length * 3 := entsV_len _
 have h1 := entsV_one l
 obtain ⟨ys, hys⟩ : ∃ ys, entsV l = ys := ⟨_, rfl⟩
 rw [hys] at hnE hlen h1
 have HYS := Lib.hid hys
 rw [HN.out] at hlen
 have ownE : (w2.alloc (Obj.cells #[] 119)).ownsRow w2.heap.size 119 3 (.slice (some ⟨w2.heap.size, 0, none⟩) 0 0) 0 [] := ownsRow_built w2 _ _ (Nat.le_refl _)
 have hcap' : (n : Int) ≤ (cap : Int) := by omega
 have hn00 : (0 : Int) ≤ (n : Int) := by omega
 clear hys hR2 hf1 HR
 go_upto_region 5 with (first
  | (at_builtin; refine wpList_append_lies _ rfl (.tmp 44) (.tmp 50) 31 rfl w2.heap.size 119 i _ 3 40 Tryz.underlying31 hi hz hsz hby rfl (by decide) (.slice (some ⟨w2.heap.size, 0, none⟩) 0 0) 0 [] (by rfl) ownE ⟨b, o, none⟩ n cap ys (by rfl) hlen hnE h1 hne (by simp only [maxLen]; omega) (by omega) (by first | (simp; done) | (simp; omega)) _ rfl ?_; intro g2 c2 w4 hown4 hg4 hk4 hl4)
  | (refine wpList_store_new rfl 60 (.tmp 11) (.tmp 52) rfl _ _ rfl rfl (by kernel_rfl) rfl (by simp [Value.oneCell']) ?_))
 have hf24 : Fr (fun _ => False) w2 w4 := Fr.grown (w := w2.alloc (Obj.cells #[] 119)) ((Fr.refl _ w2).alloc _) hg4 (fun k hk e => by simp [Value.ownBlock] at e; omega)
 simp only [Nat.zero_add] at *
 have hP5 := Blk.new w4 60 #[.int .i64 n, .int .i64 0, .slice (some ⟨g2, 0, none⟩) n c2, .slice none 0 0]
 have hf45 : Fr (fun _ => False) w4 (w4.alloc (Obj.cells #[.int .i64 n, .int .i64 0, .slice (some ⟨g2, 0, none⟩) n c2, .slice none 0 0] 60)) := (Fr.refl _ _).alloc _
 have hown5 := own_fr hown4 hf45 (fun _ _ => id)
 have hf25 := hf24.then_ hf45
 have ht5 := ht1.fr hf25 id
 have hR5 := hR1.fr hf25 id
 have hf05 := hf01.then_ hf25
 have hsz24 := hf24.size
 have hw2l : w.heap.size < w2.heap.size := hR1.lt
 have hsz02 := hf01.size
 have hR4 := hR1.fr hf24 id
 generalize w4.alloc (Obj.cells #[.int .i64 n, .int .i64 0, .slice (some ⟨g2, 0, none⟩) n c2, .slice none 0 0] 60) = w5 at *
 obtain ⟨gp, hgp⟩ : ∃ x, Hid (w4.heap.size = x) := ⟨_, rfl⟩
 rw [hgp.out] at hP5 ⊢
 have hgpw : w.heap.size < gp := by rw [← hgp.out]; exact hR4.lt
 have HB := Lib.hid (ref06_beside_all (.pointer (some ⟨gt, 0, none⟩)) n (by omega) n n (Nat.le_refl _) hne w5 b o cap 0 hcap (by omega))
 have HB : Hid (Calls Tryz.prog 88 #[.pointer (some ⟨gt, 0, none⟩), .slice (some ⟨b, o, none⟩) n cap, .int .i64 0, .int .i64 0, .int .i64 n] w5 (fun e w' => e = .returned (.slice none 0 0) ∧ Fr (fun _ => False) w5 w')) := HB.out
 clear hnE hown4 ownE hg4 hk4 hl4 hR4 hf24 hf25 hf45 hR1 ht1 hf01
 go_upto_region 6 with (go_at_call 88; refine HB.out.mono ?_; rintro e w8 ⟨rfl, hf8⟩; have hP8 := hP5.fr hf8 id; have p3 := hP8.cell 3; have z3 := hP8.frozen 3)
 have hfs : Fr (fun k => k = gp) w8 (w8.setCell ⟨gp, 3, none⟩ (.slice none 0 0)) := (Fr.refl (fun k => k = gp) w8).setCell (p := ⟨gp, 3, none⟩) (fun _ => rfl) _
 have hP9 : Blk (w8.setCell ⟨gp, 3, none⟩ (.slice none 0 0)) gp 60 #[.int .i64 n, .int .i64 0, .slice (some ⟨g2, 0, none⟩) n c2, .slice none 0 0] := hP8.set_ 3 _
 have ht8 := ht5.fr hf8 id
 have hR8 := hR5.fr hf8 id
 have ht9 := ht8.fr hfs (ht8.ne_ hP8 (by decide))
 have hR9 := hR8.fr hfs (fun e => by omega)
 have hown8 := own_fr hown5 hf8 (fun _ _ => id)
 have hown9 := own_fr hown8 hfs (fun k hk e => own_ne_blk hown8 hP8 (by decide) (e ▸ hk))
 have hf09 := (hf05.then_ hf8).trans hfs (fun k hk e => by omega)
 clear hP5 hP8 ht5 ht8 hR5 hR8 hown5 hown8 hf05 hf8 hfs p3 z3 HB
 generalize w8.setCell ⟨gp, 3, none⟩ (.slice none 0 0) = w9 at *
 have t1 := ht9.cell 1
 clear hR0 hfP
 go_wp2_with (first
  | (refine wpList_load_row rfl 60 _ rfl _ rfl _ _ (0, 0) _ hP9 Tryz.underlying60 rfl (by kernel_rfl) ?_)
  | (refine wpList_store_row rfl 60 (.tmp 8) (.tmp 71) rfl w.heap.size #[.int .i64 n, .int .i64 0, .slice (some ⟨g2, 0, none⟩) n c2, .slice none 0 0] rfl rfl 60 _ hR9 (by kernel_rfl) rfl (by simp [Value.oneCell']) ?_))
 have hZ := Blk.setRow_ (ds := #[.int .i64 n, .int .i64 0, .slice (some ⟨g2, 0, none⟩) n c2, .slice none 0 0]) hR9
 have hfs := Fr.setRow_ (w := w9) (g := w.heap.size) (ds := #[.int .i64 n, .int .i64 0, .slice (some ⟨g2, 0, none⟩) n c2, .slice none 0 0])
 have hownZ := own_fr hown9 hfs (fun k hk e => by have := own_ge hown9 k hk; omega)
 have hfe := hf09.trans hfs (fun k hk e => by omega)
 generalize w9.setRow w.heap.size #[.int .i64 n, .int .i64 0, .slice (some ⟨g2, 0, none⟩) n c2, .slice none 0 0] = wz at *
 refine bodyPost_ret (v := .tuple #[.agg #[.int .i64 n, .int .i64 0, .slice (some ⟨g2, 0, none⟩) n c2, .slice none 0 0], .int .i64 0]) (results_row2 Tryz.results52 _ wz w.heap.size 60 _ (0, 0) _ rfl hZ Tryz.underlying60 rfl (by kernel_rfl) rfl) rfl ?_
 have hEnt := ents_of (by simpa using hownZ) HYS.out HN.out
 exact ⟨some ⟨g2, 0, none⟩, c2, none, 0, v, by rw [HN.out]; rfl, hEnt.mono_ (fun k hk => by omega), fun k x hx => by simp at hx, hb.keep hfe, hfe.mono (fun _ _ h => h.elim), fun k hk => .inl hk⟩
theorem ref06_Prove_none {w : World} {gD bD : Nat} {v : Value} {L : List (List Int)} (hb : RBookAt w gD bD v L) (hL8 : ∀ t ∈ L, B8 t) (hbase : bD ≤ w.heap.size) (hL : L.length < 65536) {d : Int} {L1 : List (List Int)} (hd : ((digI L noneB : Nat) : Int) = d) (hL1 : digL L noneB = L1) :
  Calls Tryz.prog 52 #[.pointer (some ⟨gD, 0, none⟩), .slice none 0 0, .int .i64 0, .int .i64 0] w (RProve w gD bD v [] [d] L1) := by
 have hfP : Fr (fun _ => False) w (w.alloc (Obj.cells #[.int .i64 0, .int .i64 0, .slice none 0 0, .slice none 0 0] 60)) := (Fr.refl _ _).alloc _
 have hR0 := Blk.new w 60 #[.int .i64 0, .int .i64 0, .slice none 0 0, .slice none 0 0]
 have HR : Hid (Calls Tryz.prog 87 #[.slice none 0 0] (w.alloc (Obj.cells #[.int .i64 0, .int .i64 0, .slice none 0 0, .slice none 0 0] 60)) (OkB (w.alloc (Obj.cells #[.int .i64 0, .int .i64 0, .slice none 0 0, .slice none 0 0] 60)) true)) := ref06_Right (w := w.alloc (Obj.cells #[.int .i64 0, .int .i64 0, .slice none 0 0, .slice none 0 0] 60)) (F := fun _ => False) (A := none) (l := []) (cap := 0) (fun k x h => by simp at h) (by simp)
 go_enter Tryz.func52, Tryz.ntmps52
 go_upto_region 3 with (go_at_call 87; refine HR.out.mono ?_; rintro e w1 ⟨rfl, hf1⟩)
 have hR1 := (hR0.fr hf1 id).alloc (Obj.cells #[.pointer (some ⟨gD, 0, none⟩), .int .i64 0] 176)
 have ht1 := Blk.new w1 176 #[.pointer (some ⟨gD, 0, none⟩), .int .i64 0]
 have hf01 := (hfP.then_ hf1).alloc (Obj.cells #[.pointer (some ⟨gD, 0, none⟩), .int .i64 0] 176)
 have hgt : w.heap.size < w1.heap.size := (hR0.fr hf1 id).lt
 go_upto_region 4 with fail
 generalize w1.alloc (Obj.cells #[.pointer (some ⟨gD, 0, none⟩), .int .i64 0] 176) = w2 at *
 obtain ⟨gt, hgt'⟩ : ∃ x, Hid (w1.heap.size = x) := ⟨_, rfl⟩
 rw [hgt'.out] at ht1 hgt ⊢
 clear hf1 HR
 go_upto_region 5 with (refine wpList_store_new rfl 60 (.tmp 11) (.tmp 52) rfl _ _ rfl rfl (by kernel_rfl) rfl (by simp [Value.oneCell']) ?_)
 have hP5 := Blk.new (w2.alloc (Obj.cells #[] 119)) 60 #[.int .i64 0, .int .i64 0, .slice (some ⟨w2.heap.size, 0, none⟩) 0 0, .slice none 0 0]
 rw [show (w2.alloc (Obj.cells #[] 119)).heap.size = w2.heap.size + 1 by simp] at hP5
 have hf25 : Fr (fun _ => False) w2 ((w2.alloc (Obj.cells #[] 119)).alloc (Obj.cells #[.int .i64 0, .int .i64 0, .slice (some ⟨w2.heap.size, 0, none⟩) 0 0, .slice none 0 0] 60)) := ((Fr.refl _ _).alloc _).alloc _
 have ht5 := ht1.fr hf25 id
 have hR5 := hR1.fr hf25 id
 have hf05 := hf01.then_ hf25
 have hgpw : w.heap.size < w2.heap.size + 1 := by have := hR1.lt; omega
 generalize (w2.alloc (Obj.cells #[] 119)).alloc (Obj.cells #[.int .i64 0, .int .i64 0, .slice (some ⟨w2.heap.size, 0, none⟩) 0 0, .slice none 0 0] 60) = w5 at *
 obtain ⟨ge, hge⟩ : ∃ x, Hid (w2.heap.size = x) := ⟨_, rfl⟩
 rw [hge.out] at hP5 hgpw ⊢
 have HB := ref06_beside0 (hb.keep hf05) hL8 (Nat.le_trans hbase hf05.size) hL ht5 none 0
 unfold TBes at HB
 rw [hd, hL1] at HB
 replace HB := Lib.hid HB
 go_upto_region 6 with (go_at_call 88; refine HB.out.mono ?_; rintro e w8 ⟨v8, A8, c8, rfl, hI8, hb8, ht8, hf8, hk8⟩; have hP8 := hP5.fr hf8 (fun e => by
   rcases e with e | e | e
   ·exact ht5.ne_ hP5 (by decide) e.symm
   ·exact (hb.keep hf05).blk.ne_ hP5 (by decide) e.symm
   ·obtain ⟨vals, h1, _⟩ := (hb.keep hf05).row; exact own_ne_blk h1 hP5 (by decide) e); have p3 := hP8.cell 3; have z3 := hP8.frozen 3)
 have hfs : Fr (fun k => k = ge + 1) w8 (w8.setCell ⟨ge + 1, 3, none⟩ (.slice A8 1 c8)) := (Fr.refl (fun k => k = ge + 1) w8).setCell (p := ⟨ge + 1, 3, none⟩) (fun _ => rfl) _
 have hP9 : Blk (w8.setCell ⟨ge + 1, 3, none⟩ (.slice A8 1 c8)) (ge + 1) 60 #[.int .i64 0, .int .i64 0, .slice (some ⟨ge, 0, none⟩) 0 0, .slice A8 1 c8] := hP8.set_ 3 _
 have ht9 := ht8.fr hfs (ht8.ne_ hP8 (by decide))
 have hR8 := hR5.fr hf8 (fun e => by
   rcases e with e | e | e
   ·omega
   ·exact (hb.keep hf05).blk.ne_ hR5 (by decide) e.symm
   ·obtain ⟨vals, h1, _⟩ := (hb.keep hf05).row; exact own_ne_blk h1 hR5 (by decide) e)
 have hR9 := hR8.fr hfs (fun e => by omega)
 have hf08 : Fr (fun k => k = gD ∨ v.ownBlock = some k) w w8 := (hf05.mono (fun _ _ h => h.elim)).trans hf8 (fun k hk e => by rcases e with e | e | e; (· omega); (· exact .inl e); (· exact .inr e))
 have hf09 := hf08.trans hfs (T := fun k => k = ge + 1) (fun k hk e => by omega)
 have hb9 := hb8.fr hfs (hb8.blk.ne_ hP8 (by decide)) (fun k hk e => by obtain ⟨vals, h1, _⟩ := hb8.row; exact own_ne_blk h1 hP8 (by decide) (e ▸ hk)) (fun b hb e => hb.ne_blk hP8 (by decide) e)
 have hz05 := hf05.size
 have hw5l : w.heap.size < w5.heap.size := hR5.lt
 have hI9 := hI8.fr hfs (fun k hk e => by have := hP5.lt; omega)
 clear hP5 hP8 ht5 ht8 hR5 hR8 hf05 hf8 hfs p3 z3 HB hb8 hI8 hf08
 generalize w8.setCell ⟨ge + 1, 3, none⟩ (.slice A8 1 c8) = w9 at *
 have t1 := ht9.cell 1
 clear hR0 hfP
 go_wp2_with (first
  | (refine wpList_load_row rfl 60 _ rfl _ rfl _ _ (0, 0) _ hP9 Tryz.underlying60 rfl (by kernel_rfl) ?_)
  | (refine wpList_store_row rfl 60 (.tmp 8) (.tmp 71) rfl w.heap.size #[.int .i64 0, .int .i64 0, .slice (some ⟨ge, 0, none⟩) 0 0, .slice A8 1 c8] rfl rfl 60 _ hR9 (by kernel_rfl) rfl (by simp [Value.oneCell']) ?_))
 have hZ := Blk.setRow_ (ds := #[.int .i64 0, .int .i64 0, .slice (some ⟨ge, 0, none⟩) 0 0, .slice A8 1 c8]) hR9
 have hfs := Fr.setRow_ (w := w9) (g := w.heap.size) (ds := #[.int .i64 0, .int .i64 0, .slice (some ⟨ge, 0, none⟩) 0 0, .slice A8 1 c8])
 have hbZ := hb9.fr hfs (hb9.blk.ne_ hR9 (by decide)) (fun k hk e => by obtain ⟨vals, h1, _⟩ := hb9.row; exact own_ne_blk h1 hR9 (by decide) (e ▸ hk)) (fun b hb e => hb.ne_blk hR9 (by decide) e)
 have hIZ := hI9.fr hfs (fun k hk e => by omega)
 have hfe := hf09.trans hfs (fun k hk e => by omega)
 generalize w9.setRow w.heap.size #[.int .i64 0, .int .i64 0, .slice (some ⟨ge, 0, none⟩) 0 0, .slice A8 1 c8] = wz at *
 refine bodyPost_ret (v := .tuple #[.agg #[.int .i64 0, .int .i64 0, .slice (some ⟨ge, 0, none⟩) 0 0, .slice A8 1 c8], .int .i64 0]) (results_row2 Tryz.results52 _ wz w.heap.size 60 _ (0, 0) _ rfl hZ Tryz.underlying60 rfl (by kernel_rfl) rfl) rfl ?_
 exact ⟨some ⟨ge, 0, none⟩, 0, A8, c8, v8, rfl, fun k x hx => by simp at hx, hIZ.mono_ (fun k hk => by omega), hbZ, hfe, fun k hk => (hk8 k hk).imp_right (fun h => by omega)⟩
theorem ref06_Prove {w : World} {gD bD : Nat} {v : Value} {L : List (List Int)} (hb : RBookAt w gD bD v L) (hL8 : ∀ t ∈ L, B8 t) (hbase : bD ≤ w.heap.size) (hL : L.length < 65536) {F : Nat → Prop} {A : Option Addr} {l : List Ent} {cap : Nat} (h : EntRow w F A l) (hll : l.length ≤ 60000) (hyes : risesE l = true) (hcap : l.length ≤ cap) (hz : l = [] → A = none ∧ cap = 0) :
  Calls Tryz.prog 52 #[.pointer (some ⟨gD, 0, none⟩), .slice A l.length cap, .int .i64 0, .int .i64 l.length] w (RProve w gD bD v l (besideOf L l) (bookOf L l)) := by
 unfold besideOf bookOf
 by_cases he : l = []
 ·rw [if_pos he, if_pos he]
  obtain ⟨rfl, rfl⟩ := hz he
  subst he
  exact ref06_Prove_none hb hL8 hbase hL rfl rfl
 ·rw [if_neg he, if_neg he]
  exact ref06_Prove_all hb hL8 hbase hL h hll hyes hcap (by have := List.length_pos_iff.2 he; omega)
def ROrd (w : World) (gD bD : Nat) (vD : Value) (L' : List (List Int)) (gg bb : List Int) (e : Ending) (w' : World) : Prop :=
 ∃ tv vD', e = .returned tv ∧ TasksAt w' w.heap.size tv gg bb ∧ RBookAt w' gD bD vD' L' ∧ Fr (fun k => k = gD ∨ vD.ownBlock = some k) w w' ∧ ∀ k, vD'.ownBlock = some k → vD.ownBlock = some k ∨ w.heap.size ≤ k
theorem ROrd.end_ {w w3 w' : World} {gD bD : Nat} {vD v3 tv : Value} {L' : List (List Int)} {gg bb : List Int} (ht : TasksAt w' w.heap.size tv gg bb) (hb : RBookAt w3 gD bD v3 L') (hf3 : Fr (fun k => k = gD ∨ vD.ownBlock = some k) w w3) (hk : ∀ k, v3.ownBlock = some k → vD.ownBlock = some k ∨ w.heap.size ≤ k) (hf : Fr (fun _ => False) w3 w') : ROrd w gD bD vD L' gg bb (.returned tv) w' :=
 ⟨tv, v3, rfl, ht, hb.keep hf, hf3.then_ hf, hk⟩
theorem TasksAt.ne_blk {w : World} {base : Nat} {v : Value} {gs b : List Int} (h : TasksAt w base v gs b) {k : Nat} {t : TypeId} {cs : Array Value} (hB : Blk w k t cs) (ht : 68 ≠ t) : ¬ v.ownBlock = some k := by
 obtain ⟨vals, h1, _⟩ := h
 exact own_ne_blk h1 hB ht
theorem TasksAt.ge {w : World} {base : Nat} {v : Value} {gs b : List Int} (h : TasksAt w base v gs b) : ∀ k, v.ownBlock = some k → base ≤ k := by
 obtain ⟨vals, h1, _⟩ := h
 exact own_ge h1
theorem IntRow.nth_ {w : World} {B b o : Nat} {xs : List Int} (h : IntRow w B (some ⟨b, o, none⟩) xs) {k : Nat} {x : Int} (hx : xs[k]? = some x) : w.cell? ⟨b, o + k, none⟩ = some (.int .i64 x) := by
 obtain ⟨b', o', e, _, hc⟩ := h k x hx
 cases e
 exact hc
theorem ref19_Orders {w : World} {lo gw g m base : Nat} {v : Value} {LP : List (List Int)} {gs ms : Nat} {SP : List (Int × Int)} {gD bD : Nat} {vD : Value} {L : List (List Int)} {gQ bQ : Nat} {vQ : Value} {SL : List (Int × Int)} (h : WSAt w lo gw g m base v LP gs ms SP gD bD vD L gQ bQ vQ SL) (hGL : GoodL L) (hL : L.length < 60000) (hL8 : ∀ t ∈ L, B8 t) (hpos : ∀ t ∈ L, 0 < t.length) (hSL : SL.length ≤ 1099511627776) {f : Int} (hf : 0 ≤ f ∧ f ≤ 3) {G kind txn : Int} {yes : Bool} {ff tt : ByteArray} {epoch shard target root : Int} (hok : OkSay ⟨kind, txn, yes, ff, tt, epoch, shard, target, root⟩)
  {bS : Nat} {SA : Option Addr} {sc : Nat} {ss : List Int} (hSh : IntRow w bS SA ss) (hbS : bS ≤ lo) (hsl : ss.length ≤ 1000) {FE : Nat → Prop} {LA : Option Addr} {lc : Nat} {l : List Ent} (hE : EntRow w FE LA l) (hFE : ∀ k, FE k → k < lo) (hll : l.length ≤ 60000) {O : Option OrdD} (hO : ordA L SL f G ⟨kind, txn, yes, ff, tt, epoch, shard, target, root⟩ ss l = O) :
  Calls Tryz.prog 16 #[.pointer (some ⟨gD, 0, none⟩), .pointer (some ⟨gQ, 0, none⟩), .int .i64 f, .agg #[.int .i64 G, .int .i64 kind, .int .i64 txn, .bool yes, .string ff, .string tt, .int .i64 epoch, .int .i64 shard, .int .i64 target, .int .i64 root], .slice SA ss.length sc, .slice LA l.length lc] w
   (ROrd w gD bD vD (ordL (sayL L ⟨kind, txn, yes, ff, tt, epoch, shard, target, root⟩) O) (ordG O) (ordBB (sayB ⟨kind, txn, yes, ff, tt, epoch, shard, target, root⟩) (certB G (sayI L ⟨kind, txn, yes, ff, tt, epoch, shard, target, root⟩) (ordX G (sayI L ⟨kind, txn, yes, ff, tt, epoch, shard, target, root⟩) f SL)) O)) := by
 have hlo : lo ≤ w.heap.size := Nat.le_trans h.lo_bD h.bD_le
 have hnD : ∀ k, k < lo → ¬ (k = gD ∨ vD.ownBlock = some k) := fun k hk e => by
  rcases e with e | e
  ·have := h.lo_D; omega
  ·obtain ⟨vals, h1, _⟩ := h.rb.row
   have := own_ge h1 k e
   have := h.lo_bD
   omega
 have HnD := Lib.hid hnD
 have HSh := Lib.hid hSh
 have HEn := Lib.hid hE
 have HFE := Lib.hid hFE
 have HL8 := Lib.hid hL8
 have HPOS := Lib.hid hpos
 have HGL := Lib.hid hGL
 have HOK := Lib.hid hok
 have HO := Lib.hid hO
 have hB0 := Blk.new w 25 #[.int .i64 G, .int .i64 kind, .int .i64 txn, .bool yes, .string ff, .string tt, .int .i64 epoch, .int .i64 shard, .int .i64 target, .int .i64 root]
 have hf0 : Fr (fun _ => False) w (w.alloc (Obj.cells #[.int .i64 G, .int .i64 kind, .int .i64 txn, .bool yes, .string ff, .string tt, .int .i64 epoch, .int .i64 shard, .int .i64 target, .int .i64 root] 25)) := (Fr.refl _ _).alloc _
 have HR := fun w => ref11_Right1 w kind txn yes ff tt epoch shard target root
 rw [decide_eq_true hok] at HR
 replace HR := Lib.hid HR
 have hLd : (sayL L ⟨kind, txn, yes, ff, tt, epoch, shard, target, root⟩) = digL L (sayB ⟨kind, txn, yes, ff, tt, epoch, shard, target, root⟩) := if_pos hok
 have hId : (sayI L ⟨kind, txn, yes, ff, tt, epoch, shard, target, root⟩) = (digI L (sayB ⟨kind, txn, yes, ff, tt, epoch, shard, target, root⟩) : Nat) := if_pos hok
 rw [hLd, hId]
 have HLD := Lib.hid hLd
 have HID := Lib.hid hId
 obtain ⟨D, hD⟩ : ∃ D : Int, ((digI L (sayB ⟨kind, txn, yes, ff, tt, epoch, shard, target, root⟩) : Nat) : Int) = D := ⟨_, rfl⟩
 obtain ⟨L1, hL1⟩ : ∃ L1, digL L (sayB ⟨kind, txn, yes, ff, tt, epoch, shard, target, root⟩) = L1 := ⟨_, rfl⟩
 have HDI := Lib.hid hD
 have HL1 := Lib.hid hL1
 have hDb : 0 ≤ D ∧ D ≤ 60000 := by
  have : digI L (sayB ⟨kind, txn, yes, ff, tt, epoch, shard, target, root⟩) ≤ L.length := by
   unfold digI
   split
   ·exact List.idxOf_le_length
   ·exact Nat.le_refl _
  omega
 have HDB := Lib.hid hDb
 have HG1 : Hid (GoodL L1) := by show GoodL L1; rw [← hL1]; rw [hLd.symm]; exact hGL.say _
 have HN1 : Hid (L1.length ≤ 60000) := by
  have := sayL_len L ⟨kind, txn, yes, ff, tt, epoch, shard, target, root⟩
  show _ ≤ _
  rw [← hL1, ← hLd]
  omega
 have HDG := Lib.hid (fun w' (hf : Fr (fun _ => False) w w') => ref11_DigestR (h.rb.keep hf) hL8 (Nat.le_trans h.bD_le hf.size) (by omega) hok)
 have HDG : Hid (∀ w' (hf : Fr (fun _ => False) w w'), Calls Tryz.prog 46 #[.pointer (some ⟨gD, 0, none⟩), .agg #[.int .i64 kind, .int .i64 txn, .bool yes, .string ff, .string tt, .int .i64 epoch, .int .i64 shard, .int .i64 target, .int .i64 root]] w' (fun e w'' => ∃ v', e = .returned (.tuple #[.int .i64 D, .int .i64 0]) ∧ RBookAt w'' gD bD v' L1 ∧ Fr (fun k => k = gD ∨ vD.ownBlock = some k) w' w'' ∧ ∀ k, v'.ownBlock = some k → vD.ownBlock = some k ∨ w'.heap.size ≤ k)) := by
  rw [← hD, ← hL1]; exact HDG.out
 rw [hD, hL1]
 obtain ⟨hkd, hshd, htg⟩ := okSay_parts hok
 obtain ⟨hf0', hf3'⟩ := hf
 have hd1 : ¬ f < 0 := by omega
 have hd2 : ¬ 3 < f := by omega
 clear hok hO hLd hId hD hL1 hDb hSh hE hFE hL8 hpos hGL hnD
 go_enter Tryz.func16, Tryz.ntmps16
 go_upto_region 1 with fail
 generalize w.alloc (Obj.cells #[.int .i64 G, .int .i64 kind, .int .i64 txn, .bool yes, .string ff, .string tt, .int .i64 epoch, .int .i64 shard, .int .i64 target, .int .i64 root] 25) = w0 at *
 have k1 := hB0.cell 1
 have k2 := hB0.cell 2
 have k3 := hB0.cell 3
 have k4 := hB0.cell 4
 have k5 := hB0.cell 5
 have k6 := hB0.cell 6
 have k7 := hB0.cell 7
 have k8 := hB0.cell 8
 have k9 := hB0.cell 9
 go_upto_region 2 with (refine wpList_store_new rfl 23 (.tmp 13) (.tmp 30) rfl _ _ rfl rfl (by kernel_rfl) rfl (by simp [Value.oneCell']) ?_)
 have hBs := Blk.new w0 23 #[.int .i64 kind, .int .i64 txn, .bool yes, .string ff, .string tt, .int .i64 epoch, .int .i64 shard, .int .i64 target, .int .i64 root]
 have hB1 := hB0.alloc (Obj.cells #[.int .i64 kind, .int .i64 txn, .bool yes, .string ff, .string tt, .int .i64 epoch, .int .i64 shard, .int .i64 target, .int .i64 root] 23)
 have hf1 := hf0.alloc (Obj.cells #[.int .i64 kind, .int .i64 txn, .bool yes, .string ff, .string tt, .int .i64 epoch, .int .i64 shard, .int .i64 target, .int .i64 root] 23)
 generalize w0.alloc (Obj.cells #[.int .i64 kind, .int .i64 txn, .bool yes, .string ff, .string tt, .int .i64 epoch, .int .i64 shard, .int .i64 target, .int .i64 root] 23) = w1 at *
 obtain ⟨gS, hgS⟩ : ∃ x, Hid (w0.heap.size = x) := ⟨_, rfl⟩
 obtain ⟨gH, hgH⟩ : ∃ x, Hid (w.heap.size = x) := ⟨_, rfl⟩
 have hgHS : gH < gS := by rw [← hgS.out, ← hgH.out]; exact hB0.lt
 have hgHl : w.heap.size ≤ gH := Nat.le_of_eq hgH.out
 rw [hgS.out] at hBs ⊢
 rw [hgH.out] at hB1 ⊢
 clear k1 k2 k3 k4 k5 k6 k7 k8 k9 hB0 hf0
 have y0 := hBs.cell 0
 have y1 := hBs.cell 1
 have y2 := hBs.cell 2
 have y3 := hBs.cell 3
 have y4 := hBs.cell 4
 have y5 := hBs.cell 5
 have y6 := hBs.cell 6
 have y7 := hBs.cell 7
 have y8 := hBs.cell 8
 go_upto_region 4 with (go_at_call 29; refine (HR.out _).mono ?_; rintro e w2 ⟨rfl, hf2⟩)
 have hf02 := hf1.then_ hf2
 have hB2 := hB1.fr hf2 id
 have hBs2 := hBs.fr hf2 id
 clear y0 y1 y2 y3 y4 y5 y6 y7 y8 hf1 hf2 hB1 hBs HR
 go_upto_region 7 with (first
  | (refine wpList_load_row rfl 23 _ rfl _ rfl _ _ (0, 0) _ hBs2 Tryz.underlying23 rfl (by kernel_rfl) ?_)
  | (go_at_call 46; refine (HDG.out _ hf02).mono ?_; rintro e w3 ⟨v3, rfl, hb3, hf3, hk3⟩))
 obtain ⟨h3, hst3⟩ := (h.keep hf02).stepD hb3 hf3
 have hB3 := hst3.blk _ _ _ hB2 (by decide)
 have hBs3 := hst3.blk _ _ _ hBs2 (by decide)
 have hf03 : Fr (fun k => k = gD ∨ vD.ownBlock = some k) w w3 := (hf02.mono (fun _ _ h => h.elim)).trans hf3 (fun _ _ h => h)
 have HK3 : Hid (∀ k, v3.ownBlock = some k → vD.ownBlock = some k ∨ w.heap.size ≤ k) := fun k hk => (hk3 k hk).imp_right (Nat.le_trans hf02.size)
 clear hf02 hB2 hBs2 hf3 hk3 hst3 HDG hb3 h
 have hw2 : wrap64 (2 * f) = 2 * f := by unfold wrap64; omega
 have hw21 : wrap64 (2 * f + 1) = 2 * f + 1 := by unfold wrap64; omega
 have HM := ref05_Make h3.rq hSL G D (2 * f + 1)
 unfold RefMade at HM
 have k0 := hB3.cell 0
 by_cases hfew : ((whoInts G D SL).length : Int) < 2 * f + 1
 ·have hM : Calls Tryz.prog 47 #[.pointer (some ⟨gQ, 0, none⟩), .int .i64 G, .int .i64 D, .int .i64 (2 * f + 1)] w3 (fun e w' => Fr (fun _ => False) w3 w' ∧ ∃ n : Int, e = .returned (.tuple #[.agg #[.int .i64 0, .int .i64 0, .slice none 0 0], .int .i64 51, .agg #[.string (⟨#[109, 97, 107, 101]⟩ : ByteArray), .int .i64 n]])) := by
   refine HM.mono ?_
   rintro e w' ⟨h1, ⟨_, h2⟩ | ⟨h2, _⟩⟩
   ·exact ⟨h1, _, h2⟩
   ·exact absurd (.inr hfew) h2
  replace hM := Lib.hid hM
  obtain rfl : O = none := by
   have h1 := HO.out
   unfold ordA at h1
   rw [if_neg (fun h2 => h2.2 (by rw [HID.out, HDI.out]; exact hfew))] at h1
   exact h1.symm
  clear HM hfew
  go_upto_region 8 with (first
   | (go_at_call 47; refine hM.out.mono ?_; rintro e w4 ⟨hf4, n, rfl⟩)
   | (refine wpList_store_row rfl 41 (.tmp 16) (.tmp 59) rfl w4.heap.size #[.int .i64 0, .int .i64 0, .slice none 0 0] rfl rfl 41 _ ((Blk.new w4 _ _).alloc _) (by kernel_rfl) rfl (by simp [Value.oneCell']) ?_)
   | (refine wpList_store_row rfl 70 (.tmp 17) (.tmp 61) rfl (w4.heap.size + 1) #[.string (⟨#[109, 97, 107, 101]⟩ : ByteArray), .int .i64 n] rfl rfl 70 _ ((Blk.new_ (w4.alloc (Obj.cells #[.int .i64 0, .int .i64 0, .slice none 0 0] 41)) 70 #[.string ⟨#[]⟩, .int .i64 0] (by simp)).fr (Fr.setRow_ (g := w4.heap.size) (ds := #[.int .i64 0, .int .i64 0, .slice none 0 0])) (fun e => by omega)) (by kernel_rfl) rfl (by simp [Value.oneCell']) ?_))
  have hf35 : Fr (fun _ => False) w3 ((((w4.alloc (Obj.cells #[.int .i64 0, .int .i64 0, .slice none 0 0] 41)).alloc (Obj.cells #[.string ⟨#[]⟩, .int .i64 0] 70)).setRow w4.heap.size #[.int .i64 0, .int .i64 0, .slice none 0 0]).setRow (w4.heap.size + 1) #[.string (⟨#[109, 97, 107, 101]⟩ : ByteArray), .int .i64 n]) := (((hf4.alloc _).alloc _).trans (Fr.setRow_ (g := w4.heap.size)) (fun k hk e => by have := hf4.size; omega)).trans (Fr.setRow_ (g := w4.heap.size + 1)) (fun k hk e => by have := hf4.size; omega)
  generalize (((w4.alloc (Obj.cells #[.int .i64 0, .int .i64 0, .slice none 0 0] 41)).alloc (Obj.cells #[.string ⟨#[]⟩, .int .i64 0] 70)).setRow w4.heap.size #[.int .i64 0, .int .i64 0, .slice none 0 0]).setRow (w4.heap.size + 1) #[.string (⟨#[109, 97, 107, 101]⟩ : ByteArray), .int .i64 n] = w5 at *
  go_wp2_with fail
  go_ret
  exact ROrd.end_ (TasksAt.nil _ _ _) h3.rb hf03 HK3.out hf35
 ·obtain ⟨xs, hxs⟩ : ∃ xs, (whoInts G D SL).take ((2 * f + 1).toNat) = xs := ⟨_, rfl⟩
  have hxs' : ordX G D f SL = xs := hxs
  have hM : Calls Tryz.prog 47 #[.pointer (some ⟨gQ, 0, none⟩), .int .i64 G, .int .i64 D, .int .i64 (2 * f + 1)] w3 (fun e w' => Fr (fun _ => False) w3 w' ∧ ∃ CA cc, e = .returned (.tuple #[.agg #[.int .i64 G, .int .i64 D, .slice CA xs.length cc], .int .i64 0, .agg #[.string ⟨#[]⟩, .int .i64 0]]) ∧ IntF w' (fun k => w3.heap.size ≤ k ∧ k < w'.heap.size) CA xs) := by
   refine HM.mono ?_
   rintro e w' ⟨h1, ⟨h2, _⟩ | ⟨_, A, cap, h2, h3⟩⟩
   ·exact absurd h2 (by omega)
   ·rw [hxs] at h2 h3
    exact ⟨h1, A, cap, h2, h3⟩
  replace hM := Lib.hid hM
  have HO1 : Hid (ordF L1 G ⟨kind, txn, yes, ff, tt, epoch, shard, target, root⟩ ss l = O) := by
   have h1 := HO.out
   unfold ordA at h1
   rw [if_pos ⟨HOK.out, by rw [HID.out, HDI.out]; exact hfew⟩, HLD.out, HL1.out] at h1
   exact h1
  have HSM : Hid (∀ o, O = some o → OrdOk o) := fun o ho => (ordA_some hL ⟨hf0', hf3'⟩ (HO.out.trans ho)).oo
  have hGr := get_who_f (G := G) (D := D) (SL := SL) ⟨hf0', hf3'⟩ hfew (by have := HDB.out; omega)
  have HXS := Lib.hid hxs'
  rw [hxs'] at hGr
  have HXL : Hid (xs.length ≤ 1024) := hGr.2.1
  have HG0 : Hid (0 ≤ G ∧ G ≤ 2147483647) := by have := hGr.1; show _ ∧ _; omega
  have HXE : Hid (∀ y ∈ xs, 0 ≤ y ∧ y ≤ 2147483647) := fun y hy => by
   rw [← hxs] at hy
   have := (member_ge (who_mem (List.mem_of_mem_take hy)).2).2
   omega
  clear HM hfew hGr hxs hxs' HO
  obtain ⟨t1, ht1⟩ : ∃ t, Hid (sayB ⟨kind, txn, yes, ff, tt, epoch, shard, target, root⟩ = t) := ⟨_, rfl⟩
  go_upto_region 8 with (first
   | (go_at_call 47; refine hM.out.mono ?_; rintro e w4 ⟨hf4, CA, cc, rfl, hI4⟩)
   | (refine wpList_store_row rfl 41 (.tmp 16) (.tmp 59) rfl w4.heap.size #[.int .i64 G, .int .i64 D, .slice CA xs.length cc] rfl rfl 41 _ ((Blk.new w4 _ _).alloc _) (by kernel_rfl) rfl (by simp [Value.oneCell']) ?_)
   | (refine wpList_store_row rfl 70 (.tmp 17) (.tmp 61) rfl (w4.heap.size + 1) #[.string ⟨#[]⟩, .int .i64 0] rfl rfl 70 _ ((Blk.new_ (w4.alloc (Obj.cells #[.int .i64 0, .int .i64 0, .slice none 0 0] 41)) 70 #[.string ⟨#[]⟩, .int .i64 0] (by simp)).fr (Fr.setRow_ (g := w4.heap.size) (ds := #[.int .i64 G, .int .i64 D, .slice CA xs.length cc])) (fun e => by omega)) (by kernel_rfl) rfl (by simp [Value.oneCell']) ?_))
  have hf45 : Fr (fun _ => False) w4 ((((w4.alloc (Obj.cells #[.int .i64 0, .int .i64 0, .slice none 0 0] 41)).alloc (Obj.cells #[.string ⟨#[]⟩, .int .i64 0] 70)).setRow w4.heap.size #[.int .i64 G, .int .i64 D, .slice CA xs.length cc]).setRow (w4.heap.size + 1) #[.string ⟨#[]⟩, .int .i64 0]) := ((((Fr.refl _ w4).alloc _).alloc _).trans (Fr.setRow_ (g := w4.heap.size)) (fun k hk e => by omega)).trans (Fr.setRow_ (g := w4.heap.size + 1)) (fun k hk e => by omega)
  have hBc := (Blk.setRow_ (ds := #[.int .i64 G, .int .i64 D, .slice CA xs.length cc]) ((Blk.new w4 41 #[.int .i64 0, .int .i64 0, .slice none 0 0]).alloc (Obj.cells #[.string ⟨#[]⟩, .int .i64 0] 70))).fr (Fr.setRow_ (g := w4.heap.size + 1) (ds := #[.string ⟨#[]⟩, .int .i64 0])) (fun e => by omega)
  generalize (((w4.alloc (Obj.cells #[.int .i64 0, .int .i64 0, .slice none 0 0] 41)).alloc (Obj.cells #[.string ⟨#[]⟩, .int .i64 0] 70)).setRow w4.heap.size #[.int .i64 G, .int .i64 D, .slice CA xs.length cc]).setRow (w4.heap.size + 1) #[.string ⟨#[]⟩, .int .i64 0] = w5 at *
  obtain ⟨gC, hgC⟩ : ∃ x, Hid (w4.heap.size = x) := ⟨_, rfl⟩
  rw [hgC.out] at hBc ⊢
  have hf35 := hf4.then_ hf45
  have HI5 : Hid (IntF w5 (fun k => w3.heap.size ≤ k ∧ k < w5.heap.size) CA xs) := (hI4.fr hf45 (fun _ _ => id)).mono_ (fun k hk => ⟨hk.1, Nat.lt_of_lt_of_le hk.2 hf45.size⟩)
  have hB5 := hB3.fr hf35 id
  have hBs5 := hBs3.fr hf35 id
  clear hf4 hf45 hI4 hM k0 hB3 hBs3
  go_upto_region 11 with (first
   | (refine wpList_load_row rfl 23 _ rfl _ rfl _ _ (0, 0) _ hBs5 Tryz.underlying23 rfl (by kernel_rfl) ?_)
   | (refine wpList_load_row rfl 41 _ rfl _ rfl _ _ (0, 0) _ hBc Tryz.underlying41 rfl (by kernel_rfl) ?_)
   | (refine wpList_store_new rfl 62 (.tmp 18) (.tmp 66) rfl _ _ rfl rfl (by kernel_rfl) rfl (by simp [Value.oneCell']) ?_))
  have hX6 := Blk.new w5 62 #[.int .i64 0, .int .i64 0, .int .i64 0, .slice none 0 0, .slice none 0 0, .int .i64 kind, .int .i64 txn, .bool yes, .string ff, .string tt, .int .i64 epoch, .int .i64 shard, .int .i64 target, .int .i64 root, .int .i64 G, .int .i64 D, .slice CA xs.length cc, .int .i64 0, .int .i64 0, .slice none 0 0, .slice none 0 0]
  have hf6 := (Fr.refl (fun _ => False) w5).alloc (Obj.cells #[.int .i64 0, .int .i64 0, .int .i64 0, .slice none 0 0, .slice none 0 0, .int .i64 kind, .int .i64 txn, .bool yes, .string ff, .string tt, .int .i64 epoch, .int .i64 shard, .int .i64 target, .int .i64 root, .int .i64 G, .int .i64 D, .slice CA xs.length cc, .int .i64 0, .int .i64 0, .slice none 0 0, .slice none 0 0] 62)
  generalize w5.alloc (Obj.cells #[.int .i64 0, .int .i64 0, .int .i64 0, .slice none 0 0, .slice none 0 0, .int .i64 kind, .int .i64 txn, .bool yes, .string ff, .string tt, .int .i64 epoch, .int .i64 shard, .int .i64 target, .int .i64 root, .int .i64 G, .int .i64 D, .slice CA xs.length cc, .int .i64 0, .int .i64 0, .slice none 0 0, .slice none 0 0] 62) = w6 at *
  obtain ⟨gO, hgO⟩ : ∃ x, Hid (w5.heap.size = x) := ⟨_, rfl⟩
  have hB6 := hB5.fr hf6 id
  have hBs6 := hBs5.fr hf6 id
  have hf36 := hf35.then_ hf6
  have hsO : w3.heap.size ≤ gO := by rw [← hgO.out]; exact hf35.size
  have hSO : gS < gO := by rw [← hgO.out]; exact hBs5.lt
  have HI6 := Lib.hid (HI5.out.fr hf6 (fun _ _ => id))
  rw [hgO.out] at hX6 HI6 ⊢
  clear hf6 hB5 hBs5 hBc hf35 HI5
  have k0 := hB6.cell 0
  have y0 := hBs6.cell 0
  have x0 := hX6.cell 0
  have z0 := hX6.frozen 0
  have hw1 : wrap64 (shard + 1) = shard + 1 := by unfold wrap64; omega
  have hw3 : wrap64 (target + 1) = target + 1 := by unfold wrap64; omega
  have hz3 : w.heap.size ≤ w3.heap.size := hf03.size
  have hO1 := HO1.out
  clear HO1
  unfold ordF at hO1
  by_cases hG : G = 0
  ·rw [if_pos hG] at hO1
   have hGb : (G == 0) = true := beq_iff_eq.2 hG
   have HG := Lib.hid hG
   clear hG
   by_cases hk4 : kind = 4
   ·rw [if_pos (by exact hk4)] at hO1
    have HK4 := Lib.hid hk4
    have hk4' : (kind == 4) = true := beq_iff_eq.2 hk4
    have hk1' : (kind == 1) = false := beq_eq_false_iff_ne.2 (by omega)
    have hk3' : (kind == 3) = false := beq_eq_false_iff_ne.2 (by omega)
    clear hk4
    subst hO1
    go_upto_region 33 with fail
    have hfs : Fr (fun k => k = gO) w6 (w6.setCell ⟨gO, 0, none⟩ (.int .i64 3)) := (Fr.refl (fun k => k = gO) w6).setCell (p := ⟨gO, 0, none⟩) (fun _ => rfl) _
    have hX7 : Blk (w6.setCell ⟨gO, 0, none⟩ (.int .i64 3)) gO 62 #[.int .i64 3, .int .i64 0, .int .i64 0, .slice none 0 0, .slice none 0 0, .int .i64 kind, .int .i64 txn, .bool yes, .string ff, .string tt, .int .i64 epoch, .int .i64 shard, .int .i64 target, .int .i64 root, .int .i64 G, .int .i64 D, .slice CA xs.length cc, .int .i64 0, .int .i64 0, .slice none 0 0, .slice none 0 0] := hX6.set_ 0 _
    have hBs7 := hBs6.fr hfs (fun e => by omega)
    have hf37 := hf36.trans hfs (fun k hk e => by omega)
    have HI7 := Lib.hid (HI6.out.fr hfs (fun k hk e => by omega))
    clear hX6 hBs6 hf36 HI6 x0 z0 y0 k0 hfs
    generalize w6.setCell ⟨gO, 0, none⟩ (.int .i64 3) = w7 at *
    have HTK : Hid (∀ w' (hf : Fr (fun _ => False) w7 w') (grp : Int), Calls Tryz.prog 50 #[.int .i64 grp, .agg #[.int .i64 3, .int .i64 0, .int .i64 0, .slice none 0 0, .slice none 0 0, .int .i64 kind, .int .i64 txn, .bool yes, .string ff, .string tt, .int .i64 epoch, .int .i64 shard, .int .i64 target, .int .i64 root, .int .i64 G, .int .i64 D, .slice CA xs.length cc, .int .i64 0, .int .i64 0, .slice none 0 0, .slice none 0 0]] w' (TasksP w' [grp] (ordBB (sayB ⟨kind, txn, yes, ff, tt, epoch, shard, target, root⟩) (certB G D xs) (some ⟨[shard + 1], 3, [], [], []⟩)))) := fun w' hf grp => sem_task0 (o := ⟨[shard + 1], 3, [], [], []⟩) (HSM.out _ rfl) HOK.out (CA := CA) (cc := cc) (EA := none) (VA := none) (ce := 0) (cv := 0) HG0.out ⟨by have := HDB.out; omega, by have := HDB.out; omega⟩ HXL.out HXE.out (HI7.out.fr hf (fun _ _ => id)) (fun k x h => by simp at h) (fun k x h => by simp at h) grp (by show ¬ (3 : Int) = 1; decide)
    have hLL : ordL L1 (some ⟨[shard + 1], 3, [], [], []⟩) = L1 := by show (if (3 : Int) = 4 then bookOf L1 [] else L1) = L1; exact if_neg (by decide)
    obtain ⟨bb, hbb⟩ : ∃ b, Hid (ordBB (sayB ⟨kind, txn, yes, ff, tt, epoch, shard, target, root⟩) (certB G D xs) (some ⟨[shard + 1], 3, [], [], []⟩) = b) := ⟨_, rfl⟩
    rw [hbb.out] at HTK
    replace hLL := Lib.hid hLL
    have y6 := hBs7.cell 6
    go_wp2_with (first
     | (refine wpList_load_row rfl 62 _ rfl _ rfl _ _ (0, 0) _ hX7 Tryz.underlying62 rfl (by kernel_rfl) ?_)
     | (go_at_call 50; refine (HTK.out _ (Fr.refl _ _) _).mono ?_; rintro e w8 ⟨tv, rfl, hT8, hf8⟩))
    go_ret
    rw [HXS.out, hbb.out, hLL.out]
    exact ROrd.end_ (hT8.base_ (by have := hf37.size; omega)) h3.rb hf03 HK3.out (hf37.then_ hf8)
   rw [if_neg (by exact hk4)] at hO1
   have hk4' : (kind == 4) = false := beq_eq_false_iff_ne.2 hk4
   by_cases hk7 : kind = 7
   ·rw [if_pos (by exact hk7)] at hO1
    have hk7' : (kind == 7) = true := beq_iff_eq.2 hk7
    have hk1' : (kind == 1) = false := beq_eq_false_iff_ne.2 (by omega)
    have hk3' : (kind == 3) = false := beq_eq_false_iff_ne.2 (by omega)
    clear hk4 hk7
    subst hO1
    go_upto_region 36 with fail
    have hfs : Fr (fun k => k = gO) w6 (w6.setCell ⟨gO, 0, none⟩ (.int .i64 5)) := (Fr.refl (fun k => k = gO) w6).setCell (p := ⟨gO, 0, none⟩) (fun _ => rfl) _
    have hX7 : Blk (w6.setCell ⟨gO, 0, none⟩ (.int .i64 5)) gO 62 #[.int .i64 5, .int .i64 0, .int .i64 0, .slice none 0 0, .slice none 0 0, .int .i64 kind, .int .i64 txn, .bool yes, .string ff, .string tt, .int .i64 epoch, .int .i64 shard, .int .i64 target, .int .i64 root, .int .i64 G, .int .i64 D, .slice CA xs.length cc, .int .i64 0, .int .i64 0, .slice none 0 0, .slice none 0 0] := hX6.set_ 0 _
    have hBs7 := hBs6.fr hfs (fun e => by omega)
    have hf37 := hf36.trans hfs (fun k hk e => by omega)
    have HI7 := Lib.hid (HI6.out.fr hfs (fun k hk e => by omega))
    clear hX6 hBs6 hf36 HI6 x0 z0 y0 k0 hfs
    generalize w6.setCell ⟨gO, 0, none⟩ (.int .i64 5) = w7 at *
    have HTK : Hid (∀ w' (hf : Fr (fun _ => False) w7 w') (grp : Int), Calls Tryz.prog 50 #[.int .i64 grp, .agg #[.int .i64 5, .int .i64 0, .int .i64 0, .slice none 0 0, .slice none 0 0, .int .i64 kind, .int .i64 txn, .bool yes, .string ff, .string tt, .int .i64 epoch, .int .i64 shard, .int .i64 target, .int .i64 root, .int .i64 G, .int .i64 D, .slice CA xs.length cc, .int .i64 0, .int .i64 0, .slice none 0 0, .slice none 0 0]] w' (TasksP w' [grp] (ordBB (sayB ⟨kind, txn, yes, ff, tt, epoch, shard, target, root⟩) (certB G D xs) (some ⟨[shard + 1, target + 1], 5, [], [], []⟩)))) := fun w' hf grp => sem_task0 (o := ⟨[shard + 1, target + 1], 5, [], [], []⟩) (HSM.out _ rfl) HOK.out (CA := CA) (cc := cc) (EA := none) (VA := none) (ce := 0) (cv := 0) HG0.out ⟨by have := HDB.out; omega, by have := HDB.out; omega⟩ HXL.out HXE.out (HI7.out.fr hf (fun _ _ => id)) (fun k x h => by simp at h) (fun k x h => by simp at h) grp (by show ¬ (5 : Int) = 1; decide)
    have hLL : ordL L1 (some ⟨[shard + 1, target + 1], 5, [], [], []⟩) = L1 := by show (if (5 : Int) = 4 then bookOf L1 [] else L1) = L1; exact if_neg (by decide)
    obtain ⟨bb, hbb⟩ : ∃ b, Hid (ordBB (sayB ⟨kind, txn, yes, ff, tt, epoch, shard, target, root⟩) (certB G D xs) (some ⟨[shard + 1, target + 1], 5, [], [], []⟩) = b) := ⟨_, rfl⟩
    rw [hbb.out] at HTK
    replace hLL := Lib.hid hLL
    have hwr1 : IntKind.i64.wrap (shard + 1) = shard + 1 := by rw [IntKind.wrap_i64]; omega
    have hwr2 : IntKind.i64.wrap (target + 1) = target + 1 := by rw [IntKind.wrap_i64]; omega
    have hBs7d := hBs7.drew
    have hX7d := hX7.drew
    have hf7d := (Fr.refl (fun _ => False) w7).drew
    refine wp_region_noPanic ?_
    refine wp_region_held_drew (S := (fun w' => w'.cell? ⟨gS, 6, none⟩ = some (.int .i64 shard) ∧ w'.cell? ⟨gS, 7, none⟩ = some (.int .i64 target) ∧ w'.heap[gO]? = some (.cells #[.int .i64 5, .int .i64 0, .int .i64 0, .slice none 0 0, .slice none 0 0, .int .i64 kind, .int .i64 txn, .bool yes, .string ff, .string tt, .int .i64 epoch, .int .i64 shard, .int .i64 target, .int .i64 root, .int .i64 G, .int .i64 D, .slice CA xs.length cc, .int .i64 0, .int .i64 0, .slice none 0 0, .slice none 0 0] 62 (0, 0)))) (by kernel_rfl) (⟨hBs7d.cell 6, hBs7d.cell 7, hX7d⟩) (fun hHeld => ?_)
    generalize w7.drew = w7d at *
    refine tk 0 129 ?_
    refine tk 1 130 ?_
    refine tk 2 131 ?_
    refine wpAnyH_takeAt (i := 3) (v := .agg #[.int .i64 5, .int .i64 0, .int .i64 0, .slice none 0 0, .slice none 0 0, .int .i64 kind, .int .i64 txn, .bool yes, .string ff, .string tt, .int .i64 epoch, .int .i64 shard, .int .i64 target, .int .i64 root, .int .i64 G, .int .i64 D, .slice CA xs.length cc, .int .i64 0, .int .i64 0, .slice none 0 0, .slice none 0 0]) (some 132) rfl rfl (by kernel_rfl) (by kernel_rfl) (by kernel_rfl) (fun _ _ _ h => h) (yields_row 62 _ rfl (by rfl) (by rfl) Tryz.underlying62 rfl (by kernel_rfl) (fun w hs => hs.2.2)) (by assumption) ?_
    simp only [Act.put, List.setIfInBounds_toArray, List.set_cons_zero, List.set_cons_succ]
    refine tk 5 134 ?_
    refine tk 6 135 ?_
    refine tk 7 136 ?_
    refine wpAnyH_takeAt (i := 8) (v := .agg #[.int .i64 5, .int .i64 0, .int .i64 0, .slice none 0 0, .slice none 0 0, .int .i64 kind, .int .i64 txn, .bool yes, .string ff, .string tt, .int .i64 epoch, .int .i64 shard, .int .i64 target, .int .i64 root, .int .i64 G, .int .i64 D, .slice CA xs.length cc, .int .i64 0, .int .i64 0, .slice none 0 0, .slice none 0 0]) (some 137) rfl rfl (by kernel_rfl) (by kernel_rfl) (by kernel_rfl) (fun _ _ _ h => h) (yields_row 62 _ rfl (by rfl) (by rfl) Tryz.underlying62 rfl (by kernel_rfl) (fun w hs => hs.2.2)) (by assumption) ?_
    simp only [Act.put, List.setIfInBounds_toArray, List.set_cons_zero, List.set_cons_succ]
    refine rd 4 (fun K hK => ?_)
    go_simp
    go_at_call 50
    refine (HTK.out _ hf7d _).mono ?_
    rintro e w8 ⟨tv8, rfl, hT8, hf8⟩
    have hBs8 := hBs7d.fr hf8 id
    have hX8 := hX7d.fr hf8 id
    have hf78 := hf7d.then_ hf8
    try go_wp2_with fail
    refine hK.out _ _ (⟨hBs8.cell 6, hBs8.cell 7, hX8⟩) (fun hHeld => ?_)
    clear hK K
    refine rd 9 (fun K hK => ?_)
    go_simp
    go_at_call 50
    refine (HTK.out _ hf78 _).mono ?_
    rintro e w9 ⟨tv9, rfl, hT9, hf9⟩
    have hBs9 := hBs8.fr hf9 id
    have hX9 := hX8.fr hf9 id
    have hf79 := hf78.then_ hf9
    have hT89 := hT8.fr hf9 (fun _ _ => id) (fun _ _ => id)
    have hz7 := hf7d.size
    have hz9 := hf79.size
    try go_wp2_with fail
    refine hK.out _ _ (⟨hBs9.cell 6, hBs9.cell 7, hX9⟩) (fun hHeld => ?_)
    clear hK K
    refine rd 10 (fun K hK => ?_)
    refine step_append_task rfl (.tmp 133) (.tmp 138) rfl (by rfl) (by rfl) hT89 hT9 (by simp; try omega) (by have := (hf8.then_ hf9).size; omega) ?_
    intro tv10 w10 hT10 hf10
    have hBs10 := hBs9.fr hf10 (hT89.ne_blk hBs9 (by decide))
    have hX10 := hX9.fr hf10 (hT89.ne_blk hX9 (by decide))
    have hf710 : Fr (fun _ => False) w7 w10 := hf79.trans hf10 (fun k hk e => by have := hT89.ge k e; omega)
    refine hK.out _ _ (⟨hBs10.cell 6, hBs10.cell 7, hX10⟩) (fun hHeld => ?_)
    clear hK K
    simp only [List.getElem_toArray, List.getElem_cons_succ, List.getElem_cons_zero]
    simp only [Act.put, List.setIfInBounds_toArray, List.set_cons_zero, List.set_cons_succ]
    refine tk 11 12 ?_
    refine wpAnyH_done (by kernel_rfl) ?_ _
    refine NoPanic.normal ?_
    go_wp2
    go_ret
    rw [HXS.out, hbb.out, hLL.out]
    exact ROrd.end_ (hT10.base_ (by have := hf37.size; have := hf7d.size; omega)) h3.rb hf03 HK3.out (hf37.then_ hf710)
   rw [if_neg (by exact hk7)] at hO1
   have hk7' : (kind == 7) = false := beq_eq_false_iff_ne.2 hk7
   by_cases hk3 : kind = 3
   ·rw [if_pos (by exact hk3)] at hO1
    have hk3' : (kind == 3) = true := beq_iff_eq.2 hk3
    have hk1' : (kind == 1) = false := beq_eq_false_iff_ne.2 (by omega)
    clear hk4 hk7 hk3
    subst hO1
    go_upto_region 27 with fail
    have hfs : Fr (fun k => k = gO) w6 (w6.setCell ⟨gO, 0, none⟩ (.int .i64 2)) := (Fr.refl (fun k => k = gO) w6).setCell (p := ⟨gO, 0, none⟩) (fun _ => rfl) _
    have hX7 : Blk (w6.setCell ⟨gO, 0, none⟩ (.int .i64 2)) gO 62 #[.int .i64 2, .int .i64 0, .int .i64 0, .slice none 0 0, .slice none 0 0, .int .i64 kind, .int .i64 txn, .bool yes, .string ff, .string tt, .int .i64 epoch, .int .i64 shard, .int .i64 target, .int .i64 root, .int .i64 G, .int .i64 D, .slice CA xs.length cc, .int .i64 0, .int .i64 0, .slice none 0 0, .slice none 0 0] := hX6.set_ 0 _
    have hBs7 := hBs6.fr hfs (fun e => by omega)
    have hf37 := hf36.trans hfs (fun k hk e => by omega)
    have HI7 := Lib.hid (HI6.out.fr hfs (fun k hk e => by omega))
    clear hX6 hBs6 hf36 HI6 x0 z0 y0 k0 hfs
    generalize w6.setCell ⟨gO, 0, none⟩ (.int .i64 2) = w7 at *
    have HTK : Hid (∀ w' (hf : Fr (fun _ => False) w7 w') (grp : Int), Calls Tryz.prog 50 #[.int .i64 grp, .agg #[.int .i64 2, .int .i64 0, .int .i64 0, .slice none 0 0, .slice none 0 0, .int .i64 kind, .int .i64 txn, .bool yes, .string ff, .string tt, .int .i64 epoch, .int .i64 shard, .int .i64 target, .int .i64 root, .int .i64 G, .int .i64 D, .slice CA xs.length cc, .int .i64 0, .int .i64 0, .slice none 0 0, .slice none 0 0]] w' (TasksP w' [grp] (ordBB (sayB ⟨kind, txn, yes, ff, tt, epoch, shard, target, root⟩) (certB G D xs) (some ⟨ss.map fun x => wrap64 (x + 1), 2, [], [], []⟩)))) := fun w' hf grp => sem_task0 (o := ⟨ss.map fun x => wrap64 (x + 1), 2, [], [], []⟩) (HSM.out _ rfl) HOK.out (CA := CA) (cc := cc) (EA := none) (VA := none) (ce := 0) (cv := 0) HG0.out ⟨by have := HDB.out; omega, by have := HDB.out; omega⟩ HXL.out HXE.out (HI7.out.fr hf (fun _ _ => id)) (fun k x h => by simp at h) (fun k x h => by simp at h) grp (by show ¬ (2 : Int) = 1; decide)
    have hLL : ordL L1 (some ⟨ss.map fun x => wrap64 (x + 1), 2, [], [], []⟩) = L1 := by show (if (2 : Int) = 4 then bookOf L1 [] else L1) = L1; exact if_neg (by decide)
    obtain ⟨bb, hbb⟩ : ∃ b, Hid (ordBB (sayB ⟨kind, txn, yes, ff, tt, epoch, shard, target, root⟩) (certB G D xs) (some ⟨ss.map fun x => wrap64 (x + 1), 2, [], [], []⟩) = b) := ⟨_, rfl⟩
    rw [hbb.out] at HTK
    replace hLL := Lib.hid hLL
    have HSh7 : Hid (IntRow w7 bS SA ss) := (HSh.out.fr hf03 (fun b hb => HnD.out b (by omega))).fr hf37 (fun _ _ => id)
    have hz37 := hf37.size
    go_loopw [23, 24] (fun lv ix wr => ∃ k : Nat, k ≤ ss.length ∧ ix = .int .i64 k ∧ TasksAt wr w7.heap.size lv ((ss.take k).map fun x => wrap64 (x + 1)) bb ∧ Fr (fun _ => False) w7 wr) (fun _ ix _ => ss.length - (intOf ix).toNat)
    case atStart => exact ⟨0, by omega, rfl, TasksAt.nil _ _ _, Fr.refl _ _⟩
    case round =>
     obtain ⟨k, hk, rfl, hT, hfr⟩ := hrel
     by_cases hlt : k < ss.length
     ·obtain ⟨x, hx⟩ : ∃ x, ss[k]? = some x := ⟨ss[k], List.getElem?_eq_getElem hlt⟩
      obtain ⟨bs_, os_, rfl, _, d0⟩ := (HSh7.out.fr hfr (fun _ _ => id)) k x hx
      have HX := Lib.hid hx
      have hkl : (k : Int) < (ss.length : Int) := by omega
      have hXr := hX7.fr hfr id
      clear hx
      go_upto_region 29 with fail
      have hXd := hXr.drew
      have hfd := hfr.drew
      have hTd := hT.fr ((Fr.refl (fun _ => False) wr).drew) (fun _ _ => id) (fun _ _ => id)
      have dd := ((Fr.refl (fun _ => False) wr).drew).cell_some d0 id
      refine wp_region_noPanic ?_
      refine wp_region_held_drew (S := (fun w' => w'.cell? ⟨bs_, os_ + k, none⟩ = some (.int .i64 x) ∧ w'.heap[gO]? = some (.cells #[.int .i64 2, .int .i64 0, .int .i64 0, .slice none 0 0, .slice none 0 0, .int .i64 kind, .int .i64 txn, .bool yes, .string ff, .string tt, .int .i64 epoch, .int .i64 shard, .int .i64 target, .int .i64 root, .int .i64 G, .int .i64 D, .slice CA xs.length cc, .int .i64 0, .int .i64 0, .slice none 0 0, .slice none 0 0] 62 (0, 0)))) (by kernel_rfl) (⟨dd, hXd⟩) (fun hHeld => ?_)
      generalize wr.drew = wd at *
      refine tk 0 108 ?_
      refine tk 1 109 ?_
      refine tk 2 110 ?_
      refine tk 3 111 ?_
      refine tk 4 112 ?_
      refine tk 5 113 ?_
      refine wpAnyH_takeAt (i := 6) (v := .agg #[.int .i64 2, .int .i64 0, .int .i64 0, .slice none 0 0, .slice none 0 0, .int .i64 kind, .int .i64 txn, .bool yes, .string ff, .string tt, .int .i64 epoch, .int .i64 shard, .int .i64 target, .int .i64 root, .int .i64 G, .int .i64 D, .slice CA xs.length cc, .int .i64 0, .int .i64 0, .slice none 0 0, .slice none 0 0]) (some 114) rfl rfl (by kernel_rfl) (by kernel_rfl) (by kernel_rfl) (fun _ _ _ h => h) (yields_row 62 _ rfl (by rfl) (by rfl) Tryz.underlying62 rfl (by kernel_rfl) (fun w hs => hs.2)) (by assumption) ?_
      simp only [Act.put, List.setIfInBounds_toArray, List.set_cons_zero, List.set_cons_succ]
      refine rd 7 (fun K hK => ?_)
      go_simp
      go_at_call 50
      refine (HTK.out _ hfd _).mono ?_
      rintro e w8 ⟨tv8, rfl, hT8, hf8⟩
      have hX8 := hXd.fr hf8 id
      have d8 := hf8.cell_some dd id
      have hf78 := hfd.then_ hf8
      have hTr8 := hTd.fr hf8 (fun _ _ => id) (fun _ _ => id)
      have hz8 := hf78.size
      try go_wp2_with fail
      refine hK.out _ _ (⟨d8, hX8⟩) (fun hHeld => ?_)
      clear hK K
      refine rd 8 (fun K hK => ?_)
      refine step_append_task rfl (.tmp 108) (.tmp 115) rfl (by rfl) (by rfl) hTr8 hT8 (by simp; try omega) hz8 ?_
      intro tv9 w9 hT9 hf9
      have hX9 := hX8.fr hf9 (hTr8.ne_blk hX8 (by decide))
      have hf79 : Fr (fun _ => False) w7 w9 := hf78.trans hf9 (fun q hq e => by have := hTr8.ge q e; omega)
      have d9 := (HSh7.out.fr hf79 (fun _ _ => id)).nth_ HX.out
      refine hK.out _ _ (⟨d9, hX9⟩) (fun hHeld => ?_)
      clear hK K
      simp only [List.getElem_toArray, List.getElem_cons_succ, List.getElem_cons_zero]
      simp only [Act.put, List.setIfInBounds_toArray, List.set_cons_zero, List.set_cons_succ]
      refine tk 9 23 ?_
      refine wpAnyH_done (by kernel_rfl) ?_ _
      refine NoPanic.normal ?_
      go_wp2_with fail
      go_roundw
      case rel =>
       refine ⟨k + 1, by omega, by go_num, ?_, hf79⟩
       rw [take_mem HX.out, List.map_append]
       have hw : IntKind.i64.wrap (x + 1) = wrap64 (x + 1) := by rw [IntKind.wrap_i64, wrap64]
       rw [hw] at hT9
       exact hT9
      case measure => simp [intOf]; omega
     ·obtain rfl : k = ss.length := by omega
      rw [List.take_length] at hT
      go_wp2
      go_ret
      rw [HXS.out, hbb.out, hLL.out]
      exact ROrd.end_ (hT.base_ (by have := hf37.size; omega)) h3.rb hf03 HK3.out (hf37.then_ hfr)
   rw [if_neg (by exact hk3)] at hO1
   have hk3' : (kind == 3) = false := beq_eq_false_iff_ne.2 hk3
   by_cases hk1 : kind = 1
   ·rw [if_pos (by exact hk1)] at hO1
    have hk1' : (kind == 1) = true := beq_iff_eq.2 hk1
    clear hk4 hk7 hk3 hk1
    have htx : 0 ≤ txn := by have := HOK.out; unfold OkSay at this; dsimp only at this; omega
    have h6 := h3.keep hf36
    have HP1 : Hid (∀ t ∈ L1, 0 < t.length ∧ B8 t) := by
     show ∀ t ∈ L1, _
     rw [← HL1.out]
     unfold digL
     intro t ht
     split at ht
     ·exact ⟨HPOS.out t ht, HL8.out t ht⟩
     ·rcases List.mem_append.1 ht with h | h
      ·exact ⟨HPOS.out t h, HL8.out t h⟩
      ·rw [List.mem_singleton.1 h]
       obtain ⟨q1, _, _⟩ := sayB_length HOK.out
       exact ⟨by omega, b8_sayB _⟩
    have HTx := ref03_Text h6.rb (by have := HN1.out; omega) txn HG1.out.2
    have y1 := hBs6.cell 1
    cases hLt : L1[txn.toNat]? with
    | none =>
     have hTx : Hid (Calls Tryz.prog 48 #[.pointer (some ⟨gD, 0, none⟩), .int .i64 txn] w6 (fun e w' => Fr (fun _ => False) w6 w' ∧ e = .returned (.tuple #[.slice none 0 0, .int .i64 1]))) := by
      refine HTx.mono ?_
      rintro e w' ⟨h1, ⟨_, t, h2, _⟩ | ⟨_, h2⟩⟩
      ·rw [hLt] at h2; cases h2
      ·exact ⟨h1, h2⟩
     rw [if_neg (fun h => by rw [List.getD_eq_getElem?_getD, hLt] at h; exact isTxn_nil h)] at hO1
     subst hO1
     clear HTx hLt
     go_upto_region 15 with (go_at_call 48; refine hTx.out.mono ?_; rintro e w7 ⟨hf7, rfl⟩)
     go_wp2_with fail
     go_ret
     exact ROrd.end_ (TasksAt.nil _ _ _) h3.rb hf03 HK3.out (hf36.then_ hf7)
    | some bt =>
     have hTx : Hid (Calls Tryz.prog 48 #[.pointer (some ⟨gD, 0, none⟩), .int .i64 txn] w6 (fun e w' => Fr (fun _ => False) w6 w' ∧ ∃ v, e = .returned (.tuple #[v, .int .i64 0]) ∧ Own8 w' w6.heap.size v bt)) := by
      refine HTx.mono ?_
      rintro e w' ⟨h1, ⟨_, t, h2, v, h3, h4⟩ | ⟨h2 | h2, _⟩⟩
      ·rw [hLt] at h2; cases h2; exact ⟨h1, v, h3, h4⟩
      ·omega
      ·rw [hLt] at h2; cases h2
     have hgetD : L1.getD txn.toNat [] = bt := by rw [List.getD_eq_getElem?_getD, hLt]; rfl
     have hmem := List.mem_of_getElem? hLt
     have HBT := Lib.hid (HP1.out bt hmem)
     have hbl : bt.length ≤ 65536 := HG1.out.2 bt hmem
     rw [hgetD] at hO1
     clear HTx hLt hmem hgetD
     go_upto_region 15 with (go_at_call 48; refine hTx.out.mono ?_; rintro e w7 ⟨hf7, v7, rfl, hv7⟩; obtain ⟨A7, c7, rfl, _, hr7⟩ := hv7.u8row)
     have hX7 := hX6.fr hf7 id
     have hBs7 := hBs6.fr hf7 id
     have hf37 := hf36.then_ hf7
     have HI7 := Lib.hid (HI6.out.fr hf7 (fun _ _ => id))
     clear hX6 hBs6 HI6 x0 z0 y0 y1 k0 hf7 hTx h6 hv7 hf36
     by_cases hT : IsTxn bt
     ·rw [if_pos hT] at hO1
      obtain ⟨c, n, R, W, hTO, hbt⟩ := hT
      subst hO1
      have hr7' := hr7
      rw [hbt] at hr7'
      have HG := ref10_Get (cap := c7) hr7' hTO
      rw [← hbt] at HG
      replace HG := Lib.hid HG
      have HTO := Lib.hid hTO
      have HBTE := Lib.hid hbt
      clear hTO hr7 hr7' hbt
      go_upto_region 20 with (first
       | (go_at_call 49; refine HG.out.mono ?_; rintro e w8 ⟨RA, cr, WA, cw, rfl, hR8, hW8, hf8⟩)
       | (refine wpList_store_new rfl 29 (.tmp 21) (.tmp 86) rfl _ _ rfl rfl (by kernel_rfl) rfl (by simp [Value.oneCell']) ?_))
      have hfa := hf8.alloc (Obj.cells #[.int .i64 c, .int .i64 n, .slice RA R.length cr, .slice WA W.length cw] 29)
      have hTb := Blk.new w8 29 #[.int .i64 c, .int .i64 n, .slice RA R.length cr, .slice WA W.length cw]
      have hX9 := hX7.fr hfa id
      have hBs9 := hBs7.fr hfa id
      have hf39 := hf37.then_ hfa
      have HI9 := Lib.hid (HI7.out.fr hfa (fun _ _ => id))
      have hR9 := hR8.fr ((Fr.refl (fun _ => False) w8).alloc (Obj.cells #[.int .i64 c, .int .i64 n, .slice RA R.length cr, .slice WA W.length cw] 29)) (fun _ _ => id)
      have hW9 := hW8.fr ((Fr.refl (fun _ => False) w8).alloc (Obj.cells #[.int .i64 c, .int .i64 n, .slice RA R.length cr, .slice WA W.length cw] 29)) (fun _ _ => id)
      have hgT : gO < w8.heap.size := (hX7.fr hf8 id).lt
      have hgT7 : gO < w7.heap.size := hX7.lt
      generalize w8.alloc (Obj.cells #[.int .i64 c, .int .i64 n, .slice RA R.length cr, .slice WA W.length cw] 29) = w9 at *
      obtain ⟨gT, hgTe⟩ : ∃ x, Hid (w8.heap.size = x) := ⟨_, rfl⟩
      rw [hgTe.out] at hTb hgT ⊢
      clear hX7 hBs7 HI7 hf37 hf8 hR8 hW8 hfa HG
      have x0 := hX9.cell 0
      have z0 := hX9.frozen 0
      go_upto_region 21 with fail
      have hfs : Fr (fun k => k = gO) w9 (w9.setCell ⟨gO, 0, none⟩ (.int .i64 1)) := (Fr.refl (fun k => k = gO) w9).setCell (p := ⟨gO, 0, none⟩) (fun _ => rfl) _
      have hX10 : Blk (w9.setCell ⟨gO, 0, none⟩ (.int .i64 1)) gO 62 #[.int .i64 1, .int .i64 0, .int .i64 0, .slice none 0 0, .slice none 0 0, .int .i64 kind, .int .i64 txn, .bool yes, .string ff, .string tt, .int .i64 epoch, .int .i64 shard, .int .i64 target, .int .i64 root, .int .i64 G, .int .i64 D, .slice CA xs.length cc, .int .i64 0, .int .i64 0, .slice none 0 0, .slice none 0 0] := hX9.set_ 0 _
      have hTb10 := hTb.fr hfs (fun e => by omega)
      have hBs10 := hBs9.fr hfs (fun e => by omega)
      have hf310 := hf39.trans hfs (fun k hk e => by omega)
      have HI10 := Lib.hid (HI9.out.fr hfs (fun k hk e => by omega))
      have hR10 := hR9.fr hfs (fun k hk e => by omega)
      have hW10 := hW9.fr hfs (fun k hk e => by omega)
      clear hX9 hTb hBs9 hf39 HI9 hR9 hW9 x0 z0 hfs
      generalize w9.setCell ⟨gO, 0, none⟩ (.int .i64 1) = w10 at *
      have hth : w10.there gO 1 4 := hX10.there (Nat.le_of_ble_eq_true rfl)
      go_upto_region 22 with (first
       | (refine wpList_load_row rfl 29 _ rfl _ rfl _ _ (0, 0) _ hTb10 Tryz.underlying29 rfl (by kernel_rfl) ?_)
       | (refine wpList_store_mid rfl 29 (.tmp 93) (.tmp 92) rfl gO 1 #[.int .i64 c, .int .i64 n, .slice RA R.length cr, .slice WA W.length cw] rfl rfl hth (by kernel_rfl) (by simp [Value.oneCell']) ?_))
      have hXa0 : Blk (w10.setCell ⟨gO, 1, none⟩ (.int .i64 c)) gO 62 #[.int .i64 1, .int .i64 c, .int .i64 0, .slice none 0 0, .slice none 0 0, .int .i64 kind, .int .i64 txn, .bool yes, .string ff, .string tt, .int .i64 epoch, .int .i64 shard, .int .i64 target, .int .i64 root, .int .i64 G, .int .i64 D, .slice CA xs.length cc, .int .i64 0, .int .i64 0, .slice none 0 0, .slice none 0 0] := hX10.set_ 1 _
      have hXa1 : Blk ((w10.setCell ⟨gO, 1, none⟩ (.int .i64 c)).setCell ⟨gO, 2, none⟩ (.int .i64 n)) gO 62 #[.int .i64 1, .int .i64 c, .int .i64 n, .slice none 0 0, .slice none 0 0, .int .i64 kind, .int .i64 txn, .bool yes, .string ff, .string tt, .int .i64 epoch, .int .i64 shard, .int .i64 target, .int .i64 root, .int .i64 G, .int .i64 D, .slice CA xs.length cc, .int .i64 0, .int .i64 0, .slice none 0 0, .slice none 0 0] := hXa0.set_ 2 _
      have hXa2 : Blk (((w10.setCell ⟨gO, 1, none⟩ (.int .i64 c)).setCell ⟨gO, 2, none⟩ (.int .i64 n)).setCell ⟨gO, 3, none⟩ (.slice RA R.length cr)) gO 62 #[.int .i64 1, .int .i64 c, .int .i64 n, .slice RA R.length cr, .slice none 0 0, .int .i64 kind, .int .i64 txn, .bool yes, .string ff, .string tt, .int .i64 epoch, .int .i64 shard, .int .i64 target, .int .i64 root, .int .i64 G, .int .i64 D, .slice CA xs.length cc, .int .i64 0, .int .i64 0, .slice none 0 0, .slice none 0 0] := hXa1.set_ 3 _
      have hXa3 : Blk ((((w10.setCell ⟨gO, 1, none⟩ (.int .i64 c)).setCell ⟨gO, 2, none⟩ (.int .i64 n)).setCell ⟨gO, 3, none⟩ (.slice RA R.length cr)).setCell ⟨gO, 4, none⟩ (.slice WA W.length cw)) gO 62 #[.int .i64 1, .int .i64 c, .int .i64 n, .slice RA R.length cr, .slice WA W.length cw, .int .i64 kind, .int .i64 txn, .bool yes, .string ff, .string tt, .int .i64 epoch, .int .i64 shard, .int .i64 target, .int .i64 root, .int .i64 G, .int .i64 D, .slice CA xs.length cc, .int .i64 0, .int .i64 0, .slice none 0 0, .slice none 0 0] := hXa2.set_ 4 _
      have hfs : Fr (fun k => k = gO) w10 ((((w10.setCell ⟨gO, 1, none⟩ (.int .i64 c)).setCell ⟨gO, 2, none⟩ (.int .i64 n)).setCell ⟨gO, 3, none⟩ (.slice RA R.length cr)).setCell ⟨gO, 4, none⟩ (.slice WA W.length cw)) := (((((Fr.refl (fun k => k = gO) w10).setCell (p := ⟨gO, 1, none⟩) (fun _ => rfl) (.int .i64 c)).setCell (p := ⟨gO, 2, none⟩) (fun _ => rfl) (.int .i64 n)).setCell (p := ⟨gO, 3, none⟩) (fun _ => rfl) (.slice RA R.length cr)).setCell (p := ⟨gO, 4, none⟩) (fun _ => rfl) (.slice WA W.length cw))
      have hBs11 := hBs10.fr hfs (fun e => by omega)
      have hf311 := hf310.trans hfs (fun k hk e => by omega)
      have HI11 := Lib.hid (HI10.out.fr hfs (fun k hk e => by omega))
      have hR11 := hR10.fr hfs (fun k hk e => by omega)
      have hW11 := hW10.fr hfs (fun k hk e => by omega)
      clear hXa0 hXa1 hXa2 hX10 hTb10 hBs10 hf310 HI10 hR10 hW10 hth hfs
      generalize hw11 : (((w10.setCell ⟨gO, 1, none⟩ (.int .i64 c)).setCell ⟨gO, 2, none⟩ (.int .i64 n)).setCell ⟨gO, 3, none⟩ (.slice RA R.length cr)).setCell ⟨gO, 4, none⟩ (.slice WA W.length cw) = w11 at *
      rw [show (w10.setCells gO 1 #[.int .i64 c, .int .i64 n, .slice RA R.length cr, .slice WA W.length cw].toList) = w11 from hw11]
      clear hw11
      have HTK := sem_task1 (F := fun _ => True) (s := ⟨kind, txn, yes, ff, tt, epoch, shard, target, root⟩) (G := G) (D := D) (xs := xs) (o := ⟨[shard + 1], 1, bt, [], []⟩) (HSM.out _ rfl) HOK.out (CA := CA) (cc := cc) (EA := none) (VA := none) (ce := 0) (cv := 0) (cr := cr) (cw := cw) HG0.out ⟨by have := HDB.out; omega, by have := HDB.out; omega⟩ HXL.out HXE.out (HI11.out.mono_ (fun _ _ => trivial)) (fun k x h => by simp at h) (fun k x h => by simp at h) (shard + 1) rfl HTO.out HBTE.out (hR11.mono_ (fun _ _ => trivial)) (hW11.mono_ (fun _ _ => trivial))
      have HTK : Hid (Calls Tryz.prog 50 #[.int .i64 (shard + 1), .agg #[.int .i64 1, .int .i64 c, .int .i64 n, .slice RA R.length cr, .slice WA W.length cw, .int .i64 kind, .int .i64 txn, .bool yes, .string ff, .string tt, .int .i64 epoch, .int .i64 shard, .int .i64 target, .int .i64 root, .int .i64 G, .int .i64 D, .slice CA xs.length cc, .int .i64 0, .int .i64 0, .slice none 0 0, .slice none 0 0]] w11 (TasksP w11 [shard + 1] (ordBB (sayB ⟨kind, txn, yes, ff, tt, epoch, shard, target, root⟩) (certB G D xs) (some ⟨[shard + 1], 1, bt, [], []⟩)))) := HTK
      have hLL : ordL L1 (some ⟨[shard + 1], 1, bt, [], []⟩) = L1 := by show (if (1 : Int) = 4 then bookOf L1 [] else L1) = L1; exact if_neg (by decide)
      obtain ⟨bb, hbb⟩ : ∃ b, Hid (ordBB (sayB ⟨kind, txn, yes, ff, tt, epoch, shard, target, root⟩) (certB G D xs) (some ⟨[shard + 1], 1, bt, [], []⟩) = b) := ⟨_, rfl⟩
      rw [hbb.out] at HTK
      replace hLL := Lib.hid hLL
      have y6 := hBs11.cell 6
      go_wp2_with (first
       | (refine wpList_load_row rfl 62 _ rfl _ rfl _ _ (0, 0) _ hXa3 Tryz.underlying62 rfl (by kernel_rfl) ?_)
       | (go_at_call 50; refine HTK.out.mono ?_; rintro e w12 ⟨tv, rfl, hT12, hf12⟩))
      go_ret
      rw [HXS.out, hbb.out, hLL.out]
      exact ROrd.end_ (hT12.base_ (by have := hf311.size; omega)) h3.rb hf03 HK3.out (hf311.then_ hf12)
     ·rw [if_neg hT] at hO1
      subst hO1
      have HG := ref10_Get_no (cap := c7) hr7 HBT.out.1 (by omega) (fun x hx => by have := HBT.out.2 x hx; omega) (fun c n R W h1 h2 => hT ⟨c, n, R, W, h1, h2⟩)
      have HG : Hid (Calls Tryz.prog 49 #[.slice A7 bt.length c7] w7 (fun e w' => (∃ (er : Int) (v2 : Value), er ≠ 0 ∧ e = .returned (.tuple #[.agg #[.int .i64 0, .int .i64 0, .slice none 0 0, .slice none 0 0], .int .i64 er, v2])) ∧ Fr (fun _ => False) w7 w')) := HG
      clear hr7 hT
      go_upto_region 18 with (first
       | (go_at_call 49; refine HG.out.mono ?_; rintro e w8 ⟨⟨er, v2, her, rfl⟩, hf8⟩)
       | (refine wpList_store_new rfl 29 (.tmp 21) (.tmp 86) rfl _ _ rfl rfl (by kernel_rfl) rfl (by simp [Value.oneCell']) ?_))
      have hfa := hf8.alloc (Obj.cells #[.int .i64 0, .int .i64 0, .slice none 0 0, .slice none 0 0] 29)
      generalize w8.alloc (Obj.cells #[.int .i64 0, .int .i64 0, .slice none 0 0, .slice none 0 0] 29) = w9 at *
      have hne : (er == 0) = false := beq_eq_false_iff_ne.2 her
      go_wp2_with fail
      go_ret
      exact ROrd.end_ (TasksAt.nil _ _ _) h3.rb hf03 HK3.out (hf37.then_ hfa)
   rw [if_neg (by exact hk1)] at hO1
   have hk1' : (kind == 1) = false := beq_eq_false_iff_ne.2 hk1
   clear hk4 hk7 hk3 hk1
   subst hO1
   go_wp2_with fail
   go_ret
   exact ROrd.end_ (TasksAt.nil _ _ _) h3.rb hf03 HK3.out hf36
  rw [if_neg hG] at hO1
  have hGb : (G == 0) = false := beq_eq_false_iff_ne.2 hG
  have y6 := hBs6.cell 6
  have y7 := hBs6.cell 7
  by_cases hk2 : kind = 2
  ·rw [if_pos (by exact hk2)] at hO1
   have hk2' : (kind == 2) = true := beq_iff_eq.2 hk2
   have hk6' : (kind == 6) = false := beq_eq_false_iff_ne.2 (by omega)
   have hk5' : (kind == 5) = false := beq_eq_false_iff_ne.2 (by omega)
   by_cases hGs : G = shard + 1
   ·rw [if_pos (by exact hGs)] at hO1
    have hGs' : (G == shard + 1) = true := beq_iff_eq.2 hGs
    clear hG hk2 hGs
    subst hO1
    go_upto_region 40 with fail
    have hfs : Fr (fun k => k = gO) w6 (w6.setCell ⟨gO, 0, none⟩ (.int .i64 7)) := (Fr.refl (fun k => k = gO) w6).setCell (p := ⟨gO, 0, none⟩) (fun _ => rfl) _
    have hX7 : Blk (w6.setCell ⟨gO, 0, none⟩ (.int .i64 7)) gO 62 #[.int .i64 7, .int .i64 0, .int .i64 0, .slice none 0 0, .slice none 0 0, .int .i64 kind, .int .i64 txn, .bool yes, .string ff, .string tt, .int .i64 epoch, .int .i64 shard, .int .i64 target, .int .i64 root, .int .i64 G, .int .i64 D, .slice CA xs.length cc, .int .i64 0, .int .i64 0, .slice none 0 0, .slice none 0 0] := hX6.set_ 0 _
    have hBs7 := hBs6.fr hfs (fun e => by omega)
    have hf37 := hf36.trans hfs (fun k hk e => by omega)
    have HI7 := Lib.hid (HI6.out.fr hfs (fun k hk e => by omega))
    clear y6 y7 hX6 hBs6 hf36 HI6 x0 z0 y0 k0 hfs
    generalize w6.setCell ⟨gO, 0, none⟩ (.int .i64 7) = w7 at *
    have HTK : Hid (∀ w' (hf : Fr (fun _ => False) w7 w') (grp : Int), Calls Tryz.prog 50 #[.int .i64 grp, .agg #[.int .i64 7, .int .i64 0, .int .i64 0, .slice none 0 0, .slice none 0 0, .int .i64 kind, .int .i64 txn, .bool yes, .string ff, .string tt, .int .i64 epoch, .int .i64 shard, .int .i64 target, .int .i64 root, .int .i64 G, .int .i64 D, .slice CA xs.length cc, .int .i64 0, .int .i64 0, .slice none 0 0, .slice none 0 0]] w' (TasksP w' [grp] (ordBB (sayB ⟨kind, txn, yes, ff, tt, epoch, shard, target, root⟩) (certB G D xs) (some ⟨[0], 7, [], [], []⟩)))) := fun w' hf grp => sem_task0 (o := ⟨[0], 7, [], [], []⟩) (HSM.out _ rfl) HOK.out (CA := CA) (cc := cc) (EA := none) (VA := none) (ce := 0) (cv := 0) HG0.out ⟨by have := HDB.out; omega, by have := HDB.out; omega⟩ HXL.out HXE.out (HI7.out.fr hf (fun _ _ => id)) (fun k x h => by simp at h) (fun k x h => by simp at h) grp (by show ¬ (7 : Int) = 1; decide)
    have hLL : ordL L1 (some ⟨[0], 7, [], [], []⟩) = L1 := by show (if (7 : Int) = 4 then bookOf L1 [] else L1) = L1; exact if_neg (by decide)
    obtain ⟨bb, hbb⟩ : ∃ b, Hid (ordBB (sayB ⟨kind, txn, yes, ff, tt, epoch, shard, target, root⟩) (certB G D xs) (some ⟨[0], 7, [], [], []⟩) = b) := ⟨_, rfl⟩
    rw [hbb.out] at HTK
    replace hLL := Lib.hid hLL
    go_wp2_with (first
     | (refine wpList_load_row rfl 62 _ rfl _ rfl _ _ (0, 0) _ hX7 Tryz.underlying62 rfl (by kernel_rfl) ?_)
     | (go_at_call 50; refine (HTK.out _ (Fr.refl _ _) _).mono ?_; rintro e w8 ⟨tv, rfl, hT8, hf8⟩))
    go_ret
    rw [HXS.out, hbb.out, hLL.out]
    exact ROrd.end_ (hT8.base_ (by have := hf37.size; omega)) h3.rb hf03 HK3.out (hf37.then_ hf8)
   ·rw [if_neg (by exact hGs)] at hO1
    have hGs' : (G == shard + 1) = false := beq_eq_false_iff_ne.2 hGs
    clear hG hk2 hGs
    subst hO1
    go_wp2_with fail
    go_ret
    exact ROrd.end_ (TasksAt.nil _ _ _) h3.rb hf03 HK3.out hf36
  rw [if_neg (by exact hk2)] at hO1
  have hk2' : (kind == 2) = false := beq_eq_false_iff_ne.2 hk2
  by_cases hk6 : kind = 6
  ·rw [if_pos (by exact hk6)] at hO1
   have hk6' : (kind == 6) = true := beq_iff_eq.2 hk6
   have hk5' : (kind == 5) = false := beq_eq_false_iff_ne.2 (by omega)
   by_cases hGs : G = target + 1
   ·rw [if_pos (by exact hGs)] at hO1
    have hGs' : (G == target + 1) = true := beq_iff_eq.2 hGs
    clear hG hk2 hk6 hGs
    subst hO1
    go_upto_region 43 with fail
    have hfs : Fr (fun k => k = gO) w6 (w6.setCell ⟨gO, 0, none⟩ (.int .i64 10)) := (Fr.refl (fun k => k = gO) w6).setCell (p := ⟨gO, 0, none⟩) (fun _ => rfl) _
    have hX7 : Blk (w6.setCell ⟨gO, 0, none⟩ (.int .i64 10)) gO 62 #[.int .i64 10, .int .i64 0, .int .i64 0, .slice none 0 0, .slice none 0 0, .int .i64 kind, .int .i64 txn, .bool yes, .string ff, .string tt, .int .i64 epoch, .int .i64 shard, .int .i64 target, .int .i64 root, .int .i64 G, .int .i64 D, .slice CA xs.length cc, .int .i64 0, .int .i64 0, .slice none 0 0, .slice none 0 0] := hX6.set_ 0 _
    have hBs7 := hBs6.fr hfs (fun e => by omega)
    have hf37 := hf36.trans hfs (fun k hk e => by omega)
    have HI7 := Lib.hid (HI6.out.fr hfs (fun k hk e => by omega))
    clear y6 y7 hX6 hBs6 hf36 HI6 x0 z0 y0 k0 hfs
    generalize w6.setCell ⟨gO, 0, none⟩ (.int .i64 10) = w7 at *
    have HTK : Hid (∀ w' (hf : Fr (fun _ => False) w7 w') (grp : Int), Calls Tryz.prog 50 #[.int .i64 grp, .agg #[.int .i64 10, .int .i64 0, .int .i64 0, .slice none 0 0, .slice none 0 0, .int .i64 kind, .int .i64 txn, .bool yes, .string ff, .string tt, .int .i64 epoch, .int .i64 shard, .int .i64 target, .int .i64 root, .int .i64 G, .int .i64 D, .slice CA xs.length cc, .int .i64 0, .int .i64 0, .slice none 0 0, .slice none 0 0]] w' (TasksP w' [grp] (ordBB (sayB ⟨kind, txn, yes, ff, tt, epoch, shard, target, root⟩) (certB G D xs) (some ⟨[0], 10, [], [], []⟩)))) := fun w' hf grp => sem_task0 (o := ⟨[0], 10, [], [], []⟩) (HSM.out _ rfl) HOK.out (CA := CA) (cc := cc) (EA := none) (VA := none) (ce := 0) (cv := 0) HG0.out ⟨by have := HDB.out; omega, by have := HDB.out; omega⟩ HXL.out HXE.out (HI7.out.fr hf (fun _ _ => id)) (fun k x h => by simp at h) (fun k x h => by simp at h) grp (by show ¬ (10 : Int) = 1; decide)
    have hLL : ordL L1 (some ⟨[0], 10, [], [], []⟩) = L1 := by show (if (10 : Int) = 4 then bookOf L1 [] else L1) = L1; exact if_neg (by decide)
    obtain ⟨bb, hbb⟩ : ∃ b, Hid (ordBB (sayB ⟨kind, txn, yes, ff, tt, epoch, shard, target, root⟩) (certB G D xs) (some ⟨[0], 10, [], [], []⟩) = b) := ⟨_, rfl⟩
    rw [hbb.out] at HTK
    replace hLL := Lib.hid hLL
    go_wp2_with (first
     | (refine wpList_load_row rfl 62 _ rfl _ rfl _ _ (0, 0) _ hX7 Tryz.underlying62 rfl (by kernel_rfl) ?_)
     | (go_at_call 50; refine (HTK.out _ (Fr.refl _ _) _).mono ?_; rintro e w8 ⟨tv, rfl, hT8, hf8⟩))
    go_ret
    rw [HXS.out, hbb.out, hLL.out]
    exact ROrd.end_ (hT8.base_ (by have := hf37.size; omega)) h3.rb hf03 HK3.out (hf37.then_ hf8)
   ·rw [if_neg (by exact hGs)] at hO1
    have hGs' : (G == target + 1) = false := beq_eq_false_iff_ne.2 hGs
    clear hG hk2 hk6 hGs
    subst hO1
    go_wp2_with fail
    go_ret
    exact ROrd.end_ (TasksAt.nil _ _ _) h3.rb hf03 HK3.out hf36
  rw [if_neg (by exact hk6)] at hO1
  have hk6' : (kind == 6) = false := beq_eq_false_iff_ne.2 hk6
  by_cases hk5 : kind = 5
  ·rw [if_pos (by exact hk5)] at hO1
   have hk5' : (kind == 5) = true := beq_iff_eq.2 hk5
   by_cases hGs : G = shard + 1
   ·have hGs' : (G == shard + 1) = true := beq_iff_eq.2 hGs
    clear hG hk2 hk6 hk5
    dsimp only at hO1
    have HGS := Lib.hid hGs
    clear hGs
    go_upto_region 47 with fail
    have hie := entry_info
    go_loopw [25, 26] (fun lv ix wr => ∃ k : Nat, k ≤ l.length ∧ ix = .int .i64 k ∧ wr.ownsRow w6.heap.size 119 3 lv (keepE ff tt (l.take k)).length (entsV (keepE ff tt (l.take k))) ∧ (keepE ff tt (l.take k) = [] → lv = .slice none 0 0) ∧ Fr (fun _ => False) w6 wr) (fun _ ix _ => l.length - (intOf ix).toNat)
    case atStart => exact ⟨0, by omega, rfl, World.ownsRow_nil _ _ _ _, fun _ => rfl, Fr.refl _ _⟩
    case round =>
     obtain ⟨k, hk, rfl, hown, hz, hfr⟩ := hrel
     obtain ⟨ow, how⟩ : ∃ ow, Hid (keepE ff tt (l.take k) = ow) := ⟨_, rfl⟩
     rw [how.out] at hown hz
     have HZ := Lib.hid hz
     have hge := own_ge hown
     have hBsr := hBs6.fr hfr id
     have hzr := hfr.size
     clear hz
     by_cases hlt : k < l.length
     ·obtain ⟨x, hx⟩ : ∃ x, l[k]? = some x := ⟨l[k], List.getElem?_eq_getElem hlt⟩
      obtain ⟨be, oe, rfl, _, d0, d1, d2⟩ := ((HEn.out.fr hf03 (fun j hj => HnD.out j (HFE.out j hj))).fr (hf36.then_ hfr) (fun _ _ => id)) k x hx
      have HX := Lib.hid hx
      have hkl : (k : Int) < (l.length : Int) := by omega
      have y3 := hBsr.cell 3
      have y4 := hBsr.cell 4
      clear hx
      cases hdr : dropE ff tt x with
      | true =>
       have HIn : Hid (∀ w, Calls Tryz.prog 51 #[.string x.1, .string ff, .string tt] w fun e w' => e = .returned (.bool false) ∧ w = w') := fun w => by
        have h := ref07_In x.1 ff tt w
        rw [show dropE ff tt (x.1, ⟨#[]⟩, 0) = true from hdr] at h
        exact h
       have hnx : Hid (keepE ff tt (l.take (k + 1)) = ow) := by
        show _ = _
        rw [take_mem HX.out, ← how.out]
        unfold keepE
        rw [List.filter_append]
        simp [hdr]
       clear hdr d1 d2
       go_upto_region 49 with fail
       go_quiet ((go_at_call 51; exact quiet_left (HIn.out _)))
       have hfd := (Fr.refl (fun _ => False) wr).drewN nq
       generalize wr.drewN nq = wd at *
       go_wp2_with fail
       go_roundw
       case rel => exact ⟨k + 1, by omega, by go_num, by rw [hnx.out]; exact own_fr hown hfd (fun _ _ => id), by rw [hnx.out]; exact HZ.out, hfr.then_ hfd⟩
       case measure => simp [intOf]; omega
      | false =>
       have HIn : Hid (∀ w, Calls Tryz.prog 51 #[.string x.1, .string ff, .string tt] w fun e w' => e = .returned (.bool true) ∧ w = w') := fun w => by
        have h := ref07_In x.1 ff tt w
        rw [show dropE ff tt (x.1, ⟨#[]⟩, 0) = false from hdr] at h
        exact h
       have hnx : Hid (keepE ff tt (l.take (k + 1)) = ow ++ [x]) := by
        show _ = _
        rw [take_mem HX.out, ← how.out]
        unfold keepE
        rw [List.filter_append]
        simp [hdr]
       have hol : ow.length ≤ 60000 := by
        rw [← how.out]
        have h1 : (keepE ff tt (l.take k)).length ≤ (l.take k).length := List.length_filter_le _ _
        rw [List.length_take] at h1
        omega
       clear hdr
       go_upto_region 49 with fail
       go_quiet ((go_at_call 51; exact quiet_left (HIn.out _)))
       have hfd := (Fr.refl (fun _ => False) wr).drewN nq
       have d0 := hfd.cell_some d0 id
       have d1 := hfd.cell_some d1 id
       have d2 := hfd.cell_some d2 id
       have hown := own_fr hown hfd (fun _ _ => id)
       have hfr := hfr.then_ hfd
       have hzr := hfr.size
       generalize wr.drewN nq = wd at *
       obtain ⟨Av, cv, hev, _, _⟩ := own_form hown
       subst hev
       go_wp2_with (at_builtin; refine wpList_append_el _ rfl _ _ 31 rfl w6.heap.size 119 _ 3 40 Tryz.underlying31 hie rfl (by decide) _ ow.length (entsV ow) rfl (own_fr hown ((Fr.refl (fun _ => False) wd).alloc _) (fun _ _ => id)) wd.heap.size [.string x.1, .string x.2.1, .int .i64 x.2.2] rfl rfl (cell_three wd _ _ _ _) (by simp [Value.oneCell']) (by omega) (by decide) (by simp; omega) ?_; intro g' c' w10 hown10 hf10)
       have hfa := (Fr.refl (fun _ => False) wd).alloc (Obj.cells #[.string x.1, .string x.2.1, .int .i64 x.2.2] 119)
       have hfe : Fr (fun _ => False) w6 w10 := (hfr.then_ hfa).trans hf10 (fun j hj e => by have := hge j e; omega)
       go_roundw
       case rel =>
        refine ⟨k + 1, by omega, by go_num, ?_, fun h => ?_, hfe⟩
        ·rw [hnx.out, show entsV (ow ++ [x]) = entsV ow ++ [.string x.1, .string x.2.1, .int .i64 x.2.2] by simp [entsV]]
         simpa using hown10
        ·rw [hnx.out] at h
         simp at h
       case measure => simp [intOf]; omega
     ·obtain rfl : k = l.length := by omega
      rw [List.take_length] at how
      rw [how.out] at hO1
      have hol : ow.length ≤ 60000 := by
       rw [← how.out]
       have h1 : (keepE ff tt l).length ≤ l.length := List.length_filter_le _ _
       omega
      obtain ⟨Ao, co, hev, hoc, _⟩ := own_form hown
      have hzo : ow = [] → Ao = none ∧ co = 0 := fun e => by
       have h1 := HZ.out e
       rw [hev] at h1
       simp only [Value.slice.injEq] at h1
       exact ⟨h1.1, h1.2.2⟩
      obtain ⟨Ao', co', he2, hER⟩ := own_ents hown
      rw [hev] at he2
      cases he2
      subst hev
      have h6 := (h3.keep hf36).keep hfr
      by_cases hris : risesE ow = true
      ·rw [if_pos ⟨HGS.out, hris⟩] at hO1
       subst hO1
       have HL81 : ∀ t ∈ L1, B8 t := by
        rw [← HL1.out]
        unfold digL
        intro t ht
        split at ht
        ·exact HL8.out t ht
        ·rcases List.mem_append.1 ht with h | h
         ·exact HL8.out t h
         ·rw [List.mem_singleton.1 h]; exact b8_sayB _
       have HP := Lib.hid (ref06_Prove h6.rb HL81 h6.bD_le (by have := HN1.out; omega) hER hol hris hoc hzo)
       have HER := Lib.hid hER
       clear HL81 hown hER hie hge
       go_upto_region 52 with (first
        | (go_at_call 52; refine HP.out.mono ?_; rintro e w8 ⟨EA, ce, BA, bc, v8, rfl, hE8, hV8, hb8, hf8, hk8⟩)
        | (refine wpList_store_new rfl 60 (.tmp 27) (.tmp 208) rfl _ _ rfl rfl (by kernel_rfl) rfl (by simp [Value.oneCell']) ?_))
       obtain ⟨bl, hbl⟩ : ∃ bl, Hid ((besideOf L1 ow).length = bl) := ⟨_, rfl⟩
       obtain ⟨_, hst8⟩ := h6.stepD hb8 hf8
       have hXr := hX6.fr hfr id
       have hX8 := hst8.blk _ _ _ hXr (by decide)
       have hBs8 := hst8.blk _ _ _ hBsr (by decide)
       have hz8 := hf8.size
       have hDw : ∀ j, w3.heap.size ≤ j → ¬ (j = gD ∨ v3.ownBlock = some j) := fun j hj e => by
        rcases e with e | e
        ·have := h3.rb.blk.lt; omega
        ·obtain ⟨vals, h1, _⟩ := h3.rb.row
         obtain ⟨cs, hB⟩ := own_cells h1 e
         have := hB.lt
         omega
       have HI8 := Lib.hid ((HI6.out.fr hfr (fun _ _ => id)).fr hf8 (fun j hj => hDw j hj.1))
       have hf08 : Fr (fun k => k = gD ∨ vD.ownBlock = some k) w w8 := (hf03.then_ (hf36.then_ hfr)).trans hf8 (fun j hj e => by
        rcases e with e | e
        ·exact .inl e
        ·rcases HK3.out j e with h | h
         ·exact .inr h
         ·omega)
       have HK8 : Hid (∀ k, v8.ownBlock = some k → vD.ownBlock = some k ∨ w.heap.size ≤ k) := fun j hj => by
        rcases hk8 j hj with h | h
        ·exact HK3.out j h
        ·have := (hf36.then_ hfr).size; exact .inr (by omega)
       have hgOr : gO < wr.heap.size := hXr.lt
       clear hX6 hBs6 hBsr hXr HI6 hst8 hDw hk8 hf03 HK3 h6 HP HER
       have hfa := (Fr.refl (fun _ => False) w8).alloc (Obj.cells #[.int .i64 ow.length, .int .i64 0, .slice EA ow.length ce, .slice BA (besideOf L1 ow).length bc] 60)
       have hPb := Blk.new w8 60 #[.int .i64 ow.length, .int .i64 0, .slice EA ow.length ce, .slice BA (besideOf L1 ow).length bc]
       have hX9 := hX8.fr hfa id
       have hBs9 := hBs8.fr hfa id
       have HI9 := Lib.hid (HI8.out.fr hfa (fun _ _ => id))
       have hE9 := hE8.fr hfa (fun _ _ => id)
       have hV9 := hV8.fr hfa (fun _ _ => id)
       have hgP : gO < w8.heap.size := hX8.lt
       generalize w8.alloc (Obj.cells #[.int .i64 ow.length, .int .i64 0, .slice EA ow.length ce, .slice BA (besideOf L1 ow).length bc] 60) = w9 at *
       obtain ⟨gP, hgPe⟩ : ∃ x, Hid (w8.heap.size = x) := ⟨_, rfl⟩
       have hz8g : w8.heap.size ≤ gP := Nat.le_of_eq hgPe.out
       rw [hgPe.out] at hPb ⊢
       clear hX8 hBs8 HI8 hE8 hV8
       have x0 := hX9.cell 0
       have z0 := hX9.frozen 0
       go_upto_region 55 with fail
       have hfs : Fr (fun k => k = gO) w9 (w9.setCell ⟨gO, 0, none⟩ (.int .i64 4)) := (Fr.refl (fun k => k = gO) w9).setCell (p := ⟨gO, 0, none⟩) (fun _ => rfl) _
       have hX10 : Blk (w9.setCell ⟨gO, 0, none⟩ (.int .i64 4)) gO 62 #[.int .i64 4, .int .i64 0, .int .i64 0, .slice none 0 0, .slice none 0 0, .int .i64 kind, .int .i64 txn, .bool yes, .string ff, .string tt, .int .i64 epoch, .int .i64 shard, .int .i64 target, .int .i64 root, .int .i64 G, .int .i64 D, .slice CA xs.length cc, .int .i64 0, .int .i64 0, .slice none 0 0, .slice none 0 0] := hX9.set_ 0 _
       have hPb10 := hPb.fr hfs (fun e => by omega)
       have hBs10 := hBs9.fr hfs (fun e => by omega)
       have hb10 := (hb8.keep hfa).fr hfs ((hb8.keep hfa).blk.ne_ hX9 (by decide)) (fun j hj e => by obtain ⟨vals, h1, _⟩ := (hb8.keep hfa).row; exact own_ne_blk h1 hX9 (by decide) (e ▸ hj)) (fun b hb e => hb.ne_blk hX9 (by decide) e)
       have hf010 := (hf08.then_ hfa).trans hfs (fun j hj e => by omega)
       have HI10 := Lib.hid (HI9.out.fr hfs (fun j hj e => by have := hj.2; omega))
       have hE10 := hE9.fr hfs (fun j hj e => by omega)
       have hV10 := hV9.fr hfs (fun j hj e => by omega)
       clear hX9 hPb hBs9 HI9 hE9 hV9 x0 z0 hfs hfa hb8 hf8 hf08
       generalize w9.setCell ⟨gO, 0, none⟩ (.int .i64 4) = w10 at *
       have hth : w10.there gO 17 4 := hX10.there (Nat.le_of_ble_eq_true rfl)
       go_upto_region 56 with (first
        | (refine wpList_load_row rfl 60 _ rfl _ rfl _ _ (0, 0) _ hPb10 Tryz.underlying60 rfl (by kernel_rfl) ?_)
        | (refine wpList_store_mid rfl 60 (.tmp 214) (.tmp 213) rfl gO 17 #[.int .i64 ow.length, .int .i64 0, .slice EA ow.length ce, .slice BA (besideOf L1 ow).length bc] rfl rfl hth (by kernel_rfl) (by simp [Value.oneCell']) ?_))
       have hXa0 : Blk (w10.setCell ⟨gO, 17, none⟩ (.int .i64 ow.length)) gO 62 #[.int .i64 4, .int .i64 0, .int .i64 0, .slice none 0 0, .slice none 0 0, .int .i64 kind, .int .i64 txn, .bool yes, .string ff, .string tt, .int .i64 epoch, .int .i64 shard, .int .i64 target, .int .i64 root, .int .i64 G, .int .i64 D, .slice CA xs.length cc, .int .i64 ow.length, .int .i64 0, .slice none 0 0, .slice none 0 0] := hX10.set_ 17 _
       have hXa1 : Blk ((w10.setCell ⟨gO, 17, none⟩ (.int .i64 ow.length)).setCell ⟨gO, 18, none⟩ (.int .i64 0)) gO 62 #[.int .i64 4, .int .i64 0, .int .i64 0, .slice none 0 0, .slice none 0 0, .int .i64 kind, .int .i64 txn, .bool yes, .string ff, .string tt, .int .i64 epoch, .int .i64 shard, .int .i64 target, .int .i64 root, .int .i64 G, .int .i64 D, .slice CA xs.length cc, .int .i64 ow.length, .int .i64 0, .slice none 0 0, .slice none 0 0] := hXa0.set_ 18 _
       have hXa2 : Blk (((w10.setCell ⟨gO, 17, none⟩ (.int .i64 ow.length)).setCell ⟨gO, 18, none⟩ (.int .i64 0)).setCell ⟨gO, 19, none⟩ (.slice EA ow.length ce)) gO 62 #[.int .i64 4, .int .i64 0, .int .i64 0, .slice none 0 0, .slice none 0 0, .int .i64 kind, .int .i64 txn, .bool yes, .string ff, .string tt, .int .i64 epoch, .int .i64 shard, .int .i64 target, .int .i64 root, .int .i64 G, .int .i64 D, .slice CA xs.length cc, .int .i64 ow.length, .int .i64 0, .slice EA ow.length ce, .slice none 0 0] := hXa1.set_ 19 _
       have hXa3 : Blk ((((w10.setCell ⟨gO, 17, none⟩ (.int .i64 ow.length)).setCell ⟨gO, 18, none⟩ (.int .i64 0)).setCell ⟨gO, 19, none⟩ (.slice EA ow.length ce)).setCell ⟨gO, 20, none⟩ (.slice BA (besideOf L1 ow).length bc)) gO 62 #[.int .i64 4, .int .i64 0, .int .i64 0, .slice none 0 0, .slice none 0 0, .int .i64 kind, .int .i64 txn, .bool yes, .string ff, .string tt, .int .i64 epoch, .int .i64 shard, .int .i64 target, .int .i64 root, .int .i64 G, .int .i64 D, .slice CA xs.length cc, .int .i64 ow.length, .int .i64 0, .slice EA ow.length ce, .slice BA (besideOf L1 ow).length bc] := hXa2.set_ 20 _
       have hfs : Fr (fun k => k = gO) w10 ((((w10.setCell ⟨gO, 17, none⟩ (.int .i64 ow.length)).setCell ⟨gO, 18, none⟩ (.int .i64 0)).setCell ⟨gO, 19, none⟩ (.slice EA ow.length ce)).setCell ⟨gO, 20, none⟩ (.slice BA (besideOf L1 ow).length bc)) := (((((Fr.refl (fun k => k = gO) w10).setCell (p := ⟨gO, 17, none⟩) (fun _ => rfl) (.int .i64 ow.length)).setCell (p := ⟨gO, 18, none⟩) (fun _ => rfl) (.int .i64 0)).setCell (p := ⟨gO, 19, none⟩) (fun _ => rfl) (.slice EA ow.length ce)).setCell (p := ⟨gO, 20, none⟩) (fun _ => rfl) (.slice BA (besideOf L1 ow).length bc))
       have hBs11 := hBs10.fr hfs (fun e => by omega)
       have hb11 := hb10.fr hfs (hb10.blk.ne_ hX10 (by decide)) (fun j hj e => by obtain ⟨vals, h1, _⟩ := hb10.row; exact own_ne_blk h1 hX10 (by decide) (e ▸ hj)) (fun b hb e => hb.ne_blk hX10 (by decide) e)
       have hf011 := hf010.trans hfs (fun j hj e => by omega)
       have HI11 := Lib.hid (HI10.out.fr hfs (fun j hj e => by have := hj.2; omega))
       have hE11 := hE10.fr hfs (fun j hj e => by omega)
       have hV11 := hV10.fr hfs (fun j hj e => by omega)
       clear hXa0 hXa1 hXa2 hX10 hPb10 hBs10 hb10 hf010 HI10 hE10 hV10 hth hfs
       generalize hw11 : (((w10.setCell ⟨gO, 17, none⟩ (.int .i64 ow.length)).setCell ⟨gO, 18, none⟩ (.int .i64 0)).setCell ⟨gO, 19, none⟩ (.slice EA ow.length ce)).setCell ⟨gO, 20, none⟩ (.slice BA (besideOf L1 ow).length bc) = w11 at *
       rw [show (w10.setCells gO 17 #[.int .i64 ow.length, .int .i64 0, .slice EA ow.length ce, .slice BA (besideOf L1 ow).length bc].toList) = w11 from hw11]
       clear hw11
       have HTK : Calls Tryz.prog 50 #[.int .i64 (target + 1), .agg #[.int .i64 4, .int .i64 0, .int .i64 0, .slice none 0 0, .slice none 0 0, .int .i64 kind, .int .i64 txn, .bool yes, .string ff, .string tt, .int .i64 epoch, .int .i64 shard, .int .i64 target, .int .i64 root, .int .i64 G, .int .i64 D, .slice CA xs.length cc, .int .i64 ow.length, .int .i64 0, .slice EA ow.length ce, .slice BA (besideOf L1 ow).length bc]] w11 (TasksP w11 [target + 1] (ordBB (sayB ⟨kind, txn, yes, ff, tt, epoch, shard, target, root⟩) (certB G D xs) (some ⟨[target + 1], 4, [], ow, besideOf L1 ow⟩))) := sem_task0 (F := fun _ => True) (s := ⟨kind, txn, yes, ff, tt, epoch, shard, target, root⟩) (G := G) (D := D) (xs := xs) (o := ⟨[target + 1], 4, [], ow, besideOf L1 ow⟩) (HSM.out _ rfl) HOK.out (CA := CA) (cc := cc) (EA := EA) (VA := BA) (ce := ce) (cv := bc) HG0.out ⟨by have := HDB.out; omega, by have := HDB.out; omega⟩ HXL.out HXE.out (HI11.out.mono_ (fun _ _ => trivial)) (hE11.mono_ (fun _ _ => trivial)) (hV11.mono_ (fun _ _ => trivial)) (target + 1) (by show ¬ (4 : Int) = 1; decide)
       have hLL : ordL L1 (some ⟨[target + 1], 4, [], ow, besideOf L1 ow⟩) = bookOf L1 ow := by show (if (4 : Int) = 4 then bookOf L1 ow else L1) = bookOf L1 ow; exact if_pos rfl
       obtain ⟨bb, hbb⟩ : ∃ b, Hid (ordBB (sayB ⟨kind, txn, yes, ff, tt, epoch, shard, target, root⟩) (certB G D xs) (some ⟨[target + 1], 4, [], ow, besideOf L1 ow⟩) = b) := ⟨_, rfl⟩
       rw [hbb.out] at HTK
       replace HTK := Lib.hid HTK
       replace hLL := Lib.hid hLL
       have y7 := hBs11.cell 7
       go_wp2_with (first
        | (refine wpList_load_row rfl 62 _ rfl _ rfl _ _ (0, 0) _ hXa3 Tryz.underlying62 rfl (by kernel_rfl) ?_)
        | (go_at_call 50; refine HTK.out.mono ?_; rintro e w12 ⟨tv, rfl, hT12, hf12⟩))
       go_ret
       rw [HXS.out, hbb.out, hLL.out]
       exact ROrd.end_ (hT12.base_ hf011.size) hb11 hf011 HK8.out hf12
      ·rw [if_neg (fun h => hris h.2)] at hO1
       subst hO1
       have HP := Lib.hid (ref06_Prove_bad (cap := co) hER (by omega) (by simpa using hris) (.pointer (some ⟨gD, 0, none⟩)))
       clear hown hER hie hge
       go_upto_region 52 with (first
        | (go_at_call 52; refine HP.out.mono ?_; rintro e w8 ⟨rfl, hf8⟩)
        | (refine wpList_store_new rfl 60 (.tmp 27) (.tmp 208) rfl _ _ rfl rfl (by kernel_rfl) rfl (by simp [Value.oneCell']) ?_))
       have hfa := hf8.alloc (Obj.cells #[.int .i64 0, .int .i64 0, .slice none 0 0, .slice none 0 0] 60)
       generalize w8.alloc (Obj.cells #[.int .i64 0, .int .i64 0, .slice none 0 0, .slice none 0 0] 60) = w9 at *
       go_wp2_with fail
       go_ret
       exact ROrd.end_ (TasksAt.nil _ _ _) h3.rb hf03 HK3.out ((hf36.then_ hfr).then_ hfa)
   ·rw [if_neg (fun h => hGs h.1)] at hO1
    have hGs' : (G == shard + 1) = false := beq_eq_false_iff_ne.2 hGs
    clear hG hk2 hk6 hk5 hGs
    subst hO1
    go_wp2_with fail
    go_ret
    exact ROrd.end_ (TasksAt.nil _ _ _) h3.rb hf03 HK3.out hf36
  rw [if_neg (by exact hk5)] at hO1
  have hk5' : (kind == 5) = false := beq_eq_false_iff_ne.2 hk5
  clear hG hk2 hk6 hk5
  subst hO1
  go_wp2_with fail
  go_ret
  exact ROrd.end_ (TasksAt.nil _ _ _) h3.rb hf03 HK3.out hf36
end Go.Proofs.YtmkdhhhoodeemaaGreat
namespace Go.Proofs.YtmkdhhhoodeemaaGreat
open Go Go.RowKit
attribute [local go_sem ↓] run_neqSay2
structure CrtT (w : World) (lo gw : Nat) (G kind txn : Int) (yes : Bool) (ff tt : ByteArray) (epoch shard target root : Int) (c n : Int) (RA : Option Addr) (nr cr : Nat) (WA : Option Addr) (nw cw : Nat) (L : List (List Int)) (SL : List (Int × Int)) (w' : World) : Prop where
 hH : Blk w' w.heap.size 25 #[.int .i64 G, .int .i64 kind, .int .i64 txn, .bool yes, .string ff, .string tt, .int .i64 epoch, .int .i64 shard, .int .i64 target, .int .i64 root]
 hT : Blk w' (w.heap.size + 1) 29 #[.int .i64 c, .int .i64 n, .slice RA nr cr, .slice WA nw cw]
 ws : ∃ g m base v gs ms gD bD vD gQ bQ vQ, WSAt w' lo gw g m base v L gs ms SL gD bD vD L gQ bQ vQ SL
 fr : Fr (fun k => w.heap.size ≤ k) w w'
theorem WS.zero {w : World} {lo gw : Nat} {L LD : List (List Int)} {SL : List (Int × Int)} (h : WS w lo gw L SL LD 0) : ∃ g m base v gs ms gD bD vD gQ bQ vQ, WSAt w lo gw g m base v L gs ms SL gD bD vD LD gQ bQ vQ [] := by
 obtain ⟨g, m, base, v, gs, ms, gD, bD, vD, gQ, bQ, vQ, SQ, h, hq⟩ := h
 obtain rfl : SQ = [] := List.eq_nil_of_length_eq_zero (by omega)
 exact ⟨g, m, base, v, gs, ms, gD, bD, vD, gQ, bQ, vQ, h⟩
end Go.Proofs.YtmkdhhhoodeemaaGreat
namespace Go.Proofs.YtmkdhhhoodeemaaGreat
open Go Go.RowKit
theorem both_ord {L : List (List Int)} {SL : List (Int × Int)} (hGL : GoodL L) (hL : L.length < 60000) (hL8 : ∀ t ∈ L, B8 t) (hpos : ∀ t ∈ L, 0 < t.length) (hSL : SL.length ≤ 1099511627776) (f G kind txn : Int) (yes : Bool) (ff tt : ByteArray) (epoch shard target root : Int) (ss : List Int) (hsl : ss.length ≤ 40) (l : List Ent) (hll : l.length ≤ 60000) :
  ∃ (gg bb : List Int) (L' : List (List Int)), gg.length ≤ 42 ∧ L'.length ≤ 65000 ∧
   (∀ {w : World} {g m base : Nat} {v : Value} {gs ms : Nat} (_ : BS w g m base v L gs ms SL) (_ : base ≤ w.heap.size) {bS : Nat} {SA : Option Addr} {sc : Nat} (_ : IntRow w bS SA ss) (_ : bS ≤ w.heap.size) (_ : ∀ b, b < bS → ¬ (b = g ∨ b = m ∨ v.ownBlock = some b)) {FE : Nat → Prop} {LA : Option Addr} {lc : Nat} (_ : EntRow w FE LA l) (_ : ∀ k, FE k → ¬ (k = g ∨ k = m ∨ v.ownBlock = some k)),
    Calls Tryz.prog 15 #[.pointer (some ⟨g, 0, none⟩), .pointer (some ⟨gs, 0, none⟩), .int .i64 f, .agg #[.int .i64 G, .int .i64 kind, .int .i64 txn, .bool yes, .string ff, .string tt, .int .i64 epoch, .int .i64 shard, .int .i64 target, .int .i64 root], .slice SA ss.length sc, .slice LA l.length lc] w (OrdStep w g m base v L' gs ms SL gg bb)) ∧
   (∀ {w : World} {lo gw g m base : Nat} {v : Value} {LP : List (List Int)} {gs ms : Nat} {SP : List (Int × Int)} {gD bD : Nat} {vD : Value} {gQ bQ : Nat} {vQ : Value} (_ : WSAt w lo gw g m base v LP gs ms SP gD bD vD L gQ bQ vQ SL) {bS : Nat} {SA : Option Addr} {sc : Nat} (_ : IntRow w bS SA ss) (_ : bS ≤ lo) {FE : Nat → Prop} {LA : Option Addr} {lc : Nat} (_ : EntRow w FE LA l) (_ : ∀ k, FE k → k < lo),
    Calls Tryz.prog 16 #[.pointer (some ⟨gD, 0, none⟩), .pointer (some ⟨gQ, 0, none⟩), .int .i64 f, .agg #[.int .i64 G, .int .i64 kind, .int .i64 txn, .bool yes, .string ff, .string tt, .int .i64 epoch, .int .i64 shard, .int .i64 target, .int .i64 root], .slice SA ss.length sc, .slice LA l.length lc] w (ROrd w gD bD vD L' gg bb)) := by
 by_cases hf : 0 ≤ f ∧ f ≤ 3
 ·by_cases hok : OkSay ⟨kind, txn, yes, ff, tt, epoch, shard, target, root⟩
  ·obtain ⟨O, hO⟩ : ∃ O, ordA L SL f G ⟨kind, txn, yes, ff, tt, epoch, shard, target, root⟩ ss l = O := ⟨_, rfl⟩
   have hlen := ordA_len hO
   have h1 := sayL_len L ⟨kind, txn, yes, ff, tt, epoch, shard, target, root⟩
   refine ⟨ordG O, _, ordL (sayL L ⟨kind, txn, yes, ff, tt, epoch, shard, target, root⟩) O, by omega, ?_, fun hb hbase _ _ _ hSh hbS hSA _ _ _ hE hFE => orders_sem hb hbase hL hGL hf hSh hbS hSA (by omega) hE hFE hll hO, fun h _ _ _ hSh hbS _ _ _ hE hFE => ref19_Orders h hGL hL hL8 hpos hSL hf hok hSh hbS (by omega) hE hFE hll hO⟩
   have h2 : (ordL (sayL L ⟨kind, txn, yes, ff, tt, epoch, shard, target, root⟩) O).length ≤ (sayL L ⟨kind, txn, yes, ff, tt, epoch, shard, target, root⟩).length + 1 := by
    cases O with
    | none => exact Nat.le_succ _
    | some o =>
     show (if o.kind = 4 then bookOf (sayL L ⟨kind, txn, yes, ff, tt, epoch, shard, target, root⟩) o.own else sayL L ⟨kind, txn, yes, ff, tt, epoch, shard, target, root⟩).length ≤ _
     split
     ·unfold bookOf
      split
      ·unfold digL
       split
       ·omega
       ·simp
      ·omega
     ·omega
   omega
  ·refine ⟨[], [], L, by simp, by omega, fun hb hbase _ _ _ _ _ _ _ _ _ _ _ => orders_bad hb hbase (by omega) hok hf, fun h _ _ _ _ _ _ _ _ _ _ => (ref19_Orders_bad (.inr hok)).mono ?_⟩
   rintro e w' ⟨rfl, hfr⟩
   exact ⟨_, _, rfl, TasksAt.nil _ _ _, h.rb.keep hfr, hfr.mono (fun _ _ h => h.elim), fun k hk => .inl hk⟩
 ·have hf' : f < 0 ∨ 3 < f := by omega
  refine ⟨[], [], L, by simp, by omega, fun {w g m base v gs ms} hb hbase _ _ _ _ _ _ _ _ _ _ _ => (orders_badf hf').mono ?_, fun h _ _ _ _ _ _ _ _ _ _ => (ref19_Orders_bad (.inl hf')).mono ?_⟩
  ·rintro e w' ⟨rfl, hfr⟩
   exact ⟨_, _, rfl, TasksAt.nil _ _ _, hb.keep hfr, hfr.mono (fun _ _ h => h.elim), fun k hk => .inl hk⟩
  ·rintro e w' ⟨rfl, hfr⟩
   exact ⟨_, _, rfl, TasksAt.nil _ _ _, h.rb.keep hfr, hfr.mono (fun _ _ h => h.elim), fun k hk => .inl hk⟩
theorem relayOrders_walk {w : World} {f G mask kind txn : Int} {yes : Bool} {ff tt : ByteArray} {epoch shard target root : Int} {c n : Int} {RA WA : Option Addr} {cr cw : Nat} {R : List (ByteArray × Int)} {W : List (ByteArray × ByteArray)} {SA LA : Option Addr} {sc lc : Nat} {ss : List Int} {l : List Ent}
    (hr : ReadRow w (fun k => k < w.heap.size) RA R) (hw : WriteRow w (fun k => k < w.heap.size) WA W) (lR : R.length ≤ 9223372036854775807) (lW : W.length ≤ 9223372036854775807) (hSh : IntRow w w.heap.size SA ss) (hE : EntRow w (fun k => k < w.heap.size) LA l) :
    Calls Tryz.prog 3 #[.int .i64 f, .agg #[.int .i64 G, .int .i64 kind, .int .i64 txn, .bool yes, .string ff, .string tt, .int .i64 epoch, .int .i64 shard, .int .i64 target, .int .i64 root], .int .i64 mask, .agg #[.int .i64 c, .int .i64 n, .slice RA R.length cr, .slice WA W.length cw], .slice SA ss.length sc, .slice LA l.length lc] w (Bool1 w true) := by
  have hH0 := (Blk.new w 25 #[.int .i64 G, .int .i64 kind, .int .i64 txn, .bool yes, .string ff, .string tt, .int .i64 epoch, .int .i64 shard, .int .i64 target, .int .i64 root]).alloc (Obj.cells #[.int .i64 c, .int .i64 n, .slice RA R.length cr, .slice WA W.length cw] 29)
  have hT0 : Blk ((w.alloc (Obj.cells #[.int .i64 G, .int .i64 kind, .int .i64 txn, .bool yes, .string ff, .string tt, .int .i64 epoch, .int .i64 shard, .int .i64 target, .int .i64 root] 25)).alloc (Obj.cells #[.int .i64 c, .int .i64 n, .slice RA R.length cr, .slice WA W.length cw] 29)) (w.heap.size + 1) 29 #[.int .i64 c, .int .i64 n, .slice RA R.length cr, .slice WA W.length cw] := Blk.new_ _ _ _ (by simp)
  have hf0 : Fr (fun _ => False) w ((w.alloc (Obj.cells #[.int .i64 G, .int .i64 kind, .int .i64 txn, .bool yes, .string ff, .string tt, .int .i64 epoch, .int .i64 shard, .int .i64 target, .int .i64 root] 25)).alloc (Obj.cells #[.int .i64 c, .int .i64 n, .slice RA R.length cr, .slice WA W.length cw] 29)) := ((Fr.refl _ _).alloc _).alloc _
  have HR := Lib.hid hr
  have HW := Lib.hid hw
  have HSH := Lib.hid hSh
  have HEN := Lib.hid hE
  clear hr hw hSh hE
  go_enter Tryz.func3, Tryz.ntmps3
  go_upto_region 1 with fail
  generalize ((w.alloc (Obj.cells #[.int .i64 G, .int .i64 kind, .int .i64 txn, .bool yes, .string ff, .string tt, .int .i64 epoch, .int .i64 shard, .int .i64 target, .int .i64 root] 25)).alloc (Obj.cells #[.int .i64 c, .int .i64 n, .slice RA R.length cr, .slice WA W.length cw] 29)) = w0 at *
  go_upto_region 2 with (go_at_call 8; refine (law19_head _).mono ?_; rintro e w1 ⟨rfl, hf1⟩)
  have hH1 := hH0.fr hf1 id
  have hT1 := hT0.fr hf1 id
  have hf01 := hf0.then_ hf1
  clear hH0 hT0 hf0 hf1
  go_upto_region 3 with (go_at_call 9; refine (law12_Start _).mono ?_; rintro e w2 ⟨gw, rfl, hgw, h2, hf2⟩)
  have hH2 := hH1.fr hf2 id
  have hT2 := hT1.fr hf2 id
  have hst2 : St w1.heap.size w1 w2 := St.of _ hf2
  have hH1lt := hH1.lt
  clear hf2
  have k1 := hH2.cell 1
  have k2 := hH2.cell 2
  have k3 := hH2.cell 3
  have k4 := hH2.cell 4
  have k5 := hH2.cell 5
  have k6 := hH2.cell 6
  have k7 := hH2.cell 7
  have k8 := hH2.cell 8
  have k9 := hH2.cell 9
  have t0 := hT2.cell 0
  have t1 := hT2.cell 1
  have t2 := hT2.cell 2
  have t3 := hT2.cell 3
  have HGr := Lib.hid (fun w => law19_GreatA (w := w) (kind := kind) (txn := txn) (yes := yes) (ff := ff) (tt := tt) (epoch := epoch) (shard := shard) (target := target) (root := root) (c := c) (n := n) (RA := RA) (WA := WA) (nr := R.length) (nw := W.length) (cr := cr) (cw := cw) (A := LA) (SA := SA) (nl := l.length) (cap := lc) (ns := ss.length) (sc := sc) lR lW)
  cases hgr : greatA ff tt (wrap64 ((R.length : Int) + (W.length : Int))) l.length ss.length with
  | true =>
    rw [hgr] at HGr
    clear hgr lR lW
    go_wp2_with (go_at_call 10; refine (HGr.out _).mono ?_; rintro e w3 ⟨rfl, hf3⟩)
    go_ret
    exact ⟨rfl, hf01.trans ((hst2.trans (St.of _ hf3)).fr) (fun k hk e => by have := hf01.size; omega)⟩
  | false =>
    rw [hgr] at HGr
    have HLL := Lib.hid (greatA_no lR lW hgr)
    clear hgr lR lW
    go_upto_region 5 with (go_at_call 10; refine (HGr.out _).mono ?_; rintro e w3 ⟨rfl, hf3⟩)
    have hH3 := hH2.fr hf3 id
    have hT3 := hT2.fr hf3 id
    have h3 := h2.keep hf3
    have hst3 := hst2.trans (St.of _ hf3)
    clear HGr hH2 hT2 h2 hst2 hf3 k1 k2 k3 k4 k5 k6 k7 k8 k9 t0 t1 t2 t3
    have hfw3 : Fr (fun k => w.heap.size ≤ k) w w3 := (hf01.mono (T := fun k => w.heap.size ≤ k) (fun _ _ h => h.elim)).trans hst3.fr (fun k _ e => by have := hf01.size; omega)
    have t0 := hT3.cell 0
    have t1 := hT3.cell 1
    have t2 := hT3.cell 2
    have t3 := hT3.cell 3
    have HTX := Lib.hid (law12_Txn0 (cr := cr) (cw := cw) (c := c) (n := n) h3 (HR.out.fr hfw3 (fun k hk e => by omega)) (HW.out.fr hfw3 (fun k hk e => by omega)))
    obtain ⟨d, hd⟩ : ∃ d, Hid (txnI c n R W = d) := ⟨_, rfl⟩
    rw [hd.out] at HTX
    clear h3
    go_upto_region 6 with (go_at_call 11; refine HTX.out.mono ?_; rintro e w4 ⟨rfl, h4, hst4⟩)
    have hH4 := hst4.blk _ _ _ hH3 (by decide)
    have hT4 := hst4.blk _ _ _ hT3 (by decide)
    have hfw4 := hfw3.trans hst4.fr (fun k hk e => by have := hf01.size; omega)
    have hlo : w.heap.size ≤ w1.heap.size := hf01.size
    obtain ⟨LT, hLT⟩ : ∃ LT, Hid (txnL c n R W = LT) := ⟨_, rfl⟩
    rw [hLT.out] at h4
    clear HTX hH3 hT3 hst3 hst4 hfw3 t0 t1 t2 t3
    have k2 := hH4.cell 2
    have z2 := hH4.frozen 2
    go_cut [49] from 42 to 49 (fun b wx => (∃ z : Bool, b = .bool z ∧ ((z = true ∧ 0 ≤ d ∧ txn < 0) ∨ (z = false ∧ ¬ (0 ≤ d ∧ txn < 0)))) ∧ wx = w4)
    case first =>
      by_cases a1 : 0 ≤ d
      · by_cases a2 : txn < 0
        · clear hd
          go_wp2_with fail
          go_meet
          exact ⟨⟨_, rfl, .inl ⟨rfl, a1, a2⟩⟩, rfl⟩
        · clear hd
          go_wp2_with fail
          go_meet
          exact ⟨⟨_, rfl, .inr ⟨rfl, by omega⟩⟩, rfl⟩
      · clear hd
        go_wp2_with fail
        go_meet
        exact ⟨⟨_, rfl, .inr ⟨rfl, by omega⟩⟩, rfl⟩
    case rest =>
     obtain ⟨⟨z, rfl, hz⟩, hwc⟩ := hcut
     rw [hwc]
     clear hwc
     replace hz := Lib.hid hz
     go_upto_if 49 with fail
     go_cut [49] from 50 to 52 (fun _ wx => CrtT w w1.heap.size gw G kind (txnN d txn) yes ff tt epoch shard target root c n RA R.length cr WA W.length cw LT [] wx)
     case first =>
      cases z with
      | true =>
        have hN : Hid (txnN d txn = d) := by
          rcases hz.out with h | h
          · exact if_pos h.2
          · exact absurd h.1 (by decide)
        go_wp2_with fail
        go_meet
        obtain ⟨g, m, base, v, gs, ms, gD, bD, vD, gQ, bQ, vQ, h4⟩ := h4.zero
        have hfs : Fr (fun j => j = w.heap.size) w4 (w4.setCell ⟨w.heap.size, 2, none⟩ (.int .i64 d)) := (Fr.refl (fun j => j = w.heap.size) w4).setCell (p := ⟨w.heap.size, 2, none⟩) (fun _ => rfl) _
        have hHs := hH4.set_ 2 (.int .i64 d)
        rw [hN.out]
        exact ⟨hHs, hT4.fr hfs (fun e => by omega), ⟨g, m, base, v, gs, ms, gD, bD, vD, gQ, bQ, vQ, h4.far hfs (fun j hj => ⟨_, _, hj ▸ hH4, by decide⟩)⟩, hfw4.trans hfs (fun k hk e => by omega)⟩
      | false =>
        have hN : Hid (txnN d txn = txn) := by
          rcases hz.out with h | h
          · exact absurd h.1 (by decide)
          · exact if_neg h.2
        go_wp2_with fail
        go_meet
        rw [hN.out]
        exact ⟨hH4, hT4, h4.zero, hfw4⟩
     case rest =>
      obtain ⟨hH5, hT5, ⟨g, m, base, v, gs, ms, gD, bD, vD, gQ, bQ, vQ, h5⟩, hfw5⟩ := hcut
      clear hH4 hT4 h4 hfw4 k2 z2
      generalize wc = w5 at *
      obtain ⟨tn, htn⟩ : ∃ tn, Hid (txnN d txn = tn) := ⟨_, rfl⟩
      rw [htn.out] at hH5
      have k1 := hH5.cell 1
      have k2 := hH5.cell 2
      have k3 := hH5.cell 3
      have k4 := hH5.cell 4
      have k5 := hH5.cell 5
      have k6 := hH5.cell 6
      have k7 := hH5.cell 7
      have k8 := hH5.cell 8
      have k9 := hH5.cell 9
      have HP := ref11_Put1 w5 kind tn yes ff tt epoch shard target root
      obtain ⟨bs, hbs⟩ : ∃ bs, Hid ((if OkSay ⟨kind, tn, yes, ff, tt, epoch, shard, target, root⟩ then sayB ⟨kind, tn, yes, ff, tt, epoch, shard, target, root⟩ else []) = bs) := ⟨_, rfl⟩
      rw [hbs.out] at HP
      have hbz : Hid (bs.length = 0 ↔ ¬ OkSay ⟨kind, tn, yes, ff, tt, epoch, shard, target, root⟩) := by
        show _ ↔ _
        rw [← hbs.out]
        by_cases hok : OkSay ⟨kind, tn, yes, ff, tt, epoch, shard, target, root⟩
        · rw [if_pos hok]
          have := (sayB_length hok).1
          exact ⟨fun h => by omega, fun h => absurd hok h⟩
        · rw [if_neg hok]
          simp [hok]
      replace HP := Lib.hid HP
      go_upto_if 58 with (go_at_call 12; refine HP.out.mono ?_; rintro e w6 ⟨v6, rfl, hv6, hf6⟩; obtain ⟨A6, cap6, rfl, _, _⟩ := hv6.form)
      have hH6 := hH5.fr hf6 id
      have hT6 := hT5.fr hf6 id
      have h6 := h5.keep hf6
      have hfw6 := hfw5.then_ hf6
      clear hH5 hT5 h5 hfw5 hf6 HP k1 k2 k3 k4 k5 k6 k7 k8 k9
      go_cut [58] from 59 to 66 (fun _ wx => CrtT w w1.heap.size gw G kind tn yes ff tt epoch shard target root c n RA R.length cr WA W.length cw (sayL LT ⟨kind, tn, yes, ff, tt, epoch, shard, target, root⟩) (crtS G mask LT ⟨kind, tn, yes, ff, tt, epoch, shard, target, root⟩) wx ∧ Own8 wx w5.heap.size (.slice A6 bs.length cap6) bs)
      case first =>
        by_cases hok : OkSay ⟨kind, tn, yes, ff, tt, epoch, shard, target, root⟩
        · have hbs1 : sayB ⟨kind, tn, yes, ff, tt, epoch, shard, target, root⟩ = bs := by have := hbs.out; rw [if_pos hok] at this; exact this
          have hyl : Hid (bs.length ≤ 65536) := by
            obtain ⟨q1, q2, q3⟩ := sayB_length hok
            show _ ≤ _
            rw [← hbs1]
            dsimp only at q1 q2 q3
            omega
          have hy8 : Hid (B8 bs) := by show B8 bs; rw [← hbs1]; exact b8_sayB _
          have hpos : (0 : Int) < (bs.length : Int) := by
            have := hbz.out
            rcases Nat.eq_zero_or_pos bs.length with h | h
            · exact absurd hok (this.1 h)
            · omega
          have hG0 : GoodL LT := by rw [← hLT.out]; exact txnL_good _ _ _ _
          have hL0 : LT.length ≤ 1 := by rw [← hLT.out]; exact txnL_len _ _ _ _
          have HD := law12_Digest (nQ := 0) ⟨g, m, base, v, gs, ms, gD, bD, vD, gQ, bQ, vQ, [], h6.keep ((Fr.refl (fun _ => False) w6).drew), Nat.le_refl _⟩ hG0 (List.prefix_refl _) (by omega) (hv6.fr ((Fr.refl (fun _ => False) w6).drew) (fun _ _ => id)) hy8.out hyl.out
          replace HD := Lib.hid HD
          have HSL : Hid (sayL LT ⟨kind, tn, yes, ff, tt, epoch, shard, target, root⟩ = digL LT bs) := by show _ = _; rw [sayL, if_pos hok, hbs1]
          have HSI : Hid (sayI LT ⟨kind, tn, yes, ff, tt, epoch, shard, target, root⟩ = (digI LT bs : Nat)) := by show _ = _; rw [sayI, if_pos hok, hbs1]
          have HSS : Hid (crtS G mask LT ⟨kind, tn, yes, ff, tt, epoch, shard, target, root⟩ = signTo G mask (digI LT bs : Nat) [] 10) := by show _ = _; rw [crtS, if_pos hok, HSI.out]
          have hH6d := hH6.drew
          have hT6d := hT6.drew
          have hv6d := own_fr hv6 ((Fr.refl (fun _ => False) w6).drew) (fun _ _ => id)
          have hfw6d := hfw6.then_ ((Fr.refl (fun _ => False) w6).drew)
          have c0 := hH6.cell 0
          clear hv6 h6 hbs1 hok hG0 hL0 hH6 hT6 hfw6
          go_upto_region 10 with fail
          refine wp_region_noPanic ?_
          refine wp_region_held_drew (S := (fun w' => w'.cell? ⟨w.heap.size, 0, none⟩ = some (.int .i64 G))) (by kernel_rfl) (c0) (fun hHeld => ?_)
          refine tk 0 59 ?_
          refine tk 1 60 ?_
          refine tk 2 61 ?_
          refine tk 3 62 ?_
          refine tk 4 63 ?_
          refine tk 5 64 ?_
          refine rd 6 (fun K hK => ?_)
          go_simp
          go_at_call 14
          refine HD.out.mono ?_
          rintro e w7 ⟨rfl, h7, hst7⟩
          have hH7 := hst7.blk _ _ _ hH6d (by decide)
          have hT7 := hst7.blk _ _ _ hT6d (by decide)
          have hv7 := own_st hv6d hst7 (by decide)
          have hfw7 := hfw6d.trans hst7.fr (fun k hk e => by omega)
          obtain ⟨g, m, base, v, gs, ms, gD, bD, vD, gQ, bQ, vQ, h7⟩ := h7.zero
          have HSg := Lib.hid (law12_SignX h7 (Nat.zero_le 0) (by decide) G mask (digI LT bs : Nat))
          try go_wp2_with fail
          refine hK.out _ _ (hH7.cell 0) (fun hHeld => ?_)
          clear hK K
          refine rd 7 (fun K hK => ?_)
          go_simp
          go_at_call 13
          refine HSg.out.mono ?_
          rintro e w8 ⟨r8, vQ8, rfl, h8, hst8⟩
          have hH8 := hst8.blk _ _ _ hH7 (by decide)
          have hT8 := hst8.blk _ _ _ hT7 (by decide)
          have hv8 := own_st hv7 hst8 (by decide)
          have hfw8 := hfw7.trans hst8.fr (fun k hk e => by omega)
          try go_wp2_with fail
          refine hK.out _ _ (hH8.cell 0) (fun hHeld => ?_)
          clear hK K
          refine wpAnyH_done (by kernel_rfl) ?_ _
          refine NoPanic.normal ?_
          go_wp2_with fail
          go_meet
          rw [HSL.out, HSS.out]
          exact ⟨⟨hH8, hT8, ⟨_, _, _, _, _, _, _, _, _, _, _, _, h8⟩, hfw8⟩, hv8⟩
        · have hpos : ¬ (0 : Int) < (bs.length : Int) := by have := hbz.out.2 hok; omega
          have HSL : Hid (sayL LT ⟨kind, tn, yes, ff, tt, epoch, shard, target, root⟩ = LT) := by show _ = _; rw [sayL, if_neg hok]
          have HSS : Hid (crtS G mask LT ⟨kind, tn, yes, ff, tt, epoch, shard, target, root⟩ = []) := by show _ = _; rw [crtS, if_neg hok]
          clear hok
          go_wp2_with fail
          go_meet
          rw [HSL.out, HSS.out]
          exact ⟨⟨hH6, hT6, ⟨_, _, _, _, _, _, _, _, _, _, _, _, h6⟩, hfw6⟩, hv6⟩
      case rest =>
        obtain ⟨⟨hH9, hT9, ⟨g, m, base, v, gs, ms, gD, bD, vD, gQ, bQ, vQ, h9⟩, hfw9⟩, hv9⟩ := hcut
        clear hH6 hT6 h6 hfw6 hv6
        generalize wc = w9 at *
        go_upto_region 11 with fail
        obtain ⟨L, hL⟩ : ∃ L, Hid (sayL LT ⟨kind, tn, yes, ff, tt, epoch, shard, target, root⟩ = L) := ⟨_, rfl⟩
        obtain ⟨SL, hSL⟩ : ∃ SL, Hid (crtS G mask LT ⟨kind, tn, yes, ff, tt, epoch, shard, target, root⟩ = SL) := ⟨_, rfl⟩
        rw [hL.out, hSL.out] at h9
        have HGL : GoodL L := by rw [← hL.out, ← hLT.out]; exact (txnL_good _ _ _ _).say _
        have HLN : L.length ≤ 2 := by
          have h1 := sayL_len LT ⟨kind, tn, yes, ff, tt, epoch, shard, target, root⟩
          have h2 := txnL_len c n R W
          rw [hLT.out] at h2
          rw [hL.out] at h1
          omega
        have hSLl : SL.length ≤ 10 := by rw [← hSL.out]; exact crtS_len _ _ _ _
        have HL8 : ∀ t ∈ L, B8 t := h9.bs.book.map.2
        have HPOS : ∀ t ∈ L, 0 < t.length := by
          have h1 : ∀ t ∈ LT, 0 < t.length := by
            rw [← hLT.out]
            unfold txnL
            intro t ht
            split at ht
            · rw [List.mem_singleton.1 ht]
              unfold txnB
              simp only [List.length_append, num8_length]
              omega
            · cases ht
          rw [← hL.out]
          unfold sayL
          intro t ht
          split at ht
          · rename_i hok
            unfold digL at ht
            split at ht
            · exact h1 t ht
            · rcases List.mem_append.1 ht with h | h
              · exact h1 t h
              · rw [List.mem_singleton.1 h]
                have := (sayB_length hok).1
                omega
          · exact h1 t ht
        obtain ⟨gg, bb, L', hgl, hLl, HA, HB⟩ := both_ord (SL := SL) HGL (by omega) HL8 HPOS (by omega) f G kind tn yes ff tt epoch shard target root ss (by have := HLL.out; omega) l (by have := HLL.out; omega)
        have hfd : Fr (fun _ => False) w9 w9.drew := (Fr.refl _ _).drew
        have h9d := h9.keep hfd
        have hH9d := hH9.drew
        have hfw9d := hfw9.then_ hfd
        have hno : ∀ b, b < w.heap.size → ¬ (b = g ∨ b = m ∨ v.ownBlock = some b) := fun b hb e => by
          rcases e with e | e | e
          · have := h9.lo_g; omega
          · have := h9.lo_m; omega
          · have := own_ge h9.bs.book.own b e; have := h9.lo_b; omega
        have HORD := Lib.hid (HA (sc := sc) (lc := lc) h9d.bs h9d.b_le (HSH.out.fr hfw9d (fun b hb e => by omega)) (by have := hfw9d.size; omega) hno (HEN.out.fr hfw9d (fun b hb e => by omega)) hno)
        have HB := Lib.hid (fun (_ : Unit) => @HB)
        clear HA HPOS HL8 HGL hno hv9 hT9
        refine wp_region_noPanic ?_
        refine wp_region_held_drew (S := (fun w' => w'.cell? ⟨gw, 0, none⟩ = some (.pointer (some ⟨g, 0, none⟩)) ∧ w'.cell? ⟨gw, 1, none⟩ = some (.pointer (some ⟨gs, 0, none⟩)) ∧ w'.cell? ⟨w.heap.size, 0, none⟩ = some (.int .i64 G) ∧ w'.cell? ⟨w.heap.size, 1, none⟩ = some (.int .i64 kind) ∧ w'.cell? ⟨w.heap.size, 2, none⟩ = some (.int .i64 tn) ∧ w'.cell? ⟨w.heap.size, 3, none⟩ = some (.bool yes) ∧ w'.cell? ⟨w.heap.size, 4, none⟩ = some (.string ff) ∧ w'.cell? ⟨w.heap.size, 5, none⟩ = some (.string tt) ∧ w'.cell? ⟨w.heap.size, 6, none⟩ = some (.int .i64 epoch) ∧ w'.cell? ⟨w.heap.size, 7, none⟩ = some (.int .i64 shard) ∧ w'.cell? ⟨w.heap.size, 8, none⟩ = some (.int .i64 target) ∧ w'.cell? ⟨w.heap.size, 9, none⟩ = some (.int .i64 root))) (by kernel_rfl) (⟨h9.blk.cell 0, h9.blk.cell 1, hH9.cell 0, hH9.cell 1, hH9.cell 2, hH9.cell 3, hH9.cell 4, hH9.cell 5, hH9.cell 6, hH9.cell 7, hH9.cell 8, hH9.cell 9⟩) (fun hHeld => ?_)
        refine tk 0 67 ?_
        refine tk 1 68 ?_
        refine tk 2 69 ?_
        refine tk 3 70 ?_
        refine tk 4 71 ?_
        refine tk 5 72 ?_
        refine tk 6 73 ?_
        refine tk 7 74 ?_
        refine tk 8 75 ?_
        refine tk 9 76 ?_
        refine tk 10 77 ?_
        refine tk 11 78 ?_
        refine rd 12 (fun K hK => ?_)
        go_simp
        go_at_call 15
        refine HORD.out.mono ?_
        rintro e w10 ⟨tv, v10, rfl, htv, hb10, hf10, hk10⟩
        obtain ⟨A10, c10, rfl⟩ := htv.form_
        obtain ⟨h10, hst10⟩ := h9d.step hb10 (hf10.mono (fun k _ h => by rcases h with h | h | h <;> simp [h]))
        have hH10 := hst10.blk _ _ _ hH9d (by decide)
        have hfw10 := hfw9d.trans hst10.fr (fun k hk e => by omega)
        try go_wp2_with fail
        refine hK.out _ _ (⟨h10.blk.cell 0, h10.blk.cell 1, hH10.cell 0, hH10.cell 1, hH10.cell 2, hH10.cell 3, hH10.cell 4, hH10.cell 5, hH10.cell 6, hH10.cell 7, hH10.cell 8, hH10.cell 9⟩) (fun hHeld => ?_)
        clear hK K
        refine tk 13 18 ?_
        refine wpAnyH_done (by kernel_rfl) ?_ _
        refine NoPanic.normal ?_
        have hfd10 : Fr (fun _ => False) w10 w10.drew := (Fr.refl _ _).drew
        have h10d := h10.keep hfd10
        have hH10d := hH10.drew
        have htvd := htv.fr hfd10 (fun _ _ => id) (fun _ _ => id)
        have hfw10d := hfw10.then_ hfd10
        have HREF := Lib.hid (HB.out () (sc := sc) (lc := lc) h10d (HSH.out.fr hfw10d (fun b hb e => by omega)) hlo (HEN.out.fr hfw10d (fun b hb e => by omega)) (fun k hk => Nat.lt_of_lt_of_le hk hlo))
        clear HORD HB h9 h9d hH9 hH9d hfw9 hfw9d hb10 hf10 hk10 hst10 hfd htv
        go_upto_region 12 with fail
        refine wp_region_noPanic ?_
        refine wp_region_held_drew (S := (fun w' => w'.cell? ⟨gw, 2, none⟩ = some (.pointer (some ⟨gD, 0, none⟩)) ∧ w'.cell? ⟨gw, 3, none⟩ = some (.pointer (some ⟨gQ, 0, none⟩)) ∧ w'.cell? ⟨w.heap.size, 0, none⟩ = some (.int .i64 G) ∧ w'.cell? ⟨w.heap.size, 1, none⟩ = some (.int .i64 kind) ∧ w'.cell? ⟨w.heap.size, 2, none⟩ = some (.int .i64 tn) ∧ w'.cell? ⟨w.heap.size, 3, none⟩ = some (.bool yes) ∧ w'.cell? ⟨w.heap.size, 4, none⟩ = some (.string ff) ∧ w'.cell? ⟨w.heap.size, 5, none⟩ = some (.string tt) ∧ w'.cell? ⟨w.heap.size, 6, none⟩ = some (.int .i64 epoch) ∧ w'.cell? ⟨w.heap.size, 7, none⟩ = some (.int .i64 shard) ∧ w'.cell? ⟨w.heap.size, 8, none⟩ = some (.int .i64 target) ∧ w'.cell? ⟨w.heap.size, 9, none⟩ = some (.int .i64 root))) (by kernel_rfl) (⟨h10.blk.cell 2, h10.blk.cell 3, hH10.cell 0, hH10.cell 1, hH10.cell 2, hH10.cell 3, hH10.cell 4, hH10.cell 5, hH10.cell 6, hH10.cell 7, hH10.cell 8, hH10.cell 9⟩) (fun hHeld => ?_)
        refine tk 0 80 ?_
        refine tk 1 81 ?_
        refine tk 2 82 ?_
        refine tk 3 83 ?_
        refine tk 4 84 ?_
        refine tk 5 85 ?_
        refine tk 6 86 ?_
        refine tk 7 87 ?_
        refine tk 8 88 ?_
        refine tk 9 89 ?_
        refine tk 10 90 ?_
        refine tk 11 91 ?_
        refine rd 12 (fun K hK => ?_)
        go_simp
        go_at_call 16
        refine HREF.out.mono ?_
        rintro e w11 ⟨tv11, v11, rfl, hty, hb11, hf11, hk11⟩
        obtain ⟨A11, c11, rfl⟩ := hty.form_
        obtain ⟨h11, hst11⟩ := h10d.stepD hb11 hf11
        have hH11 := hst11.blk _ _ _ hH10d (by decide)
        have htx := htvd.dig h10d.rb hf11
        have hfw11 := hfw10d.trans hst11.fr (fun k hk e => by omega)
        try go_wp2_with fail
        refine hK.out _ _ (⟨h11.blk.cell 2, h11.blk.cell 3, hH11.cell 0, hH11.cell 1, hH11.cell 2, hH11.cell 3, hH11.cell 4, hH11.cell 5, hH11.cell 6, hH11.cell 7, hH11.cell 8, hH11.cell 9⟩) (fun hHeld => ?_)
        clear hK K
        refine tk 13 19 ?_
        refine wpAnyH_done (by kernel_rfl) ?_ _
        refine NoPanic.normal ?_
        obtain ⟨AD, cD, hvD⟩ : ∃ AD cD, v11 = .slice AD L'.length cD := by
          obtain ⟨vals, h1, _⟩ := h11.rb.row
          obtain ⟨A, c, e, _⟩ := own_form h1
          exact ⟨A, c, e⟩
        subst hvD
        have hfd11 : Fr (fun _ => False) w11 w11.drew := (Fr.refl _ _).drew
        have h11d := h11.keep hfd11
        have hfw11d := hfw11.then_ hfd11
        have HSAME := Lib.hid (ref19_Same (htx.fr hfd11 (fun _ _ => id) (fun _ _ => id)) (hty.fr hfd11 (fun _ _ => id) (fun _ _ => id)) (by omega))
        clear HREF h10 h10d hH10 hH10d hfw10 hfw10d htvd hb11 hf11 hk11 hst11 hfd10 htx hty hH11
        go_upto_region 13 with fail
        refine wp_region_noPanic ?_
        refine wp_region_held_drew (S := (fun w' => w'.cell? ⟨gw, 0, none⟩ = some (.pointer (some ⟨g, 0, none⟩)) ∧ w'.cell? ⟨gw, 2, none⟩ = some (.pointer (some ⟨gD, 0, none⟩)) ∧ w'.cell? ⟨gD, 0, none⟩ = some (.slice AD L'.length cD))) (by kernel_rfl) (⟨h11.blk.cell 0, h11.blk.cell 2, h11.rb.blk.cell 0⟩) (fun hHeld => ?_)
        refine tk 0 93 ?_
        refine tk 1 94 ?_
        refine tk 2 95 ?_
        refine tk 3 96 ?_
        refine rd 4 (fun K hK => ?_)
        go_simp
        go_at_call 17
        refine HSAME.out.mono ?_
        rintro e w12 ⟨rfl, hf12⟩
        have h12 := h11d.keep hf12
        have hfw12 := hfw11d.then_ hf12
        have HMANY := Lib.hid (book_Many h12.bs.book)
        try go_wp2_with fail
        refine hK.out _ _ (⟨h12.blk.cell 0, h12.blk.cell 2, h12.rb.blk.cell 0⟩) (fun hHeld => ?_)
        clear hK K
        refine tk 5 98 ?_
        refine tk 6 99 ?_
        refine tk 7 100 ?_
        refine tk 8 101 ?_
        refine tk 9 102 ?_
        refine tk 10 103 ?_
        refine tk 12 105 ?_
        refine tk 13 106 ?_
        refine tk 14 107 ?_
        refine tk 15 108 ?_
        refine tk 16 109 ?_
        refine tk 17 110 ?_
        refine tk 18 111 ?_
        refine tk 19 112 ?_
        refine rd 11 (fun K hK => ?_)
        go_simp
        go_at_call 18
        refine HMANY.out.mono ?_
        rintro e w13 ⟨rfl, rfl⟩
        try go_wp2_with fail
        refine hK.out _ _ (⟨h12.blk.cell 0, h12.blk.cell 2, h12.rb.blk.cell 0⟩) (fun hHeld => ?_)
        clear hK K
        refine tk 20 113 ?_
        refine tk 21 114 ?_
        refine tk 22 12 ?_
        refine wpAnyH_done (by kernel_rfl) ?_ _
        refine NoPanic.normal ?_
        go_wp2
        go_ret
        exact ⟨rfl, (Fr.refl (fun _ => False) w).trans hfw12 (fun k hk e => by omega)⟩
end Go.Proofs.YtmkdhhhoodeemaaGreat
namespace Go.Proofs.YtmkdhhhoodeemaaGreat
open Go Go.RowKit Go.ChangeShapes Go.WideShapes Go.Deep Go.Joins
section
variable {H : Type} {enc : TypeId × Value → H} {w : World} {base : Nat} {spare : Nat → Bool} {held : Bool}
theorem open_entries {fuel : Nat} {v : Value} {x : DataW H × List MemPlace} (h : DataW.trod enc Tryz.prog w base spare held fuel 31 [v] = some x) :
  ∃ (A : Option Addr) (cap : Nat) (l : List (ByteArray × ByteArray × Int)), v = .slice A l.length cap ∧ EntRow w (fun k => k < w.heap.size) A l ∧ l.length ≤ 9223372036854775807 := by
 rcases open_slice_rows Tryz.underlying31 Tryz.underlying119 (by kernel_rfl) (by kernel_rfl) h with ⟨hv, _⟩ | ⟨a, len, cap, m, hv, hml, hm', hat⟩
 ·cases hv
  exact ⟨none, 0, [], rfl, fun k s hs => by simp at hs, by simp⟩
 ·cases hv
  obtain ⟨l, hl, hr⟩ := open_rows (w := w) (a := a) (len := len) (k := 3) (α := ByteArray × ByteArray × Int) (R := fun c s => c 0 = some (.string s.1) ∧ c 1 = some (.string s.2.1) ∧ c 2 = some (.int .i64 s.2.2)) (fun i hi => by
   obtain ⟨ys, n, hf⟩ := hat i (by omega)
   obtain ⟨v0, y0, c0, _, t0⟩ := hf 0 _ rfl
   obtain ⟨v1, y1, c1, _, t1⟩ := hf 1 _ rfl
   obtain ⟨s, e0, _, _⟩ := DataW.trod_string Tryz.underlying9 t0
   obtain ⟨z, e1, _, _⟩ := DataW.trod_string Tryz.underlying9 t1
   obtain ⟨v2, y2, c2, _, t2⟩ := hf 2 _ rfl
   obtain ⟨u, e2, _, _⟩ := DataW.trod_int Tryz.underlying2 t2
   cases e0
   cases e1
   cases e2
   exact ⟨(s, z, u), c0, c1, c2⟩)
  subst hl
  refine ⟨some a, cap, l, rfl, fun k s hs => ?_, by unfold maxLen at hm'; omega⟩
  obtain ⟨c0, c1, c2⟩ := hr k s hs
  obtain ⟨b, off, spot⟩ := a
  dsimp only at c0 c1 c2
  have hpos : 0 < l.length := by have := (List.getElem?_eq_some_iff.1 hs).1; omega
  have q0 := (hr 0 _ (List.getElem?_eq_getElem hpos)).1
  have hspot : spot = none := World.cell?_spot (a := ⟨b, off, spot⟩) q0
  subst hspot
  rw [add_in] at c0 c1 c2
  rw [Nat.add_zero] at c0
  rw [← Nat.add_assoc] at c1 c2
  exact ⟨b, off, rfl, World.block_lt_of_cell? w _ c0, c0, c1, c2⟩
theorem open_heard {fuel : Nat} {cs : List Value} {x : DataW H × List MemPlace} (h : DataW.trod enc Tryz.prog w base spare held fuel 25 cs = some x) :
  ∃ (G : Int) (s : SayD), cs = [.int .i64 G, .int .i64 s.kind, .int .i64 s.txn, .bool s.yes, .string s.from_, .string s.to_, .int .i64 s.epoch, .int .i64 s.shard, .int .i64 s.target, .int .i64 s.root] := by
 obtain ⟨xs, n, _, _, hlen, hxl, hf⟩ := DataW.trod_struct Tryz.underlying25 h
 have hc : (Tryz.prog).cellsOf 25 = 10 := by kernel_rfl
 rw [hc] at hlen
 match cs, hlen, xs, hxl with
 | [a0, a1, a2, a3, a4, a5, a6, a7, a8, a9], _, [x0, x1], _ =>
  have c1 : (Tryz.prog).cellsOf 3 = 1 := by kernel_rfl
  have c9 : (Tryz.prog).cellsOf 23 = 9 := by kernel_rfl
  have t0 : DataW.trod enc Tryz.prog w base spare held n 3 (([a0, a1, a2, a3, a4, a5, a6, a7, a8, a9].drop 0).take ((Tryz.prog).cellsOf 3)) = some x0 := hf 0 _ rfl
  rw [c1] at t0
  have t1 : DataW.trod enc Tryz.prog w base spare held n 23 (([a0, a1, a2, a3, a4, a5, a6, a7, a8, a9].drop 1).take ((Tryz.prog).cellsOf 23)) = some x1 := hf 1 _ rfl
  rw [c9] at t1
  obtain ⟨n0, e0, _, _⟩ := DataW.trod_int Tryz.underlying3 t0
  obtain ⟨s, e1, _⟩ := open_say t1
  cases e0
  cases e1
  exact ⟨n0, s, rfl⟩
end
end Go.Proofs.YtmkdhhhoodeemaaGreat
namespace Go.Proofs.YtmkdhhhoodeemaaGreat
open Go Go.RowKit Go.ChangeShapes Go.WideShapes Go.Deep Go.Joins
section
variable {H : Type} {enc : TypeId × Value → H} {w : World} {base : Nat} {spare : Nat → Bool} {held : Bool}
variable {P : Program}
theorem open_int_row {t e : TypeId} {fuel : Nat} {v : Value} {x : DataW H × List MemPlace} (ht : P.underlying t = some (.slice e)) (he : P.underlying e = some (.int .i64)) (hc : P.cellsOf e = 1)
  (h : DataW.trod enc P w base spare held fuel t [v] = some x) : ∃ (A : Option Addr) (cap : Nat) (xs : List Int), v = .slice A xs.length cap ∧ IntRow w w.heap.size A xs ∧ xs.length ≤ 9223372036854775807 ∧ ∀ y ∈ xs, (Lit.int .i64 y).wf = true := by
 rcases open_ints ht he hc h with ⟨hv, _⟩ | ⟨a, len, cap, zs, hv, _, hl, hm, hz, _, hcell, hwf⟩
 ·cases hv
  exact ⟨none, 0, [], rfl, fun k x hx => by simp at hx, by simp, by simp⟩
 ·cases hv
  have hzl : len ≤ zs.length := by rw [hz]; split <;> omega
  have hlen : (zs.take len).length = len := by rw [List.length_take]; omega
  refine ⟨some a, cap, zs.take len, by rw [hlen], ?_, by rw [hlen]; unfold maxLen at hm; omega, fun y hy => hwf y (List.mem_of_mem_take hy)⟩
  intro k x hx
  obtain ⟨hk, hx⟩ := List.getElem?_eq_some_iff.1 hx
  have hk' : k < len := by rw [hlen] at hk; exact hk
  have hc := hcell k (by omega)
  rw [List.getD_eq_getElem?_getD, List.getElem?_eq_getElem (by omega)] at hc
  rw [List.getElem_take] at hx
  obtain ⟨b, off, spot⟩ := a
  have hspot : spot = none := World.cell?_spot (hcell 0 (by omega))
  subst hspot
  have hadd : (⟨b, off, none⟩ : Addr).add k = ⟨b, off + k, none⟩ := by unfold Addr.add; split <;> simp_all
  rw [hadd] at hc
  refine ⟨b, off, rfl, World.block_lt_of_cell? w _ hc, ?_⟩
  rw [hc]
  simp [hx]
end
end Go.Proofs.YtmkdhhhoodeemaaGreat
namespace Go.Proofs.YtmkdhhhoodeemaaGreat
open Go Go.RowKit Go.ChangeShapes Go.WideShapes Go.ChangeAt Go.Deep Go.Joins
theorem own_relayOrders : ownKnob Tryz.prog.godebug = none := by kernel_rfl
theorem laidOut_relayOrders : laidOutB Tryz.prog = true := by kernel_rfl
theorem lifted_relayOrders (os : Os) (started : os.Started) (H : Type) (enc : TypeId × Value → H) :
  ReturnsInHanded {} Tryz.checked os 3 .any (Rows.relayOrdersSpec.pre6 enc Tryz.prog Tryz.f3 Rows.relayOrdersRow.domain false) (Rows.relayOrdersSpec.post enc Tryz.prog Tryz.f3 false true false false) := by
 refine returnsInHanded_of_change (C := Tryz.checked) own_relayOrders started (by kernel_rfl) Tryz.func3
  (ChangeSpec.witness6 (enc := enc) (C := Tryz.checked) false ⟨#[], #[.int .i64 0, .agg #[.int .i64 0, .int .i64 0, .int .i64 0, .bool false, .string ⟨#[]⟩, .string ⟨#[]⟩, .int .i64 0, .int .i64 0, .int .i64 0, .int .i64 0], .int .i64 0, .agg #[.int .i64 0, .int .i64 0, .slice none 0 0, .slice none 0 0], .slice none 0 0, .slice none 0 0], []⟩ 8 (by kernel_rfl) (by kernel_rfl) (by kernel_rfl) (by kernel_rfl)) ?_
 intro W base args ds gs before hval0 hW hcnd _
 have hval : ∀ (j : Nat) t v, Tryz.f3.params[j]? = some t → args[j]? = some v → Value.okWide Tryz.prog W .any base t v := hval0
 have hW' := hW
 obtain ⟨p, q, hA0, hV, rfl, hfz, hnd⟩ := hW
 have hA : DataW.TrodAll enc Tryz.prog W 0 (fun _ => true) true Tryz.f3.params.toList args.toList ds p := hA0
 rw [Tryz.params3] at hA hval
 obtain ⟨v0, vs0, d0, ds0, p0, q0, hargs, rfl, rfl, h0, r0⟩ := trodAll_cons hA
 obtain ⟨v1, vs1, d1, ds1, p1, q1, rfl, rfl, rfl, h1, r1⟩ := trodAll_cons r0
 obtain ⟨v2, vs2, d2, ds2, p2, q2, rfl, rfl, rfl, h2, r2⟩ := trodAll_cons r1
 obtain ⟨v3, vs3, d3, ds3, p3, q3, rfl, rfl, rfl, h3, r3⟩ := trodAll_cons r2
 obtain ⟨v4, vs4, d4, ds4, p4, q4, rfl, rfl, rfl, h4, r4⟩ := trodAll_cons r3
 obtain ⟨v5, vs5, d5, ds5, p5, q5, rfl, rfl, rfl, h5, r5⟩ := trodAll_cons r4
 obtain ⟨rfl, rfl, rfl⟩ := trodAll_nil r5
 obtain rfl : args = #[v0, v1, v2, v3, v4, v5] := by cases args; simp_all
 obtain ⟨rfl, rfl⟩ := trodVars_none hV
 have k0 := h0
 have lt0 : ∀ x ∈ p0, x.block < W.heap.size := by obtain ⟨m, hm⟩ := k0; exact DataW.trod_lt m _ _ _ hm
 have k1 := h1
 have lt1 : ∀ x ∈ p1, x.block < W.heap.size := by obtain ⟨m, hm⟩ := k1; exact DataW.trod_lt m _ _ _ hm
 have k2 := h2
 have lt2 : ∀ x ∈ p2, x.block < W.heap.size := by obtain ⟨m, hm⟩ := k2; exact DataW.trod_lt m _ _ _ hm
 have k3 := h3
 have lt3 : ∀ x ∈ p3, x.block < W.heap.size := by obtain ⟨m, hm⟩ := k3; exact DataW.trod_lt m _ _ _ hm
 have k4 := h4
 have lt4 : ∀ x ∈ p4, x.block < W.heap.size := by obtain ⟨m, hm⟩ := k4; exact DataW.trod_lt m _ _ _ hm
 have k5 := h5
 have lt5 : ∀ x ∈ p5, x.block < W.heap.size := by obtain ⟨m, hm⟩ := k5; exact DataW.trod_lt m _ _ _ hm
 obtain ⟨a0, rfl, rfl, rfl, w0⟩ := open_int Tryz.underlying3 (hval 0 3 v0 rfl rfl) h0
 have y0 : -9223372036854775808 ≤ a0 ∧ a0 ≤ 9223372036854775807 := by simpa [Lit.wf, IntKind.min, IntKind.max, IntKind.signed, IntKind.bits] using w0
 obtain ⟨cs1, rfl, _⟩ := okWide_struct Tryz.underlying25 (hval 1 25 v1 rfl rfl)
 obtain ⟨fuel1, hf1⟩ := h1
 obtain ⟨G1, s1, hcs1⟩ := open_heard hf1
 obtain rfl : cs1 = #[.int .i64 G1, .int .i64 s1.kind, .int .i64 s1.txn, .bool s1.yes, .string s1.from_, .string s1.to_, .int .i64 s1.epoch, .int .i64 s1.shard, .int .i64 s1.target, .int .i64 s1.root] := Array.ext' hcs1
 obtain ⟨a2, rfl, rfl, rfl, w2⟩ := open_int Tryz.underlying3 (hval 2 3 v2 rfl rfl) h2
 have y2 : -9223372036854775808 ≤ a2 ∧ a2 ≤ 9223372036854775807 := by simpa [Lit.wf, IntKind.min, IntKind.max, IntKind.signed, IntKind.bits] using w2
 obtain ⟨cs3, rfl, _⟩ := okWide_struct Tryz.underlying29 (hval 3 29 v3 rfl rfl)
 obtain ⟨fuel3, hf3⟩ := h3
 obtain ⟨c3, n3, A3, cr3, R3, B3, cw3, W3, hcs3, hR3, hW3, lR3, lW3, _, _⟩ := open_txn hf3
 obtain rfl : cs3 = #[.int .i64 c3, .int .i64 n3, .slice A3 R3.length cr3, .slice B3 W3.length cw3] := Array.ext' hcs3
 obtain ⟨a4, len4, cp4, rfl⟩ := okWide_slice Tryz.underlying30 (hval 4 30 v4 rfl rfl)
 obtain ⟨fuel4, hf4⟩ := h4
 obtain ⟨A4, cap4, ss4, hl4, hI4, lI4, bI4⟩ := open_int_row Tryz.underlying30 Tryz.underlying3 (by kernel_rfl) hf4
 cases hl4
 obtain ⟨a5, len5, cp5, rfl⟩ := okWide_slice Tryz.underlying31 (hval 5 31 v5 rfl rfl)
 obtain ⟨fuel5, hf5⟩ := h5
 obtain ⟨A5, cap5, l5, hl5, hE5, lE5⟩ := open_entries hf5
 cases hl5
 clear hA0 hval0
 refine (relayOrders_walk hR3 hW3 lR3 lW3 hI4 hE5).mono fun e W' ⟨he, hfr⟩ => ?_
 subst he
 have bel : Below W.heap.size W W' := hfr.below (Nat.le_refl _) (fun _ _ => id)
 exact ⟨_, rfl, _, _, _, [], _, [], hW', trodAll_mk1 (shut_bool Tryz.underlying4 _), (trodAll_cons_mk (Below.trod laidOut_relayOrders (by kernel_rfl) (of_decide_eq_true (by kernel_rfl)) k0 bel lt0) (trodAll_cons_mk (Below.trod laidOut_relayOrders (by kernel_rfl) (of_decide_eq_true (by kernel_rfl)) k1 bel lt1) (trodAll_cons_mk (Below.trod laidOut_relayOrders (by kernel_rfl) (of_decide_eq_true (by kernel_rfl)) k2 bel lt2) (trodAll_cons_mk (Below.trod laidOut_relayOrders (by kernel_rfl) (of_decide_eq_true (by kernel_rfl)) k3 bel lt3) (trodAll_cons_mk (Below.trod laidOut_relayOrders (by kernel_rfl) (of_decide_eq_true (by kernel_rfl)) k4 bel lt4) (trodAll_cons_mk (Below.trod laidOut_relayOrders (by kernel_rfl) (of_decide_eq_true (by kernel_rfl)) k5 bel lt5) trodAll_mk0)))))), rfl, bel.frame _, fun h => by cases h⟩
theorem over_relayOrders : Rows.relayOrdersRow.holds Tryz.pinned (OpenSpec.ofChange Rows.relayOrdersSpec) :=
 OpenClaim.holds_of_wide 3 Tryz.f3 rfl rfl rfl rfl rfl rfl rfl ⟨rfl, rfl, rfl, rfl, rfl⟩ rfl rfl rfl rfl rfl (by kernel_rfl) Tryz.func3 (by kernel_rfl)
  (of_decide_eq_true (by kernel_rfl)) (by unfold Func.isWrapper; first | (rw [if_pos (by decide +kernel)]; kernel_rfl) | (rw [if_neg (by decide +kernel)]; exact ⟨rfl, rfl⟩))
  (fun os started H enc _ => lifted_relayOrders os started H enc)
theorem relayOrders_holds : Rows.RelayOrdersSaid := over_relayOrders
end Go.Proofs.YtmkdhhhoodeemaaGreat
