/- RelayCertsSaid: for every input the law returns true, and each argument reads behind the call as it read before. No condition. -/
import Derived.Test.YtmkdhhhoodeemaaGreatCrtProofGa
import Derived.Test.YtmkdhhhoodeemaaGreatCrtProofGb
import Derived.Test.YtmkdhhhoodeemaaGreatCrtProofGc
import Derived.Test.YtmkdhhhoodeemaaGreatCrtProofGd
import Derived.Test.YtmkdhhhoodeemaaGreatCrtProofGe
import Derived.Test.YtmkdhhhoodeemaaGreatCrtProofJa
import Derived.Test.YtmkdhhhoodeemaaGreatCrtProofJb
import Derived.Test.YtmkdhhhoodeemaaGreatCrtProofJc
set_option linter.unusedVariables false
set_option linter.unusedSimpArgs false
/- merkle: Prove of all entries. -/
namespace Go.Proofs.YtmkdhhhoodeemaaGreat
open Go Go.RowKit
theorem merkle_wrong (c : Int) (hc : (c == 0) = false) (w : World) : Calls Tryz.prog 114 #[.int .i64 c] w fun e w' => e = .returned (errV [((⟨#[109, 101, 114, 107, 108, 101]⟩ : ByteArray), 0)] c) ∧ w = w' := by
 have H := Lib.hid (fun w => fault_Of c hc w)
 clear hc
 go_enter Tryz.func114, Tryz.ntmps114
 go_wp2_with (first | (go_at_call 71; refine (H.out _).mono ?_; rintro e w' ⟨rfl, rfl⟩) | (go_at_call 70; refine (fault_Wrap _ _ _ _ _).mono ?_; rintro e w' ⟨rfl, rfl⟩))
 go_ret
 exact ⟨rfl, rfl⟩
/-- What Prove of all entries gives. -/
def ProveP (w : World) (g m base : Nat) (v : Value) (L : List (List Int)) (l : List Ent) (Bs : List Int) (L' : List (List Int)) (e : Ending) (w' : World) : Prop :=
 ∃ LA lc BA bc v', e = .returned (.tuple #[.agg #[.int .i64 l.length, .int .i64 0, .slice LA l.length lc, .slice BA Bs.length bc], .nilIface]) ∧ EntRow w' (fun k => w.heap.size ≤ k) LA l ∧ IntF w' (fun k => w.heap.size ≤ k) BA Bs ∧ BookAt w' g m base v' L' ∧ Fr (fun k => k = g ∨ k = m ∨ v.ownBlock = some k) w w' ∧ ∀ k, v'.ownBlock = some k → v.ownBlock = some k ∨ w.heap.size ≤ k
/-- The proof as it is ahead of the walk down. -/
def PrvMid (w2 : World) (n : Nat) (l : List Ent) (p : Value) (w' : World) : Prop :=
 ∃ b11 LA lc, p = .pointer (some ⟨b11, 0, none⟩) ∧ Blk w' b11 60 #[.int .i64 n, .int .i64 0, .slice LA n lc, .slice none 0 0] ∧ EntRow w' (fun k => w2.heap.size ≤ k) LA l ∧ Fr (fun _ => False) w2 w' ∧ w2.heap.size ≤ b11
theorem ents_of {w : World} {base g c n : Nat} {l : List Ent} {ys : List Value} (h : w.ownsRow base 119 3 (.slice (some ⟨g, 0, none⟩) (0 + n) c) (0 + n) ([] ++ ys)) (hy : entsV l = ys) (hn : l.length = n) : EntRow w (fun k => base ≤ k) (some ⟨g, 0, none⟩) l := by
 subst hy hn
 rw [Nat.zero_add, List.nil_append] at h
 obtain ⟨A, c', e, hE⟩ := own_ents h
 cases e
 exact hE
def ProveNo (w : World) (e : Ending) (w' : World) : Prop :=
 ∃ t u, e = .returned (.tuple #[.agg #[.int .i64 0, .int .i64 0, .slice none 0 0, .slice none 0 0], .iface t u]) ∧ Fr (fun _ => False) w w'
set_option maxRecDepth 100000 in
set_option maxHeartbeats 1000000 in
theorem prove_bad {w : World} {F : Nat → Prop} {A : Option Addr} {l : List Ent} {cap : Nat} (h : EntRow w F A l) (hll : l.length ≤ 1000000) (hno : risesE l = false) (bk : Value) :
  Calls Tryz.prog 84 #[bk, .slice A l.length cap, .int .i64 0, .int .i64 l.length] w (ProveNo w) := by
 obtain ⟨n, hn⟩ : ∃ n : Nat, l.length = n := ⟨_, rfl⟩
 have HR := Lib.hid (fun w' (hf : Fr (fun _ => False) w w') => merkle_right (cap := cap) (h.fr hf (fun _ _ => id)) hll)
 rw [hn, hno] at HR
 rw [hn]
 clear h hll hno hn
 have h5 : Blk ((((w.alloc (Obj.cells #[.slice A n cap] 31)).alloc (Obj.cells #[.int .i64 0] 3)).alloc (Obj.cells #[.int .i64 n] 3)).alloc (Obj.cells #[.int .i64 0, .int .i64 0, .slice none 0 0, .slice none 0 0] 60)) w.heap.size 31 #[.slice A n cap] := (((Blk.new w _ _).alloc _).alloc _).alloc _
 have h6 : Blk ((((w.alloc (Obj.cells #[.slice A n cap] 31)).alloc (Obj.cells #[.int .i64 0] 3)).alloc (Obj.cells #[.int .i64 n] 3)).alloc (Obj.cells #[.int .i64 0, .int .i64 0, .slice none 0 0, .slice none 0 0] 60)) (w.heap.size + 1) 3 #[.int .i64 0] := ((Blk.new_ _ _ _ (by simp)).alloc _).alloc _
 have h7 : Blk ((((w.alloc (Obj.cells #[.slice A n cap] 31)).alloc (Obj.cells #[.int .i64 0] 3)).alloc (Obj.cells #[.int .i64 n] 3)).alloc (Obj.cells #[.int .i64 0, .int .i64 0, .slice none 0 0, .slice none 0 0] 60)) (w.heap.size + 1 + 1) 3 #[.int .i64 n] := (Blk.new_ _ _ _ (by simp)).alloc _
 have h8 : Blk ((((w.alloc (Obj.cells #[.slice A n cap] 31)).alloc (Obj.cells #[.int .i64 0] 3)).alloc (Obj.cells #[.int .i64 n] 3)).alloc (Obj.cells #[.int .i64 0, .int .i64 0, .slice none 0 0, .slice none 0 0] 60)) (w.heap.size + 1 + 1 + 1) 60 #[.int .i64 0, .int .i64 0, .slice none 0 0, .slice none 0 0] := Blk.new_ _ _ _ (by simp)
 have hf0 : Fr (fun _ => False) w ((((w.alloc (Obj.cells #[.slice A n cap] 31)).alloc (Obj.cells #[.int .i64 0] 3)).alloc (Obj.cells #[.int .i64 n] 3)).alloc (Obj.cells #[.int .i64 0, .int .i64 0, .slice none 0 0, .slice none 0 0] 60)) := ((((Fr.refl _ _).alloc _).alloc _).alloc _).alloc _
 have hz0 : w.heap.size + 4 ≤ ((((w.alloc (Obj.cells #[.slice A n cap] 31)).alloc (Obj.cells #[.int .i64 0] 3)).alloc (Obj.cells #[.int .i64 n] 3)).alloc (Obj.cells #[.int .i64 0, .int .i64 0, .slice none 0 0, .slice none 0 0] 60)).heap.size := by simp
 go_enter Tryz.func84, Tryz.ntmps84
 go_upto_region 1 with fail
 generalize ((((w.alloc (Obj.cells #[.slice A n cap] 31)).alloc (Obj.cells #[.int .i64 0] 3)).alloc (Obj.cells #[.int .i64 n] 3)).alloc (Obj.cells #[.int .i64 0, .int .i64 0, .slice none 0 0, .slice none 0 0] 60)) = w0 at *
 have k5 := h5.cell 0
 have k6 := h6.cell 0
 have k7 := h7.cell 0
 obtain ⟨t, u, hu⟩ := errV_iface [((⟨#[109, 101, 114, 107, 108, 101]⟩ : ByteArray), 0)] 1
 have HW := fun w => merkle_wrong 1 rfl w
 rw [hu] at HW
 replace HW := Lib.hid HW
 clear hu
 go_upto_region 2 with (go_at_call 113; refine (HR.out _ hf0).mono ?_; rintro e w1 ⟨rfl, hf1⟩; have h8 := h8.fr hf1 id; have k6 := hf1.cell_some k6 id; have k7 := hf1.cell_some k7 id; have k5 := hf1.cell_some k5 id)
 have hf01 := hf0.then_ hf1
 clear k5 k6 k7 HR
 go_wp2_with (first
  | (go_at_call 114; refine (HW.out _).mono ?_; rintro e w' ⟨rfl, rfl⟩)
  | (refine wpList_store_row rfl 60 (.tmp 8) (.tmp 38) rfl (w.heap.size + 1 + 1 + 1) #[.int .i64 0, .int .i64 0, .slice none 0 0, .slice none 0 0] rfl rfl 60 _ h8 (by kernel_rfl) rfl (by simp [Value.oneCell']) ?_))
 have h9 := Blk.setRow_ (ds := #[.int .i64 0, .int .i64 0, .slice none 0 0, .slice none 0 0]) h8
 have hf9 : Fr (fun _ => False) w (w1.setRow (w.heap.size + 1 + 1 + 1) #[.int .i64 0, .int .i64 0, .slice none 0 0, .slice none 0 0]) := hf01.trans (Fr.setRow_ (w := w1) (g := w.heap.size + 1 + 1 + 1) (ds := #[.int .i64 0, .int .i64 0, .slice none 0 0, .slice none 0 0])) (fun k hk e => by omega)
 generalize w1.setRow (w.heap.size + 1 + 1 + 1) #[.int .i64 0, .int .i64 0, .slice none 0 0, .slice none 0 0] = wz at *
 refine bodyPost_ret (v := .tuple #[.agg #[.int .i64 0, .int .i64 0, .slice none 0 0, .slice none 0 0], .iface t u]) (results_row2 Tryz.results84 _ wz (w.heap.size + 1 + 1 + 1) 60 #[.int .i64 0, .int .i64 0, .slice none 0 0, .slice none 0 0] (0, 0) _ rfl h9 Tryz.underlying60 rfl (by kernel_rfl) rfl) rfl ?_
 exact ⟨t, u, rfl, hf9⟩
set_option maxRecDepth 100000 in
set_option maxHeartbeats 4000000 in
theorem prove_all {w : World} {g m base : Nat} {v : Value} {L : List (List Int)} (hb : BookAt w g m base v L) (hbase : base ≤ w.heap.size) (hL : L.length < 65536) {F : Nat → Prop} {A : Option Addr} {l : List Ent} {cap : Nat} (h : EntRow w F A l) (hll : l.length ≤ 60000) (hyes : risesE l = true) (hcap : l.length ≤ cap) (hne : 0 < l.length) :
  Calls Tryz.prog 84 #[.pointer (some ⟨g, 0, none⟩), .slice A l.length cap, .int .i64 0, .int .i64 l.length] w (ProveP w g m base v L l [] L) := by
 obtain ⟨b, o, rfl, _, _⟩ := h 0 l[0] (List.getElem?_eq_getElem hne)
 obtain ⟨A, hA⟩ : ∃ A, A = some (⟨b, o, none⟩ : Addr) := ⟨_, rfl⟩
 have HRow := Lib.hid h
 rw [← hA] at h ⊢
 replace hA := Lib.hid hA
 obtain ⟨n, hn⟩ : ∃ n : Nat, l.length = n := ⟨_, rfl⟩
 have HR := Lib.hid (fun w' (hf : Fr (fun _ => False) w w') => merkle_right (cap := cap) (h.fr hf (fun _ _ => id)) (by omega))
 rw [hn, hyes] at HR
 rw [hn] at hll hcap ⊢
 rw [hn] at hne
 have hne0 : ¬ n = 0 := by omega
 have HN := Lib.hid hn
 clear h hyes hn
 have h5 : Blk ((((w.alloc (Obj.cells #[.slice A n cap] 31)).alloc (Obj.cells #[.int .i64 0] 3)).alloc (Obj.cells #[.int .i64 n] 3)).alloc (Obj.cells #[.int .i64 0, .int .i64 0, .slice none 0 0, .slice none 0 0] 60)) w.heap.size 31 #[.slice A n cap] := (((Blk.new w _ _).alloc _).alloc _).alloc _
 have h6 : Blk ((((w.alloc (Obj.cells #[.slice A n cap] 31)).alloc (Obj.cells #[.int .i64 0] 3)).alloc (Obj.cells #[.int .i64 n] 3)).alloc (Obj.cells #[.int .i64 0, .int .i64 0, .slice none 0 0, .slice none 0 0] 60)) (w.heap.size + 1) 3 #[.int .i64 0] := ((Blk.new_ _ _ _ (by simp)).alloc _).alloc _
 have h7 : Blk ((((w.alloc (Obj.cells #[.slice A n cap] 31)).alloc (Obj.cells #[.int .i64 0] 3)).alloc (Obj.cells #[.int .i64 n] 3)).alloc (Obj.cells #[.int .i64 0, .int .i64 0, .slice none 0 0, .slice none 0 0] 60)) (w.heap.size + 1 + 1) 3 #[.int .i64 n] := (Blk.new_ _ _ _ (by simp)).alloc _
 have h8 : Blk ((((w.alloc (Obj.cells #[.slice A n cap] 31)).alloc (Obj.cells #[.int .i64 0] 3)).alloc (Obj.cells #[.int .i64 n] 3)).alloc (Obj.cells #[.int .i64 0, .int .i64 0, .slice none 0 0, .slice none 0 0] 60)) (w.heap.size + 1 + 1 + 1) 60 #[.int .i64 0, .int .i64 0, .slice none 0 0, .slice none 0 0] := Blk.new_ _ _ _ (by simp)
 have hf0 : Fr (fun _ => False) w ((((w.alloc (Obj.cells #[.slice A n cap] 31)).alloc (Obj.cells #[.int .i64 0] 3)).alloc (Obj.cells #[.int .i64 n] 3)).alloc (Obj.cells #[.int .i64 0, .int .i64 0, .slice none 0 0, .slice none 0 0] 60)) := ((((Fr.refl _ _).alloc _).alloc _).alloc _).alloc _
 have hz0 : w.heap.size + 4 ≤ ((((w.alloc (Obj.cells #[.slice A n cap] 31)).alloc (Obj.cells #[.int .i64 0] 3)).alloc (Obj.cells #[.int .i64 n] 3)).alloc (Obj.cells #[.int .i64 0, .int .i64 0, .slice none 0 0, .slice none 0 0] 60)).heap.size := by simp
 go_enter Tryz.func84, Tryz.ntmps84
 go_upto_region 1 with fail
 generalize ((((w.alloc (Obj.cells #[.slice A n cap] 31)).alloc (Obj.cells #[.int .i64 0] 3)).alloc (Obj.cells #[.int .i64 n] 3)).alloc (Obj.cells #[.int .i64 0, .int .i64 0, .slice none 0 0, .slice none 0 0] 60)) = w0 at *
 have k5 := h5.cell 0
 have k6 := h6.cell 0
 have k7 := h7.cell 0
 have hb0 := hb.keep hf0
 have hw0 : IntKind.i64.wrap 0 = 0 := by decide
 go_upto_region 3 with (go_at_call 113; refine (HR.out _ hf0).mono ?_; rintro e w1 ⟨rfl, hf1⟩; have k6 := hf1.cell_some k6 id; have k7 := hf1.cell_some k7 id; have k5 := hf1.cell_some k5 id)
 have h5 := h5.fr hf1 id
 have h6 := h6.fr hf1 id
 have h7 := h7.fr hf1 id
 have h8 := h8.fr hf1 id
 have hf01 := hf0.then_ hf1
 go_upto_region 4 with fail
 have ht : Blk ((w1.alloc (Obj.cells #[.pointer (some ⟨g, 0, none⟩), .nilIface] 208)).alloc (Obj.cells #[.pointer (some ⟨w1.heap.size, 0, none⟩)] 206)) w1.heap.size 208 #[.pointer (some ⟨g, 0, none⟩), .nilIface] := (Blk.new w1 _ _).alloc _
 have h10 : Blk ((w1.alloc (Obj.cells #[.pointer (some ⟨g, 0, none⟩), .nilIface] 208)).alloc (Obj.cells #[.pointer (some ⟨w1.heap.size, 0, none⟩)] 206)) (w1.heap.size + 1) 206 #[.pointer (some ⟨w1.heap.size, 0, none⟩)] := Blk.new_ _ _ _ (by simp)
 have hfT : Fr (fun _ => False) w1 ((w1.alloc (Obj.cells #[.pointer (some ⟨g, 0, none⟩), .nilIface] 208)).alloc (Obj.cells #[.pointer (some ⟨w1.heap.size, 0, none⟩)] 206)) := ((Fr.refl _ _).alloc _).alloc _
 have h5 := h5.fr hfT id
 have h6 := h6.fr hfT id
 have h7 := h7.fr hfT id
 have h8 := h8.fr hfT id
 have hf02 := hf01.then_ hfT
 have hz1w := hf01.size
 generalize (w1.alloc (Obj.cells #[.pointer (some ⟨g, 0, none⟩), .nilIface] 208)).alloc (Obj.cells #[.pointer (some ⟨w1.heap.size, 0, none⟩)] 206) = w2 at *
 clear hf01 hf1 hfT k5 k6 k7
 obtain ⟨gt, hgt⟩ : ∃ x, w1.heap.size = x := ⟨_, rfl⟩
 rw [hgt] at ht h10 hz1w ⊢
 have hgtw := Lib.hid hz1w
 clear hgt hz1w
 have k5 := h5.cell 0
 have k6 := h6.cell 0
 have k7 := h7.cell 0
 have hb2 := hb.keep hf02
 have hle0 := hf02.size
 have h8lt : Hid (w.heap.size + 1 + 1 + 1 < w2.heap.size) := h8.lt
 go_cut [11] from 43 to 54 (fun p wx => PrvMid w2 n l p wx)
 case first =>
  obtain ⟨i, hi, hz, hsz, hby⟩ := ent_info
  have hR2 : EntRow w2 F (some ⟨b, o, none⟩) l := HRow.out.fr hf02 (fun _ _ => id)
  have hnE := entRow_news (hR2.fr ((Fr.refl (fun _ => False) w2).alloc (Obj.cells #[] 119)).drew (fun _ _ => id))
  have hnPE := entRow_news (hR2.fr (((Fr.refl (fun _ => False) w2).alloc (Obj.cells #[.int .i64 0, .int .i64 0, .slice none 0 0, .slice none 0 0] 60)).alloc (Obj.cells #[] 119)).drew (fun _ _ => id))
  have hnEP := entRow_news (hR2.fr (((Fr.refl (fun _ => False) w2).alloc (Obj.cells #[] 119)).alloc (Obj.cells #[.int .i64 0, .int .i64 0, .slice none 0 0, .slice none 0 0] 60)).drew (fun _ _ => id))
  have hlen : (entsV l).length = l.length * 3 := entsV_len _
  have h1 := entsV_one l
  obtain ⟨ys, hys⟩ : ∃ ys, entsV l = ys := ⟨_, rfl⟩
  rw [hys] at hnE hnPE hnEP hlen h1
  have HYS := Lib.hid hys
  rw [HN.out] at hlen
  have ownE : ((w2.alloc (Obj.cells #[] 119)).drew).ownsRow w2.heap.size 119 3 (.slice (some ⟨w2.heap.size, 0, none⟩) 0 0) 0 [] := own_fr (ownsRow_built w2 _ _ (Nat.le_refl _)) ((Fr.refl (fun _ => False) _).drew) (fun _ _ => id)
  have ownPE : (((w2.alloc (Obj.cells #[.int .i64 0, .int .i64 0, .slice none 0 0, .slice none 0 0] 60)).alloc (Obj.cells #[] 119)).drew).ownsRow w2.heap.size 119 3 (.slice (some ⟨w2.heap.size + 1, 0, none⟩) 0 0) 0 [] := by
   have := ownsRow_built (w2.alloc (Obj.cells #[.int .i64 0, .int .i64 0, .slice none 0 0, .slice none 0 0] 60)) (base := w2.heap.size) 119 3 (by simp)
   rw [show (w2.alloc (Obj.cells #[.int .i64 0, .int .i64 0, .slice none 0 0, .slice none 0 0] 60)).heap.size = w2.heap.size + 1 by simp] at this
   exact own_fr this ((Fr.refl (fun _ => False) _).drew) (fun _ _ => id)
  have ownEP : (((w2.alloc (Obj.cells #[] 119)).alloc (Obj.cells #[.int .i64 0, .int .i64 0, .slice none 0 0, .slice none 0 0] 60)).drew).ownsRow w2.heap.size 119 3 (.slice (some ⟨w2.heap.size, 0, none⟩) 0 0) 0 [] := own_fr (ownsRow_built w2 _ _ (Nat.le_refl _)) (((Fr.refl (fun _ => False) _).alloc _).drew) (fun _ _ => id)
  have hPE : Blk (((w2.alloc (Obj.cells #[.int .i64 0, .int .i64 0, .slice none 0 0, .slice none 0 0] 60)).alloc (Obj.cells #[] 119)).drew) w2.heap.size 60 #[.int .i64 0, .int .i64 0, .slice none 0 0, .slice none 0 0] := ((Blk.new w2 _ _).alloc _).drew
  have hEP : Blk (((w2.alloc (Obj.cells #[] 119)).alloc (Obj.cells #[.int .i64 0, .int .i64 0, .slice none 0 0, .slice none 0 0] 60)).drew) (w2.heap.size + 1) 60 #[.int .i64 0, .int .i64 0, .slice none 0 0, .slice none 0 0] := (Blk.new_ _ _ _ (by simp)).drew
  have k5E := (h5.alloc (Obj.cells #[] 119)).cell 0
  have k5P := (h5.alloc (Obj.cells #[.int .i64 0, .int .i64 0, .slice none 0 0, .slice none 0 0] 60)).cell 0
  have k5PE := ((h5.alloc (Obj.cells #[.int .i64 0, .int .i64 0, .slice none 0 0, .slice none 0 0] 60)).alloc (Obj.cells #[] 119)).cell 0
  have k5EP := ((h5.alloc (Obj.cells #[] 119)).alloc (Obj.cells #[.int .i64 0, .int .i64 0, .slice none 0 0, .slice none 0 0] 60)).cell 0
  have k6E := (h6.alloc (Obj.cells #[] 119)).cell 0
  have k6P := (h6.alloc (Obj.cells #[.int .i64 0, .int .i64 0, .slice none 0 0, .slice none 0 0] 60)).cell 0
  have k6PE := ((h6.alloc (Obj.cells #[.int .i64 0, .int .i64 0, .slice none 0 0, .slice none 0 0] 60)).alloc (Obj.cells #[] 119)).cell 0
  have k6EP := ((h6.alloc (Obj.cells #[] 119)).alloc (Obj.cells #[.int .i64 0, .int .i64 0, .slice none 0 0, .slice none 0 0] 60)).cell 0
  have k7E := (h7.alloc (Obj.cells #[] 119)).cell 0
  have k7P := (h7.alloc (Obj.cells #[.int .i64 0, .int .i64 0, .slice none 0 0, .slice none 0 0] 60)).cell 0
  have k7PE := ((h7.alloc (Obj.cells #[.int .i64 0, .int .i64 0, .slice none 0 0, .slice none 0 0] 60)).alloc (Obj.cells #[] 119)).cell 0
  have k7EP := ((h7.alloc (Obj.cells #[] 119)).alloc (Obj.cells #[.int .i64 0, .int .i64 0, .slice none 0 0, .slice none 0 0] 60)).cell 0
  clear hys
  have hwn : IntKind.i64.wrap (n : Int) = n := by unfold IntKind.wrap; simp [IntKind.bits, IntKind.signed]; omega
  have hcap' : (n : Int) ≤ (cap : Int) := by omega
  have hn00 : (0 : Int) ≤ (n : Int) := by omega
  refine wp_region_noPanic ?_
  refine wp_region_held_drew (S := fun w' => w'.cell? ⟨w.heap.size, 0, none⟩ = some (.slice A n cap) ∧ w'.cell? ⟨w.heap.size + 1, 0, none⟩ = some (.int .i64 0) ∧ w'.cell? ⟨w.heap.size + 1 + 1, 0, none⟩ = some (.int .i64 n)) (by kernel_rfl) (⟨k5, k6, k7⟩) (fun hHeld => ?_)
  refine tk 0 43 ?_
  refine tk 1 44 ?_
  refine tk 2 45 ?_
  refine tk 4 47 ?_
  refine tk 5 48 ?_
  refine tk 6 49 ?_
  refine tk 7 50 ?_
  refine tk 8 51 ?_
  refine tk 9 52 ?_
  refine wpAnyH_ready (rs := [3, 12]) (by kernel_rfl) (by simp) ?_
  refine AllReadyH.cons rfl (fun K hK => ?_) (AllReadyH.cons rfl (fun K hK => ?_) AllReadyH.nil)
  ·skip
   go_simp
   refine hK.out _ _ (⟨(((h5).alloc (Obj.cells #[] 119)).drew).cell 0, (((h6).alloc (Obj.cells #[] 119)).drew).cell 0, (((h7).alloc (Obj.cells #[] 119)).drew).cell 0⟩) (fun hHeld => ?_)
   clear hK K
   refine wpAnyH_ready (rs := [10, 12]) (by kernel_rfl) (by simp) ?_
   refine AllReadyH.cons rfl (fun K hK => ?_) (AllReadyH.cons rfl (fun K hK => ?_) AllReadyH.nil)
   ·skip
    refine step_append_lies ((w2.alloc (Obj.cells #[] 119)).drew) rfl (.tmp 46) (.tmp 52) 31 rfl w2.heap.size 119 i _ 3 40 Tryz.underlying31 hi hz hsz hby rfl (by decide) (.slice (some ⟨w2.heap.size, 0, none⟩) 0 0) 0 [] (by rfl) ownE ⟨b, o, none⟩ n cap ys (congrArg (fun A => Value.slice A n cap) hA.out) hlen hnE h1 hne (by simp only [maxLen]; omega) (by omega) (by first | (simp; done) | (simp; omega)) _ rfl ?_
    intro g2 c2 w4 hown4 hg4 hk4 hl4
    have hf24 : Fr (fun _ => False) w2 w4 := Fr.grown (w := (w2.alloc (Obj.cells #[] 119)).drew) (((Fr.refl _ w2).alloc _).drew) hg4 (fun k hk e => by simp [Value.ownBlock] at e; omega)
    have h54 := h5.fr hf24 id
    have h64 := h6.fr hf24 id
    have h74 := h7.fr hf24 id
    simp only [Act.put, List.setIfInBounds_toArray, List.set_cons_zero, List.set_cons_succ]
    refine hK.out _ _ (⟨(h54).cell 0, (h64).cell 0, (h74).cell 0⟩) (fun hHeld => ?_)
    clear hK K
    refine tk 11 54 ?_
    refine wpAnyH_ready (rs := [12]) (by kernel_rfl) (by simp) ?_
    refine AllReadyH.cons rfl (fun K hK => ?_) AllReadyH.nil
    go_simp
    refine hK.out _ _ (⟨(h54.alloc (Obj.cells #[.int .i64 0, .int .i64 0, .slice none 0 0, .slice none 0 0] 60)).cell 0, (h64.alloc (Obj.cells #[.int .i64 0, .int .i64 0, .slice none 0 0, .slice none 0 0] 60)).cell 0, (h74.alloc (Obj.cells #[.int .i64 0, .int .i64 0, .slice none 0 0, .slice none 0 0] 60)).cell 0⟩) (fun hHeld => ?_)
    clear hK K
    have hP5 := Blk.new w4 60 #[.int .i64 0, .int .i64 0, .slice none 0 0, .slice none 0 0]
    have hf45 : Fr (fun _ => False) w4 (w4.alloc (Obj.cells #[.int .i64 0, .int .i64 0, .slice none 0 0, .slice none 0 0] 60)) := (Fr.refl _ _).alloc _
    have h55 := h54.alloc (Obj.cells #[.int .i64 0, .int .i64 0, .slice none 0 0, .slice none 0 0] 60)
    have h65 := h64.alloc (Obj.cells #[.int .i64 0, .int .i64 0, .slice none 0 0, .slice none 0 0] 60)
    have h75 := h74.alloc (Obj.cells #[.int .i64 0, .int .i64 0, .slice none 0 0, .slice none 0 0] 60)
    generalize w4.alloc (Obj.cells #[.int .i64 0, .int .i64 0, .slice none 0 0, .slice none 0 0] 60) = w5 at *
    have p0 := hP5.cell 0
    have f0 := hP5.frozen 0
    have p1 := hP5.cell 1
    have f1 := hP5.frozen 1
    have p2 := hP5.cell 2
    have f2 := hP5.frozen 2
    have p3 := hP5.cell 3
    have f3 := hP5.frozen 3
    refine wpAnyH_ready (rs := [13]) (by kernel_rfl) (by simp) ?_
    refine AllReadyH.cons rfl (fun K hK => ?_) AllReadyH.nil
    go_simp
    have hf56 : Fr (fun k => k = w4.heap.size) w5 ((((w5.setCell ⟨w4.heap.size, 0, none⟩ (.int .i64 n)).setCell ⟨w4.heap.size, 1, none⟩ (.int .i64 0)).setCell ⟨w4.heap.size, 2, none⟩ (.slice (some ⟨g2, 0, none⟩) n c2)).setCell ⟨w4.heap.size, 3, none⟩ (.slice none 0 0)) := ((((Fr.refl (fun k => k = w4.heap.size) w5).setCell (p := ⟨w4.heap.size, 0, none⟩) (fun _ => rfl) (.int .i64 n)).setCell (p := ⟨w4.heap.size, 1, none⟩) (fun _ => rfl) (.int .i64 0)).setCell (p := ⟨w4.heap.size, 2, none⟩) (fun _ => rfl) (.slice (some ⟨g2, 0, none⟩) n c2)).setCell (p := ⟨w4.heap.size, 3, none⟩) (fun _ => rfl) (.slice none 0 0)
    have hP6 := ((((hP5.set_ 0 (.int .i64 n)).set_ 1 (.int .i64 0)).set_ 2 (.slice (some ⟨g2, 0, none⟩) n c2)).set_ 3 (.slice none 0 0))
    have h56 := h55.fr hf56 (h55.ne_ hP5 (by decide))
    have h66 := h65.fr hf56 (h65.ne_ hP5 (by decide))
    have h76 := h75.fr hf56 (h75.ne_ hP5 (by decide))
    refine hK.out _ _ (⟨h56.cell 0, h66.cell 0, h76.cell 0⟩) (fun hHeld => ?_)
    clear hK K
    refine wpAnyH_done (by kernel_rfl) ?_ _
    refine NoPanic.normal ?_
    go_wp2_with fail
    go_meet
    have hown5 := own_fr hown4 hf45 (fun _ _ => id)
    have hown6 := own_fr hown5 hf56 (fun k hk e => own_ne_blk hown5 hP5 (by decide) (e ▸ hk))
    have hEnt := ents_of hown6 HYS.out HN.out
    have hf26 := (hf24.then_ hf45).trans hf56 (fun k hk e => by have := hf24.size; have := hf45.size; omega)
    exact ⟨_, some ⟨g2, 0, none⟩, c2, rfl, hP6, hEnt, hf26, by have := hf24.size; omega⟩
   ·skip
    go_simp
    refine hK.out _ _ (⟨((((h5).alloc (Obj.cells #[] 119)).alloc (Obj.cells #[.int .i64 0, .int .i64 0, .slice none 0 0, .slice none 0 0] 60)).drew).cell 0, ((((h6).alloc (Obj.cells #[] 119)).alloc (Obj.cells #[.int .i64 0, .int .i64 0, .slice none 0 0, .slice none 0 0] 60)).drew).cell 0, ((((h7).alloc (Obj.cells #[] 119)).alloc (Obj.cells #[.int .i64 0, .int .i64 0, .slice none 0 0, .slice none 0 0] 60)).drew).cell 0⟩) (fun hHeld => ?_)
    clear hK K
    refine wpAnyH_ready (rs := [10]) (by kernel_rfl) (by simp) ?_
    refine AllReadyH.cons rfl (fun K hK => ?_) AllReadyH.nil
    refine step_append_lies (((w2.alloc (Obj.cells #[] 119)).alloc (Obj.cells #[.int .i64 0, .int .i64 0, .slice none 0 0, .slice none 0 0] 60)).drew) rfl (.tmp 46) (.tmp 52) 31 rfl w2.heap.size 119 i _ 3 40 Tryz.underlying31 hi hz hsz hby rfl (by decide) (.slice (some ⟨w2.heap.size, 0, none⟩) 0 0) 0 [] (by rfl) ownEP ⟨b, o, none⟩ n cap ys (congrArg (fun A => Value.slice A n cap) hA.out) hlen hnEP h1 hne (by simp only [maxLen]; omega) (by omega) (by first | (simp; done) | (simp; omega)) _ rfl ?_
    intro g2 c2 w4 hown4 hg4 hk4 hl4
    have hf24 : Fr (fun _ => False) w2 w4 := Fr.grown (w := ((w2.alloc (Obj.cells #[] 119)).alloc (Obj.cells #[.int .i64 0, .int .i64 0, .slice none 0 0, .slice none 0 0] 60)).drew) ((((Fr.refl _ w2).alloc _).alloc _).drew) hg4 (fun k hk e => by simp [Value.ownBlock] at e; omega)
    have h54 := h5.fr hf24 id
    have h64 := h6.fr hf24 id
    have h74 := h7.fr hf24 id
    have hP4 : Blk w4 (w2.heap.size + 1) 60 #[.int .i64 0, .int .i64 0, .slice none 0 0, .slice none 0 0] := Blk.grown_own (hEP) ownEP hg4 (by decide)
    simp only [Act.put, List.setIfInBounds_toArray, List.set_cons_zero, List.set_cons_succ]
    refine hK.out _ _ (⟨(h54).cell 0, (h64).cell 0, (h74).cell 0⟩) (fun hHeld => ?_)
    clear hK K
    refine tk 11 54 ?_
    have hP5 := hP4
    obtain ⟨w5, hw5⟩ : ∃ x, w4 = x := ⟨_, rfl⟩
    have hf45 : Fr (fun _ => False) w4 w5 := hw5 ▸ Fr.refl _ _
    rw [hw5] at hP5
    have h55 := h54
    rw [hw5] at h55
    have h65 := h64
    rw [hw5] at h65
    have h75 := h74
    rw [hw5] at h75
    rw [hw5]
    clear hw5
    have p0 := hP5.cell 0
    have f0 := hP5.frozen 0
    have p1 := hP5.cell 1
    have f1 := hP5.frozen 1
    have p2 := hP5.cell 2
    have f2 := hP5.frozen 2
    have p3 := hP5.cell 3
    have f3 := hP5.frozen 3
    refine wpAnyH_ready (rs := [13]) (by kernel_rfl) (by simp) ?_
    refine AllReadyH.cons rfl (fun K hK => ?_) AllReadyH.nil
    go_simp
    have hf56 : Fr (fun k => k = (w2.heap.size + 1)) w5 ((((w5.setCell ⟨(w2.heap.size + 1), 0, none⟩ (.int .i64 n)).setCell ⟨(w2.heap.size + 1), 1, none⟩ (.int .i64 0)).setCell ⟨(w2.heap.size + 1), 2, none⟩ (.slice (some ⟨g2, 0, none⟩) n c2)).setCell ⟨(w2.heap.size + 1), 3, none⟩ (.slice none 0 0)) := ((((Fr.refl (fun k => k = (w2.heap.size + 1)) w5).setCell (p := ⟨(w2.heap.size + 1), 0, none⟩) (fun _ => rfl) (.int .i64 n)).setCell (p := ⟨(w2.heap.size + 1), 1, none⟩) (fun _ => rfl) (.int .i64 0)).setCell (p := ⟨(w2.heap.size + 1), 2, none⟩) (fun _ => rfl) (.slice (some ⟨g2, 0, none⟩) n c2)).setCell (p := ⟨(w2.heap.size + 1), 3, none⟩) (fun _ => rfl) (.slice none 0 0)
    have hP6 := ((((hP5.set_ 0 (.int .i64 n)).set_ 1 (.int .i64 0)).set_ 2 (.slice (some ⟨g2, 0, none⟩) n c2)).set_ 3 (.slice none 0 0))
    have h56 := h55.fr hf56 (h55.ne_ hP5 (by decide))
    have h66 := h65.fr hf56 (h65.ne_ hP5 (by decide))
    have h76 := h75.fr hf56 (h75.ne_ hP5 (by decide))
    refine hK.out _ _ (⟨h56.cell 0, h66.cell 0, h76.cell 0⟩) (fun hHeld => ?_)
    clear hK K
    refine wpAnyH_done (by kernel_rfl) ?_ _
    refine NoPanic.normal ?_
    go_wp2_with fail
    go_meet
    have hown5 := own_fr hown4 hf45 (fun _ _ => id)
    have hown6 := own_fr hown5 hf56 (fun k hk e => own_ne_blk hown5 hP5 (by decide) (e ▸ hk))
    have hEnt := ents_of hown6 HYS.out HN.out
    have hf26 := (hf24.then_ hf45).trans hf56 (fun k hk e => by have := hf24.size; have := hf45.size; omega)
    exact ⟨_, some ⟨g2, 0, none⟩, c2, rfl, hP6, hEnt, hf26, by have := hf24.size; omega⟩
  ·skip
   go_simp
   refine hK.out _ _ (⟨(((h5).alloc (Obj.cells #[.int .i64 0, .int .i64 0, .slice none 0 0, .slice none 0 0] 60)).drew).cell 0, (((h6).alloc (Obj.cells #[.int .i64 0, .int .i64 0, .slice none 0 0, .slice none 0 0] 60)).drew).cell 0, (((h7).alloc (Obj.cells #[.int .i64 0, .int .i64 0, .slice none 0 0, .slice none 0 0] 60)).drew).cell 0⟩) (fun hHeld => ?_)
   clear hK K
   refine wpAnyH_ready (rs := [3]) (by kernel_rfl) (by simp) ?_
   refine AllReadyH.cons rfl (fun K hK => ?_) AllReadyH.nil
   go_simp
   refine hK.out _ _ (⟨((((h5).alloc (Obj.cells #[.int .i64 0, .int .i64 0, .slice none 0 0, .slice none 0 0] 60)).alloc (Obj.cells #[] 119)).drew).cell 0, ((((h6).alloc (Obj.cells #[.int .i64 0, .int .i64 0, .slice none 0 0, .slice none 0 0] 60)).alloc (Obj.cells #[] 119)).drew).cell 0, ((((h7).alloc (Obj.cells #[.int .i64 0, .int .i64 0, .slice none 0 0, .slice none 0 0] 60)).alloc (Obj.cells #[] 119)).drew).cell 0⟩) (fun hHeld => ?_)
   clear hK K
   refine wpAnyH_ready (rs := [10]) (by kernel_rfl) (by simp) ?_
   refine AllReadyH.cons rfl (fun K hK => ?_) AllReadyH.nil
   refine step_append_lies (((w2.alloc (Obj.cells #[.int .i64 0, .int .i64 0, .slice none 0 0, .slice none 0 0] 60)).alloc (Obj.cells #[] 119)).drew) rfl (.tmp 46) (.tmp 52) 31 rfl w2.heap.size 119 i _ 3 40 Tryz.underlying31 hi hz hsz hby rfl (by decide) (.slice (some ⟨(w2.heap.size + 1), 0, none⟩) 0 0) 0 [] (by rfl) ownPE ⟨b, o, none⟩ n cap ys (congrArg (fun A => Value.slice A n cap) hA.out) hlen hnPE h1 hne (by simp only [maxLen]; omega) (by omega) (by first | (simp; done) | (simp; omega)) _ rfl ?_
   intro g2 c2 w4 hown4 hg4 hk4 hl4
   have hf24 : Fr (fun _ => False) w2 w4 := Fr.grown (w := ((w2.alloc (Obj.cells #[.int .i64 0, .int .i64 0, .slice none 0 0, .slice none 0 0] 60)).alloc (Obj.cells #[] 119)).drew) ((((Fr.refl _ w2).alloc _).alloc _).drew) hg4 (fun k hk e => by simp [Value.ownBlock] at e; omega)
   have h54 := h5.fr hf24 id
   have h64 := h6.fr hf24 id
   have h74 := h7.fr hf24 id
   have hP4 : Blk w4 w2.heap.size 60 #[.int .i64 0, .int .i64 0, .slice none 0 0, .slice none 0 0] := Blk.grown_own (hPE) ownPE hg4 (by decide)
   simp only [Act.put, List.setIfInBounds_toArray, List.set_cons_zero, List.set_cons_succ]
   refine hK.out _ _ (⟨(h54).cell 0, (h64).cell 0, (h74).cell 0⟩) (fun hHeld => ?_)
   clear hK K
   refine tk 11 54 ?_
   have hP5 := hP4
   obtain ⟨w5, hw5⟩ : ∃ x, w4 = x := ⟨_, rfl⟩
   have hf45 : Fr (fun _ => False) w4 w5 := hw5 ▸ Fr.refl _ _
   rw [hw5] at hP5
   have h55 := h54
   rw [hw5] at h55
   have h65 := h64
   rw [hw5] at h65
   have h75 := h74
   rw [hw5] at h75
   rw [hw5]
   clear hw5
   have p0 := hP5.cell 0
   have f0 := hP5.frozen 0
   have p1 := hP5.cell 1
   have f1 := hP5.frozen 1
   have p2 := hP5.cell 2
   have f2 := hP5.frozen 2
   have p3 := hP5.cell 3
   have f3 := hP5.frozen 3
   refine wpAnyH_ready (rs := [13]) (by kernel_rfl) (by simp) ?_
   refine AllReadyH.cons rfl (fun K hK => ?_) AllReadyH.nil
   go_simp
   have hf56 : Fr (fun k => k = w2.heap.size) w5 ((((w5.setCell ⟨w2.heap.size, 0, none⟩ (.int .i64 n)).setCell ⟨w2.heap.size, 1, none⟩ (.int .i64 0)).setCell ⟨w2.heap.size, 2, none⟩ (.slice (some ⟨g2, 0, none⟩) n c2)).setCell ⟨w2.heap.size, 3, none⟩ (.slice none 0 0)) := ((((Fr.refl (fun k => k = w2.heap.size) w5).setCell (p := ⟨w2.heap.size, 0, none⟩) (fun _ => rfl) (.int .i64 n)).setCell (p := ⟨w2.heap.size, 1, none⟩) (fun _ => rfl) (.int .i64 0)).setCell (p := ⟨w2.heap.size, 2, none⟩) (fun _ => rfl) (.slice (some ⟨g2, 0, none⟩) n c2)).setCell (p := ⟨w2.heap.size, 3, none⟩) (fun _ => rfl) (.slice none 0 0)
   have hP6 := ((((hP5.set_ 0 (.int .i64 n)).set_ 1 (.int .i64 0)).set_ 2 (.slice (some ⟨g2, 0, none⟩) n c2)).set_ 3 (.slice none 0 0))
   have h56 := h55.fr hf56 (h55.ne_ hP5 (by decide))
   have h66 := h65.fr hf56 (h65.ne_ hP5 (by decide))
   have h76 := h75.fr hf56 (h75.ne_ hP5 (by decide))
   refine hK.out _ _ (⟨h56.cell 0, h66.cell 0, h76.cell 0⟩) (fun hHeld => ?_)
   clear hK K
   refine wpAnyH_done (by kernel_rfl) ?_ _
   refine NoPanic.normal ?_
   go_wp2_with fail
   go_meet
   have hown5 := own_fr hown4 hf45 (fun _ _ => id)
   have hown6 := own_fr hown5 hf56 (fun k hk e => own_ne_blk hown5 hP5 (by decide) (e ▸ hk))
   have hEnt := ents_of hown6 HYS.out HN.out
   have hf26 := (hf24.then_ hf45).trans hf56 (fun k hk e => by have := hf24.size; have := hf45.size; omega)
   exact ⟨_, some ⟨g2, 0, none⟩, c2, rfl, hP6, hEnt, hf26, by have := hf24.size; omega⟩

 case rest =>
  obtain ⟨b11, LA, lc, rfl, hP3, hE3, hf23, hle⟩ := hcut
  have h5 := h5.fr hf23 id
  have h6 := h6.fr hf23 id
  have h7 := h7.fr hf23 id
  have h8 := h8.fr hf23 id
  have ht := ht.fr hf23 id
  have h10 := h10.fr hf23 id
  have hb3 := hb2.keep hf23
  have hf03 := hf02.then_ hf23
  have hsz23 := hf23.size
  clear k5 k6 k7 hf23 hf02 hb2
  have k5 := h5.cell 0
  have k6 := h6.cell 0
  have k7 := h7.cell 0
  generalize wc = w3 at *
  go_upto_region 6 with fail
  have hN3 := Blk.new w3 209 #[.nilFunc]
  have hst : (store ⟨w3.heap.size, 0, none⟩ (Value.func (.func 115) #[] #[.pointer (some ⟨w.heap.size + 1, 0, none⟩), .pointer (some ⟨w.heap.size + 1 + 1, 0, none⟩), .pointer (some ⟨b11, 0, none⟩), .pointer (some ⟨gt + 1, 0, none⟩), .pointer (some ⟨w.heap.size, 0, none⟩), .pointer (some ⟨w3.heap.size, 0, none⟩)])).run Tryz.prog (w3.alloc (Obj.cells #[.nilFunc] 209)) = .ok () ((w3.alloc (Obj.cells #[.nilFunc] 209)).setCell ⟨w3.heap.size, 0, none⟩ (Value.func (.func 115) #[] #[.pointer (some ⟨w.heap.size + 1, 0, none⟩), .pointer (some ⟨w.heap.size + 1 + 1, 0, none⟩), .pointer (some ⟨b11, 0, none⟩), .pointer (some ⟨gt + 1, 0, none⟩), .pointer (some ⟨w.heap.size, 0, none⟩), .pointer (some ⟨w3.heap.size, 0, none⟩)])) := by
   have hc := hN3.cell 0
   have hz := hN3.frozen 0
   simp at hc hz
   rw [run_store Tryz.prog _ _ (Value.func (.func 115) #[] #[.pointer (some ⟨w.heap.size + 1, 0, none⟩), .pointer (some ⟨w.heap.size + 1 + 1, 0, none⟩), .pointer (some ⟨b11, 0, none⟩), .pointer (some ⟨gt + 1, 0, none⟩), .pointer (some ⟨w.heap.size, 0, none⟩), .pointer (some ⟨w3.heap.size, 0, none⟩)]) _ rfl]
   simp [hc, hz]
  go_upto_region 7 with fail
  have hF4 := Blk.new w3 209 #[(Value.func (.func 115) #[] #[.pointer (some ⟨w.heap.size + 1, 0, none⟩), .pointer (some ⟨w.heap.size + 1 + 1, 0, none⟩), .pointer (some ⟨b11, 0, none⟩), .pointer (some ⟨gt + 1, 0, none⟩), .pointer (some ⟨w.heap.size, 0, none⟩), .pointer (some ⟨w3.heap.size, 0, none⟩)])]
  have hf34 : Fr (fun _ => False) w3 (w3.alloc (Obj.cells #[(Value.func (.func 115) #[] #[.pointer (some ⟨w.heap.size + 1, 0, none⟩), .pointer (some ⟨w.heap.size + 1 + 1, 0, none⟩), .pointer (some ⟨b11, 0, none⟩), .pointer (some ⟨gt + 1, 0, none⟩), .pointer (some ⟨w.heap.size, 0, none⟩), .pointer (some ⟨w3.heap.size, 0, none⟩)])] 209)) := (Fr.refl (fun _ => False) w3).alloc _
  clear hst hN3
  generalize w3.alloc (Obj.cells #[(Value.func (.func 115) #[] #[.pointer (some ⟨w.heap.size + 1, 0, none⟩), .pointer (some ⟨w.heap.size + 1 + 1, 0, none⟩), .pointer (some ⟨b11, 0, none⟩), .pointer (some ⟨gt + 1, 0, none⟩), .pointer (some ⟨w.heap.size, 0, none⟩), .pointer (some ⟨w3.heap.size, 0, none⟩)])] 209) = w4 at *
  obtain ⟨bd, hbd⟩ : ∃ x, w3.heap.size = x := ⟨_, rfl⟩
  rw [hbd] at hF4 ⊢
  clear hbd k5 k6 k7
  have h5 := h5.fr hf34 id
  have h6 := h6.fr hf34 id
  have h7 := h7.fr hf34 id
  have h8 := h8.fr hf34 id
  have ht := ht.fr hf34 id
  have h10 := h10.fr hf34 id
  have hP4 := hP3.fr hf34 id
  have hb4 := hb3.keep hf34
  have hE4 := hE3.fr hf34 (fun _ _ => id)
  have hf04 := hf03.then_ hf34
  have k5 := h5.cell 0
  have k6 := h6.cell 0
  have k7 := h7.cell 0
  have kd := hF4.cell 0
  have hD4 : Down w4 (w.heap.size + 1) (w.heap.size + 1 + 1) bd b11 (gt + 1) w.heap.size n := ⟨k6, k7, kd⟩
  have HD : Hid (Calls Tryz.prog 115 #[.int .i64 0, .int .i64 n, .pointer (some ⟨w.heap.size + 1, 0, none⟩), .pointer (some ⟨w.heap.size + 1 + 1, 0, none⟩), .pointer (some ⟨b11, 0, none⟩), .pointer (some ⟨gt + 1, 0, none⟩), .pointer (some ⟨w.heap.size, 0, none⟩), .pointer (some ⟨bd, 0, none⟩)] w4 (fun e w' => e = .returned (.tuple #[]) ∧ ∃ m, w' = w4.drewN m)) := prove1_down (by omega) n 0 w4 (by omega) (by omega) hD4
  go_upto_region 8 with (go_at_call 115; refine HD.out.mono ?_; rintro e w6 ⟨rfl, q, rfl⟩)
  have hle24 : Hid (w2.heap.size ≤ w4.heap.size) := Nat.le_trans hsz23 hf34.size
  clear hf34 hf03 hP3 hb3 hE3
  have hf46 : Fr (fun _ => False) w4 (w4.drewN q) := (Fr.refl _ _).drewN q
  have ht6 := ht.fr hf46 id
  have h10 := h10.fr hf46 id
  have h8 := h8.fr hf46 id
  have hP6 := hP4.fr hf46 id
  have hb6 := hb4.keep hf46
  have hE6 := hE4.fr hf46 (fun _ _ => id)
  have hf06 := hf04.then_ hf46
  clear ht hP4 hb4 hE4 hf46 hf04 h5 h6 h7 hF4 hD4
  generalize w4.drewN q = w6 at *
  have t10 := h10.cell 0
  have t1 := ht6.cell 1
  clear h10 HD k5 k6 k7 kd
  go_wp2_with (first
   | (refine wpList_load_row rfl 60 _ rfl _ rfl _ _ (0, 0) _ hP6 Tryz.underlying60 rfl (by kernel_rfl) ?_)
   | (refine wpList_store_row rfl 60 (.tmp 8) (.tmp 70) rfl (w.heap.size + 1 + 1 + 1) #[.int .i64 n, .int .i64 0, .slice LA n lc, .slice none 0 0] rfl rfl 60 _ h8 (by kernel_rfl) rfl (by simp [Value.oneCell']) ?_))
  have h9 := Blk.setRow_ (ds := #[.int .i64 n, .int .i64 0, .slice LA n lc, .slice none 0 0]) h8
  have hfz := Fr.setRow_ (w := w6) (g := w.heap.size + 1 + 1 + 1) (ds := #[.int .i64 n, .int .i64 0, .slice LA n lc, .slice none 0 0])
  have n1 := hb6.blk.ne_ h8 (by decide)
  have n2 : m ≠ w.heap.size + 1 + 1 + 1 := fun e => by obtain ⟨⟨es, cl, h1, _⟩, _⟩ := hb6.map; exact h8.ne_map h1 e.symm
  have n3 := own_ne_blk hb6.own h8 (by decide)
  have hb9 := hb6.fr hfz n1 n2 (fun k hk e => n3 (e ▸ hk))
  generalize w6.setRow (w.heap.size + 1 + 1 + 1) #[.int .i64 n, .int .i64 0, .slice LA n lc, .slice none 0 0] = wz at *
  refine bodyPost_ret (v := .tuple #[.agg #[.int .i64 n, .int .i64 0, .slice LA n lc, .slice none 0 0], .nilIface]) (results_row2 Tryz.results84 _ wz (w.heap.size + 1 + 1 + 1) 60 #[.int .i64 n, .int .i64 0, .slice LA n lc, .slice none 0 0] (0, 0) _ rfl h9 Tryz.underlying60 rfl (by kernel_rfl) rfl) rfl ?_
  have hsz := hle0
  exact ⟨LA, lc, none, 0, v, by rw [HN.out]; rfl, (hE6.fr hfz (fun k hk e => by have := h8lt.out; omega)).mono_ (fun k hk => by omega), fun k x hx => by simp at hx, hb9, (hf06.trans hfz (fun k hk e => by omega)).mono (fun _ _ h => h.elim), fun k hk => .inl hk⟩
set_option maxRecDepth 100000 in
set_option maxHeartbeats 4000000 in
theorem prove_none {w : World} {g m base : Nat} {v : Value} {L : List (List Int)} (hb : BookAt w g m base v L) (hbase : base ≤ w.heap.size) (hL : L.length < 65536) {F : Nat → Prop} {A : Option Addr} {l : List Ent} {cap : Nat} (h : EntRow w F A l) (hll : l.length ≤ 60000) (hyes : risesE l = true) (hcap : l.length ≤ cap) (hne : l = []) :
  Calls Tryz.prog 84 #[.pointer (some ⟨g, 0, none⟩), .slice A l.length cap, .int .i64 0, .int .i64 l.length] w (ProveP w g m base v L l [((digI L noneB : Nat) : Int)] (digL L noneB)) := by
 have HRow := Lib.hid h
 obtain ⟨n, hn⟩ : ∃ n : Nat, l.length = n := ⟨_, rfl⟩
 have HR := Lib.hid (fun w' (hf : Fr (fun _ => False) w w') => merkle_right (cap := cap) (h.fr hf (fun _ _ => id)) (by omega))
 rw [hn, hyes] at HR
 rw [hn] at hll hcap ⊢
 have hn0 : n = 0 := by rw [← hn, hne]; rfl
 subst hn0
 subst hne
 clear h hyes hn
 have h5 : Blk ((((w.alloc (Obj.cells #[.slice A 0 cap] 31)).alloc (Obj.cells #[.int .i64 0] 3)).alloc (Obj.cells #[.int .i64 ((0 : Nat) : Int)] 3)).alloc (Obj.cells #[.int .i64 0, .int .i64 0, .slice none 0 0, .slice none 0 0] 60)) w.heap.size 31 #[.slice A 0 cap] := (((Blk.new w _ _).alloc _).alloc _).alloc _
 have h6 : Blk ((((w.alloc (Obj.cells #[.slice A 0 cap] 31)).alloc (Obj.cells #[.int .i64 0] 3)).alloc (Obj.cells #[.int .i64 ((0 : Nat) : Int)] 3)).alloc (Obj.cells #[.int .i64 0, .int .i64 0, .slice none 0 0, .slice none 0 0] 60)) (w.heap.size + 1) 3 #[.int .i64 0] := ((Blk.new_ _ _ _ (by simp)).alloc _).alloc _
 have h7 : Blk ((((w.alloc (Obj.cells #[.slice A 0 cap] 31)).alloc (Obj.cells #[.int .i64 0] 3)).alloc (Obj.cells #[.int .i64 ((0 : Nat) : Int)] 3)).alloc (Obj.cells #[.int .i64 0, .int .i64 0, .slice none 0 0, .slice none 0 0] 60)) (w.heap.size + 1 + 1) 3 #[.int .i64 ((0 : Nat) : Int)] := (Blk.new_ _ _ _ (by simp)).alloc _
 have h8 : Blk ((((w.alloc (Obj.cells #[.slice A 0 cap] 31)).alloc (Obj.cells #[.int .i64 0] 3)).alloc (Obj.cells #[.int .i64 ((0 : Nat) : Int)] 3)).alloc (Obj.cells #[.int .i64 0, .int .i64 0, .slice none 0 0, .slice none 0 0] 60)) (w.heap.size + 1 + 1 + 1) 60 #[.int .i64 0, .int .i64 0, .slice none 0 0, .slice none 0 0] := Blk.new_ _ _ _ (by simp)
 have hf0 : Fr (fun _ => False) w ((((w.alloc (Obj.cells #[.slice A 0 cap] 31)).alloc (Obj.cells #[.int .i64 0] 3)).alloc (Obj.cells #[.int .i64 ((0 : Nat) : Int)] 3)).alloc (Obj.cells #[.int .i64 0, .int .i64 0, .slice none 0 0, .slice none 0 0] 60)) := ((((Fr.refl _ _).alloc _).alloc _).alloc _).alloc _
 have hz0 : w.heap.size + 4 ≤ ((((w.alloc (Obj.cells #[.slice A 0 cap] 31)).alloc (Obj.cells #[.int .i64 0] 3)).alloc (Obj.cells #[.int .i64 ((0 : Nat) : Int)] 3)).alloc (Obj.cells #[.int .i64 0, .int .i64 0, .slice none 0 0, .slice none 0 0] 60)).heap.size := by simp
 go_enter Tryz.func84, Tryz.ntmps84
 go_upto_region 1 with fail
 generalize ((((w.alloc (Obj.cells #[.slice A 0 cap] 31)).alloc (Obj.cells #[.int .i64 0] 3)).alloc (Obj.cells #[.int .i64 ((0 : Nat) : Int)] 3)).alloc (Obj.cells #[.int .i64 0, .int .i64 0, .slice none 0 0, .slice none 0 0] 60)) = w0 at *
 have k5 := h5.cell 0
 have k6 := h6.cell 0
 have k7 := h7.cell 0
 have hb0 := hb.keep hf0
 have hw0 : IntKind.i64.wrap 0 = 0 := by decide
 go_upto_region 3 with (go_at_call 113; refine (HR.out _ hf0).mono ?_; rintro e w1 ⟨rfl, hf1⟩; have k6 := hf1.cell_some k6 id; have k7 := hf1.cell_some k7 id; have k5 := hf1.cell_some k5 id)
 have h5 := h5.fr hf1 id
 have h6 := h6.fr hf1 id
 have h7 := h7.fr hf1 id
 have h8 := h8.fr hf1 id
 have hf01 := hf0.then_ hf1
 go_upto_region 4 with fail
 have ht : Blk ((w1.alloc (Obj.cells #[.pointer (some ⟨g, 0, none⟩), .nilIface] 208)).alloc (Obj.cells #[.pointer (some ⟨w1.heap.size, 0, none⟩)] 206)) w1.heap.size 208 #[.pointer (some ⟨g, 0, none⟩), .nilIface] := (Blk.new w1 _ _).alloc _
 have h10 : Blk ((w1.alloc (Obj.cells #[.pointer (some ⟨g, 0, none⟩), .nilIface] 208)).alloc (Obj.cells #[.pointer (some ⟨w1.heap.size, 0, none⟩)] 206)) (w1.heap.size + 1) 206 #[.pointer (some ⟨w1.heap.size, 0, none⟩)] := Blk.new_ _ _ _ (by simp)
 have hfT : Fr (fun _ => False) w1 ((w1.alloc (Obj.cells #[.pointer (some ⟨g, 0, none⟩), .nilIface] 208)).alloc (Obj.cells #[.pointer (some ⟨w1.heap.size, 0, none⟩)] 206)) := ((Fr.refl _ _).alloc _).alloc _
 have h5 := h5.fr hfT id
 have h6 := h6.fr hfT id
 have h7 := h7.fr hfT id
 have h8 := h8.fr hfT id
 have hf02 := hf01.then_ hfT
 have hz1w := hf01.size
 generalize (w1.alloc (Obj.cells #[.pointer (some ⟨g, 0, none⟩), .nilIface] 208)).alloc (Obj.cells #[.pointer (some ⟨w1.heap.size, 0, none⟩)] 206) = w2 at *
 clear hf01 hf1 hfT k5 k6 k7
 obtain ⟨gt, hgt⟩ : ∃ x, w1.heap.size = x := ⟨_, rfl⟩
 rw [hgt] at ht h10 hz1w ⊢
 have hgtw := Lib.hid hz1w
 clear hgt hz1w
 have k5 := h5.cell 0
 have k6 := h6.cell 0
 have k7 := h7.cell 0
 have hb2 := hb.keep hf02
 have hle0 := hf02.size
 have h8lt : Hid (w.heap.size + 1 + 1 + 1 < w2.heap.size) := h8.lt
 go_cut [11] from 43 to 54 (fun p wx => PrvMid w2 0 [] p wx)
 case first =>
  cases A with
  | none =>
   refine wp_region_noPanic ?_
   refine wp_region_held_drew (S := fun w' => w'.cell? ⟨w.heap.size, 0, none⟩ = some (.slice none 0 cap) ∧ w'.cell? ⟨w.heap.size + 1, 0, none⟩ = some (.int .i64 0) ∧ w'.cell? ⟨w.heap.size + 1 + 1, 0, none⟩ = some (.int .i64 ((0 : Nat) : Int))) (by kernel_rfl) (⟨k5, k6, k7⟩) (fun hHeld => ?_)
   refine tk 0 43 ?_
   refine tk 1 44 ?_
   refine tk 2 45 ?_
   refine tk 4 47 ?_
   refine tk 5 48 ?_
   refine tk 6 49 ?_
   refine tk 7 50 ?_
   refine tk 8 51 ?_
   refine tk 9 52 ?_
   refine wpAnyH_ready (rs := [3, 12]) (by kernel_rfl) (by simp) ?_
   refine AllReadyH.cons rfl (fun K hK => ?_) (AllReadyH.cons rfl (fun K hK => ?_) AllReadyH.nil)
   ·skip
    go_simp
    refine hK.out _ _ (⟨(((h5).alloc (Obj.cells #[] 119)).drew).cell 0, (((h6).alloc (Obj.cells #[] 119)).drew).cell 0, (((h7).alloc (Obj.cells #[] 119)).drew).cell 0⟩) (fun hHeld => ?_)
    clear hK K
    refine wpAnyH_ready (rs := [10, 12]) (by kernel_rfl) (by simp) ?_
    refine AllReadyH.cons rfl (fun K hK => ?_) (AllReadyH.cons rfl (fun K hK => ?_) AllReadyH.nil)
    ·skip
     go_simp
     refine hK.out _ _ (⟨(((h5).alloc (Obj.cells #[] 119)).drew).cell 0, (((h6).alloc (Obj.cells #[] 119)).drew).cell 0, (((h7).alloc (Obj.cells #[] 119)).drew).cell 0⟩) (fun hHeld => ?_)
     clear hK K
     refine tk 11 54 ?_
     refine wpAnyH_ready (rs := [12]) (by kernel_rfl) (by simp) ?_
     refine AllReadyH.cons rfl (fun K hK => ?_) AllReadyH.nil
     go_simp
     refine hK.out _ _ (⟨((((h5).alloc (Obj.cells #[] 119)).alloc (Obj.cells #[.int .i64 0, .int .i64 0, .slice none 0 0, .slice none 0 0] 60)).drew).cell 0, ((((h6).alloc (Obj.cells #[] 119)).alloc (Obj.cells #[.int .i64 0, .int .i64 0, .slice none 0 0, .slice none 0 0] 60)).drew).cell 0, ((((h7).alloc (Obj.cells #[] 119)).alloc (Obj.cells #[.int .i64 0, .int .i64 0, .slice none 0 0, .slice none 0 0] 60)).drew).cell 0⟩) (fun hHeld => ?_)
     clear hK K
     have hP5 : Blk ((w2.alloc (Obj.cells #[] 119)).alloc (Obj.cells #[.int .i64 0, .int .i64 0, .slice none 0 0, .slice none 0 0] 60)).drew (w2.heap.size + 1) 60 #[.int .i64 0, .int .i64 0, .slice none 0 0, .slice none 0 0] := (Blk.new_ _ _ _ (by simp)).drew
     have hf25 : Fr (fun _ => False) w2 ((w2.alloc (Obj.cells #[] 119)).alloc (Obj.cells #[.int .i64 0, .int .i64 0, .slice none 0 0, .slice none 0 0] 60)).drew := (((Fr.refl _ w2).alloc _).alloc _).drew
     have h55 := (((h5).alloc (Obj.cells #[] 119)).alloc (Obj.cells #[.int .i64 0, .int .i64 0, .slice none 0 0, .slice none 0 0] 60)).drew
     have h65 := (((h6).alloc (Obj.cells #[] 119)).alloc (Obj.cells #[.int .i64 0, .int .i64 0, .slice none 0 0, .slice none 0 0] 60)).drew
     have h75 := (((h7).alloc (Obj.cells #[] 119)).alloc (Obj.cells #[.int .i64 0, .int .i64 0, .slice none 0 0, .slice none 0 0] 60)).drew
     generalize ((w2.alloc (Obj.cells #[] 119)).alloc (Obj.cells #[.int .i64 0, .int .i64 0, .slice none 0 0, .slice none 0 0] 60)).drew = w5 at *
     have p0 := hP5.cell 0
     have f0 := hP5.frozen 0
     have p1 := hP5.cell 1
     have f1 := hP5.frozen 1
     have p2 := hP5.cell 2
     have f2 := hP5.frozen 2
     have p3 := hP5.cell 3
     have f3 := hP5.frozen 3
     refine wpAnyH_ready (rs := [13]) (by kernel_rfl) (by simp) ?_
     refine AllReadyH.cons rfl (fun K hK => ?_) AllReadyH.nil
     go_simp
     have hf56 : Fr (fun k => k = (w2.heap.size + 1)) w5 ((((w5.setCell ⟨(w2.heap.size + 1), 0, none⟩ (.int .i64 ((0 : Nat) : Int))).setCell ⟨(w2.heap.size + 1), 1, none⟩ (.int .i64 0)).setCell ⟨(w2.heap.size + 1), 2, none⟩ (.slice (some ⟨w2.heap.size, 0, none⟩) 0 0)).setCell ⟨(w2.heap.size + 1), 3, none⟩ (.slice none 0 0)) := ((((Fr.refl (fun k => k = (w2.heap.size + 1)) w5).setCell (p := ⟨(w2.heap.size + 1), 0, none⟩) (fun _ => rfl) (.int .i64 ((0 : Nat) : Int))).setCell (p := ⟨(w2.heap.size + 1), 1, none⟩) (fun _ => rfl) (.int .i64 0)).setCell (p := ⟨(w2.heap.size + 1), 2, none⟩) (fun _ => rfl) (.slice (some ⟨w2.heap.size, 0, none⟩) 0 0)).setCell (p := ⟨(w2.heap.size + 1), 3, none⟩) (fun _ => rfl) (.slice none 0 0)
     have hP6 := ((((hP5.set_ 0 (.int .i64 ((0 : Nat) : Int))).set_ 1 (.int .i64 0)).set_ 2 (.slice (some ⟨w2.heap.size, 0, none⟩) 0 0)).set_ 3 (.slice none 0 0))
     have h56 := h55.fr hf56 (h55.ne_ hP5 (by decide))
     have h66 := h65.fr hf56 (h65.ne_ hP5 (by decide))
     have h76 := h75.fr hf56 (h75.ne_ hP5 (by decide))
     refine hK.out _ _ (⟨h56.cell 0, h66.cell 0, h76.cell 0⟩) (fun hHeld => ?_)
     clear hK K
     refine wpAnyH_done (by kernel_rfl) ?_ _
     refine NoPanic.normal ?_
     go_wp2_with fail
     go_meet
     have hf26 := hf25.trans hf56 (fun k hk e => by omega)
     exact ⟨_, some ⟨w2.heap.size, 0, none⟩, 0, rfl, hP6, (fun k x hx => by simp at hx), hf26, by omega⟩
    ·skip
     go_simp
     refine hK.out _ _ (⟨((((h5).alloc (Obj.cells #[] 119)).alloc (Obj.cells #[.int .i64 0, .int .i64 0, .slice none 0 0, .slice none 0 0] 60)).drew).cell 0, ((((h6).alloc (Obj.cells #[] 119)).alloc (Obj.cells #[.int .i64 0, .int .i64 0, .slice none 0 0, .slice none 0 0] 60)).drew).cell 0, ((((h7).alloc (Obj.cells #[] 119)).alloc (Obj.cells #[.int .i64 0, .int .i64 0, .slice none 0 0, .slice none 0 0] 60)).drew).cell 0⟩) (fun hHeld => ?_)
     clear hK K
     refine wpAnyH_ready (rs := [10]) (by kernel_rfl) (by simp) ?_
     refine AllReadyH.cons rfl (fun K hK => ?_) AllReadyH.nil
     go_simp
     refine hK.out _ _ (⟨((((h5).alloc (Obj.cells #[] 119)).alloc (Obj.cells #[.int .i64 0, .int .i64 0, .slice none 0 0, .slice none 0 0] 60)).drew).cell 0, ((((h6).alloc (Obj.cells #[] 119)).alloc (Obj.cells #[.int .i64 0, .int .i64 0, .slice none 0 0, .slice none 0 0] 60)).drew).cell 0, ((((h7).alloc (Obj.cells #[] 119)).alloc (Obj.cells #[.int .i64 0, .int .i64 0, .slice none 0 0, .slice none 0 0] 60)).drew).cell 0⟩) (fun hHeld => ?_)
     clear hK K
     refine tk 11 54 ?_
     have hP5 : Blk ((w2.alloc (Obj.cells #[] 119)).alloc (Obj.cells #[.int .i64 0, .int .i64 0, .slice none 0 0, .slice none 0 0] 60)).drew (w2.heap.size + 1) 60 #[.int .i64 0, .int .i64 0, .slice none 0 0, .slice none 0 0] := (Blk.new_ _ _ _ (by simp)).drew
     have hf25 : Fr (fun _ => False) w2 ((w2.alloc (Obj.cells #[] 119)).alloc (Obj.cells #[.int .i64 0, .int .i64 0, .slice none 0 0, .slice none 0 0] 60)).drew := (((Fr.refl _ w2).alloc _).alloc _).drew
     have h55 := (((h5).alloc (Obj.cells #[] 119)).alloc (Obj.cells #[.int .i64 0, .int .i64 0, .slice none 0 0, .slice none 0 0] 60)).drew
     have h65 := (((h6).alloc (Obj.cells #[] 119)).alloc (Obj.cells #[.int .i64 0, .int .i64 0, .slice none 0 0, .slice none 0 0] 60)).drew
     have h75 := (((h7).alloc (Obj.cells #[] 119)).alloc (Obj.cells #[.int .i64 0, .int .i64 0, .slice none 0 0, .slice none 0 0] 60)).drew
     generalize ((w2.alloc (Obj.cells #[] 119)).alloc (Obj.cells #[.int .i64 0, .int .i64 0, .slice none 0 0, .slice none 0 0] 60)).drew = w5 at *
     have p0 := hP5.cell 0
     have f0 := hP5.frozen 0
     have p1 := hP5.cell 1
     have f1 := hP5.frozen 1
     have p2 := hP5.cell 2
     have f2 := hP5.frozen 2
     have p3 := hP5.cell 3
     have f3 := hP5.frozen 3
     refine wpAnyH_ready (rs := [13]) (by kernel_rfl) (by simp) ?_
     refine AllReadyH.cons rfl (fun K hK => ?_) AllReadyH.nil
     go_simp
     have hf56 : Fr (fun k => k = (w2.heap.size + 1)) w5 ((((w5.setCell ⟨(w2.heap.size + 1), 0, none⟩ (.int .i64 ((0 : Nat) : Int))).setCell ⟨(w2.heap.size + 1), 1, none⟩ (.int .i64 0)).setCell ⟨(w2.heap.size + 1), 2, none⟩ (.slice (some ⟨w2.heap.size, 0, none⟩) 0 0)).setCell ⟨(w2.heap.size + 1), 3, none⟩ (.slice none 0 0)) := ((((Fr.refl (fun k => k = (w2.heap.size + 1)) w5).setCell (p := ⟨(w2.heap.size + 1), 0, none⟩) (fun _ => rfl) (.int .i64 ((0 : Nat) : Int))).setCell (p := ⟨(w2.heap.size + 1), 1, none⟩) (fun _ => rfl) (.int .i64 0)).setCell (p := ⟨(w2.heap.size + 1), 2, none⟩) (fun _ => rfl) (.slice (some ⟨w2.heap.size, 0, none⟩) 0 0)).setCell (p := ⟨(w2.heap.size + 1), 3, none⟩) (fun _ => rfl) (.slice none 0 0)
     have hP6 := ((((hP5.set_ 0 (.int .i64 ((0 : Nat) : Int))).set_ 1 (.int .i64 0)).set_ 2 (.slice (some ⟨w2.heap.size, 0, none⟩) 0 0)).set_ 3 (.slice none 0 0))
     have h56 := h55.fr hf56 (h55.ne_ hP5 (by decide))
     have h66 := h65.fr hf56 (h65.ne_ hP5 (by decide))
     have h76 := h75.fr hf56 (h75.ne_ hP5 (by decide))
     refine hK.out _ _ (⟨h56.cell 0, h66.cell 0, h76.cell 0⟩) (fun hHeld => ?_)
     clear hK K
     refine wpAnyH_done (by kernel_rfl) ?_ _
     refine NoPanic.normal ?_
     go_wp2_with fail
     go_meet
     have hf26 := hf25.trans hf56 (fun k hk e => by omega)
     exact ⟨_, some ⟨w2.heap.size, 0, none⟩, 0, rfl, hP6, (fun k x hx => by simp at hx), hf26, by omega⟩
   ·skip
    go_simp
    refine hK.out _ _ (⟨(((h5).alloc (Obj.cells #[.int .i64 0, .int .i64 0, .slice none 0 0, .slice none 0 0] 60)).drew).cell 0, (((h6).alloc (Obj.cells #[.int .i64 0, .int .i64 0, .slice none 0 0, .slice none 0 0] 60)).drew).cell 0, (((h7).alloc (Obj.cells #[.int .i64 0, .int .i64 0, .slice none 0 0, .slice none 0 0] 60)).drew).cell 0⟩) (fun hHeld => ?_)
    clear hK K
    refine wpAnyH_ready (rs := [3]) (by kernel_rfl) (by simp) ?_
    refine AllReadyH.cons rfl (fun K hK => ?_) AllReadyH.nil
    go_simp
    refine hK.out _ _ (⟨((((h5).alloc (Obj.cells #[.int .i64 0, .int .i64 0, .slice none 0 0, .slice none 0 0] 60)).alloc (Obj.cells #[] 119)).drew).cell 0, ((((h6).alloc (Obj.cells #[.int .i64 0, .int .i64 0, .slice none 0 0, .slice none 0 0] 60)).alloc (Obj.cells #[] 119)).drew).cell 0, ((((h7).alloc (Obj.cells #[.int .i64 0, .int .i64 0, .slice none 0 0, .slice none 0 0] 60)).alloc (Obj.cells #[] 119)).drew).cell 0⟩) (fun hHeld => ?_)
    clear hK K
    refine wpAnyH_ready (rs := [10]) (by kernel_rfl) (by simp) ?_
    refine AllReadyH.cons rfl (fun K hK => ?_) AllReadyH.nil
    go_simp
    refine hK.out _ _ (⟨((((h5).alloc (Obj.cells #[.int .i64 0, .int .i64 0, .slice none 0 0, .slice none 0 0] 60)).alloc (Obj.cells #[] 119)).drew).cell 0, ((((h6).alloc (Obj.cells #[.int .i64 0, .int .i64 0, .slice none 0 0, .slice none 0 0] 60)).alloc (Obj.cells #[] 119)).drew).cell 0, ((((h7).alloc (Obj.cells #[.int .i64 0, .int .i64 0, .slice none 0 0, .slice none 0 0] 60)).alloc (Obj.cells #[] 119)).drew).cell 0⟩) (fun hHeld => ?_)
    clear hK K
    refine tk 11 54 ?_
    have hP5 : Blk ((w2.alloc (Obj.cells #[.int .i64 0, .int .i64 0, .slice none 0 0, .slice none 0 0] 60)).alloc (Obj.cells #[] 119)).drew w2.heap.size 60 #[.int .i64 0, .int .i64 0, .slice none 0 0, .slice none 0 0] := ((Blk.new w2 _ _).alloc _).drew
    have hf25 : Fr (fun _ => False) w2 ((w2.alloc (Obj.cells #[.int .i64 0, .int .i64 0, .slice none 0 0, .slice none 0 0] 60)).alloc (Obj.cells #[] 119)).drew := (((Fr.refl _ w2).alloc _).alloc _).drew
    have h55 := (((h5).alloc (Obj.cells #[.int .i64 0, .int .i64 0, .slice none 0 0, .slice none 0 0] 60)).alloc (Obj.cells #[] 119)).drew
    have h65 := (((h6).alloc (Obj.cells #[.int .i64 0, .int .i64 0, .slice none 0 0, .slice none 0 0] 60)).alloc (Obj.cells #[] 119)).drew
    have h75 := (((h7).alloc (Obj.cells #[.int .i64 0, .int .i64 0, .slice none 0 0, .slice none 0 0] 60)).alloc (Obj.cells #[] 119)).drew
    generalize ((w2.alloc (Obj.cells #[.int .i64 0, .int .i64 0, .slice none 0 0, .slice none 0 0] 60)).alloc (Obj.cells #[] 119)).drew = w5 at *
    have p0 := hP5.cell 0
    have f0 := hP5.frozen 0
    have p1 := hP5.cell 1
    have f1 := hP5.frozen 1
    have p2 := hP5.cell 2
    have f2 := hP5.frozen 2
    have p3 := hP5.cell 3
    have f3 := hP5.frozen 3
    refine wpAnyH_ready (rs := [13]) (by kernel_rfl) (by simp) ?_
    refine AllReadyH.cons rfl (fun K hK => ?_) AllReadyH.nil
    go_simp
    have hf56 : Fr (fun k => k = w2.heap.size) w5 ((((w5.setCell ⟨w2.heap.size, 0, none⟩ (.int .i64 ((0 : Nat) : Int))).setCell ⟨w2.heap.size, 1, none⟩ (.int .i64 0)).setCell ⟨w2.heap.size, 2, none⟩ (.slice (some ⟨(w2.heap.size + 1), 0, none⟩) 0 0)).setCell ⟨w2.heap.size, 3, none⟩ (.slice none 0 0)) := ((((Fr.refl (fun k => k = w2.heap.size) w5).setCell (p := ⟨w2.heap.size, 0, none⟩) (fun _ => rfl) (.int .i64 ((0 : Nat) : Int))).setCell (p := ⟨w2.heap.size, 1, none⟩) (fun _ => rfl) (.int .i64 0)).setCell (p := ⟨w2.heap.size, 2, none⟩) (fun _ => rfl) (.slice (some ⟨(w2.heap.size + 1), 0, none⟩) 0 0)).setCell (p := ⟨w2.heap.size, 3, none⟩) (fun _ => rfl) (.slice none 0 0)
    have hP6 := ((((hP5.set_ 0 (.int .i64 ((0 : Nat) : Int))).set_ 1 (.int .i64 0)).set_ 2 (.slice (some ⟨(w2.heap.size + 1), 0, none⟩) 0 0)).set_ 3 (.slice none 0 0))
    have h56 := h55.fr hf56 (h55.ne_ hP5 (by decide))
    have h66 := h65.fr hf56 (h65.ne_ hP5 (by decide))
    have h76 := h75.fr hf56 (h75.ne_ hP5 (by decide))
    refine hK.out _ _ (⟨h56.cell 0, h66.cell 0, h76.cell 0⟩) (fun hHeld => ?_)
    clear hK K
    refine wpAnyH_done (by kernel_rfl) ?_ _
    refine NoPanic.normal ?_
    go_wp2_with fail
    go_meet
    have hf26 := hf25.trans hf56 (fun k hk e => by omega)
    exact ⟨_, some ⟨(w2.heap.size + 1), 0, none⟩, 0, rfl, hP6, (fun k x hx => by simp at hx), hf26, by omega⟩
  | some a =>
   refine wp_region_noPanic ?_
   refine wp_region_held_drew (S := fun w' => w'.cell? ⟨w.heap.size, 0, none⟩ = some (.slice (some a) 0 cap) ∧ w'.cell? ⟨w.heap.size + 1, 0, none⟩ = some (.int .i64 0) ∧ w'.cell? ⟨w.heap.size + 1 + 1, 0, none⟩ = some (.int .i64 ((0 : Nat) : Int))) (by kernel_rfl) (⟨k5, k6, k7⟩) (fun hHeld => ?_)
   refine tk 0 43 ?_
   refine tk 1 44 ?_
   refine tk 2 45 ?_
   refine tk 4 47 ?_
   refine tk 5 48 ?_
   refine tk 6 49 ?_
   refine tk 7 50 ?_
   refine tk 8 51 ?_
   refine tk 9 52 ?_
   refine wpAnyH_ready (rs := [3, 12]) (by kernel_rfl) (by simp) ?_
   refine AllReadyH.cons rfl (fun K hK => ?_) (AllReadyH.cons rfl (fun K hK => ?_) AllReadyH.nil)
   ·skip
    go_simp
    refine hK.out _ _ (⟨(((h5).alloc (Obj.cells #[] 119)).drew).cell 0, (((h6).alloc (Obj.cells #[] 119)).drew).cell 0, (((h7).alloc (Obj.cells #[] 119)).drew).cell 0⟩) (fun hHeld => ?_)
    clear hK K
    refine wpAnyH_ready (rs := [10, 12]) (by kernel_rfl) (by simp) ?_
    refine AllReadyH.cons rfl (fun K hK => ?_) (AllReadyH.cons rfl (fun K hK => ?_) AllReadyH.nil)
    ·skip
     go_simp
     refine hK.out _ _ (⟨(((h5).alloc (Obj.cells #[] 119)).drew).cell 0, (((h6).alloc (Obj.cells #[] 119)).drew).cell 0, (((h7).alloc (Obj.cells #[] 119)).drew).cell 0⟩) (fun hHeld => ?_)
     clear hK K
     refine tk 11 54 ?_
     refine wpAnyH_ready (rs := [12]) (by kernel_rfl) (by simp) ?_
     refine AllReadyH.cons rfl (fun K hK => ?_) AllReadyH.nil
     go_simp
     refine hK.out _ _ (⟨((((h5).alloc (Obj.cells #[] 119)).alloc (Obj.cells #[.int .i64 0, .int .i64 0, .slice none 0 0, .slice none 0 0] 60)).drew).cell 0, ((((h6).alloc (Obj.cells #[] 119)).alloc (Obj.cells #[.int .i64 0, .int .i64 0, .slice none 0 0, .slice none 0 0] 60)).drew).cell 0, ((((h7).alloc (Obj.cells #[] 119)).alloc (Obj.cells #[.int .i64 0, .int .i64 0, .slice none 0 0, .slice none 0 0] 60)).drew).cell 0⟩) (fun hHeld => ?_)
     clear hK K
     have hP5 : Blk ((w2.alloc (Obj.cells #[] 119)).alloc (Obj.cells #[.int .i64 0, .int .i64 0, .slice none 0 0, .slice none 0 0] 60)).drew (w2.heap.size + 1) 60 #[.int .i64 0, .int .i64 0, .slice none 0 0, .slice none 0 0] := (Blk.new_ _ _ _ (by simp)).drew
     have hf25 : Fr (fun _ => False) w2 ((w2.alloc (Obj.cells #[] 119)).alloc (Obj.cells #[.int .i64 0, .int .i64 0, .slice none 0 0, .slice none 0 0] 60)).drew := (((Fr.refl _ w2).alloc _).alloc _).drew
     have h55 := (((h5).alloc (Obj.cells #[] 119)).alloc (Obj.cells #[.int .i64 0, .int .i64 0, .slice none 0 0, .slice none 0 0] 60)).drew
     have h65 := (((h6).alloc (Obj.cells #[] 119)).alloc (Obj.cells #[.int .i64 0, .int .i64 0, .slice none 0 0, .slice none 0 0] 60)).drew
     have h75 := (((h7).alloc (Obj.cells #[] 119)).alloc (Obj.cells #[.int .i64 0, .int .i64 0, .slice none 0 0, .slice none 0 0] 60)).drew
     generalize ((w2.alloc (Obj.cells #[] 119)).alloc (Obj.cells #[.int .i64 0, .int .i64 0, .slice none 0 0, .slice none 0 0] 60)).drew = w5 at *
     have p0 := hP5.cell 0
     have f0 := hP5.frozen 0
     have p1 := hP5.cell 1
     have f1 := hP5.frozen 1
     have p2 := hP5.cell 2
     have f2 := hP5.frozen 2
     have p3 := hP5.cell 3
     have f3 := hP5.frozen 3
     refine wpAnyH_ready (rs := [13]) (by kernel_rfl) (by simp) ?_
     refine AllReadyH.cons rfl (fun K hK => ?_) AllReadyH.nil
     go_simp
     have hf56 : Fr (fun k => k = (w2.heap.size + 1)) w5 ((((w5.setCell ⟨(w2.heap.size + 1), 0, none⟩ (.int .i64 ((0 : Nat) : Int))).setCell ⟨(w2.heap.size + 1), 1, none⟩ (.int .i64 0)).setCell ⟨(w2.heap.size + 1), 2, none⟩ (.slice (some ⟨w2.heap.size, 0, none⟩) 0 0)).setCell ⟨(w2.heap.size + 1), 3, none⟩ (.slice none 0 0)) := ((((Fr.refl (fun k => k = (w2.heap.size + 1)) w5).setCell (p := ⟨(w2.heap.size + 1), 0, none⟩) (fun _ => rfl) (.int .i64 ((0 : Nat) : Int))).setCell (p := ⟨(w2.heap.size + 1), 1, none⟩) (fun _ => rfl) (.int .i64 0)).setCell (p := ⟨(w2.heap.size + 1), 2, none⟩) (fun _ => rfl) (.slice (some ⟨w2.heap.size, 0, none⟩) 0 0)).setCell (p := ⟨(w2.heap.size + 1), 3, none⟩) (fun _ => rfl) (.slice none 0 0)
     have hP6 := ((((hP5.set_ 0 (.int .i64 ((0 : Nat) : Int))).set_ 1 (.int .i64 0)).set_ 2 (.slice (some ⟨w2.heap.size, 0, none⟩) 0 0)).set_ 3 (.slice none 0 0))
     have h56 := h55.fr hf56 (h55.ne_ hP5 (by decide))
     have h66 := h65.fr hf56 (h65.ne_ hP5 (by decide))
     have h76 := h75.fr hf56 (h75.ne_ hP5 (by decide))
     refine hK.out _ _ (⟨h56.cell 0, h66.cell 0, h76.cell 0⟩) (fun hHeld => ?_)
     clear hK K
     refine wpAnyH_done (by kernel_rfl) ?_ _
     refine NoPanic.normal ?_
     go_wp2_with fail
     go_meet
     have hf26 := hf25.trans hf56 (fun k hk e => by omega)
     exact ⟨_, some ⟨w2.heap.size, 0, none⟩, 0, rfl, hP6, (fun k x hx => by simp at hx), hf26, by omega⟩
    ·skip
     go_simp
     refine hK.out _ _ (⟨((((h5).alloc (Obj.cells #[] 119)).alloc (Obj.cells #[.int .i64 0, .int .i64 0, .slice none 0 0, .slice none 0 0] 60)).drew).cell 0, ((((h6).alloc (Obj.cells #[] 119)).alloc (Obj.cells #[.int .i64 0, .int .i64 0, .slice none 0 0, .slice none 0 0] 60)).drew).cell 0, ((((h7).alloc (Obj.cells #[] 119)).alloc (Obj.cells #[.int .i64 0, .int .i64 0, .slice none 0 0, .slice none 0 0] 60)).drew).cell 0⟩) (fun hHeld => ?_)
     clear hK K
     refine wpAnyH_ready (rs := [10]) (by kernel_rfl) (by simp) ?_
     refine AllReadyH.cons rfl (fun K hK => ?_) AllReadyH.nil
     go_simp
     refine hK.out _ _ (⟨((((h5).alloc (Obj.cells #[] 119)).alloc (Obj.cells #[.int .i64 0, .int .i64 0, .slice none 0 0, .slice none 0 0] 60)).drew).cell 0, ((((h6).alloc (Obj.cells #[] 119)).alloc (Obj.cells #[.int .i64 0, .int .i64 0, .slice none 0 0, .slice none 0 0] 60)).drew).cell 0, ((((h7).alloc (Obj.cells #[] 119)).alloc (Obj.cells #[.int .i64 0, .int .i64 0, .slice none 0 0, .slice none 0 0] 60)).drew).cell 0⟩) (fun hHeld => ?_)
     clear hK K
     refine tk 11 54 ?_
     have hP5 : Blk ((w2.alloc (Obj.cells #[] 119)).alloc (Obj.cells #[.int .i64 0, .int .i64 0, .slice none 0 0, .slice none 0 0] 60)).drew (w2.heap.size + 1) 60 #[.int .i64 0, .int .i64 0, .slice none 0 0, .slice none 0 0] := (Blk.new_ _ _ _ (by simp)).drew
     have hf25 : Fr (fun _ => False) w2 ((w2.alloc (Obj.cells #[] 119)).alloc (Obj.cells #[.int .i64 0, .int .i64 0, .slice none 0 0, .slice none 0 0] 60)).drew := (((Fr.refl _ w2).alloc _).alloc _).drew
     have h55 := (((h5).alloc (Obj.cells #[] 119)).alloc (Obj.cells #[.int .i64 0, .int .i64 0, .slice none 0 0, .slice none 0 0] 60)).drew
     have h65 := (((h6).alloc (Obj.cells #[] 119)).alloc (Obj.cells #[.int .i64 0, .int .i64 0, .slice none 0 0, .slice none 0 0] 60)).drew
     have h75 := (((h7).alloc (Obj.cells #[] 119)).alloc (Obj.cells #[.int .i64 0, .int .i64 0, .slice none 0 0, .slice none 0 0] 60)).drew
     generalize ((w2.alloc (Obj.cells #[] 119)).alloc (Obj.cells #[.int .i64 0, .int .i64 0, .slice none 0 0, .slice none 0 0] 60)).drew = w5 at *
     have p0 := hP5.cell 0
     have f0 := hP5.frozen 0
     have p1 := hP5.cell 1
     have f1 := hP5.frozen 1
     have p2 := hP5.cell 2
     have f2 := hP5.frozen 2
     have p3 := hP5.cell 3
     have f3 := hP5.frozen 3
     refine wpAnyH_ready (rs := [13]) (by kernel_rfl) (by simp) ?_
     refine AllReadyH.cons rfl (fun K hK => ?_) AllReadyH.nil
     go_simp
     have hf56 : Fr (fun k => k = (w2.heap.size + 1)) w5 ((((w5.setCell ⟨(w2.heap.size + 1), 0, none⟩ (.int .i64 ((0 : Nat) : Int))).setCell ⟨(w2.heap.size + 1), 1, none⟩ (.int .i64 0)).setCell ⟨(w2.heap.size + 1), 2, none⟩ (.slice (some ⟨w2.heap.size, 0, none⟩) 0 0)).setCell ⟨(w2.heap.size + 1), 3, none⟩ (.slice none 0 0)) := ((((Fr.refl (fun k => k = (w2.heap.size + 1)) w5).setCell (p := ⟨(w2.heap.size + 1), 0, none⟩) (fun _ => rfl) (.int .i64 ((0 : Nat) : Int))).setCell (p := ⟨(w2.heap.size + 1), 1, none⟩) (fun _ => rfl) (.int .i64 0)).setCell (p := ⟨(w2.heap.size + 1), 2, none⟩) (fun _ => rfl) (.slice (some ⟨w2.heap.size, 0, none⟩) 0 0)).setCell (p := ⟨(w2.heap.size + 1), 3, none⟩) (fun _ => rfl) (.slice none 0 0)
     have hP6 := ((((hP5.set_ 0 (.int .i64 ((0 : Nat) : Int))).set_ 1 (.int .i64 0)).set_ 2 (.slice (some ⟨w2.heap.size, 0, none⟩) 0 0)).set_ 3 (.slice none 0 0))
     have h56 := h55.fr hf56 (h55.ne_ hP5 (by decide))
     have h66 := h65.fr hf56 (h65.ne_ hP5 (by decide))
     have h76 := h75.fr hf56 (h75.ne_ hP5 (by decide))
     refine hK.out _ _ (⟨h56.cell 0, h66.cell 0, h76.cell 0⟩) (fun hHeld => ?_)
     clear hK K
     refine wpAnyH_done (by kernel_rfl) ?_ _
     refine NoPanic.normal ?_
     go_wp2_with fail
     go_meet
     have hf26 := hf25.trans hf56 (fun k hk e => by omega)
     exact ⟨_, some ⟨w2.heap.size, 0, none⟩, 0, rfl, hP6, (fun k x hx => by simp at hx), hf26, by omega⟩
   ·skip
    go_simp
    refine hK.out _ _ (⟨(((h5).alloc (Obj.cells #[.int .i64 0, .int .i64 0, .slice none 0 0, .slice none 0 0] 60)).drew).cell 0, (((h6).alloc (Obj.cells #[.int .i64 0, .int .i64 0, .slice none 0 0, .slice none 0 0] 60)).drew).cell 0, (((h7).alloc (Obj.cells #[.int .i64 0, .int .i64 0, .slice none 0 0, .slice none 0 0] 60)).drew).cell 0⟩) (fun hHeld => ?_)
    clear hK K
    refine wpAnyH_ready (rs := [3]) (by kernel_rfl) (by simp) ?_
    refine AllReadyH.cons rfl (fun K hK => ?_) AllReadyH.nil
    go_simp
    refine hK.out _ _ (⟨((((h5).alloc (Obj.cells #[.int .i64 0, .int .i64 0, .slice none 0 0, .slice none 0 0] 60)).alloc (Obj.cells #[] 119)).drew).cell 0, ((((h6).alloc (Obj.cells #[.int .i64 0, .int .i64 0, .slice none 0 0, .slice none 0 0] 60)).alloc (Obj.cells #[] 119)).drew).cell 0, ((((h7).alloc (Obj.cells #[.int .i64 0, .int .i64 0, .slice none 0 0, .slice none 0 0] 60)).alloc (Obj.cells #[] 119)).drew).cell 0⟩) (fun hHeld => ?_)
    clear hK K
    refine wpAnyH_ready (rs := [10]) (by kernel_rfl) (by simp) ?_
    refine AllReadyH.cons rfl (fun K hK => ?_) AllReadyH.nil
    go_simp
    refine hK.out _ _ (⟨((((h5).alloc (Obj.cells #[.int .i64 0, .int .i64 0, .slice none 0 0, .slice none 0 0] 60)).alloc (Obj.cells #[] 119)).drew).cell 0, ((((h6).alloc (Obj.cells #[.int .i64 0, .int .i64 0, .slice none 0 0, .slice none 0 0] 60)).alloc (Obj.cells #[] 119)).drew).cell 0, ((((h7).alloc (Obj.cells #[.int .i64 0, .int .i64 0, .slice none 0 0, .slice none 0 0] 60)).alloc (Obj.cells #[] 119)).drew).cell 0⟩) (fun hHeld => ?_)
    clear hK K
    refine tk 11 54 ?_
    have hP5 : Blk ((w2.alloc (Obj.cells #[.int .i64 0, .int .i64 0, .slice none 0 0, .slice none 0 0] 60)).alloc (Obj.cells #[] 119)).drew w2.heap.size 60 #[.int .i64 0, .int .i64 0, .slice none 0 0, .slice none 0 0] := ((Blk.new w2 _ _).alloc _).drew
    have hf25 : Fr (fun _ => False) w2 ((w2.alloc (Obj.cells #[.int .i64 0, .int .i64 0, .slice none 0 0, .slice none 0 0] 60)).alloc (Obj.cells #[] 119)).drew := (((Fr.refl _ w2).alloc _).alloc _).drew
    have h55 := (((h5).alloc (Obj.cells #[.int .i64 0, .int .i64 0, .slice none 0 0, .slice none 0 0] 60)).alloc (Obj.cells #[] 119)).drew
    have h65 := (((h6).alloc (Obj.cells #[.int .i64 0, .int .i64 0, .slice none 0 0, .slice none 0 0] 60)).alloc (Obj.cells #[] 119)).drew
    have h75 := (((h7).alloc (Obj.cells #[.int .i64 0, .int .i64 0, .slice none 0 0, .slice none 0 0] 60)).alloc (Obj.cells #[] 119)).drew
    generalize ((w2.alloc (Obj.cells #[.int .i64 0, .int .i64 0, .slice none 0 0, .slice none 0 0] 60)).alloc (Obj.cells #[] 119)).drew = w5 at *
    have p0 := hP5.cell 0
    have f0 := hP5.frozen 0
    have p1 := hP5.cell 1
    have f1 := hP5.frozen 1
    have p2 := hP5.cell 2
    have f2 := hP5.frozen 2
    have p3 := hP5.cell 3
    have f3 := hP5.frozen 3
    refine wpAnyH_ready (rs := [13]) (by kernel_rfl) (by simp) ?_
    refine AllReadyH.cons rfl (fun K hK => ?_) AllReadyH.nil
    go_simp
    have hf56 : Fr (fun k => k = w2.heap.size) w5 ((((w5.setCell ⟨w2.heap.size, 0, none⟩ (.int .i64 ((0 : Nat) : Int))).setCell ⟨w2.heap.size, 1, none⟩ (.int .i64 0)).setCell ⟨w2.heap.size, 2, none⟩ (.slice (some ⟨(w2.heap.size + 1), 0, none⟩) 0 0)).setCell ⟨w2.heap.size, 3, none⟩ (.slice none 0 0)) := ((((Fr.refl (fun k => k = w2.heap.size) w5).setCell (p := ⟨w2.heap.size, 0, none⟩) (fun _ => rfl) (.int .i64 ((0 : Nat) : Int))).setCell (p := ⟨w2.heap.size, 1, none⟩) (fun _ => rfl) (.int .i64 0)).setCell (p := ⟨w2.heap.size, 2, none⟩) (fun _ => rfl) (.slice (some ⟨(w2.heap.size + 1), 0, none⟩) 0 0)).setCell (p := ⟨w2.heap.size, 3, none⟩) (fun _ => rfl) (.slice none 0 0)
    have hP6 := ((((hP5.set_ 0 (.int .i64 ((0 : Nat) : Int))).set_ 1 (.int .i64 0)).set_ 2 (.slice (some ⟨(w2.heap.size + 1), 0, none⟩) 0 0)).set_ 3 (.slice none 0 0))
    have h56 := h55.fr hf56 (h55.ne_ hP5 (by decide))
    have h66 := h65.fr hf56 (h65.ne_ hP5 (by decide))
    have h76 := h75.fr hf56 (h75.ne_ hP5 (by decide))
    refine hK.out _ _ (⟨h56.cell 0, h66.cell 0, h76.cell 0⟩) (fun hHeld => ?_)
    clear hK K
    refine wpAnyH_done (by kernel_rfl) ?_ _
    refine NoPanic.normal ?_
    go_wp2_with fail
    go_meet
    have hf26 := hf25.trans hf56 (fun k hk e => by omega)
    exact ⟨_, some ⟨(w2.heap.size + 1), 0, none⟩, 0, rfl, hP6, (fun k x hx => by simp at hx), hf26, by omega⟩

 case rest =>
  obtain ⟨b11, LA, lc, rfl, hP3, hE3, hf23, hle⟩ := hcut
  have h5 := h5.fr hf23 id
  have h6 := h6.fr hf23 id
  have h7 := h7.fr hf23 id
  have h8 := h8.fr hf23 id
  have ht := ht.fr hf23 id
  have h10 := h10.fr hf23 id
  have hb3 := hb2.keep hf23
  have hf03 := hf02.then_ hf23
  have hsz23 := hf23.size
  clear k5 k6 k7 hf23 hf02 hb2
  have k5 := h5.cell 0
  have k6 := h6.cell 0
  have k7 := h7.cell 0
  generalize wc = w3 at *
  go_upto_region 6 with fail
  have hN3 := Blk.new w3 209 #[.nilFunc]
  have hst : (store ⟨w3.heap.size, 0, none⟩ (Value.func (.func 115) #[] #[.pointer (some ⟨w.heap.size + 1, 0, none⟩), .pointer (some ⟨w.heap.size + 1 + 1, 0, none⟩), .pointer (some ⟨b11, 0, none⟩), .pointer (some ⟨gt + 1, 0, none⟩), .pointer (some ⟨w.heap.size, 0, none⟩), .pointer (some ⟨w3.heap.size, 0, none⟩)])).run Tryz.prog (w3.alloc (Obj.cells #[.nilFunc] 209)) = .ok () ((w3.alloc (Obj.cells #[.nilFunc] 209)).setCell ⟨w3.heap.size, 0, none⟩ (Value.func (.func 115) #[] #[.pointer (some ⟨w.heap.size + 1, 0, none⟩), .pointer (some ⟨w.heap.size + 1 + 1, 0, none⟩), .pointer (some ⟨b11, 0, none⟩), .pointer (some ⟨gt + 1, 0, none⟩), .pointer (some ⟨w.heap.size, 0, none⟩), .pointer (some ⟨w3.heap.size, 0, none⟩)])) := by
   have hc := hN3.cell 0
   have hz := hN3.frozen 0
   simp at hc hz
   rw [run_store Tryz.prog _ _ (Value.func (.func 115) #[] #[.pointer (some ⟨w.heap.size + 1, 0, none⟩), .pointer (some ⟨w.heap.size + 1 + 1, 0, none⟩), .pointer (some ⟨b11, 0, none⟩), .pointer (some ⟨gt + 1, 0, none⟩), .pointer (some ⟨w.heap.size, 0, none⟩), .pointer (some ⟨w3.heap.size, 0, none⟩)]) _ rfl]
   simp [hc, hz]
  go_upto_region 7 with fail
  have hF4 := Blk.new w3 209 #[(Value.func (.func 115) #[] #[.pointer (some ⟨w.heap.size + 1, 0, none⟩), .pointer (some ⟨w.heap.size + 1 + 1, 0, none⟩), .pointer (some ⟨b11, 0, none⟩), .pointer (some ⟨gt + 1, 0, none⟩), .pointer (some ⟨w.heap.size, 0, none⟩), .pointer (some ⟨w3.heap.size, 0, none⟩)])]
  have hf34 : Fr (fun _ => False) w3 (w3.alloc (Obj.cells #[(Value.func (.func 115) #[] #[.pointer (some ⟨w.heap.size + 1, 0, none⟩), .pointer (some ⟨w.heap.size + 1 + 1, 0, none⟩), .pointer (some ⟨b11, 0, none⟩), .pointer (some ⟨gt + 1, 0, none⟩), .pointer (some ⟨w.heap.size, 0, none⟩), .pointer (some ⟨w3.heap.size, 0, none⟩)])] 209)) := (Fr.refl (fun _ => False) w3).alloc _
  clear hst hN3
  generalize w3.alloc (Obj.cells #[(Value.func (.func 115) #[] #[.pointer (some ⟨w.heap.size + 1, 0, none⟩), .pointer (some ⟨w.heap.size + 1 + 1, 0, none⟩), .pointer (some ⟨b11, 0, none⟩), .pointer (some ⟨gt + 1, 0, none⟩), .pointer (some ⟨w.heap.size, 0, none⟩), .pointer (some ⟨w3.heap.size, 0, none⟩)])] 209) = w4 at *
  obtain ⟨bd, hbd⟩ : ∃ x, w3.heap.size = x := ⟨_, rfl⟩
  rw [hbd] at hF4 ⊢
  clear hbd k5 k6 k7
  have h5 := h5.fr hf34 id
  have h6 := h6.fr hf34 id
  have h7 := h7.fr hf34 id
  have h8 := h8.fr hf34 id
  have ht := ht.fr hf34 id
  have h10 := h10.fr hf34 id
  have hP4 := hP3.fr hf34 id
  have hb4 := hb3.keep hf34
  have hE4 := hE3.fr hf34 (fun _ _ => id)
  have hf04 := hf03.then_ hf34
  have k5 := h5.cell 0
  have k6 := h6.cell 0
  have k7 := h7.cell 0
  have kd := hF4.cell 0
  have hD4 : Down w4 (w.heap.size + 1) (w.heap.size + 1 + 1) bd b11 (gt + 1) w.heap.size 0 := ⟨k6, k7, kd⟩
  have HD := Lib.hid (prove1_zero hb4 (Nat.le_trans hbase hf04.size) hL ht hD4 (h10.cell 0) k5 hP4)
  go_upto_region 8 with (go_at_call 115; refine HD.out.mono ?_; rintro e w6 ⟨rfl, v6, b6, c6, hb6, ht6, hP6, hbb6, hcc6, hf46, hk6⟩)
  have h8q := h8lt.out
  have h10 := h10.fr hf46 (fun e => by
   rcases e with e | e | e | e | e
   ·exact h10.ne_ hb4.blk (by decide) e
   ·obtain ⟨⟨es, cl, h3, _⟩, _⟩ := hb4.map
    exact h10.ne_map h3 e
   ·exact own_ne_blk hb4.own h10 (by decide) e
   ·exact h10.ne_ ht (by decide) e
   ·exact h10.ne_ hP4 (by decide) e)
  have h8 := h8.fr hf46 (fun e => by
   rcases e with e | e | e | e | e
   ·exact h8.ne_ hb4.blk (by decide) e
   ·obtain ⟨⟨es, cl, h3, _⟩, _⟩ := hb4.map
    exact h8.ne_map h3 e
   ·exact own_ne_blk hb4.own h8 (by decide) e
   ·exact h8.ne_ ht (by decide) e
   ·omega)
  have hle24 : Hid (w2.heap.size ≤ w4.heap.size) := Nat.le_trans hsz23 hf34.size
  clear hf34 hf03 hP3 hb3 hE3
  have t10 := h10.cell 0
  have t1 := ht6.cell 1
  clear h10 HD k5 k6 k7 kd
  go_wp2_with (first
   | (refine wpList_load_row rfl 60 _ rfl _ rfl _ _ (0, 0) _ hP6 Tryz.underlying60 rfl (by kernel_rfl) ?_)
   | (refine wpList_store_row rfl 60 (.tmp 8) (.tmp 70) rfl (w.heap.size + 1 + 1 + 1) #[.int .i64 ((0 : Nat) : Int), .int .i64 0, .slice LA 0 lc, .slice (some ⟨b6, 0, none⟩) 1 c6] rfl rfl 60 _ h8 (by kernel_rfl) rfl (by simp [Value.oneCell']) ?_))
  have h9 := Blk.setRow_ (ds := #[.int .i64 ((0 : Nat) : Int), .int .i64 0, .slice LA 0 lc, .slice (some ⟨b6, 0, none⟩) 1 c6]) h8
  have hfz := Fr.setRow_ (w := w6) (g := w.heap.size + 1 + 1 + 1) (ds := #[.int .i64 ((0 : Nat) : Int), .int .i64 0, .slice LA 0 lc, .slice (some ⟨b6, 0, none⟩) 1 c6])
  have n1 := hb6.blk.ne_ h8 (by decide)
  have n2 : m ≠ w.heap.size + 1 + 1 + 1 := fun e => by obtain ⟨⟨es, cl, h1, _⟩, _⟩ := hb6.map; exact h8.ne_map h1 e.symm
  have n3 := own_ne_blk hb6.own h8 (by decide)
  have hb9 := hb6.fr hfz n1 n2 (fun k hk e => n3 (e ▸ hk))
  generalize w6.setRow (w.heap.size + 1 + 1 + 1) #[.int .i64 ((0 : Nat) : Int), .int .i64 0, .slice LA 0 lc, .slice (some ⟨b6, 0, none⟩) 1 c6] = wz at *
  refine bodyPost_ret (v := .tuple #[.agg #[.int .i64 ((0 : Nat) : Int), .int .i64 0, .slice LA 0 lc, .slice (some ⟨b6, 0, none⟩) 1 c6], .nilIface]) (results_row2 Tryz.results84 _ wz (w.heap.size + 1 + 1 + 1) 60 #[.int .i64 ((0 : Nat) : Int), .int .i64 0, .slice LA 0 lc, .slice (some ⟨b6, 0, none⟩) 1 c6] (0, 0) _ rfl h9 Tryz.underlying60 rfl (by kernel_rfl) rfl) rfl ?_
  have hgt0 := hgtw.out
  have hb60 : b6 ≠ w.heap.size + 1 + 1 + 1 := fun e => by have := h8lt.out; have := hle24.out; omega
  refine ⟨LA, lc, some ⟨b6, 0, none⟩, c6, v6, rfl, fun k x hx => by simp at hx, ?_, hb9, ?_, fun k hk => (hk6 k hk).imp_right (Nat.le_trans hf04.size)⟩
  ·intro k x hx
   cases k with
   | zero => simp at hx; exact ⟨b6, 0, rfl, Nat.le_trans hf04.size hbb6, by rw [← hx]; exact hfz.cell_some hcc6 hb60⟩
   | succ k => simp at hx
  ·exact ((hf04.mono (fun _ _ h => h.elim)).trans hf46 (fun k hk e => by
    rcases e with e | e | e | e | e
    ·exact .inl e
    ·exact .inr (.inl e)
    ·exact .inr (.inr e)
    ·omega
    ·have := hle; have := hle0; omega)).trans hfz (fun k hk e => by omega)
end Go.Proofs.YtmkdhhhoodeemaaGreat

/- relay: told of a frozen range. -/
namespace Go.Proofs.YtmkdhhhoodeemaaGreat
open Go Go.RowKit
def besideOf (L : List (List Int)) (l : List Ent) : List Int := if l = [] then [((digI L noneB : Nat) : Int)] else []
def bookOf (L : List (List Int)) (l : List Ent) : List (List Int) := if l = [] then digL L noneB else L
def keepE (ff tt : ByteArray) (l : List Ent) : List Ent := l.filter fun x => !dropE ff tt x
theorem merkle_Prove {w : World} {g m base : Nat} {v : Value} {L : List (List Int)} (hb : BookAt w g m base v L) (hbase : base ≤ w.heap.size) (hL : L.length < 65536) {F : Nat → Prop} {A : Option Addr} {l : List Ent} {cap : Nat} (h : EntRow w F A l) (hll : l.length ≤ 60000) (hyes : risesE l = true) (hcap : l.length ≤ cap) :
  Calls Tryz.prog 84 #[.pointer (some ⟨g, 0, none⟩), .slice A l.length cap, .int .i64 0, .int .i64 l.length] w (ProveP w g m base v L l (besideOf L l) (bookOf L l)) := by
 unfold besideOf bookOf
 by_cases he : l = []
 ·rw [if_pos he, if_pos he]
  exact prove_none hb hbase hL h hll hyes hcap he
 ·rw [if_neg he, if_neg he]
  exact prove_all hb hbase hL h hll hyes hcap (by cases l with | nil => exact absurd rfl he | cons x r => simp)
/-- What relay.told, relay.ruled leave: tasks; the book, a step on. -/
def RelStep (w : World) (g m base : Nat) (v : Value) (L' : List (List Int)) (gg b : List Int) (e : Ending) (w' : World) : Prop :=
 ∃ tv v', e = .returned tv ∧ TasksAt w' w.heap.size tv gg b ∧ BookAt w' g m base v' L' ∧ Fr (fun k => k = g ∨ k = m ∨ v.ownBlock = some k) w w' ∧ ∀ k, v'.ownBlock = some k → v.ownBlock = some k ∨ w.heap.size ≤ k
theorem TasksP.rel {w : World} {g m base : Nat} {v : Value} {L : List (List Int)} (hb : BookAt w g m base v L) {gg b : List Int} {e : Ending} {w' : World} (h : TasksP w gg b e w') : RelStep w g m base v L gg b e w' := by
 obtain ⟨tv, rfl, h1, h2⟩ := h
 exact ⟨tv, v, rfl, h1, hb.keep h2, h2.mono (fun _ _ h => h.elim), fun k hk => .inl hk⟩
theorem EntRow.lts {w : World} {F : Nat → Prop} {A : Option Addr} {l : List Ent} (h : EntRow w F A l) : EntRow w (fun k => k < w.heap.size) A l := fun k x hx => by
 obtain ⟨b, o, e, _, h1, h2⟩ := h k x hx
 exact ⟨b, o, e, World.block_lt_of_cell? w _ h1, h1, h2⟩
theorem IntF.lts {w : World} {F : Nat → Prop} {A : Option Addr} {l : List Int} (h : IntF w F A l) : IntF w (fun k => k < w.heap.size) A l := fun k x hx => by
 obtain ⟨b, o, e, _, h1⟩ := h k x hx
 exact ⟨b, o, e, World.block_lt_of_cell? w _ h1, h1⟩
theorem group_at (w : World) (a : Int) : IntRow (w.alloc (Obj.cells #[.int .i64 a] 3)) (w.heap.size + 1) (some ⟨w.heap.size, 0, none⟩) [a] := by
 intro k x h
 match k, h with
 | 0, h => cases h; exact ⟨_, 0, rfl, by omega, (Blk.new w 3 #[.int .i64 a]).cell 0⟩
set_option maxRecDepth 100000 in
set_option maxHeartbeats 1500000 in
theorem told_fro_no {w : World} {bk : Value} {txn : Int} {yes : Bool} {ff tt : ByteArray} {epoch shard target root : Int} (h : OkSay ⟨5, txn, yes, ff, tt, epoch, shard, target, root⟩) {G D fr : Int} {C : Option Addr} {nx cx : Nat} {FE : Nat → Prop} {LA : Option Addr} {lc : Nat} {l : List Ent} (hE : EntRow w FE LA l) (hll : l.length ≤ 60000) (hne : (fr == shard + 1) = false) :
  Calls Tryz.prog 45 #[bk, .agg #[.int .i64 0, .int .i64 0, .int .i64 0, .slice none 0 0, .slice none 0 0, .int .i64 5, .int .i64 txn, .bool yes, .string ff, .string tt, .int .i64 epoch, .int .i64 shard, .int .i64 target, .int .i64 root, .int .i64 G, .int .i64 D, .slice C nx cx, .int .i64 0, .int .i64 0, .slice none 0 0, .slice none 0 0], .int .i64 fr, .slice LA l.length lc] w (TasksP w [] []) := by
 have hsh : (0 ≤ shard ∧ shard ≤ 3) ∧ (0 ≤ target ∧ target ≤ 3) := by
  obtain ⟨a0, a1, a2, a3, a4, a5, a6, a7, a8, a9, a10, a11, a12, a13⟩ := h
  dsimp only at a10 a11 a12 a13
  omega
 have hwr : wrap64 (shard + 1) = shard + 1 := by unfold wrap64; omega
 have HW := Lib.hid hwr
 have hwt : wrap64 (target + 1) = target + 1 := by unfold wrap64; omega
 have HWT := Lib.hid hwt
 clear hwr hwt
 have HOK := Lib.hid h
 clear h
 have hB0 := Blk.new w 62 #[.int .i64 0, .int .i64 0, .int .i64 0, .slice none 0 0, .slice none 0 0, .int .i64 5, .int .i64 txn, .bool yes, .string ff, .string tt, .int .i64 epoch, .int .i64 shard, .int .i64 target, .int .i64 root, .int .i64 G, .int .i64 D, .slice C nx cx, .int .i64 0, .int .i64 0, .slice none 0 0, .slice none 0 0]
 have hf0 : Fr (fun _ => False) w (w.alloc (Obj.cells #[.int .i64 0, .int .i64 0, .int .i64 0, .slice none 0 0, .slice none 0 0, .int .i64 5, .int .i64 txn, .bool yes, .string ff, .string tt, .int .i64 epoch, .int .i64 shard, .int .i64 target, .int .i64 root, .int .i64 G, .int .i64 D, .slice C nx cx, .int .i64 0, .int .i64 0, .slice none 0 0, .slice none 0 0] 62)) := (Fr.refl _ _).alloc _
 go_enter Tryz.func45, Tryz.ntmps45
 go_upto_region 1 with fail
 generalize w.alloc (Obj.cells #[.int .i64 0, .int .i64 0, .int .i64 0, .slice none 0 0, .slice none 0 0, .int .i64 5, .int .i64 txn, .bool yes, .string ff, .string tt, .int .i64 epoch, .int .i64 shard, .int .i64 target, .int .i64 root, .int .i64 G, .int .i64 D, .slice C nx cx, .int .i64 0, .int .i64 0, .slice none 0 0, .slice none 0 0] 62) = w0 at *
 have k5 := hB0.cell 5
 have k6 := hB0.cell 6
 have k7 := hB0.cell 7
 have k8 := hB0.cell 8
 have k9 := hB0.cell 9
 have k10 := hB0.cell 10
 have k11 := hB0.cell 11
 have k12 := hB0.cell 12
 have k13 := hB0.cell 13
 go_upto_region 2 with fail
 have hB1 := hB0.alloc (Obj.cells #[.int .i64 5, .int .i64 txn, .bool yes, .string ff, .string tt, .int .i64 epoch, .int .i64 shard, .int .i64 target, .int .i64 root] 23)
 have hS1 := Blk.new w0 23 #[.int .i64 5, .int .i64 txn, .bool yes, .string ff, .string tt, .int .i64 epoch, .int .i64 shard, .int .i64 target, .int .i64 root]
 have hf1 := hf0.alloc (Obj.cells #[.int .i64 5, .int .i64 txn, .bool yes, .string ff, .string tt, .int .i64 epoch, .int .i64 shard, .int .i64 target, .int .i64 root] 23)
 go_upto_region 2 with fail
 generalize w0.alloc (Obj.cells #[.int .i64 5, .int .i64 txn, .bool yes, .string ff, .string tt, .int .i64 epoch, .int .i64 shard, .int .i64 target, .int .i64 root] 23) = w1 at *
 have s0 := hS1.cell 0
 have s6 := hS1.cell 6
 have s7 := hS1.cell 7
 clear hf0 k5 k6 k7 k8 k9 k10 k11 k12 k13
 go_upto_region 4 with (go_at_call 79; refine (relay_group _ _).mono ?_; rintro e w' ⟨rfl, rfl⟩; rw [HW.out])
 have kf := hB1.frozen 0
 have k0 := hB1.cell 0
 have hSr := hS1
 have hll' : l.length ≤ 1000000 := by omega
 have HCl := Lib.hid (cloneEnt (cap := lc) (hE.fr hf1 (fun _ _ => id)) hll')
 clear hE k0 kf s0 s6 s7
 have s0 := hS1.cell 0
 go_upto_region 9 with (first
  | (go_at_call 81; refine HDl.out.mono ?_; rintro e w3 ⟨A3, n3, c3, rfl, hn3, hc3, hE3, hf3⟩; replace hn3 := Lib.hid hn3)
  | (go_at_call 82; refine HCl.out.mono ?_; rintro e w2 ⟨v2, rfl, ho2, hf2⟩; have hS2 := hS1.fr hf2 id; have HDl := Lib.hid (deleteEnt (p := dropE ff tt) (sb := w0.heap.size) ho2 hll' (fun w' x hf' => told1 ((hS2.fr hf' (own_ne_blk ho2 hS2 (by decide))).cell 3) ((hS2.fr hf' (own_ne_blk ho2 hS2 (by decide))).cell 4) x))))
 have hf13 : Fr (fun _ => False) w1 w3 := hf2.trans hf3 (fun k hk e => by have := own_ge ho2 k e; omega)
 have hS3 := hS1.fr hf13 id
 have hB3 := hB1.fr hf13 id
 have hf03 := hf1.then_ hf13
 clear hS2 HDl HCl ho2 hf2 hf3 hf13 hS1 hSr hB1 hf1 hB0
 obtain ⟨own, hown⟩ : ∃ o, keepE ff tt l = o := ⟨_, rfl⟩
 have hkp : (l.filter fun x => !dropE ff tt x) = own := hown
 replace hn3 := hn3.out
 rw [hkp] at hn3 hE3
 subst hn3
 have HOWN := Lib.hid hown
 have hol : own.length ≤ l.length := by rw [← hkp]; exact List.length_filter_le _ _
 clear hown hkp
 go_wp2_with fail
 go_ret
 exact ⟨.slice none 0 0, rfl, TasksAt.nil _ _ _, hf03⟩
set_option maxRecDepth 100000 in
set_option maxHeartbeats 1500000 in
theorem told_fro_bad {w : World} {bk : Value} {txn : Int} {yes : Bool} {ff tt : ByteArray} {epoch shard target root : Int} (h : OkSay ⟨5, txn, yes, ff, tt, epoch, shard, target, root⟩) {G D fr : Int} {C : Option Addr} {nx cx : Nat} {FE : Nat → Prop} {LA : Option Addr} {lc : Nat} {l : List Ent} (hE : EntRow w FE LA l) (hll : l.length ≤ 60000) (hfr : fr = shard + 1) (hbad : risesE (keepE ff tt l) = false) :
  Calls Tryz.prog 45 #[bk, .agg #[.int .i64 0, .int .i64 0, .int .i64 0, .slice none 0 0, .slice none 0 0, .int .i64 5, .int .i64 txn, .bool yes, .string ff, .string tt, .int .i64 epoch, .int .i64 shard, .int .i64 target, .int .i64 root, .int .i64 G, .int .i64 D, .slice C nx cx, .int .i64 0, .int .i64 0, .slice none 0 0, .slice none 0 0], .int .i64 fr, .slice LA l.length lc] w (TasksP w [] []) := by
 subst hfr
 replace hbad := Lib.hid hbad
 have hsh : (0 ≤ shard ∧ shard ≤ 3) ∧ (0 ≤ target ∧ target ≤ 3) := by
  obtain ⟨a0, a1, a2, a3, a4, a5, a6, a7, a8, a9, a10, a11, a12, a13⟩ := h
  dsimp only at a10 a11 a12 a13
  omega
 have hwr : wrap64 (shard + 1) = shard + 1 := by unfold wrap64; omega
 have HW := Lib.hid hwr
 have hwt : wrap64 (target + 1) = target + 1 := by unfold wrap64; omega
 have HWT := Lib.hid hwt
 clear hwr hwt
 have HOK := Lib.hid h
 clear h
 have hB0 := Blk.new w 62 #[.int .i64 0, .int .i64 0, .int .i64 0, .slice none 0 0, .slice none 0 0, .int .i64 5, .int .i64 txn, .bool yes, .string ff, .string tt, .int .i64 epoch, .int .i64 shard, .int .i64 target, .int .i64 root, .int .i64 G, .int .i64 D, .slice C nx cx, .int .i64 0, .int .i64 0, .slice none 0 0, .slice none 0 0]
 have hf0 : Fr (fun _ => False) w (w.alloc (Obj.cells #[.int .i64 0, .int .i64 0, .int .i64 0, .slice none 0 0, .slice none 0 0, .int .i64 5, .int .i64 txn, .bool yes, .string ff, .string tt, .int .i64 epoch, .int .i64 shard, .int .i64 target, .int .i64 root, .int .i64 G, .int .i64 D, .slice C nx cx, .int .i64 0, .int .i64 0, .slice none 0 0, .slice none 0 0] 62)) := (Fr.refl _ _).alloc _
 go_enter Tryz.func45, Tryz.ntmps45
 go_upto_region 1 with fail
 generalize w.alloc (Obj.cells #[.int .i64 0, .int .i64 0, .int .i64 0, .slice none 0 0, .slice none 0 0, .int .i64 5, .int .i64 txn, .bool yes, .string ff, .string tt, .int .i64 epoch, .int .i64 shard, .int .i64 target, .int .i64 root, .int .i64 G, .int .i64 D, .slice C nx cx, .int .i64 0, .int .i64 0, .slice none 0 0, .slice none 0 0] 62) = w0 at *
 have k5 := hB0.cell 5
 have k6 := hB0.cell 6
 have k7 := hB0.cell 7
 have k8 := hB0.cell 8
 have k9 := hB0.cell 9
 have k10 := hB0.cell 10
 have k11 := hB0.cell 11
 have k12 := hB0.cell 12
 have k13 := hB0.cell 13
 go_upto_region 2 with fail
 have hB1 := hB0.alloc (Obj.cells #[.int .i64 5, .int .i64 txn, .bool yes, .string ff, .string tt, .int .i64 epoch, .int .i64 shard, .int .i64 target, .int .i64 root] 23)
 have hS1 := Blk.new w0 23 #[.int .i64 5, .int .i64 txn, .bool yes, .string ff, .string tt, .int .i64 epoch, .int .i64 shard, .int .i64 target, .int .i64 root]
 have hf1 := hf0.alloc (Obj.cells #[.int .i64 5, .int .i64 txn, .bool yes, .string ff, .string tt, .int .i64 epoch, .int .i64 shard, .int .i64 target, .int .i64 root] 23)
 go_upto_region 2 with fail
 generalize w0.alloc (Obj.cells #[.int .i64 5, .int .i64 txn, .bool yes, .string ff, .string tt, .int .i64 epoch, .int .i64 shard, .int .i64 target, .int .i64 root] 23) = w1 at *
 have s0 := hS1.cell 0
 have s6 := hS1.cell 6
 have s7 := hS1.cell 7
 clear hf0 k5 k6 k7 k8 k9 k10 k11 k12 k13
 go_upto_region 4 with (go_at_call 79; refine (relay_group _ _).mono ?_; rintro e w' ⟨rfl, rfl⟩; rw [HW.out])
 have kf := hB1.frozen 0
 have k0 := hB1.cell 0
 have hSr := hS1
 have hll' : l.length ≤ 1000000 := by omega
 have HCl := Lib.hid (cloneEnt (cap := lc) (hE.fr hf1 (fun _ _ => id)) hll')
 clear hE k0 kf s0 s6 s7
 have s0 := hS1.cell 0
 go_upto_region 9 with (first
  | (go_at_call 81; refine HDl.out.mono ?_; rintro e w3 ⟨A3, n3, c3, rfl, hn3, hc3, hE3, hf3⟩; replace hn3 := Lib.hid hn3)
  | (go_at_call 82; refine HCl.out.mono ?_; rintro e w2 ⟨v2, rfl, ho2, hf2⟩; have hS2 := hS1.fr hf2 id; have HDl := Lib.hid (deleteEnt (p := dropE ff tt) (sb := w0.heap.size) ho2 hll' (fun w' x hf' => told1 ((hS2.fr hf' (own_ne_blk ho2 hS2 (by decide))).cell 3) ((hS2.fr hf' (own_ne_blk ho2 hS2 (by decide))).cell 4) x))))
 have hf13 : Fr (fun _ => False) w1 w3 := hf2.trans hf3 (fun k hk e => by have := own_ge ho2 k e; omega)
 have hS3 := hS1.fr hf13 id
 have hB3 := hB1.fr hf13 id
 have hf03 := hf1.then_ hf13
 clear hS2 HDl HCl ho2 hf2 hf3 hf13 hS1 hSr hB1 hf1 hB0
 obtain ⟨own, hown⟩ : ∃ o, keepE ff tt l = o := ⟨_, rfl⟩
 have hkp : (l.filter fun x => !dropE ff tt x) = own := hown
 replace hn3 := hn3.out
 rw [hkp] at hn3 hE3
 subst hn3
 have HOWN := Lib.hid hown
 have hol : own.length ≤ l.length := by rw [← hkp]; exact List.length_filter_le _ _
 clear hown hkp
 replace hbad := hbad.out
 rw [HOWN.out] at hbad
 have HP := Lib.hid (fun bk => prove_bad (cap := c3) hE3 (by omega) hbad bk)
 clear hE3 hbad
 go_wp2_with (go_at_call 84; refine (HP.out _).mono ?_; rintro e w4 ⟨t, u, rfl, hf4⟩)
 go_ret
 exact ⟨.slice none 0 0, rfl, TasksAt.nil _ _ _, (hf03.then_ hf4).alloc _⟩
set_option maxRecDepth 100000 in
set_option maxHeartbeats 1500000 in
theorem told_fro {w : World} {txn : Int} {yes : Bool} {ff tt : ByteArray} {epoch shard target root : Int} (h : OkSay ⟨5, txn, yes, ff, tt, epoch, shard, target, root⟩) {G D fr : Int} {FE : Nat → Prop} {LA : Option Addr} {lc : Nat} {l : List Ent} (hE : EntRow w FE LA l) (hll : l.length ≤ 60000) {bC : Nat} {C : Option Addr} {cx : Nat} {xs : List Int} (hC : IntRow w bC C xs) (hbC : bC ≤ w.heap.size) (hxl : xs.length ≤ 1024) (hg : getOk (num8 G ++ num8 D ++ numsB xs)) {g m base : Nat} {v : Value} {L : List (List Int)} (hb : BookAt w g m base v L) (hbase : base ≤ w.heap.size) (hL : L.length < 65536) (HF : ∀ b o, C = some ⟨b, o, none⟩ → ¬ (b = g ∨ b = m ∨ v.ownBlock = some b)) (hfr : fr = shard + 1) (hok : risesE (keepE ff tt l) = true) :
  Calls Tryz.prog 45 #[.pointer (some ⟨g, 0, none⟩), .agg #[.int .i64 0, .int .i64 0, .int .i64 0, .slice none 0 0, .slice none 0 0, .int .i64 5, .int .i64 txn, .bool yes, .string ff, .string tt, .int .i64 epoch, .int .i64 shard, .int .i64 target, .int .i64 root, .int .i64 G, .int .i64 D, .slice C xs.length cx, .int .i64 0, .int .i64 0, .slice none 0 0, .slice none 0 0], .int .i64 fr, .slice LA l.length lc] w (RelStep w g m base v (bookOf L (keepE ff tt l)) [target + 1] (ordB 4 [] (sayB ⟨5, txn, yes, ff, tt, epoch, shard, target, root⟩) (certB G D xs) (keepE ff tt l).length 0 (keepE ff tt l) (besideOf L (keepE ff tt l)))) := by
 subst hfr
 have HC := Lib.hid hC
 have HG := Lib.hid hg
 have HXL := Lib.hid hxl
 replace hok := Lib.hid hok
 replace HF := Lib.hid HF
 clear hC hg hxl
 have hsh : (0 ≤ shard ∧ shard ≤ 3) ∧ (0 ≤ target ∧ target ≤ 3) := by
  obtain ⟨a0, a1, a2, a3, a4, a5, a6, a7, a8, a9, a10, a11, a12, a13⟩ := h
  dsimp only at a10 a11 a12 a13
  omega
 have hwr : wrap64 (shard + 1) = shard + 1 := by unfold wrap64; omega
 have HW := Lib.hid hwr
 have hwt : wrap64 (target + 1) = target + 1 := by unfold wrap64; omega
 have HWT := Lib.hid hwt
 clear hwr hwt
 have HOK := Lib.hid h
 clear h
 have hB0 := Blk.new w 62 #[.int .i64 0, .int .i64 0, .int .i64 0, .slice none 0 0, .slice none 0 0, .int .i64 5, .int .i64 txn, .bool yes, .string ff, .string tt, .int .i64 epoch, .int .i64 shard, .int .i64 target, .int .i64 root, .int .i64 G, .int .i64 D, .slice C xs.length cx, .int .i64 0, .int .i64 0, .slice none 0 0, .slice none 0 0]
 have hf0 : Fr (fun _ => False) w (w.alloc (Obj.cells #[.int .i64 0, .int .i64 0, .int .i64 0, .slice none 0 0, .slice none 0 0, .int .i64 5, .int .i64 txn, .bool yes, .string ff, .string tt, .int .i64 epoch, .int .i64 shard, .int .i64 target, .int .i64 root, .int .i64 G, .int .i64 D, .slice C xs.length cx, .int .i64 0, .int .i64 0, .slice none 0 0, .slice none 0 0] 62)) := (Fr.refl _ _).alloc _
 go_enter Tryz.func45, Tryz.ntmps45
 go_upto_region 1 with fail
 generalize w.alloc (Obj.cells #[.int .i64 0, .int .i64 0, .int .i64 0, .slice none 0 0, .slice none 0 0, .int .i64 5, .int .i64 txn, .bool yes, .string ff, .string tt, .int .i64 epoch, .int .i64 shard, .int .i64 target, .int .i64 root, .int .i64 G, .int .i64 D, .slice C xs.length cx, .int .i64 0, .int .i64 0, .slice none 0 0, .slice none 0 0] 62) = w0 at *
 have k5 := hB0.cell 5
 have k6 := hB0.cell 6
 have k7 := hB0.cell 7
 have k8 := hB0.cell 8
 have k9 := hB0.cell 9
 have k10 := hB0.cell 10
 have k11 := hB0.cell 11
 have k12 := hB0.cell 12
 have k13 := hB0.cell 13
 go_upto_region 2 with fail
 have hB1 := hB0.alloc (Obj.cells #[.int .i64 5, .int .i64 txn, .bool yes, .string ff, .string tt, .int .i64 epoch, .int .i64 shard, .int .i64 target, .int .i64 root] 23)
 have hS1 := Blk.new w0 23 #[.int .i64 5, .int .i64 txn, .bool yes, .string ff, .string tt, .int .i64 epoch, .int .i64 shard, .int .i64 target, .int .i64 root]
 have hf1 := hf0.alloc (Obj.cells #[.int .i64 5, .int .i64 txn, .bool yes, .string ff, .string tt, .int .i64 epoch, .int .i64 shard, .int .i64 target, .int .i64 root] 23)
 go_upto_region 2 with fail
 generalize w0.alloc (Obj.cells #[.int .i64 5, .int .i64 txn, .bool yes, .string ff, .string tt, .int .i64 epoch, .int .i64 shard, .int .i64 target, .int .i64 root] 23) = w1 at *
 have s0 := hS1.cell 0
 have s6 := hS1.cell 6
 have s7 := hS1.cell 7
 clear hf0 k5 k6 k7 k8 k9 k10 k11 k12 k13
 go_upto_region 4 with (go_at_call 79; refine (relay_group _ _).mono ?_; rintro e w' ⟨rfl, rfl⟩; rw [HW.out])
 have kf := hB1.frozen 0
 have k0 := hB1.cell 0
 have hSr := hS1
 have hll' : l.length ≤ 1000000 := by omega
 have HCl := Lib.hid (cloneEnt (cap := lc) (hE.fr hf1 (fun _ _ => id)) hll')
 clear hE k0 kf s0 s6 s7
 have s0 := hS1.cell 0
 go_upto_region 9 with (first
  | (go_at_call 81; refine HDl.out.mono ?_; rintro e w3 ⟨A3, n3, c3, rfl, hn3, hc3, hE3, hf3⟩; replace hn3 := Lib.hid hn3)
  | (go_at_call 82; refine HCl.out.mono ?_; rintro e w2 ⟨v2, rfl, ho2, hf2⟩; have hS2 := hS1.fr hf2 id; have HDl := Lib.hid (deleteEnt (p := dropE ff tt) (sb := w0.heap.size) ho2 hll' (fun w' x hf' => told1 ((hS2.fr hf' (own_ne_blk ho2 hS2 (by decide))).cell 3) ((hS2.fr hf' (own_ne_blk ho2 hS2 (by decide))).cell 4) x))))
 have hf13 : Fr (fun _ => False) w1 w3 := hf2.trans hf3 (fun k hk e => by have := own_ge ho2 k e; omega)
 have hS3 := hS1.fr hf13 id
 have hB3 := hB1.fr hf13 id
 have hf03 := hf1.then_ hf13
 clear hS2 HDl HCl ho2 hf2 hf3 hf13 hS1 hSr hB1 hf1 hB0
 obtain ⟨own, hown⟩ : ∃ o, keepE ff tt l = o := ⟨_, rfl⟩
 have hkp : (l.filter fun x => !dropE ff tt x) = own := hown
 replace hn3 := hn3.out
 rw [hkp] at hn3 hE3
 subst hn3
 have HOWN := Lib.hid hown
 have hol : own.length ≤ l.length := by rw [← hkp]; exact List.length_filter_le _ _
 clear hown hkp
 replace hok := hok.out
 rw [HOWN.out] at hok ⊢
 have hb3 := hb.keep hf03
 have HP := Lib.hid (merkle_Prove (cap := c3) hb3 (Nat.le_trans hbase hf03.size) hL hE3 (by omega) hok hc3)
 have HOKR := Lib.hid hok
 obtain ⟨Bs, hBs⟩ : ∃ b, Hid (besideOf L own = b) := ⟨_, rfl⟩
 obtain ⟨LB, hLB⟩ : ∃ b, Hid (bookOf L own = b) := ⟨_, rfl⟩
 have hBd : Hid (Bs.length ≤ 1024 ∧ ∀ d ∈ Bs, 0 ≤ d ∧ d ≤ 2147483647) := by
  show _ ∧ _
  rw [← hBs.out]
  unfold besideOf
  split
  ·refine ⟨by simp, fun d hd => ?_⟩
   rw [List.mem_singleton.1 hd]
   have : digI L noneB ≤ L.length := by
    unfold digI
    split
    ·exact List.idxOf_le_length
    ·exact Nat.le_refl _
   omega
  ·exact ⟨by simp, fun d hd => by cases hd⟩
 rw [hBs.out, hLB.out] at HP ⊢
 clear hE3 hok hb
 go_upto_region 12 with (go_at_call 84; refine HP.out.mono ?_; rintro e w4 ⟨EA, ec, VA, vc, v4, rfl, hE4, hV4, hb4, hf4, hk4⟩)
 have hS4 := hb3.farB hS3 (by decide) (by decide) hf4
 have hB4 := hb3.farB hB3 (by decide) (by decide) hf4
 have hP5 := Blk.new w4 60 #[.int .i64 own.length, .int .i64 0, .slice EA own.length ec, .slice VA Bs.length vc]
 have hf45 : Fr (fun _ => False) w4 (w4.alloc (Obj.cells #[.int .i64 own.length, .int .i64 0, .slice EA own.length ec, .slice VA Bs.length vc] 60)) := (Fr.refl _ _).alloc _
 have hS5 := hS4.fr hf45 id
 have hB5 := hB4.fr hf45 id
 have hE5 := hE4.fr hf45 (fun _ _ => id)
 have hV5 := hV4.fr hf45 (fun _ _ => id)
 have hb5 := hb4.keep hf45
 have hf05 : Fr (fun k => k = g ∨ k = m ∨ v.ownBlock = some k) w (w4.alloc (Obj.cells #[.int .i64 own.length, .int .i64 0, .slice EA own.length ec, .slice VA Bs.length vc] 60)) := ((hf03.mono (fun _ _ h => h.elim)).trans hf4 (fun _ _ h => h)).then_ hf45
 have hgO : w.heap.size < w3.heap.size := hB3.lt
 have hk5 : ∀ k, v4.ownBlock = some k → v.ownBlock = some k ∨ w.heap.size ≤ k := fun k hk => (hk4 k hk).imp_right (Nat.le_trans hf03.size)
 generalize w4.alloc (Obj.cells #[.int .i64 own.length, .int .i64 0, .slice EA own.length ec, .slice VA Bs.length vc] 60) = w5 at *
 obtain ⟨gP, hgP⟩ : ∃ x, w4.heap.size = x := ⟨_, rfl⟩
 rw [hgP] at hP5 ⊢
 have hne : gP ≠ w.heap.size := by have := hf4.size; omega
 clear hgP hS4 hB4 hE4 hV4 hb4 hb3 HP hS3 hB3 hf45 hk4 s0
 go_upto_region 14 with fail
 go_cut [] from 44 to 46 (fun wx => Blk wx w.heap.size 62 #[.int .i64 4, .int .i64 0, .int .i64 0, .slice none 0 0, .slice none 0 0, .int .i64 5, .int .i64 txn, .bool yes, .string ff, .string tt, .int .i64 epoch, .int .i64 shard, .int .i64 target, .int .i64 root, .int .i64 G, .int .i64 D, .slice C xs.length cx, .int .i64 own.length, .int .i64 0, .slice EA own.length ec, .slice VA Bs.length vc] ∧ Fr (fun k => k = w.heap.size) w5 wx)
 case first =>
  have p0 := hP5.cell 0
  have p1 := hP5.cell 1
  have p2 := hP5.cell 2
  have p3 := hP5.cell 3
  have k0 := hB5.cell 0
  have f0 := hB5.frozen 0
  have k17 := hB5.cell 17
  have f17 := hB5.frozen 17
  have k18 := hB5.cell 18
  have f18 := hB5.frozen 18
  have k19 := hB5.cell 19
  have f19 := hB5.frozen 19
  have k20 := hB5.cell 20
  have f20 := hB5.frozen 20
  refine wp_region_noPanic ?_
  refine wp_region_held_drew (S := (fun w' => w'.cell? ⟨gP, 0, none⟩ = some (.int .i64 own.length) ∧ w'.cell? ⟨gP, 1, none⟩ = some (.int .i64 0) ∧ w'.cell? ⟨gP, 2, none⟩ = some (.slice EA own.length ec) ∧ w'.cell? ⟨gP, 3, none⟩ = some (.slice VA Bs.length vc))) (by kernel_rfl) (⟨p0, p1, p2, p3⟩) (fun hHeld => ?_)
  refine tk 0 44 ?_
  refine tk 1 45 ?_
  refine wpAnyH_ready (rs := [2]) (by kernel_rfl) (by simp) ?_
  refine AllReadyH.cons rfl (fun K hK => ?_) AllReadyH.nil
  go_simp
  have hPx : Blk (w5.setCell ⟨w.heap.size, 0, none⟩ (.int .i64 4)) gP 60 #[.int .i64 own.length, .int .i64 0, .slice EA own.length ec, .slice VA Bs.length vc] := (hP5.far (p := ⟨w.heap.size, 0, none⟩) hne (.int .i64 4))
  refine hK.out _ _ (⟨hPx.cell 0, hPx.cell 1, hPx.cell 2, hPx.cell 3⟩) (fun hHeld => ?_)
  clear hK K
  refine tk 3 46 ?_
  refine wpAnyH_ready (rs := [4]) (by kernel_rfl) (by simp) ?_
  refine AllReadyH.cons rfl (fun K hK => ?_) AllReadyH.nil
  go_simp
  have hB5a1 : Blk (w5.setCell ⟨w.heap.size, 0, none⟩ (.int .i64 4)) w.heap.size 62 #[.int .i64 4, .int .i64 0, .int .i64 0, .slice none 0 0, .slice none 0 0, .int .i64 5, .int .i64 txn, .bool yes, .string ff, .string tt, .int .i64 epoch, .int .i64 shard, .int .i64 target, .int .i64 root, .int .i64 G, .int .i64 D, .slice C xs.length cx, .int .i64 0, .int .i64 0, .slice none 0 0, .slice none 0 0] := hB5.set_ 0 _
  have hB5a2 : Blk ((w5.setCell ⟨w.heap.size, 0, none⟩ (.int .i64 4)).setCell ⟨w.heap.size, 17, none⟩ (.int .i64 own.length)) w.heap.size 62 #[.int .i64 4, .int .i64 0, .int .i64 0, .slice none 0 0, .slice none 0 0, .int .i64 5, .int .i64 txn, .bool yes, .string ff, .string tt, .int .i64 epoch, .int .i64 shard, .int .i64 target, .int .i64 root, .int .i64 G, .int .i64 D, .slice C xs.length cx, .int .i64 own.length, .int .i64 0, .slice none 0 0, .slice none 0 0] := hB5a1.set_ 17 _
  have hB5a3 : Blk (((w5.setCell ⟨w.heap.size, 0, none⟩ (.int .i64 4)).setCell ⟨w.heap.size, 17, none⟩ (.int .i64 own.length)).setCell ⟨w.heap.size, 18, none⟩ (.int .i64 0)) w.heap.size 62 #[.int .i64 4, .int .i64 0, .int .i64 0, .slice none 0 0, .slice none 0 0, .int .i64 5, .int .i64 txn, .bool yes, .string ff, .string tt, .int .i64 epoch, .int .i64 shard, .int .i64 target, .int .i64 root, .int .i64 G, .int .i64 D, .slice C xs.length cx, .int .i64 own.length, .int .i64 0, .slice none 0 0, .slice none 0 0] := hB5a2.set_ 18 _
  have hB5a4 : Blk ((((w5.setCell ⟨w.heap.size, 0, none⟩ (.int .i64 4)).setCell ⟨w.heap.size, 17, none⟩ (.int .i64 own.length)).setCell ⟨w.heap.size, 18, none⟩ (.int .i64 0)).setCell ⟨w.heap.size, 19, none⟩ (.slice EA own.length ec)) w.heap.size 62 #[.int .i64 4, .int .i64 0, .int .i64 0, .slice none 0 0, .slice none 0 0, .int .i64 5, .int .i64 txn, .bool yes, .string ff, .string tt, .int .i64 epoch, .int .i64 shard, .int .i64 target, .int .i64 root, .int .i64 G, .int .i64 D, .slice C xs.length cx, .int .i64 own.length, .int .i64 0, .slice EA own.length ec, .slice none 0 0] := hB5a3.set_ 19 _
  have hB5a5 : Blk (((((w5.setCell ⟨w.heap.size, 0, none⟩ (.int .i64 4)).setCell ⟨w.heap.size, 17, none⟩ (.int .i64 own.length)).setCell ⟨w.heap.size, 18, none⟩ (.int .i64 0)).setCell ⟨w.heap.size, 19, none⟩ (.slice EA own.length ec)).setCell ⟨w.heap.size, 20, none⟩ (.slice VA Bs.length vc)) w.heap.size 62 #[.int .i64 4, .int .i64 0, .int .i64 0, .slice none 0 0, .slice none 0 0, .int .i64 5, .int .i64 txn, .bool yes, .string ff, .string tt, .int .i64 epoch, .int .i64 shard, .int .i64 target, .int .i64 root, .int .i64 G, .int .i64 D, .slice C xs.length cx, .int .i64 own.length, .int .i64 0, .slice EA own.length ec, .slice VA Bs.length vc] := hB5a4.set_ 20 _
  have hPy : Blk (((((w5.setCell ⟨w.heap.size, 0, none⟩ (.int .i64 4)).setCell ⟨w.heap.size, 17, none⟩ (.int .i64 own.length)).setCell ⟨w.heap.size, 18, none⟩ (.int .i64 0)).setCell ⟨w.heap.size, 19, none⟩ (.slice EA own.length ec)).setCell ⟨w.heap.size, 20, none⟩ (.slice VA Bs.length vc)) gP 60 #[.int .i64 own.length, .int .i64 0, .slice EA own.length ec, .slice VA Bs.length vc] := (((((hP5.far (p := ⟨w.heap.size, 0, none⟩) hne (.int .i64 4)).far (p := ⟨w.heap.size, 17, none⟩) hne (.int .i64 own.length)).far (p := ⟨w.heap.size, 18, none⟩) hne (.int .i64 0)).far (p := ⟨w.heap.size, 19, none⟩) hne (.slice EA own.length ec)).far (p := ⟨w.heap.size, 20, none⟩) hne (.slice VA Bs.length vc))
  have hfy : Fr (fun k => k = w.heap.size) w5 (((((w5.setCell ⟨w.heap.size, 0, none⟩ (.int .i64 4)).setCell ⟨w.heap.size, 17, none⟩ (.int .i64 own.length)).setCell ⟨w.heap.size, 18, none⟩ (.int .i64 0)).setCell ⟨w.heap.size, 19, none⟩ (.slice EA own.length ec)).setCell ⟨w.heap.size, 20, none⟩ (.slice VA Bs.length vc)) := (((((Fr.refl (fun k => k = w.heap.size) w5).setCell (p := ⟨w.heap.size, 0, none⟩) (fun _ => rfl) (.int .i64 4)).setCell (p := ⟨w.heap.size, 17, none⟩) (fun _ => rfl) (.int .i64 own.length)).setCell (p := ⟨w.heap.size, 18, none⟩) (fun _ => rfl) (.int .i64 0)).setCell (p := ⟨w.heap.size, 19, none⟩) (fun _ => rfl) (.slice EA own.length ec)).setCell (p := ⟨w.heap.size, 20, none⟩) (fun _ => rfl) (.slice VA Bs.length vc)
  clear hB5a1 hB5a2 hB5a3 hB5a4
  generalize (((((w5.setCell ⟨w.heap.size, 0, none⟩ (.int .i64 4)).setCell ⟨w.heap.size, 17, none⟩ (.int .i64 own.length)).setCell ⟨w.heap.size, 18, none⟩ (.int .i64 0)).setCell ⟨w.heap.size, 19, none⟩ (.slice EA own.length ec)).setCell ⟨w.heap.size, 20, none⟩ (.slice VA Bs.length vc)) = wz at *
  have hSz := (⟨hPy.cell 0, hPy.cell 1, hPy.cell 2, hPy.cell 3⟩ : wz.cell? ⟨gP, 0, none⟩ = some (.int .i64 own.length) ∧ wz.cell? ⟨gP, 1, none⟩ = some (.int .i64 0) ∧ wz.cell? ⟨gP, 2, none⟩ = some (.slice EA own.length ec) ∧ wz.cell? ⟨gP, 3, none⟩ = some (.slice VA Bs.length vc))
  refine hK.out _ _ hSz (fun hHeld => ?_)
  clear hK K
  refine wpAnyH_done (by kernel_rfl) ?_ _
  refine NoPanic.normal ?_
  go_wp2_with fail
  go_meet
  exact ⟨hB5a5.drew, hfy.drew⟩
 case rest =>
  obtain ⟨hB6, hf56⟩ := hcut
  have hS6 := hS5.fr hf56 (hS5.ne_ hB5 (by decide))
  have hE6 := (hE5.fr hf56 (fun k hk e => by omega)).lts
  have hV6 := (hV5.fr hf56 (fun k hk e => by omega)).lts
  have n2 : m ≠ w.heap.size := fun e => by obtain ⟨⟨es, cl, h1, _⟩, _⟩ := hb5.map; exact hB5.ne_map h1 e.symm
  have n3 := own_ne_blk hb5.own hB5 (by decide)
  have hb6 := hb5.fr hf56 (hb5.blk.ne_ hB5 (by decide)) n2 (fun k hk e => n3 (e ▸ hk))
  have hf06 := hf05.trans hf56 (fun k hk e => by omega)
  clear hS5 hB5 hE5 hV5 hb5 hP5 hf56 hf05 n2 n3
  generalize wc = w6 at *
  have s7 := hS6.cell 7
  have k0 := hB6.cell 0
  go_upto_region 21 with (go_at_call 79; refine (relay_group _ _).mono ?_; rintro e w' ⟨rfl, rfl⟩; rw [HWT.out])
  have hg1 := group_at w6 (target + 1)
  have hf67 : Fr (fun _ => False) w6 (w6.alloc (Obj.cells #[.int .i64 (target + 1)] 3)) := (Fr.refl _ _).alloc _
  have HT : Calls Tryz.prog 64 #[.agg #[.int .i64 4, .int .i64 0, .int .i64 0, .slice none 0 0, .slice none 0 0, .int .i64 5, .int .i64 txn, .bool yes, .string ff, .string tt, .int .i64 epoch, .int .i64 shard, .int .i64 target, .int .i64 root, .int .i64 G, .int .i64 D, .slice C xs.length cx, .int .i64 own.length, .int .i64 0, .slice EA own.length ec, .slice VA Bs.length vc], .slice (some ⟨w6.heap.size, 0, none⟩) 1 1] (w6.alloc (Obj.cells #[.int .i64 (target + 1)] 3)) (TasksP (w6.alloc (Obj.cells #[.int .i64 (target + 1)] 3)) [target + 1] (ordB 4 [] (sayB ⟨5, txn, yes, ff, tt, epoch, shard, target, root⟩) (certB G D xs) own.length 0 own Bs)) := relay_tasks_okP (s := ⟨5, txn, yes, ff, tt, epoch, shard, target, root⟩) (cg := 1) hg1 (by simp) (by simp) (ordB_len (by simp) (by have := sayB_short ⟨5, txn, yes, ff, tt, epoch, shard, target, root⟩; rw [show wordB ⟨5, txn, yes, ff, tt, epoch, shard, target, root⟩ = _ from if_pos HOK.out] at this; exact this) (certB_len HXL.out) HOKR.out hBd.out.1) (fun w' hf => order_certP (by omega) (by omega) ⟨by omega, by omega⟩ HOK.out ((HC.out.away hf06 HF.out).fr (hf67.then_ hf) (fun _ _ => id)) (Nat.le_trans hbC (hf06.then_ (hf67.then_ hf)).size) HXL.out HG.out ((hE6.fr (hf67.then_ hf) (fun _ _ => id)).lts) ((hV6.fr (hf67.then_ hf) (fun _ _ => id)).lts) HOKR.out hBd.out.1 hBd.out.2)
  replace HT := Lib.hid HT
  clear hg1
  go_wp2_with (first
   | (refine wpList_load_row rfl 62 _ rfl _ rfl _ _ (0, 0) _ hB6 Tryz.underlying62 rfl (by kernel_rfl) ?_)
   | (go_at_call 64; refine HT.out.mono ?_; rintro e w' ⟨tv, rfl, hv, hf'⟩))
  go_ret
  rw [HOWN.out, hLB.out, hBs.out]
  exact ⟨tv, v4, rfl, hv.base_ (Nat.le_trans hf06.size hf67.size), hb6.keep (hf67.then_ hf'), hf06.then_ (hf67.then_ hf'), hk5⟩
end Go.Proofs.YtmkdhhhoodeemaaGreat

/- relay: ruled. -/
namespace Go.Proofs.YtmkdhhhoodeemaaGreat
open Go Go.RowKit
theorem ownsRow_built1 (w : World) (e : TypeId) (u : Value) : (w.alloc (.cells #[u] e)).ownsRow w.heap.size e 1 (.slice (some ⟨w.heap.size, 0, none⟩) 1 1) 1 [u] :=
 ⟨by simp, .inr ⟨w.heap.size, 1, #[u], rfl, Nat.le_refl _, heap_alloc_new w _, Nat.le_refl _, by simp only [maxLen]; omega, by simp, by simp⟩⟩
theorem own_introw {w : World} {base : Nat} {v : Value} {n : Nat} {l : List Int} (h : w.ownsRow base 3 1 v n (num64V l)) (hn : n = l.length) : ∃ A c, v = .slice A l.length c ∧ IntRow w w.heap.size A l := by
 subst hn
 obtain ⟨A, c, rfl, hr⟩ := own_ints h
 refine ⟨A, c, rfl, fun k x hx => ?_⟩
 obtain ⟨b, o, e, _, hc⟩ := hr k x hx
 exact ⟨b, o, e, World.block_lt_of_cell? w _ hc, hc⟩
set_option maxRecDepth 100000 in
set_option maxHeartbeats 800000 in
theorem ruled_none {w : World} {kind : Int} {txn : Int} {yes : Bool} {ff tt : ByteArray} {epoch shard target root : Int} (h : OkSay ⟨kind, txn, yes, ff, tt, epoch, shard, target, root⟩) {G D : Int} {C : Option Addr} {nx cx : Nat} (q1 : (kind == 1) = false) (q3 : (kind == 3) = false) (q4 : (kind == 4) = false) (q7 : (kind == 7) = false) {bk sh : Value} :
  Calls Tryz.prog 44 #[bk, .agg #[.int .i64 0, .int .i64 0, .int .i64 0, .slice none 0 0, .slice none 0 0, .int .i64 kind, .int .i64 txn, .bool yes, .string ff, .string tt, .int .i64 epoch, .int .i64 shard, .int .i64 target, .int .i64 root, .int .i64 G, .int .i64 D, .slice C nx cx, .int .i64 0, .int .i64 0, .slice none 0 0, .slice none 0 0], sh] w (TasksP w [] []) := by
 have hsh : (0 ≤ shard ∧ shard ≤ 3) ∧ (0 ≤ target ∧ target ≤ 3) ∧ (0 ≤ txn ∧ txn ≤ 2147483647) := by
  obtain ⟨a0, a1, a2, a3, a4, a5, a6, a7, a8, a9, a10, a11, a12, a13⟩ := h
  dsimp only at a2 a3 a10 a11 a12 a13
  omega
 have hwr : wrap64 (shard + 1) = shard + 1 := by unfold wrap64; omega
 have HW := Lib.hid hwr
 have hwt : wrap64 (target + 1) = target + 1 := by unfold wrap64; omega
 have HWT := Lib.hid hwt
 clear hwr hwt
 have HOK := Lib.hid h
 clear h
 have hB0 := Blk.new w 62 #[.int .i64 0, .int .i64 0, .int .i64 0, .slice none 0 0, .slice none 0 0, .int .i64 kind, .int .i64 txn, .bool yes, .string ff, .string tt, .int .i64 epoch, .int .i64 shard, .int .i64 target, .int .i64 root, .int .i64 G, .int .i64 D, .slice C nx cx, .int .i64 0, .int .i64 0, .slice none 0 0, .slice none 0 0]
 have hf0 : Fr (fun _ => False) w (w.alloc (Obj.cells #[.int .i64 0, .int .i64 0, .int .i64 0, .slice none 0 0, .slice none 0 0, .int .i64 kind, .int .i64 txn, .bool yes, .string ff, .string tt, .int .i64 epoch, .int .i64 shard, .int .i64 target, .int .i64 root, .int .i64 G, .int .i64 D, .slice C nx cx, .int .i64 0, .int .i64 0, .slice none 0 0, .slice none 0 0] 62)) := (Fr.refl _ _).alloc _
 go_enter Tryz.func44, Tryz.ntmps44
 go_upto_region 1 with fail
 generalize w.alloc (Obj.cells #[.int .i64 0, .int .i64 0, .int .i64 0, .slice none 0 0, .slice none 0 0, .int .i64 kind, .int .i64 txn, .bool yes, .string ff, .string tt, .int .i64 epoch, .int .i64 shard, .int .i64 target, .int .i64 root, .int .i64 G, .int .i64 D, .slice C nx cx, .int .i64 0, .int .i64 0, .slice none 0 0, .slice none 0 0] 62) = w0 at *
 have k5 := hB0.cell 5
 have k6 := hB0.cell 6
 have k7 := hB0.cell 7
 have k8 := hB0.cell 8
 have k9 := hB0.cell 9
 have k10 := hB0.cell 10
 have k11 := hB0.cell 11
 have k12 := hB0.cell 12
 have k13 := hB0.cell 13
 go_upto_region 2 with fail
 have hB1 := hB0.alloc (Obj.cells #[.int .i64 kind, .int .i64 txn, .bool yes, .string ff, .string tt, .int .i64 epoch, .int .i64 shard, .int .i64 target, .int .i64 root] 23)
 have hS1 := Blk.new w0 23 #[.int .i64 kind, .int .i64 txn, .bool yes, .string ff, .string tt, .int .i64 epoch, .int .i64 shard, .int .i64 target, .int .i64 root]
 have hf1 := hf0.alloc (Obj.cells #[.int .i64 kind, .int .i64 txn, .bool yes, .string ff, .string tt, .int .i64 epoch, .int .i64 shard, .int .i64 target, .int .i64 root] 23)
 generalize w0.alloc (Obj.cells #[.int .i64 kind, .int .i64 txn, .bool yes, .string ff, .string tt, .int .i64 epoch, .int .i64 shard, .int .i64 target, .int .i64 root] 23) = w1 at *
 have s6 := hS1.cell 6
 clear hf0 k5 k6 k7 k8 k9 k10 k11 k12 k13
 go_upto_region 3 with (go_at_call 79; refine (relay_group _ _).mono ?_; rintro e w' ⟨rfl, rfl⟩; rw [HW.out])
 have hB2 := hB1.alloc (Obj.cells #[.int .i64 (shard + 1)] 3)
 have hS2 := hS1.alloc (Obj.cells #[.int .i64 (shard + 1)] 3)
 have hg2 := group_at w1 (shard + 1)
 have ho2 := ownsRow_built1 w1 3 (.int .i64 (shard + 1))
 have hz2 : w1.heap.size < (w1.alloc (Obj.cells #[.int .i64 (shard + 1)] 3)).heap.size := by simp
 have hf2 := hf1.alloc (Obj.cells #[.int .i64 (shard + 1)] 3)
 generalize w1.alloc (Obj.cells #[.int .i64 (shard + 1)] 3) = w2 at *
 clear hB1 hS1 hf1 s6
 have s0 := hS2.cell 0
 have s1 := hS2.cell 1
 have s7 := hS2.cell 7
 have k0 := hB2.cell 0
 have f0 := hB2.frozen 0
 go_wp2_with fail
 go_ret
 exact ⟨.slice none 0 0, rfl, TasksAt.nil _ _ _, hf2⟩
set_option maxRecDepth 100000 in
set_option maxHeartbeats 800000 in
theorem ruled_freeze {w : World} {txn : Int} {yes : Bool} {ff tt : ByteArray} {epoch shard target root : Int} (h : OkSay ⟨4, txn, yes, ff, tt, epoch, shard, target, root⟩) {G D : Int} {bC : Nat} {C : Option Addr} {cx : Nat} {xs : List Int} (hC : IntRow w bC C xs) (hbC : bC ≤ w.heap.size) (hxl : xs.length ≤ 1024) (hg : getOk (num8 G ++ num8 D ++ numsB xs)) {bk sh : Value} :
  Calls Tryz.prog 44 #[bk, .agg #[.int .i64 0, .int .i64 0, .int .i64 0, .slice none 0 0, .slice none 0 0, .int .i64 4, .int .i64 txn, .bool yes, .string ff, .string tt, .int .i64 epoch, .int .i64 shard, .int .i64 target, .int .i64 root, .int .i64 G, .int .i64 D, .slice C xs.length cx, .int .i64 0, .int .i64 0, .slice none 0 0, .slice none 0 0], sh] w (TasksP w [shard + 1] (orderB 3 [] (sayB ⟨4, txn, yes, ff, tt, epoch, shard, target, root⟩) (certB G D xs))) := by
 have HC := Lib.hid hC
 have HG := Lib.hid hg
 have HXL := Lib.hid hxl
 clear hC hg hxl
 have hsh : (0 ≤ shard ∧ shard ≤ 3) ∧ (0 ≤ target ∧ target ≤ 3) ∧ (0 ≤ txn ∧ txn ≤ 2147483647) := by
  obtain ⟨a0, a1, a2, a3, a4, a5, a6, a7, a8, a9, a10, a11, a12, a13⟩ := h
  dsimp only at a2 a3 a10 a11 a12 a13
  omega
 have hwr : wrap64 (shard + 1) = shard + 1 := by unfold wrap64; omega
 have HW := Lib.hid hwr
 have hwt : wrap64 (target + 1) = target + 1 := by unfold wrap64; omega
 have HWT := Lib.hid hwt
 clear hwr hwt
 have HOK := Lib.hid h
 clear h
 have hB0 := Blk.new w 62 #[.int .i64 0, .int .i64 0, .int .i64 0, .slice none 0 0, .slice none 0 0, .int .i64 4, .int .i64 txn, .bool yes, .string ff, .string tt, .int .i64 epoch, .int .i64 shard, .int .i64 target, .int .i64 root, .int .i64 G, .int .i64 D, .slice C xs.length cx, .int .i64 0, .int .i64 0, .slice none 0 0, .slice none 0 0]
 have hf0 : Fr (fun _ => False) w (w.alloc (Obj.cells #[.int .i64 0, .int .i64 0, .int .i64 0, .slice none 0 0, .slice none 0 0, .int .i64 4, .int .i64 txn, .bool yes, .string ff, .string tt, .int .i64 epoch, .int .i64 shard, .int .i64 target, .int .i64 root, .int .i64 G, .int .i64 D, .slice C xs.length cx, .int .i64 0, .int .i64 0, .slice none 0 0, .slice none 0 0] 62)) := (Fr.refl _ _).alloc _
 go_enter Tryz.func44, Tryz.ntmps44
 go_upto_region 1 with fail
 generalize w.alloc (Obj.cells #[.int .i64 0, .int .i64 0, .int .i64 0, .slice none 0 0, .slice none 0 0, .int .i64 4, .int .i64 txn, .bool yes, .string ff, .string tt, .int .i64 epoch, .int .i64 shard, .int .i64 target, .int .i64 root, .int .i64 G, .int .i64 D, .slice C xs.length cx, .int .i64 0, .int .i64 0, .slice none 0 0, .slice none 0 0] 62) = w0 at *
 have k5 := hB0.cell 5
 have k6 := hB0.cell 6
 have k7 := hB0.cell 7
 have k8 := hB0.cell 8
 have k9 := hB0.cell 9
 have k10 := hB0.cell 10
 have k11 := hB0.cell 11
 have k12 := hB0.cell 12
 have k13 := hB0.cell 13
 go_upto_region 2 with fail
 have hB1 := hB0.alloc (Obj.cells #[.int .i64 4, .int .i64 txn, .bool yes, .string ff, .string tt, .int .i64 epoch, .int .i64 shard, .int .i64 target, .int .i64 root] 23)
 have hS1 := Blk.new w0 23 #[.int .i64 4, .int .i64 txn, .bool yes, .string ff, .string tt, .int .i64 epoch, .int .i64 shard, .int .i64 target, .int .i64 root]
 have hww : w0.heap.size < (w0.alloc (Obj.cells #[.int .i64 4, .int .i64 txn, .bool yes, .string ff, .string tt, .int .i64 epoch, .int .i64 shard, .int .i64 target, .int .i64 root] 23)).heap.size := by simp
 have hf1 := hf0.alloc (Obj.cells #[.int .i64 4, .int .i64 txn, .bool yes, .string ff, .string tt, .int .i64 epoch, .int .i64 shard, .int .i64 target, .int .i64 root] 23)
 generalize w0.alloc (Obj.cells #[.int .i64 4, .int .i64 txn, .bool yes, .string ff, .string tt, .int .i64 epoch, .int .i64 shard, .int .i64 target, .int .i64 root] 23) = w1 at *
 have s6 := hS1.cell 6
 clear hf0 k5 k6 k7 k8 k9 k10 k11 k12 k13
 go_upto_region 3 with (go_at_call 79; refine (relay_group _ _).mono ?_; rintro e w' ⟨rfl, rfl⟩; rw [HW.out])
 have hB2 := hB1.alloc (Obj.cells #[.int .i64 (shard + 1)] 3)
 have hS2 := hS1.alloc (Obj.cells #[.int .i64 (shard + 1)] 3)
 have hg2 := group_at w1 (shard + 1)
 have ho2 := ownsRow_built1 w1 3 (.int .i64 (shard + 1))
 have hz2 : w1.heap.size < (w1.alloc (Obj.cells #[.int .i64 (shard + 1)] 3)).heap.size := by simp
 have hf2 := hf1.alloc (Obj.cells #[.int .i64 (shard + 1)] 3)
 generalize w1.alloc (Obj.cells #[.int .i64 (shard + 1)] 3) = w2 at *
 clear hB1 hS1 hf1 s6
 have s0 := hS2.cell 0
 have s1 := hS2.cell 1
 have s7 := hS2.cell 7
 have k0 := hB2.cell 0
 have f0 := hB2.frozen 0
 go_upto_region 25 with fail
 have hB3 : Blk (w2.setCell ⟨w.heap.size, 0, none⟩ (.int .i64 3)) w.heap.size 62 #[.int .i64 3, .int .i64 0, .int .i64 0, .slice none 0 0, .slice none 0 0, .int .i64 4, .int .i64 txn, .bool yes, .string ff, .string tt, .int .i64 epoch, .int .i64 shard, .int .i64 target, .int .i64 root, .int .i64 G, .int .i64 D, .slice C xs.length cx, .int .i64 0, .int .i64 0, .slice none 0 0, .slice none 0 0] := hB2.set_ 0 _
 have hf23 : Fr (fun k => k = w.heap.size) w2 (w2.setCell ⟨w.heap.size, 0, none⟩ (.int .i64 3)) := (Fr.refl (fun k => k = w.heap.size) w2).setCell (p := ⟨w.heap.size, 0, none⟩) (fun _ => rfl) _
 have hf3 : Fr (fun _ => False) w (w2.setCell ⟨w.heap.size, 0, none⟩ (.int .i64 3)) := hf2.trans hf23 (fun k hk e => by omega)
 have hS3 := hS2.fr hf23 (hS2.ne_ hB2 (by decide))
 have hw01 : w1.heap.size ≠ w.heap.size := fun e => by have := hB0.lt; have := hww; omega
 have ho3 := own_fr ho2 hf23 (fun k hk e => by simp [Value.ownBlock] at hk; omega)
 generalize w2.setCell ⟨w.heap.size, 0, none⟩ (.int .i64 3) = w3 at *
 clear hB2 hS2 hf2 hg2 s0 s1 s7 k0 f0
 obtain ⟨A3, c3, ev, hr3⟩ := own_introw (l := [shard + 1]) ho3 rfl
 cases ev
 have HT : Calls Tryz.prog 64 #[.agg #[.int .i64 3, .int .i64 0, .int .i64 0, .slice none 0 0, .slice none 0 0, .int .i64 4, .int .i64 txn, .bool yes, .string ff, .string tt, .int .i64 epoch, .int .i64 shard, .int .i64 target, .int .i64 root, .int .i64 G, .int .i64 D, .slice C xs.length cx, .int .i64 0, .int .i64 0, .slice none 0 0, .slice none 0 0], .slice (some ⟨w1.heap.size, 0, none⟩) 1 1] w3 (TasksP w3 [shard + 1] (orderB 3 [] (sayB ⟨4, txn, yes, ff, tt, epoch, shard, target, root⟩) (certB G D xs))) := relay_tasks_ok (s := ⟨4, txn, yes, ff, tt, epoch, shard, target, root⟩) (cg := 1) (gs := [shard + 1]) hr3 (Nat.le_refl _) (by simp) (orderB_len (by simp) (by have := sayB_short ⟨4, txn, yes, ff, tt, epoch, shard, target, root⟩; rw [show wordB ⟨4, txn, yes, ff, tt, epoch, shard, target, root⟩ = _ from if_pos HOK.out] at this; exact this) (certB_len HXL.out)) (fun w' hf => order_cert (by omega) (by omega) ⟨by omega, by omega⟩ HOK.out (HC.out.fr (hf3.then_ hf) (fun _ _ => id)) (Nat.le_trans hbC (hf3.then_ hf).size) HXL.out HG.out)
 replace HT := Lib.hid HT
 go_wp2_with (first
  | (refine wpList_load_row rfl 62 _ rfl _ rfl _ _ (0, 0) _ hB3 Tryz.underlying62 rfl (by kernel_rfl) ?_)
  | (go_at_call 64; refine HT.out.mono ?_; rintro e w' ⟨tv, rfl, hv, hf'⟩))
 go_ret
 exact ⟨tv, rfl, hv.base_ hf3.size, hf3.then_ hf'⟩
set_option maxRecDepth 100000 in
set_option maxHeartbeats 800000 in
theorem ruled_own {w : World} {txn : Int} {yes : Bool} {ff tt : ByteArray} {epoch shard target root : Int} (h : OkSay ⟨7, txn, yes, ff, tt, epoch, shard, target, root⟩) {G D : Int} {bC : Nat} {C : Option Addr} {cx : Nat} {xs : List Int} (hC : IntRow w bC C xs) (hbC : bC ≤ w.heap.size) (hxl : xs.length ≤ 1024) (hg : getOk (num8 G ++ num8 D ++ numsB xs)) {bk sh : Value} :
  Calls Tryz.prog 44 #[bk, .agg #[.int .i64 0, .int .i64 0, .int .i64 0, .slice none 0 0, .slice none 0 0, .int .i64 7, .int .i64 txn, .bool yes, .string ff, .string tt, .int .i64 epoch, .int .i64 shard, .int .i64 target, .int .i64 root, .int .i64 G, .int .i64 D, .slice C xs.length cx, .int .i64 0, .int .i64 0, .slice none 0 0, .slice none 0 0], sh] w (TasksP w [shard + 1, target + 1] (orderB 5 [] (sayB ⟨7, txn, yes, ff, tt, epoch, shard, target, root⟩) (certB G D xs))) := by
 have HC := Lib.hid hC
 have HG := Lib.hid hg
 have HXL := Lib.hid hxl
 clear hC hg hxl
 have hsh : (0 ≤ shard ∧ shard ≤ 3) ∧ (0 ≤ target ∧ target ≤ 3) ∧ (0 ≤ txn ∧ txn ≤ 2147483647) := by
  obtain ⟨a0, a1, a2, a3, a4, a5, a6, a7, a8, a9, a10, a11, a12, a13⟩ := h
  dsimp only at a2 a3 a10 a11 a12 a13
  omega
 have hwr : wrap64 (shard + 1) = shard + 1 := by unfold wrap64; omega
 have HW := Lib.hid hwr
 have hwt : wrap64 (target + 1) = target + 1 := by unfold wrap64; omega
 have HWT := Lib.hid hwt
 clear hwr hwt
 have HOK := Lib.hid h
 clear h
 have hB0 := Blk.new w 62 #[.int .i64 0, .int .i64 0, .int .i64 0, .slice none 0 0, .slice none 0 0, .int .i64 7, .int .i64 txn, .bool yes, .string ff, .string tt, .int .i64 epoch, .int .i64 shard, .int .i64 target, .int .i64 root, .int .i64 G, .int .i64 D, .slice C xs.length cx, .int .i64 0, .int .i64 0, .slice none 0 0, .slice none 0 0]
 have hf0 : Fr (fun _ => False) w (w.alloc (Obj.cells #[.int .i64 0, .int .i64 0, .int .i64 0, .slice none 0 0, .slice none 0 0, .int .i64 7, .int .i64 txn, .bool yes, .string ff, .string tt, .int .i64 epoch, .int .i64 shard, .int .i64 target, .int .i64 root, .int .i64 G, .int .i64 D, .slice C xs.length cx, .int .i64 0, .int .i64 0, .slice none 0 0, .slice none 0 0] 62)) := (Fr.refl _ _).alloc _
 go_enter Tryz.func44, Tryz.ntmps44
 go_upto_region 1 with fail
 generalize w.alloc (Obj.cells #[.int .i64 0, .int .i64 0, .int .i64 0, .slice none 0 0, .slice none 0 0, .int .i64 7, .int .i64 txn, .bool yes, .string ff, .string tt, .int .i64 epoch, .int .i64 shard, .int .i64 target, .int .i64 root, .int .i64 G, .int .i64 D, .slice C xs.length cx, .int .i64 0, .int .i64 0, .slice none 0 0, .slice none 0 0] 62) = w0 at *
 have k5 := hB0.cell 5
 have k6 := hB0.cell 6
 have k7 := hB0.cell 7
 have k8 := hB0.cell 8
 have k9 := hB0.cell 9
 have k10 := hB0.cell 10
 have k11 := hB0.cell 11
 have k12 := hB0.cell 12
 have k13 := hB0.cell 13
 go_upto_region 2 with fail
 have hB1 := hB0.alloc (Obj.cells #[.int .i64 7, .int .i64 txn, .bool yes, .string ff, .string tt, .int .i64 epoch, .int .i64 shard, .int .i64 target, .int .i64 root] 23)
 have hS1 := Blk.new w0 23 #[.int .i64 7, .int .i64 txn, .bool yes, .string ff, .string tt, .int .i64 epoch, .int .i64 shard, .int .i64 target, .int .i64 root]
 have hww : w0.heap.size < (w0.alloc (Obj.cells #[.int .i64 7, .int .i64 txn, .bool yes, .string ff, .string tt, .int .i64 epoch, .int .i64 shard, .int .i64 target, .int .i64 root] 23)).heap.size := by simp
 have hf1 := hf0.alloc (Obj.cells #[.int .i64 7, .int .i64 txn, .bool yes, .string ff, .string tt, .int .i64 epoch, .int .i64 shard, .int .i64 target, .int .i64 root] 23)
 generalize w0.alloc (Obj.cells #[.int .i64 7, .int .i64 txn, .bool yes, .string ff, .string tt, .int .i64 epoch, .int .i64 shard, .int .i64 target, .int .i64 root] 23) = w1 at *
 have s6 := hS1.cell 6
 clear hf0 k5 k6 k7 k8 k9 k10 k11 k12 k13
 go_upto_region 3 with (go_at_call 79; refine (relay_group _ _).mono ?_; rintro e w' ⟨rfl, rfl⟩; rw [HW.out])
 have hB2 := hB1.alloc (Obj.cells #[.int .i64 (shard + 1)] 3)
 have hS2 := hS1.alloc (Obj.cells #[.int .i64 (shard + 1)] 3)
 have hg2 := group_at w1 (shard + 1)
 have ho2 := ownsRow_built1 w1 3 (.int .i64 (shard + 1))
 have hz2 : w1.heap.size < (w1.alloc (Obj.cells #[.int .i64 (shard + 1)] 3)).heap.size := by simp
 have hf2 := hf1.alloc (Obj.cells #[.int .i64 (shard + 1)] 3)
 generalize w1.alloc (Obj.cells #[.int .i64 (shard + 1)] 3) = w2 at *
 clear hB1 hS1 hf1 s6
 have s0 := hS2.cell 0
 have s1 := hS2.cell 1
 have s7 := hS2.cell 7
 have k0 := hB2.cell 0
 have f0 := hB2.frozen 0
 go_upto_region 24 with fail
 have hB3 : Blk (w2.setCell ⟨w.heap.size, 0, none⟩ (.int .i64 5)) w.heap.size 62 #[.int .i64 5, .int .i64 0, .int .i64 0, .slice none 0 0, .slice none 0 0, .int .i64 7, .int .i64 txn, .bool yes, .string ff, .string tt, .int .i64 epoch, .int .i64 shard, .int .i64 target, .int .i64 root, .int .i64 G, .int .i64 D, .slice C xs.length cx, .int .i64 0, .int .i64 0, .slice none 0 0, .slice none 0 0] := hB2.set_ 0 _
 have hf23 : Fr (fun k => k = w.heap.size) w2 (w2.setCell ⟨w.heap.size, 0, none⟩ (.int .i64 5)) := (Fr.refl (fun k => k = w.heap.size) w2).setCell (p := ⟨w.heap.size, 0, none⟩) (fun _ => rfl) _
 have hf3 : Fr (fun _ => False) w (w2.setCell ⟨w.heap.size, 0, none⟩ (.int .i64 5)) := hf2.trans hf23 (fun k hk e => by omega)
 have hS3 := hS2.fr hf23 (hS2.ne_ hB2 (by decide))
 have hw01 : w1.heap.size ≠ w.heap.size := fun e => by have := hB0.lt; have := hww; omega
 have ho3 := own_fr ho2 hf23 (fun k hk e => by simp [Value.ownBlock] at hk; omega)
 generalize w2.setCell ⟨w.heap.size, 0, none⟩ (.int .i64 5) = w3 at *
 clear hB2 hS2 hf2 hg2 s0 s1 s7 k0 f0
 have s7 := hS3.cell 7
 have hgo : w.heap.size < w1.heap.size := by have := hB0.lt; omega
 have ho3' : w3.ownsRow w1.heap.size 3 1 (.slice (some ⟨w1.heap.size, 0, none⟩) 1 1) 1 (num64V [shard + 1]) := ho3
 have hz3 : w1.heap.size ≤ w3.heap.size := Nat.le_trans (Nat.le_of_lt hz2) hf23.size
 clear hf23 hS3 ho2
 go_upto_region 25 with (first
  | (at_builtin; refine wpList_append1 _ rfl _ _ _ rfl w1.heap.size 3 (.int .i64 0) 8 Tryz.underlying30 int_info rfl (.slice (some ⟨w1.heap.size, 0, none⟩) 1 1) 1 (num64V [shard + 1]) rfl (ho3'.alloc _) w3.heap.size (.int .i64 (target + 1)) rfl ?_ rfl (by omega) (by omega) ?_ ?_; (· simp); (· simp; omega); intro g4 c4 w4 hown4 hf4)
  | (go_at_call 79; refine (relay_group _ _).mono ?_; rintro e w' ⟨rfl, rfl⟩; rw [HWT.out]))
 have hf34 : Fr (fun k => k = w1.heap.size) w3 w4 := ((Fr.refl (fun k => k = w1.heap.size) w3).alloc _).trans hf4 (fun k _ h => by simp [Value.ownBlock] at h; exact h.symm)
 have hB4 := hB3.fr hf34 (by omega)
 have hf04 : Fr (fun _ => False) w w4 := hf3.trans hf34 (fun k hk e => by omega)
 obtain ⟨A4, c4', ev, hr4⟩ := own_introw (l := [shard + 1, target + 1]) hown4 rfl
 cases ev
 have HT : Calls Tryz.prog 64 #[.agg #[.int .i64 5, .int .i64 0, .int .i64 0, .slice none 0 0, .slice none 0 0, .int .i64 7, .int .i64 txn, .bool yes, .string ff, .string tt, .int .i64 epoch, .int .i64 shard, .int .i64 target, .int .i64 root, .int .i64 G, .int .i64 D, .slice C xs.length cx, .int .i64 0, .int .i64 0, .slice none 0 0, .slice none 0 0], .slice (some ⟨g4, 0, none⟩) 2 c4] w4 (TasksP w4 [shard + 1, target + 1] (orderB 5 [] (sayB ⟨7, txn, yes, ff, tt, epoch, shard, target, root⟩) (certB G D xs))) := relay_tasks_ok (s := ⟨7, txn, yes, ff, tt, epoch, shard, target, root⟩) (cg := c4) (gs := [shard + 1, target + 1]) hr4 (Nat.le_refl _) (by simp) (orderB_len (by simp) (by have := sayB_short ⟨7, txn, yes, ff, tt, epoch, shard, target, root⟩; rw [show wordB ⟨7, txn, yes, ff, tt, epoch, shard, target, root⟩ = _ from if_pos HOK.out] at this; exact this) (certB_len HXL.out)) (fun w' hf => order_cert (by omega) (by omega) ⟨by omega, by omega⟩ HOK.out (HC.out.fr (hf04.then_ hf) (fun _ _ => id)) (Nat.le_trans hbC (hf04.then_ hf).size) HXL.out HG.out)
 replace HT := Lib.hid HT
 go_wp2_with (first
  | (refine wpList_load_row rfl 62 _ rfl _ rfl _ _ (0, 0) _ hB4 Tryz.underlying62 rfl (by kernel_rfl) ?_)
  | (go_at_call 64; refine HT.out.mono ?_; rintro e w' ⟨tv, rfl, hv, hf'⟩))
 go_ret
 exact ⟨tv, rfl, hv.base_ hf04.size, hf04.then_ hf'⟩
set_option maxRecDepth 100000 in
set_option maxHeartbeats 800000 in
theorem ruled_decide {w : World} {txn : Int} {yes : Bool} {ff tt : ByteArray} {epoch shard target root : Int} (h : OkSay ⟨3, txn, yes, ff, tt, epoch, shard, target, root⟩) {G D : Int} {bC : Nat} {C : Option Addr} {cx : Nat} {xs : List Int} (hC : IntRow w bC C xs) (hbC : bC ≤ w.heap.size) (hxl : xs.length ≤ 1024) (hg : getOk (num8 G ++ num8 D ++ numsB xs)) {bS : Nat} {SA : Option Addr} {sc : Nat} {ss : List Int} (hSS : IntRow w bS SA ss) (hbS : bS ≤ w.heap.size) (hsl : ss.length ≤ 1000) {bk : Value} :
  Calls Tryz.prog 44 #[bk, .agg #[.int .i64 0, .int .i64 0, .int .i64 0, .slice none 0 0, .slice none 0 0, .int .i64 3, .int .i64 txn, .bool yes, .string ff, .string tt, .int .i64 epoch, .int .i64 shard, .int .i64 target, .int .i64 root, .int .i64 G, .int .i64 D, .slice C xs.length cx, .int .i64 0, .int .i64 0, .slice none 0 0, .slice none 0 0], .slice SA ss.length sc] w (TasksP w (ss.map fun s => wrap64 (s + 1)) (orderB 2 [] (sayB ⟨3, txn, yes, ff, tt, epoch, shard, target, root⟩) (certB G D xs))) := by
 have HC := Lib.hid hC
 have HG := Lib.hid hg
 have HXL := Lib.hid hxl
 clear hC hg hxl
 have HSS := Lib.hid hSS
 clear hSS
 have hsh : (0 ≤ shard ∧ shard ≤ 3) ∧ (0 ≤ target ∧ target ≤ 3) ∧ (0 ≤ txn ∧ txn ≤ 2147483647) := by
  obtain ⟨a0, a1, a2, a3, a4, a5, a6, a7, a8, a9, a10, a11, a12, a13⟩ := h
  dsimp only at a2 a3 a10 a11 a12 a13
  omega
 have hwr : wrap64 (shard + 1) = shard + 1 := by unfold wrap64; omega
 have HW := Lib.hid hwr
 have hwt : wrap64 (target + 1) = target + 1 := by unfold wrap64; omega
 have HWT := Lib.hid hwt
 clear hwr hwt
 have HOK := Lib.hid h
 clear h
 have hB0 := Blk.new w 62 #[.int .i64 0, .int .i64 0, .int .i64 0, .slice none 0 0, .slice none 0 0, .int .i64 3, .int .i64 txn, .bool yes, .string ff, .string tt, .int .i64 epoch, .int .i64 shard, .int .i64 target, .int .i64 root, .int .i64 G, .int .i64 D, .slice C xs.length cx, .int .i64 0, .int .i64 0, .slice none 0 0, .slice none 0 0]
 have hf0 : Fr (fun _ => False) w (w.alloc (Obj.cells #[.int .i64 0, .int .i64 0, .int .i64 0, .slice none 0 0, .slice none 0 0, .int .i64 3, .int .i64 txn, .bool yes, .string ff, .string tt, .int .i64 epoch, .int .i64 shard, .int .i64 target, .int .i64 root, .int .i64 G, .int .i64 D, .slice C xs.length cx, .int .i64 0, .int .i64 0, .slice none 0 0, .slice none 0 0] 62)) := (Fr.refl _ _).alloc _
 go_enter Tryz.func44, Tryz.ntmps44
 go_upto_region 1 with fail
 generalize w.alloc (Obj.cells #[.int .i64 0, .int .i64 0, .int .i64 0, .slice none 0 0, .slice none 0 0, .int .i64 3, .int .i64 txn, .bool yes, .string ff, .string tt, .int .i64 epoch, .int .i64 shard, .int .i64 target, .int .i64 root, .int .i64 G, .int .i64 D, .slice C xs.length cx, .int .i64 0, .int .i64 0, .slice none 0 0, .slice none 0 0] 62) = w0 at *
 have k5 := hB0.cell 5
 have k6 := hB0.cell 6
 have k7 := hB0.cell 7
 have k8 := hB0.cell 8
 have k9 := hB0.cell 9
 have k10 := hB0.cell 10
 have k11 := hB0.cell 11
 have k12 := hB0.cell 12
 have k13 := hB0.cell 13
 go_upto_region 2 with fail
 have hB1 := hB0.alloc (Obj.cells #[.int .i64 3, .int .i64 txn, .bool yes, .string ff, .string tt, .int .i64 epoch, .int .i64 shard, .int .i64 target, .int .i64 root] 23)
 have hS1 := Blk.new w0 23 #[.int .i64 3, .int .i64 txn, .bool yes, .string ff, .string tt, .int .i64 epoch, .int .i64 shard, .int .i64 target, .int .i64 root]
 have hww : w0.heap.size < (w0.alloc (Obj.cells #[.int .i64 3, .int .i64 txn, .bool yes, .string ff, .string tt, .int .i64 epoch, .int .i64 shard, .int .i64 target, .int .i64 root] 23)).heap.size := by simp
 have hf1 := hf0.alloc (Obj.cells #[.int .i64 3, .int .i64 txn, .bool yes, .string ff, .string tt, .int .i64 epoch, .int .i64 shard, .int .i64 target, .int .i64 root] 23)
 generalize w0.alloc (Obj.cells #[.int .i64 3, .int .i64 txn, .bool yes, .string ff, .string tt, .int .i64 epoch, .int .i64 shard, .int .i64 target, .int .i64 root] 23) = w1 at *
 have s6 := hS1.cell 6
 clear hf0 k5 k6 k7 k8 k9 k10 k11 k12 k13
 go_upto_region 3 with (go_at_call 79; refine (relay_group _ _).mono ?_; rintro e w' ⟨rfl, rfl⟩; rw [HW.out])
 have hB2 := hB1.alloc (Obj.cells #[.int .i64 (shard + 1)] 3)
 have hS2 := hS1.alloc (Obj.cells #[.int .i64 (shard + 1)] 3)
 have hg2 := group_at w1 (shard + 1)
 have ho2 := ownsRow_built1 w1 3 (.int .i64 (shard + 1))
 have hz2 : w1.heap.size < (w1.alloc (Obj.cells #[.int .i64 (shard + 1)] 3)).heap.size := by simp
 have hf2 := hf1.alloc (Obj.cells #[.int .i64 (shard + 1)] 3)
 generalize w1.alloc (Obj.cells #[.int .i64 (shard + 1)] 3) = w2 at *
 clear hB1 hS1 hf1 s6
 have s0 := hS2.cell 0
 have s1 := hS2.cell 1
 have s7 := hS2.cell 7
 have k0 := hB2.cell 0
 have f0 := hB2.frozen 0
 go_upto_region 16 with fail
 have hB3 : Blk (w2.setCell ⟨w.heap.size, 0, none⟩ (.int .i64 2)) w.heap.size 62 #[.int .i64 2, .int .i64 0, .int .i64 0, .slice none 0 0, .slice none 0 0, .int .i64 3, .int .i64 txn, .bool yes, .string ff, .string tt, .int .i64 epoch, .int .i64 shard, .int .i64 target, .int .i64 root, .int .i64 G, .int .i64 D, .slice C xs.length cx, .int .i64 0, .int .i64 0, .slice none 0 0, .slice none 0 0] := hB2.set_ 0 _
 have hf23 : Fr (fun k => k = w.heap.size) w2 (w2.setCell ⟨w.heap.size, 0, none⟩ (.int .i64 2)) := (Fr.refl (fun k => k = w.heap.size) w2).setCell (p := ⟨w.heap.size, 0, none⟩) (fun _ => rfl) _
 have hf3 : Fr (fun _ => False) w (w2.setCell ⟨w.heap.size, 0, none⟩ (.int .i64 2)) := hf2.trans hf23 (fun k hk e => by omega)
 have hS3 := hS2.fr hf23 (hS2.ne_ hB2 (by decide))
 have hw01 : w1.heap.size ≠ w.heap.size := fun e => by have := hB0.lt; have := hww; omega
 have ho3 := own_fr ho2 hf23 (fun k hk e => by simp [Value.ownBlock] at hk; omega)
 generalize w2.setCell ⟨w.heap.size, 0, none⟩ (.int .i64 2) = w3 at *
 clear hB2 hS2 hf2 hg2 s0 s1 s7 k0 f0
 clear ho2 ho3 hS3 hf23
 go_loopw [8, 46] (fun lv i wr => ∃ k : Nat, k ≤ ss.length ∧ i = .int .i64 k ∧ wr.ownsRow w3.heap.size 3 1 lv k (num64V ((ss.map fun s => wrap64 (s + 1)).take k)) ∧ Fr (fun _ => False) w3 wr) (fun _ i _ => ss.length - (intOf i).toNat)
 case atStart => exact ⟨0, by omega, rfl, World.ownsRow_nil _ _ _ _, Fr.refl _ _⟩
 case round =>
  obtain ⟨k, hk, rfl, hown, hf⟩ := hrel
  by_cases hlt : k < ss.length
  ·obtain ⟨x, hx⟩ : ∃ x, ss[k]? = some x := ⟨ss[k], List.getElem?_eq_getElem hlt⟩
   obtain ⟨b, o, rfl, hb, hc⟩ := (HSS.out.fr (hf3.then_ hf) (fun _ _ => id)) k x hx
   have hlt' : (k : Int) < (ss.length : Int) := by omega
   have HX : Hid ((ss.map fun s => wrap64 (s + 1))[k]? = some (wrap64 (x + 1))) := by show _ = _; rw [List.getElem?_map, hx]; rfl
   have hlm : Hid ((ss.map fun s => wrap64 (s + 1)).length = ss.length) := by show _ = _; rw [List.length_map]
   obtain ⟨y, hy⟩ : ∃ y, Hid (wrap64 (x + 1) = y) := ⟨_, rfl⟩
   clear hx
   go_wp2_with (first
    | (at_builtin; refine wpList_append1 _ rfl _ _ _ rfl w3.heap.size 3 (.int .i64 0) 8 Tryz.underlying30 int_info rfl u8 k (num64V ((ss.map fun s => wrap64 (s + 1)).take k)) rfl (hown.alloc _) wr.heap.size (.int .i64 y) rfl ?_ rfl (by omega) (by omega) ?_ ?_; (· simp); (· have := hf.size; simp; omega); intro g4 c4 w4 hown4 hf4)
    | (go_at_call 79; refine (relay_group _ _).mono ?_; rintro e w' ⟨rfl, rfl⟩; rw [hy.out]))
   go_roundw
   case rel =>
    have hfb : Fr (fun k => u8.ownBlock = some k) wr w4 := ((Fr.refl (fun k => u8.ownBlock = some k) wr).alloc _).trans hf4 (fun _ _ h => h)
    have e1 : num64V ((ss.map fun s => wrap64 (s + 1)).take (k + 1)) = num64V ((ss.map fun s => wrap64 (s + 1)).take k) ++ [.int .i64 y] := by
     rw [take_mem HX.out, num64V, num64V, List.map_append, hy.out]
     rfl
    exact ⟨k + 1, by omega, by go_num, by rw [e1]; exact hown4, hf.own hown hfb (Nat.le_refl _)⟩
   case measure => simp [intOf]; omega
  ·obtain rfl : k = ss.length := by omega
   obtain ⟨gs, hgs⟩ : ∃ gs, Hid ((ss.map fun s => wrap64 (s + 1)) = gs) := ⟨_, rfl⟩
   have hgl : Hid (gs.length = ss.length) := by show _ = _; rw [← hgs.out, List.length_map]
   rw [hgs.out, List.take_of_length_le (by have := hgl.out; omega)] at hown
   obtain ⟨A4, c4, ev, hr4⟩ := own_introw (l := gs) hown hgl.out.symm
   subst ev
   have hB4 := hB3.fr hf id
   have hf04 := hf3.then_ hf
   clear hown hB3 hf3
   have HT : Calls Tryz.prog 64 #[.agg #[.int .i64 2, .int .i64 0, .int .i64 0, .slice none 0 0, .slice none 0 0, .int .i64 3, .int .i64 txn, .bool yes, .string ff, .string tt, .int .i64 epoch, .int .i64 shard, .int .i64 target, .int .i64 root, .int .i64 G, .int .i64 D, .slice C xs.length cx, .int .i64 0, .int .i64 0, .slice none 0 0, .slice none 0 0], .slice A4 gs.length c4] wr (TasksP wr gs (orderB 2 [] (sayB ⟨3, txn, yes, ff, tt, epoch, shard, target, root⟩) (certB G D xs))) := relay_tasks_ok (s := ⟨3, txn, yes, ff, tt, epoch, shard, target, root⟩) (cg := c4) (gs := gs) hr4 (Nat.le_refl _) (by have := hgl.out; omega) (orderB_len (by simp) (by have := sayB_short ⟨3, txn, yes, ff, tt, epoch, shard, target, root⟩; rw [show wordB ⟨3, txn, yes, ff, tt, epoch, shard, target, root⟩ = _ from if_pos HOK.out] at this; exact this) (certB_len HXL.out)) (fun w' hf => order_cert (by omega) (by omega) ⟨by omega, by omega⟩ HOK.out (HC.out.fr (hf04.then_ hf) (fun _ _ => id)) (Nat.le_trans hbC (hf04.then_ hf).size) HXL.out HG.out)
   replace HT := Lib.hid HT
   go_wp2_with (first
    | (refine wpList_load_row rfl 62 _ rfl _ rfl _ _ (0, 0) _ hB4 Tryz.underlying62 rfl (by kernel_rfl) ?_)
    | (go_at_call 64; refine HT.out.mono ?_; rintro e w' ⟨tv, rfl, hv, hf'⟩))
   go_ret
   rw [hgs.out]
   exact ⟨tv, rfl, hv.base_ hf04.size, hf04.then_ hf'⟩
end Go.Proofs.YtmkdhhhoodeemaaGreat
