/- RelayOrdersSaid: for every input the law returns true, and each argument reads behind the call as it read before. No condition. -/
import Derived.Test.YtmkdhhhoodeemaaGreatRoLProofGa
import Derived.Test.YtmkdhhhoodeemaaGreatRoLProofGb
import Derived.Test.YtmkdhhhoodeemaaGreatRoLProofGc
import Derived.Test.YtmkdhhhoodeemaaGreatRoLProofGd
import Derived.Test.YtmkdhhhoodeemaaGreatRoLProofGe
import Derived.Test.YtmkdhhhoodeemaaGreatRoLProofGf
import Derived.Test.YtmkdhhhoodeemaaGreatRoLProofJa
set_option linter.unusedVariables false
set_option linter.unusedSimpArgs false
set_option maxRecDepth 100000
set_option maxHeartbeats 16000000
namespace Go.Proofs.YtmkdhhhoodeemaaGreat
open Go Go.RowKit
theorem merkle_wrong (c : Int) (hc : (c == 0) = false) (w : World) : Calls Tryz.prog 114 #[.int .i64 c] w fun e w' => e = .returned (errV [((⟨#[109, 101, 114, 107, 108, 101]⟩ : ByteArray), 0)] c) ∧ w = w' := by
 have H := Lib.hid (fun w => fault_Of c hc w)
 clear hc
 go_enter Tryz.func114, Tryz.ntmps114
 go_wp2_with (first | (go_at_call 71; refine (H.out _).mono ?_; rintro e w' ⟨rfl, rfl⟩) | (go_at_call 70; refine (fault_Wrap _ _ _ _ _).mono ?_; rintro e w' ⟨rfl, rfl⟩))
 go_ret
 exact ⟨rfl, rfl⟩
def ProveP (w : World) (g m base : Nat) (v : Value) (L : List (List Int)) (l : List Ent) (Bs : List Int) (L' : List (List Int)) (e : Ending) (w' : World) : Prop :=
 ∃ LA lc BA bc v', e = .returned (.tuple #[.agg #[.int .i64 l.length, .int .i64 0, .slice LA l.length lc, .slice BA Bs.length bc], .nilIface]) ∧ EntRow w' (fun k => w.heap.size ≤ k) LA l ∧ IntF w' (fun k => w.heap.size ≤ k) BA Bs ∧ BookAt w' g m base v' L' ∧ Fr (fun k => k = g ∨ k = m ∨ v.ownBlock = some k) w w' ∧ ∀ k, v'.ownBlock = some k → v.ownBlock = some k ∨ w.heap.size ≤ k
def PrvMid (w2 : World) (n : Nat) (l : List Ent) (p : Value) (w' : World) : Prop :=
 ∃ b11 LA lc, p = .pointer (some ⟨b11, 0, none⟩) ∧ Blk w' b11 60 #[.int .i64 n, .int .i64 0, .slice LA n lc, .slice none 0 0] ∧ EntRow w' (fun k => w2.heap.size ≤ k) LA l ∧ Fr (fun _ => False) w2 w' ∧ w2.heap.size ≤ b11
theorem ents_of {w : World} {base g c n : Nat} {l : List Ent} {ys : List Value} (h : w.ownsRow base 119 3 (.slice (some ⟨g, 0, none⟩) (0 + n) c) (0 + n) ([] ++ ys)) (hy : entsV l = ys) (hn : l.length = n) : EntRow w (fun k => base ≤ k) (some ⟨g, 0, none⟩) l := by
 subst hy hn
 rw [Nat.zero_add, List.nil_append] at h
 obtain ⟨A, c', e, hE⟩ := own_ents h
 cases e
 exact hE
def ProveNo (w : World) (e : Ending) (w' : World) : Prop :=
 ∃ t u, e = .returned (.tuple #[.agg #[.int .i64 0, .int .i64 0, .slice none 0 0, .slice none 0 0], .iface t u]) ∧ Fr (fun _ => False) w w'
theorem prove_bad {w : World} {F : Nat → Prop} {A : Option Addr} {l : List Ent} {cap : Nat} (h : EntRow w F A l) (hll : l.length ≤ 1000000) (hno : risesE l = false) (bk : Value) :
  Calls Tryz.prog 84 #[bk, .slice A l.length cap, .int .i64 0, .int .i64 l.length] w (ProveNo w) := by
 obtain ⟨n, hn⟩ : ∃ n : Nat, l.length = n := ⟨_, rfl⟩
 have HR := Lib.hid (fun w' (hf : Fr (fun _ => False) w w') => merkle_right (cap := cap) (h.fr hf (fun _ _ => id)) hll)
 rw [hn, hno] at HR
 rw [hn]
 clear h hll hno hn
 have h5 : Blk ((((w.alloc (Obj.cells #[.slice A n cap] 31)).alloc (Obj.cells #[.int .i64 0] 3)).alloc (Obj.cells #[.int .i64 n] 3)).alloc (Obj.cells #[.int .i64 0, .int .i64 0, .slice none 0 0, .slice none 0 0] 60)) w.heap.size 31 #[.slice A n cap] := (((Blk.new w _ _).alloc _).alloc _).alloc _
 have h6 : Blk ((((w.alloc (Obj.cells #[.slice A n cap] 31)).alloc (Obj.cells #[.int .i64 0] 3)).alloc (Obj.cells #[.int .i64 n] 3)).alloc (Obj.cells #[.int .i64 0, .int .i64 0, .slice none 0 0, .slice none 0 0] 60)) (w.heap.size + 1) 3 #[.int .i64 0] := ((Blk.new_ _ _ _ (by simp)).alloc _).alloc _
 have h7 : Blk ((((w.alloc (Obj.cells #[.slice A n cap] 31)).alloc (Obj.cells #[.int .i64 0] 3)).alloc (Obj.cells #[.int .i64 n] 3)).alloc (Obj.cells #[.int .i64 0, .int .i64 0, .slice none 0 0, .slice none 0 0] 60)) (w.heap.size + 1 + 1) 3 #[.int .i64 n] := (Blk.new_ _ _ _ (by simp)).alloc _
 have h8 : Blk ((((w.alloc (Obj.cells #[.slice A n cap] 31)).alloc (Obj.cells #[.int .i64 0] 3)).alloc (Obj.cells #[.int .i64 n] 3)).alloc (Obj.cells #[.int .i64 0, .int .i64 0, .slice none 0 0, .slice none 0 0] 60)) (w.heap.size + 1 + 1 + 1) 60 #[.int .i64 0, .int .i64 0, .slice none 0 0, .slice none 0 0] := Blk.new_ _ _ _ (by simp)
 have hf0 : Fr (fun _ => False) w ((((w.alloc (Obj.cells #[.slice A n cap] 31)).alloc (Obj.cells #[.int .i64 0] 3)).alloc (Obj.cells #[.int .i64 n] 3)).alloc (Obj.cells #[.int .i64 0, .int .i64 0, .slice none 0 0, .slice none 0 0] 60)) := ((((Fr.refl _ _).alloc _).alloc _).alloc _).alloc _
 have hz0 : w.heap.size + 4 ≤ ((((w.alloc (Obj.cells #[.slice A n cap] 31)).alloc (Obj.cells #[.int .i64 0] 3)).alloc (Obj.cells #[.int .i64 n] 3)).alloc (Obj.cells #[.int .i64 0, .int .i64 0, .slice none 0 0, .slice none 0 0] 60)).heap.size := by simp
 go_enter Tryz.func84, Tryz.ntmps84
 go_upto_region 1 with fail
 generalize ((((w.alloc (Obj.cells #[.slice A n cap] 31)).alloc (Obj.cells #[.int .i64 0] 3)).alloc (Obj.cells #[.int .i64 n] 3)).alloc (Obj.cells #[.int .i64 0, .int .i64 0, .slice none 0 0, .slice none 0 0] 60)) = w0 at *
 have k5 := h5.cell 0
 have k6 := h6.cell 0
 have k7 := h7.cell 0
 obtain ⟨t, u, hu⟩ := errV_iface [((⟨#[109, 101, 114, 107, 108, 101]⟩ : ByteArray), 0)] 1
 have HW := fun w => merkle_wrong 1 rfl w
 rw [hu] at HW
 replace HW := Lib.hid HW
 clear hu
 go_upto_region 2 with (go_at_call 113; refine (HR.out _ hf0).mono ?_; rintro e w1 ⟨rfl, hf1⟩; have h8 := h8.fr hf1 id; have k6 := hf1.cell_some k6 id; have k7 := hf1.cell_some k7 id; have k5 := hf1.cell_some k5 id)
 have hf01 := hf0.then_ hf1
 clear k5 k6 k7 HR
 go_wp2_with (first
  | (go_at_call 114; refine (HW.out _).mono ?_; rintro e w' ⟨rfl, rfl⟩)
  | (refine wpList_store_row rfl 60 (.tmp 8) (.tmp 38) rfl (w.heap.size + 1 + 1 + 1) #[.int .i64 0, .int .i64 0, .slice none 0 0, .slice none 0 0] rfl rfl 60 _ h8 (by kernel_rfl) rfl (by simp [Value.oneCell']) ?_))
 have h9 := Blk.setRow_ (ds := #[.int .i64 0, .int .i64 0, .slice none 0 0, .slice none 0 0]) h8
 have hf9 : Fr (fun _ => False) w (w1.setRow (w.heap.size + 1 + 1 + 1) #[.int .i64 0, .int .i64 0, .slice none 0 0, .slice none 0 0]) := hf01.trans (Fr.setRow_ (w := w1) (g := w.heap.size + 1 + 1 + 1) (ds := #[.int .i64 0, .int .i64 0, .slice none 0 0, .slice none 0 0])) (fun k hk e => by omega)
 generalize w1.setRow (w.heap.size + 1 + 1 + 1) #[.int .i64 0, .int .i64 0, .slice none 0 0, .slice none 0 0] = wz at *
 refine bodyPost_ret (v := .tuple #[.agg #[.int .i64 0, .int .i64 0, .slice none 0 0, .slice none 0 0], .iface t u]) (results_row2 Tryz.results84 _ wz (w.heap.size + 1 + 1 + 1) 60 #[.int .i64 0, .int .i64 0, .slice none 0 0, .slice none 0 0] (0, 0) _ rfl h9 Tryz.underlying60 rfl (by kernel_rfl) rfl) rfl ?_
 exact ⟨t, u, rfl, hf9⟩
theorem prove_all {w : World} {g m base : Nat} {v : Value} {L : List (List Int)} (hb : BookAt w g m base v L) (hbase : base ≤ w.heap.size) (hL : L.length < 65536) {F : Nat → Prop} {A : Option Addr} {l : List Ent} {cap : Nat} (h : EntRow w F A l) (hll : l.length ≤ 60000) (hyes : risesE l = true) (hcap : l.length ≤ cap) (hne : 0 < l.length) :
  Calls Tryz.prog 84 #[.pointer (some ⟨g, 0, none⟩), .slice A l.length cap, .int .i64 0, .int .i64 l.length] w (ProveP w g m base v L l [] L) := by
 obtain ⟨b, o, rfl, _, _⟩ := h 0 l[0] (List.getElem?_eq_getElem hne)
 obtain ⟨A, hA⟩ : ∃ A, A = some (⟨b, o, none⟩ : Addr) := ⟨_, rfl⟩
 have HRow := Lib.hid h
 rw [← hA] at h ⊢
 replace hA := Lib.hid hA
 obtain ⟨n, hn⟩ : ∃ n : Nat, l.length = n := ⟨_, rfl⟩
 have HR := Lib.hid (fun w' (hf : Fr (fun _ => False) w w') => merkle_right (cap := cap) (h.fr hf (fun _ _ => id)) (by omega))
 rw [hn, hyes] at HR
 rw [hn] at hll hcap ⊢
 rw [hn] at hne
 have hne0 : ¬ n = 0 := by omega
 have HN := Lib.hid hn
 clear h hyes hn
 have h5 : Blk ((((w.alloc (Obj.cells #[.slice A n cap] 31)).alloc (Obj.cells #[.int .i64 0] 3)).alloc (Obj.cells #[.int .i64 n] 3)).alloc (Obj.cells #[.int .i64 0, .int .i64 0, .slice none 0 0, .slice none 0 0] 60)) w.heap.size 31 #[.slice A n cap] := (((Blk.new w _ _).alloc _).alloc _).alloc _
 have h6 : Blk ((((w.alloc (Obj.cells #[.slice A n cap] 31)).alloc (Obj.cells #[.int .i64 0] 3)).alloc (Obj.cells #[.int .i64 n] 3)).alloc (Obj.cells #[.int .i64 0, .int .i64 0, .slice none 0 0, .slice none 0 0] 60)) (w.heap.size + 1) 3 #[.int .i64 0] := ((Blk.new_ _ _ _ (by simp)).alloc _).alloc _
 have h7 : Blk ((((w.alloc (Obj.cells #[.slice A n cap] 31)).alloc (Obj.cells #[.int .i64 0] 3)).alloc (Obj.cells #[.int .i64 n] 3)).alloc (Obj.cells #[.int .i64 0, .int .i64 0, .slice none 0 0, .slice none 0 0] 60)) (w.heap.size + 1 + 1) 3 #[.int .i64 n] := (Blk.new_ _ _ _ (by simp)).alloc _
 have h8 : Blk ((((w.alloc (Obj.cells #[.slice A n cap] 31)).alloc (Obj.cells #[.int .i64 0] 3)).alloc (Obj.cells #[.int .i64 n] 3)).alloc (Obj.cells #[.int .i64 0, .int .i64 0, .slice none 0 0, .slice none 0 0] 60)) (w.heap.size + 1 + 1 + 1) 60 #[.int .i64 0, .int .i64 0, .slice none 0 0, .slice none 0 0] := Blk.new_ _ _ _ (by simp)
 have hf0 : Fr (fun _ => False) w ((((w.alloc (Obj.cells #[.slice A n cap] 31)).alloc (Obj.cells #[.int .i64 0] 3)).alloc (Obj.cells #[.int .i64 n] 3)).alloc (Obj.cells #[.int .i64 0, .int .i64 0, .slice none 0 0, .slice none 0 0] 60)) := ((((Fr.refl _ _).alloc _).alloc _).alloc _).alloc _
 have hz0 : w.heap.size + 4 ≤ ((((w.alloc (Obj.cells #[.slice A n cap] 31)).alloc (Obj.cells #[.int .i64 0] 3)).alloc (Obj.cells #[.int .i64 n] 3)).alloc (Obj.cells #[.int .i64 0, .int .i64 0, .slice none 0 0, .slice none 0 0] 60)).heap.size := by simp
 go_enter Tryz.func84, Tryz.ntmps84
 go_upto_region 1 with fail
 generalize ((((w.alloc (Obj.cells #[.slice A n cap] 31)).alloc (Obj.cells #[.int .i64 0] 3)).alloc (Obj.cells #[.int .i64 n] 3)).alloc (Obj.cells #[.int .i64 0, .int .i64 0, .slice none 0 0, .slice none 0 0] 60)) = w0 at *
 have k5 := h5.cell 0
 have k6 := h6.cell 0
 have k7 := h7.cell 0
 have hb0 := hb.keep hf0
 have hw0 : IntKind.i64.wrap 0 = 0 := by decide
 go_upto_region 3 with (go_at_call 113; refine (HR.out _ hf0).mono ?_; rintro e w1 ⟨rfl, hf1⟩; have k6 := hf1.cell_some k6 id; have k7 := hf1.cell_some k7 id; have k5 := hf1.cell_some k5 id)
 have h5 := h5.fr hf1 id
 have h6 := h6.fr hf1 id
 have h7 := h7.fr hf1 id
 have h8 := h8.fr hf1 id
 have hf01 := hf0.then_ hf1
 go_upto_region 4 with fail
 have ht : Blk ((w1.alloc (Obj.cells #[.pointer (some ⟨g, 0, none⟩), .nilIface] 208)).alloc (Obj.cells #[.pointer (some ⟨w1.heap.size, 0, none⟩)] 206)) w1.heap.size 208 #[.pointer (some ⟨g, 0, none⟩), .nilIface] := (Blk.new w1 _ _).alloc _
 have h10 : Blk ((w1.alloc (Obj.cells #[.pointer (some ⟨g, 0, none⟩), .nilIface] 208)).alloc (Obj.cells #[.pointer (some ⟨w1.heap.size, 0, none⟩)] 206)) (w1.heap.size + 1) 206 #[.pointer (some ⟨w1.heap.size, 0, none⟩)] := Blk.new_ _ _ _ (by simp)
 have hfT : Fr (fun _ => False) w1 ((w1.alloc (Obj.cells #[.pointer (some ⟨g, 0, none⟩), .nilIface] 208)).alloc (Obj.cells #[.pointer (some ⟨w1.heap.size, 0, none⟩)] 206)) := ((Fr.refl _ _).alloc _).alloc _
 have h5 := h5.fr hfT id
 have h6 := h6.fr hfT id
 have h7 := h7.fr hfT id
 have h8 := h8.fr hfT id
 have hf02 := hf01.then_ hfT
 have hz1w := hf01.size
 generalize (w1.alloc (Obj.cells #[.pointer (some ⟨g, 0, none⟩), .nilIface] 208)).alloc (Obj.cells #[.pointer (some ⟨w1.heap.size, 0, none⟩)] 206) = w2 at *
 clear hf01 hf1 hfT k5 k6 k7
 obtain ⟨gt, hgt⟩ : ∃ x, w1.heap.size = x := ⟨_, rfl⟩
 rw [hgt] at ht h10 hz1w ⊢
 have hgtw := Lib.hid hz1w
 clear hgt hz1w
 have k5 := h5.cell 0
 have k6 := h6.cell 0
 have k7 := h7.cell 0
 have hb2 := hb.keep hf02
 have hle0 := hf02.size
 have h8lt : Hid (w.heap.size + 1 + 1 + 1 < w2.heap.size) := h8.lt
 go_cut [11] from 43 to 54 (fun p wx => PrvMid w2 n l p wx)
 case first =>
  obtain ⟨i, hi, hz, hsz, hby⟩ := ent_info
  have hR2 : EntRow w2 F (some ⟨b, o, none⟩) l := HRow.out.fr hf02 (fun _ _ => id)
  have hnE := entRow_news (hR2.fr ((Fr.refl (fun _ => False) w2).alloc (Obj.cells #[] 119)).drew (fun _ _ => id))
  have hnPE := entRow_news (hR2.fr (((Fr.refl (fun _ => False) w2).alloc (Obj.cells #[.int .i64 0, .int .i64 0, .slice none 0 0, .slice none 0 0] 60)).alloc (Obj.cells #[] 119)).drew (fun _ _ => id))
  have hnEP := entRow_news (hR2.fr (((Fr.refl (fun _ => False) w2).alloc (Obj.cells #[] 119)).alloc (Obj.cells #[.int .i64 0, .int .i64 0, .slice none 0 0, .slice none 0 0] 60)).drew (fun _ _ => id))
  have hlen : (entsV l).length = l.length * 3 := entsV_len _
  have h1 := entsV_one l
  obtain ⟨ys, hys⟩ : ∃ ys, entsV l = ys := ⟨_, rfl⟩
  rw [hys] at hnE hnPE hnEP hlen h1
  have HYS := Lib.hid hys
  rw [HN.out] at hlen
  have ownE : ((w2.alloc (Obj.cells #[] 119)).drew).ownsRow w2.heap.size 119 3 (.slice (some ⟨w2.heap.size, 0, none⟩) 0 0) 0 [] := own_fr (ownsRow_built w2 _ _ (Nat.le_refl _)) ((Fr.refl (fun _ => False) _).drew) (fun _ _ => id)
  have ownPE : (((w2.alloc (Obj.cells #[.int .i64 0, .int .i64 0, .slice none 0 0, .slice none 0 0] 60)).alloc (Obj.cells #[] 119)).drew).ownsRow w2.heap.size 119 3 (.slice (some ⟨w2.heap.size + 1, 0, none⟩) 0 0) 0 [] := by
   have := ownsRow_built (w2.alloc (Obj.cells #[.int .i64 0, .int .i64 0, .slice none 0 0, .slice none 0 0] 60)) (base := w2.heap.size) 119 3 (by simp)
   rw [show (w2.alloc (Obj.cells #[.int .i64 0, .int .i64 0, .slice none 0 0, .slice none 0 0] 60)).heap.size = w2.heap.size + 1 by simp] at this
   exact own_fr this ((Fr.refl (fun _ => False) _).drew) (fun _ _ => id)
  have ownEP : (((w2.alloc (Obj.cells #[] 119)).alloc (Obj.cells #[.int .i64 0, .int .i64 0, .slice none 0 0, .slice none 0 0] 60)).drew).ownsRow w2.heap.size 119 3 (.slice (some ⟨w2.heap.size, 0, none⟩) 0 0) 0 [] := own_fr (ownsRow_built w2 _ _ (Nat.le_refl _)) (((Fr.refl (fun _ => False) _).alloc _).drew) (fun _ _ => id)
  have hPE : Blk (((w2.alloc (Obj.cells #[.int .i64 0, .int .i64 0, .slice none 0 0, .slice none 0 0] 60)).alloc (Obj.cells #[] 119)).drew) w2.heap.size 60 #[.int .i64 0, .int .i64 0, .slice none 0 0, .slice none 0 0] := ((Blk.new w2 _ _).alloc _).drew
  have hEP : Blk (((w2.alloc (Obj.cells #[] 119)).alloc (Obj.cells #[.int .i64 0, .int .i64 0, .slice none 0 0, .slice none 0 0] 60)).drew) (w2.heap.size + 1) 60 #[.int .i64 0, .int .i64 0, .slice none 0 0, .slice none 0 0] := (Blk.new_ _ _ _ (by simp)).drew
  have k5E := (h5.alloc (Obj.cells #[] 119)).cell 0
  have k5P := (h5.alloc (Obj.cells #[.int .i64 0, .int .i64 0, .slice none 0 0, .slice none 0 0] 60)).cell 0
  have k5PE := ((h5.alloc (Obj.cells #[.int .i64 0, .int .i64 0, .slice none 0 0, .slice none 0 0] 60)).alloc (Obj.cells #[] 119)).cell 0
  have k5EP := ((h5.alloc (Obj.cells #[] 119)).alloc (Obj.cells #[.int .i64 0, .int .i64 0, .slice none 0 0, .slice none 0 0] 60)).cell 0
  have k6E := (h6.alloc (Obj.cells #[] 119)).cell 0
  have k6P := (h6.alloc (Obj.cells #[.int .i64 0, .int .i64 0, .slice none 0 0, .slice none 0 0] 60)).cell 0
  have k6PE := ((h6.alloc (Obj.cells #[.int .i64 0, .int .i64 0, .slice none 0 0, .slice none 0 0] 60)).alloc (Obj.cells #[] 119)).cell 0
  have k6EP := ((h6.alloc (Obj.cells #[] 119)).alloc (Obj.cells #[.int .i64 0, .int .i64 0, .slice none 0 0, .slice none 0 0] 60)).cell 0
  have k7E := (h7.alloc (Obj.cells #[] 119)).cell 0
  have k7P := (h7.alloc (Obj.cells #[.int .i64 0, .int .i64 0, .slice none 0 0, .slice none 0 0] 60)).cell 0
  have k7PE := ((h7.alloc (Obj.cells #[.int .i64 0, .int .i64 0, .slice none 0 0, .slice none 0 0] 60)).alloc (Obj.cells #[] 119)).cell 0
  have k7EP := ((h7.alloc (Obj.cells #[] 119)).alloc (Obj.cells #[.int .i64 0, .int .i64 0, .slice none 0 0, .slice none 0 0] 60)).cell 0
  clear hys
  have hwn : IntKind.i64.wrap (n : Int) = n := by unfold IntKind.wrap; simp [IntKind.bits, IntKind.signed]; omega
  have hcap' : (n : Int) ≤ (cap : Int) := by omega
  have hn00 : (0 : Int) ≤ (n : Int) := by omega
  refine wp_region_noPanic ?_
  refine wp_region_held_drew (S := fun w' => w'.cell? ⟨w.heap.size, 0, none⟩ = some (.slice A n cap) ∧ w'.cell? ⟨w.heap.size + 1, 0, none⟩ = some (.int .i64 0) ∧ w'.cell? ⟨w.heap.size + 1 + 1, 0, none⟩ = some (.int .i64 n)) (by kernel_rfl) (⟨k5, k6, k7⟩) (fun hHeld => ?_)
  refine tk 0 43 ?_
  refine tk 1 44 ?_
  refine tk 2 45 ?_
  refine tk 4 47 ?_
  refine tk 5 48 ?_
  refine tk 6 49 ?_
  refine tk 7 50 ?_
  refine tk 8 51 ?_
  refine tk 9 52 ?_
  refine wpAnyH_ready (rs := [3, 12]) (by kernel_rfl) (by simp) ?_
  refine AllReadyH.cons rfl (fun K hK => ?_) (AllReadyH.cons rfl (fun K hK => ?_) AllReadyH.nil)
  ·skip
   go_simp
   refine hK.out _ _ (⟨(((h5).alloc (Obj.cells #[] 119)).drew).cell 0, (((h6).alloc (Obj.cells #[] 119)).drew).cell 0, (((h7).alloc (Obj.cells #[] 119)).drew).cell 0⟩) (fun hHeld => ?_)
   clear hK K
   refine wpAnyH_ready (rs := [10, 12]) (by kernel_rfl) (by simp) ?_
   refine AllReadyH.cons rfl (fun K hK => ?_) (AllReadyH.cons rfl (fun K hK => ?_) AllReadyH.nil)
   ·skip
    refine step_append_lies ((w2.alloc (Obj.cells #[] 119)).drew) rfl (.tmp 46) (.tmp 52) 31 rfl w2.heap.size 119 i _ 3 40 Tryz.underlying31 hi hz hsz hby rfl (by decide) (.slice (some ⟨w2.heap.size, 0, none⟩) 0 0) 0 [] (by rfl) ownE ⟨b, o, none⟩ n cap ys (congrArg (fun A => Value.slice A n cap) hA.out) hlen hnE h1 hne (by simp only [maxLen]; omega) (by omega) (by first | (simp; done) | (simp; omega)) _ rfl ?_
    intro g2 c2 w4 hown4 hg4 hk4 hl4
    have hf24 : Fr (fun _ => False) w2 w4 := Fr.grown (w := (w2.alloc (Obj.cells #[] 119)).drew) (((Fr.refl _ w2).alloc _).drew) hg4 (fun k hk e => by simp [Value.ownBlock] at e; omega)
    have h54 := h5.fr hf24 id
    have h64 := h6.fr hf24 id
    have h74 := h7.fr hf24 id
    simp only [Act.put, List.setIfInBounds_toArray, List.set_cons_zero, List.set_cons_succ]
    refine hK.out _ _ (⟨(h54).cell 0, (h64).cell 0, (h74).cell 0⟩) (fun hHeld => ?_)
    clear hK K
    refine tk 11 54 ?_
    refine rd 12 (fun K hK => ?_)
    go_simp
    refine hK.out _ _ (⟨(h54.alloc (Obj.cells #[.int .i64 0, .int .i64 0, .slice none 0 0, .slice none 0 0] 60)).cell 0, (h64.alloc (Obj.cells #[.int .i64 0, .int .i64 0, .slice none 0 0, .slice none 0 0] 60)).cell 0, (h74.alloc (Obj.cells #[.int .i64 0, .int .i64 0, .slice none 0 0, .slice none 0 0] 60)).cell 0⟩) (fun hHeld => ?_)
    clear hK K
    have hP5 := Blk.new w4 60 #[.int .i64 0, .int .i64 0, .slice none 0 0, .slice none 0 0]
    have hf45 : Fr (fun _ => False) w4 (w4.alloc (Obj.cells #[.int .i64 0, .int .i64 0, .slice none 0 0, .slice none 0 0] 60)) := (Fr.refl _ _).alloc _
    have h55 := h54.alloc (Obj.cells #[.int .i64 0, .int .i64 0, .slice none 0 0, .slice none 0 0] 60)
    have h65 := h64.alloc (Obj.cells #[.int .i64 0, .int .i64 0, .slice none 0 0, .slice none 0 0] 60)
    have h75 := h74.alloc (Obj.cells #[.int .i64 0, .int .i64 0, .slice none 0 0, .slice none 0 0] 60)
    generalize w4.alloc (Obj.cells #[.int .i64 0, .int .i64 0, .slice none 0 0, .slice none 0 0] 60) = w5 at *
    have p0 := hP5.cell 0
    have f0 := hP5.frozen 0
    have p1 := hP5.cell 1
    have f1 := hP5.frozen 1
    have p2 := hP5.cell 2
    have f2 := hP5.frozen 2
    have p3 := hP5.cell 3
    have f3 := hP5.frozen 3
    refine rd 13 (fun K hK => ?_)
    go_simp
    have hf56 : Fr (fun k => k = w4.heap.size) w5 ((((w5.setCell ⟨w4.heap.size, 0, none⟩ (.int .i64 n)).setCell ⟨w4.heap.size, 1, none⟩ (.int .i64 0)).setCell ⟨w4.heap.size, 2, none⟩ (.slice (some ⟨g2, 0, none⟩) n c2)).setCell ⟨w4.heap.size, 3, none⟩ (.slice none 0 0)) := ((((Fr.refl (fun k => k = w4.heap.size) w5).setCell (p := ⟨w4.heap.size, 0, none⟩) (fun _ => rfl) (.int .i64 n)).setCell (p := ⟨w4.heap.size, 1, none⟩) (fun _ => rfl) (.int .i64 0)).setCell (p := ⟨w4.heap.size, 2, none⟩) (fun _ => rfl) (.slice (some ⟨g2, 0, none⟩) n c2)).setCell (p := ⟨w4.heap.size, 3, none⟩) (fun _ => rfl) (.slice none 0 0)
    have hP6 := ((((hP5.set_ 0 (.int .i64 n)).set_ 1 (.int .i64 0)).set_ 2 (.slice (some ⟨g2, 0, none⟩) n c2)).set_ 3 (.slice none 0 0))
    have h56 := h55.fr hf56 (h55.ne_ hP5 (by decide))
    have h66 := h65.fr hf56 (h65.ne_ hP5 (by decide))
    have h76 := h75.fr hf56 (h75.ne_ hP5 (by decide))
    refine hK.out _ _ (⟨h56.cell 0, h66.cell 0, h76.cell 0⟩) (fun hHeld => ?_)
    clear hK K
    refine wpAnyH_done (by kernel_rfl) ?_ _
    refine NoPanic.normal ?_
    go_wp2_with fail
    go_meet
    have hown5 := own_fr hown4 hf45 (fun _ _ => id)
    have hown6 := own_fr hown5 hf56 (fun k hk e => own_ne_blk hown5 hP5 (by decide) (e ▸ hk))
    have hEnt := ents_of hown6 HYS.out HN.out
    have hf26 := (hf24.then_ hf45).trans hf56 (fun k hk e => by have := hf24.size; have := hf45.size; omega)
    exact ⟨_, some ⟨g2, 0, none⟩, c2, rfl, hP6, hEnt, hf26, by have := hf24.size; omega⟩
   ·skip
    go_simp
    refine hK.out _ _ (⟨((((h5).alloc (Obj.cells #[] 119)).alloc (Obj.cells #[.int .i64 0, .int .i64 0, .slice none 0 0, .slice none 0 0] 60)).drew).cell 0, ((((h6).alloc (Obj.cells #[] 119)).alloc (Obj.cells #[.int .i64 0, .int .i64 0, .slice none 0 0, .slice none 0 0] 60)).drew).cell 0, ((((h7).alloc (Obj.cells #[] 119)).alloc (Obj.cells #[.int .i64 0, .int .i64 0, .slice none 0 0, .slice none 0 0] 60)).drew).cell 0⟩) (fun hHeld => ?_)
    clear hK K
    refine rd 10 (fun K hK => ?_)
    refine step_append_lies (((w2.alloc (Obj.cells #[] 119)).alloc (Obj.cells #[.int .i64 0, .int .i64 0, .slice none 0 0, .slice none 0 0] 60)).drew) rfl (.tmp 46) (.tmp 52) 31 rfl w2.heap.size 119 i _ 3 40 Tryz.underlying31 hi hz hsz hby rfl (by decide) (.slice (some ⟨w2.heap.size, 0, none⟩) 0 0) 0 [] (by rfl) ownEP ⟨b, o, none⟩ n cap ys (congrArg (fun A => Value.slice A n cap) hA.out) hlen hnEP h1 hne (by simp only [maxLen]; omega) (by omega) (by first | (simp; done) | (simp; omega)) _ rfl ?_
    intro g2 c2 w4 hown4 hg4 hk4 hl4
    have hf24 : Fr (fun _ => False) w2 w4 := Fr.grown (w := ((w2.alloc (Obj.cells #[] 119)).alloc (Obj.cells #[.int .i64 0, .int .i64 0, .slice none 0 0, .slice none 0 0] 60)).drew) ((((Fr.refl _ w2).alloc _).alloc _).drew) hg4 (fun k hk e => by simp [Value.ownBlock] at e; omega)
    have h54 := h5.fr hf24 id
    have h64 := h6.fr hf24 id
    have h74 := h7.fr hf24 id
    have hP4 : Blk w4 (w2.heap.size + 1) 60 #[.int .i64 0, .int .i64 0, .slice none 0 0, .slice none 0 0] := Blk.grown_own (hEP) ownEP hg4 (by decide)
    simp only [Act.put, List.setIfInBounds_toArray, List.set_cons_zero, List.set_cons_succ]
    refine hK.out _ _ (⟨(h54).cell 0, (h64).cell 0, (h74).cell 0⟩) (fun hHeld => ?_)
    clear hK K
    refine tk 11 54 ?_
    have hP5 := hP4
    obtain ⟨w5, hw5⟩ : ∃ x, w4 = x := ⟨_, rfl⟩
    have hf45 : Fr (fun _ => False) w4 w5 := hw5 ▸ Fr.refl _ _
    rw [hw5] at hP5
    have h55 := h54
    rw [hw5] at h55
    have h65 := h64
    rw [hw5] at h65
    have h75 := h74
    rw [hw5] at h75
    rw [hw5]
    clear hw5
    have p0 := hP5.cell 0
    have f0 := hP5.frozen 0
    have p1 := hP5.cell 1
    have f1 := hP5.frozen 1
    have p2 := hP5.cell 2
    have f2 := hP5.frozen 2
    have p3 := hP5.cell 3
    have f3 := hP5.frozen 3
    refine rd 13 (fun K hK => ?_)
    go_simp
    have hf56 : Fr (fun k => k = (w2.heap.size + 1)) w5 ((((w5.setCell ⟨(w2.heap.size + 1), 0, none⟩ (.int .i64 n)).setCell ⟨(w2.heap.size + 1), 1, none⟩ (.int .i64 0)).setCell ⟨(w2.heap.size + 1), 2, none⟩ (.slice (some ⟨g2, 0, none⟩) n c2)).setCell ⟨(w2.heap.size + 1), 3, none⟩ (.slice none 0 0)) := ((((Fr.refl (fun k => k = (w2.heap.size + 1)) w5).setCell (p := ⟨(w2.heap.size + 1), 0, none⟩) (fun _ => rfl) (.int .i64 n)).setCell (p := ⟨(w2.heap.size + 1), 1, none⟩) (fun _ => rfl) (.int .i64 0)).setCell (p := ⟨(w2.heap.size + 1), 2, none⟩) (fun _ => rfl) (.slice (some ⟨g2, 0, none⟩) n c2)).setCell (p := ⟨(w2.heap.size + 1), 3, none⟩) (fun _ => rfl) (.slice none 0 0)
    have hP6 := ((((hP5.set_ 0 (.int .i64 n)).set_ 1 (.int .i64 0)).set_ 2 (.slice (some ⟨g2, 0, none⟩) n c2)).set_ 3 (.slice none 0 0))
    have h56 := h55.fr hf56 (h55.ne_ hP5 (by decide))
    have h66 := h65.fr hf56 (h65.ne_ hP5 (by decide))
    have h76 := h75.fr hf56 (h75.ne_ hP5 (by decide))
    refine hK.out _ _ (⟨h56.cell 0, h66.cell 0, h76.cell 0⟩) (fun hHeld => ?_)
    clear hK K
    refine wpAnyH_done (by kernel_rfl) ?_ _
    refine NoPanic.normal ?_
    go_wp2_with fail
    go_meet
    have hown5 := own_fr hown4 hf45 (fun _ _ => id)
    have hown6 := own_fr hown5 hf56 (fun k hk e => own_ne_blk hown5 hP5 (by decide) (e ▸ hk))
    have hEnt := ents_of hown6 HYS.out HN.out
    have hf26 := (hf24.then_ hf45).trans hf56 (fun k hk e => by have := hf24.size; have := hf45.size; omega)
    exact ⟨_, some ⟨g2, 0, none⟩, c2, rfl, hP6, hEnt, hf26, by have := hf24.size; omega⟩
  ·skip
   go_simp
   refine hK.out _ _ (⟨(((h5).alloc (Obj.cells #[.int .i64 0, .int .i64 0, .slice none 0 0, .slice none 0 0] 60)).drew).cell 0, (((h6).alloc (Obj.cells #[.int .i64 0, .int .i64 0, .slice none 0 0, .slice none 0 0] 60)).drew).cell 0, (((h7).alloc (Obj.cells #[.int .i64 0, .int .i64 0, .slice none 0 0, .slice none 0 0] 60)).drew).cell 0⟩) (fun hHeld => ?_)
   clear hK K
   refine rd 3 (fun K hK => ?_)
   go_simp
   refine hK.out _ _ (⟨((((h5).alloc (Obj.cells #[.int .i64 0, .int .i64 0, .slice none 0 0, .slice none 0 0] 60)).alloc (Obj.cells #[] 119)).drew).cell 0, ((((h6).alloc (Obj.cells #[.int .i64 0, .int .i64 0, .slice none 0 0, .slice none 0 0] 60)).alloc (Obj.cells #[] 119)).drew).cell 0, ((((h7).alloc (Obj.cells #[.int .i64 0, .int .i64 0, .slice none 0 0, .slice none 0 0] 60)).alloc (Obj.cells #[] 119)).drew).cell 0⟩) (fun hHeld => ?_)
   clear hK K
   refine rd 10 (fun K hK => ?_)
   refine step_append_lies (((w2.alloc (Obj.cells #[.int .i64 0, .int .i64 0, .slice none 0 0, .slice none 0 0] 60)).alloc (Obj.cells #[] 119)).drew) rfl (.tmp 46) (.tmp 52) 31 rfl w2.heap.size 119 i _ 3 40 Tryz.underlying31 hi hz hsz hby rfl (by decide) (.slice (some ⟨(w2.heap.size + 1), 0, none⟩) 0 0) 0 [] (by rfl) ownPE ⟨b, o, none⟩ n cap ys (congrArg (fun A => Value.slice A n cap) hA.out) hlen hnPE h1 hne (by simp only [maxLen]; omega) (by omega) (by first | (simp; done) | (simp; omega)) _ rfl ?_
   intro g2 c2 w4 hown4 hg4 hk4 hl4
   have hf24 : Fr (fun _ => False) w2 w4 := Fr.grown (w := ((w2.alloc (Obj.cells #[.int .i64 0, .int .i64 0, .slice none 0 0, .slice none 0 0] 60)).alloc (Obj.cells #[] 119)).drew) ((((Fr.refl _ w2).alloc _).alloc _).drew) hg4 (fun k hk e => by simp [Value.ownBlock] at e; omega)
   have h54 := h5.fr hf24 id
   have h64 := h6.fr hf24 id
   have h74 := h7.fr hf24 id
   have hP4 : Blk w4 w2.heap.size 60 #[.int .i64 0, .int .i64 0, .slice none 0 0, .slice none 0 0] := Blk.grown_own (hPE) ownPE hg4 (by decide)
   simp only [Act.put, List.setIfInBounds_toArray, List.set_cons_zero, List.set_cons_succ]
   refine hK.out _ _ (⟨(h54).cell 0, (h64).cell 0, (h74).cell 0⟩) (fun hHeld => ?_)
   clear hK K
   refine tk 11 54 ?_
   have hP5 := hP4
   obtain ⟨w5, hw5⟩ : ∃ x, w4 = x := ⟨_, rfl⟩
   have hf45 : Fr (fun _ => False) w4 w5 := hw5 ▸ Fr.refl _ _
   rw [hw5] at hP5
   have h55 := h54
   rw [hw5] at h55
   have h65 := h64
   rw [hw5] at h65
   have h75 := h74
   rw [hw5] at h75
   rw [hw5]
   clear hw5
   have p0 := hP5.cell 0
   have f0 := hP5.frozen 0
   have p1 := hP5.cell 1
   have f1 := hP5.frozen 1
   have p2 := hP5.cell 2
   have f2 := hP5.frozen 2
   have p3 := hP5.cell 3
   have f3 := hP5.frozen 3
   refine rd 13 (fun K hK => ?_)
   go_simp
   have hf56 : Fr (fun k => k = w2.heap.size) w5 ((((w5.setCell ⟨w2.heap.size, 0, none⟩ (.int .i64 n)).setCell ⟨w2.heap.size, 1, none⟩ (.int .i64 0)).setCell ⟨w2.heap.size, 2, none⟩ (.slice (some ⟨g2, 0, none⟩) n c2)).setCell ⟨w2.heap.size, 3, none⟩ (.slice none 0 0)) := ((((Fr.refl (fun k => k = w2.heap.size) w5).setCell (p := ⟨w2.heap.size, 0, none⟩) (fun _ => rfl) (.int .i64 n)).setCell (p := ⟨w2.heap.size, 1, none⟩) (fun _ => rfl) (.int .i64 0)).setCell (p := ⟨w2.heap.size, 2, none⟩) (fun _ => rfl) (.slice (some ⟨g2, 0, none⟩) n c2)).setCell (p := ⟨w2.heap.size, 3, none⟩) (fun _ => rfl) (.slice none 0 0)
   have hP6 := ((((hP5.set_ 0 (.int .i64 n)).set_ 1 (.int .i64 0)).set_ 2 (.slice (some ⟨g2, 0, none⟩) n c2)).set_ 3 (.slice none 0 0))
   have h56 := h55.fr hf56 (h55.ne_ hP5 (by decide))
   have h66 := h65.fr hf56 (h65.ne_ hP5 (by decide))
   have h76 := h75.fr hf56 (h75.ne_ hP5 (by decide))
   refine hK.out _ _ (⟨h56.cell 0, h66.cell 0, h76.cell 0⟩) (fun hHeld => ?_)
   clear hK K
   refine wpAnyH_done (by kernel_rfl) ?_ _
   refine NoPanic.normal ?_
   go_wp2_with fail
   go_meet
   have hown5 := own_fr hown4 hf45 (fun _ _ => id)
   have hown6 := own_fr hown5 hf56 (fun k hk e => own_ne_blk hown5 hP5 (by decide) (e ▸ hk))
   have hEnt := ents_of hown6 HYS.out HN.out
   have hf26 := (hf24.then_ hf45).trans hf56 (fun k hk e => by have := hf24.size; have := hf45.size; omega)
   exact ⟨_, some ⟨g2, 0, none⟩, c2, rfl, hP6, hEnt, hf26, by have := hf24.size; omega⟩

 case rest =>
  obtain ⟨b11, LA, lc, rfl, hP3, hE3, hf23, hle⟩ := hcut
  have h5 := h5.fr hf23 id
  have h6 := h6.fr hf23 id
  have h7 := h7.fr hf23 id
  have h8 := h8.fr hf23 id
  have ht := ht.fr hf23 id
  have h10 := h10.fr hf23 id
  have hb3 := hb2.keep hf23
  have hf03 := hf02.then_ hf23
  have hsz23 := hf23.size
  clear k5 k6 k7 hf23 hf02 hb2
  have k5 := h5.cell 0
  have k6 := h6.cell 0
  have k7 := h7.cell 0
  generalize wc = w3 at *
  go_upto_region 6 with fail
  have hN3 := Blk.new w3 209 #[.nilFunc]
  have hst : (store ⟨w3.heap.size, 0, none⟩ (Value.func (.func 115) #[] #[.pointer (some ⟨w.heap.size + 1, 0, none⟩), .pointer (some ⟨w.heap.size + 1 + 1, 0, none⟩), .pointer (some ⟨b11, 0, none⟩), .pointer (some ⟨gt + 1, 0, none⟩), .pointer (some ⟨w.heap.size, 0, none⟩), .pointer (some ⟨w3.heap.size, 0, none⟩)])).run Tryz.prog (w3.alloc (Obj.cells #[.nilFunc] 209)) = .ok () ((w3.alloc (Obj.cells #[.nilFunc] 209)).setCell ⟨w3.heap.size, 0, none⟩ (Value.func (.func 115) #[] #[.pointer (some ⟨w.heap.size + 1, 0, none⟩), .pointer (some ⟨w.heap.size + 1 + 1, 0, none⟩), .pointer (some ⟨b11, 0, none⟩), .pointer (some ⟨gt + 1, 0, none⟩), .pointer (some ⟨w.heap.size, 0, none⟩), .pointer (some ⟨w3.heap.size, 0, none⟩)])) := by
   have hc := hN3.cell 0
   have hz := hN3.frozen 0
   simp at hc hz
   rw [run_store Tryz.prog _ _ (Value.func (.func 115) #[] #[.pointer (some ⟨w.heap.size + 1, 0, none⟩), .pointer (some ⟨w.heap.size + 1 + 1, 0, none⟩), .pointer (some ⟨b11, 0, none⟩), .pointer (some ⟨gt + 1, 0, none⟩), .pointer (some ⟨w.heap.size, 0, none⟩), .pointer (some ⟨w3.heap.size, 0, none⟩)]) _ rfl]
   simp [hc, hz]
  go_upto_region 7 with fail
  have hF4 := Blk.new w3 209 #[(Value.func (.func 115) #[] #[.pointer (some ⟨w.heap.size + 1, 0, none⟩), .pointer (some ⟨w.heap.size + 1 + 1, 0, none⟩), .pointer (some ⟨b11, 0, none⟩), .pointer (some ⟨gt + 1, 0, none⟩), .pointer (some ⟨w.heap.size, 0, none⟩), .pointer (some ⟨w3.heap.size, 0, none⟩)])]
  have hf34 : Fr (fun _ => False) w3 (w3.alloc (Obj.cells #[(Value.func (.func 115) #[] #[.pointer (some ⟨w.heap.size + 1, 0, none⟩), .pointer (some ⟨w.heap.size + 1 + 1, 0, none⟩), .pointer (some ⟨b11, 0, none⟩), .pointer (some ⟨gt + 1, 0, none⟩), .pointer (some ⟨w.heap.size, 0, none⟩), .pointer (some ⟨w3.heap.size, 0, none⟩)])] 209)) := (Fr.refl (fun _ => False) w3).alloc _
  clear hst hN3
  generalize w3.alloc (Obj.cells #[(Value.func (.func 115) #[] #[.pointer (some ⟨w.heap.size + 1, 0, none⟩), .pointer (some ⟨w.heap.size + 1 + 1, 0, none⟩), .pointer (some ⟨b11, 0, none⟩), .pointer (some ⟨gt + 1, 0, none⟩), .pointer (some ⟨w.heap.size, 0, none⟩), .pointer (some ⟨w3.heap.size, 0, none⟩)])] 209) = w4 at *
  obtain ⟨bd, hbd⟩ : ∃ x, w3.heap.size = x := ⟨_, rfl⟩
  rw [hbd] at hF4 ⊢
  clear hbd k5 k6 k7
  have h5 := h5.fr hf34 id
  have h6 := h6.fr hf34 id
  have h7 := h7.fr hf34 id
  have h8 := h8.fr hf34 id
  have ht := ht.fr hf34 id
  have h10 := h10.fr hf34 id
  have hP4 := hP3.fr hf34 id
  have hb4 := hb3.keep hf34
  have hE4 := hE3.fr hf34 (fun _ _ => id)
  have hf04 := hf03.then_ hf34
  have k5 := h5.cell 0
  have k6 := h6.cell 0
  have k7 := h7.cell 0
  have kd := hF4.cell 0
  have hD4 : Down w4 (w.heap.size + 1) (w.heap.size + 1 + 1) bd b11 (gt + 1) w.heap.size n := ⟨k6, k7, kd⟩
  have HD : Hid (Calls Tryz.prog 115 #[.int .i64 0, .int .i64 n, .pointer (some ⟨w.heap.size + 1, 0, none⟩), .pointer (some ⟨w.heap.size + 1 + 1, 0, none⟩), .pointer (some ⟨b11, 0, none⟩), .pointer (some ⟨gt + 1, 0, none⟩), .pointer (some ⟨w.heap.size, 0, none⟩), .pointer (some ⟨bd, 0, none⟩)] w4 (fun e w' => e = .returned (.tuple #[]) ∧ ∃ m, w' = w4.drewN m)) := prove1_down (by omega) n 0 w4 (by omega) (by omega) hD4
  go_upto_region 8 with (go_at_call 115; refine HD.out.mono ?_; rintro e w6 ⟨rfl, q, rfl⟩)
  have hle24 : Hid (w2.heap.size ≤ w4.heap.size) := Nat.le_trans hsz23 hf34.size
  clear hf34 hf03 hP3 hb3 hE3
  have hf46 : Fr (fun _ => False) w4 (w4.drewN q) := (Fr.refl _ _).drewN q
  have ht6 := ht.fr hf46 id
  have h10 := h10.fr hf46 id
  have h8 := h8.fr hf46 id
  have hP6 := hP4.fr hf46 id
  have hb6 := hb4.keep hf46
  have hE6 := hE4.fr hf46 (fun _ _ => id)
  have hf06 := hf04.then_ hf46
  clear ht hP4 hb4 hE4 hf46 hf04 h5 h6 h7 hF4 hD4
  generalize w4.drewN q = w6 at *
  have t10 := h10.cell 0
  have t1 := ht6.cell 1
  clear h10 HD k5 k6 k7 kd
  go_wp2_with (first
   | (refine wpList_load_row rfl 60 _ rfl _ rfl _ _ (0, 0) _ hP6 Tryz.underlying60 rfl (by kernel_rfl) ?_)
   | (refine wpList_store_row rfl 60 (.tmp 8) (.tmp 70) rfl (w.heap.size + 1 + 1 + 1) #[.int .i64 n, .int .i64 0, .slice LA n lc, .slice none 0 0] rfl rfl 60 _ h8 (by kernel_rfl) rfl (by simp [Value.oneCell']) ?_))
  have h9 := Blk.setRow_ (ds := #[.int .i64 n, .int .i64 0, .slice LA n lc, .slice none 0 0]) h8
  have hfz := Fr.setRow_ (w := w6) (g := w.heap.size + 1 + 1 + 1) (ds := #[.int .i64 n, .int .i64 0, .slice LA n lc, .slice none 0 0])
  have n1 := hb6.blk.ne_ h8 (by decide)
  have n2 : m ≠ w.heap.size + 1 + 1 + 1 := fun e => by obtain ⟨⟨es, cl, h1, _⟩, _⟩ := hb6.map; exact h8.ne_map h1 e.symm
  have n3 := own_ne_blk hb6.own h8 (by decide)
  have hb9 := hb6.fr hfz n1 n2 (fun k hk e => n3 (e ▸ hk))
  generalize w6.setRow (w.heap.size + 1 + 1 + 1) #[.int .i64 n, .int .i64 0, .slice LA n lc, .slice none 0 0] = wz at *
  refine bodyPost_ret (v := .tuple #[.agg #[.int .i64 n, .int .i64 0, .slice LA n lc, .slice none 0 0], .nilIface]) (results_row2 Tryz.results84 _ wz (w.heap.size + 1 + 1 + 1) 60 #[.int .i64 n, .int .i64 0, .slice LA n lc, .slice none 0 0] (0, 0) _ rfl h9 Tryz.underlying60 rfl (by kernel_rfl) rfl) rfl ?_
  have hsz := hle0
  exact ⟨LA, lc, none, 0, v, by rw [HN.out]; rfl, (hE6.fr hfz (fun k hk e => by have := h8lt.out; omega)).mono_ (fun k hk => by omega), fun k x hx => by simp at hx, hb9, (hf06.trans hfz (fun k hk e => by omega)).mono (fun _ _ h => h.elim), fun k hk => .inl hk⟩
theorem prove_none {w : World} {g m base : Nat} {v : Value} {L : List (List Int)} (hb : BookAt w g m base v L) (hbase : base ≤ w.heap.size) (hL : L.length < 65536) {F : Nat → Prop} {A : Option Addr} {l : List Ent} {cap : Nat} (h : EntRow w F A l) (hll : l.length ≤ 60000) (hyes : risesE l = true) (hcap : l.length ≤ cap) (hne : l = []) :
  Calls Tryz.prog 84 #[.pointer (some ⟨g, 0, none⟩), .slice A l.length cap, .int .i64 0, .int .i64 l.length] w (ProveP w g m base v L l [((digI L noneB : Nat) : Int)] (digL L noneB)) := by
 have HRow := Lib.hid h
 obtain ⟨n, hn⟩ : ∃ n : Nat, l.length = n := ⟨_, rfl⟩
 have HR := Lib.hid (fun w' (hf : Fr (fun _ => False) w w') => merkle_right (cap := cap) (h.fr hf (fun _ _ => id)) (by omega))
 rw [hn, hyes] at HR
 rw [hn] at hll hcap ⊢
 have hn0 : n = 0 := by rw [← hn, hne]; rfl
 subst hn0
 subst hne
 clear h hyes hn
 have h5 : Blk ((((w.alloc (Obj.cells #[.slice A 0 cap] 31)).alloc (Obj.cells #[.int .i64 0] 3)).alloc (Obj.cells #[.int .i64 ((0 : Nat) : Int)] 3)).alloc (Obj.cells #[.int .i64 0, .int .i64 0, .slice none 0 0, .slice none 0 0] 60)) w.heap.size 31 #[.slice A 0 cap] := (((Blk.new w _ _).alloc _).alloc _).alloc _
 have h6 : Blk ((((w.alloc (Obj.cells #[.slice A 0 cap] 31)).alloc (Obj.cells #[.int .i64 0] 3)).alloc (Obj.cells #[.int .i64 ((0 : Nat) : Int)] 3)).alloc (Obj.cells #[.int .i64 0, .int .i64 0, .slice none 0 0, .slice none 0 0] 60)) (w.heap.size + 1) 3 #[.int .i64 0] := ((Blk.new_ _ _ _ (by simp)).alloc _).alloc _
 have h7 : Blk ((((w.alloc (Obj.cells #[.slice A 0 cap] 31)).alloc (Obj.cells #[.int .i64 0] 3)).alloc (Obj.cells #[.int .i64 ((0 : Nat) : Int)] 3)).alloc (Obj.cells #[.int .i64 0, .int .i64 0, .slice none 0 0, .slice none 0 0] 60)) (w.heap.size + 1 + 1) 3 #[.int .i64 ((0 : Nat) : Int)] := (Blk.new_ _ _ _ (by simp)).alloc _
 have h8 : Blk ((((w.alloc (Obj.cells #[.slice A 0 cap] 31)).alloc (Obj.cells #[.int .i64 0] 3)).alloc (Obj.cells #[.int .i64 ((0 : Nat) : Int)] 3)).alloc (Obj.cells #[.int .i64 0, .int .i64 0, .slice none 0 0, .slice none 0 0] 60)) (w.heap.size + 1 + 1 + 1) 60 #[.int .i64 0, .int .i64 0, .slice none 0 0, .slice none 0 0] := Blk.new_ _ _ _ (by simp)
 have hf0 : Fr (fun _ => False) w ((((w.alloc (Obj.cells #[.slice A 0 cap] 31)).alloc (Obj.cells #[.int .i64 0] 3)).alloc (Obj.cells #[.int .i64 ((0 : Nat) : Int)] 3)).alloc (Obj.cells #[.int .i64 0, .int .i64 0, .slice none 0 0, .slice none 0 0] 60)) := ((((Fr.refl _ _).alloc _).alloc _).alloc _).alloc _
 have hz0 : w.heap.size + 4 ≤ ((((w.alloc (Obj.cells #[.slice A 0 cap] 31)).alloc (Obj.cells #[.int .i64 0] 3)).alloc (Obj.cells #[.int .i64 ((0 : Nat) : Int)] 3)).alloc (Obj.cells #[.int .i64 0, .int .i64 0, .slice none 0 0, .slice none 0 0] 60)).heap.size := by simp
 go_enter Tryz.func84, Tryz.ntmps84
 go_upto_region 1 with fail
 generalize ((((w.alloc (Obj.cells #[.slice A 0 cap] 31)).alloc (Obj.cells #[.int .i64 0] 3)).alloc (Obj.cells #[.int .i64 ((0 : Nat) : Int)] 3)).alloc (Obj.cells #[.int .i64 0, .int .i64 0, .slice none 0 0, .slice none 0 0] 60)) = w0 at *
 have k5 := h5.cell 0
 have k6 := h6.cell 0
 have k7 := h7.cell 0
 have hb0 := hb.keep hf0
 have hw0 : IntKind.i64.wrap 0 = 0 := by decide
 go_upto_region 3 with (go_at_call 113; refine (HR.out _ hf0).mono ?_; rintro e w1 ⟨rfl, hf1⟩; have k6 := hf1.cell_some k6 id; have k7 := hf1.cell_some k7 id; have k5 := hf1.cell_some k5 id)
 have h5 := h5.fr hf1 id
 have h6 := h6.fr hf1 id
 have h7 := h7.fr hf1 id
 have h8 := h8.fr hf1 id
 have hf01 := hf0.then_ hf1
 go_upto_region 4 with fail
 have ht : Blk ((w1.alloc (Obj.cells #[.pointer (some ⟨g, 0, none⟩), .nilIface] 208)).alloc (Obj.cells #[.pointer (some ⟨w1.heap.size, 0, none⟩)] 206)) w1.heap.size 208 #[.pointer (some ⟨g, 0, none⟩), .nilIface] := (Blk.new w1 _ _).alloc _
 have h10 : Blk ((w1.alloc (Obj.cells #[.pointer (some ⟨g, 0, none⟩), .nilIface] 208)).alloc (Obj.cells #[.pointer (some ⟨w1.heap.size, 0, none⟩)] 206)) (w1.heap.size + 1) 206 #[.pointer (some ⟨w1.heap.size, 0, none⟩)] := Blk.new_ _ _ _ (by simp)
 have hfT : Fr (fun _ => False) w1 ((w1.alloc (Obj.cells #[.pointer (some ⟨g, 0, none⟩), .nilIface] 208)).alloc (Obj.cells #[.pointer (some ⟨w1.heap.size, 0, none⟩)] 206)) := ((Fr.refl _ _).alloc _).alloc _
 have h5 := h5.fr hfT id
 have h6 := h6.fr hfT id
 have h7 := h7.fr hfT id
 have h8 := h8.fr hfT id
 have hf02 := hf01.then_ hfT
 have hz1w := hf01.size
 generalize (w1.alloc (Obj.cells #[.pointer (some ⟨g, 0, none⟩), .nilIface] 208)).alloc (Obj.cells #[.pointer (some ⟨w1.heap.size, 0, none⟩)] 206) = w2 at *
 clear hf01 hf1 hfT k5 k6 k7
 obtain ⟨gt, hgt⟩ : ∃ x, w1.heap.size = x := ⟨_, rfl⟩
 rw [hgt] at ht h10 hz1w ⊢
 have hgtw := Lib.hid hz1w
 clear hgt hz1w
 have k5 := h5.cell 0
 have k6 := h6.cell 0
 have k7 := h7.cell 0
 have hb2 := hb.keep hf02
 have hle0 := hf02.size
 have h8lt : Hid (w.heap.size + 1 + 1 + 1 < w2.heap.size) := h8.lt
 go_cut [11] from 43 to 54 (fun p wx => PrvMid w2 0 [] p wx)
 case first =>
  cases A with
  | none =>
   refine wp_region_noPanic ?_
   refine wp_region_held_drew (S := fun w' => w'.cell? ⟨w.heap.size, 0, none⟩ = some (.slice none 0 cap) ∧ w'.cell? ⟨w.heap.size + 1, 0, none⟩ = some (.int .i64 0) ∧ w'.cell? ⟨w.heap.size + 1 + 1, 0, none⟩ = some (.int .i64 ((0 : Nat) : Int))) (by kernel_rfl) (⟨k5, k6, k7⟩) (fun hHeld => ?_)
   refine tk 0 43 ?_
   refine tk 1 44 ?_
   refine tk 2 45 ?_
   refine tk 4 47 ?_
   refine tk 5 48 ?_
   refine tk 6 49 ?_
   refine tk 7 50 ?_
   refine tk 8 51 ?_
   refine tk 9 52 ?_
   refine wpAnyH_ready (rs := [3, 12]) (by kernel_rfl) (by simp) ?_
   refine AllReadyH.cons rfl (fun K hK => ?_) (AllReadyH.cons rfl (fun K hK => ?_) AllReadyH.nil)
   ·skip
    go_simp
    refine hK.out _ _ (⟨(((h5).alloc (Obj.cells #[] 119)).drew).cell 0, (((h6).alloc (Obj.cells #[] 119)).drew).cell 0, (((h7).alloc (Obj.cells #[] 119)).drew).cell 0⟩) (fun hHeld => ?_)
    clear hK K
    refine wpAnyH_ready (rs := [10, 12]) (by kernel_rfl) (by simp) ?_
    refine AllReadyH.cons rfl (fun K hK => ?_) (AllReadyH.cons rfl (fun K hK => ?_) AllReadyH.nil)
    ·skip
     go_simp
     refine hK.out _ _ (⟨(((h5).alloc (Obj.cells #[] 119)).drew).cell 0, (((h6).alloc (Obj.cells #[] 119)).drew).cell 0, (((h7).alloc (Obj.cells #[] 119)).drew).cell 0⟩) (fun hHeld => ?_)
     clear hK K
     refine tk 11 54 ?_
     refine rd 12 (fun K hK => ?_)
     go_simp
     refine hK.out _ _ (⟨((((h5).alloc (Obj.cells #[] 119)).alloc (Obj.cells #[.int .i64 0, .int .i64 0, .slice none 0 0, .slice none 0 0] 60)).drew).cell 0, ((((h6).alloc (Obj.cells #[] 119)).alloc (Obj.cells #[.int .i64 0, .int .i64 0, .slice none 0 0, .slice none 0 0] 60)).drew).cell 0, ((((h7).alloc (Obj.cells #[] 119)).alloc (Obj.cells #[.int .i64 0, .int .i64 0, .slice none 0 0, .slice none 0 0] 60)).drew).cell 0⟩) (fun hHeld => ?_)
     clear hK K
     have hP5 : Blk ((w2.alloc (Obj.cells #[] 119)).alloc (Obj.cells #[.int .i64 0, .int .i64 0, .slice none 0 0, .slice none 0 0] 60)).drew (w2.heap.size + 1) 60 #[.int .i64 0, .int .i64 0, .slice none 0 0, .slice none 0 0] := (Blk.new_ _ _ _ (by simp)).drew
     have hf25 : Fr (fun _ => False) w2 ((w2.alloc (Obj.cells #[] 119)).alloc (Obj.cells #[.int .i64 0, .int .i64 0, .slice none 0 0, .slice none 0 0] 60)).drew := (((Fr.refl _ w2).alloc _).alloc _).drew
     have h55 := (((h5).alloc (Obj.cells #[] 119)).alloc (Obj.cells #[.int .i64 0, .int .i64 0, .slice none 0 0, .slice none 0 0] 60)).drew
     have h65 := (((h6).alloc (Obj.cells #[] 119)).alloc (Obj.cells #[.int .i64 0, .int .i64 0, .slice none 0 0, .slice none 0 0] 60)).drew
     have h75 := (((h7).alloc (Obj.cells #[] 119)).alloc (Obj.cells #[.int .i64 0, .int .i64 0, .slice none 0 0, .slice none 0 0] 60)).drew
     generalize ((w2.alloc (Obj.cells #[] 119)).alloc (Obj.cells #[.int .i64 0, .int .i64 0, .slice none 0 0, .slice none 0 0] 60)).drew = w5 at *
     have p0 := hP5.cell 0
     have f0 := hP5.frozen 0
     have p1 := hP5.cell 1
     have f1 := hP5.frozen 1
     have p2 := hP5.cell 2
     have f2 := hP5.frozen 2
     have p3 := hP5.cell 3
     have f3 := hP5.frozen 3
     refine rd 13 (fun K hK => ?_)
     go_simp
     have hf56 : Fr (fun k => k = (w2.heap.size + 1)) w5 ((((w5.setCell ⟨(w2.heap.size + 1), 0, none⟩ (.int .i64 ((0 : Nat) : Int))).setCell ⟨(w2.heap.size + 1), 1, none⟩ (.int .i64 0)).setCell ⟨(w2.heap.size + 1), 2, none⟩ (.slice (some ⟨w2.heap.size, 0, none⟩) 0 0)).setCell ⟨(w2.heap.size + 1), 3, none⟩ (.slice none 0 0)) := ((((Fr.refl (fun k => k = (w2.heap.size + 1)) w5).setCell (p := ⟨(w2.heap.size + 1), 0, none⟩) (fun _ => rfl) (.int .i64 ((0 : Nat) : Int))).setCell (p := ⟨(w2.heap.size + 1), 1, none⟩) (fun _ => rfl) (.int .i64 0)).setCell (p := ⟨(w2.heap.size + 1), 2, none⟩) (fun _ => rfl) (.slice (some ⟨w2.heap.size, 0, none⟩) 0 0)).setCell (p := ⟨(w2.heap.size + 1), 3, none⟩) (fun _ => rfl) (.slice none 0 0)
     have hP6 := ((((hP5.set_ 0 (.int .i64 ((0 : Nat) : Int))).set_ 1 (.int .i64 0)).set_ 2 (.slice (some ⟨w2.heap.size, 0, none⟩) 0 0)).set_ 3 (.slice none 0 0))
     have h56 := h55.fr hf56 (h55.ne_ hP5 (by decide))
     have h66 := h65.fr hf56 (h65.ne_ hP5 (by decide))
     have h76 := h75.fr hf56 (h75.ne_ hP5 (by decide))
     refine hK.out _ _ (⟨h56.cell 0, h66.cell 0, h76.cell 0⟩) (fun hHeld => ?_)
     clear hK K
     refine wpAnyH_done (by kernel_rfl) ?_ _
     refine NoPanic.normal ?_
     go_wp2_with fail
     go_meet
     have hf26 := hf25.trans hf56 (fun k hk e => by omega)
     exact ⟨_, some ⟨w2.heap.size, 0, none⟩, 0, rfl, hP6, (fun k x hx => by simp at hx), hf26, by omega⟩
    ·skip
     go_simp
     refine hK.out _ _ (⟨((((h5).alloc (Obj.cells #[] 119)).alloc (Obj.cells #[.int .i64 0, .int .i64 0, .slice none 0 0, .slice none 0 0] 60)).drew).cell 0, ((((h6).alloc (Obj.cells #[] 119)).alloc (Obj.cells #[.int .i64 0, .int .i64 0, .slice none 0 0, .slice none 0 0] 60)).drew).cell 0, ((((h7).alloc (Obj.cells #[] 119)).alloc (Obj.cells #[.int .i64 0, .int .i64 0, .slice none 0 0, .slice none 0 0] 60)).drew).cell 0⟩) (fun hHeld => ?_)
     clear hK K
     refine rd 10 (fun K hK => ?_)
     go_simp
     refine hK.out _ _ (⟨((((h5).alloc (Obj.cells #[] 119)).alloc (Obj.cells #[.int .i64 0, .int .i64 0, .slice none 0 0, .slice none 0 0] 60)).drew).cell 0, ((((h6).alloc (Obj.cells #[] 119)).alloc (Obj.cells #[.int .i64 0, .int .i64 0, .slice none 0 0, .slice none 0 0] 60)).drew).cell 0, ((((h7).alloc (Obj.cells #[] 119)).alloc (Obj.cells #[.int .i64 0, .int .i64 0, .slice none 0 0, .slice none 0 0] 60)).drew).cell 0⟩) (fun hHeld => ?_)
     clear hK K
     refine tk 11 54 ?_
     have hP5 : Blk ((w2.alloc (Obj.cells #[] 119)).alloc (Obj.cells #[.int .i64 0, .int .i64 0, .slice none 0 0, .slice none 0 0] 60)).drew (w2.heap.size + 1) 60 #[.int .i64 0, .int .i64 0, .slice none 0 0, .slice none 0 0] := (Blk.new_ _ _ _ (by simp)).drew
     have hf25 : Fr (fun _ => False) w2 ((w2.alloc (Obj.cells #[] 119)).alloc (Obj.cells #[.int .i64 0, .int .i64 0, .slice none 0 0, .slice none 0 0] 60)).drew := (((Fr.refl _ w2).alloc _).alloc _).drew
     have h55 := (((h5).alloc (Obj.cells #[] 119)).alloc (Obj.cells #[.int .i64 0, .int .i64 0, .slice none 0 0, .slice none 0 0] 60)).drew
     have h65 := (((h6).alloc (Obj.cells #[] 119)).alloc (Obj.cells #[.int .i64 0, .int .i64 0, .slice none 0 0, .slice none 0 0] 60)).drew
     have h75 := (((h7).alloc (Obj.cells #[] 119)).alloc (Obj.cells #[.int .i64 0, .int .i64 0, .slice none 0 0, .slice none 0 0] 60)).drew
     generalize ((w2.alloc (Obj.cells #[] 119)).alloc (Obj.cells #[.int .i64 0, .int .i64 0, .slice none 0 0, .slice none 0 0] 60)).drew = w5 at *
     have p0 := hP5.cell 0
     have f0 := hP5.frozen 0
     have p1 := hP5.cell 1
     have f1 := hP5.frozen 1
     have p2 := hP5.cell 2
     have f2 := hP5.frozen 2
     have p3 := hP5.cell 3
     have f3 := hP5.frozen 3
     refine rd 13 (fun K hK => ?_)
     go_simp
     have hf56 : Fr (fun k => k = (w2.heap.size + 1)) w5 ((((w5.setCell ⟨(w2.heap.size + 1), 0, none⟩ (.int .i64 ((0 : Nat) : Int))).setCell ⟨(w2.heap.size + 1), 1, none⟩ (.int .i64 0)).setCell ⟨(w2.heap.size + 1), 2, none⟩ (.slice (some ⟨w2.heap.size, 0, none⟩) 0 0)).setCell ⟨(w2.heap.size + 1), 3, none⟩ (.slice none 0 0)) := ((((Fr.refl (fun k => k = (w2.heap.size + 1)) w5).setCell (p := ⟨(w2.heap.size + 1), 0, none⟩) (fun _ => rfl) (.int .i64 ((0 : Nat) : Int))).setCell (p := ⟨(w2.heap.size + 1), 1, none⟩) (fun _ => rfl) (.int .i64 0)).setCell (p := ⟨(w2.heap.size + 1), 2, none⟩) (fun _ => rfl) (.slice (some ⟨w2.heap.size, 0, none⟩) 0 0)).setCell (p := ⟨(w2.heap.size + 1), 3, none⟩) (fun _ => rfl) (.slice none 0 0)
     have hP6 := ((((hP5.set_ 0 (.int .i64 ((0 : Nat) : Int))).set_ 1 (.int .i64 0)).set_ 2 (.slice (some ⟨w2.heap.size, 0, none⟩) 0 0)).set_ 3 (.slice none 0 0))
     have h56 := h55.fr hf56 (h55.ne_ hP5 (by decide))
     have h66 := h65.fr hf56 (h65.ne_ hP5 (by decide))
     have h76 := h75.fr hf56 (h75.ne_ hP5 (by decide))
     refine hK.out _ _ (⟨h56.cell 0, h66.cell 0, h76.cell 0⟩) (fun hHeld => ?_)
     clear hK K
     refine wpAnyH_done (by kernel_rfl) ?_ _
     refine NoPanic.normal ?_
     go_wp2_with fail
     go_meet
     have hf26 := hf25.trans hf56 (fun k hk e => by omega)
     exact ⟨_, some ⟨w2.heap.size, 0, none⟩, 0, rfl, hP6, (fun k x hx => by simp at hx), hf26, by omega⟩
   ·skip
    go_simp
    refine hK.out _ _ (⟨(((h5).alloc (Obj.cells #[.int .i64 0, .int .i64 0, .slice none 0 0, .slice none 0 0] 60)).drew).cell 0, (((h6).alloc (Obj.cells #[.int .i64 0, .int .i64 0, .slice none 0 0, .slice none 0 0] 60)).drew).cell 0, (((h7).alloc (Obj.cells #[.int .i64 0, .int .i64 0, .slice none 0 0, .slice none 0 0] 60)).drew).cell 0⟩) (fun hHeld => ?_)
    clear hK K
    refine rd 3 (fun K hK => ?_)
    go_simp
    refine hK.out _ _ (⟨((((h5).alloc (Obj.cells #[.int .i64 0, .int .i64 0, .slice none 0 0, .slice none 0 0] 60)).alloc (Obj.cells #[] 119)).drew).cell 0, ((((h6).alloc (Obj.cells #[.int .i64 0, .int .i64 0, .slice none 0 0, .slice none 0 0] 60)).alloc (Obj.cells #[] 119)).drew).cell 0, ((((h7).alloc (Obj.cells #[.int .i64 0, .int .i64 0, .slice none 0 0, .slice none 0 0] 60)).alloc (Obj.cells #[] 119)).drew).cell 0⟩) (fun hHeld => ?_)
    clear hK K
    refine rd 10 (fun K hK => ?_)
    go_simp
    refine hK.out _ _ (⟨((((h5).alloc (Obj.cells #[.int .i64 0, .int .i64 0, .slice none 0 0, .slice none 0 0] 60)).alloc (Obj.cells #[] 119)).drew).cell 0, ((((h6).alloc (Obj.cells #[.int .i64 0, .int .i64 0, .slice none 0 0, .slice none 0 0] 60)).alloc (Obj.cells #[] 119)).drew).cell 0, ((((h7).alloc (Obj.cells #[.int .i64 0, .int .i64 0, .slice none 0 0, .slice none 0 0] 60)).alloc (Obj.cells #[] 119)).drew).cell 0⟩) (fun hHeld => ?_)
    clear hK K
    refine tk 11 54 ?_
    have hP5 : Blk ((w2.alloc (Obj.cells #[.int .i64 0, .int .i64 0, .slice none 0 0, .slice none 0 0] 60)).alloc (Obj.cells #[] 119)).drew w2.heap.size 60 #[.int .i64 0, .int .i64 0, .slice none 0 0, .slice none 0 0] := ((Blk.new w2 _ _).alloc _).drew
    have hf25 : Fr (fun _ => False) w2 ((w2.alloc (Obj.cells #[.int .i64 0, .int .i64 0, .slice none 0 0, .slice none 0 0] 60)).alloc (Obj.cells #[] 119)).drew := (((Fr.refl _ w2).alloc _).alloc _).drew
    have h55 := (((h5).alloc (Obj.cells #[.int .i64 0, .int .i64 0, .slice none 0 0, .slice none 0 0] 60)).alloc (Obj.cells #[] 119)).drew
    have h65 := (((h6).alloc (Obj.cells #[.int .i64 0, .int .i64 0, .slice none 0 0, .slice none 0 0] 60)).alloc (Obj.cells #[] 119)).drew
    have h75 := (((h7).alloc (Obj.cells #[.int .i64 0, .int .i64 0, .slice none 0 0, .slice none 0 0] 60)).alloc (Obj.cells #[] 119)).drew
    generalize ((w2.alloc (Obj.cells #[.int .i64 0, .int .i64 0, .slice none 0 0, .slice none 0 0] 60)).alloc (Obj.cells #[] 119)).drew = w5 at *
    have p0 := hP5.cell 0
    have f0 := hP5.frozen 0
    have p1 := hP5.cell 1
    have f1 := hP5.frozen 1
    have p2 := hP5.cell 2
    have f2 := hP5.frozen 2
    have p3 := hP5.cell 3
    have f3 := hP5.frozen 3
    refine rd 13 (fun K hK => ?_)
    go_simp
    have hf56 : Fr (fun k => k = w2.heap.size) w5 ((((w5.setCell ⟨w2.heap.size, 0, none⟩ (.int .i64 ((0 : Nat) : Int))).setCell ⟨w2.heap.size, 1, none⟩ (.int .i64 0)).setCell ⟨w2.heap.size, 2, none⟩ (.slice (some ⟨(w2.heap.size + 1), 0, none⟩) 0 0)).setCell ⟨w2.heap.size, 3, none⟩ (.slice none 0 0)) := ((((Fr.refl (fun k => k = w2.heap.size) w5).setCell (p := ⟨w2.heap.size, 0, none⟩) (fun _ => rfl) (.int .i64 ((0 : Nat) : Int))).setCell (p := ⟨w2.heap.size, 1, none⟩) (fun _ => rfl) (.int .i64 0)).setCell (p := ⟨w2.heap.size, 2, none⟩) (fun _ => rfl) (.slice (some ⟨(w2.heap.size + 1), 0, none⟩) 0 0)).setCell (p := ⟨w2.heap.size, 3, none⟩) (fun _ => rfl) (.slice none 0 0)
    have hP6 := ((((hP5.set_ 0 (.int .i64 ((0 : Nat) : Int))).set_ 1 (.int .i64 0)).set_ 2 (.slice (some ⟨(w2.heap.size + 1), 0, none⟩) 0 0)).set_ 3 (.slice none 0 0))
    have h56 := h55.fr hf56 (h55.ne_ hP5 (by decide))
    have h66 := h65.fr hf56 (h65.ne_ hP5 (by decide))
    have h76 := h75.fr hf56 (h75.ne_ hP5 (by decide))
    refine hK.out _ _ (⟨h56.cell 0, h66.cell 0, h76.cell 0⟩) (fun hHeld => ?_)
    clear hK K
    refine wpAnyH_done (by kernel_rfl) ?_ _
    refine NoPanic.normal ?_
    go_wp2_with fail
    go_meet
    have hf26 := hf25.trans hf56 (fun k hk e => by omega)
    exact ⟨_, some ⟨(w2.heap.size + 1), 0, none⟩, 0, rfl, hP6, (fun k x hx => by simp at hx), hf26, by omega⟩
  | some a =>
   refine wp_region_noPanic ?_
   refine wp_region_held_drew (S := fun w' => w'.cell? ⟨w.heap.size, 0, none⟩ = some (.slice (some a) 0 cap) ∧ w'.cell? ⟨w.heap.size + 1, 0, none⟩ = some (.int .i64 0) ∧ w'.cell? ⟨w.heap.size + 1 + 1, 0, none⟩ = some (.int .i64 ((0 : Nat) : Int))) (by kernel_rfl) (⟨k5, k6, k7⟩) (fun hHeld => ?_)
   refine tk 0 43 ?_
   refine tk 1 44 ?_
   refine tk 2 45 ?_
   refine tk 4 47 ?_
   refine tk 5 48 ?_
   refine tk 6 49 ?_
   refine tk 7 50 ?_
   refine tk 8 51 ?_
   refine tk 9 52 ?_
   refine wpAnyH_ready (rs := [3, 12]) (by kernel_rfl) (by simp) ?_
   refine AllReadyH.cons rfl (fun K hK => ?_) (AllReadyH.cons rfl (fun K hK => ?_) AllReadyH.nil)
   ·skip
    go_simp
    refine hK.out _ _ (⟨(((h5).alloc (Obj.cells #[] 119)).drew).cell 0, (((h6).alloc (Obj.cells #[] 119)).drew).cell 0, (((h7).alloc (Obj.cells #[] 119)).drew).cell 0⟩) (fun hHeld => ?_)
    clear hK K
    refine wpAnyH_ready (rs := [10, 12]) (by kernel_rfl) (by simp) ?_
    refine AllReadyH.cons rfl (fun K hK => ?_) (AllReadyH.cons rfl (fun K hK => ?_) AllReadyH.nil)
    ·skip
     go_simp
     refine hK.out _ _ (⟨(((h5).alloc (Obj.cells #[] 119)).drew).cell 0, (((h6).alloc (Obj.cells #[] 119)).drew).cell 0, (((h7).alloc (Obj.cells #[] 119)).drew).cell 0⟩) (fun hHeld => ?_)
     clear hK K
     refine tk 11 54 ?_
     refine rd 12 (fun K hK => ?_)
     go_simp
     refine hK.out _ _ (⟨((((h5).alloc (Obj.cells #[] 119)).alloc (Obj.cells #[.int .i64 0, .int .i64 0, .slice none 0 0, .slice none 0 0] 60)).drew).cell 0, ((((h6).alloc (Obj.cells #[] 119)).alloc (Obj.cells #[.int .i64 0, .int .i64 0, .slice none 0 0, .slice none 0 0] 60)).drew).cell 0, ((((h7).alloc (Obj.cells #[] 119)).alloc (Obj.cells #[.int .i64 0, .int .i64 0, .slice none 0 0, .slice none 0 0] 60)).drew).cell 0⟩) (fun hHeld => ?_)
     clear hK K
     have hP5 : Blk ((w2.alloc (Obj.cells #[] 119)).alloc (Obj.cells #[.int .i64 0, .int .i64 0, .slice none 0 0, .slice none 0 0] 60)).drew (w2.heap.size + 1) 60 #[.int .i64 0, .int .i64 0, .slice none 0 0, .slice none 0 0] := (Blk.new_ _ _ _ (by simp)).drew
     have hf25 : Fr (fun _ => False) w2 ((w2.alloc (Obj.cells #[] 119)).alloc (Obj.cells #[.int .i64 0, .int .i64 0, .slice none 0 0, .slice none 0 0] 60)).drew := (((Fr.refl _ w2).alloc _).alloc _).drew
     have h55 := (((h5).alloc (Obj.cells #[] 119)).alloc (Obj.cells #[.int .i64 0, .int .i64 0, .slice none 0 0, .slice none 0 0] 60)).drew
     have h65 := (((h6).alloc (Obj.cells #[] 119)).alloc (Obj.cells #[.int .i64 0, .int .i64 0, .slice none 0 0, .slice none 0 0] 60)).drew
     have h75 := (((h7).alloc (Obj.cells #[] 119)).alloc (Obj.cells #[.int .i64 0, .int .i64 0, .slice none 0 0, .slice none 0 0] 60)).drew
     generalize ((w2.alloc (Obj.cells #[] 119)).alloc (Obj.cells #[.int .i64 0, .int .i64 0, .slice none 0 0, .slice none 0 0] 60)).drew = w5 at *
     have p0 := hP5.cell 0
     have f0 := hP5.frozen 0
     have p1 := hP5.cell 1
     have f1 := hP5.frozen 1
     have p2 := hP5.cell 2
     have f2 := hP5.frozen 2
     have p3 := hP5.cell 3
     have f3 := hP5.frozen 3
     refine rd 13 (fun K hK => ?_)
     go_simp
     have hf56 : Fr (fun k => k = (w2.heap.size + 1)) w5 ((((w5.setCell ⟨(w2.heap.size + 1), 0, none⟩ (.int .i64 ((0 : Nat) : Int))).setCell ⟨(w2.heap.size + 1), 1, none⟩ (.int .i64 0)).setCell ⟨(w2.heap.size + 1), 2, none⟩ (.slice (some ⟨w2.heap.size, 0, none⟩) 0 0)).setCell ⟨(w2.heap.size + 1), 3, none⟩ (.slice none 0 0)) := ((((Fr.refl (fun k => k = (w2.heap.size + 1)) w5).setCell (p := ⟨(w2.heap.size + 1), 0, none⟩) (fun _ => rfl) (.int .i64 ((0 : Nat) : Int))).setCell (p := ⟨(w2.heap.size + 1), 1, none⟩) (fun _ => rfl) (.int .i64 0)).setCell (p := ⟨(w2.heap.size + 1), 2, none⟩) (fun _ => rfl) (.slice (some ⟨w2.heap.size, 0, none⟩) 0 0)).setCell (p := ⟨(w2.heap.size + 1), 3, none⟩) (fun _ => rfl) (.slice none 0 0)
     have hP6 := ((((hP5.set_ 0 (.int .i64 ((0 : Nat) : Int))).set_ 1 (.int .i64 0)).set_ 2 (.slice (some ⟨w2.heap.size, 0, none⟩) 0 0)).set_ 3 (.slice none 0 0))
     have h56 := h55.fr hf56 (h55.ne_ hP5 (by decide))
     have h66 := h65.fr hf56 (h65.ne_ hP5 (by decide))
     have h76 := h75.fr hf56 (h75.ne_ hP5 (by decide))
     refine hK.out _ _ (⟨h56.cell 0, h66.cell 0, h76.cell 0⟩) (fun hHeld => ?_)
     clear hK K
     refine wpAnyH_done (by kernel_rfl) ?_ _
     refine NoPanic.normal ?_
     go_wp2_with fail
     go_meet
     have hf26 := hf25.trans hf56 (fun k hk e => by omega)
     exact ⟨_, some ⟨w2.heap.size, 0, none⟩, 0, rfl, hP6, (fun k x hx => by simp at hx), hf26, by omega⟩
    ·skip
     go_simp
     refine hK.out _ _ (⟨((((h5).alloc (Obj.cells #[] 119)).alloc (Obj.cells #[.int .i64 0, .int .i64 0, .slice none 0 0, .slice none 0 0] 60)).drew).cell 0, ((((h6).alloc (Obj.cells #[] 119)).alloc (Obj.cells #[.int .i64 0, .int .i64 0, .slice none 0 0, .slice none 0 0] 60)).drew).cell 0, ((((h7).alloc (Obj.cells #[] 119)).alloc (Obj.cells #[.int .i64 0, .int .i64 0, .slice none 0 0, .slice none 0 0] 60)).drew).cell 0⟩) (fun hHeld => ?_)
     clear hK K
     refine rd 10 (fun K hK => ?_)
     go_simp
     refine hK.out _ _ (⟨((((h5).alloc (Obj.cells #[] 119)).alloc (Obj.cells #[.int .i64 0, .int .i64 0, .slice none 0 0, .slice none 0 0] 60)).drew).cell 0, ((((h6).alloc (Obj.cells #[] 119)).alloc (Obj.cells #[.int .i64 0, .int .i64 0, .slice none 0 0, .slice none 0 0] 60)).drew).cell 0, ((((h7).alloc (Obj.cells #[] 119)).alloc (Obj.cells #[.int .i64 0, .int .i64 0, .slice none 0 0, .slice none 0 0] 60)).drew).cell 0⟩) (fun hHeld => ?_)
     clear hK K
     refine tk 11 54 ?_
     have hP5 : Blk ((w2.alloc (Obj.cells #[] 119)).alloc (Obj.cells #[.int .i64 0, .int .i64 0, .slice none 0 0, .slice none 0 0] 60)).drew (w2.heap.size + 1) 60 #[.int .i64 0, .int .i64 0, .slice none 0 0, .slice none 0 0] := (Blk.new_ _ _ _ (by simp)).drew
     have hf25 : Fr (fun _ => False) w2 ((w2.alloc (Obj.cells #[] 119)).alloc (Obj.cells #[.int .i64 0, .int .i64 0, .slice none 0 0, .slice none 0 0] 60)).drew := (((Fr.refl _ w2).alloc _).alloc _).drew
     have h55 := (((h5).alloc (Obj.cells #[] 119)).alloc (Obj.cells #[.int .i64 0, .int .i64 0, .slice none 0 0, .slice none 0 0] 60)).drew
     have h65 := (((h6).alloc (Obj.cells #[] 119)).alloc (Obj.cells #[.int .i64 0, .int .i64 0, .slice none 0 0, .slice none 0 0] 60)).drew
     have h75 := (((h7).alloc (Obj.cells #[] 119)).alloc (Obj.cells #[.int .i64 0, .int .i64 0, .slice none 0 0, .slice none 0 0] 60)).drew
     generalize ((w2.alloc (Obj.cells #[] 119)).alloc (Obj.cells #[.int .i64 0, .int .i64 0, .slice none 0 0, .slice none 0 0] 60)).drew = w5 at *
     have p0 := hP5.cell 0
     have f0 := hP5.frozen 0
     have p1 := hP5.cell 1
     have f1 := hP5.frozen 1
     have p2 := hP5.cell 2
     have f2 := hP5.frozen 2
     have p3 := hP5.cell 3
     have f3 := hP5.frozen 3
     refine rd 13 (fun K hK => ?_)
     go_simp
     have hf56 : Fr (fun k => k = (w2.heap.size + 1)) w5 ((((w5.setCell ⟨(w2.heap.size + 1), 0, none⟩ (.int .i64 ((0 : Nat) : Int))).setCell ⟨(w2.heap.size + 1), 1, none⟩ (.int .i64 0)).setCell ⟨(w2.heap.size + 1), 2, none⟩ (.slice (some ⟨w2.heap.size, 0, none⟩) 0 0)).setCell ⟨(w2.heap.size + 1), 3, none⟩ (.slice none 0 0)) := ((((Fr.refl (fun k => k = (w2.heap.size + 1)) w5).setCell (p := ⟨(w2.heap.size + 1), 0, none⟩) (fun _ => rfl) (.int .i64 ((0 : Nat) : Int))).setCell (p := ⟨(w2.heap.size + 1), 1, none⟩) (fun _ => rfl) (.int .i64 0)).setCell (p := ⟨(w2.heap.size + 1), 2, none⟩) (fun _ => rfl) (.slice (some ⟨w2.heap.size, 0, none⟩) 0 0)).setCell (p := ⟨(w2.heap.size + 1), 3, none⟩) (fun _ => rfl) (.slice none 0 0)
     have hP6 := ((((hP5.set_ 0 (.int .i64 ((0 : Nat) : Int))).set_ 1 (.int .i64 0)).set_ 2 (.slice (some ⟨w2.heap.size, 0, none⟩) 0 0)).set_ 3 (.slice none 0 0))
     have h56 := h55.fr hf56 (h55.ne_ hP5 (by decide))
     have h66 := h65.fr hf56 (h65.ne_ hP5 (by decide))
     have h76 := h75.fr hf56 (h75.ne_ hP5 (by decide))
     refine hK.out _ _ (⟨h56.cell 0, h66.cell 0, h76.cell 0⟩) (fun hHeld => ?_)
     clear hK K
     refine wpAnyH_done (by kernel_rfl) ?_ _
     refine NoPanic.normal ?_
     go_wp2_with fail
     go_meet
     have hf26 := hf25.trans hf56 (fun k hk e => by omega)
     exact ⟨_, some ⟨w2.heap.size, 0, none⟩, 0, rfl, hP6, (fun k x hx => by simp at hx), hf26, by omega⟩
   ·skip
    go_simp
    refine hK.out _ _ (⟨(((h5).alloc (Obj.cells #[.int .i64 0, .int .i64 0, .slice none 0 0, .slice none 0 0] 60)).drew).cell 0, (((h6).alloc (Obj.cells #[.int .i64 0, .int .i64 0, .slice none 0 0, .slice none 0 0] 60)).drew).cell 0, (((h7).alloc (Obj.cells #[.int .i64 0, .int .i64 0, .slice none 0 0, .slice none 0 0] 60)).drew).cell 0⟩) (fun hHeld => ?_)
    clear hK K
    refine rd 3 (fun K hK => ?_)
    go_simp
    refine hK.out _ _ (⟨((((h5).alloc (Obj.cells #[.int .i64 0, .int .i64 0, .slice none 0 0, .slice none 0 0] 60)).alloc (Obj.cells #[] 119)).drew).cell 0, ((((h6).alloc (Obj.cells #[.int .i64 0, .int .i64 0, .slice none 0 0, .slice none 0 0] 60)).alloc (Obj.cells #[] 119)).drew).cell 0, ((((h7).alloc (Obj.cells #[.int .i64 0, .int .i64 0, .slice none 0 0, .slice none 0 0] 60)).alloc (Obj.cells #[] 119)).drew).cell 0⟩) (fun hHeld => ?_)
    clear hK K
    refine rd 10 (fun K hK => ?_)
    go_simp
    refine hK.out _ _ (⟨((((h5).alloc (Obj.cells #[.int .i64 0, .int .i64 0, .slice none 0 0, .slice none 0 0] 60)).alloc (Obj.cells #[] 119)).drew).cell 0, ((((h6).alloc (Obj.cells #[.int .i64 0, .int .i64 0, .slice none 0 0, .slice none 0 0] 60)).alloc (Obj.cells #[] 119)).drew).cell 0, ((((h7).alloc (Obj.cells #[.int .i64 0, .int .i64 0, .slice none 0 0, .slice none 0 0] 60)).alloc (Obj.cells #[] 119)).drew).cell 0⟩) (fun hHeld => ?_)
    clear hK K
    refine tk 11 54 ?_
    have hP5 : Blk ((w2.alloc (Obj.cells #[.int .i64 0, .int .i64 0, .slice none 0 0, .slice none 0 0] 60)).alloc (Obj.cells #[] 119)).drew w2.heap.size 60 #[.int .i64 0, .int .i64 0, .slice none 0 0, .slice none 0 0] := ((Blk.new w2 _ _).alloc _).drew
    have hf25 : Fr (fun _ => False) w2 ((w2.alloc (Obj.cells #[.int .i64 0, .int .i64 0, .slice none 0 0, .slice none 0 0] 60)).alloc (Obj.cells #[] 119)).drew := (((Fr.refl _ w2).alloc _).alloc _).drew
    have h55 := (((h5).alloc (Obj.cells #[.int .i64 0, .int .i64 0, .slice none 0 0, .slice none 0 0] 60)).alloc (Obj.cells #[] 119)).drew
    have h65 := (((h6).alloc (Obj.cells #[.int .i64 0, .int .i64 0, .slice none 0 0, .slice none 0 0] 60)).alloc (Obj.cells #[] 119)).drew
    have h75 := (((h7).alloc (Obj.cells #[.int .i64 0, .int .i64 0, .slice none 0 0, .slice none 0 0] 60)).alloc (Obj.cells #[] 119)).drew
    generalize ((w2.alloc (Obj.cells #[.int .i64 0, .int .i64 0, .slice none 0 0, .slice none 0 0] 60)).alloc (Obj.cells #[] 119)).drew = w5 at *
    have p0 := hP5.cell 0
    have f0 := hP5.frozen 0
    have p1 := hP5.cell 1
    have f1 := hP5.frozen 1
    have p2 := hP5.cell 2
    have f2 := hP5.frozen 2
    have p3 := hP5.cell 3
    have f3 := hP5.frozen 3
    refine rd 13 (fun K hK => ?_)
    go_simp
    have hf56 : Fr (fun k => k = w2.heap.size) w5 ((((w5.setCell ⟨w2.heap.size, 0, none⟩ (.int .i64 ((0 : Nat) : Int))).setCell ⟨w2.heap.size, 1, none⟩ (.int .i64 0)).setCell ⟨w2.heap.size, 2, none⟩ (.slice (some ⟨(w2.heap.size + 1), 0, none⟩) 0 0)).setCell ⟨w2.heap.size, 3, none⟩ (.slice none 0 0)) := ((((Fr.refl (fun k => k = w2.heap.size) w5).setCell (p := ⟨w2.heap.size, 0, none⟩) (fun _ => rfl) (.int .i64 ((0 : Nat) : Int))).setCell (p := ⟨w2.heap.size, 1, none⟩) (fun _ => rfl) (.int .i64 0)).setCell (p := ⟨w2.heap.size, 2, none⟩) (fun _ => rfl) (.slice (some ⟨(w2.heap.size + 1), 0, none⟩) 0 0)).setCell (p := ⟨w2.heap.size, 3, none⟩) (fun _ => rfl) (.slice none 0 0)
    have hP6 := ((((hP5.set_ 0 (.int .i64 ((0 : Nat) : Int))).set_ 1 (.int .i64 0)).set_ 2 (.slice (some ⟨(w2.heap.size + 1), 0, none⟩) 0 0)).set_ 3 (.slice none 0 0))
    have h56 := h55.fr hf56 (h55.ne_ hP5 (by decide))
    have h66 := h65.fr hf56 (h65.ne_ hP5 (by decide))
    have h76 := h75.fr hf56 (h75.ne_ hP5 (by decide))
    refine hK.out _ _ (⟨h56.cell 0, h66.cell 0, h76.cell 0⟩) (fun hHeld => ?_)
    clear hK K
    refine wpAnyH_done (by kernel_rfl) ?_ _
    refine NoPanic.normal ?_
    go_wp2_with fail
    go_meet
    have hf26 := hf25.trans hf56 (fun k hk e => by omega)
    exact ⟨_, some ⟨(w2.heap.size + 1), 0, none⟩, 0, rfl, hP6, (fun k x hx => by simp at hx), hf26, by omega⟩

 case rest =>
  obtain ⟨b11, LA, lc, rfl, hP3, hE3, hf23, hle⟩ := hcut
  have h5 := h5.fr hf23 id
  have h6 := h6.fr hf23 id
  have h7 := h7.fr hf23 id
  have h8 := h8.fr hf23 id
  have ht := ht.fr hf23 id
  have h10 := h10.fr hf23 id
  have hb3 := hb2.keep hf23
  have hf03 := hf02.then_ hf23
  have hsz23 := hf23.size
  clear k5 k6 k7 hf23 hf02 hb2
  have k5 := h5.cell 0
  have k6 := h6.cell 0
  have k7 := h7.cell 0
  generalize wc = w3 at *
  go_upto_region 6 with fail
  have hN3 := Blk.new w3 209 #[.nilFunc]
  have hst : (store ⟨w3.heap.size, 0, none⟩ (Value.func (.func 115) #[] #[.pointer (some ⟨w.heap.size + 1, 0, none⟩), .pointer (some ⟨w.heap.size + 1 + 1, 0, none⟩), .pointer (some ⟨b11, 0, none⟩), .pointer (some ⟨gt + 1, 0, none⟩), .pointer (some ⟨w.heap.size, 0, none⟩), .pointer (some ⟨w3.heap.size, 0, none⟩)])).run Tryz.prog (w3.alloc (Obj.cells #[.nilFunc] 209)) = .ok () ((w3.alloc (Obj.cells #[.nilFunc] 209)).setCell ⟨w3.heap.size, 0, none⟩ (Value.func (.func 115) #[] #[.pointer (some ⟨w.heap.size + 1, 0, none⟩), .pointer (some ⟨w.heap.size + 1 + 1, 0, none⟩), .pointer (some ⟨b11, 0, none⟩), .pointer (some ⟨gt + 1, 0, none⟩), .pointer (some ⟨w.heap.size, 0, none⟩), .pointer (some ⟨w3.heap.size, 0, none⟩)])) := by
   have hc := hN3.cell 0
   have hz := hN3.frozen 0
   simp at hc hz
   rw [run_store Tryz.prog _ _ (Value.func (.func 115) #[] #[.pointer (some ⟨w.heap.size + 1, 0, none⟩), .pointer (some ⟨w.heap.size + 1 + 1, 0, none⟩), .pointer (some ⟨b11, 0, none⟩), .pointer (some ⟨gt + 1, 0, none⟩), .pointer (some ⟨w.heap.size, 0, none⟩), .pointer (some ⟨w3.heap.size, 0, none⟩)]) _ rfl]
   simp [hc, hz]
  go_upto_region 7 with fail
  have hF4 := Blk.new w3 209 #[(Value.func (.func 115) #[] #[.pointer (some ⟨w.heap.size + 1, 0, none⟩), .pointer (some ⟨w.heap.size + 1 + 1, 0, none⟩), .pointer (some ⟨b11, 0, none⟩), .pointer (some ⟨gt + 1, 0, none⟩), .pointer (some ⟨w.heap.size, 0, none⟩), .pointer (some ⟨w3.heap.size, 0, none⟩)])]
  have hf34 : Fr (fun _ => False) w3 (w3.alloc (Obj.cells #[(Value.func (.func 115) #[] #[.pointer (some ⟨w.heap.size + 1, 0, none⟩), .pointer (some ⟨w.heap.size + 1 + 1, 0, none⟩), .pointer (some ⟨b11, 0, none⟩), .pointer (some ⟨gt + 1, 0, none⟩), .pointer (some ⟨w.heap.size, 0, none⟩), .pointer (some ⟨w3.heap.size, 0, none⟩)])] 209)) := (Fr.refl (fun _ => False) w3).alloc _
  clear hst hN3
  generalize w3.alloc (Obj.cells #[(Value.func (.func 115) #[] #[.pointer (some ⟨w.heap.size + 1, 0, none⟩), .pointer (some ⟨w.heap.size + 1 + 1, 0, none⟩), .pointer (some ⟨b11, 0, none⟩), .pointer (some ⟨gt + 1, 0, none⟩), .pointer (some ⟨w.heap.size, 0, none⟩), .pointer (some ⟨w3.heap.size, 0, none⟩)])] 209) = w4 at *
  obtain ⟨bd, hbd⟩ : ∃ x, w3.heap.size = x := ⟨_, rfl⟩
  rw [hbd] at hF4 ⊢
  clear hbd k5 k6 k7
  have h5 := h5.fr hf34 id
  have h6 := h6.fr hf34 id
  have h7 := h7.fr hf34 id
  have h8 := h8.fr hf34 id
  have ht := ht.fr hf34 id
  have h10 := h10.fr hf34 id
  have hP4 := hP3.fr hf34 id
  have hb4 := hb3.keep hf34
  have hE4 := hE3.fr hf34 (fun _ _ => id)
  have hf04 := hf03.then_ hf34
  have k5 := h5.cell 0
  have k6 := h6.cell 0
  have k7 := h7.cell 0
  have kd := hF4.cell 0
  have hD4 : Down w4 (w.heap.size + 1) (w.heap.size + 1 + 1) bd b11 (gt + 1) w.heap.size 0 := ⟨k6, k7, kd⟩
  have HD := Lib.hid (prove1_zero hb4 (Nat.le_trans hbase hf04.size) hL ht hD4 (h10.cell 0) k5 hP4)
  go_upto_region 8 with (go_at_call 115; refine HD.out.mono ?_; rintro e w6 ⟨rfl, v6, b6, c6, hb6, ht6, hP6, hbb6, hcc6, hf46, hk6⟩)
  have h8q := h8lt.out
  have h10 := h10.fr hf46 (fun e => by
   rcases e with e | e | e | e | e
   ·exact h10.ne_ hb4.blk (by decide) e
   ·obtain ⟨⟨es, cl, h3, _⟩, _⟩ := hb4.map
    exact h10.ne_map h3 e
   ·exact own_ne_blk hb4.own h10 (by decide) e
   ·exact h10.ne_ ht (by decide) e
   ·exact h10.ne_ hP4 (by decide) e)
  have h8 := h8.fr hf46 (fun e => by
   rcases e with e | e | e | e | e
   ·exact h8.ne_ hb4.blk (by decide) e
   ·obtain ⟨⟨es, cl, h3, _⟩, _⟩ := hb4.map
    exact h8.ne_map h3 e
   ·exact own_ne_blk hb4.own h8 (by decide) e
   ·exact h8.ne_ ht (by decide) e
   ·omega)
  have hle24 : Hid (w2.heap.size ≤ w4.heap.size) := Nat.le_trans hsz23 hf34.size
  clear hf34 hf03 hP3 hb3 hE3
  have t10 := h10.cell 0
  have t1 := ht6.cell 1
  clear h10 HD k5 k6 k7 kd
  go_wp2_with (first
   | (refine wpList_load_row rfl 60 _ rfl _ rfl _ _ (0, 0) _ hP6 Tryz.underlying60 rfl (by kernel_rfl) ?_)
   | (refine wpList_store_row rfl 60 (.tmp 8) (.tmp 70) rfl (w.heap.size + 1 + 1 + 1) #[.int .i64 ((0 : Nat) : Int), .int .i64 0, .slice LA 0 lc, .slice (some ⟨b6, 0, none⟩) 1 c6] rfl rfl 60 _ h8 (by kernel_rfl) rfl (by simp [Value.oneCell']) ?_))
  have h9 := Blk.setRow_ (ds := #[.int .i64 ((0 : Nat) : Int), .int .i64 0, .slice LA 0 lc, .slice (some ⟨b6, 0, none⟩) 1 c6]) h8
  have hfz := Fr.setRow_ (w := w6) (g := w.heap.size + 1 + 1 + 1) (ds := #[.int .i64 ((0 : Nat) : Int), .int .i64 0, .slice LA 0 lc, .slice (some ⟨b6, 0, none⟩) 1 c6])
  have n1 := hb6.blk.ne_ h8 (by decide)
  have n2 : m ≠ w.heap.size + 1 + 1 + 1 := fun e => by obtain ⟨⟨es, cl, h1, _⟩, _⟩ := hb6.map; exact h8.ne_map h1 e.symm
  have n3 := own_ne_blk hb6.own h8 (by decide)
  have hb9 := hb6.fr hfz n1 n2 (fun k hk e => n3 (e ▸ hk))
  generalize w6.setRow (w.heap.size + 1 + 1 + 1) #[.int .i64 ((0 : Nat) : Int), .int .i64 0, .slice LA 0 lc, .slice (some ⟨b6, 0, none⟩) 1 c6] = wz at *
  refine bodyPost_ret (v := .tuple #[.agg #[.int .i64 ((0 : Nat) : Int), .int .i64 0, .slice LA 0 lc, .slice (some ⟨b6, 0, none⟩) 1 c6], .nilIface]) (results_row2 Tryz.results84 _ wz (w.heap.size + 1 + 1 + 1) 60 #[.int .i64 ((0 : Nat) : Int), .int .i64 0, .slice LA 0 lc, .slice (some ⟨b6, 0, none⟩) 1 c6] (0, 0) _ rfl h9 Tryz.underlying60 rfl (by kernel_rfl) rfl) rfl ?_
  have hgt0 := hgtw.out
  have hb60 : b6 ≠ w.heap.size + 1 + 1 + 1 := fun e => by have := h8lt.out; have := hle24.out; omega
  refine ⟨LA, lc, some ⟨b6, 0, none⟩, c6, v6, rfl, fun k x hx => by simp at hx, ?_, hb9, ?_, fun k hk => (hk6 k hk).imp_right (Nat.le_trans hf04.size)⟩
  ·intro k x hx
   cases k with
   | zero => simp at hx; exact ⟨b6, 0, rfl, Nat.le_trans hf04.size hbb6, by rw [← hx]; exact hfz.cell_some hcc6 hb60⟩
   | succ k => simp at hx
  ·exact ((hf04.mono (fun _ _ h => h.elim)).trans hf46 (fun k hk e => by
    rcases e with e | e | e | e | e
    ·exact .inl e
    ·exact .inr (.inl e)
    ·exact .inr (.inr e)
    ·omega
    ·have := hle; have := hle0; omega)).trans hfz (fun k hk e => by omega)
def PutC (w : World) (t : List Int) (e : Ending) (w' : World) : Prop := ∃ v, e = .returned (.tuple #[v, .int .i64 0, .slice none 0 0]) ∧ Own8 w' w.heap.size v t ∧ Fr (fun _ => False) w w'
theorem entB_le {el : List Ent} (h : ∀ x ∈ el, x.1.size ≤ 16 ∧ x.2.1.size ≤ 64) : ∀ x ∈ el, (entB x).length ≤ 96 := fun x hx => by
 have := h x hx
 rw [entB, List.length_append, List.length_append, textB_len, textB_len, num8_length]
 omega
theorem numsB_length (l : List Int) : (numsB l).length = 4 + 8 * l.length := by rw [numsB, List.length_append, count4_length, flat_num8]
theorem ref11_PutOrder_any {w : World} {F : Nat → Prop} {kind c n G D many first : Int} {A B CA EA VA : Option Addr} {nr cr nw cw nc cc ce cv : Nat} {s : SayD} {t0 t2 : List Int} {el : List Ent} {Bs : List Int} (hlt0 : t0.length ≤ 65536) (hlt2 : t2.length ≤ 65536) (hE : EntRow w F EA el) (hV : IntF w F VA Bs) (lE : el.length ≤ 1024) (lV : Bs.length ≤ 1024) (kE : ∀ x ∈ el, x.1.size ≤ 16 ∧ x.2.1.size ≤ 64)
  (hR : ∀ w', Fr (fun _ => False) w w' → Calls Tryz.prog 62 #[.agg #[.int .i64 kind, .int .i64 c, .int .i64 n, .slice A nr cr, .slice B nw cw, .int .i64 s.kind, .int .i64 s.txn, .bool s.yes, .string s.from_, .string s.to_, .int .i64 s.epoch, .int .i64 s.shard, .int .i64 s.target, .int .i64 s.root, .int .i64 G, .int .i64 D, .slice CA nc cc, .int .i64 many, .int .i64 first, .slice EA el.length ce, .slice VA Bs.length cv]] w' (OkB w' true))
  (hT : ∀ w', Fr (fun _ => False) w w' → Calls Tryz.prog 33 #[.agg #[.int .i64 c, .int .i64 n, .slice A nr cr, .slice B nw cw]] w' (fun e w'' => ∃ x : Int, PutP w' t0 (.int .i64 x) e w''))
  (hC : ∀ w', Fr (fun _ => False) w w' → Calls Tryz.prog 93 #[.agg #[.int .i64 G, .int .i64 D, .slice CA nc cc]] w' (PutC w' t2)) :
  Calls Tryz.prog 86 #[.agg #[.int .i64 kind, .int .i64 c, .int .i64 n, .slice A nr cr, .slice B nw cw, .int .i64 s.kind, .int .i64 s.txn, .bool s.yes, .string s.from_, .string s.to_, .int .i64 s.epoch, .int .i64 s.shard, .int .i64 s.target, .int .i64 s.root, .int .i64 G, .int .i64 D, .slice CA nc cc, .int .i64 many, .int .i64 first, .slice EA el.length ce, .slice VA Bs.length cv]] w (Fresh w (ordB kind t0 (wordB s) t2 many first el Bs)) := by
 have HR := Lib.hid hR
 have HT := Lib.hid hT
 have HS := Lib.hid (fun w => ref11_Put1 w s.kind s.txn s.yes s.from_ s.to_ s.epoch s.shard s.target s.root)
 have HS : Hid (∀ w, Calls Tryz.prog 12 #[.agg #[.int .i64 s.kind, .int .i64 s.txn, .bool s.yes, .string s.from_, .string s.to_, .int .i64 s.epoch, .int .i64 s.shard, .int .i64 s.target, .int .i64 s.root]] w (Fresh w (wordB s))) := HS
 obtain ⟨t1, ht1⟩ : ∃ t, Hid (wordB s = t) := ⟨_, rfl⟩
 have hlt1 : t1.length ≤ 65536 := by rw [← ht1.out]; exact sayB_short s
 rw [ht1.out] at HS ⊢
 have HC := Lib.hid hC
 have HE := Lib.hid hE
 have HV := Lib.hid hV
 have HK := Lib.hid kE
 clear hR hT hC hE hV kE
 have hB0 := Blk.new w 62 #[.int .i64 kind, .int .i64 c, .int .i64 n, .slice A nr cr, .slice B nw cw, .int .i64 s.kind, .int .i64 s.txn, .bool s.yes, .string s.from_, .string s.to_, .int .i64 s.epoch, .int .i64 s.shard, .int .i64 s.target, .int .i64 s.root, .int .i64 G, .int .i64 D, .slice CA nc cc, .int .i64 many, .int .i64 first, .slice EA el.length ce, .slice VA Bs.length cv]
 have hf00 : Fr (fun _ => False) w (w.alloc (Obj.cells #[.int .i64 kind, .int .i64 c, .int .i64 n, .slice A nr cr, .slice B nw cw, .int .i64 s.kind, .int .i64 s.txn, .bool s.yes, .string s.from_, .string s.to_, .int .i64 s.epoch, .int .i64 s.shard, .int .i64 s.target, .int .i64 s.root, .int .i64 G, .int .i64 D, .slice CA nc cc, .int .i64 many, .int .i64 first, .slice EA el.length ce, .slice VA Bs.length cv] 62)) := (Fr.refl _ _).alloc _
 go_enter Tryz.func86, Tryz.ntmps86
 go_upto_region 1 with fail
 generalize w.alloc (Obj.cells #[.int .i64 kind, .int .i64 c, .int .i64 n, .slice A nr cr, .slice B nw cw, .int .i64 s.kind, .int .i64 s.txn, .bool s.yes, .string s.from_, .string s.to_, .int .i64 s.epoch, .int .i64 s.shard, .int .i64 s.target, .int .i64 s.root, .int .i64 G, .int .i64 D, .slice CA nc cc, .int .i64 many, .int .i64 first, .slice EA el.length ce, .slice VA Bs.length cv] 62) = w0 at *
 go_upto_region 3 with (first
  | (refine wpList_load_row rfl 62 _ rfl _ rfl _ _ (0, 0) _ hB0 Tryz.underlying62 rfl (by kernel_rfl) ?_)
  | (go_at_call 62; refine (HR.out _ hf00).mono ?_; rintro e w1 ⟨rfl, hf1⟩))
 have hB1 := hB0.fr hf1 id
 have hf01 := hf00.then_ hf1
 clear hB0 hf00 hf1 HR
 obtain ⟨g, hg⟩ : ∃ g, Hid (w1.heap.size = g) := ⟨_, rfl⟩
 have hsg : w.heap.size ≤ g := by rw [← hg.out]; exact hf01.size
 obtain ⟨b0, hb0⟩ : ∃ b : List Int, Hid (([] : List Int) = b) := ⟨_, rfl⟩
 have hbl0 : b0.length = 0 := by rw [← hb0.out]; rfl
 have hW2 : RefW (w1.alloc (Obj.cells #[.slice none 0 0, .int .i64 0, .int .i64 0] 94)) w1.heap.size w1.heap.size (.slice none 0 0) b0 none := by rw [← hb0.out]; exact ⟨Blk.new _ _ _, Own8.nil _ _⟩
 have hB2 := hB1.alloc (Obj.cells #[.slice none 0 0, .int .i64 0, .int .i64 0] 94)
 have hf02 := hf01.alloc (Obj.cells #[.slice none 0 0, .int .i64 0, .int .i64 0] 94)
 have hz2 : w1.heap.size ≤ (w1.alloc (Obj.cells #[.slice none 0 0, .int .i64 0, .int .i64 0] 94)).heap.size := by simp
 go_upto_region 4 with fail
 rw [hg.out] at hW2 hz2 ⊢
 generalize w1.alloc (Obj.cells #[.slice none 0 0, .int .i64 0, .int .i64 0] 94) = w2 at *
 clear hB1 hf01
 have k0 := hB2.cell 0
 have k1 := hB2.cell 1
 have k2 := hB2.cell 2
 have k3 := hB2.cell 3
 have k4 := hB2.cell 4
 go_wp2_with fail
 refine (refw_Num hW2 hz2 (by omega) (kind)).mono ?_
 rintro e w3 ⟨v3, rfl, hW3, hq3, _⟩
 have hW3 : RefW w3 g g v3 (b0 ++ num8 (kind)) none := hW3
 obtain ⟨b1, hb1⟩ : ∃ b, Hid (b0 ++ num8 (kind) = b) := ⟨_, rfl⟩
 rw [hb1.out] at hW3
 have hl1 : b1.length ≤ 8 := by rw [← hb1.out, List.length_append]; rw [num8_length]; omega
 have hB3 := wrote_blk hB2 hW2.blk hW2.own hq3 (by decide) (by decide)
 have hf03 := wrote_fr hf02 hW2.own hsg hsg hq3
 have hz3 : g ≤ w3.heap.size := Nat.le_of_lt hW3.blk.lt
 clear hq3 hW2 hB2 hf02 hz2
 have k1 := hB3.cell 1
 have k2 := hB3.cell 2
 have k3 := hB3.cell 3
 have k4 := hB3.cell 4
 go_upto_region 6 with (go_at_call 33; refine (HT.out _ hf03).mono ?_; rintro e w4 ⟨x4, u4, rfl, hu4, hf4⟩; obtain ⟨A4, c4, rfl, _, hr4⟩ := hu4.form)
 have hW4 := hW3.fr hf4 id (fun _ _ => id)
 have hB4 := hB3.fr hf4 id
 have hf04 := hf03.then_ hf4
 have hz4 : g ≤ w4.heap.size := Nat.le_trans hz3 hf4.size
 have hap := own8_apart hW3.own (Nat.le_refl _) hu4
 have HX := refw_Text (cap := c4) hW4 hz4 hr4 hap (by omega) (.inl (by omega))
 rw [if_pos hlt0] at HX
 have HX := Lib.hid HX
 clear hW3 hB3 hf03 hz3 hu4 hr4 hf4 hap HT
 go_upto_region 7 with (go_at_call 35; refine HX.out.mono ?_; rintro e w5 ⟨v5, rfl, hW5, hq5, _⟩)
 have hW5 : RefW w5 g g v5 (b1 ++ textB t0) none := hW5
 obtain ⟨b2, hb2⟩ : ∃ b, Hid (b1 ++ textB t0 = b) := ⟨_, rfl⟩
 rw [hb2.out] at hW5
 have hl2 : b2.length ≤ 70000 := by rw [← hb2.out, List.length_append]; simp [textB, count4_length]; omega
 have hB5 := wrote_blk hB4 hW4.blk hW4.own hq5 (by decide) (by decide)
 have hf05 := wrote_fr hf04 hW4.own hsg hsg hq5
 have hz5 : g ≤ w5.heap.size := Nat.le_of_lt hW5.blk.lt
 clear hq5 hW4 hB4 hf04 hz4
 have k5 := hB5.cell 5
 have k6 := hB5.cell 6
 have k7 := hB5.cell 7
 have k8 := hB5.cell 8
 have k9 := hB5.cell 9
 have k10 := hB5.cell 10
 have k11 := hB5.cell 11
 have k12 := hB5.cell 12
 have k13 := hB5.cell 13
 go_wp2_with fail
 refine (HS.out _).mono ?_
 rintro e w6 ⟨u6, rfl, hu6, hf6⟩
 obtain ⟨A6, c6, rfl, _, hr6⟩ := hu6.form
 have hW6 := hW5.fr hf6 id (fun _ _ => id)
 have hB6 := hB5.fr hf6 id
 have hf06 := hf05.then_ hf6
 have hz6 : g ≤ w6.heap.size := Nat.le_trans hz5 hf6.size
 have hap := own8_apart hW5.own (Nat.le_refl _) hu6
 have HX := refw_Text (cap := c6) hW6 hz6 hr6 hap (by omega) (.inl (by omega))
 rw [if_pos hlt1] at HX
 have HX := Lib.hid HX
 clear hW5 hB5 hf05 hz5 hu6 hr6 hf6 hap HS
 go_upto_region 8 with (go_at_call 35; refine HX.out.mono ?_; rintro e w7 ⟨v7, rfl, hW7, hq7, _⟩)
 have hW7 : RefW w7 g g v7 (b2 ++ textB t1) none := hW7
 obtain ⟨b3, hb3⟩ : ∃ b, Hid (b2 ++ textB t1 = b) := ⟨_, rfl⟩
 rw [hb3.out] at hW7
 have hl3 : b3.length ≤ 140000 := by rw [← hb3.out, List.length_append]; simp [textB, count4_length]; omega
 have hB7 := wrote_blk hB6 hW6.blk hW6.own hq7 (by decide) (by decide)
 have hf07 := wrote_fr hf06 hW6.own hsg hsg hq7
 have hz7 : g ≤ w7.heap.size := Nat.le_of_lt hW7.blk.lt
 clear hq7 hW6 hB6 hf06 hz6
 have k14 := hB7.cell 14
 have k15 := hB7.cell 15
 have k16 := hB7.cell 16
 go_upto_region 9 with (go_at_call 93; refine (HC.out _ hf07).mono ?_; rintro e w8 ⟨u8, rfl, hu8, hf8⟩; obtain ⟨A8, c8, rfl, _, hr8⟩ := hu8.form)
 have hW8 := hW7.fr hf8 id (fun _ _ => id)
 have hB8 := hB7.fr hf8 id
 have hf08 := hf07.then_ hf8
 have hz8 : g ≤ w8.heap.size := Nat.le_trans hz7 hf8.size
 have hap := own8_apart hW7.own (Nat.le_refl _) hu8
 have HX := refw_Text (cap := c8) hW8 hz8 hr8 hap (by omega) (.inl (by omega))
 rw [if_pos hlt2] at HX
 have HX := Lib.hid HX
 clear hW7 hB7 hf07 hz7 hu8 hr8 hf8 hap HC
 go_upto_region 10 with (go_at_call 35; refine HX.out.mono ?_; rintro e w9 ⟨v9, rfl, hW9, hq9, _⟩)
 have hW9 : RefW w9 g g v9 (b3 ++ textB t2) none := hW9
 obtain ⟨b4, hb4⟩ : ∃ b, Hid (b3 ++ textB t2 = b) := ⟨_, rfl⟩
 rw [hb4.out] at hW9
 have hl4 : b4.length ≤ 210000 := by rw [← hb4.out, List.length_append]; simp [textB, count4_length]; omega
 have hB9 := wrote_blk hB8 hW8.blk hW8.own hq9 (by decide) (by decide)
 have hf09 := wrote_fr hf08 hW8.own hsg hsg hq9
 have hz9 : g ≤ w9.heap.size := Nat.le_of_lt hW9.blk.lt
 clear hq9 hW8 hB8 hf08 hz8
 have k17 := hB9.cell 17
 have k18 := hB9.cell 18
 have k19 := hB9.cell 19
 go_wp2_with fail
 refine (refw_Num hW9 hz9 (by omega) (many)).mono ?_
 rintro e w10 ⟨v10, rfl, hW10, hq10, _⟩
 have hW10 : RefW w10 g g v10 (b4 ++ num8 (many)) none := hW10
 obtain ⟨b5, hb5⟩ : ∃ b, Hid (b4 ++ num8 (many) = b) := ⟨_, rfl⟩
 rw [hb5.out] at hW10
 have hl5 : b5.length ≤ 210010 := by rw [← hb5.out, List.length_append]; rw [num8_length]; omega
 have hB10 := wrote_blk hB9 hW9.blk hW9.own hq10 (by decide) (by decide)
 have hf010 := wrote_fr hf09 hW9.own hsg hsg hq10
 have hz10 : g ≤ w10.heap.size := Nat.le_of_lt hW10.blk.lt
 clear hq10 hW9 hB9 hf09 hz9
 have k17 := hB10.cell 17
 have k18 := hB10.cell 18
 have k19 := hB10.cell 19
 go_wp2_with fail
 refine (refw_Num hW10 hz10 (by omega) (first)).mono ?_
 rintro e w11 ⟨v11, rfl, hW11, hq11, _⟩
 have hW11 : RefW w11 g g v11 (b5 ++ num8 (first)) none := hW11
 obtain ⟨b6, hb6⟩ : ∃ b, Hid (b5 ++ num8 (first) = b) := ⟨_, rfl⟩
 rw [hb6.out] at hW11
 have hl6 : b6.length ≤ 210020 := by rw [← hb6.out, List.length_append]; rw [num8_length]; omega
 have hB11 := wrote_blk hB10 hW10.blk hW10.own hq11 (by decide) (by decide)
 have hf011 := wrote_fr hf010 hW10.own hsg hsg hq11
 have hz11 : g ≤ w11.heap.size := Nat.le_of_lt hW11.blk.lt
 clear hq11 hW10 hB10 hf010 hz10
 have k17 := hB11.cell 17
 have k18 := hB11.cell 18
 have k19 := hB11.cell 19
 go_wp2_with fail
 refine (refw_Num hW11 hz11 (by omega) ((el.length : Int))).mono ?_
 rintro e w12 ⟨v12, rfl, hW12, hq12, _⟩
 have hW12 : RefW w12 g g v12 (b6 ++ num8 ((el.length : Int))) none := hW12
 obtain ⟨b7, hb7⟩ : ∃ b, Hid (b6 ++ num8 ((el.length : Int)) = b) := ⟨_, rfl⟩
 rw [hb7.out] at hW12
 have hl7 : b7.length ≤ 210030 := by rw [← hb7.out, List.length_append]; rw [num8_length]; omega
 have hB12 := wrote_blk hB11 hW11.blk hW11.own hq12 (by decide) (by decide)
 have hf012 := wrote_fr hf011 hW11.own hsg hsg hq12
 have hz12 : g ≤ w12.heap.size := Nat.le_of_lt hW12.blk.lt
 clear hq12 hW11 hB11 hf011 hz11
 have k19 := hB12.cell 19
 have k20 := hB12.cell 20
 have HEB := Lib.hid (entB_le HK.out)
 obtain ⟨gB, hgB⟩ : ∃ x, Hid (w.heap.size = x) := ⟨_, rfl⟩
 have hgw : gB ≤ w.heap.size := Nat.le_of_eq hgB.out.symm
 rw [hgB.out] at hB12 ⊢
 clear k19 k20
 go_upto_region 14 with fail
 go_loopw [9] (fun ix wr => ∃ (q : Nat) (v : Value), q ≤ el.length ∧ ix = .int .i64 q ∧ RefW wr g g v (b7 ++ (el.take q).flatMap entB) none ∧ Blk wr gB 62 #[.int .i64 kind, .int .i64 c, .int .i64 n, .slice A nr cr, .slice B nw cw, .int .i64 s.kind, .int .i64 s.txn, .bool s.yes, .string s.from_, .string s.to_, .int .i64 s.epoch, .int .i64 s.shard, .int .i64 s.target, .int .i64 s.root, .int .i64 G, .int .i64 D, .slice CA nc cc, .int .i64 many, .int .i64 first, .slice EA el.length ce, .slice VA Bs.length cv] ∧ Fr (fun _ => False) w wr) (fun ix _ => el.length - (intOf ix).toNat)
 case atStart => exact ⟨0, _, by omega, rfl, by rw [List.take_zero, List.flatMap_nil, List.append_nil]; exact hW12, hB12, hf012⟩
 case round =>
  clear hW12 hB12 hf012 hz12
  obtain ⟨q, v5, hq, rfl, hW5, hB5, hf5⟩ := hrel
  have hz5 : g ≤ wr.heap.size := Nat.le_of_lt hW5.blk.lt
  have hcl := hB5.cell 19
  have hlf := flat_take_le HEB.out lE q
  have hlf : (b7 ++ (el.take q).flatMap entB).length ≤ 400000 := by rw [List.length_append]; omega
  by_cases hlt : q < el.length
  ·obtain ⟨x, hx⟩ : ∃ x, el[q]? = some x := ⟨el[q], List.getElem?_eq_getElem hlt⟩
   obtain ⟨b, o, rfl, _, e0, e1, e2⟩ := HE.out q x hx
   have d0 := hf5.cell_some e0 id
   have HX := Lib.hid hx
   have hx16 := (HK.out x (List.mem_of_getElem? hx)).1
   have hx64 := (HK.out x (List.mem_of_getElem? hx)).2
   have E1 := Lib.hid e1
   have E2 := Lib.hid e2
   clear hx e0 e1 e2
   obtain ⟨bq, hbq⟩ : ∃ b, Hid (b7 ++ (el.take q).flatMap entB = b) := ⟨_, rfl⟩
   rw [hbq.out] at hW5 hlf
   have hcs5 := run_str wr x.1
   have hws5 := hW5.fr (strW_fr wr x.1) id (fun _ _ => id)
   have hbs5 := hB5.fr (strW_fr wr x.1) id
   have hfs5 := hf5.then_ (strW_fr wr x.1)
   have hzs5 : g ≤ (strW wr x.1).heap.size := Nat.le_trans hz5 (strW_fr wr x.1).size
   have HT5 := refw_Text (cap := grownCap wr x.1.size 0 5) hws5 hzs5 (strW_row wr x.1) (fun k e1 e2 => own8_new hW5.own (e1 ▸ e2)) (by rw [bytesOf_length]; omega) (.inl (by rw [bytesOf_length]; omega))
   rw [bytesOf_length, if_pos (by omega)] at HT5
   have HT5 := Lib.hid HT5
   go_wp2_with fail
   clear hcs5
   refine HT5.out.mono ?_
   rintro e w6 ⟨v6, rfl, hW6, hq6, _⟩
   have hW6 : RefW w6 g g v6 (bq ++ textB (bytesOf x.1)) none := hW6
   have hB6 := wrote_blk hbs5 hws5.blk hws5.own hq6 (by decide) (by decide)
   have hf6 := wrote_fr hfs5 hws5.own hsg hsg hq6
   have hz6 : g ≤ w6.heap.size := Nat.le_of_lt hW6.blk.lt
   clear hq6 hW5 hB5 hf5 hws5 hbs5 hfs5 HT5 hzs5 hz5 d0
   have hcl := hB6.cell 19
   have d1 := hf6.cell_some E1.out id
   have hlb : (bq ++ textB (bytesOf x.1)).length ≤ 410000 := by rw [List.length_append, textB_len]; omega
   obtain ⟨br, hbr⟩ : ∃ b, Hid (bq ++ textB (bytesOf x.1) = b) := ⟨_, rfl⟩
   rw [hbr.out] at hW6 hlb
   have hcs6 := run_str w6 x.2.1
   have hws6 := hW6.fr (strW_fr w6 x.2.1) id (fun _ _ => id)
   have hbs6 := hB6.fr (strW_fr w6 x.2.1) id
   have hfs6 := hf6.then_ (strW_fr w6 x.2.1)
   have hzs6 : g ≤ (strW w6 x.2.1).heap.size := Nat.le_trans hz6 (strW_fr w6 x.2.1).size
   have HT6 := refw_Text (cap := grownCap w6 x.2.1.size 0 5) hws6 hzs6 (strW_row w6 x.2.1) (fun k e1 e2 => own8_new hW6.own (e1 ▸ e2)) (by rw [bytesOf_length]; omega) (.inl (by rw [bytesOf_length]; omega))
   rw [bytesOf_length, if_pos (by omega)] at HT6
   have HT6 := Lib.hid HT6
   go_wp2_with fail
   clear hcs6
   refine HT6.out.mono ?_
   rintro e w7 ⟨v7, rfl, hW7, hq7, _⟩
   have hW7 : RefW w7 g g v7 (br ++ textB (bytesOf x.2.1)) none := hW7
   have hB7 := wrote_blk hbs6 hws6.blk hws6.own hq7 (by decide) (by decide)
   have hf7 := wrote_fr hfs6 hws6.own hsg hsg hq7
   have hz7 : g ≤ w7.heap.size := Nat.le_of_lt hW7.blk.lt
   clear hq7 hW6 hB6 hf6 hws6 hbs6 hfs6 HT6 hzs6 hz6 d1
   have hcl := hB7.cell 19
   have d2 := hf7.cell_some E2.out id
   have hlb7 : (br ++ textB (bytesOf x.2.1)).length ≤ 420000 := by rw [List.length_append, textB_len]; omega
   go_wp2_with (go_at_call 34; refine (refw_Num hW7 hz7 (by omega) x.2.2).mono ?_; rintro e wn ⟨vn, rfl, hWn, hqn, _⟩)
   have hWn : RefW wn g g vn ((br ++ textB (bytesOf x.2.1)) ++ num8 x.2.2) none := hWn
   have hBn := wrote_blk hB7 hW7.blk hW7.own hqn (by decide) (by decide)
   have hfn := wrote_fr hf7 hW7.own hsg hsg hqn
   go_roundw
   case rel => exact ⟨q + 1, _, by omega, by go_num, by rw [flat_take entB HX.out, entB, ← List.append_assoc, ← List.append_assoc, ← List.append_assoc, hbq.out, hbr.out]; exact hWn, hBn, hfn⟩
   case measure => simp [intOf]; omega
  ·obtain rfl : q = el.length := by omega
   rw [List.take_length] at hW5 hlf
   obtain ⟨b8, hb8⟩ : ∃ b, Hid (b7 ++ el.flatMap entB = b) := ⟨_, rfl⟩
   rw [hb8.out] at hW5 hlf
   generalize wr = w12 at *
   clear hlt
   go_upto_region 21 with fail
   clear hcl
   go_loopw [10, 11] (fun lv i wr => ∃ k : Nat, k ≤ Bs.length ∧ i = .int .i64 k ∧ wr.ownsRow w12.heap.size 2 1 lv k (num64V (Bs.take k)) ∧ Fr (fun _ => False) w12 wr) (fun _ i _ => Bs.length - (intOf i).toNat)
   case atStart => exact ⟨0, by omega, rfl, World.ownsRow_nil _ _ _ _, Fr.refl _ _⟩
   case round =>
    obtain ⟨k, hk, rfl, hown, hf⟩ := hrel
    have hBr := hB5.fr hf id
    have hcl := hBr.cell 20
    by_cases hlt : k < Bs.length
    ·obtain ⟨x, hxx⟩ : ∃ x, Bs[k]? = some x := ⟨Bs[k], List.getElem?_eq_getElem hlt⟩
     obtain ⟨b, o, rfl, _, e0⟩ := HV.out k x hxx
     have d0 := (hf5.then_ hf).cell_some e0 id
     have HX := Lib.hid hxx
     have hgb := own_ge hown
     have hzz := hf.size
     clear hxx e0
     go_wp2_with (at_builtin; refine wpList_append1 _ rfl _ _ _ rfl w12.heap.size 2 (.int .i64 0) 8 Tryz.underlying132 int64_info rfl u10 k (num64V (Bs.take k)) rfl (own_fr hown ((Fr.refl (fun _ => False) wr).alloc _) (fun _ _ => id)) wr.heap.size (.int .i64 x) rfl ?_ rfl (by omega) (by omega) ?_ ?_; (· simp); (· simp; omega); intro g3 c3 w3 hown3 hf3)
     have hfa : Fr (fun _ => False) wr (wr.alloc (Obj.cells #[.int .i64 x] 2)) := (Fr.refl _ _).alloc _
     have hf13 : Fr (fun _ => False) w12 w3 := (hf.then_ hfa).trans hf3 (fun q hq e => by have := hgb q e; omega)
     go_roundw
     case rel =>
      have e1 : num64V (Bs.take (k + 1)) = num64V (Bs.take k) ++ [.int .i64 x] := by
       obtain ⟨h1, h2⟩ := List.getElem?_eq_some_iff.1 HX.out
       rw [List.take_succ_eq_append_getElem h1, h2, num64V, num64V, List.map_append]
       rfl
      exact ⟨k + 1, by omega, by go_num, by rw [e1]; exact hown3, hf13⟩
     case measure => simp [intOf]; omega
    ·obtain rfl : k = Bs.length := by omega
     rw [List.take_length] at hown
     have hWr := hW5.fr hf id (fun _ _ => id)
     have hf0r := hf5.then_ hf
     have hzr : g ≤ wr.heap.size := Nat.le_of_lt hWr.blk.lt
     obtain ⟨NA, nc', hnv, hNR⟩ := NumRow.of_own hown
     have hng : ∀ k, u10.ownBlock = some k → w12.heap.size ≤ k := own_ge hown
     have hgl12 : g < w12.heap.size := hW5.blk.lt
     have hvl := fun k (hk : v5.ownBlock = some k) => hW5.own.lt k hk
     have HN := refw_Nums (cap := nc') hWr hzr hNR (fun k hk e => by have h1 := hng k hk; have h2 := hvl k e; omega) (fun h => by have := hng g h; omega) (by omega) (.inl (by rw [numsB_length]; omega))
     rw [if_pos lV] at HN
     have HN : Hid (Calls Tryz.prog 119 #[.pointer (some ⟨g, 0, none⟩), .slice NA Bs.length nc'] wr (RWrote wr g g v5 (b8 ++ numsB Bs) none)) := HN
     subst hnv
     obtain ⟨b9, hb9⟩ : ∃ b, Hid (b8 ++ numsB Bs = b) := ⟨_, rfl⟩
     rw [hb9.out] at HN
     have hl9 : b9.length ≤ 500000 := by rw [← hb9.out, List.length_append, numsB_length]; omega
     clear hNR hown hBr hlt hvl hng
     go_upto_region 25 with (go_at_call 119; refine HN.out.mono ?_; rintro e w14 ⟨v14, rfl, hW14, hq14, _⟩)
     have hf014 := wrote_fr hf0r hWr.own hsg hsg hq14
     have HY := Lib.hid (refw_Bytes hW14 (by omega))
     go_wp2_with (go_at_call 36; refine HY.out.mono ?_; rintro e w15 ⟨v15, rfl, hv15, hf15⟩)
     go_ret
     have hv15 : Own8 w15 w14.heap.size v15 b9 := hv15
     have he : ordB kind t0 t1 t2 many first el Bs = b9 := by
      unfold ordB
      rw [← hb9.out, ← hb8.out, ← hb7.out, ← hb6.out, ← hb5.out, ← hb4.out, ← hb3.out, ← hb2.out, ← hb1.out, ← hb0.out, List.nil_append]
      simp only [List.append_assoc]
     rw [he]
     exact ⟨v15, rfl, hv15.base_ hf014.size, hf014.then_ hf15⟩
end Go.Proofs.YtmkdhhhoodeemaaGreat
namespace Go.Proofs.YtmkdhhhoodeemaaGreat
open Go Go.RowKit
attribute [local go_sem ↓] run_neqSay run_eqlSay
theorem ref11_rightProof {w : World} {F : Nat → Prop} {many first : Int} {EA VA : Option Addr} {ce cv : Nat} {L : List (ByteArray × ByteArray × Int)} {Bs : List Int} (hE : EntRow w F EA L) (hV : IntF w F VA Bs)
  (m0 : 0 ≤ many) (m1 : many ≤ 1024) (f0 : 0 ≤ first) (f1 : first ≤ 1024) (lL : L.length ≤ 1024) (eL : ∀ x ∈ L, x.1.size ≤ 16 ∧ x.2.1.size ≤ 64) (lB : Bs.length ≤ 1024) (eB : ∀ y ∈ Bs, 0 ≤ y ∧ y ≤ 2147483647) :
  Calls Tryz.prog 94 #[.agg #[.int .i64 many, .int .i64 first, .slice EA L.length ce, .slice VA Bs.length cv]] w (OkB w true) := by
 have hB0 := Blk.new w 60 #[.int .i64 many, .int .i64 first, .slice EA L.length ce, .slice VA Bs.length cv]
 have hf0 : Fr (fun _ => False) w (w.alloc (Obj.cells #[.int .i64 many, .int .i64 first, .slice EA L.length ce, .slice VA Bs.length cv] 60)) := (Fr.refl _ _).alloc _
 have HE := Lib.hid hE
 have HV := Lib.hid hV
 have EL := Lib.hid eL
 have EB := Lib.hid eB
 clear hE hV eL eB
 have p1 : ¬ many < 0 := by omega
 have p2 : ¬ 1024 < many := by omega
 have p3 : ¬ first < 0 := by omega
 have p4 : ¬ 1024 < first := by omega
 have p5 : ¬ (1024 : Int) < (Bs.length : Int) := by omega
 have p6 : ¬ (1024 : Int) < (L.length : Int) := by omega
 go_enter Tryz.func94, Tryz.ntmps94
 go_upto_region 1 with fail
 generalize w.alloc (Obj.cells #[.int .i64 many, .int .i64 first, .slice EA L.length ce, .slice VA Bs.length cv] 60) = w0 at *
 have k0 := hB0.cell 0
 have k1 := hB0.cell 1
 have k2 := hB0.cell 2
 have k3 := hB0.cell 3
 go_upto_region 4 with fail
 clear k0 k1
 go_loopw [3] (fun i wr => ∃ k : Nat, k ≤ Bs.length ∧ i = .int .i64 k ∧ Fr (fun _ => False) w0 wr) (fun i _ => Bs.length - (intOf i).toNat)
 case atStart => exact ⟨0, by omega, rfl, Fr.refl _ _⟩
 case round =>
  obtain ⟨k, hk, rfl, hf⟩ := hrel
  have hBr := hB0.fr hf id
  clear k2 k3
  have k3 := hBr.cell 3
  by_cases hlt : k < Bs.length
  ·have hlt' : (k : Int) < (Bs.length : Int) := by omega
   obtain ⟨x, hx⟩ : ∃ x, Bs[k]? = some x := ⟨Bs[k], List.getElem?_eq_getElem hlt⟩
   have hx0 := EB.out x (List.mem_of_getElem? hx)
   obtain ⟨b, o, rfl, _, hc⟩ := (HV.out.fr (hf0.then_ hf) (fun _ _ => id)) k x hx
   have q1 : ¬ x < 0 := by omega
   have q2 : ¬ 2147483647 < x := by omega
   clear hx
   go_wp2_with fail
   go_roundw
   case rel => exact ⟨k + 1, by omega, by go_num, hf⟩
   case measure => simp [intOf]; omega
  ·obtain rfl : k = Bs.length := by omega
   go_upto_region 9 with fail
   go_loopw [4] (fun i w2 => ∃ k : Nat, k ≤ L.length ∧ i = .int .i64 k ∧ Fr (fun _ => False) wr w2) (fun i _ => L.length - (intOf i).toNat)
   case atStart => exact ⟨0, by omega, rfl, Fr.refl _ _⟩
   case round =>
    obtain ⟨k, hk, rfl, hf2⟩ := hrel
    have hBs := hBr.fr hf2 id
    clear k3
    have k2 := hBs.cell 2
    by_cases hlt : k < L.length
    ·have hlt' : (k : Int) < (L.length : Int) := by omega
     obtain ⟨x, hx⟩ : ∃ x, L[k]? = some x := ⟨L[k], List.getElem?_eq_getElem hlt⟩
     have hx0 := EL.out x (List.mem_of_getElem? hx)
     obtain ⟨b, o, rfl, _, hc1, hc2, _⟩ := (HE.out.fr ((hf0.then_ hf).then_ hf2) (fun _ _ => id)) k x hx
     have q1 : ¬ (16 : Int) < (x.1.size : Int) := by omega
     have q2 : ¬ (64 : Int) < (x.2.1.size : Int) := by omega
     clear hx
     go_wp2_with fail
     go_roundw
     case rel => exact ⟨k + 1, by omega, by go_num, hf2⟩
     case measure => simp [intOf]; omega
    ·obtain rfl : k = L.length := by omega
     go_wp2
     go_ret
     exact ⟨rfl, (hf0.then_ hf).then_ hf2⟩
theorem ref11_RightOrder {w : World} {F : Nat → Prop} {kind c n G D many first : Int} {RA WA CA EA VA : Option Addr} {cr cw cc ce cv : Nat} {R : List (ByteArray × Int)} {W : List (ByteArray × ByteArray)} {s : SayD} {S Bs : List Int} {L : List (ByteArray × ByteArray × Int)}
  (hr : ReadRow w F RA R) (hw : WriteRow w F WA W) (hS : IntF w F CA S) (hE : EntRow w F EA L) (hV : IntF w F VA Bs)
  (hk1 : 1 ≤ kind) (hk2 : kind ≤ 10) (hT : ((kind = 1 ∨ kind = 6) ∧ TOk c n R W) ∨ ((¬ kind = 1 ∧ ¬ kind = 6) ∧ c = 0 ∧ n = 0 ∧ R = [] ∧ W = [])) (hSay : ZSay s ∨ OkSay s)
  (lS : S.length ≤ 1024) (hG : 0 ≤ G ∧ G ≤ 2147483647) (hD : 0 ≤ D ∧ D ≤ 2147483647) (eS : ∀ y ∈ S, 0 ≤ y ∧ y ≤ 2147483647)
  (m0 : 0 ≤ many) (m1 : many ≤ 1024) (f0 : 0 ≤ first) (f1 : first ≤ 1024) (lL : L.length ≤ 1024) (eL : ∀ x ∈ L, x.1.size ≤ 16 ∧ x.2.1.size ≤ 64) (lB : Bs.length ≤ 1024) (eB : ∀ y ∈ Bs, 0 ≤ y ∧ y ≤ 2147483647) :
  Calls Tryz.prog 62 #[.agg #[.int .i64 kind, .int .i64 c, .int .i64 n, .slice RA R.length cr, .slice WA W.length cw, .int .i64 s.kind, .int .i64 s.txn, .bool s.yes, .string s.from_, .string s.to_, .int .i64 s.epoch, .int .i64 s.shard, .int .i64 s.target, .int .i64 s.root, .int .i64 G, .int .i64 D, .slice CA S.length cc, .int .i64 many, .int .i64 first, .slice EA L.length ce, .slice VA Bs.length cv]] w (OkB w true) := by
 have HPf := Lib.hid (fun w' (hf : Fr (fun _ => False) w w') => ref11_rightProof (w := w') (ce := ce) (cv := cv) (hE.fr hf (fun _ _ => id)) (hV.fr hf (fun _ _ => id)) m0 m1 f0 f1 lL eL lB eB)
 have HPut := Lib.hid (fun w' (hf : Fr (fun _ => False) w w') => ref05_Put (w := w') (cc := cc) (G := G) (D := D) (hS.fr hf (fun _ _ => id)) lS)
 have HGet := Lib.hid (fun w' A cap (hr : ByteRow w' (U8 w') A (certG G D S)) => ref05_Get (cap := cap) hr lS hG hD eS)
 obtain ⟨cb, hcb⟩ : ∃ b, Hid (certG G D S = b) := ⟨_, rfl⟩
 rw [hcb.out] at HPut HGet
 have HPut : Hid (∀ w' (hf : Fr (fun _ => False) w w'), Calls Tryz.prog 93 #[.agg #[.int .i64 G, .int .i64 D, .slice CA S.length cc]] w' (fun e w'' => ∃ v, e = .returned (.tuple #[v, .int .i64 0, .slice none 0 0]) ∧ Own8 w'' w'.heap.size v cb ∧ Fr (fun _ => False) w' w'')) := HPut
 have HGet : Hid (∀ w' A cap (hr : ByteRow w' (U8 w') A cb), Calls Tryz.prog 61 #[.slice A cb.length cap] w' (CertGot w' G D S)) := HGet
 have HRt := fun w' (hf : Fr (fun _ => False) w w') => ref10_Right (w := w') (cr := cr) (cw := cw) (c := c) (n := n) (hr.fr hf (fun _ _ => id)) (hw.fr hf (fun _ _ => id))
 have HSm := fun w' (hf : Fr (fun _ => False) w w') (lR : R.length ≤ 1000) (lW : W.length ≤ 1000) => ref10_Same (w := w') (F := F) (A' := none) (B' := none) (cr := cr) (cw := cw) (cr' := 0) (cw' := 0) (c := c) (n := n) (c' := 0) (n' := 0) (R' := []) (W' := []) (hr.fr hf (fun _ _ => id)) (hw.fr hf (fun _ _ => id)) (fun k x h => by simp at h) (fun k x h => by simp at h) lR lW
 have HRs := fun w => ref11_Right1 w s.kind s.txn s.yes s.from_ s.to_ s.epoch s.shard s.target s.root
 have HRs : ∀ w, Calls Tryz.prog 29 #[.agg #[.int .i64 s.kind, .int .i64 s.txn, .bool s.yes, .string s.from_, .string s.to_, .int .i64 s.epoch, .int .i64 s.shard, .int .i64 s.target, .int .i64 s.root]] w (Bool1 w (decide (OkSay s))) := HRs
 have hB0 := Blk.new w 62 #[.int .i64 kind, .int .i64 c, .int .i64 n, .slice RA R.length cr, .slice WA W.length cw, .int .i64 s.kind, .int .i64 s.txn, .bool s.yes, .string s.from_, .string s.to_, .int .i64 s.epoch, .int .i64 s.shard, .int .i64 s.target, .int .i64 s.root, .int .i64 G, .int .i64 D, .slice CA S.length cc, .int .i64 many, .int .i64 first, .slice EA L.length ce, .slice VA Bs.length cv]
 have hf0 : Fr (fun _ => False) w (w.alloc (Obj.cells #[.int .i64 kind, .int .i64 c, .int .i64 n, .slice RA R.length cr, .slice WA W.length cw, .int .i64 s.kind, .int .i64 s.txn, .bool s.yes, .string s.from_, .string s.to_, .int .i64 s.epoch, .int .i64 s.shard, .int .i64 s.target, .int .i64 s.root, .int .i64 G, .int .i64 D, .slice CA S.length cc, .int .i64 many, .int .i64 first, .slice EA L.length ce, .slice VA Bs.length cv] 62)) := (Fr.refl _ _).alloc _
 have hd1 : ¬ kind < 1 := by omega
 have hd2 : ¬ 10 < kind := by omega
 clear hr hw hS hE hV lS hG hD eS m0 m1 f0 f1 lL eL lB eB hk1 hk2
 rcases hT with ⟨rfl | rfl, hok⟩ | ⟨⟨q1, q6⟩, rfl, rfl, rfl, rfl⟩
 ·rcases hSay with hzs | hos
  ·rw [decide_eq_true hok] at HRt
   have HRt := Lib.hid HRt
   clear HSm hok
   have hz : zeroSay ⟨s.kind, s.txn, s.yes, s.from_, s.to_, s.epoch, s.shard, s.target, s.root⟩ = true := (zeroSay_iff s).2 hzs
   clear hzs HRs
   go_enter Tryz.func62, Tryz.ntmps62
   go_upto_region 1 with fail
   have hB0 : Blk (w.alloc (Obj.cells #[.int .i64 1, .int .i64 c, .int .i64 n, .slice RA R.length cr, .slice WA W.length cw, .int .i64 s.kind, .int .i64 s.txn, .bool s.yes, .string s.from_, .string s.to_, .int .i64 s.epoch, .int .i64 s.shard, .int .i64 s.target, .int .i64 s.root, .int .i64 G, .int .i64 D, .slice CA S.length cc, .int .i64 many, .int .i64 first, .slice EA L.length ce, .slice VA Bs.length cv] 62)) w.heap.size 62 #[.int .i64 1, .int .i64 c, .int .i64 n, .slice RA R.length cr, .slice WA W.length cw, .int .i64 s.kind, .int .i64 s.txn, .bool s.yes, .string s.from_, .string s.to_, .int .i64 s.epoch, .int .i64 s.shard, .int .i64 s.target, .int .i64 s.root, .int .i64 G, .int .i64 D, .slice CA S.length cc, .int .i64 many, .int .i64 first, .slice EA L.length ce, .slice VA Bs.length cv] := hB0
   have hf0 : Fr (fun _ => False) w (w.alloc (Obj.cells #[.int .i64 1, .int .i64 c, .int .i64 n, .slice RA R.length cr, .slice WA W.length cw, .int .i64 s.kind, .int .i64 s.txn, .bool s.yes, .string s.from_, .string s.to_, .int .i64 s.epoch, .int .i64 s.shard, .int .i64 s.target, .int .i64 s.root, .int .i64 G, .int .i64 D, .slice CA S.length cc, .int .i64 many, .int .i64 first, .slice EA L.length ce, .slice VA Bs.length cv] 62)) := hf0
   generalize w.alloc (Obj.cells #[.int .i64 1, .int .i64 c, .int .i64 n, .slice RA R.length cr, .slice WA W.length cw, .int .i64 s.kind, .int .i64 s.txn, .bool s.yes, .string s.from_, .string s.to_, .int .i64 s.epoch, .int .i64 s.shard, .int .i64 s.target, .int .i64 s.root, .int .i64 G, .int .i64 D, .slice CA S.length cc, .int .i64 many, .int .i64 first, .slice EA L.length ce, .slice VA Bs.length cv] 62) = w0 at *
   have k0 := hB0.cell 0
   have k1 := hB0.cell 1
   have k2 := hB0.cell 2
   have k3 := hB0.cell 3
   have k4 := hB0.cell 4
   have k5 := hB0.cell 5
   have k6 := hB0.cell 6
   have k7 := hB0.cell 7
   have k8 := hB0.cell 8
   have k9 := hB0.cell 9
   have k10 := hB0.cell 10
   have k11 := hB0.cell 11
   have k12 := hB0.cell 12
   have k13 := hB0.cell 13
   go_upto_region 8 with (go_at_call 30; refine (HRt.out _ hf0).mono ?_; rintro e w1 ⟨rfl, hf01⟩)
   have hB1 := hB0.fr hf01 id
   have hf1 := hf0.then_ hf01
   clear hB0 hf0 hf01 k0 k1 k2 k3 k4 k5 k6 k7 k8 k9 k10 k11 k12 k13
   have k5 := hB1.cell 5
   have k6 := hB1.cell 6
   have k7 := hB1.cell 7
   have k8 := hB1.cell 8
   have k9 := hB1.cell 9
   have k10 := hB1.cell 10
   have k11 := hB1.cell 11
   have k12 := hB1.cell 12
   have k13 := hB1.cell 13
   go_upto_region 10 with fail
   have hB2 := hB1
   have hf2 := hf1
   generalize w1 = w2 at *
   clear hB1 hf1 k5 k6 k7 k8 k9 k10 k11 k12 k13
   have k14 := hB2.cell 14
   have k15 := hB2.cell 15
   have k16 := hB2.cell 16
   go_upto_region 11 with (go_at_call 93; refine (HPut.out _ hf2).mono ?_; rintro e w3 ⟨v3, rfl, hv3, hf3⟩; obtain ⟨A3, c3, rfl, _, hr3⟩ := hv3.u8row)
   have HG := Lib.hid (HGet.out _ _ c3 hr3)
   clear hr3
   go_upto_region 16 with (go_at_call 61; refine HG.out.mono ?_; rintro e w4 ⟨CX, cx, rfl, _, hf4⟩)
   have hB4 := (hB2.fr hf3 id).fr hf4 id
   have hf04 := (hf2.then_ hf3).then_ hf4
   clear k14 k15 k16
   have k17 := hB4.cell 17
   have k18 := hB4.cell 18
   have k19 := hB4.cell 19
   have k20 := hB4.cell 20
   go_wp2_with (go_at_call 94; refine (HPf.out _ hf04).mono ?_; rintro e w5 ⟨rfl, hf5⟩)
   go_ret
   exact ⟨rfl, hf04.then_ hf5⟩
  ·rw [decide_eq_true hok] at HRt
   have HRt := Lib.hid HRt
   clear HSm hok
   have hz : zeroSay ⟨s.kind, s.txn, s.yes, s.from_, s.to_, s.epoch, s.shard, s.target, s.root⟩ = false := by
    have : ¬ zeroSay s = true := fun e => by have e := (zeroSay_iff s).1 e; rw [e] at hos; exact hos.1 (by decide)
    simpa using this
   simp only [hos, decide_true] at HRs
   have HRs := Lib.hid HRs
   clear hos
   go_enter Tryz.func62, Tryz.ntmps62
   go_upto_region 1 with fail
   have hB0 : Blk (w.alloc (Obj.cells #[.int .i64 1, .int .i64 c, .int .i64 n, .slice RA R.length cr, .slice WA W.length cw, .int .i64 s.kind, .int .i64 s.txn, .bool s.yes, .string s.from_, .string s.to_, .int .i64 s.epoch, .int .i64 s.shard, .int .i64 s.target, .int .i64 s.root, .int .i64 G, .int .i64 D, .slice CA S.length cc, .int .i64 many, .int .i64 first, .slice EA L.length ce, .slice VA Bs.length cv] 62)) w.heap.size 62 #[.int .i64 1, .int .i64 c, .int .i64 n, .slice RA R.length cr, .slice WA W.length cw, .int .i64 s.kind, .int .i64 s.txn, .bool s.yes, .string s.from_, .string s.to_, .int .i64 s.epoch, .int .i64 s.shard, .int .i64 s.target, .int .i64 s.root, .int .i64 G, .int .i64 D, .slice CA S.length cc, .int .i64 many, .int .i64 first, .slice EA L.length ce, .slice VA Bs.length cv] := hB0
   have hf0 : Fr (fun _ => False) w (w.alloc (Obj.cells #[.int .i64 1, .int .i64 c, .int .i64 n, .slice RA R.length cr, .slice WA W.length cw, .int .i64 s.kind, .int .i64 s.txn, .bool s.yes, .string s.from_, .string s.to_, .int .i64 s.epoch, .int .i64 s.shard, .int .i64 s.target, .int .i64 s.root, .int .i64 G, .int .i64 D, .slice CA S.length cc, .int .i64 many, .int .i64 first, .slice EA L.length ce, .slice VA Bs.length cv] 62)) := hf0
   generalize w.alloc (Obj.cells #[.int .i64 1, .int .i64 c, .int .i64 n, .slice RA R.length cr, .slice WA W.length cw, .int .i64 s.kind, .int .i64 s.txn, .bool s.yes, .string s.from_, .string s.to_, .int .i64 s.epoch, .int .i64 s.shard, .int .i64 s.target, .int .i64 s.root, .int .i64 G, .int .i64 D, .slice CA S.length cc, .int .i64 many, .int .i64 first, .slice EA L.length ce, .slice VA Bs.length cv] 62) = w0 at *
   have k0 := hB0.cell 0
   have k1 := hB0.cell 1
   have k2 := hB0.cell 2
   have k3 := hB0.cell 3
   have k4 := hB0.cell 4
   have k5 := hB0.cell 5
   have k6 := hB0.cell 6
   have k7 := hB0.cell 7
   have k8 := hB0.cell 8
   have k9 := hB0.cell 9
   have k10 := hB0.cell 10
   have k11 := hB0.cell 11
   have k12 := hB0.cell 12
   have k13 := hB0.cell 13
   go_upto_region 8 with (go_at_call 30; refine (HRt.out _ hf0).mono ?_; rintro e w1 ⟨rfl, hf01⟩)
   have hB1 := hB0.fr hf01 id
   have hf1 := hf0.then_ hf01
   clear hB0 hf0 hf01 k0 k1 k2 k3 k4 k5 k6 k7 k8 k9 k10 k11 k12 k13
   have k5 := hB1.cell 5
   have k6 := hB1.cell 6
   have k7 := hB1.cell 7
   have k8 := hB1.cell 8
   have k9 := hB1.cell 9
   have k10 := hB1.cell 10
   have k11 := hB1.cell 11
   have k12 := hB1.cell 12
   have k13 := hB1.cell 13
   go_upto_region 10 with (go_at_call 29; refine (HRs.out _).mono ?_; rintro e w2 ⟨rfl, hf12⟩)
   have hB2 := hB1.fr hf12 id
   have hf2 := hf1.then_ hf12
   clear hB1 hf1 k5 k6 k7 k8 k9 k10 k11 k12 k13
   have k14 := hB2.cell 14
   have k15 := hB2.cell 15
   have k16 := hB2.cell 16
   go_upto_region 11 with (go_at_call 93; refine (HPut.out _ hf2).mono ?_; rintro e w3 ⟨v3, rfl, hv3, hf3⟩; obtain ⟨A3, c3, rfl, _, hr3⟩ := hv3.u8row)
   have HG := Lib.hid (HGet.out _ _ c3 hr3)
   clear hr3
   go_upto_region 16 with (go_at_call 61; refine HG.out.mono ?_; rintro e w4 ⟨CX, cx, rfl, _, hf4⟩)
   have hB4 := (hB2.fr hf3 id).fr hf4 id
   have hf04 := (hf2.then_ hf3).then_ hf4
   clear k14 k15 k16
   have k17 := hB4.cell 17
   have k18 := hB4.cell 18
   have k19 := hB4.cell 19
   have k20 := hB4.cell 20
   go_wp2_with (go_at_call 94; refine (HPf.out _ hf04).mono ?_; rintro e w5 ⟨rfl, hf5⟩)
   go_ret
   exact ⟨rfl, hf04.then_ hf5⟩
 ·rcases hSay with hzs | hos
  ·rw [decide_eq_true hok] at HRt
   have HRt := Lib.hid HRt
   clear HSm hok
   have hz : zeroSay ⟨s.kind, s.txn, s.yes, s.from_, s.to_, s.epoch, s.shard, s.target, s.root⟩ = true := (zeroSay_iff s).2 hzs
   clear hzs HRs
   go_enter Tryz.func62, Tryz.ntmps62
   go_upto_region 1 with fail
   have hB0 : Blk (w.alloc (Obj.cells #[.int .i64 6, .int .i64 c, .int .i64 n, .slice RA R.length cr, .slice WA W.length cw, .int .i64 s.kind, .int .i64 s.txn, .bool s.yes, .string s.from_, .string s.to_, .int .i64 s.epoch, .int .i64 s.shard, .int .i64 s.target, .int .i64 s.root, .int .i64 G, .int .i64 D, .slice CA S.length cc, .int .i64 many, .int .i64 first, .slice EA L.length ce, .slice VA Bs.length cv] 62)) w.heap.size 62 #[.int .i64 6, .int .i64 c, .int .i64 n, .slice RA R.length cr, .slice WA W.length cw, .int .i64 s.kind, .int .i64 s.txn, .bool s.yes, .string s.from_, .string s.to_, .int .i64 s.epoch, .int .i64 s.shard, .int .i64 s.target, .int .i64 s.root, .int .i64 G, .int .i64 D, .slice CA S.length cc, .int .i64 many, .int .i64 first, .slice EA L.length ce, .slice VA Bs.length cv] := hB0
   have hf0 : Fr (fun _ => False) w (w.alloc (Obj.cells #[.int .i64 6, .int .i64 c, .int .i64 n, .slice RA R.length cr, .slice WA W.length cw, .int .i64 s.kind, .int .i64 s.txn, .bool s.yes, .string s.from_, .string s.to_, .int .i64 s.epoch, .int .i64 s.shard, .int .i64 s.target, .int .i64 s.root, .int .i64 G, .int .i64 D, .slice CA S.length cc, .int .i64 many, .int .i64 first, .slice EA L.length ce, .slice VA Bs.length cv] 62)) := hf0
   generalize w.alloc (Obj.cells #[.int .i64 6, .int .i64 c, .int .i64 n, .slice RA R.length cr, .slice WA W.length cw, .int .i64 s.kind, .int .i64 s.txn, .bool s.yes, .string s.from_, .string s.to_, .int .i64 s.epoch, .int .i64 s.shard, .int .i64 s.target, .int .i64 s.root, .int .i64 G, .int .i64 D, .slice CA S.length cc, .int .i64 many, .int .i64 first, .slice EA L.length ce, .slice VA Bs.length cv] 62) = w0 at *
   have k0 := hB0.cell 0
   have k1 := hB0.cell 1
   have k2 := hB0.cell 2
   have k3 := hB0.cell 3
   have k4 := hB0.cell 4
   have k5 := hB0.cell 5
   have k6 := hB0.cell 6
   have k7 := hB0.cell 7
   have k8 := hB0.cell 8
   have k9 := hB0.cell 9
   have k10 := hB0.cell 10
   have k11 := hB0.cell 11
   have k12 := hB0.cell 12
   have k13 := hB0.cell 13
   go_upto_region 8 with (go_at_call 30; refine (HRt.out _ hf0).mono ?_; rintro e w1 ⟨rfl, hf01⟩)
   have hB1 := hB0.fr hf01 id
   have hf1 := hf0.then_ hf01
   clear hB0 hf0 hf01 k0 k1 k2 k3 k4 k5 k6 k7 k8 k9 k10 k11 k12 k13
   have k5 := hB1.cell 5
   have k6 := hB1.cell 6
   have k7 := hB1.cell 7
   have k8 := hB1.cell 8
   have k9 := hB1.cell 9
   have k10 := hB1.cell 10
   have k11 := hB1.cell 11
   have k12 := hB1.cell 12
   have k13 := hB1.cell 13
   go_upto_region 10 with fail
   have hB2 := hB1
   have hf2 := hf1
   generalize w1 = w2 at *
   clear hB1 hf1 k5 k6 k7 k8 k9 k10 k11 k12 k13
   have k14 := hB2.cell 14
   have k15 := hB2.cell 15
   have k16 := hB2.cell 16
   go_upto_region 11 with (go_at_call 93; refine (HPut.out _ hf2).mono ?_; rintro e w3 ⟨v3, rfl, hv3, hf3⟩; obtain ⟨A3, c3, rfl, _, hr3⟩ := hv3.u8row)
   have HG := Lib.hid (HGet.out _ _ c3 hr3)
   clear hr3
   go_upto_region 16 with (go_at_call 61; refine HG.out.mono ?_; rintro e w4 ⟨CX, cx, rfl, _, hf4⟩)
   have hB4 := (hB2.fr hf3 id).fr hf4 id
   have hf04 := (hf2.then_ hf3).then_ hf4
   clear k14 k15 k16
   have k17 := hB4.cell 17
   have k18 := hB4.cell 18
   have k19 := hB4.cell 19
   have k20 := hB4.cell 20
   go_wp2_with (go_at_call 94; refine (HPf.out _ hf04).mono ?_; rintro e w5 ⟨rfl, hf5⟩)
   go_ret
   exact ⟨rfl, hf04.then_ hf5⟩
  ·rw [decide_eq_true hok] at HRt
   have HRt := Lib.hid HRt
   clear HSm hok
   have hz : zeroSay ⟨s.kind, s.txn, s.yes, s.from_, s.to_, s.epoch, s.shard, s.target, s.root⟩ = false := by
    have : ¬ zeroSay s = true := fun e => by have e := (zeroSay_iff s).1 e; rw [e] at hos; exact hos.1 (by decide)
    simpa using this
   simp only [hos, decide_true] at HRs
   have HRs := Lib.hid HRs
   clear hos
   go_enter Tryz.func62, Tryz.ntmps62
   go_upto_region 1 with fail
   have hB0 : Blk (w.alloc (Obj.cells #[.int .i64 6, .int .i64 c, .int .i64 n, .slice RA R.length cr, .slice WA W.length cw, .int .i64 s.kind, .int .i64 s.txn, .bool s.yes, .string s.from_, .string s.to_, .int .i64 s.epoch, .int .i64 s.shard, .int .i64 s.target, .int .i64 s.root, .int .i64 G, .int .i64 D, .slice CA S.length cc, .int .i64 many, .int .i64 first, .slice EA L.length ce, .slice VA Bs.length cv] 62)) w.heap.size 62 #[.int .i64 6, .int .i64 c, .int .i64 n, .slice RA R.length cr, .slice WA W.length cw, .int .i64 s.kind, .int .i64 s.txn, .bool s.yes, .string s.from_, .string s.to_, .int .i64 s.epoch, .int .i64 s.shard, .int .i64 s.target, .int .i64 s.root, .int .i64 G, .int .i64 D, .slice CA S.length cc, .int .i64 many, .int .i64 first, .slice EA L.length ce, .slice VA Bs.length cv] := hB0
   have hf0 : Fr (fun _ => False) w (w.alloc (Obj.cells #[.int .i64 6, .int .i64 c, .int .i64 n, .slice RA R.length cr, .slice WA W.length cw, .int .i64 s.kind, .int .i64 s.txn, .bool s.yes, .string s.from_, .string s.to_, .int .i64 s.epoch, .int .i64 s.shard, .int .i64 s.target, .int .i64 s.root, .int .i64 G, .int .i64 D, .slice CA S.length cc, .int .i64 many, .int .i64 first, .slice EA L.length ce, .slice VA Bs.length cv] 62)) := hf0
   generalize w.alloc (Obj.cells #[.int .i64 6, .int .i64 c, .int .i64 n, .slice RA R.length cr, .slice WA W.length cw, .int .i64 s.kind, .int .i64 s.txn, .bool s.yes, .string s.from_, .string s.to_, .int .i64 s.epoch, .int .i64 s.shard, .int .i64 s.target, .int .i64 s.root, .int .i64 G, .int .i64 D, .slice CA S.length cc, .int .i64 many, .int .i64 first, .slice EA L.length ce, .slice VA Bs.length cv] 62) = w0 at *
   have k0 := hB0.cell 0
   have k1 := hB0.cell 1
   have k2 := hB0.cell 2
   have k3 := hB0.cell 3
   have k4 := hB0.cell 4
   have k5 := hB0.cell 5
   have k6 := hB0.cell 6
   have k7 := hB0.cell 7
   have k8 := hB0.cell 8
   have k9 := hB0.cell 9
   have k10 := hB0.cell 10
   have k11 := hB0.cell 11
   have k12 := hB0.cell 12
   have k13 := hB0.cell 13
   go_upto_region 8 with (go_at_call 30; refine (HRt.out _ hf0).mono ?_; rintro e w1 ⟨rfl, hf01⟩)
   have hB1 := hB0.fr hf01 id
   have hf1 := hf0.then_ hf01
   clear hB0 hf0 hf01 k0 k1 k2 k3 k4 k5 k6 k7 k8 k9 k10 k11 k12 k13
   have k5 := hB1.cell 5
   have k6 := hB1.cell 6
   have k7 := hB1.cell 7
   have k8 := hB1.cell 8
   have k9 := hB1.cell 9
   have k10 := hB1.cell 10
   have k11 := hB1.cell 11
   have k12 := hB1.cell 12
   have k13 := hB1.cell 13
   go_upto_region 10 with (go_at_call 29; refine (HRs.out _).mono ?_; rintro e w2 ⟨rfl, hf12⟩)
   have hB2 := hB1.fr hf12 id
   have hf2 := hf1.then_ hf12
   clear hB1 hf1 k5 k6 k7 k8 k9 k10 k11 k12 k13
   have k14 := hB2.cell 14
   have k15 := hB2.cell 15
   have k16 := hB2.cell 16
   go_upto_region 11 with (go_at_call 93; refine (HPut.out _ hf2).mono ?_; rintro e w3 ⟨v3, rfl, hv3, hf3⟩; obtain ⟨A3, c3, rfl, _, hr3⟩ := hv3.u8row)
   have HG := Lib.hid (HGet.out _ _ c3 hr3)
   clear hr3
   go_upto_region 16 with (go_at_call 61; refine HG.out.mono ?_; rintro e w4 ⟨CX, cx, rfl, _, hf4⟩)
   have hB4 := (hB2.fr hf3 id).fr hf4 id
   have hf04 := (hf2.then_ hf3).then_ hf4
   clear k14 k15 k16
   have k17 := hB4.cell 17
   have k18 := hB4.cell 18
   have k19 := hB4.cell 19
   have k20 := hB4.cell 20
   go_wp2_with (go_at_call 94; refine (HPf.out _ hf04).mono ?_; rintro e w5 ⟨rfl, hf5⟩)
   go_ret
   exact ⟨rfl, hf04.then_ hf5⟩
 ·rcases hSay with hzs | hos
  ·have HSm := fun w' hf => HSm w' hf (by simp) (by simp)
   rw [decide_eq_true (p := (0 : Int) = 0 ∧ (0 : Int) = 0 ∧ ([] : List (ByteArray × Int)) = [] ∧ ([] : List (ByteArray × ByteArray)) = []) ⟨rfl, rfl, rfl, rfl⟩] at HSm
   have HSm : Hid (∀ w' (hf : Fr (fun _ => False) w w'), Calls Tryz.prog 22 #[.agg #[.int .i64 0, .int .i64 0, .slice RA 0 cr, .slice WA 0 cw], .agg #[.int .i64 0, .int .i64 0, .slice none 0 0, .slice none 0 0]] w' (OkB w' true)) := HSm
   clear HRt
   have q1' : (kind == 1) = false := by simp [q1]
   have q6' : (kind == 6) = false := by simp [q6]
   have hz : zeroSay ⟨s.kind, s.txn, s.yes, s.from_, s.to_, s.epoch, s.shard, s.target, s.root⟩ = true := (zeroSay_iff s).2 hzs
   clear hzs HRs
   go_enter Tryz.func62, Tryz.ntmps62
   go_upto_region 1 with fail
   have hB0 : Blk (w.alloc (Obj.cells #[.int .i64 kind, .int .i64 0, .int .i64 0, .slice RA 0 cr, .slice WA 0 cw, .int .i64 s.kind, .int .i64 s.txn, .bool s.yes, .string s.from_, .string s.to_, .int .i64 s.epoch, .int .i64 s.shard, .int .i64 s.target, .int .i64 s.root, .int .i64 G, .int .i64 D, .slice CA S.length cc, .int .i64 many, .int .i64 first, .slice EA L.length ce, .slice VA Bs.length cv] 62)) w.heap.size 62 #[.int .i64 kind, .int .i64 0, .int .i64 0, .slice RA 0 cr, .slice WA 0 cw, .int .i64 s.kind, .int .i64 s.txn, .bool s.yes, .string s.from_, .string s.to_, .int .i64 s.epoch, .int .i64 s.shard, .int .i64 s.target, .int .i64 s.root, .int .i64 G, .int .i64 D, .slice CA S.length cc, .int .i64 many, .int .i64 first, .slice EA L.length ce, .slice VA Bs.length cv] := hB0
   have hf0 : Fr (fun _ => False) w (w.alloc (Obj.cells #[.int .i64 kind, .int .i64 0, .int .i64 0, .slice RA 0 cr, .slice WA 0 cw, .int .i64 s.kind, .int .i64 s.txn, .bool s.yes, .string s.from_, .string s.to_, .int .i64 s.epoch, .int .i64 s.shard, .int .i64 s.target, .int .i64 s.root, .int .i64 G, .int .i64 D, .slice CA S.length cc, .int .i64 many, .int .i64 first, .slice EA L.length ce, .slice VA Bs.length cv] 62)) := hf0
   generalize w.alloc (Obj.cells #[.int .i64 kind, .int .i64 0, .int .i64 0, .slice RA 0 cr, .slice WA 0 cw, .int .i64 s.kind, .int .i64 s.txn, .bool s.yes, .string s.from_, .string s.to_, .int .i64 s.epoch, .int .i64 s.shard, .int .i64 s.target, .int .i64 s.root, .int .i64 G, .int .i64 D, .slice CA S.length cc, .int .i64 many, .int .i64 first, .slice EA L.length ce, .slice VA Bs.length cv] 62) = w0 at *
   have k0 := hB0.cell 0
   have k1 := hB0.cell 1
   have k2 := hB0.cell 2
   have k3 := hB0.cell 3
   have k4 := hB0.cell 4
   have k5 := hB0.cell 5
   have k6 := hB0.cell 6
   have k7 := hB0.cell 7
   have k8 := hB0.cell 8
   have k9 := hB0.cell 9
   have k10 := hB0.cell 10
   have k11 := hB0.cell 11
   have k12 := hB0.cell 12
   have k13 := hB0.cell 13
   go_upto_region 8 with (go_at_call 22; refine (HSm.out _ hf0).mono ?_; rintro e w1 ⟨rfl, hf01⟩)
   have hB1 := hB0.fr hf01 id
   have hf1 := hf0.then_ hf01
   clear hB0 hf0 hf01 k0 k1 k2 k3 k4 k5 k6 k7 k8 k9 k10 k11 k12 k13
   have k5 := hB1.cell 5
   have k6 := hB1.cell 6
   have k7 := hB1.cell 7
   have k8 := hB1.cell 8
   have k9 := hB1.cell 9
   have k10 := hB1.cell 10
   have k11 := hB1.cell 11
   have k12 := hB1.cell 12
   have k13 := hB1.cell 13
   go_upto_region 10 with fail
   have hB2 := hB1
   have hf2 := hf1
   generalize w1 = w2 at *
   clear hB1 hf1 k5 k6 k7 k8 k9 k10 k11 k12 k13
   have k14 := hB2.cell 14
   have k15 := hB2.cell 15
   have k16 := hB2.cell 16
   go_upto_region 11 with (go_at_call 93; refine (HPut.out _ hf2).mono ?_; rintro e w3 ⟨v3, rfl, hv3, hf3⟩; obtain ⟨A3, c3, rfl, _, hr3⟩ := hv3.u8row)
   have HG := Lib.hid (HGet.out _ _ c3 hr3)
   clear hr3
   go_upto_region 16 with (go_at_call 61; refine HG.out.mono ?_; rintro e w4 ⟨CX, cx, rfl, _, hf4⟩)
   have hB4 := (hB2.fr hf3 id).fr hf4 id
   have hf04 := (hf2.then_ hf3).then_ hf4
   clear k14 k15 k16
   have k17 := hB4.cell 17
   have k18 := hB4.cell 18
   have k19 := hB4.cell 19
   have k20 := hB4.cell 20
   go_wp2_with (go_at_call 94; refine (HPf.out _ hf04).mono ?_; rintro e w5 ⟨rfl, hf5⟩)
   go_ret
   exact ⟨rfl, hf04.then_ hf5⟩
  ·have HSm := fun w' hf => HSm w' hf (by simp) (by simp)
   rw [decide_eq_true (p := (0 : Int) = 0 ∧ (0 : Int) = 0 ∧ ([] : List (ByteArray × Int)) = [] ∧ ([] : List (ByteArray × ByteArray)) = []) ⟨rfl, rfl, rfl, rfl⟩] at HSm
   have HSm : Hid (∀ w' (hf : Fr (fun _ => False) w w'), Calls Tryz.prog 22 #[.agg #[.int .i64 0, .int .i64 0, .slice RA 0 cr, .slice WA 0 cw], .agg #[.int .i64 0, .int .i64 0, .slice none 0 0, .slice none 0 0]] w' (OkB w' true)) := HSm
   clear HRt
   have q1' : (kind == 1) = false := by simp [q1]
   have q6' : (kind == 6) = false := by simp [q6]
   have hz : zeroSay ⟨s.kind, s.txn, s.yes, s.from_, s.to_, s.epoch, s.shard, s.target, s.root⟩ = false := by
    have : ¬ zeroSay s = true := fun e => by have e := (zeroSay_iff s).1 e; rw [e] at hos; exact hos.1 (by decide)
    simpa using this
   simp only [hos, decide_true] at HRs
   have HRs := Lib.hid HRs
   clear hos
   go_enter Tryz.func62, Tryz.ntmps62
   go_upto_region 1 with fail
   have hB0 : Blk (w.alloc (Obj.cells #[.int .i64 kind, .int .i64 0, .int .i64 0, .slice RA 0 cr, .slice WA 0 cw, .int .i64 s.kind, .int .i64 s.txn, .bool s.yes, .string s.from_, .string s.to_, .int .i64 s.epoch, .int .i64 s.shard, .int .i64 s.target, .int .i64 s.root, .int .i64 G, .int .i64 D, .slice CA S.length cc, .int .i64 many, .int .i64 first, .slice EA L.length ce, .slice VA Bs.length cv] 62)) w.heap.size 62 #[.int .i64 kind, .int .i64 0, .int .i64 0, .slice RA 0 cr, .slice WA 0 cw, .int .i64 s.kind, .int .i64 s.txn, .bool s.yes, .string s.from_, .string s.to_, .int .i64 s.epoch, .int .i64 s.shard, .int .i64 s.target, .int .i64 s.root, .int .i64 G, .int .i64 D, .slice CA S.length cc, .int .i64 many, .int .i64 first, .slice EA L.length ce, .slice VA Bs.length cv] := hB0
   have hf0 : Fr (fun _ => False) w (w.alloc (Obj.cells #[.int .i64 kind, .int .i64 0, .int .i64 0, .slice RA 0 cr, .slice WA 0 cw, .int .i64 s.kind, .int .i64 s.txn, .bool s.yes, .string s.from_, .string s.to_, .int .i64 s.epoch, .int .i64 s.shard, .int .i64 s.target, .int .i64 s.root, .int .i64 G, .int .i64 D, .slice CA S.length cc, .int .i64 many, .int .i64 first, .slice EA L.length ce, .slice VA Bs.length cv] 62)) := hf0
   generalize w.alloc (Obj.cells #[.int .i64 kind, .int .i64 0, .int .i64 0, .slice RA 0 cr, .slice WA 0 cw, .int .i64 s.kind, .int .i64 s.txn, .bool s.yes, .string s.from_, .string s.to_, .int .i64 s.epoch, .int .i64 s.shard, .int .i64 s.target, .int .i64 s.root, .int .i64 G, .int .i64 D, .slice CA S.length cc, .int .i64 many, .int .i64 first, .slice EA L.length ce, .slice VA Bs.length cv] 62) = w0 at *
   have k0 := hB0.cell 0
   have k1 := hB0.cell 1
   have k2 := hB0.cell 2
   have k3 := hB0.cell 3
   have k4 := hB0.cell 4
   have k5 := hB0.cell 5
   have k6 := hB0.cell 6
   have k7 := hB0.cell 7
   have k8 := hB0.cell 8
   have k9 := hB0.cell 9
   have k10 := hB0.cell 10
   have k11 := hB0.cell 11
   have k12 := hB0.cell 12
   have k13 := hB0.cell 13
   go_upto_region 8 with (go_at_call 22; refine (HSm.out _ hf0).mono ?_; rintro e w1 ⟨rfl, hf01⟩)
   have hB1 := hB0.fr hf01 id
   have hf1 := hf0.then_ hf01
   clear hB0 hf0 hf01 k0 k1 k2 k3 k4 k5 k6 k7 k8 k9 k10 k11 k12 k13
   have k5 := hB1.cell 5
   have k6 := hB1.cell 6
   have k7 := hB1.cell 7
   have k8 := hB1.cell 8
   have k9 := hB1.cell 9
   have k10 := hB1.cell 10
   have k11 := hB1.cell 11
   have k12 := hB1.cell 12
   have k13 := hB1.cell 13
   go_upto_region 10 with (go_at_call 29; refine (HRs.out _).mono ?_; rintro e w2 ⟨rfl, hf12⟩)
   have hB2 := hB1.fr hf12 id
   have hf2 := hf1.then_ hf12
   clear hB1 hf1 k5 k6 k7 k8 k9 k10 k11 k12 k13
   have k14 := hB2.cell 14
   have k15 := hB2.cell 15
   have k16 := hB2.cell 16
   go_upto_region 11 with (go_at_call 93; refine (HPut.out _ hf2).mono ?_; rintro e w3 ⟨v3, rfl, hv3, hf3⟩; obtain ⟨A3, c3, rfl, _, hr3⟩ := hv3.u8row)
   have HG := Lib.hid (HGet.out _ _ c3 hr3)
   clear hr3
   go_upto_region 16 with (go_at_call 61; refine HG.out.mono ?_; rintro e w4 ⟨CX, cx, rfl, _, hf4⟩)
   have hB4 := (hB2.fr hf3 id).fr hf4 id
   have hf04 := (hf2.then_ hf3).then_ hf4
   clear k14 k15 k16
   have k17 := hB4.cell 17
   have k18 := hB4.cell 18
   have k19 := hB4.cell 19
   have k20 := hB4.cell 20
   go_wp2_with (go_at_call 94; refine (HPf.out _ hf04).mono ?_; rintro e w5 ⟨rfl, hf5⟩)
   go_ret
   exact ⟨rfl, hf04.then_ hf5⟩
end Go.Proofs.YtmkdhhhoodeemaaGreat
