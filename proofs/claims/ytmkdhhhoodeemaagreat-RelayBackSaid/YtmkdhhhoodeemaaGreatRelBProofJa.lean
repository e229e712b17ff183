/- RelayBackSaid: for every input the law returns true, and each argument reads behind the call as it read before. No condition. -/
import Derived.Deep.RegionHeldLaw
import Derived.Laws.StructEq
import Derived.BigQuiet
import Derived.Deep.RegionHeld3
import Derived.Test.YtmkdhhhoodeemaaGreatGa
import Derived.Test.YtmkdhhhoodeemaaGreatGb
import Derived.Test.YtmkdhhhoodeemaaGreatGc
import Derived.Test.YtmkdhhhoodeemaaGreatGd
import Derived.Test.YtmkdhhhoodeemaaGreatGe
import Derived.Test.YtmkdhhhoodeemaaGreatGf
import Derived.Test.YtmkdhhhoodeemaaGreatGg
import Derived.Test.YtmkdhhhoodeemaaGreatGh
set_option linter.unusedVariables false
set_option linter.unusedSimpArgs false
/- cohortref02: the Reader, where it reads what was written. -/
namespace Go.Proofs.YtmkdhhhoodeemaaGreat
open Go Go.RowKit
/-- The document's reader at g, without an error. -/
structure RR (w : World) (g b o cap : Nat) (bs : List Int) (pos : Nat) : Prop where
  blk : Blk w g 131 #[.slice (some ⟨b, o, none⟩) bs.length cap, .int .i64 pos, .int .i64 0, .string ⟨#[]⟩, .int .i64 0]
  row : ByteRow w (U8 w) (some ⟨b, o, none⟩) bs
  cap_ : bs.length ≤ cap
  le : pos ≤ bs.length
theorem RR.fr {S : Nat → Prop} {w w' : World} {g b o cap : Nat} {bs : List Int} {pos : Nat} (h : RR w g b o cap bs pos) (hf : Fr S w w') (hg : ¬ S g) (h8 : ∀ k, U8 w k → ¬ S k) : RR w' g b o cap bs pos :=
  ⟨h.blk.fr hf hg, h.row.u8 hf h8, h.cap_, h.le⟩
theorem RR.keep {w w' : World} {g b o cap : Nat} {bs : List Int} {pos : Nat} (h : RR w g b o cap bs pos) (hf : Fr (fun _ => False) w w') : RR w' g b o cap bs pos := h.fr hf id (fun _ _ => id)
/-- What reading n bytes leaves. -/
def RBytes (w : World) (g b o cap : Nat) (bs : List Int) (pos n : Nat) (e : Ending) (w' : World) : Prop :=
  ∃ v, e = .returned v ∧ Own8 w' w.heap.size v ((bs.drop pos).take n) ∧ RR w' g b o cap bs (pos + n) ∧ Fr (fun k => k = g) w w'
theorem RR.part {w : World} {g b o cap : Nat} {bs : List Int} {pos : Nat} (h : RR w g b o cap bs pos) (n : Nat) : ByteRow w (U8 w) (some ⟨b, o + pos, none⟩) ((bs.drop pos).take n) := by
  intro k x hx
  rw [List.getElem?_take] at hx
  split at hx
  · rw [List.getElem?_drop] at hx
    obtain ⟨b', o', e, h1, h2⟩ := h.row (pos + k) x hx
    cases e
    exact ⟨b, o + pos, rfl, h1, by rw [Nat.add_assoc]; exact h2⟩
  · cases hx
theorem RR.set {w : World} {g b o cap : Nat} {bs : List Int} {pos : Nat} (h : RR w g b o cap bs pos) {p : Nat} (hp : p ≤ bs.length) : RR (w.setCell ⟨g, 1, none⟩ (.int .i64 (p : Int))) g b o cap bs p ∧ Fr (fun k => k = g) w (w.setCell ⟨g, 1, none⟩ (.int .i64 (p : Int))) := by
  have hf : Fr (fun k => k = g) w (w.setCell ⟨g, 1, none⟩ (.int .i64 (p : Int))) := (Fr.refl (fun k => k = g) w).setCell (p := ⟨g, 1, none⟩) (fun _ => rfl) _
  exact ⟨⟨h.blk.set_ 1 _, h.row.u8 hf (fun k hk e => hk.ne_blk h.blk (by decide) e), h.cap_, hp⟩, hf⟩
theorem slice_row {w : World} {b f p n cap : Nat} {xs : List Int} (h : ByteRow w (U8 w) (some ⟨b, f + p, none⟩) xs) (hl : xs.length = n) (hc : p + n ≤ cap) : ByteRow w (U8 w) (if cap = p then some ⟨b, f, none⟩ else some ⟨b, f + p, none⟩) xs := by
  split
  · have : xs = [] := List.eq_nil_of_length_eq_zero (by omega)
    subst this
    intro k x hx
    simp at hx
  · exact h
set_option maxRecDepth 100000 in
set_option maxHeartbeats 1000000 in
theorem refr_bytes {w : World} {g b o cap : Nat} {bs : List Int} {pos : Nat} (h : RR w g b o cap bs pos) (hl : bs.length ≤ 1099511627776) (n : Nat) (hn : pos + n ≤ bs.length) (s : ByteArray) (at_ : Int) :
    Calls Tryz.prog 122 #[.pointer (some ⟨g, 0, none⟩), .int .i64 n, .string s, .int .i64 at_] w (RBytes w g b o cap bs pos n) := by
  have c0 := h.blk.cell 0
  have c1 := h.blk.cell 1
  have c2 := h.blk.cell 2
  have hcap := h.cap_
  have hn' : ¬ (bs.length : Int) - (pos : Int) < (n : Int) := by omega
  have hsub : wrap64 ((bs.length : Int) - (pos : Int)) = (bs.length : Int) - (pos : Int) := by unfold wrap64; omega
  have H := Lib.hid h
  have HL := Lib.hid hl
  clear h
  go_enter Tryz.func122, Tryz.ntmps122
  go_wp2_with fail
  go_quiet (fail)
  go_wp2_with fail
  have hf1 : Fr (fun _ => False) w (w.drewN nq) := (Fr.refl _ _).drewN nq
  have H1 := H.out.keep hf1
  generalize w.drewN nq = w1 at *
  have hf2 : Fr (fun _ => False) w1 (w1.drew.alloc (Obj.cells #[] 5)) := ((Fr.refl _ _).drew).alloc _
  have H2 := H1.keep hf2
  have ho2 : Own8 (w1.drew.alloc (Obj.cells #[] 5)) w1.heap.size (.slice (some ⟨w1.heap.size, 0, none⟩) 0 0) [] := Own8.built w1.drew (Nat.le_refl _) [] (by simp) 0 rfl
  have hy2 := H2.part n
  have hxl : ((bs.drop pos).take n).length = n := by rw [List.length_take, List.length_drop]; omega
  have hz2 : w1.heap.size ≤ (w1.drew.alloc (Obj.cells #[] 5)).heap.size := by simp
  have d0 := H1.blk.drew.cell 0
  have d1 := H1.blk.drew.cell 1
  have e0 := H2.blk.cell 0
  have e1 := H2.blk.cell 1
  have HXL := Lib.hid hxl
  have hg2 := H2.blk
  generalize hxs : (bs.drop pos).take n = xs at hy2 HXL hxl ⊢
  clear c0 c1 c2 H1 hn' hsub
  have hn3 : pos + n ≤ cap := by omega
  have hy3 := slice_row hy2 hxl hn3
  have h1 : (pos : Int) + (n : Int) ≤ (cap : Int) := by omega
  have h5 : (0 : Int) ≤ (pos : Int) + (n : Int) := by omega
  have h6 : pos ≤ ((pos : Int) + (n : Int)).toNat := by omega
  have h7 : ((pos : Int) + (n : Int)).toNat - pos = n := by omega
  have h8 : (pos : Int) + (n : Int) ≤ 1099511627776 := by omega
  have h9 : IntKind.i64.wrap ((pos : Int) + (n : Int)) = (pos : Int) + (n : Int) := by unfold IntKind.wrap; simp [IntKind.bits, IntKind.signed]; omega
  refine wp_region_noPanic ?_
  refine wp_region_held_drew (S := (fun w' => w'.cell? ⟨g, 0, none⟩ = some (.slice (some ⟨b, o, none⟩) bs.length cap) ∧ w'.cell? ⟨g, 1, none⟩ = some (.int .i64 pos))) (by kernel_rfl) (⟨d0, d1⟩) (fun hHeld => ?_)
  refine wpAnyH_takeAt (i := 1) (v := ?va1) (some 32) rfl rfl (by kernel_rfl) (by kernel_rfl) (by kernel_rfl) (fun _ _ _ h => h) (Or.inl ⟨by rfl, ?hya1⟩) (by assumption) ?resta1
  case hya1 => (intro w hSw; (try dsimp only at hSw); go_simp; all_goals with_reducible rfl)
  simp only [Act.put, List.setIfInBounds_toArray, List.set_cons_zero, List.set_cons_succ]
  refine wpAnyH_takeAt (i := 2) (v := ?va2) (some 33) rfl rfl (by kernel_rfl) (by kernel_rfl) (by kernel_rfl) (fun _ _ _ h => h) (Or.inl ⟨by rfl, ?hya2⟩) (by assumption) ?resta2
  case hya2 => (intro w hSw; (try dsimp only at hSw); go_simp; all_goals with_reducible rfl)
  simp only [Act.put, List.setIfInBounds_toArray, List.set_cons_zero, List.set_cons_succ]
  refine wpAnyH_takeAt (i := 3) (v := ?va3) (some 34) rfl rfl (by kernel_rfl) (by kernel_rfl) (by kernel_rfl) (fun _ _ _ h => h) (Or.inl ⟨by rfl, ?hya3⟩) (by assumption) ?resta3
  case hya3 => (intro w hSw; (try dsimp only at hSw); go_simp; all_goals with_reducible rfl)
  simp only [Act.put, List.setIfInBounds_toArray, List.set_cons_zero, List.set_cons_succ]
  refine wpAnyH_takeAt (i := 4) (v := ?va4) (some 35) rfl rfl (by kernel_rfl) (by kernel_rfl) (by kernel_rfl) (fun _ _ _ h => h) (Or.inl ⟨by rfl, ?hya4⟩) (by assumption) ?resta4
  case hya4 => (intro w hSw; (try dsimp only at hSw); go_simp; all_goals with_reducible rfl)
  simp only [Act.put, List.setIfInBounds_toArray, List.set_cons_zero, List.set_cons_succ]
  refine wpAnyH_takeAt (i := 5) (v := ?va5) (some 36) rfl rfl (by kernel_rfl) (by kernel_rfl) (by kernel_rfl) (fun _ _ _ h => h) (Or.inl ⟨by rfl, ?hya5⟩) (by assumption) ?resta5
  case hya5 => (intro w hSw; (try dsimp only at hSw); go_simp; all_goals with_reducible rfl)
  simp only [Act.put, List.setIfInBounds_toArray, List.set_cons_zero, List.set_cons_succ]
  refine wpAnyH_takeAt (i := 6) (v := ?va6) (some 37) rfl rfl (by kernel_rfl) (by kernel_rfl) (by kernel_rfl) (fun _ _ _ h => h) (Or.inl ⟨by rfl, ?hya6⟩) (by assumption) ?resta6
  case hya6 => (intro w hSw; (try dsimp only at hSw); go_simp; all_goals with_reducible rfl)
  simp only [Act.put, List.setIfInBounds_toArray, List.set_cons_zero, List.set_cons_succ]
  refine wpAnyH_takeAt (i := 7) (v := ?va7) (some 38) rfl rfl (by kernel_rfl) (by kernel_rfl) (by kernel_rfl) (fun _ _ _ h => h) (Or.inl ⟨by rfl, ?hya7⟩) (by assumption) ?resta7
  case hya7 => (intro w hSw; (try dsimp only at hSw); go_simp; all_goals with_reducible rfl)
  simp only [Act.put, List.setIfInBounds_toArray, List.set_cons_zero, List.set_cons_succ]
  refine wpAnyH_takeAt (i := 8) (v := ?va8) (some 39) rfl rfl (by kernel_rfl) (by kernel_rfl) (by kernel_rfl) (fun _ _ _ h => h) (Or.inl ⟨by rfl, ?hya8⟩) (by assumption) ?resta8
  case hya8 => (intro w hSw; (try dsimp only at hSw); go_simp; all_goals with_reducible rfl)
  simp only [Act.put, List.setIfInBounds_toArray, List.set_cons_zero, List.set_cons_succ]
  refine wpAnyH_takeAt (i := 9) (v := ?va9) (some 40) rfl rfl (by kernel_rfl) (by kernel_rfl) (by kernel_rfl) (fun _ _ _ h => h) (Or.inl ⟨by rfl, ?hya9⟩) (by assumption) ?resta9
  case hya9 => (intro w hSw; (try dsimp only at hSw); go_simp; all_goals with_reducible rfl)
  simp only [Act.put, List.setIfInBounds_toArray, List.set_cons_zero, List.set_cons_succ]
  refine wpAnyH_takeAt (i := 10) (v := ?va10) (some 41) rfl rfl (by kernel_rfl) (by kernel_rfl) (by kernel_rfl) (fun _ _ _ h => h) (Or.inl ⟨by rfl, ?hya10⟩) (by assumption) ?resta10
  case hya10 => (intro w hSw; (try dsimp only at hSw); go_simp; all_goals with_reducible rfl)
  simp only [Act.put, List.setIfInBounds_toArray, List.set_cons_zero, List.set_cons_succ]
  refine wpAnyH_takeAt (i := 11) (v := ?va11) (some 42) rfl rfl (by kernel_rfl) (by kernel_rfl) (by kernel_rfl) (fun _ _ _ h => h) (Or.inl ⟨by rfl, ?hya11⟩) (by assumption) ?resta11
  case hya11 => (intro w hSw; (try dsimp only at hSw); go_simp; all_goals with_reducible rfl)
  simp only [Act.put, List.setIfInBounds_toArray, List.set_cons_zero, List.set_cons_succ]
  refine wpAnyH_takeAt (i := 12) (v := ?va12) (some 43) rfl rfl (by kernel_rfl) (by kernel_rfl) (by kernel_rfl) (fun _ _ _ h => h) (Or.inl ⟨by rfl, ?hya12⟩) (by assumption) ?resta12
  case hya12 => (intro w hSw; (try dsimp only at hSw); go_simp; all_goals with_reducible rfl)
  simp only [Act.put, List.setIfInBounds_toArray, List.set_cons_zero, List.set_cons_succ]
  refine wpAnyH_takeAt (i := 13) (v := ?va13) (some 44) rfl rfl (by kernel_rfl) (by kernel_rfl) (by kernel_rfl) (fun _ _ _ h => h) (Or.inl ⟨by rfl, ?hya13⟩) (by assumption) ?resta13
  case hya13 => (intro w hSw; (try dsimp only at hSw); go_simp; all_goals with_reducible rfl)
  simp only [Act.put, List.setIfInBounds_toArray, List.set_cons_zero, List.set_cons_succ]
  refine wpAnyH_takeAt (i := 14) (v := ?va14) (some 45) rfl rfl (by kernel_rfl) (by kernel_rfl) (by kernel_rfl) (fun _ _ _ h => h) (Or.inl ⟨by rfl, ?hya14⟩) (by assumption) ?resta14
  case hya14 => (intro w hSw; (try dsimp only at hSw); go_simp; all_goals with_reducible rfl)
  simp only [Act.put, List.setIfInBounds_toArray, List.set_cons_zero, List.set_cons_succ]
  refine wpAnyH_takeAt (i := 15) (v := ?va15) (some 46) rfl rfl (by kernel_rfl) (by kernel_rfl) (by kernel_rfl) (fun _ _ _ h => h) (Or.inl ⟨by rfl, ?hya15⟩) (by assumption) ?resta15
  case hya15 => (intro w hSw; (try dsimp only at hSw); go_simp; all_goals with_reducible rfl)
  simp only [Act.put, List.setIfInBounds_toArray, List.set_cons_zero, List.set_cons_succ]
  refine wpAnyH_ready (rs := [0]) (by kernel_rfl) (by simp) ?_
  refine AllReadyH.cons rfl (fun K hK => ?_) AllReadyH.nil
  go_simp
  refine hK.out _ _ (⟨e0, e1⟩) (fun hHeld => ?_)
  clear hK K
  refine wpAnyH_ready (rs := [16]) (by kernel_rfl) (by simp) ?_
  refine AllReadyH.cons rfl (fun K hK => ?_) AllReadyH.nil
  refine step_append_text rfl (.tmp 31) (.tmp 46) rfl w1.heap.size (.slice (some ⟨w1.heap.size, 0, none⟩) 0 0) [] (by simp [Act.eval]) ho2 (U8 (w1.drew.alloc (Obj.cells #[] 5))) (if cap = pos then some ⟨b, o, none⟩ else some ⟨b, o + pos, none⟩) n (cap - pos) xs (by simp [Act.eval]) hxl.symm hy3 (by have := HL.out; have := HXL.out; simp; omega) hz2 ?_
  intro v5 w5 h5 hf5 hk5
  have hg5 := hg2.fr hf5 (ho2.ne_blk hg2 (by decide))
  have hf25 : Fr (fun _ => False) w w5 := (hf1.then_ hf2).trans hf5 (fun k hk e => by have := own_ge ho2 k e; have := hf1.size; omega)
  refine hK.out _ _ ⟨hg5.cell 0, hg5.cell 1⟩ (fun hHeld => ?_)
  clear hK K
  simp only [List.getElem_toArray, List.getElem_cons_succ, List.getElem_cons_zero]
  simp only [Act.put, List.setIfInBounds_toArray, List.set_cons_zero, List.set_cons_succ]
  refine wpAnyH_takeAt (i := 17) (v := ?va17) (some 9) rfl rfl (by kernel_rfl) (by kernel_rfl) (by kernel_rfl) (fun _ _ _ h => h) (Or.inl ⟨by rfl, ?hya17⟩) (by assumption) ?resta17
  case hya17 => (intro w hSw; (try dsimp only at hSw); go_simp; all_goals with_reducible rfl)
  simp only [Act.put, List.setIfInBounds_toArray, List.set_cons_zero, List.set_cons_succ]
  refine wpAnyH_done (by kernel_rfl) ?_ _
  refine NoPanic.normal ?_
  have hr0 : Fr (fun _ => False) w w5 := hf25
  have HR := H.out.keep hr0
  have hv5 : Own8 w5 w1.heap.size v5 xs := h5
  obtain ⟨A5, k5, rfl, _, _⟩ := hv5.form
  have g1 := HR.blk.cell 1
  have z1 := HR.blk.frozen 1
  obtain ⟨hR, hfR⟩ := HR.set hn
  have hq : (((pos + n : Nat) : Int)) = (pos : Int) + (n : Int) := by omega
  have hv6 : Own8 w5 w1.heap.size (.slice A5 n k5) xs := hv5.len hxl
  rw [hq] at hR hfR
  by_cases hcp : cap = pos
  · subst hcp
    go_wp2
    refine bodyPost_ret (v := .slice A5 n k5) (by simp [results, Tryz.results122, go_sem]) rfl ?_
    unfold RBytes
    rw [hxs]
    exact ⟨_, rfl, (hv6.setCell HR.blk (by decide) _).base_ hf1.size, hR, (hr0.mono (fun _ _ h => h.elim)).trans hfR (fun _ _ h => h)⟩
  · skip
    go_wp2
    refine bodyPost_ret (v := .slice A5 n k5) (by simp [results, Tryz.results122, go_sem]) rfl ?_
    unfold RBytes
    rw [hxs]
    exact ⟨_, rfl, (hv6.setCell HR.blk (by decide) _).base_ hf1.size, hR, (hr0.mono (fun _ _ h => h.elim)).trans hfR (fun _ _ h => h)⟩
end Go.Proofs.YtmkdhhhoodeemaaGreat

/- cohortref02: New, num, length: where they read what was written. -/
namespace Go.Proofs.YtmkdhhhoodeemaaGreat
open Go Go.RowKit
/-- A value read, and the place after. -/
def RGot (w : World) (g b o cap : Nat) (bs : List Int) (v : Value) (p : Nat) (e : Ending) (w' : World) : Prop :=
  e = .returned v ∧ RR w' g b o cap bs p ∧ Fr (fun k => k = g) w w'
theorem or_low16 (a c : Int) (ha : a % 65536 = 0) (h0 : 0 ≤ c) (h1 : c < 65536) : bits .or .i64 a c = wrap64 (a + c) := by
  have e : bits .or .i64 a c = IntKind.i64.wrap (((BitVec.ofInt 64 a) ||| (BitVec.ofInt 64 c)).toNat : Int) := rfl
  rw [e]
  obtain ⟨c', rfl⟩ := Int.eq_ofNat_of_zero_le h0
  have hc : c' < 65536 := by omega
  have h2 : ((BitVec.ofInt 64 a) ||| (BitVec.ofInt 64 (c' : Int))).toNat = (a % 18446744073709551616).toNat + c' := by
    rw [BitVec.toNat_or, BitVec.toNat_ofInt, BitVec.toNat_ofInt]
    have e1 : ((c' : Int) % ((2 ^ 64 : Nat) : Int)).toNat = c' := by omega
    have e2 : (a % ((2 ^ 64 : Nat) : Int)).toNat = 2 ^ 16 * ((a % 18446744073709551616).toNat / 65536) := by
      have : (a % 18446744073709551616) % 65536 = 0 := by omega
      omega
    rw [e1, e2, ← Nat.two_pow_add_eq_or_of_lt (by omega)]
    omega
  rw [h2]
  have h3 : IntKind.i64.wrap (((a % 18446744073709551616).toNat + c' : Nat) : Int) = wrap64 (((a % 18446744073709551616).toNat + c' : Nat) : Int) := by
    rw [IntKind.wrap_i64, wrap64]
  rw [h3]
  unfold wrap64
  omega
theorem or_low24 (a c : Int) (ha : a % 16777216 = 0) (h0 : 0 ≤ c) (h1 : c < 16777216) : bits .or .i64 a c = wrap64 (a + c) := by
  have e : bits .or .i64 a c = IntKind.i64.wrap (((BitVec.ofInt 64 a) ||| (BitVec.ofInt 64 c)).toNat : Int) := rfl
  rw [e]
  obtain ⟨c', rfl⟩ := Int.eq_ofNat_of_zero_le h0
  have hc : c' < 16777216 := by omega
  have h2 : ((BitVec.ofInt 64 a) ||| (BitVec.ofInt 64 (c' : Int))).toNat = (a % 18446744073709551616).toNat + c' := by
    rw [BitVec.toNat_or, BitVec.toNat_ofInt, BitVec.toNat_ofInt]
    have e1 : ((c' : Int) % ((2 ^ 64 : Nat) : Int)).toNat = c' := by omega
    have e2 : (a % ((2 ^ 64 : Nat) : Int)).toNat = 2 ^ 24 * ((a % 18446744073709551616).toNat / 16777216) := by
      have : (a % 18446744073709551616) % 16777216 = 0 := by omega
      omega
    rw [e1, e2, ← Nat.two_pow_add_eq_or_of_lt (by omega)]
    omega
  rw [h2]
  have h3 : IntKind.i64.wrap (((a % 18446744073709551616).toNat + c' : Nat) : Int) = wrap64 (((a % 18446744073709551616).toNat + c' : Nat) : Int) := by
    rw [IntKind.wrap_i64, wrap64]
  rw [h3]
  unfold wrap64
  omega
set_option maxRecDepth 100000 in
theorem refr_num {w : World} {g b o cap : Nat} {bs : List Int} {pos : Nat} (h : RR w g b o cap bs pos) (hl : bs.length ≤ 1099511627776) (h8 : pos + 8 ≤ bs.length) (s : ByteArray) (at_ : Int) :
    Calls Tryz.prog 89 #[.pointer (some ⟨g, 0, none⟩), .string s, .int .i64 at_] w (RGot w g b o cap bs (.int .i64 (numX bs pos)) (pos + 8)) := by
  have HB := Lib.hid (refr_bytes h hl 8 h8 s at_)
  have hx8 : ((bs.drop pos).take 8).length = 8 := by rw [List.length_take, List.length_drop]; omega
  have HX8 := Lib.hid hx8
  clear h hx8
  unfold numX
  go_enter Tryz.func89, Tryz.ntmps89
  go_upto_region 4 with (go_at_call 122; refine HB.out.mono ?_; rintro e w1 ⟨v1, rfl, hv1, h1, hf1⟩; obtain ⟨A1, k1, rfl, _, hr1⟩ := hv1.form)
  generalize hxs : (bs.drop pos).take 8 = xs at hr1 HX8
  have hlen := HX8.out
  go_loopw [8, 9] (fun n i wr => ∃ k : Nat, k ≤ 8 ∧ i = .int .i64 k ∧ n = .int .i64 (spell64 (xs.take k)) ∧ w1 = wr) (fun _ i _ => 8 - (intOf i).toNat)
  case atStart => exact ⟨0, by omega, rfl, rfl, rfl⟩
  case round =>
    obtain ⟨k, hk, rfl, rfl, rfl⟩ := hrel
    by_cases hlt : k < 8
    · obtain ⟨x, hx⟩ : ∃ x, xs[k]? = some x := ⟨xs[k]'(by omega), List.getElem?_eq_getElem (by omega)⟩
      obtain ⟨b', o', rfl, _, hc⟩ := hr1 k x hx
      have HX := Lib.hid hx
      clear hr1 hx
      go_wp2_with fail
      go_roundw
      case rel => exact ⟨k + 1, by omega, by go_num, by rw [spell_take HX.out]; rfl, by trivial⟩
      case measure => simp [intOf]; omega
    · obtain rfl : k = 8 := by omega
      rw [List.take_of_length_le (by omega)]
      go_wp2
      refine bodyPost_ret (v := .int .i64 (spell64 xs)) (by simp [results, Tryz.results89, go_sem]) rfl ?_
      exact ⟨by rw [hxs], h1, hf1⟩
set_option maxRecDepth 100000 in
theorem refr_length {w : World} {g b o cap : Nat} {bs : List Int} {pos : Nat} (h : RR w g b o cap bs pos) (hl : bs.length ≤ 1099511627776) {n : Nat} {t : List Int} (hd : bs.drop pos = count4 n ++ t) {most : Int} (hm : (n : Int) ≤ most) (hm2 : most ≤ 65536) (s : ByteArray) (at_ : Int) :
    Calls Tryz.prog 92 #[.pointer (some ⟨g, 0, none⟩), .int .i64 most, .string s, .int .i64 at_] w (RGot w g b o cap bs (.int .i64 n) (pos + 4)) := by
  have hlen := drop_len hd
  rw [count4_length] at hlen
  have hle := h.le
  have HB : Hid (Calls Tryz.prog 122 #[.pointer (some ⟨g, 0, none⟩), .int .i64 4, .string s, .int .i64 at_] w (fun e w' => ∃ v, e = .returned v ∧ Own8 w' w.heap.size v (count4 n) ∧ RR w' g b o cap bs (pos + 4) ∧ Fr (fun k => k = g) w w')) := by
    refine (refr_bytes h hl 4 (by omega) s at_).mono ?_
    rintro e w' ⟨v, h1, h2, h3, h4⟩
    rw [hd, List.take_left' (count4_length n)] at h2
    exact ⟨v, h1, h2, h3, h4⟩
  have hN : Hid (count4 (n : Int) = [(n : Int) / 16777216 % 256, (n : Int) / 65536 % 256, (n : Int) / 256 % 256, (n : Int) % 256]) := rfl
  rw [hN.out] at HB
  obtain ⟨x0, q0⟩ : ∃ x, Hid ((n : Int) / 16777216 % 256 = x) := ⟨_, rfl⟩
  obtain ⟨x1, q1⟩ : ∃ x, Hid ((n : Int) / 65536 % 256 = x) := ⟨_, rfl⟩
  obtain ⟨x2, q2⟩ : ∃ x, Hid ((n : Int) / 256 % 256 = x) := ⟨_, rfl⟩
  obtain ⟨x3, q3⟩ : ∃ x, Hid ((n : Int) % 256 = x) := ⟨_, rfl⟩
  rw [q0.out, q1.out, q2.out, q3.out] at HB
  have hb0 : 0 ≤ x0 ∧ x0 < 256 := by have := q0.out; omega
  have hb1 : 0 ≤ x1 ∧ x1 < 256 := by have := q1.out; omega
  have hb2 : 0 ≤ x2 ∧ x2 < 256 := by have := q2.out; omega
  have hb3 : 0 ≤ x3 ∧ x3 < 256 := by have := q3.out; omega
  have hsum : Hid (x0 * 16777216 + x1 * 65536 + x2 * 256 + x3 = (n : Int)) := by show _ = _; have := q0.out; have := q1.out; have := q2.out; have := q3.out; omega
  obtain ⟨b0l, b0h⟩ := hb0
  obtain ⟨b1l, b1h⟩ := hb1
  obtain ⟨b2l, b2h⟩ := hb2
  obtain ⟨b3l, b3h⟩ := hb3
  clear h hd hN hlen
  go_enter Tryz.func92, Tryz.ntmps92
  go_upto_region 2 with (go_at_call 122; refine HB.out.mono ?_; rintro e w1 ⟨v1, rfl, hv1, h1, hf1⟩; obtain ⟨A1, k1, rfl, _, hr1⟩ := hv1.form)
  obtain ⟨bb, oo, rfl, _, e0⟩ := hr1 0 x0 rfl
  obtain ⟨_, _, hq, _, e1⟩ := hr1 1 x1 rfl
  cases hq
  obtain ⟨_, _, hq, _, e2⟩ := hr1 2 x2 rfl
  cases hq
  obtain ⟨_, _, hq, _, e3⟩ := hr1 3 x3 rfl
  cases hq
  rw [Nat.add_zero] at e0
  have d2 := h1.blk.cell 2
  clear hr1
  go_wp2_with fail
  go_quiet (fail)
  have hor : bits BinOp.or IntKind.i64 (bits BinOp.or IntKind.i64 (bits BinOp.or IntKind.i64 (x0 * 16777216) (x1 * 65536)) (x2 * 256)) x3 = (n : Int) := by
    have a1 : bits .or .i64 (x0 * 16777216) (x1 * 65536) = x0 * 16777216 + x1 * 65536 := by rw [or_low24 _ _ (by omega) (by omega) (by omega)]; unfold wrap64; omega
    have a2 : bits .or .i64 (x0 * 16777216 + x1 * 65536) (x2 * 256) = x0 * 16777216 + x1 * 65536 + x2 * 256 := by rw [or_low16 _ _ (by omega) (by omega) (by omega)]; unfold wrap64; omega
    have a3 : bits .or .i64 (x0 * 16777216 + x1 * 65536 + x2 * 256) x3 = x0 * 16777216 + x1 * 65536 + x2 * 256 + x3 := by rw [or_low _ _ (by omega) (by omega) (by omega)]; unfold wrap64; omega
    rw [a1, a2, a3]
    exact hsum.out
  rw [hor]
  have hf2 : Fr (fun _ => False) w1 (w1.drewN nq) := (Fr.refl _ _).drewN nq
  have hR := h1.keep hf2
  have hfT := hf1.then_ hf2
  have hm' : ¬ most < (n : Int) := by omega
  generalize w1.drewN nq = w2 at *
  go_wp2
  go_ret
  exact ⟨rfl, hR, hfT⟩
set_option maxRecDepth 100000 in
theorem refr_Num {w : World} {g b o cap : Nat} {bs : List Int} {pos : Nat} (h : RR w g b o cap bs pos) (hl : bs.length ≤ 1099511627776) (h8 : pos + 8 ≤ bs.length) :
    Calls Tryz.prog 54 #[.pointer (some ⟨g, 0, none⟩)] w (RGot w g b o cap bs (.int .i64 (numX bs pos)) (pos + 8)) := by
  have c1 := h.blk.cell 1
  have HN := Lib.hid (fun s a => refr_num h hl h8 s a)
  clear h
  go_enter Tryz.func54, Tryz.ntmps54
  go_wp2_with (go_at_call 89; refine (HN.out _ _).mono ?_; rintro e w1 ⟨rfl, h1, hf1⟩)
  go_ret
  exact ⟨rfl, h1, hf1⟩
set_option maxRecDepth 100000 in
theorem refr_Int {w : World} {g b o cap : Nat} {bs : List Int} {pos : Nat} (h : RR w g b o cap bs pos) (hl : bs.length ≤ 1099511627776) (h8 : pos + 8 ≤ bs.length) {n most : Int} (hn : numX bs pos = n) (h0 : 0 ≤ n) (hm : n ≤ most) :
    Calls Tryz.prog 56 #[.pointer (some ⟨g, 0, none⟩), .int .i64 most] w (RGot w g b o cap bs (.int .i64 n) (pos + 8)) := by
  have c1 := h.blk.cell 1
  have HN := fun s a => refr_num h hl h8 s a
  rw [hn] at HN
  have HN := Lib.hid HN
  have h0' : ¬ n < 0 := by omega
  have hm' : ¬ most < n := by omega
  clear h
  go_enter Tryz.func56, Tryz.ntmps56
  go_wp2_with (go_at_call 89; refine (HN.out _ _).mono ?_; rintro e w1 ⟨rfl, h1, hf1⟩; have d2 := h1.blk.cell 2)
  go_ret
  exact ⟨rfl, h1, hf1⟩
/-- A text read. -/
def RText (w : World) (g b o cap : Nat) (bs s : List Int) (p : Nat) (e : Ending) (w' : World) : Prop :=
  ∃ v, e = .returned v ∧ Own8 w' w.heap.size v s ∧ RR w' g b o cap bs p ∧ Fr (fun k => k = g) w w'
set_option maxRecDepth 100000 in
theorem refr_text {w : World} {g b o cap : Nat} {bs : List Int} {pos : Nat} (h : RR w g b o cap bs pos) (hl : bs.length ≤ 1099511627776) {xs t : List Int} (hd : bs.drop pos = textB xs ++ t) (hx : xs.length ≤ 65536) (s : ByteArray) (at_ : Int) :
    Calls Tryz.prog 90 #[.pointer (some ⟨g, 0, none⟩), .string s, .int .i64 at_] w (RText w g b o cap bs xs (pos + 4 + xs.length)) := by
  rw [textB, List.append_assoc] at hd
  have hd2 : bs.drop (pos + 4) = xs ++ t := by have := drop_add hd; rw [count4_length] at this; exact this
  have hlen := drop_len hd2
  have hlen1 := drop_len hd
  rw [count4_length] at hlen1
  have hle := h.le
  have HL := Lib.hid (refr_length h hl hd (most := 65536) (by omega) (by omega) s at_)
  have htk : ((bs.drop (pos + 4)).take xs.length) = xs := by rw [hd2, List.take_left' rfl]
  have HK := Lib.hid htk
  have hle2 : pos + 4 + xs.length ≤ bs.length := by omega
  clear h hd hd2 htk
  go_enter Tryz.func90, Tryz.ntmps90
  go_upto_region 2 with (go_at_call 92; refine HL.out.mono ?_; rintro e w1 ⟨rfl, h1, hf1⟩)
  have HB := Lib.hid (refr_bytes h1 hl xs.length hle2 s at_)
  go_wp2_with (go_at_call 122; refine HB.out.mono ?_; rintro e w2 ⟨v2, rfl, hv2, h2, hf2⟩)
  go_ret
  rw [HK.out] at hv2
  exact ⟨v2, rfl, hv2.base_ hf1.size, h2, hf1.trans hf2 (fun _ _ h => h)⟩
set_option maxRecDepth 100000 in
theorem refr_Text {w : World} {g b o cap : Nat} {bs : List Int} {pos : Nat} (h : RR w g b o cap bs pos) (hl : bs.length ≤ 1099511627776) {xs t : List Int} (hd : bs.drop pos = textB xs ++ t) (hx : xs.length ≤ 65536) :
    Calls Tryz.prog 55 #[.pointer (some ⟨g, 0, none⟩)] w (RText w g b o cap bs xs (pos + 4 + xs.length)) := by
  have c1 := h.blk.cell 1
  have HT := Lib.hid (fun s a => refr_text h hl hd hx s a)
  clear h hd
  go_enter Tryz.func55, Tryz.ntmps55
  go_wp2_with (go_at_call 90; refine (HT.out _ _).mono ?_; rintro e w1 ⟨v1, rfl, hv1, h1, hf1⟩)
  go_ret
  exact ⟨v1, rfl, hv1, h1, hf1⟩
set_option maxRecDepth 100000 in
theorem refr_End {w : World} {g b o cap : Nat} {bs : List Int} (h : RR w g b o cap bs bs.length) :
    Calls Tryz.prog 58 #[.pointer (some ⟨g, 0, none⟩)] w (fun e w' => e = .returned (.tuple #[.int .i64 0, .agg #[.string ⟨#[]⟩, .int .i64 0]]) ∧ Fr (fun _ => False) w w') := by
  have hf0 : Fr (fun _ => False) w (w.alloc (Obj.cells #[.string ⟨#[]⟩, .int .i64 0] 70)) := (Fr.refl _ _).alloc _
  have h1 := h.keep hf0
  have c0 := h1.blk.cell 0
  have c1 := h1.blk.cell 1
  have c2 := h1.blk.cell 2
  have hS0 := Blk.new w 70 #[.string ⟨#[]⟩, .int .i64 0]
  go_enter Tryz.func58, Tryz.ntmps58
  go_wp2_with fail
  go_quiet (fail)
  have hS1 : Blk ((w.alloc (Obj.cells #[.string ⟨#[]⟩, .int .i64 0] 70)).drewN nq) w.heap.size 70 #[.string ⟨#[]⟩, .int .i64 0] := hS0.drewN nq
  have hf1 : Fr (fun _ => False) w ((w.alloc (Obj.cells #[.string ⟨#[]⟩, .int .i64 0] 70)).drewN nq) := hf0.drewN nq
  generalize (w.alloc (Obj.cells #[.string ⟨#[]⟩, .int .i64 0] 70)).drewN nq = w1 at *
  have y0 := hS1.cell 0
  have y1 := hS1.cell 1
  have z0 := hS1.frozen 0
  have z1 := hS1.frozen 1
  go_wp2
  have hS2 := (hS1.set_ 0 (.string ⟨#[]⟩)).set_ 1 (.int .i64 0)
  have d0 := hS2.cell 0
  have d1 := hS2.cell 1
  refine bodyPost_ret (v := .tuple #[.int .i64 0, .agg #[.string ⟨#[]⟩, .int .i64 0]]) (by simp [results, Tryz.results58, go_sem, d0, d1]) rfl ?_
  exact ⟨rfl, Fr.setCell (p := ⟨w.heap.size, 1, none⟩) (Fr.setCell (p := ⟨w.heap.size, 0, none⟩) hf1 (fun h => absurd h (Nat.lt_irrefl _)) _) (fun h => absurd h (Nat.lt_irrefl _)) _⟩
theorem drop_flat {bs t : List Int} {l : List Int} : ∀ {p k : Nat}, bs.drop p = l.flatMap num8 ++ t → k ≤ l.length → bs.drop (p + 8 * k) = (l.drop k).flatMap num8 ++ t := by
  intro p k h hk
  have e : l.flatMap num8 = (l.take k).flatMap num8 ++ (l.drop k).flatMap num8 := by rw [← List.flatMap_append, List.take_append_drop]
  rw [e, List.append_assoc] at h
  have := drop_add h
  rw [flat_num8, List.length_take, Nat.min_eq_left hk] at this
  exact this
/-- A row of numbers read. -/
def RNums (w : World) (g b o cap : Nat) (bs l : List Int) (p : Nat) (e : Ending) (w' : World) : Prop :=
  ∃ v, e = .returned v ∧ w'.ownsRow w.heap.size 2 1 v l.length (num64V l) ∧ RR w' g b o cap bs p ∧ Fr (fun k => k = g) w w'
set_option maxRecDepth 100000 in
set_option maxHeartbeats 1000000 in
theorem refr_Nums {w : World} {g b o cap : Nat} {bs : List Int} {pos : Nat} (h : RR w g b o cap bs pos) (hl : bs.length ≤ 1099511627776) {l t : List Int} (hd : bs.drop pos = numsB l ++ t) (hx : l.length ≤ 1024) (hw : ∀ y ∈ l, -9223372036854775808 ≤ y ∧ y ≤ 9223372036854775807) :
    Calls Tryz.prog 57 #[.pointer (some ⟨g, 0, none⟩)] w (RNums w g b o cap bs l (pos + 4 + 8 * l.length)) := by
  have c1 := h.blk.cell 1
  rw [numsB, List.append_assoc] at hd
  have hd2 : bs.drop (pos + 4) = l.flatMap num8 ++ t := by have := drop_add hd; rw [count4_length] at this; exact this
  have hlen := drop_len hd2
  rw [flat_num8] at hlen
  have hlen1 := drop_len hd
  rw [count4_length, List.length_append, flat_num8] at hlen1
  have hle := h.le
  have HL := Lib.hid (fun s a => refr_length h hl hd (most := 1024) (by omega) (by omega) s a)
  have HD := Lib.hid hd2
  have HW := Lib.hid hw
  have hle2 : pos + 4 + 8 * l.length ≤ bs.length := by omega
  have HLE := Lib.hid hle2
  have hgs : g < w.heap.size := h.blk.lt
  clear h hd hd2 hw hlen hlen1 hle hle2
  go_enter Tryz.func57, Tryz.ntmps57
  go_upto_region 5 with (go_at_call 92; refine (HL.out _ _).mono ?_; rintro e w1 ⟨rfl, h1, hf1⟩)
  go_loopw [5, 6] (fun lv i wr => ∃ k : Nat, k ≤ l.length ∧ i = .int .i64 k ∧ wr.ownsRow w1.heap.size 2 1 lv k (num64V (l.take k)) ∧ RR wr g b o cap bs (pos + 4 + 8 * k) ∧ Fr (fun k => k = g) w1 wr) (fun _ i _ => l.length - (intOf i).toNat)
  case atStart => exact ⟨0, by omega, rfl, World.ownsRow_nil _ _ _ _, h1, Fr.refl _ _⟩
  case round =>
    obtain ⟨k, hk, rfl, hown, hR, hf⟩ := hrel
    have d2 := hR.blk.cell 2
    by_cases hlt : k < l.length
    · obtain ⟨x, hxx⟩ : ∃ x, l[k]? = some x := ⟨l[k], List.getElem?_eq_getElem hlt⟩
      have hdk := drop_flat HD.out hk
      have hlk : l.drop k = x :: l.drop (k + 1) := by
        obtain ⟨h1, h2⟩ := List.getElem?_eq_some_iff.1 hxx
        rw [List.drop_eq_getElem_cons h1, h2]
      rw [hlk, List.flatMap_cons, List.append_assoc] at hdk
      have hwx := HW.out x (List.mem_of_getElem? hxx)
      obtain ⟨_, hnx, _⟩ := num_read hdk hwx.1 hwx.2
      have HN := fun s a => refr_num hR hl (by have := HLE.out; omega) s a
      rw [hnx] at HN
      have HN := Lib.hid HN
      have HX := Lib.hid hxx
      have hgb := own_ge hown
      clear hdk hlk hxx hnx hwx
      go_wp2_with (first
        | (go_at_call 89; refine (HN.out _ _).mono ?_; rintro e w2 ⟨rfl, h2, hf2⟩; have hown2 := own_fr hown hf2 (fun q hq e => own_ne_blk hown hR.blk (by decide) (e ▸ hq)); have hz2 : w1.heap.size ≤ w2.heap.size := (hf.trans hf2 (fun _ _ h => h)).size)
        | (at_builtin; refine wpList_append1 _ rfl _ _ _ rfl w1.heap.size 2 (.int .i64 0) 8 Tryz.underlying132 int64_info rfl u5 k (num64V (l.take k)) rfl (own_fr hown2 ((Fr.refl (fun _ => False) w2).alloc _) (fun _ _ => id)) w2.heap.size (.int .i64 x) rfl ?_ rfl (by omega) (by omega) ?_ ?_; (· simp); (· simp; omega); intro g3 c3 w3 hown3 hf3))
      have hfa : Fr (fun _ => False) w2 (w2.alloc (Obj.cells #[.int .i64 x] 2)) := (Fr.refl _ _).alloc _
      have hown2a := own_fr hown2 hfa (fun _ _ => id)
      have h3 := (h2.keep hfa).fr hf3 (own_ne_blk hown2a (h2.keep hfa).blk (by decide)) (fun q hq e => hq.ne_own hown2a (by decide) e)
      have hf13 : Fr (fun k => k = g) w1 w3 := ((hf.trans hf2 (fun _ _ h => h)).then_ hfa).trans hf3 (fun q hq e => by have := hgb q e; omega)
      go_roundw
      case rel =>
        have e1 : num64V (l.take (k + 1)) = num64V (l.take k) ++ [.int .i64 x] := by
          obtain ⟨h1, h2⟩ := List.getElem?_eq_some_iff.1 HX.out
          rw [List.take_succ_eq_append_getElem h1, h2, num64V, num64V, List.map_append]
          rfl
        exact ⟨k + 1, by omega, by go_num, by rw [e1]; exact hown3, by rw [show pos + 4 + 8 * (k + 1) = pos + 4 + 8 * k + 8 by omega]; exact h3, hf13⟩
      case measure => simp [intOf]; omega
    · obtain rfl : k = l.length := by omega
      rw [List.take_length] at hown
      go_wp2
      go_ret
      exact ⟨_, rfl, own_base hown hf1.size, hR, hf1.trans hf (fun _ _ h => h)⟩
set_option maxRecDepth 100000 in
theorem refr_New {w : World} {F : Nat → Prop} {A : Option Addr} {cap : Nat} {bs : List Int} (hr : ByteRow w F A bs) (h0 : 0 < bs.length) (hl : bs.length ≤ 1099511627776) :
    Calls Tryz.prog 53 #[.slice A bs.length cap] w (fun e w' => ∃ g b o c, e = .returned (.pointer (some ⟨g, 0, none⟩)) ∧ w.heap.size ≤ g ∧ RR w' g b o c bs 0 ∧ Fr (fun _ => False) w w') := by
  have hf1 : Fr (fun _ => False) w (w.alloc (Obj.cells #[] 5)) := (Fr.refl _ _).alloc _
  have ho : Own8 (w.alloc (Obj.cells #[] 5)) w.heap.size (.slice (some ⟨w.heap.size, 0, none⟩) 0 0) [] := Own8.built w (Nat.le_refl _) [] (by simp) 0 rfl
  have hr1 := hr.fr hf1 (fun _ _ => id)
  go_enter Tryz.func53, Tryz.ntmps53
  go_wp2_with (at_builtin; refine wpList_append_text rfl (.tmp 3) (.tmp 4) rfl w.heap.size _ [] rfl ho F A bs.length cap bs rfl rfl hr1 (by simp; omega) (by simp) ?_; intro v2 w2 h2 hf2 hk2; obtain ⟨A2, c2, rfl, hc2, hr2⟩ := Own8.u8row h2)
  have hgR := fun (o : Obj) => (Fr.refl (fun _ => False) w2).alloc o
  have hf12 : Fr (fun _ => False) w w2 := hf1.trans hf2 (fun q hq e => by have := own_ge ho q e; omega)
  go_ret
  obtain ⟨b2, o2, rfl, _, _⟩ := hr2 0 bs[0] (List.getElem?_eq_getElem h0)
  exact ⟨w2.heap.size, b2, o2, c2, rfl, hf12.size, ⟨Blk.new _ _ _, hr2.u8 (hgR _) (fun _ _ => id), hc2, Nat.zero_le _⟩, hf12.then_ (hgR _)⟩
end Go.Proofs.YtmkdhhhoodeemaaGreat

/- cohortref05: Put and Get of a zero certificate. -/
namespace Go.Proofs.YtmkdhhhoodeemaaGreat
open Go Go.RowKit
set_option maxRecDepth 100000 in
set_option maxHeartbeats 1000000 in
theorem ref05_Put_zero (w : World) :
    Calls Tryz.prog 93 #[.agg #[.int .i64 0, .int .i64 0, .slice none 0 0]] w (fun e w' => ∃ v, e = .returned (.tuple #[v, .int .i64 0, .slice none 0 0]) ∧ Own8 w' w.heap.size v certZ ∧ Fr (fun _ => False) w w') := by
  have hB0 := (Blk.new w 41 #[.int .i64 0, .int .i64 0, .slice none 0 0]).alloc (Obj.cells #[.slice none 0 0, .int .i64 0, .int .i64 0] 94)
  have hf0 : Fr (fun _ => False) w ((w.alloc (Obj.cells #[.int .i64 0, .int .i64 0, .slice none 0 0] 41)).alloc (Obj.cells #[.slice none 0 0, .int .i64 0, .int .i64 0] 94)) := ((Fr.refl _ _).alloc _).alloc _
  have hW0 : RefW ((w.alloc (Obj.cells #[.int .i64 0, .int .i64 0, .slice none 0 0] 41)).alloc (Obj.cells #[.slice none 0 0, .int .i64 0, .int .i64 0] 94)) (w.heap.size + 1) (w.heap.size + 1) (.slice none 0 0) [] none := ⟨Blk.new_ _ _ _ (by simp), Own8.nil _ _⟩
  have hz0 : w.heap.size + 1 ≤ ((w.alloc (Obj.cells #[.int .i64 0, .int .i64 0, .slice none 0 0] 41)).alloc (Obj.cells #[.slice none 0 0, .int .i64 0, .int .i64 0] 94)).heap.size := by simp
  go_enter Tryz.func93, Tryz.ntmps93
  go_upto_region 2 with fail
  generalize ((w.alloc (Obj.cells #[.int .i64 0, .int .i64 0, .slice none 0 0] 41)).alloc (Obj.cells #[.slice none 0 0, .int .i64 0, .int .i64 0] 94)) = w0 at *
  have hsg : w.heap.size ≤ w.heap.size + 1 := by omega
  obtain ⟨g, hg⟩ : ∃ g, Hid (w.heap.size + 1 = g) := ⟨_, rfl⟩
  rw [hg.out] at hW0 hz0 hsg ⊢
  have k0 := hB0.cell 0
  go_wp2_with fail
  refine (refw_Num hW0 hz0 (by simp) 0).mono ?_
  rintro e w1 ⟨v1, rfl, hW1, hq1, _⟩
  have hW1 : RefW w1 g g v1 ([] ++ num8 0) none := hW1
  obtain ⟨b1, hb1⟩ : ∃ b, Hid (([] : List Int) ++ num8 0 = b) := ⟨_, rfl⟩
  rw [hb1.out] at hW1
  have hl1 : b1.length = 8 := by rw [← hb1.out]; rfl
  have hB1 := wrote_blk hB0 hW0.blk hW0.own hq1 (by decide) (by decide)
  have hf1 := wrote_fr hf0 hW0.own hsg hsg hq1
  have hz1 : g ≤ w1.heap.size := Nat.le_of_lt hW1.blk.lt
  clear hq1 hW0 hB0 hf0 hz0 k0
  have k1 := hB1.cell 1
  go_wp2_with fail
  refine (refw_Num hW1 hz1 (by omega) 0).mono ?_
  rintro e w2 ⟨v2, rfl, hW2, hq2, _⟩
  have hW2 : RefW w2 g g v2 (b1 ++ num8 0) none := hW2
  obtain ⟨b2, hb2⟩ : ∃ b, Hid (b1 ++ num8 0 = b) := ⟨_, rfl⟩
  rw [hb2.out] at hW2
  have hl2 : b2.length = 16 := by rw [← hb2.out, List.length_append, hl1]; rfl
  have hB2 := wrote_blk hB1 hW1.blk hW1.own hq2 (by decide) (by decide)
  have hf2 := wrote_fr hf1 hW1.own hsg hsg hq2
  have hz2 : g ≤ w2.heap.size := Nat.le_of_lt hW2.blk.lt
  clear hq2 hW1 hB1 hf1 hz1 k1
  have k2 := hB2.cell 2
  go_upto_region 6 with fail
  go_loopw [6, 7] (fun lv i wr => lv = .slice none 0 0 ∧ i = .int .i64 0 ∧ wr = w2) (fun _ _ _ => 0)
  case atStart => exact ⟨rfl, rfl, rfl⟩
  case round =>
    obtain ⟨rfl, rfl, rfl⟩ := hrel
    generalize wr = w3 at *
    have HN : Calls Tryz.prog 119 #[.pointer (some ⟨g, 0, none⟩), .slice none 0 0] w3 (RWrote w3 g g v2 (b2 ++ numsB []) none) := by
      have h := refw_Nums (l := []) (A := none) (F := fun _ => False) (cap := 0) hW2 hz2 (fun k x hx => by simp at hx) (fun _ h => h.elim) (fun h => h) (by simp) (.inl (by simp [numsB, count4_length]; omega))
      rw [if_pos (by simp)] at h
      exact h
    have HN := Lib.hid HN
    obtain ⟨b4, hb4⟩ : ∃ b, Hid (b2 ++ numsB [] = b) := ⟨_, rfl⟩
    rw [hb4.out] at HN
    have hl4 : b4.length = 20 := by rw [← hb4.out, List.length_append, hl2]; rfl
    go_upto_region 10 with (go_at_call 119; refine HN.out.mono ?_; rintro e w4 ⟨v4, rfl, hW4, hq4, _⟩)
    have hf4 := wrote_fr hf2 hW2.own hsg hsg hq4
    have y1 := hW4.blk.cell 1
    have e1 : badC none = 0 := rfl
    rw [e1] at y1
    have HY := Lib.hid (refw_Bytes hW4 (by omega))
    go_wp2_with (go_at_call 36; refine HY.out.mono ?_; rintro e w5 ⟨v5, rfl, hv5, hf5⟩)
    refine bodyPost_ret (v := .tuple #[v5, .int .i64 0, .slice none 0 0]) (by simp [results, Tryz.results93, go_sem]) rfl ?_
    have he : certZ = b4 := by rw [← hb4.out, ← hb2.out, ← hb1.out]; rfl
    have hv5 : Own8 w5 w4.heap.size v5 b4 := hv5
    rw [he]
    exact ⟨v5, rfl, hv5.base_ hf4.size, hf4.then_ hf5⟩
theorem RR.far {w : World} {g b o cap : Nat} {bs : List Int} {pos : Nat} (h : RR w g b o cap bs pos) {x : Nat} {t : TypeId} {cs : Array Value} (hB : Blk w x t cs) (hne : x ≠ g) (ht : 5 ≠ t) (i : Nat) (u : Value) : RR (w.setCell ⟨x, i, none⟩ u) g b o cap bs pos :=
  h.fr ((Fr.refl (fun k => k = x) w).setCell (p := ⟨x, i, none⟩) (fun _ => rfl) u) (fun e => hne e.symm) (fun k hk e => hk.ne_blk hB ht e)
theorem certZ_length : certZ.length = 20 := rfl
set_option maxRecDepth 100000 in
set_option maxHeartbeats 1000000 in
theorem ref05_Get_zero {w : World} {F : Nat → Prop} {A : Option Addr} {cap : Nat} (hr : ByteRow w F A certZ) :
    Calls Tryz.prog 61 #[.slice A certZ.length cap] w (fun e w' => e = .returned (.tuple #[.agg #[.int .i64 0, .int .i64 0, .slice none 0 0], .int .i64 0, .slice none 0 0]) ∧ Fr (fun _ => False) w w') := by
  obtain ⟨bs, hbs⟩ : ∃ bs, Hid (certZ = bs) := ⟨_, rfl⟩
  have hl : bs.length = 20 := by rw [← hbs.out]; rfl
  have d0 : bs.drop 0 = num8 0 ++ (num8 0 ++ (numsB [] ++ [])) := by rw [← hbs.out]; rfl
  have d8 : bs.drop 8 = num8 0 ++ (numsB [] ++ []) := by rw [← hbs.out]; rfl
  have d16 : bs.drop 16 = numsB [] ++ [] := by rw [← hbs.out]; rfl
  have n0 := (num_read d0 (by omega) (by omega)).2.1
  have n8 := (num_read d8 (by omega) (by omega)).2.1
  have D16 := Lib.hid d16
  have N0 := Lib.hid n0
  have N8 := Lib.hid n8
  rw [hbs.out] at hr ⊢
  clear d0 d8 d16 n0 n8 hbs
  have hf0 : Fr (fun _ => False) w (w.alloc (Obj.cells #[.int .i64 0, .int .i64 0, .slice none 0 0] 41)) := (Fr.refl _ _).alloc _
  have hR0 := Blk.new w 41 #[.int .i64 0, .int .i64 0, .slice none 0 0]
  have HNew := Lib.hid (refr_New (cap := cap) (hr.fr hf0 (fun _ _ => id)) (by omega) (by omega))
  have HL := Lib.hid hl
  clear hl
  go_enter Tryz.func61, Tryz.ntmps61
  go_upto_region 2 with (go_at_call 53; refine HNew.out.mono ?_; rintro e w1 ⟨g, b, o, c, rfl, hg, hRR, hf1⟩)
  generalize w.alloc (Obj.cells #[.int .i64 0, .int .i64 0, .slice none 0 0] 41) = w0 at *
  have hRb := (hR0.fr hf1 id).alloc (Obj.cells #[.int .i64 0, .int .i64 0, .slice none 0 0] 41)
  have hrc : w.heap.size < w1.heap.size := Nat.lt_of_lt_of_le hR0.lt hf1.size
  have hgr : w.heap.size < g := Nat.lt_of_lt_of_le hR0.lt hg
  have hC2 := Blk.new w1 41 #[.int .i64 0, .int .i64 0, .slice none 0 0]
  have hf2 := (hf0.then_ hf1).alloc (Obj.cells #[.int .i64 0, .int .i64 0, .slice none 0 0] 41)
  have hRR2 := hRR.keep ((Fr.refl (fun _ => False) w1).alloc (Obj.cells #[.int .i64 0, .int .i64 0, .slice none 0 0] 41))
  go_upto_region 3 with fail
  have hne : ¬ g = w1.heap.size := by have := hRR.blk.lt; omega
  have hgw : w0.heap.size ≤ g := hg
  have hbb : ∀ q, U8 w1 q → q < w1.heap.size := fun q ⟨cs, fr, h⟩ => by
    rcases Nat.lt_or_ge q w1.heap.size with h1 | h1
    · exact h1
    · simp [h1] at h
  generalize w1.alloc (Obj.cells #[.int .i64 0, .int .i64 0, .slice none 0 0] 41) = w2 at *
  obtain ⟨cc, hcc⟩ : ∃ cc, Hid (w1.heap.size = cc) := ⟨_, rfl⟩
  rw [hcc.out] at hC2 hne hrc ⊢
  clear hRR hbb hR0 hf0 HNew hg hgw hf1
  have HI := Lib.hid (refr_Int hRR2 (by have := HL.out; omega) (by have := HL.out; omega) (most := 2147483647) N0.out (by omega) (by omega))
  go_upto_region 4 with (go_at_call 56; refine HI.out.mono ?_; rintro e w3 ⟨rfl, h3, hf3⟩; have hC3 := hC2.fr hf3 (fun e => hne e.symm); have y0 := hC3.cell 0; have z0 := hC3.frozen 0)
  have hR3 := hRb.fr hf3 (fun e => by omega)
  have hf03 : Fr (fun _ => False) w w3 := hf2.trans hf3 (fun k hk e => by omega)
  have h4 := h3.far hC3 (fun e => hne e.symm) (by decide) 0 (.int .i64 0)
  have hC4 : Blk (w3.setCell ⟨cc, 0, none⟩ (.int .i64 0)) cc 41 #[.int .i64 0, .int .i64 0, .slice none 0 0] := hC3.set_ 0 _
  have hR4 := hR3.far (p := ⟨cc, 0, none⟩) (fun e => by dsimp only at e; omega) (.int .i64 0)
  have hf4 : Fr (fun _ => False) w (w3.setCell ⟨cc, 0, none⟩ (.int .i64 0)) := hf03.setCell (p := ⟨cc, 0, none⟩) (fun h => absurd h (by dsimp only; omega)) _
  generalize w3.setCell ⟨cc, 0, none⟩ (.int .i64 0) = w4 at *
  clear hC3 hR3 h3 hf3 hC2 hRb hRR2 y0 z0 HI hf2 hf03
  have HI := Lib.hid (refr_Int h4 (by have := HL.out; omega) (by have := HL.out; omega) (most := 2147483647) N8.out (by omega) (by omega))
  go_upto_region 5 with (go_at_call 56; refine HI.out.mono ?_; rintro e w5 ⟨rfl, h5, hf5⟩; have hC5 := hC4.fr hf5 (fun e => hne e.symm); have y1 := hC5.cell 1; have z1 := hC5.frozen 1)
  have hR5 := hR4.fr hf5 (fun e => by omega)
  have hf05 : Fr (fun _ => False) w w5 := hf4.trans hf5 (fun k hk e => by omega)
  have h6 := h5.far hC5 (fun e => hne e.symm) (by decide) 1 (.int .i64 0)
  have hC6 : Blk (w5.setCell ⟨cc, 1, none⟩ (.int .i64 0)) cc 41 #[.int .i64 0, .int .i64 0, .slice none 0 0] := hC5.set_ 1 _
  have hR6 := hR5.far (p := ⟨cc, 1, none⟩) (fun e => by dsimp only at e; omega) (.int .i64 0)
  have hf6 : Fr (fun _ => False) w (w5.setCell ⟨cc, 1, none⟩ (.int .i64 0)) := hf05.setCell (p := ⟨cc, 1, none⟩) (fun h => absurd h (by dsimp only; omega)) _
  generalize w5.setCell ⟨cc, 1, none⟩ (.int .i64 0) = w6 at *
  clear hC5 hR5 h5 hf5 hC4 hR4 h4 y1 z1 HI hf4 hf05
  have HM := Lib.hid (refr_Nums h6 (by have := HL.out; omega) D16.out (by simp) (fun y h => by cases h))
  go_upto_region 6 with (go_at_call 57; refine HM.out.mono ?_; rintro e w7 ⟨v7, rfl, hv7, h7, hf7⟩; obtain ⟨A7, k7, rfl, _, _⟩ := own_form hv7)
  have h7 : RR w7 g b o c bs 20 := h7
  have h7 : RR w7 g b o c bs bs.length := by rw [HL.out]; exact h7
  have HE := Lib.hid (refr_End h7)
  have hC7 := hC6.fr hf7 (fun e => hne e.symm)
  have hR7 := hR6.fr hf7 (fun e => by omega)
  have hf07 : Fr (fun _ => False) w w7 := hf6.trans hf7 (fun k hk e => by omega)
  clear h6 hC6 hR6 hf6 hf7 HM
  go_upto_region 10 with (go_at_call 58; refine HE.out.mono ?_; rintro e w8 ⟨rfl, hf8⟩)
  have hC9 := (hC7.fr hf8 id).alloc (Obj.cells #[.string ⟨#[]⟩, .int .i64 0] 70)
  have hR9 := (hR7.fr hf8 id).alloc (Obj.cells #[.string ⟨#[]⟩, .int .i64 0] 70)
  have hf9 := (hf07.then_ hf8).alloc (Obj.cells #[.string ⟨#[]⟩, .int .i64 0] 70)
  generalize w8.alloc (Obj.cells #[.string ⟨#[]⟩, .int .i64 0] 70) = w9 at *
  clear hC7 hR7 hf07 hf8 h7 HE hv7
  go_loopw [10] (fun i wr => i = .int .i64 0 ∧ wr = w9) (fun _ _ => 0)
  case atStart => exact ⟨rfl, rfl⟩
  case round =>
    obtain ⟨rfl, rfl⟩ := hrel
    generalize wr = w9 at *
    have c0 := hC9.cell 0
    have c1 := hC9.cell 1
    have c2 := hC9.cell 2
    have r0 := hR9.cell 0
    have r1 := hR9.cell 1
    have r2 := hR9.cell 2
    have z0 := hR9.frozen 0
    have z1 := hR9.frozen 1
    have z2 := hR9.frozen 2
    go_wp2
    have hR10 := ((hR9.set_ 0 (.int .i64 0)).set_ 1 (.int .i64 0)).set_ 2 (.slice none 0 0)
    have d0 := hR10.cell 0
    have d1 := hR10.cell 1
    have d2 := hR10.cell 2
    refine bodyPost_ret (v := .tuple #[.agg #[.int .i64 0, .int .i64 0, .slice none 0 0], .int .i64 0, .slice none 0 0]) (by simp [results, Tryz.results61, go_sem, d0, d1, d2]) rfl ?_
    exact ⟨rfl, get_fr hf9⟩
end Go.Proofs.YtmkdhhhoodeemaaGreat

/- cohortref10: Same. -/
namespace Go.Proofs.YtmkdhhhoodeemaaGreat
open Go Go.RowKit
theorem bytes_inj {a b : ByteArray} (h : a.toList = b.toList) : a = b := by
  rw [ByteArray.toList_eq, ByteArray.toList_eq] at h
  exact ByteArray.ext (Array.ext' h)
theorem take_both {α : Type} {l m : List α} {k : Nat} {x y : α} (h : l.take k = m.take k) (hx : l[k]? = some x) (hy : m[k]? = some y) (hxy : x = y) : l.take (k + 1) = m.take (k + 1) := by
  obtain ⟨h1, rfl⟩ := List.getElem?_eq_some_iff.1 hx
  obtain ⟨h2, rfl⟩ := List.getElem?_eq_some_iff.1 hy
  rw [List.take_succ_eq_append_getElem h1, List.take_succ_eq_append_getElem h2, h, hxy]
theorem same10_no {w w' : World} {P : Prop} [Decidable P] {z : Bool} (hz : Hid (decide P = z)) (h : ¬ P) (hf : Fr (fun _ => False) w w') : OkB w z (.returned (.bool false)) w' := ⟨by rw [← hz.out, decide_eq_false h], hf⟩
theorem same10_yes {w w' : World} {P : Prop} [Decidable P] {z : Bool} (hz : Hid (decide P = z)) (h : P) (hf : Fr (fun _ => False) w w') : OkB w z (.returned (.bool true)) w' := ⟨by rw [← hz.out, decide_eq_true h], hf⟩
set_option maxRecDepth 100000 in
set_option maxHeartbeats 1000000 in
theorem ref10_Same {w : World} {F : Nat → Prop} {A B A' B' : Option Addr} {cr cw cr' cw' : Nat} {c n c' n' : Int} {R R' : List (ByteArray × Int)} {W W' : List (ByteArray × ByteArray)} (hr : ReadRow w F A R) (hw : WriteRow w F B W) (hr' : ReadRow w F A' R') (hw' : WriteRow w F B' W') (lR : R.length ≤ 1000) (lW : W.length ≤ 1000) :
    Calls Tryz.prog 22 #[.agg #[.int .i64 c, .int .i64 n, .slice A R.length cr, .slice B W.length cw], .agg #[.int .i64 c', .int .i64 n', .slice A' R'.length cr', .slice B' W'.length cw']] w (OkB w (decide (c = c' ∧ n = n' ∧ R = R' ∧ W = W'))) := by
  obtain ⟨m1, hm1⟩ : ∃ x, Hid (R'.length = x) := ⟨_, rfl⟩
  obtain ⟨m2, hm2⟩ : ∃ x, Hid (W'.length = x) := ⟨_, rfl⟩
  rw [hm1.out, hm2.out]
  have hf0 : Fr (fun _ => False) w ((w.alloc (Obj.cells #[.int .i64 c, .int .i64 n, .slice A R.length cr, .slice B W.length cw] 29)).alloc (Obj.cells #[.int .i64 c', .int .i64 n', .slice A' m1 cr', .slice B' m2 cw'] 29)) := ((Fr.refl _ _).alloc _).alloc _
  have hB0 : Blk ((w.alloc (Obj.cells #[.int .i64 c, .int .i64 n, .slice A R.length cr, .slice B W.length cw] 29)).alloc (Obj.cells #[.int .i64 c', .int .i64 n', .slice A' m1 cr', .slice B' m2 cw'] 29)) w.heap.size 29 #[.int .i64 c, .int .i64 n, .slice A R.length cr, .slice B W.length cw] := (Blk.new w _ _).alloc _
  have hB1 : Blk ((w.alloc (Obj.cells #[.int .i64 c, .int .i64 n, .slice A R.length cr, .slice B W.length cw] 29)).alloc (Obj.cells #[.int .i64 c', .int .i64 n', .slice A' m1 cr', .slice B' m2 cw'] 29)) (w.heap.size + 1) 29 #[.int .i64 c', .int .i64 n', .slice A' m1 cr', .slice B' m2 cw'] := Blk.new_ _ _ _ (by simp)
  obtain ⟨z, HZ⟩ : ∃ z, Hid (decide (c = c' ∧ n = n' ∧ R = R' ∧ W = W') = z) := ⟨_, rfl⟩
  rw [HZ.out]
  have HR := Lib.hid (hr.fr hf0 (fun _ _ => id))
  have HW := Lib.hid (hw.fr hf0 (fun _ _ => id))
  have HR' := Lib.hid (hr'.fr hf0 (fun _ _ => id))
  have HW' := Lib.hid (hw'.fr hf0 (fun _ _ => id))
  clear hr hw hr' hw'
  have lR' : Hid (R.length ≤ 1000) := lR
  have lW' : Hid (W.length ≤ 1000) := lW
  by_cases pc1 : c = c'
  case neg =>
    have q : (c == c') = false := by simp [pc1]
    have HNO : Hid (¬ (c = c' ∧ n = n' ∧ R = R' ∧ W = W')) := fun e => pc1 e.1
    go_enter Tryz.func22, Tryz.ntmps22
    go_wp2_with fail
    go_ret
    exact same10_no HZ HNO.out hf0
  case pos =>
  subst pc1
  by_cases pc2 : n = n'
  case neg =>
    have q : (n == n') = false := by simp [pc2]
    have HNO : Hid (¬ (c = c ∧ n = n' ∧ R = R' ∧ W = W')) := fun e => pc2 e.2.1
    go_enter Tryz.func22, Tryz.ntmps22
    go_wp2_with fail
    go_ret
    exact same10_no HZ HNO.out hf0
  case pos =>
  subst pc2
  by_cases pc3 : R.length = m1
  case neg =>
    have q : ((R.length : Int) == (m1 : Int)) = false := by simp; omega
    have qn : ¬ (R.length : Int) = (m1 : Int) := by omega
    have HNO : Hid (¬ (c = c ∧ n = n ∧ R = R' ∧ W = W')) := fun e => pc3 (by rw [← hm1.out, e.2.2.1])
    go_enter Tryz.func22, Tryz.ntmps22
    go_wp2_with fail
    go_ret
    exact same10_no HZ HNO.out hf0
  case pos =>
  subst pc3
  have pR : Hid (R.length = R'.length) := hm1.out.symm
  by_cases pc4 : W.length = m2
  case neg =>
    have q : ((W.length : Int) == (m2 : Int)) = false := by simp; omega
    have qn : ¬ (W.length : Int) = (m2 : Int) := by omega
    have HNO : Hid (¬ (c = c ∧ n = n ∧ R = R' ∧ W = W')) := fun e => pc4 (by rw [← hm2.out, e.2.2.2])
    go_enter Tryz.func22, Tryz.ntmps22
    go_wp2_with fail
    go_ret
    exact same10_no HZ HNO.out hf0
  case pos =>
  subst pc4
  have pW : Hid (W.length = W'.length) := hm2.out.symm
  go_enter Tryz.func22, Tryz.ntmps22
  go_wp2_with fail
  generalize ((w.alloc (Obj.cells #[.int .i64 c, .int .i64 n, .slice A R.length cr, .slice B W.length cw] 29)).alloc (Obj.cells #[.int .i64 c, .int .i64 n, .slice A' R.length cr', .slice B' W.length cw'] 29)) = w0 at *
  generalize w.heap.size = g0 at *
  go_loopw [5] (fun i wr => ∃ k : Nat, k ≤ R.length ∧ i = .int .i64 k ∧ R.take k = R'.take k ∧ Fr (fun _ => False) w0 wr) (fun i _ => R.length - (intOf i).toNat)
  case atStart => exact ⟨0, by omega, rfl, by simp, Fr.refl _ w0⟩
  case round =>
    obtain ⟨k, hk, rfl, heq, hf⟩ := hrel
    have hC0 := hB0.fr hf id
    have hC1 := hB1.fr hf id
    have c2 := hC0.cell 2
    have e2 := hC1.cell 2
    by_cases hlt : k < R.length
    · have hlt1 : (k : Int) < (R.length : Int) := by omega
      have hlt2 : k < R'.length := by have := pR.out; omega
      obtain ⟨x, hx⟩ : ∃ x, R[k]? = some x := ⟨R[k], List.getElem?_eq_getElem hlt⟩
      obtain ⟨y, hy⟩ : ∃ y, R'[k]? = some y := ⟨R'[k]'hlt2, List.getElem?_eq_getElem hlt2⟩
      obtain ⟨b, o, rfl, _, a0, a1⟩ := HR.out k x hx
      obtain ⟨b', o', rfl, _, a0', a1'⟩ := HR'.out k y hy
      have d0 := hf.cell_some a0 id
      have d1 := hf.cell_some a1 id
      have d0' := hf.cell_some a0' id
      have d1' := hf.cell_some a1' id
      have HX := Lib.hid hx
      have HY := Lib.hid hy
      have HE := Lib.hid heq
      clear a0 a1 a0' a1' hx hy heq hC0 hC1
      by_cases hs : x.1 = y.1
      · have b1 : (x.1.toList == y.1.toList) = true := by rw [hs]; simp
        by_cases hn : x.2 = y.2
        · have b2 : (x.2 == y.2) = true := by simp [hn]
          have hxy : Hid (x = y) := by
            show x = y
            cases x; cases y; simp_all
          clear hs hn
          go_wp2_with fail
          go_quiet (fail)
          go_wp2
          go_roundw
          case rel => exact ⟨k + 1, by omega, by go_num, take_both HE.out HX.out HY.out hxy.out, hf.drewN _⟩
          case measure => simp [intOf]; omega
        · have b2 : (x.2 == y.2) = false := by simp [hn]
          have hxy : Hid (R ≠ R') := fun h => hn (by have := HX.out; rw [h, HY.out] at this; cases this; rfl)
          clear hs hn
          go_wp2_with fail
          go_quiet (fail)
          go_wp2
          go_ret
          exact same10_no HZ (fun e => hxy.out e.2.2.1) (hf0.then_ (hf.drewN _))
      · have b1 : (x.1.toList == y.1.toList) = false := by simpa using fun h => hs (bytes_inj h)
        have hxy : Hid (R ≠ R') := fun h => hs (by have := HX.out; rw [h, HY.out] at this; cases this; rfl)
        clear hs
        go_wp2_with fail
        go_quiet (fail)
        go_wp2
        go_ret
        exact same10_no HZ (fun e => hxy.out e.2.2.1) (hf0.then_ (hf.drewN _))
    · have hkl : k = R.length := by omega
      have hRR : Hid (R = R') := by
        rw [hkl, List.take_of_length_le (Nat.le_refl _), pR.out, List.take_of_length_le (Nat.le_refl _)] at heq
        exact heq
      have hlt1 : ¬ (k : Int) < (R.length : Int) := by omega
      clear heq hkl hk
      go_wp2_with fail
      go_loopw [6] (fun i wr => ∃ k : Nat, k ≤ W.length ∧ i = .int .i64 k ∧ W.take k = W'.take k ∧ Fr (fun _ => False) w0 wr) (fun i _ => W.length - (intOf i).toNat)
      case atStart => exact ⟨0, by omega, rfl, by simp, hf⟩
      case round =>
        obtain ⟨k, hk, rfl, heq, hf⟩ := hrel
        have hC0 := hB0.fr hf id
        have hC1 := hB1.fr hf id
        have c2 := hC0.cell 3
        have e2 := hC1.cell 3
        by_cases hlt : k < W.length
        · have hlt1 : (k : Int) < (W.length : Int) := by omega
          have hlt2 : k < W'.length := by have := pW.out; omega
          obtain ⟨x, hx⟩ : ∃ x, W[k]? = some x := ⟨W[k], List.getElem?_eq_getElem hlt⟩
          obtain ⟨y, hy⟩ : ∃ y, W'[k]? = some y := ⟨W'[k]'hlt2, List.getElem?_eq_getElem hlt2⟩
          obtain ⟨b, o, rfl, _, a0, a1⟩ := HW.out k x hx
          obtain ⟨b', o', rfl, _, a0', a1'⟩ := HW'.out k y hy
          have d0 := hf.cell_some a0 id
          have d1 := hf.cell_some a1 id
          have d0' := hf.cell_some a0' id
          have d1' := hf.cell_some a1' id
          have HX := Lib.hid hx
          have HY := Lib.hid hy
          have HE := Lib.hid heq
          clear a0 a1 a0' a1' hx hy heq hC0 hC1
          by_cases hs : x.1 = y.1
          · have b1 : (x.1.toList == y.1.toList) = true := by rw [hs]; simp
            by_cases hn : x.2 = y.2
            · have b2 : (x.2.toList == y.2.toList) = true := by rw [hn]; simp
              have hxy : Hid (x = y) := by
                show x = y
                cases x; cases y; simp_all
              clear hs hn
              go_wp2_with fail
              go_quiet (fail)
              go_wp2
              go_roundw
              case rel => exact ⟨k + 1, by omega, by go_num, take_both HE.out HX.out HY.out hxy.out, hf.drewN _⟩
              case measure => simp [intOf]; omega
            · have b2 : (x.2.toList == y.2.toList) = false := by simpa using fun h => hn (bytes_inj h)
              have hxy : Hid (W ≠ W') := fun h => hn (by have := HX.out; rw [h, HY.out] at this; cases this; rfl)
              clear hs hn
              go_wp2_with fail
              go_quiet (fail)
              go_wp2
              go_ret
              exact same10_no HZ (fun e => hxy.out e.2.2.2) (hf0.then_ (hf.drewN _))
          · have b1 : (x.1.toList == y.1.toList) = false := by simpa using fun h => hs (bytes_inj h)
            have hxy : Hid (W ≠ W') := fun h => hs (by have := HX.out; rw [h, HY.out] at this; cases this; rfl)
            clear hs
            go_wp2_with fail
            go_quiet (fail)
            go_wp2
            go_ret
            exact same10_no HZ (fun e => hxy.out e.2.2.2) (hf0.then_ (hf.drewN _))
        · have hkl : k = W.length := by omega
          have hWW : Hid (W = W') := by
            rw [hkl, List.take_of_length_le (Nat.le_refl _), pW.out, List.take_of_length_le (Nat.le_refl _)] at heq
            exact heq
          have hlt1 : ¬ (k : Int) < (W.length : Int) := by omega
          clear heq hkl hk
          go_wp2_with fail
          go_ret
          exact same10_yes HZ ⟨by trivial, by trivial, hRR.out, hWW.out⟩ (hf0.then_ hf)
end Go.Proofs.YtmkdhhhoodeemaaGreat

/- cohortref11: RightOrder of a client's order. -/
namespace Go.Proofs.YtmkdhhhoodeemaaGreat
open Go Go.RowKit
attribute [local go_sem ↓] run_neqSay run_eqlSay
set_option maxRecDepth 100000 in
set_option maxHeartbeats 1000000 in
theorem ref11_rightProof_zero (w : World) : Calls Tryz.prog 94 #[.agg #[.int .i64 0, .int .i64 0, .slice none 0 0, .slice none 0 0]] w (OkB w true) := by
  have hB0 := Blk.new w 60 #[.int .i64 0, .int .i64 0, .slice none 0 0, .slice none 0 0]
  have hf0 : Fr (fun _ => False) w (w.alloc (Obj.cells #[.int .i64 0, .int .i64 0, .slice none 0 0, .slice none 0 0] 60)) := (Fr.refl _ _).alloc _
  go_enter Tryz.func94, Tryz.ntmps94
  go_upto_region 1 with fail
  generalize w.alloc (Obj.cells #[.int .i64 0, .int .i64 0, .slice none 0 0, .slice none 0 0] 60) = w0 at *
  have k0 := hB0.cell 0
  have k1 := hB0.cell 1
  have k2 := hB0.cell 2
  have k3 := hB0.cell 3
  go_upto_region 4 with fail
  go_loopw [3] (fun i wr => i = .int .i64 0 ∧ wr = w0) (fun _ _ => 0)
  case atStart => exact ⟨rfl, rfl⟩
  case round =>
    obtain ⟨rfl, rfl⟩ := hrel
    go_upto_region 9 with fail
    go_loopw [4] (fun i w2 => i = .int .i64 0 ∧ w2 = wr) (fun _ _ => 0)
    case atStart => exact ⟨rfl, rfl⟩
    case round =>
      obtain ⟨rfl, rfl⟩ := hrel
      go_wp2
      go_ret
      exact ⟨rfl, hf0⟩
set_option maxRecDepth 100000 in
set_option maxHeartbeats 1000000 in
theorem ref11_RightOrder_begin {w : World} {F : Nat → Prop} {A B : Option Addr} {cr cw : Nat} {c n : Int} {R : List (ByteArray × Int)} {W : List (ByteArray × ByteArray)} (hr : ReadRow w F A R) (hw : WriteRow w F B W) :
    Calls Tryz.prog 62 #[.agg #[.int .i64 6, .int .i64 c, .int .i64 n, .slice A R.length cr, .slice B W.length cw, .int .i64 0, .int .i64 0, .bool false, .string ⟨#[]⟩, .string ⟨#[]⟩, .int .i64 0, .int .i64 0, .int .i64 0, .int .i64 0, .int .i64 0, .int .i64 0, .slice none 0 0, .int .i64 0, .int .i64 0, .slice none 0 0, .slice none 0 0]] w (OkB w (decide (TOk c n R W))) := by
  have hB0 := Blk.new w 62 #[.int .i64 6, .int .i64 c, .int .i64 n, .slice A R.length cr, .slice B W.length cw, .int .i64 0, .int .i64 0, .bool false, .string ⟨#[]⟩, .string ⟨#[]⟩, .int .i64 0, .int .i64 0, .int .i64 0, .int .i64 0, .int .i64 0, .int .i64 0, .slice none 0 0, .int .i64 0, .int .i64 0, .slice none 0 0, .slice none 0 0]
  have hf0 : Fr (fun _ => False) w (w.alloc (Obj.cells #[.int .i64 6, .int .i64 c, .int .i64 n, .slice A R.length cr, .slice B W.length cw, .int .i64 0, .int .i64 0, .bool false, .string ⟨#[]⟩, .string ⟨#[]⟩, .int .i64 0, .int .i64 0, .int .i64 0, .int .i64 0, .int .i64 0, .int .i64 0, .slice none 0 0, .int .i64 0, .int .i64 0, .slice none 0 0, .slice none 0 0] 62)) := (Fr.refl _ _).alloc _
  have HRt := Lib.hid (fun w' (hf : Fr (fun _ => False) w w') => ref10_Right (cr := cr) (cw := cw) (c := c) (n := n) (hr.fr hf (fun _ _ => id)) (hw.fr hf (fun _ _ => id)))
  have hz : zeroSay ⟨0, 0, false, ⟨#[]⟩, ⟨#[]⟩, 0, 0, 0, 0⟩ = true := (zeroSay_iff _).2 rfl
  by_cases hok : TOk c n R W
  · rw [decide_eq_true hok] at HRt ⊢
    clear hr hw hok
    go_enter Tryz.func62, Tryz.ntmps62
    go_upto_region 1 with fail
    generalize w.alloc (Obj.cells #[.int .i64 6, .int .i64 c, .int .i64 n, .slice A R.length cr, .slice B W.length cw, .int .i64 0, .int .i64 0, .bool false, .string ⟨#[]⟩, .string ⟨#[]⟩, .int .i64 0, .int .i64 0, .int .i64 0, .int .i64 0, .int .i64 0, .int .i64 0, .slice none 0 0, .int .i64 0, .int .i64 0, .slice none 0 0, .slice none 0 0] 62) = w0 at *
    have k0 := hB0.cell 0
    have k1 := hB0.cell 1
    have k2 := hB0.cell 2
    have k3 := hB0.cell 3
    have k4 := hB0.cell 4
    have k5 := hB0.cell 5
    have k6 := hB0.cell 6
    have k7 := hB0.cell 7
    have k8 := hB0.cell 8
    have k9 := hB0.cell 9
    have k10 := hB0.cell 10
    have k11 := hB0.cell 11
    have k12 := hB0.cell 12
    have k13 := hB0.cell 13
    go_upto_region 8 with (go_at_call 30; refine (HRt.out _ hf0).mono ?_; rintro e w1 ⟨rfl, hf01⟩)
    have hB1 := hB0.fr hf01 id
    have hf1 := hf0.then_ hf01
    clear hB0 hf0 hf01 k0 k1 k2 k3 k4 k5 k6 k7 k8 k9 k10 k11 k12 k13
    have k5 := hB1.cell 5
    have k6 := hB1.cell 6
    have k7 := hB1.cell 7
    have k8 := hB1.cell 8
    have k9 := hB1.cell 9
    have k10 := hB1.cell 10
    have k11 := hB1.cell 11
    have k12 := hB1.cell 12
    have k13 := hB1.cell 13
    go_upto_region 10 with fail
    have hB2 := hB1
    have hf2 := hf1
    generalize w1 = w2 at *
    clear hB1 hf1 k5 k6 k7 k8 k9 k10 k11 k12 k13
    have k14 := hB2.cell 14
    have k15 := hB2.cell 15
    have k16 := hB2.cell 16
    go_upto_region 11 with (go_at_call 93; refine (ref05_Put_zero _).mono ?_; rintro e w3 ⟨v3, rfl, hv3, hf3⟩; obtain ⟨A3, c3, rfl, _, hr3⟩ := hv3.form)
    have HG := Lib.hid (ref05_Get_zero (cap := c3) hr3)
    clear hr3
    go_upto_region 16 with (go_at_call 61; refine HG.out.mono ?_; rintro e w4 ⟨rfl, hf4⟩)
    have hB4 := (hB2.fr hf3 id).fr hf4 id
    have hf04 := (hf2.then_ hf3).then_ hf4
    clear k14 k15 k16
    have k17 := hB4.cell 17
    have k18 := hB4.cell 18
    have k19 := hB4.cell 19
    have k20 := hB4.cell 20
    go_wp2_with (go_at_call 94; refine (ref11_rightProof_zero _).mono ?_; rintro e w5 ⟨rfl, hf5⟩)
    go_ret
    exact ⟨rfl, hf04.then_ hf5⟩
  · rw [decide_eq_false hok] at HRt ⊢
    clear hr hw hok
    go_enter Tryz.func62, Tryz.ntmps62
    go_upto_region 1 with fail
    generalize w.alloc (Obj.cells #[.int .i64 6, .int .i64 c, .int .i64 n, .slice A R.length cr, .slice B W.length cw, .int .i64 0, .int .i64 0, .bool false, .string ⟨#[]⟩, .string ⟨#[]⟩, .int .i64 0, .int .i64 0, .int .i64 0, .int .i64 0, .int .i64 0, .int .i64 0, .slice none 0 0, .int .i64 0, .int .i64 0, .slice none 0 0, .slice none 0 0] 62) = w0 at *
    have k0 := hB0.cell 0
    have k1 := hB0.cell 1
    have k2 := hB0.cell 2
    have k3 := hB0.cell 3
    have k4 := hB0.cell 4
    have k5 := hB0.cell 5
    have k6 := hB0.cell 6
    have k7 := hB0.cell 7
    have k8 := hB0.cell 8
    have k9 := hB0.cell 9
    have k10 := hB0.cell 10
    have k11 := hB0.cell 11
    have k12 := hB0.cell 12
    have k13 := hB0.cell 13
    go_wp2_with (go_at_call 30; refine (HRt.out _ hf0).mono ?_; rintro e w1 ⟨rfl, hf01⟩)
    go_ret
    exact ⟨rfl, hf0.then_ hf01⟩
set_option maxRecDepth 100000 in
set_option maxHeartbeats 1000000 in
theorem ref11_RightOrder_word (w : World) {kind : Int} (hk1 : 1 ≤ kind) (hk2 : kind ≤ 10) (hk : ¬ kind = 1 ∧ ¬ kind = 6) (s : SayD) :
    Calls Tryz.prog 62 #[.agg #[.int .i64 kind, .int .i64 0, .int .i64 0, .slice none 0 0, .slice none 0 0, .int .i64 s.kind, .int .i64 s.txn, .bool s.yes, .string s.from_, .string s.to_, .int .i64 s.epoch, .int .i64 s.shard, .int .i64 s.target, .int .i64 s.root, .int .i64 0, .int .i64 0, .slice none 0 0, .int .i64 0, .int .i64 0, .slice none 0 0, .slice none 0 0]] w (OkB w (decide (OkSay s ∨ ZSay s))) := by
  have hB0 := Blk.new w 62 #[.int .i64 kind, .int .i64 0, .int .i64 0, .slice none 0 0, .slice none 0 0, .int .i64 s.kind, .int .i64 s.txn, .bool s.yes, .string s.from_, .string s.to_, .int .i64 s.epoch, .int .i64 s.shard, .int .i64 s.target, .int .i64 s.root, .int .i64 0, .int .i64 0, .slice none 0 0, .int .i64 0, .int .i64 0, .slice none 0 0, .slice none 0 0]
  have hf0 : Fr (fun _ => False) w (w.alloc (Obj.cells #[.int .i64 kind, .int .i64 0, .int .i64 0, .slice none 0 0, .slice none 0 0, .int .i64 s.kind, .int .i64 s.txn, .bool s.yes, .string s.from_, .string s.to_, .int .i64 s.epoch, .int .i64 s.shard, .int .i64 s.target, .int .i64 s.root, .int .i64 0, .int .i64 0, .slice none 0 0, .int .i64 0, .int .i64 0, .slice none 0 0, .slice none 0 0] 62)) := (Fr.refl _ _).alloc _
  have HS := Lib.hid (fun w => ref10_Same (w := w) (F := fun _ => False) (A := none) (B := none) (A' := none) (B' := none) (cr := 0) (cw := 0) (cr' := 0) (cw' := 0) (c := 0) (n := 0) (c' := 0) (n' := 0) (R := []) (R' := []) (W := []) (W' := []) (fun k x h => by simp at h) (fun k x h => by simp at h) (fun k x h => by simp at h) (fun k x h => by simp at h) (by simp) (by simp))
  rw [decide_eq_true (p := (0 : Int) = 0 ∧ (0 : Int) = 0 ∧ ([] : List (ByteArray × Int)) = [] ∧ ([] : List (ByteArray × ByteArray)) = []) ⟨rfl, rfl, rfl, rfl⟩] at HS
  have HS : Hid (∀ w, Calls Tryz.prog 22 #[.agg #[.int .i64 0, .int .i64 0, .slice none 0 0, .slice none 0 0], .agg #[.int .i64 0, .int .i64 0, .slice none 0 0, .slice none 0 0]] w (OkB w true)) := HS
  obtain ⟨q1, q6⟩ := hk
  have q1' : (kind == 1) = false := by simp [q1]
  have q6' : (kind == 6) = false := by simp [q6]
  have hd1 : ¬ kind < 1 := by omega
  have hd2 : ¬ 10 < kind := by omega
  have HRt := Lib.hid (fun w => ref11_Right1 w s.kind s.txn s.yes s.from_ s.to_ s.epoch s.shard s.target s.root)
  have HRt : Hid (∀ w, Calls Tryz.prog 29 #[.agg #[.int .i64 s.kind, .int .i64 s.txn, .bool s.yes, .string s.from_, .string s.to_, .int .i64 s.epoch, .int .i64 s.shard, .int .i64 s.target, .int .i64 s.root]] w (Bool1 w (decide (OkSay s)))) := HRt
  by_cases hzs : ZSay s
  · have hz : zeroSay ⟨s.kind, s.txn, s.yes, s.from_, s.to_, s.epoch, s.shard, s.target, s.root⟩ = true := (zeroSay_iff s).2 hzs
    rw [decide_eq_true (Or.inr hzs)]
    clear hzs
    go_enter Tryz.func62, Tryz.ntmps62
    go_upto_region 1 with fail
    generalize w.alloc (Obj.cells #[.int .i64 kind, .int .i64 0, .int .i64 0, .slice none 0 0, .slice none 0 0, .int .i64 s.kind, .int .i64 s.txn, .bool s.yes, .string s.from_, .string s.to_, .int .i64 s.epoch, .int .i64 s.shard, .int .i64 s.target, .int .i64 s.root, .int .i64 0, .int .i64 0, .slice none 0 0, .int .i64 0, .int .i64 0, .slice none 0 0, .slice none 0 0] 62) = w0 at *
    have k0 := hB0.cell 0
    have k1 := hB0.cell 1
    have k2 := hB0.cell 2
    have k3 := hB0.cell 3
    have k4 := hB0.cell 4
    have k5 := hB0.cell 5
    have k6 := hB0.cell 6
    have k7 := hB0.cell 7
    have k8 := hB0.cell 8
    have k9 := hB0.cell 9
    have k10 := hB0.cell 10
    have k11 := hB0.cell 11
    have k12 := hB0.cell 12
    have k13 := hB0.cell 13
    go_upto_region 8 with (go_at_call 22; refine (HS.out _).mono ?_; rintro e w1 ⟨rfl, hf01⟩)
    have hB1 := hB0.fr hf01 id
    have hf1 := hf0.then_ hf01
    clear hB0 hf0 hf01 k0 k1 k2 k3 k4 k5 k6 k7 k8 k9 k10 k11 k12 k13
    have k5 := hB1.cell 5
    have k6 := hB1.cell 6
    have k7 := hB1.cell 7
    have k8 := hB1.cell 8
    have k9 := hB1.cell 9
    have k10 := hB1.cell 10
    have k11 := hB1.cell 11
    have k12 := hB1.cell 12
    have k13 := hB1.cell 13
    go_upto_region 10 with fail
    have hB2 := hB1
    have hf2 := hf1
    generalize w1 = w2 at *
    clear hB1 hf1 k5 k6 k7 k8 k9 k10 k11 k12 k13
    have k14 := hB2.cell 14
    have k15 := hB2.cell 15
    have k16 := hB2.cell 16
    go_upto_region 11 with (go_at_call 93; refine (ref05_Put_zero _).mono ?_; rintro e w3 ⟨v3, rfl, hv3, hf3⟩; obtain ⟨A3, c3, rfl, _, hr3⟩ := hv3.form)
    have HG := Lib.hid (ref05_Get_zero (cap := c3) hr3)
    clear hr3
    go_upto_region 16 with (go_at_call 61; refine HG.out.mono ?_; rintro e w4 ⟨rfl, hf4⟩)
    have hB4 := (hB2.fr hf3 id).fr hf4 id
    have hf04 := (hf2.then_ hf3).then_ hf4
    clear k14 k15 k16
    have k17 := hB4.cell 17
    have k18 := hB4.cell 18
    have k19 := hB4.cell 19
    have k20 := hB4.cell 20
    go_wp2_with (go_at_call 94; refine (ref11_rightProof_zero _).mono ?_; rintro e w5 ⟨rfl, hf5⟩)
    go_ret
    exact ⟨rfl, hf04.then_ hf5⟩
  · have hz : zeroSay ⟨s.kind, s.txn, s.yes, s.from_, s.to_, s.epoch, s.shard, s.target, s.root⟩ = false := by
      have : ¬ zeroSay s = true := fun e => hzs ((zeroSay_iff s).1 e)
      simpa using this
    by_cases hok : OkSay s
    · rw [decide_eq_true (Or.inl hok)]
      rw [decide_eq_true hok] at HRt
      clear hok hzs
      go_enter Tryz.func62, Tryz.ntmps62
      go_upto_region 1 with fail
      generalize w.alloc (Obj.cells #[.int .i64 kind, .int .i64 0, .int .i64 0, .slice none 0 0, .slice none 0 0, .int .i64 s.kind, .int .i64 s.txn, .bool s.yes, .string s.from_, .string s.to_, .int .i64 s.epoch, .int .i64 s.shard, .int .i64 s.target, .int .i64 s.root, .int .i64 0, .int .i64 0, .slice none 0 0, .int .i64 0, .int .i64 0, .slice none 0 0, .slice none 0 0] 62) = w0 at *
      have k0 := hB0.cell 0
      have k1 := hB0.cell 1
      have k2 := hB0.cell 2
      have k3 := hB0.cell 3
      have k4 := hB0.cell 4
      have k5 := hB0.cell 5
      have k6 := hB0.cell 6
      have k7 := hB0.cell 7
      have k8 := hB0.cell 8
      have k9 := hB0.cell 9
      have k10 := hB0.cell 10
      have k11 := hB0.cell 11
      have k12 := hB0.cell 12
      have k13 := hB0.cell 13
      go_upto_region 8 with (go_at_call 22; refine (HS.out _).mono ?_; rintro e w1 ⟨rfl, hf01⟩)
      have hB1 := hB0.fr hf01 id
      have hf1 := hf0.then_ hf01
      clear hB0 hf0 hf01 k0 k1 k2 k3 k4 k5 k6 k7 k8 k9 k10 k11 k12 k13
      have k5 := hB1.cell 5
      have k6 := hB1.cell 6
      have k7 := hB1.cell 7
      have k8 := hB1.cell 8
      have k9 := hB1.cell 9
      have k10 := hB1.cell 10
      have k11 := hB1.cell 11
      have k12 := hB1.cell 12
      have k13 := hB1.cell 13
      go_upto_region 10 with (go_at_call 29; refine (HRt.out _).mono ?_; rintro e w2 ⟨rfl, hf12⟩)
      have hB2 := hB1.fr hf12 id
      have hf2 := hf1.then_ hf12
      clear hB1 hf1 k5 k6 k7 k8 k9 k10 k11 k12 k13
      have k14 := hB2.cell 14
      have k15 := hB2.cell 15
      have k16 := hB2.cell 16
      go_upto_region 11 with (go_at_call 93; refine (ref05_Put_zero _).mono ?_; rintro e w3 ⟨v3, rfl, hv3, hf3⟩; obtain ⟨A3, c3, rfl, _, hr3⟩ := hv3.form)
      have HG := Lib.hid (ref05_Get_zero (cap := c3) hr3)
      clear hr3
      go_upto_region 16 with (go_at_call 61; refine HG.out.mono ?_; rintro e w4 ⟨rfl, hf4⟩)
      have hB4 := (hB2.fr hf3 id).fr hf4 id
      have hf04 := (hf2.then_ hf3).then_ hf4
      clear k14 k15 k16
      have k17 := hB4.cell 17
      have k18 := hB4.cell 18
      have k19 := hB4.cell 19
      have k20 := hB4.cell 20
      go_wp2_with (go_at_call 94; refine (ref11_rightProof_zero _).mono ?_; rintro e w5 ⟨rfl, hf5⟩)
      go_ret
      exact ⟨rfl, hf04.then_ hf5⟩
    · rw [decide_eq_false (fun h => h.elim hok hzs)]
      rw [decide_eq_false hok] at HRt
      clear hok hzs
      go_enter Tryz.func62, Tryz.ntmps62
      go_upto_region 1 with fail
      generalize w.alloc (Obj.cells #[.int .i64 kind, .int .i64 0, .int .i64 0, .slice none 0 0, .slice none 0 0, .int .i64 s.kind, .int .i64 s.txn, .bool s.yes, .string s.from_, .string s.to_, .int .i64 s.epoch, .int .i64 s.shard, .int .i64 s.target, .int .i64 s.root, .int .i64 0, .int .i64 0, .slice none 0 0, .int .i64 0, .int .i64 0, .slice none 0 0, .slice none 0 0] 62) = w0 at *
      have k0 := hB0.cell 0
      have k1 := hB0.cell 1
      have k2 := hB0.cell 2
      have k3 := hB0.cell 3
      have k4 := hB0.cell 4
      have k5 := hB0.cell 5
      have k6 := hB0.cell 6
      have k7 := hB0.cell 7
      have k8 := hB0.cell 8
      have k9 := hB0.cell 9
      have k10 := hB0.cell 10
      have k11 := hB0.cell 11
      have k12 := hB0.cell 12
      have k13 := hB0.cell 13
      go_upto_region 8 with (go_at_call 22; refine (HS.out _).mono ?_; rintro e w1 ⟨rfl, hf01⟩)
      have hB1 := hB0.fr hf01 id
      have hf1 := hf0.then_ hf01
      clear hB0 hf0 hf01 k0 k1 k2 k3 k4 k5 k6 k7 k8 k9 k10 k11 k12 k13
      have k5 := hB1.cell 5
      have k6 := hB1.cell 6
      have k7 := hB1.cell 7
      have k8 := hB1.cell 8
      have k9 := hB1.cell 9
      have k10 := hB1.cell 10
      have k11 := hB1.cell 11
      have k12 := hB1.cell 12
      have k13 := hB1.cell 13
      go_wp2_with (go_at_call 29; refine (HRt.out _).mono ?_; rintro e w2 ⟨rfl, hf12⟩)
      go_ret
      exact ⟨rfl, hf1.then_ hf12⟩
end Go.Proofs.YtmkdhhhoodeemaaGreat

/- cohortref11: PutOrder of a client's order. -/
namespace Go.Proofs.YtmkdhhhoodeemaaGreat
open Go Go.RowKit
/-- Two rows of their own, of one kind, in other blocks. -/
theorem own8_apart {w w' : World} {base b : Nat} {v v' : Value} {xs ys : List Int} (h : Own8 w base v xs) (hb : w.heap.size ≤ b) (h' : Own8 w' b v' ys) : ∀ k, v'.ownBlock = some k → v.ownBlock ≠ some k := fun k hk e => by
  have h1 := h.lt k e
  have h2 := own_ge h' k hk
  omega
theorem ref10_Put_zero (w : World) : Calls Tryz.prog 33 #[.agg #[.int .i64 0, .int .i64 0, .slice none 0 0, .slice none 0 0]] w (fun e w' => ∃ x : Int, PutP w [] (.int .i64 x) e w') := by
  have HR := Lib.hid (fun w' => ref10_Right (w := w') (F := fun _ => False) (A := none) (B := none) (cr := 0) (cw := 0) (c := 0) (n := 0) (R := []) (W := []) (fun k x h => by simp at h) (fun k x h => by simp at h))
  rw [decide_eq_false (p := TOk 0 0 [] []) (by decide)] at HR
  have HR : Hid (∀ w, Calls Tryz.prog 30 #[.agg #[.int .i64 0, .int .i64 0, .slice none 0 0, .slice none 0 0]] w (OkB w false)) := HR
  have hf0 : Fr (fun _ => False) w (w.alloc (Obj.cells #[.int .i64 0, .int .i64 0, .slice none 0 0, .slice none 0 0] 29)) := (Fr.refl _ _).alloc _
  go_enter Tryz.func33, Tryz.ntmps33
  go_wp2_with (go_at_call 30; refine (HR.out _).mono ?_; rintro e w1 ⟨rfl, hf1⟩)
  refine bodyPost_ret (v := .tuple #[.slice none 0 0, .int .i64 101]) (by simp [results, Tryz.results33, go_sem]) rfl ?_
  exact ⟨_, _, rfl, Own8.nil _ _, hf0.then_ hf1⟩
set_option maxRecDepth 100000 in
set_option maxHeartbeats 4000000 in
theorem ref11_PutOrder_ok {w : World} {kind c n : Int} {A B : Option Addr} {nr cr nw cw : Nat} {s : SayD} {t0 : List Int} (hlt0 : t0.length ≤ 65536)
    (hR : ∀ w', Fr (fun _ => False) w w' → Calls Tryz.prog 62 #[.agg #[.int .i64 kind, .int .i64 c, .int .i64 n, .slice A nr cr, .slice B nw cw, .int .i64 s.kind, .int .i64 s.txn, .bool s.yes, .string s.from_, .string s.to_, .int .i64 s.epoch, .int .i64 s.shard, .int .i64 s.target, .int .i64 s.root, .int .i64 0, .int .i64 0, .slice none 0 0, .int .i64 0, .int .i64 0, .slice none 0 0, .slice none 0 0]] w' (OkB w' true))
    (hT : ∀ w', Fr (fun _ => False) w w' → Calls Tryz.prog 33 #[.agg #[.int .i64 c, .int .i64 n, .slice A nr cr, .slice B nw cw]] w' (fun e w'' => ∃ x : Int, PutP w' t0 (.int .i64 x) e w'')) :
    Calls Tryz.prog 86 #[.agg #[.int .i64 kind, .int .i64 c, .int .i64 n, .slice A nr cr, .slice B nw cw, .int .i64 s.kind, .int .i64 s.txn, .bool s.yes, .string s.from_, .string s.to_, .int .i64 s.epoch, .int .i64 s.shard, .int .i64 s.target, .int .i64 s.root, .int .i64 0, .int .i64 0, .slice none 0 0, .int .i64 0, .int .i64 0, .slice none 0 0, .slice none 0 0]] w (Fresh w (orderB kind t0 (wordB s) certZ)) := by
  have HR := Lib.hid hR
  have HT := Lib.hid hT
  have HS := Lib.hid (fun w => ref11_Put1 w s.kind s.txn s.yes s.from_ s.to_ s.epoch s.shard s.target s.root)
  have HS : Hid (∀ w, Calls Tryz.prog 12 #[.agg #[.int .i64 s.kind, .int .i64 s.txn, .bool s.yes, .string s.from_, .string s.to_, .int .i64 s.epoch, .int .i64 s.shard, .int .i64 s.target, .int .i64 s.root]] w (Fresh w (wordB s))) := HS
  obtain ⟨t1, ht1⟩ : ∃ t, Hid (wordB s = t) := ⟨_, rfl⟩
  have hlt1 : t1.length ≤ 65536 := by rw [← ht1.out]; exact sayB_short s
  rw [ht1.out] at HS ⊢
  have HC := Lib.hid ref05_Put_zero
  obtain ⟨t2, ht2⟩ : ∃ t, Hid (certZ = t) := ⟨_, rfl⟩
  have hlt2 : t2.length ≤ 65536 := by rw [← ht2.out]; exact certZ_len
  rw [ht2.out] at HC ⊢
  clear hR hT
  have hB0 := Blk.new w 62 #[.int .i64 kind, .int .i64 c, .int .i64 n, .slice A nr cr, .slice B nw cw, .int .i64 s.kind, .int .i64 s.txn, .bool s.yes, .string s.from_, .string s.to_, .int .i64 s.epoch, .int .i64 s.shard, .int .i64 s.target, .int .i64 s.root, .int .i64 0, .int .i64 0, .slice none 0 0, .int .i64 0, .int .i64 0, .slice none 0 0, .slice none 0 0]
  have hf00 : Fr (fun _ => False) w (w.alloc (Obj.cells #[.int .i64 kind, .int .i64 c, .int .i64 n, .slice A nr cr, .slice B nw cw, .int .i64 s.kind, .int .i64 s.txn, .bool s.yes, .string s.from_, .string s.to_, .int .i64 s.epoch, .int .i64 s.shard, .int .i64 s.target, .int .i64 s.root, .int .i64 0, .int .i64 0, .slice none 0 0, .int .i64 0, .int .i64 0, .slice none 0 0, .slice none 0 0] 62)) := (Fr.refl _ _).alloc _
  go_enter Tryz.func86, Tryz.ntmps86
  go_upto_region 1 with fail
  generalize w.alloc (Obj.cells #[.int .i64 kind, .int .i64 c, .int .i64 n, .slice A nr cr, .slice B nw cw, .int .i64 s.kind, .int .i64 s.txn, .bool s.yes, .string s.from_, .string s.to_, .int .i64 s.epoch, .int .i64 s.shard, .int .i64 s.target, .int .i64 s.root, .int .i64 0, .int .i64 0, .slice none 0 0, .int .i64 0, .int .i64 0, .slice none 0 0, .slice none 0 0] 62) = w0 at *
  go_upto_region 3 with (first
    | (refine wpList_load_row rfl 62 _ rfl _ rfl _ _ (0, 0) _ hB0 Tryz.underlying62 rfl (by kernel_rfl) ?_)
    | (go_at_call 62; refine (HR.out _ hf00).mono ?_; rintro e w1 ⟨rfl, hf1⟩))
  have hB1 := hB0.fr hf1 id
  have hf01 := hf00.then_ hf1
  clear hB0 hf00 hf1 HR
  obtain ⟨g, hg⟩ : ∃ g, Hid (w1.heap.size = g) := ⟨_, rfl⟩
  have hsg : w.heap.size ≤ g := by rw [← hg.out]; exact hf01.size
  obtain ⟨b0, hb0⟩ : ∃ b : List Int, Hid (([] : List Int) = b) := ⟨_, rfl⟩
  have hbl0 : b0.length = 0 := by rw [← hb0.out]; rfl
  have hW2 : RefW (w1.alloc (Obj.cells #[.slice none 0 0, .int .i64 0, .int .i64 0] 94)) w1.heap.size w1.heap.size (.slice none 0 0) b0 none := by rw [← hb0.out]; exact ⟨Blk.new _ _ _, Own8.nil _ _⟩
  have hB2 := hB1.alloc (Obj.cells #[.slice none 0 0, .int .i64 0, .int .i64 0] 94)
  have hf02 := hf01.alloc (Obj.cells #[.slice none 0 0, .int .i64 0, .int .i64 0] 94)
  have hz2 : w1.heap.size ≤ (w1.alloc (Obj.cells #[.slice none 0 0, .int .i64 0, .int .i64 0] 94)).heap.size := by simp
  go_upto_region 4 with fail
  rw [hg.out] at hW2 hz2 ⊢
  generalize w1.alloc (Obj.cells #[.slice none 0 0, .int .i64 0, .int .i64 0] 94) = w2 at *
  clear hB1 hf01
  have k0 := hB2.cell 0
  have k1 := hB2.cell 1
  have k2 := hB2.cell 2
  have k3 := hB2.cell 3
  have k4 := hB2.cell 4
  go_wp2_with fail
  refine (refw_Num hW2 hz2 (by omega) (kind)).mono ?_
  rintro e w3 ⟨v3, rfl, hW3, hq3, _⟩
  have hW3 : RefW w3 g g v3 (b0 ++ num8 (kind)) none := hW3
  obtain ⟨b1, hb1⟩ : ∃ b, Hid (b0 ++ num8 (kind) = b) := ⟨_, rfl⟩
  rw [hb1.out] at hW3
  have hl1 : b1.length ≤ 8 := by rw [← hb1.out, List.length_append]; rw [num8_length]; omega
  have hB3 := wrote_blk hB2 hW2.blk hW2.own hq3 (by decide) (by decide)
  have hf03 := wrote_fr hf02 hW2.own hsg hsg hq3
  have hz3 : g ≤ w3.heap.size := Nat.le_of_lt hW3.blk.lt
  clear hq3 hW2 hB2 hf02 hz2
  have k1 := hB3.cell 1
  have k2 := hB3.cell 2
  have k3 := hB3.cell 3
  have k4 := hB3.cell 4
  go_upto_region 6 with (go_at_call 33; refine (HT.out _ hf03).mono ?_; rintro e w4 ⟨x4, u4, rfl, hu4, hf4⟩; obtain ⟨A4, c4, rfl, _, hr4⟩ := hu4.form)
  have hW4 := hW3.fr hf4 id (fun _ _ => id)
  have hB4 := hB3.fr hf4 id
  have hf04 := hf03.then_ hf4
  have hz4 : g ≤ w4.heap.size := Nat.le_trans hz3 hf4.size
  have hap := own8_apart hW3.own (Nat.le_refl _) hu4
  have HX := refw_Text (cap := c4) hW4 hz4 hr4 hap (by omega) (.inl (by omega))
  rw [if_pos hlt0] at HX
  have HX := Lib.hid HX
  clear hW3 hB3 hf03 hz3 hu4 hr4 hf4 hap HT
  go_upto_region 7 with (go_at_call 35; refine HX.out.mono ?_; rintro e w5 ⟨v5, rfl, hW5, hq5, _⟩)
  have hW5 : RefW w5 g g v5 (b1 ++ textB t0) none := hW5
  obtain ⟨b2, hb2⟩ : ∃ b, Hid (b1 ++ textB t0 = b) := ⟨_, rfl⟩
  rw [hb2.out] at hW5
  have hl2 : b2.length ≤ 70000 := by rw [← hb2.out, List.length_append]; simp [textB, count4_length]; omega
  have hB5 := wrote_blk hB4 hW4.blk hW4.own hq5 (by decide) (by decide)
  have hf05 := wrote_fr hf04 hW4.own hsg hsg hq5
  have hz5 : g ≤ w5.heap.size := Nat.le_of_lt hW5.blk.lt
  clear hq5 hW4 hB4 hf04 hz4
  have k5 := hB5.cell 5
  have k6 := hB5.cell 6
  have k7 := hB5.cell 7
  have k8 := hB5.cell 8
  have k9 := hB5.cell 9
  have k10 := hB5.cell 10
  have k11 := hB5.cell 11
  have k12 := hB5.cell 12
  have k13 := hB5.cell 13
  go_wp2_with fail
  refine (HS.out _).mono ?_
  rintro e w6 ⟨u6, rfl, hu6, hf6⟩
  obtain ⟨A6, c6, rfl, _, hr6⟩ := hu6.form
  have hW6 := hW5.fr hf6 id (fun _ _ => id)
  have hB6 := hB5.fr hf6 id
  have hf06 := hf05.then_ hf6
  have hz6 : g ≤ w6.heap.size := Nat.le_trans hz5 hf6.size
  have hap := own8_apart hW5.own (Nat.le_refl _) hu6
  have HX := refw_Text (cap := c6) hW6 hz6 hr6 hap (by omega) (.inl (by omega))
  rw [if_pos hlt1] at HX
  have HX := Lib.hid HX
  clear hW5 hB5 hf05 hz5 hu6 hr6 hf6 hap HS
  go_upto_region 8 with (go_at_call 35; refine HX.out.mono ?_; rintro e w7 ⟨v7, rfl, hW7, hq7, _⟩)
  have hW7 : RefW w7 g g v7 (b2 ++ textB t1) none := hW7
  obtain ⟨b3, hb3⟩ : ∃ b, Hid (b2 ++ textB t1 = b) := ⟨_, rfl⟩
  rw [hb3.out] at hW7
  have hl3 : b3.length ≤ 140000 := by rw [← hb3.out, List.length_append]; simp [textB, count4_length]; omega
  have hB7 := wrote_blk hB6 hW6.blk hW6.own hq7 (by decide) (by decide)
  have hf07 := wrote_fr hf06 hW6.own hsg hsg hq7
  have hz7 : g ≤ w7.heap.size := Nat.le_of_lt hW7.blk.lt
  clear hq7 hW6 hB6 hf06 hz6
  have k14 := hB7.cell 14
  have k15 := hB7.cell 15
  have k16 := hB7.cell 16
  go_upto_region 9 with (go_at_call 93; refine (HC.out _).mono ?_; rintro e w8 ⟨u8, rfl, hu8, hf8⟩; obtain ⟨A8, c8, rfl, _, hr8⟩ := hu8.form)
  have hW8 := hW7.fr hf8 id (fun _ _ => id)
  have hB8 := hB7.fr hf8 id
  have hf08 := hf07.then_ hf8
  have hz8 : g ≤ w8.heap.size := Nat.le_trans hz7 hf8.size
  have hap := own8_apart hW7.own (Nat.le_refl _) hu8
  have HX := refw_Text (cap := c8) hW8 hz8 hr8 hap (by omega) (.inl (by omega))
  rw [if_pos hlt2] at HX
  have HX := Lib.hid HX
  clear hW7 hB7 hf07 hz7 hu8 hr8 hf8 hap HC
  go_upto_region 10 with (go_at_call 35; refine HX.out.mono ?_; rintro e w9 ⟨v9, rfl, hW9, hq9, _⟩)
  have hW9 : RefW w9 g g v9 (b3 ++ textB t2) none := hW9
  obtain ⟨b4, hb4⟩ : ∃ b, Hid (b3 ++ textB t2 = b) := ⟨_, rfl⟩
  rw [hb4.out] at hW9
  have hl4 : b4.length ≤ 210000 := by rw [← hb4.out, List.length_append]; simp [textB, count4_length]; omega
  have hB9 := wrote_blk hB8 hW8.blk hW8.own hq9 (by decide) (by decide)
  have hf09 := wrote_fr hf08 hW8.own hsg hsg hq9
  have hz9 : g ≤ w9.heap.size := Nat.le_of_lt hW9.blk.lt
  clear hq9 hW8 hB8 hf08 hz8
  have k17 := hB9.cell 17
  have k18 := hB9.cell 18
  have k19 := hB9.cell 19
  go_wp2_with fail
  refine (refw_Num hW9 hz9 (by omega) (0)).mono ?_
  rintro e w10 ⟨v10, rfl, hW10, hq10, _⟩
  have hW10 : RefW w10 g g v10 (b4 ++ num8 (0)) none := hW10
  obtain ⟨b5, hb5⟩ : ∃ b, Hid (b4 ++ num8 (0) = b) := ⟨_, rfl⟩
  rw [hb5.out] at hW10
  have hl5 : b5.length ≤ 210010 := by rw [← hb5.out, List.length_append]; rw [num8_length]; omega
  have hB10 := wrote_blk hB9 hW9.blk hW9.own hq10 (by decide) (by decide)
  have hf010 := wrote_fr hf09 hW9.own hsg hsg hq10
  have hz10 : g ≤ w10.heap.size := Nat.le_of_lt hW10.blk.lt
  clear hq10 hW9 hB9 hf09 hz9
  have k17 := hB10.cell 17
  have k18 := hB10.cell 18
  have k19 := hB10.cell 19
  go_wp2_with fail
  refine (refw_Num hW10 hz10 (by omega) (0)).mono ?_
  rintro e w11 ⟨v11, rfl, hW11, hq11, _⟩
  have hW11 : RefW w11 g g v11 (b5 ++ num8 (0)) none := hW11
  obtain ⟨b6, hb6⟩ : ∃ b, Hid (b5 ++ num8 (0) = b) := ⟨_, rfl⟩
  rw [hb6.out] at hW11
  have hl6 : b6.length ≤ 210020 := by rw [← hb6.out, List.length_append]; rw [num8_length]; omega
  have hB11 := wrote_blk hB10 hW10.blk hW10.own hq11 (by decide) (by decide)
  have hf011 := wrote_fr hf010 hW10.own hsg hsg hq11
  have hz11 : g ≤ w11.heap.size := Nat.le_of_lt hW11.blk.lt
  clear hq11 hW10 hB10 hf010 hz10
  have k17 := hB11.cell 17
  have k18 := hB11.cell 18
  have k19 := hB11.cell 19
  go_wp2_with fail
  refine (refw_Num hW11 hz11 (by omega) (0)).mono ?_
  rintro e w12 ⟨v12, rfl, hW12, hq12, _⟩
  have hW12 : RefW w12 g g v12 (b6 ++ num8 (0)) none := hW12
  obtain ⟨b7, hb7⟩ : ∃ b, Hid (b6 ++ num8 (0) = b) := ⟨_, rfl⟩
  rw [hb7.out] at hW12
  have hl7 : b7.length ≤ 210030 := by rw [← hb7.out, List.length_append]; rw [num8_length]; omega
  have hB12 := wrote_blk hB11 hW11.blk hW11.own hq12 (by decide) (by decide)
  have hf012 := wrote_fr hf011 hW11.own hsg hsg hq12
  have hz12 : g ≤ w12.heap.size := Nat.le_of_lt hW12.blk.lt
  clear hq12 hW11 hB11 hf011 hz11
  have k19 := hB12.cell 19
  have k20 := hB12.cell 20
  go_upto_region 14 with fail
  go_loopw [9] (fun i wr => i = .int .i64 0 ∧ wr = w12) (fun _ _ => 0)
  case atStart => exact ⟨rfl, rfl⟩
  case round =>
    obtain ⟨rfl, rfl⟩ := hrel
    go_upto_region 21 with fail
    go_loopw [10, 11] (fun l i w2 => l = .slice none 0 0 ∧ i = .int .i64 0 ∧ w2 = wr) (fun _ _ _ => 0)
    case atStart => exact ⟨rfl, rfl, rfl⟩
    case round =>
      obtain ⟨rfl, rfl, rfl⟩ := hrel
      generalize wr = w13 at *
      have HN : Calls Tryz.prog 119 #[.pointer (some ⟨g, 0, none⟩), .slice none 0 0] w13 (RWrote w13 g g v12 (b7 ++ numsB []) none) := by
        have h := refw_Nums (l := []) (A := none) (F := fun _ => False) (cap := 0) hW12 hz12 (fun k x hx => by simp at hx) (fun _ h => h.elim) (fun h => h) (by simp) (.inl (by simp [numsB, count4_length]; omega))
        rw [if_pos (by simp)] at h
        exact h
      have HN := Lib.hid HN
      obtain ⟨b8, hb8⟩ : ∃ b, Hid (b7 ++ numsB [] = b) := ⟨_, rfl⟩
      rw [hb8.out] at HN
      have hl8 : b8.length ≤ 210040 := by rw [← hb8.out, List.length_append]; simp [numsB, count4_length]; omega
      go_upto_region 25 with (go_at_call 119; refine HN.out.mono ?_; rintro e w14 ⟨v14, rfl, hW14, hq14, _⟩)
      have hf014 := wrote_fr hf012 hW12.own hsg hsg hq14
      have HY := Lib.hid (refw_Bytes hW14 (by omega))
      go_wp2_with (go_at_call 36; refine HY.out.mono ?_; rintro e w15 ⟨v15, rfl, hv15, hf15⟩)
      go_ret
      have hv15 : Own8 w15 w14.heap.size v15 b8 := hv15
      have he : orderB kind t0 t1 t2 = b8 := by
        unfold orderB
        rw [← hb8.out, ← hb7.out, ← hb6.out, ← hb5.out, ← hb4.out, ← hb3.out, ← hb2.out, ← hb1.out, ← hb0.out, List.nil_append]
      rw [he]
      exact ⟨v15, rfl, hv15.base_ hf014.size, hf014.then_ hf15⟩
set_option maxRecDepth 100000 in
theorem ref11_PutOrder_no {w : World} {kind c n : Int} {A B : Option Addr} {nr cr nw cw : Nat} {s : SayD}
    (hR : ∀ w', Fr (fun _ => False) w w' → Calls Tryz.prog 62 #[.agg #[.int .i64 kind, .int .i64 c, .int .i64 n, .slice A nr cr, .slice B nw cw, .int .i64 s.kind, .int .i64 s.txn, .bool s.yes, .string s.from_, .string s.to_, .int .i64 s.epoch, .int .i64 s.shard, .int .i64 s.target, .int .i64 s.root, .int .i64 0, .int .i64 0, .slice none 0 0, .int .i64 0, .int .i64 0, .slice none 0 0, .slice none 0 0]] w' (OkB w' false)) :
    Calls Tryz.prog 86 #[.agg #[.int .i64 kind, .int .i64 c, .int .i64 n, .slice A nr cr, .slice B nw cw, .int .i64 s.kind, .int .i64 s.txn, .bool s.yes, .string s.from_, .string s.to_, .int .i64 s.epoch, .int .i64 s.shard, .int .i64 s.target, .int .i64 s.root, .int .i64 0, .int .i64 0, .slice none 0 0, .int .i64 0, .int .i64 0, .slice none 0 0, .slice none 0 0]] w (Fresh w []) := by
  have HR := Lib.hid hR
  clear hR
  have hB0 := Blk.new w 62 #[.int .i64 kind, .int .i64 c, .int .i64 n, .slice A nr cr, .slice B nw cw, .int .i64 s.kind, .int .i64 s.txn, .bool s.yes, .string s.from_, .string s.to_, .int .i64 s.epoch, .int .i64 s.shard, .int .i64 s.target, .int .i64 s.root, .int .i64 0, .int .i64 0, .slice none 0 0, .int .i64 0, .int .i64 0, .slice none 0 0, .slice none 0 0]
  have hf00 : Fr (fun _ => False) w (w.alloc (Obj.cells #[.int .i64 kind, .int .i64 c, .int .i64 n, .slice A nr cr, .slice B nw cw, .int .i64 s.kind, .int .i64 s.txn, .bool s.yes, .string s.from_, .string s.to_, .int .i64 s.epoch, .int .i64 s.shard, .int .i64 s.target, .int .i64 s.root, .int .i64 0, .int .i64 0, .slice none 0 0, .int .i64 0, .int .i64 0, .slice none 0 0, .slice none 0 0] 62)) := (Fr.refl _ _).alloc _
  go_enter Tryz.func86, Tryz.ntmps86
  go_upto_region 1 with fail
  generalize w.alloc (Obj.cells #[.int .i64 kind, .int .i64 c, .int .i64 n, .slice A nr cr, .slice B nw cw, .int .i64 s.kind, .int .i64 s.txn, .bool s.yes, .string s.from_, .string s.to_, .int .i64 s.epoch, .int .i64 s.shard, .int .i64 s.target, .int .i64 s.root, .int .i64 0, .int .i64 0, .slice none 0 0, .int .i64 0, .int .i64 0, .slice none 0 0, .slice none 0 0] 62) = w0 at *
  go_wp2_with (first
    | (refine wpList_load_row rfl 62 _ rfl _ rfl _ _ (0, 0) _ hB0 Tryz.underlying62 rfl (by kernel_rfl) ?_)
    | (go_at_call 62; refine (HR.out _ hf00).mono ?_; rintro e w1 ⟨rfl, hf1⟩))
  go_ret
  exact ⟨_, rfl, Own8.nil _ _, hf00.then_ hf1⟩
end Go.Proofs.YtmkdhhhoodeemaaGreat

/- cohortref19: task, Begin, Cancel, Move. -/
namespace Go.Proofs.YtmkdhhhoodeemaaGreat
open Go Go.RowKit
theorem own_task (w : World) {base : Nat} (hb : base ≤ w.heap.size) (a b : Value) : (w.alloc (.cells #[a, b] 68)).ownsRow base 68 2 (.slice (some ⟨w.heap.size, 0, none⟩) 1 1) 1 [a, b] := by
  refine ⟨by simp, .inr ⟨w.heap.size, 1, #[a, b], rfl, hb, heap_alloc_new w _, Nat.le_refl _, by simp only [maxLen]; omega, by simp, ?_⟩⟩
  simp
set_option maxRecDepth 100000 in
theorem ref19_task_ok {w : World} {kind c n : Int} {A B : Option Addr} {nr cr nw cw : Nat} {s : SayD} {group : Int} {bs : List Int} (hne : 0 < bs.length) (hbl : bs.length ≤ 1000000) (hP : ∀ w', Fr (fun _ => False) w w' → Calls Tryz.prog 86 #[.agg #[.int .i64 kind, .int .i64 c, .int .i64 n, .slice A nr cr, .slice B nw cw, .int .i64 s.kind, .int .i64 s.txn, .bool s.yes, .string s.from_, .string s.to_, .int .i64 s.epoch, .int .i64 s.shard, .int .i64 s.target, .int .i64 s.root, .int .i64 0, .int .i64 0, .slice none 0 0, .int .i64 0, .int .i64 0, .slice none 0 0, .slice none 0 0]] w' (Fresh w' bs)) :
    Calls Tryz.prog 50 #[.int .i64 group, .agg #[.int .i64 kind, .int .i64 c, .int .i64 n, .slice A nr cr, .slice B nw cw, .int .i64 s.kind, .int .i64 s.txn, .bool s.yes, .string s.from_, .string s.to_, .int .i64 s.epoch, .int .i64 s.shard, .int .i64 s.target, .int .i64 s.root, .int .i64 0, .int .i64 0, .slice none 0 0, .int .i64 0, .int .i64 0, .slice none 0 0, .slice none 0 0]] w (TasksP w [group] bs) := by
  have HP := Lib.hid hP
  clear hP
  have hB0 := Blk.new w 62 #[.int .i64 kind, .int .i64 c, .int .i64 n, .slice A nr cr, .slice B nw cw, .int .i64 s.kind, .int .i64 s.txn, .bool s.yes, .string s.from_, .string s.to_, .int .i64 s.epoch, .int .i64 s.shard, .int .i64 s.target, .int .i64 s.root, .int .i64 0, .int .i64 0, .slice none 0 0, .int .i64 0, .int .i64 0, .slice none 0 0, .slice none 0 0]
  have hf0 : Fr (fun _ => False) w (w.alloc (Obj.cells #[.int .i64 kind, .int .i64 c, .int .i64 n, .slice A nr cr, .slice B nw cw, .int .i64 s.kind, .int .i64 s.txn, .bool s.yes, .string s.from_, .string s.to_, .int .i64 s.epoch, .int .i64 s.shard, .int .i64 s.target, .int .i64 s.root, .int .i64 0, .int .i64 0, .slice none 0 0, .int .i64 0, .int .i64 0, .slice none 0 0, .slice none 0 0] 62)) := (Fr.refl _ _).alloc _
  go_enter Tryz.func50, Tryz.ntmps50
  go_upto_region 1 with fail
  generalize w.alloc (Obj.cells #[.int .i64 kind, .int .i64 c, .int .i64 n, .slice A nr cr, .slice B nw cw, .int .i64 s.kind, .int .i64 s.txn, .bool s.yes, .string s.from_, .string s.to_, .int .i64 s.epoch, .int .i64 s.shard, .int .i64 s.target, .int .i64 s.root, .int .i64 0, .int .i64 0, .slice none 0 0, .int .i64 0, .int .i64 0, .slice none 0 0, .slice none 0 0] 62) = w0 at *
  go_upto_region 2 with (first
    | (refine wpList_load_row rfl 62 _ rfl _ rfl _ _ (0, 0) _ hB0 Tryz.underlying62 rfl (by kernel_rfl) ?_)
    | (go_at_call 86; refine (HP.out _ hf0).mono ?_; rintro e w1 ⟨v1, rfl, hv1, hf1⟩; obtain ⟨A1, c1, rfl, _, hr1⟩ := hv1.u8row))
  have hn0 : ¬ (bs.length : Int) = 0 := by omega
  have hn1 : ((bs.length : Int) == 0) = false := beq_eq_false_iff_ne.mpr hn0
  have hf2 : Fr (fun _ => False) w1 (w1.alloc (Obj.cells #[.int .i64 group, .slice A1 bs.length c1] 68)) := (Fr.refl _ _).alloc _
  have hf01 := hf0.then_ hf1
  go_wp2
  go_ret
  refine ⟨_, rfl, ⟨_, own_task w1 hf01.size _ _, ?_⟩, hf01.then_ hf2⟩
  intro k x hx
  match k, hx with
  | 0, hx => cases hx; exact ⟨A1, c1, rfl, rfl, hr1.u8 hf2 (fun _ _ => id)⟩
set_option maxRecDepth 100000 in
theorem ref19_task_no {w : World} {kind c n : Int} {A B : Option Addr} {nr cr nw cw : Nat} {s : SayD} {group : Int} (hP : ∀ w', Fr (fun _ => False) w w' → Calls Tryz.prog 86 #[.agg #[.int .i64 kind, .int .i64 c, .int .i64 n, .slice A nr cr, .slice B nw cw, .int .i64 s.kind, .int .i64 s.txn, .bool s.yes, .string s.from_, .string s.to_, .int .i64 s.epoch, .int .i64 s.shard, .int .i64 s.target, .int .i64 s.root, .int .i64 0, .int .i64 0, .slice none 0 0, .int .i64 0, .int .i64 0, .slice none 0 0, .slice none 0 0]] w' (Fresh w' [])) :
    Calls Tryz.prog 50 #[.int .i64 group, .agg #[.int .i64 kind, .int .i64 c, .int .i64 n, .slice A nr cr, .slice B nw cw, .int .i64 s.kind, .int .i64 s.txn, .bool s.yes, .string s.from_, .string s.to_, .int .i64 s.epoch, .int .i64 s.shard, .int .i64 s.target, .int .i64 s.root, .int .i64 0, .int .i64 0, .slice none 0 0, .int .i64 0, .int .i64 0, .slice none 0 0, .slice none 0 0]] w (TasksP w [] []) := by
  have HP := Lib.hid hP
  clear hP
  have hB0 := Blk.new w 62 #[.int .i64 kind, .int .i64 c, .int .i64 n, .slice A nr cr, .slice B nw cw, .int .i64 s.kind, .int .i64 s.txn, .bool s.yes, .string s.from_, .string s.to_, .int .i64 s.epoch, .int .i64 s.shard, .int .i64 s.target, .int .i64 s.root, .int .i64 0, .int .i64 0, .slice none 0 0, .int .i64 0, .int .i64 0, .slice none 0 0, .slice none 0 0]
  have hf0 : Fr (fun _ => False) w (w.alloc (Obj.cells #[.int .i64 kind, .int .i64 c, .int .i64 n, .slice A nr cr, .slice B nw cw, .int .i64 s.kind, .int .i64 s.txn, .bool s.yes, .string s.from_, .string s.to_, .int .i64 s.epoch, .int .i64 s.shard, .int .i64 s.target, .int .i64 s.root, .int .i64 0, .int .i64 0, .slice none 0 0, .int .i64 0, .int .i64 0, .slice none 0 0, .slice none 0 0] 62)) := (Fr.refl _ _).alloc _
  go_enter Tryz.func50, Tryz.ntmps50
  go_upto_region 1 with fail
  generalize w.alloc (Obj.cells #[.int .i64 kind, .int .i64 c, .int .i64 n, .slice A nr cr, .slice B nw cw, .int .i64 s.kind, .int .i64 s.txn, .bool s.yes, .string s.from_, .string s.to_, .int .i64 s.epoch, .int .i64 s.shard, .int .i64 s.target, .int .i64 s.root, .int .i64 0, .int .i64 0, .slice none 0 0, .int .i64 0, .int .i64 0, .slice none 0 0, .slice none 0 0] 62) = w0 at *
  go_wp2_with (first
    | (refine wpList_load_row rfl 62 _ rfl _ rfl _ _ (0, 0) _ hB0 Tryz.underlying62 rfl (by kernel_rfl) ?_)
    | (go_at_call 86; refine (HP.out _ hf0).mono ?_; rintro e w1 ⟨v1, rfl, hv1, hf1⟩; obtain ⟨A1, c1, rfl, _, hr1⟩ := hv1.u8row))
  go_ret
  exact ⟨_, rfl, TasksAt.nil _ _ _, hf0.then_ hf1⟩
theorem orderB_pos {kind : Int} {a b c : List Int} : 0 < (orderB kind a b c).length := by
  simp [orderB, num8_length]
  omega
theorem wordB_zero : wordB zeroS = [] := if_neg (by decide)
set_option maxRecDepth 100000 in
set_option maxHeartbeats 1000000 in
theorem ref19_Begin {w : World} {F : Nat → Prop} {A B : Option Addr} {cr cw : Nat} {c n : Int} {R : List (ByteArray × Int)} {W : List (ByteArray × ByteArray)} (hr : ReadRow w F A R) (hw : WriteRow w F B W) :
    Calls Tryz.prog 24 #[.agg #[.int .i64 c, .int .i64 n, .slice A R.length cr, .slice B W.length cw]] w (TasksP w (if TOk c n R W then [0] else []) (if TOk c n R W then orderB 6 (txnB c n R W) [] certZ else [])) := by
  have hf1 : Fr (fun _ => False) w (w.alloc (Obj.cells #[.int .i64 c, .int .i64 n, .slice A R.length cr, .slice B W.length cw] 29)) := (Fr.refl _ _).alloc _
  by_cases hok : TOk c n R W
  · rw [if_pos hok, if_pos hok]
    have HT : Calls Tryz.prog 50 #[.int .i64 0, .agg #[.int .i64 6, .int .i64 c, .int .i64 n, .slice A R.length cr, .slice B W.length cw, .int .i64 0, .int .i64 0, .bool false, .string ⟨#[]⟩, .string ⟨#[]⟩, .int .i64 0, .int .i64 0, .int .i64 0, .int .i64 0, .int .i64 0, .int .i64 0, .slice none 0 0, .int .i64 0, .int .i64 0, .slice none 0 0, .slice none 0 0]] (w.alloc (Obj.cells #[.int .i64 c, .int .i64 n, .slice A R.length cr, .slice B W.length cw] 29)) (TasksP (w.alloc (Obj.cells #[.int .i64 c, .int .i64 n, .slice A R.length cr, .slice B W.length cw] 29)) [0] (orderB 6 (txnB c n R W) [] certZ)) := ref19_task_ok (s := zeroS) orderB_pos (orderB_len (txnB_len hok) (by simp) certZ_len) (fun w' hf => by rw [← wordB_zero]; exact ref11_PutOrder_ok (s := zeroS) (txnB_len hok) (fun w2 hf2 => by have h := ref11_RightOrder_begin (cr := cr) (cw := cw) (c := c) (n := n) (hr.fr ((hf1.then_ hf).then_ hf2) (fun _ _ => id)) (hw.fr ((hf1.then_ hf).then_ hf2) (fun _ _ => id)); rw [decide_eq_true hok] at h; exact h) (fun w2 hf2 => (ref10_Put_ok (hr.fr ((hf1.then_ hf).then_ hf2) (fun _ _ => id)) (hw.fr ((hf1.then_ hf).then_ hf2) (fun _ _ => id)) hok).mono fun _ _ ⟨v, h1, h2, h3⟩ => ⟨0, v, h1, h2, h3⟩))
    have HT := Lib.hid HT
    go_enter Tryz.func24, Tryz.ntmps24
    go_upto_region 1 with fail
    go_wp2_with (go_at_call 50; refine HT.out.mono ?_; rintro e w' ⟨v, rfl, hv, hf'⟩)
    go_ret
    exact ⟨v, rfl, hv.base_ hf1.size, hf1.then_ hf'⟩
  · rw [if_neg hok, if_neg hok]
    have HT : Calls Tryz.prog 50 #[.int .i64 0, .agg #[.int .i64 6, .int .i64 c, .int .i64 n, .slice A R.length cr, .slice B W.length cw, .int .i64 0, .int .i64 0, .bool false, .string ⟨#[]⟩, .string ⟨#[]⟩, .int .i64 0, .int .i64 0, .int .i64 0, .int .i64 0, .int .i64 0, .int .i64 0, .slice none 0 0, .int .i64 0, .int .i64 0, .slice none 0 0, .slice none 0 0]] (w.alloc (Obj.cells #[.int .i64 c, .int .i64 n, .slice A R.length cr, .slice B W.length cw] 29)) (TasksP (w.alloc (Obj.cells #[.int .i64 c, .int .i64 n, .slice A R.length cr, .slice B W.length cw] 29)) [] []) := ref19_task_no (s := zeroS) (fun w' hf => ref11_PutOrder_no (s := zeroS) (fun w2 hf2 => by have h := ref11_RightOrder_begin (cr := cr) (cw := cw) (c := c) (n := n) (hr.fr ((hf1.then_ hf).then_ hf2) (fun _ _ => id)) (hw.fr ((hf1.then_ hf).then_ hf2) (fun _ _ => id)); rw [decide_eq_false hok] at h; exact h))
    have HT := Lib.hid HT
    go_enter Tryz.func24, Tryz.ntmps24
    go_upto_region 1 with fail
    go_wp2_with (go_at_call 50; refine HT.out.mono ?_; rintro e w' ⟨v, rfl, hv, hf'⟩)
    go_ret
    exact ⟨v, rfl, hv.base_ hf1.size, hf1.then_ hf'⟩
set_option maxRecDepth 100000 in
set_option maxHeartbeats 1000000 in
theorem ref19_Cancel {w : World} (s : SayD)  :
    Calls Tryz.prog 26 #[.agg #[.int .i64 s.kind, .int .i64 s.txn, .bool s.yes, .string s.from_, .string s.to_, .int .i64 s.epoch, .int .i64 s.shard, .int .i64 s.target, .int .i64 s.root]] w (TasksP w (if OkSay s ∨ ZSay s then [0] else []) (if OkSay s ∨ ZSay s then orderB 8 [] (wordB s) certZ else [])) := by
  have hf1 : Fr (fun _ => False) w (w.alloc (Obj.cells #[.int .i64 s.kind, .int .i64 s.txn, .bool s.yes, .string s.from_, .string s.to_, .int .i64 s.epoch, .int .i64 s.shard, .int .i64 s.target, .int .i64 s.root] 23)) := (Fr.refl _ _).alloc _
  by_cases hok : OkSay s ∨ ZSay s
  · rw [if_pos hok, if_pos hok]
    have HT : Calls Tryz.prog 50 #[.int .i64 0, .agg #[.int .i64 8, .int .i64 0, .int .i64 0, .slice none 0 0, .slice none 0 0, .int .i64 s.kind, .int .i64 s.txn, .bool s.yes, .string s.from_, .string s.to_, .int .i64 s.epoch, .int .i64 s.shard, .int .i64 s.target, .int .i64 s.root, .int .i64 0, .int .i64 0, .slice none 0 0, .int .i64 0, .int .i64 0, .slice none 0 0, .slice none 0 0]] (w.alloc (Obj.cells #[.int .i64 s.kind, .int .i64 s.txn, .bool s.yes, .string s.from_, .string s.to_, .int .i64 s.epoch, .int .i64 s.shard, .int .i64 s.target, .int .i64 s.root] 23)) (TasksP (w.alloc (Obj.cells #[.int .i64 s.kind, .int .i64 s.txn, .bool s.yes, .string s.from_, .string s.to_, .int .i64 s.epoch, .int .i64 s.shard, .int .i64 s.target, .int .i64 s.root] 23)) [0] (orderB 8 [] (wordB s) certZ)) := ref19_task_ok (s := s) orderB_pos (orderB_len (by simp) (sayB_short s) certZ_len) (fun w' hf => ref11_PutOrder_ok (s := s) (by simp) (fun w2 _ => by have h := ref11_RightOrder_word w2 (kind := 8) (by omega) (by omega) ⟨by omega, by omega⟩ s; rw [decide_eq_true hok] at h; exact h) (fun w2 _ => ref10_Put_zero w2))
    have HT := Lib.hid HT
    go_enter Tryz.func26, Tryz.ntmps26
    go_upto_region 1 with fail
    go_wp2_with (go_at_call 50; refine HT.out.mono ?_; rintro e w' ⟨v, rfl, hv, hf'⟩)
    go_ret
    exact ⟨v, rfl, hv.base_ hf1.size, hf1.then_ hf'⟩
  · rw [if_neg hok, if_neg hok]
    have HT : Calls Tryz.prog 50 #[.int .i64 0, .agg #[.int .i64 8, .int .i64 0, .int .i64 0, .slice none 0 0, .slice none 0 0, .int .i64 s.kind, .int .i64 s.txn, .bool s.yes, .string s.from_, .string s.to_, .int .i64 s.epoch, .int .i64 s.shard, .int .i64 s.target, .int .i64 s.root, .int .i64 0, .int .i64 0, .slice none 0 0, .int .i64 0, .int .i64 0, .slice none 0 0, .slice none 0 0]] (w.alloc (Obj.cells #[.int .i64 s.kind, .int .i64 s.txn, .bool s.yes, .string s.from_, .string s.to_, .int .i64 s.epoch, .int .i64 s.shard, .int .i64 s.target, .int .i64 s.root] 23)) (TasksP (w.alloc (Obj.cells #[.int .i64 s.kind, .int .i64 s.txn, .bool s.yes, .string s.from_, .string s.to_, .int .i64 s.epoch, .int .i64 s.shard, .int .i64 s.target, .int .i64 s.root] 23)) [] []) := ref19_task_no (s := s) (fun w' hf => ref11_PutOrder_no (s := s) (fun w2 _ => by have h := ref11_RightOrder_word w2 (kind := 8) (by omega) (by omega) ⟨by omega, by omega⟩ s; rw [decide_eq_false hok] at h; exact h))
    have HT := Lib.hid HT
    go_enter Tryz.func26, Tryz.ntmps26
    go_upto_region 1 with fail
    go_wp2_with (go_at_call 50; refine HT.out.mono ?_; rintro e w' ⟨v, rfl, hv, hf'⟩)
    go_ret
    exact ⟨v, rfl, hv.base_ hf1.size, hf1.then_ hf'⟩
set_option maxRecDepth 100000 in
set_option maxHeartbeats 1000000 in
theorem ref19_Move {w : World} (s : SayD)  :
    Calls Tryz.prog 28 #[.agg #[.int .i64 s.kind, .int .i64 s.txn, .bool s.yes, .string s.from_, .string s.to_, .int .i64 s.epoch, .int .i64 s.shard, .int .i64 s.target, .int .i64 s.root]] w (TasksP w (if OkSay s ∨ ZSay s then [0] else []) (if OkSay s ∨ ZSay s then orderB 9 [] (wordB s) certZ else [])) := by
  have hf1 : Fr (fun _ => False) w (w.alloc (Obj.cells #[.int .i64 s.kind, .int .i64 s.txn, .bool s.yes, .string s.from_, .string s.to_, .int .i64 s.epoch, .int .i64 s.shard, .int .i64 s.target, .int .i64 s.root] 23)) := (Fr.refl _ _).alloc _
  by_cases hok : OkSay s ∨ ZSay s
  · rw [if_pos hok, if_pos hok]
    have HT : Calls Tryz.prog 50 #[.int .i64 0, .agg #[.int .i64 9, .int .i64 0, .int .i64 0, .slice none 0 0, .slice none 0 0, .int .i64 s.kind, .int .i64 s.txn, .bool s.yes, .string s.from_, .string s.to_, .int .i64 s.epoch, .int .i64 s.shard, .int .i64 s.target, .int .i64 s.root, .int .i64 0, .int .i64 0, .slice none 0 0, .int .i64 0, .int .i64 0, .slice none 0 0, .slice none 0 0]] (w.alloc (Obj.cells #[.int .i64 s.kind, .int .i64 s.txn, .bool s.yes, .string s.from_, .string s.to_, .int .i64 s.epoch, .int .i64 s.shard, .int .i64 s.target, .int .i64 s.root] 23)) (TasksP (w.alloc (Obj.cells #[.int .i64 s.kind, .int .i64 s.txn, .bool s.yes, .string s.from_, .string s.to_, .int .i64 s.epoch, .int .i64 s.shard, .int .i64 s.target, .int .i64 s.root] 23)) [0] (orderB 9 [] (wordB s) certZ)) := ref19_task_ok (s := s) orderB_pos (orderB_len (by simp) (sayB_short s) certZ_len) (fun w' hf => ref11_PutOrder_ok (s := s) (by simp) (fun w2 _ => by have h := ref11_RightOrder_word w2 (kind := 9) (by omega) (by omega) ⟨by omega, by omega⟩ s; rw [decide_eq_true hok] at h; exact h) (fun w2 _ => ref10_Put_zero w2))
    have HT := Lib.hid HT
    go_enter Tryz.func28, Tryz.ntmps28
    go_upto_region 1 with fail
    go_wp2_with (go_at_call 50; refine HT.out.mono ?_; rintro e w' ⟨v, rfl, hv, hf'⟩)
    go_ret
    exact ⟨v, rfl, hv.base_ hf1.size, hf1.then_ hf'⟩
  · rw [if_neg hok, if_neg hok]
    have HT : Calls Tryz.prog 50 #[.int .i64 0, .agg #[.int .i64 9, .int .i64 0, .int .i64 0, .slice none 0 0, .slice none 0 0, .int .i64 s.kind, .int .i64 s.txn, .bool s.yes, .string s.from_, .string s.to_, .int .i64 s.epoch, .int .i64 s.shard, .int .i64 s.target, .int .i64 s.root, .int .i64 0, .int .i64 0, .slice none 0 0, .int .i64 0, .int .i64 0, .slice none 0 0, .slice none 0 0]] (w.alloc (Obj.cells #[.int .i64 s.kind, .int .i64 s.txn, .bool s.yes, .string s.from_, .string s.to_, .int .i64 s.epoch, .int .i64 s.shard, .int .i64 s.target, .int .i64 s.root] 23)) (TasksP (w.alloc (Obj.cells #[.int .i64 s.kind, .int .i64 s.txn, .bool s.yes, .string s.from_, .string s.to_, .int .i64 s.epoch, .int .i64 s.shard, .int .i64 s.target, .int .i64 s.root] 23)) [] []) := ref19_task_no (s := s) (fun w' hf => ref11_PutOrder_no (s := s) (fun w2 _ => by have h := ref11_RightOrder_word w2 (kind := 9) (by omega) (by omega) ⟨by omega, by omega⟩ s; rw [decide_eq_false hok] at h; exact h))
    have HT := Lib.hid HT
    go_enter Tryz.func28, Tryz.ntmps28
    go_upto_region 1 with fail
    go_wp2_with (go_at_call 50; refine HT.out.mono ?_; rintro e w' ⟨v, rfl, hv, hf'⟩)
    go_ret
    exact ⟨v, rfl, hv.base_ hf1.size, hf1.then_ hf'⟩
end Go.Proofs.YtmkdhhhoodeemaaGreat

/- cohortref19.Same of alike tasks; cohortlaw19.Great. -/
namespace Go.Proofs.YtmkdhhhoodeemaaGreat
open Go Go.RowKit
theorem TasksAt.at_ {w : World} {base : Nat} {v : Value} {gs b : List Int} (h : TasksAt w base v gs b) : ∃ A c, v = .slice A gs.length c ∧ ∀ (k : Nat) g, gs[k]? = some g → ∃ t A' c', A = some ⟨t, 0, none⟩ ∧ w.cell? ⟨t, k * 2, none⟩ = some (.int .i64 g) ∧ w.cell? ⟨t, k * 2 + 1, none⟩ = some (.slice A' b.length c') ∧ ByteRow w (U8 w) A' b := by
  obtain ⟨vals, h1, h2⟩ := h
  obtain ⟨A, c, rfl, _, hat⟩ := own_form h1
  refine ⟨A, c, rfl, fun k g hg => ?_⟩
  obtain ⟨A', c', e1, e2, hr⟩ := h2 k g hg
  obtain ⟨t, rfl, _, hc0⟩ := hat _ _ e1
  obtain ⟨t', he, _, hc1⟩ := hat _ _ e2
  cases he
  exact ⟨t, A', c', rfl, hc0, hc1, hr⟩
set_option maxRecDepth 100000 in
theorem ref19_Same {w : World} {base base' : Nat} {v v' : Value} {gs b : List Int} (h : TasksAt w base v gs b) (h' : TasksAt w base' v' gs b) (hl : gs.length ≤ 1000) : Calls Tryz.prog 17 #[v, v'] w (OkB w true) := by
  obtain ⟨A, c, rfl, hat⟩ := h.at_
  obtain ⟨A', c', rfl, hat'⟩ := h'.at_
  clear h h'
  go_enter Tryz.func17, Tryz.ntmps17
  go_wp2_with fail
  go_loopw [5] (fun i wr => ∃ k : Nat, k ≤ gs.length ∧ i = .int .i64 k ∧ Fr (fun _ => False) w wr) (fun i _ => gs.length - (intOf i).toNat)
  case atStart => exact ⟨0, by omega, rfl, Fr.refl _ _⟩
  case round =>
    obtain ⟨k, hk, rfl, hf⟩ := hrel
    by_cases hlt : k < gs.length
    · obtain ⟨x, hx⟩ : ∃ x, gs[k]? = some x := ⟨gs[k], List.getElem?_eq_getElem hlt⟩
      obtain ⟨t, A1, q1, rfl, c0, c1, r0⟩ := hat k x hx
      obtain ⟨t', A2, q2, rfl, c0', c1', r0'⟩ := hat' k x hx
      have d0 := hf.cell_some c0 id
      have d1 := hf.cell_some c1 id
      have d0' := hf.cell_some c0' id
      have d1' := hf.cell_some c1' id
      have hcv1 := fun n => conv_bytes (w := wr.drewN n) (n := b.length) (cap := q1) ((r0.fr hf (fun _ _ => id)).fr ((Fr.refl (fun _ => False) wr).drewN n) (fun _ _ => id)) rfl
      have hcv2 := fun n => conv_bytes (w := wr.drewN n) (n := b.length) (cap := q2) ((r0'.fr hf (fun _ _ => id)).fr ((Fr.refl (fun _ => False) wr).drewN n) (fun _ _ => id)) rfl
      clear hat hat' c0 c0' c1 c1' hx r0 r0'
      go_wp2_with fail
      go_quiet (fail)
      go_wp2
      go_roundw
      case rel => exact ⟨k + 1, by omega, by go_num, hf.drewN _⟩
      case measure => simp [intOf]; omega
    · have hkl : k = gs.length := by omega
      clear hat hat'
      go_wp2
      go_ret
      exact ⟨rfl, hf⟩
end Go.Proofs.YtmkdhhhoodeemaaGreat

/- cohortlaw19: Great, RelayWords. -/
namespace Go.Proofs.YtmkdhhhoodeemaaGreat
open Go Go.RowKit
def greatB (s : SayD) (R : List (ByteArray × Int)) (W : List (ByteArray × ByteArray)) : Bool := decide ((1000 : Int) < (s.from_.size : Int)) || decide ((1000 : Int) < (s.to_.size : Int)) || decide ((40 : Int) < wrap64 ((R.length : Int) + (W.length : Int)))
theorem few_of_great {s : SayD} {R : List (ByteArray × Int)} {W : List (ByteArray × ByteArray)} (lR : R.length ≤ 9223372036854775807) (lW : W.length ≤ 9223372036854775807) (h : greatB s R W = false) : FewT R W := by
  unfold greatB at h
  simp only [Bool.or_eq_false_iff, decide_eq_false_iff_not] at h
  obtain ⟨_, h⟩ := h
  refine ⟨lR, lW, ?_⟩
  unfold wrap64 at h
  omega
set_option maxRecDepth 100000 in
set_option maxHeartbeats 1000000 in
theorem law19_Great {w : World} {s : SayD} {A B : Option Addr} {cr cw : Nat} {c n : Int} {R : List (ByteArray × Int)} {W : List (ByteArray × ByteArray)} (lR : R.length ≤ 9223372036854775807) (lW : W.length ≤ 9223372036854775807) :
    Calls Tryz.prog 10 #[.agg #[.int .i64 s.kind, .int .i64 s.txn, .bool s.yes, .string s.from_, .string s.to_, .int .i64 s.epoch, .int .i64 s.shard, .int .i64 s.target, .int .i64 s.root], .agg #[.int .i64 c, .int .i64 n, .slice A R.length cr, .slice B W.length cw], .slice none 0 0, .slice none 0 0] w (OkB w (greatB s R W)) := by
  have hS0 := (Blk.new w 23 #[.int .i64 s.kind, .int .i64 s.txn, .bool s.yes, .string s.from_, .string s.to_, .int .i64 s.epoch, .int .i64 s.shard, .int .i64 s.target, .int .i64 s.root]).alloc (Obj.cells #[.int .i64 c, .int .i64 n, .slice A R.length cr, .slice B W.length cw] 29)
  have hT0 : Blk ((w.alloc (Obj.cells #[.int .i64 s.kind, .int .i64 s.txn, .bool s.yes, .string s.from_, .string s.to_, .int .i64 s.epoch, .int .i64 s.shard, .int .i64 s.target, .int .i64 s.root] 23)).alloc (Obj.cells #[.int .i64 c, .int .i64 n, .slice A R.length cr, .slice B W.length cw] 29)) (w.heap.size + 1) 29 #[.int .i64 c, .int .i64 n, .slice A R.length cr, .slice B W.length cw] := Blk.new_ _ _ _ (by simp)
  have hf0 : Fr (fun _ => False) w ((w.alloc (Obj.cells #[.int .i64 s.kind, .int .i64 s.txn, .bool s.yes, .string s.from_, .string s.to_, .int .i64 s.epoch, .int .i64 s.shard, .int .i64 s.target, .int .i64 s.root] 23)).alloc (Obj.cells #[.int .i64 c, .int .i64 n, .slice A R.length cr, .slice B W.length cw] 29)) := ((Fr.refl _ _).alloc _).alloc _
  unfold greatB
  go_enter Tryz.func10, Tryz.ntmps10
  go_upto_region 1 with fail
  generalize ((w.alloc (Obj.cells #[.int .i64 s.kind, .int .i64 s.txn, .bool s.yes, .string s.from_, .string s.to_, .int .i64 s.epoch, .int .i64 s.shard, .int .i64 s.target, .int .i64 s.root] 23)).alloc (Obj.cells #[.int .i64 c, .int .i64 n, .slice A R.length cr, .slice B W.length cw] 29)) = w0 at *
  have s3 := hS0.cell 3
  have s4 := hS0.cell 4
  have t2 := hT0.cell 2
  have t3 := hT0.cell 3
  obtain ⟨sum, hsum⟩ : ∃ x, Hid (wrap64 ((R.length : Int) + (W.length : Int)) = x) := ⟨_, rfl⟩
  have hs1 := hsum.out
  by_cases g1 : (1000 : Int) < (s.from_.size : Int)
  · go_wp2
    go_ret
    exact ⟨by simp [g1], hf0⟩
  · by_cases g2 : (1000 : Int) < (s.to_.size : Int)
    · go_wp2
      go_ret
      exact ⟨by simp [g2], hf0⟩
    · by_cases g3 : (40 : Int) < sum
      · go_wp2
        go_ret
        exact ⟨by simp [hs1, g3], hf0⟩
      · go_wp2
        go_ret
        exact ⟨by simp [g1, g2, hs1, g3], hf0⟩
set_option maxRecDepth 100000 in
set_option maxHeartbeats 2000000 in
theorem relayWords_walk {w : World} {F : Nat → Prop} {A B : Option Addr} {cr cw : Nat} {c n : Int} {R : List (ByteArray × Int)} {W : List (ByteArray × ByteArray)} (hr : ReadRow w F A R) (hw : WriteRow w F B W) (lR : R.length ≤ 9223372036854775807) (lW : W.length ≤ 9223372036854775807) (s : SayD) :
    Calls Tryz.prog 6 #[.agg #[.int .i64 c, .int .i64 n, .slice A R.length cr, .slice B W.length cw], .agg #[.int .i64 s.kind, .int .i64 s.txn, .bool s.yes, .string s.from_, .string s.to_, .int .i64 s.epoch, .int .i64 s.shard, .int .i64 s.target, .int .i64 s.root]] w (Bool1 w true) := by
  have hT0 := (Blk.new w 29 #[.int .i64 c, .int .i64 n, .slice A R.length cr, .slice B W.length cw]).alloc (Obj.cells #[.int .i64 s.kind, .int .i64 s.txn, .bool s.yes, .string s.from_, .string s.to_, .int .i64 s.epoch, .int .i64 s.shard, .int .i64 s.target, .int .i64 s.root] 23)
  have hS0 : Blk ((w.alloc (Obj.cells #[.int .i64 c, .int .i64 n, .slice A R.length cr, .slice B W.length cw] 29)).alloc (Obj.cells #[.int .i64 s.kind, .int .i64 s.txn, .bool s.yes, .string s.from_, .string s.to_, .int .i64 s.epoch, .int .i64 s.shard, .int .i64 s.target, .int .i64 s.root] 23)) (w.heap.size + 1) 23 #[.int .i64 s.kind, .int .i64 s.txn, .bool s.yes, .string s.from_, .string s.to_, .int .i64 s.epoch, .int .i64 s.shard, .int .i64 s.target, .int .i64 s.root] := Blk.new_ _ _ _ (by simp)
  have hf0 : Fr (fun _ => False) w ((w.alloc (Obj.cells #[.int .i64 c, .int .i64 n, .slice A R.length cr, .slice B W.length cw] 29)).alloc (Obj.cells #[.int .i64 s.kind, .int .i64 s.txn, .bool s.yes, .string s.from_, .string s.to_, .int .i64 s.epoch, .int .i64 s.shard, .int .i64 s.target, .int .i64 s.root] 23)) := ((Fr.refl _ _).alloc _).alloc _
  go_enter Tryz.func6, Tryz.ntmps6
  go_upto_region 1 with fail
  generalize ((w.alloc (Obj.cells #[.int .i64 c, .int .i64 n, .slice A R.length cr, .slice B W.length cw] 29)).alloc (Obj.cells #[.int .i64 s.kind, .int .i64 s.txn, .bool s.yes, .string s.from_, .string s.to_, .int .i64 s.epoch, .int .i64 s.shard, .int .i64 s.target, .int .i64 s.root] 23)) = w0 at *
  go_upto_region 2 with (go_at_call 8; refine (law19_head _).mono ?_; rintro e w1 ⟨rfl, hf1⟩)
  have hT1 := hT0.fr hf1 id
  have hS1 := hS0.fr hf1 id
  have hf01 := hf0.then_ hf1
  have HGr := Lib.hid (fun w => law19_Great (w := w) (s := s) (A := A) (B := B) (cr := cr) (cw := cw) (c := c) (n := n) lR lW)
  have hfew := few_of_great (s := s) lR lW
  obtain ⟨z, hz⟩ : ∃ z, Hid (greatB s R W = z) := ⟨_, rfl⟩
  rw [hz.out] at HGr hfew
  clear hT0 hS0 hf0 hf1
  have t0 := hT1.cell 0
  have t1 := hT1.cell 1
  have t2 := hT1.cell 2
  have t3 := hT1.cell 3
  have s0 := hS1.cell 0
  have s1 := hS1.cell 1
  have s2 := hS1.cell 2
  have s3 := hS1.cell 3
  have s4 := hS1.cell 4
  have s5 := hS1.cell 5
  have s6 := hS1.cell 6
  have s7 := hS1.cell 7
  have s8 := hS1.cell 8
  cases z with
  | true =>
    clear hfew
    go_wp2_with (go_at_call 10; refine (HGr.out _).mono ?_; rintro e w2 ⟨rfl, hf2⟩)
    go_ret
    exact ⟨rfl, hf01.then_ hf2⟩
  | false =>
    have hfw := hfew rfl
    clear hfew
    go_upto_region 4 with (go_at_call 10; refine (HGr.out _).mono ?_; rintro e w2 ⟨rfl, hf2⟩)
    have hT2 := hT1.fr hf2 id
    have hS2 := hS1.fr hf2 id
    have hf02 := hf01.then_ hf2
    clear hT1 hS1 hf01 hf2 HGr t0 t1 t2 t3 s0 s1 s2 s3 s4 s5 s6 s7 s8
    obtain ⟨gT, hgT⟩ : ∃ x, Hid ((if TOk c n R W then [0] else [] : List Int) = x) := ⟨_, rfl⟩
    obtain ⟨bT, hbT⟩ : ∃ x, Hid ((if TOk c n R W then orderB 6 (txnB c n R W) [] certZ else [] : List Int) = x) := ⟨_, rfl⟩
    obtain ⟨gS, hgS⟩ : ∃ x, Hid ((if OkSay s ∨ ZSay s then [0] else [] : List Int) = x) := ⟨_, rfl⟩
    obtain ⟨bC, hbC⟩ : ∃ x, Hid ((if OkSay s ∨ ZSay s then orderB 8 [] (wordB s) certZ else [] : List Int) = x) := ⟨_, rfl⟩
    obtain ⟨bM, hbM⟩ : ∃ x, Hid ((if OkSay s ∨ ZSay s then orderB 9 [] (wordB s) certZ else [] : List Int) = x) := ⟨_, rfl⟩
    have HB1 := fun w' (hf : Fr (fun _ => False) w w') => relay_Begin (cr := cr) (cw := cw) (c := c) (n := n) (hr.fr hf (fun _ _ => id)) (hw.fr hf (fun _ _ => id)) hfw
    have HB2 := fun w' (hf : Fr (fun _ => False) w w') => ref19_Begin (cr := cr) (cw := cw) (c := c) (n := n) (hr.fr hf (fun _ _ => id)) (hw.fr hf (fun _ _ => id))
    have HC1 := fun w' => relay_Cancel (w := w') s
    have HC2 := fun w' => ref19_Cancel (w := w') s
    have HM1 := fun w' => relay_Move (w := w') s
    have HM2 := fun w' => ref19_Move (w := w') s
    rw [hgT.out, hbT.out] at HB1 HB2
    rw [hgS.out, hbC.out] at HC1 HC2
    rw [hgS.out, hbM.out] at HM1 HM2
    have HB1 := Lib.hid HB1
    have HB2 := Lib.hid HB2
    have HC1 := Lib.hid HC1
    have HC2 := Lib.hid HC2
    have HM1 := Lib.hid HM1
    have HM2 := Lib.hid HM2
    have lgT : Hid (gT.length ≤ 1000) := by show _ ≤ _; rw [← hgT.out]; split <;> simp
    have lgS : Hid (gS.length ≤ 1000) := by show _ ≤ _; rw [← hgS.out]; split <;> simp
    clear hgT hbT hgS hbC hbM hfw hr hw
    have F0 : Fr (fun _ => False) w w2.drew := hf02.drew
    have HK : Hid (∀ w', Fr (fun _ => False) w2 w' → w'.cell? ⟨w.heap.size, 0, none⟩ = some (.int .i64 c) ∧ w'.cell? ⟨w.heap.size, 1, none⟩ = some (.int .i64 n) ∧ w'.cell? ⟨w.heap.size, 2, none⟩ = some (.slice A R.length cr) ∧ w'.cell? ⟨w.heap.size, 3, none⟩ = some (.slice B W.length cw) ∧ w'.cell? ⟨w.heap.size + 1, 0, none⟩ = some (.int .i64 s.kind) ∧ w'.cell? ⟨w.heap.size + 1, 1, none⟩ = some (.int .i64 s.txn) ∧ w'.cell? ⟨w.heap.size + 1, 2, none⟩ = some (.bool s.yes) ∧ w'.cell? ⟨w.heap.size + 1, 3, none⟩ = some (.string s.from_) ∧ w'.cell? ⟨w.heap.size + 1, 4, none⟩ = some (.string s.to_) ∧ w'.cell? ⟨w.heap.size + 1, 5, none⟩ = some (.int .i64 s.epoch) ∧ w'.cell? ⟨w.heap.size + 1, 6, none⟩ = some (.int .i64 s.shard) ∧ w'.cell? ⟨w.heap.size + 1, 7, none⟩ = some (.int .i64 s.target) ∧ w'.cell? ⟨w.heap.size + 1, 8, none⟩ = some (.int .i64 s.root)) := fun w' hf => by
      have hT := hT2.fr hf id
      have hS := hS2.fr hf id
      exact ⟨hT.cell 0, hT.cell 1, hT.cell 2, hT.cell 3, hS.cell 0, hS.cell 1, hS.cell 2, hS.cell 3, hS.cell 4, hS.cell 5, hS.cell 6, hS.cell 7, hS.cell 8⟩
    have G0 : Fr (fun _ => False) w2 w2 := Fr.refl _ _
    have E0 : Fr (fun _ => False) w2 w2.drew := (Fr.refl (fun _ => False) w2).drew
    go_region_held3 (fun w' => w'.cell? ⟨w.heap.size, 0, none⟩ = some (.int .i64 c) ∧ w'.cell? ⟨w.heap.size, 1, none⟩ = some (.int .i64 n) ∧ w'.cell? ⟨w.heap.size, 2, none⟩ = some (.slice A R.length cr) ∧ w'.cell? ⟨w.heap.size, 3, none⟩ = some (.slice B W.length cw) ∧ w'.cell? ⟨w.heap.size + 1, 0, none⟩ = some (.int .i64 s.kind) ∧ w'.cell? ⟨w.heap.size + 1, 1, none⟩ = some (.int .i64 s.txn) ∧ w'.cell? ⟨w.heap.size + 1, 2, none⟩ = some (.bool s.yes) ∧ w'.cell? ⟨w.heap.size + 1, 3, none⟩ = some (.string s.from_) ∧ w'.cell? ⟨w.heap.size + 1, 4, none⟩ = some (.string s.to_) ∧ w'.cell? ⟨w.heap.size + 1, 5, none⟩ = some (.int .i64 s.epoch) ∧ w'.cell? ⟨w.heap.size + 1, 6, none⟩ = some (.int .i64 s.shard) ∧ w'.cell? ⟨w.heap.size + 1, 7, none⟩ = some (.int .i64 s.target) ∧ w'.cell? ⟨w.heap.size + 1, 8, none⟩ = some (.int .i64 s.root)) (first | exact HK.out _ E9 | exact HK.out _ E8 | exact HK.out _ E7 | exact HK.out _ E6 | exact HK.out _ E5 | exact HK.out _ E4 | exact HK.out _ E3 | exact HK.out _ E2 | exact HK.out _ E1 | exact HK.out _ E0 | exact HK.out _ G0) (first
      | (go_at_call 23; refine (HB1.out _ F0).mono ?_; rintro e w3 ⟨v3, rfl, h3, f3⟩; have F1 := F0.then_ f3; have E1 := E0.then_ f3)
      | (go_at_call 24; refine (HB2.out _ F1).mono ?_; rintro e w4 ⟨v4, rfl, h4, f4⟩; have F2 := F1.then_ f4; have E2 := E1.then_ f4; have h3 := h3.fr f4 (fun _ _ => id) (fun _ _ => id))
      | (go_at_call 25; refine (HC1.out _).mono ?_; rintro e w6 ⟨v6, rfl, h6, f6⟩; have F4 := F3.then_ f6; have E4 := E3.then_ f6)
      | (go_at_call 26; refine (HC2.out _).mono ?_; rintro e w7 ⟨v7, rfl, h7, f7⟩; have F5 := F4.then_ f7; have E5 := E4.then_ f7; have h6 := h6.fr f7 (fun _ _ => id) (fun _ _ => id))
      | (go_at_call 27; refine (HM1.out _).mono ?_; rintro e w9 ⟨v9, rfl, h9, f9⟩; have F7 := F6.then_ f9; have E7 := E6.then_ f9)
      | (go_at_call 28; refine (HM2.out _).mono ?_; rintro e w10 ⟨v10, rfl, h10, f10⟩; have F8 := F7.then_ f10; have E8 := E7.then_ f10; have h9 := h9.fr f10 (fun _ _ => id) (fun _ _ => id))
      | (go_at_call 17; refine (ref19_Same h9 h10 lgS.out).mono ?_; rintro e w11 ⟨rfl, f11⟩; have F9 := F8.then_ f11; have E9 := E8.then_ f11)
      | (go_at_call 17; refine (ref19_Same h6 h7 lgS.out).mono ?_; rintro e w8 ⟨rfl, f8⟩; have F6 := F5.then_ f8; have E6 := E5.then_ f8)
      | (go_at_call 17; refine (ref19_Same h3 h4 lgT.out).mono ?_; rintro e w5 ⟨rfl, f5⟩; have F3 := F2.then_ f5; have E3 := E2.then_ f5))
    go_wp2
    go_ret
    exact ⟨rfl, F9⟩
end Go.Proofs.YtmkdhhhoodeemaaGreat

/- The document's Reader, by what is left of the bytes. -/
namespace Go.Proofs.YtmkdhhhoodeemaaGreat
open Go Go.RowKit
/-- The document's reader at g, without an error, has s left. -/
def RS (w : World) (g : Nat) (s : List Int) : Prop := ∃ b o cap bs pos, RR w g b o cap bs pos ∧ bs.drop pos = s ∧ bs.length ≤ 1099511627776
theorem RS.fr {S : Nat → Prop} {w w' : World} {g : Nat} {s : List Int} (h : RS w g s) (hf : Fr S w w') (hg : ¬ S g) (h8 : ∀ k, U8 w k → ¬ S k) : RS w' g s := by
  obtain ⟨b, o, cap, bs, pos, h1, h2, h3⟩ := h
  exact ⟨b, o, cap, bs, pos, h1.fr hf hg h8, h2, h3⟩
theorem RS.keep {w w' : World} {g : Nat} {s : List Int} (h : RS w g s) (hf : Fr (fun _ => False) w w') : RS w' g s := h.fr hf id (fun _ _ => id)
theorem RS.blk {w : World} {g : Nat} {s : List Int} (h : RS w g s) : ∃ cs, Blk w g 131 cs := by
  obtain ⟨b, o, cap, bs, pos, h1, h2, h3⟩ := h
  exact ⟨_, h1.blk⟩
theorem RS.lt {w : World} {g : Nat} {s : List Int} (h : RS w g s) : g < w.heap.size := by
  obtain ⟨cs, hB⟩ := h.blk
  exact hB.lt
theorem RS.e {w : World} {g : Nat} {s : List Int} (h : RS w g s) : w.cell? ⟨g, 2, none⟩ = some (.int .i64 0) := by
  obtain ⟨b, o, cap, bs, pos, h1, h2, h3⟩ := h
  exact h1.blk.cell 2
theorem RS.ne {w : World} {g x : Nat} {s : List Int} {t : TypeId} {cs : Array Value} (h : RS w g s) (hB : Blk w x t cs) (ht : 131 ≠ t) : ¬ x = g := by
  obtain ⟨ds, hD⟩ := h.blk
  exact fun e => hD.ne_ hB ht e.symm
theorem RS.far {w : World} {g : Nat} {s : List Int} (h : RS w g s) {x : Nat} {t : TypeId} {cs : Array Value} (hB : Blk w x t cs) (ht : 5 ≠ t) (hr : 131 ≠ t) (i : Nat) (u : Value) : RS (w.setCell ⟨x, i, none⟩ u) g s :=
  h.fr ((Fr.refl (fun k => k = x) w).setCell (p := ⟨x, i, none⟩) (fun _ => rfl) u) (fun e => h.ne hB hr e.symm) (fun k hk e => hk.ne_blk hB ht e)
theorem RS.own {w w' : World} {g base n size : Nat} {s : List Int} {e : TypeId} {v : Value} {xs : List Value} (h : RS w g s) (ho : w.ownsRow base e size v n xs) (h8 : e ≠ 5) (hr : e ≠ 131) (hf : Fr (fun k => v.ownBlock = some k) w w') : RS w' g s := by
  obtain ⟨ds, hD⟩ := h.blk
  exact h.fr hf (own_ne_blk ho hD hr) (fun k hk => hk.ne_own ho h8)
/-- A number read. -/
def RSNum (w : World) (g : Nat) (x : Int) (s : List Int) (e : Ending) (w' : World) : Prop := e = .returned (.int .i64 x) ∧ RS w' g s ∧ Fr (fun k => k = g) w w'
/-- A text read. -/
def RSText (w : World) (g : Nat) (xs s : List Int) (e : Ending) (w' : World) : Prop := ∃ v, e = .returned v ∧ Own8 w' w.heap.size v xs ∧ RS w' g s ∧ Fr (fun k => k = g) w w'
/-- Numbers read. -/
def RSNums (w : World) (g : Nat) (l s : List Int) (e : Ending) (w' : World) : Prop := ∃ v, e = .returned v ∧ w'.ownsRow w.heap.size 2 1 v l.length (num64V l) ∧ RS w' g s ∧ Fr (fun k => k = g) w w'
theorem rs_New {w : World} {F : Nat → Prop} {A : Option Addr} {cap : Nat} {bs : List Int} (hr : ByteRow w F A bs) (h0 : 0 < bs.length) (hl : bs.length ≤ 1099511627776) :
    Calls Tryz.prog 53 #[.slice A bs.length cap] w (fun e w' => ∃ g, e = .returned (.pointer (some ⟨g, 0, none⟩)) ∧ w.heap.size ≤ g ∧ RS w' g bs ∧ Fr (fun _ => False) w w') := by
  refine (refr_New hr h0 hl).mono ?_
  rintro e w' ⟨g, b, o, c, he, hg, hR, hf⟩
  exact ⟨g, he, hg, ⟨b, o, c, bs, 0, hR, rfl, hl⟩, hf⟩
theorem rs_Num {w : World} {g : Nat} {x : Int} {s : List Int} (h : RS w g (num8 x ++ s)) (h0 : -9223372036854775808 ≤ x) (h1 : x ≤ 9223372036854775807) :
    Calls Tryz.prog 54 #[.pointer (some ⟨g, 0, none⟩)] w (RSNum w g x s) := by
  obtain ⟨b, o, cap, bs, pos, hR, hd, hl⟩ := h
  obtain ⟨_, hn, ht⟩ := num_read hd h0 h1
  have hlen := drop_len hd
  have hle := hR.le
  rw [num8_length] at hlen
  refine (refr_Num hR hl (by omega)).mono ?_
  rintro e w' ⟨he, h2, hf⟩
  exact ⟨by rw [he, hn], ⟨b, o, cap, bs, pos + 8, h2, ht, hl⟩, hf⟩
theorem rs_Int {w : World} {g : Nat} {x most : Int} {s : List Int} (h : RS w g (num8 x ++ s)) (h0 : 0 ≤ x) (hm : x ≤ most) (h1 : x ≤ 9223372036854775807) :
    Calls Tryz.prog 56 #[.pointer (some ⟨g, 0, none⟩), .int .i64 most] w (RSNum w g x s) := by
  obtain ⟨b, o, cap, bs, pos, hR, hd, hl⟩ := h
  obtain ⟨_, hn, ht⟩ := num_read hd (by omega) h1
  have hlen := drop_len hd
  have hle := hR.le
  rw [num8_length] at hlen
  refine (refr_Int hR hl (by omega) hn h0 hm).mono ?_
  rintro e w' ⟨he, h2, hf⟩
  exact ⟨he, ⟨b, o, cap, bs, pos + 8, h2, ht, hl⟩, hf⟩
theorem rs_Text {w : World} {g : Nat} {xs s : List Int} (h : RS w g (textB xs ++ s)) (hx : xs.length ≤ 65536) :
    Calls Tryz.prog 55 #[.pointer (some ⟨g, 0, none⟩)] w (RSText w g xs s) := by
  obtain ⟨b, o, cap, bs, pos, hR, hd, hl⟩ := h
  obtain ⟨_, _, hn, ht⟩ := text_read hd hx
  rw [hn] at ht
  refine (refr_Text hR hl hd hx).mono ?_
  rintro e w' ⟨v, he, hv, h2, hf⟩
  exact ⟨v, he, hv, ⟨b, o, cap, bs, _, h2, ht, hl⟩, hf⟩
theorem rs_Nums {w : World} {g : Nat} {l s : List Int} (h : RS w g (numsB l ++ s)) (hx : l.length ≤ 1024) (hw : ∀ y ∈ l, -9223372036854775808 ≤ y ∧ y ≤ 9223372036854775807) :
    Calls Tryz.prog 57 #[.pointer (some ⟨g, 0, none⟩)] w (RSNums w g l s) := by
  obtain ⟨b, o, cap, bs, pos, hR, hd, hl⟩ := h
  have ht : bs.drop (pos + 4 + 8 * l.length) = s := by
    rw [numsB, List.append_assoc] at hd
    have h1 := drop_add hd
    rw [count4_length] at h1
    have h2 := drop_add h1
    rw [flat_num8] at h2
    exact h2
  refine (refr_Nums hR hl hd hx hw).mono ?_
  rintro e w' ⟨v, he, hv, h2, hf⟩
  exact ⟨v, he, hv, ⟨b, o, cap, bs, _, h2, ht, hl⟩, hf⟩
theorem rs_End {w : World} {g : Nat} (h : RS w g []) :
    Calls Tryz.prog 58 #[.pointer (some ⟨g, 0, none⟩)] w (fun e w' => e = .returned (.tuple #[.int .i64 0, .agg #[.string ⟨#[]⟩, .int .i64 0]]) ∧ Fr (fun _ => False) w w') := by
  obtain ⟨b, o, cap, bs, pos, hR, hd, hl⟩ := h
  have hp : pos = bs.length := by
    have h1 : bs.length - pos = 0 := by have := congrArg List.length hd; simpa using this
    have h2 := hR.le
    omega
  subst hp
  exact refr_End hR
end Go.Proofs.YtmkdhhhoodeemaaGreat
