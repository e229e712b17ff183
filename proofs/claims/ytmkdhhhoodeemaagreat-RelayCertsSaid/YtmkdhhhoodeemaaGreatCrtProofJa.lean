/- RelayCertsSaid: for every input the law returns true, and each argument reads behind the call as it read before. No condition. -/
import Derived.Deep.RegionHeldLaw
import Derived.Deep.MidRow
import Derived.Laws.Tables
import Derived.BigQuiet
import Derived.Lib.SlKept
import Derived.Lib.SmallJoins
import Derived.Test.YtmkdhhhoodeemaaGreatCrtProofGa
import Derived.Test.YtmkdhhhoodeemaaGreatCrtProofGb
import Derived.Test.YtmkdhhhoodeemaaGreatCrtProofGc
import Derived.Test.YtmkdhhhoodeemaaGreatCrtProofGd
import Derived.Test.YtmkdhhhoodeemaaGreatCrtProofGe
set_option linter.unusedVariables false
set_option linter.unusedSimpArgs false
/- cohortref02: the Reader, where it reads what was written. -/
namespace Go.Proofs.YtmkdhhhoodeemaaGreat
open Go Go.RowKit
/-- The document's reader at g, without an error. -/
structure RR (w : World) (g b o cap : Nat) (bs : List Int) (pos : Nat) : Prop where
 blk : Blk w g 131 #[.slice (some ⟨b, o, none⟩) bs.length cap, .int .i64 pos, .int .i64 0, .string ⟨#[]⟩, .int .i64 0]
 row : ByteRow w (U8 w) (some ⟨b, o, none⟩) bs
 cap_ : bs.length ≤ cap
 le : pos ≤ bs.length
theorem RR.fr {S : Nat → Prop} {w w' : World} {g b o cap : Nat} {bs : List Int} {pos : Nat} (h : RR w g b o cap bs pos) (hf : Fr S w w') (hg : ¬ S g) (h8 : ∀ k, U8 w k → ¬ S k) : RR w' g b o cap bs pos :=
 ⟨h.blk.fr hf hg, h.row.u8 hf h8, h.cap_, h.le⟩
theorem RR.keep {w w' : World} {g b o cap : Nat} {bs : List Int} {pos : Nat} (h : RR w g b o cap bs pos) (hf : Fr (fun _ => False) w w') : RR w' g b o cap bs pos := h.fr hf id (fun _ _ => id)
/-- What reading n bytes leaves. -/
def RBytes (w : World) (g b o cap : Nat) (bs : List Int) (pos n : Nat) (e : Ending) (w' : World) : Prop :=
 ∃ v, e = .returned v ∧ Own8 w' w.heap.size v ((bs.drop pos).take n) ∧ RR w' g b o cap bs (pos + n) ∧ Fr (fun k => k = g) w w'
theorem RR.part {w : World} {g b o cap : Nat} {bs : List Int} {pos : Nat} (h : RR w g b o cap bs pos) (n : Nat) : ByteRow w (U8 w) (some ⟨b, o + pos, none⟩) ((bs.drop pos).take n) := by
 intro k x hx
 rw [List.getElem?_take] at hx
 split at hx
 ·rw [List.getElem?_drop] at hx
  obtain ⟨b', o', e, h1, h2⟩ := h.row (pos + k) x hx
  cases e
  exact ⟨b, o + pos, rfl, h1, by rw [Nat.add_assoc]; exact h2⟩
 ·cases hx
theorem RR.set {w : World} {g b o cap : Nat} {bs : List Int} {pos : Nat} (h : RR w g b o cap bs pos) {p : Nat} (hp : p ≤ bs.length) : RR (w.setCell ⟨g, 1, none⟩ (.int .i64 (p : Int))) g b o cap bs p ∧ Fr (fun k => k = g) w (w.setCell ⟨g, 1, none⟩ (.int .i64 (p : Int))) := by
 have hf : Fr (fun k => k = g) w (w.setCell ⟨g, 1, none⟩ (.int .i64 (p : Int))) := (Fr.refl (fun k => k = g) w).setCell (p := ⟨g, 1, none⟩) (fun _ => rfl) _
 exact ⟨⟨h.blk.set_ 1 _, h.row.u8 hf (fun k hk e => hk.ne_blk h.blk (by decide) e), h.cap_, hp⟩, hf⟩
theorem slice_row {w : World} {b f p n cap : Nat} {xs : List Int} (h : ByteRow w (U8 w) (some ⟨b, f + p, none⟩) xs) (hl : xs.length = n) (hc : p + n ≤ cap) : ByteRow w (U8 w) (if cap = p then some ⟨b, f, none⟩ else some ⟨b, f + p, none⟩) xs := by
 split
 ·have : xs = [] := List.eq_nil_of_length_eq_zero (by omega)
  subst this
  intro k x hx
  simp at hx
 ·exact h
set_option maxRecDepth 100000 in
set_option maxHeartbeats 1000000 in
theorem refr_bytes {w : World} {g b o cap : Nat} {bs : List Int} {pos : Nat} (h : RR w g b o cap bs pos) (hl : bs.length ≤ 1099511627776) (n : Nat) (hn : pos + n ≤ bs.length) (s : ByteArray) (at_ : Int) :
  Calls Tryz.prog 122 #[.pointer (some ⟨g, 0, none⟩), .int .i64 n, .string s, .int .i64 at_] w (RBytes w g b o cap bs pos n) := by
 have c0 := h.blk.cell 0
 have c1 := h.blk.cell 1
 have c2 := h.blk.cell 2
 have hcap := h.cap_
 have hn' : ¬ (bs.length : Int) - (pos : Int) < (n : Int) := by omega
 have hsub : wrap64 ((bs.length : Int) - (pos : Int)) = (bs.length : Int) - (pos : Int) := by unfold wrap64; omega
 have H := Lib.hid h
 have HL := Lib.hid hl
 clear h
 go_enter Tryz.func122, Tryz.ntmps122
 go_wp2_with fail
 go_quiet (fail)
 go_wp2_with fail
 have hf1 : Fr (fun _ => False) w (w.drewN nq) := (Fr.refl _ _).drewN nq
 have H1 := H.out.keep hf1
 generalize w.drewN nq = w1 at *
 have hf2 : Fr (fun _ => False) w1 (w1.drew.alloc (Obj.cells #[] 5)) := ((Fr.refl _ _).drew).alloc _
 have H2 := H1.keep hf2
 have ho2 : Own8 (w1.drew.alloc (Obj.cells #[] 5)) w1.heap.size (.slice (some ⟨w1.heap.size, 0, none⟩) 0 0) [] := Own8.built w1.drew (Nat.le_refl _) [] (by simp) 0 rfl
 have hy2 := H2.part n
 have hxl : ((bs.drop pos).take n).length = n := by rw [List.length_take, List.length_drop]; omega
 have hz2 : w1.heap.size ≤ (w1.drew.alloc (Obj.cells #[] 5)).heap.size := by simp
 have d0 := H1.blk.drew.cell 0
 have d1 := H1.blk.drew.cell 1
 have e0 := H2.blk.cell 0
 have e1 := H2.blk.cell 1
 have HXL := Lib.hid hxl
 have hg2 := H2.blk
 generalize hxs : (bs.drop pos).take n = xs at hy2 HXL hxl ⊢
 clear c0 c1 c2 H1 hn' hsub
 have hn3 : pos + n ≤ cap := by omega
 have hy3 := slice_row hy2 hxl hn3
 have h1 : (pos : Int) + (n : Int) ≤ (cap : Int) := by omega
 have h5 : (0 : Int) ≤ (pos : Int) + (n : Int) := by omega
 have h6 : pos ≤ ((pos : Int) + (n : Int)).toNat := by omega
 have h7 : ((pos : Int) + (n : Int)).toNat - pos = n := by omega
 have h8 : (pos : Int) + (n : Int) ≤ 1099511627776 := by omega
 have h9 : IntKind.i64.wrap ((pos : Int) + (n : Int)) = (pos : Int) + (n : Int) := by unfold IntKind.wrap; simp [IntKind.bits, IntKind.signed]; omega
 refine wp_region_noPanic ?_
 refine wp_region_held_drew (S := (fun w' => w'.cell? ⟨g, 0, none⟩ = some (.slice (some ⟨b, o, none⟩) bs.length cap) ∧ w'.cell? ⟨g, 1, none⟩ = some (.int .i64 pos))) (by kernel_rfl) (⟨d0, d1⟩) (fun hHeld => ?_)
 refine tk 1 32 ?_
 refine tk 2 33 ?_
 refine tk 3 34 ?_
 refine tk 4 35 ?_
 refine tk 5 36 ?_
 refine tk 6 37 ?_
 refine tk 7 38 ?_
 refine tk 8 39 ?_
 refine tk 9 40 ?_
 refine tk 10 41 ?_
 refine tk 11 42 ?_
 refine tk 12 43 ?_
 refine tk 13 44 ?_
 refine tk 14 45 ?_
 refine tk 15 46 ?_
 refine wpAnyH_ready (rs := [0]) (by kernel_rfl) (by simp) ?_
 refine AllReadyH.cons rfl (fun K hK => ?_) AllReadyH.nil
 go_simp
 refine hK.out _ _ (⟨e0, e1⟩) (fun hHeld => ?_)
 clear hK K
 refine wpAnyH_ready (rs := [16]) (by kernel_rfl) (by simp) ?_
 refine AllReadyH.cons rfl (fun K hK => ?_) AllReadyH.nil
 refine step_append_text rfl (.tmp 31) (.tmp 46) rfl w1.heap.size (.slice (some ⟨w1.heap.size, 0, none⟩) 0 0) [] (by simp [Act.eval]) ho2 (U8 (w1.drew.alloc (Obj.cells #[] 5))) (if cap = pos then some ⟨b, o, none⟩ else some ⟨b, o + pos, none⟩) n (cap - pos) xs (by simp [Act.eval]) hxl.symm hy3 (by have := HL.out; have := HXL.out; simp; omega) hz2 ?_
 intro v5 w5 h5 hf5 hk5
 have hg5 := hg2.fr hf5 (ho2.ne_blk hg2 (by decide))
 have hf25 : Fr (fun _ => False) w w5 := (hf1.then_ hf2).trans hf5 (fun k hk e => by have := own_ge ho2 k e; have := hf1.size; omega)
 refine hK.out _ _ ⟨hg5.cell 0, hg5.cell 1⟩ (fun hHeld => ?_)
 clear hK K
 simp only [List.getElem_toArray, List.getElem_cons_succ, List.getElem_cons_zero]
 simp only [Act.put, List.setIfInBounds_toArray, List.set_cons_zero, List.set_cons_succ]
 refine tk 17 9 ?_
 refine wpAnyH_done (by kernel_rfl) ?_ _
 refine NoPanic.normal ?_
 have hr0 : Fr (fun _ => False) w w5 := hf25
 have HR := H.out.keep hr0
 have hv5 : Own8 w5 w1.heap.size v5 xs := h5
 obtain ⟨A5, k5, rfl, _, _⟩ := hv5.form
 have g1 := HR.blk.cell 1
 have z1 := HR.blk.frozen 1
 obtain ⟨hR, hfR⟩ := HR.set hn
 have hq : (((pos + n : Nat) : Int)) = (pos : Int) + (n : Int) := by omega
 have hv6 : Own8 w5 w1.heap.size (.slice A5 n k5) xs := hv5.len hxl
 rw [hq] at hR hfR
 by_cases hcp : cap = pos
 ·subst hcp
  go_wp2
  refine bodyPost_ret (v := .slice A5 n k5) (by simp [results, Tryz.results122, go_sem]) rfl ?_
  unfold RBytes
  rw [hxs]
  exact ⟨_, rfl, (hv6.setCell HR.blk (by decide) _).base_ hf1.size, hR, (hr0.mono (fun _ _ h => h.elim)).trans hfR (fun _ _ h => h)⟩
 ·skip
  go_wp2
  refine bodyPost_ret (v := .slice A5 n k5) (by simp [results, Tryz.results122, go_sem]) rfl ?_
  unfold RBytes
  rw [hxs]
  exact ⟨_, rfl, (hv6.setCell HR.blk (by decide) _).base_ hf1.size, hR, (hr0.mono (fun _ _ h => h.elim)).trans hfR (fun _ _ h => h)⟩
end Go.Proofs.YtmkdhhhoodeemaaGreat

/- cohortref02: New, num, length: where they read what was written. -/
namespace Go.Proofs.YtmkdhhhoodeemaaGreat
open Go Go.RowKit
/-- A value read, and the place after. -/
def RGot (w : World) (g b o cap : Nat) (bs : List Int) (v : Value) (p : Nat) (e : Ending) (w' : World) : Prop :=
 e = .returned v ∧ RR w' g b o cap bs p ∧ Fr (fun k => k = g) w w'
theorem or_low16 (a c : Int) (ha : a % 65536 = 0) (h0 : 0 ≤ c) (h1 : c < 65536) : bits .or .i64 a c = wrap64 (a + c) := by
 have e : bits .or .i64 a c = IntKind.i64.wrap (((BitVec.ofInt 64 a) ||| (BitVec.ofInt 64 c)).toNat : Int) := rfl
 rw [e]
 obtain ⟨c', rfl⟩ := Int.eq_ofNat_of_zero_le h0
 have hc : c' < 65536 := by omega
 have h2 : ((BitVec.ofInt 64 a) ||| (BitVec.ofInt 64 (c' : Int))).toNat = (a % 18446744073709551616).toNat + c' := by
  rw [BitVec.toNat_or, BitVec.toNat_ofInt, BitVec.toNat_ofInt]
  have e1 : ((c' : Int) % ((2 ^ 64 : Nat) : Int)).toNat = c' := by omega
  have e2 : (a % ((2 ^ 64 : Nat) : Int)).toNat = 2 ^ 16 * ((a % 18446744073709551616).toNat / 65536) := by
   have : (a % 18446744073709551616) % 65536 = 0 := by omega
   omega
  rw [e1, e2, ← Nat.two_pow_add_eq_or_of_lt (by omega)]
  omega
 rw [h2]
 have h3 : IntKind.i64.wrap (((a % 18446744073709551616).toNat + c' : Nat) : Int) = wrap64 (((a % 18446744073709551616).toNat + c' : Nat) : Int) := by
  rw [IntKind.wrap_i64, wrap64]
 rw [h3]
 unfold wrap64
 omega
theorem or_low24 (a c : Int) (ha : a % 16777216 = 0) (h0 : 0 ≤ c) (h1 : c < 16777216) : bits .or .i64 a c = wrap64 (a + c) := by
 have e : bits .or .i64 a c = IntKind.i64.wrap (((BitVec.ofInt 64 a) ||| (BitVec.ofInt 64 c)).toNat : Int) := rfl
 rw [e]
 obtain ⟨c', rfl⟩ := Int.eq_ofNat_of_zero_le h0
 have hc : c' < 16777216 := by omega
 have h2 : ((BitVec.ofInt 64 a) ||| (BitVec.ofInt 64 (c' : Int))).toNat = (a % 18446744073709551616).toNat + c' := by
  rw [BitVec.toNat_or, BitVec.toNat_ofInt, BitVec.toNat_ofInt]
  have e1 : ((c' : Int) % ((2 ^ 64 : Nat) : Int)).toNat = c' := by omega
  have e2 : (a % ((2 ^ 64 : Nat) : Int)).toNat = 2 ^ 24 * ((a % 18446744073709551616).toNat / 16777216) := by
   have : (a % 18446744073709551616) % 16777216 = 0 := by omega
   omega
  rw [e1, e2, ← Nat.two_pow_add_eq_or_of_lt (by omega)]
  omega
 rw [h2]
 have h3 : IntKind.i64.wrap (((a % 18446744073709551616).toNat + c' : Nat) : Int) = wrap64 (((a % 18446744073709551616).toNat + c' : Nat) : Int) := by
  rw [IntKind.wrap_i64, wrap64]
 rw [h3]
 unfold wrap64
 omega
set_option maxRecDepth 100000 in
theorem refr_num {w : World} {g b o cap : Nat} {bs : List Int} {pos : Nat} (h : RR w g b o cap bs pos) (hl : bs.length ≤ 1099511627776) (h8 : pos + 8 ≤ bs.length) (s : ByteArray) (at_ : Int) :
  Calls Tryz.prog 89 #[.pointer (some ⟨g, 0, none⟩), .string s, .int .i64 at_] w (RGot w g b o cap bs (.int .i64 (numX bs pos)) (pos + 8)) := by
 have HB := Lib.hid (refr_bytes h hl 8 h8 s at_)
 have hx8 : ((bs.drop pos).take 8).length = 8 := by rw [List.length_take, List.length_drop]; omega
 have HX8 := Lib.hid hx8
 clear h hx8
 unfold numX
 go_enter Tryz.func89, Tryz.ntmps89
 go_upto_region 4 with (go_at_call 122; refine HB.out.mono ?_; rintro e w1 ⟨v1, rfl, hv1, h1, hf1⟩; obtain ⟨A1, k1, rfl, _, hr1⟩ := hv1.form)
 generalize hxs : (bs.drop pos).take 8 = xs at hr1 HX8
 have hlen := HX8.out
 go_loopw [8, 9] (fun n i wr => ∃ k : Nat, k ≤ 8 ∧ i = .int .i64 k ∧ n = .int .i64 (spell64 (xs.take k)) ∧ w1 = wr) (fun _ i _ => 8 - (intOf i).toNat)
 case atStart => exact ⟨0, by omega, rfl, rfl, rfl⟩
 case round =>
  obtain ⟨k, hk, rfl, rfl, rfl⟩ := hrel
  by_cases hlt : k < 8
  ·obtain ⟨x, hx⟩ : ∃ x, xs[k]? = some x := ⟨xs[k]'(by omega), List.getElem?_eq_getElem (by omega)⟩
   obtain ⟨b', o', rfl, _, hc⟩ := hr1 k x hx
   have HX := Lib.hid hx
   clear hr1 hx
   go_wp2_with fail
   go_roundw
   case rel => exact ⟨k + 1, by omega, by go_num, by rw [spell_take HX.out]; rfl, by trivial⟩
   case measure => simp [intOf]; omega
  ·obtain rfl : k = 8 := by omega
   rw [List.take_of_length_le (by omega)]
   go_wp2
   refine bodyPost_ret (v := .int .i64 (spell64 xs)) (by simp [results, Tryz.results89, go_sem]) rfl ?_
   exact ⟨by rw [hxs], h1, hf1⟩
set_option maxRecDepth 100000 in
theorem refr_length {w : World} {g b o cap : Nat} {bs : List Int} {pos : Nat} (h : RR w g b o cap bs pos) (hl : bs.length ≤ 1099511627776) {n : Nat} {t : List Int} (hd : bs.drop pos = count4 n ++ t) {most : Int} (hm : (n : Int) ≤ most) (hm2 : most ≤ 65536) (s : ByteArray) (at_ : Int) :
  Calls Tryz.prog 92 #[.pointer (some ⟨g, 0, none⟩), .int .i64 most, .string s, .int .i64 at_] w (RGot w g b o cap bs (.int .i64 n) (pos + 4)) := by
 have hlen := drop_len hd
 rw [count4_length] at hlen
 have hle := h.le
 have HB : Hid (Calls Tryz.prog 122 #[.pointer (some ⟨g, 0, none⟩), .int .i64 4, .string s, .int .i64 at_] w (fun e w' => ∃ v, e = .returned v ∧ Own8 w' w.heap.size v (count4 n) ∧ RR w' g b o cap bs (pos + 4) ∧ Fr (fun k => k = g) w w')) := by
  refine (refr_bytes h hl 4 (by omega) s at_).mono ?_
  rintro e w' ⟨v, h1, h2, h3, h4⟩
  rw [hd, List.take_left' (count4_length n)] at h2
  exact ⟨v, h1, h2, h3, h4⟩
 have hN : Hid (count4 (n : Int) = [(n : Int) / 16777216 % 256, (n : Int) / 65536 % 256, (n : Int) / 256 % 256, (n : Int) % 256]) := rfl
 rw [hN.out] at HB
 obtain ⟨x0, q0⟩ : ∃ x, Hid ((n : Int) / 16777216 % 256 = x) := ⟨_, rfl⟩
 obtain ⟨x1, q1⟩ : ∃ x, Hid ((n : Int) / 65536 % 256 = x) := ⟨_, rfl⟩
 obtain ⟨x2, q2⟩ : ∃ x, Hid ((n : Int) / 256 % 256 = x) := ⟨_, rfl⟩
 obtain ⟨x3, q3⟩ : ∃ x, Hid ((n : Int) % 256 = x) := ⟨_, rfl⟩
 rw [q0.out, q1.out, q2.out, q3.out] at HB
 have hb0 : 0 ≤ x0 ∧ x0 < 256 := by have := q0.out; omega
 have hb1 : 0 ≤ x1 ∧ x1 < 256 := by have := q1.out; omega
 have hb2 : 0 ≤ x2 ∧ x2 < 256 := by have := q2.out; omega
 have hb3 : 0 ≤ x3 ∧ x3 < 256 := by have := q3.out; omega
 have hsum : Hid (x0 * 16777216 + x1 * 65536 + x2 * 256 + x3 = (n : Int)) := by show _ = _; have := q0.out; have := q1.out; have := q2.out; have := q3.out; omega
 obtain ⟨b0l, b0h⟩ := hb0
 obtain ⟨b1l, b1h⟩ := hb1
 obtain ⟨b2l, b2h⟩ := hb2
 obtain ⟨b3l, b3h⟩ := hb3
 clear h hd hN hlen
 go_enter Tryz.func92, Tryz.ntmps92
 go_upto_region 2 with (go_at_call 122; refine HB.out.mono ?_; rintro e w1 ⟨v1, rfl, hv1, h1, hf1⟩; obtain ⟨A1, k1, rfl, _, hr1⟩ := hv1.form)
 obtain ⟨bb, oo, rfl, _, e0⟩ := hr1 0 x0 rfl
 obtain ⟨_, _, hq, _, e1⟩ := hr1 1 x1 rfl
 cases hq
 obtain ⟨_, _, hq, _, e2⟩ := hr1 2 x2 rfl
 cases hq
 obtain ⟨_, _, hq, _, e3⟩ := hr1 3 x3 rfl
 cases hq
 rw [Nat.add_zero] at e0
 have d2 := h1.blk.cell 2
 clear hr1
 go_wp2_with fail
 go_quiet (fail)
 have hor : bits BinOp.or IntKind.i64 (bits BinOp.or IntKind.i64 (bits BinOp.or IntKind.i64 (x0 * 16777216) (x1 * 65536)) (x2 * 256)) x3 = (n : Int) := by
  have a1 : bits .or .i64 (x0 * 16777216) (x1 * 65536) = x0 * 16777216 + x1 * 65536 := by rw [or_low24 _ _ (by omega) (by omega) (by omega)]; unfold wrap64; omega
  have a2 : bits .or .i64 (x0 * 16777216 + x1 * 65536) (x2 * 256) = x0 * 16777216 + x1 * 65536 + x2 * 256 := by rw [or_low16 _ _ (by omega) (by omega) (by omega)]; unfold wrap64; omega
  have a3 : bits .or .i64 (x0 * 16777216 + x1 * 65536 + x2 * 256) x3 = x0 * 16777216 + x1 * 65536 + x2 * 256 + x3 := by rw [or_low _ _ (by omega) (by omega) (by omega)]; unfold wrap64; omega
  rw [a1, a2, a3]
  exact hsum.out
 rw [hor]
 have hf2 : Fr (fun _ => False) w1 (w1.drewN nq) := (Fr.refl _ _).drewN nq
 have hR := h1.keep hf2
 have hfT := hf1.then_ hf2
 have hm' : ¬ most < (n : Int) := by omega
 generalize w1.drewN nq = w2 at *
 go_wp2
 go_ret
 exact ⟨rfl, hR, hfT⟩
set_option maxRecDepth 100000 in
theorem refr_Num {w : World} {g b o cap : Nat} {bs : List Int} {pos : Nat} (h : RR w g b o cap bs pos) (hl : bs.length ≤ 1099511627776) (h8 : pos + 8 ≤ bs.length) :
  Calls Tryz.prog 54 #[.pointer (some ⟨g, 0, none⟩)] w (RGot w g b o cap bs (.int .i64 (numX bs pos)) (pos + 8)) := by
 have c1 := h.blk.cell 1
 have HN := Lib.hid (fun s a => refr_num h hl h8 s a)
 clear h
 go_enter Tryz.func54, Tryz.ntmps54
 go_wp2_with (go_at_call 89; refine (HN.out _ _).mono ?_; rintro e w1 ⟨rfl, h1, hf1⟩)
 go_ret
 exact ⟨rfl, h1, hf1⟩
set_option maxRecDepth 100000 in
theorem refr_Int {w : World} {g b o cap : Nat} {bs : List Int} {pos : Nat} (h : RR w g b o cap bs pos) (hl : bs.length ≤ 1099511627776) (h8 : pos + 8 ≤ bs.length) {n most : Int} (hn : numX bs pos = n) (h0 : 0 ≤ n) (hm : n ≤ most) :
  Calls Tryz.prog 56 #[.pointer (some ⟨g, 0, none⟩), .int .i64 most] w (RGot w g b o cap bs (.int .i64 n) (pos + 8)) := by
 have c1 := h.blk.cell 1
 have HN := fun s a => refr_num h hl h8 s a
 rw [hn] at HN
 have HN := Lib.hid HN
 have h0' : ¬ n < 0 := by omega
 have hm' : ¬ most < n := by omega
 clear h
 go_enter Tryz.func56, Tryz.ntmps56
 go_wp2_with (go_at_call 89; refine (HN.out _ _).mono ?_; rintro e w1 ⟨rfl, h1, hf1⟩; have d2 := h1.blk.cell 2)
 go_ret
 exact ⟨rfl, h1, hf1⟩
/-- A text read. -/
def RText (w : World) (g b o cap : Nat) (bs s : List Int) (p : Nat) (e : Ending) (w' : World) : Prop :=
 ∃ v, e = .returned v ∧ Own8 w' w.heap.size v s ∧ RR w' g b o cap bs p ∧ Fr (fun k => k = g) w w'
set_option maxRecDepth 100000 in
theorem refr_text {w : World} {g b o cap : Nat} {bs : List Int} {pos : Nat} (h : RR w g b o cap bs pos) (hl : bs.length ≤ 1099511627776) {xs t : List Int} (hd : bs.drop pos = textB xs ++ t) (hx : xs.length ≤ 65536) (s : ByteArray) (at_ : Int) :
  Calls Tryz.prog 90 #[.pointer (some ⟨g, 0, none⟩), .string s, .int .i64 at_] w (RText w g b o cap bs xs (pos + 4 + xs.length)) := by
 rw [textB, List.append_assoc] at hd
 have hd2 : bs.drop (pos + 4) = xs ++ t := by have := drop_add hd; rw [count4_length] at this; exact this
 have hlen := drop_len hd2
 have hlen1 := drop_len hd
 rw [count4_length] at hlen1
 have hle := h.le
 have HL := Lib.hid (refr_length h hl hd (most := 65536) (by omega) (by omega) s at_)
 have htk : ((bs.drop (pos + 4)).take xs.length) = xs := by rw [hd2, List.take_left' rfl]
 have HK := Lib.hid htk
 have hle2 : pos + 4 + xs.length ≤ bs.length := by omega
 clear h hd hd2 htk
 go_enter Tryz.func90, Tryz.ntmps90
 go_upto_region 2 with (go_at_call 92; refine HL.out.mono ?_; rintro e w1 ⟨rfl, h1, hf1⟩)
 have HB := Lib.hid (refr_bytes h1 hl xs.length hle2 s at_)
 go_wp2_with (go_at_call 122; refine HB.out.mono ?_; rintro e w2 ⟨v2, rfl, hv2, h2, hf2⟩)
 go_ret
 rw [HK.out] at hv2
 exact ⟨v2, rfl, hv2.base_ hf1.size, h2, hf1.trans hf2 (fun _ _ h => h)⟩
set_option maxRecDepth 100000 in
theorem refr_Text {w : World} {g b o cap : Nat} {bs : List Int} {pos : Nat} (h : RR w g b o cap bs pos) (hl : bs.length ≤ 1099511627776) {xs t : List Int} (hd : bs.drop pos = textB xs ++ t) (hx : xs.length ≤ 65536) :
  Calls Tryz.prog 55 #[.pointer (some ⟨g, 0, none⟩)] w (RText w g b o cap bs xs (pos + 4 + xs.length)) := by
 have c1 := h.blk.cell 1
 have HT := Lib.hid (fun s a => refr_text h hl hd hx s a)
 clear h hd
 go_enter Tryz.func55, Tryz.ntmps55
 go_wp2_with (go_at_call 90; refine (HT.out _ _).mono ?_; rintro e w1 ⟨v1, rfl, hv1, h1, hf1⟩)
 go_ret
 exact ⟨v1, rfl, hv1, h1, hf1⟩
set_option maxRecDepth 100000 in
theorem refr_End {w : World} {g b o cap : Nat} {bs : List Int} (h : RR w g b o cap bs bs.length) :
  Calls Tryz.prog 58 #[.pointer (some ⟨g, 0, none⟩)] w (fun e w' => e = .returned (.tuple #[.int .i64 0, .agg #[.string ⟨#[]⟩, .int .i64 0]]) ∧ Fr (fun _ => False) w w') := by
 have hf0 : Fr (fun _ => False) w (w.alloc (Obj.cells #[.string ⟨#[]⟩, .int .i64 0] 70)) := (Fr.refl _ _).alloc _
 have h1 := h.keep hf0
 have c0 := h1.blk.cell 0
 have c1 := h1.blk.cell 1
 have c2 := h1.blk.cell 2
 have hS0 := Blk.new w 70 #[.string ⟨#[]⟩, .int .i64 0]
 go_enter Tryz.func58, Tryz.ntmps58
 go_wp2_with fail
 go_quiet (fail)
 have hS1 : Blk ((w.alloc (Obj.cells #[.string ⟨#[]⟩, .int .i64 0] 70)).drewN nq) w.heap.size 70 #[.string ⟨#[]⟩, .int .i64 0] := hS0.drewN nq
 have hf1 : Fr (fun _ => False) w ((w.alloc (Obj.cells #[.string ⟨#[]⟩, .int .i64 0] 70)).drewN nq) := hf0.drewN nq
 generalize (w.alloc (Obj.cells #[.string ⟨#[]⟩, .int .i64 0] 70)).drewN nq = w1 at *
 have y0 := hS1.cell 0
 have y1 := hS1.cell 1
 have z0 := hS1.frozen 0
 have z1 := hS1.frozen 1
 go_wp2
 have hS2 := (hS1.set_ 0 (.string ⟨#[]⟩)).set_ 1 (.int .i64 0)
 have d0 := hS2.cell 0
 have d1 := hS2.cell 1
 refine bodyPost_ret (v := .tuple #[.int .i64 0, .agg #[.string ⟨#[]⟩, .int .i64 0]]) (by simp [results, Tryz.results58, go_sem, d0, d1]) rfl ?_
 exact ⟨rfl, Fr.setCell (p := ⟨w.heap.size, 1, none⟩) (Fr.setCell (p := ⟨w.heap.size, 0, none⟩) hf1 (fun h => absurd h (Nat.lt_irrefl _)) _) (fun h => absurd h (Nat.lt_irrefl _)) _⟩
theorem drop_flat {bs t : List Int} {l : List Int} : ∀ {p k : Nat}, bs.drop p = l.flatMap num8 ++ t → k ≤ l.length → bs.drop (p + 8 * k) = (l.drop k).flatMap num8 ++ t := by
 intro p k h hk
 have e : l.flatMap num8 = (l.take k).flatMap num8 ++ (l.drop k).flatMap num8 := by rw [← List.flatMap_append, List.take_append_drop]
 rw [e, List.append_assoc] at h
 have := drop_add h
 rw [flat_num8, List.length_take, Nat.min_eq_left hk] at this
 exact this
/-- A row of numbers read. -/
def RNums (w : World) (g b o cap : Nat) (bs l : List Int) (p : Nat) (e : Ending) (w' : World) : Prop :=
 ∃ v, e = .returned v ∧ w'.ownsRow w.heap.size 2 1 v l.length (num64V l) ∧ RR w' g b o cap bs p ∧ Fr (fun k => k = g) w w'
set_option maxRecDepth 100000 in
set_option maxHeartbeats 1000000 in
theorem refr_Nums {w : World} {g b o cap : Nat} {bs : List Int} {pos : Nat} (h : RR w g b o cap bs pos) (hl : bs.length ≤ 1099511627776) {l t : List Int} (hd : bs.drop pos = numsB l ++ t) (hx : l.length ≤ 1024) (hw : ∀ y ∈ l, -9223372036854775808 ≤ y ∧ y ≤ 9223372036854775807) :
  Calls Tryz.prog 57 #[.pointer (some ⟨g, 0, none⟩)] w (RNums w g b o cap bs l (pos + 4 + 8 * l.length)) := by
 have c1 := h.blk.cell 1
 rw [numsB, List.append_assoc] at hd
 have hd2 : bs.drop (pos + 4) = l.flatMap num8 ++ t := by have := drop_add hd; rw [count4_length] at this; exact this
 have hlen := drop_len hd2
 rw [flat_num8] at hlen
 have hlen1 := drop_len hd
 rw [count4_length, List.length_append, flat_num8] at hlen1
 have hle := h.le
 have HL := Lib.hid (fun s a => refr_length h hl hd (most := 1024) (by omega) (by omega) s a)
 have HD := Lib.hid hd2
 have HW := Lib.hid hw
 have hle2 : pos + 4 + 8 * l.length ≤ bs.length := by omega
 have HLE := Lib.hid hle2
 have hgs : g < w.heap.size := h.blk.lt
 clear h hd hd2 hw hlen hlen1 hle hle2
 go_enter Tryz.func57, Tryz.ntmps57
 go_upto_region 5 with (go_at_call 92; refine (HL.out _ _).mono ?_; rintro e w1 ⟨rfl, h1, hf1⟩)
 go_loopw [5, 6] (fun lv i wr => ∃ k : Nat, k ≤ l.length ∧ i = .int .i64 k ∧ wr.ownsRow w1.heap.size 2 1 lv k (num64V (l.take k)) ∧ RR wr g b o cap bs (pos + 4 + 8 * k) ∧ Fr (fun k => k = g) w1 wr) (fun _ i _ => l.length - (intOf i).toNat)
 case atStart => exact ⟨0, by omega, rfl, World.ownsRow_nil _ _ _ _, h1, Fr.refl _ _⟩
 case round =>
  obtain ⟨k, hk, rfl, hown, hR, hf⟩ := hrel
  have d2 := hR.blk.cell 2
  by_cases hlt : k < l.length
  ·obtain ⟨x, hxx⟩ : ∃ x, l[k]? = some x := ⟨l[k], List.getElem?_eq_getElem hlt⟩
   have hdk := drop_flat HD.out hk
   have hlk : l.drop k = x :: l.drop (k + 1) := by
    obtain ⟨h1, h2⟩ := List.getElem?_eq_some_iff.1 hxx
    rw [List.drop_eq_getElem_cons h1, h2]
   rw [hlk, List.flatMap_cons, List.append_assoc] at hdk
   have hwx := HW.out x (List.mem_of_getElem? hxx)
   obtain ⟨_, hnx, _⟩ := num_read hdk hwx.1 hwx.2
   have HN := fun s a => refr_num hR hl (by have := HLE.out; omega) s a
   rw [hnx] at HN
   have HN := Lib.hid HN
   have HX := Lib.hid hxx
   have hgb := own_ge hown
   clear hdk hlk hxx hnx hwx
   go_wp2_with (first
    | (go_at_call 89; refine (HN.out _ _).mono ?_; rintro e w2 ⟨rfl, h2, hf2⟩; have hown2 := own_fr hown hf2 (fun q hq e => own_ne_blk hown hR.blk (by decide) (e ▸ hq)); have hz2 : w1.heap.size ≤ w2.heap.size := (hf.trans hf2 (fun _ _ h => h)).size)
    | (at_builtin; refine wpList_append1 _ rfl _ _ _ rfl w1.heap.size 2 (.int .i64 0) 8 Tryz.underlying132 int64_info rfl u5 k (num64V (l.take k)) rfl (own_fr hown2 ((Fr.refl (fun _ => False) w2).alloc _) (fun _ _ => id)) w2.heap.size (.int .i64 x) rfl ?_ rfl (by omega) (by omega) ?_ ?_; (· simp); (· simp; omega); intro g3 c3 w3 hown3 hf3))
   have hfa : Fr (fun _ => False) w2 (w2.alloc (Obj.cells #[.int .i64 x] 2)) := (Fr.refl _ _).alloc _
   have hown2a := own_fr hown2 hfa (fun _ _ => id)
   have h3 := (h2.keep hfa).fr hf3 (own_ne_blk hown2a (h2.keep hfa).blk (by decide)) (fun q hq e => hq.ne_own hown2a (by decide) e)
   have hf13 : Fr (fun k => k = g) w1 w3 := ((hf.trans hf2 (fun _ _ h => h)).then_ hfa).trans hf3 (fun q hq e => by have := hgb q e; omega)
   go_roundw
   case rel =>
    have e1 : num64V (l.take (k + 1)) = num64V (l.take k) ++ [.int .i64 x] := by
     obtain ⟨h1, h2⟩ := List.getElem?_eq_some_iff.1 HX.out
     rw [List.take_succ_eq_append_getElem h1, h2, num64V, num64V, List.map_append]
     rfl
    exact ⟨k + 1, by omega, by go_num, by rw [e1]; exact hown3, by rw [show pos + 4 + 8 * (k + 1) = pos + 4 + 8 * k + 8 by omega]; exact h3, hf13⟩
   case measure => simp [intOf]; omega
  ·obtain rfl : k = l.length := by omega
   rw [List.take_length] at hown
   go_wp2
   go_ret
   exact ⟨_, rfl, own_base hown hf1.size, hR, hf1.trans hf (fun _ _ h => h)⟩
set_option maxRecDepth 100000 in
theorem refr_New {w : World} {F : Nat → Prop} {A : Option Addr} {cap : Nat} {bs : List Int} (hr : ByteRow w F A bs) (h0 : 0 < bs.length) (hl : bs.length ≤ 1099511627776) :
  Calls Tryz.prog 53 #[.slice A bs.length cap] w (fun e w' => ∃ g b o c, e = .returned (.pointer (some ⟨g, 0, none⟩)) ∧ w.heap.size ≤ g ∧ RR w' g b o c bs 0 ∧ Fr (fun _ => False) w w') := by
 have hf1 : Fr (fun _ => False) w (w.alloc (Obj.cells #[] 5)) := (Fr.refl _ _).alloc _
 have ho : Own8 (w.alloc (Obj.cells #[] 5)) w.heap.size (.slice (some ⟨w.heap.size, 0, none⟩) 0 0) [] := Own8.built w (Nat.le_refl _) [] (by simp) 0 rfl
 have hr1 := hr.fr hf1 (fun _ _ => id)
 go_enter Tryz.func53, Tryz.ntmps53
 go_wp2_with (at_builtin; refine wpList_append_text rfl (.tmp 3) (.tmp 4) rfl w.heap.size _ [] rfl ho F A bs.length cap bs rfl rfl hr1 (by simp; omega) (by simp) ?_; intro v2 w2 h2 hf2 hk2; obtain ⟨A2, c2, rfl, hc2, hr2⟩ := Own8.u8row h2)
 have hgR := fun (o : Obj) => (Fr.refl (fun _ => False) w2).alloc o
 have hf12 : Fr (fun _ => False) w w2 := hf1.trans hf2 (fun q hq e => by have := own_ge ho q e; omega)
 go_ret
 obtain ⟨b2, o2, rfl, _, _⟩ := hr2 0 bs[0] (List.getElem?_eq_getElem h0)
 exact ⟨w2.heap.size, b2, o2, c2, rfl, hf12.size, ⟨Blk.new _ _ _, hr2.u8 (hgR _) (fun _ _ => id), hc2, Nat.zero_le _⟩, hf12.then_ (hgR _)⟩
end Go.Proofs.YtmkdhhhoodeemaaGreat

/- The document's Reader, by what is left of the bytes. -/
namespace Go.Proofs.YtmkdhhhoodeemaaGreat
open Go Go.RowKit
/-- The document's reader at g, without an error, has s left. -/
def RS (w : World) (g : Nat) (s : List Int) : Prop := ∃ b o cap bs pos, RR w g b o cap bs pos ∧ bs.drop pos = s ∧ bs.length ≤ 1099511627776
theorem RS.fr {S : Nat → Prop} {w w' : World} {g : Nat} {s : List Int} (h : RS w g s) (hf : Fr S w w') (hg : ¬ S g) (h8 : ∀ k, U8 w k → ¬ S k) : RS w' g s := by
 obtain ⟨b, o, cap, bs, pos, h1, h2, h3⟩ := h
 exact ⟨b, o, cap, bs, pos, h1.fr hf hg h8, h2, h3⟩
theorem RS.keep {w w' : World} {g : Nat} {s : List Int} (h : RS w g s) (hf : Fr (fun _ => False) w w') : RS w' g s := h.fr hf id (fun _ _ => id)
theorem RS.blk {w : World} {g : Nat} {s : List Int} (h : RS w g s) : ∃ cs, Blk w g 131 cs := by
 obtain ⟨b, o, cap, bs, pos, h1, h2, h3⟩ := h
 exact ⟨_, h1.blk⟩
theorem RS.lt {w : World} {g : Nat} {s : List Int} (h : RS w g s) : g < w.heap.size := by
 obtain ⟨cs, hB⟩ := h.blk
 exact hB.lt
theorem RS.e {w : World} {g : Nat} {s : List Int} (h : RS w g s) : w.cell? ⟨g, 2, none⟩ = some (.int .i64 0) := by
 obtain ⟨b, o, cap, bs, pos, h1, h2, h3⟩ := h
 exact h1.blk.cell 2
theorem RS.ne {w : World} {g x : Nat} {s : List Int} {t : TypeId} {cs : Array Value} (h : RS w g s) (hB : Blk w x t cs) (ht : 131 ≠ t) : ¬ x = g := by
 obtain ⟨ds, hD⟩ := h.blk
 exact fun e => hD.ne_ hB ht e.symm
theorem RS.far {w : World} {g : Nat} {s : List Int} (h : RS w g s) {x : Nat} {t : TypeId} {cs : Array Value} (hB : Blk w x t cs) (ht : 5 ≠ t) (hr : 131 ≠ t) (i : Nat) (u : Value) : RS (w.setCell ⟨x, i, none⟩ u) g s :=
 h.fr ((Fr.refl (fun k => k = x) w).setCell (p := ⟨x, i, none⟩) (fun _ => rfl) u) (fun e => h.ne hB hr e.symm) (fun k hk e => hk.ne_blk hB ht e)
theorem RS.own {w w' : World} {g base n size : Nat} {s : List Int} {e : TypeId} {v : Value} {xs : List Value} (h : RS w g s) (ho : w.ownsRow base e size v n xs) (h8 : e ≠ 5) (hr : e ≠ 131) (hf : Fr (fun k => v.ownBlock = some k) w w') : RS w' g s := by
 obtain ⟨ds, hD⟩ := h.blk
 exact h.fr hf (own_ne_blk ho hD hr) (fun k hk => hk.ne_own ho h8)
/-- A number read. -/
def RSNum (w : World) (g : Nat) (x : Int) (s : List Int) (e : Ending) (w' : World) : Prop := e = .returned (.int .i64 x) ∧ RS w' g s ∧ Fr (fun k => k = g) w w'
/-- A text read. -/
def RSText (w : World) (g : Nat) (xs s : List Int) (e : Ending) (w' : World) : Prop := ∃ v, e = .returned v ∧ Own8 w' w.heap.size v xs ∧ RS w' g s ∧ Fr (fun k => k = g) w w'
/-- Numbers read. -/
def RSNums (w : World) (g : Nat) (l s : List Int) (e : Ending) (w' : World) : Prop := ∃ v, e = .returned v ∧ w'.ownsRow w.heap.size 2 1 v l.length (num64V l) ∧ RS w' g s ∧ Fr (fun k => k = g) w w'
theorem rs_New {w : World} {F : Nat → Prop} {A : Option Addr} {cap : Nat} {bs : List Int} (hr : ByteRow w F A bs) (h0 : 0 < bs.length) (hl : bs.length ≤ 1099511627776) :
  Calls Tryz.prog 53 #[.slice A bs.length cap] w (fun e w' => ∃ g, e = .returned (.pointer (some ⟨g, 0, none⟩)) ∧ w.heap.size ≤ g ∧ RS w' g bs ∧ Fr (fun _ => False) w w') := by
 refine (refr_New hr h0 hl).mono ?_
 rintro e w' ⟨g, b, o, c, he, hg, hR, hf⟩
 exact ⟨g, he, hg, ⟨b, o, c, bs, 0, hR, rfl, hl⟩, hf⟩
theorem rs_Num {w : World} {g : Nat} {x : Int} {s : List Int} (h : RS w g (num8 x ++ s)) (h0 : -9223372036854775808 ≤ x) (h1 : x ≤ 9223372036854775807) :
  Calls Tryz.prog 54 #[.pointer (some ⟨g, 0, none⟩)] w (RSNum w g x s) := by
 obtain ⟨b, o, cap, bs, pos, hR, hd, hl⟩ := h
 obtain ⟨_, hn, ht⟩ := num_read hd h0 h1
 have hlen := drop_len hd
 have hle := hR.le
 rw [num8_length] at hlen
 refine (refr_Num hR hl (by omega)).mono ?_
 rintro e w' ⟨he, h2, hf⟩
 exact ⟨by rw [he, hn], ⟨b, o, cap, bs, pos + 8, h2, ht, hl⟩, hf⟩
theorem rs_Int {w : World} {g : Nat} {x most : Int} {s : List Int} (h : RS w g (num8 x ++ s)) (h0 : 0 ≤ x) (hm : x ≤ most) (h1 : x ≤ 9223372036854775807) :
  Calls Tryz.prog 56 #[.pointer (some ⟨g, 0, none⟩), .int .i64 most] w (RSNum w g x s) := by
 obtain ⟨b, o, cap, bs, pos, hR, hd, hl⟩ := h
 obtain ⟨_, hn, ht⟩ := num_read hd (by omega) h1
 have hlen := drop_len hd
 have hle := hR.le
 rw [num8_length] at hlen
 refine (refr_Int hR hl (by omega) hn h0 hm).mono ?_
 rintro e w' ⟨he, h2, hf⟩
 exact ⟨he, ⟨b, o, cap, bs, pos + 8, h2, ht, hl⟩, hf⟩
theorem rs_Text {w : World} {g : Nat} {xs s : List Int} (h : RS w g (textB xs ++ s)) (hx : xs.length ≤ 65536) :
  Calls Tryz.prog 55 #[.pointer (some ⟨g, 0, none⟩)] w (RSText w g xs s) := by
 obtain ⟨b, o, cap, bs, pos, hR, hd, hl⟩ := h
 obtain ⟨_, _, hn, ht⟩ := text_read hd hx
 rw [hn] at ht
 refine (refr_Text hR hl hd hx).mono ?_
 rintro e w' ⟨v, he, hv, h2, hf⟩
 exact ⟨v, he, hv, ⟨b, o, cap, bs, _, h2, ht, hl⟩, hf⟩
theorem rs_Nums {w : World} {g : Nat} {l s : List Int} (h : RS w g (numsB l ++ s)) (hx : l.length ≤ 1024) (hw : ∀ y ∈ l, -9223372036854775808 ≤ y ∧ y ≤ 9223372036854775807) :
  Calls Tryz.prog 57 #[.pointer (some ⟨g, 0, none⟩)] w (RSNums w g l s) := by
 obtain ⟨b, o, cap, bs, pos, hR, hd, hl⟩ := h
 have ht : bs.drop (pos + 4 + 8 * l.length) = s := by
  rw [numsB, List.append_assoc] at hd
  have h1 := drop_add hd
  rw [count4_length] at h1
  have h2 := drop_add h1
  rw [flat_num8] at h2
  exact h2
 refine (refr_Nums hR hl hd hx hw).mono ?_
 rintro e w' ⟨v, he, hv, h2, hf⟩
 exact ⟨v, he, hv, ⟨b, o, cap, bs, _, h2, ht, hl⟩, hf⟩
theorem rs_End {w : World} {g : Nat} (h : RS w g []) :
  Calls Tryz.prog 58 #[.pointer (some ⟨g, 0, none⟩)] w (fun e w' => e = .returned (.tuple #[.int .i64 0, .agg #[.string ⟨#[]⟩, .int .i64 0]]) ∧ Fr (fun _ => False) w w') := by
 obtain ⟨b, o, cap, bs, pos, hR, hd, hl⟩ := h
 have hp : pos = bs.length := by
  have h1 : bs.length - pos = 0 := by have := congrArg List.length hd; simpa using this
  have h2 := hR.le
  omega
 subst hp
 exact refr_End hR
end Go.Proofs.YtmkdhhhoodeemaaGreat

/- cohortref10: Get of a transaction's bytes. -/
namespace Go.Proofs.YtmkdhhhoodeemaaGreat
open Go Go.RowKit
theorem read_info : (Tryz.prog.info? 143).map (fun i => (i.zero, i.size, i.bytes)) = some (some (.agg #[.string ⟨#[]⟩, .int .i64 0]), 2, 24) := by kernel_rfl
theorem write_info : (Tryz.prog.info? 84).map (fun i => (i.zero, i.size, i.bytes)) = some (some (.agg #[.string ⟨#[]⟩, .string ⟨#[]⟩]), 2, 32) := by kernel_rfl
def readsV (R : List (ByteArray × Int)) : List Value := R.flatMap fun x => [.string x.1, .int .i64 x.2]
def writesV (W : List (ByteArray × ByteArray)) : List Value := W.flatMap fun x => [.string x.1, .string x.2]
theorem pairs_at {α : Type} {f g : α → Value} : ∀ {l : List α} {k : Nat} {x : α}, l[k]? = some x → (l.flatMap fun x => [f x, g x])[k * 2]? = some (f x) ∧ (l.flatMap fun x => [f x, g x])[k * 2 + 1]? = some (g x)
 | [], k, x, h => by simp at h
 | y :: l, 0, x, h => by simp at h; subst h; exact ⟨rfl, rfl⟩
 | y :: l, k + 1, x, h => by
  have h' : l[k]? = some x := by simpa using h
  obtain ⟨h1, h2⟩ := pairs_at (f := f) (g := g) h'
  rw [List.flatMap_cons]
  refine ⟨?_, ?_⟩
  ·rw [show (k + 1) * 2 = k * 2 + 2 by omega]; simpa using h1
  ·rw [show (k + 1) * 2 + 1 = (k * 2 + 1) + 2 by omega]; simpa using h2
theorem own_reads {w : World} {base : Nat} {v : Value} {R : List (ByteArray × Int)} (h : w.ownsRow base 143 2 v R.length (readsV R)) : ∃ A c, v = .slice A R.length c ∧ ReadRow w (fun k => base ≤ k) A R := by
 obtain ⟨A, c, rfl, _, hat⟩ := own_form h
 refine ⟨A, c, rfl, fun k x hx => ?_⟩
 obtain ⟨h1, h2⟩ := pairs_at (f := fun x => .string x.1) (g := fun x => .int .i64 x.2) hx
 obtain ⟨b, rfl, hb, c1⟩ := hat _ _ h1
 obtain ⟨b', he, _, c2⟩ := hat _ _ h2
 cases he
 exact ⟨b, 0, rfl, hb, by rw [Nat.zero_add]; exact c1, by rw [Nat.zero_add]; exact c2⟩
theorem own_writes {w : World} {base : Nat} {v : Value} {W : List (ByteArray × ByteArray)} (h : w.ownsRow base 84 2 v W.length (writesV W)) : ∃ A c, v = .slice A W.length c ∧ WriteRow w (fun k => base ≤ k) A W := by
 obtain ⟨A, c, rfl, _, hat⟩ := own_form h
 refine ⟨A, c, rfl, fun k x hx => ?_⟩
 obtain ⟨h1, h2⟩ := pairs_at (f := fun x => .string x.1) (g := fun x => .string x.2) hx
 obtain ⟨b, rfl, hb, c1⟩ := hat _ _ h1
 obtain ⟨b', he, _, c2⟩ := hat _ _ h2
 cases he
 exact ⟨b, 0, rfl, hb, by rw [Nat.zero_add]; exact c1, by rw [Nat.zero_add]; exact c2⟩
theorem ReadRow.mono_ {w : World} {F F' : Nat → Prop} {A : Option Addr} {l : List (ByteArray × Int)} (h : ReadRow w F A l) (hF : ∀ k, F k → F' k) : ReadRow w F' A l := fun k x hx => by
 obtain ⟨b, o, e, h1, h2⟩ := h k x hx
 exact ⟨b, o, e, hF _ h1, h2⟩
theorem WriteRow.mono_ {w : World} {F F' : Nat → Prop} {A : Option Addr} {l : List (ByteArray × ByteArray)} (h : WriteRow w F A l) (hF : ∀ k, F k → F' k) : WriteRow w F' A l := fun k x hx => by
 obtain ⟨b, o, e, h1, h2⟩ := h k x hx
 exact ⟨b, o, e, hF _ h1, h2⟩
/-- A transaction read. -/
def TxnGot (w : World) (c n : Int) (R : List (ByteArray × Int)) (W : List (ByteArray × ByteArray)) (e : Ending) (w' : World) : Prop :=
 ∃ A cr B cw, e = .returned (.tuple #[.agg #[.int .i64 c, .int .i64 n, .slice A R.length cr, .slice B W.length cw], .int .i64 0, .slice none 0 0]) ∧ ReadRow w' (fun k => w.heap.size ≤ k) A R ∧ WriteRow w' (fun k => w.heap.size ≤ k) B W ∧ Fr (fun _ => False) w w'
theorem drop_mem {α : Type} {l : List α} {k : Nat} {x : α} (h : l[k]? = some x) : l.drop k = x :: l.drop (k + 1) := by
 obtain ⟨h1, h2⟩ := List.getElem?_eq_some_iff.1 h
 rw [List.drop_eq_getElem_cons h1, h2]
theorem read_vers {R : List (ByteArray × Int)} (h : rises readOk R = true) : ∀ x ∈ R, 0 ≤ x.2 ∧ x.2 ≤ 1099511627776 := fun x hx => by
 have := (rises_at h x hx).2
 unfold readOk at this
 simpa using this
set_option maxRecDepth 100000 in
set_option maxHeartbeats 4000000 in
theorem ref10_Get {w : World} {F : Nat → Prop} {A : Option Addr} {cap : Nat} {c n : Int} {R : List (ByteArray × Int)} {W : List (ByteArray × ByteArray)} (hr : ByteRow w F A (txnB c n R W)) (h : TOk c n R W) :
  Calls Tryz.prog 49 #[.slice A (txnB c n R W).length cap] w (TxnGot w c n R W) := by
 obtain ⟨bs, hbs⟩ : ∃ bs, Hid (txnB c n R W = bs) := ⟨_, rfl⟩
 have hl : bs.length ≤ 65536 := by rw [← hbs.out]; exact txnB_len h
 have h0 : 0 < bs.length := by rw [← hbs.out]; simp [txnB, num8_length]; omega
 have hbs2 : Hid (bs = num8 c ++ (num8 n ++ (num8 (R.length : Int) ++ (R.flatMap readB ++ (num8 (W.length : Int) ++ (W.flatMap writeB ++ [])))))) := by show _ = _; rw [← hbs.out, txnB]; simp only [List.append_assoc, List.append_nil]
 have hR1 := Lib.hid (read_sizes h.2.2.2.2.2.1)
 have hR2 := Lib.hid (read_vers h.2.2.2.2.2.1)
 have hW1 := Lib.hid (write_sizes h.2.2.2.2.2.2)
 have lR := rises_len h.2.2.2.2.2.1
 have lW := rises_len h.2.2.2.2.2.2
 have hc0 := h.1
 have hc1 := h.2.1
 have hn0 := h.2.2.1
 have hn1 := h.2.2.2.1
 have HT : Hid (decide (TOk c n R W) = true) := by show _ = _; simpa using h
 obtain ⟨wl, hwl⟩ : ∃ x, Hid (W.flatMap writeB = x) := ⟨_, rfl⟩
 rw [hbs.out] at hr ⊢
 clear h hbs
 have hf0 : Fr (fun _ => False) w (w.alloc (Obj.cells #[.int .i64 0, .int .i64 0, .slice none 0 0, .slice none 0 0] 29)) := (Fr.refl _ _).alloc _
 have hA0 := Blk.new w 29 #[.int .i64 0, .int .i64 0, .slice none 0 0, .slice none 0 0]
 have HNew := Lib.hid (rs_New (cap := cap) (hr.fr hf0 (fun _ _ => id)) h0 (by omega))
 go_enter Tryz.func49, Tryz.ntmps49
 go_upto_region 2 with (go_at_call 53; refine HNew.out.mono ?_; rintro e w1 ⟨g, rfl, hg, hS1, hf1⟩)
 generalize w.alloc (Obj.cells #[.int .i64 0, .int .i64 0, .slice none 0 0, .slice none 0 0] 29) = w0 at *
 have hA1 := hA0.fr hf1 id
 have hf01 := hf0.then_ hf1
 have hA2 := hA1.alloc (Obj.cells #[.int .i64 0, .int .i64 0, .slice none 0 0, .slice none 0 0] 29)
 have hT2 := Blk.new w1 29 #[.int .i64 0, .int .i64 0, .slice none 0 0, .slice none 0 0]
 have hf02 := hf01.alloc (Obj.cells #[.int .i64 0, .int .i64 0, .slice none 0 0, .slice none 0 0] 29)
 have hS2 := hS1.keep ((Fr.refl (fun _ => False) w1).alloc (Obj.cells #[.int .i64 0, .int .i64 0, .slice none 0 0, .slice none 0 0] 29))
 have hag : w.heap.size < w1.heap.size := hA1.lt
 go_upto_region 3 with fail
 have hwg : w.heap.size < g := Nat.lt_of_lt_of_le hA0.lt hg
 generalize w1.alloc (Obj.cells #[.int .i64 0, .int .i64 0, .slice none 0 0, .slice none 0 0] 29) = w2 at *
 obtain ⟨gt, hgt⟩ : ∃ cc, Hid (w1.heap.size = cc) := ⟨_, rfl⟩
 rw [hgt.out] at hT2 hag ⊢
 clear hA0 hA1 hf0 hf1 hf01 HNew hg hS1 hr
 rw [hbs2.out] at hS2
 have H := Lib.hid (rs_Num hS2 (by omega) (by omega))
 go_upto_region 4 with (go_at_call 54; refine H.out.mono ?_; rintro e w3 ⟨rfl, hS3, hf3⟩)
 have hT3 := hT2.fr hf3 (hS2.ne hT2 (by decide))
 have hA3 := hA2.fr hf3 (hS2.ne hA2 (by decide))
 have hf03 : Fr (fun _ => False) w w3 := hf02.trans hf3 (fun k hk e => by omega)
 clear H hS2 hT2 hA2 hf02 hf3 hbs2 hl h0
 have H := Lib.hid (rs_Num hS3 (by omega) (by omega))
 go_upto_region 5 with (go_at_call 54; refine H.out.mono ?_; rintro e w4 ⟨rfl, hS4, hf4⟩; have hT4 := hT3.fr hf4 (hS3.ne hT3 (by decide)); have y1 := hT4.cell 1; have z1 := hT4.frozen 1)
 have hA4 := hA3.fr hf4 (hS3.ne hA3 (by decide))
 have hf04 : Fr (fun _ => False) w w4 := hf03.trans hf4 (fun k hk e => by omega)
 have hS5 := hS4.far hT4 (by decide) (by decide) 1 (.int .i64 n)
 have hT5 : Blk (w4.setCell ⟨gt, 1, none⟩ (.int .i64 n)) gt 29 #[.int .i64 0, .int .i64 n, .slice none 0 0, .slice none 0 0] := hT4.set_ 1 _
 have hA5 := hA4.far (p := ⟨gt, 1, none⟩) (fun e => by dsimp only at e; omega) (.int .i64 n)
 have hf05 : Fr (fun _ => False) w (w4.setCell ⟨gt, 1, none⟩ (.int .i64 n)) := hf04.setCell (p := ⟨gt, 1, none⟩) (fun h => absurd h (by dsimp only; omega)) _
 generalize w4.setCell ⟨gt, 1, none⟩ (.int .i64 n) = w5 at *
 clear H hS3 hT3 hA3 hf03 hf4 hS4 hT4 hA4 hf04 y1 z1
 have H := Lib.hid (rs_Int (most := 8) hS5 (by omega) (by omega) (by omega))
 go_upto_region 6 with (go_at_call 56; refine H.out.mono ?_; rintro e w6 ⟨rfl, hS6, hf6⟩)
 have hT6 := hT5.fr hf6 (hS5.ne hT5 (by decide))
 have hA6 := hA5.fr hf6 (hS5.ne hA5 (by decide))
 have hf06 : Fr (fun _ => False) w w6 := hf05.trans hf6 (fun k hk e => by omega)
 clear H hS5 hT5 hA5 hf05 hf6
 go_upto_region 7 with fail
 have hir := read_info
 have hiw := write_info
 go_loopw [9] (fun i wr => ∃ (k : Nat) (lv : Value), k ≤ R.length ∧ i = .int .i64 k ∧ wr.ownsRow (w.heap.size + 1) 143 2 lv k (readsV (R.take k)) ∧ Blk wr gt 29 #[.int .i64 0, .int .i64 n, lv, .slice none 0 0] ∧ RS wr g ((R.drop k).flatMap readB ++ (num8 (W.length : Int) ++ (W.flatMap writeB ++ []))) ∧ Blk wr w.heap.size 29 #[.int .i64 0, .int .i64 0, .slice none 0 0, .slice none 0 0] ∧ Fr (fun _ => False) w wr) (fun i _ => R.length - (intOf i).toNat)
 case atStart => exact ⟨0, _, by omega, rfl, World.ownsRow_nil _ _ _ _, hT6, hS6, hA6, hf06⟩
 case round =>
  clear hS6 hT6 hA6 hf06
  obtain ⟨k, lv, hk, rfl, hown, hT, hS, hA, hf⟩ := hrel
  by_cases hlt : k < R.length
  ·have hlt' : (k : Int) < (R.length : Int) := by omega
   obtain ⟨x, hx⟩ : ∃ x, R[k]? = some x := ⟨R[k], List.getElem?_eq_getElem hlt⟩
   rw [drop_mem hx, List.flatMap_cons, readB, List.append_assoc, List.append_assoc] at hS
   have hx1 := hR1.out x (List.mem_of_getElem? hx)
   have hx2 := hR2.out x (List.mem_of_getElem? hx)
   have HX := Lib.hid hx
   have hge := own_ge hown
   obtain ⟨Av, cv, hev, _, _⟩ := own_form hown
   subst hev
   clear hx
   have H1 := Lib.hid (rs_Text hS (by rw [bytesOf_length]; omega))
   go_upto_region 10 with (go_at_call 55; refine H1.out.mono ?_; rintro e w7 ⟨v7, rfl, hv7, hS7, hf7⟩)
   obtain ⟨A7, c7, rfl, _, hr7⟩ := hv7.u8row
   rw [bytesOf_length] at *
   have hT7 := hT.fr hf7 (hS.ne hT (by decide))
   have hA7 := hA.fr hf7 (hS.ne hA (by decide))
   have hown7 := own_fr hown hf7 (fun q hq e => by obtain ⟨ds, hD⟩ := hS.blk; exact own_ne_blk hown hD (by decide) (e ▸ hq))
   have hf07 : Fr (fun _ => False) w w7 := hf.trans hf7 (fun k hk e => by omega)
   clear H1 hS hT hA hown hf hf7 hv7
   have H2 := Lib.hid (rs_Num hS7 (by omega) (by omega))
   go_upto_region 11 with (go_at_call 54; refine H2.out.mono ?_; rintro e w8 ⟨rfl, hS8, hf8⟩)
   have hT8 := hT7.fr hf8 (hS7.ne hT7 (by decide))
   have hA8 := hA7.fr hf8 (hS7.ne hA7 (by decide))
   have hown8 := own_fr hown7 hf8 (fun q hq e => by obtain ⟨ds, hD⟩ := hS7.blk; exact own_ne_blk hown7 hD (by decide) (e ▸ hq))
   have hf08 : Fr (fun _ => False) w w8 := hf07.trans hf8 (fun k hk e => by omega)
   have hr8 := hr7.fr hf8 (fun q hq e => by obtain ⟨ds, hD⟩ := hS7.blk; exact hq.ne_blk hD (by decide) e)
   have hcv := conv_bytes (w := w8) (n := x.1.size) (cap := c7) hr8 (by rw [bytesOf_length])
   rw [strOf_bytesOf] at hcv
   clear H2 hS7 hT7 hA7 hown7 hf07 hf8 hr7 hr8
   have y2 := hT8.cell 2
   have z2 := hT8.frozen 2
   have hz8 : w.heap.size + 1 ≤ w8.heap.size := hA8.lt
   go_wp2_with (at_builtin; refine wpList_append_el _ rfl _ _ 26 rfl (w.heap.size + 1) 143 _ 2 24 Tryz.underlying26 hir rfl (by decide) _ k (readsV (R.take k)) rfl (own_fr hown8 ((Fr.refl (fun _ => False) w8).alloc _) (fun _ _ => id)) w8.heap.size [.string x.1, .int .i64 x.2] rfl rfl (cell_two w8 _ _ _) (by simp [Value.oneCell']) (by omega) (by decide) (by simp; omega) ?_; intro g' c' w9 hown9 hf9; have hfa := (Fr.refl (fun _ => False) w8).alloc (Obj.cells #[.string x.1, .int .i64 x.2] 143); have hown8a := own_fr hown8 hfa (fun _ _ => id); have hT9 := (hT8.fr hfa id).fr hf9 (own_ne_blk hown8a (hT8.fr hfa id) (by decide)); have y9 := hT9.cell 2; have z9 := hT9.frozen 2)
   have hA9 := (hA8.fr hfa id).fr hf9 (own_ne_blk hown8a (hA8.fr hfa id) (by decide))
   have hS9 := (hS8.keep hfa).own hown8a (by decide) (by decide) hf9
   have hf09 : Fr (fun _ => False) w w9 := (hf08.then_ hfa).trans hf9 (fun q hq e => by have := hge q e; omega)
   have hS10 := hS9.far hT9 (by decide) (by decide) 2 (.slice (some ⟨g', 0, none⟩) (k + 1) c')
   have hT10 : Blk (w9.setCell ⟨gt, 2, none⟩ (.slice (some ⟨g', 0, none⟩) (k + 1) c')) gt 29 #[.int .i64 0, .int .i64 n, .slice (some ⟨g', 0, none⟩) (k + 1) c', .slice none 0 0] := hT9.set_ 2 _
   have hA10 := hA9.far (p := ⟨gt, 2, none⟩) (fun e => by dsimp only at e; omega) (.slice (some ⟨g', 0, none⟩) (k + 1) c')
   have hown10 := own_setCell hown9 hT9 (by decide) 2 (.slice (some ⟨g', 0, none⟩) (k + 1) c')
   have hf010 : Fr (fun _ => False) w (w9.setCell ⟨gt, 2, none⟩ (.slice (some ⟨g', 0, none⟩) (k + 1) c')) := hf09.setCell (p := ⟨gt, 2, none⟩) (fun h => absurd h (by dsimp only; omega)) _
   go_roundw
   case rel =>
    refine ⟨k + 1, _, by omega, by go_num, ?_, hT10, hS10, hA10, hf010⟩
    rw [take_mem HX.out, readsV, List.flatMap_append]
    exact hown10
   case measure => simp [intOf]; omega
  ·obtain rfl : k = R.length := by omega
   rw [List.take_length] at hown
   rw [List.drop_length, List.flatMap_nil, List.nil_append] at hS
   obtain ⟨AR, cr, rfl, hRR⟩ := own_reads hown
   have H := Lib.hid (rs_Int (most := 8) hS (by omega) (by omega) (by omega))
   go_upto_region 13 with (go_at_call 56; refine H.out.mono ?_; rintro e w6 ⟨rfl, hS6, hf6⟩)
   have hT6 := hT.fr hf6 (hS.ne hT (by decide))
   have hA6 := hA.fr hf6 (hS.ne hA (by decide))
   have hown6 := own_fr hown hf6 (fun q hq e => by obtain ⟨ds, hD⟩ := hS.blk; exact own_ne_blk hown hD (by decide) (e ▸ hq))
   have hf06 : Fr (fun _ => False) w w6 := hf.trans hf6 (fun k hk e => by omega)
   clear H hS hT hA hown hf hf6 hRR
   go_upto_region 14 with fail
   go_loopw [12] (fun i wr => ∃ (k : Nat) (lv : Value), k ≤ W.length ∧ i = .int .i64 k ∧ wr.ownsRow (w.heap.size + 1) 84 2 lv k (writesV (W.take k)) ∧ wr.ownsRow (w.heap.size + 1) 143 2 (.slice AR R.length cr) R.length (readsV R) ∧ Blk wr gt 29 #[.int .i64 0, .int .i64 n, .slice AR R.length cr, lv] ∧ RS wr g ((W.drop k).flatMap writeB ++ []) ∧ Blk wr w.heap.size 29 #[.int .i64 0, .int .i64 0, .slice none 0 0, .slice none 0 0] ∧ Fr (fun _ => False) w wr) (fun i _ => W.length - (intOf i).toNat)
   case atStart => exact ⟨0, _, by omega, rfl, World.ownsRow_nil _ _ _ _, hown6, hT6, hS6, hA6, hf06⟩
   case round =>
    clear hS6 hT6 hA6 hf06 hown6
    obtain ⟨k, lv, hk, rfl, hown, hownR, hT, hS, hA, hf⟩ := hrel
    by_cases hlt : k < W.length
    ·have hlt' : (k : Int) < (W.length : Int) := by omega
     obtain ⟨x, hx⟩ : ∃ x, W[k]? = some x := ⟨W[k], List.getElem?_eq_getElem hlt⟩
     rw [drop_mem hx, List.flatMap_cons, writeB, List.append_assoc, List.append_assoc] at hS
     have hx1 := hW1.out x (List.mem_of_getElem? hx)
     have HX := Lib.hid hx
     have hge := own_ge hown
     obtain ⟨Av, cv, hev, _, _⟩ := own_form hown
     subst hev
     clear hx
     have H1 := Lib.hid (rs_Text hS (by rw [bytesOf_length]; omega))
     go_upto_region 17 with (go_at_call 55; refine H1.out.mono ?_; rintro e w7 ⟨v7, rfl, hv7, hS7, hf7⟩)
     obtain ⟨A7, c7, rfl, _, hr7⟩ := hv7.u8row
     rw [bytesOf_length] at *
     have hT7 := hT.fr hf7 (hS.ne hT (by decide))
     have hA7 := hA.fr hf7 (hS.ne hA (by decide))
     have hown7 := own_fr hown hf7 (fun q hq e => by obtain ⟨ds, hD⟩ := hS.blk; exact own_ne_blk hown hD (by decide) (e ▸ hq))
     have hownR7 := own_fr hownR hf7 (fun q hq e => by obtain ⟨ds, hD⟩ := hS.blk; exact own_ne_blk hownR hD (by decide) (e ▸ hq))
     have hf07 : Fr (fun _ => False) w w7 := hf.trans hf7 (fun k hk e => by omega)
     clear H1 hS hT hA hown hownR hf hf7 hv7
     have H2 := Lib.hid (rs_Text hS7 (by rw [bytesOf_length]; omega))
     go_upto_region 18 with (go_at_call 55; refine H2.out.mono ?_; rintro e w8 ⟨v8, rfl, hv8, hS8, hf8⟩)
     obtain ⟨A8, c8, rfl, _, hr8⟩ := hv8.u8row
     rw [bytesOf_length] at *
     have hT8 := hT7.fr hf8 (hS7.ne hT7 (by decide))
     have hA8 := hA7.fr hf8 (hS7.ne hA7 (by decide))
     have hown8 := own_fr hown7 hf8 (fun q hq e => by obtain ⟨ds, hD⟩ := hS7.blk; exact own_ne_blk hown7 hD (by decide) (e ▸ hq))
     have hownR8 := own_fr hownR7 hf8 (fun q hq e => by obtain ⟨ds, hD⟩ := hS7.blk; exact own_ne_blk hownR7 hD (by decide) (e ▸ hq))
     have hf08 : Fr (fun _ => False) w w8 := hf07.trans hf8 (fun k hk e => by omega)
     have hr78 := hr7.fr hf8 (fun q hq e => by obtain ⟨ds, hD⟩ := hS7.blk; exact hq.ne_blk hD (by decide) e)
     have hcv := conv_bytes (w := w8) (n := x.1.size) (cap := c7) hr78 (by rw [bytesOf_length])
     have hcv2 := conv_bytes (w := w8) (n := x.2.size) (cap := c8) hr8 (by rw [bytesOf_length])
     rw [strOf_bytesOf] at hcv hcv2
     clear H2 hS7 hT7 hA7 hown7 hownR7 hf07 hf8 hr7 hr8 hr78 hv8
     have y3 := hT8.cell 3
     have z3 := hT8.frozen 3
     have hz8 : w.heap.size + 1 ≤ w8.heap.size := hA8.lt
     go_wp2_with (at_builtin; refine wpList_append_el _ rfl _ _ 27 rfl (w.heap.size + 1) 84 _ 2 32 Tryz.underlying27 hiw rfl (by decide) _ k (writesV (W.take k)) rfl (own_fr hown8 ((Fr.refl (fun _ => False) w8).alloc _) (fun _ _ => id)) w8.heap.size [.string x.1, .string x.2] rfl rfl (cell_two w8 _ _ _) (by simp [Value.oneCell']) (by omega) (by decide) (by simp; omega) ?_; intro g' c' w9 hown9 hf9; have hfa := (Fr.refl (fun _ => False) w8).alloc (Obj.cells #[.string x.1, .string x.2] 84); have hown8a := own_fr hown8 hfa (fun _ _ => id); have hT9 := (hT8.fr hfa id).fr hf9 (own_ne_blk hown8a (hT8.fr hfa id) (by decide)); have y9 := hT9.cell 3; have z9 := hT9.frozen 3)
     have hA9 := (hA8.fr hfa id).fr hf9 (own_ne_blk hown8a (hA8.fr hfa id) (by decide))
     have hownR9 := own_fr (own_fr hownR8 hfa (fun _ _ => id)) hf9 (fun q hq e => by obtain ⟨ds, hD⟩ := own_cells (own_fr hownR8 hfa (fun _ _ => id)) hq; exact own_ne_blk hown8a hD (by decide) e)
     have hS9 := (hS8.keep hfa).own hown8a (by decide) (by decide) hf9
     have hf09 : Fr (fun _ => False) w w9 := (hf08.then_ hfa).trans hf9 (fun q hq e => by have := hge q e; omega)
     have hS10 := hS9.far hT9 (by decide) (by decide) 3 (.slice (some ⟨g', 0, none⟩) (k + 1) c')
     have hT10 : Blk (w9.setCell ⟨gt, 3, none⟩ (.slice (some ⟨g', 0, none⟩) (k + 1) c')) gt 29 #[.int .i64 0, .int .i64 n, .slice AR R.length cr, .slice (some ⟨g', 0, none⟩) (k + 1) c'] := hT9.set_ 3 _
     have hA10 := hA9.far (p := ⟨gt, 3, none⟩) (fun e => by dsimp only at e; omega) (.slice (some ⟨g', 0, none⟩) (k + 1) c')
     have hown10 := own_setCell hown9 hT9 (by decide) 3 (.slice (some ⟨g', 0, none⟩) (k + 1) c')
     have hownR10 := own_setCell hownR9 hT9 (by decide) 3 (.slice (some ⟨g', 0, none⟩) (k + 1) c')
     have hf010 : Fr (fun _ => False) w (w9.setCell ⟨gt, 3, none⟩ (.slice (some ⟨g', 0, none⟩) (k + 1) c')) := hf09.setCell (p := ⟨gt, 3, none⟩) (fun h => absurd h (by dsimp only; omega)) _
     go_roundw
     case rel =>
      refine ⟨k + 1, _, by omega, by go_num, ?_, hownR10, hT10, hS10, hA10, hf010⟩
      rw [take_mem HX.out, writesV, List.flatMap_append]
      exact hown10
     case measure => simp [intOf]; omega
    ·obtain rfl : k = W.length := by omega
     rw [List.take_length] at hown
     rw [List.drop_length, List.flatMap_nil, List.nil_append] at hS
     obtain ⟨AW, cw, rfl, _⟩ := own_writes hown
     have H := Lib.hid (rs_End hS)
     go_upto_region 20 with (go_at_call 58; refine H.out.mono ?_; rintro e w6 ⟨rfl, hf6⟩)
     have hfs := (Fr.refl (fun _ => False) w6).alloc (Obj.cells #[.string ⟨#[]⟩, .int .i64 0] 70)
     have hT7 := (hT.fr hf6 id).fr hfs id
     have hA7 := (hA.fr hf6 id).fr hfs id
     have hownR7 := own_fr (own_fr hownR hf6 (fun _ _ => id)) hfs (fun _ _ => id)
     have hownW7 := own_fr (own_fr hown hf6 (fun _ _ => id)) hfs (fun _ _ => id)
     have hf07 := (hf.then_ hf6).then_ hfs
     generalize w6.alloc (Obj.cells #[.string ⟨#[]⟩, .int .i64 0] 70) = w7 at *
     clear H hS hT hA hown hownR hf hf6 hfs
     have q0 : ¬ c < 0 := by omega
     have q1 : ¬ 16 ≤ c := by omega
     have y0 := hT7.cell 0
     have z0 := hT7.frozen 0
     go_upto_region 25 with fail
     have hT8 : Blk (w7.setCell ⟨gt, 0, none⟩ (.int .i64 c)) gt 29 #[.int .i64 c, .int .i64 n, .slice AR R.length cr, .slice AW W.length cw] := hT7.set_ 0 _
     have hA8 := hA7.far (p := ⟨gt, 0, none⟩) (fun e => by dsimp only at e; omega) (.int .i64 c)
     have hownR8 := own_setCell hownR7 hT7 (by decide) 0 (.int .i64 c)
     have hownW8 := own_setCell hownW7 hT7 (by decide) 0 (.int .i64 c)
     have hf08 : Fr (fun _ => False) w (w7.setCell ⟨gt, 0, none⟩ (.int .i64 c)) := hf07.setCell (p := ⟨gt, 0, none⟩) (fun h => absurd h (by dsimp only; omega)) _
     generalize w7.setCell ⟨gt, 0, none⟩ (.int .i64 c) = w8 at *
     clear hT7 hA7 hownR7 hownW7 hf07 y0 z0
     obtain ⟨_, _, eR, hRR⟩ := own_reads hownR8
     obtain ⟨_, _, eW, hWW⟩ := own_writes hownW8
     cases eR
     cases eW
     have HQ := ref10_Right (cr := cr) (cw := cw) (c := c) (n := n) hRR hWW
     rw [HT.out] at HQ
     have HQ := Lib.hid HQ
     have y0 := hT8.cell 0
     have y1 := hT8.cell 1
     have y2 := hT8.cell 2
     have y3 := hT8.cell 3
     have hgtA : w.heap.size < gt := by omega
     go_upto_region 27 with (go_at_call 30; refine HQ.out.mono ?_; rintro e w9 ⟨rfl, hf9⟩)
     have hT9 := hT8.fr hf9 id
     have hA9 := hA8.fr hf9 id
     have hRR9 := hRR.fr hf9 (fun _ _ => id)
     have hWW9 := hWW.fr hf9 (fun _ _ => id)
     have hf09 := hf08.then_ hf9
     clear y0 y1 y2 y3 hT8 hA8 hf08 hf9 HQ hownR8 hownW8 hRR hWW
     have y0 := hT9.cell 0
     have y1 := hT9.cell 1
     have y2 := hT9.cell 2
     have y3 := hT9.cell 3
     have a0 := hA9.cell 0
     have a1 := hA9.cell 1
     have a2 := hA9.cell 2
     have a3 := hA9.cell 3
     have z0 := hA9.frozen 0
     have z1 := hA9.frozen 1
     have z2 := hA9.frozen 2
     have z3 := hA9.frozen 3
     go_wp2
     have hA10 := (((hA9.set_ 0 (.int .i64 c)).set_ 1 (.int .i64 n)).set_ 2 (.slice AR R.length cr)).set_ 3 (.slice AW W.length cw)
     have hfz : Fr (fun k => k = w.heap.size) w9 ((((w9.setCell ⟨w.heap.size, 0, none⟩ (.int .i64 c)).setCell ⟨w.heap.size, 1, none⟩ (.int .i64 n)).setCell ⟨w.heap.size, 2, none⟩ (.slice AR R.length cr)).setCell ⟨w.heap.size, 3, none⟩ (.slice AW W.length cw)) := (((((Fr.refl (fun k => k = w.heap.size) w9).setCell (p := ⟨w.heap.size, 0, none⟩) (fun _ => rfl) _).setCell (p := ⟨w.heap.size, 1, none⟩) (fun _ => rfl) _).setCell (p := ⟨w.heap.size, 2, none⟩) (fun _ => rfl) _).setCell (p := ⟨w.heap.size, 3, none⟩) (fun _ => rfl) _)
     have hfe : Fr (fun _ => False) w _ := hf09.trans hfz (fun k hk e => by omega)
     have d0 := hA10.cell 0
     have d1 := hA10.cell 1
     have d2 := hA10.cell 2
     have d3 := hA10.cell 3
     generalize (((w9.setCell ⟨w.heap.size, 0, none⟩ (.int .i64 c)).setCell ⟨w.heap.size, 1, none⟩ (.int .i64 n)).setCell ⟨w.heap.size, 2, none⟩ (.slice AR R.length cr)).setCell ⟨w.heap.size, 3, none⟩ (.slice AW W.length cw) = wz at *
     refine bodyPost_ret (v := .tuple #[.agg #[.int .i64 c, .int .i64 n, .slice AR R.length cr, .slice AW W.length cw], .int .i64 0, .slice none 0 0]) (by simp [results, Tryz.results49, go_sem, d0, d1, d2, d3]) rfl ?_
     have hR10 := hRR9.fr hfz (fun k hk e => by omega)
     have hW10 := hWW9.fr hfz (fun k hk e => by omega)
     exact ⟨_, _, _, _, rfl, hR10.mono_ (fun k hk => by omega), hW10.mono_ (fun k hk => by omega), hfe⟩
end Go.Proofs.YtmkdhhhoodeemaaGreat

/- cohortref11: Get of what was said. -/
namespace Go.Proofs.YtmkdhhhoodeemaaGreat
open Go Go.RowKit
def SayGot (w : World) (s : SayD) (e : Ending) (w' : World) : Prop := e = .returned (.tuple #[.agg #[.int .i64 s.kind, .int .i64 s.txn, .bool s.yes, .string s.from_, .string s.to_, .int .i64 s.epoch, .int .i64 s.shard, .int .i64 s.target, .int .i64 s.root], .int .i64 0, .slice none 0 0]) ∧ Fr (fun _ => False) w w'
theorem yes_eq (b : Bool) : (yesI b == 1) = b := by cases b <;> rfl
set_option maxRecDepth 100000 in
set_option maxHeartbeats 4000000 in
theorem ref11_Get {w : World} {F : Nat → Prop} {A : Option Addr} {cap : Nat} {s : SayD} (hr : ByteRow w F A (sayB s)) (h : OkSay s) :
  Calls Tryz.prog 60 #[.slice A (sayB s).length cap] w (SayGot w s) := by
 obtain ⟨bs, hbs⟩ : ∃ bs, Hid (sayB s = bs) := ⟨_, rfl⟩
 obtain ⟨yv, hyv⟩ : ∃ x, Hid (yesI s.yes = x) := ⟨_, rfl⟩
 have hye : (yv == 1) = s.yes := by rw [← hyv.out]; exact yes_eq _
 have hy0 : 0 ≤ yv ∧ yv ≤ 1 := by rw [← hyv.out]; cases s.yes <;> decide
 have hl : bs.length ≤ 65536 := by rw [← hbs.out]; have := sayB_length h; obtain ⟨q1, q2, q3⟩ := this; omega
 have h0 : 0 < bs.length := by rw [← hbs.out]; simp [sayB, num8_length]; omega
 have hbs2 : Hid (bs = (num8 s.kind ++ (num8 s.txn ++ (num8 yv ++ (textB (bytesOf s.from_) ++ (textB (bytesOf s.to_) ++ (num8 s.epoch ++ (num8 s.shard ++ (num8 s.target ++ (num8 s.root ++ [])))))))))) := by show _ = _; rw [← hbs.out, ← hyv.out, sayB]; simp only [List.append_assoc, List.append_nil]
 have HQ := fun w => ref11_Right1 w s.kind s.txn s.yes s.from_ s.to_ s.epoch s.shard s.target s.root
 have HQ : ∀ w, Calls Tryz.prog 29 #[.agg #[.int .i64 s.kind, .int .i64 s.txn, .bool s.yes, .string s.from_, .string s.to_, .int .i64 s.epoch, .int .i64 s.shard, .int .i64 s.target, .int .i64 s.root]] w (Bool1 w (decide (OkSay s))) := HQ
 simp only [h, decide_true] at HQ
 have HQ := Lib.hid HQ
 obtain ⟨o1, o2, o3, o4, o5, o6, o7, o8, o9, o10, o11, o12, o13, o14⟩ := h
 rw [hbs.out] at hr ⊢
 clear hbs
 have hf0 : Fr (fun _ => False) w (w.alloc (Obj.cells #[.int .i64 0, .int .i64 0, .bool false, .string ⟨#[]⟩, .string ⟨#[]⟩, .int .i64 0, .int .i64 0, .int .i64 0, .int .i64 0] 23)) := (Fr.refl _ _).alloc _
 have hA0 := Blk.new w 23 #[.int .i64 0, .int .i64 0, .bool false, .string ⟨#[]⟩, .string ⟨#[]⟩, .int .i64 0, .int .i64 0, .int .i64 0, .int .i64 0]
 have HNew := Lib.hid (rs_New (cap := cap) (hr.fr hf0 (fun _ _ => id)) h0 (by omega))
 go_enter Tryz.func60, Tryz.ntmps60
 go_upto_region 2 with (go_at_call 53; refine HNew.out.mono ?_; rintro e w1 ⟨g, rfl, hg, hS1, hf1⟩)
 generalize w.alloc (Obj.cells #[.int .i64 0, .int .i64 0, .bool false, .string ⟨#[]⟩, .string ⟨#[]⟩, .int .i64 0, .int .i64 0, .int .i64 0, .int .i64 0] 23) = w0 at *
 have hA1 := hA0.fr hf1 id
 have hf01 := hf0.then_ hf1
 have hA2 := hA1.alloc (Obj.cells #[.int .i64 0, .int .i64 0, .bool false, .string ⟨#[]⟩, .string ⟨#[]⟩, .int .i64 0, .int .i64 0, .int .i64 0, .int .i64 0] 23)
 have hT2 := Blk.new w1 23 #[.int .i64 0, .int .i64 0, .bool false, .string ⟨#[]⟩, .string ⟨#[]⟩, .int .i64 0, .int .i64 0, .int .i64 0, .int .i64 0]
 have hf2 := hf01.alloc (Obj.cells #[.int .i64 0, .int .i64 0, .bool false, .string ⟨#[]⟩, .string ⟨#[]⟩, .int .i64 0, .int .i64 0, .int .i64 0, .int .i64 0] 23)
 have hS2 := hS1.keep ((Fr.refl (fun _ => False) w1).alloc (Obj.cells #[.int .i64 0, .int .i64 0, .bool false, .string ⟨#[]⟩, .string ⟨#[]⟩, .int .i64 0, .int .i64 0, .int .i64 0, .int .i64 0] 23))
 have hag : w.heap.size < w1.heap.size := hA1.lt
 go_upto_region 3 with fail
 have hwg : w.heap.size < g := Nat.lt_of_lt_of_le hA0.lt hg
 generalize w1.alloc (Obj.cells #[.int .i64 0, .int .i64 0, .bool false, .string ⟨#[]⟩, .string ⟨#[]⟩, .int .i64 0, .int .i64 0, .int .i64 0, .int .i64 0] 23) = w2 at *
 obtain ⟨gt, hgt⟩ : ∃ cc, Hid (w1.heap.size = cc) := ⟨_, rfl⟩
 rw [hgt.out] at hT2 hag ⊢
 clear hA0 hA1 hf0 hf1 hf01 HNew hg hS1 hr
 rw [hbs2.out] at hS2
 clear hbs2 hl h0
 have H := Lib.hid (rs_Num hS2 (by omega) (by omega))
 go_upto_region 4 with (go_at_call 54; refine H.out.mono ?_; rintro e w3 ⟨rfl, hS3, hf3t⟩; have hT3 := hT2.fr hf3t (hS2.ne hT2 (by decide)); have y := hT3.cell 0; have z := hT3.frozen 0)
 have hA3 := hA2.fr hf3t (hS2.ne hA2 (by decide))
 have hf3 : Fr (fun _ => False) w w3 := hf2.trans hf3t (fun k hk e => by omega)
 have hS4 := hS3.far hT3 (by decide) (by decide) 0 (.int .i64 s.kind)
 have hT4 : Blk (w3.setCell ⟨gt, 0, none⟩ (.int .i64 s.kind)) gt 23 #[.int .i64 s.kind, .int .i64 0, .bool false, .string ⟨#[]⟩, .string ⟨#[]⟩, .int .i64 0, .int .i64 0, .int .i64 0, .int .i64 0] := hT3.set_ 0 _
 have hA4 := hA3.far (p := ⟨gt, 0, none⟩) (fun e => by dsimp only at e; omega) (.int .i64 s.kind)
 have hf4 : Fr (fun _ => False) w (w3.setCell ⟨gt, 0, none⟩ (.int .i64 s.kind)) := hf3.setCell (p := ⟨gt, 0, none⟩) (fun h => absurd h (by dsimp only; omega)) _
 generalize w3.setCell ⟨gt, 0, none⟩ (.int .i64 s.kind) = w4 at *
 clear H hS2 hT2 hA2 hf2 hf3t hS3 hT3 hA3 hf3 y z
 have H := Lib.hid (rs_Num hS4 (by omega) (by omega))
 go_upto_region 5 with (go_at_call 54; refine H.out.mono ?_; rintro e w5 ⟨rfl, hS5, hf5t⟩; have hT5 := hT4.fr hf5t (hS4.ne hT4 (by decide)); have y := hT5.cell 1; have z := hT5.frozen 1)
 have hA5 := hA4.fr hf5t (hS4.ne hA4 (by decide))
 have hf5 : Fr (fun _ => False) w w5 := hf4.trans hf5t (fun k hk e => by omega)
 have hS6 := hS5.far hT5 (by decide) (by decide) 1 (.int .i64 s.txn)
 have hT6 : Blk (w5.setCell ⟨gt, 1, none⟩ (.int .i64 s.txn)) gt 23 #[.int .i64 s.kind, .int .i64 s.txn, .bool false, .string ⟨#[]⟩, .string ⟨#[]⟩, .int .i64 0, .int .i64 0, .int .i64 0, .int .i64 0] := hT5.set_ 1 _
 have hA6 := hA5.far (p := ⟨gt, 1, none⟩) (fun e => by dsimp only at e; omega) (.int .i64 s.txn)
 have hf6 : Fr (fun _ => False) w (w5.setCell ⟨gt, 1, none⟩ (.int .i64 s.txn)) := hf5.setCell (p := ⟨gt, 1, none⟩) (fun h => absurd h (by dsimp only; omega)) _
 generalize w5.setCell ⟨gt, 1, none⟩ (.int .i64 s.txn) = w6 at *
 clear H hS4 hT4 hA4 hf4 hf5t hS5 hT5 hA5 hf5 y z
 have H := Lib.hid (rs_Int (most := 1) hS6 (by omega) (by omega) (by omega))
 go_upto_region 6 with (go_at_call 56; refine H.out.mono ?_; rintro e w7 ⟨rfl, hS7, hf7t⟩; have hT7 := hT6.fr hf7t (hS6.ne hT6 (by decide)); have y := hT7.cell 2; have z := hT7.frozen 2)
 have hA7 := hA6.fr hf7t (hS6.ne hA6 (by decide))
 have hf7 : Fr (fun _ => False) w w7 := hf6.trans hf7t (fun k hk e => by omega)
 have hS8 := hS7.far hT7 (by decide) (by decide) 2 (.bool s.yes)
 have hT8 : Blk (w7.setCell ⟨gt, 2, none⟩ (.bool s.yes)) gt 23 #[.int .i64 s.kind, .int .i64 s.txn, .bool s.yes, .string ⟨#[]⟩, .string ⟨#[]⟩, .int .i64 0, .int .i64 0, .int .i64 0, .int .i64 0] := hT7.set_ 2 _
 have hA8 := hA7.far (p := ⟨gt, 2, none⟩) (fun e => by dsimp only at e; omega) (.bool s.yes)
 have hf8 : Fr (fun _ => False) w (w7.setCell ⟨gt, 2, none⟩ (.bool s.yes)) := hf7.setCell (p := ⟨gt, 2, none⟩) (fun h => absurd h (by dsimp only; omega)) _
 generalize w7.setCell ⟨gt, 2, none⟩ (.bool s.yes) = w8 at *
 clear H hS6 hT6 hA6 hf6 hf7t hS7 hT7 hA7 hf7 y z
 have H := Lib.hid (rs_Text hS8 (by rw [bytesOf_length]; omega))
 go_upto_region 7 with (go_at_call 55; refine H.out.mono ?_; rintro e w9 ⟨v9, rfl, hv9, hS9, hf9t⟩; have hT9 := hT8.fr hf9t (hS8.ne hT8 (by decide)); have y := hT9.cell 3; have z := hT9.frozen 3; obtain ⟨A9, c9, rfl, _, hr9⟩ := hv9.u8row; have hcv := conv_bytes (w := w9) (n := (bytesOf s.from_).length) (cap := c9) hr9 rfl; rw [strOf_bytesOf] at hcv)
 have hA9 := hA8.fr hf9t (hS8.ne hA8 (by decide))
 have hf9 : Fr (fun _ => False) w w9 := hf8.trans hf9t (fun k hk e => by omega)
 have hS10 := hS9.far hT9 (by decide) (by decide) 3 (.string s.from_)
 have hT10 : Blk (w9.setCell ⟨gt, 3, none⟩ (.string s.from_)) gt 23 #[.int .i64 s.kind, .int .i64 s.txn, .bool s.yes, .string s.from_, .string ⟨#[]⟩, .int .i64 0, .int .i64 0, .int .i64 0, .int .i64 0] := hT9.set_ 3 _
 have hA10 := hA9.far (p := ⟨gt, 3, none⟩) (fun e => by dsimp only at e; omega) (.string s.from_)
 have hf10 : Fr (fun _ => False) w (w9.setCell ⟨gt, 3, none⟩ (.string s.from_)) := hf9.setCell (p := ⟨gt, 3, none⟩) (fun h => absurd h (by dsimp only; omega)) _
 generalize w9.setCell ⟨gt, 3, none⟩ (.string s.from_) = w10 at *
 clear H hS8 hT8 hA8 hf8 hf9t hS9 hT9 hA9 hf9 y z hv9 hr9 hcv
 have H := Lib.hid (rs_Text hS10 (by rw [bytesOf_length]; omega))
 go_upto_region 8 with (go_at_call 55; refine H.out.mono ?_; rintro e w11 ⟨v11, rfl, hv11, hS11, hf11t⟩; have hT11 := hT10.fr hf11t (hS10.ne hT10 (by decide)); have y := hT11.cell 4; have z := hT11.frozen 4; obtain ⟨A11, c11, rfl, _, hr11⟩ := hv11.u8row; have hcv := conv_bytes (w := w11) (n := (bytesOf s.to_).length) (cap := c11) hr11 rfl; rw [strOf_bytesOf] at hcv)
 have hA11 := hA10.fr hf11t (hS10.ne hA10 (by decide))
 have hf11 : Fr (fun _ => False) w w11 := hf10.trans hf11t (fun k hk e => by omega)
 have hS12 := hS11.far hT11 (by decide) (by decide) 4 (.string s.to_)
 have hT12 : Blk (w11.setCell ⟨gt, 4, none⟩ (.string s.to_)) gt 23 #[.int .i64 s.kind, .int .i64 s.txn, .bool s.yes, .string s.from_, .string s.to_, .int .i64 0, .int .i64 0, .int .i64 0, .int .i64 0] := hT11.set_ 4 _
 have hA12 := hA11.far (p := ⟨gt, 4, none⟩) (fun e => by dsimp only at e; omega) (.string s.to_)
 have hf12 : Fr (fun _ => False) w (w11.setCell ⟨gt, 4, none⟩ (.string s.to_)) := hf11.setCell (p := ⟨gt, 4, none⟩) (fun h => absurd h (by dsimp only; omega)) _
 generalize w11.setCell ⟨gt, 4, none⟩ (.string s.to_) = w12 at *
 clear H hS10 hT10 hA10 hf10 hf11t hS11 hT11 hA11 hf11 y z hv11 hr11 hcv
 have H := Lib.hid (rs_Num hS12 (by omega) (by omega))
 go_upto_region 9 with (go_at_call 54; refine H.out.mono ?_; rintro e w13 ⟨rfl, hS13, hf13t⟩; have hT13 := hT12.fr hf13t (hS12.ne hT12 (by decide)); have y := hT13.cell 5; have z := hT13.frozen 5)
 have hA13 := hA12.fr hf13t (hS12.ne hA12 (by decide))
 have hf13 : Fr (fun _ => False) w w13 := hf12.trans hf13t (fun k hk e => by omega)
 have hS14 := hS13.far hT13 (by decide) (by decide) 5 (.int .i64 s.epoch)
 have hT14 : Blk (w13.setCell ⟨gt, 5, none⟩ (.int .i64 s.epoch)) gt 23 #[.int .i64 s.kind, .int .i64 s.txn, .bool s.yes, .string s.from_, .string s.to_, .int .i64 s.epoch, .int .i64 0, .int .i64 0, .int .i64 0] := hT13.set_ 5 _
 have hA14 := hA13.far (p := ⟨gt, 5, none⟩) (fun e => by dsimp only at e; omega) (.int .i64 s.epoch)
 have hf14 : Fr (fun _ => False) w (w13.setCell ⟨gt, 5, none⟩ (.int .i64 s.epoch)) := hf13.setCell (p := ⟨gt, 5, none⟩) (fun h => absurd h (by dsimp only; omega)) _
 generalize w13.setCell ⟨gt, 5, none⟩ (.int .i64 s.epoch) = w14 at *
 clear H hS12 hT12 hA12 hf12 hf13t hS13 hT13 hA13 hf13 y z
 have H := Lib.hid (rs_Num hS14 (by omega) (by omega))
 go_upto_region 10 with (go_at_call 54; refine H.out.mono ?_; rintro e w15 ⟨rfl, hS15, hf15t⟩; have hT15 := hT14.fr hf15t (hS14.ne hT14 (by decide)); have y := hT15.cell 6; have z := hT15.frozen 6)
 have hA15 := hA14.fr hf15t (hS14.ne hA14 (by decide))
 have hf15 : Fr (fun _ => False) w w15 := hf14.trans hf15t (fun k hk e => by omega)
 have hS16 := hS15.far hT15 (by decide) (by decide) 6 (.int .i64 s.shard)
 have hT16 : Blk (w15.setCell ⟨gt, 6, none⟩ (.int .i64 s.shard)) gt 23 #[.int .i64 s.kind, .int .i64 s.txn, .bool s.yes, .string s.from_, .string s.to_, .int .i64 s.epoch, .int .i64 s.shard, .int .i64 0, .int .i64 0] := hT15.set_ 6 _
 have hA16 := hA15.far (p := ⟨gt, 6, none⟩) (fun e => by dsimp only at e; omega) (.int .i64 s.shard)
 have hf16 : Fr (fun _ => False) w (w15.setCell ⟨gt, 6, none⟩ (.int .i64 s.shard)) := hf15.setCell (p := ⟨gt, 6, none⟩) (fun h => absurd h (by dsimp only; omega)) _
 generalize w15.setCell ⟨gt, 6, none⟩ (.int .i64 s.shard) = w16 at *
 clear H hS14 hT14 hA14 hf14 hf15t hS15 hT15 hA15 hf15 y z
 have H := Lib.hid (rs_Num hS16 (by omega) (by omega))
 go_upto_region 11 with (go_at_call 54; refine H.out.mono ?_; rintro e w17 ⟨rfl, hS17, hf17t⟩; have hT17 := hT16.fr hf17t (hS16.ne hT16 (by decide)); have y := hT17.cell 7; have z := hT17.frozen 7)
 have hA17 := hA16.fr hf17t (hS16.ne hA16 (by decide))
 have hf17 : Fr (fun _ => False) w w17 := hf16.trans hf17t (fun k hk e => by omega)
 have hS18 := hS17.far hT17 (by decide) (by decide) 7 (.int .i64 s.target)
 have hT18 : Blk (w17.setCell ⟨gt, 7, none⟩ (.int .i64 s.target)) gt 23 #[.int .i64 s.kind, .int .i64 s.txn, .bool s.yes, .string s.from_, .string s.to_, .int .i64 s.epoch, .int .i64 s.shard, .int .i64 s.target, .int .i64 0] := hT17.set_ 7 _
 have hA18 := hA17.far (p := ⟨gt, 7, none⟩) (fun e => by dsimp only at e; omega) (.int .i64 s.target)
 have hf18 : Fr (fun _ => False) w (w17.setCell ⟨gt, 7, none⟩ (.int .i64 s.target)) := hf17.setCell (p := ⟨gt, 7, none⟩) (fun h => absurd h (by dsimp only; omega)) _
 generalize w17.setCell ⟨gt, 7, none⟩ (.int .i64 s.target) = w18 at *
 clear H hS16 hT16 hA16 hf16 hf17t hS17 hT17 hA17 hf17 y z
 have H := Lib.hid (rs_Num hS18 (by omega) (by omega))
 go_upto_region 12 with (go_at_call 54; refine H.out.mono ?_; rintro e w19 ⟨rfl, hS19, hf19t⟩; have hT19 := hT18.fr hf19t (hS18.ne hT18 (by decide)); have y := hT19.cell 8; have z := hT19.frozen 8)
 have hA19 := hA18.fr hf19t (hS18.ne hA18 (by decide))
 have hf19 : Fr (fun _ => False) w w19 := hf18.trans hf19t (fun k hk e => by omega)
 have hS20 := hS19.far hT19 (by decide) (by decide) 8 (.int .i64 s.root)
 have hT20 : Blk (w19.setCell ⟨gt, 8, none⟩ (.int .i64 s.root)) gt 23 #[.int .i64 s.kind, .int .i64 s.txn, .bool s.yes, .string s.from_, .string s.to_, .int .i64 s.epoch, .int .i64 s.shard, .int .i64 s.target, .int .i64 s.root] := hT19.set_ 8 _
 have hA20 := hA19.far (p := ⟨gt, 8, none⟩) (fun e => by dsimp only at e; omega) (.int .i64 s.root)
 have hf20 : Fr (fun _ => False) w (w19.setCell ⟨gt, 8, none⟩ (.int .i64 s.root)) := hf19.setCell (p := ⟨gt, 8, none⟩) (fun h => absurd h (by dsimp only; omega)) _
 generalize w19.setCell ⟨gt, 8, none⟩ (.int .i64 s.root) = w20 at *
 clear H hS18 hT18 hA18 hf18 hf19t hS19 hT19 hA19 hf19 y z
 have H := Lib.hid (rs_End hS20)
 go_upto_region 13 with (go_at_call 58; refine H.out.mono ?_; rintro e we ⟨rfl, hfe⟩)
 have hfs := (Fr.refl (fun _ => False) we).alloc (Obj.cells #[.string ⟨#[]⟩, .int .i64 0] 70)
 have hT7 := (hT20.fr hfe id).fr hfs id
 have hA7 := (hA20.fr hfe id).fr hfs id
 have hf7 := (hf20.then_ hfe).then_ hfs
 generalize we.alloc (Obj.cells #[.string ⟨#[]⟩, .int .i64 0] 70) = w7 at *
 clear H hS20 hT20 hA20 hf20 hfe hfs
 have y0 := hT7.cell 0
 have y1 := hT7.cell 1
 have y2 := hT7.cell 2
 have y3 := hT7.cell 3
 have y4 := hT7.cell 4
 have y5 := hT7.cell 5
 have y6 := hT7.cell 6
 have y7 := hT7.cell 7
 have y8 := hT7.cell 8
 go_upto_region 17 with (go_at_call 29; refine (HQ.out _).mono ?_; rintro e w8 ⟨rfl, hf78⟩)
 have hT8 := hT7.fr hf78 id
 have hA8 := hA7.fr hf78 id
 have hf8 := hf7.then_ hf78
 clear y0 y1 y2 y3 y4 y5 y6 y7 y8 hT7 hA7 hf7 hf78 HQ
 have y0 := hT8.cell 0
 have y1 := hT8.cell 1
 have y2 := hT8.cell 2
 have y3 := hT8.cell 3
 have y4 := hT8.cell 4
 have y5 := hT8.cell 5
 have y6 := hT8.cell 6
 have y7 := hT8.cell 7
 have y8 := hT8.cell 8
 have a0 := hA8.cell 0
 have a1 := hA8.cell 1
 have a2 := hA8.cell 2
 have a3 := hA8.cell 3
 have a4 := hA8.cell 4
 have a5 := hA8.cell 5
 have a6 := hA8.cell 6
 have a7 := hA8.cell 7
 have a8 := hA8.cell 8
 have z0 := hA8.frozen 0
 have z1 := hA8.frozen 1
 have z2 := hA8.frozen 2
 have z3 := hA8.frozen 3
 have z4 := hA8.frozen 4
 have z5 := hA8.frozen 5
 have z6 := hA8.frozen 6
 have z7 := hA8.frozen 7
 have z8 := hA8.frozen 8
 go_wp2
 have hA9 := (((((((((hA8.set_ 0 (.int .i64 s.kind)).set_ 1 (.int .i64 s.txn)).set_ 2 (.bool s.yes)).set_ 3 (.string s.from_)).set_ 4 (.string s.to_)).set_ 5 (.int .i64 s.epoch)).set_ 6 (.int .i64 s.shard)).set_ 7 (.int .i64 s.target)).set_ 8 (.int .i64 s.root))
 have hfz : Fr (fun k => k = w.heap.size) w8 (((((((((w8.setCell ⟨w.heap.size, 0, none⟩ (.int .i64 s.kind)).setCell ⟨w.heap.size, 1, none⟩ (.int .i64 s.txn)).setCell ⟨w.heap.size, 2, none⟩ (.bool s.yes)).setCell ⟨w.heap.size, 3, none⟩ (.string s.from_)).setCell ⟨w.heap.size, 4, none⟩ (.string s.to_)).setCell ⟨w.heap.size, 5, none⟩ (.int .i64 s.epoch)).setCell ⟨w.heap.size, 6, none⟩ (.int .i64 s.shard)).setCell ⟨w.heap.size, 7, none⟩ (.int .i64 s.target)).setCell ⟨w.heap.size, 8, none⟩ (.int .i64 s.root)) := ((((((((((Fr.refl (fun k => k = w.heap.size) w8).setCell (p := ⟨w.heap.size, 0, none⟩) (fun _ => rfl) (.int .i64 s.kind)).setCell (p := ⟨w.heap.size, 1, none⟩) (fun _ => rfl) (.int .i64 s.txn)).setCell (p := ⟨w.heap.size, 2, none⟩) (fun _ => rfl) (.bool s.yes)).setCell (p := ⟨w.heap.size, 3, none⟩) (fun _ => rfl) (.string s.from_)).setCell (p := ⟨w.heap.size, 4, none⟩) (fun _ => rfl) (.string s.to_)).setCell (p := ⟨w.heap.size, 5, none⟩) (fun _ => rfl) (.int .i64 s.epoch)).setCell (p := ⟨w.heap.size, 6, none⟩) (fun _ => rfl) (.int .i64 s.shard)).setCell (p := ⟨w.heap.size, 7, none⟩) (fun _ => rfl) (.int .i64 s.target)).setCell (p := ⟨w.heap.size, 8, none⟩) (fun _ => rfl) (.int .i64 s.root))
 have hfe : Fr (fun _ => False) w _ := hf8.trans hfz (fun k hk e => by omega)
 have d0 := hA9.cell 0
 have d1 := hA9.cell 1
 have d2 := hA9.cell 2
 have d3 := hA9.cell 3
 have d4 := hA9.cell 4
 have d5 := hA9.cell 5
 have d6 := hA9.cell 6
 have d7 := hA9.cell 7
 have d8 := hA9.cell 8
 generalize (((((((((w8.setCell ⟨w.heap.size, 0, none⟩ (.int .i64 s.kind)).setCell ⟨w.heap.size, 1, none⟩ (.int .i64 s.txn)).setCell ⟨w.heap.size, 2, none⟩ (.bool s.yes)).setCell ⟨w.heap.size, 3, none⟩ (.string s.from_)).setCell ⟨w.heap.size, 4, none⟩ (.string s.to_)).setCell ⟨w.heap.size, 5, none⟩ (.int .i64 s.epoch)).setCell ⟨w.heap.size, 6, none⟩ (.int .i64 s.shard)).setCell ⟨w.heap.size, 7, none⟩ (.int .i64 s.target)).setCell ⟨w.heap.size, 8, none⟩ (.int .i64 s.root)) = wz at *
 refine bodyPost_ret (v := .tuple #[.agg #[.int .i64 s.kind, .int .i64 s.txn, .bool s.yes, .string s.from_, .string s.to_, .int .i64 s.epoch, .int .i64 s.shard, .int .i64 s.target, .int .i64 s.root], .int .i64 0, .slice none 0 0]) (by simp [results, Tryz.results60, go_sem, d0, d1, d2, d3, d4, d5, d6, d7, d8]) rfl ?_
 exact ⟨rfl, hfe⟩
end Go.Proofs.YtmkdhhhoodeemaaGreat

/- cohortref11: GetOrder of an order's bytes. -/
namespace Go.Proofs.YtmkdhhhoodeemaaGreat
open Go Go.RowKit
/-- A row of integers in blocks of which F holds. -/
def IntF (w : World) (F : Nat → Prop) (A : Option Addr) (l : List Int) : Prop := ∀ k x, l[k]? = some x → ∃ b o, A = some ⟨b, o, none⟩ ∧ F b ∧ w.cell? ⟨b, o + k, none⟩ = some (.int .i64 x)
theorem IntF.fr {S F : Nat → Prop} {w w' : World} {A : Option Addr} {l : List Int} (h : IntF w F A l) (hf : Fr S w w') (hS : ∀ k, F k → ¬ S k) : IntF w' F A l := fun k x hx => by
 obtain ⟨b, o, e, h1, h2⟩ := h k x hx
 exact ⟨b, o, e, h1, hf.cell_some h2 (hS b h1)⟩
theorem IntF.mono_ {w : World} {F F' : Nat → Prop} {A : Option Addr} {l : List Int} (h : IntF w F A l) (hF : ∀ k, F k → F' k) : IntF w F' A l := fun k x hx => by
 obtain ⟨b, o, e, h1, h2⟩ := h k x hx
 exact ⟨b, o, e, hF _ h1, h2⟩
/-- Entries in a row. -/
def EntRow (w : World) (F : Nat → Prop) (A : Option Addr) (l : List (ByteArray × ByteArray × Int)) : Prop :=
 ∀ k x, l[k]? = some x → ∃ b o, A = some ⟨b, o, none⟩ ∧ F b ∧ w.cell? ⟨b, o + k * 3, none⟩ = some (.string x.1) ∧ w.cell? ⟨b, o + k * 3 + 1, none⟩ = some (.string x.2.1) ∧ w.cell? ⟨b, o + k * 3 + 2, none⟩ = some (.int .i64 x.2.2)
theorem EntRow.fr {S F : Nat → Prop} {w w' : World} {A : Option Addr} {l : List (ByteArray × ByteArray × Int)} (h : EntRow w F A l) (hf : Fr S w w') (hS : ∀ k, F k → ¬ S k) : EntRow w' F A l := fun k x hx => by
 obtain ⟨b, o, e, h1, h2, h3, h4⟩ := h k x hx
 exact ⟨b, o, e, h1, hf.cell_some h2 (hS b h1), hf.cell_some h3 (hS b h1), hf.cell_some h4 (hS b h1)⟩
theorem EntRow.mono_ {w : World} {F F' : Nat → Prop} {A : Option Addr} {l : List (ByteArray × ByteArray × Int)} (h : EntRow w F A l) (hF : ∀ k, F k → F' k) : EntRow w F' A l := fun k x hx => by
 obtain ⟨b, o, e, h1, h2⟩ := h k x hx
 exact ⟨b, o, e, hF _ h1, h2⟩
theorem entry_info : (Tryz.prog.info? 119).map (fun i => (i.zero, i.size, i.bytes)) = some (some (.agg #[.string ⟨#[]⟩, .string ⟨#[]⟩, .int .i64 0]), 3, 40) := by kernel_rfl
def entB (x : ByteArray × ByteArray × Int) : List Int := textB (bytesOf x.1) ++ textB (bytesOf x.2.1) ++ num8 x.2.2
def entsV (L : List (ByteArray × ByteArray × Int)) : List Value := L.flatMap fun x => [.string x.1, .string x.2.1, .int .i64 x.2.2]
theorem triples_at {α : Type} {f g h : α → Value} : ∀ {l : List α} {k : Nat} {x : α}, l[k]? = some x → (l.flatMap fun x => [f x, g x, h x])[k * 3]? = some (f x) ∧ (l.flatMap fun x => [f x, g x, h x])[k * 3 + 1]? = some (g x) ∧ (l.flatMap fun x => [f x, g x, h x])[k * 3 + 2]? = some (h x)
 | [], k, x, e => by simp at e
 | y :: l, 0, x, e => by simp at e; subst e; exact ⟨rfl, rfl, rfl⟩
 | y :: l, k + 1, x, e => by
  have e' : l[k]? = some x := by simpa using e
  obtain ⟨h1, h2, h3⟩ := triples_at (f := f) (g := g) (h := h) e'
  rw [List.flatMap_cons]
  refine ⟨?_, ?_, ?_⟩
  ·rw [show (k + 1) * 3 = k * 3 + 3 by omega]; simpa using h1
  ·rw [show (k + 1) * 3 + 1 = (k * 3 + 1) + 3 by omega]; simpa using h2
  ·rw [show (k + 1) * 3 + 2 = (k * 3 + 2) + 3 by omega]; simpa using h3
theorem own_ents {w : World} {base : Nat} {v : Value} {L : List (ByteArray × ByteArray × Int)} (h : w.ownsRow base 119 3 v L.length (entsV L)) : ∃ A c, v = .slice A L.length c ∧ EntRow w (fun k => base ≤ k) A L := by
 obtain ⟨A, c, rfl, _, hat⟩ := own_form h
 refine ⟨A, c, rfl, fun k x hx => ?_⟩
 obtain ⟨h1, h2, h3⟩ := triples_at (f := fun x => .string x.1) (g := fun x => .string x.2.1) (h := fun x => .int .i64 x.2.2) hx
 obtain ⟨b, rfl, hb, c1⟩ := hat _ _ h1
 obtain ⟨b', he, _, c2⟩ := hat _ _ h2
 cases he
 obtain ⟨b', he, _, c3⟩ := hat _ _ h3
 cases he
 exact ⟨b, 0, rfl, hb, by rw [Nat.zero_add]; exact c1, by rw [Nat.zero_add]; exact c2, by rw [Nat.zero_add]; exact c3⟩
theorem own_ints {w : World} {base : Nat} {e : TypeId} {v : Value} {l : List Int} (h : w.ownsRow base e 1 v l.length (num64V l)) : ∃ A c, v = .slice A l.length c ∧ IntF w (fun k => base ≤ k) A l := by
 obtain ⟨A, c, rfl, _, hat⟩ := own_form h
 refine ⟨A, c, rfl, fun k x hx => ?_⟩
 obtain ⟨b, rfl, hb, c1⟩ := hat k (.int .i64 x) (by rw [num64V, List.getElem?_map, hx]; rfl)
 exact ⟨b, 0, rfl, hb, by rw [Nat.zero_add]; exact c1⟩
theorem cell_three (w : World) (a b d : Value) (t : TypeId) : ∀ j u, [a, b, d][j]? = some u → (w.alloc (.cells #[a, b, d] t)).cell? ⟨w.heap.size, j, none⟩ = some u := by
 intro j u hu
 have := (Blk.new w t #[a, b, d]).cell j
 rw [this]
 simpa using hu
/-- An order's bytes. -/
def ordB (kind : Int) (t0 t1 t2 : List Int) (many first : Int) (L : List (ByteArray × ByteArray × Int)) (Bs : List Int) : List Int :=
 num8 kind ++ (textB t0 ++ (textB t1 ++ (textB t2 ++ (num8 many ++ (num8 first ++ (num8 (L.length : Int) ++ (L.flatMap entB ++ numsB Bs)))))))
theorem orderB_ordB (kind : Int) (t0 t1 t2 : List Int) : orderB kind t0 t1 t2 = ordB kind t0 t1 t2 0 0 [] [] := by
 simp [orderB, ordB]
/-- A certificate read. -/
def CertGot (w : World) (G D : Int) (S : List Int) (e : Ending) (w' : World) : Prop :=
 ∃ CA cc, e = .returned (.tuple #[.agg #[.int .i64 G, .int .i64 D, .slice CA S.length cc], .int .i64 0, .slice none 0 0]) ∧ IntF w' (fun k => w.heap.size ≤ k) CA S ∧ Fr (fun _ => False) w w'
/-- An order read. -/
def OrdGot (w : World) (kind c n : Int) (R : List (ByteArray × Int)) (W : List (ByteArray × ByteArray)) (s : SayD) (G D : Int) (S : List Int) (many first : Int) (L : List (ByteArray × ByteArray × Int)) (Bs : List Int) (e : Ending) (w' : World) : Prop :=
 ∃ RA cr WA cw CA cc EA ce VA cv, e = .returned (.tuple #[.agg #[.int .i64 kind, .int .i64 c, .int .i64 n, .slice RA R.length cr, .slice WA W.length cw, .int .i64 s.kind, .int .i64 s.txn, .bool s.yes, .string s.from_, .string s.to_, .int .i64 s.epoch, .int .i64 s.shard, .int .i64 s.target, .int .i64 s.root, .int .i64 G, .int .i64 D, .slice CA S.length cc, .int .i64 many, .int .i64 first, .slice EA L.length ce, .slice VA Bs.length cv], .int .i64 0, .slice none 0 0]) ∧ ReadRow w' (fun k => w.heap.size ≤ k) RA R ∧ WriteRow w' (fun k => w.heap.size ≤ k) WA W ∧ IntF w' (fun k => w.heap.size ≤ k) CA S ∧ EntRow w' (fun k => w.heap.size ≤ k) EA L ∧ IntF w' (fun k => w.heap.size ≤ k) VA Bs ∧ Fr (fun _ => False) w w'
/-- A thing that is read part by part: its cells, the result's, the reader, texts that were read. -/
structure GO (w0 w : World) (a gt g : Nat) (cs : Array Value) (s : List Int) (rows : List (Option Addr × List Int)) : Prop where
 res : Blk w a 62 #[.int .i64 0, .int .i64 0, .int .i64 0, .slice none 0 0, .slice none 0 0, .int .i64 0, .int .i64 0, .bool false, .string ⟨#[]⟩, .string ⟨#[]⟩, .int .i64 0, .int .i64 0, .int .i64 0, .int .i64 0, .int .i64 0, .int .i64 0, .slice none 0 0, .int .i64 0, .int .i64 0, .slice none 0 0, .slice none 0 0]
 t : Blk w gt 62 cs
 r : RS w g s
 rows : ∀ p ∈ rows, ByteRow w (U8 w) p.1 p.2
 f : Fr (fun _ => False) w0 w
 ha : w0.heap.size = a
 hag : a < gt
 hg : a < g
theorem GO.keep {w0 w w' : World} {a gt g : Nat} {cs : Array Value} {s : List Int} {rows : List (Option Addr × List Int)} (h : GO w0 w a gt g cs s rows) (hf : Fr (fun _ => False) w w') : GO w0 w' a gt g cs s rows :=
 ⟨h.res.fr hf id, h.t.fr hf id, h.r.keep hf, fun p hp => (h.rows p hp).u8 hf (fun _ _ => id), h.f.then_ hf, h.ha, h.hag, h.hg⟩
theorem GO.read {w0 w w' : World} {a gt g : Nat} {cs : Array Value} {s s' : List Int} {rows : List (Option Addr × List Int)} (h : GO w0 w a gt g cs s rows) (hf : Fr (fun k => k = g) w w') (hr : RS w' g s') : GO w0 w' a gt g cs s' rows :=
 ⟨h.res.fr hf (h.r.ne h.res (by decide)), h.t.fr hf (h.r.ne h.t (by decide)), hr, fun p hp => (h.rows p hp).u8 hf (fun q hq e => by obtain ⟨ds, hD⟩ := h.r.blk; exact hq.ne_blk hD (by decide) e), h.f.trans hf (fun k hk e => by have := h.hg; have := h.ha; omega), h.ha, h.hag, h.hg⟩
theorem GO.readT {w0 w w' : World} {a gt g : Nat} {cs : Array Value} {xs s s' : List Int} {A : Option Addr} {rows : List (Option Addr × List Int)} (h : GO w0 w a gt g cs s rows) (hf : Fr (fun k => k = g) w w') (hr : RS w' g s') (hA : ByteRow w' (U8 w') A xs) : GO w0 w' a gt g cs s' ((A, xs) :: rows) := by
 have h' := h.read hf hr
 refine ⟨h'.res, h'.t, h'.r, fun p hp => ?_, h'.f, h'.ha, h'.hag, h'.hg⟩
 rcases List.mem_cons.1 hp with e | hp
 ·subst e; exact hA
 ·exact h'.rows p hp
theorem GO.set {w0 w : World} {a gt g : Nat} {cs : Array Value} {s : List Int} {rows : List (Option Addr × List Int)} (h : GO w0 w a gt g cs s rows) (i : Nat) (u : Value) : GO w0 (w.setCell ⟨gt, i, none⟩ u) a gt g (cs.setIfInBounds i u) s rows :=
  ⟨h.res.far (p := ⟨gt, i, none⟩) (fun e => by have := h.hag; dsimp only at e; omega) u, h.t.set_ i u, h.r.far h.t (by decide) (by decide) i u,
   fun p hp => (h.rows p hp).u8 ((Fr.refl (fun k => k = gt) w).setCell (p := ⟨gt, i, none⟩) (fun _ => rfl) u) (fun q hq e => hq.ne_blk h.t (by decide) e),
   h.f.setCell (p := ⟨gt, i, none⟩) (fun hh => absurd hh (by have := h.hag; have := h.ha; dsimp only; omega)) _, h.ha, h.hag, h.hg⟩
theorem GO.own {w0 w w' : World} {a gt g base n size : Nat} {cs : Array Value} {s : List Int} {rows : List (Option Addr × List Int)} {e : TypeId} {v : Value} {xs : List Value} (h : GO w0 w a gt g cs s rows) (ho : w.ownsRow base e size v n xs) (hb : w0.heap.size ≤ base) (h8 : e ≠ 5) (hr : e ≠ 131) (hO : e ≠ 62) (hf : Fr (fun k => v.ownBlock = some k) w w') : GO w0 w' a gt g cs s rows :=
 ⟨h.res.fr hf (own_ne_blk ho h.res hO), h.t.fr hf (own_ne_blk ho h.t hO), h.r.own ho h8 hr hf, fun p hp => (h.rows p hp).u8 hf (fun q hq => hq.ne_own ho h8), h.f.trans hf (fun k hk e => by have := own_ge ho k e; omega), h.ha, h.hag, h.hg⟩
theorem GO.ownG {w0 w w' : World} {a gt g base n size : Nat} {cs : Array Value} {s : List Int} {rows : List (Option Addr × List Int)} {e : TypeId} {v : Value} {xs : List Value} (h : GO w0 w a gt g cs s rows) (ho : w.ownsRow base e size v n xs) (hr : e ≠ 131) (hf : Fr (fun k => k = g) w w') : w'.ownsRow base e size v n xs :=
 own_fr ho hf (fun q hq e => by obtain ⟨ds, hD⟩ := h.r.blk; exact own_ne_blk ho hD hr (e ▸ hq))
theorem Blk.setRow_ {w : World} {g : Nat} {t : TypeId} {cs ds : Array Value} (h : Blk w g t cs) : Blk (w.setRow g ds) g t ds := by
 have hlt := h.lt
 have e := h
 simp only [Blk, World.setRow] at e ⊢
 simp [Array.getElem?_modify, e]
theorem Fr.setRow_ {w : World} {g : Nat} {ds : Array Value} : Fr (fun k => k = g) w (w.setRow g ds) := by
 refine ⟨rfl, rfl, rfl, by simp [World.setRow], fun k _ hk => ?_⟩
 have : g ≠ k := fun e => hk e.symm
 simp [World.setRow, Array.getElem?_modify, this]
theorem results_row3 {P : Program} {fn : Func} {p i j : Tmp} {ty : TypeId} (h : fn.results = #[.cell p ty, .tmp i, .tmp j]) (tmps : Array Value) (w : World) (g : Nat) (t : TypeId) (cs : Array Value) (fr : Nat × Nat) (d : TypeDesc)
  (hp : tmps.getD p undef = .pointer (some ⟨g, 0, none⟩)) (hg : w.heap[g]? = some (.cells cs t fr))
  (hu : P.underlying ty = some d) (hd : (match d with | .struct _ | .array _ _ => true | _ => false) = true) (hi : (P.info? ty).map (·.size) = some cs.size) {vi vj : Value} (h1 : tmps.getD i undef = vi) (h2 : tmps.getD j undef = vj) :
  (results fn tmps).run P w = .ok (.tuple #[.agg cs, vi, vj]) w := by
 have hp' : tmps[p]?.getD undef = .pointer (some ⟨g, 0, none⟩) := by simpa using hp
 have h1' : tmps[i]?.getD undef = vi := by simpa using h1
 have h2' : tmps[j]?.getD undef = vj := by simpa using h2
 simp [results, h, hp', h1', h2', asAddr, run_loadVar_row w g t ty cs fr d hg hu hd hi]
theorem Blk.there {w : World} {g : Nat} {t : TypeId} {cs : Array Value} (h : Blk w g t cs) {o n : Nat} (hn : o + n ≤ cs.size) : w.there g o n := fun j hj => by
 rw [h.cell, h.frozen]
 have : o + j < cs.size := by omega
 simp [this]
set_option maxRecDepth 100000 in
set_option maxHeartbeats 8000000 in
theorem ref11_GetOrder {w : World} {F : Nat → Prop} {A : Option Addr} {cap : Nat} {kind c n G D many first : Int} {R : List (ByteArray × Int)} {W : List (ByteArray × ByteArray)} {s : SayD} {S Bs t0 t1 t2 : List Int} {L : List (ByteArray × ByteArray × Int)}
    (hr : ByteRow w F A (ordB kind t0 t1 t2 many first L Bs)) (hlen : (ordB kind t0 t1 t2 many first L Bs).length ≤ 1099511627776)
    (hk0 : -9223372036854775808 ≤ kind) (hk1 : kind ≤ 9223372036854775807) (l0 : t0.length ≤ 65536) (l1 : t1.length ≤ 65536) (l2 : t2.length ≤ 65536)
    (m0 : 0 ≤ many) (m1 : many ≤ 1024) (f0 : 0 ≤ first) (f1 : first ≤ 1024) (lL : L.length ≤ 1024) (eL : ∀ x ∈ L, x.1.size ≤ 65536 ∧ x.2.1.size ≤ 65536 ∧ -9223372036854775808 ≤ x.2.2 ∧ x.2.2 ≤ 9223372036854775807)
    (lB : Bs.length ≤ 1024) (eB : ∀ y ∈ Bs, -9223372036854775808 ≤ y ∧ y ≤ 9223372036854775807)
    (hT : (t0.length = 0 ∧ c = 0 ∧ n = 0 ∧ R = [] ∧ W = []) ∨ (0 < t0.length ∧ ∀ w' F' A' cap', ByteRow w' F' A' t0 → Calls Tryz.prog 49 #[.slice A' t0.length cap'] w' (TxnGot w' c n R W)))
    (hS : (t1.length = 0 ∧ s = ⟨0, 0, false, ⟨#[]⟩, ⟨#[]⟩, 0, 0, 0, 0⟩) ∨ (0 < t1.length ∧ ∀ w' F' A' cap', ByteRow w' F' A' t1 → Calls Tryz.prog 60 #[.slice A' t1.length cap'] w' (SayGot w' s)))
    (hC : ∀ w' F' A' cap', ByteRow w' F' A' t2 → Calls Tryz.prog 61 #[.slice A' t2.length cap'] w' (CertGot w' G D S))
    (hQ : ∀ w' RA cr WA cw CA cc EA ce VA cv, ReadRow w' (fun k => w.heap.size ≤ k) RA R → WriteRow w' (fun k => w.heap.size ≤ k) WA W → IntF w' (fun k => w.heap.size ≤ k) CA S → EntRow w' (fun k => w.heap.size ≤ k) EA L → IntF w' (fun k => w.heap.size ≤ k) VA Bs → Calls Tryz.prog 62 #[.agg #[.int .i64 kind, .int .i64 c, .int .i64 n, .slice RA R.length cr, .slice WA W.length cw, .int .i64 s.kind, .int .i64 s.txn, .bool s.yes, .string s.from_, .string s.to_, .int .i64 s.epoch, .int .i64 s.shard, .int .i64 s.target, .int .i64 s.root, .int .i64 G, .int .i64 D, .slice CA S.length cc, .int .i64 many, .int .i64 first, .slice EA L.length ce, .slice VA Bs.length cv]] w' (OkB w' true)) :
    Calls Tryz.prog 19 #[.slice A (ordB kind t0 t1 t2 many first L Bs).length cap] w (OrdGot w kind c n R W s G D S many first L Bs) := by
  obtain ⟨bs, hbs⟩ : ∃ bs, Hid (ordB kind t0 t1 t2 many first L Bs = bs) := ⟨_, rfl⟩
  have h0 : 0 < bs.length := by rw [← hbs.out]; simp [ordB, num8_length]; omega
  have hbs2 : Hid (bs = num8 kind ++ (textB t0 ++ (textB t1 ++ (textB t2 ++ (num8 many ++ (num8 first ++ (num8 (L.length : Int) ++ (L.flatMap entB ++ (numsB Bs ++ []))))))))) := by show _ = _; rw [← hbs.out, ordB, List.append_nil]
  rw [hbs.out] at hr hlen ⊢
  have EL := Lib.hid eL
  have EB := Lib.hid eB
  have HT := Lib.hid hT
  have HS := Lib.hid hS
  have HC := Lib.hid hC
  have HQ := Lib.hid hQ
  clear hbs eL eB hT hS hC hQ
  have hf0 : Fr (fun _ => False) w (w.alloc (Obj.cells #[.int .i64 0, .int .i64 0, .int .i64 0, .slice none 0 0, .slice none 0 0, .int .i64 0, .int .i64 0, .bool false, .string ⟨#[]⟩, .string ⟨#[]⟩, .int .i64 0, .int .i64 0, .int .i64 0, .int .i64 0, .int .i64 0, .int .i64 0, .slice none 0 0, .int .i64 0, .int .i64 0, .slice none 0 0, .slice none 0 0] 62)) := (Fr.refl _ _).alloc _
  have hA0 := Blk.new w 62 #[.int .i64 0, .int .i64 0, .int .i64 0, .slice none 0 0, .slice none 0 0, .int .i64 0, .int .i64 0, .bool false, .string ⟨#[]⟩, .string ⟨#[]⟩, .int .i64 0, .int .i64 0, .int .i64 0, .int .i64 0, .int .i64 0, .int .i64 0, .slice none 0 0, .int .i64 0, .int .i64 0, .slice none 0 0, .slice none 0 0]
  have HNew := Lib.hid (rs_New (cap := cap) (hr.fr hf0 (fun _ _ => id)) h0 hlen)
  go_enter Tryz.func19, Tryz.ntmps19
  go_upto_region 2 with (go_at_call 53; refine HNew.out.mono ?_; rintro e w1 ⟨g, rfl, hg, hS1, hf1⟩)
  have h2 : GO w (w1.alloc (Obj.cells #[.int .i64 0, .int .i64 0, .int .i64 0, .slice none 0 0, .slice none 0 0, .int .i64 0, .int .i64 0, .bool false, .string ⟨#[]⟩, .string ⟨#[]⟩, .int .i64 0, .int .i64 0, .int .i64 0, .int .i64 0, .int .i64 0, .int .i64 0, .slice none 0 0, .int .i64 0, .int .i64 0, .slice none 0 0, .slice none 0 0] 62)) w.heap.size w1.heap.size g #[.int .i64 0, .int .i64 0, .int .i64 0, .slice none 0 0, .slice none 0 0, .int .i64 0, .int .i64 0, .bool false, .string ⟨#[]⟩, .string ⟨#[]⟩, .int .i64 0, .int .i64 0, .int .i64 0, .int .i64 0, .int .i64 0, .int .i64 0, .slice none 0 0, .int .i64 0, .int .i64 0, .slice none 0 0, .slice none 0 0] bs [] := by
    have hfx := (Fr.refl (fun _ => False) w1).alloc (Obj.cells #[.int .i64 0, .int .i64 0, .int .i64 0, .slice none 0 0, .slice none 0 0, .int .i64 0, .int .i64 0, .bool false, .string ⟨#[]⟩, .string ⟨#[]⟩, .int .i64 0, .int .i64 0, .int .i64 0, .int .i64 0, .int .i64 0, .int .i64 0, .slice none 0 0, .int .i64 0, .int .i64 0, .slice none 0 0, .slice none 0 0] 62)
    exact ⟨(hA0.fr hf1 id).fr hfx id, Blk.new w1 _ _, hS1.keep hfx, fun p hp => by simp at hp, (hf0.then_ hf1).then_ hfx, rfl, Nat.lt_of_lt_of_le hA0.lt hf1.size, Nat.lt_of_lt_of_le hA0.lt hg⟩
  go_upto_region 3 with fail
  generalize w1.alloc (Obj.cells #[.int .i64 0, .int .i64 0, .int .i64 0, .slice none 0 0, .slice none 0 0, .int .i64 0, .int .i64 0, .bool false, .string ⟨#[]⟩, .string ⟨#[]⟩, .int .i64 0, .int .i64 0, .int .i64 0, .int .i64 0, .int .i64 0, .int .i64 0, .slice none 0 0, .int .i64 0, .int .i64 0, .slice none 0 0, .slice none 0 0] 62) = w2 at *
  obtain ⟨gt, hgt⟩ : ∃ cc, Hid (w1.heap.size = cc) := ⟨_, rfl⟩
  obtain ⟨a, ha⟩ : ∃ cc, Hid (w.heap.size = cc) := ⟨_, rfl⟩
  rw [hgt.out, ha.out] at h2
  rw [hgt.out, ha.out]
  clear hA0 hf0 hf1 HNew hg hS1 hr
  rw [hbs2.out] at h2
  clear hbs2 hlen h0
  have H := Lib.hid (rs_Num h2.r (by omega) (by omega))
  go_upto_region 4 with (go_at_call 54; refine H.out.mono ?_; rintro e w3 ⟨rfl, hS, hf⟩; have h3 := h2.read hf hS; have y := h3.t.cell 0; have z := h3.t.frozen 0)
  have h4 := h3.set 0 (.int .i64 kind)
  generalize w3.setCell ⟨gt, 0, none⟩ (.int .i64 kind) = w4 at *
  clear H h2 h3 hS hf y z
  have H := Lib.hid (rs_Text h4.r (by omega))
  go_upto_region 5 with (go_at_call 55; refine H.out.mono ?_; rintro e w5 ⟨v5, rfl, hv, hS, hf⟩; obtain ⟨A5, c5, rfl, _, hr5⟩ := hv.u8row)
  have h5 := h4.readT hf hS hr5
  clear H h4 hS hf hv hr5
  have H := Lib.hid (rs_Text h5.r (by omega))
  go_upto_region 6 with (go_at_call 55; refine H.out.mono ?_; rintro e w6 ⟨v6, rfl, hv, hS, hf⟩; obtain ⟨A6, c6, rfl, _, hr6⟩ := hv.u8row)
  have h6 := h5.readT hf hS hr6
  clear H h5 hS hf hv hr6
  have H := Lib.hid (rs_Text h6.r (by omega))
  go_upto_region 7 with (go_at_call 55; refine H.out.mono ?_; rintro e w7 ⟨v7, rfl, hv, hS, hf⟩; obtain ⟨A7, c7, rfl, _, hr7⟩ := hv.u8row)
  have h7 := h6.readT hf hS hr7
  clear H h6 hS hf hv hr7
  have H := Lib.hid (rs_Int (most := 1024) h7.r (by omega) (by omega) (by omega))
  go_upto_region 8 with (go_at_call 56; refine H.out.mono ?_; rintro e w8 ⟨rfl, hS, hf⟩; have h8 := h7.read hf hS; have y := h8.t.cell 17; have z := h8.t.frozen 17)
  have h9 := h8.set 17 (.int .i64 many)
  generalize w8.setCell ⟨gt, 17, none⟩ (.int .i64 many) = w9 at *
  clear H h7 h8 hS hf y z
  have H := Lib.hid (rs_Int (most := 1024) h9.r (by omega) (by omega) (by omega))
  go_upto_region 9 with (go_at_call 56; refine H.out.mono ?_; rintro e w10 ⟨rfl, hS, hf⟩; have h10 := h9.read hf hS; have y := h10.t.cell 18; have z := h10.t.frozen 18)
  have h11 := h10.set 18 (.int .i64 first)
  generalize w10.setCell ⟨gt, 18, none⟩ (.int .i64 first) = w11 at *
  clear H h9 h10 hS hf y z
  have H := Lib.hid (rs_Int (most := 1024) h11.r (by omega) (by omega) (by omega))
  go_upto_region 10 with (go_at_call 56; refine H.out.mono ?_; rintro e w12 ⟨rfl, hS, hf⟩)
  have h12 := h11.read hf hS
  clear H h11 hS hf
  rw [ha.out] at HQ
  have hie := entry_info
  have hii := int_info
  have haw := h12.ha
  go_upto_region 11 with fail
  go_loopw [11] (fun i wr => ∃ (k : Nat) (lv : Value), k ≤ L.length ∧ i = .int .i64 k ∧ wr.ownsRow (a + 1) 119 3 lv k (entsV (L.take k)) ∧ GO w wr a gt g #[.int .i64 kind, .int .i64 0, .int .i64 0, .slice none 0 0, .slice none 0 0, .int .i64 0, .int .i64 0, .bool false, .string ⟨#[]⟩, .string ⟨#[]⟩, .int .i64 0, .int .i64 0, .int .i64 0, .int .i64 0, .int .i64 0, .int .i64 0, .slice none 0 0, .int .i64 many, .int .i64 first, lv, .slice none 0 0] ((L.drop k).flatMap entB ++ (numsB Bs ++ [])) [(A7, t2), (A6, t1), (A5, t0)]) (fun i _ => L.length - (intOf i).toNat)
  case atStart => exact ⟨0, _, by omega, rfl, World.ownsRow_nil _ _ _ _, h12⟩
  case round =>
    clear h12
    obtain ⟨k, lv, hk, rfl, hown, h⟩ := hrel
    by_cases hlt : k < L.length
    · have hlt' : (k : Int) < (L.length : Int) := by omega
      obtain ⟨x, hx⟩ : ∃ x, L[k]? = some x := ⟨L[k], List.getElem?_eq_getElem hlt⟩
      rw [drop_mem hx, List.flatMap_cons, entB, List.append_assoc, List.append_assoc, List.append_assoc] at h
      have hx1 := EL.out x (List.mem_of_getElem? hx)
      have HX := Lib.hid hx
      obtain ⟨Av, cv, hev, _, _⟩ := own_form hown
      subst hev
      have e0 := h.r.e
      clear hx
      have H1 := Lib.hid (rs_Text h.r (by rw [bytesOf_length]; omega))
      go_upto_region 14 with (go_at_call 55; refine H1.out.mono ?_; rintro e w7 ⟨v7, rfl, hv7, hS7, hf7⟩)
      obtain ⟨A8, c8, rfl, _, hr7⟩ := hv7.u8row
      rw [bytesOf_length] at *
      have h7 := h.readT hf7 hS7 hr7
      have hown7 := h.ownG hown (by decide) hf7
      clear H1 h hown hS7 hf7 hv7 hr7 e0
      have H2 := Lib.hid (rs_Text h7.r (by rw [bytesOf_length]; omega))
      go_upto_region 15 with (go_at_call 55; refine H2.out.mono ?_; rintro e w8 ⟨v8, rfl, hv8, hS8, hf8⟩)
      obtain ⟨A9, c9, rfl, _, hr8⟩ := hv8.u8row
      rw [bytesOf_length] at *
      have h8 := h7.readT hf8 hS8 hr8
      have hown8 := h7.ownG hown7 (by decide) hf8
      clear H2 h7 hown7 hS8 hf8 hv8 hr8
      have H3 := Lib.hid (rs_Num h8.r (by omega) (by omega))
      go_upto_region 16 with (go_at_call 54; refine H3.out.mono ?_; rintro e w9 ⟨rfl, hS9, hf9⟩)
      have h9 := h8.read hf9 hS9
      have hown9 := h8.ownG hown8 (by decide) hf9
      clear H3 h8 hown8 hS9 hf9
      have hcv := conv_bytes (w := w9) (n := x.1.size) (cap := c8) (h9.rows (A8, bytesOf x.1) (by simp)) (by rw [bytesOf_length])
      have hcv2 := conv_bytes (w := w9) (n := x.2.1.size) (cap := c9) (h9.rows (A9, bytesOf x.2.1) (by simp)) (by rw [bytesOf_length])
      rw [strOf_bytesOf] at hcv hcv2
      have y3 := h9.t.cell 19
      have z3 := h9.t.frozen 19
      have hz9 : a + 1 ≤ w9.heap.size := h9.res.lt
      have h9' : GO w w9 a gt g #[.int .i64 kind, .int .i64 0, .int .i64 0, .slice none 0 0, .slice none 0 0, .int .i64 0, .int .i64 0, .bool false, .string ⟨#[]⟩, .string ⟨#[]⟩, .int .i64 0, .int .i64 0, .int .i64 0, .int .i64 0, .int .i64 0, .int .i64 0, .slice none 0 0, .int .i64 many, .int .i64 first, .slice Av k cv, .slice none 0 0] ((L.drop (k + 1)).flatMap entB ++ (numsB Bs ++ [])) [(A7, t2), (A6, t1), (A5, t0)] := ⟨h9.res, h9.t, h9.r, fun p hp => h9.rows p (List.mem_cons_of_mem _ (List.mem_cons_of_mem _ hp)), h9.f, h9.ha, h9.hag, h9.hg⟩
      clear h9
      go_wp2_with (at_builtin; refine wpList_append_el _ rfl _ _ 31 rfl (a + 1) 119 _ 3 40 Tryz.underlying31 hie rfl (by decide) _ k (entsV (L.take k)) rfl (own_fr hown9 ((Fr.refl (fun _ => False) w9).alloc _) (fun _ _ => id)) w9.heap.size [.string x.1, .string x.2.1, .int .i64 x.2.2] rfl rfl (cell_three w9 _ _ _ _) (by simp [Value.oneCell']) (by omega) (by decide) (by simp; omega) ?_; intro g' c' w10 hown10 hf10; have hfa := (Fr.refl (fun _ => False) w9).alloc (Obj.cells #[.string x.1, .string x.2.1, .int .i64 x.2.2] 119); have h10 := (h9'.keep hfa).own (own_fr hown9 hfa (fun _ _ => id)) (by omega) (by decide) (by decide) (by decide) hf10; have y9 := h10.t.cell 19; have z9 := h10.t.frozen 19)
      have hT10 := h10.t
      have h11 := h10.set 19 (.slice (some ⟨g', 0, none⟩) (k + 1) c')
      have hown11 := own_setCell hown10 hT10 (by decide) 19 (.slice (some ⟨g', 0, none⟩) (k + 1) c')
      go_roundw
      case rel =>
        refine ⟨k + 1, _, by omega, by go_num, ?_, h11⟩
        rw [take_mem HX.out, entsV, List.flatMap_append]
        exact hown11
      case measure => simp [intOf]; omega
    · obtain rfl : k = L.length := by omega
      rw [List.take_length] at hown
      rw [List.drop_length, List.flatMap_nil, List.nil_append] at h
      obtain ⟨EA, ce, rfl, _⟩ := own_ents hown
      have H := Lib.hid (rs_Nums h.r lB EB.out)
      go_upto_region 18 with (go_at_call 57; refine H.out.mono ?_; rintro e w13 ⟨v13, rfl, hv13, hS13, hf13⟩)
      have h13 := h.read hf13 hS13
      have hE13 := h.ownG hown (by decide) hf13
      have hza := h.res.lt
      have hv13 := own_base hv13 (base' := a + 1) (by omega)
      obtain ⟨NA, cn, rfl, _⟩ := own_ints hv13
      clear H h hown hS13 hf13
      go_upto_region 19 with fail
      go_loopw [16] (fun i wr => ∃ (k : Nat) (lv : Value), k ≤ Bs.length ∧ i = .int .i64 k ∧ wr.ownsRow (a + 1) 3 1 lv k (num64V (Bs.take k)) ∧ wr.ownsRow (a + 1) 2 1 (.slice NA Bs.length cn) Bs.length (num64V Bs) ∧ wr.ownsRow (a + 1) 119 3 (.slice EA L.length ce) L.length (entsV L) ∧ GO w wr a gt g #[.int .i64 kind, .int .i64 0, .int .i64 0, .slice none 0 0, .slice none 0 0, .int .i64 0, .int .i64 0, .bool false, .string ⟨#[]⟩, .string ⟨#[]⟩, .int .i64 0, .int .i64 0, .int .i64 0, .int .i64 0, .int .i64 0, .int .i64 0, .slice none 0 0, .int .i64 many, .int .i64 first, .slice EA L.length ce, lv] ([]) [(A7, t2), (A6, t1), (A5, t0)]) (fun i _ => Bs.length - (intOf i).toNat)
      case atStart => exact ⟨0, _, by omega, rfl, World.ownsRow_nil _ _ _ _, hv13, hE13, h13⟩
      case round =>
        clear h13 hE13 hv13
        obtain ⟨k, lv, hk, rfl, hown, hnum, hent, h⟩ := hrel
        by_cases hlt : k < Bs.length
        · have hlt' : (k : Int) < (Bs.length : Int) := by omega
          obtain ⟨x, hx⟩ : ∃ x, Bs[k]? = some x := ⟨Bs[k], List.getElem?_eq_getElem hlt⟩
          obtain ⟨_, _, eN, hN⟩ := own_ints hnum
          cases eN
          obtain ⟨b, o, rfl, hb, hcb⟩ := hN k x hx
          have HX := Lib.hid hx
          have HN := Lib.hid hN
          have Hnum := Lib.hid hnum
          have Hent := Lib.hid hent
          obtain ⟨Av, cv, hev, _, _⟩ := own_form hown
          subst hev
          clear hx hN hnum hent
          have d1 := hcb
          have hfa : Fr (fun _ => False) wr (wr.alloc (Obj.cells #[.int .i64 x] 3)).drew := ((Fr.refl (fun _ => False) wr).alloc _).drew
          have h3 := h.keep hfa
          have ho3 := own_fr hown hfa (fun _ _ => id)
          have hz3 := h3.res.lt
          have y0 := h.t.cell 20
          have y3 := h3.t.cell 20
          have y2 : (wr.alloc (Obj.cells #[.int .i64 x] 3)).cell? ⟨gt, 20, none⟩ = some (.slice Av k cv) := y3
          have hone : ∀ (j : Nat) u', ([.int .i64 x] : List Value)[j]? = some u' → (wr.alloc (Obj.cells #[.int .i64 x] 3)).drew.cell? ((⟨wr.heap.size, 0, none⟩ : Addr).add j) = some u' := new_one wr 3 (.int .i64 x)
          go_upto_region 21 with fail
          go_region_law (refine step_append_gen rfl (.tmp 90) (.tmp 95) 30 3 rfl Tryz.underlying30 int_info rfl (a + 1) (.slice Av k cv) k (num64V (Bs.take k)) (by rfl) ho3 ⟨wr.heap.size, 0, none⟩ 1 1 [.int .i64 x] (by rfl) rfl hone (fun u hu => by rw [List.mem_singleton.1 hu]; rfl) (by omega) (by decide) (by omega) ?_; intro v4 w4 h4 hf4 hk4; obtain ⟨A4, cap4, rfl, _, _⟩ := own_form h4; have h4g := h3.own ho3 (by omega) (by decide) (by decide) (by decide) hf4; have d0 := h4g.t.cell 20; have z0 := h4g.t.frozen 20)
          all_goals go_wp2_with fail
          all_goals go_roundw
          all_goals first
            | (refine ⟨k + 1, _, by omega, by go_num, ?_, own_setCell (own_fr (own_fr Hnum.out hfa (fun _ _ => id)) hf4 (fun q hq e => by obtain ⟨ds, hD⟩ := own_cells (own_fr Hnum.out hfa (fun _ _ => id)) hq; exact own_ne_blk ho3 hD (by decide) e)) h4g.t (by decide) 20 _, own_setCell (own_fr (own_fr Hent.out hfa (fun _ _ => id)) hf4 (fun q hq e => by obtain ⟨ds, hD⟩ := own_cells (own_fr Hent.out hfa (fun _ _ => id)) hq; exact own_ne_blk ho3 hD (by decide) e)) h4g.t (by decide) 20 _, h4g.set 20 _⟩
               rw [take_mem HX.out, num64V, List.map_append]
               exact own_setCell h4 h4g.t (by decide) 20 _)
            | (simp [intOf]; omega)
        · obtain rfl : k = Bs.length := by omega
          rw [List.take_length] at hown
          obtain ⟨VA, cv, rfl, _⟩ := own_ints hown
          have H := Lib.hid (rs_End h.r)
          go_upto_region 23 with (go_at_call 58; refine H.out.mono ?_; rintro e w6 ⟨rfl, hf6⟩)
          have hfs := (Fr.refl (fun _ => False) w6).alloc (Obj.cells #[.string ⟨#[]⟩, .int .i64 0] 70)
          have h7 := (h.keep hf6).keep hfs
          have hE7 := own_fr (own_fr hent hf6 (fun _ _ => id)) hfs (fun _ _ => id)
          have hV7 := own_fr (own_fr hown hf6 (fun _ _ => id)) hfs (fun _ _ => id)
          generalize w6.alloc (Obj.cells #[.string ⟨#[]⟩, .int .i64 0] 70) = w7 at *
          clear H h hown hnum hent hf6 hfs
          go_upto_if 113 with fail
          go_cut [] from 19 to 127 (fun wx => ∃ RA cr WA cw, GO w wx a gt g #[.int .i64 kind, .int .i64 c, .int .i64 n, .slice RA R.length cr, .slice WA W.length cw, .int .i64 0, .int .i64 0, .bool false, .string ⟨#[]⟩, .string ⟨#[]⟩, .int .i64 0, .int .i64 0, .int .i64 0, .int .i64 0, .int .i64 0, .int .i64 0, .slice none 0 0, .int .i64 many, .int .i64 first, .slice EA L.length ce, .slice VA Bs.length cv] [] [(A7, t2), (A6, t1), (A5, t0)] ∧ ReadRow wx (fun k => gt < k) RA R ∧ WriteRow wx (fun k => gt < k) WA W ∧ wx.ownsRow (a + 1) 119 3 (.slice EA L.length ce) L.length (entsV L) ∧ wx.ownsRow (a + 1) 3 1 (.slice VA Bs.length cv) Bs.length (num64V Bs))
          case first =>
            rcases HT.out with ⟨e0, rfl, rfl, rfl, rfl⟩ | ⟨e0, HTx⟩
            · have e0' : ¬ (0 : Int) < (t0.length : Int) := by omega
              clear e0
              go_wp2_with fail
              go_meet
              exact ⟨none, 0, none, 0, h7, (fun k x h => by simp at h), (fun k x h => by simp at h), hE7, hV7⟩
            · have e0' : (0 : Int) < (t0.length : Int) := by omega
              have HX := Lib.hid (HTx w7 _ A5 c5 (h7.rows (A5, t0) (by simp)))
              have hgt7 := h7.t.lt
              clear HTx
              go_upto_region 29 with (go_at_call 49; refine HX.out.mono ?_; rintro e w8 ⟨RA, cr, WA, cw, rfl, hRR, hWW, hf8⟩)
              have hfa := (Fr.refl (fun _ => False) w8).alloc (Obj.cells #[.int .i64 c, .int .i64 n, .slice RA R.length cr, .slice WA W.length cw] 29)
              have h9 := (h7.keep hf8).keep hfa
              have hE9 := own_fr (own_fr hE7 hf8 (fun _ _ => id)) hfa (fun _ _ => id)
              have hV9 := own_fr (own_fr hV7 hf8 (fun _ _ => id)) hfa (fun _ _ => id)
              have hR9 := (hRR.fr hfa (fun _ _ => id)).mono_ (F' := fun k => gt < k) (fun k hk => by omega)
              have hW9 := (hWW.fr hfa (fun _ _ => id)).mono_ (F' := fun k => gt < k) (fun k hk => by omega)
              have hX := Blk.new w8 29 #[.int .i64 c, .int .i64 n, .slice RA R.length cr, .slice WA W.length cw]
              generalize w8.alloc (Obj.cells #[.int .i64 c, .int .i64 n, .slice RA R.length cr, .slice WA W.length cw] 29) = w9 at *
              have hth : w9.there gt 1 4 := h9.t.there (Nat.le_of_ble_eq_true rfl)
              go_wp2_with (first
                | (refine wpList_load_row rfl 29 _ rfl _ rfl _ _ (0, 0) _ hX Tryz.underlying29 rfl (by kernel_rfl) ?_)
                | (refine wpList_store_mid rfl 29 _ _ rfl gt 1 #[.int .i64 c, .int .i64 n, .slice RA R.length cr, .slice WA W.length cw] rfl rfl hth (by kernel_rfl) (by simp [Value.oneCell']) ?_))
              go_meet
              have h10 := (((h9.set 1 (.int .i64 c)).set 2 (.int .i64 n)).set 3 (.slice RA R.length cr)).set 4 (.slice WA W.length cw)
              have hfz : Fr (fun k => k = gt) w9 ((((w9.setCell ⟨gt, 1, none⟩ (.int .i64 c)).setCell ⟨gt, 2, none⟩ (.int .i64 n)).setCell ⟨gt, 3, none⟩ (.slice RA R.length cr)).setCell ⟨gt, 4, none⟩ (.slice WA W.length cw)) := (((((Fr.refl (fun k => k = gt) w9).setCell (p := ⟨gt, 1, none⟩) (fun _ => rfl) _).setCell (p := ⟨gt, 2, none⟩) (fun _ => rfl) _).setCell (p := ⟨gt, 3, none⟩) (fun _ => rfl) _).setCell (p := ⟨gt, 4, none⟩) (fun _ => rfl) _)
              exact ⟨RA, cr, WA, cw, h10, hR9.fr hfz (fun k hk e => by omega), hW9.fr hfz (fun k hk e => by omega), own_fr hE9 hfz (fun q hq e => own_ne_blk hE9 h9.t (by decide) (e ▸ hq)), own_fr hV9 hfz (fun q hq e => own_ne_blk hV9 h9.t (by decide) (e ▸ hq))⟩
          case rest =>
            obtain ⟨RA, cr, WA, cw, h8, hR8, hW8, hE8, hV8⟩ := hcut
            clear h7 hE7 hV7
            go_upto_if 130 with fail
            go_cut [] from 19 to 144 (fun wx => GO w wx a gt g #[.int .i64 kind, .int .i64 c, .int .i64 n, .slice RA R.length cr, .slice WA W.length cw, .int .i64 s.kind, .int .i64 s.txn, .bool s.yes, .string s.from_, .string s.to_, .int .i64 s.epoch, .int .i64 s.shard, .int .i64 s.target, .int .i64 s.root, .int .i64 0, .int .i64 0, .slice none 0 0, .int .i64 many, .int .i64 first, .slice EA L.length ce, .slice VA Bs.length cv] [] [(A7, t2), (A6, t1), (A5, t0)] ∧ ReadRow wx (fun k => gt < k) RA R ∧ WriteRow wx (fun k => gt < k) WA W ∧ wx.ownsRow (a + 1) 119 3 (.slice EA L.length ce) L.length (entsV L) ∧ wx.ownsRow (a + 1) 3 1 (.slice VA Bs.length cv) Bs.length (num64V Bs))
            case first =>
              rcases HS.out with ⟨e0, rfl⟩ | ⟨e0, HSx⟩
              · have e0' : ¬ (0 : Int) < (t1.length : Int) := by omega
                clear e0
                go_wp2_with fail
                go_meet
                exact ⟨h8, hR8, hW8, hE8, hV8⟩
              · have e0' : (0 : Int) < (t1.length : Int) := by omega
                have HX := Lib.hid (HSx wc _ A6 c6 (h8.rows (A6, t1) (by simp)))
                clear HSx e0
                go_upto_region 34 with (go_at_call 60; refine HX.out.mono ?_; rintro e w9 ⟨rfl, hf9⟩)
                have hfa := (Fr.refl (fun _ => False) w9).alloc (Obj.cells #[.int .i64 s.kind, .int .i64 s.txn, .bool s.yes, .string s.from_, .string s.to_, .int .i64 s.epoch, .int .i64 s.shard, .int .i64 s.target, .int .i64 s.root] 23)
                have h10 := (h8.keep hf9).keep hfa
                have hE10 := own_fr (own_fr hE8 hf9 (fun _ _ => id)) hfa (fun _ _ => id)
                have hV10 := own_fr (own_fr hV8 hf9 (fun _ _ => id)) hfa (fun _ _ => id)
                have hR10 := (hR8.fr hf9 (fun _ _ => id)).fr hfa (fun _ _ => id)
                have hW10 := (hW8.fr hf9 (fun _ _ => id)).fr hfa (fun _ _ => id)
                have hX := Blk.new w9 23 #[.int .i64 s.kind, .int .i64 s.txn, .bool s.yes, .string s.from_, .string s.to_, .int .i64 s.epoch, .int .i64 s.shard, .int .i64 s.target, .int .i64 s.root]
                generalize w9.alloc (Obj.cells #[.int .i64 s.kind, .int .i64 s.txn, .bool s.yes, .string s.from_, .string s.to_, .int .i64 s.epoch, .int .i64 s.shard, .int .i64 s.target, .int .i64 s.root] 23) = w10 at *
                have hth : w10.there gt 5 9 := h10.t.there (Nat.le_of_ble_eq_true rfl)
                go_wp2_with (first
                  | (refine wpList_load_row rfl 23 _ rfl _ rfl _ _ (0, 0) _ hX Tryz.underlying23 rfl (by kernel_rfl) ?_)
                  | (refine wpList_store_mid rfl 23 _ _ rfl gt 5 #[.int .i64 s.kind, .int .i64 s.txn, .bool s.yes, .string s.from_, .string s.to_, .int .i64 s.epoch, .int .i64 s.shard, .int .i64 s.target, .int .i64 s.root] rfl rfl hth (by kernel_rfl) (by simp [Value.oneCell']) ?_))
                go_meet
                have k0 : GO w (w10.setCell ⟨gt, 5, none⟩ (.int .i64 s.kind)) a gt g #[.int .i64 kind, .int .i64 c, .int .i64 n, .slice RA R.length cr, .slice WA W.length cw, .int .i64 s.kind, .int .i64 0, .bool false, .string ⟨#[]⟩, .string ⟨#[]⟩, .int .i64 0, .int .i64 0, .int .i64 0, .int .i64 0, .int .i64 0, .int .i64 0, .slice none 0 0, .int .i64 many, .int .i64 first, .slice EA L.length ce, .slice VA Bs.length cv] [] [(A7, t2), (A6, t1), (A5, t0)] := h10.set 5 _
                have k1 : GO w ((w10.setCell ⟨gt, 5, none⟩ (.int .i64 s.kind)).setCell ⟨gt, 6, none⟩ (.int .i64 s.txn)) a gt g #[.int .i64 kind, .int .i64 c, .int .i64 n, .slice RA R.length cr, .slice WA W.length cw, .int .i64 s.kind, .int .i64 s.txn, .bool false, .string ⟨#[]⟩, .string ⟨#[]⟩, .int .i64 0, .int .i64 0, .int .i64 0, .int .i64 0, .int .i64 0, .int .i64 0, .slice none 0 0, .int .i64 many, .int .i64 first, .slice EA L.length ce, .slice VA Bs.length cv] [] [(A7, t2), (A6, t1), (A5, t0)] := k0.set 6 _
                have k2 : GO w (((w10.setCell ⟨gt, 5, none⟩ (.int .i64 s.kind)).setCell ⟨gt, 6, none⟩ (.int .i64 s.txn)).setCell ⟨gt, 7, none⟩ (.bool s.yes)) a gt g #[.int .i64 kind, .int .i64 c, .int .i64 n, .slice RA R.length cr, .slice WA W.length cw, .int .i64 s.kind, .int .i64 s.txn, .bool s.yes, .string ⟨#[]⟩, .string ⟨#[]⟩, .int .i64 0, .int .i64 0, .int .i64 0, .int .i64 0, .int .i64 0, .int .i64 0, .slice none 0 0, .int .i64 many, .int .i64 first, .slice EA L.length ce, .slice VA Bs.length cv] [] [(A7, t2), (A6, t1), (A5, t0)] := k1.set 7 _
                have k3 : GO w ((((w10.setCell ⟨gt, 5, none⟩ (.int .i64 s.kind)).setCell ⟨gt, 6, none⟩ (.int .i64 s.txn)).setCell ⟨gt, 7, none⟩ (.bool s.yes)).setCell ⟨gt, 8, none⟩ (.string s.from_)) a gt g #[.int .i64 kind, .int .i64 c, .int .i64 n, .slice RA R.length cr, .slice WA W.length cw, .int .i64 s.kind, .int .i64 s.txn, .bool s.yes, .string s.from_, .string ⟨#[]⟩, .int .i64 0, .int .i64 0, .int .i64 0, .int .i64 0, .int .i64 0, .int .i64 0, .slice none 0 0, .int .i64 many, .int .i64 first, .slice EA L.length ce, .slice VA Bs.length cv] [] [(A7, t2), (A6, t1), (A5, t0)] := k2.set 8 _
                have k4 : GO w (((((w10.setCell ⟨gt, 5, none⟩ (.int .i64 s.kind)).setCell ⟨gt, 6, none⟩ (.int .i64 s.txn)).setCell ⟨gt, 7, none⟩ (.bool s.yes)).setCell ⟨gt, 8, none⟩ (.string s.from_)).setCell ⟨gt, 9, none⟩ (.string s.to_)) a gt g #[.int .i64 kind, .int .i64 c, .int .i64 n, .slice RA R.length cr, .slice WA W.length cw, .int .i64 s.kind, .int .i64 s.txn, .bool s.yes, .string s.from_, .string s.to_, .int .i64 0, .int .i64 0, .int .i64 0, .int .i64 0, .int .i64 0, .int .i64 0, .slice none 0 0, .int .i64 many, .int .i64 first, .slice EA L.length ce, .slice VA Bs.length cv] [] [(A7, t2), (A6, t1), (A5, t0)] := k3.set 9 _
                have k5 : GO w ((((((w10.setCell ⟨gt, 5, none⟩ (.int .i64 s.kind)).setCell ⟨gt, 6, none⟩ (.int .i64 s.txn)).setCell ⟨gt, 7, none⟩ (.bool s.yes)).setCell ⟨gt, 8, none⟩ (.string s.from_)).setCell ⟨gt, 9, none⟩ (.string s.to_)).setCell ⟨gt, 10, none⟩ (.int .i64 s.epoch)) a gt g #[.int .i64 kind, .int .i64 c, .int .i64 n, .slice RA R.length cr, .slice WA W.length cw, .int .i64 s.kind, .int .i64 s.txn, .bool s.yes, .string s.from_, .string s.to_, .int .i64 s.epoch, .int .i64 0, .int .i64 0, .int .i64 0, .int .i64 0, .int .i64 0, .slice none 0 0, .int .i64 many, .int .i64 first, .slice EA L.length ce, .slice VA Bs.length cv] [] [(A7, t2), (A6, t1), (A5, t0)] := k4.set 10 _
                have k6 : GO w (((((((w10.setCell ⟨gt, 5, none⟩ (.int .i64 s.kind)).setCell ⟨gt, 6, none⟩ (.int .i64 s.txn)).setCell ⟨gt, 7, none⟩ (.bool s.yes)).setCell ⟨gt, 8, none⟩ (.string s.from_)).setCell ⟨gt, 9, none⟩ (.string s.to_)).setCell ⟨gt, 10, none⟩ (.int .i64 s.epoch)).setCell ⟨gt, 11, none⟩ (.int .i64 s.shard)) a gt g #[.int .i64 kind, .int .i64 c, .int .i64 n, .slice RA R.length cr, .slice WA W.length cw, .int .i64 s.kind, .int .i64 s.txn, .bool s.yes, .string s.from_, .string s.to_, .int .i64 s.epoch, .int .i64 s.shard, .int .i64 0, .int .i64 0, .int .i64 0, .int .i64 0, .slice none 0 0, .int .i64 many, .int .i64 first, .slice EA L.length ce, .slice VA Bs.length cv] [] [(A7, t2), (A6, t1), (A5, t0)] := k5.set 11 _
                have k7 : GO w ((((((((w10.setCell ⟨gt, 5, none⟩ (.int .i64 s.kind)).setCell ⟨gt, 6, none⟩ (.int .i64 s.txn)).setCell ⟨gt, 7, none⟩ (.bool s.yes)).setCell ⟨gt, 8, none⟩ (.string s.from_)).setCell ⟨gt, 9, none⟩ (.string s.to_)).setCell ⟨gt, 10, none⟩ (.int .i64 s.epoch)).setCell ⟨gt, 11, none⟩ (.int .i64 s.shard)).setCell ⟨gt, 12, none⟩ (.int .i64 s.target)) a gt g #[.int .i64 kind, .int .i64 c, .int .i64 n, .slice RA R.length cr, .slice WA W.length cw, .int .i64 s.kind, .int .i64 s.txn, .bool s.yes, .string s.from_, .string s.to_, .int .i64 s.epoch, .int .i64 s.shard, .int .i64 s.target, .int .i64 0, .int .i64 0, .int .i64 0, .slice none 0 0, .int .i64 many, .int .i64 first, .slice EA L.length ce, .slice VA Bs.length cv] [] [(A7, t2), (A6, t1), (A5, t0)] := k6.set 12 _
                have h11 : GO w (((((((((w10.setCell ⟨gt, 5, none⟩ (.int .i64 s.kind)).setCell ⟨gt, 6, none⟩ (.int .i64 s.txn)).setCell ⟨gt, 7, none⟩ (.bool s.yes)).setCell ⟨gt, 8, none⟩ (.string s.from_)).setCell ⟨gt, 9, none⟩ (.string s.to_)).setCell ⟨gt, 10, none⟩ (.int .i64 s.epoch)).setCell ⟨gt, 11, none⟩ (.int .i64 s.shard)).setCell ⟨gt, 12, none⟩ (.int .i64 s.target)).setCell ⟨gt, 13, none⟩ (.int .i64 s.root)) a gt g #[.int .i64 kind, .int .i64 c, .int .i64 n, .slice RA R.length cr, .slice WA W.length cw, .int .i64 s.kind, .int .i64 s.txn, .bool s.yes, .string s.from_, .string s.to_, .int .i64 s.epoch, .int .i64 s.shard, .int .i64 s.target, .int .i64 s.root, .int .i64 0, .int .i64 0, .slice none 0 0, .int .i64 many, .int .i64 first, .slice EA L.length ce, .slice VA Bs.length cv] [] [(A7, t2), (A6, t1), (A5, t0)] := k7.set 13 _
                have hfz : Fr (fun k => k = gt) w10 (((((((((w10.setCell ⟨gt, 5, none⟩ (.int .i64 s.kind)).setCell ⟨gt, 6, none⟩ (.int .i64 s.txn)).setCell ⟨gt, 7, none⟩ (.bool s.yes)).setCell ⟨gt, 8, none⟩ (.string s.from_)).setCell ⟨gt, 9, none⟩ (.string s.to_)).setCell ⟨gt, 10, none⟩ (.int .i64 s.epoch)).setCell ⟨gt, 11, none⟩ (.int .i64 s.shard)).setCell ⟨gt, 12, none⟩ (.int .i64 s.target)).setCell ⟨gt, 13, none⟩ (.int .i64 s.root)) := ((((((((((Fr.refl (fun k => k = gt) w10).setCell (p := ⟨gt, 5, none⟩) (fun _ => rfl) (.int .i64 s.kind)).setCell (p := ⟨gt, 6, none⟩) (fun _ => rfl) (.int .i64 s.txn)).setCell (p := ⟨gt, 7, none⟩) (fun _ => rfl) (.bool s.yes)).setCell (p := ⟨gt, 8, none⟩) (fun _ => rfl) (.string s.from_)).setCell (p := ⟨gt, 9, none⟩) (fun _ => rfl) (.string s.to_)).setCell (p := ⟨gt, 10, none⟩) (fun _ => rfl) (.int .i64 s.epoch)).setCell (p := ⟨gt, 11, none⟩) (fun _ => rfl) (.int .i64 s.shard)).setCell (p := ⟨gt, 12, none⟩) (fun _ => rfl) (.int .i64 s.target)).setCell (p := ⟨gt, 13, none⟩) (fun _ => rfl) (.int .i64 s.root))
                exact ⟨h11, hR10.fr hfz (fun k hk e => by omega), hW10.fr hfz (fun k hk e => by omega), own_fr hE10 hfz (fun q hq e => own_ne_blk hE10 h10.t (by decide) (e ▸ hq)), own_fr hV10 hfz (fun q hq e => own_ne_blk hV10 h10.t (by decide) (e ▸ hq))⟩
            case rest =>
              clear h8 hR8 hW8 hE8 hV8
              obtain ⟨h8, hR8, hW8, hE8, hV8⟩ := hcut
              have HX := Lib.hid (HC.out wc _ A7 c7 (h8.rows (A7, t2) (by simp)))
              have hgt8 := h8.t.lt
              go_upto_region 38 with (go_at_call 61; refine HX.out.mono ?_; rintro e w9 ⟨CA, cc, rfl, hC9, hf9⟩)
              have hfa := (Fr.refl (fun _ => False) w9).alloc (Obj.cells #[.int .i64 G, .int .i64 D, .slice CA S.length cc] 41)
              have h10 := (h8.keep hf9).keep hfa
              have hE10 := own_fr (own_fr hE8 hf9 (fun _ _ => id)) hfa (fun _ _ => id)
              have hV10 := own_fr (own_fr hV8 hf9 (fun _ _ => id)) hfa (fun _ _ => id)
              have hR10 := (hR8.fr hf9 (fun _ _ => id)).fr hfa (fun _ _ => id)
              have hW10 := (hW8.fr hf9 (fun _ _ => id)).fr hfa (fun _ _ => id)
              have hC10 := (hC9.fr hfa (fun _ _ => id)).mono_ (F' := fun k => gt < k) (fun k hk => by omega)
              have hX := Blk.new w9 41 #[.int .i64 G, .int .i64 D, .slice CA S.length cc]
              generalize w9.alloc (Obj.cells #[.int .i64 G, .int .i64 D, .slice CA S.length cc] 41) = w10 at *
              clear HX h8 hE8 hV8 hR8 hW8 hC9 hf9 hfa hgt8
              have hth : w10.there gt 14 3 := h10.t.there (Nat.le_of_ble_eq_true rfl)
              go_upto_region 39 with (first
                | (refine wpList_load_row rfl 41 _ rfl _ rfl _ _ (0, 0) _ hX Tryz.underlying41 rfl (by kernel_rfl) ?_)
                | (refine wpList_store_mid rfl 41 _ _ rfl gt 14 #[.int .i64 G, .int .i64 D, .slice CA S.length cc] rfl rfl hth (by kernel_rfl) (by simp [Value.oneCell']) ?_))
              have eset : w10.setCells gt 14 [.int .i64 G, .int .i64 D, .slice CA S.length cc] = ((w10.setCell ⟨gt, 14, none⟩ (.int .i64 G)).setCell ⟨gt, 15, none⟩ (.int .i64 D)).setCell ⟨gt, 16, none⟩ (.slice CA S.length cc) := rfl
              simp only [eset]
              have k1 : GO w (w10.setCell ⟨gt, 14, none⟩ (.int .i64 G)) a gt g #[.int .i64 kind, .int .i64 c, .int .i64 n, .slice RA R.length cr, .slice WA W.length cw, .int .i64 s.kind, .int .i64 s.txn, .bool s.yes, .string s.from_, .string s.to_, .int .i64 s.epoch, .int .i64 s.shard, .int .i64 s.target, .int .i64 s.root, .int .i64 G, .int .i64 0, .slice none 0 0, .int .i64 many, .int .i64 first, .slice EA L.length ce, .slice VA Bs.length cv] [] [(A7, t2), (A6, t1), (A5, t0)] := h10.set 14 _
              have k2 : GO w ((w10.setCell ⟨gt, 14, none⟩ (.int .i64 G)).setCell ⟨gt, 15, none⟩ (.int .i64 D)) a gt g #[.int .i64 kind, .int .i64 c, .int .i64 n, .slice RA R.length cr, .slice WA W.length cw, .int .i64 s.kind, .int .i64 s.txn, .bool s.yes, .string s.from_, .string s.to_, .int .i64 s.epoch, .int .i64 s.shard, .int .i64 s.target, .int .i64 s.root, .int .i64 G, .int .i64 D, .slice none 0 0, .int .i64 many, .int .i64 first, .slice EA L.length ce, .slice VA Bs.length cv] [] [(A7, t2), (A6, t1), (A5, t0)] := k1.set 15 _
              have h11 : GO w (((w10.setCell ⟨gt, 14, none⟩ (.int .i64 G)).setCell ⟨gt, 15, none⟩ (.int .i64 D)).setCell ⟨gt, 16, none⟩ (.slice CA S.length cc)) a gt g #[.int .i64 kind, .int .i64 c, .int .i64 n, .slice RA R.length cr, .slice WA W.length cw, .int .i64 s.kind, .int .i64 s.txn, .bool s.yes, .string s.from_, .string s.to_, .int .i64 s.epoch, .int .i64 s.shard, .int .i64 s.target, .int .i64 s.root, .int .i64 G, .int .i64 D, .slice CA S.length cc, .int .i64 many, .int .i64 first, .slice EA L.length ce, .slice VA Bs.length cv] [] [(A7, t2), (A6, t1), (A5, t0)] := k2.set 16 _
              have hfz : Fr (fun k => k = gt) w10 (((w10.setCell ⟨gt, 14, none⟩ (.int .i64 G)).setCell ⟨gt, 15, none⟩ (.int .i64 D)).setCell ⟨gt, 16, none⟩ (.slice CA S.length cc)) := ((((Fr.refl (fun k => k = gt) w10).setCell (p := ⟨gt, 14, none⟩) (fun _ => rfl) _).setCell (p := ⟨gt, 15, none⟩) (fun _ => rfl) _).setCell (p := ⟨gt, 16, none⟩) (fun _ => rfl) _)
              have hR11 := hR10.fr hfz (fun k hk e => by omega)
              have hW11 := hW10.fr hfz (fun k hk e => by omega)
              have hC11 := hC10.fr hfz (fun k hk e => by omega)
              have hE11 := own_fr hE10 hfz (fun q hq e => own_ne_blk hE10 h10.t (by decide) (e ▸ hq))
              have hV11 := own_fr hV10 hfz (fun q hq e => own_ne_blk hV10 h10.t (by decide) (e ▸ hq))
              generalize ((w10.setCell ⟨gt, 14, none⟩ (.int .i64 G)).setCell ⟨gt, 15, none⟩ (.int .i64 D)).setCell ⟨gt, 16, none⟩ (.slice CA S.length cc) = w11 at *
              obtain ⟨_, _, eE, hEE⟩ := own_ents hE11
              cases eE
              obtain ⟨_, _, eV, hVV⟩ := own_ints hV11
              cases eV
              clear h10 hR10 hW10 hC10 hE10 hV10 hfz hE11 hV11 hX hth eset k1 k2
              have hag := h11.hag
              have HX := Lib.hid (HQ.out w11 RA cr WA cw CA cc EA ce VA cv (hR11.mono_ (fun k hk => by omega)) (hW11.mono_ (fun k hk => by omega)) (hC11.mono_ (fun k hk => by omega)) (hEE.mono_ (fun k hk => by omega)) (hVV.mono_ (fun k hk => by omega)))
              have hB11 := h11.t
              go_upto_region 41 with (first
                | (refine wpList_load_row rfl 62 _ rfl _ rfl _ _ (0, 0) _ hB11 Tryz.underlying62 rfl (by kernel_rfl) ?_)
                | (go_at_call 62; refine HX.out.mono ?_; rintro e w12 ⟨rfl, hf12⟩))
              have h12 := h11.keep hf12
              have hR12 := hR11.fr hf12 (fun _ _ => id)
              have hW12 := hW11.fr hf12 (fun _ _ => id)
              have hC12 := hC11.fr hf12 (fun _ _ => id)
              have hE12 := hEE.fr hf12 (fun _ _ => id)
              have hV12 := hVV.fr hf12 (fun _ _ => id)
              have hB12 := h12.t
              have hA12 := h12.res
              have hf012 := h12.f
              clear h11 hR11 hW11 hC11 hEE hVV hB11 HX hf12
              go_wp2_with (first
                | (refine wpList_load_row rfl 62 _ rfl _ rfl _ _ (0, 0) _ hB12 Tryz.underlying62 rfl (by kernel_rfl) ?_)
                | (refine wpList_store_row rfl 62 _ _ rfl a #[.int .i64 kind, .int .i64 c, .int .i64 n, .slice RA R.length cr, .slice WA W.length cw, .int .i64 s.kind, .int .i64 s.txn, .bool s.yes, .string s.from_, .string s.to_, .int .i64 s.epoch, .int .i64 s.shard, .int .i64 s.target, .int .i64 s.root, .int .i64 G, .int .i64 D, .slice CA S.length cc, .int .i64 many, .int .i64 first, .slice EA L.length ce, .slice VA Bs.length cv] rfl rfl 62 _ hA12 (by kernel_rfl) rfl (by simp [Value.oneCell']) ?_))
              have hA13 := Blk.setRow_ (ds := #[.int .i64 kind, .int .i64 c, .int .i64 n, .slice RA R.length cr, .slice WA W.length cw, .int .i64 s.kind, .int .i64 s.txn, .bool s.yes, .string s.from_, .string s.to_, .int .i64 s.epoch, .int .i64 s.shard, .int .i64 s.target, .int .i64 s.root, .int .i64 G, .int .i64 D, .slice CA S.length cc, .int .i64 many, .int .i64 first, .slice EA L.length ce, .slice VA Bs.length cv]) hA12
              have hfz := Fr.setRow_ (w := w12) (g := a) (ds := #[.int .i64 kind, .int .i64 c, .int .i64 n, .slice RA R.length cr, .slice WA W.length cw, .int .i64 s.kind, .int .i64 s.txn, .bool s.yes, .string s.from_, .string s.to_, .int .i64 s.epoch, .int .i64 s.shard, .int .i64 s.target, .int .i64 s.root, .int .i64 G, .int .i64 D, .slice CA S.length cc, .int .i64 many, .int .i64 first, .slice EA L.length ce, .slice VA Bs.length cv])
              have hfe : Fr (fun _ => False) w _ := hf012.trans hfz (fun k hk e => by omega)
              generalize w12.setRow a #[.int .i64 kind, .int .i64 c, .int .i64 n, .slice RA R.length cr, .slice WA W.length cw, .int .i64 s.kind, .int .i64 s.txn, .bool s.yes, .string s.from_, .string s.to_, .int .i64 s.epoch, .int .i64 s.shard, .int .i64 s.target, .int .i64 s.root, .int .i64 G, .int .i64 D, .slice CA S.length cc, .int .i64 many, .int .i64 first, .slice EA L.length ce, .slice VA Bs.length cv] = wz at *
              refine bodyPost_ret (v := .tuple #[.agg #[.int .i64 kind, .int .i64 c, .int .i64 n, .slice RA R.length cr, .slice WA W.length cw, .int .i64 s.kind, .int .i64 s.txn, .bool s.yes, .string s.from_, .string s.to_, .int .i64 s.epoch, .int .i64 s.shard, .int .i64 s.target, .int .i64 s.root, .int .i64 G, .int .i64 D, .slice CA S.length cc, .int .i64 many, .int .i64 first, .slice EA L.length ce, .slice VA Bs.length cv], .int .i64 0, .slice none 0 0]) (results_row3 Tryz.results19 _ wz a 62 #[.int .i64 kind, .int .i64 c, .int .i64 n, .slice RA R.length cr, .slice WA W.length cw, .int .i64 s.kind, .int .i64 s.txn, .bool s.yes, .string s.from_, .string s.to_, .int .i64 s.epoch, .int .i64 s.shard, .int .i64 s.target, .int .i64 s.root, .int .i64 G, .int .i64 D, .slice CA S.length cc, .int .i64 many, .int .i64 first, .slice EA L.length ce, .slice VA Bs.length cv] (0, 0) _ rfl hA13 Tryz.underlying62 rfl (by kernel_rfl) rfl rfl) rfl ?_
              exact ⟨RA, cr, WA, cw, CA, cc, EA, ce, VA, cv, rfl, (hR12.fr hfz (fun k hk e => by omega)).mono_ (fun k hk => by omega), (hW12.fr hfz (fun k hk e => by omega)).mono_ (fun k hk => by omega), (hC12.fr hfz (fun k hk e => by omega)).mono_ (fun k hk => by omega), (hE12.fr hfz (fun k hk e => by omega)).mono_ (fun k hk => by omega), (hV12.fr hfz (fun k hk e => by omega)).mono_ (fun k hk => by omega), hfe⟩
end Go.Proofs.YtmkdhhhoodeemaaGreat

/- merkle: right. -/
namespace Go.Proofs.YtmkdhhhoodeemaaGreat
open Go Go.RowKit
def entOk (x : ByteArray × ByteArray × Int) : Bool := !decide ((64 : Int) < (x.2.1.size : Int))
/-- May they be entries? -/
def risesE (L : List (ByteArray × ByteArray × Int)) : Bool := okTo entOk L L.length && decide ((L.length : Int) ≤ 1024)
theorem risesE_no {l : List (ByteArray × ByteArray × Int)} {k : Nat} (hk : k < l.length) (h1 : okAt entOk l k = false) : risesE l = false := by
 unfold risesE
 have : okTo entOk l l.length = false := by
  unfold okTo
  rw [List.all_eq_false]
  exact ⟨k, List.mem_range.2 hk, by simp [h1]⟩
 rw [this]
 rfl
theorem less_or : ∀ x y : List UInt8, (Op.bytesLess x y || x == y) = !Op.bytesLess y x
 | [], [] => rfl
 | [], _ :: _ => rfl
 | _ :: _, [] => rfl
 | a :: x, b :: y => by
  have ih := less_or x y
  unfold Op.bytesLess
  by_cases h : a < b
  ·have h2 : ¬ b < a := fun h' => absurd (UInt8.lt_trans h h') (UInt8.lt_irrefl _)
   have h3 : ¬ b = a := fun e => by rw [e] at h; exact UInt8.lt_irrefl _ h
   simp [h, h2, h3]
  ·by_cases h2 : b < a
   ·have h3 : ¬ a = b := fun e => by rw [e] at h2; exact UInt8.lt_irrefl _ h2
    simp [h, h2, h3]
   ·have h3 : a = b := UInt8.le_antisymm (UInt8.not_lt.1 h2) (UInt8.not_lt.1 h)
    subst h3
    simpa [h] using ih
set_option maxRecDepth 100000 in
set_option maxHeartbeats 4000000 in
theorem merkle_right {w : World} {F : Nat → Prop} {A : Option Addr} {l : List (ByteArray × ByteArray × Int)} {cap : Nat} (h : EntRow w F A l) (hll : l.length ≤ 1000000) :
  Calls Tryz.prog 113 #[.slice A l.length cap] w (OkB w (risesE l)) := by
 go_enter Tryz.func113, Tryz.ntmps113
 go_wp2_with fail
 go_loopw [7] (fun ix wr => ∃ k : Nat, k ≤ l.length ∧ ix = .int .i64 k ∧ Hid (okTo entOk l k = true) ∧ Fr (fun _ => False) w wr) (fun ix _ => l.length - (intOf ix).toNat)
 case atStart => exact ⟨0, by omega, rfl, rfl, Fr.refl _ _⟩
 case round =>
  obtain ⟨k, hk, rfl, hok, hf⟩ := hrel
  by_cases hlt : k < l.length
  ·have hlt' : (k : Int) < (l.length : Int) := by omega
   obtain ⟨x, hx⟩ : ∃ x, l[k]? = some x := ⟨l[k], List.getElem?_eq_getElem hlt⟩
   obtain ⟨b, o, rfl, hFb, hc0, hc1, hc2⟩ := (h.fr hf (fun _ _ => id)) k x hx
   have HX := Lib.hid hx
   have HR := Lib.hid h
   have d0 := hc0
   have d1 := hc1
   have d2 := hc2
   clear hx h hc0 hc1 hc2
   go_upto_region 4 with fail
   generalize hgx : wr.heap.size = gx
   have hb0 : Blk (wr.alloc (Obj.cells #[.string x.1, .string x.2.1, .int .i64 x.2.2] 119)) gx 119 #[.string x.1, .string x.2.1, .int .i64 x.2.2] := Blk.new_ _ _ _ hgx.symm
   have hfa : Fr (fun _ => False) wr (wr.alloc (Obj.cells #[.string x.1, .string x.2.1, .int .i64 x.2.2] 119)) := (Fr.refl _ _).alloc _
   generalize wr.alloc (Obj.cells #[.string x.1, .string x.2.1, .int .i64 x.2.2] 119) = wa at hb0 hfa ⊢
   have HGX := Lib.hid hgx
   have hfw := hf.then_ hfa
   clear d0 d1 d2 hgx
   have y0 := hb0.cell 0
   have y1 := hb0.cell 1
   by_cases c16 : (16 : Int) < x.1.size
   ·have eo : okAt entOk l k = false := by unfold okAt; rw [HX.out]; simp [c16]
    have q16 : decide ((16 : Int) < x.1.size) = true := decide_eq_true c16
    have HNO := Lib.hid (risesE_no hlt eo)
    clear eo
    go_quiet (fail)
    go_wp2
    go_ret
    rw [HNO.out]
    exact ⟨rfl, hfw.drewN _⟩
   ·have q16 : decide ((16 : Int) < x.1.size) = false := decide_eq_false c16
    by_cases c64 : (64 : Int) < x.2.1.size
    ·have eo : okAt entOk l k = false := by unfold okAt; rw [HX.out]; simp [entOk, c64]
     have q64 : decide ((64 : Int) < x.2.1.size) = true := decide_eq_true c64
     have HNO := Lib.hid (risesE_no hlt eo)
     clear eo
     go_quiet (fail)
     go_wp2
     go_ret
     rw [HNO.out]
     exact ⟨rfl, hfw.drewN _⟩
    ·have q64 : decide ((64 : Int) < x.2.1.size) = false := decide_eq_false c64
     cases k with
     | zero =>
      have eo : okAt entOk l 0 = true := by unfold okAt; rw [HX.out]; simp [entOk, c64, c16]
      have hn := okTo_succ entOk hok.out eo
      have HN := Lib.hid hn
      clear eo hn
      go_quiet (fail)
      go_wp2_with fail
      go_roundw
      case rel => exact ⟨1, by omega, by go_num, HN, hfw.drewN _⟩
      case measure => simp [intOf]; omega
     | succ j =>
      obtain ⟨y, hy⟩ : ∃ y, l[j]? = some y := ⟨l[j], List.getElem?_eq_getElem (by omega)⟩
      obtain ⟨b', o', hbo, _, e0, _, _⟩ := (HR.out.fr hfw (fun _ _ => id)) j y hy
      cases hbo
      have eo : okAt entOk l (j + 1) = strLess y.1 x.1 := by unfold okAt; rw [HX.out]; dsimp only; rw [hy]; simp [entOk, c64, c16]
      have hj : (j : Int) < (l.length : Int) := by omega
      by_cases hs : strLess y.1 x.1 = true
      ·have hsl : (Op.bytesLess x.1.toList y.1.toList || x.1.toList == y.1.toList) = false := by rw [less_or, show Op.bytesLess y.1.toList x.1.toList = true from hs]; rfl
       rw [Bool.or_eq_false_iff] at hsl
       obtain ⟨hs1, hs2⟩ := hsl
       have hn := okTo_succ entOk hok.out (eo.trans hs)
       have HN := Lib.hid hn
       clear eo hn hs hy
       go_quiet (fail)
       go_wp2_with fail
       go_roundw
       case rel => exact ⟨j + 1 + 1, by omega, by go_num, HN, hfw.drewN _⟩
       case measure => simp [intOf]; omega
      ·have hsl : (Op.bytesLess x.1.toList y.1.toList || x.1.toList == y.1.toList) = true := by rw [less_or, show Op.bytesLess y.1.toList x.1.toList = false by simpa [strLess] using hs]; rfl
       have HNO := Lib.hid (risesE_no hlt (eo.trans (by simpa using hs)))
       clear eo hs hy
       go_quiet (fail)
       go_wp2
       go_ret
       rw [HNO.out]
       exact ⟨rfl, hfw.drewN _⟩
  ·obtain rfl : k = l.length := by omega
   have he : risesE l = decide ((l.length : Int) ≤ 1024) := by unfold risesE; rw [hok.out]; rfl
   have HE := Lib.hid he
   clear he
   by_cases q : (l.length : Int) ≤ 1024
   ·go_wp2
    go_ret
    rw [HE.out, decide_eq_true q]
    exact ⟨rfl, hf⟩
   ·go_wp2
    go_ret
    rw [HE.out, decide_eq_false (by omega)]
    exact ⟨rfl, hf⟩
end Go.Proofs.YtmkdhhhoodeemaaGreat

/- slices.Clone, IndexFunc, DeleteFunc of entries. -/
namespace Go.Proofs.YtmkdhhhoodeemaaGreat
open Go Go.RowKit
abbrev Ent : Type := ByteArray × ByteArray × Int
theorem run_clear_big {P : Program} (w : World) (t e ty : TypeId) (z : Value) (ht : P.underlying t = some (.slice e)) (hv : ∀ w, (zeroValue e).run P w = .ok z w) (b o n c : Nat) (hn : 0 < n) (h1 : ∀ v ∈ (Builtin.zeroCells z.cells n).toList, v.oneCell' = true)
  (hc : ∀ j, j < n * z.cells.size → (w.cell? ⟨b, o + j, none⟩).isSome = true) (hf : ∀ j, j < n * z.cells.size → w.frozen? ⟨b, o + j, none⟩ = false) :
  (Builtin.clear_ #[t] ty #[.slice (some ⟨b, o, none⟩) n c]).run P w = .ok (.tuple #[]) (w.setCells b o (Builtin.zeroCells z.cells n).toList) := by
 have hl : (Builtin.zeroCells z.cells n).toList.length = n * z.cells.size := by simp [Builtin.zeroCells]
 have hst := run_storeCells_cells (P := P) b o (Builtin.zeroCells z.cells n).toList 0 w (by rw [hl]; simpa using hc) (by rw [hl]; simpa using hf) h1
 simp only [Nat.add_zero] at hst
 obtain ⟨m, rfl⟩ : ∃ m, n = m + 1 := ⟨n - 1, by omega⟩
 simp [Builtin.clear_, run_underlying ht, hv, hst]
theorem Fr.setCells_ {S : Nat → Prop} {a : World} {b : Nat} (hb : b < a.heap.size → S b) : ∀ (vs : List Value) (o : Nat) {w : World}, Fr S a w → Fr S a (w.setCells b o vs)
 | [], _, _, h => h
 | v :: r, o, _, h => Fr.setCells_ hb r (o + 1) (h.setCell (p := ⟨b, o, none⟩) hb v)
/-- The cells hold these entries. -/
def EntA (cs : Array Value) (d : Array Ent) : Prop :=
 ∀ k x, d[k]? = some x → cs[k * 3]? = some (.string x.1) ∧ cs[k * 3 + 1]? = some (.string x.2.1) ∧ cs[k * 3 + 2]? = some (.int .i64 x.2.2)
theorem EntA.lt {cs : Array Value} {d : Array Ent} (h : EntA cs d) {k : Nat} (hk : k < d.size) : k * 3 + 2 < cs.size := by
 obtain ⟨_, _, h3⟩ := h k _ (Array.getElem?_eq_getElem hk)
 exact (Array.getElem?_eq_some_iff.1 h3).1
theorem EntA.set_ {cs : Array Value} {d : Array Ent} (h : EntA cs d) {i : Nat} (hi : i < d.size) (x : Ent) :
  EntA (((cs.setIfInBounds (i * 3) (.string x.1)).setIfInBounds (i * 3 + 1) (.string x.2.1)).setIfInBounds (i * 3 + 1 + 1) (.int .i64 x.2.2)) (d.setIfInBounds i x) := by
 have hz := h.lt hi
 intro k y hy
 by_cases e : k = i
 ·subst e
  have : y = x := by
   rw [Array.getElem?_setIfInBounds, if_pos rfl, if_pos hi] at hy
   exact (Option.some.inj hy).symm
  subst this
  simp only [Array.getElem?_setIfInBounds, Array.size_setIfInBounds]
  refine ⟨?_, ?_, ?_⟩
  ·rw [if_neg (by omega), if_neg (by omega), if_pos trivial, if_pos (by omega)]
  ·rw [if_neg (by omega), if_pos trivial, if_pos (by omega)]
  ·rw [if_pos trivial, if_pos (by omega)]
 ·rw [Array.getElem?_setIfInBounds, if_neg (fun h => e h.symm)] at hy
  obtain ⟨h1, h2, h3⟩ := h k y hy
  simp only [Array.getElem?_setIfInBounds, Array.size_setIfInBounds]
  refine ⟨?_, ?_, ?_⟩
  ·rw [if_neg (by omega), if_neg (by omega), if_neg (by omega)]; exact h1
  ·rw [if_neg (by omega), if_neg (by omega), if_neg (by omega)]; exact h2
  ·rw [if_neg (by omega), if_neg (by omega), if_neg (by omega)]; exact h3
theorem EntA.row {w : World} {g : Nat} {t : TypeId} {cs : Array Value} {d : Array Ent} (h : EntA cs d) (hb : Blk w g t cs) : EntRow w (fun k => k = g) (some ⟨g, 0, none⟩) d.toList := by
 intro k x hx
 obtain ⟨h1, h2, h3⟩ := h k x (by simpa using hx)
 refine ⟨g, 0, rfl, rfl, ?_, ?_, ?_⟩
 ·rw [Nat.zero_add, hb.cell]; exact h1
 ·rw [Nat.zero_add, hb.cell]; exact h2
 ·rw [Nat.zero_add, hb.cell]; exact h3
/-- Is a key outside a range? -/
def dropE (ff tt : ByteArray) (x : Ent) : Bool := Op.bytesLess x.1.toList ff.toList || (!tt.toList.isEmpty && !Op.bytesLess x.1.toList tt.toList)
def IdxP (w : World) (p : Ent → Bool) (l : List Ent) (e : Ending) (w' : World) : Prop :=
 (∃ i : Int, e = .returned (.int .i64 i) ∧ ((i = -1 ∧ ∀ (k : Nat) x, l[k]? = some x → p x = false) ∨ ∃ k : Nat, i = (k : Int) ∧ k < l.length ∧ (∀ (j : Nat) x, j < k → l[j]? = some x → p x = false) ∧ ∀ x, l[k]? = some x → p x = true)) ∧ Fr (fun _ => False) w w'
set_option maxRecDepth 100000 in
set_option maxHeartbeats 1000000 in
theorem indexEntT {w : World} {F : Nat → Prop} {A : Option Addr} {l : List Ent} {cap : Nat} {p : Ent → Bool} {sb : Nat} (h : EntRow w F A l) (hll : l.length ≤ 1000000) (hP : ∀ w' x, Fr (fun _ => False) w w' → Calls Tryz.prog 83 #[.agg #[.string x.1, .string x.2.1, .int .i64 x.2.2], .pointer (some ⟨sb, 0, none⟩)] w' (OkB w' (p x))) :
  Calls Tryz.prog 112 #[.slice A l.length cap, .func (.func 83) #[] #[.pointer (some ⟨sb, 0, none⟩)]] w (IdxP w p l) := by
 have HP := Lib.hid hP
 clear hP
 go_enter Tryz.func112, Tryz.ntmps112
 go_wp2_with fail
 go_loopw [8] (fun i wr => ∃ k : Nat, k ≤ l.length ∧ i = .int .i64 k ∧ Hid (∀ (j : Nat) x, j < k → l[j]? = some x → p x = false) ∧ Fr (fun _ => False) w wr) (fun i _ => l.length - (intOf i).toNat)
 case atStart => exact ⟨0, by omega, rfl, fun j s h _ => by omega, Fr.refl _ _⟩
 case round =>
  obtain ⟨k, hk, rfl, hsh, hf⟩ := hrel
  by_cases hlt : k < l.length
  ·obtain ⟨x, hx0⟩ : ∃ x, l[k]? = some x := ⟨l[k], List.getElem?_eq_getElem hlt⟩
   obtain ⟨b, o, rfl, hFb, hc0, hc1, hc2⟩ := (h.fr hf (fun _ _ => id)) k x hx0
   have hlt' : (k : Int) < (l.length : Int) := by omega
   have HX := Lib.hid hx0
   have HK := Lib.hid (HP.out wr x hf)
   clear h hx0
   cases hp : p x with
   | false =>
    rw [hp] at HK
    have HPX := Lib.hid hp
    clear hp
    go_wp2_with (first
     | (go_at_call 83; refine HK.out.mono ?_; rintro e w1 ⟨rfl, hf1⟩))
    go_roundw
    case rel =>
     refine ⟨k + 1, by omega, by go_num, ?_, hf.then_ hf1⟩
     intro j v hj hs
     by_cases hjk : j = k
     ·subst hjk
      have e := HX.out
      rw [hs] at e
      rw [Option.some.inj e]
      exact HPX.out
     ·exact hsh.out j v (by omega) hs
    case measure => simp [intOf]; omega
   | true =>
    rw [hp] at HK
    have HPX := Lib.hid hp
    clear hp
    go_wp2_with (first
     | (go_at_call 83; refine HK.out.mono ?_; rintro e w1 ⟨rfl, hf1⟩))
    go_ret
    have hhit : ∀ y, l[k]? = some y → p y = true := fun y hy => by
     have e := HX.out
     rw [hy] at e
     rw [Option.some.inj e]
     exact HPX.out
    exact ⟨⟨_, rfl, .inr ⟨k, rfl, hlt, hsh.out, hhit⟩⟩, hf.then_ hf1⟩
  ·obtain rfl : k = l.length := by omega
   clear h
   go_wp2
   go_ret
   have hno : ∀ (j : Nat) x, l[j]? = some x → p x = false := fun j x hj => hsh.out j x (List.getElem?_eq_some_iff.1 hj).1 hj
   exact ⟨⟨_, rfl, .inl ⟨rfl, hno⟩⟩, hf⟩
set_option maxRecDepth 100000 in
set_option maxHeartbeats 1000000 in
theorem indexEntF {w : World} {F : Nat → Prop} {A : Option Addr} {l : List Ent} {cap : Nat} {p : Ent → Bool} (h : EntRow w F A l) (hll : l.length ≤ 1000000) (hP : ∀ w' x, Fr (fun _ => False) w w' → Calls Tryz.prog 179 #[.agg #[.string x.1, .string x.2.1, .int .i64 x.2.2]] w' (OkB w' (p x))) :
  Calls Tryz.prog 112 #[.slice A l.length cap, .func (.func 179) #[] #[]] w (IdxP w p l) := by
 have HP := Lib.hid hP
 clear hP
 go_enter Tryz.func112, Tryz.ntmps112
 go_wp2_with fail
 go_loopw [8] (fun i wr => ∃ k : Nat, k ≤ l.length ∧ i = .int .i64 k ∧ Hid (∀ (j : Nat) x, j < k → l[j]? = some x → p x = false) ∧ Fr (fun _ => False) w wr) (fun i _ => l.length - (intOf i).toNat)
 case atStart => exact ⟨0, by omega, rfl, fun j s h _ => by omega, Fr.refl _ _⟩
 case round =>
  obtain ⟨k, hk, rfl, hsh, hf⟩ := hrel
  by_cases hlt : k < l.length
  ·obtain ⟨x, hx0⟩ : ∃ x, l[k]? = some x := ⟨l[k], List.getElem?_eq_getElem hlt⟩
   obtain ⟨b, o, rfl, hFb, hc0, hc1, hc2⟩ := (h.fr hf (fun _ _ => id)) k x hx0
   have hlt' : (k : Int) < (l.length : Int) := by omega
   have HX := Lib.hid hx0
   have HK := Lib.hid (HP.out wr x hf)
   clear h hx0
   cases hp : p x with
   | false =>
    rw [hp] at HK
    have HPX := Lib.hid hp
    clear hp
    go_wp2_with (first
     | (go_at_call 179; refine HK.out.mono ?_; rintro e w1 ⟨rfl, hf1⟩))
    go_roundw
    case rel =>
     refine ⟨k + 1, by omega, by go_num, ?_, hf.then_ hf1⟩
     intro j v hj hs
     by_cases hjk : j = k
     ·subst hjk
      have e := HX.out
      rw [hs] at e
      rw [Option.some.inj e]
      exact HPX.out
     ·exact hsh.out j v (by omega) hs
    case measure => simp [intOf]; omega
   | true =>
    rw [hp] at HK
    have HPX := Lib.hid hp
    clear hp
    go_wp2_with (first
     | (go_at_call 179; refine HK.out.mono ?_; rintro e w1 ⟨rfl, hf1⟩))
    go_ret
    have hhit : ∀ y, l[k]? = some y → p y = true := fun y hy => by
     have e := HX.out
     rw [hy] at e
     rw [Option.some.inj e]
     exact HPX.out
    exact ⟨⟨_, rfl, .inr ⟨k, rfl, hlt, hsh.out, hhit⟩⟩, hf.then_ hf1⟩
  ·obtain rfl : k = l.length := by omega
   clear h
   go_wp2
   go_ret
   have hno : ∀ (j : Nat) x, l[j]? = some x → p x = false := fun j x hj => hsh.out j x (List.getElem?_eq_some_iff.1 hj).1 hj
   exact ⟨⟨_, rfl, .inl ⟨rfl, hno⟩⟩, hf⟩
set_option maxRecDepth 100000 in
theorem told1 {w : World} {sb : Nat} {ff tt : ByteArray} (k3 : w.cell? ⟨sb, 3, none⟩ = some (.string ff)) (k4 : w.cell? ⟨sb, 4, none⟩ = some (.string tt)) (x : Ent) :
  Calls Tryz.prog 83 #[.agg #[.string x.1, .string x.2.1, .int .i64 x.2.2], .pointer (some ⟨sb, 0, none⟩)] w (OkB w (dropE ff tt x)) := by
 have hB := Blk.new w 119 #[.string x.1, .string x.2.1, .int .i64 x.2.2]
 have hf : Fr (fun _ => False) w (w.alloc (Obj.cells #[.string x.1, .string x.2.1, .int .i64 x.2.2] 119)) := (Fr.refl _ _).alloc _
 have k3 := hf.cell_some k3 id
 have k4 := hf.cell_some k4 id
 go_enter Tryz.func83, Tryz.ntmps83
 go_upto_region 1 with fail
 generalize w.alloc (Obj.cells #[.string x.1, .string x.2.1, .int .i64 x.2.2] 119) = w1 at *
 have y0 := hB.cell 0
 clear hB
 have HF := Lib.hid hf
 clear hf
 have he : dropE ff tt x = (Op.bytesLess x.1.toList ff.toList || (!tt.toList.isEmpty && !Op.bytesLess x.1.toList tt.toList)) := rfl
 have HE := Lib.hid he
 clear he
 cases h1 : Op.bytesLess x.1.toList ff.toList with
 | true =>
  go_wp2_with fail
  go_ret
  exact ⟨by rw [HE.out, h1]; rfl, HF.out⟩
 | false =>
  cases h2 : tt.toList.isEmpty with
  | true =>
   go_wp2_with fail
   go_ret
   exact ⟨by rw [HE.out, h1, h2]; rfl, HF.out⟩
  | false =>
   go_wp2_with fail
   go_ret
   exact ⟨by rw [HE.out, h1, h2]; rfl, HF.out⟩
end Go.Proofs.YtmkdhhhoodeemaaGreat
