/- RelayFewSaid: for every input the law returns true, and each argument reads behind the call as it read before. No condition. -/
import Derived.Shelf.Strconv.Itoa0
import Derived.Lib.ItoaNum
import Derived.Test.YtmkdhhhoodeemaaGreatFewProofGa
import Derived.Test.YtmkdhhhoodeemaaGreatFewProofGb
import Derived.Test.YtmkdhhhoodeemaaGreatFewProofGc
import Derived.Test.YtmkdhhhoodeemaaGreatFewProofGd
import Derived.Test.YtmkdhhhoodeemaaGreatFewProofGe
import Derived.Test.YtmkdhhhoodeemaaGreatFewProofGf
import Derived.Test.YtmkdhhhoodeemaaGreatFewProofGg
import Derived.Test.YtmkdhhhoodeemaaGreatFewProofJa
set_option linter.unusedVariables false
set_option linter.unusedSimpArgs false
/- say: the texts of a shard's order. -/
namespace Go.Proofs.YtmkdhhhoodeemaaGreat
open Go Go.RowKit
attribute [local go_sem ↓] run_neqSay run_eqlSay
set_option maxRecDepth 100000 in
set_option maxHeartbeats 2000000 in
theorem say_texts_prepare {w : World} {A B : Option Addr} {nr nw cr cw : Nat} {c n : Int} {s : SayD} {bC : Nat} {C : Option Addr} {cx : Nat} {xs : List Int} {G D : Int} (hC : IntRow w bC C xs) (hbC : bC ≤ w.heap.size) (hxl : xs.length ≤ 1024) (hgetok : getOk (num8 G ++ num8 D ++ numsB xs)) {bs : List Int} (hbs : num8 G ++ num8 D ++ numsB xs = bs) {nm sz : Bool} {b0 b1 : List Int} {r0 r1 : Value}
    (hsz : zeroSay s = !sz)
    (h0 : ∀ w', Fr (fun _ => False) w w' → Calls Tryz.prog 148 #[.bool nm, .agg #[.int .i64 c, .int .i64 n, .slice A nr cr, .slice B nw cw], .func (.func 149) #[] #[]] w' (PutP w' b0 r0))
    (h1 : ∀ w', Fr (fun _ => False) w w' → Calls Tryz.prog 150 #[.bool sz, .agg #[.int .i64 s.kind, .int .i64 s.txn, .bool s.yes, .string s.from_, .string s.to_, .int .i64 s.epoch, .int .i64 s.shard, .int .i64 s.target, .int .i64 s.root], .func (.func 77) #[] #[]] w' (PutP w' b1 r1))
    (hr0 : r0 = .nilIface) (hr1 : r1 = .nilIface) (hnm : nm = true) (hno : ∀ w', Fr (fun _ => False) w w' → Calls Tryz.prog 155 #[.agg #[.int .i64 c, .int .i64 n, .slice A nr cr, .slice B nw cw]] w' (OkB w' false)) :
    Calls Tryz.prog 123 #[.agg #[.int .i64 1, .int .i64 c, .int .i64 n, .slice A nr cr, .slice B nw cw, .int .i64 s.kind, .int .i64 s.txn, .bool s.yes, .string s.from_, .string s.to_, .int .i64 s.epoch, .int .i64 s.shard, .int .i64 s.target, .int .i64 s.root, .int .i64 G, .int .i64 D, .slice C xs.length cx, .int .i64 0, .int .i64 0, .slice none 0 0, .slice none 0 0]] w (fun e w' => ∃ v0 v1 v2, e = .returned (.tuple #[.agg #[v0, v1, v2], .bool true]) ∧ Own8 w' w.heap.size v0 b0 ∧ Own8 w' w.heap.size v1 b1 ∧ Own8 w' w.heap.size v2 bs ∧ Fr (fun _ => False) w w') := by
  have H0 := Lib.hid h0
  have H1 := Lib.hid h1
  have HC := Lib.hid hC
  have HG := hgetok
  rw [hbs] at HG
  have HG := Lib.hid HG
  have HBS := Lib.hid hbs
  have H8 : Hid (Bytes8 bs) := by show Bytes8 bs; rw [← hbs]; exact cert_bytes G D xs
  have HBL : Hid (bs.length ≤ 9000) := by show _ ≤ _; rw [← hbs]; exact cert_len hxl
  have HXL := Lib.hid hxl
  have HBC := Lib.hid hbC
  clear h0 h1 hC hgetok hxl hbC hbs
  have hf0 : Fr (fun _ => False) w ((((w.alloc (Obj.cells #[.int .i64 1, .int .i64 c, .int .i64 n, .slice A nr cr, .slice B nw cw, .int .i64 s.kind, .int .i64 s.txn, .bool s.yes, .string s.from_, .string s.to_, .int .i64 s.epoch, .int .i64 s.shard, .int .i64 s.target, .int .i64 s.root, .int .i64 G, .int .i64 D, .slice C xs.length cx, .int .i64 0, .int .i64 0, .slice none 0 0, .slice none 0 0] 62)).alloc (Obj.cells #[.slice none 0 0, .slice none 0 0, .slice none 0 0] 214)).alloc (Obj.cells #[.slice none 0 0, .slice none 0 0, .slice none 0 0] 214)).alloc (Obj.cells #[.nilIface, .nilIface, .nilIface, .nilIface] 233)) := ((((Fr.refl _ _).alloc _).alloc _).alloc _).alloc _
  have hO0 : Blk ((((w.alloc (Obj.cells #[.int .i64 1, .int .i64 c, .int .i64 n, .slice A nr cr, .slice B nw cw, .int .i64 s.kind, .int .i64 s.txn, .bool s.yes, .string s.from_, .string s.to_, .int .i64 s.epoch, .int .i64 s.shard, .int .i64 s.target, .int .i64 s.root, .int .i64 G, .int .i64 D, .slice C xs.length cx, .int .i64 0, .int .i64 0, .slice none 0 0, .slice none 0 0] 62)).alloc (Obj.cells #[.slice none 0 0, .slice none 0 0, .slice none 0 0] 214)).alloc (Obj.cells #[.slice none 0 0, .slice none 0 0, .slice none 0 0] 214)).alloc (Obj.cells #[.nilIface, .nilIface, .nilIface, .nilIface] 233)) w.heap.size 62 #[.int .i64 1, .int .i64 c, .int .i64 n, .slice A nr cr, .slice B nw cw, .int .i64 s.kind, .int .i64 s.txn, .bool s.yes, .string s.from_, .string s.to_, .int .i64 s.epoch, .int .i64 s.shard, .int .i64 s.target, .int .i64 s.root, .int .i64 G, .int .i64 D, .slice C xs.length cx, .int .i64 0, .int .i64 0, .slice none 0 0, .slice none 0 0] := (((Blk.new w _ _).alloc _).alloc _).alloc _
  have hR0 : Blk ((((w.alloc (Obj.cells #[.int .i64 1, .int .i64 c, .int .i64 n, .slice A nr cr, .slice B nw cw, .int .i64 s.kind, .int .i64 s.txn, .bool s.yes, .string s.from_, .string s.to_, .int .i64 s.epoch, .int .i64 s.shard, .int .i64 s.target, .int .i64 s.root, .int .i64 G, .int .i64 D, .slice C xs.length cx, .int .i64 0, .int .i64 0, .slice none 0 0, .slice none 0 0] 62)).alloc (Obj.cells #[.slice none 0 0, .slice none 0 0, .slice none 0 0] 214)).alloc (Obj.cells #[.slice none 0 0, .slice none 0 0, .slice none 0 0] 214)).alloc (Obj.cells #[.nilIface, .nilIface, .nilIface, .nilIface] 233)) (w.heap.size + 1) 214 #[.slice none 0 0, .slice none 0 0, .slice none 0 0] := ((Blk.new_ _ _ _ (by simp)).alloc _).alloc _
  have hL0 : Blk ((((w.alloc (Obj.cells #[.int .i64 1, .int .i64 c, .int .i64 n, .slice A nr cr, .slice B nw cw, .int .i64 s.kind, .int .i64 s.txn, .bool s.yes, .string s.from_, .string s.to_, .int .i64 s.epoch, .int .i64 s.shard, .int .i64 s.target, .int .i64 s.root, .int .i64 G, .int .i64 D, .slice C xs.length cx, .int .i64 0, .int .i64 0, .slice none 0 0, .slice none 0 0] 62)).alloc (Obj.cells #[.slice none 0 0, .slice none 0 0, .slice none 0 0] 214)).alloc (Obj.cells #[.slice none 0 0, .slice none 0 0, .slice none 0 0] 214)).alloc (Obj.cells #[.nilIface, .nilIface, .nilIface, .nilIface] 233)) (w.heap.size + 1 + 1) 214 #[.slice none 0 0, .slice none 0 0, .slice none 0 0] := (Blk.new_ _ _ _ (by simp)).alloc _
  have hE0 : Blk ((((w.alloc (Obj.cells #[.int .i64 1, .int .i64 c, .int .i64 n, .slice A nr cr, .slice B nw cw, .int .i64 s.kind, .int .i64 s.txn, .bool s.yes, .string s.from_, .string s.to_, .int .i64 s.epoch, .int .i64 s.shard, .int .i64 s.target, .int .i64 s.root, .int .i64 G, .int .i64 D, .slice C xs.length cx, .int .i64 0, .int .i64 0, .slice none 0 0, .slice none 0 0] 62)).alloc (Obj.cells #[.slice none 0 0, .slice none 0 0, .slice none 0 0] 214)).alloc (Obj.cells #[.slice none 0 0, .slice none 0 0, .slice none 0 0] 214)).alloc (Obj.cells #[.nilIface, .nilIface, .nilIface, .nilIface] 233)) (w.heap.size + 1 + 1 + 1) 233 #[.nilIface, .nilIface, .nilIface, .nilIface] := Blk.new_ _ _ _ (by simp)
  have hz0 : w.heap.size + 4 ≤ ((((w.alloc (Obj.cells #[.int .i64 1, .int .i64 c, .int .i64 n, .slice A nr cr, .slice B nw cw, .int .i64 s.kind, .int .i64 s.txn, .bool s.yes, .string s.from_, .string s.to_, .int .i64 s.epoch, .int .i64 s.shard, .int .i64 s.target, .int .i64 s.root, .int .i64 G, .int .i64 D, .slice C xs.length cx, .int .i64 0, .int .i64 0, .slice none 0 0, .slice none 0 0] 62)).alloc (Obj.cells #[.slice none 0 0, .slice none 0 0, .slice none 0 0] 214)).alloc (Obj.cells #[.slice none 0 0, .slice none 0 0, .slice none 0 0] 214)).alloc (Obj.cells #[.nilIface, .nilIface, .nilIface, .nilIface] 233)).heap.size := by simp
  subst hr0 hr1 hnm
  have HN := Lib.hid hno
  clear hno
  go_enter Tryz.func123, Tryz.ntmps123
  go_upto_region 4 with fail
  generalize ((((w.alloc (Obj.cells #[.int .i64 1, .int .i64 c, .int .i64 n, .slice A nr cr, .slice B nw cw, .int .i64 s.kind, .int .i64 s.txn, .bool s.yes, .string s.from_, .string s.to_, .int .i64 s.epoch, .int .i64 s.shard, .int .i64 s.target, .int .i64 s.root, .int .i64 G, .int .i64 D, .slice C xs.length cx, .int .i64 0, .int .i64 0, .slice none 0 0, .slice none 0 0] 62)).alloc (Obj.cells #[.slice none 0 0, .slice none 0 0, .slice none 0 0] 214)).alloc (Obj.cells #[.slice none 0 0, .slice none 0 0, .slice none 0 0] 214)).alloc (Obj.cells #[.nilIface, .nilIface, .nilIface, .nilIface] 233)) = w0 at *
  have k1 := hO0.cell 1
  have k2 := hO0.cell 2
  have k3 := hO0.cell 3
  have k4 := hO0.cell 4
  go_upto_region 5 with (first | (go_at_call 148; refine (H0.out _ hf0).mono ?_; rintro e w1 ⟨v0, rfl, hv01, hf1⟩; obtain ⟨A0, c0, rfl, _, _⟩ := hv01.form; have hf01 := hf0.then_ hf1; have hL1 := hL0.fr hf1 id; have hE1 := hE0.fr hf1 id; have hO1 := hO0.fr hf1 id; have hR1 := hR0.fr hf1 id; have l0 := hL1.cell 0; have lf := hL1.frozen 0; have e0 := hE1.cell 0; have ef := hE1.frozen 0))
  have hO2 : Blk ((w1.setCell ⟨w.heap.size + 1 + 1, 0, none⟩ (Value.slice A0 b0.length c0)).setCell ⟨w.heap.size + 1 + 1 + 1, 0, none⟩ .nilIface) _ _ _ := ((hO1.far (fun h => by (try dsimp only at h); omega) _).far (fun h => by (try dsimp only at h); omega) _)
  have hR2 : Blk ((w1.setCell ⟨w.heap.size + 1 + 1, 0, none⟩ (Value.slice A0 b0.length c0)).setCell ⟨w.heap.size + 1 + 1 + 1, 0, none⟩ .nilIface) _ _ _ := ((hR1.far (fun h => by (try dsimp only at h); omega) _).far (fun h => by (try dsimp only at h); omega) _)
  have hL2 : Blk ((w1.setCell ⟨w.heap.size + 1 + 1, 0, none⟩ (Value.slice A0 b0.length c0)).setCell ⟨w.heap.size + 1 + 1 + 1, 0, none⟩ .nilIface) _ _ _ := ((hL1.set_ 0 _).far (fun h => by (try dsimp only at h); omega) _)
  have hE2 : Blk ((w1.setCell ⟨w.heap.size + 1 + 1, 0, none⟩ (Value.slice A0 b0.length c0)).setCell ⟨w.heap.size + 1 + 1 + 1, 0, none⟩ .nilIface) _ _ _ := ((hE1.far (fun h => by (try dsimp only at h); omega) _).set_ 0 _)
  have hf02 : Fr (fun _ => False) w ((w1.setCell ⟨w.heap.size + 1 + 1, 0, none⟩ (Value.slice A0 b0.length c0)).setCell ⟨w.heap.size + 1 + 1 + 1, 0, none⟩ .nilIface) := ((hf01.setCell (p := ⟨w.heap.size + 1 + 1, 0, none⟩) (fun h => absurd h (by dsimp only; omega)) _).setCell (p := ⟨w.heap.size + 1 + 1 + 1, 0, none⟩) (fun h => absurd h (by dsimp only; omega)) _)
  have hv02 : Own8 ((w1.setCell ⟨w.heap.size + 1 + 1, 0, none⟩ (Value.slice A0 b0.length c0)).setCell ⟨w.heap.size + 1 + 1 + 1, 0, none⟩ .nilIface) _ _ _ := hv01.fr (((Fr.refl (fun k => k = (w.heap.size + 1 + 1 + 1) ∨ k = (w.heap.size + 1 + 1)) w1).setCell (p := ⟨w.heap.size + 1 + 1, 0, none⟩) (fun _ => Or.inr rfl) _).setCell (p := ⟨w.heap.size + 1 + 1 + 1, 0, none⟩) (fun _ => Or.inl rfl) _) (fun k hk h => h.elim (fun h => hv01.ne_blk hE1 (by decide) (by rw [← h]; exact hk)) (fun h => hv01.ne_blk hL1 (by decide) (by rw [← h]; exact hk)))
  generalize ((w1.setCell ⟨w.heap.size + 1 + 1, 0, none⟩ (Value.slice A0 b0.length c0)).setCell ⟨w.heap.size + 1 + 1 + 1, 0, none⟩ .nilIface) = w2 at *
  have k5 := hO2.cell 5
  have k6 := hO2.cell 6
  have k7 := hO2.cell 7
  have k8 := hO2.cell 8
  have k9 := hO2.cell 9
  have k10 := hO2.cell 10
  have k11 := hO2.cell 11
  have k12 := hO2.cell 12
  have k13 := hO2.cell 13
  have hf02d : Fr (fun _ => False) w w2.drew := hf02.drew
  refine wp_region_noPanic ?_
  refine wp_region_held_drew (S := (fun w' => w'.cell? ⟨w.heap.size, 5, none⟩ = some (.int .i64 s.kind) ∧ w'.cell? ⟨w.heap.size, 6, none⟩ = some (.int .i64 s.txn) ∧ w'.cell? ⟨w.heap.size, 7, none⟩ = some (.bool s.yes) ∧ w'.cell? ⟨w.heap.size, 8, none⟩ = some (.string s.from_) ∧ w'.cell? ⟨w.heap.size, 9, none⟩ = some (.string s.to_) ∧ w'.cell? ⟨w.heap.size, 10, none⟩ = some (.int .i64 s.epoch) ∧ w'.cell? ⟨w.heap.size, 11, none⟩ = some (.int .i64 s.shard) ∧ w'.cell? ⟨w.heap.size, 12, none⟩ = some (.int .i64 s.target) ∧ w'.cell? ⟨w.heap.size, 13, none⟩ = some (.int .i64 s.root))) (by kernel_rfl) (⟨k5, k6, k7, k8, k9, k10, k11, k12, k13⟩) (fun hHeld => ?_)
  refine wpAnyH_takeAt (i := 0) (v := ?vb0) (some 26) rfl rfl (by kernel_rfl) (by kernel_rfl) (by kernel_rfl) (fun _ _ _ h => h) (Or.inl ⟨by rfl, ?hyb0⟩) (by assumption) ?restb0
  case hyb0 => (intro w hSw; (try dsimp only at hSw); go_simp; all_goals with_reducible rfl)
  simp only [Act.put, List.setIfInBounds_toArray, List.set_cons_zero, List.set_cons_succ]
  refine wpAnyH_takeAt (i := 1) (v := ?vb1) (some 27) rfl rfl (by kernel_rfl) (by kernel_rfl) (by kernel_rfl) (fun _ _ _ h => h) (Or.inl ⟨by rfl, ?hyb1⟩) (by assumption) ?restb1
  case hyb1 => (intro w hSw; (try dsimp only at hSw); go_simp; all_goals with_reducible rfl)
  simp only [Act.put, List.setIfInBounds_toArray, List.set_cons_zero, List.set_cons_succ]
  refine wpAnyH_takeAt (i := 2) (v := ?vb2) (some 28) rfl rfl (by kernel_rfl) (by kernel_rfl) (by kernel_rfl) (fun _ _ _ h => h) (Or.inl ⟨by rfl, ?hyb2⟩) (by assumption) ?restb2
  case hyb2 => (intro w hSw; (try dsimp only at hSw); go_simp; all_goals with_reducible rfl)
  simp only [Act.put, List.setIfInBounds_toArray, List.set_cons_zero, List.set_cons_succ]
  refine wpAnyH_takeAt (i := 3) (v := ?vb3) (some 29) rfl rfl (by kernel_rfl) (by kernel_rfl) (by kernel_rfl) (fun _ _ _ h => h) (Or.inl ⟨by rfl, ?hyb3⟩) (by assumption) ?restb3
  case hyb3 => (intro w hSw; (try dsimp only at hSw); go_simp; all_goals with_reducible rfl)
  simp only [Act.put, List.setIfInBounds_toArray, List.set_cons_zero, List.set_cons_succ]
  refine wpAnyH_takeAt (i := 4) (v := ?vb4) (some 30) rfl rfl (by kernel_rfl) (by kernel_rfl) (by kernel_rfl) (fun _ _ _ h => h) (Or.inl ⟨by rfl, ?hyb4⟩) (by assumption) ?restb4
  case hyb4 => (intro w hSw; (try dsimp only at hSw); go_simp; all_goals with_reducible rfl)
  simp only [Act.put, List.setIfInBounds_toArray, List.set_cons_zero, List.set_cons_succ]
  refine wpAnyH_takeAt (i := 5) (v := ?vb5) (some 31) rfl rfl (by kernel_rfl) (by kernel_rfl) (by kernel_rfl) (fun _ _ _ h => h) (Or.inl ⟨by rfl, ?hyb5⟩) (by assumption) ?restb5
  case hyb5 => (intro w hSw; (try dsimp only at hSw); go_simp; all_goals with_reducible rfl)
  simp only [Act.put, List.setIfInBounds_toArray, List.set_cons_zero, List.set_cons_succ]
  refine wpAnyH_ready (rs := [6]) (by kernel_rfl) (by simp) ?_
  refine AllReadyH.cons rfl (fun K hK => ?_) AllReadyH.nil
  go_simp
  go_at_call 150
  refine (H1.out _ hf02d).mono ?_
  rintro e w3 ⟨v1, rfl, hv13, hf3⟩
  obtain ⟨A1, c1, rfl, _, _⟩ := hv13.form
  have hf3 : Fr (fun _ => False) w2 w3 := ((Fr.refl (fun _ => False) w2).drew).trans hf3 (fun _ _ h => h)
  have hO3 := hO2.fr hf3 id
  have hR3 := hR2.fr hf3 id
  have hL3 := hL2.fr hf3 id
  have hE3 := hE2.fr hf3 id
  have hv03 := hv02.fr hf3 (fun _ _ => id)
  have hf03 := hf02.then_ hf3
  have lc1 := hL3.cell 1
  have ec1 := hE3.cell 1
  have lf := hL3.frozen 1
  have ef := hE3.frozen 1
  try go_wp2_with fail
  refine hK.out _ _ (⟨hO3.cell 5, hO3.cell 6, hO3.cell 7, hO3.cell 8, hO3.cell 9, hO3.cell 10, hO3.cell 11, hO3.cell 12, hO3.cell 13⟩) (fun hHeld => ?_)
  clear hK K
  refine wpAnyH_takeAt (i := 7) (v := ?vb7) (some 25) rfl rfl (by kernel_rfl) (by kernel_rfl) (by kernel_rfl) (fun _ _ _ h => h) (Or.inl ⟨by rfl, ?hyb7⟩) (by assumption) ?restb7
  case hyb7 => (intro w hSw; (try dsimp only at hSw); go_simp; all_goals with_reducible rfl)
  simp only [Act.put, List.setIfInBounds_toArray, List.set_cons_zero, List.set_cons_succ]
  refine wpAnyH_takeAt (i := 8) (v := ?vb8) (some 33) rfl rfl (by kernel_rfl) (by kernel_rfl) (by kernel_rfl) (fun _ _ _ h => h) (Or.inl ⟨by rfl, ?hyb8⟩) (by assumption) ?restb8
  case hyb8 => (intro w hSw; (try dsimp only at hSw); go_simp; all_goals with_reducible rfl)
  simp only [Act.put, List.setIfInBounds_toArray, List.set_cons_zero, List.set_cons_succ]
  refine wpAnyH_takeAt (i := 9) (v := ?vb9) (some 34) rfl rfl (by kernel_rfl) (by kernel_rfl) (by kernel_rfl) (fun _ _ _ h => h) (Or.inl ⟨by rfl, ?hyb9⟩) (by assumption) ?restb9
  case hyb9 => (intro w hSw; (try dsimp only at hSw); go_simp; all_goals with_reducible rfl)
  simp only [Act.put, List.setIfInBounds_toArray, List.set_cons_zero, List.set_cons_succ]
  refine wpAnyH_takeAt (i := 10) (v := ?vb10) (some 35) rfl rfl (by kernel_rfl) (by kernel_rfl) (by kernel_rfl) (fun _ _ _ h => h) (Or.inl ⟨by rfl, ?hyb10⟩) (by assumption) ?restb10
  case hyb10 => (intro w hSw; (try dsimp only at hSw); go_simp; all_goals with_reducible rfl)
  simp only [Act.put, List.setIfInBounds_toArray, List.set_cons_zero, List.set_cons_succ]
  refine wpAnyH_ready (rs := [11]) (by kernel_rfl) (by simp) ?_
  refine AllReadyH.cons rfl (fun K hK => ?_) AllReadyH.nil
  go_simp
  refine hK.out _ _ (⟨(hO3.far (fun h => by (try dsimp only at h); omega) _).cell 5, (hO3.far (fun h => by (try dsimp only at h); omega) _).cell 6, (hO3.far (fun h => by (try dsimp only at h); omega) _).cell 7, (hO3.far (fun h => by (try dsimp only at h); omega) _).cell 8, (hO3.far (fun h => by (try dsimp only at h); omega) _).cell 9, (hO3.far (fun h => by (try dsimp only at h); omega) _).cell 10, (hO3.far (fun h => by (try dsimp only at h); omega) _).cell 11, (hO3.far (fun h => by (try dsimp only at h); omega) _).cell 12, (hO3.far (fun h => by (try dsimp only at h); omega) _).cell 13⟩) (fun hHeld => ?_)
  clear hK K
  refine wpAnyH_takeAt (i := 12) (v := ?vb12) (some 36) rfl rfl (by kernel_rfl) (by kernel_rfl) (by kernel_rfl) (fun _ _ _ h => h) (Or.inl ⟨by rfl, ?hyb12⟩) (by assumption) ?restb12
  case hyb12 => (intro w hSw; (try dsimp only at hSw); go_simp; all_goals with_reducible rfl)
  simp only [Act.put, List.setIfInBounds_toArray, List.set_cons_zero, List.set_cons_succ]
  refine wpAnyH_ready (rs := [13]) (by kernel_rfl) (by simp) ?_
  refine AllReadyH.cons rfl (fun K hK => ?_) AllReadyH.nil
  go_simp
  refine hK.out _ _ (⟨((hO3.far (fun h => by (try dsimp only at h); omega) _).far (fun h => by (try dsimp only at h); omega) _).cell 5, ((hO3.far (fun h => by (try dsimp only at h); omega) _).far (fun h => by (try dsimp only at h); omega) _).cell 6, ((hO3.far (fun h => by (try dsimp only at h); omega) _).far (fun h => by (try dsimp only at h); omega) _).cell 7, ((hO3.far (fun h => by (try dsimp only at h); omega) _).far (fun h => by (try dsimp only at h); omega) _).cell 8, ((hO3.far (fun h => by (try dsimp only at h); omega) _).far (fun h => by (try dsimp only at h); omega) _).cell 9, ((hO3.far (fun h => by (try dsimp only at h); omega) _).far (fun h => by (try dsimp only at h); omega) _).cell 10, ((hO3.far (fun h => by (try dsimp only at h); omega) _).far (fun h => by (try dsimp only at h); omega) _).cell 11, ((hO3.far (fun h => by (try dsimp only at h); omega) _).far (fun h => by (try dsimp only at h); omega) _).cell 12, ((hO3.far (fun h => by (try dsimp only at h); omega) _).far (fun h => by (try dsimp only at h); omega) _).cell 13⟩) (fun hHeld => ?_)
  clear hK K
  refine wpAnyH_done (by kernel_rfl) ?_ _
  refine NoPanic.normal ?_
  have hO4 : Blk ((w3.setCell ⟨w.heap.size + 1 + 1, 1, none⟩ (Value.slice A1 b1.length c1)).setCell ⟨w.heap.size + 1 + 1 + 1, 1, none⟩ .nilIface) _ _ _ := ((hO3.far (fun h => by (try dsimp only at h); omega) _).far (fun h => by (try dsimp only at h); omega) _)
  have hR4 : Blk ((w3.setCell ⟨w.heap.size + 1 + 1, 1, none⟩ (Value.slice A1 b1.length c1)).setCell ⟨w.heap.size + 1 + 1 + 1, 1, none⟩ .nilIface) _ _ _ := ((hR3.far (fun h => by (try dsimp only at h); omega) _).far (fun h => by (try dsimp only at h); omega) _)
  have hL4 : Blk ((w3.setCell ⟨w.heap.size + 1 + 1, 1, none⟩ (Value.slice A1 b1.length c1)).setCell ⟨w.heap.size + 1 + 1 + 1, 1, none⟩ .nilIface) _ _ _ := ((hL3.set_ 1 _).far (fun h => by (try dsimp only at h); omega) _)
  have hE4 : Blk ((w3.setCell ⟨w.heap.size + 1 + 1, 1, none⟩ (Value.slice A1 b1.length c1)).setCell ⟨w.heap.size + 1 + 1 + 1, 1, none⟩ .nilIface) _ _ _ := ((hE3.far (fun h => by (try dsimp only at h); omega) _).set_ 1 _)
  have hf04 : Fr (fun _ => False) w ((w3.setCell ⟨w.heap.size + 1 + 1, 1, none⟩ (Value.slice A1 b1.length c1)).setCell ⟨w.heap.size + 1 + 1 + 1, 1, none⟩ .nilIface) := ((hf03.setCell (p := ⟨w.heap.size + 1 + 1, 1, none⟩) (fun h => absurd h (by dsimp only; omega)) _).setCell (p := ⟨w.heap.size + 1 + 1 + 1, 1, none⟩) (fun h => absurd h (by dsimp only; omega)) _)
  have hv04 : Own8 ((w3.setCell ⟨w.heap.size + 1 + 1, 1, none⟩ (Value.slice A1 b1.length c1)).setCell ⟨w.heap.size + 1 + 1 + 1, 1, none⟩ .nilIface) _ _ _ := hv03.fr (((Fr.refl (fun k => k = (w.heap.size + 1 + 1 + 1) ∨ k = (w.heap.size + 1 + 1)) w3).setCell (p := ⟨w.heap.size + 1 + 1, 1, none⟩) (fun _ => Or.inr rfl) _).setCell (p := ⟨w.heap.size + 1 + 1 + 1, 1, none⟩) (fun _ => Or.inl rfl) _) (fun k hk h => h.elim (fun h => hv03.ne_blk hE3 (by decide) (by rw [← h]; exact hk)) (fun h => hv03.ne_blk hL3 (by decide) (by rw [← h]; exact hk)))
  have hv14 : Own8 ((w3.setCell ⟨w.heap.size + 1 + 1, 1, none⟩ (Value.slice A1 b1.length c1)).setCell ⟨w.heap.size + 1 + 1 + 1, 1, none⟩ .nilIface) _ _ _ := hv13.fr (((Fr.refl (fun k => k = (w.heap.size + 1 + 1 + 1) ∨ k = (w.heap.size + 1 + 1)) w3).setCell (p := ⟨w.heap.size + 1 + 1, 1, none⟩) (fun _ => Or.inr rfl) _).setCell (p := ⟨w.heap.size + 1 + 1 + 1, 1, none⟩) (fun _ => Or.inl rfl) _) (fun k hk h => h.elim (fun h => hv13.ne_blk hE3 (by decide) (by rw [← h]; exact hk)) (fun h => hv13.ne_blk hL3 (by decide) (by rw [← h]; exact hk)))
  generalize ((w3.setCell ⟨w.heap.size + 1 + 1, 1, none⟩ (Value.slice A1 b1.length c1)).setCell ⟨w.heap.size + 1 + 1 + 1, 1, none⟩ .nilIface) = w4 at *
  have k14 := hO4.cell 14
  have k15 := hO4.cell 15
  have k16 := hO4.cell 16
  have HP : Hid (Calls Tryz.prog 151 #[.agg #[.int .i64 G, .int .i64 D, .slice C xs.length cx]] w4 (PutP w4 bs .nilIface)) := (cert_Put (cap := cx) (HC.out.fr hf04 (fun _ _ => id)) (Nat.le_trans HBC.out hf04.size) (by have := HXL.out; omega) G D).mono fun _ _ h => HBS.out ▸ putP_of HXL.out h
  go_upto_region 7 with (first | (go_at_call 151; refine HP.out.mono ?_; rintro e w5 ⟨v2, rfl, hv25, hf5⟩; obtain ⟨A2, c2, rfl, _, _⟩ := hv25.form; have hO5 := hO4.fr hf5 id; have hR5 := hR4.fr hf5 id; have hL5 := hL4.fr hf5 id; have hE5 := hE4.fr hf5 id; have hv05 := hv04.fr hf5 (fun _ _ => id); have hv15 := hv14.fr hf5 (fun _ _ => id); have hf05 := hf04.then_ hf5; have lc := hL5.cell 2; have lf := hL5.frozen 2; have ec := hE5.cell 2; have ef := hE5.frozen 2))
  have hO6 : Blk ((w5.setCell ⟨w.heap.size + 1 + 1, 2, none⟩ (Value.slice A2 bs.length c2)).setCell ⟨w.heap.size + 1 + 1 + 1, 2, none⟩ Value.nilIface) _ _ _ := ((hO5.far (fun h => by (try dsimp only at h); omega) _).far (fun h => by (try dsimp only at h); omega) _)
  have hR6 : Blk ((w5.setCell ⟨w.heap.size + 1 + 1, 2, none⟩ (Value.slice A2 bs.length c2)).setCell ⟨w.heap.size + 1 + 1 + 1, 2, none⟩ Value.nilIface) _ _ _ := ((hR5.far (fun h => by (try dsimp only at h); omega) _).far (fun h => by (try dsimp only at h); omega) _)
  have hL6 : Blk ((w5.setCell ⟨w.heap.size + 1 + 1, 2, none⟩ (Value.slice A2 bs.length c2)).setCell ⟨w.heap.size + 1 + 1 + 1, 2, none⟩ Value.nilIface) _ _ _ := ((hL5.set_ 2 _).far (fun h => by (try dsimp only at h); omega) _)
  have hE6 : Blk ((w5.setCell ⟨w.heap.size + 1 + 1, 2, none⟩ (Value.slice A2 bs.length c2)).setCell ⟨w.heap.size + 1 + 1 + 1, 2, none⟩ Value.nilIface) _ _ _ := ((hE5.far (fun h => by (try dsimp only at h); omega) _).set_ 2 _)
  have hf06 : Fr (fun _ => False) w ((w5.setCell ⟨w.heap.size + 1 + 1, 2, none⟩ (Value.slice A2 bs.length c2)).setCell ⟨w.heap.size + 1 + 1 + 1, 2, none⟩ Value.nilIface) := ((hf05.setCell (p := ⟨w.heap.size + 1 + 1, 2, none⟩) (fun h => absurd h (by dsimp only; omega)) _).setCell (p := ⟨w.heap.size + 1 + 1 + 1, 2, none⟩) (fun h => absurd h (by dsimp only; omega)) _)
  have hv06 : Own8 ((w5.setCell ⟨w.heap.size + 1 + 1, 2, none⟩ (Value.slice A2 bs.length c2)).setCell ⟨w.heap.size + 1 + 1 + 1, 2, none⟩ Value.nilIface) _ _ _ := hv05.fr (((Fr.refl (fun k => k = (w.heap.size + 1 + 1 + 1) ∨ k = (w.heap.size + 1 + 1)) w5).setCell (p := ⟨w.heap.size + 1 + 1, 2, none⟩) (fun _ => Or.inr rfl) _).setCell (p := ⟨w.heap.size + 1 + 1 + 1, 2, none⟩) (fun _ => Or.inl rfl) _) (fun k hk h => h.elim (fun h => hv05.ne_blk hE5 (by decide) (by rw [← h]; exact hk)) (fun h => hv05.ne_blk hL5 (by decide) (by rw [← h]; exact hk)))
  have hv16 : Own8 ((w5.setCell ⟨w.heap.size + 1 + 1, 2, none⟩ (Value.slice A2 bs.length c2)).setCell ⟨w.heap.size + 1 + 1 + 1, 2, none⟩ Value.nilIface) _ _ _ := hv15.fr (((Fr.refl (fun k => k = (w.heap.size + 1 + 1 + 1) ∨ k = (w.heap.size + 1 + 1)) w5).setCell (p := ⟨w.heap.size + 1 + 1, 2, none⟩) (fun _ => Or.inr rfl) _).setCell (p := ⟨w.heap.size + 1 + 1 + 1, 2, none⟩) (fun _ => Or.inl rfl) _) (fun k hk h => h.elim (fun h => hv15.ne_blk hE5 (by decide) (by rw [← h]; exact hk)) (fun h => hv15.ne_blk hL5 (by decide) (by rw [← h]; exact hk)))
  have hv26 : Own8 ((w5.setCell ⟨w.heap.size + 1 + 1, 2, none⟩ (Value.slice A2 bs.length c2)).setCell ⟨w.heap.size + 1 + 1 + 1, 2, none⟩ Value.nilIface) _ _ _ := hv25.fr (((Fr.refl (fun k => k = (w.heap.size + 1 + 1 + 1) ∨ k = (w.heap.size + 1 + 1)) w5).setCell (p := ⟨w.heap.size + 1 + 1, 2, none⟩) (fun _ => Or.inr rfl) _).setCell (p := ⟨w.heap.size + 1 + 1 + 1, 2, none⟩) (fun _ => Or.inl rfl) _) (fun k hk h => h.elim (fun h => hv25.ne_blk hE5 (by decide) (by rw [← h]; exact hk)) (fun h => hv25.ne_blk hL5 (by decide) (by rw [← h]; exact hk)))
  generalize ((w5.setCell ⟨w.heap.size + 1 + 1, 2, none⟩ (Value.slice A2 bs.length c2)).setCell ⟨w.heap.size + 1 + 1 + 1, 2, none⟩ Value.nilIface) = w6 at *
  have ec := hE6.cell 2
  have lc := hL6.cell 2
  obtain ⟨_, _, hve, _, hrow⟩ := hv26.form
  cases hve
  have HGET := Lib.hid (cert_Get (cap := c2) hrow (by have := HBL.out; omega) H8.out)
  clear hrow
  go_upto_region 9 with (first | (go_at_call 152; refine HGET.out.mono ?_; rintro e w7 hg7; obtain ⟨x3, rfl, hf7⟩ := get_fine HG.out hg7; have hO7 := hO6.fr hf7 id; have hR7 := hR6.fr hf7 id; have hL7 := hL6.fr hf7 id; have hE7 := hE6.fr hf7 id; have hv07 := hv06.fr hf7 (fun _ _ => id); have hv17 := hv16.fr hf7 (fun _ _ => id); have hv27 := hv26.fr hf7 (fun _ _ => id); have hf07 := hf06.then_ hf7; have ec := hE7.cell 3; have ef := hE7.frozen 3))
  have hO8 : Blk (w7.setCell ⟨w.heap.size + 1 + 1 + 1, 3, none⟩ Value.nilIface) _ _ _ := (hO7.far (fun h => by (try dsimp only at h); omega) _)
  have hR8 : Blk (w7.setCell ⟨w.heap.size + 1 + 1 + 1, 3, none⟩ Value.nilIface) _ _ _ := (hR7.far (fun h => by (try dsimp only at h); omega) _)
  have hL8 : Blk (w7.setCell ⟨w.heap.size + 1 + 1 + 1, 3, none⟩ Value.nilIface) _ _ _ := (hL7.far (fun h => by (try dsimp only at h); omega) _)
  have hE8 : Blk (w7.setCell ⟨w.heap.size + 1 + 1 + 1, 3, none⟩ Value.nilIface) _ _ _ := (hE7.set_ 3 _)
  have hf08 : Fr (fun _ => False) w (w7.setCell ⟨w.heap.size + 1 + 1 + 1, 3, none⟩ Value.nilIface) := (hf07.setCell (p := ⟨w.heap.size + 1 + 1 + 1, 3, none⟩) (fun h => absurd h (by dsimp only; omega)) _)
  have hv08 : Own8 (w7.setCell ⟨w.heap.size + 1 + 1 + 1, 3, none⟩ Value.nilIface) _ _ _ := hv07.fr ((Fr.refl (fun k => k = (w.heap.size + 1 + 1 + 1)) w7).setCell (p := ⟨w.heap.size + 1 + 1 + 1, 3, none⟩) (fun _ => rfl) _) (fun k hk h => hv07.ne_blk hE7 (by decide) (by rw [← h]; exact hk))
  have hv18 : Own8 (w7.setCell ⟨w.heap.size + 1 + 1 + 1, 3, none⟩ Value.nilIface) _ _ _ := hv17.fr ((Fr.refl (fun k => k = (w.heap.size + 1 + 1 + 1)) w7).setCell (p := ⟨w.heap.size + 1 + 1 + 1, 3, none⟩) (fun _ => rfl) _) (fun k hk h => hv17.ne_blk hE7 (by decide) (by rw [← h]; exact hk))
  have hv28 : Own8 (w7.setCell ⟨w.heap.size + 1 + 1 + 1, 3, none⟩ Value.nilIface) _ _ _ := hv27.fr ((Fr.refl (fun k => k = (w.heap.size + 1 + 1 + 1)) w7).setCell (p := ⟨w.heap.size + 1 + 1 + 1, 3, none⟩) (fun _ => rfl) _) (fun k hk h => hv27.ne_blk hE7 (by decide) (by rw [← h]; exact hk))
  generalize (w7.setCell ⟨w.heap.size + 1 + 1 + 1, 3, none⟩ Value.nilIface) = w8 at *
  have HER : Hid (ErrRow w8 (w.heap.size + 1 + 1 + 1) [.nilIface, .nilIface, .nilIface, .nilIface]) := err_row hE8 (.inl rfl) (.inl rfl) (.inl rfl) (.inl rfl)
  go_upto_region 10 with (first | (go_at_call 153; refine (containsErr (cap := 4) (z := false) rfl HER.out (by simp)).mono ?_; rintro e w9 ⟨rfl, rfl⟩))
  have hf08d : Fr (fun _ => False) w w8.drew := hf08.drew
  refine wp_region_noPanic ?_
  refine wp_region_held_drew (S := (fun w' => w'.cell? ⟨w.heap.size, 0, none⟩ = some (.int .i64 1) ∧ w'.cell? ⟨w.heap.size, 1, none⟩ = some (.int .i64 c) ∧ w'.cell? ⟨w.heap.size, 2, none⟩ = some (.int .i64 n) ∧ w'.cell? ⟨w.heap.size, 3, none⟩ = some (.slice A nr cr) ∧ w'.cell? ⟨w.heap.size, 4, none⟩ = some (.slice B nw cw) ∧ w'.cell? ⟨w.heap.size, 17, none⟩ = some (.int .i64 0) ∧ w'.cell? ⟨w.heap.size, 18, none⟩ = some (.int .i64 0) ∧ w'.cell? ⟨w.heap.size, 19, none⟩ = some (.slice none 0 0) ∧ w'.cell? ⟨w.heap.size, 20, none⟩ = some (.slice none 0 0) ∧ w'.cell? ⟨w.heap.size + 1 + 1, 0, none⟩ = some ((Value.slice A0 b0.length c0)) ∧ w'.cell? ⟨w.heap.size + 1 + 1, 1, none⟩ = some ((Value.slice A1 b1.length c1)) ∧ w'.cell? ⟨w.heap.size + 1 + 1, 2, none⟩ = some ((Value.slice A2 bs.length c2)))) (by kernel_rfl) (⟨hO8.cell 0, hO8.cell 1, hO8.cell 2, hO8.cell 3, hO8.cell 4, hO8.cell 17, hO8.cell 18, hO8.cell 19, hO8.cell 20, hL8.cell 0, hL8.cell 1, hL8.cell 2⟩) (fun hHeld => ?_)
  refine wpAnyH_takeAt (i := 0) (v := ?vc0) (some 57) rfl rfl (by kernel_rfl) (by kernel_rfl) (by kernel_rfl) (fun _ _ _ h => h) (Or.inl ⟨by rfl, ?hyc0⟩) (by assumption) ?restc0
  case hyc0 => (intro w hSw; (try dsimp only at hSw); go_simp; all_goals with_reducible rfl)
  simp only [Act.put, List.setIfInBounds_toArray, List.set_cons_zero, List.set_cons_succ]
  refine wpAnyH_takeAt (i := 1) (v := ?vc1) (some 58) rfl rfl (by kernel_rfl) (by kernel_rfl) (by kernel_rfl) (fun _ _ _ h => h) (Or.inl ⟨by rfl, ?hyc1⟩) (by assumption) ?restc1
  case hyc1 => (intro w hSw; (try dsimp only at hSw); go_simp; all_goals with_reducible rfl)
  simp only [Act.put, List.setIfInBounds_toArray, List.set_cons_zero, List.set_cons_succ]
  refine wpAnyH_takeAt (i := 2) (v := ?vc2) (some 59) rfl rfl (by kernel_rfl) (by kernel_rfl) (by kernel_rfl) (fun _ _ _ h => h) (Or.inl ⟨by rfl, ?hyc2⟩) (by assumption) ?restc2
  case hyc2 => (intro w hSw; (try dsimp only at hSw); go_simp; all_goals with_reducible rfl)
  simp only [Act.put, List.setIfInBounds_toArray, List.set_cons_zero, List.set_cons_succ]
  refine wpAnyH_takeAt (i := 3) (v := ?vc3) (some 60) rfl rfl (by kernel_rfl) (by kernel_rfl) (by kernel_rfl) (fun _ _ _ h => h) (Or.inl ⟨by rfl, ?hyc3⟩) (by assumption) ?restc3
  case hyc3 => (intro w hSw; (try dsimp only at hSw); go_simp; all_goals with_reducible rfl)
  simp only [Act.put, List.setIfInBounds_toArray, List.set_cons_zero, List.set_cons_succ]
  refine wpAnyH_takeAt (i := 4) (v := ?vc4) (some 61) rfl rfl (by kernel_rfl) (by kernel_rfl) (by kernel_rfl) (fun _ _ _ h => h) (Or.inl ⟨by rfl, ?hyc4⟩) (by assumption) ?restc4
  case hyc4 => (intro w hSw; (try dsimp only at hSw); go_simp; all_goals with_reducible rfl)
  simp only [Act.put, List.setIfInBounds_toArray, List.set_cons_zero, List.set_cons_succ]
  refine wpAnyH_takeAt (i := 5) (v := ?vc5) (some 62) rfl rfl (by kernel_rfl) (by kernel_rfl) (by kernel_rfl) (fun _ _ _ h => h) (Or.inl ⟨by rfl, ?hyc5⟩) (by assumption) ?restc5
  case hyc5 => (intro w hSw; (try dsimp only at hSw); go_simp; all_goals with_reducible rfl)
  simp only [Act.put, List.setIfInBounds_toArray, List.set_cons_zero, List.set_cons_succ]
  refine wpAnyH_takeAt (i := 6) (v := ?vc6) (some 63) rfl rfl (by kernel_rfl) (by kernel_rfl) (by kernel_rfl) (fun _ _ _ h => h) (Or.inl ⟨by rfl, ?hyc6⟩) (by assumption) ?restc6
  case hyc6 => (intro w hSw; (try dsimp only at hSw); go_simp; all_goals with_reducible rfl)
  simp only [Act.put, List.setIfInBounds_toArray, List.set_cons_zero, List.set_cons_succ]
  refine wpAnyH_takeAt (i := 7) (v := ?vc7) (some 64) rfl rfl (by kernel_rfl) (by kernel_rfl) (by kernel_rfl) (fun _ _ _ h => h) (Or.inl ⟨by rfl, ?hyc7⟩) (by assumption) ?restc7
  case hyc7 => (intro w hSw; (try dsimp only at hSw); go_simp; all_goals with_reducible rfl)
  simp only [Act.put, List.setIfInBounds_toArray, List.set_cons_zero, List.set_cons_succ]
  refine wpAnyH_takeAt (i := 8) (v := ?vc8) (some 65) rfl rfl (by kernel_rfl) (by kernel_rfl) (by kernel_rfl) (fun _ _ _ h => h) (Or.inl ⟨by rfl, ?hyc8⟩) (by assumption) ?restc8
  case hyc8 => (intro w hSw; (try dsimp only at hSw); go_simp; all_goals with_reducible rfl)
  simp only [Act.put, List.setIfInBounds_toArray, List.set_cons_zero, List.set_cons_succ]
  refine wpAnyH_takeAt (i := 9) (v := ?vc9) (some 66) rfl rfl (by kernel_rfl) (by kernel_rfl) (by kernel_rfl) (fun _ _ _ h => h) (Or.inl ⟨by rfl, ?hyc9⟩) (by assumption) ?restc9
  case hyc9 => (intro w hSw; (try dsimp only at hSw); go_simp; all_goals with_reducible rfl)
  simp only [Act.put, List.setIfInBounds_toArray, List.set_cons_zero, List.set_cons_succ]
  refine wpAnyH_takeAt (i := 10) (v := ?vc10) (some 67) rfl rfl (by kernel_rfl) (by kernel_rfl) (by kernel_rfl) (fun _ _ _ h => h) (Or.inl ⟨by rfl, ?hyc10⟩) (by assumption) ?restc10
  case hyc10 => (intro w hSw; (try dsimp only at hSw); go_simp; all_goals with_reducible rfl)
  simp only [Act.put, List.setIfInBounds_toArray, List.set_cons_zero, List.set_cons_succ]
  refine wpAnyH_takeAt (i := 11) (v := ?vc11) (some 68) rfl rfl (by kernel_rfl) (by kernel_rfl) (by kernel_rfl) (fun _ _ _ h => h) (Or.inl ⟨by rfl, ?hyc11⟩) (by assumption) ?restc11
  case hyc11 => (intro w hSw; (try dsimp only at hSw); go_simp; all_goals with_reducible rfl)
  simp only [Act.put, List.setIfInBounds_toArray, List.set_cons_zero, List.set_cons_succ]
  refine wpAnyH_takeAt (i := 12) (v := ?vc12) (some 69) rfl rfl (by kernel_rfl) (by kernel_rfl) (by kernel_rfl) (fun _ _ _ h => h) (Or.inl ⟨by rfl, ?hyc12⟩) (by assumption) ?restc12
  case hyc12 => (intro w hSw; (try dsimp only at hSw); go_simp; all_goals with_reducible rfl)
  simp only [Act.put, List.setIfInBounds_toArray, List.set_cons_zero, List.set_cons_succ]
  refine wpAnyH_takeAt (i := 13) (v := ?vc13) (some 70) rfl rfl (by kernel_rfl) (by kernel_rfl) (by kernel_rfl) (fun _ _ _ h => h) (Or.inl ⟨by rfl, ?hyc13⟩) (by assumption) ?restc13
  case hyc13 => (intro w hSw; (try dsimp only at hSw); go_simp; all_goals with_reducible rfl)
  simp only [Act.put, List.setIfInBounds_toArray, List.set_cons_zero, List.set_cons_succ]
  refine wpAnyH_takeAt (i := 14) (v := ?vc14) (some 71) rfl rfl (by kernel_rfl) (by kernel_rfl) (by kernel_rfl) (fun _ _ _ h => h) (Or.inl ⟨by rfl, ?hyc14⟩) (by assumption) ?restc14
  case hyc14 => (intro w hSw; (try dsimp only at hSw); go_simp; all_goals with_reducible rfl)
  simp only [Act.put, List.setIfInBounds_toArray, List.set_cons_zero, List.set_cons_succ]
  refine wpAnyH_takeAt (i := 15) (v := ?vc15) (some 72) rfl rfl (by kernel_rfl) (by kernel_rfl) (by kernel_rfl) (fun _ _ _ h => h) (Or.inl ⟨by rfl, ?hyc15⟩) (by assumption) ?restc15
  case hyc15 => (intro w hSw; (try dsimp only at hSw); go_simp; all_goals with_reducible rfl)
  simp only [Act.put, List.setIfInBounds_toArray, List.set_cons_zero, List.set_cons_succ]
  refine wpAnyH_takeAt (i := 16) (v := ?vc16) (some 73) rfl rfl (by kernel_rfl) (by kernel_rfl) (by kernel_rfl) (fun _ _ _ h => h) (Or.inl ⟨by rfl, ?hyc16⟩) (by assumption) ?restc16
  case hyc16 => (intro w hSw; (try dsimp only at hSw); go_simp; all_goals with_reducible rfl)
  simp only [Act.put, List.setIfInBounds_toArray, List.set_cons_zero, List.set_cons_succ]
  refine wpAnyH_ready (rs := [17]) (by kernel_rfl) (by simp) ?_
  refine AllReadyH.cons rfl (fun K hK => ?_) AllReadyH.nil
  go_simp
  go_at_call 155
  refine (HN.out _ hf08d).mono ?_
  rintro e w10 ⟨rfl, hf10⟩
  have hf10 : Fr (fun _ => False) w8 w10 := ((Fr.refl (fun _ => False) w8).drew).trans hf10 (fun _ _ h => h)
  have hO10 := hO8.fr hf10 id
  have hR10 := hR8.fr hf10 id
  have hL10 := hL8.fr hf10 id
  have hE10 := hE8.fr hf10 id
  have hv010 := hv08.fr hf10 (fun _ _ => id)
  have hv110 := hv18.fr hf10 (fun _ _ => id)
  have hv210 := hv28.fr hf10 (fun _ _ => id)
  have hf010 := hf08.then_ hf10
  try go_wp2_with fail
  refine hK.out _ _ (⟨hO10.cell 0, hO10.cell 1, hO10.cell 2, hO10.cell 3, hO10.cell 4, hO10.cell 17, hO10.cell 18, hO10.cell 19, hO10.cell 20, hL10.cell 0, hL10.cell 1, hL10.cell 2⟩) (fun hHeld => ?_)
  clear hK K
  refine wpAnyH_takeAt (i := 18) (v := ?vc18) (some 75) rfl rfl (by kernel_rfl) (by kernel_rfl) (by kernel_rfl) (fun _ _ _ h => h) (Or.inl ⟨by rfl, ?hyc18⟩) (by assumption) ?restc18
  case hyc18 => (intro w hSw; (try dsimp only at hSw); go_simp; all_goals with_reducible rfl)
  simp only [Act.put, List.setIfInBounds_toArray, List.set_cons_zero, List.set_cons_succ]
  refine wpAnyH_takeAt (i := 19) (v := ?vc19) (some 76) rfl rfl (by kernel_rfl) (by kernel_rfl) (by kernel_rfl) (fun _ _ _ h => h) (Or.inl ⟨by rfl, ?hyc19⟩) (by assumption) ?restc19
  case hyc19 => (intro w hSw; (try dsimp only at hSw); go_simp; all_goals with_reducible rfl)
  simp only [Act.put, List.setIfInBounds_toArray, List.set_cons_zero, List.set_cons_succ]
  refine wpAnyH_takeAt (i := 20) (v := ?vc20) (some 77) rfl rfl (by kernel_rfl) (by kernel_rfl) (by kernel_rfl) (fun _ _ _ h => h) (Or.inl ⟨by rfl, ?hyc20⟩) (by assumption) ?restc20
  case hyc20 => (intro w hSw; (try dsimp only at hSw); go_simp; all_goals with_reducible rfl)
  simp only [Act.put, List.setIfInBounds_toArray, List.set_cons_zero, List.set_cons_succ]
  refine wpAnyH_takeAt (i := 21) (v := ?vc21) (some 78) rfl rfl (by kernel_rfl) (by kernel_rfl) (by kernel_rfl) (fun _ _ _ h => h) (Or.inl ⟨by rfl, ?hyc21⟩) (by assumption) ?restc21
  case hyc21 => (intro w hSw; (try dsimp only at hSw); go_simp; all_goals with_reducible rfl)
  simp only [Act.put, List.setIfInBounds_toArray, List.set_cons_zero, List.set_cons_succ]
  refine wpAnyH_takeAt (i := 22) (v := ?vc22) (some 79) rfl rfl (by kernel_rfl) (by kernel_rfl) (by kernel_rfl) (fun _ _ _ h => h) (Or.inl ⟨by rfl, ?hyc22⟩) (by assumption) ?restc22
  case hyc22 => (intro w hSw; (try dsimp only at hSw); go_simp; all_goals with_reducible rfl)
  simp only [Act.put, List.setIfInBounds_toArray, List.set_cons_zero, List.set_cons_succ]
  refine wpAnyH_ready (rs := [23]) (by kernel_rfl) (by simp) ?_
  refine AllReadyH.cons rfl (fun K hK => ?_) AllReadyH.nil
  go_simp
  go_at_call 156
  refine (fits_zero _).mono ?_
  rintro e w11 ⟨rfl, hf11⟩
  have hO11 := hO10.fr hf11 id
  have hR11 := hR10.fr hf11 id
  have hL11 := hL10.fr hf11 id
  have hE11 := hE10.fr hf11 id
  have hv011 := hv010.fr hf11 (fun _ _ => id)
  have hv111 := hv110.fr hf11 (fun _ _ => id)
  have hv211 := hv210.fr hf11 (fun _ _ => id)
  have hf011 := hf010.then_ hf11
  have rc0 := hR11.cell 0
  have rc1 := hR11.cell 1
  have rc2 := hR11.cell 2
  have rf0 := hR11.frozen 0
  have rf1 := hR11.frozen 1
  have rf2 := hR11.frozen 2
  try go_wp2_with fail
  refine hK.out _ _ (⟨hO11.cell 0, hO11.cell 1, hO11.cell 2, hO11.cell 3, hO11.cell 4, hO11.cell 17, hO11.cell 18, hO11.cell 19, hO11.cell 20, hL11.cell 0, hL11.cell 1, hL11.cell 2⟩) (fun hHeld => ?_)
  clear hK K
  refine wpAnyH_takeAt (i := 24) (v := ?vc24) (some 81) rfl rfl (by kernel_rfl) (by kernel_rfl) (by kernel_rfl) (fun _ _ _ h => h) (Or.inl ⟨by rfl, ?hyc24⟩) (by assumption) ?restc24
  case hyc24 => (intro w hSw; (try dsimp only at hSw); go_simp; all_goals with_reducible rfl)
  simp only [Act.put, List.setIfInBounds_toArray, List.set_cons_zero, List.set_cons_succ]
  refine wpAnyH_ready (rs := [25]) (by kernel_rfl) (by simp) ?_
  refine AllReadyH.cons rfl (fun K hK => ?_) AllReadyH.nil
  go_simp
  refine hK.out _ _ (⟨(((hO11.far (fun h => by (try dsimp only at h); omega) _).far (fun h => by (try dsimp only at h); omega) _).far (fun h => by (try dsimp only at h); omega) _).cell 0, (((hO11.far (fun h => by (try dsimp only at h); omega) _).far (fun h => by (try dsimp only at h); omega) _).far (fun h => by (try dsimp only at h); omega) _).cell 1, (((hO11.far (fun h => by (try dsimp only at h); omega) _).far (fun h => by (try dsimp only at h); omega) _).far (fun h => by (try dsimp only at h); omega) _).cell 2, (((hO11.far (fun h => by (try dsimp only at h); omega) _).far (fun h => by (try dsimp only at h); omega) _).far (fun h => by (try dsimp only at h); omega) _).cell 3, (((hO11.far (fun h => by (try dsimp only at h); omega) _).far (fun h => by (try dsimp only at h); omega) _).far (fun h => by (try dsimp only at h); omega) _).cell 4, (((hO11.far (fun h => by (try dsimp only at h); omega) _).far (fun h => by (try dsimp only at h); omega) _).far (fun h => by (try dsimp only at h); omega) _).cell 17, (((hO11.far (fun h => by (try dsimp only at h); omega) _).far (fun h => by (try dsimp only at h); omega) _).far (fun h => by (try dsimp only at h); omega) _).cell 18, (((hO11.far (fun h => by (try dsimp only at h); omega) _).far (fun h => by (try dsimp only at h); omega) _).far (fun h => by (try dsimp only at h); omega) _).cell 19, (((hO11.far (fun h => by (try dsimp only at h); omega) _).far (fun h => by (try dsimp only at h); omega) _).far (fun h => by (try dsimp only at h); omega) _).cell 20, (((hL11.far (fun h => by (try dsimp only at h); omega) _).far (fun h => by (try dsimp only at h); omega) _).far (fun h => by (try dsimp only at h); omega) _).cell 0, (((hL11.far (fun h => by (try dsimp only at h); omega) _).far (fun h => by (try dsimp only at h); omega) _).far (fun h => by (try dsimp only at h); omega) _).cell 1, (((hL11.far (fun h => by (try dsimp only at h); omega) _).far (fun h => by (try dsimp only at h); omega) _).far (fun h => by (try dsimp only at h); omega) _).cell 2⟩) (fun hHeld => ?_)
  clear hK K
  refine wpAnyH_takeAt (i := 26) (v := ?vc26) (some 3) rfl rfl (by kernel_rfl) (by kernel_rfl) (by kernel_rfl) (fun _ _ _ h => h) (Or.inl ⟨by rfl, ?hyc26⟩) (by assumption) ?restc26
  case hyc26 => (intro w hSw; (try dsimp only at hSw); go_simp; all_goals with_reducible rfl)
  simp only [Act.put, List.setIfInBounds_toArray, List.set_cons_zero, List.set_cons_succ]
  refine wpAnyH_done (by kernel_rfl) ?_ _
  refine NoPanic.normal ?_
  have hO12 : Blk (((w11.setCell ⟨w.heap.size + 1, 0, none⟩ (Value.slice A0 b0.length c0)).setCell ⟨w.heap.size + 1, 1, none⟩ (Value.slice A1 b1.length c1)).setCell ⟨w.heap.size + 1, 2, none⟩ (Value.slice A2 bs.length c2)) _ _ _ := (((hO11.far (fun h => by (try dsimp only at h); omega) _).far (fun h => by (try dsimp only at h); omega) _).far (fun h => by (try dsimp only at h); omega) _)
  have hR12 : Blk (((w11.setCell ⟨w.heap.size + 1, 0, none⟩ (Value.slice A0 b0.length c0)).setCell ⟨w.heap.size + 1, 1, none⟩ (Value.slice A1 b1.length c1)).setCell ⟨w.heap.size + 1, 2, none⟩ (Value.slice A2 bs.length c2)) _ _ _ := (((hR11.set_ 0 _).set_ 1 _).set_ 2 _)
  have hL12 : Blk (((w11.setCell ⟨w.heap.size + 1, 0, none⟩ (Value.slice A0 b0.length c0)).setCell ⟨w.heap.size + 1, 1, none⟩ (Value.slice A1 b1.length c1)).setCell ⟨w.heap.size + 1, 2, none⟩ (Value.slice A2 bs.length c2)) _ _ _ := (((hL11.far (fun h => by (try dsimp only at h); omega) _).far (fun h => by (try dsimp only at h); omega) _).far (fun h => by (try dsimp only at h); omega) _)
  have hE12 : Blk (((w11.setCell ⟨w.heap.size + 1, 0, none⟩ (Value.slice A0 b0.length c0)).setCell ⟨w.heap.size + 1, 1, none⟩ (Value.slice A1 b1.length c1)).setCell ⟨w.heap.size + 1, 2, none⟩ (Value.slice A2 bs.length c2)) _ _ _ := (((hE11.far (fun h => by (try dsimp only at h); omega) _).far (fun h => by (try dsimp only at h); omega) _).far (fun h => by (try dsimp only at h); omega) _)
  have hf012 : Fr (fun _ => False) w (((w11.setCell ⟨w.heap.size + 1, 0, none⟩ (Value.slice A0 b0.length c0)).setCell ⟨w.heap.size + 1, 1, none⟩ (Value.slice A1 b1.length c1)).setCell ⟨w.heap.size + 1, 2, none⟩ (Value.slice A2 bs.length c2)) := (((hf011.setCell (p := ⟨w.heap.size + 1, 0, none⟩) (fun h => absurd h (by dsimp only; omega)) _).setCell (p := ⟨w.heap.size + 1, 1, none⟩) (fun h => absurd h (by dsimp only; omega)) _).setCell (p := ⟨w.heap.size + 1, 2, none⟩) (fun h => absurd h (by dsimp only; omega)) _)
  have hv012 : Own8 (((w11.setCell ⟨w.heap.size + 1, 0, none⟩ (Value.slice A0 b0.length c0)).setCell ⟨w.heap.size + 1, 1, none⟩ (Value.slice A1 b1.length c1)).setCell ⟨w.heap.size + 1, 2, none⟩ (Value.slice A2 bs.length c2)) _ _ _ := hv011.fr ((((Fr.refl (fun k => k = (w.heap.size + 1)) w11).setCell (p := ⟨w.heap.size + 1, 0, none⟩) (fun _ => rfl) _).setCell (p := ⟨w.heap.size + 1, 1, none⟩) (fun _ => rfl) _).setCell (p := ⟨w.heap.size + 1, 2, none⟩) (fun _ => rfl) _) (fun k hk h => hv011.ne_blk hR11 (by decide) (by rw [← h]; exact hk))
  have hv112 : Own8 (((w11.setCell ⟨w.heap.size + 1, 0, none⟩ (Value.slice A0 b0.length c0)).setCell ⟨w.heap.size + 1, 1, none⟩ (Value.slice A1 b1.length c1)).setCell ⟨w.heap.size + 1, 2, none⟩ (Value.slice A2 bs.length c2)) _ _ _ := hv111.fr ((((Fr.refl (fun k => k = (w.heap.size + 1)) w11).setCell (p := ⟨w.heap.size + 1, 0, none⟩) (fun _ => rfl) _).setCell (p := ⟨w.heap.size + 1, 1, none⟩) (fun _ => rfl) _).setCell (p := ⟨w.heap.size + 1, 2, none⟩) (fun _ => rfl) _) (fun k hk h => hv111.ne_blk hR11 (by decide) (by rw [← h]; exact hk))
  have hv212 : Own8 (((w11.setCell ⟨w.heap.size + 1, 0, none⟩ (Value.slice A0 b0.length c0)).setCell ⟨w.heap.size + 1, 1, none⟩ (Value.slice A1 b1.length c1)).setCell ⟨w.heap.size + 1, 2, none⟩ (Value.slice A2 bs.length c2)) _ _ _ := hv211.fr ((((Fr.refl (fun k => k = (w.heap.size + 1)) w11).setCell (p := ⟨w.heap.size + 1, 0, none⟩) (fun _ => rfl) _).setCell (p := ⟨w.heap.size + 1, 1, none⟩) (fun _ => rfl) _).setCell (p := ⟨w.heap.size + 1, 2, none⟩) (fun _ => rfl) _) (fun k hk h => hv211.ne_blk hR11 (by decide) (by rw [← h]; exact hk))
  generalize (((w11.setCell ⟨w.heap.size + 1, 0, none⟩ (Value.slice A0 b0.length c0)).setCell ⟨w.heap.size + 1, 1, none⟩ (Value.slice A1 b1.length c1)).setCell ⟨w.heap.size + 1, 2, none⟩ (Value.slice A2 bs.length c2)) = w12 at *
  have y0 := hR12.cell 0
  have y1 := hR12.cell 1
  have y2 := hR12.cell 2
  simp at y0 y1 y2
  try go_wp2_with fail
  refine bodyPost_ret (v := .tuple #[.agg #[(Value.slice A0 b0.length c0), (Value.slice A1 b1.length c1), (Value.slice A2 bs.length c2)], .bool true]) (by simp [results, Tryz.results123, go_sem, y0, y1, y2]) rfl ?_
  exact ⟨_, _, _, rfl, hv012.base_ (by omega), hv112.base_ (Nat.le_trans hf02.size (Nat.le_refl _)), hv212.base_ hf04.size, hf012⟩
end Go.Proofs.YtmkdhhhoodeemaaGreat

/- say: the order of a word with a certificate and a proof; of a transaction with a word and a certificate. -/
namespace Go.Proofs.YtmkdhhhoodeemaaGreat
open Go Go.RowKit
theorem rises_fit {l : List Ent} (h : risesE l = true) : l.length ≤ 1024 ∧ ∀ x ∈ l, x.1.size ≤ 16 ∧ x.2.1.size ≤ 64 := by
  unfold risesE at h
  rw [Bool.and_eq_true] at h
  obtain ⟨h1, h2⟩ := h
  refine ⟨by have := of_decide_eq_true h2; omega, fun x hx => ?_⟩
  obtain ⟨k, hk, rfl⟩ := List.mem_iff_getElem.1 hx
  unfold okTo at h1
  rw [List.all_eq_true] at h1
  have h3 := h1 k (List.mem_range.2 hk)
  unfold okAt at h3
  rw [List.getElem?_eq_getElem hk] at h3
  simp [entOk] at h3
  omega
theorem fit_of {l : List Ent} {Bs : List Int} (h : risesE l = true) (hb : Bs.length ≤ 1024) (hd : ∀ d ∈ Bs, 0 ≤ d ∧ d ≤ 2147483647) : FitP l Bs := by
  obtain ⟨h1, h2⟩ := rises_fit h
  refine ⟨h1, fun x hx => ?_, hb, hd⟩
  have := h2 x hx
  unfold longE
  simp
  omega
theorem order_certP {w : World} {kind : Int} (hk1 : 1 ≤ kind) (hk2 : kind ≤ 10) (hk : ¬ kind = 1 ∧ ¬ kind = 6) {s : SayD} (h : OkSay s) {G D : Int} {bC : Nat} {C : Option Addr} {cx : Nat} {xs : List Int} (hC : IntRow w bC C xs) (hbC : bC ≤ w.heap.size) (hxl : xs.length ≤ 1024) (hg : getOk (num8 G ++ num8 D ++ numsB xs))
    {PA QA : Option Addr} {pc qc : Nat} {l : List Ent} {Bs : List Int} (hE : EntRow w (fun k => k < w.heap.size) PA l) (hV : IntF w (fun k => k < w.heap.size) QA Bs) (hr : risesE l = true) (hb : Bs.length ≤ 1024) (hd : ∀ d ∈ Bs, 0 ≤ d ∧ d ≤ 2147483647) :
    Calls Tryz.prog 95 #[.agg #[.int .i64 kind, .int .i64 0, .int .i64 0, .slice none 0 0, .slice none 0 0, .int .i64 s.kind, .int .i64 s.txn, .bool s.yes, .string s.from_, .string s.to_, .int .i64 s.epoch, .int .i64 s.shard, .int .i64 s.target, .int .i64 s.root, .int .i64 G, .int .i64 D, .slice C xs.length cx, .int .i64 l.length, .int .i64 0, .slice PA l.length pc, .slice QA Bs.length qc]] w (PutP w (ordB kind [] (sayB s) (certB G D xs) l.length 0 l Bs) .nilIface) := by
  have hws : wordB s = sayB s := if_pos h
  obtain ⟨hll, hlk⟩ := rises_fit hr
  refine say_PutOrder_okP hE hV hlk hll hb (by simp) (by have := sayB_short s; rw [hws] at this; exact this) (certB_len hxl) (fun w' hf => ?_)
  have hz : zeroSay s = !true := by
    have : ¬ zeroSay s = true := fun e => by
      rw [zeroSay_iff] at e
      rw [e] at h
      exact absurd h.1 (by decide)
    simpa using this
  refine say_texts_okP (hC.fr hf (fun _ _ => id)) (Nat.le_trans hbC hf.size) hxl hg (bs := certB G D xs) rfl (nm := false) (sz := true) (b0 := []) (b1 := sayB s) (r0 := .nilIface) (r1 := .nilIface) hz ?_ ?_ ?_ rfl rfl hk1 hk2 rfl hk ?_
  · intro w2 hf2
    exact (say_optTxn_none _ _).mono fun _ _ h => h.put
  · intro w2 hf2
    refine say_optSay_put (fun w3 _ => (say_Put1 w3 s.kind s.txn s.yes s.from_ s.to_ s.epoch s.shard s.target s.root).mono ?_)
    rintro e w4 ⟨v, h1, h2, h3⟩
    rw [if_pos h] at h2
    refine ⟨v, ?_, h2, h3⟩
    rw [h1, show saidO s = none from if_pos h]
    rfl
  · intro w2 hf2
    exact fits_ok ((hE.fr hf (fun _ _ => id)).fr hf2 (fun _ _ => id)) ((hV.fr hf (fun _ _ => id)).fr hf2 (fun _ _ => id)) (fit_of hr hb hd)
  · intro w2 _
    exact say_none_zero _
/-- The order of a transaction that the committee began. -/
theorem order_prep {w : World} {c n : Int} {A B : Option Addr} {cr cw : Nat} {R : List (ByteArray × Int)} {W : List (ByteArray × ByteArray)} {F : Nat → Prop} (hR : ReadRow w F A R) (hW : WriteRow w F B W) (ht : TOk c n R W) {s : SayD} (h : OkSay s) {G D : Int} {bC : Nat} {C : Option Addr} {cx : Nat} {xs : List Int} (hC : IntRow w bC C xs) (hbC : bC ≤ w.heap.size) (hxl : xs.length ≤ 1024) (hg : getOk (num8 G ++ num8 D ++ numsB xs)) :
    Calls Tryz.prog 95 #[.agg #[.int .i64 1, .int .i64 c, .int .i64 n, .slice A R.length cr, .slice B W.length cw, .int .i64 s.kind, .int .i64 s.txn, .bool s.yes, .string s.from_, .string s.to_, .int .i64 s.epoch, .int .i64 s.shard, .int .i64 s.target, .int .i64 s.root, .int .i64 G, .int .i64 D, .slice C xs.length cx, .int .i64 0, .int .i64 0, .slice none 0 0, .slice none 0 0]] w (PutP w (orderB 1 (txnB c n R W) (sayB s) (certB G D xs)) .nilIface) := by
  have hws : wordB s = sayB s := if_pos h
  refine say_PutOrder_ok (txnB_len ht) (by have := sayB_short s; rw [hws] at this; exact this) (certB_len hxl) (fun w' hf => ?_)
  have hz : zeroSay s = !true := by
    have : ¬ zeroSay s = true := fun e => by
      rw [zeroSay_iff] at e
      rw [e] at h
      exact absurd h.1 (by decide)
    simpa using this
  refine say_texts_prepare (hC.fr hf (fun _ _ => id)) (Nat.le_trans hbC hf.size) hxl hg (bs := certB G D xs) rfl (nm := true) (sz := true) (b0 := txnB c n R W) (b1 := sayB s) (r0 := .nilIface) (r1 := .nilIface) hz ?_ ?_ rfl rfl rfl ?_
  · intro w2 hf2
    refine say_optTxn_put (fun w3 hf3 => ?_)
    exact txn_Put_ok (cr := cr) (cw := cw) (((hR.fr hf (fun _ _ => id)).fr hf2 (fun _ _ => id)).fr hf3 (fun _ _ => id)) (((hW.fr hf (fun _ _ => id)).fr hf2 (fun _ _ => id)).fr hf3 (fun _ _ => id)) ht
  · intro w2 hf2
    refine say_optSay_put (fun w3 _ => (say_Put1 w3 s.kind s.txn s.yes s.from_ s.to_ s.epoch s.shard s.target s.root).mono ?_)
    rintro e w4 ⟨v, h1, h2, h3⟩
    rw [if_pos h] at h2
    refine ⟨v, ?_, h2, h3⟩
    rw [h1, show saidO s = none from if_pos h]
    rfl
  · intro w2 _
    exact say_none_not _ (by have := ht.2.2.1; omega)
theorem ordB_len {kind many first : Int} {a b c : List Int} {l : List Ent} {Bs : List Int} (ha : a.length ≤ 65536) (hb : b.length ≤ 65536) (hc : c.length ≤ 65536) (hr : risesE l = true) (hB : Bs.length ≤ 1024) : (ordB kind a b c many first l Bs).length ≤ 1000000 := by
  obtain ⟨hll, hlk⟩ := rises_fit hr
  have he : (l.flatMap entB).length ≤ 96 * 1024 := by
    have := flat_take_le (f := entB) (l := l) (k := 96) (m := 1024) (fun x hx => by
      have := hlk x hx
      unfold entB
      rw [List.length_append, List.length_append, textB_len, textB_len, num8_length]
      omega) hll l.length
    rwa [List.take_length] at this
  have h2 := flat_num8 Bs
  simp only [ordB, List.length_append, num8_length, textB, count4_length, numsB, h2]
  omega
end Go.Proofs.YtmkdhhhoodeemaaGreat

/- relay: tasks of an order with a proof. -/
namespace Go.Proofs.YtmkdhhhoodeemaaGreat
open Go Go.RowKit
set_option maxRecDepth 100000 in
set_option maxHeartbeats 2000000 in
theorem relay_tasks_okP {w : World} {pm : Int} {PA QA : Option Addr} {pn pc qn qc : Nat} {kind c n : Int} {A B : Option Addr} {nr cr nw cw : Nat} {s : SayD} {G D : Int} {C : Option Addr} {nx cx : Nat} {bG : Nat} {GA : Option Addr} {cg : Nat} {gs : List Int} (hgs : IntRow w bG GA gs) (hbG : bG ≤ w.heap.size) (hgl : gs.length ≤ 1000) {bs : List Int} (hbl : bs.length ≤ 1000000)
    (hP : ∀ w', Fr (fun _ => False) w w' → Calls Tryz.prog 95 #[.agg #[.int .i64 kind, .int .i64 c, .int .i64 n, .slice A nr cr, .slice B nw cw, .int .i64 s.kind, .int .i64 s.txn, .bool s.yes, .string s.from_, .string s.to_, .int .i64 s.epoch, .int .i64 s.shard, .int .i64 s.target, .int .i64 s.root, .int .i64 G, .int .i64 D, .slice C nx cx, .int .i64 pm, .int .i64 0, .slice PA pn pc, .slice QA qn qc]] w' (PutP w' bs .nilIface)) :
    Calls Tryz.prog 64 #[.agg #[.int .i64 kind, .int .i64 c, .int .i64 n, .slice A nr cr, .slice B nw cw, .int .i64 s.kind, .int .i64 s.txn, .bool s.yes, .string s.from_, .string s.to_, .int .i64 s.epoch, .int .i64 s.shard, .int .i64 s.target, .int .i64 s.root, .int .i64 G, .int .i64 D, .slice C nx cx, .int .i64 pm, .int .i64 0, .slice PA pn pc, .slice QA qn qc], .slice GA gs.length cg] w (TasksP w gs bs) := by
  have HP := Lib.hid hP
  have HBL := Lib.hid hbl
  clear hP hbl
  have hB0 := Blk.new w 62 #[.int .i64 kind, .int .i64 c, .int .i64 n, .slice A nr cr, .slice B nw cw, .int .i64 s.kind, .int .i64 s.txn, .bool s.yes, .string s.from_, .string s.to_, .int .i64 s.epoch, .int .i64 s.shard, .int .i64 s.target, .int .i64 s.root, .int .i64 G, .int .i64 D, .slice C nx cx, .int .i64 pm, .int .i64 0, .slice PA pn pc, .slice QA qn qc]
  have hf0 : Fr (fun _ => False) w (w.alloc (Obj.cells #[.int .i64 kind, .int .i64 c, .int .i64 n, .slice A nr cr, .slice B nw cw, .int .i64 s.kind, .int .i64 s.txn, .bool s.yes, .string s.from_, .string s.to_, .int .i64 s.epoch, .int .i64 s.shard, .int .i64 s.target, .int .i64 s.root, .int .i64 G, .int .i64 D, .slice C nx cx, .int .i64 pm, .int .i64 0, .slice PA pn pc, .slice QA qn qc] 62)) := (Fr.refl _ _).alloc _
  go_enter Tryz.func64, Tryz.ntmps64
  go_upto_region 1 with fail
  generalize w.alloc (Obj.cells #[.int .i64 kind, .int .i64 c, .int .i64 n, .slice A nr cr, .slice B nw cw, .int .i64 s.kind, .int .i64 s.txn, .bool s.yes, .string s.from_, .string s.to_, .int .i64 s.epoch, .int .i64 s.shard, .int .i64 s.target, .int .i64 s.root, .int .i64 G, .int .i64 D, .slice C nx cx, .int .i64 pm, .int .i64 0, .slice PA pn pc, .slice QA qn qc] 62) = w0 at *
  go_upto_region 5 with (first
    | (refine wpList_load_row rfl 62 _ rfl _ rfl _ _ (0, 0) _ hB0 Tryz.underlying62 rfl (by kernel_rfl) ?_)
    | (go_at_call 95; refine (HP.out _ hf0).mono ?_; rintro e w1 ⟨v1, rfl, hv1, hf01⟩; obtain ⟨A1, c1, rfl, _, hr1⟩ := hv1.u8row))
  have hgs1 : IntRow w1 bG GA gs := (hgs.fr hf0 (fun _ _ => id)).fr hf01 (fun _ _ => id)
  have hf1 := hf0.then_ hf01
  have hz1 : bG ≤ w1.heap.size := Nat.le_trans hbG hf1.size
  clear hB0 hf0 hf01 hv1 hgs HP
  have hinf := task_info
  go_upto_region 6 with fail
  go_loopw [7, 19] (fun ov i wr => ∃ (k : Nat), k ≤ gs.length ∧ i = .int .i64 k ∧ TasksAt wr w1.heap.size ov (gs.take k) bs ∧ IntRow wr bG GA gs ∧ ByteRow wr (U8 wr) A1 bs ∧ Fr (fun _ => False) w1 wr) (fun _ i _ => gs.length - (intOf i).toNat)
  case atStart => exact ⟨0, by omega, rfl, TasksAt.nil _ _ _, hgs1, hr1, Fr.refl _ _⟩
  case round =>
    clear hgs1 hr1
    obtain ⟨k, hk, rfl, ⟨vals, hown, hvs⟩, hgs1, hr1, hf2⟩ := hrel
    have HV := Lib.hid hvs
    clear hvs
    by_cases hlt : k < gs.length
    · have hlt' : (k : Int) < (gs.length : Int) := by omega
      obtain ⟨x, hx⟩ : ∃ x, gs[k]? = some x := ⟨gs[k], List.getElem?_eq_getElem hlt⟩
      obtain ⟨b, o, rfl, hbb, hc⟩ := hgs1 k x hx
      have HX := Lib.hid hx
      have hl1 : (gs.take k).length = k := by rw [List.length_take]; omega
      rw [hl1] at hown
      clear hx
      obtain ⟨Av, cv, hev, _, _⟩ := own_form hown
      cases hev
      go_upto_region 8 with fail
      go_wp2_with (first
        | (go_at_call 96; refine (slices_Clone8 hr1 rfl (by have := HBL.out; omega)).mono ?_; rintro e w3 ⟨v3, rfl, hv3, hf3⟩; obtain ⟨A3, c3, rfl, _, hr3⟩ := hv3.u8row; have hown3 := own_fr hown hf3 (fun _ _ => id); have hz3 : w1.heap.size ≤ w3.heap.size := (hf2.then_ hf3).size)
        | (at_builtin; refine wpList_append_el _ rfl _ _ 44 rfl w1.heap.size 68 _ 2 32 Tryz.underlying44 hinf rfl (by decide) _ k vals rfl (own_fr hown3 ((Fr.refl (fun _ => False) w3).alloc _) (fun _ _ => id)) w3.heap.size [.int .i64 x, .slice A3 bs.length c3] rfl rfl (cell_two w3 _ _ _) (by simp [Value.oneCell']) (by omega) (by decide) (by simp; omega) ?_; intro g' c' w4 hown4 hf4))
      have hf34 : Fr (fun _ => False) w3 (w3.alloc (Obj.cells #[.int .i64 x, .slice A3 bs.length c3] 68)) := (Fr.refl _ _).alloc _
      have hu8 : ∀ q, U8 (w3.alloc (Obj.cells #[.int .i64 x, .slice A3 bs.length c3] 68)) q → ¬ (Value.slice Av k cv).ownBlock = some q := fun q hq => hq.ne_own (own_fr hown3 hf34 (fun _ _ => id)) (by decide)
      have hr14 := ((hr1.u8 hf3 (fun _ _ => id)).u8 hf34 (fun _ _ => id)).u8 hf4 hu8
      have hr34 := (hr3.u8 hf34 (fun _ _ => id)).u8 hf4 hu8
      have hlow : ∀ q, q < bG → ¬ (Value.slice Av k cv).ownBlock = some q := fun q hq e => by have := own_ge hown q e; omega
      have hgs4 := ((hgs1.fr hf3 (fun _ _ => id)).fr hf34 (fun _ _ => id)).fr hf4 hlow
      have hf4' : Fr (fun _ => False) w1 w4 := ((hf2.then_ hf3).then_ hf34).trans hf4 (fun q hq e => by have := own_ge hown q e; omega)
      go_roundw
      case rel =>
        refine ⟨k + 1, by omega, by go_num, ?_, hgs4, hr14, hf4'⟩
        rw [take_mem HX.out]
        refine TasksAt.snoc (vals := vals) (by rw [hl1]; exact hown4) ?_ hr34
        intro k g hg
        obtain ⟨A', cap', e1, e2, hr⟩ := HV.out k g hg
        exact ⟨A', cap', e1, e2, ((hr.u8 hf3 (fun _ _ => id)).u8 hf34 (fun _ _ => id)).u8 hf4 hu8⟩
      case measure => simp [intOf]; omega
    · obtain rfl : k = gs.length := by omega
      rw [List.take_length] at hown
      have hT : TasksAt wr w1.heap.size u7 gs bs := ⟨vals, hown, fun k g hg => HV.out k g (by rw [List.take_length]; exact hg)⟩
      go_wp2
      go_ret
      exact ⟨_, rfl, hT.base_ hf1.size, hf1.then_ hf2⟩
end Go.Proofs.YtmkdhhhoodeemaaGreat

/- relay: told gives nothing; an imported range. -/
namespace Go.Proofs.YtmkdhhhoodeemaaGreat
open Go Go.RowKit
set_option maxRecDepth 100000 in
set_option maxHeartbeats 2000000 in
theorem told_none {w : World} {kind : Int} {txn : Int} {yes : Bool} {ff tt : ByteArray} {epoch shard target root : Int} (h : OkSay ⟨kind, txn, yes, ff, tt, epoch, shard, target, root⟩) {G D fr : Int} {C : Option Addr} {nx cx : Nat} (q2 : (kind == 2) = false) (q5 : (kind == 5) = false) (q6 : (kind == 6) = false) {bk lv : Value} :
    Calls Tryz.prog 45 #[bk, .agg #[.int .i64 0, .int .i64 0, .int .i64 0, .slice none 0 0, .slice none 0 0, .int .i64 kind, .int .i64 txn, .bool yes, .string ff, .string tt, .int .i64 epoch, .int .i64 shard, .int .i64 target, .int .i64 root, .int .i64 G, .int .i64 D, .slice C nx cx, .int .i64 0, .int .i64 0, .slice none 0 0, .slice none 0 0], .int .i64 fr, lv] w (TasksP w [] []) := by
  have hsh : (0 ≤ shard ∧ shard ≤ 3) ∧ (0 ≤ target ∧ target ≤ 3) := by
    obtain ⟨a0, a1, a2, a3, a4, a5, a6, a7, a8, a9, a10, a11, a12, a13⟩ := h
    dsimp only at a10 a11 a12 a13
    omega
  have hwr : wrap64 (shard + 1) = shard + 1 := by unfold wrap64; omega
  have HW := Lib.hid hwr
  have hwt : wrap64 (target + 1) = target + 1 := by unfold wrap64; omega
  have HWT := Lib.hid hwt
  clear hwr hwt
  have HOK := Lib.hid h
  clear h
  have hB0 := Blk.new w 62 #[.int .i64 0, .int .i64 0, .int .i64 0, .slice none 0 0, .slice none 0 0, .int .i64 kind, .int .i64 txn, .bool yes, .string ff, .string tt, .int .i64 epoch, .int .i64 shard, .int .i64 target, .int .i64 root, .int .i64 G, .int .i64 D, .slice C nx cx, .int .i64 0, .int .i64 0, .slice none 0 0, .slice none 0 0]
  have hf0 : Fr (fun _ => False) w (w.alloc (Obj.cells #[.int .i64 0, .int .i64 0, .int .i64 0, .slice none 0 0, .slice none 0 0, .int .i64 kind, .int .i64 txn, .bool yes, .string ff, .string tt, .int .i64 epoch, .int .i64 shard, .int .i64 target, .int .i64 root, .int .i64 G, .int .i64 D, .slice C nx cx, .int .i64 0, .int .i64 0, .slice none 0 0, .slice none 0 0] 62)) := (Fr.refl _ _).alloc _
  go_enter Tryz.func45, Tryz.ntmps45
  go_upto_region 1 with fail
  generalize w.alloc (Obj.cells #[.int .i64 0, .int .i64 0, .int .i64 0, .slice none 0 0, .slice none 0 0, .int .i64 kind, .int .i64 txn, .bool yes, .string ff, .string tt, .int .i64 epoch, .int .i64 shard, .int .i64 target, .int .i64 root, .int .i64 G, .int .i64 D, .slice C nx cx, .int .i64 0, .int .i64 0, .slice none 0 0, .slice none 0 0] 62) = w0 at *
  have k5 := hB0.cell 5
  have k6 := hB0.cell 6
  have k7 := hB0.cell 7
  have k8 := hB0.cell 8
  have k9 := hB0.cell 9
  have k10 := hB0.cell 10
  have k11 := hB0.cell 11
  have k12 := hB0.cell 12
  have k13 := hB0.cell 13
  go_upto_region 2 with fail
  have hB1 := hB0.alloc (Obj.cells #[.int .i64 kind, .int .i64 txn, .bool yes, .string ff, .string tt, .int .i64 epoch, .int .i64 shard, .int .i64 target, .int .i64 root] 23)
  have hS1 := Blk.new w0 23 #[.int .i64 kind, .int .i64 txn, .bool yes, .string ff, .string tt, .int .i64 epoch, .int .i64 shard, .int .i64 target, .int .i64 root]
  have hf1 := hf0.alloc (Obj.cells #[.int .i64 kind, .int .i64 txn, .bool yes, .string ff, .string tt, .int .i64 epoch, .int .i64 shard, .int .i64 target, .int .i64 root] 23)
  go_upto_region 2 with fail
  generalize w0.alloc (Obj.cells #[.int .i64 kind, .int .i64 txn, .bool yes, .string ff, .string tt, .int .i64 epoch, .int .i64 shard, .int .i64 target, .int .i64 root] 23) = w1 at *
  have s0 := hS1.cell 0
  have s6 := hS1.cell 6
  have s7 := hS1.cell 7
  clear hf0 k5 k6 k7 k8 k9 k10 k11 k12 k13
  go_upto_region 4 with (go_at_call 79; refine (relay_group _ _).mono ?_; rintro e w' ⟨rfl, rfl⟩; rw [HW.out])
  have kf := hB1.frozen 0
  have k0 := hB1.cell 0
  go_wp2_with fail
  go_ret
  exact ⟨.slice none 0 0, rfl, TasksAt.nil _ _ _, hf1⟩
set_option maxRecDepth 100000 in
set_option maxHeartbeats 2000000 in
theorem told_vote_no {w : World} {txn : Int} {yes : Bool} {ff tt : ByteArray} {epoch shard target root : Int} (h : OkSay ⟨2, txn, yes, ff, tt, epoch, shard, target, root⟩) {G D fr : Int} {C : Option Addr} {nx cx : Nat} (hne : (fr == shard + 1) = false) {bk lv : Value} :
    Calls Tryz.prog 45 #[bk, .agg #[.int .i64 0, .int .i64 0, .int .i64 0, .slice none 0 0, .slice none 0 0, .int .i64 2, .int .i64 txn, .bool yes, .string ff, .string tt, .int .i64 epoch, .int .i64 shard, .int .i64 target, .int .i64 root, .int .i64 G, .int .i64 D, .slice C nx cx, .int .i64 0, .int .i64 0, .slice none 0 0, .slice none 0 0], .int .i64 fr, lv] w (TasksP w [] []) := by
  have hsh : (0 ≤ shard ∧ shard ≤ 3) ∧ (0 ≤ target ∧ target ≤ 3) := by
    obtain ⟨a0, a1, a2, a3, a4, a5, a6, a7, a8, a9, a10, a11, a12, a13⟩ := h
    dsimp only at a10 a11 a12 a13
    omega
  have hwr : wrap64 (shard + 1) = shard + 1 := by unfold wrap64; omega
  have HW := Lib.hid hwr
  have hwt : wrap64 (target + 1) = target + 1 := by unfold wrap64; omega
  have HWT := Lib.hid hwt
  clear hwr hwt
  have HOK := Lib.hid h
  clear h
  have hB0 := Blk.new w 62 #[.int .i64 0, .int .i64 0, .int .i64 0, .slice none 0 0, .slice none 0 0, .int .i64 2, .int .i64 txn, .bool yes, .string ff, .string tt, .int .i64 epoch, .int .i64 shard, .int .i64 target, .int .i64 root, .int .i64 G, .int .i64 D, .slice C nx cx, .int .i64 0, .int .i64 0, .slice none 0 0, .slice none 0 0]
  have hf0 : Fr (fun _ => False) w (w.alloc (Obj.cells #[.int .i64 0, .int .i64 0, .int .i64 0, .slice none 0 0, .slice none 0 0, .int .i64 2, .int .i64 txn, .bool yes, .string ff, .string tt, .int .i64 epoch, .int .i64 shard, .int .i64 target, .int .i64 root, .int .i64 G, .int .i64 D, .slice C nx cx, .int .i64 0, .int .i64 0, .slice none 0 0, .slice none 0 0] 62)) := (Fr.refl _ _).alloc _
  go_enter Tryz.func45, Tryz.ntmps45
  go_upto_region 1 with fail
  generalize w.alloc (Obj.cells #[.int .i64 0, .int .i64 0, .int .i64 0, .slice none 0 0, .slice none 0 0, .int .i64 2, .int .i64 txn, .bool yes, .string ff, .string tt, .int .i64 epoch, .int .i64 shard, .int .i64 target, .int .i64 root, .int .i64 G, .int .i64 D, .slice C nx cx, .int .i64 0, .int .i64 0, .slice none 0 0, .slice none 0 0] 62) = w0 at *
  have k5 := hB0.cell 5
  have k6 := hB0.cell 6
  have k7 := hB0.cell 7
  have k8 := hB0.cell 8
  have k9 := hB0.cell 9
  have k10 := hB0.cell 10
  have k11 := hB0.cell 11
  have k12 := hB0.cell 12
  have k13 := hB0.cell 13
  go_upto_region 2 with fail
  have hB1 := hB0.alloc (Obj.cells #[.int .i64 2, .int .i64 txn, .bool yes, .string ff, .string tt, .int .i64 epoch, .int .i64 shard, .int .i64 target, .int .i64 root] 23)
  have hS1 := Blk.new w0 23 #[.int .i64 2, .int .i64 txn, .bool yes, .string ff, .string tt, .int .i64 epoch, .int .i64 shard, .int .i64 target, .int .i64 root]
  have hf1 := hf0.alloc (Obj.cells #[.int .i64 2, .int .i64 txn, .bool yes, .string ff, .string tt, .int .i64 epoch, .int .i64 shard, .int .i64 target, .int .i64 root] 23)
  go_upto_region 2 with fail
  generalize w0.alloc (Obj.cells #[.int .i64 2, .int .i64 txn, .bool yes, .string ff, .string tt, .int .i64 epoch, .int .i64 shard, .int .i64 target, .int .i64 root] 23) = w1 at *
  have s0 := hS1.cell 0
  have s6 := hS1.cell 6
  have s7 := hS1.cell 7
  clear hf0 k5 k6 k7 k8 k9 k10 k11 k12 k13
  go_upto_region 4 with (go_at_call 79; refine (relay_group _ _).mono ?_; rintro e w' ⟨rfl, rfl⟩; rw [HW.out])
  have kf := hB1.frozen 0
  have k0 := hB1.cell 0
  go_upto_region 19 with fail
  have hB2 : Blk (w1.setCell ⟨w.heap.size, 0, none⟩ (.int .i64 7)) w.heap.size 62 #[.int .i64 7, .int .i64 0, .int .i64 0, .slice none 0 0, .slice none 0 0, .int .i64 2, .int .i64 txn, .bool yes, .string ff, .string tt, .int .i64 epoch, .int .i64 shard, .int .i64 target, .int .i64 root, .int .i64 G, .int .i64 D, .slice C nx cx, .int .i64 0, .int .i64 0, .slice none 0 0, .slice none 0 0] := hB1.set_ 0 _
  have hf2 : Fr (fun _ => False) w (w1.setCell ⟨w.heap.size, 0, none⟩ (.int .i64 7)) := hf1.setCell (p := ⟨w.heap.size, 0, none⟩) (fun h => absurd h (Nat.lt_irrefl _)) _
  generalize w1.setCell ⟨w.heap.size, 0, none⟩ (.int .i64 7) = w2 at *
  clear hB1 hf1 hS1 s0 s6 s7 kf k0
  have k0 := hB2.cell 0
  go_wp2_with fail
  go_ret
  exact ⟨.slice none 0 0, rfl, TasksAt.nil _ _ _, hf2⟩
set_option maxRecDepth 100000 in
set_option maxHeartbeats 2000000 in
theorem told_imp_no {w : World} {txn : Int} {yes : Bool} {ff tt : ByteArray} {epoch shard target root : Int} (h : OkSay ⟨6, txn, yes, ff, tt, epoch, shard, target, root⟩) {G D fr : Int} {C : Option Addr} {nx cx : Nat} (hne : (fr == target + 1) = false) {bk lv : Value} :
    Calls Tryz.prog 45 #[bk, .agg #[.int .i64 0, .int .i64 0, .int .i64 0, .slice none 0 0, .slice none 0 0, .int .i64 6, .int .i64 txn, .bool yes, .string ff, .string tt, .int .i64 epoch, .int .i64 shard, .int .i64 target, .int .i64 root, .int .i64 G, .int .i64 D, .slice C nx cx, .int .i64 0, .int .i64 0, .slice none 0 0, .slice none 0 0], .int .i64 fr, lv] w (TasksP w [] []) := by
  have hsh : (0 ≤ shard ∧ shard ≤ 3) ∧ (0 ≤ target ∧ target ≤ 3) := by
    obtain ⟨a0, a1, a2, a3, a4, a5, a6, a7, a8, a9, a10, a11, a12, a13⟩ := h
    dsimp only at a10 a11 a12 a13
    omega
  have hwr : wrap64 (shard + 1) = shard + 1 := by unfold wrap64; omega
  have HW := Lib.hid hwr
  have hwt : wrap64 (target + 1) = target + 1 := by unfold wrap64; omega
  have HWT := Lib.hid hwt
  clear hwr hwt
  have HOK := Lib.hid h
  clear h
  have hB0 := Blk.new w 62 #[.int .i64 0, .int .i64 0, .int .i64 0, .slice none 0 0, .slice none 0 0, .int .i64 6, .int .i64 txn, .bool yes, .string ff, .string tt, .int .i64 epoch, .int .i64 shard, .int .i64 target, .int .i64 root, .int .i64 G, .int .i64 D, .slice C nx cx, .int .i64 0, .int .i64 0, .slice none 0 0, .slice none 0 0]
  have hf0 : Fr (fun _ => False) w (w.alloc (Obj.cells #[.int .i64 0, .int .i64 0, .int .i64 0, .slice none 0 0, .slice none 0 0, .int .i64 6, .int .i64 txn, .bool yes, .string ff, .string tt, .int .i64 epoch, .int .i64 shard, .int .i64 target, .int .i64 root, .int .i64 G, .int .i64 D, .slice C nx cx, .int .i64 0, .int .i64 0, .slice none 0 0, .slice none 0 0] 62)) := (Fr.refl _ _).alloc _
  go_enter Tryz.func45, Tryz.ntmps45
  go_upto_region 1 with fail
  generalize w.alloc (Obj.cells #[.int .i64 0, .int .i64 0, .int .i64 0, .slice none 0 0, .slice none 0 0, .int .i64 6, .int .i64 txn, .bool yes, .string ff, .string tt, .int .i64 epoch, .int .i64 shard, .int .i64 target, .int .i64 root, .int .i64 G, .int .i64 D, .slice C nx cx, .int .i64 0, .int .i64 0, .slice none 0 0, .slice none 0 0] 62) = w0 at *
  have k5 := hB0.cell 5
  have k6 := hB0.cell 6
  have k7 := hB0.cell 7
  have k8 := hB0.cell 8
  have k9 := hB0.cell 9
  have k10 := hB0.cell 10
  have k11 := hB0.cell 11
  have k12 := hB0.cell 12
  have k13 := hB0.cell 13
  go_upto_region 2 with fail
  have hB1 := hB0.alloc (Obj.cells #[.int .i64 6, .int .i64 txn, .bool yes, .string ff, .string tt, .int .i64 epoch, .int .i64 shard, .int .i64 target, .int .i64 root] 23)
  have hS1 := Blk.new w0 23 #[.int .i64 6, .int .i64 txn, .bool yes, .string ff, .string tt, .int .i64 epoch, .int .i64 shard, .int .i64 target, .int .i64 root]
  have hf1 := hf0.alloc (Obj.cells #[.int .i64 6, .int .i64 txn, .bool yes, .string ff, .string tt, .int .i64 epoch, .int .i64 shard, .int .i64 target, .int .i64 root] 23)
  go_upto_region 2 with fail
  generalize w0.alloc (Obj.cells #[.int .i64 6, .int .i64 txn, .bool yes, .string ff, .string tt, .int .i64 epoch, .int .i64 shard, .int .i64 target, .int .i64 root] 23) = w1 at *
  have s0 := hS1.cell 0
  have s6 := hS1.cell 6
  have s7 := hS1.cell 7
  clear hf0 k5 k6 k7 k8 k9 k10 k11 k12 k13
  go_upto_region 4 with (go_at_call 79; refine (relay_group _ _).mono ?_; rintro e w' ⟨rfl, rfl⟩; rw [HW.out])
  have kf := hB1.frozen 0
  have k0 := hB1.cell 0
  go_upto_region 18 with fail
  have hB2 : Blk (w1.setCell ⟨w.heap.size, 0, none⟩ (.int .i64 10)) w.heap.size 62 #[.int .i64 10, .int .i64 0, .int .i64 0, .slice none 0 0, .slice none 0 0, .int .i64 6, .int .i64 txn, .bool yes, .string ff, .string tt, .int .i64 epoch, .int .i64 shard, .int .i64 target, .int .i64 root, .int .i64 G, .int .i64 D, .slice C nx cx, .int .i64 0, .int .i64 0, .slice none 0 0, .slice none 0 0] := hB1.set_ 0 _
  have hf2 : Fr (fun _ => False) w (w1.setCell ⟨w.heap.size, 0, none⟩ (.int .i64 10)) := hf1.setCell (p := ⟨w.heap.size, 0, none⟩) (fun h => absurd h (Nat.lt_irrefl _)) _
  have hS2 : Blk (w1.setCell ⟨w.heap.size, 0, none⟩ (.int .i64 10)) _ _ _ := hS1.far (fun e => by have := hB0.lt; dsimp only at e; omega) (.int .i64 10)
  generalize w1.setCell ⟨w.heap.size, 0, none⟩ (.int .i64 10) = w2 at *
  clear hB1 hf1 hS1 s0 s6 s7 kf k0 hB0
  have k0 := hB2.cell 0
  have s7 := hS2.cell 7
  go_upto_region 19 with (go_at_call 79; refine (relay_group _ _).mono ?_; rintro e w' ⟨rfl, rfl⟩; rw [HWT.out])
  go_wp2_with fail
  go_ret
  exact ⟨.slice none 0 0, rfl, TasksAt.nil _ _ _, hf2⟩
set_option maxRecDepth 100000 in
set_option maxHeartbeats 2000000 in
theorem told_imp {w : World} {txn : Int} {yes : Bool} {ff tt : ByteArray} {epoch shard target root : Int} (h : OkSay ⟨6, txn, yes, ff, tt, epoch, shard, target, root⟩) {G D fr : Int} {bC : Nat} {C : Option Addr} {cx : Nat} {xs : List Int} (hC : IntRow w bC C xs) (hbC : bC ≤ w.heap.size) (hxl : xs.length ≤ 1024) (hg : getOk (num8 G ++ num8 D ++ numsB xs)) (hfr : fr = target + 1) {bk lv : Value} :
    Calls Tryz.prog 45 #[bk, .agg #[.int .i64 0, .int .i64 0, .int .i64 0, .slice none 0 0, .slice none 0 0, .int .i64 6, .int .i64 txn, .bool yes, .string ff, .string tt, .int .i64 epoch, .int .i64 shard, .int .i64 target, .int .i64 root, .int .i64 G, .int .i64 D, .slice C xs.length cx, .int .i64 0, .int .i64 0, .slice none 0 0, .slice none 0 0], .int .i64 fr, lv] w (TasksP w [0] (orderB 10 [] (sayB ⟨6, txn, yes, ff, tt, epoch, shard, target, root⟩) (certB G D xs))) := by
  subst hfr
  have HC := Lib.hid hC
  have HG := Lib.hid hg
  have HXL := Lib.hid hxl
  clear hC hg hxl
  have hsh : (0 ≤ shard ∧ shard ≤ 3) ∧ (0 ≤ target ∧ target ≤ 3) := by
    obtain ⟨a0, a1, a2, a3, a4, a5, a6, a7, a8, a9, a10, a11, a12, a13⟩ := h
    dsimp only at a10 a11 a12 a13
    omega
  have hwr : wrap64 (shard + 1) = shard + 1 := by unfold wrap64; omega
  have HW := Lib.hid hwr
  have hwt : wrap64 (target + 1) = target + 1 := by unfold wrap64; omega
  have HWT := Lib.hid hwt
  clear hwr hwt
  have HOK := Lib.hid h
  clear h
  have hB0 := Blk.new w 62 #[.int .i64 0, .int .i64 0, .int .i64 0, .slice none 0 0, .slice none 0 0, .int .i64 6, .int .i64 txn, .bool yes, .string ff, .string tt, .int .i64 epoch, .int .i64 shard, .int .i64 target, .int .i64 root, .int .i64 G, .int .i64 D, .slice C xs.length cx, .int .i64 0, .int .i64 0, .slice none 0 0, .slice none 0 0]
  have hf0 : Fr (fun _ => False) w (w.alloc (Obj.cells #[.int .i64 0, .int .i64 0, .int .i64 0, .slice none 0 0, .slice none 0 0, .int .i64 6, .int .i64 txn, .bool yes, .string ff, .string tt, .int .i64 epoch, .int .i64 shard, .int .i64 target, .int .i64 root, .int .i64 G, .int .i64 D, .slice C xs.length cx, .int .i64 0, .int .i64 0, .slice none 0 0, .slice none 0 0] 62)) := (Fr.refl _ _).alloc _
  go_enter Tryz.func45, Tryz.ntmps45
  go_upto_region 1 with fail
  generalize w.alloc (Obj.cells #[.int .i64 0, .int .i64 0, .int .i64 0, .slice none 0 0, .slice none 0 0, .int .i64 6, .int .i64 txn, .bool yes, .string ff, .string tt, .int .i64 epoch, .int .i64 shard, .int .i64 target, .int .i64 root, .int .i64 G, .int .i64 D, .slice C xs.length cx, .int .i64 0, .int .i64 0, .slice none 0 0, .slice none 0 0] 62) = w0 at *
  have k5 := hB0.cell 5
  have k6 := hB0.cell 6
  have k7 := hB0.cell 7
  have k8 := hB0.cell 8
  have k9 := hB0.cell 9
  have k10 := hB0.cell 10
  have k11 := hB0.cell 11
  have k12 := hB0.cell 12
  have k13 := hB0.cell 13
  go_upto_region 2 with fail
  have hB1 := hB0.alloc (Obj.cells #[.int .i64 6, .int .i64 txn, .bool yes, .string ff, .string tt, .int .i64 epoch, .int .i64 shard, .int .i64 target, .int .i64 root] 23)
  have hS1 := Blk.new w0 23 #[.int .i64 6, .int .i64 txn, .bool yes, .string ff, .string tt, .int .i64 epoch, .int .i64 shard, .int .i64 target, .int .i64 root]
  have hf1 := hf0.alloc (Obj.cells #[.int .i64 6, .int .i64 txn, .bool yes, .string ff, .string tt, .int .i64 epoch, .int .i64 shard, .int .i64 target, .int .i64 root] 23)
  go_upto_region 2 with fail
  generalize w0.alloc (Obj.cells #[.int .i64 6, .int .i64 txn, .bool yes, .string ff, .string tt, .int .i64 epoch, .int .i64 shard, .int .i64 target, .int .i64 root] 23) = w1 at *
  have s0 := hS1.cell 0
  have s6 := hS1.cell 6
  have s7 := hS1.cell 7
  clear hf0 k5 k6 k7 k8 k9 k10 k11 k12 k13
  go_upto_region 4 with (go_at_call 79; refine (relay_group _ _).mono ?_; rintro e w' ⟨rfl, rfl⟩; rw [HW.out])
  have kf := hB1.frozen 0
  have k0 := hB1.cell 0
  go_upto_region 18 with fail
  have hB2 : Blk (w1.setCell ⟨w.heap.size, 0, none⟩ (.int .i64 10)) w.heap.size 62 #[.int .i64 10, .int .i64 0, .int .i64 0, .slice none 0 0, .slice none 0 0, .int .i64 6, .int .i64 txn, .bool yes, .string ff, .string tt, .int .i64 epoch, .int .i64 shard, .int .i64 target, .int .i64 root, .int .i64 G, .int .i64 D, .slice C xs.length cx, .int .i64 0, .int .i64 0, .slice none 0 0, .slice none 0 0] := hB1.set_ 0 _
  have hf2 : Fr (fun _ => False) w (w1.setCell ⟨w.heap.size, 0, none⟩ (.int .i64 10)) := hf1.setCell (p := ⟨w.heap.size, 0, none⟩) (fun h => absurd h (Nat.lt_irrefl _)) _
  have hS2 : Blk (w1.setCell ⟨w.heap.size, 0, none⟩ (.int .i64 10)) _ _ _ := hS1.far (fun e => by have := hB0.lt; dsimp only at e; omega) (.int .i64 10)
  generalize w1.setCell ⟨w.heap.size, 0, none⟩ (.int .i64 10) = w2 at *
  clear hB1 hf1 hS1 s0 s6 s7 kf k0 hB0
  have k0 := hB2.cell 0
  have s7 := hS2.cell 7
  go_upto_region 19 with (go_at_call 79; refine (relay_group _ _).mono ?_; rintro e w' ⟨rfl, rfl⟩; rw [HWT.out])
  go_upto_region 21 with fail
  have hg1 := group0 w2
  have hf3 : Fr (fun _ => False) w2 (w2.alloc (Obj.cells #[.int .i64 0] 3)) := (Fr.refl _ _).alloc _
  have hf03 := hf2.then_ hf3
  have HT : Calls Tryz.prog 64 #[.agg #[.int .i64 10, .int .i64 0, .int .i64 0, .slice none 0 0, .slice none 0 0, .int .i64 6, .int .i64 txn, .bool yes, .string ff, .string tt, .int .i64 epoch, .int .i64 shard, .int .i64 target, .int .i64 root, .int .i64 G, .int .i64 D, .slice C xs.length cx, .int .i64 0, .int .i64 0, .slice none 0 0, .slice none 0 0], .slice (some ⟨w2.heap.size, 0, none⟩) 1 1] (w2.alloc (Obj.cells #[.int .i64 0] 3)) (TasksP (w2.alloc (Obj.cells #[.int .i64 0] 3)) [0] (orderB 10 [] (sayB ⟨6, txn, yes, ff, tt, epoch, shard, target, root⟩) (certB G D xs))) := relay_tasks_ok (s := ⟨6, txn, yes, ff, tt, epoch, shard, target, root⟩) (cg := 1) hg1 (by simp) (by simp) (orderB_len (by simp) (by have := sayB_short ⟨6, txn, yes, ff, tt, epoch, shard, target, root⟩; rw [show wordB ⟨6, txn, yes, ff, tt, epoch, shard, target, root⟩ = _ from if_pos HOK.out] at this; exact this) (certB_len HXL.out)) (fun w' hf => order_cert (by omega) (by omega) ⟨by omega, by omega⟩ HOK.out (HC.out.fr (hf03.then_ hf) (fun _ _ => id)) (Nat.le_trans hbC (hf03.then_ hf).size) HXL.out HG.out)
  replace HT := Lib.hid HT
  clear hg1
  go_wp2_with (first
    | (refine wpList_load_row rfl 62 _ rfl _ rfl _ _ (0, 0) _ hB2 Tryz.underlying62 rfl (by kernel_rfl) ?_)
    | (go_at_call 64; refine HT.out.mono ?_; rintro e w' ⟨v, rfl, hv, hf'⟩))
  go_ret
  exact ⟨v, rfl, hv.base_ hf03.size, hf03.then_ hf'⟩
end Go.Proofs.YtmkdhhhoodeemaaGreat

/- merkle: half, apart. -/
namespace Go.Proofs.YtmkdhhhoodeemaaGreat
open Go Go.RowKit
def lenRen2 : Go.Shelf.Ren := ⟨fun | 129 => 173 | n => n, fun | 3 => 3 | 9 => 9 | 4 => 4 | 5 => 5 | 46 => 187 | 53 => 258 | n => n, fun | n => n⟩
theorem lenLays2 : Go.Proofs.Lays.n129 Tryz.prog lenRen2 := {
  mixed := by kernel_rfl
  f129 := Tryz.func173.trans (congrArg some (by kernel_rfl))
  t3 := Tryz.underlying3
  a3 := Tryz.isAgg3
  z3 := Tryz.sizeOf3
  v3 := Tryz.zeroValue3
  t4 := Tryz.underlying4
  a4 := Tryz.isAgg4
  z4 := Tryz.sizeOf4
  v4 := Tryz.zeroValue4
  t5 := Tryz.underlying5
  a5 := Tryz.isAgg5
  z5 := Tryz.sizeOf5
  v5 := Tryz.zeroValue5
  t9 := Tryz.underlying9
  a9 := Tryz.isAgg9
  z9 := Tryz.sizeOf9
  v9 := Tryz.zeroValue9
  t46 := Tryz.underlying187
  a46 := Tryz.isAgg187
  z46 := Tryz.sizeOf187
  v46 := Tryz.zeroValue187
  t53 := Tryz.underlying258
  a53 := Tryz.isAgg258
  z53 := Tryz.sizeOf258
  v53 := Tryz.zeroValue258 }
theorem bits_Len64_2 (u : Nat) (hu : u < 524288) (w : World) : Calls Tryz.prog 173 #[.int .u64 u] w fun e w' => e = .returned (.int .i64 (Lib.bitLen u)) ∧ w = w' :=
  (Any.bits_Len64 lenLays2 u w (by omega) (by omega)).mono fun _ _ ⟨h1, h2⟩ => ⟨by simpa using h1, h2.symm⟩
theorem bits_Len_2 (u : Nat) (hu : u < 524288) (w : World) : Calls Tryz.prog 144 #[.int .u64 u] w fun e w' => e = .returned (.int .i64 (Lib.bitLen u)) ∧ w = w' := by
  have H := Lib.hid (fun w => bits_Len64_2 u hu w)
  go_enter Tryz.func144, Tryz.ntmps144
  go_wp2_with (go_at_call 173; refine (H.out _).mono ?_; rintro e w' ⟨rfl, rfl⟩)
  go_ret
  exact ⟨rfl, rfl⟩
theorem merkle_apart (w : World) (at_ n first end_ : Int) (h : -1000000 ≤ at_ ∧ at_ ≤ 1000000) (hn : -1000000 ≤ n ∧ n ≤ 1000000) :
    Calls Tryz.prog 116 #[.int .i64 at_, .int .i64 n, .int .i64 first, .int .i64 end_] w fun e w' => e = .returned (.bool (decide (end_ ≤ first ∨ end_ ≤ at_ ∨ at_ + n ≤ first))) ∧ w = w' := by
  have hs : IntKind.i64.wrap (at_ + n) = at_ + n := by unfold IntKind.wrap; simp [IntKind.bits, IntKind.signed]; omega
  by_cases h1 : end_ ≤ first
  · rw [decide_eq_true (Or.inl h1)]
    go_enter Tryz.func116, Tryz.ntmps116
    go_wp2
    go_ret
    exact ⟨rfl, rfl⟩
  by_cases h2 : end_ ≤ at_
  · rw [decide_eq_true (Or.inr (Or.inl h2))]
    go_enter Tryz.func116, Tryz.ntmps116
    go_wp2
    go_ret
    exact ⟨rfl, rfl⟩
  by_cases h3 : at_ + n ≤ first
  · rw [decide_eq_true (Or.inr (Or.inr h3))]
    go_enter Tryz.func116, Tryz.ntmps116
    go_wp2
    go_ret
    exact ⟨rfl, rfl⟩
  · rw [decide_eq_false (by omega)]
    go_enter Tryz.func116, Tryz.ntmps116
    go_wp2
    go_ret
    exact ⟨rfl, rfl⟩
end Go.Proofs.YtmkdhhhoodeemaaGreat

/- slices.DeleteFunc, slices.Clone of entries. -/
namespace Go.Proofs.YtmkdhhhoodeemaaGreat
open Go Go.RowKit Go.Lib
def DelP (w : World) (base : Nat) (v : Value) (p : Ent → Bool) (l : List Ent) (e : Ending) (w' : World) : Prop :=
  ∃ A n cap, e = .returned (.slice A n cap) ∧ n = (l.filter fun x => !p x).length ∧ n ≤ cap ∧ EntRow w' (fun k => base ≤ k) A (l.filter fun x => !p x) ∧ Fr (fun k => v.ownBlock = some k) w w'
theorem entry_zero : ∀ w, (zeroValue 119).run Tryz.prog w = .ok (.agg #[.string ⟨#[]⟩, .string ⟨#[]⟩, .int .i64 0]) w := Tryz.zeroValue119
set_option maxRecDepth 100000 in
set_option maxHeartbeats 4000000 in
theorem deleteEnt {w : World} {base : Nat} {v : Value} {l : List Ent} {p : Ent → Bool} {sb : Nat} (h : w.ownsRow base 119 3 v l.length (entsV l)) (hll : l.length ≤ 1000000) (hP : ∀ w' x, Fr (fun k => v.ownBlock = some k) w w' → Calls Tryz.prog 83 #[.agg #[.string x.1, .string x.2.1, .int .i64 x.2.2], .pointer (some ⟨sb, 0, none⟩)] w' (OkB w' (p x))) :
    Calls Tryz.prog 81 #[v, .func (.func 83) #[] #[.pointer (some ⟨sb, 0, none⟩)]] w (DelP w base v p l) := by
  obtain ⟨A, cap, rfl, hrow⟩ := own_ents h
  have HI := Lib.hid (indexEntT (cap := cap) (p := p) hrow hll (fun w' x hf => hP w' x (hf.mono (fun _ _ h => h.elim))))
  have HP := Lib.hid hP
  have HR := Lib.hid hrow
  have HO := Lib.hid h
  clear hP hrow h
  go_enter Tryz.func81, Tryz.ntmps81
  go_upto_region 2 with (first
    | (go_at_call 112; refine HI.out.mono ?_; rintro e w1 ⟨⟨i, rfl, hi⟩, hf1⟩))
  rcases hi with ⟨rfl, hno⟩ | ⟨k0, rfl, hk0, hlow, hhit⟩
  · have HN := Lib.hid hno
    clear hno
    go_wp2_with fail
    go_ret
    have he : (l.filter fun x => !p x) = l := by
      rw [List.filter_eq_self]
      intro x hx
      obtain ⟨k, hk, rfl⟩ := List.mem_iff_getElem.1 hx
      rw [HN.out k _ (List.getElem?_eq_getElem hk)]
      rfl
    have hcp : l.length ≤ cap := by obtain ⟨_, _, e1, e2, _⟩ := own_form HO.out; cases e1; exact e2
    refine ⟨A, l.length, cap, rfl, by rw [he], hcp, ?_, hf1.mono (fun _ _ h => h.elim)⟩
    rw [he]
    exact HR.out.fr hf1 (fun _ _ => id)
  · obtain ⟨d, hd⟩ : ∃ d : Array Ent, d = l.toArray := ⟨_, rfl⟩
    obtain ⟨kp, hkp⟩ : ∃ kp : Nat → Bool, kp = fun j => !p d[j]! := ⟨_, rfl⟩
    have hds : d.size = l.length := by rw [hd]; simp
    have hdg : ∀ (j : Nat) x, l[j]? = some x → d[j]! = x := by
      intro j x hx
      rw [hd]
      obtain ⟨hj, rfl⟩ := List.getElem?_eq_some_iff.1 hx
      rw [getElem!_pos l.toArray j (by simpa using hj)]
      simp
    have I0 : KeptInv kp d (k0 + 1) k0 d := KeptInv.start
      (fun j hj => by
        have hjl : j < l.length := by omega
        rw [hkp]
        show (!p d[j]!) = true
        rw [hdg j _ (List.getElem?_eq_getElem hjl), hlow j _ hj (List.getElem?_eq_getElem hjl)]
        rfl)
      (by
        rw [hkp]
        show (!p d[k0]!) = false
        rw [hdg k0 _ (List.getElem?_eq_getElem hk0), hhit _ (List.getElem?_eq_getElem hk0)]
        rfl)
    have hfil : (l.filter fun x => !p x) = keptUpTo kp d d.size := by rw [hkp, keptUpTo_filter (fun x => !p x) d, hd]
    have HFI := Lib.hid hfil
    have hne : ((k0 : Int) == -1) = false := beq_eq_false_iff_ne.2 (by omega)
    obtain ⟨q, hq⟩ : ∃ q, l.length = q + 1 := ⟨l.length - 1, by omega⟩
    obtain ⟨g, c', he⟩ := own_some (hq ▸ HO.out)
    obtain ⟨rfl, rfl⟩ : A = some ⟨g, 0, none⟩ ∧ c' = cap := by cases he; exact ⟨rfl, rfl⟩
    obtain ⟨cs, hcs⟩ := own_cells HO.out (k := g) rfl
    have hgb : base ≤ g := own_ge HO.out g rfl
    have hcap : l.length ≤ c' := by obtain ⟨_, _, e1, e2, _⟩ := own_form HO.out; cases e1; exact e2
    have E0 : EntA cs d := by
      intro k x hx
      rw [hd] at hx
      obtain ⟨b, o, eb, hb, c0, c1, c2⟩ := HR.out k x (by simpa using hx)
      cases eb
      rw [Nat.zero_add] at c0 c1 c2
      rw [hcs.cell] at c0 c1 c2
      exact ⟨c0, c1, c2⟩
    clear hlow hhit hfil hq he hdg
    have hB1 := hcs.fr hf1 id
    have hf1' : Fr (fun k => k = g) w w1 := hf1.mono (fun _ _ h => h.elim)
    clear hf1 hcs HI
    have HE0 := Lib.hid E0
    have HI0 := Lib.hid I0
    have HKP := Lib.hid hkp
    have HDS := Lib.hid hds
    clear E0 I0 hkp hds hd
    go_upto_region 5 with fail
    go_loopw [5, 6, 7] (fun s5 s6 _ wr => ∃ (i j : Nat) (dk : Array Ent) (cs : Array Value), s5 = .int .i64 i ∧ s6 = .int .i64 j ∧ j ≤ l.length ∧ Hid (KeptInv kp d j i dk) ∧ Blk wr g 119 cs ∧ Hid (EntA cs dk) ∧ Fr (fun k => k = g) w wr) (fun _ s6 _ _ => l.length - (RowKit.intOf s6).toNat)
    case atStart => exact ⟨k0, k0 + 1, d, cs, rfl, by go_num, by omega, HI0, hB1, HE0, hf1'⟩
    case round =>
      clear hB1 hf1' HE0 HI0
      obtain ⟨i, j, dk, cs, rfl, rfl, hjd, HI, hB, HE, hf⟩ := hrel
      have hij := HI.out.lt
      by_cases hlt : j < l.length
      · have hlt' : (j : Int) < (l.length : Int) := by omega
        obtain ⟨x, hx⟩ : ∃ x, x = d[j]! := ⟨_, rfl⟩
        have hdk : dk[j]? = some x := by
          have h1 := HI.out.high j (by omega)
          have h2 : j < dk.size := by have := HI.out.size; have := HDS.out; omega
          rw [Array.getElem?_eq_getElem h2, hx, ← h1, getElem!_pos dk j h2]
        obtain ⟨e0, e1, e2⟩ := HE.out j x hdk
        have c0 := hB.cell (j * 3)
        have c1 := hB.cell (j * 3 + 1)
        have c2 := hB.cell (j * 3 + 2)
        rw [e0] at c0
        rw [e1] at c1
        rw [e2] at c2
        have HX := Lib.hid hx
        clear e0 e1 e2 hdk hx
        go_upto_region 8 with fail
        have hX := Blk.new wr 119 #[.string x.1, .string x.2.1, .int .i64 x.2.2]
        have hBa := hB.alloc (Obj.cells #[.string x.1, .string x.2.1, .int .i64 x.2.2] 119)
        have hfa := hf.alloc (Obj.cells #[.string x.1, .string x.2.1, .int .i64 x.2.2] 119)
        generalize wr.alloc (Obj.cells #[.string x.1, .string x.2.1, .int .i64 x.2.2] 119) = wa at *
        have HK := HP.out wa x (hfa.mono (fun k _ e => by rw [e]; rfl))
        have y0 := hX.cell 0
        have y1 := hX.cell 1
        have y2 := hX.cell 2
        clear c0 c1 c2 hB hf
        have hij' : i < dk.size := by have := HI.out.size; have := HDS.out; omega
        cases hp : p x with
        | false =>
          rw [hp] at HK
          replace HK := Lib.hid HK
          have hkj : Hid (kp j = true) := by show kp j = true; rw [HKP.out]; show (!p d[j]!) = true; rw [← HX.out, hp]; rfl
          clear hp
          go_upto_region 9 with (go_at_call 83; refine HK.out.mono ?_; rintro e w3 ⟨rfl, hf3⟩)
          have hB3 := hBa.fr hf3 id
          have hX3 := hX.fr hf3 id
          have hf03 := hfa.then_ hf3
          have hth : w3.there g (i * 3) 3 := hB3.there (by have := HE.out.lt hij'; omega)
          clear hBa hX hfa y0 y1 y2 hf3
          have y0 := hX3.cell 0
          have y1 := hX3.cell 1
          have y2 := hX3.cell 2
          have hil : (i : Int) < (l.length : Int) := by omega
          go_wp2_with (refine wpList_store_mid rfl 119 (.tmp 33) (.tmp 32) rfl g (i * 3) #[.string x.1, .string x.2.1, .int .i64 x.2.2] rfl rfl hth (by kernel_rfl) (by simp [Value.oneCell']) ?_)
          have hKI : Hid (KeptInv kp d (j + 1) (i + 1) (dk.setIfInBounds i x)) := by
            have := HI.out.keep (by have := HDS.out; omega) hkj.out
            rw [← HX.out] at this
            exact this
          go_roundw
          case rel => exact ⟨i + 1, j + 1, dk.setIfInBounds i x, _, by go_num, by go_num, by omega, hKI, ((hB3.set_ (i * 3) _).set_ (i * 3 + 1) _).set_ (i * 3 + 1 + 1) _, HE.out.set_ hij' x, Fr.setCells_ (S := fun k => k = g) (fun _ => rfl) _ _ hf03⟩
          case measure => simp [RowKit.intOf]; omega
        | true =>
          rw [hp] at HK
          replace HK := Lib.hid HK
          have hkj : Hid (kp j = false) := by show kp j = false; rw [HKP.out]; show (!p d[j]!) = false; rw [← HX.out, hp]; rfl
          clear hp
          go_wp2_with (go_at_call 83; refine HK.out.mono ?_; rintro e w3 ⟨rfl, hf3⟩)
          go_roundw
          case rel => exact ⟨i, j + 1, dk, cs, rfl, by go_num, by omega, HI.out.skip hkj.out, hBa.fr hf3 id, HE, hfa.then_ hf3⟩
          case measure => simp [RowKit.intOf]; omega
      · obtain rfl : j = l.length := by omega
        have hi2 : i < dk.size := by have := HI.out.size; have := HDS.out; omega
        have hz : (Value.agg #[.string ⟨#[]⟩, .string ⟨#[]⟩, .int .i64 0]).cells = #[.string ⟨#[]⟩, .string ⟨#[]⟩, .int .i64 0] := rfl
        have hbig : ∀ q, q < (l.length - i) * (Value.agg #[.string ⟨#[]⟩, .string ⟨#[]⟩, .int .i64 0]).cells.size → i * 3 + q < cs.size := by
          intro q hq
          rw [hz] at hq
          have h1 : l.length - 1 < dk.size := by have := HI.out.size; have := HDS.out; omega
          have h2 := HE.out.lt h1
          have h3 : (#[Value.string ⟨#[]⟩, .string ⟨#[]⟩, .int .i64 0] : Array Value).size = 3 := rfl
          rw [h3] at hq
          omega
        have hcl : ∀ ty, (Builtin.clear_ #[31] ty #[.slice (some ⟨g, i * 3, none⟩) (l.length - i) (c' - i)]).run Tryz.prog wr = .ok (.tuple #[]) (wr.setCells g (i * 3) (Builtin.zeroCells (Value.agg #[.string ⟨#[]⟩, .string ⟨#[]⟩, .int .i64 0]).cells (l.length - i)).toList) := fun ty =>
          run_clear_big wr _ _ ty _ Tryz.underlying31 entry_zero g (i * 3) _ _ (by omega)
            (fun v hv => by
              rw [hz] at hv
              simp only [Builtin.zeroCells, Array.toList_map, Array.toList_range, List.mem_map, List.mem_range] at hv
              obtain ⟨q, _, rfl⟩ := hv
              have h3 : (#[Value.string ⟨#[]⟩, .string ⟨#[]⟩, .int .i64 0] : Array Value).size = 3 := rfl
              rw [h3]
              have : q % 3 = 0 ∨ q % 3 = 1 ∨ q % 3 = 2 := by omega
              rcases this with e | e | e <;> rw [e] <;> rfl)
            (fun q hq => by rw [hB.cell, Array.getElem?_eq_getElem (hbig q hq)]; rfl) (fun q _ => hB.frozen _)
        have HFZ := Lib.hid (Fr.setCells_ (S := fun k => k = g) (b := g) (fun _ => rfl) (Builtin.zeroCells (Value.agg #[.string ⟨#[]⟩, .string ⟨#[]⟩, .int .i64 0]).cells (l.length - i)).toList (i * 3) hf)
        have HCO := Lib.hid (fun x hx => World.cell?_setCells_out g (Builtin.zeroCells (Value.agg #[.string ⟨#[]⟩, .string ⟨#[]⟩, .int .i64 0]).cells (l.length - i)).toList (i * 3) wr x hx)
        generalize wr.setCells g (i * 3) (Builtin.zeroCells (Value.agg #[.string ⟨#[]⟩, .string ⟨#[]⟩, .int .i64 0]).cells (l.length - i)).toList = wz at *
        have hil : (i : Int) < (l.length : Int) := by omega
        have HB := Lib.hid hB
        have hci : ¬ c' = i := by omega
        clear hbig hz hB hf
        go_wp2
        go_ret
        have hsz : d.size = l.length := HDS.out
        have hIK := HI.out
        rw [← hsz] at hIK
        refine ⟨_, i, c', rfl, by rw [HFI.out, hIK.len], by omega, ?_, HFZ.out.mono (fun k _ e => by rw [e]; rfl)⟩
        rw [HFI.out]
        intro k x hx
        have hki : k < i := by
          have := (List.getElem?_eq_some_iff.1 hx).1
          rw [hIK.len] at this
          exact this
        have hlow := hIK.low k hki
        rw [hx] at hlow
        have hkd : k < dk.size := by omega
        have hxd : dk[k]? = some x := by rw [Array.getElem?_eq_getElem hkd, Option.some.inj hlow, getElem!_pos dk k hkd]
        obtain ⟨e0, e1, e2⟩ := HE.out k x hxd
        refine ⟨g, 0, rfl, hgb, ?_, ?_, ?_⟩
        · rw [HCO.out _ (fun _ _ => .inl (by dsimp only; omega)), Nat.zero_add, HB.out.cell]; exact e0
        · rw [HCO.out _ (fun _ _ => .inl (by dsimp only; omega)), Nat.zero_add, HB.out.cell]; exact e1
        · rw [HCO.out _ (fun _ _ => .inl (by dsimp only; omega)), Nat.zero_add, HB.out.cell]; exact e2
theorem ownsRow_built (w : World) {base : Nat} (e : TypeId) (size : Nat) (hb : base ≤ w.heap.size) : (w.alloc (.cells #[] e)).ownsRow base e size (.slice (some ⟨w.heap.size, 0, none⟩) 0 0) 0 [] :=
  ⟨by simp, .inr ⟨w.heap.size, 0, #[], rfl, hb, heap_alloc_new w _, Nat.le_refl _, by simp only [maxLen]; omega, by simp, by simp⟩⟩
theorem entsV_len : ∀ (l : List Ent), (entsV l).length = l.length * 3
  | [] => rfl
  | x :: l => by
    have := entsV_len l
    unfold entsV at this ⊢
    rw [List.flatMap_cons, List.length_append, this]
    simp only [List.length_cons, List.length_nil]
    omega
theorem entRow_news {w : World} {F : Nat → Prop} {b o : Nat} {l : List Ent} (h : EntRow w F (some ⟨b, o, none⟩) l) : ∀ (j : Nat) u, (entsV l)[j]? = some u → w.cell? ((⟨b, o, none⟩ : Addr).add j) = some u := by
  intro j u hu
  rw [add_at]
  have hj := (List.getElem?_eq_some_iff.1 hu).1
  rw [entsV_len] at hj
  have hq : j / 3 < l.length := by omega
  obtain ⟨x, hx⟩ : ∃ x, l[j / 3]? = some x := ⟨_, List.getElem?_eq_getElem hq⟩
  obtain ⟨h0, h1, h2⟩ := triples_at (f := fun x => .string x.1) (g := fun x => .string x.2.1) (h := fun x => .int .i64 x.2.2) hx
  obtain ⟨b', o', e, _, c0, c1, c2⟩ := h _ x hx
  cases e
  have : j = j / 3 * 3 ∨ j = j / 3 * 3 + 1 ∨ j = j / 3 * 3 + 2 := by omega
  unfold entsV at hu
  rcases this with e | e | e
  · rw [e] at hu ⊢
    rw [h0] at hu
    rw [← hu]; exact c0
  · rw [e] at hu ⊢
    rw [h1] at hu
    rw [← hu]; exact c1
  · rw [e] at hu ⊢
    rw [h2] at hu
    rw [← hu]; exact c2
theorem entsV_one (l : List Ent) : ∀ u ∈ entsV l, u.oneCell' = true := by
  intro u hu
  unfold entsV at hu
  obtain ⟨x, _, h⟩ := List.mem_flatMap.1 hu
  simp only [List.mem_cons, List.not_mem_nil, or_false] at h
  rcases h with rfl | rfl | rfl <;> rfl
theorem ent_info : ∃ i, (Tryz.prog).info? 119 = some i ∧ i.zero = some (.agg #[.string ⟨#[]⟩, .string ⟨#[]⟩, .int .i64 0]) ∧ i.size = 3 ∧ i.bytes = 40 := by
  have h := entry_info
  cases hi : (Tryz.prog).info? 119 with
  | none => rw [hi] at h; cases h
  | some i =>
    rw [hi] at h
    simp only [Option.map_some, Option.some.injEq, Prod.mk.injEq] at h
    exact ⟨i, rfl, h.1, h.2.1, h.2.2⟩
/-- A row of entries of the call's own. -/
def EntOwn (w w' : World) (l : List Ent) (e : Ending) : Prop := ∃ v, e = .returned v ∧ w'.ownsRow w.heap.size 119 3 v l.length (entsV l) ∧ Fr (fun _ => False) w w'
set_option maxRecDepth 100000 in
theorem cloneEnt {w : World} {F : Nat → Prop} {A : Option Addr} {l : List Ent} {cap : Nat} (h : EntRow w F A l) (hll : l.length ≤ 1000000) :
    Calls Tryz.prog 82 #[.slice A l.length cap] w fun e w' => EntOwn w w' l e := by
  have hq := fun w' A n => @Lib.run_eql_slice_nil Tryz.prog w' 31 119 A n cap 0 0 Tryz.underlying31
  cases l with
  | nil =>
    cases A with
    | none =>
      go_enter Tryz.func82, Tryz.ntmps82
      go_wp2
      go_ret
      exact ⟨.slice none 0 0, rfl, World.ownsRow_nil _ _ _ _, Fr.refl _ _⟩
    | some a =>
      go_enter Tryz.func82, Tryz.ntmps82
      go_wp2
      go_ret
      exact ⟨.slice (some ⟨w.heap.size, 0, none⟩) 0 0, rfl, ownsRow_built w _ _ (Nat.le_refl _), (Fr.refl (fun _ => False) w).alloc _⟩
  | cons x r =>
    obtain ⟨b, o, rfl, hb, _⟩ := h 0 x rfl
    obtain ⟨i, hi, hz, hsz, hby⟩ := ent_info
    have hn := entRow_news (h.fr ((Fr.refl (fun _ => False) w).alloc (Obj.cells #[] 119)) (fun _ _ => id))
    have hlen : (entsV (x :: r)).length = (x :: r).length * 3 := entsV_len _
    have h1 := entsV_one (x :: r)
    obtain ⟨ys, hys⟩ : ∃ ys, entsV (x :: r) = ys := ⟨_, rfl⟩
    rw [hys] at hn hlen h1
    have HYS := Lib.hid hys
    obtain ⟨n, hnn⟩ : ∃ n, (x :: r).length = n := ⟨_, rfl⟩
    have hn0 : 0 < n := by rw [← hnn]; simp
    rw [hnn] at hlen hll ⊢
    have HNN := Lib.hid hnn
    clear h hys hnn
    go_enter Tryz.func82, Tryz.ntmps82
    go_wp2_with (at_builtin; refine wpList_append_lies _ rfl (.tmp 5) (.tmp 6) 31 rfl w.heap.size 119 i _ 3 40 Tryz.underlying31 hi hz hsz hby rfl (by decide) (.slice (some ⟨w.heap.size, 0, none⟩) 0 0) 0 [] rfl (ownsRow_built w _ _ (Nat.le_refl _)) ⟨b, o, none⟩ n cap ys rfl hlen hn h1 hn0 (by simp only [maxLen]; omega) (by omega) (by simp) _ rfl ?_; intro g2 c2 w2 hown2 hg2 hk2 hl2)
    go_ret
    have hf2 : Fr (fun _ => False) w w2 := ((Fr.refl (fun _ => False) w).alloc (Obj.cells #[] 119)).grown hg2 (fun k hk e => by simp [Value.ownBlock] at e; omega)
    refine ⟨_, rfl, ?_, hf2⟩
    rw [HNN.out, HYS.out]
    simpa using hown2
end Go.Proofs.YtmkdhhhoodeemaaGreat

/- merkle: Prove of all entries: digest of one text; the top of none; the walk down. -/
namespace Go.Proofs.YtmkdhhhoodeemaaGreat
open Go Go.RowKit
def halfN (n : Nat) : Nat := 2 ^ (Lib.bitLen (n - 1) - 1)
theorem halfN_lt {n : Nat} (h2 : 2 ≤ n) (hn : n ≤ 65536) : 1 ≤ halfN n ∧ halfN n < n := by
  obtain ⟨b1, b2, b3⟩ := Lib.bitLenAux_bounds 64 (n - 1) (by omega) (by omega)
  have e0 : Lib.bitLenAux 64 (n - 1) = Lib.bitLen (n - 1) := rfl
  rw [e0] at b1 b2 b3
  obtain ⟨m, hm⟩ : ∃ m, Lib.bitLen (n - 1) = m + 1 := ⟨Lib.bitLen (n - 1) - 1, by omega⟩
  unfold halfN
  rw [hm] at b2 ⊢
  have hp : 1 ≤ 2 ^ m := Nat.one_le_two_pow
  simp at b2 ⊢
  omega
theorem merkle_halfN (w : World) (n : Nat) (h2 : 2 ≤ n) (hn : n ≤ 65536) :
    Calls Tryz.prog 118 #[.int .i64 n] w fun e w' => e = .returned (.int .i64 (halfN n)) ∧ w = w' := by
  have H := fun w => bits_Len_2 (n - 1) (by omega) w
  have hs : ((n : Int) - 1) = ((n - 1 : Nat) : Int) := by omega
  obtain ⟨b1, b2, b3⟩ := Lib.bitLenAux_bounds 64 (n - 1) (by omega) (by omega)
  have b4 : Lib.bitLen (n - 1) ≤ 16 := Lib.bitLen_le _ 16 (by omega) (by omega)
  have e0 : Lib.bitLenAux 64 (n - 1) = Lib.bitLen (n - 1) := rfl
  rw [e0] at b1 b2 b3
  obtain ⟨m, hm⟩ : ∃ m, Lib.bitLen (n - 1) = m + 1 := ⟨Lib.bitLen (n - 1) - 1, by omega⟩
  have hkk : halfN n = 2 ^ m := by unfold halfN; rw [hm]; rfl
  rw [hm] at H b1 b2 b3 b4
  have hlt : 2 ^ m < n := by simp at b2; omega
  have hw4 : wrap64 ((2 : Int) ^ m) = ((2 ^ m : Nat) : Int) := by
    rw [show ((2 : Int) ^ m) = ((2 ^ m : Nat) : Int) by simp]
    unfold wrap64
    omega
  rw [← hkk] at hlt hw4
  clear hkk
  generalize halfN n = k at *
  have hw : wrap64 (((m + 1 : Nat) : Int) - 1) = (m : Int) := by unfold wrap64; omega
  have hw2 : wrap64 ((m : Int) + 1 - 1) = (m : Int) := by unfold wrap64; omega
  have hw3 : wrap64 (m : Int) = (m : Int) := by unfold wrap64; omega
  replace H := Lib.hid H
  clear e0 b1 b2 b3
  go_enter Tryz.func118, Tryz.ntmps118
  go_wp2_with (go_at_call 144; refine (H.out _).mono ?_; rintro e w' ⟨rfl, rfl⟩)
  go_ret
  exact ⟨by rw [← hw4]; rfl, rfl⟩
/-- The boxes of what Prove's closure has of Prove. -/
structure Down (w : World) (bf bm bd bp bt bl : Nat) (N : Nat) : Prop where
  f : w.cell? ⟨bf, 0, none⟩ = some (.int .i64 0)
  m : w.cell? ⟨bm, 0, none⟩ = some (.int .i64 N)
  d : w.cell? ⟨bd, 0, none⟩ = some (.func (.func 115) #[] #[.pointer (some ⟨bf, 0, none⟩), .pointer (some ⟨bm, 0, none⟩), .pointer (some ⟨bp, 0, none⟩), .pointer (some ⟨bt, 0, none⟩), .pointer (some ⟨bl, 0, none⟩), .pointer (some ⟨bd, 0, none⟩)])
theorem Down.drewN {w : World} {bf bm bd bp bt bl N : Nat} (h : Down w bf bm bd bp bt bl N) (n : Nat) : Down (w.drewN n) bf bm bd bp bt bl N := ⟨h.f, h.m, h.d⟩
set_option maxRecDepth 100000 in
set_option maxHeartbeats 1000000 in
theorem prove1_down {bf bm bd bp bt bl N : Nat} (hN : N ≤ 65536) : ∀ (n : Nat) (at_ : Nat) (w : World), 1 ≤ n → at_ + n ≤ N → Down w bf bm bd bp bt bl N →
    Calls Tryz.prog 115 #[.int .i64 at_, .int .i64 n, .pointer (some ⟨bf, 0, none⟩), .pointer (some ⟨bm, 0, none⟩), .pointer (some ⟨bp, 0, none⟩), .pointer (some ⟨bt, 0, none⟩), .pointer (some ⟨bl, 0, none⟩), .pointer (some ⟨bd, 0, none⟩)] w (fun e w' => e = .returned (.tuple #[]) ∧ ∃ m, w' = w.drewN m) := by
  intro n
  induction n using Nat.strongRecOn with
  | _ n ih =>
    intro at_ w hn hat hD
    have HA := Lib.hid (merkle_apart w at_ n 0 N ⟨by omega, by omega⟩ ⟨by omega, by omega⟩)
    rw [decide_eq_false (by omega)] at HA
    have kf := hD.f
    have km := hD.m
    have IH := Lib.hid ih
    clear ih
    by_cases h1 : 1 < n
    · obtain ⟨p1, p2⟩ := halfN_lt (n := n) (by omega) (by omega)
      have h1' : (1 : Int) < (n : Int) := by omega
      have HH := Lib.hid (fun w => merkle_halfN w n (by omega) (by omega))
      obtain ⟨k, hk⟩ : ∃ k, halfN n = k := ⟨_, rfl⟩
      rw [hk] at HH p1 p2
      clear hk
      have hs1 : wrap64 ((at_ : Int) + (k : Int)) = ((at_ + k : Nat) : Int) := by unfold wrap64; omega
      have hs2 : wrap64 ((n : Int) - (k : Int)) = ((n - k : Nat) : Int) := by unfold wrap64; omega
      have kd := hD.d
      have HI2 : Hid (∀ w, Down w bf bm bd bp bt bl N → Calls Tryz.prog 115 #[.int .i64 ((at_ : Int) + k), .int .i64 ((n : Int) - k), .pointer (some ⟨bf, 0, none⟩), .pointer (some ⟨bm, 0, none⟩), .pointer (some ⟨bp, 0, none⟩), .pointer (some ⟨bt, 0, none⟩), .pointer (some ⟨bl, 0, none⟩), .pointer (some ⟨bd, 0, none⟩)] w (fun e w' => e = .returned (.tuple #[]) ∧ ∃ m, w' = w.drewN m)) := fun w h => by
        have := IH.out (n - k) (by omega) (at_ + k) w (by omega) (by omega) h
        rw [show ((at_ + k : Nat) : Int) = (at_ : Int) + k by omega, show ((n - k : Nat) : Int) = (n : Int) - k by omega] at this
        exact this
      go_enter Tryz.func115, Tryz.ntmps115
      go_upto_region 3 with (go_at_call 116; refine HA.out.mono ?_; rintro e w1 ⟨rfl, rfl⟩)
      go_quiet (first
        | (go_at_call 118; exact quiet_left (HH.out _))
        | (go_at_call 115; exact (IH.out k p2 at_ _ p1 (by omega) (hD.drewN _)).mono (fun _ _ ⟨he, m, hm⟩ => ⟨he, _, hm.trans (World.drewN_drewN _ _ _)⟩)))
      go_upto_region 4 with fail
      generalize nq = n1
      obtain ⟨w2, hw2⟩ : ∃ w2, w.drewN n1 = w2 := ⟨_, rfl⟩
      have hD2 : Down w2 bf bm bd bp bt bl N := hw2 ▸ hD.drewN n1
      have HW2 := Lib.hid hw2
      rw [hw2]
      clear hw2 kf km kd hD
      have kd := hD2.d
      go_quiet (first
        | (go_at_call 118; exact quiet_left (HH.out _))
        | (go_at_call 115; with_reducible exact (HI2.out _ (hD2.drewN _)).mono (fun _ _ ⟨he, m, hm⟩ => ⟨he, _, hm.trans (World.drewN_drewN _ _ _)⟩)))
      go_wp2_with fail
      refine bodyPost_end (v := .tuple #[]) (by simp [results, go_sem]) rfl ?_
      refine ⟨rfl, n1 + nq, ?_⟩
      rw [← HW2.out]
      exact World.drewN_drewN _ _ _
    · have h1' : ¬ (1 : Int) < (n : Int) := by omega
      go_enter Tryz.func115, Tryz.ntmps115
      go_wp2_with (go_at_call 116; refine HA.out.mono ?_; rintro e w1 ⟨rfl, rfl⟩)
      refine bodyPost_end (v := .tuple #[]) (by simp [results, go_sem]) rfl ?_
      exact ⟨rfl, 0, rfl⟩
theorem BookAt.farB {w w' : World} {g m base : Nat} {v : Value} {L : List (List Int)} (h : BookAt w g m base v L) {x : Nat} {t : TypeId} {cs : Array Value} (hB : Blk w x t cs) (h1 : t ≠ 125) (h2 : 9 ≠ t) (hf : Fr (fun k => k = g ∨ k = m ∨ v.ownBlock = some k) w w') : Blk w' x t cs :=
  hB.fr hf (fun e => by
    rcases e with e | e | e
    · exact hB.ne_ h.blk h1 e
    · obtain ⟨⟨es, cl, h3, _⟩, _⟩ := h.map
      exact hB.ne_map h3 e
    · exact own_ne_blk h.own hB h2 e)
def DigM (w : World) (g m base gt : Nat) (v : Value) (L : List (List Int)) (xs : List Int) (e : Ending) (w' : World) : Prop :=
  ∃ v', e = .returned (.int .i64 (digI L xs : Nat)) ∧ BookAt w' g m base v' (digL L xs) ∧ Blk w' gt 208 #[.pointer (some ⟨g, 0, none⟩), .nilIface] ∧ Fr (fun k => k = g ∨ k = m ∨ v.ownBlock = some k ∨ k = gt) w w' ∧ ∀ k, v'.ownBlock = some k → v.ownBlock = some k ∨ w.heap.size ≤ k
set_option maxRecDepth 100000 in
set_option maxHeartbeats 1000000 in
theorem merkle_digest1 {w : World} {g m base gt bx : Nat} {v : Value} {L : List (List Int)} (hb : BookAt w g m base v L) (hbase : base ≤ w.heap.size) (hL : L.length < 65536) (ht : Blk w gt 208 #[.pointer (some ⟨g, 0, none⟩), .nilIface]) {s : ByteArray} (hs : s.size ≤ 65000) (hx : w.cell? ⟨bx, 0, none⟩ = some (.string s)) :
    Calls Tryz.prog 141 #[.pointer (some ⟨gt, 0, none⟩), .slice (some ⟨bx, 0, none⟩) 1 1, .slice none 0 0] w (DigM w g m base gt v L (textB (bytesOf s))) := by
  have hf0 : Fr (fun _ => False) w (w.alloc (Obj.cells #[.slice none 0 0, .nilIface] 194)) := (Fr.refl _ _).alloc _
  have hW0 : WriterAt (w.alloc (Obj.cells #[.slice none 0 0, .nilIface] 194)) w.heap.size w.heap.size (.slice none 0 0) [] none := ⟨Blk.new_ _ _ _ rfl, Own8.nil _ _⟩
  have hz0 : w.heap.size < (w.alloc (Obj.cells #[.slice none 0 0, .nilIface] 194)).heap.size := by simp
  have h8 := Lib.hid (b8_textB s)
  have hl8 : Hid ((textB (bytesOf s)).length ≤ 65536) := by show _ ≤ _; rw [textB_len]; omega
  have hx0 := hf0.cell_some hx id
  go_enter Tryz.func141, Tryz.ntmps141
  go_upto_region 3 with fail
  generalize w.alloc (Obj.cells #[.slice none 0 0, .nilIface] 194) = w0 at *
  go_loopw [19] (fun ix wr => (ix = .int .i64 0 ∧ wr = w0) ∨ (ix = .int .i64 1 ∧ ∃ v2, WriterAt wr w.heap.size w.heap.size v2 (textB (bytesOf s)) none ∧ Fr (fun _ => False) w wr)) (fun ix _ => 1 - (intOf ix).toNat)
  case atStart => exact .inl ⟨rfl, rfl⟩
  case round =>
    rcases hrel with ⟨rfl, rfl⟩ | ⟨rfl, v2, hW2, hf2⟩
    · have hcs := run_str wr s
      have hws := hW0.fr (strW_fr wr s) id (fun _ _ => id)
      have hfs := hf0.then_ (strW_fr wr s)
      have hzs : w.heap.size ≤ (strW wr s).heap.size := Nat.le_trans (Nat.le_of_lt hz0) (strW_fr wr s).size
      have HT := writer_Text (cap := grownCap wr s.size 0 5) hws hzs (strW_row wr s) (fun k e1 e2 => own8_new hW0.own (e1 ▸ e2)) (by rw [bytesOf_length]; simp; omega)
      rw [if_pos (by rw [bytesOf_length]; omega), bytesOf_length] at HT
      replace HT := Lib.hid HT
      go_wp2_with (go_at_call 99; refine HT.out.mono ?_; rintro e w8 ⟨v8, rfl, hW8, hq8, _⟩)
      have hW8 : WriterAt w8 w.heap.size w.heap.size v8 ([] ++ textB (bytesOf s)) none := hW8
      rw [List.nil_append] at hW8
      have hf8 := wrote_fr hfs hws.own (Nat.le_refl _) (Nat.le_refl _) hq8
      go_roundw
      case rel => exact .inr ⟨by go_num, v8, hW8, hf8⟩
      case measure => simp [intOf]
    · clear hW0 hx0 hf0 hz0
      go_upto_region 8 with fail
      go_loopw [30] (fun ix wr' => ix = .int .i64 0 ∧ wr' = wr) (fun _ _ => 0)
      case atStart => exact ⟨rfl, rfl⟩
      case round =>
        obtain ⟨rfl, rfl⟩ := hrel
        generalize wr = w2 at *
        have HB := Lib.hid (writer_Bytes hW2 (by have := hl8.out; omega))
        go_upto_region 13 with (go_at_call 100; refine HB.out.mono ?_; rintro e w3 ⟨v3, rfl, hv3, hf3⟩; obtain ⟨A3, c3, rfl, _, hr3⟩ := hv3.form)
        have hf03 := hf2.then_ hf3
        have hb3 := hb.keep hf03
        have ht3 := ht.fr hf03 id
        have t0 := ht3.cell 0
        have t1 := ht3.cell 1
        have hr3 : ByteRow w3 _ A3 (textB (bytesOf s)) := hr3
        have HD := book_Digest (cap := c3) hb3 (Nat.le_trans hbase hf03.size) hr3 h8.out hl8.out hL
        have hwb : wbytes (textB (bytesOf s)) none = textB (bytesOf s) := rfl
        have hnil : errW none = .nilIface := rfl
        rw [hwb, hnil]
        replace HD := Lib.hid HD
        clear hwb hnil hW2 hv3 hr3 HB hf3 hb ht hf2 hx
        generalize textB (bytesOf s) = xs at *
        go_upto_region 17 with (go_at_call 41; refine HD.out.mono ?_; rintro e w4 ⟨v4, rfl, hb4, hf4, hk4⟩; have ht4 := hb3.farB ht3 (by decide) (by decide) hf4; have t0 := ht4.cell 0; have t1 := ht4.cell 1; have tf := ht4.frozen 1)
        go_wp2_with (go_at_call 70; refine (fault_Wrap_nil _ _ _).mono ?_; rintro e w' ⟨rfl, rfl⟩)
        go_ret
        have hne : g ≠ gt ∧ m ≠ gt ∧ v4.ownBlock ≠ some gt := ⟨fun e => hb4.blk.ne_ ht4 (by decide) e, fun e => by obtain ⟨⟨es, cl, h1, _⟩, _⟩ := hb4.map; exact ht4.ne_map h1 e.symm, own_ne_blk hb4.own ht4 (by decide)⟩
        refine ⟨v4, rfl, hb4.fr ((Fr.refl (fun k => k = gt) w4).setCell (p := ⟨gt, 1, none⟩) (fun _ => rfl) _) hne.1 hne.2.1 (fun k hk e => hne.2.2 (e ▸ hk)), ht4.set_ 1 _, ?_, fun k hk => (hk4 k hk).imp_right (Nat.le_trans hf03.size)⟩
        exact ((hf03.mono (fun _ _ h => h.elim)).trans hf4 (fun k _ h => h.elim .inl (fun h => h.elim (fun h => .inr (.inl h)) (fun h => .inr (.inr (.inl h)))))).setCell (p := ⟨gt, 1, none⟩) (fun _ => .inr (.inr (.inr rfl))) _
end Go.Proofs.YtmkdhhhoodeemaaGreat

/- merkle: Prove of all entries: the top of none; Prove. -/
namespace Go.Proofs.YtmkdhhhoodeemaaGreat
open Go Go.RowKit
def noneS : ByteArray := ⟨#[110, 111, 110, 101]⟩
def noneB : List Int := textB (bytesOf noneS)
def DigT (w : World) (g m base gt : Nat) (v : Value) (L : List (List Int)) (xs : List Int) (e : Ending) (w' : World) : Prop :=
  ∃ v', e = .returned (.tuple #[.int .i64 (digI L xs : Nat), .bool true]) ∧ BookAt w' g m base v' (digL L xs) ∧ Blk w' gt 208 #[.pointer (some ⟨g, 0, none⟩), .nilIface] ∧ Fr (fun k => k = g ∨ k = m ∨ v.ownBlock = some k ∨ k = gt) w w' ∧ ∀ k, v'.ownBlock = some k → v.ownBlock = some k ∨ w.heap.size ≤ k
theorem merkle_top1 {w : World} {g m base gt bt : Nat} {v : Value} {L : List (List Int)} (hb : BookAt w g m base v L) (hbase : base ≤ w.heap.size) (hL : L.length < 65536) (ht : Blk w gt 208 #[.pointer (some ⟨g, 0, none⟩), .nilIface]) (hx : w.cell? ⟨bt, 0, none⟩ = some (.pointer (some ⟨gt, 0, none⟩))) :
    Calls Tryz.prog 140 #[.int .i64 0, .int .i64 0, .pointer (some ⟨bt, 0, none⟩)] w (DigT w g m base gt v L noneB) := by
  have hf0 : Fr (fun _ => False) w (w.alloc (Obj.cells #[.string noneS] 9)) := (Fr.refl _ _).alloc _
  have hs0 := (Blk.new w 9 #[.string noneS]).cell 0
  have HD := merkle_digest1 (bx := w.heap.size) (s := noneS) (hb.keep hf0) (Nat.le_trans hbase hf0.size) hL (ht.fr hf0 id) (by decide) hs0
  rw [show textB (bytesOf noneS) = noneB from rfl] at HD
  replace HD := Lib.hid HD
  clear hs0
  generalize noneB = xs at *
  go_enter Tryz.func140, Tryz.ntmps140
  go_wp2_with (go_at_call 141; refine HD.out.mono ?_; rintro e w4 ⟨v4, rfl, hb4, ht4, hf4, hk4⟩)
  refine bodyPost_ret (v := .tuple #[.int .i64 (digI L xs : Nat), .bool true]) (by simp [results, Tryz.results140, go_sem]) rfl ?_
  exact ⟨v4, rfl, hb4, ht4, (hf0.mono (fun _ _ h => h.elim)).trans hf4 (fun _ _ h => h), fun k hk => (hk4 k hk).imp_right (Nat.le_trans hf0.size)⟩
theorem merkle_fold0 {w : World} {g m base gt bt : Nat} {v : Value} {L : List (List Int)} (hb : BookAt w g m base v L) (hbase : base ≤ w.heap.size) (hL : L.length < 65536) (ht : Blk w gt 208 #[.pointer (some ⟨g, 0, none⟩), .nilIface]) (hx : w.cell? ⟨bt, 0, none⟩ = some (.pointer (some ⟨gt, 0, none⟩))) (f2 : Value) :
    Calls Tryz.prog 139 #[.pointer (some ⟨gt, 0, none⟩), .int .i64 0, .int .i64 0, .func (.func 140) #[] #[.pointer (some ⟨bt, 0, none⟩)], f2] w (DigM w g m base gt v L noneB) := by
  have HD := Lib.hid (merkle_top1 hb hbase hL ht hx)
  go_enter Tryz.func139, Tryz.ntmps139
  go_wp2_with (go_at_call 140; refine HD.out.mono ?_; rintro e w4 ⟨v4, rfl, hb4, ht4, hf4, hk4⟩)
  go_ret
  exact ⟨v4, rfl, hb4, ht4, hf4, hk4⟩
theorem merkle_top0 {w : World} {g m base gt : Nat} {v : Value} {L : List (List Int)} (hb : BookAt w g m base v L) (hbase : base ≤ w.heap.size) (hL : L.length < 65536) (ht : Blk w gt 208 #[.pointer (some ⟨g, 0, none⟩), .nilIface]) (A : Option Addr) (cap : Nat) :
    Calls Tryz.prog 117 #[.pointer (some ⟨gt, 0, none⟩), .slice A 0 cap] w (DigM w g m base gt v L noneB) := by
  have hB0 := (Blk.new w 206 #[.pointer (some ⟨gt, 0, none⟩)]).alloc (Obj.cells #[.slice A 0 cap] 31)
  have hS0 : Blk ((w.alloc (Obj.cells #[.pointer (some ⟨gt, 0, none⟩)] 206)).alloc (Obj.cells #[.slice A 0 cap] 31)) (w.heap.size + 1) 31 #[.slice A 0 cap] := Blk.new_ _ _ _ (by simp)
  have hf0 : Fr (fun _ => False) w ((w.alloc (Obj.cells #[.pointer (some ⟨gt, 0, none⟩)] 206)).alloc (Obj.cells #[.slice A 0 cap] 31)) := ((Fr.refl _ _).alloc _).alloc _
  go_enter Tryz.func117, Tryz.ntmps117
  go_upto_region 1 with fail
  generalize ((w.alloc (Obj.cells #[.pointer (some ⟨gt, 0, none⟩)] 206)).alloc (Obj.cells #[.slice A 0 cap] 31)) = w1 at *
  have x0 := hB0.cell 0
  have y0 := hS0.cell 0
  have HD := Lib.hid (fun f2 => merkle_fold0 (hb.keep hf0) (Nat.le_trans hbase hf0.size) hL (ht.fr hf0 id) x0 f2)
  go_wp2_with (go_at_call 139; refine (HD.out _).mono ?_; rintro e w4 ⟨v4, rfl, hb4, ht4, hf4, hk4⟩)
  go_ret
  exact ⟨v4, rfl, hb4, ht4, (hf0.mono (fun _ _ h => h.elim)).trans hf4 (fun _ _ h => h), fun k hk => (hk4 k hk).imp_right (Nat.le_trans hf0.size)⟩
/-- Behind the walk down of no entries: one digest beside. -/
def DownZ (w : World) (g m base gt bp : Nat) (v : Value) (L : List (List Int)) (x0 x1 x2 : Value) (e : Ending) (w' : World) : Prop :=
  e = .returned (.tuple #[]) ∧ ∃ v' b c, BookAt w' g m base v' (digL L noneB) ∧ Blk w' gt 208 #[.pointer (some ⟨g, 0, none⟩), .nilIface] ∧ Blk w' bp 60 #[x0, x1, x2, .slice (some ⟨b, 0, none⟩) 1 c] ∧ w.heap.size ≤ b ∧ w'.cell? ⟨b, 0, none⟩ = some (.int .i64 (digI L noneB : Nat)) ∧ Fr (fun k => k = g ∨ k = m ∨ v.ownBlock = some k ∨ k = gt ∨ k = bp) w w' ∧ ∀ k, v'.ownBlock = some k → v.ownBlock = some k ∨ w.heap.size ≤ k
theorem downZ_done {w w1 w2 : World} {g m base gt bp b2 c2 : Nat} {v v1 : Value} {L : List (List Int)} {x0 x1 x2 : Value} {D : Int} (hD : ((digI L noneB : Nat) : Int) = D) (hb1 : BookAt w1 g m base v1 (digL L noneB)) (ht1 : Blk w1 gt 208 #[.pointer (some ⟨g, 0, none⟩), .nilIface]) (hf1 : Fr (fun k => k = g ∨ k = m ∨ v.ownBlock = some k ∨ k = gt) w.drew w1) (hk1 : ∀ k, v1.ownBlock = some k → v.ownBlock = some k ∨ w.drew.heap.size ≤ k) (hp1 : Blk w1 bp 60 #[x0, x1, x2, .slice none 0 0]) (h2 : w2.ownsRow w1.heap.size 3 1 (.slice (some ⟨b2, 0, none⟩) 1 c2) (0 + 1) ([] ++ [.int .i64 D])) (hf2 : Fr (fun k => (Value.slice none 0 0).ownBlock = some k) (w1.alloc (Obj.cells #[.int .i64 D] 3)) w2) :
    DownZ w g m base gt bp v L x0 x1 x2 (.returned (.tuple #[])) (w2.setCell ⟨bp, 3, none⟩ (.slice (some ⟨b2, 0, none⟩) 1 c2)) := by
  have hf2' : Fr (fun _ => False) (w1.alloc (Obj.cells #[.int .i64 D] 3)) w2 := hf2.mono (fun k _ e => by simp [Value.ownBlock] at e)
  have hf12 : Fr (fun _ => False) w1 w2 := ((Fr.refl (fun _ => False) w1).alloc (Obj.cells #[.int .i64 D] 3)).then_ hf2'
  have hp2 := hp1.fr hf12 id
  have ht2 := ht1.fr hf12 id
  have hb2 := hb1.keep hf12
  have hset : Fr (fun k => k = bp) w2 (w2.setCell ⟨bp, 3, none⟩ (.slice (some ⟨b2, 0, none⟩) 1 c2)) := (Fr.refl (fun k => k = bp) w2).setCell (p := ⟨bp, 3, none⟩) (fun _ => rfl) _
  have n1 : g ≠ bp := fun e => hb2.blk.ne_ hp2 (by decide) e
  have n2 : m ≠ bp := fun e => by obtain ⟨⟨es, cl, h1, _⟩, _⟩ := hb2.map; exact hp2.ne_map h1 e.symm
  have n3 : v1.ownBlock ≠ some bp := own_ne_blk hb2.own hp2 (by decide)
  have n4 : gt ≠ bp := ht2.ne_ hp2 (by decide)
  have n5 : (Value.slice (some ⟨b2, 0, none⟩) 1 c2).ownBlock ≠ some bp := own_ne_blk h2 hp2 (by decide)
  have h3 := own_fr h2 hset (fun k hk e => n5 (e ▸ hk))
  obtain ⟨_, _, ev, _, hat⟩ := own_form h3
  cases ev
  obtain ⟨b, eb, hbb, hc⟩ := hat 0 _ rfl
  cases eb
  refine ⟨rfl, v1, b2, c2, hb2.fr hset n1 n2 (fun k hk e => n3 (e ▸ hk)), ht2.fr hset n4, hp2.set_ 3 _, Nat.le_trans hf1.size hbb, by rw [hD]; exact hc, ?_, hk1⟩
  have hf1' : Fr (fun k => k = g ∨ k = m ∨ v.ownBlock = some k ∨ k = gt ∨ k = bp) w w1 := ((Fr.refl _ w).drew).trans hf1 (fun k _ h => by rcases h with h | h | h | h <;> simp [h])
  exact (hf1'.trans (hf12.mono (fun _ _ h => h.elim)) (fun _ _ h => h)).trans hset (fun k _ h => .inr (.inr (.inr (.inr h))))
set_option maxRecDepth 100000 in
set_option maxHeartbeats 1000000 in
theorem prove1_zero {w : World} {g m base gt bf bm bd bp bt bl : Nat} {v : Value} {L : List (List Int)} (hb : BookAt w g m base v L) (hbase : base ≤ w.heap.size) (hL : L.length < 65536) (ht : Blk w gt 208 #[.pointer (some ⟨g, 0, none⟩), .nilIface]) (hD : Down w bf bm bd bp bt bl 0) (kt : w.cell? ⟨bt, 0, none⟩ = some (.pointer (some ⟨gt, 0, none⟩))) {A : Option Addr} {cap : Nat} (kl : w.cell? ⟨bl, 0, none⟩ = some (.slice A 0 cap)) {x0 x1 x2 : Value} (hp : Blk w bp 60 #[x0, x1, x2, .slice none 0 0]) :
    Calls Tryz.prog 115 #[.int .i64 0, .int .i64 0, .pointer (some ⟨bf, 0, none⟩), .pointer (some ⟨bm, 0, none⟩), .pointer (some ⟨bp, 0, none⟩), .pointer (some ⟨bt, 0, none⟩), .pointer (some ⟨bl, 0, none⟩), .pointer (some ⟨bd, 0, none⟩)] w (DownZ w g m base gt bp v L x0 x1 x2) := by
  have HA := Lib.hid (merkle_apart w 0 0 0 0 ⟨by omega, by omega⟩ ⟨by omega, by omega⟩)
  have kf := hD.f
  have km := hD.m
  have p3 := hp.cell 3
  obtain ⟨D, hDD⟩ : ∃ D : Int, Hid (((digI L noneB : Nat) : Int) = D) := ⟨_, rfl⟩
  have HT : Hid (Calls Tryz.prog 117 #[.pointer (some ⟨gt, 0, none⟩), .slice A 0 cap] w.drew (fun e w' => ∃ v', e = .returned (.int .i64 D) ∧ BookAt w' g m base v' (digL L noneB) ∧ Blk w' gt 208 #[.pointer (some ⟨g, 0, none⟩), .nilIface] ∧ Fr (fun k => k = g ∨ k = m ∨ v.ownBlock = some k ∨ k = gt) w.drew w' ∧ ∀ k, v'.ownBlock = some k → v.ownBlock = some k ∨ w.drew.heap.size ≤ k)) := by
    have := merkle_top0 (w := w.drew) (hb.keep ((Fr.refl (fun _ => False) w).drew)) hbase hL ht.drew A cap
    unfold DigM at this
    rw [hDD.out] at this
    exact this
  have hne : Hid (¬ (bp = g ∨ bp = m ∨ v.ownBlock = some bp ∨ bp = gt)) := fun e => by
    rcases e with e | e | e | e
    · exact hp.ne_ hb.blk (by decide) e
    · obtain ⟨⟨es, cl, h3, _⟩, _⟩ := hb.map
      exact hp.ne_map h3 e
    · exact own_ne_blk hb.own hp (by decide) e
    · exact hp.ne_ ht (by decide) e
  have hw0 : IntKind.i64.wrap 0 = 0 := by decide
  have hfd : Fr (fun _ => False) w w.drew := (Fr.refl _ _).drew
  have hpd : Blk w.drew bp 60 #[x0, x1, x2, .slice none 0 0] := hp.drew
  go_enter Tryz.func115, Tryz.ntmps115
  go_upto_region 1 with (go_at_call 116; refine HA.out.mono ?_; rintro e w1 ⟨rfl, rfl⟩)
  go_region_law (first
    | (refine step_append_gen rfl (.tmp 19) (.tmp 28) 30 3 rfl Tryz.underlying30 int_info rfl w1.heap.size (.slice none 0 0) 0 [] (by rfl) (World.ownsRow_nil _ _ _ _) ⟨w1.heap.size, 0, none⟩ 1 1 [.int .i64 D] (by rfl) rfl (new_one w1 3 _) (fun u hu => by rw [List.mem_singleton.1 hu]; rfl) (by omega) (by decide) (by simp) ?_; intro v2 w2 h2 hf2 hk2; obtain ⟨b2, c2, rfl⟩ := own_some h2; have hp2 := (hp1.alloc (Obj.cells #[.int .i64 D] 3)).fr hf2 (by simp [Value.ownBlock]); have q3 := hp2.cell 3; have q3f := hp2.frozen 3)
    | (go_simp; go_at_call 117; refine HT.out.mono ?_; rintro e w1 ⟨v1, rfl, hb1, ht1, hf1, hk1⟩; have hp1 := hpd.fr hf1 hne.out; have p31 := hp1.cell 3; have p32 := (hp1.alloc (Obj.cells #[.int .i64 D] 3)).cell 3))
  all_goals go_wp2_with fail
  all_goals refine bodyPost_end (v := .tuple #[]) (by simp [results, go_sem]) rfl ?_
  all_goals exact downZ_done hDD.out hb1 ht1 hf1 hk1 hp1 h2 hf2
end Go.Proofs.YtmkdhhhoodeemaaGreat

/- The program's Reader, by what is left of the bytes. -/
namespace Go.Proofs.YtmkdhhhoodeemaaGreat
open Go Go.RowKit
theorem fold_wf : ∀ (l : List Int) (n : Int), Wf64 n → Wf64 (l.foldl step64 n)
  | [], n, h => h
  | x :: l, n, h => fold_wf l _ (by unfold step64 Wf64 bits IntKind.wrap; simp [IntKind.bits, IntKind.signed]; omega)
theorem numX_wf (bs : List Int) (pos : Nat) : Wf64 (numX bs pos) := fold_wf _ _ ⟨by omega, by omega⟩
/-- The program's reader at g: s is left, or there was an error. -/
def PR (w : World) (g : Nat) (A : Option Addr) (bs : List Int) (st : Option (List Int)) : Prop :=
  match st with
  | some s => ∃ pos, ReaderAt w g A bs pos none ∧ bs.drop pos = s
  | none => ∃ pos er, ReaderAt w g A bs pos (some er)
theorem PR.fr {S : Nat → Prop} {w w' : World} {g : Nat} {A : Option Addr} {bs : List Int} {st : Option (List Int)} (h : PR w g A bs st) (hf : Fr S w w') (hg : ¬ S g) (hv : ∀ k o, A = some ⟨k, o, none⟩ → ¬ S k) : PR w' g A bs st := by
  cases st with
  | some s => obtain ⟨pos, h1, h2⟩ := h; exact ⟨pos, h1.fr hf hg hv, h2⟩
  | none => obtain ⟨pos, er, h1⟩ := h; exact ⟨pos, er, h1.fr hf hg hv⟩
theorem PR.keep {w w' : World} {g : Nat} {A : Option Addr} {bs : List Int} {st : Option (List Int)} (h : PR w g A bs st) (hf : Fr (fun _ => False) w w') : PR w' g A bs st := h.fr hf id (fun _ _ _ => id)
theorem PR.blk {w : World} {g : Nat} {A : Option Addr} {bs : List Int} {st : Option (List Int)} (h : PR w g A bs st) : ∃ cs, Blk w g 223 cs := by
  cases st with
  | some s => obtain ⟨pos, h1, h2⟩ := h; obtain ⟨_, _, _, _, hb⟩ := h1.blk; exact ⟨_, hb⟩
  | none => obtain ⟨pos, er, h1⟩ := h; obtain ⟨_, _, _, _, hb⟩ := h1.blk; exact ⟨_, hb⟩
/-- What reading a number does: ok says which there may be. -/
def NumStep (ok : Int → Prop) (st : Option (List Int)) (x : Int) (st' : Option (List Int)) : Prop :=
  match st with
  | none => st' = none ∧ x = 0
  | some s => (∃ t, s = num8 x ++ t ∧ ok x ∧ st' = some t) ∨ (st' = none ∧ x = 0 ∧ ∀ y t, ok y → s ≠ num8 y ++ t)
/-- What reading a text does. -/
def TextStep (st : Option (List Int)) (xs : List Int) (st' : Option (List Int)) : Prop :=
  match st with
  | none => st' = none ∧ xs = []
  | some s => (∃ t, s = textB xs ++ t ∧ xs.length ≤ 65536 ∧ st' = some t) ∨ (st' = none ∧ xs = [] ∧ ∀ ys t, ys.length ≤ 65536 → s ≠ textB ys ++ t)
def PNum (w : World) (g : Nat) (A : Option Addr) (bs : List Int) (ok : Int → Prop) (st : Option (List Int)) (e : Ending) (w' : World) : Prop :=
  ∃ x st', e = .returned (.int .i64 x) ∧ PR w' g A bs st' ∧ NumStep ok st x st' ∧ Fr (fun k => k = g) w w'
def PText (w : World) (g : Nat) (A : Option Addr) (bs : List Int) (st : Option (List Int)) (e : Ending) (w' : World) : Prop :=
  ∃ B cap xs st', e = .returned (.slice B xs.length cap) ∧ ByteRow w' (inA A) B xs ∧ Bytes8 xs ∧ PR w' g A bs st' ∧ TextStep st xs st' ∧ Fr (fun k => k = g) w w'
theorem pr_Num {w : World} {g : Nat} {A : Option Addr} {bs : List Int} {st : Option (List Int)} (h : PR w g A bs st) (hl : bs.length ≤ 1099511627776) (h8 : Bytes8 bs) :
    Calls Tryz.prog 103 #[.pointer (some ⟨g, 0, none⟩)] w (PNum w g A bs Wf64 st) := by
  cases st with
  | none =>
    obtain ⟨pos, er, h1⟩ := h
    refine (reader_Num h1 hl h8).mono ?_
    rintro e w' ⟨he, h2, hf⟩
    exact ⟨0, none, he, ⟨pos, er, h2⟩, ⟨rfl, rfl⟩, hf.mono (fun _ _ h => h.elim)⟩
  | some s =>
    obtain ⟨pos, h1, hd⟩ := h
    refine (reader_Num h1 hl h8).mono ?_
    rintro e w' (⟨hc, v, he, rfl, h2, hf⟩ | ⟨hc, he, ⟨p, h2⟩, hf⟩)
    · have hk := num_kept h8 hc
      rw [hd] at hk
      exact ⟨numX bs pos, some (bs.drop (pos + 8)), he, ⟨_, h2, rfl⟩, .inl ⟨_, hk, numX_wf _ _, rfl⟩, hf⟩
    · refine ⟨0, none, he, ⟨p, _, h2⟩, .inr ⟨rfl, rfl, fun y t hy e => ?_⟩, hf⟩
      exact hc (num_read (hd.trans e) hy.1 hy.2).1
theorem pr_Int {w : World} {g : Nat} {A : Option Addr} {bs : List Int} {st : Option (List Int)} (h : PR w g A bs st) (hl : bs.length ≤ 1099511627776) (h8 : Bytes8 bs) (most : Int) (hm : most ≤ 9223372036854775807) :
    Calls Tryz.prog 135 #[.pointer (some ⟨g, 0, none⟩), .int .i64 most] w (PNum w g A bs (fun x => 0 ≤ x ∧ x ≤ most) st) := by
  cases st with
  | none =>
    obtain ⟨pos, er, h1⟩ := h
    refine (reader_Int h1 hl most).mono ?_
    rintro e w' ⟨he, h2, hf⟩
    exact ⟨0, none, he, ⟨pos, er, h2⟩, ⟨rfl, rfl⟩, hf.mono (fun _ _ h => h.elim)⟩
  | some s =>
    obtain ⟨pos, h1, hd⟩ := h
    refine (reader_Int h1 hl most).mono ?_
    rintro e w' (⟨hc, v, he, rfl, h2, hf⟩ | ⟨hc, he, ⟨p, h2⟩, hf⟩)
    · have hn : numC bs pos = 0 ∧ 0 ≤ numX bs pos ∧ numX bs pos ≤ most := by
        unfold intC at hc
        split at hc
        · rename_i h1; exact absurd hc h1
        · rename_i h1
          split at hc
          · cases hc
          · split at hc
            · cases hc
            · exact ⟨by simpa using h1, by omega, by omega⟩
      have hk := num_kept h8 hn.1
      rw [hd] at hk
      exact ⟨numX bs pos, some (bs.drop (pos + 8)), he, ⟨_, h2, rfl⟩, .inl ⟨_, hk, hn.2, rfl⟩, hf⟩
    · refine ⟨0, none, he, ⟨p, _, h2⟩, .inr ⟨rfl, rfl, fun y t hy e => ?_⟩, hf⟩
      obtain ⟨h3, h4, _⟩ := num_read (hd.trans e) (by omega) (by omega)
      refine hc ?_
      unfold intC
      rw [if_neg (by simp [h3]), h4, if_neg (by omega), if_neg (by omega)]
theorem pr_Text {w : World} {g : Nat} {A : Option Addr} {bs : List Int} {st : Option (List Int)} (h : PR w g A bs st) (hl : bs.length ≤ 1099511627776) (h8 : Bytes8 bs) :
    Calls Tryz.prog 106 #[.pointer (some ⟨g, 0, none⟩)] w (PText w g A bs st) := by
  cases st with
  | none =>
    obtain ⟨pos, er, h1⟩ := h
    refine (reader_Text h1 hl h8).mono ?_
    rintro e w' ⟨he, h2, hf⟩
    exact ⟨none, 0, [], none, he, fun k x h => by simp at h, fun y h => by simp at h, ⟨pos, er, h2⟩, ⟨rfl, rfl⟩, hf.mono (fun _ _ h => h.elim)⟩
  | some s =>
    obtain ⟨pos, h1, hd⟩ := h
    refine (reader_Text h1 hl h8).mono ?_
    rintro e w' (⟨hc, v, he, ⟨B, cap, rfl, hrow⟩, h2, hf⟩ | ⟨hc, he, ⟨p, h2⟩, hf⟩)
    · obtain ⟨hk, _, hk3⟩ := text_kept h8 hc
      rw [hd] at hk
      refine ⟨B, cap, textX bs pos, some _, he, hrow, ?_, ⟨_, h2, rfl⟩, .inl ⟨_, hk, hk3, rfl⟩, hf⟩
      intro y hy
      unfold textX at hy
      exact h8 y (List.mem_of_mem_drop (List.mem_of_mem_take hy))
    · refine ⟨none, 0, [], none, he, fun k x h => by simp at h, fun y h => by simp at h, ⟨p, _, h2⟩, .inr ⟨rfl, rfl, fun ys t hy e => ?_⟩, hf⟩
      exact hc (text_read (hd.trans e) hy).1
theorem pr_End {w : World} {g : Nat} {A : Option Addr} {bs : List Int} {st : Option (List Int)} (h : PR w g A bs st) (hl : bs.length ≤ 1099511627776) :
    Calls Tryz.prog 110 #[.pointer (some ⟨g, 0, none⟩)] w (fun e w' => ∃ err, e = .returned (errO err) ∧ (err = none ↔ st = some []) ∧ Fr (fun _ => False) w w') := by
  cases st with
  | none =>
    obtain ⟨pos, er, h1⟩ := h
    refine (reader_End h1 hl).mono ?_
    rintro e w' ⟨he, hf⟩
    exact ⟨_, he, by simp [endE], hf⟩
  | some s =>
    obtain ⟨pos, h1, hd⟩ := h
    refine (reader_End h1 hl).mono ?_
    rintro e w' ⟨he, hf⟩
    have hle := h1.le
    have hlen : bs.length - pos = s.length := by rw [← hd, List.length_drop]
    refine ⟨_, he, ?_, hf⟩
    unfold endE
    dsimp only
    cases s with
    | nil => simp at hlen; simp; omega
    | cons a b => simp at hlen; simp; omega
theorem pr_New {w : World} {F : Nat → Prop} {A : Option Addr} {bs : List Int} {cap : Nat} (hr : ByteRow w F A bs) (hl : bs.length ≤ 1099511627776) :
    Calls Tryz.prog 102 #[.slice A bs.length cap] w (fun e w' => ∃ g A', e = .returned (.pointer (some ⟨g, 0, none⟩)) ∧ PR w' g A' bs (some bs) ∧ w.heap.size ≤ g ∧ (∀ k o, A' = some ⟨k, o, none⟩ → w.heap.size ≤ k) ∧ Fr (fun _ => False) w w') := by
  refine (wire_New hr hl).mono ?_
  rintro e w' ⟨g, A', he, h1, h2, h3, hf⟩
  exact ⟨g, A', he, ⟨0, h1, rfl⟩, h2, h3, hf⟩
end Go.Proofs.YtmkdhhhoodeemaaGreat

/- txn.Get: its closures. -/
namespace Go.Proofs.YtmkdhhhoodeemaaGreat
open Go Go.RowKit
/-- What reading one does. -/
def ReadStep (st : Option (List Int)) (x : ByteArray × Int) (st' : Option (List Int)) : Prop := ∃ st1, TextStep st (bytesOf x.1) st1 ∧ NumStep Wf64 st1 x.2 st'
set_option maxRecDepth 100000 in
set_option maxHeartbeats 1000000 in
theorem txn_1_one {w : World} {g b : Nat} {A : Option Addr} {bs : List Int} {st : Option (List Int)} (h : PR w g A bs st) (hl : bs.length ≤ 1099511627776) (h8 : Bytes8 bs) (hb : w.cell? ⟨b, 0, none⟩ = some (.pointer (some ⟨g, 0, none⟩))) (hbg : b ≠ g) (hA : ∀ k o, A = some ⟨k, o, none⟩ → k < w.heap.size ∧ k ≠ g) :
    Calls Tryz.prog 105 #[.pointer (some ⟨b, 0, none⟩)] w (fun e w' => ∃ x st', e = .returned (.agg #[.string x.1, .int .i64 x.2]) ∧ PR w' g A bs st' ∧ ReadStep st x st' ∧ Fr (fun k => k = g) w w') := by
  have hf0 : Fr (fun _ => False) w (w.alloc (Obj.cells #[.string ⟨#[]⟩, .int .i64 0] 143)) := (Fr.refl _ _).alloc _
  have hX0 := Blk.new w 143 #[.string ⟨#[]⟩, .int .i64 0]
  have h0 := h.keep hf0
  have hb0 := hf0.cell_some hb id
  have hgl : g < w.heap.size := by obtain ⟨cs, hB⟩ := h.blk; exact hB.lt
  have hbl := block_lt_of_cell hb
  have H := Lib.hid (pr_Text h0 hl h8)
  have HA := Lib.hid hA
  clear h hb h0 hA
  go_enter Tryz.func105, Tryz.ntmps105
  go_upto_region 1 with fail
  generalize w.alloc (Obj.cells #[.string ⟨#[]⟩, .int .i64 0] 143) = w0 at *
  go_upto_region 2 with (go_at_call 106; refine H.out.mono ?_; rintro e w1 ⟨B1, c1, x1, st1, rfl, hr1, b81, h1, s1, hf1⟩; have hcv := conv_bytes (w := w1) (n := x1.length) (cap := c1) hr1 rfl)
  have hX1 := hX0.fr hf1 (fun e => by omega)
  have hf01 : Fr (fun k => k = g) w w1 := (hf0.mono (fun _ _ h => h.elim)).trans hf1 (fun _ _ h => h)
  have hfa := (Fr.refl (fun _ => False) w1).alloc (Obj.cells #[.string (strOfNums x1), .int .i64 0] 143)
  have hX2 := hX1.fr hfa id
  have hY2 := Blk.new w1 143 #[.string (strOfNums x1), .int .i64 0]
  have h2 := h1.keep hfa
  have hb2 : (w1.alloc (Obj.cells #[.string (strOfNums x1), .int .i64 0] 143)).cell? ⟨b, 0, none⟩ = some (.pointer (some ⟨g, 0, none⟩)) := hfa.cell_some (hf1.cell_some hb0 hbg) id
  have hf02 := hf01.then_ hfa
  have e1 : bytesOf (strOfNums x1) = x1 := bytesOf_strOf (fun y hy => by have := b81 y hy; omega)
  have hw1 : w.heap.size < w1.heap.size := hX1.lt
  obtain ⟨gy, hgy⟩ : ∃ q, Hid (w1.heap.size = q) := ⟨_, rfl⟩
  rw [hgy.out] at hY2 hw1 ⊢
  generalize w1.alloc (Obj.cells #[.string (strOfNums x1), .int .i64 0] 143) = w2 at *
  clear H hX0 hX1 h1 hf1 hfa hb0 hcv hr1 b81 hf0 hf01
  have H := Lib.hid (pr_Num h2 hl h8)
  go_upto_region 3 with (go_at_call 103; refine H.out.mono ?_; rintro e w3 ⟨x2, st2, rfl, h3, s2, hf3⟩; have hY3 := hY2.fr hf3 (fun e => by omega); have y := hY3.cell 1; have z := hY3.frozen 1)
  have hX3 := hX2.fr hf3 (fun e => by omega)
  have hf03 := hf02.trans hf3 (fun _ _ h => h)
  have hS : Fr (fun k => k = gy) w3 (w3.setCell ⟨gy, 1, none⟩ (.int .i64 x2)) := (Fr.refl (fun k => k = gy) w3).setCell (p := ⟨gy, 1, none⟩) (fun _ => rfl) _
  have h4 := h3.fr hS (fun e => by omega) (fun k o e he => by have := (HA.out k o e).1; omega)
  have hY4 : Blk (w3.setCell ⟨gy, 1, none⟩ (.int .i64 x2)) gy 143 #[.string (strOfNums x1), .int .i64 x2] := hY3.set_ 1 _
  have hX4 := hX3.fr hS (fun e => by omega)
  have hf04 : Fr (fun k => k = g) w (w3.setCell ⟨gy, 1, none⟩ (.int .i64 x2)) := hf03.setCell (p := ⟨gy, 1, none⟩) (fun h => absurd h (by dsimp only; omega)) _
  generalize w3.setCell ⟨gy, 1, none⟩ (.int .i64 x2) = w4 at *
  clear H hX2 hX3 hY2 hY3 h2 h3 hf02 hf03 hf3 hb2 y z hS
  go_wp2_with (first
    | (refine wpList_load_row rfl 143 _ rfl _ rfl _ _ (0, 0) _ hY4 Tryz.underlying143 rfl (by kernel_rfl) ?_)
    | (refine wpList_store_row rfl 143 (.tmp 1) (.tmp 10) rfl w.heap.size #[.string (strOfNums x1), .int .i64 x2] rfl rfl 143 _ hX4 (by kernel_rfl) rfl (by simp [Value.oneCell']) ?_))
  have hX5 := Blk.setRow_ (ds := #[.string (strOfNums x1), .int .i64 x2]) hX4
  have hS := Fr.setRow_ (w := w4) (g := w.heap.size) (ds := #[.string (strOfNums x1), .int .i64 x2])
  have h5 := h4.fr hS (fun e => by omega) (fun k o e he => by have := (HA.out k o e).1; omega)
  have hf5 := hf04.trans hS (fun k hk e => by omega)
  generalize w4.setRow w.heap.size #[.string (strOfNums x1), .int .i64 x2] = w5 at *
  refine bodyPost_ret (v := .agg #[.string (strOfNums x1), .int .i64 x2]) (results_cell_row Tryz.results105 _ w5 w.heap.size 143 #[.string (strOfNums x1), .int .i64 x2] (0, 0) _ rfl hX5 Tryz.underlying143 rfl (by kernel_rfl)) rfl ?_
  exact ⟨(strOfNums x1, x2), st2, rfl, h5, ⟨st1, by rw [show bytesOf (strOfNums x1) = x1 from e1]; exact s1, s2⟩, hf5⟩
/-- What reading one does. -/
def WriteStep (st : Option (List Int)) (x : ByteArray × ByteArray) (st' : Option (List Int)) : Prop := ∃ st1, TextStep st (bytesOf x.1) st1 ∧ TextStep st1 (bytesOf x.2) st'
set_option maxRecDepth 100000 in
set_option maxHeartbeats 1000000 in
theorem txn_2_one {w : World} {g b : Nat} {A : Option Addr} {bs : List Int} {st : Option (List Int)} (h : PR w g A bs st) (hl : bs.length ≤ 1099511627776) (h8 : Bytes8 bs) (hb : w.cell? ⟨b, 0, none⟩ = some (.pointer (some ⟨g, 0, none⟩))) (hbg : b ≠ g) (hA : ∀ k o, A = some ⟨k, o, none⟩ → k < w.heap.size ∧ k ≠ g) :
    Calls Tryz.prog 108 #[.pointer (some ⟨b, 0, none⟩)] w (fun e w' => ∃ x st', e = .returned (.agg #[.string x.1, .string x.2]) ∧ PR w' g A bs st' ∧ WriteStep st x st' ∧ Fr (fun k => k = g) w w') := by
  have hf0 : Fr (fun _ => False) w (w.alloc (Obj.cells #[.string ⟨#[]⟩, .string ⟨#[]⟩] 84)) := (Fr.refl _ _).alloc _
  have hX0 := Blk.new w 84 #[.string ⟨#[]⟩, .string ⟨#[]⟩]
  have h0 := h.keep hf0
  have hb0 := hf0.cell_some hb id
  have hgl : g < w.heap.size := by obtain ⟨cs, hB⟩ := h.blk; exact hB.lt
  have hbl := block_lt_of_cell hb
  have H := Lib.hid (pr_Text h0 hl h8)
  have HA := Lib.hid hA
  clear h hb h0 hA
  go_enter Tryz.func108, Tryz.ntmps108
  go_upto_region 1 with fail
  generalize w.alloc (Obj.cells #[.string ⟨#[]⟩, .string ⟨#[]⟩] 84) = w0 at *
  go_upto_region 2 with (go_at_call 106; refine H.out.mono ?_; rintro e w1 ⟨B1, c1, x1, st1, rfl, hr1, b81, h1, s1, hf1⟩; have hcv := conv_bytes (w := w1) (n := x1.length) (cap := c1) hr1 rfl)
  have hX1 := hX0.fr hf1 (fun e => by omega)
  have hf01 : Fr (fun k => k = g) w w1 := (hf0.mono (fun _ _ h => h.elim)).trans hf1 (fun _ _ h => h)
  have hfa := (Fr.refl (fun _ => False) w1).alloc (Obj.cells #[.string (strOfNums x1), .string ⟨#[]⟩] 84)
  have hX2 := hX1.fr hfa id
  have hY2 := Blk.new w1 84 #[.string (strOfNums x1), .string ⟨#[]⟩]
  have h2 := h1.keep hfa
  have hb2 : (w1.alloc (Obj.cells #[.string (strOfNums x1), .string ⟨#[]⟩] 84)).cell? ⟨b, 0, none⟩ = some (.pointer (some ⟨g, 0, none⟩)) := hfa.cell_some (hf1.cell_some hb0 hbg) id
  have hf02 := hf01.then_ hfa
  have e1 : bytesOf (strOfNums x1) = x1 := bytesOf_strOf (fun y hy => by have := b81 y hy; omega)
  have hw1 : w.heap.size < w1.heap.size := hX1.lt
  obtain ⟨gy, hgy⟩ : ∃ q, Hid (w1.heap.size = q) := ⟨_, rfl⟩
  rw [hgy.out] at hY2 hw1 ⊢
  generalize w1.alloc (Obj.cells #[.string (strOfNums x1), .string ⟨#[]⟩] 84) = w2 at *
  clear H hX0 hX1 h1 hf1 hfa hb0 hcv hr1 b81 hf0 hf01
  have H := Lib.hid (pr_Text h2 hl h8)
  go_upto_region 3 with (go_at_call 106; refine H.out.mono ?_; rintro e w3 ⟨B2, c2, x2, st2, rfl, hr2, b82, h3, s2, hf3⟩; have hcv := conv_bytes (w := w3) (n := x2.length) (cap := c2) hr2 rfl; have hY3 := hY2.fr hf3 (fun e => by omega); have y := hY3.cell 1; have z := hY3.frozen 1)
  have e2 : bytesOf (strOfNums x2) = x2 := bytesOf_strOf (fun y hy => by have := b82 y hy; omega)
  have hX3 := hX2.fr hf3 (fun e => by omega)
  have hf03 := hf02.trans hf3 (fun _ _ h => h)
  have hS : Fr (fun k => k = gy) w3 (w3.setCell ⟨gy, 1, none⟩ (.string (strOfNums x2))) := (Fr.refl (fun k => k = gy) w3).setCell (p := ⟨gy, 1, none⟩) (fun _ => rfl) _
  have h4 := h3.fr hS (fun e => by omega) (fun k o e he => by have := (HA.out k o e).1; omega)
  have hY4 : Blk (w3.setCell ⟨gy, 1, none⟩ (.string (strOfNums x2))) gy 84 #[.string (strOfNums x1), .string (strOfNums x2)] := hY3.set_ 1 _
  have hX4 := hX3.fr hS (fun e => by omega)
  have hf04 : Fr (fun k => k = g) w (w3.setCell ⟨gy, 1, none⟩ (.string (strOfNums x2))) := hf03.setCell (p := ⟨gy, 1, none⟩) (fun h => absurd h (by dsimp only; omega)) _
  generalize w3.setCell ⟨gy, 1, none⟩ (.string (strOfNums x2)) = w4 at *
  clear H hX2 hX3 hY2 hY3 h2 h3 hf02 hf03 hf3 hb2 y z hS
  go_wp2_with (first
    | (refine wpList_load_row rfl 84 _ rfl _ rfl _ _ (0, 0) _ hY4 Tryz.underlying84 rfl (by kernel_rfl) ?_)
    | (refine wpList_store_row rfl 84 (.tmp 1) (.tmp 11) rfl w.heap.size #[.string (strOfNums x1), .string (strOfNums x2)] rfl rfl 84 _ hX4 (by kernel_rfl) rfl (by simp [Value.oneCell']) ?_))
  have hX5 := Blk.setRow_ (ds := #[.string (strOfNums x1), .string (strOfNums x2)]) hX4
  have hS := Fr.setRow_ (w := w4) (g := w.heap.size) (ds := #[.string (strOfNums x1), .string (strOfNums x2)])
  have h5 := h4.fr hS (fun e => by omega) (fun k o e he => by have := (HA.out k o e).1; omega)
  have hf5 := hf04.trans hS (fun k hk e => by omega)
  generalize w4.setRow w.heap.size #[.string (strOfNums x1), .string (strOfNums x2)] = w5 at *
  refine bodyPost_ret (v := .agg #[.string (strOfNums x1), .string (strOfNums x2)]) (results_cell_row Tryz.results108 _ w5 w.heap.size 84 #[.string (strOfNums x1), .string (strOfNums x2)] (0, 0) _ rfl hX5 Tryz.underlying84 rfl (by kernel_rfl)) rfl ?_
  exact ⟨(strOfNums x1, strOfNums x2), st2, rfl, h5, ⟨st1, by rw [show bytesOf (strOfNums x1) = x1 from e1]; exact s1, by rw [show bytesOf (strOfNums x2) = x2 from e2]; exact s2⟩, hf5⟩
/-- What reading some does. -/
def ReadsStep : Option (List Int) → List (ByteArray × Int) → Option (List Int) → Prop
  | st, [], st' => st' = st
  | st, x :: R, st' => ∃ st1, ReadStep st x st1 ∧ ReadsStep st1 R st'
theorem ReadsStep.snoc : ∀ {R : List (ByteArray × Int)} {st st1 st2 : Option (List Int)} {x : ByteArray × Int}, ReadsStep st R st1 → ReadStep st1 x st2 → ReadsStep st (R ++ [x]) st2
  | [], _, _, _, _, h, h2 => by cases (show _ = _ from h); exact ⟨_, h2, rfl⟩
  | y :: R, _, _, _, _, h, h2 => by obtain ⟨s1, h3, h4⟩ := h; exact ⟨s1, h3, h4.snoc h2⟩
def ReadsOut (w : World) (g : Nat) (A : Option Addr) (bs : List Int) (st : Option (List Int)) (e : Ending) (w' : World) : Prop := ∃ v R st1 st', e = .returned v ∧ w'.ownsRow w.heap.size 143 2 v R.length (readsV R) ∧ R.length ≤ 8 ∧ PR w' g A bs st' ∧ NumStep (fun x => 0 ≤ x ∧ x ≤ 8) st (R.length : Int) st1 ∧ ReadsStep st1 R st' ∧ Fr (fun k => k = g) w w'
set_option maxRecDepth 100000 in
set_option maxHeartbeats 1000000 in
theorem txn_some_Read {w : World} {g b : Nat} {A : Option Addr} {bs : List Int} {st : Option (List Int)} (h : PR w g A bs st) (hl : bs.length ≤ 1099511627776) (h8 : Bytes8 bs) (hb : w.cell? ⟨b, 0, none⟩ = some (.pointer (some ⟨g, 0, none⟩))) (hbg : b ≠ g) (hA : ∀ k o, A = some ⟨k, o, none⟩ → k < w.heap.size ∧ k ≠ g) :
    Calls Tryz.prog 104 #[.pointer (some ⟨g, 0, none⟩), .func (.func 105) #[] #[.pointer (some ⟨b, 0, none⟩)]] w (ReadsOut w g A bs st) := by
  have H := Lib.hid (pr_Int h hl h8 8 (by omega))
  have HA := Lib.hid hA
  have hgl : g < w.heap.size := by obtain ⟨cs, hB⟩ := h.blk; exact hB.lt
  have hbl := block_lt_of_cell hb
  have hinf := read_info
  clear h hA
  go_enter Tryz.func104, Tryz.ntmps104
  go_upto_region 3 with (go_at_call 135; refine H.out.mono ?_; rintro e w1 ⟨n, st1, rfl, h1, s1, hf1⟩)
  have hn : 0 ≤ n ∧ n ≤ 8 := by
    cases st with
    | none => obtain ⟨_, rfl⟩ := s1; omega
    | some s => rcases s1 with ⟨t, _, h, _⟩ | ⟨_, rfl, _⟩ <;> omega
  obtain ⟨m, rfl⟩ := Int.eq_ofNat_of_zero_le hn.1
  have hb1 := hf1.cell_some hb hbg
  have S1 := Lib.hid s1
  clear H s1
  go_loopw [5, 6] (fun lv i wr => ∃ (R : List (ByteArray × Int)) (st2 : Option (List Int)), R.length ≤ m ∧ i = .int .i64 ((m : Int) - (R.length : Int)) ∧ wr.ownsRow w1.heap.size 143 2 lv R.length (readsV R) ∧ PR wr g A bs st2 ∧ Hid (ReadsStep st1 R st2) ∧ Fr (fun k => k = g) w1 wr) (fun _ i _ => (intOf i).toNat)
  case atStart => exact ⟨[], st1, by simp, by simp, World.ownsRow_nil _ _ _ _, h1, rfl, Fr.refl _ _⟩
  case round =>
    clear h1
    obtain ⟨R, st2, hR, rfl, hown, h2, s2, hf⟩ := hrel
    by_cases hlt : R.length < m
    · have q1 : (0 : Int) < (m : Int) - (R.length : Int) := by omega
      have q2 : wrap64 ((m : Int) - (R.length : Int) - 1) = (m : Int) - (R.length : Int) - 1 := by unfold wrap64; omega
      have q2 := Lib.hid q2
      have hbr := hf.cell_some hb1 hbg
      have hsz := hf.size
      have hsz1 := hf1.size
      have HO := Lib.hid (txn_1_one h2 hl h8 hbr hbg (fun k o e => ⟨by have := (HA.out k o e).1; omega, (HA.out k o e).2⟩))
      go_wp2_with (first
        | (go_at_call 105; refine HO.out.mono ?_; rintro e w3 ⟨x, st3, rfl, h3, s3, hf3⟩; have hown3 := own_fr hown hf3 (fun q hq e => by obtain ⟨ds, hD⟩ := h2.blk; exact own_ne_blk hown hD (by decide) (e ▸ hq)); have hz3 : w1.heap.size ≤ w3.heap.size := (hf.trans hf3 (fun _ _ h => h)).size)
        | (at_builtin; refine wpList_append_el _ rfl _ _ 26 rfl w1.heap.size 143 _ 2 24 Tryz.underlying26 hinf rfl (by decide) _ R.length (readsV R) rfl (own_fr hown3 ((Fr.refl (fun _ => False) w3).alloc _) (fun _ _ => id)) w3.heap.size [.string x.1, .int .i64 x.2] rfl rfl (cell_two w3 _ _ _) (by simp [Value.oneCell']) (by omega) (by decide) (by simp; omega) ?_; intro g' c' w4 hown4 hf4))
      have hfa := (Fr.refl (fun _ => False) w3).alloc (Obj.cells #[.string x.1, .int .i64 x.2] 143)
      have ho3a := own_fr hown3 hfa (fun _ _ => id)
      have h4 : PR w4 g A bs st3 := by
        obtain ⟨ds, hD⟩ := (h3.keep hfa).blk
        exact (h3.keep hfa).fr hf4 (own_ne_blk ho3a hD (by decide)) (fun k o e he => by have := own_ge ho3a k he; have := (HA.out k o e).1; omega)
      have hf14 : Fr (fun k => k = g) w1 w4 := ((hf.trans hf3 (fun _ _ h => h)).then_ hfa).trans hf4 (fun q hq e => by have := own_ge ho3a q e; omega)
      go_roundw
      case rel =>
        refine ⟨R ++ [x], st3, by simp; omega, by simp; omega, ?_, h4, s2.out.snoc s3, hf14⟩
        rw [show readsV (R ++ [x]) = readsV R ++ [.string x.1, .int .i64 x.2] by simp [readsV]]
        simpa using hown4
      case measure => simp [intOf]; omega
    · have q1 : ¬ (0 : Int) < (m : Int) - (R.length : Int) := by omega
      have hm : R.length = m := by omega
      go_wp2
      go_ret
      refine ⟨_, R, st1, st2, rfl, own_base hown hf1.size, by omega, h2, ?_, s2.out, hf1.trans hf (fun _ _ h => h)⟩
      rw [hm]
      exact S1.out
/-- What reading some does. -/
def WritesStep : Option (List Int) → List (ByteArray × ByteArray) → Option (List Int) → Prop
  | st, [], st' => st' = st
  | st, x :: R, st' => ∃ st1, WriteStep st x st1 ∧ WritesStep st1 R st'
theorem WritesStep.snoc : ∀ {R : List (ByteArray × ByteArray)} {st st1 st2 : Option (List Int)} {x : ByteArray × ByteArray}, WritesStep st R st1 → WriteStep st1 x st2 → WritesStep st (R ++ [x]) st2
  | [], _, _, _, _, h, h2 => by cases (show _ = _ from h); exact ⟨_, h2, rfl⟩
  | y :: R, _, _, _, _, h, h2 => by obtain ⟨s1, h3, h4⟩ := h; exact ⟨s1, h3, h4.snoc h2⟩
def WritesOut (w : World) (g : Nat) (A : Option Addr) (bs : List Int) (st : Option (List Int)) (e : Ending) (w' : World) : Prop := ∃ v R st1 st', e = .returned v ∧ w'.ownsRow w.heap.size 84 2 v R.length (writesV R) ∧ R.length ≤ 8 ∧ PR w' g A bs st' ∧ NumStep (fun x => 0 ≤ x ∧ x ≤ 8) st (R.length : Int) st1 ∧ WritesStep st1 R st' ∧ Fr (fun k => k = g) w w'
set_option maxRecDepth 100000 in
set_option maxHeartbeats 1000000 in
theorem txn_some_Write {w : World} {g b : Nat} {A : Option Addr} {bs : List Int} {st : Option (List Int)} (h : PR w g A bs st) (hl : bs.length ≤ 1099511627776) (h8 : Bytes8 bs) (hb : w.cell? ⟨b, 0, none⟩ = some (.pointer (some ⟨g, 0, none⟩))) (hbg : b ≠ g) (hA : ∀ k o, A = some ⟨k, o, none⟩ → k < w.heap.size ∧ k ≠ g) :
    Calls Tryz.prog 107 #[.pointer (some ⟨g, 0, none⟩), .func (.func 108) #[] #[.pointer (some ⟨b, 0, none⟩)]] w (WritesOut w g A bs st) := by
  have H := Lib.hid (pr_Int h hl h8 8 (by omega))
  have HA := Lib.hid hA
  have hgl : g < w.heap.size := by obtain ⟨cs, hB⟩ := h.blk; exact hB.lt
  have hbl := block_lt_of_cell hb
  have hinf := write_info
  clear h hA
  go_enter Tryz.func107, Tryz.ntmps107
  go_upto_region 3 with (go_at_call 135; refine H.out.mono ?_; rintro e w1 ⟨n, st1, rfl, h1, s1, hf1⟩)
  have hn : 0 ≤ n ∧ n ≤ 8 := by
    cases st with
    | none => obtain ⟨_, rfl⟩ := s1; omega
    | some s => rcases s1 with ⟨t, _, h, _⟩ | ⟨_, rfl, _⟩ <;> omega
  obtain ⟨m, rfl⟩ := Int.eq_ofNat_of_zero_le hn.1
  have hb1 := hf1.cell_some hb hbg
  have S1 := Lib.hid s1
  clear H s1
  go_loopw [5, 6] (fun lv i wr => ∃ (R : List (ByteArray × ByteArray)) (st2 : Option (List Int)), R.length ≤ m ∧ i = .int .i64 ((m : Int) - (R.length : Int)) ∧ wr.ownsRow w1.heap.size 84 2 lv R.length (writesV R) ∧ PR wr g A bs st2 ∧ Hid (WritesStep st1 R st2) ∧ Fr (fun k => k = g) w1 wr) (fun _ i _ => (intOf i).toNat)
  case atStart => exact ⟨[], st1, by simp, by simp, World.ownsRow_nil _ _ _ _, h1, rfl, Fr.refl _ _⟩
  case round =>
    clear h1
    obtain ⟨R, st2, hR, rfl, hown, h2, s2, hf⟩ := hrel
    by_cases hlt : R.length < m
    · have q1 : (0 : Int) < (m : Int) - (R.length : Int) := by omega
      have q2 : wrap64 ((m : Int) - (R.length : Int) - 1) = (m : Int) - (R.length : Int) - 1 := by unfold wrap64; omega
      have q2 := Lib.hid q2
      have hbr := hf.cell_some hb1 hbg
      have hsz := hf.size
      have hsz1 := hf1.size
      have HO := Lib.hid (txn_2_one h2 hl h8 hbr hbg (fun k o e => ⟨by have := (HA.out k o e).1; omega, (HA.out k o e).2⟩))
      go_wp2_with (first
        | (go_at_call 108; refine HO.out.mono ?_; rintro e w3 ⟨x, st3, rfl, h3, s3, hf3⟩; have hown3 := own_fr hown hf3 (fun q hq e => by obtain ⟨ds, hD⟩ := h2.blk; exact own_ne_blk hown hD (by decide) (e ▸ hq)); have hz3 : w1.heap.size ≤ w3.heap.size := (hf.trans hf3 (fun _ _ h => h)).size)
        | (at_builtin; refine wpList_append_el _ rfl _ _ 27 rfl w1.heap.size 84 _ 2 32 Tryz.underlying27 hinf rfl (by decide) _ R.length (writesV R) rfl (own_fr hown3 ((Fr.refl (fun _ => False) w3).alloc _) (fun _ _ => id)) w3.heap.size [.string x.1, .string x.2] rfl rfl (cell_two w3 _ _ _) (by simp [Value.oneCell']) (by omega) (by decide) (by simp; omega) ?_; intro g' c' w4 hown4 hf4))
      have hfa := (Fr.refl (fun _ => False) w3).alloc (Obj.cells #[.string x.1, .string x.2] 84)
      have ho3a := own_fr hown3 hfa (fun _ _ => id)
      have h4 : PR w4 g A bs st3 := by
        obtain ⟨ds, hD⟩ := (h3.keep hfa).blk
        exact (h3.keep hfa).fr hf4 (own_ne_blk ho3a hD (by decide)) (fun k o e he => by have := own_ge ho3a k he; have := (HA.out k o e).1; omega)
      have hf14 : Fr (fun k => k = g) w1 w4 := ((hf.trans hf3 (fun _ _ h => h)).then_ hfa).trans hf4 (fun q hq e => by have := own_ge ho3a q e; omega)
      go_roundw
      case rel =>
        refine ⟨R ++ [x], st3, by simp; omega, by simp; omega, ?_, h4, s2.out.snoc s3, hf14⟩
        rw [show writesV (R ++ [x]) = writesV R ++ [.string x.1, .string x.2] by simp [writesV]]
        simpa using hown4
      case measure => simp [intOf]; omega
    · have q1 : ¬ (0 : Int) < (m : Int) - (R.length : Int) := by omega
      have hm : R.length = m := by omega
      go_wp2
      go_ret
      refine ⟨_, R, st1, st2, rfl, own_base hown hf1.size, by omega, h2, ?_, s2.out, hf1.trans hf (fun _ _ h => h)⟩
      rw [hm]
      exact S1.out
end Go.Proofs.YtmkdhhhoodeemaaGreat
