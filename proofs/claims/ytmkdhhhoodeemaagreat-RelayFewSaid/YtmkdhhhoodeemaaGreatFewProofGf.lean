/- Parts of the proof, joined. -/
import Derived.Deep.WholeRow
import Derived.BigQuiet
import Derived.Test.YtmkdhhhoodeemaaGreatFewProofGa
import Derived.Test.YtmkdhhhoodeemaaGreatFewProofGb
import Derived.Test.YtmkdhhhoodeemaaGreatFewProofGc
import Derived.Test.YtmkdhhhoodeemaaGreatFewProofGd
import Derived.Test.YtmkdhhhoodeemaaGreatFewProofGe
set_option linter.unusedVariables false
set_option linter.unusedSimpArgs false
/- say: the texts of a client's order. -/
namespace Go.Proofs.YtmkdhhhoodeemaaGreat
open Go Go.RowKit
attribute [local go_sem ↓] run_neqSay run_eqlSay
set_option maxRecDepth 100000 in
set_option maxHeartbeats 2000000 in
theorem say_texts_begin {w : World} {A B : Option Addr} {nr nw cr cw : Nat} {c n : Int} {s : SayD} {bC : Nat} {C : Option Addr} {cx : Nat} {xs : List Int} {G D : Int} (hC : IntRow w bC C xs) (hbC : bC ≤ w.heap.size) (hxl : xs.length ≤ 1024) (hgetok : getOk (num8 G ++ num8 D ++ numsB xs)) {bs : List Int} (hbs : num8 G ++ num8 D ++ numsB xs = bs) {nm sz : Bool} {b0 b1 : List Int} {r0 r1 : Value}
    (hsz : zeroSay s = !sz)
    (h0 : ∀ w', Fr (fun _ => False) w w' → Calls Tryz.prog 148 #[.bool nm, .agg #[.int .i64 c, .int .i64 n, .slice A nr cr, .slice B nw cw], .func (.func 149) #[] #[]] w' (PutP w' b0 r0))
    (h1 : ∀ w', Fr (fun _ => False) w w' → Calls Tryz.prog 150 #[.bool sz, .agg #[.int .i64 s.kind, .int .i64 s.txn, .bool s.yes, .string s.from_, .string s.to_, .int .i64 s.epoch, .int .i64 s.shard, .int .i64 s.target, .int .i64 s.root], .func (.func 77) #[] #[]] w' (PutP w' b1 r1))
    (hr0 : r0 = .nilIface) (hr1 : r1 = .nilIface) (hnm : nm = true) (hno : ∀ w', Fr (fun _ => False) w w' → Calls Tryz.prog 155 #[.agg #[.int .i64 c, .int .i64 n, .slice A nr cr, .slice B nw cw]] w' (OkB w' false)) :
    Calls Tryz.prog 123 #[.agg #[.int .i64 6, .int .i64 c, .int .i64 n, .slice A nr cr, .slice B nw cw, .int .i64 s.kind, .int .i64 s.txn, .bool s.yes, .string s.from_, .string s.to_, .int .i64 s.epoch, .int .i64 s.shard, .int .i64 s.target, .int .i64 s.root, .int .i64 G, .int .i64 D, .slice C xs.length cx, .int .i64 0, .int .i64 0, .slice none 0 0, .slice none 0 0]] w (fun e w' => ∃ v0 v1 v2, e = .returned (.tuple #[.agg #[v0, v1, v2], .bool true]) ∧ Own8 w' w.heap.size v0 b0 ∧ Own8 w' w.heap.size v1 b1 ∧ Own8 w' w.heap.size v2 bs ∧ Fr (fun _ => False) w w') := by
  have H0 := Lib.hid h0
  have H1 := Lib.hid h1
  have HC := Lib.hid hC
  have HG := hgetok
  rw [hbs] at HG
  have HG := Lib.hid HG
  have HBS := Lib.hid hbs
  have H8 : Hid (Bytes8 bs) := by show Bytes8 bs; rw [← hbs]; exact cert_bytes G D xs
  have HBL : Hid (bs.length ≤ 9000) := by show _ ≤ _; rw [← hbs]; exact cert_len hxl
  have HXL := Lib.hid hxl
  have HBC := Lib.hid hbC
  clear h0 h1 hC hgetok hxl hbC hbs
  have hf0 : Fr (fun _ => False) w ((((w.alloc (Obj.cells #[.int .i64 6, .int .i64 c, .int .i64 n, .slice A nr cr, .slice B nw cw, .int .i64 s.kind, .int .i64 s.txn, .bool s.yes, .string s.from_, .string s.to_, .int .i64 s.epoch, .int .i64 s.shard, .int .i64 s.target, .int .i64 s.root, .int .i64 G, .int .i64 D, .slice C xs.length cx, .int .i64 0, .int .i64 0, .slice none 0 0, .slice none 0 0] 62)).alloc (Obj.cells #[.slice none 0 0, .slice none 0 0, .slice none 0 0] 214)).alloc (Obj.cells #[.slice none 0 0, .slice none 0 0, .slice none 0 0] 214)).alloc (Obj.cells #[.nilIface, .nilIface, .nilIface, .nilIface] 233)) := ((((Fr.refl _ _).alloc _).alloc _).alloc _).alloc _
  have hO0 : Blk ((((w.alloc (Obj.cells #[.int .i64 6, .int .i64 c, .int .i64 n, .slice A nr cr, .slice B nw cw, .int .i64 s.kind, .int .i64 s.txn, .bool s.yes, .string s.from_, .string s.to_, .int .i64 s.epoch, .int .i64 s.shard, .int .i64 s.target, .int .i64 s.root, .int .i64 G, .int .i64 D, .slice C xs.length cx, .int .i64 0, .int .i64 0, .slice none 0 0, .slice none 0 0] 62)).alloc (Obj.cells #[.slice none 0 0, .slice none 0 0, .slice none 0 0] 214)).alloc (Obj.cells #[.slice none 0 0, .slice none 0 0, .slice none 0 0] 214)).alloc (Obj.cells #[.nilIface, .nilIface, .nilIface, .nilIface] 233)) w.heap.size 62 #[.int .i64 6, .int .i64 c, .int .i64 n, .slice A nr cr, .slice B nw cw, .int .i64 s.kind, .int .i64 s.txn, .bool s.yes, .string s.from_, .string s.to_, .int .i64 s.epoch, .int .i64 s.shard, .int .i64 s.target, .int .i64 s.root, .int .i64 G, .int .i64 D, .slice C xs.length cx, .int .i64 0, .int .i64 0, .slice none 0 0, .slice none 0 0] := (((Blk.new w _ _).alloc _).alloc _).alloc _
  have hR0 : Blk ((((w.alloc (Obj.cells #[.int .i64 6, .int .i64 c, .int .i64 n, .slice A nr cr, .slice B nw cw, .int .i64 s.kind, .int .i64 s.txn, .bool s.yes, .string s.from_, .string s.to_, .int .i64 s.epoch, .int .i64 s.shard, .int .i64 s.target, .int .i64 s.root, .int .i64 G, .int .i64 D, .slice C xs.length cx, .int .i64 0, .int .i64 0, .slice none 0 0, .slice none 0 0] 62)).alloc (Obj.cells #[.slice none 0 0, .slice none 0 0, .slice none 0 0] 214)).alloc (Obj.cells #[.slice none 0 0, .slice none 0 0, .slice none 0 0] 214)).alloc (Obj.cells #[.nilIface, .nilIface, .nilIface, .nilIface] 233)) (w.heap.size + 1) 214 #[.slice none 0 0, .slice none 0 0, .slice none 0 0] := ((Blk.new_ _ _ _ (by simp)).alloc _).alloc _
  have hL0 : Blk ((((w.alloc (Obj.cells #[.int .i64 6, .int .i64 c, .int .i64 n, .slice A nr cr, .slice B nw cw, .int .i64 s.kind, .int .i64 s.txn, .bool s.yes, .string s.from_, .string s.to_, .int .i64 s.epoch, .int .i64 s.shard, .int .i64 s.target, .int .i64 s.root, .int .i64 G, .int .i64 D, .slice C xs.length cx, .int .i64 0, .int .i64 0, .slice none 0 0, .slice none 0 0] 62)).alloc (Obj.cells #[.slice none 0 0, .slice none 0 0, .slice none 0 0] 214)).alloc (Obj.cells #[.slice none 0 0, .slice none 0 0, .slice none 0 0] 214)).alloc (Obj.cells #[.nilIface, .nilIface, .nilIface, .nilIface] 233)) (w.heap.size + 1 + 1) 214 #[.slice none 0 0, .slice none 0 0, .slice none 0 0] := (Blk.new_ _ _ _ (by simp)).alloc _
  have hE0 : Blk ((((w.alloc (Obj.cells #[.int .i64 6, .int .i64 c, .int .i64 n, .slice A nr cr, .slice B nw cw, .int .i64 s.kind, .int .i64 s.txn, .bool s.yes, .string s.from_, .string s.to_, .int .i64 s.epoch, .int .i64 s.shard, .int .i64 s.target, .int .i64 s.root, .int .i64 G, .int .i64 D, .slice C xs.length cx, .int .i64 0, .int .i64 0, .slice none 0 0, .slice none 0 0] 62)).alloc (Obj.cells #[.slice none 0 0, .slice none 0 0, .slice none 0 0] 214)).alloc (Obj.cells #[.slice none 0 0, .slice none 0 0, .slice none 0 0] 214)).alloc (Obj.cells #[.nilIface, .nilIface, .nilIface, .nilIface] 233)) (w.heap.size + 1 + 1 + 1) 233 #[.nilIface, .nilIface, .nilIface, .nilIface] := Blk.new_ _ _ _ (by simp)
  have hz0 : w.heap.size + 4 ≤ ((((w.alloc (Obj.cells #[.int .i64 6, .int .i64 c, .int .i64 n, .slice A nr cr, .slice B nw cw, .int .i64 s.kind, .int .i64 s.txn, .bool s.yes, .string s.from_, .string s.to_, .int .i64 s.epoch, .int .i64 s.shard, .int .i64 s.target, .int .i64 s.root, .int .i64 G, .int .i64 D, .slice C xs.length cx, .int .i64 0, .int .i64 0, .slice none 0 0, .slice none 0 0] 62)).alloc (Obj.cells #[.slice none 0 0, .slice none 0 0, .slice none 0 0] 214)).alloc (Obj.cells #[.slice none 0 0, .slice none 0 0, .slice none 0 0] 214)).alloc (Obj.cells #[.nilIface, .nilIface, .nilIface, .nilIface] 233)).heap.size := by simp
  subst hr0 hr1 hnm
  have HN := Lib.hid hno
  clear hno
  go_enter Tryz.func123, Tryz.ntmps123
  go_upto_region 4 with fail
  generalize ((((w.alloc (Obj.cells #[.int .i64 6, .int .i64 c, .int .i64 n, .slice A nr cr, .slice B nw cw, .int .i64 s.kind, .int .i64 s.txn, .bool s.yes, .string s.from_, .string s.to_, .int .i64 s.epoch, .int .i64 s.shard, .int .i64 s.target, .int .i64 s.root, .int .i64 G, .int .i64 D, .slice C xs.length cx, .int .i64 0, .int .i64 0, .slice none 0 0, .slice none 0 0] 62)).alloc (Obj.cells #[.slice none 0 0, .slice none 0 0, .slice none 0 0] 214)).alloc (Obj.cells #[.slice none 0 0, .slice none 0 0, .slice none 0 0] 214)).alloc (Obj.cells #[.nilIface, .nilIface, .nilIface, .nilIface] 233)) = w0 at *
  have k1 := hO0.cell 1
  have k2 := hO0.cell 2
  have k3 := hO0.cell 3
  have k4 := hO0.cell 4
  go_upto_region 5 with (first | (go_at_call 148; refine (H0.out _ hf0).mono ?_; rintro e w1 ⟨v0, rfl, hv01, hf1⟩; obtain ⟨A0, c0, rfl, _, _⟩ := hv01.form; have hf01 := hf0.then_ hf1; have hL1 := hL0.fr hf1 id; have hE1 := hE0.fr hf1 id; have hO1 := hO0.fr hf1 id; have hR1 := hR0.fr hf1 id; have l0 := hL1.cell 0; have lf := hL1.frozen 0; have e0 := hE1.cell 0; have ef := hE1.frozen 0))
  have hO2 : Blk ((w1.setCell ⟨w.heap.size + 1 + 1, 0, none⟩ (Value.slice A0 b0.length c0)).setCell ⟨w.heap.size + 1 + 1 + 1, 0, none⟩ .nilIface) _ _ _ := ((hO1.far (fun h => by (try dsimp only at h); omega) _).far (fun h => by (try dsimp only at h); omega) _)
  have hR2 : Blk ((w1.setCell ⟨w.heap.size + 1 + 1, 0, none⟩ (Value.slice A0 b0.length c0)).setCell ⟨w.heap.size + 1 + 1 + 1, 0, none⟩ .nilIface) _ _ _ := ((hR1.far (fun h => by (try dsimp only at h); omega) _).far (fun h => by (try dsimp only at h); omega) _)
  have hL2 : Blk ((w1.setCell ⟨w.heap.size + 1 + 1, 0, none⟩ (Value.slice A0 b0.length c0)).setCell ⟨w.heap.size + 1 + 1 + 1, 0, none⟩ .nilIface) _ _ _ := ((hL1.set_ 0 _).far (fun h => by (try dsimp only at h); omega) _)
  have hE2 : Blk ((w1.setCell ⟨w.heap.size + 1 + 1, 0, none⟩ (Value.slice A0 b0.length c0)).setCell ⟨w.heap.size + 1 + 1 + 1, 0, none⟩ .nilIface) _ _ _ := ((hE1.far (fun h => by (try dsimp only at h); omega) _).set_ 0 _)
  have hf02 : Fr (fun _ => False) w ((w1.setCell ⟨w.heap.size + 1 + 1, 0, none⟩ (Value.slice A0 b0.length c0)).setCell ⟨w.heap.size + 1 + 1 + 1, 0, none⟩ .nilIface) := ((hf01.setCell (p := ⟨w.heap.size + 1 + 1, 0, none⟩) (fun h => absurd h (by dsimp only; omega)) _).setCell (p := ⟨w.heap.size + 1 + 1 + 1, 0, none⟩) (fun h => absurd h (by dsimp only; omega)) _)
  have hv02 : Own8 ((w1.setCell ⟨w.heap.size + 1 + 1, 0, none⟩ (Value.slice A0 b0.length c0)).setCell ⟨w.heap.size + 1 + 1 + 1, 0, none⟩ .nilIface) _ _ _ := hv01.fr (((Fr.refl (fun k => k = (w.heap.size + 1 + 1 + 1) ∨ k = (w.heap.size + 1 + 1)) w1).setCell (p := ⟨w.heap.size + 1 + 1, 0, none⟩) (fun _ => Or.inr rfl) _).setCell (p := ⟨w.heap.size + 1 + 1 + 1, 0, none⟩) (fun _ => Or.inl rfl) _) (fun k hk h => h.elim (fun h => hv01.ne_blk hE1 (by decide) (by rw [← h]; exact hk)) (fun h => hv01.ne_blk hL1 (by decide) (by rw [← h]; exact hk)))
  generalize ((w1.setCell ⟨w.heap.size + 1 + 1, 0, none⟩ (Value.slice A0 b0.length c0)).setCell ⟨w.heap.size + 1 + 1 + 1, 0, none⟩ .nilIface) = w2 at *
  have k5 := hO2.cell 5
  have k6 := hO2.cell 6
  have k7 := hO2.cell 7
  have k8 := hO2.cell 8
  have k9 := hO2.cell 9
  have k10 := hO2.cell 10
  have k11 := hO2.cell 11
  have k12 := hO2.cell 12
  have k13 := hO2.cell 13
  have hf02d : Fr (fun _ => False) w w2.drew := hf02.drew
  refine wp_region_noPanic ?_
  refine wp_region_held_drew (S := (fun w' => w'.cell? ⟨w.heap.size, 5, none⟩ = some (.int .i64 s.kind) ∧ w'.cell? ⟨w.heap.size, 6, none⟩ = some (.int .i64 s.txn) ∧ w'.cell? ⟨w.heap.size, 7, none⟩ = some (.bool s.yes) ∧ w'.cell? ⟨w.heap.size, 8, none⟩ = some (.string s.from_) ∧ w'.cell? ⟨w.heap.size, 9, none⟩ = some (.string s.to_) ∧ w'.cell? ⟨w.heap.size, 10, none⟩ = some (.int .i64 s.epoch) ∧ w'.cell? ⟨w.heap.size, 11, none⟩ = some (.int .i64 s.shard) ∧ w'.cell? ⟨w.heap.size, 12, none⟩ = some (.int .i64 s.target) ∧ w'.cell? ⟨w.heap.size, 13, none⟩ = some (.int .i64 s.root))) (by kernel_rfl) (⟨k5, k6, k7, k8, k9, k10, k11, k12, k13⟩) (fun hHeld => ?_)
  refine wpAnyH_takeAt (i := 0) (v := ?vb0) (some 26) rfl rfl (by kernel_rfl) (by kernel_rfl) (by kernel_rfl) (fun _ _ _ h => h) (Or.inl ⟨by rfl, ?hyb0⟩) (by assumption) ?restb0
  case hyb0 => (intro w hSw; (try dsimp only at hSw); go_simp; all_goals with_reducible rfl)
  simp only [Act.put, List.setIfInBounds_toArray, List.set_cons_zero, List.set_cons_succ]
  refine wpAnyH_takeAt (i := 1) (v := ?vb1) (some 27) rfl rfl (by kernel_rfl) (by kernel_rfl) (by kernel_rfl) (fun _ _ _ h => h) (Or.inl ⟨by rfl, ?hyb1⟩) (by assumption) ?restb1
  case hyb1 => (intro w hSw; (try dsimp only at hSw); go_simp; all_goals with_reducible rfl)
  simp only [Act.put, List.setIfInBounds_toArray, List.set_cons_zero, List.set_cons_succ]
  refine wpAnyH_takeAt (i := 2) (v := ?vb2) (some 28) rfl rfl (by kernel_rfl) (by kernel_rfl) (by kernel_rfl) (fun _ _ _ h => h) (Or.inl ⟨by rfl, ?hyb2⟩) (by assumption) ?restb2
  case hyb2 => (intro w hSw; (try dsimp only at hSw); go_simp; all_goals with_reducible rfl)
  simp only [Act.put, List.setIfInBounds_toArray, List.set_cons_zero, List.set_cons_succ]
  refine wpAnyH_takeAt (i := 3) (v := ?vb3) (some 29) rfl rfl (by kernel_rfl) (by kernel_rfl) (by kernel_rfl) (fun _ _ _ h => h) (Or.inl ⟨by rfl, ?hyb3⟩) (by assumption) ?restb3
  case hyb3 => (intro w hSw; (try dsimp only at hSw); go_simp; all_goals with_reducible rfl)
  simp only [Act.put, List.setIfInBounds_toArray, List.set_cons_zero, List.set_cons_succ]
  refine wpAnyH_takeAt (i := 4) (v := ?vb4) (some 30) rfl rfl (by kernel_rfl) (by kernel_rfl) (by kernel_rfl) (fun _ _ _ h => h) (Or.inl ⟨by rfl, ?hyb4⟩) (by assumption) ?restb4
  case hyb4 => (intro w hSw; (try dsimp only at hSw); go_simp; all_goals with_reducible rfl)
  simp only [Act.put, List.setIfInBounds_toArray, List.set_cons_zero, List.set_cons_succ]
  refine wpAnyH_takeAt (i := 5) (v := ?vb5) (some 31) rfl rfl (by kernel_rfl) (by kernel_rfl) (by kernel_rfl) (fun _ _ _ h => h) (Or.inl ⟨by rfl, ?hyb5⟩) (by assumption) ?restb5
  case hyb5 => (intro w hSw; (try dsimp only at hSw); go_simp; all_goals with_reducible rfl)
  simp only [Act.put, List.setIfInBounds_toArray, List.set_cons_zero, List.set_cons_succ]
  refine wpAnyH_ready (rs := [6]) (by kernel_rfl) (by simp) ?_
  refine AllReadyH.cons rfl (fun K hK => ?_) AllReadyH.nil
  go_simp
  go_at_call 150
  refine (H1.out _ hf02d).mono ?_
  rintro e w3 ⟨v1, rfl, hv13, hf3⟩
  obtain ⟨A1, c1, rfl, _, _⟩ := hv13.form
  have hf3 : Fr (fun _ => False) w2 w3 := ((Fr.refl (fun _ => False) w2).drew).trans hf3 (fun _ _ h => h)
  have hO3 := hO2.fr hf3 id
  have hR3 := hR2.fr hf3 id
  have hL3 := hL2.fr hf3 id
  have hE3 := hE2.fr hf3 id
  have hv03 := hv02.fr hf3 (fun _ _ => id)
  have hf03 := hf02.then_ hf3
  have lc1 := hL3.cell 1
  have ec1 := hE3.cell 1
  have lf := hL3.frozen 1
  have ef := hE3.frozen 1
  try go_wp2_with fail
  refine hK.out _ _ (⟨hO3.cell 5, hO3.cell 6, hO3.cell 7, hO3.cell 8, hO3.cell 9, hO3.cell 10, hO3.cell 11, hO3.cell 12, hO3.cell 13⟩) (fun hHeld => ?_)
  clear hK K
  refine wpAnyH_takeAt (i := 7) (v := ?vb7) (some 25) rfl rfl (by kernel_rfl) (by kernel_rfl) (by kernel_rfl) (fun _ _ _ h => h) (Or.inl ⟨by rfl, ?hyb7⟩) (by assumption) ?restb7
  case hyb7 => (intro w hSw; (try dsimp only at hSw); go_simp; all_goals with_reducible rfl)
  simp only [Act.put, List.setIfInBounds_toArray, List.set_cons_zero, List.set_cons_succ]
  refine wpAnyH_takeAt (i := 8) (v := ?vb8) (some 33) rfl rfl (by kernel_rfl) (by kernel_rfl) (by kernel_rfl) (fun _ _ _ h => h) (Or.inl ⟨by rfl, ?hyb8⟩) (by assumption) ?restb8
  case hyb8 => (intro w hSw; (try dsimp only at hSw); go_simp; all_goals with_reducible rfl)
  simp only [Act.put, List.setIfInBounds_toArray, List.set_cons_zero, List.set_cons_succ]
  refine wpAnyH_takeAt (i := 9) (v := ?vb9) (some 34) rfl rfl (by kernel_rfl) (by kernel_rfl) (by kernel_rfl) (fun _ _ _ h => h) (Or.inl ⟨by rfl, ?hyb9⟩) (by assumption) ?restb9
  case hyb9 => (intro w hSw; (try dsimp only at hSw); go_simp; all_goals with_reducible rfl)
  simp only [Act.put, List.setIfInBounds_toArray, List.set_cons_zero, List.set_cons_succ]
  refine wpAnyH_takeAt (i := 10) (v := ?vb10) (some 35) rfl rfl (by kernel_rfl) (by kernel_rfl) (by kernel_rfl) (fun _ _ _ h => h) (Or.inl ⟨by rfl, ?hyb10⟩) (by assumption) ?restb10
  case hyb10 => (intro w hSw; (try dsimp only at hSw); go_simp; all_goals with_reducible rfl)
  simp only [Act.put, List.setIfInBounds_toArray, List.set_cons_zero, List.set_cons_succ]
  refine wpAnyH_ready (rs := [11]) (by kernel_rfl) (by simp) ?_
  refine AllReadyH.cons rfl (fun K hK => ?_) AllReadyH.nil
  go_simp
  refine hK.out _ _ (⟨(hO3.far (fun h => by (try dsimp only at h); omega) _).cell 5, (hO3.far (fun h => by (try dsimp only at h); omega) _).cell 6, (hO3.far (fun h => by (try dsimp only at h); omega) _).cell 7, (hO3.far (fun h => by (try dsimp only at h); omega) _).cell 8, (hO3.far (fun h => by (try dsimp only at h); omega) _).cell 9, (hO3.far (fun h => by (try dsimp only at h); omega) _).cell 10, (hO3.far (fun h => by (try dsimp only at h); omega) _).cell 11, (hO3.far (fun h => by (try dsimp only at h); omega) _).cell 12, (hO3.far (fun h => by (try dsimp only at h); omega) _).cell 13⟩) (fun hHeld => ?_)
  clear hK K
  refine wpAnyH_takeAt (i := 12) (v := ?vb12) (some 36) rfl rfl (by kernel_rfl) (by kernel_rfl) (by kernel_rfl) (fun _ _ _ h => h) (Or.inl ⟨by rfl, ?hyb12⟩) (by assumption) ?restb12
  case hyb12 => (intro w hSw; (try dsimp only at hSw); go_simp; all_goals with_reducible rfl)
  simp only [Act.put, List.setIfInBounds_toArray, List.set_cons_zero, List.set_cons_succ]
  refine wpAnyH_ready (rs := [13]) (by kernel_rfl) (by simp) ?_
  refine AllReadyH.cons rfl (fun K hK => ?_) AllReadyH.nil
  go_simp
  refine hK.out _ _ (⟨((hO3.far (fun h => by (try dsimp only at h); omega) _).far (fun h => by (try dsimp only at h); omega) _).cell 5, ((hO3.far (fun h => by (try dsimp only at h); omega) _).far (fun h => by (try dsimp only at h); omega) _).cell 6, ((hO3.far (fun h => by (try dsimp only at h); omega) _).far (fun h => by (try dsimp only at h); omega) _).cell 7, ((hO3.far (fun h => by (try dsimp only at h); omega) _).far (fun h => by (try dsimp only at h); omega) _).cell 8, ((hO3.far (fun h => by (try dsimp only at h); omega) _).far (fun h => by (try dsimp only at h); omega) _).cell 9, ((hO3.far (fun h => by (try dsimp only at h); omega) _).far (fun h => by (try dsimp only at h); omega) _).cell 10, ((hO3.far (fun h => by (try dsimp only at h); omega) _).far (fun h => by (try dsimp only at h); omega) _).cell 11, ((hO3.far (fun h => by (try dsimp only at h); omega) _).far (fun h => by (try dsimp only at h); omega) _).cell 12, ((hO3.far (fun h => by (try dsimp only at h); omega) _).far (fun h => by (try dsimp only at h); omega) _).cell 13⟩) (fun hHeld => ?_)
  clear hK K
  refine wpAnyH_done (by kernel_rfl) ?_ _
  refine NoPanic.normal ?_
  have hO4 : Blk ((w3.setCell ⟨w.heap.size + 1 + 1, 1, none⟩ (Value.slice A1 b1.length c1)).setCell ⟨w.heap.size + 1 + 1 + 1, 1, none⟩ .nilIface) _ _ _ := ((hO3.far (fun h => by (try dsimp only at h); omega) _).far (fun h => by (try dsimp only at h); omega) _)
  have hR4 : Blk ((w3.setCell ⟨w.heap.size + 1 + 1, 1, none⟩ (Value.slice A1 b1.length c1)).setCell ⟨w.heap.size + 1 + 1 + 1, 1, none⟩ .nilIface) _ _ _ := ((hR3.far (fun h => by (try dsimp only at h); omega) _).far (fun h => by (try dsimp only at h); omega) _)
  have hL4 : Blk ((w3.setCell ⟨w.heap.size + 1 + 1, 1, none⟩ (Value.slice A1 b1.length c1)).setCell ⟨w.heap.size + 1 + 1 + 1, 1, none⟩ .nilIface) _ _ _ := ((hL3.set_ 1 _).far (fun h => by (try dsimp only at h); omega) _)
  have hE4 : Blk ((w3.setCell ⟨w.heap.size + 1 + 1, 1, none⟩ (Value.slice A1 b1.length c1)).setCell ⟨w.heap.size + 1 + 1 + 1, 1, none⟩ .nilIface) _ _ _ := ((hE3.far (fun h => by (try dsimp only at h); omega) _).set_ 1 _)
  have hf04 : Fr (fun _ => False) w ((w3.setCell ⟨w.heap.size + 1 + 1, 1, none⟩ (Value.slice A1 b1.length c1)).setCell ⟨w.heap.size + 1 + 1 + 1, 1, none⟩ .nilIface) := ((hf03.setCell (p := ⟨w.heap.size + 1 + 1, 1, none⟩) (fun h => absurd h (by dsimp only; omega)) _).setCell (p := ⟨w.heap.size + 1 + 1 + 1, 1, none⟩) (fun h => absurd h (by dsimp only; omega)) _)
  have hv04 : Own8 ((w3.setCell ⟨w.heap.size + 1 + 1, 1, none⟩ (Value.slice A1 b1.length c1)).setCell ⟨w.heap.size + 1 + 1 + 1, 1, none⟩ .nilIface) _ _ _ := hv03.fr (((Fr.refl (fun k => k = (w.heap.size + 1 + 1 + 1) ∨ k = (w.heap.size + 1 + 1)) w3).setCell (p := ⟨w.heap.size + 1 + 1, 1, none⟩) (fun _ => Or.inr rfl) _).setCell (p := ⟨w.heap.size + 1 + 1 + 1, 1, none⟩) (fun _ => Or.inl rfl) _) (fun k hk h => h.elim (fun h => hv03.ne_blk hE3 (by decide) (by rw [← h]; exact hk)) (fun h => hv03.ne_blk hL3 (by decide) (by rw [← h]; exact hk)))
  have hv14 : Own8 ((w3.setCell ⟨w.heap.size + 1 + 1, 1, none⟩ (Value.slice A1 b1.length c1)).setCell ⟨w.heap.size + 1 + 1 + 1, 1, none⟩ .nilIface) _ _ _ := hv13.fr (((Fr.refl (fun k => k = (w.heap.size + 1 + 1 + 1) ∨ k = (w.heap.size + 1 + 1)) w3).setCell (p := ⟨w.heap.size + 1 + 1, 1, none⟩) (fun _ => Or.inr rfl) _).setCell (p := ⟨w.heap.size + 1 + 1 + 1, 1, none⟩) (fun _ => Or.inl rfl) _) (fun k hk h => h.elim (fun h => hv13.ne_blk hE3 (by decide) (by rw [← h]; exact hk)) (fun h => hv13.ne_blk hL3 (by decide) (by rw [← h]; exact hk)))
  generalize ((w3.setCell ⟨w.heap.size + 1 + 1, 1, none⟩ (Value.slice A1 b1.length c1)).setCell ⟨w.heap.size + 1 + 1 + 1, 1, none⟩ .nilIface) = w4 at *
  have k14 := hO4.cell 14
  have k15 := hO4.cell 15
  have k16 := hO4.cell 16
  have HP : Hid (Calls Tryz.prog 151 #[.agg #[.int .i64 G, .int .i64 D, .slice C xs.length cx]] w4 (PutP w4 bs .nilIface)) := (cert_Put (cap := cx) (HC.out.fr hf04 (fun _ _ => id)) (Nat.le_trans HBC.out hf04.size) (by have := HXL.out; omega) G D).mono fun _ _ h => HBS.out ▸ putP_of HXL.out h
  go_upto_region 7 with (first | (go_at_call 151; refine HP.out.mono ?_; rintro e w5 ⟨v2, rfl, hv25, hf5⟩; obtain ⟨A2, c2, rfl, _, _⟩ := hv25.form; have hO5 := hO4.fr hf5 id; have hR5 := hR4.fr hf5 id; have hL5 := hL4.fr hf5 id; have hE5 := hE4.fr hf5 id; have hv05 := hv04.fr hf5 (fun _ _ => id); have hv15 := hv14.fr hf5 (fun _ _ => id); have hf05 := hf04.then_ hf5; have lc := hL5.cell 2; have lf := hL5.frozen 2; have ec := hE5.cell 2; have ef := hE5.frozen 2))
  have hO6 : Blk ((w5.setCell ⟨w.heap.size + 1 + 1, 2, none⟩ (Value.slice A2 bs.length c2)).setCell ⟨w.heap.size + 1 + 1 + 1, 2, none⟩ Value.nilIface) _ _ _ := ((hO5.far (fun h => by (try dsimp only at h); omega) _).far (fun h => by (try dsimp only at h); omega) _)
  have hR6 : Blk ((w5.setCell ⟨w.heap.size + 1 + 1, 2, none⟩ (Value.slice A2 bs.length c2)).setCell ⟨w.heap.size + 1 + 1 + 1, 2, none⟩ Value.nilIface) _ _ _ := ((hR5.far (fun h => by (try dsimp only at h); omega) _).far (fun h => by (try dsimp only at h); omega) _)
  have hL6 : Blk ((w5.setCell ⟨w.heap.size + 1 + 1, 2, none⟩ (Value.slice A2 bs.length c2)).setCell ⟨w.heap.size + 1 + 1 + 1, 2, none⟩ Value.nilIface) _ _ _ := ((hL5.set_ 2 _).far (fun h => by (try dsimp only at h); omega) _)
  have hE6 : Blk ((w5.setCell ⟨w.heap.size + 1 + 1, 2, none⟩ (Value.slice A2 bs.length c2)).setCell ⟨w.heap.size + 1 + 1 + 1, 2, none⟩ Value.nilIface) _ _ _ := ((hE5.far (fun h => by (try dsimp only at h); omega) _).set_ 2 _)
  have hf06 : Fr (fun _ => False) w ((w5.setCell ⟨w.heap.size + 1 + 1, 2, none⟩ (Value.slice A2 bs.length c2)).setCell ⟨w.heap.size + 1 + 1 + 1, 2, none⟩ Value.nilIface) := ((hf05.setCell (p := ⟨w.heap.size + 1 + 1, 2, none⟩) (fun h => absurd h (by dsimp only; omega)) _).setCell (p := ⟨w.heap.size + 1 + 1 + 1, 2, none⟩) (fun h => absurd h (by dsimp only; omega)) _)
  have hv06 : Own8 ((w5.setCell ⟨w.heap.size + 1 + 1, 2, none⟩ (Value.slice A2 bs.length c2)).setCell ⟨w.heap.size + 1 + 1 + 1, 2, none⟩ Value.nilIface) _ _ _ := hv05.fr (((Fr.refl (fun k => k = (w.heap.size + 1 + 1 + 1) ∨ k = (w.heap.size + 1 + 1)) w5).setCell (p := ⟨w.heap.size + 1 + 1, 2, none⟩) (fun _ => Or.inr rfl) _).setCell (p := ⟨w.heap.size + 1 + 1 + 1, 2, none⟩) (fun _ => Or.inl rfl) _) (fun k hk h => h.elim (fun h => hv05.ne_blk hE5 (by decide) (by rw [← h]; exact hk)) (fun h => hv05.ne_blk hL5 (by decide) (by rw [← h]; exact hk)))
  have hv16 : Own8 ((w5.setCell ⟨w.heap.size + 1 + 1, 2, none⟩ (Value.slice A2 bs.length c2)).setCell ⟨w.heap.size + 1 + 1 + 1, 2, none⟩ Value.nilIface) _ _ _ := hv15.fr (((Fr.refl (fun k => k = (w.heap.size + 1 + 1 + 1) ∨ k = (w.heap.size + 1 + 1)) w5).setCell (p := ⟨w.heap.size + 1 + 1, 2, none⟩) (fun _ => Or.inr rfl) _).setCell (p := ⟨w.heap.size + 1 + 1 + 1, 2, none⟩) (fun _ => Or.inl rfl) _) (fun k hk h => h.elim (fun h => hv15.ne_blk hE5 (by decide) (by rw [← h]; exact hk)) (fun h => hv15.ne_blk hL5 (by decide) (by rw [← h]; exact hk)))
  have hv26 : Own8 ((w5.setCell ⟨w.heap.size + 1 + 1, 2, none⟩ (Value.slice A2 bs.length c2)).setCell ⟨w.heap.size + 1 + 1 + 1, 2, none⟩ Value.nilIface) _ _ _ := hv25.fr (((Fr.refl (fun k => k = (w.heap.size + 1 + 1 + 1) ∨ k = (w.heap.size + 1 + 1)) w5).setCell (p := ⟨w.heap.size + 1 + 1, 2, none⟩) (fun _ => Or.inr rfl) _).setCell (p := ⟨w.heap.size + 1 + 1 + 1, 2, none⟩) (fun _ => Or.inl rfl) _) (fun k hk h => h.elim (fun h => hv25.ne_blk hE5 (by decide) (by rw [← h]; exact hk)) (fun h => hv25.ne_blk hL5 (by decide) (by rw [← h]; exact hk)))
  generalize ((w5.setCell ⟨w.heap.size + 1 + 1, 2, none⟩ (Value.slice A2 bs.length c2)).setCell ⟨w.heap.size + 1 + 1 + 1, 2, none⟩ Value.nilIface) = w6 at *
  have ec := hE6.cell 2
  have lc := hL6.cell 2
  obtain ⟨_, _, hve, _, hrow⟩ := hv26.form
  cases hve
  have HGET := Lib.hid (cert_Get (cap := c2) hrow (by have := HBL.out; omega) H8.out)
  clear hrow
  go_upto_region 9 with (first | (go_at_call 152; refine HGET.out.mono ?_; rintro e w7 hg7; obtain ⟨x3, rfl, hf7⟩ := get_fine HG.out hg7; have hO7 := hO6.fr hf7 id; have hR7 := hR6.fr hf7 id; have hL7 := hL6.fr hf7 id; have hE7 := hE6.fr hf7 id; have hv07 := hv06.fr hf7 (fun _ _ => id); have hv17 := hv16.fr hf7 (fun _ _ => id); have hv27 := hv26.fr hf7 (fun _ _ => id); have hf07 := hf06.then_ hf7; have ec := hE7.cell 3; have ef := hE7.frozen 3))
  have hO8 : Blk (w7.setCell ⟨w.heap.size + 1 + 1 + 1, 3, none⟩ Value.nilIface) _ _ _ := (hO7.far (fun h => by (try dsimp only at h); omega) _)
  have hR8 : Blk (w7.setCell ⟨w.heap.size + 1 + 1 + 1, 3, none⟩ Value.nilIface) _ _ _ := (hR7.far (fun h => by (try dsimp only at h); omega) _)
  have hL8 : Blk (w7.setCell ⟨w.heap.size + 1 + 1 + 1, 3, none⟩ Value.nilIface) _ _ _ := (hL7.far (fun h => by (try dsimp only at h); omega) _)
  have hE8 : Blk (w7.setCell ⟨w.heap.size + 1 + 1 + 1, 3, none⟩ Value.nilIface) _ _ _ := (hE7.set_ 3 _)
  have hf08 : Fr (fun _ => False) w (w7.setCell ⟨w.heap.size + 1 + 1 + 1, 3, none⟩ Value.nilIface) := (hf07.setCell (p := ⟨w.heap.size + 1 + 1 + 1, 3, none⟩) (fun h => absurd h (by dsimp only; omega)) _)
  have hv08 : Own8 (w7.setCell ⟨w.heap.size + 1 + 1 + 1, 3, none⟩ Value.nilIface) _ _ _ := hv07.fr ((Fr.refl (fun k => k = (w.heap.size + 1 + 1 + 1)) w7).setCell (p := ⟨w.heap.size + 1 + 1 + 1, 3, none⟩) (fun _ => rfl) _) (fun k hk h => hv07.ne_blk hE7 (by decide) (by rw [← h]; exact hk))
  have hv18 : Own8 (w7.setCell ⟨w.heap.size + 1 + 1 + 1, 3, none⟩ Value.nilIface) _ _ _ := hv17.fr ((Fr.refl (fun k => k = (w.heap.size + 1 + 1 + 1)) w7).setCell (p := ⟨w.heap.size + 1 + 1 + 1, 3, none⟩) (fun _ => rfl) _) (fun k hk h => hv17.ne_blk hE7 (by decide) (by rw [← h]; exact hk))
  have hv28 : Own8 (w7.setCell ⟨w.heap.size + 1 + 1 + 1, 3, none⟩ Value.nilIface) _ _ _ := hv27.fr ((Fr.refl (fun k => k = (w.heap.size + 1 + 1 + 1)) w7).setCell (p := ⟨w.heap.size + 1 + 1 + 1, 3, none⟩) (fun _ => rfl) _) (fun k hk h => hv27.ne_blk hE7 (by decide) (by rw [← h]; exact hk))
  generalize (w7.setCell ⟨w.heap.size + 1 + 1 + 1, 3, none⟩ Value.nilIface) = w8 at *
  have HER : Hid (ErrRow w8 (w.heap.size + 1 + 1 + 1) [.nilIface, .nilIface, .nilIface, .nilIface]) := err_row hE8 (.inl rfl) (.inl rfl) (.inl rfl) (.inl rfl)
  go_upto_region 10 with (first | (go_at_call 153; refine (containsErr (cap := 4) (z := false) rfl HER.out (by simp)).mono ?_; rintro e w9 ⟨rfl, rfl⟩))
  have hf08d : Fr (fun _ => False) w w8.drew := hf08.drew
  refine wp_region_noPanic ?_
  refine wp_region_held_drew (S := (fun w' => w'.cell? ⟨w.heap.size, 0, none⟩ = some (.int .i64 6) ∧ w'.cell? ⟨w.heap.size, 1, none⟩ = some (.int .i64 c) ∧ w'.cell? ⟨w.heap.size, 2, none⟩ = some (.int .i64 n) ∧ w'.cell? ⟨w.heap.size, 3, none⟩ = some (.slice A nr cr) ∧ w'.cell? ⟨w.heap.size, 4, none⟩ = some (.slice B nw cw) ∧ w'.cell? ⟨w.heap.size, 17, none⟩ = some (.int .i64 0) ∧ w'.cell? ⟨w.heap.size, 18, none⟩ = some (.int .i64 0) ∧ w'.cell? ⟨w.heap.size, 19, none⟩ = some (.slice none 0 0) ∧ w'.cell? ⟨w.heap.size, 20, none⟩ = some (.slice none 0 0) ∧ w'.cell? ⟨w.heap.size + 1 + 1, 0, none⟩ = some ((Value.slice A0 b0.length c0)) ∧ w'.cell? ⟨w.heap.size + 1 + 1, 1, none⟩ = some ((Value.slice A1 b1.length c1)) ∧ w'.cell? ⟨w.heap.size + 1 + 1, 2, none⟩ = some ((Value.slice A2 bs.length c2)))) (by kernel_rfl) (⟨hO8.cell 0, hO8.cell 1, hO8.cell 2, hO8.cell 3, hO8.cell 4, hO8.cell 17, hO8.cell 18, hO8.cell 19, hO8.cell 20, hL8.cell 0, hL8.cell 1, hL8.cell 2⟩) (fun hHeld => ?_)
  refine wpAnyH_takeAt (i := 0) (v := ?vc0) (some 57) rfl rfl (by kernel_rfl) (by kernel_rfl) (by kernel_rfl) (fun _ _ _ h => h) (Or.inl ⟨by rfl, ?hyc0⟩) (by assumption) ?restc0
  case hyc0 => (intro w hSw; (try dsimp only at hSw); go_simp; all_goals with_reducible rfl)
  simp only [Act.put, List.setIfInBounds_toArray, List.set_cons_zero, List.set_cons_succ]
  refine wpAnyH_takeAt (i := 1) (v := ?vc1) (some 58) rfl rfl (by kernel_rfl) (by kernel_rfl) (by kernel_rfl) (fun _ _ _ h => h) (Or.inl ⟨by rfl, ?hyc1⟩) (by assumption) ?restc1
  case hyc1 => (intro w hSw; (try dsimp only at hSw); go_simp; all_goals with_reducible rfl)
  simp only [Act.put, List.setIfInBounds_toArray, List.set_cons_zero, List.set_cons_succ]
  refine wpAnyH_takeAt (i := 2) (v := ?vc2) (some 59) rfl rfl (by kernel_rfl) (by kernel_rfl) (by kernel_rfl) (fun _ _ _ h => h) (Or.inl ⟨by rfl, ?hyc2⟩) (by assumption) ?restc2
  case hyc2 => (intro w hSw; (try dsimp only at hSw); go_simp; all_goals with_reducible rfl)
  simp only [Act.put, List.setIfInBounds_toArray, List.set_cons_zero, List.set_cons_succ]
  refine wpAnyH_takeAt (i := 3) (v := ?vc3) (some 60) rfl rfl (by kernel_rfl) (by kernel_rfl) (by kernel_rfl) (fun _ _ _ h => h) (Or.inl ⟨by rfl, ?hyc3⟩) (by assumption) ?restc3
  case hyc3 => (intro w hSw; (try dsimp only at hSw); go_simp; all_goals with_reducible rfl)
  simp only [Act.put, List.setIfInBounds_toArray, List.set_cons_zero, List.set_cons_succ]
  refine wpAnyH_takeAt (i := 4) (v := ?vc4) (some 61) rfl rfl (by kernel_rfl) (by kernel_rfl) (by kernel_rfl) (fun _ _ _ h => h) (Or.inl ⟨by rfl, ?hyc4⟩) (by assumption) ?restc4
  case hyc4 => (intro w hSw; (try dsimp only at hSw); go_simp; all_goals with_reducible rfl)
  simp only [Act.put, List.setIfInBounds_toArray, List.set_cons_zero, List.set_cons_succ]
  refine wpAnyH_takeAt (i := 5) (v := ?vc5) (some 62) rfl rfl (by kernel_rfl) (by kernel_rfl) (by kernel_rfl) (fun _ _ _ h => h) (Or.inl ⟨by rfl, ?hyc5⟩) (by assumption) ?restc5
  case hyc5 => (intro w hSw; (try dsimp only at hSw); go_simp; all_goals with_reducible rfl)
  simp only [Act.put, List.setIfInBounds_toArray, List.set_cons_zero, List.set_cons_succ]
  refine wpAnyH_takeAt (i := 6) (v := ?vc6) (some 63) rfl rfl (by kernel_rfl) (by kernel_rfl) (by kernel_rfl) (fun _ _ _ h => h) (Or.inl ⟨by rfl, ?hyc6⟩) (by assumption) ?restc6
  case hyc6 => (intro w hSw; (try dsimp only at hSw); go_simp; all_goals with_reducible rfl)
  simp only [Act.put, List.setIfInBounds_toArray, List.set_cons_zero, List.set_cons_succ]
  refine wpAnyH_takeAt (i := 7) (v := ?vc7) (some 64) rfl rfl (by kernel_rfl) (by kernel_rfl) (by kernel_rfl) (fun _ _ _ h => h) (Or.inl ⟨by rfl, ?hyc7⟩) (by assumption) ?restc7
  case hyc7 => (intro w hSw; (try dsimp only at hSw); go_simp; all_goals with_reducible rfl)
  simp only [Act.put, List.setIfInBounds_toArray, List.set_cons_zero, List.set_cons_succ]
  refine wpAnyH_takeAt (i := 8) (v := ?vc8) (some 65) rfl rfl (by kernel_rfl) (by kernel_rfl) (by kernel_rfl) (fun _ _ _ h => h) (Or.inl ⟨by rfl, ?hyc8⟩) (by assumption) ?restc8
  case hyc8 => (intro w hSw; (try dsimp only at hSw); go_simp; all_goals with_reducible rfl)
  simp only [Act.put, List.setIfInBounds_toArray, List.set_cons_zero, List.set_cons_succ]
  refine wpAnyH_takeAt (i := 9) (v := ?vc9) (some 66) rfl rfl (by kernel_rfl) (by kernel_rfl) (by kernel_rfl) (fun _ _ _ h => h) (Or.inl ⟨by rfl, ?hyc9⟩) (by assumption) ?restc9
  case hyc9 => (intro w hSw; (try dsimp only at hSw); go_simp; all_goals with_reducible rfl)
  simp only [Act.put, List.setIfInBounds_toArray, List.set_cons_zero, List.set_cons_succ]
  refine wpAnyH_takeAt (i := 10) (v := ?vc10) (some 67) rfl rfl (by kernel_rfl) (by kernel_rfl) (by kernel_rfl) (fun _ _ _ h => h) (Or.inl ⟨by rfl, ?hyc10⟩) (by assumption) ?restc10
  case hyc10 => (intro w hSw; (try dsimp only at hSw); go_simp; all_goals with_reducible rfl)
  simp only [Act.put, List.setIfInBounds_toArray, List.set_cons_zero, List.set_cons_succ]
  refine wpAnyH_takeAt (i := 11) (v := ?vc11) (some 68) rfl rfl (by kernel_rfl) (by kernel_rfl) (by kernel_rfl) (fun _ _ _ h => h) (Or.inl ⟨by rfl, ?hyc11⟩) (by assumption) ?restc11
  case hyc11 => (intro w hSw; (try dsimp only at hSw); go_simp; all_goals with_reducible rfl)
  simp only [Act.put, List.setIfInBounds_toArray, List.set_cons_zero, List.set_cons_succ]
  refine wpAnyH_takeAt (i := 12) (v := ?vc12) (some 69) rfl rfl (by kernel_rfl) (by kernel_rfl) (by kernel_rfl) (fun _ _ _ h => h) (Or.inl ⟨by rfl, ?hyc12⟩) (by assumption) ?restc12
  case hyc12 => (intro w hSw; (try dsimp only at hSw); go_simp; all_goals with_reducible rfl)
  simp only [Act.put, List.setIfInBounds_toArray, List.set_cons_zero, List.set_cons_succ]
  refine wpAnyH_takeAt (i := 13) (v := ?vc13) (some 70) rfl rfl (by kernel_rfl) (by kernel_rfl) (by kernel_rfl) (fun _ _ _ h => h) (Or.inl ⟨by rfl, ?hyc13⟩) (by assumption) ?restc13
  case hyc13 => (intro w hSw; (try dsimp only at hSw); go_simp; all_goals with_reducible rfl)
  simp only [Act.put, List.setIfInBounds_toArray, List.set_cons_zero, List.set_cons_succ]
  refine wpAnyH_takeAt (i := 14) (v := ?vc14) (some 71) rfl rfl (by kernel_rfl) (by kernel_rfl) (by kernel_rfl) (fun _ _ _ h => h) (Or.inl ⟨by rfl, ?hyc14⟩) (by assumption) ?restc14
  case hyc14 => (intro w hSw; (try dsimp only at hSw); go_simp; all_goals with_reducible rfl)
  simp only [Act.put, List.setIfInBounds_toArray, List.set_cons_zero, List.set_cons_succ]
  refine wpAnyH_takeAt (i := 15) (v := ?vc15) (some 72) rfl rfl (by kernel_rfl) (by kernel_rfl) (by kernel_rfl) (fun _ _ _ h => h) (Or.inl ⟨by rfl, ?hyc15⟩) (by assumption) ?restc15
  case hyc15 => (intro w hSw; (try dsimp only at hSw); go_simp; all_goals with_reducible rfl)
  simp only [Act.put, List.setIfInBounds_toArray, List.set_cons_zero, List.set_cons_succ]
  refine wpAnyH_takeAt (i := 16) (v := ?vc16) (some 73) rfl rfl (by kernel_rfl) (by kernel_rfl) (by kernel_rfl) (fun _ _ _ h => h) (Or.inl ⟨by rfl, ?hyc16⟩) (by assumption) ?restc16
  case hyc16 => (intro w hSw; (try dsimp only at hSw); go_simp; all_goals with_reducible rfl)
  simp only [Act.put, List.setIfInBounds_toArray, List.set_cons_zero, List.set_cons_succ]
  refine wpAnyH_ready (rs := [17]) (by kernel_rfl) (by simp) ?_
  refine AllReadyH.cons rfl (fun K hK => ?_) AllReadyH.nil
  go_simp
  go_at_call 155
  refine (HN.out _ hf08d).mono ?_
  rintro e w10 ⟨rfl, hf10⟩
  have hf10 : Fr (fun _ => False) w8 w10 := ((Fr.refl (fun _ => False) w8).drew).trans hf10 (fun _ _ h => h)
  have hO10 := hO8.fr hf10 id
  have hR10 := hR8.fr hf10 id
  have hL10 := hL8.fr hf10 id
  have hE10 := hE8.fr hf10 id
  have hv010 := hv08.fr hf10 (fun _ _ => id)
  have hv110 := hv18.fr hf10 (fun _ _ => id)
  have hv210 := hv28.fr hf10 (fun _ _ => id)
  have hf010 := hf08.then_ hf10
  try go_wp2_with fail
  refine hK.out _ _ (⟨hO10.cell 0, hO10.cell 1, hO10.cell 2, hO10.cell 3, hO10.cell 4, hO10.cell 17, hO10.cell 18, hO10.cell 19, hO10.cell 20, hL10.cell 0, hL10.cell 1, hL10.cell 2⟩) (fun hHeld => ?_)
  clear hK K
  refine wpAnyH_takeAt (i := 18) (v := ?vc18) (some 75) rfl rfl (by kernel_rfl) (by kernel_rfl) (by kernel_rfl) (fun _ _ _ h => h) (Or.inl ⟨by rfl, ?hyc18⟩) (by assumption) ?restc18
  case hyc18 => (intro w hSw; (try dsimp only at hSw); go_simp; all_goals with_reducible rfl)
  simp only [Act.put, List.setIfInBounds_toArray, List.set_cons_zero, List.set_cons_succ]
  refine wpAnyH_takeAt (i := 19) (v := ?vc19) (some 76) rfl rfl (by kernel_rfl) (by kernel_rfl) (by kernel_rfl) (fun _ _ _ h => h) (Or.inl ⟨by rfl, ?hyc19⟩) (by assumption) ?restc19
  case hyc19 => (intro w hSw; (try dsimp only at hSw); go_simp; all_goals with_reducible rfl)
  simp only [Act.put, List.setIfInBounds_toArray, List.set_cons_zero, List.set_cons_succ]
  refine wpAnyH_takeAt (i := 20) (v := ?vc20) (some 77) rfl rfl (by kernel_rfl) (by kernel_rfl) (by kernel_rfl) (fun _ _ _ h => h) (Or.inl ⟨by rfl, ?hyc20⟩) (by assumption) ?restc20
  case hyc20 => (intro w hSw; (try dsimp only at hSw); go_simp; all_goals with_reducible rfl)
  simp only [Act.put, List.setIfInBounds_toArray, List.set_cons_zero, List.set_cons_succ]
  refine wpAnyH_takeAt (i := 21) (v := ?vc21) (some 78) rfl rfl (by kernel_rfl) (by kernel_rfl) (by kernel_rfl) (fun _ _ _ h => h) (Or.inl ⟨by rfl, ?hyc21⟩) (by assumption) ?restc21
  case hyc21 => (intro w hSw; (try dsimp only at hSw); go_simp; all_goals with_reducible rfl)
  simp only [Act.put, List.setIfInBounds_toArray, List.set_cons_zero, List.set_cons_succ]
  refine wpAnyH_takeAt (i := 22) (v := ?vc22) (some 79) rfl rfl (by kernel_rfl) (by kernel_rfl) (by kernel_rfl) (fun _ _ _ h => h) (Or.inl ⟨by rfl, ?hyc22⟩) (by assumption) ?restc22
  case hyc22 => (intro w hSw; (try dsimp only at hSw); go_simp; all_goals with_reducible rfl)
  simp only [Act.put, List.setIfInBounds_toArray, List.set_cons_zero, List.set_cons_succ]
  refine wpAnyH_ready (rs := [23]) (by kernel_rfl) (by simp) ?_
  refine AllReadyH.cons rfl (fun K hK => ?_) AllReadyH.nil
  go_simp
  go_at_call 156
  refine (fits_zero _).mono ?_
  rintro e w11 ⟨rfl, hf11⟩
  have hO11 := hO10.fr hf11 id
  have hR11 := hR10.fr hf11 id
  have hL11 := hL10.fr hf11 id
  have hE11 := hE10.fr hf11 id
  have hv011 := hv010.fr hf11 (fun _ _ => id)
  have hv111 := hv110.fr hf11 (fun _ _ => id)
  have hv211 := hv210.fr hf11 (fun _ _ => id)
  have hf011 := hf010.then_ hf11
  have rc0 := hR11.cell 0
  have rc1 := hR11.cell 1
  have rc2 := hR11.cell 2
  have rf0 := hR11.frozen 0
  have rf1 := hR11.frozen 1
  have rf2 := hR11.frozen 2
  try go_wp2_with fail
  refine hK.out _ _ (⟨hO11.cell 0, hO11.cell 1, hO11.cell 2, hO11.cell 3, hO11.cell 4, hO11.cell 17, hO11.cell 18, hO11.cell 19, hO11.cell 20, hL11.cell 0, hL11.cell 1, hL11.cell 2⟩) (fun hHeld => ?_)
  clear hK K
  refine wpAnyH_takeAt (i := 24) (v := ?vc24) (some 81) rfl rfl (by kernel_rfl) (by kernel_rfl) (by kernel_rfl) (fun _ _ _ h => h) (Or.inl ⟨by rfl, ?hyc24⟩) (by assumption) ?restc24
  case hyc24 => (intro w hSw; (try dsimp only at hSw); go_simp; all_goals with_reducible rfl)
  simp only [Act.put, List.setIfInBounds_toArray, List.set_cons_zero, List.set_cons_succ]
  refine wpAnyH_ready (rs := [25]) (by kernel_rfl) (by simp) ?_
  refine AllReadyH.cons rfl (fun K hK => ?_) AllReadyH.nil
  go_simp
  refine hK.out _ _ (⟨(((hO11.far (fun h => by (try dsimp only at h); omega) _).far (fun h => by (try dsimp only at h); omega) _).far (fun h => by (try dsimp only at h); omega) _).cell 0, (((hO11.far (fun h => by (try dsimp only at h); omega) _).far (fun h => by (try dsimp only at h); omega) _).far (fun h => by (try dsimp only at h); omega) _).cell 1, (((hO11.far (fun h => by (try dsimp only at h); omega) _).far (fun h => by (try dsimp only at h); omega) _).far (fun h => by (try dsimp only at h); omega) _).cell 2, (((hO11.far (fun h => by (try dsimp only at h); omega) _).far (fun h => by (try dsimp only at h); omega) _).far (fun h => by (try dsimp only at h); omega) _).cell 3, (((hO11.far (fun h => by (try dsimp only at h); omega) _).far (fun h => by (try dsimp only at h); omega) _).far (fun h => by (try dsimp only at h); omega) _).cell 4, (((hO11.far (fun h => by (try dsimp only at h); omega) _).far (fun h => by (try dsimp only at h); omega) _).far (fun h => by (try dsimp only at h); omega) _).cell 17, (((hO11.far (fun h => by (try dsimp only at h); omega) _).far (fun h => by (try dsimp only at h); omega) _).far (fun h => by (try dsimp only at h); omega) _).cell 18, (((hO11.far (fun h => by (try dsimp only at h); omega) _).far (fun h => by (try dsimp only at h); omega) _).far (fun h => by (try dsimp only at h); omega) _).cell 19, (((hO11.far (fun h => by (try dsimp only at h); omega) _).far (fun h => by (try dsimp only at h); omega) _).far (fun h => by (try dsimp only at h); omega) _).cell 20, (((hL11.far (fun h => by (try dsimp only at h); omega) _).far (fun h => by (try dsimp only at h); omega) _).far (fun h => by (try dsimp only at h); omega) _).cell 0, (((hL11.far (fun h => by (try dsimp only at h); omega) _).far (fun h => by (try dsimp only at h); omega) _).far (fun h => by (try dsimp only at h); omega) _).cell 1, (((hL11.far (fun h => by (try dsimp only at h); omega) _).far (fun h => by (try dsimp only at h); omega) _).far (fun h => by (try dsimp only at h); omega) _).cell 2⟩) (fun hHeld => ?_)
  clear hK K
  refine wpAnyH_takeAt (i := 26) (v := ?vc26) (some 3) rfl rfl (by kernel_rfl) (by kernel_rfl) (by kernel_rfl) (fun _ _ _ h => h) (Or.inl ⟨by rfl, ?hyc26⟩) (by assumption) ?restc26
  case hyc26 => (intro w hSw; (try dsimp only at hSw); go_simp; all_goals with_reducible rfl)
  simp only [Act.put, List.setIfInBounds_toArray, List.set_cons_zero, List.set_cons_succ]
  refine wpAnyH_done (by kernel_rfl) ?_ _
  refine NoPanic.normal ?_
  have hO12 : Blk (((w11.setCell ⟨w.heap.size + 1, 0, none⟩ (Value.slice A0 b0.length c0)).setCell ⟨w.heap.size + 1, 1, none⟩ (Value.slice A1 b1.length c1)).setCell ⟨w.heap.size + 1, 2, none⟩ (Value.slice A2 bs.length c2)) _ _ _ := (((hO11.far (fun h => by (try dsimp only at h); omega) _).far (fun h => by (try dsimp only at h); omega) _).far (fun h => by (try dsimp only at h); omega) _)
  have hR12 : Blk (((w11.setCell ⟨w.heap.size + 1, 0, none⟩ (Value.slice A0 b0.length c0)).setCell ⟨w.heap.size + 1, 1, none⟩ (Value.slice A1 b1.length c1)).setCell ⟨w.heap.size + 1, 2, none⟩ (Value.slice A2 bs.length c2)) _ _ _ := (((hR11.set_ 0 _).set_ 1 _).set_ 2 _)
  have hL12 : Blk (((w11.setCell ⟨w.heap.size + 1, 0, none⟩ (Value.slice A0 b0.length c0)).setCell ⟨w.heap.size + 1, 1, none⟩ (Value.slice A1 b1.length c1)).setCell ⟨w.heap.size + 1, 2, none⟩ (Value.slice A2 bs.length c2)) _ _ _ := (((hL11.far (fun h => by (try dsimp only at h); omega) _).far (fun h => by (try dsimp only at h); omega) _).far (fun h => by (try dsimp only at h); omega) _)
  have hE12 : Blk (((w11.setCell ⟨w.heap.size + 1, 0, none⟩ (Value.slice A0 b0.length c0)).setCell ⟨w.heap.size + 1, 1, none⟩ (Value.slice A1 b1.length c1)).setCell ⟨w.heap.size + 1, 2, none⟩ (Value.slice A2 bs.length c2)) _ _ _ := (((hE11.far (fun h => by (try dsimp only at h); omega) _).far (fun h => by (try dsimp only at h); omega) _).far (fun h => by (try dsimp only at h); omega) _)
  have hf012 : Fr (fun _ => False) w (((w11.setCell ⟨w.heap.size + 1, 0, none⟩ (Value.slice A0 b0.length c0)).setCell ⟨w.heap.size + 1, 1, none⟩ (Value.slice A1 b1.length c1)).setCell ⟨w.heap.size + 1, 2, none⟩ (Value.slice A2 bs.length c2)) := (((hf011.setCell (p := ⟨w.heap.size + 1, 0, none⟩) (fun h => absurd h (by dsimp only; omega)) _).setCell (p := ⟨w.heap.size + 1, 1, none⟩) (fun h => absurd h (by dsimp only; omega)) _).setCell (p := ⟨w.heap.size + 1, 2, none⟩) (fun h => absurd h (by dsimp only; omega)) _)
  have hv012 : Own8 (((w11.setCell ⟨w.heap.size + 1, 0, none⟩ (Value.slice A0 b0.length c0)).setCell ⟨w.heap.size + 1, 1, none⟩ (Value.slice A1 b1.length c1)).setCell ⟨w.heap.size + 1, 2, none⟩ (Value.slice A2 bs.length c2)) _ _ _ := hv011.fr ((((Fr.refl (fun k => k = (w.heap.size + 1)) w11).setCell (p := ⟨w.heap.size + 1, 0, none⟩) (fun _ => rfl) _).setCell (p := ⟨w.heap.size + 1, 1, none⟩) (fun _ => rfl) _).setCell (p := ⟨w.heap.size + 1, 2, none⟩) (fun _ => rfl) _) (fun k hk h => hv011.ne_blk hR11 (by decide) (by rw [← h]; exact hk))
  have hv112 : Own8 (((w11.setCell ⟨w.heap.size + 1, 0, none⟩ (Value.slice A0 b0.length c0)).setCell ⟨w.heap.size + 1, 1, none⟩ (Value.slice A1 b1.length c1)).setCell ⟨w.heap.size + 1, 2, none⟩ (Value.slice A2 bs.length c2)) _ _ _ := hv111.fr ((((Fr.refl (fun k => k = (w.heap.size + 1)) w11).setCell (p := ⟨w.heap.size + 1, 0, none⟩) (fun _ => rfl) _).setCell (p := ⟨w.heap.size + 1, 1, none⟩) (fun _ => rfl) _).setCell (p := ⟨w.heap.size + 1, 2, none⟩) (fun _ => rfl) _) (fun k hk h => hv111.ne_blk hR11 (by decide) (by rw [← h]; exact hk))
  have hv212 : Own8 (((w11.setCell ⟨w.heap.size + 1, 0, none⟩ (Value.slice A0 b0.length c0)).setCell ⟨w.heap.size + 1, 1, none⟩ (Value.slice A1 b1.length c1)).setCell ⟨w.heap.size + 1, 2, none⟩ (Value.slice A2 bs.length c2)) _ _ _ := hv211.fr ((((Fr.refl (fun k => k = (w.heap.size + 1)) w11).setCell (p := ⟨w.heap.size + 1, 0, none⟩) (fun _ => rfl) _).setCell (p := ⟨w.heap.size + 1, 1, none⟩) (fun _ => rfl) _).setCell (p := ⟨w.heap.size + 1, 2, none⟩) (fun _ => rfl) _) (fun k hk h => hv211.ne_blk hR11 (by decide) (by rw [← h]; exact hk))
  generalize (((w11.setCell ⟨w.heap.size + 1, 0, none⟩ (Value.slice A0 b0.length c0)).setCell ⟨w.heap.size + 1, 1, none⟩ (Value.slice A1 b1.length c1)).setCell ⟨w.heap.size + 1, 2, none⟩ (Value.slice A2 bs.length c2)) = w12 at *
  have y0 := hR12.cell 0
  have y1 := hR12.cell 1
  have y2 := hR12.cell 2
  simp at y0 y1 y2
  try go_wp2_with fail
  refine bodyPost_ret (v := .tuple #[.agg #[(Value.slice A0 b0.length c0), (Value.slice A1 b1.length c1), (Value.slice A2 bs.length c2)], .bool true]) (by simp [results, Tryz.results123, go_sem, y0, y1, y2]) rfl ?_
  exact ⟨_, _, _, rfl, hv012.base_ (by omega), hv112.base_ (Nat.le_trans hf02.size (Nat.le_refl _)), hv212.base_ hf04.size, hf012⟩
end Go.Proofs.YtmkdhhhoodeemaaGreat

/- say: the texts of what is no order. -/
namespace Go.Proofs.YtmkdhhhoodeemaaGreat
open Go Go.RowKit
attribute [local go_sem ↓] run_neqSay run_eqlSay
set_option maxRecDepth 100000 in
set_option maxHeartbeats 2000000 in
theorem say_texts_badT {w : World} {A B : Option Addr} {nr nw cr cw : Nat} {c n : Int} {s : SayD} {bC : Nat} {C : Option Addr} {cx : Nat} {xs : List Int} {G D : Int} (hC : IntRow w bC C xs) (hbC : bC ≤ w.heap.size) (hxl : xs.length ≤ 1024) (hgetok : getOk (num8 G ++ num8 D ++ numsB xs)) {bs : List Int} (hbs : num8 G ++ num8 D ++ numsB xs = bs) {nm sz : Bool} {b0 b1 : List Int} {r0 r1 : Value}
    (hsz : zeroSay s = !sz)
    (h0 : ∀ w', Fr (fun _ => False) w w' → Calls Tryz.prog 148 #[.bool nm, .agg #[.int .i64 c, .int .i64 n, .slice A nr cr, .slice B nw cw], .func (.func 149) #[] #[]] w' (PutP w' b0 r0))
    (h1 : ∀ w', Fr (fun _ => False) w w' → Calls Tryz.prog 150 #[.bool sz, .agg #[.int .i64 s.kind, .int .i64 s.txn, .bool s.yes, .string s.from_, .string s.to_, .int .i64 s.epoch, .int .i64 s.shard, .int .i64 s.target, .int .i64 s.root], .func (.func 77) #[] #[]] w' (PutP w' b1 r1))
    (hr1 : r1 = .nilIface) (hnm : nm = true) {t0 : TypeId} {u0 : Value} (hr0 : r0 = .iface t0 u0) :
    Calls Tryz.prog 123 #[.agg #[.int .i64 6, .int .i64 c, .int .i64 n, .slice A nr cr, .slice B nw cw, .int .i64 s.kind, .int .i64 s.txn, .bool s.yes, .string s.from_, .string s.to_, .int .i64 s.epoch, .int .i64 s.shard, .int .i64 s.target, .int .i64 s.root, .int .i64 G, .int .i64 D, .slice C xs.length cx, .int .i64 0, .int .i64 0, .slice none 0 0, .slice none 0 0]] w (fun e w' => ∃ A0 n0 c0 A1 n1 c1 A2 n2 c2, e = .returned (.tuple #[.agg #[.slice A0 n0 c0, .slice A1 n1 c1, .slice A2 n2 c2], .bool false]) ∧ Fr (fun _ => False) w w') := by
  have H0 := Lib.hid h0
  have H1 := Lib.hid h1
  have HC := Lib.hid hC
  have HG := hgetok
  rw [hbs] at HG
  have HG := Lib.hid HG
  have HBS := Lib.hid hbs
  have H8 : Hid (Bytes8 bs) := by show Bytes8 bs; rw [← hbs]; exact cert_bytes G D xs
  have HBL : Hid (bs.length ≤ 9000) := by show _ ≤ _; rw [← hbs]; exact cert_len hxl
  have HXL := Lib.hid hxl
  have HBC := Lib.hid hbC
  clear h0 h1 hC hgetok hxl hbC hbs
  have hf0 : Fr (fun _ => False) w ((((w.alloc (Obj.cells #[.int .i64 6, .int .i64 c, .int .i64 n, .slice A nr cr, .slice B nw cw, .int .i64 s.kind, .int .i64 s.txn, .bool s.yes, .string s.from_, .string s.to_, .int .i64 s.epoch, .int .i64 s.shard, .int .i64 s.target, .int .i64 s.root, .int .i64 G, .int .i64 D, .slice C xs.length cx, .int .i64 0, .int .i64 0, .slice none 0 0, .slice none 0 0] 62)).alloc (Obj.cells #[.slice none 0 0, .slice none 0 0, .slice none 0 0] 214)).alloc (Obj.cells #[.slice none 0 0, .slice none 0 0, .slice none 0 0] 214)).alloc (Obj.cells #[.nilIface, .nilIface, .nilIface, .nilIface] 233)) := ((((Fr.refl _ _).alloc _).alloc _).alloc _).alloc _
  have hO0 : Blk ((((w.alloc (Obj.cells #[.int .i64 6, .int .i64 c, .int .i64 n, .slice A nr cr, .slice B nw cw, .int .i64 s.kind, .int .i64 s.txn, .bool s.yes, .string s.from_, .string s.to_, .int .i64 s.epoch, .int .i64 s.shard, .int .i64 s.target, .int .i64 s.root, .int .i64 G, .int .i64 D, .slice C xs.length cx, .int .i64 0, .int .i64 0, .slice none 0 0, .slice none 0 0] 62)).alloc (Obj.cells #[.slice none 0 0, .slice none 0 0, .slice none 0 0] 214)).alloc (Obj.cells #[.slice none 0 0, .slice none 0 0, .slice none 0 0] 214)).alloc (Obj.cells #[.nilIface, .nilIface, .nilIface, .nilIface] 233)) w.heap.size 62 #[.int .i64 6, .int .i64 c, .int .i64 n, .slice A nr cr, .slice B nw cw, .int .i64 s.kind, .int .i64 s.txn, .bool s.yes, .string s.from_, .string s.to_, .int .i64 s.epoch, .int .i64 s.shard, .int .i64 s.target, .int .i64 s.root, .int .i64 G, .int .i64 D, .slice C xs.length cx, .int .i64 0, .int .i64 0, .slice none 0 0, .slice none 0 0] := (((Blk.new w _ _).alloc _).alloc _).alloc _
  have hR0 : Blk ((((w.alloc (Obj.cells #[.int .i64 6, .int .i64 c, .int .i64 n, .slice A nr cr, .slice B nw cw, .int .i64 s.kind, .int .i64 s.txn, .bool s.yes, .string s.from_, .string s.to_, .int .i64 s.epoch, .int .i64 s.shard, .int .i64 s.target, .int .i64 s.root, .int .i64 G, .int .i64 D, .slice C xs.length cx, .int .i64 0, .int .i64 0, .slice none 0 0, .slice none 0 0] 62)).alloc (Obj.cells #[.slice none 0 0, .slice none 0 0, .slice none 0 0] 214)).alloc (Obj.cells #[.slice none 0 0, .slice none 0 0, .slice none 0 0] 214)).alloc (Obj.cells #[.nilIface, .nilIface, .nilIface, .nilIface] 233)) (w.heap.size + 1) 214 #[.slice none 0 0, .slice none 0 0, .slice none 0 0] := ((Blk.new_ _ _ _ (by simp)).alloc _).alloc _
  have hL0 : Blk ((((w.alloc (Obj.cells #[.int .i64 6, .int .i64 c, .int .i64 n, .slice A nr cr, .slice B nw cw, .int .i64 s.kind, .int .i64 s.txn, .bool s.yes, .string s.from_, .string s.to_, .int .i64 s.epoch, .int .i64 s.shard, .int .i64 s.target, .int .i64 s.root, .int .i64 G, .int .i64 D, .slice C xs.length cx, .int .i64 0, .int .i64 0, .slice none 0 0, .slice none 0 0] 62)).alloc (Obj.cells #[.slice none 0 0, .slice none 0 0, .slice none 0 0] 214)).alloc (Obj.cells #[.slice none 0 0, .slice none 0 0, .slice none 0 0] 214)).alloc (Obj.cells #[.nilIface, .nilIface, .nilIface, .nilIface] 233)) (w.heap.size + 1 + 1) 214 #[.slice none 0 0, .slice none 0 0, .slice none 0 0] := (Blk.new_ _ _ _ (by simp)).alloc _
  have hE0 : Blk ((((w.alloc (Obj.cells #[.int .i64 6, .int .i64 c, .int .i64 n, .slice A nr cr, .slice B nw cw, .int .i64 s.kind, .int .i64 s.txn, .bool s.yes, .string s.from_, .string s.to_, .int .i64 s.epoch, .int .i64 s.shard, .int .i64 s.target, .int .i64 s.root, .int .i64 G, .int .i64 D, .slice C xs.length cx, .int .i64 0, .int .i64 0, .slice none 0 0, .slice none 0 0] 62)).alloc (Obj.cells #[.slice none 0 0, .slice none 0 0, .slice none 0 0] 214)).alloc (Obj.cells #[.slice none 0 0, .slice none 0 0, .slice none 0 0] 214)).alloc (Obj.cells #[.nilIface, .nilIface, .nilIface, .nilIface] 233)) (w.heap.size + 1 + 1 + 1) 233 #[.nilIface, .nilIface, .nilIface, .nilIface] := Blk.new_ _ _ _ (by simp)
  have hz0 : w.heap.size + 4 ≤ ((((w.alloc (Obj.cells #[.int .i64 6, .int .i64 c, .int .i64 n, .slice A nr cr, .slice B nw cw, .int .i64 s.kind, .int .i64 s.txn, .bool s.yes, .string s.from_, .string s.to_, .int .i64 s.epoch, .int .i64 s.shard, .int .i64 s.target, .int .i64 s.root, .int .i64 G, .int .i64 D, .slice C xs.length cx, .int .i64 0, .int .i64 0, .slice none 0 0, .slice none 0 0] 62)).alloc (Obj.cells #[.slice none 0 0, .slice none 0 0, .slice none 0 0] 214)).alloc (Obj.cells #[.slice none 0 0, .slice none 0 0, .slice none 0 0] 214)).alloc (Obj.cells #[.nilIface, .nilIface, .nilIface, .nilIface] 233)).heap.size := by simp
  subst hr0 hr1 hnm
  go_enter Tryz.func123, Tryz.ntmps123
  go_upto_region 4 with fail
  generalize ((((w.alloc (Obj.cells #[.int .i64 6, .int .i64 c, .int .i64 n, .slice A nr cr, .slice B nw cw, .int .i64 s.kind, .int .i64 s.txn, .bool s.yes, .string s.from_, .string s.to_, .int .i64 s.epoch, .int .i64 s.shard, .int .i64 s.target, .int .i64 s.root, .int .i64 G, .int .i64 D, .slice C xs.length cx, .int .i64 0, .int .i64 0, .slice none 0 0, .slice none 0 0] 62)).alloc (Obj.cells #[.slice none 0 0, .slice none 0 0, .slice none 0 0] 214)).alloc (Obj.cells #[.slice none 0 0, .slice none 0 0, .slice none 0 0] 214)).alloc (Obj.cells #[.nilIface, .nilIface, .nilIface, .nilIface] 233)) = w0 at *
  have k1 := hO0.cell 1
  have k2 := hO0.cell 2
  have k3 := hO0.cell 3
  have k4 := hO0.cell 4
  go_upto_region 5 with (first | (go_at_call 148; refine (H0.out _ hf0).mono ?_; rintro e w1 ⟨v0, rfl, hv01, hf1⟩; obtain ⟨A0, c0, rfl, _, _⟩ := hv01.form; have hf01 := hf0.then_ hf1; have hL1 := hL0.fr hf1 id; have hE1 := hE0.fr hf1 id; have hO1 := hO0.fr hf1 id; have hR1 := hR0.fr hf1 id; have l0 := hL1.cell 0; have lf := hL1.frozen 0; have e0 := hE1.cell 0; have ef := hE1.frozen 0))
  have hO2 : Blk ((w1.setCell ⟨w.heap.size + 1 + 1, 0, none⟩ (Value.slice A0 b0.length c0)).setCell ⟨w.heap.size + 1 + 1 + 1, 0, none⟩ (Value.iface t0 u0)) _ _ _ := ((hO1.far (fun h => by (try dsimp only at h); omega) _).far (fun h => by (try dsimp only at h); omega) _)
  have hR2 : Blk ((w1.setCell ⟨w.heap.size + 1 + 1, 0, none⟩ (Value.slice A0 b0.length c0)).setCell ⟨w.heap.size + 1 + 1 + 1, 0, none⟩ (Value.iface t0 u0)) _ _ _ := ((hR1.far (fun h => by (try dsimp only at h); omega) _).far (fun h => by (try dsimp only at h); omega) _)
  have hL2 : Blk ((w1.setCell ⟨w.heap.size + 1 + 1, 0, none⟩ (Value.slice A0 b0.length c0)).setCell ⟨w.heap.size + 1 + 1 + 1, 0, none⟩ (Value.iface t0 u0)) _ _ _ := ((hL1.set_ 0 _).far (fun h => by (try dsimp only at h); omega) _)
  have hE2 : Blk ((w1.setCell ⟨w.heap.size + 1 + 1, 0, none⟩ (Value.slice A0 b0.length c0)).setCell ⟨w.heap.size + 1 + 1 + 1, 0, none⟩ (Value.iface t0 u0)) _ _ _ := ((hE1.far (fun h => by (try dsimp only at h); omega) _).set_ 0 _)
  have hf02 : Fr (fun _ => False) w ((w1.setCell ⟨w.heap.size + 1 + 1, 0, none⟩ (Value.slice A0 b0.length c0)).setCell ⟨w.heap.size + 1 + 1 + 1, 0, none⟩ (Value.iface t0 u0)) := ((hf01.setCell (p := ⟨w.heap.size + 1 + 1, 0, none⟩) (fun h => absurd h (by dsimp only; omega)) _).setCell (p := ⟨w.heap.size + 1 + 1 + 1, 0, none⟩) (fun h => absurd h (by dsimp only; omega)) _)
  have hv02 : Own8 ((w1.setCell ⟨w.heap.size + 1 + 1, 0, none⟩ (Value.slice A0 b0.length c0)).setCell ⟨w.heap.size + 1 + 1 + 1, 0, none⟩ (Value.iface t0 u0)) _ _ _ := hv01.fr (((Fr.refl (fun k => k = (w.heap.size + 1 + 1 + 1) ∨ k = (w.heap.size + 1 + 1)) w1).setCell (p := ⟨w.heap.size + 1 + 1, 0, none⟩) (fun _ => Or.inr rfl) _).setCell (p := ⟨w.heap.size + 1 + 1 + 1, 0, none⟩) (fun _ => Or.inl rfl) _) (fun k hk h => h.elim (fun h => hv01.ne_blk hE1 (by decide) (by rw [← h]; exact hk)) (fun h => hv01.ne_blk hL1 (by decide) (by rw [← h]; exact hk)))
  generalize ((w1.setCell ⟨w.heap.size + 1 + 1, 0, none⟩ (Value.slice A0 b0.length c0)).setCell ⟨w.heap.size + 1 + 1 + 1, 0, none⟩ (Value.iface t0 u0)) = w2 at *
  have k5 := hO2.cell 5
  have k6 := hO2.cell 6
  have k7 := hO2.cell 7
  have k8 := hO2.cell 8
  have k9 := hO2.cell 9
  have k10 := hO2.cell 10
  have k11 := hO2.cell 11
  have k12 := hO2.cell 12
  have k13 := hO2.cell 13
  have hf02d : Fr (fun _ => False) w w2.drew := hf02.drew
  refine wp_region_noPanic ?_
  refine wp_region_held_drew (S := (fun w' => w'.cell? ⟨w.heap.size, 5, none⟩ = some (.int .i64 s.kind) ∧ w'.cell? ⟨w.heap.size, 6, none⟩ = some (.int .i64 s.txn) ∧ w'.cell? ⟨w.heap.size, 7, none⟩ = some (.bool s.yes) ∧ w'.cell? ⟨w.heap.size, 8, none⟩ = some (.string s.from_) ∧ w'.cell? ⟨w.heap.size, 9, none⟩ = some (.string s.to_) ∧ w'.cell? ⟨w.heap.size, 10, none⟩ = some (.int .i64 s.epoch) ∧ w'.cell? ⟨w.heap.size, 11, none⟩ = some (.int .i64 s.shard) ∧ w'.cell? ⟨w.heap.size, 12, none⟩ = some (.int .i64 s.target) ∧ w'.cell? ⟨w.heap.size, 13, none⟩ = some (.int .i64 s.root))) (by kernel_rfl) (⟨k5, k6, k7, k8, k9, k10, k11, k12, k13⟩) (fun hHeld => ?_)
  refine wpAnyH_takeAt (i := 0) (v := ?vb0) (some 26) rfl rfl (by kernel_rfl) (by kernel_rfl) (by kernel_rfl) (fun _ _ _ h => h) (Or.inl ⟨by rfl, ?hyb0⟩) (by assumption) ?restb0
  case hyb0 => (intro w hSw; (try dsimp only at hSw); go_simp; all_goals with_reducible rfl)
  simp only [Act.put, List.setIfInBounds_toArray, List.set_cons_zero, List.set_cons_succ]
  refine wpAnyH_takeAt (i := 1) (v := ?vb1) (some 27) rfl rfl (by kernel_rfl) (by kernel_rfl) (by kernel_rfl) (fun _ _ _ h => h) (Or.inl ⟨by rfl, ?hyb1⟩) (by assumption) ?restb1
  case hyb1 => (intro w hSw; (try dsimp only at hSw); go_simp; all_goals with_reducible rfl)
  simp only [Act.put, List.setIfInBounds_toArray, List.set_cons_zero, List.set_cons_succ]
  refine wpAnyH_takeAt (i := 2) (v := ?vb2) (some 28) rfl rfl (by kernel_rfl) (by kernel_rfl) (by kernel_rfl) (fun _ _ _ h => h) (Or.inl ⟨by rfl, ?hyb2⟩) (by assumption) ?restb2
  case hyb2 => (intro w hSw; (try dsimp only at hSw); go_simp; all_goals with_reducible rfl)
  simp only [Act.put, List.setIfInBounds_toArray, List.set_cons_zero, List.set_cons_succ]
  refine wpAnyH_takeAt (i := 3) (v := ?vb3) (some 29) rfl rfl (by kernel_rfl) (by kernel_rfl) (by kernel_rfl) (fun _ _ _ h => h) (Or.inl ⟨by rfl, ?hyb3⟩) (by assumption) ?restb3
  case hyb3 => (intro w hSw; (try dsimp only at hSw); go_simp; all_goals with_reducible rfl)
  simp only [Act.put, List.setIfInBounds_toArray, List.set_cons_zero, List.set_cons_succ]
  refine wpAnyH_takeAt (i := 4) (v := ?vb4) (some 30) rfl rfl (by kernel_rfl) (by kernel_rfl) (by kernel_rfl) (fun _ _ _ h => h) (Or.inl ⟨by rfl, ?hyb4⟩) (by assumption) ?restb4
  case hyb4 => (intro w hSw; (try dsimp only at hSw); go_simp; all_goals with_reducible rfl)
  simp only [Act.put, List.setIfInBounds_toArray, List.set_cons_zero, List.set_cons_succ]
  refine wpAnyH_takeAt (i := 5) (v := ?vb5) (some 31) rfl rfl (by kernel_rfl) (by kernel_rfl) (by kernel_rfl) (fun _ _ _ h => h) (Or.inl ⟨by rfl, ?hyb5⟩) (by assumption) ?restb5
  case hyb5 => (intro w hSw; (try dsimp only at hSw); go_simp; all_goals with_reducible rfl)
  simp only [Act.put, List.setIfInBounds_toArray, List.set_cons_zero, List.set_cons_succ]
  refine wpAnyH_ready (rs := [6]) (by kernel_rfl) (by simp) ?_
  refine AllReadyH.cons rfl (fun K hK => ?_) AllReadyH.nil
  go_simp
  go_at_call 150
  refine (H1.out _ hf02d).mono ?_
  rintro e w3 ⟨v1, rfl, hv13, hf3⟩
  obtain ⟨A1, c1, rfl, _, _⟩ := hv13.form
  have hf3 : Fr (fun _ => False) w2 w3 := ((Fr.refl (fun _ => False) w2).drew).trans hf3 (fun _ _ h => h)
  have hO3 := hO2.fr hf3 id
  have hR3 := hR2.fr hf3 id
  have hL3 := hL2.fr hf3 id
  have hE3 := hE2.fr hf3 id
  have hv03 := hv02.fr hf3 (fun _ _ => id)
  have hf03 := hf02.then_ hf3
  have lc1 := hL3.cell 1
  have ec1 := hE3.cell 1
  have lf := hL3.frozen 1
  have ef := hE3.frozen 1
  try go_wp2_with fail
  refine hK.out _ _ (⟨hO3.cell 5, hO3.cell 6, hO3.cell 7, hO3.cell 8, hO3.cell 9, hO3.cell 10, hO3.cell 11, hO3.cell 12, hO3.cell 13⟩) (fun hHeld => ?_)
  clear hK K
  refine wpAnyH_takeAt (i := 7) (v := ?vb7) (some 25) rfl rfl (by kernel_rfl) (by kernel_rfl) (by kernel_rfl) (fun _ _ _ h => h) (Or.inl ⟨by rfl, ?hyb7⟩) (by assumption) ?restb7
  case hyb7 => (intro w hSw; (try dsimp only at hSw); go_simp; all_goals with_reducible rfl)
  simp only [Act.put, List.setIfInBounds_toArray, List.set_cons_zero, List.set_cons_succ]
  refine wpAnyH_takeAt (i := 8) (v := ?vb8) (some 33) rfl rfl (by kernel_rfl) (by kernel_rfl) (by kernel_rfl) (fun _ _ _ h => h) (Or.inl ⟨by rfl, ?hyb8⟩) (by assumption) ?restb8
  case hyb8 => (intro w hSw; (try dsimp only at hSw); go_simp; all_goals with_reducible rfl)
  simp only [Act.put, List.setIfInBounds_toArray, List.set_cons_zero, List.set_cons_succ]
  refine wpAnyH_takeAt (i := 9) (v := ?vb9) (some 34) rfl rfl (by kernel_rfl) (by kernel_rfl) (by kernel_rfl) (fun _ _ _ h => h) (Or.inl ⟨by rfl, ?hyb9⟩) (by assumption) ?restb9
  case hyb9 => (intro w hSw; (try dsimp only at hSw); go_simp; all_goals with_reducible rfl)
  simp only [Act.put, List.setIfInBounds_toArray, List.set_cons_zero, List.set_cons_succ]
  refine wpAnyH_takeAt (i := 10) (v := ?vb10) (some 35) rfl rfl (by kernel_rfl) (by kernel_rfl) (by kernel_rfl) (fun _ _ _ h => h) (Or.inl ⟨by rfl, ?hyb10⟩) (by assumption) ?restb10
  case hyb10 => (intro w hSw; (try dsimp only at hSw); go_simp; all_goals with_reducible rfl)
  simp only [Act.put, List.setIfInBounds_toArray, List.set_cons_zero, List.set_cons_succ]
  refine wpAnyH_ready (rs := [11]) (by kernel_rfl) (by simp) ?_
  refine AllReadyH.cons rfl (fun K hK => ?_) AllReadyH.nil
  go_simp
  refine hK.out _ _ (⟨(hO3.far (fun h => by (try dsimp only at h); omega) _).cell 5, (hO3.far (fun h => by (try dsimp only at h); omega) _).cell 6, (hO3.far (fun h => by (try dsimp only at h); omega) _).cell 7, (hO3.far (fun h => by (try dsimp only at h); omega) _).cell 8, (hO3.far (fun h => by (try dsimp only at h); omega) _).cell 9, (hO3.far (fun h => by (try dsimp only at h); omega) _).cell 10, (hO3.far (fun h => by (try dsimp only at h); omega) _).cell 11, (hO3.far (fun h => by (try dsimp only at h); omega) _).cell 12, (hO3.far (fun h => by (try dsimp only at h); omega) _).cell 13⟩) (fun hHeld => ?_)
  clear hK K
  refine wpAnyH_takeAt (i := 12) (v := ?vb12) (some 36) rfl rfl (by kernel_rfl) (by kernel_rfl) (by kernel_rfl) (fun _ _ _ h => h) (Or.inl ⟨by rfl, ?hyb12⟩) (by assumption) ?restb12
  case hyb12 => (intro w hSw; (try dsimp only at hSw); go_simp; all_goals with_reducible rfl)
  simp only [Act.put, List.setIfInBounds_toArray, List.set_cons_zero, List.set_cons_succ]
  refine wpAnyH_ready (rs := [13]) (by kernel_rfl) (by simp) ?_
  refine AllReadyH.cons rfl (fun K hK => ?_) AllReadyH.nil
  go_simp
  refine hK.out _ _ (⟨((hO3.far (fun h => by (try dsimp only at h); omega) _).far (fun h => by (try dsimp only at h); omega) _).cell 5, ((hO3.far (fun h => by (try dsimp only at h); omega) _).far (fun h => by (try dsimp only at h); omega) _).cell 6, ((hO3.far (fun h => by (try dsimp only at h); omega) _).far (fun h => by (try dsimp only at h); omega) _).cell 7, ((hO3.far (fun h => by (try dsimp only at h); omega) _).far (fun h => by (try dsimp only at h); omega) _).cell 8, ((hO3.far (fun h => by (try dsimp only at h); omega) _).far (fun h => by (try dsimp only at h); omega) _).cell 9, ((hO3.far (fun h => by (try dsimp only at h); omega) _).far (fun h => by (try dsimp only at h); omega) _).cell 10, ((hO3.far (fun h => by (try dsimp only at h); omega) _).far (fun h => by (try dsimp only at h); omega) _).cell 11, ((hO3.far (fun h => by (try dsimp only at h); omega) _).far (fun h => by (try dsimp only at h); omega) _).cell 12, ((hO3.far (fun h => by (try dsimp only at h); omega) _).far (fun h => by (try dsimp only at h); omega) _).cell 13⟩) (fun hHeld => ?_)
  clear hK K
  refine wpAnyH_done (by kernel_rfl) ?_ _
  refine NoPanic.normal ?_
  have hO4 : Blk ((w3.setCell ⟨w.heap.size + 1 + 1, 1, none⟩ (Value.slice A1 b1.length c1)).setCell ⟨w.heap.size + 1 + 1 + 1, 1, none⟩ .nilIface) _ _ _ := ((hO3.far (fun h => by (try dsimp only at h); omega) _).far (fun h => by (try dsimp only at h); omega) _)
  have hR4 : Blk ((w3.setCell ⟨w.heap.size + 1 + 1, 1, none⟩ (Value.slice A1 b1.length c1)).setCell ⟨w.heap.size + 1 + 1 + 1, 1, none⟩ .nilIface) _ _ _ := ((hR3.far (fun h => by (try dsimp only at h); omega) _).far (fun h => by (try dsimp only at h); omega) _)
  have hL4 : Blk ((w3.setCell ⟨w.heap.size + 1 + 1, 1, none⟩ (Value.slice A1 b1.length c1)).setCell ⟨w.heap.size + 1 + 1 + 1, 1, none⟩ .nilIface) _ _ _ := ((hL3.set_ 1 _).far (fun h => by (try dsimp only at h); omega) _)
  have hE4 : Blk ((w3.setCell ⟨w.heap.size + 1 + 1, 1, none⟩ (Value.slice A1 b1.length c1)).setCell ⟨w.heap.size + 1 + 1 + 1, 1, none⟩ .nilIface) _ _ _ := ((hE3.far (fun h => by (try dsimp only at h); omega) _).set_ 1 _)
  have hf04 : Fr (fun _ => False) w ((w3.setCell ⟨w.heap.size + 1 + 1, 1, none⟩ (Value.slice A1 b1.length c1)).setCell ⟨w.heap.size + 1 + 1 + 1, 1, none⟩ .nilIface) := ((hf03.setCell (p := ⟨w.heap.size + 1 + 1, 1, none⟩) (fun h => absurd h (by dsimp only; omega)) _).setCell (p := ⟨w.heap.size + 1 + 1 + 1, 1, none⟩) (fun h => absurd h (by dsimp only; omega)) _)
  have hv04 : Own8 ((w3.setCell ⟨w.heap.size + 1 + 1, 1, none⟩ (Value.slice A1 b1.length c1)).setCell ⟨w.heap.size + 1 + 1 + 1, 1, none⟩ .nilIface) _ _ _ := hv03.fr (((Fr.refl (fun k => k = (w.heap.size + 1 + 1 + 1) ∨ k = (w.heap.size + 1 + 1)) w3).setCell (p := ⟨w.heap.size + 1 + 1, 1, none⟩) (fun _ => Or.inr rfl) _).setCell (p := ⟨w.heap.size + 1 + 1 + 1, 1, none⟩) (fun _ => Or.inl rfl) _) (fun k hk h => h.elim (fun h => hv03.ne_blk hE3 (by decide) (by rw [← h]; exact hk)) (fun h => hv03.ne_blk hL3 (by decide) (by rw [← h]; exact hk)))
  have hv14 : Own8 ((w3.setCell ⟨w.heap.size + 1 + 1, 1, none⟩ (Value.slice A1 b1.length c1)).setCell ⟨w.heap.size + 1 + 1 + 1, 1, none⟩ .nilIface) _ _ _ := hv13.fr (((Fr.refl (fun k => k = (w.heap.size + 1 + 1 + 1) ∨ k = (w.heap.size + 1 + 1)) w3).setCell (p := ⟨w.heap.size + 1 + 1, 1, none⟩) (fun _ => Or.inr rfl) _).setCell (p := ⟨w.heap.size + 1 + 1 + 1, 1, none⟩) (fun _ => Or.inl rfl) _) (fun k hk h => h.elim (fun h => hv13.ne_blk hE3 (by decide) (by rw [← h]; exact hk)) (fun h => hv13.ne_blk hL3 (by decide) (by rw [← h]; exact hk)))
  generalize ((w3.setCell ⟨w.heap.size + 1 + 1, 1, none⟩ (Value.slice A1 b1.length c1)).setCell ⟨w.heap.size + 1 + 1 + 1, 1, none⟩ .nilIface) = w4 at *
  have k14 := hO4.cell 14
  have k15 := hO4.cell 15
  have k16 := hO4.cell 16
  have HP : Hid (Calls Tryz.prog 151 #[.agg #[.int .i64 G, .int .i64 D, .slice C xs.length cx]] w4 (PutP w4 bs .nilIface)) := (cert_Put (cap := cx) (HC.out.fr hf04 (fun _ _ => id)) (Nat.le_trans HBC.out hf04.size) (by have := HXL.out; omega) G D).mono fun _ _ h => HBS.out ▸ putP_of HXL.out h
  go_upto_region 7 with (first | (go_at_call 151; refine HP.out.mono ?_; rintro e w5 ⟨v2, rfl, hv25, hf5⟩; obtain ⟨A2, c2, rfl, _, _⟩ := hv25.form; have hO5 := hO4.fr hf5 id; have hR5 := hR4.fr hf5 id; have hL5 := hL4.fr hf5 id; have hE5 := hE4.fr hf5 id; have hv05 := hv04.fr hf5 (fun _ _ => id); have hv15 := hv14.fr hf5 (fun _ _ => id); have hf05 := hf04.then_ hf5; have lc := hL5.cell 2; have lf := hL5.frozen 2; have ec := hE5.cell 2; have ef := hE5.frozen 2))
  have hO6 : Blk ((w5.setCell ⟨w.heap.size + 1 + 1, 2, none⟩ (Value.slice A2 bs.length c2)).setCell ⟨w.heap.size + 1 + 1 + 1, 2, none⟩ Value.nilIface) _ _ _ := ((hO5.far (fun h => by (try dsimp only at h); omega) _).far (fun h => by (try dsimp only at h); omega) _)
  have hR6 : Blk ((w5.setCell ⟨w.heap.size + 1 + 1, 2, none⟩ (Value.slice A2 bs.length c2)).setCell ⟨w.heap.size + 1 + 1 + 1, 2, none⟩ Value.nilIface) _ _ _ := ((hR5.far (fun h => by (try dsimp only at h); omega) _).far (fun h => by (try dsimp only at h); omega) _)
  have hL6 : Blk ((w5.setCell ⟨w.heap.size + 1 + 1, 2, none⟩ (Value.slice A2 bs.length c2)).setCell ⟨w.heap.size + 1 + 1 + 1, 2, none⟩ Value.nilIface) _ _ _ := ((hL5.set_ 2 _).far (fun h => by (try dsimp only at h); omega) _)
  have hE6 : Blk ((w5.setCell ⟨w.heap.size + 1 + 1, 2, none⟩ (Value.slice A2 bs.length c2)).setCell ⟨w.heap.size + 1 + 1 + 1, 2, none⟩ Value.nilIface) _ _ _ := ((hE5.far (fun h => by (try dsimp only at h); omega) _).set_ 2 _)
  have hf06 : Fr (fun _ => False) w ((w5.setCell ⟨w.heap.size + 1 + 1, 2, none⟩ (Value.slice A2 bs.length c2)).setCell ⟨w.heap.size + 1 + 1 + 1, 2, none⟩ Value.nilIface) := ((hf05.setCell (p := ⟨w.heap.size + 1 + 1, 2, none⟩) (fun h => absurd h (by dsimp only; omega)) _).setCell (p := ⟨w.heap.size + 1 + 1 + 1, 2, none⟩) (fun h => absurd h (by dsimp only; omega)) _)
  have hv06 : Own8 ((w5.setCell ⟨w.heap.size + 1 + 1, 2, none⟩ (Value.slice A2 bs.length c2)).setCell ⟨w.heap.size + 1 + 1 + 1, 2, none⟩ Value.nilIface) _ _ _ := hv05.fr (((Fr.refl (fun k => k = (w.heap.size + 1 + 1 + 1) ∨ k = (w.heap.size + 1 + 1)) w5).setCell (p := ⟨w.heap.size + 1 + 1, 2, none⟩) (fun _ => Or.inr rfl) _).setCell (p := ⟨w.heap.size + 1 + 1 + 1, 2, none⟩) (fun _ => Or.inl rfl) _) (fun k hk h => h.elim (fun h => hv05.ne_blk hE5 (by decide) (by rw [← h]; exact hk)) (fun h => hv05.ne_blk hL5 (by decide) (by rw [← h]; exact hk)))
  have hv16 : Own8 ((w5.setCell ⟨w.heap.size + 1 + 1, 2, none⟩ (Value.slice A2 bs.length c2)).setCell ⟨w.heap.size + 1 + 1 + 1, 2, none⟩ Value.nilIface) _ _ _ := hv15.fr (((Fr.refl (fun k => k = (w.heap.size + 1 + 1 + 1) ∨ k = (w.heap.size + 1 + 1)) w5).setCell (p := ⟨w.heap.size + 1 + 1, 2, none⟩) (fun _ => Or.inr rfl) _).setCell (p := ⟨w.heap.size + 1 + 1 + 1, 2, none⟩) (fun _ => Or.inl rfl) _) (fun k hk h => h.elim (fun h => hv15.ne_blk hE5 (by decide) (by rw [← h]; exact hk)) (fun h => hv15.ne_blk hL5 (by decide) (by rw [← h]; exact hk)))
  have hv26 : Own8 ((w5.setCell ⟨w.heap.size + 1 + 1, 2, none⟩ (Value.slice A2 bs.length c2)).setCell ⟨w.heap.size + 1 + 1 + 1, 2, none⟩ Value.nilIface) _ _ _ := hv25.fr (((Fr.refl (fun k => k = (w.heap.size + 1 + 1 + 1) ∨ k = (w.heap.size + 1 + 1)) w5).setCell (p := ⟨w.heap.size + 1 + 1, 2, none⟩) (fun _ => Or.inr rfl) _).setCell (p := ⟨w.heap.size + 1 + 1 + 1, 2, none⟩) (fun _ => Or.inl rfl) _) (fun k hk h => h.elim (fun h => hv25.ne_blk hE5 (by decide) (by rw [← h]; exact hk)) (fun h => hv25.ne_blk hL5 (by decide) (by rw [← h]; exact hk)))
  generalize ((w5.setCell ⟨w.heap.size + 1 + 1, 2, none⟩ (Value.slice A2 bs.length c2)).setCell ⟨w.heap.size + 1 + 1 + 1, 2, none⟩ Value.nilIface) = w6 at *
  have ec := hE6.cell 2
  have lc := hL6.cell 2
  obtain ⟨_, _, hve, _, hrow⟩ := hv26.form
  cases hve
  have HGET := Lib.hid (cert_Get (cap := c2) hrow (by have := HBL.out; omega) H8.out)
  clear hrow
  go_upto_region 9 with (first | (go_at_call 152; refine HGET.out.mono ?_; rintro e w7 hg7; obtain ⟨x3, rfl, hf7⟩ := get_fine HG.out hg7; have hO7 := hO6.fr hf7 id; have hR7 := hR6.fr hf7 id; have hL7 := hL6.fr hf7 id; have hE7 := hE6.fr hf7 id; have hv07 := hv06.fr hf7 (fun _ _ => id); have hv17 := hv16.fr hf7 (fun _ _ => id); have hv27 := hv26.fr hf7 (fun _ _ => id); have hf07 := hf06.then_ hf7; have ec := hE7.cell 3; have ef := hE7.frozen 3))
  have hO8 : Blk (w7.setCell ⟨w.heap.size + 1 + 1 + 1, 3, none⟩ Value.nilIface) _ _ _ := (hO7.far (fun h => by (try dsimp only at h); omega) _)
  have hR8 : Blk (w7.setCell ⟨w.heap.size + 1 + 1 + 1, 3, none⟩ Value.nilIface) _ _ _ := (hR7.far (fun h => by (try dsimp only at h); omega) _)
  have hL8 : Blk (w7.setCell ⟨w.heap.size + 1 + 1 + 1, 3, none⟩ Value.nilIface) _ _ _ := (hL7.far (fun h => by (try dsimp only at h); omega) _)
  have hE8 : Blk (w7.setCell ⟨w.heap.size + 1 + 1 + 1, 3, none⟩ Value.nilIface) _ _ _ := (hE7.set_ 3 _)
  have hf08 : Fr (fun _ => False) w (w7.setCell ⟨w.heap.size + 1 + 1 + 1, 3, none⟩ Value.nilIface) := (hf07.setCell (p := ⟨w.heap.size + 1 + 1 + 1, 3, none⟩) (fun h => absurd h (by dsimp only; omega)) _)
  have hv08 : Own8 (w7.setCell ⟨w.heap.size + 1 + 1 + 1, 3, none⟩ Value.nilIface) _ _ _ := hv07.fr ((Fr.refl (fun k => k = (w.heap.size + 1 + 1 + 1)) w7).setCell (p := ⟨w.heap.size + 1 + 1 + 1, 3, none⟩) (fun _ => rfl) _) (fun k hk h => hv07.ne_blk hE7 (by decide) (by rw [← h]; exact hk))
  have hv18 : Own8 (w7.setCell ⟨w.heap.size + 1 + 1 + 1, 3, none⟩ Value.nilIface) _ _ _ := hv17.fr ((Fr.refl (fun k => k = (w.heap.size + 1 + 1 + 1)) w7).setCell (p := ⟨w.heap.size + 1 + 1 + 1, 3, none⟩) (fun _ => rfl) _) (fun k hk h => hv17.ne_blk hE7 (by decide) (by rw [← h]; exact hk))
  have hv28 : Own8 (w7.setCell ⟨w.heap.size + 1 + 1 + 1, 3, none⟩ Value.nilIface) _ _ _ := hv27.fr ((Fr.refl (fun k => k = (w.heap.size + 1 + 1 + 1)) w7).setCell (p := ⟨w.heap.size + 1 + 1 + 1, 3, none⟩) (fun _ => rfl) _) (fun k hk h => hv27.ne_blk hE7 (by decide) (by rw [← h]; exact hk))
  generalize (w7.setCell ⟨w.heap.size + 1 + 1 + 1, 3, none⟩ Value.nilIface) = w8 at *
  have HER : Hid (ErrRow w8 (w.heap.size + 1 + 1 + 1) [(Value.iface t0 u0), .nilIface, .nilIface, .nilIface]) := err_row hE8 (.inr ⟨_, _, rfl⟩) (.inl rfl) (.inl rfl) (.inl rfl)
  go_upto_region 10 with (first | (go_at_call 153; refine (containsErr (cap := 4) (z := true) rfl HER.out (by simp)).mono ?_; rintro e w9 ⟨rfl, rfl⟩))
  have hf08d : Fr (fun _ => False) w w8.drew := hf08.drew
  have hO8d := hO8.drew
  have hL8d := hL8.drew
  have hR8d := hR8.drew
  have rc0 := hR8d.cell 0
  have rc1 := hR8d.cell 1
  have rc2 := hR8d.cell 2
  have rf0 := hR8d.frozen 0
  have rf1 := hR8d.frozen 1
  have rf2 := hR8d.frozen 2
  refine wp_region_noPanic ?_
  refine wp_region_held_drew (S := (fun w' => w'.cell? ⟨w.heap.size, 0, none⟩ = some (.int .i64 6) ∧ w'.cell? ⟨w.heap.size, 1, none⟩ = some (.int .i64 c) ∧ w'.cell? ⟨w.heap.size, 2, none⟩ = some (.int .i64 n) ∧ w'.cell? ⟨w.heap.size, 3, none⟩ = some (.slice A nr cr) ∧ w'.cell? ⟨w.heap.size, 4, none⟩ = some (.slice B nw cw) ∧ w'.cell? ⟨w.heap.size, 17, none⟩ = some (.int .i64 0) ∧ w'.cell? ⟨w.heap.size, 18, none⟩ = some (.int .i64 0) ∧ w'.cell? ⟨w.heap.size, 19, none⟩ = some (.slice none 0 0) ∧ w'.cell? ⟨w.heap.size, 20, none⟩ = some (.slice none 0 0) ∧ w'.cell? ⟨w.heap.size + 1 + 1, 0, none⟩ = some ((Value.slice A0 b0.length c0)) ∧ w'.cell? ⟨w.heap.size + 1 + 1, 1, none⟩ = some ((Value.slice A1 b1.length c1)) ∧ w'.cell? ⟨w.heap.size + 1 + 1, 2, none⟩ = some ((Value.slice A2 bs.length c2)))) (by kernel_rfl) (⟨hO8.cell 0, hO8.cell 1, hO8.cell 2, hO8.cell 3, hO8.cell 4, hO8.cell 17, hO8.cell 18, hO8.cell 19, hO8.cell 20, hL8.cell 0, hL8.cell 1, hL8.cell 2⟩) (fun hHeld => ?_)
  have hE8d := hE8.drew
  generalize w8.drew = w9 at *
  refine wpAnyH_takeAt (i := 0) (v := ?vc0) (some 57) rfl rfl (by kernel_rfl) (by kernel_rfl) (by kernel_rfl) (fun _ _ _ h => h) (Or.inl ⟨by rfl, ?hyc0⟩) (by assumption) ?restc0
  case hyc0 => (intro w hSw; (try dsimp only at hSw); go_simp; all_goals with_reducible rfl)
  simp only [Act.put, List.setIfInBounds_toArray, List.set_cons_zero, List.set_cons_succ]
  refine wpAnyH_takeAt (i := 1) (v := ?vc1) (some 58) rfl rfl (by kernel_rfl) (by kernel_rfl) (by kernel_rfl) (fun _ _ _ h => h) (Or.inl ⟨by rfl, ?hyc1⟩) (by assumption) ?restc1
  case hyc1 => (intro w hSw; (try dsimp only at hSw); go_simp; all_goals with_reducible rfl)
  simp only [Act.put, List.setIfInBounds_toArray, List.set_cons_zero, List.set_cons_succ]
  refine wpAnyH_takeAt (i := 2) (v := ?vc2) (some 59) rfl rfl (by kernel_rfl) (by kernel_rfl) (by kernel_rfl) (fun _ _ _ h => h) (Or.inl ⟨by rfl, ?hyc2⟩) (by assumption) ?restc2
  case hyc2 => (intro w hSw; (try dsimp only at hSw); go_simp; all_goals with_reducible rfl)
  simp only [Act.put, List.setIfInBounds_toArray, List.set_cons_zero, List.set_cons_succ]
  refine wpAnyH_takeAt (i := 3) (v := ?vc3) (some 60) rfl rfl (by kernel_rfl) (by kernel_rfl) (by kernel_rfl) (fun _ _ _ h => h) (Or.inl ⟨by rfl, ?hyc3⟩) (by assumption) ?restc3
  case hyc3 => (intro w hSw; (try dsimp only at hSw); go_simp; all_goals with_reducible rfl)
  simp only [Act.put, List.setIfInBounds_toArray, List.set_cons_zero, List.set_cons_succ]
  refine wpAnyH_takeAt (i := 4) (some 61) rfl rfl (by kernel_rfl) (by kernel_rfl) (by kernel_rfl) (fun _ _ _ h => h) (Or.inr ⟨by rfl, rfl⟩) (by assumption) ?_
  simp only [Act.put, List.setIfInBounds_toArray, List.set_cons_zero, List.set_cons_succ]
  refine wpAnyH_takeAt (i := 5) (some 62) rfl rfl (by kernel_rfl) (by kernel_rfl) (by kernel_rfl) (fun _ _ _ h => h) (Or.inr ⟨by rfl, rfl⟩) (by assumption) ?_
  simp only [Act.put, List.setIfInBounds_toArray, List.set_cons_zero, List.set_cons_succ]
  refine wpAnyH_takeAt (i := 6) (some 63) rfl rfl (by kernel_rfl) (by kernel_rfl) (by kernel_rfl) (fun _ _ _ h => h) (Or.inr ⟨by rfl, rfl⟩) (by assumption) ?_
  simp only [Act.put, List.setIfInBounds_toArray, List.set_cons_zero, List.set_cons_succ]
  refine wpAnyH_takeAt (i := 7) (v := ?vc7) (some 64) rfl rfl (by kernel_rfl) (by kernel_rfl) (by kernel_rfl) (fun _ _ _ h => h) (Or.inl ⟨by rfl, ?hyc7⟩) (by assumption) ?restc7
  case hyc7 => (intro w hSw; (try dsimp only at hSw); go_simp; all_goals with_reducible rfl)
  simp only [Act.put, List.setIfInBounds_toArray, List.set_cons_zero, List.set_cons_succ]
  refine wpAnyH_takeAt (i := 8) (v := ?vc8) (some 65) rfl rfl (by kernel_rfl) (by kernel_rfl) (by kernel_rfl) (fun _ _ _ h => h) (Or.inl ⟨by rfl, ?hyc8⟩) (by assumption) ?restc8
  case hyc8 => (intro w hSw; (try dsimp only at hSw); go_simp; all_goals with_reducible rfl)
  simp only [Act.put, List.setIfInBounds_toArray, List.set_cons_zero, List.set_cons_succ]
  refine wpAnyH_takeAt (i := 9) (some 66) rfl rfl (by kernel_rfl) (by kernel_rfl) (by kernel_rfl) (fun _ _ _ h => h) (Or.inr ⟨by rfl, rfl⟩) (by assumption) ?_
  simp only [Act.put, List.setIfInBounds_toArray, List.set_cons_zero, List.set_cons_succ]
  refine wpAnyH_takeAt (i := 10) (some 67) rfl rfl (by kernel_rfl) (by kernel_rfl) (by kernel_rfl) (fun _ _ _ h => h) (Or.inr ⟨by rfl, rfl⟩) (by assumption) ?_
  simp only [Act.put, List.setIfInBounds_toArray, List.set_cons_zero, List.set_cons_succ]
  refine wpAnyH_takeAt (i := 11) (some 68) rfl rfl (by kernel_rfl) (by kernel_rfl) (by kernel_rfl) (fun _ _ _ h => h) (Or.inr ⟨by rfl, rfl⟩) (by assumption) ?_
  simp only [Act.put, List.setIfInBounds_toArray, List.set_cons_zero, List.set_cons_succ]
  refine wpAnyH_takeAt (i := 12) (v := ?vc12) (some 69) rfl rfl (by kernel_rfl) (by kernel_rfl) (by kernel_rfl) (fun _ _ _ h => h) (Or.inl ⟨by rfl, ?hyc12⟩) (by assumption) ?restc12
  case hyc12 => (intro w hSw; (try dsimp only at hSw); go_simp; all_goals with_reducible rfl)
  simp only [Act.put, List.setIfInBounds_toArray, List.set_cons_zero, List.set_cons_succ]
  refine wpAnyH_takeAt (i := 13) (v := ?vc13) (some 70) rfl rfl (by kernel_rfl) (by kernel_rfl) (by kernel_rfl) (fun _ _ _ h => h) (Or.inl ⟨by rfl, ?hyc13⟩) (by assumption) ?restc13
  case hyc13 => (intro w hSw; (try dsimp only at hSw); go_simp; all_goals with_reducible rfl)
  simp only [Act.put, List.setIfInBounds_toArray, List.set_cons_zero, List.set_cons_succ]
  refine wpAnyH_takeAt (i := 14) (some 71) rfl rfl (by kernel_rfl) (by kernel_rfl) (by kernel_rfl) (fun _ _ _ h => h) (Or.inr ⟨by rfl, rfl⟩) (by assumption) ?_
  simp only [Act.put, List.setIfInBounds_toArray, List.set_cons_zero, List.set_cons_succ]
  refine wpAnyH_takeAt (i := 15) (some 72) rfl rfl (by kernel_rfl) (by kernel_rfl) (by kernel_rfl) (fun _ _ _ h => h) (Or.inr ⟨by rfl, rfl⟩) (by assumption) ?_
  simp only [Act.put, List.setIfInBounds_toArray, List.set_cons_zero, List.set_cons_succ]
  refine wpAnyH_takeAt (i := 16) (some 73) rfl rfl (by kernel_rfl) (by kernel_rfl) (by kernel_rfl) (fun _ _ _ h => h) (Or.inr ⟨by rfl, rfl⟩) (by assumption) ?_
  simp only [Act.put, List.setIfInBounds_toArray, List.set_cons_zero, List.set_cons_succ]
  refine wpAnyH_takeAt (i := 17) (some 74) rfl rfl (by kernel_rfl) (by kernel_rfl) (by kernel_rfl) (fun _ _ _ h => h) (Or.inr ⟨by rfl, rfl⟩) (by assumption) ?_
  simp only [Act.put, List.setIfInBounds_toArray, List.set_cons_zero, List.set_cons_succ]
  refine wpAnyH_takeAt (i := 18) (some 75) rfl rfl (by kernel_rfl) (by kernel_rfl) (by kernel_rfl) (fun _ _ _ h => h) (Or.inr ⟨by rfl, rfl⟩) (by assumption) ?_
  simp only [Act.put, List.setIfInBounds_toArray, List.set_cons_zero, List.set_cons_succ]
  refine wpAnyH_takeAt (i := 19) (v := ?vc19) (some 76) rfl rfl (by kernel_rfl) (by kernel_rfl) (by kernel_rfl) (fun _ _ _ h => h) (Or.inl ⟨by rfl, ?hyc19⟩) (by assumption) ?restc19
  case hyc19 => (intro w hSw; (try dsimp only at hSw); go_simp; all_goals with_reducible rfl)
  simp only [Act.put, List.setIfInBounds_toArray, List.set_cons_zero, List.set_cons_succ]
  refine wpAnyH_takeAt (i := 20) (v := ?vc20) (some 77) rfl rfl (by kernel_rfl) (by kernel_rfl) (by kernel_rfl) (fun _ _ _ h => h) (Or.inl ⟨by rfl, ?hyc20⟩) (by assumption) ?restc20
  case hyc20 => (intro w hSw; (try dsimp only at hSw); go_simp; all_goals with_reducible rfl)
  simp only [Act.put, List.setIfInBounds_toArray, List.set_cons_zero, List.set_cons_succ]
  refine wpAnyH_takeAt (i := 21) (some 78) rfl rfl (by kernel_rfl) (by kernel_rfl) (by kernel_rfl) (fun _ _ _ h => h) (Or.inr ⟨by rfl, rfl⟩) (by assumption) ?_
  simp only [Act.put, List.setIfInBounds_toArray, List.set_cons_zero, List.set_cons_succ]
  refine wpAnyH_takeAt (i := 22) (some 79) rfl rfl (by kernel_rfl) (by kernel_rfl) (by kernel_rfl) (fun _ _ _ h => h) (Or.inr ⟨by rfl, rfl⟩) (by assumption) ?_
  simp only [Act.put, List.setIfInBounds_toArray, List.set_cons_zero, List.set_cons_succ]
  refine wpAnyH_takeAt (i := 23) (some 80) rfl rfl (by kernel_rfl) (by kernel_rfl) (by kernel_rfl) (fun _ _ _ h => h) (Or.inr ⟨by rfl, rfl⟩) (by assumption) ?_
  simp only [Act.put, List.setIfInBounds_toArray, List.set_cons_zero, List.set_cons_succ]
  refine wpAnyH_takeAt (i := 24) (v := ?vc24) (some 81) rfl rfl (by kernel_rfl) (by kernel_rfl) (by kernel_rfl) (fun _ _ _ h => h) (Or.inl ⟨by rfl, ?hyc24⟩) (by assumption) ?restc24
  case hyc24 => (intro w hSw; (try dsimp only at hSw); go_simp; all_goals with_reducible rfl)
  simp only [Act.put, List.setIfInBounds_toArray, List.set_cons_zero, List.set_cons_succ]
  refine wpAnyH_ready (rs := [25]) (by kernel_rfl) (by simp) ?_
  refine AllReadyH.cons rfl (fun K hK => ?_) AllReadyH.nil
  go_simp
  refine hK.out _ _ (⟨(((hO8d.far (fun h => by (try dsimp only at h); omega) _).far (fun h => by (try dsimp only at h); omega) _).far (fun h => by (try dsimp only at h); omega) _).cell 0, (((hO8d.far (fun h => by (try dsimp only at h); omega) _).far (fun h => by (try dsimp only at h); omega) _).far (fun h => by (try dsimp only at h); omega) _).cell 1, (((hO8d.far (fun h => by (try dsimp only at h); omega) _).far (fun h => by (try dsimp only at h); omega) _).far (fun h => by (try dsimp only at h); omega) _).cell 2, (((hO8d.far (fun h => by (try dsimp only at h); omega) _).far (fun h => by (try dsimp only at h); omega) _).far (fun h => by (try dsimp only at h); omega) _).cell 3, (((hO8d.far (fun h => by (try dsimp only at h); omega) _).far (fun h => by (try dsimp only at h); omega) _).far (fun h => by (try dsimp only at h); omega) _).cell 4, (((hO8d.far (fun h => by (try dsimp only at h); omega) _).far (fun h => by (try dsimp only at h); omega) _).far (fun h => by (try dsimp only at h); omega) _).cell 17, (((hO8d.far (fun h => by (try dsimp only at h); omega) _).far (fun h => by (try dsimp only at h); omega) _).far (fun h => by (try dsimp only at h); omega) _).cell 18, (((hO8d.far (fun h => by (try dsimp only at h); omega) _).far (fun h => by (try dsimp only at h); omega) _).far (fun h => by (try dsimp only at h); omega) _).cell 19, (((hO8d.far (fun h => by (try dsimp only at h); omega) _).far (fun h => by (try dsimp only at h); omega) _).far (fun h => by (try dsimp only at h); omega) _).cell 20, (((hL8d.far (fun h => by (try dsimp only at h); omega) _).far (fun h => by (try dsimp only at h); omega) _).far (fun h => by (try dsimp only at h); omega) _).cell 0, (((hL8d.far (fun h => by (try dsimp only at h); omega) _).far (fun h => by (try dsimp only at h); omega) _).far (fun h => by (try dsimp only at h); omega) _).cell 1, (((hL8d.far (fun h => by (try dsimp only at h); omega) _).far (fun h => by (try dsimp only at h); omega) _).far (fun h => by (try dsimp only at h); omega) _).cell 2⟩) (fun hHeld => ?_)
  clear hK K
  refine wpAnyH_takeAt (i := 26) (v := ?vc26) (some 3) rfl rfl (by kernel_rfl) (by kernel_rfl) (by kernel_rfl) (fun _ _ _ h => h) (Or.inl ⟨by rfl, ?hyc26⟩) (by assumption) ?restc26
  case hyc26 => (intro w hSw; (try dsimp only at hSw); go_simp; all_goals with_reducible rfl)
  simp only [Act.put, List.setIfInBounds_toArray, List.set_cons_zero, List.set_cons_succ]
  refine wpAnyH_done (by kernel_rfl) ?_ _
  refine NoPanic.normal ?_
  have hO12 : Blk (((w9.setCell ⟨w.heap.size + 1, 0, none⟩ (Value.slice A0 b0.length c0)).setCell ⟨w.heap.size + 1, 1, none⟩ (Value.slice A1 b1.length c1)).setCell ⟨w.heap.size + 1, 2, none⟩ (Value.slice A2 bs.length c2)) _ _ _ := (((hO8d.far (fun h => by (try dsimp only at h); omega) _).far (fun h => by (try dsimp only at h); omega) _).far (fun h => by (try dsimp only at h); omega) _)
  have hR12 : Blk (((w9.setCell ⟨w.heap.size + 1, 0, none⟩ (Value.slice A0 b0.length c0)).setCell ⟨w.heap.size + 1, 1, none⟩ (Value.slice A1 b1.length c1)).setCell ⟨w.heap.size + 1, 2, none⟩ (Value.slice A2 bs.length c2)) _ _ _ := (((hR8d.set_ 0 _).set_ 1 _).set_ 2 _)
  have hL12 : Blk (((w9.setCell ⟨w.heap.size + 1, 0, none⟩ (Value.slice A0 b0.length c0)).setCell ⟨w.heap.size + 1, 1, none⟩ (Value.slice A1 b1.length c1)).setCell ⟨w.heap.size + 1, 2, none⟩ (Value.slice A2 bs.length c2)) _ _ _ := (((hL8d.far (fun h => by (try dsimp only at h); omega) _).far (fun h => by (try dsimp only at h); omega) _).far (fun h => by (try dsimp only at h); omega) _)
  have hE12 : Blk (((w9.setCell ⟨w.heap.size + 1, 0, none⟩ (Value.slice A0 b0.length c0)).setCell ⟨w.heap.size + 1, 1, none⟩ (Value.slice A1 b1.length c1)).setCell ⟨w.heap.size + 1, 2, none⟩ (Value.slice A2 bs.length c2)) _ _ _ := (((hE8d.far (fun h => by (try dsimp only at h); omega) _).far (fun h => by (try dsimp only at h); omega) _).far (fun h => by (try dsimp only at h); omega) _)
  have hf012 : Fr (fun _ => False) w (((w9.setCell ⟨w.heap.size + 1, 0, none⟩ (Value.slice A0 b0.length c0)).setCell ⟨w.heap.size + 1, 1, none⟩ (Value.slice A1 b1.length c1)).setCell ⟨w.heap.size + 1, 2, none⟩ (Value.slice A2 bs.length c2)) := (((hf08d.setCell (p := ⟨w.heap.size + 1, 0, none⟩) (fun h => absurd h (by dsimp only; omega)) _).setCell (p := ⟨w.heap.size + 1, 1, none⟩) (fun h => absurd h (by dsimp only; omega)) _).setCell (p := ⟨w.heap.size + 1, 2, none⟩) (fun h => absurd h (by dsimp only; omega)) _)
  generalize (((w9.setCell ⟨w.heap.size + 1, 0, none⟩ (Value.slice A0 b0.length c0)).setCell ⟨w.heap.size + 1, 1, none⟩ (Value.slice A1 b1.length c1)).setCell ⟨w.heap.size + 1, 2, none⟩ (Value.slice A2 bs.length c2)) = w12 at *
  have y0 := hR12.cell 0
  have y1 := hR12.cell 1
  have y2 := hR12.cell 2
  simp at y0 y1 y2
  try go_wp2_with fail
  refine bodyPost_ret (v := .tuple #[.agg #[(Value.slice A0 b0.length c0), (Value.slice A1 b1.length c1), (Value.slice A2 bs.length c2)], .bool false]) (by simp [results, Tryz.results123, go_sem, y0, y1, y2]) rfl ?_
  exact ⟨A0, _, c0, A1, _, c1, A2, _, c2, rfl, hf012⟩
end Go.Proofs.YtmkdhhhoodeemaaGreat

/- A certificate's bytes are read as it. -/
namespace Go.Proofs.YtmkdhhhoodeemaaGreat
open Go Go.RowKit
theorem intC_zero {bs : List Int} {p : Nat} {most : Int} : intC bs p most = 0 ↔ numC bs p = 0 ∧ 0 ≤ numX bs p ∧ numX bs p ≤ most := by
  unfold intC
  split
  · rename_i h
    constructor
    · intro h1; exact absurd h1 h
    · intro h1; exact absurd h1.1 h
  · rename_i h
    have h : numC bs p = 0 := by simpa using h
    split
    · constructor
      · intro h1; cases h1
      · intro h1; omega
    · split
      · constructor
        · intro h1; cases h1
        · intro h1; omega
      · exact ⟨fun _ => ⟨h, by omega, by omega⟩, fun _ => rfl⟩
theorem getE1_zero {x : Int} : getE1 x = 0 ↔ 0 ≤ x ∧ x ≤ 2147483647 := by
  unfold getE1
  split
  · constructor
    · intro h; cases h
    · intro h; omega
  · split
    · constructor
      · intro h; cases h
      · intro h; omega
    · exact ⟨fun _ => by omega, fun _ => rfl⟩
def May (G D : Int) (xs : List Int) : Prop := (0 ≤ G ∧ G < 2147483648 ∧ 0 ≤ D ∧ D < 2147483648) ∧ ∀ y ∈ xs, 0 ≤ y ∧ y < 2147483648
def Wf64 (n : Int) : Prop := -9223372036854775808 ≤ n ∧ n ≤ 9223372036854775807
theorem put_get {G D : Int} {xs : List Int} (hl : xs.length ≤ 1024) (hG : Wf64 G) (hD : Wf64 D) (hx : ∀ y ∈ xs, Wf64 y) :
    (getOk (num8 G ++ num8 D ++ numsB xs) ↔ May G D xs) ∧ numX (num8 G ++ num8 D ++ numsB xs) 0 = G ∧ numX (num8 G ++ num8 D ++ numsB xs) 8 = D ∧ numsX (num8 G ++ num8 D ++ numsB xs) 16 = xs := by
  generalize hb : num8 G ++ num8 D ++ numsB xs = b
  have h0 : b.drop 0 = num8 G ++ (num8 D ++ numsB xs) := by rw [List.drop_zero, ← hb, List.append_assoc]
  obtain ⟨a1, a2, a3⟩ := num_read h0 hG.1 hG.2
  obtain ⟨b1, b2, b3⟩ := num_read a3 hD.1 hD.2
  have b3' : b.drop 16 = numsB xs ++ [] := by rw [List.append_nil]; exact b3
  obtain ⟨c1, c2, c3⟩ := nums_read b3' hl hx
  have c4 : ¬ numsP b 16 < b.length := fun h => by
    have := congrArg List.length c3
    rw [List.length_drop, List.length_nil] at this
    omega
  have b1' : numC b 8 = 0 := b1
  have b2' : numX b 8 = D := b2
  refine ⟨?_, a2, b2', c2⟩
  unfold getOk May
  rw [intC_zero, intC_zero, a2, b2', c2]
  constructor
  · rintro ⟨⟨_, g1, g2⟩, ⟨_, g3, g4⟩, _, _, g5⟩
    exact ⟨by omega, fun y hy => by have := getE1_zero.1 (g5 y hy); omega⟩
  · rintro ⟨g1, g2⟩
    exact ⟨⟨a1, by omega⟩, ⟨b1', by omega⟩, c1, c4, fun y hy => getE1_zero.2 (by have := g2 y hy; omega)⟩
end Go.Proofs.YtmkdhhhoodeemaaGreat

/- relay: Begin, Cancel, Move. -/
namespace Go.Proofs.YtmkdhhhoodeemaaGreat
open Go Go.RowKit
def certZ : List Int := num8 0 ++ num8 0 ++ numsB []
theorem getOk_zero : getOk (num8 0 ++ num8 0 ++ numsB []) := (put_get (xs := []) (by simp) ⟨by omega, by omega⟩ ⟨by omega, by omega⟩ (fun y h => by cases h)).1.2 ⟨by omega, fun y h => by cases h⟩
theorem certZ_len : certZ.length ≤ 65536 := by simp [certZ, num8_length, numsB, count4_length]
instance (s : SayD) : Decidable (ZSay s) := decidable_of_iff (zeroSay s = true) (zeroSay_iff s)
theorem orderB_len {kind : Int} {a b c : List Int} (ha : a.length ≤ 65536) (hb : b.length ≤ 65536) (hc : c.length ≤ 65536) : (orderB kind a b c).length ≤ 1000000 := by
  simp [orderB, num8_length, textB, count4_length, numsB]
  omega
def wordB (s : SayD) : List Int := if OkSay s then sayB s else []
theorem sayB_short (s : SayD) : (wordB s).length ≤ 65536 := by
  unfold wordB
  split
  · rename_i h1
    obtain ⟨_, _, h3⟩ := sayB_length h1
    omega
  · simp
def zeroS : SayD := ⟨0, 0, false, ⟨#[]⟩, ⟨#[]⟩, 0, 0, 0, 0⟩
theorem intRow_nil (w : World) (B : Nat) : IntRow w B none [] := fun k x h => by cases h
theorem PutNo.put {w : World} {r : Value} {e : Ending} {w' : World} (h : PutNo w r e w') : PutP w [] r e w' := by
  obtain ⟨x, h1, rfl, h3⟩ := h
  exact ⟨_, h1, Own8.nil _ _, h3⟩
theorem NonePair.put {w : World} {e : Ending} {w' : World} (h : NonePair w e w') : PutP w [] .nilIface e w' := ⟨_, h.1, Own8.nil _ _, h.2⟩
/-- The order of a right transaction. -/
theorem order_begin {w : World} {F : Nat → Prop} {A B : Option Addr} {cr cw : Nat} {c n : Int} {R : List (ByteArray × Int)} {W : List (ByteArray × ByteArray)} (hr : ReadRow w F A R) (hw : WriteRow w F B W) (h : TOk c n R W) :
    Calls Tryz.prog 95 #[.agg #[.int .i64 6, .int .i64 c, .int .i64 n, .slice A R.length cr, .slice B W.length cw, .int .i64 zeroS.kind, .int .i64 zeroS.txn, .bool zeroS.yes, .string zeroS.from_, .string zeroS.to_, .int .i64 zeroS.epoch, .int .i64 zeroS.shard, .int .i64 zeroS.target, .int .i64 zeroS.root, .int .i64 0, .int .i64 0, .slice none 0 0, .int .i64 0, .int .i64 0, .slice none 0 0, .slice none 0 0]] w (PutP w (orderB 6 (txnB c n R W) [] certZ) .nilIface) := by
  refine say_PutOrder_ok (txnB_len h) (by simp) certZ_len (fun w' hf => ?_)
  have hr1 := hr.fr hf (fun _ _ => id)
  have hw1 := hw.fr hf (fun _ _ => id)
  refine say_texts_begin (xs := []) (intRow_nil w' 0) (Nat.zero_le _) (by simp) getOk_zero (bs := certZ) rfl (nm := true) (sz := false) (b0 := txnB c n R W) (b1 := []) (r0 := .nilIface) (r1 := .nilIface) ((zeroSay_iff _).2 rfl) ?_ ?_ rfl rfl rfl ?_
  · intro w2 hf2
    exact say_optTxn_put (fun w3 hf3 => txn_Put_ok ((hr1.fr hf2 (fun _ _ => id)).fr hf3 (fun _ _ => id)) ((hw1.fr hf2 (fun _ _ => id)).fr hf3 (fun _ _ => id)) h)
  · intro w2 hf2
    exact (say_optSay_none _ _ _ _ _ _ _ _ _ _ _).mono fun _ _ h => h.put
  · intro w2 _
    exact say_none_not _ (by have := h.2.2.1; omega)
theorem order_begin_no {w : World} {F : Nat → Prop} {A B : Option Addr} {cr cw : Nat} {c n : Int} {R : List (ByteArray × Int)} {W : List (ByteArray × ByteArray)} (hr : ReadRow w F A R) (hw : WriteRow w F B W) (hs : FewT R W) (h : ¬ TOk c n R W) :
    Calls Tryz.prog 95 #[.agg #[.int .i64 6, .int .i64 c, .int .i64 n, .slice A R.length cr, .slice B W.length cw, .int .i64 zeroS.kind, .int .i64 zeroS.txn, .bool zeroS.yes, .string zeroS.from_, .string zeroS.to_, .int .i64 zeroS.epoch, .int .i64 zeroS.shard, .int .i64 zeroS.target, .int .i64 zeroS.root, .int .i64 0, .int .i64 0, .slice none 0 0, .int .i64 0, .int .i64 0, .slice none 0 0, .slice none 0 0]] w (fun e w' => ∃ t u, e = .returned (.tuple #[.slice none 0 0, .iface t u]) ∧ Fr (fun _ => False) w w') := by
  refine say_PutOrder_bad (fun w' hf => ?_)
  have hr1 := hr.fr hf (fun _ _ => id)
  have hw1 := hw.fr hf (fun _ _ => id)
  obtain ⟨t, u, hu⟩ := errV_iface [((⟨#[116, 120, 110]⟩ : ByteArray), 0)] 101
  refine say_texts_badT (xs := []) (intRow_nil w' 0) (Nat.zero_le _) (by simp) getOk_zero (bs := certZ) rfl (nm := true) (sz := false) (b0 := []) (b1 := []) (r0 := errV [((⟨#[116, 120, 110]⟩ : ByteArray), 0)] 101) (r1 := .nilIface) ((zeroSay_iff _).2 rfl) ?_ ?_ rfl rfl hu
  · intro w2 hf2
    exact say_optTxn_put (fun w3 hf3 => (txn_Put_bad ((hr1.fr hf2 (fun _ _ => id)).fr hf3 (fun _ _ => id)) ((hw1.fr hf2 (fun _ _ => id)).fr hf3 (fun _ _ => id)) hs h).mono fun _ _ h => h.put)
  · intro w2 hf2
    exact (say_optSay_none _ _ _ _ _ _ _ _ _ _ _).mono fun _ _ h => h.put
theorem group0 (w : World) : IntRow (w.alloc (Obj.cells #[.int .i64 0] 3)) (w.heap.size + 1) (some ⟨w.heap.size, 0, none⟩) [0] := by
  intro k x h
  match k, h with
  | 0, h => cases h; exact ⟨_, 0, rfl, by omega, (Blk.new w 3 #[.int .i64 0]).cell 0⟩
set_option maxRecDepth 100000 in
set_option maxHeartbeats 1000000 in
theorem relay_Begin {w : World} {F : Nat → Prop} {A B : Option Addr} {cr cw : Nat} {c n : Int} {R : List (ByteArray × Int)} {W : List (ByteArray × ByteArray)} (hr : ReadRow w F A R) (hw : WriteRow w F B W) (hs : FewT R W) :
    Calls Tryz.prog 23 #[.agg #[.int .i64 c, .int .i64 n, .slice A R.length cr, .slice B W.length cw]] w (TasksP w (if TOk c n R W then [0] else []) (if TOk c n R W then orderB 6 (txnB c n R W) [] certZ else [])) := by
  have hf2 : Fr (fun _ => False) w ((w.alloc (Obj.cells #[.int .i64 c, .int .i64 n, .slice A R.length cr, .slice B W.length cw] 29)).alloc (Obj.cells #[.int .i64 0] 3)) := ((Fr.refl _ _).alloc _).alloc _
  have hg : IntRow ((w.alloc (Obj.cells #[.int .i64 c, .int .i64 n, .slice A R.length cr, .slice B W.length cw] 29)).alloc (Obj.cells #[.int .i64 0] 3)) (w.heap.size + 1 + 1) (some ⟨w.heap.size + 1, 0, none⟩) [0] := by
    have := group0 (w.alloc (Obj.cells #[.int .i64 c, .int .i64 n, .slice A R.length cr, .slice B W.length cw] 29))
    simpa using this
  have hz : w.heap.size + 1 + 1 ≤ ((w.alloc (Obj.cells #[.int .i64 c, .int .i64 n, .slice A R.length cr, .slice B W.length cw] 29)).alloc (Obj.cells #[.int .i64 0] 3)).heap.size := by simp
  by_cases hok : TOk c n R W
  · rw [if_pos hok, if_pos hok]
    have HT : Calls Tryz.prog 64 #[.agg #[.int .i64 6, .int .i64 c, .int .i64 n, .slice A R.length cr, .slice B W.length cw, .int .i64 0, .int .i64 0, .bool false, .string ⟨#[]⟩, .string ⟨#[]⟩, .int .i64 0, .int .i64 0, .int .i64 0, .int .i64 0, .int .i64 0, .int .i64 0, .slice none 0 0, .int .i64 0, .int .i64 0, .slice none 0 0, .slice none 0 0], .slice (some ⟨w.heap.size + 1, 0, none⟩) 1 1] ((w.alloc (Obj.cells #[.int .i64 c, .int .i64 n, .slice A R.length cr, .slice B W.length cw] 29)).alloc (Obj.cells #[.int .i64 0] 3)) (TasksP ((w.alloc (Obj.cells #[.int .i64 c, .int .i64 n, .slice A R.length cr, .slice B W.length cw] 29)).alloc (Obj.cells #[.int .i64 0] 3)) [0] (orderB 6 (txnB c n R W) [] certZ)) := relay_tasks_ok (s := zeroS) (cg := 1) hg hz (by simp) (bs := orderB 6 (txnB c n R W) [] certZ) (orderB_len (txnB_len hok) (by simp) certZ_len) (fun w' hf => order_begin (hr.fr (hf2.then_ hf) (fun _ _ => id)) (hw.fr (hf2.then_ hf) (fun _ _ => id)) hok)
    have HT := Lib.hid HT
    clear hg hz
    go_enter Tryz.func23, Tryz.ntmps23
    go_upto_region 1 with fail
    go_wp2_with (go_at_call 64; refine HT.out.mono ?_; rintro e w' ⟨v, rfl, hv, hf'⟩)
    go_ret
    exact ⟨v, rfl, hv.base_ hf2.size, hf2.then_ hf'⟩
  · rw [if_neg hok, if_neg hok]
    have HT : ∀ V, Calls Tryz.prog 64 #[.agg #[.int .i64 6, .int .i64 c, .int .i64 n, .slice A R.length cr, .slice B W.length cw, .int .i64 0, .int .i64 0, .bool false, .string ⟨#[]⟩, .string ⟨#[]⟩, .int .i64 0, .int .i64 0, .int .i64 0, .int .i64 0, .int .i64 0, .int .i64 0, .slice none 0 0, .int .i64 0, .int .i64 0, .slice none 0 0, .slice none 0 0], V] ((w.alloc (Obj.cells #[.int .i64 c, .int .i64 n, .slice A R.length cr, .slice B W.length cw] 29)).alloc (Obj.cells #[.int .i64 0] 3)) (TasksP ((w.alloc (Obj.cells #[.int .i64 c, .int .i64 n, .slice A R.length cr, .slice B W.length cw] 29)).alloc (Obj.cells #[.int .i64 0] 3)) [] []) := fun V => relay_tasks_bad (s := zeroS) (fun w' hf => order_begin_no (hr.fr (hf2.then_ hf) (fun _ _ => id)) (hw.fr (hf2.then_ hf) (fun _ _ => id)) hs hok)
    have HT := Lib.hid HT
    clear hg hz
    go_enter Tryz.func23, Tryz.ntmps23
    go_upto_region 1 with fail
    go_wp2_with (go_at_call 64; refine (HT.out _).mono ?_; rintro e w' ⟨v, rfl, hv, hf'⟩)
    go_ret
    exact ⟨v, rfl, hv.base_ hf2.size, hf2.then_ hf'⟩
end Go.Proofs.YtmkdhhhoodeemaaGreat

/- relay: told (a vote). -/
namespace Go.Proofs.YtmkdhhhoodeemaaGreat
open Go Go.RowKit
def certB (G D : Int) (xs : List Int) : List Int := num8 G ++ num8 D ++ numsB xs
theorem certB_len {G D : Int} {xs : List Int} (h : xs.length ≤ 1024) : (certB G D xs).length ≤ 65536 := by have := cert_len (G := G) (D := D) h; unfold certB; omega
/-- The order of a word with a certificate. -/
theorem order_cert {w : World} {kind : Int} (hk1 : 1 ≤ kind) (hk2 : kind ≤ 10) (hk : ¬ kind = 1 ∧ ¬ kind = 6) {s : SayD} (h : OkSay s) {G D : Int} {bC : Nat} {C : Option Addr} {cx : Nat} {xs : List Int} (hC : IntRow w bC C xs) (hbC : bC ≤ w.heap.size) (hxl : xs.length ≤ 1024) (hg : getOk (num8 G ++ num8 D ++ numsB xs)) :
    Calls Tryz.prog 95 #[.agg #[.int .i64 kind, .int .i64 0, .int .i64 0, .slice none 0 0, .slice none 0 0, .int .i64 s.kind, .int .i64 s.txn, .bool s.yes, .string s.from_, .string s.to_, .int .i64 s.epoch, .int .i64 s.shard, .int .i64 s.target, .int .i64 s.root, .int .i64 G, .int .i64 D, .slice C xs.length cx, .int .i64 0, .int .i64 0, .slice none 0 0, .slice none 0 0]] w (PutP w (orderB kind [] (sayB s) (certB G D xs)) .nilIface) := by
  have hws : wordB s = sayB s := if_pos h
  refine say_PutOrder_ok (by simp) (by have := sayB_short s; rw [hws] at this; exact this) (certB_len hxl) (fun w' hf => ?_)
  have hz : zeroSay s = !true := by
    have : ¬ zeroSay s = true := fun e => by
      rw [zeroSay_iff] at e
      rw [e] at h
      exact absurd h.1 (by decide)
    simpa using this
  refine say_texts_ok (hC.fr hf (fun _ _ => id)) (Nat.le_trans hbC hf.size) hxl hg (bs := certB G D xs) rfl (nm := false) (sz := true) (b0 := []) (b1 := sayB s) (r0 := .nilIface) (r1 := .nilIface) hz ?_ ?_ rfl rfl hk1 hk2 rfl hk ?_
  · intro w2 hf2
    exact (say_optTxn_none _ _).mono fun _ _ h => h.put
  · intro w2 hf2
    refine say_optSay_put (fun w3 _ => (say_Put1 w3 s.kind s.txn s.yes s.from_ s.to_ s.epoch s.shard s.target s.root).mono ?_)
    rintro e w4 ⟨v, h1, h2, h3⟩
    rw [if_pos h] at h2
    refine ⟨v, ?_, h2, h3⟩
    rw [h1, show saidO s = none from if_pos h]
    rfl
  · intro w2 _
    exact say_none_zero _
/-- A whole struct into the block that was made last. -/
theorem wpList_store_new {P : Program} {ops : Array Oper} {rest : List Oper} {op : Oper} {a : Act} {w : World} {Q : Exit → Act → World → Prop} (hgd : op.guard = none) (ty : TypeId) (x y : Operand) (ho : op.op = .store ty x y) (c c' : Array Value)
    (hx : a.eval x = .pointer (some ⟨w.heap.size, 0, none⟩)) (hy : a.eval y = .agg c') (hi : (P.info? ty).map (·.size) = some c'.size) (hs : c.size = c'.size) (h1 : c'.all (·.oneCell') = true)
    (h : wpList P ops Q rest (a.put op.dst undef) (w.alloc (.cells c' ty))) : wpList P ops Q (op :: rest) a (w.alloc (.cells c ty)) :=
  wpList_plain hgd fun _ hK => by
    unfold Oper.wp execOp
    simp only [ho, hx, hy, Instr.storeAt, Instr.sureAddr, Sem.run_bind, Sem.run_pure, Result.andThen_ok, run_storeVar_new w ty c c' hi hs h1]
    exact hK _ _ h
theorem relay_group (n : Int) (w : World) : Calls Tryz.prog 79 #[.int .i64 n] w fun e w' => e = .returned (.int .i64 (wrap64 (n + 1))) ∧ w = w' := by
  go_enter Tryz.func79, Tryz.ntmps79
  go_wp2
  go_ret
  exact ⟨rfl, rfl⟩
set_option maxRecDepth 100000 in
set_option maxHeartbeats 2000000 in
theorem told_vote {w : World} {txn : Int} {yes : Bool} {ff tt : ByteArray} {epoch shard target root : Int} (h : OkSay ⟨2, txn, yes, ff, tt, epoch, shard, target, root⟩) {G D fr : Int} {bC : Nat} {C : Option Addr} {cx : Nat} {xs : List Int} (hC : IntRow w bC C xs) (hbC : bC ≤ w.heap.size) (hxl : xs.length ≤ 1024) (hg : getOk (num8 G ++ num8 D ++ numsB xs)) (hfr : fr = shard + 1) {bk lv : Value} :
    Calls Tryz.prog 45 #[bk, .agg #[.int .i64 0, .int .i64 0, .int .i64 0, .slice none 0 0, .slice none 0 0, .int .i64 2, .int .i64 txn, .bool yes, .string ff, .string tt, .int .i64 epoch, .int .i64 shard, .int .i64 target, .int .i64 root, .int .i64 G, .int .i64 D, .slice C xs.length cx, .int .i64 0, .int .i64 0, .slice none 0 0, .slice none 0 0], .int .i64 fr, lv] w (TasksP w [0] (orderB 7 [] (sayB ⟨2, txn, yes, ff, tt, epoch, shard, target, root⟩) (certB G D xs))) := by
  subst hfr
  have hsh : 0 ≤ shard ∧ shard ≤ 3 := by
    obtain ⟨a0, a1, a2, a3, a4, a5, a6, a7, a8, a9, a10, a11, a12, a13⟩ := h
    dsimp only at a10 a11
    omega
  have hwr : wrap64 (shard + 1) = shard + 1 := by unfold wrap64; omega
  have HW := Lib.hid hwr
  have hB0 := Blk.new w 62 #[.int .i64 0, .int .i64 0, .int .i64 0, .slice none 0 0, .slice none 0 0, .int .i64 2, .int .i64 txn, .bool yes, .string ff, .string tt, .int .i64 epoch, .int .i64 shard, .int .i64 target, .int .i64 root, .int .i64 G, .int .i64 D, .slice C xs.length cx, .int .i64 0, .int .i64 0, .slice none 0 0, .slice none 0 0]
  have hf0 : Fr (fun _ => False) w (w.alloc (Obj.cells #[.int .i64 0, .int .i64 0, .int .i64 0, .slice none 0 0, .slice none 0 0, .int .i64 2, .int .i64 txn, .bool yes, .string ff, .string tt, .int .i64 epoch, .int .i64 shard, .int .i64 target, .int .i64 root, .int .i64 G, .int .i64 D, .slice C xs.length cx, .int .i64 0, .int .i64 0, .slice none 0 0, .slice none 0 0] 62)) := (Fr.refl _ _).alloc _
  go_enter Tryz.func45, Tryz.ntmps45
  go_upto_region 1 with fail
  generalize w.alloc (Obj.cells #[.int .i64 0, .int .i64 0, .int .i64 0, .slice none 0 0, .slice none 0 0, .int .i64 2, .int .i64 txn, .bool yes, .string ff, .string tt, .int .i64 epoch, .int .i64 shard, .int .i64 target, .int .i64 root, .int .i64 G, .int .i64 D, .slice C xs.length cx, .int .i64 0, .int .i64 0, .slice none 0 0, .slice none 0 0] 62) = w0 at *
  have k5 := hB0.cell 5
  have k6 := hB0.cell 6
  have k7 := hB0.cell 7
  have k8 := hB0.cell 8
  have k9 := hB0.cell 9
  have k10 := hB0.cell 10
  have k11 := hB0.cell 11
  have k12 := hB0.cell 12
  have k13 := hB0.cell 13
  go_upto_region 2 with fail
  have hB1 := hB0.alloc (Obj.cells #[.int .i64 2, .int .i64 txn, .bool yes, .string ff, .string tt, .int .i64 epoch, .int .i64 shard, .int .i64 target, .int .i64 root] 23)
  have hS1 := Blk.new w0 23 #[.int .i64 2, .int .i64 txn, .bool yes, .string ff, .string tt, .int .i64 epoch, .int .i64 shard, .int .i64 target, .int .i64 root]
  have hf1 := hf0.alloc (Obj.cells #[.int .i64 2, .int .i64 txn, .bool yes, .string ff, .string tt, .int .i64 epoch, .int .i64 shard, .int .i64 target, .int .i64 root] 23)
  go_upto_region 2 with fail
  generalize w0.alloc (Obj.cells #[.int .i64 2, .int .i64 txn, .bool yes, .string ff, .string tt, .int .i64 epoch, .int .i64 shard, .int .i64 target, .int .i64 root] 23) = w1 at *
  clear hB0 hf0
  have s0 := hS1.cell 0
  have s6 := hS1.cell 6
  go_upto_region 4 with (go_at_call 79; refine (relay_group _ _).mono ?_; rintro e w' ⟨rfl, rfl⟩; rw [HW.out])
  have kf := hB1.frozen 0
  have k0 := hB1.cell 0
  go_upto_region 19 with fail
  have hB2 : Blk (w1.setCell ⟨w.heap.size, 0, none⟩ (.int .i64 7)) w.heap.size 62 #[.int .i64 7, .int .i64 0, .int .i64 0, .slice none 0 0, .slice none 0 0, .int .i64 2, .int .i64 txn, .bool yes, .string ff, .string tt, .int .i64 epoch, .int .i64 shard, .int .i64 target, .int .i64 root, .int .i64 G, .int .i64 D, .slice C xs.length cx, .int .i64 0, .int .i64 0, .slice none 0 0, .slice none 0 0] := hB1.set_ 0 _
  have hf2 : Fr (fun _ => False) w (w1.setCell ⟨w.heap.size, 0, none⟩ (.int .i64 7)) := hf1.setCell (p := ⟨w.heap.size, 0, none⟩) (fun h => absurd h (Nat.lt_irrefl _)) _
  generalize w1.setCell ⟨w.heap.size, 0, none⟩ (.int .i64 7) = w2 at *
  clear hB1 hf1 hS1 s0 s6 kf k0
  have k0 := hB2.cell 0
  go_upto_region 21 with fail
  have hg1 := group0 w2
  have hf3 : Fr (fun _ => False) w2 (w2.alloc (Obj.cells #[.int .i64 0] 3)) := (Fr.refl _ _).alloc _
  have hf03 := hf2.then_ hf3
  have HT : Calls Tryz.prog 64 #[.agg #[.int .i64 7, .int .i64 0, .int .i64 0, .slice none 0 0, .slice none 0 0, .int .i64 2, .int .i64 txn, .bool yes, .string ff, .string tt, .int .i64 epoch, .int .i64 shard, .int .i64 target, .int .i64 root, .int .i64 G, .int .i64 D, .slice C xs.length cx, .int .i64 0, .int .i64 0, .slice none 0 0, .slice none 0 0], .slice (some ⟨w2.heap.size, 0, none⟩) 1 1] (w2.alloc (Obj.cells #[.int .i64 0] 3)) (TasksP (w2.alloc (Obj.cells #[.int .i64 0] 3)) [0] (orderB 7 [] (sayB ⟨2, txn, yes, ff, tt, epoch, shard, target, root⟩) (certB G D xs))) := relay_tasks_ok (s := ⟨2, txn, yes, ff, tt, epoch, shard, target, root⟩) (cg := 1) hg1 (by simp) (by simp) (orderB_len (by simp) (by have := sayB_short ⟨2, txn, yes, ff, tt, epoch, shard, target, root⟩; rw [show wordB ⟨2, txn, yes, ff, tt, epoch, shard, target, root⟩ = _ from if_pos h] at this; exact this) (certB_len hxl)) (fun w' hf => order_cert (by omega) (by omega) ⟨by omega, by omega⟩ h (hC.fr (hf03.then_ hf) (fun _ _ => id)) (Nat.le_trans hbC (hf03.then_ hf).size) hxl hg)
  have HT := Lib.hid HT
  clear hg1 h hC hg hxl
  go_wp2_with (first
    | (refine wpList_load_row rfl 62 _ rfl _ rfl _ _ (0, 0) _ hB2 Tryz.underlying62 rfl (by kernel_rfl) ?_)
    | (go_at_call 64; refine HT.out.mono ?_; rintro e w' ⟨v, rfl, hv, hf'⟩))
  go_ret
  exact ⟨v, rfl, hv.base_ hf03.size, hf03.then_ hf'⟩
/-- What relay.Orders leaves: tasks, the book a step on. -/
def OrdStep (w : World) (g m base : Nat) (v : Value) (L' : List (List Int)) (gs ms : Nat) (SL : List (Int × Int)) (gg b : List Int) (e : Ending) (w' : World) : Prop :=
  ∃ tv v', e = .returned tv ∧ TasksAt w' w.heap.size tv gg b ∧ BS w' g m base v' L' gs ms SL ∧ Fr (fun k => k = g ∨ k = m ∨ v.ownBlock = some k) w w' ∧ ∀ k, v'.ownBlock = some k → v.ownBlock = some k ∨ w.heap.size ≤ k
set_option maxRecDepth 100000 in
set_option maxHeartbeats 2000000 in
theorem orders_few {w : World} {g m base : Nat} {v : Value} {L : List (List Int)} {gs ms : Nat} {SL : List (Int × Int)} (hb : BS w g m base v L gs ms SL) (hbase : base ≤ w.heap.size) (hL : L.length < 65536) {kind txn : Int} {yes : Bool} {ff tt : ByteArray} {epoch shard target root : Int} (hok : OkSay ⟨kind, txn, yes, ff, tt, epoch, shard, target, root⟩) {G f : Int} (hf : 0 ≤ f ∧ f ≤ 3) (hfew : ((whoInts G (sayI L ⟨kind, txn, yes, ff, tt, epoch, shard, target, root⟩) SL).length : Int) < 2 * f + 1) {sh lv : Value} :
    Calls Tryz.prog 15 #[.pointer (some ⟨g, 0, none⟩), .pointer (some ⟨gs, 0, none⟩), .int .i64 f, .agg #[.int .i64 G, .int .i64 kind, .int .i64 txn, .bool yes, .string ff, .string tt, .int .i64 epoch, .int .i64 shard, .int .i64 target, .int .i64 root], sh, lv] w (OrdStep w g m base v (sayL L ⟨kind, txn, yes, ff, tt, epoch, shard, target, root⟩) gs ms SL [] []) := by
  obtain ⟨hf1, hf2⟩ := hf
  have hd1 : ¬ f < 0 := by omega
  have hd2 : ¬ 3 < f := by omega
  have hB0 := Blk.new w 25 #[.int .i64 G, .int .i64 kind, .int .i64 txn, .bool yes, .string ff, .string tt, .int .i64 epoch, .int .i64 shard, .int .i64 target, .int .i64 root]
  have hf0 : Fr (fun _ => False) w (w.alloc (Obj.cells #[.int .i64 G, .int .i64 kind, .int .i64 txn, .bool yes, .string ff, .string tt, .int .i64 epoch, .int .i64 shard, .int .i64 target, .int .i64 root] 25)) := (Fr.refl _ _).alloc _
  have hb0 := hb.keep hf0
  have HD := Lib.hid (say_Digest1 hb0.book (Nat.le_trans hbase hf0.size) hL kind txn yes ff tt epoch shard target root)
  have hso : saidO ⟨kind, txn, yes, ff, tt, epoch, shard, target, root⟩ = none := if_pos hok
  rw [hso, show errO none = .nilIface from rfl] at HD
  have HF := Lib.hid hfew
  clear hfew hok hso
  go_enter Tryz.func15, Tryz.ntmps15
  go_upto_region 1 with fail
  generalize w.alloc (Obj.cells #[.int .i64 G, .int .i64 kind, .int .i64 txn, .bool yes, .string ff, .string tt, .int .i64 epoch, .int .i64 shard, .int .i64 target, .int .i64 root] 25) = w0 at *
  have k0 := hB0.cell 0
  have k1 := hB0.cell 1
  have k2 := hB0.cell 2
  have k3 := hB0.cell 3
  have k4 := hB0.cell 4
  have k5 := hB0.cell 5
  have k6 := hB0.cell 6
  have k7 := hB0.cell 7
  have k8 := hB0.cell 8
  have k9 := hB0.cell 9
  go_upto_region 4 with (go_at_call 42; refine HD.out.mono ?_; rintro e w1 ⟨v1, rfl, hb1, hf01, hk1⟩)
  have hB1 := hb0.bookFr hB0 (by decide) (by decide) (hf01.mono (fun _ _ h => h.elim .inl (fun h => .inr (h.elim .inl (fun h => .inr (.inl h))))))
  have hs1 := hb0.bookStep hb1 hf01
  have k0 := hB1.cell 0
  obtain ⟨t, u, hu⟩ := errV_iface [((⟨#[109, 97, 107, 101]⟩ : ByteArray), ((whoInts G (sayI L ⟨kind, txn, yes, ff, tt, epoch, shard, target, root⟩) SL).length : Int))] 51
  have HC : Hid (Calls Tryz.prog 43 #[.pointer (some ⟨gs, 0, none⟩), .int .i64 G, .int .i64 (sayI L ⟨kind, txn, yes, ff, tt, epoch, shard, target, root⟩), .int .i64 (2 * f + 1)] w1 fun e w' => e = .returned (.tuple #[.agg #[.int .i64 0, .int .i64 0, .slice none 0 0], .iface t u]) ∧ Fr (fun _ => False) w1 w') := by
    refine (cert_Make hs1.seals G (sayI L ⟨kind, txn, yes, ff, tt, epoch, shard, target, root⟩) (2 * f + 1)).mono ?_
    rintro e w2 ⟨hf12, ⟨_, rfl⟩ | ⟨hno, _⟩⟩
    · exact ⟨by rw [hu], hf12⟩
    · exact absurd (.inr HF.out) hno
  clear hu hb0 hB0 HD
  go_wp2_with (go_at_call 43; refine HC.out.mono ?_; rintro e w2 ⟨rfl, hf12⟩)
  go_ret
  exact ⟨_, v1, rfl, TasksAt.nil _ _ _, hs1.keep (hf12.alloc _), ((hf0.mono (fun _ _ h => h.elim)).trans hf01 (fun _ _ h => h)).then_ (hf12.alloc _), fun k hk => (hk1 k hk).imp_right (Nat.le_trans hf0.size)⟩
set_option maxRecDepth 100000 in
set_option maxHeartbeats 2000000 in
theorem orders_vote {w : World} {g m base : Nat} {v : Value} {L : List (List Int)} {gs ms : Nat} {SL : List (Int × Int)} (hb : BS w g m base v L gs ms SL) (hbase : base ≤ w.heap.size) (hL : L.length < 65536) {txn : Int} {yes : Bool} {ff tt : ByteArray} {epoch shard target root : Int} (hok : OkSay ⟨2, txn, yes, ff, tt, epoch, shard, target, root⟩) {G f : Int} (hG : G = shard + 1) (hf : 0 ≤ f ∧ f ≤ 3) (hmany : ¬ ((whoInts G (sayI L ⟨2, txn, yes, ff, tt, epoch, shard, target, root⟩) SL).length : Int) < 2 * f + 1) {sh lv : Value} {xs : List Int} (hxs : (whoInts G (sayI L ⟨2, txn, yes, ff, tt, epoch, shard, target, root⟩) SL).take (2 * f + 1).toNat = xs) (hxl : xs.length ≤ 1024) (hget : getOk (num8 G ++ num8 (sayI L ⟨2, txn, yes, ff, tt, epoch, shard, target, root⟩) ++ numsB xs)) :
    Calls Tryz.prog 15 #[.pointer (some ⟨g, 0, none⟩), .pointer (some ⟨gs, 0, none⟩), .int .i64 f, .agg #[.int .i64 G, .int .i64 2, .int .i64 txn, .bool yes, .string ff, .string tt, .int .i64 epoch, .int .i64 shard, .int .i64 target, .int .i64 root], sh, lv] w (OrdStep w g m base v (sayL L ⟨2, txn, yes, ff, tt, epoch, shard, target, root⟩) gs ms SL [0] (orderB 7 [] (sayB ⟨2, txn, yes, ff, tt, epoch, shard, target, root⟩) (certB G (sayI L ⟨2, txn, yes, ff, tt, epoch, shard, target, root⟩) xs))) := by
  obtain ⟨hf1, hf2⟩ := hf
  have hd1 : ¬ f < 0 := by omega
  have hd2 : ¬ 3 < f := by omega
  have hg0 : ¬ G = 0 := by
    obtain ⟨a0, a1, a2, a3, a4, a5, a6, a7, a8, a9, a10, a11, a12, a13⟩ := hok
    dsimp only at a10
    omega
  have hg0' : (G == 0) = false := by simp [hg0]
  have hB0 := Blk.new w 25 #[.int .i64 G, .int .i64 2, .int .i64 txn, .bool yes, .string ff, .string tt, .int .i64 epoch, .int .i64 shard, .int .i64 target, .int .i64 root]
  have hf0 : Fr (fun _ => False) w (w.alloc (Obj.cells #[.int .i64 G, .int .i64 2, .int .i64 txn, .bool yes, .string ff, .string tt, .int .i64 epoch, .int .i64 shard, .int .i64 target, .int .i64 root] 25)) := (Fr.refl _ _).alloc _
  have hb0 := hb.keep hf0
  have HD := Lib.hid (say_Digest1 hb0.book (Nat.le_trans hbase hf0.size) hL 2 txn yes ff tt epoch shard target root)
  have hso : saidO ⟨2, txn, yes, ff, tt, epoch, shard, target, root⟩ = none := if_pos hok
  rw [hso, show errO none = .nilIface from rfl] at HD
  obtain ⟨D, hD⟩ : ∃ D, Hid (sayI L ⟨2, txn, yes, ff, tt, epoch, shard, target, root⟩ = D) := ⟨_, rfl⟩
  rw [hD.out] at HD hmany hxs hget ⊢
  have HF := Lib.hid hmany
  have HXS := Lib.hid hxs
  have HXL := Lib.hid hxl
  have HG := Lib.hid hget
  have HGS := Lib.hid hG
  have HOK := Lib.hid hok
  clear hmany hok hso hxs hget hG hxl
  go_enter Tryz.func15, Tryz.ntmps15
  go_upto_region 1 with fail
  generalize w.alloc (Obj.cells #[.int .i64 G, .int .i64 2, .int .i64 txn, .bool yes, .string ff, .string tt, .int .i64 epoch, .int .i64 shard, .int .i64 target, .int .i64 root] 25) = w0 at *
  have k0 := hB0.cell 0
  have k1 := hB0.cell 1
  have k2 := hB0.cell 2
  have k3 := hB0.cell 3
  have k4 := hB0.cell 4
  have k5 := hB0.cell 5
  have k6 := hB0.cell 6
  have k7 := hB0.cell 7
  have k8 := hB0.cell 8
  have k9 := hB0.cell 9
  go_upto_region 4 with (go_at_call 42; refine HD.out.mono ?_; rintro e w1 ⟨v1, rfl, hb1, hf01, hk1⟩)
  have hB1 := hb0.bookFr hB0 (by decide) (by decide) (hf01.mono (fun _ _ h => h.elim .inl (fun h => .inr (h.elim .inl (fun h => .inr (.inl h))))))
  have hs1 := hb0.bookStep hb1 hf01
  have k0 := hB1.cell 0
  have k1 := hB1.cell 1
  have k2 := hB1.cell 2
  have k3 := hB1.cell 3
  have k4 := hB1.cell 4
  have k5 := hB1.cell 5
  have k6 := hB1.cell 6
  have k7 := hB1.cell 7
  have k8 := hB1.cell 8
  have k9 := hB1.cell 9
  have HC : Hid (Calls Tryz.prog 43 #[.pointer (some ⟨gs, 0, none⟩), .int .i64 G, .int .i64 D, .int .i64 (2 * f + 1)] w1 fun e w' => ∃ A cap, e = .returned (.tuple #[.agg #[.int .i64 G, .int .i64 D, .slice A xs.length cap], .nilIface]) ∧ IntRow w' w'.heap.size A xs ∧ Fr (fun _ => False) w1 w') := by
    refine (cert_Make hs1.seals G D (2 * f + 1)).mono ?_
    rintro e w2 ⟨hf12, ⟨hno, _⟩ | ⟨_, A, cap, he, hr⟩⟩
    · exact absurd hno (by have := HF.out; omega)
    · rw [HXS.out] at he hr
      exact ⟨A, cap, he, hr, hf12⟩
  clear hb0 hB0 HD
  go_upto_region 9 with (go_at_call 43; refine HC.out.mono ?_; rintro e w2 ⟨A, cap, rfl, hr2, hf12⟩)
  have hf13 := hf12.alloc (Obj.cells #[.int .i64 G, .int .i64 D, .slice A xs.length cap] 41)
  have hB3 := (hB1.fr hf12 id).alloc (Obj.cells #[.int .i64 G, .int .i64 D, .slice A xs.length cap] 41)
  have hC3 := Blk.new w2 41 #[.int .i64 G, .int .i64 D, .slice A xs.length cap]
  have hr3 := hr2.fr ((Fr.refl (fun _ => False) w2).alloc (Obj.cells #[.int .i64 G, .int .i64 D, .slice A xs.length cap] 41)) (fun _ _ => id)
  have hz3 : w2.heap.size ≤ (w2.alloc (Obj.cells #[.int .i64 G, .int .i64 D, .slice A xs.length cap] 41)).heap.size := by simp
  generalize w2.alloc (Obj.cells #[.int .i64 G, .int .i64 D, .slice A xs.length cap] 41) = w3 at *
  clear hB1 k0 k1 k2 k3 k4 k5 k6 k7 k8 k9
  have k0 := hB3.cell 0
  have k1 := hB3.cell 1
  have k2 := hB3.cell 2
  have k3 := hB3.cell 3
  have k4 := hB3.cell 4
  have k5 := hB3.cell 5
  have k6 := hB3.cell 6
  have k7 := hB3.cell 7
  have k8 := hB3.cell 8
  have k9 := hB3.cell 9
  have c0 := hC3.cell 0
  have c1 := hC3.cell 1
  have c2 := hC3.cell 2
  go_upto_region 10 with (refine wpList_store_new rfl 62 (.tmp 16) (.tmp 48) rfl _ _ rfl rfl (by kernel_rfl) rfl (by simp [Value.oneCell']) ?_)
  have hO4 := Blk.new w3 62 #[.int .i64 0, .int .i64 0, .int .i64 0, .slice none 0 0, .slice none 0 0, .int .i64 2, .int .i64 txn, .bool yes, .string ff, .string tt, .int .i64 epoch, .int .i64 shard, .int .i64 target, .int .i64 root, .int .i64 G, .int .i64 D, .slice A xs.length cap, .int .i64 0, .int .i64 0, .slice none 0 0, .slice none 0 0]
  have hB4 := hB3.alloc (Obj.cells #[.int .i64 0, .int .i64 0, .int .i64 0, .slice none 0 0, .slice none 0 0, .int .i64 2, .int .i64 txn, .bool yes, .string ff, .string tt, .int .i64 epoch, .int .i64 shard, .int .i64 target, .int .i64 root, .int .i64 G, .int .i64 D, .slice A xs.length cap, .int .i64 0, .int .i64 0, .slice none 0 0, .slice none 0 0] 62)
  have hf34 : Fr (fun _ => False) w3 (w3.alloc (Obj.cells #[.int .i64 0, .int .i64 0, .int .i64 0, .slice none 0 0, .slice none 0 0, .int .i64 2, .int .i64 txn, .bool yes, .string ff, .string tt, .int .i64 epoch, .int .i64 shard, .int .i64 target, .int .i64 root, .int .i64 G, .int .i64 D, .slice A xs.length cap, .int .i64 0, .int .i64 0, .slice none 0 0, .slice none 0 0] 62)) := (Fr.refl _ _).alloc _
  have hr4 := hr3.fr hf34 (fun _ _ => id)
  have hz4 : w2.heap.size ≤ (w3.alloc (Obj.cells #[.int .i64 0, .int .i64 0, .int .i64 0, .slice none 0 0, .slice none 0 0, .int .i64 2, .int .i64 txn, .bool yes, .string ff, .string tt, .int .i64 epoch, .int .i64 shard, .int .i64 target, .int .i64 root, .int .i64 G, .int .i64 D, .slice A xs.length cap, .int .i64 0, .int .i64 0, .slice none 0 0, .slice none 0 0] 62)).heap.size := Nat.le_trans hz3 hf34.size
  generalize w3.alloc (Obj.cells #[.int .i64 0, .int .i64 0, .int .i64 0, .slice none 0 0, .slice none 0 0, .int .i64 2, .int .i64 txn, .bool yes, .string ff, .string tt, .int .i64 epoch, .int .i64 shard, .int .i64 target, .int .i64 root, .int .i64 G, .int .i64 D, .slice A xs.length cap, .int .i64 0, .int .i64 0, .slice none 0 0, .slice none 0 0] 62) = w4 at *
  clear k0 k1 k2 k3 k4 k5 k6 k7 k8 k9 c0 c1 c2 hC3
  have k0 := hB4.cell 0
  have HT : Calls Tryz.prog 45 #[.pointer (some ⟨g, 0, none⟩), .agg #[.int .i64 0, .int .i64 0, .int .i64 0, .slice none 0 0, .slice none 0 0, .int .i64 2, .int .i64 txn, .bool yes, .string ff, .string tt, .int .i64 epoch, .int .i64 shard, .int .i64 target, .int .i64 root, .int .i64 G, .int .i64 D, .slice A xs.length cap, .int .i64 0, .int .i64 0, .slice none 0 0, .slice none 0 0], .int .i64 G, lv] w4 (TasksP w4 [0] (orderB 7 [] (sayB ⟨2, txn, yes, ff, tt, epoch, shard, target, root⟩) (certB G D xs))) := told_vote HOK.out hr4 hz4 HXL.out HG.out HGS.out
  have HT := Lib.hid HT
  clear hr4 hr3 hr2
  go_wp2_with (first
    | (refine wpList_load_row rfl 62 _ rfl _ rfl _ _ (0, 0) _ hO4 Tryz.underlying62 rfl (by kernel_rfl) ?_)
    | (go_at_call 45; refine HT.out.mono ?_; rintro e w5 ⟨tv, rfl, htv, hf45⟩))
  go_ret
  have hf15 := (hf13.then_ hf34).then_ hf45
  have hff := (hf0.mono (fun _ _ h => h.elim)).trans hf01 (fun _ _ h => h)
  exact ⟨tv, v1, rfl, htv.base_ (Nat.le_trans hff.size (hf13.then_ hf34).size), hs1.keep hf15, hff.then_ hf15, fun k hk => (hk1 k hk).imp_right (Nat.le_trans hf0.size)⟩
end Go.Proofs.YtmkdhhhoodeemaaGreat

/- cohortlaw12: Start. -/
namespace Go.Proofs.YtmkdhhhoodeemaaGreat
open Go Go.RowKit
def Started (w : World) (e : Ending) (w' : World) : Prop :=
  ∃ gw, e = .returned (.tuple #[.pointer (some ⟨gw, 0, none⟩), .bool true]) ∧ w.heap.size ≤ gw ∧ WS w' w.heap.size gw [] [] [] 0 ∧ Fr (fun _ => False) w w'
set_option maxRecDepth 100000 in
theorem law12_Start (w : World) : Calls Tryz.prog 9 #[] w (Started w) := by
  go_enter Tryz.func9, Tryz.ntmps9
  go_wp2_with fail
  refine (book_New _).mono ?_
  rintro e w1 ⟨g, m, rfl, hg, hm, hb1, hf1⟩
  go_wp2_with fail
  refine (seals_New _).mono ?_
  rintro e w2 ⟨gs, ms, rfl, hgs, hms, hs2, hf2⟩
  have hb2 := hb1.keep hf2
  have hmm : m ≠ ms := by
    obtain ⟨⟨es, cl, h3, _⟩, _⟩ := hb1.map
    have := lt_of_heap h3
    omega
  have hf02 := hf1.then_ hf2
  have hs1 := hf1.size
  have hrD := RBookAt.keep (g := w2.heap.size) (base := w2.heap.size) (v := .slice none 0 0) (L := []) ⟨Blk.new w2 _ _, [], ⟨rfl, .inl ⟨rfl, rfl⟩⟩, fun k s hs => by simp at hs⟩ ((Fr.refl (fun _ => False) _).alloc (Obj.cells #[.slice none 0 0] 89))
  have hrQ : RefAt ((w2.alloc (Obj.cells #[.slice none 0 0] 57)).alloc (Obj.cells #[.slice none 0 0] 89)) (w2.heap.size + 1) w2.heap.size (.slice none 0 0) [] := ⟨Blk.new_ _ _ _ (by simp), ⟨rfl, .inl ⟨rfl, rfl⟩⟩⟩
  have hbs : BS w2 g m w.heap.size (.slice none 0 0) [] gs ms [] := ⟨hb2, hs2, hmm⟩
  have hbs3 := hbs.keep (((Fr.refl (fun _ => False) _).alloc (Obj.cells #[.slice none 0 0] 57)).alloc (Obj.cells #[.slice none 0 0] 89))
  have hf03 := (hf02.alloc (Obj.cells #[.slice none 0 0] 57)).alloc (Obj.cells #[.slice none 0 0] 89)
  generalize hw3 : (w2.alloc (Obj.cells #[.slice none 0 0] 57)).alloc (Obj.cells #[.slice none 0 0] 89) = w3 at hrD hrQ hbs3 hf03
  have hz3 : w3.heap.size = w2.heap.size + 1 + 1 := by rw [← hw3]; simp
  have HZ3 := Lib.hid hz3
  have HW3 := Lib.hid hw3
  clear hw3 hz3
  have hWB := Blk.new w3 51 #[.pointer (some ⟨g, 0, none⟩), .pointer (some ⟨gs, 0, none⟩), .pointer (some ⟨w2.heap.size, 0, none⟩), .pointer (some ⟨w2.heap.size + 1, 0, none⟩)]
  rw [HZ3.out] at hWB
  have hW0 := hWB.cell 0
  have hW1 := hWB.cell 1
  go_upto_region 2 with fail
  rw [HW3.out]
  have HWB := Lib.hid hWB
  clear hWB hb1 hf1 hs2 hb2 hbs
  go_big_quiet (fail)
  go_wp2_with fail
  refine bodyPost_ret (v := .tuple #[.pointer (some ⟨w2.heap.size + 1 + 1, 0, none⟩), .bool true]) (by simp [results, Tryz.results9, go_sem]) rfl ?_
  have hfz : Fr (fun _ => False) w3 ((w3.alloc (Obj.cells #[.pointer (some ⟨g, 0, none⟩), .pointer (some ⟨gs, 0, none⟩), .pointer (some ⟨w2.heap.size, 0, none⟩), .pointer (some ⟨w2.heap.size + 1, 0, none⟩)] 51)).drewN nq) := ((Fr.refl _ _).alloc _).drewN _
  have hle := hf02.size
  have h3s := hfz.size
  have hz := HZ3.out
  have h4 := hf2.size
  refine ⟨w2.heap.size + 1 + 1, rfl, by omega, ⟨g, m, w.heap.size, .slice none 0 0, gs, ms, w2.heap.size, w2.heap.size, .slice none 0 0, w2.heap.size + 1, w2.heap.size, .slice none 0 0, [], ⟨HWB.out.drewN _, hbs3.keep hfz, hrD.keep hfz, hrQ.fr hfz id (fun _ _ => id), hg, hm, Nat.le_refl _, by omega, hle, hle, by omega, hle, by omega, by omega, by omega⟩, Nat.le_refl _⟩, hf03.then_ hfz⟩
end Go.Proofs.YtmkdhhhoodeemaaGreat

/- cohortref10: Right, Put. -/
namespace Go.Proofs.YtmkdhhhoodeemaaGreat
open Go Go.RowKit
end Go.Proofs.YtmkdhhhoodeemaaGreat

/- cohortref10: Right, Put. -/
namespace Go.Proofs.YtmkdhhhoodeemaaGreat
open Go Go.RowKit
end Go.Proofs.YtmkdhhhoodeemaaGreat

/- cohortlaw12: sync, Digest, Txn. -/
namespace Go.Proofs.YtmkdhhhoodeemaaGreat
open Go Go.RowKit
/-- A book's texts: none twice, none too long. -/
def GoodL (L : List (List Int)) : Prop := L.Nodup ∧ ∀ t ∈ L, t.length ≤ 65536
theorem GoodL.nil : GoodL [] := ⟨List.nodup_nil, by simp⟩
theorem GoodL.dig {L : List (List Int)} (h : GoodL L) {xs : List Int} (hx : xs.length ≤ 65536) : GoodL (digL L xs) := by
  unfold digL
  split
  · exact h
  · rename_i hn
    refine ⟨List.nodup_append.2 ⟨h.1, by simp, fun a ha b hb e => hn ?_⟩, fun t ht => ?_⟩
    · rw [List.mem_singleton.1 hb] at e
      exact e ▸ ha
    · rcases List.mem_append.1 ht with ht | ht
      · exact h.2 t ht
      · rw [List.mem_singleton.1 ht]; exact hx
theorem digL_take {L : List (List Int)} {k : Nat} {xs : List Int} (h : L.Nodup) (hk : L[k]? = some xs) : digL (L.take k) xs = L.take (k + 1) := by
  obtain ⟨hlt, rfl⟩ := List.getElem?_eq_some_iff.1 hk
  have hn : L[k] ∉ L.take k := by
    intro hm
    obtain ⟨j, hj, he⟩ := List.getElem_of_mem hm
    rw [List.length_take] at hj
    rw [List.getElem_take] at he
    have := (List.getElem_inj h).1 he
    omega
  rw [digL, if_neg hn, List.take_succ_eq_append_getElem hlt]
def WStep (w : World) (lo gw : Nat) (L : List (List Int)) (SL : List (Int × Int)) (LD : List (List Int)) (nQ : Nat) (r : Value) (e : Ending) (w' : World) : Prop :=
  e = .returned r ∧ WS w' lo gw L SL LD nQ ∧ St lo w w'
set_option maxRecDepth 100000 in
theorem law12_sync {w : World} {lo gw : Nat} {L : List (List Int)} {SL : List (Int × Int)} {LD : List (List Int)} {nQ : Nat} (h : WS w lo gw L SL LD nQ) (hg : GoodL L) (hp : LD <+: L) (hL : L.length < 5000) :
    Calls Tryz.prog 40 #[.pointer (some ⟨gw, 0, none⟩)] w (WStep w lo gw L SL L nQ (.tuple #[])) := by
  obtain ⟨g, m, base, v, gs, ms, gD, bD, vD, gQ, bQ, vQ, SQ, h, hq⟩ := h
  have e0 : LD = L.take LD.length := (List.prefix_iff_eq_take.1 hp)
  have hle : LD.length ≤ L.length := hp.length_le
  obtain ⟨vals, hown, _⟩ := h.rb.row
  obtain ⟨A0, cap0, hv0, _, _⟩ := own_form hown
  have c0 := h.blk.cell 0
  have c2 := h.blk.cell 2
  have d0 : w.cell? ⟨gD, 0, none⟩ = some (.slice A0 LD.length cap0) := by rw [← hv0]; exact h.rb.blk.cell 0
  have HG := Lib.hid hg
  have H0 : Hid (WSAt w lo gw g m base v L gs ms SL gD bD vD (L.take LD.length) gQ bQ vQ SQ) := by
    show WSAt _ _ _ _ _ _ _ _ _ _ _ _ _ _ _ _ _ _ _
    rw [← e0]; exact h
  have HL := Lib.hid hL
  have HQ := Lib.hid hq
  clear hown hv0 hg hp hq e0 h
  go_enter Tryz.func40, Tryz.ntmps40
  go_wp2_with fail
  clear c0 c2 d0
  go_loopw [2] (fun ix wr => ∃ (k : Nat) (vD : Value), k ≤ L.length ∧ ix = .int .i64 k ∧ WSAt wr lo gw g m base v L gs ms SL gD bD vD (L.take k) gQ bQ vQ SQ ∧ St lo w wr) (fun ix _ => L.length - (intOf ix).toNat)
  case atStart => exact ⟨LD.length, vD, hle, rfl, H0.out, St.of lo (Fr.refl _ _)⟩
  case round =>
    obtain ⟨k, vD, hk, rfl, h, hst⟩ := hrel
    have c0 := h.blk.cell 0
    have c2 := h.blk.cell 2
    have hLi : L.length < 65536 := by have := HL.out; omega
    by_cases hlt : k < L.length
    · have hk5 : (k : Int) < 5000 := by have := HL.out; omega
      obtain ⟨xs, hx⟩ : ∃ x, L[k]? = some x := ⟨L[k], List.getElem?_eq_getElem hlt⟩
      have hxl := HG.out.2 xs (List.mem_of_getElem? hx)
      have h8 : B8 xs := h.bs.book.map.2 xs (List.mem_of_getElem? hx)
      have HT := Lib.hid (book_Text h.bs.book hx hLi)
      have HX := Lib.hid hx
      have H8 := Lib.hid h8
      have HXL := Lib.hid hxl
      have hL8 : Hid (∀ t ∈ L.take k, B8 t) := fun t ht => h.bs.book.map.2 t (List.mem_of_mem_take ht)
      clear hx h8 hxl
      go_wp2_with (first
        | (go_at_call 18; refine (book_Many h.bs.book).mono ?_; rintro e w' ⟨rfl, rfl⟩)
        | (go_at_call 75; refine HT.out.mono ?_; rintro e w1 ⟨A1, cap1, rfl, hr1, hf1⟩; have h1 := h.keep hf1; have c21 := h1.blk.cell 2)
        | (go_at_call 21; refine (ref03_Digest h1.rb hL8.out h1.bD_le hr1 H8.out HXL.out (by rw [List.length_take]; omega)).mono ?_; rintro e w2 ⟨v2, rfl, hb2, hf2, _⟩; rw [digL_take HG.out.1 HX.out] at hb2; obtain ⟨h2, hst2⟩ := h1.stepD hb2 hf2))
      go_roundw
      case rel => exact ⟨k + 1, v2, by omega, by go_num, h2, (hst.trans (St.of lo hf1)).trans hst2⟩
      case measure => simp [intOf]; omega
    · obtain rfl : k = L.length := by omega
      rw [List.take_length] at h
      go_wp2_with (go_at_call 18; refine (book_Many h.bs.book).mono ?_; rintro e w' ⟨rfl, rfl⟩)
      refine bodyPost_end (v := .tuple #[]) (by simp [results, go_sem]) rfl ?_
      exact ⟨rfl, ⟨g, m, base, v, gs, ms, gD, bD, vD, gQ, bQ, vQ, SQ, h, HQ.out⟩, hst⟩
theorem WSAt.book {w w' : World} {lo gw g m base : Nat} {v v' : Value} {L L' : List (List Int)} {gs ms : Nat} {SL : List (Int × Int)} {gD bD : Nat} {vD : Value} {LD : List (List Int)} {gQ bQ : Nat} {vQ : Value} {SQ : List (Int × Int)} (h : WSAt w lo gw g m base v L gs ms SL gD bD vD LD gQ bQ vQ SQ) (hb : BookAt w' g m base v' L') (hf : Fr (fun k => k = g ∨ k = m ∨ v.ownBlock = some k) w w') :
    WSAt w' lo gw g m base v' L' gs ms SL gD bD vD LD gQ bQ vQ SQ ∧ St lo w w' :=
  h.step (h.bs.bookStep hb hf) (hf.mono (fun k _ e => by rcases e with e | e | e; (· exact .inl e); (· exact .inr (.inl e)); exact .inr (.inr (.inl e))))
set_option maxRecDepth 100000 in
theorem law12_Digest {w : World} {lo gw : Nat} {L : List (List Int)} {SL : List (Int × Int)} {LD : List (List Int)} {nQ : Nat} (h : WS w lo gw L SL LD nQ) (hg : GoodL L) (hp : LD <+: L) (hL : L.length < 5000) {b : Nat} {A : Option Addr} {cap : Nat} {xs : List Int} (hv : Own8 w b (.slice A xs.length cap) xs) (h8 : B8 xs) (hx : xs.length ≤ 65536) :
    Calls Tryz.prog 14 #[.pointer (some ⟨gw, 0, none⟩), .slice A xs.length cap] w (WStep w lo gw (digL L xs) SL (digL L xs) nQ (.int .i64 (digI L xs : Nat))) := by
  have HS := Lib.hid (law12_sync h hg hp hL)
  have HL := Lib.hid hL
  have H8 := Lib.hid h8
  have HX := Lib.hid hx
  clear h hg hp h8 hx
  go_enter Tryz.func14, Tryz.ntmps14
  go_wp2_with fail
  refine HS.out.mono ?_
  rintro e w1 ⟨rfl, ⟨g, m, base, v, gs, ms, gD, bD, vD, gQ, bQ, vQ, SQ, h1, hq⟩, hst1⟩
  have hv1 : Own8 w1 b (.slice A xs.length cap) xs := own_st hv hst1 (by decide)
  have hr1 : ByteRow w1 (fun k => (Value.slice A xs.length cap).ownBlock = some k) A xs := by
    obtain ⟨A', c', e, _, hr⟩ := hv1.form
    cases e
    exact hr
  have hL8 : Hid (∀ t ∈ L, B8 t) := h1.bs.book.map.2
  have c0 := h1.blk.cell 0
  have HQ := Lib.hid hq
  clear hq
  go_wp2_with fail
  refine (book_Digest h1.bs.book h1.b_le hr1 H8.out HX.out (by have := HL.out; omega)).mono ?_
  rintro e w2 ⟨v2, rfl, hb2, hf2, _⟩
  obtain ⟨h2, hst2⟩ := h1.book hb2 hf2
  have hr2 : ByteRow w2 (fun k => (Value.slice A xs.length cap).ownBlock = some k) A xs := by
    have hv2 : Own8 w2 b (.slice A xs.length cap) xs := own_st hv1 hst2 (by decide)
    obtain ⟨A', c', e, _, hr⟩ := hv2.form
    cases e
    exact hr
  have c2 := h2.blk.cell 2
  clear c0 HS
  go_wp2_with (go_at_call 21; refine (ref03_Digest h2.rb hL8.out h2.bD_le hr2 H8.out HX.out (by have := HL.out; omega)).mono ?_; rintro e w3 ⟨v3, rfl, hb3, hf3, _⟩)
  go_ret
  obtain ⟨h3, hst3⟩ := h2.stepD hb3 hf3
  exact ⟨rfl, ⟨g, m, base, v2, gs, ms, gD, bD, v3, gQ, bQ, vQ, SQ, h3, HQ.out⟩, (hst1.trans hst2).trans hst3⟩
end Go.Proofs.YtmkdhhhoodeemaaGreat

/- cohortlaw12: Sign. -/
namespace Go.Proofs.YtmkdhhhoodeemaaGreat
open Go Go.RowKit
/-- A type of what a call made for itself. -/
def Loc (t : TypeId) : Prop := Other t ∧ t ≠ 51 ∧ t ≠ 147 ∧ t ≠ 5
instance (t : TypeId) : Decidable (Loc t) := by unfold Loc; infer_instance
theorem WSAt.far {S : Nat → Prop} {w w' : World} {lo gw g m base : Nat} {v : Value} {L : List (List Int)} {gs ms : Nat} {SL : List (Int × Int)} {gD bD : Nat} {vD : Value} {LD : List (List Int)} {gQ bQ : Nat} {vQ : Value} {SQ : List (Int × Int)} (h : WSAt w lo gw g m base v L gs ms SL gD bD vD LD gQ bQ vQ SQ) (hf : Fr S w w') (hS : ∀ k, S k → ∃ cs t, Blk w k t cs ∧ Loc t) :
    WSAt w' lo gw g m base v L gs ms SL gD bD vD LD gQ bQ vQ SQ := by
  have hc : ∀ {k : Nat} {cs : Array Value} {t : TypeId} {f : Nat × Nat}, w.heap[k]? = some (.cells cs t f) → ¬ Loc t → ¬ S k := fun {k cs t f} hk hn hs => by
    obtain ⟨cs', t', hB, hl⟩ := hS k hs
    have := cells_inj hk hB
    subst this
    exact hn hl
  have hm : ∀ {k : Nat} {es : Array MapEntry} {cl : Nat}, w.heap[k]? = some (.map es cl) → ¬ S k := fun {k es cl} hk hs => by
    obtain ⟨cs', t', hB, hl⟩ := hS k hs
    unfold Blk at hB
    rw [hB] at hk
    cases hk
  obtain ⟨⟨es, cl, h1, _⟩, _⟩ := h.bs.book.map
  obtain ⟨es2, cl2, h2, _⟩ := h.bs.seals.map
  obtain ⟨vals, hown, _⟩ := h.rb.row
  refine ⟨h.blk.fr hf (hc h.blk (by decide)), ⟨h.bs.book.fr hf (hc h.bs.book.blk (by decide)) (hm h1) ?_, h.bs.seals.fr hf (hc h.bs.seals.blk (by decide)) (hm h2), h.bs.ne⟩, h.rb.fr hf (hc h.rb.blk (by decide)) ?_ ?_, h.rq.fr hf (hc h.rq.blk (by decide)) ?_, h.lo_g, h.lo_m, h.lo_b, h.lo_s, h.lo_D, h.lo_bD, h.lo_Q, h.lo_bQ, Nat.le_trans h.b_le hf.size, Nat.le_trans h.bD_le hf.size, Nat.le_trans h.bQ_le hf.size⟩
  · intro k hk
    obtain ⟨cs, hB⟩ := own_cells h.bs.book.own hk
    exact hc hB (by decide)
  · intro k hk
    obtain ⟨cs, hB⟩ := own_cells hown hk
    exact hc hB (by decide)
  · intro k ⟨cs, f, h3⟩
    exact hc h3 (by decide)
  · intro k hk
    obtain ⟨cs, hB⟩ := own_cells h.rq.own hk
    exact hc hB (by decide)
theorem St.far {S : Nat → Prop} {lo : Nat} {w wr w' : World} (h : St lo w wr) (hf : Fr S wr w') (hS : ∀ k, S k → w.heap.size ≤ k) (hlo : lo ≤ w.heap.size) : St lo w w' :=
  ⟨h.fr.trans hf (fun k _ hk => Nat.le_trans hlo (hS k hk)), fun k t cs hB ho => (h.blk k t cs hB ho).fr hf (fun hs => by have := hS k hs; have := hB.lt; omega)⟩
def bitOn (m : Int) (k : Nat) : Bool := bits .and .i64 (m / 2 ^ k) 1 == 1
/-- Who of the first k places of a group is in the mask signs d. -/
def signTo (gr mask d : Int) (SL : List (Int × Int)) : Nat → List (Int × Int)
  | 0 => SL
  | k + 1 => if bitOn mask k = true then signL (memberOf gr k) d (signTo gr mask d SL k) else signTo gr mask d SL k
theorem signL_len (who d : Int) (L : List (Int × Int)) : (signL who d L).length ≤ L.length + 1 := by
  unfold signL
  repeat' split
  all_goals simp
theorem signTo_len (gr mask d : Int) (SL : List (Int × Int)) : ∀ k, (signTo gr mask d SL k).length ≤ SL.length + k
  | 0 => Nat.le_refl _
  | k + 1 => by
    have h1 := signTo_len gr mask d SL k
    unfold signTo
    split
    · have := signL_len (memberOf gr k) d (signTo gr mask d SL k)
      omega
    · omega
theorem memberOf_le (g : Int) (k : Nat) : memberOf g k ≤ 9223372036854775807 := by
  unfold memberOf
  split <;> omega
def WSigned (w : World) (lo gw : Nat) (L : List (List Int)) (SL : List (Int × Int)) (LD : List (List Int)) (nQ : Nat) (e : Ending) (w' : World) : Prop :=
  ∃ r, e = .returned r ∧ WS w' lo gw L SL LD nQ ∧ St lo w w'
set_option maxRecDepth 100000 in
set_option maxHeartbeats 1000000 in
theorem law12_Sign {w : World} {lo gw : Nat} {L : List (List Int)} {SL : List (Int × Int)} {LD : List (List Int)} {nQ : Nat} (h : WS w lo gw L SL LD nQ) (hn : nQ < 131000) (gr mask d : Int) :
    Calls Tryz.prog 13 #[.pointer (some ⟨gw, 0, none⟩), .int .i64 gr, .int .i64 mask, .int .i64 d] w (WSigned w lo gw L (signTo gr mask d SL 10) LD (nQ + 10)) := by
  obtain ⟨g, m, base, v, gs, ms, gD, bD, vD, gQ, bQ, vQ, SQ, h, hq⟩ := h
  have hlo : lo ≤ w.heap.size := Nat.le_trans h.lo_b h.b_le
  have HQ : Hid (SQ.length ≤ nQ) := hq
  have HN : Hid (nQ < 131000) := hn
  clear hq hn
  go_enter Tryz.func13, Tryz.ntmps13
  go_upto_region 2 with fail
  generalize (if d < 0 then (0 : Int) else d) = dm
  have hB8 : Blk ((w.alloc (Obj.cells #[.int .i64 0, .int .i64 0, .slice none 0 0] 41)).alloc (Obj.cells #[.int .i64 gr, .int .i64 dm, .slice none 0 0] 41)) w.heap.size 41 #[.int .i64 0, .int .i64 0, .slice none 0 0] := (Blk.new w _ _).alloc _
  have hB9 : Blk ((w.alloc (Obj.cells #[.int .i64 0, .int .i64 0, .slice none 0 0] 41)).alloc (Obj.cells #[.int .i64 gr, .int .i64 dm, .slice none 0 0] 41)) (w.heap.size + 1) 41 #[.int .i64 gr, .int .i64 dm, .slice none 0 0] := Blk.new_ _ _ _ (by simp)
  have hf0 : Fr (fun _ => False) w ((w.alloc (Obj.cells #[.int .i64 0, .int .i64 0, .slice none 0 0] 41)).alloc (Obj.cells #[.int .i64 gr, .int .i64 dm, .slice none 0 0] 41)) := ((Fr.refl _ _).alloc _).alloc _
  have H0 := Lib.hid (h.keep hf0)
  have HST := Lib.hid (St.of lo hf0)
  have hn0 : ((w.alloc (Obj.cells #[.int .i64 0, .int .i64 0, .slice none 0 0] 41)).alloc (Obj.cells #[.int .i64 gr, .int .i64 dm, .slice none 0 0] 41)).ownsRow w.heap.size 3 1 (.slice none 0 0) 0 [] := ⟨rfl, .inl ⟨rfl, rfl⟩⟩
  clear h hf0
  go_wp2_with fail
  go_loopw [10] (fun ix wr => ∃ (k n : Nat) (vQ va : Value) (xs : List Value), k ≤ 10 ∧ n ≤ k ∧ ix = .int .i64 k ∧ WSAt wr lo gw g m base v L gs ms (signTo gr mask d SL k) gD bD vD LD gQ bQ vQ (signTo gr mask d SQ k) ∧ Blk wr w.heap.size 41 #[.int .i64 0, .int .i64 0, .slice none 0 0] ∧ Blk wr (w.heap.size + 1) 41 #[.int .i64 gr, .int .i64 dm, va] ∧ wr.ownsRow w.heap.size 3 1 va n xs ∧ St lo w wr) (fun ix _ => 10 - (intOf ix).toNat)
  case atStart => exact ⟨0, 0, vQ, .slice none 0 0, [], by omega, by omega, rfl, H0.out, hB8, hB9, hn0, HST.out⟩
  case round =>
    clear hB8 hB9 hn0
    obtain ⟨k, n, vQ, va, xs, hk, hnk, rfl, h, hB8, hB9, hown, hst⟩ := hrel
    obtain ⟨A, cap, rfl, _, _⟩ := own_form hown
    by_cases hlt : k < 10
    · cases hbit : bitOn mask k with
      | true =>
        have hb' : (bits .and .i64 (mask / 2 ^ k) 1 == 1) = true := hbit
        have HBI := Lib.hid hbit
        have c1 := h.blk.cell 1
        have hszq := signTo_len gr mask d SQ k
        have HSQ : Hid ((signTo gr mask d SQ k).length < 131072) := by have := HQ.out; have := HN.out; show _ < _; omega
        clear hbit hszq
        go_wp2_with (go_at_call 37; refine (ref04_Member gr k _).mono ?_; rintro e w' ⟨rfl, rfl⟩)
        refine (seals_Sign h.bs.seals (memberOf gr k) d (memberOf_le gr k)).mono ?_
        rintro e w2 ⟨rfl, hs2, hf2⟩
        obtain ⟨h2, hst2⟩ := h.step (h.bs.sealStep hs2 hf2) (hf2.mono (fun k _ e => .inr (.inr (.inr e))))
        generalize errO (signErr (memberOf gr k) d (signTo gr mask d SL k)) = rv
        have c3 := h2.blk.cell 3
        clear c1 hs2 hf2
        go_wp2_with fail
        refine (ref04_Sign h2.rq h2.bQ_le HSQ.out (memberOf gr k) d).mono ?_
        rintro e w3 ⟨v3, rfl, hr3, hf3⟩
        obtain ⟨h3, hst3⟩ := h2.stepQ hr3 hf3
        have hst13 := (hst.trans hst2).trans hst3
        have hst23 := hst2.trans hst3
        have hB83 := hst23.blk _ _ _ hB8 (by decide)
        have hB93 := hst23.blk _ _ _ hB9 (by decide)
        have hown3 := own_st hown hst23 (by decide)
        have hc2 := hB93.cell 2
        have hc2' := (hB93.alloc (Obj.cells #[.int .i64 k] 3)).cell 2
        have hle3 : w.heap.size ≤ w3.heap.size := hst13.fr.size
        clear c3 hr3 hf3 hB8 hB9 hown h h2 hst hst2 hst3 hst23
        go_wp2_with (at_builtin; go_loud (refine wpList_append1 _ rfl _ _ _ rfl w.heap.size 3 (.int .i64 0) 8 Tryz.underlying30 int_info rfl (.slice A n cap) _ _ rfl (hown3.alloc _) w3.heap.size (.int .i64 k) rfl ?_ rfl ?_ (by omega) ?_ ?_); (· simp); (· omega); (· simp; omega); intro g4 c4 w4 hown4 hf4; (have hB94 := (hB93.alloc (Obj.cells #[.int .i64 k] 3)).fr hf4 (own_ne_blk hown3 hB93 (by decide))); have d2 := hB94.cell 2; have z2 := hB94.frozen 2)
        go_roundw
        case rel =>
          have hfa : Fr (fun _ => False) w3 (w3.alloc (Obj.cells #[.int .i64 k] 3)) := (Fr.refl _ _).alloc _
          have hoa := own_fr hown3 hfa (fun _ _ => id)
          have hfs : Fr (fun j => j = w.heap.size + 1) w4 (w4.setCell ⟨w.heap.size + 1, 2, none⟩ (.slice (some ⟨g4, 0, none⟩) (n + 1) c4)) := (Fr.refl (fun j => j = w.heap.size + 1) w4).setCell (p := ⟨w.heap.size + 1, 2, none⟩) (fun _ => rfl) _
          have hB84 := (hB83.fr hfa id).fr hf4 (own_ne_blk hown3 hB83 (by decide))
          have e1 : signTo gr mask d SL (k + 1) = signL (memberOf gr k) d (signTo gr mask d SL k) := by rw [signTo, if_pos HBI.out]
          have e2 : signTo gr mask d SQ (k + 1) = signL (memberOf gr k) d (signTo gr mask d SQ k) := by rw [signTo, if_pos HBI.out]
          have hfar := ((h3.keep hfa).far hf4 (fun j hj => by
            obtain ⟨cs, hB⟩ := own_cells hoa hj
            exact ⟨cs, _, hB, by decide⟩)).far hfs (fun j hj => ⟨_, _, hj ▸ hB94, by decide⟩)
          refine ⟨k + 1, n + 1, v3, _, _, by omega, by omega, by go_num, ?_, hB84.fr hfs (fun e => by omega), hB94.set_ 2 _, own_fr hown4 hfs (fun j hj e => own_ne_blk hown4 hB94 (by decide) (e ▸ hj)), ?_⟩
          · rw [e1, e2]
            exact hfar
          · exact ((hst13.trans (St.of lo hfa)).far hf4 (fun j hj => own_ge hoa j hj) hlo).far hfs (fun j hj => by omega) hlo
        case measure => simp [intOf]; omega
      | false =>
        have hb' : (bits .and .i64 (mask / 2 ^ k) 1 == 1) = false := hbit
        have HBI := Lib.hid hbit
        clear hbit
        go_wp2_with fail
        go_roundw
        case rel =>
          have e1 : ∀ S, signTo gr mask d S (k + 1) = signTo gr mask d S k := fun S => by rw [signTo, if_neg (by rw [HBI.out]; decide)]
          exact ⟨k + 1, n, vQ, _, xs, by omega, by omega, by go_num, by rw [e1, e1]; exact h, hB8, hB9, hown, hst⟩
        case measure => simp [intOf]; omega
    · obtain rfl : k = 10 := by omega
      have d0 := hB9.cell 0
      have d1 := hB9.cell 1
      have d2 := hB9.cell 2
      have f0 := hB8.cell 0
      have f1 := hB8.cell 1
      have f2 := hB8.cell 2
      have z0 := hB8.frozen 0
      have z1 := hB8.frozen 1
      have z2 := hB8.frozen 2
      go_wp2_with fail
      have hBf := ((hB8.set_ 0 (.int .i64 gr)).set_ 1 (.int .i64 dm)).set_ 2 (.slice A n cap)
      have hff : Fr (fun j => j = w.heap.size) wr (((wr.setCell ⟨w.heap.size, 0, none⟩ (.int .i64 gr)).setCell ⟨w.heap.size, 1, none⟩ (.int .i64 dm)).setCell ⟨w.heap.size, 2, none⟩ (.slice A n cap)) := (((Fr.refl (fun j => j = w.heap.size) wr).setCell (p := ⟨w.heap.size, 0, none⟩) (fun _ => rfl) _).setCell (p := ⟨w.heap.size, 1, none⟩) (fun _ => rfl) _).setCell (p := ⟨w.heap.size, 2, none⟩) (fun _ => rfl) _
      generalize ((wr.setCell ⟨w.heap.size, 0, none⟩ (.int .i64 gr)).setCell ⟨w.heap.size, 1, none⟩ (.int .i64 dm)).setCell ⟨w.heap.size, 2, none⟩ (.slice A n cap) = wf at hBf hff ⊢
      have e0 := hBf.cell 0
      have e1 := hBf.cell 1
      have e2 := hBf.cell 2
      simp at e0 e1 e2
      refine bodyPost_ret (v := .agg #[.int .i64 gr, .int .i64 dm, .slice A n cap]) (by simp [results, Tryz.results13, go_sem, e0, e1, e2]) rfl ?_
      have hlq := signTo_len gr mask d SQ 10
      have := HQ.out
      exact ⟨_, rfl, ⟨g, m, base, v, gs, ms, gD, bD, vD, gQ, bQ, vQ, _, h.far hff (fun j hj => ⟨_, _, hj ▸ hB8, by decide⟩), by omega⟩, hst.far hff (fun j hj => by omega) hlo⟩
end Go.Proofs.YtmkdhhhoodeemaaGreat

/- cohortlaw20: vote. -/
namespace Go.Proofs.YtmkdhhhoodeemaaGreat
open Go Go.RowKit
/-- A World that is in order: its texts are the book's, the document's book has the first of them. -/
def WP (w : World) (lo gw : Nat) (L : List (List Int)) (SL : List (Int × Int)) (nQ : Nat) : Prop := GoodL L ∧ ∃ LD, LD <+: L ∧ WS w lo gw L SL LD nQ
theorem WP.keep {w w' : World} {lo gw : Nat} {L : List (List Int)} {SL : List (Int × Int)} {nQ : Nat} (h : WP w lo gw L SL nQ) (hf : Fr (fun _ => False) w w') : WP w' lo gw L SL nQ := by
  obtain ⟨hg, LD, hp, h⟩ := h
  exact ⟨hg, LD, hp, h.keep hf⟩
theorem WP.far {S : Nat → Prop} {w w' : World} {lo gw : Nat} {L : List (List Int)} {SL : List (Int × Int)} {nQ : Nat} (h : WP w lo gw L SL nQ) (hf : Fr S w w') (hS : ∀ k, S k → ∃ cs t, Blk w k t cs ∧ Loc t) : WP w' lo gw L SL nQ := by
  obtain ⟨hg, LD, hp, g, m, base, v, gs, ms, gD, bD, vD, gQ, bQ, vQ, SQ, h, hq⟩ := h
  exact ⟨hg, LD, hp, g, m, base, v, gs, ms, gD, bD, vD, gQ, bQ, vQ, SQ, h.far hf hS, hq⟩
def kindS (kind d : Int) (yes : Bool) : SayD := ⟨kind, d, yes, ⟨#[]⟩, ⟨#[]⟩, 0, 0, 0, 0⟩
def voteS (kind d : Int) (yes : Bool) (gr mask : Int) (L : List (List Int)) (SL : List (Int × Int)) : List (Int × Int) :=
  if OkSay (kindS kind d yes) then signTo gr mask (digI L (sayB (kindS kind d yes)) : Nat) SL 10 else SL
end Go.Proofs.YtmkdhhhoodeemaaGreat
