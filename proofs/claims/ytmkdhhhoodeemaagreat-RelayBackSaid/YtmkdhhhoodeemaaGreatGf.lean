/- Parts of the proof, joined. -/
import Derived.Test.YtmkdhhhoodeemaaGreatGa
import Derived.Test.YtmkdhhhoodeemaaGreatGb
import Derived.Test.YtmkdhhhoodeemaaGreatGc
import Derived.Test.YtmkdhhhoodeemaaGreatGd
import Derived.Test.YtmkdhhhoodeemaaGreatGe
set_option linter.unusedVariables false
set_option linter.unusedSimpArgs false
/- say: an order's texts, where its proof is zero. -/
namespace Go.Proofs.YtmkdhhhoodeemaaGreat
open Go Go.RowKit
attribute [local go_sem ↓] run_neqSay run_eqlSay
theorem putP_of {w : World} {G D : Int} {xs : List Int} (hx : xs.length ≤ 1024) {e : Ending} {w' : World} (h : PutOut w G D xs e w') : PutP w (num8 G ++ num8 D ++ numsB xs) .nilIface e w' := by
  unfold PutOut putErr putB at h
  rw [if_pos hx, if_pos hx] at h
  exact h
theorem err_row {w : World} {g : Nat} {t : TypeId} {a b c d : Value} (h : Blk w g t #[a, b, c, d]) (ha : NilOr a) (hb : NilOr b) (hc : NilOr c) (hd : NilOr d) : ErrRow w g [a, b, c, d] := by
  intro k x hx
  match k, hx with
  | 0, hx => cases hx; exact ⟨h.cell 0, ha⟩
  | 1, hx => cases hx; exact ⟨h.cell 1, hb⟩
  | 2, hx => cases hx; exact ⟨h.cell 2, hc⟩
  | 3, hx => cases hx; exact ⟨h.cell 3, hd⟩
theorem get_fine {w : World} {bs : List Int} (h : getOk bs) {e : Ending} {w' : World} (hg : GetOut w bs e w') : ∃ x, e = .returned (.tuple #[x, .nilIface]) ∧ Fr (fun _ => False) w w' := by
  obtain ⟨⟨_, A, cap, he, _⟩ | ⟨hno, _⟩, hf⟩ := hg
  · exact ⟨_, he, hf⟩
  · exact absurd h hno
theorem bytes8_app {a b : List Int} (ha : Bytes8 a) (hb : Bytes8 b) : Bytes8 (a ++ b) := fun x hx => (List.mem_append.1 hx).elim (ha x) (hb x)
theorem cert_bytes (G D : Int) (xs : List Int) : Bytes8 (num8 G ++ num8 D ++ numsB xs) :=
  bytes8_app (bytes8_app (num8_bytes G) (num8_bytes D)) (bytes8_app (count4_bytes _) (fun x hx => by
    obtain ⟨y, _, h⟩ := List.mem_flatMap.1 hx
    exact num8_bytes y x h))
theorem cert_len {G D : Int} {xs : List Int} (h : xs.length ≤ 1024) : (num8 G ++ num8 D ++ numsB xs).length ≤ 9000 := by
  have := flat_num8 xs
  have e1 : (num8 G).length = 8 := by simp [num8]
  have e2 : (num8 D).length = 8 := by simp [num8]
  have e3 : (count4 (xs.length : Int)).length = 4 := rfl
  rw [List.length_append, List.length_append, numsB, List.length_append, e1, e2, e3, this]
  omega
set_option maxRecDepth 100000 in
set_option maxHeartbeats 2000000 in
theorem say_texts_ok {w : World} {A B : Option Addr} {nr nw cr cw : Nat} {c n : Int} {s : SayD} {bC : Nat} {C : Option Addr} {cx : Nat} {xs : List Int} {G D : Int} (hC : IntRow w bC C xs) (hbC : bC ≤ w.heap.size) (hxl : xs.length ≤ 1024) (hgetok : getOk (num8 G ++ num8 D ++ numsB xs)) {bs : List Int} (hbs : num8 G ++ num8 D ++ numsB xs = bs) {kind : Int} {nm sz : Bool} {b0 b1 : List Int} {r0 r1 : Value}
    (hsz : zeroSay s = !sz)
    (h0 : ∀ w', Fr (fun _ => False) w w' → Calls Tryz.prog 148 #[.bool nm, .agg #[.int .i64 c, .int .i64 n, .slice A nr cr, .slice B nw cw], .func (.func 149) #[] #[]] w' (PutP w' b0 r0))
    (h1 : ∀ w', Fr (fun _ => False) w w' → Calls Tryz.prog 150 #[.bool sz, .agg #[.int .i64 s.kind, .int .i64 s.txn, .bool s.yes, .string s.from_, .string s.to_, .int .i64 s.epoch, .int .i64 s.shard, .int .i64 s.target, .int .i64 s.root], .func (.func 77) #[] #[]] w' (PutP w' b1 r1))
    (hr0 : r0 = .nilIface) (hr1 : r1 = .nilIface) (hk1 : 1 ≤ kind) (hk2 : kind ≤ 10) (hnm : nm = false) (hk : ¬ kind = 1 ∧ ¬ kind = 6) (hno : ∀ w', Fr (fun _ => False) w w' → Calls Tryz.prog 155 #[.agg #[.int .i64 c, .int .i64 n, .slice A nr cr, .slice B nw cw]] w' (OkB w' true)) :
    Calls Tryz.prog 123 #[.agg #[.int .i64 kind, .int .i64 c, .int .i64 n, .slice A nr cr, .slice B nw cw, .int .i64 s.kind, .int .i64 s.txn, .bool s.yes, .string s.from_, .string s.to_, .int .i64 s.epoch, .int .i64 s.shard, .int .i64 s.target, .int .i64 s.root, .int .i64 G, .int .i64 D, .slice C xs.length cx, .int .i64 0, .int .i64 0, .slice none 0 0, .slice none 0 0]] w (fun e w' => ∃ v0 v1 v2, e = .returned (.tuple #[.agg #[v0, v1, v2], .bool true]) ∧ Own8 w' w.heap.size v0 b0 ∧ Own8 w' w.heap.size v1 b1 ∧ Own8 w' w.heap.size v2 bs ∧ Fr (fun _ => False) w w') := by
  have H0 := Lib.hid h0
  have H1 := Lib.hid h1
  have HC := Lib.hid hC
  have HG := hgetok
  rw [hbs] at HG
  have HG := Lib.hid HG
  have HBS := Lib.hid hbs
  have H8 : Hid (Bytes8 bs) := by show Bytes8 bs; rw [← hbs]; exact cert_bytes G D xs
  have HBL : Hid (bs.length ≤ 9000) := by show _ ≤ _; rw [← hbs]; exact cert_len hxl
  have HXL := Lib.hid hxl
  have HBC := Lib.hid hbC
  clear h0 h1 hC hgetok hxl hbC hbs
  have hf0 : Fr (fun _ => False) w ((((w.alloc (Obj.cells #[.int .i64 kind, .int .i64 c, .int .i64 n, .slice A nr cr, .slice B nw cw, .int .i64 s.kind, .int .i64 s.txn, .bool s.yes, .string s.from_, .string s.to_, .int .i64 s.epoch, .int .i64 s.shard, .int .i64 s.target, .int .i64 s.root, .int .i64 G, .int .i64 D, .slice C xs.length cx, .int .i64 0, .int .i64 0, .slice none 0 0, .slice none 0 0] 62)).alloc (Obj.cells #[.slice none 0 0, .slice none 0 0, .slice none 0 0] 214)).alloc (Obj.cells #[.slice none 0 0, .slice none 0 0, .slice none 0 0] 214)).alloc (Obj.cells #[.nilIface, .nilIface, .nilIface, .nilIface] 233)) := ((((Fr.refl _ _).alloc _).alloc _).alloc _).alloc _
  have hO0 : Blk ((((w.alloc (Obj.cells #[.int .i64 kind, .int .i64 c, .int .i64 n, .slice A nr cr, .slice B nw cw, .int .i64 s.kind, .int .i64 s.txn, .bool s.yes, .string s.from_, .string s.to_, .int .i64 s.epoch, .int .i64 s.shard, .int .i64 s.target, .int .i64 s.root, .int .i64 G, .int .i64 D, .slice C xs.length cx, .int .i64 0, .int .i64 0, .slice none 0 0, .slice none 0 0] 62)).alloc (Obj.cells #[.slice none 0 0, .slice none 0 0, .slice none 0 0] 214)).alloc (Obj.cells #[.slice none 0 0, .slice none 0 0, .slice none 0 0] 214)).alloc (Obj.cells #[.nilIface, .nilIface, .nilIface, .nilIface] 233)) w.heap.size 62 #[.int .i64 kind, .int .i64 c, .int .i64 n, .slice A nr cr, .slice B nw cw, .int .i64 s.kind, .int .i64 s.txn, .bool s.yes, .string s.from_, .string s.to_, .int .i64 s.epoch, .int .i64 s.shard, .int .i64 s.target, .int .i64 s.root, .int .i64 G, .int .i64 D, .slice C xs.length cx, .int .i64 0, .int .i64 0, .slice none 0 0, .slice none 0 0] := (((Blk.new w _ _).alloc _).alloc _).alloc _
  have hR0 : Blk ((((w.alloc (Obj.cells #[.int .i64 kind, .int .i64 c, .int .i64 n, .slice A nr cr, .slice B nw cw, .int .i64 s.kind, .int .i64 s.txn, .bool s.yes, .string s.from_, .string s.to_, .int .i64 s.epoch, .int .i64 s.shard, .int .i64 s.target, .int .i64 s.root, .int .i64 G, .int .i64 D, .slice C xs.length cx, .int .i64 0, .int .i64 0, .slice none 0 0, .slice none 0 0] 62)).alloc (Obj.cells #[.slice none 0 0, .slice none 0 0, .slice none 0 0] 214)).alloc (Obj.cells #[.slice none 0 0, .slice none 0 0, .slice none 0 0] 214)).alloc (Obj.cells #[.nilIface, .nilIface, .nilIface, .nilIface] 233)) (w.heap.size + 1) 214 #[.slice none 0 0, .slice none 0 0, .slice none 0 0] := ((Blk.new_ _ _ _ (by simp)).alloc _).alloc _
  have hL0 : Blk ((((w.alloc (Obj.cells #[.int .i64 kind, .int .i64 c, .int .i64 n, .slice A nr cr, .slice B nw cw, .int .i64 s.kind, .int .i64 s.txn, .bool s.yes, .string s.from_, .string s.to_, .int .i64 s.epoch, .int .i64 s.shard, .int .i64 s.target, .int .i64 s.root, .int .i64 G, .int .i64 D, .slice C xs.length cx, .int .i64 0, .int .i64 0, .slice none 0 0, .slice none 0 0] 62)).alloc (Obj.cells #[.slice none 0 0, .slice none 0 0, .slice none 0 0] 214)).alloc (Obj.cells #[.slice none 0 0, .slice none 0 0, .slice none 0 0] 214)).alloc (Obj.cells #[.nilIface, .nilIface, .nilIface, .nilIface] 233)) (w.heap.size + 1 + 1) 214 #[.slice none 0 0, .slice none 0 0, .slice none 0 0] := (Blk.new_ _ _ _ (by simp)).alloc _
  have hE0 : Blk ((((w.alloc (Obj.cells #[.int .i64 kind, .int .i64 c, .int .i64 n, .slice A nr cr, .slice B nw cw, .int .i64 s.kind, .int .i64 s.txn, .bool s.yes, .string s.from_, .string s.to_, .int .i64 s.epoch, .int .i64 s.shard, .int .i64 s.target, .int .i64 s.root, .int .i64 G, .int .i64 D, .slice C xs.length cx, .int .i64 0, .int .i64 0, .slice none 0 0, .slice none 0 0] 62)).alloc (Obj.cells #[.slice none 0 0, .slice none 0 0, .slice none 0 0] 214)).alloc (Obj.cells #[.slice none 0 0, .slice none 0 0, .slice none 0 0] 214)).alloc (Obj.cells #[.nilIface, .nilIface, .nilIface, .nilIface] 233)) (w.heap.size + 1 + 1 + 1) 233 #[.nilIface, .nilIface, .nilIface, .nilIface] := Blk.new_ _ _ _ (by simp)
  have hz0 : w.heap.size + 4 ≤ ((((w.alloc (Obj.cells #[.int .i64 kind, .int .i64 c, .int .i64 n, .slice A nr cr, .slice B nw cw, .int .i64 s.kind, .int .i64 s.txn, .bool s.yes, .string s.from_, .string s.to_, .int .i64 s.epoch, .int .i64 s.shard, .int .i64 s.target, .int .i64 s.root, .int .i64 G, .int .i64 D, .slice C xs.length cx, .int .i64 0, .int .i64 0, .slice none 0 0, .slice none 0 0] 62)).alloc (Obj.cells #[.slice none 0 0, .slice none 0 0, .slice none 0 0] 214)).alloc (Obj.cells #[.slice none 0 0, .slice none 0 0, .slice none 0 0] 214)).alloc (Obj.cells #[.nilIface, .nilIface, .nilIface, .nilIface] 233)).heap.size := by simp
  subst hr0 hr1 hnm
  have HN := Lib.hid hno
  clear hno
  obtain ⟨q1, q6⟩ := hk
  have q1' : (kind == 1) = false := by simp [q1]
  have q6' : (kind == 6) = false := by simp [q6]
  go_enter Tryz.func123, Tryz.ntmps123
  go_upto_region 4 with fail
  generalize ((((w.alloc (Obj.cells #[.int .i64 kind, .int .i64 c, .int .i64 n, .slice A nr cr, .slice B nw cw, .int .i64 s.kind, .int .i64 s.txn, .bool s.yes, .string s.from_, .string s.to_, .int .i64 s.epoch, .int .i64 s.shard, .int .i64 s.target, .int .i64 s.root, .int .i64 G, .int .i64 D, .slice C xs.length cx, .int .i64 0, .int .i64 0, .slice none 0 0, .slice none 0 0] 62)).alloc (Obj.cells #[.slice none 0 0, .slice none 0 0, .slice none 0 0] 214)).alloc (Obj.cells #[.slice none 0 0, .slice none 0 0, .slice none 0 0] 214)).alloc (Obj.cells #[.nilIface, .nilIface, .nilIface, .nilIface] 233)) = w0 at *
  have k1 := hO0.cell 1
  have k2 := hO0.cell 2
  have k3 := hO0.cell 3
  have k4 := hO0.cell 4
  go_upto_region 5 with (first | (go_at_call 148; refine (H0.out _ hf0).mono ?_; rintro e w1 ⟨v0, rfl, hv01, hf1⟩; obtain ⟨A0, c0, rfl, _, _⟩ := hv01.form; have hf01 := hf0.then_ hf1; have hL1 := hL0.fr hf1 id; have hE1 := hE0.fr hf1 id; have hO1 := hO0.fr hf1 id; have hR1 := hR0.fr hf1 id; have l0 := hL1.cell 0; have lf := hL1.frozen 0; have e0 := hE1.cell 0; have ef := hE1.frozen 0))
  have hO2 : Blk ((w1.setCell ⟨w.heap.size + 1 + 1, 0, none⟩ (Value.slice A0 b0.length c0)).setCell ⟨w.heap.size + 1 + 1 + 1, 0, none⟩ .nilIface) _ _ _ := ((hO1.far (fun h => by (try dsimp only at h); omega) _).far (fun h => by (try dsimp only at h); omega) _)
  have hR2 : Blk ((w1.setCell ⟨w.heap.size + 1 + 1, 0, none⟩ (Value.slice A0 b0.length c0)).setCell ⟨w.heap.size + 1 + 1 + 1, 0, none⟩ .nilIface) _ _ _ := ((hR1.far (fun h => by (try dsimp only at h); omega) _).far (fun h => by (try dsimp only at h); omega) _)
  have hL2 : Blk ((w1.setCell ⟨w.heap.size + 1 + 1, 0, none⟩ (Value.slice A0 b0.length c0)).setCell ⟨w.heap.size + 1 + 1 + 1, 0, none⟩ .nilIface) _ _ _ := ((hL1.set_ 0 _).far (fun h => by (try dsimp only at h); omega) _)
  have hE2 : Blk ((w1.setCell ⟨w.heap.size + 1 + 1, 0, none⟩ (Value.slice A0 b0.length c0)).setCell ⟨w.heap.size + 1 + 1 + 1, 0, none⟩ .nilIface) _ _ _ := ((hE1.far (fun h => by (try dsimp only at h); omega) _).set_ 0 _)
  have hf02 : Fr (fun _ => False) w ((w1.setCell ⟨w.heap.size + 1 + 1, 0, none⟩ (Value.slice A0 b0.length c0)).setCell ⟨w.heap.size + 1 + 1 + 1, 0, none⟩ .nilIface) := ((hf01.setCell (p := ⟨w.heap.size + 1 + 1, 0, none⟩) (fun h => absurd h (by dsimp only; omega)) _).setCell (p := ⟨w.heap.size + 1 + 1 + 1, 0, none⟩) (fun h => absurd h (by dsimp only; omega)) _)
  have hv02 : Own8 ((w1.setCell ⟨w.heap.size + 1 + 1, 0, none⟩ (Value.slice A0 b0.length c0)).setCell ⟨w.heap.size + 1 + 1 + 1, 0, none⟩ .nilIface) _ _ _ := hv01.fr (((Fr.refl (fun k => k = (w.heap.size + 1 + 1 + 1) ∨ k = (w.heap.size + 1 + 1)) w1).setCell (p := ⟨w.heap.size + 1 + 1, 0, none⟩) (fun _ => Or.inr rfl) _).setCell (p := ⟨w.heap.size + 1 + 1 + 1, 0, none⟩) (fun _ => Or.inl rfl) _) (fun k hk h => h.elim (fun h => hv01.ne_blk hE1 (by decide) (by rw [← h]; exact hk)) (fun h => hv01.ne_blk hL1 (by decide) (by rw [← h]; exact hk)))
  generalize ((w1.setCell ⟨w.heap.size + 1 + 1, 0, none⟩ (Value.slice A0 b0.length c0)).setCell ⟨w.heap.size + 1 + 1 + 1, 0, none⟩ .nilIface) = w2 at *
  have k5 := hO2.cell 5
  have k6 := hO2.cell 6
  have k7 := hO2.cell 7
  have k8 := hO2.cell 8
  have k9 := hO2.cell 9
  have k10 := hO2.cell 10
  have k11 := hO2.cell 11
  have k12 := hO2.cell 12
  have k13 := hO2.cell 13
  have hf02d : Fr (fun _ => False) w w2.drew := hf02.drew
  refine wp_region_noPanic ?_
  refine wp_region_held_drew (S := (fun w' => w'.cell? ⟨w.heap.size, 5, none⟩ = some (.int .i64 s.kind) ∧ w'.cell? ⟨w.heap.size, 6, none⟩ = some (.int .i64 s.txn) ∧ w'.cell? ⟨w.heap.size, 7, none⟩ = some (.bool s.yes) ∧ w'.cell? ⟨w.heap.size, 8, none⟩ = some (.string s.from_) ∧ w'.cell? ⟨w.heap.size, 9, none⟩ = some (.string s.to_) ∧ w'.cell? ⟨w.heap.size, 10, none⟩ = some (.int .i64 s.epoch) ∧ w'.cell? ⟨w.heap.size, 11, none⟩ = some (.int .i64 s.shard) ∧ w'.cell? ⟨w.heap.size, 12, none⟩ = some (.int .i64 s.target) ∧ w'.cell? ⟨w.heap.size, 13, none⟩ = some (.int .i64 s.root))) (by kernel_rfl) (⟨k5, k6, k7, k8, k9, k10, k11, k12, k13⟩) (fun hHeld => ?_)
  refine wpAnyH_takeAt (i := 0) (v := ?vb0) (some 26) rfl rfl (by kernel_rfl) (by kernel_rfl) (by kernel_rfl) (fun _ _ _ h => h) (Or.inl ⟨by rfl, ?hyb0⟩) (by assumption) ?restb0
  case hyb0 => (intro w hSw; (try dsimp only at hSw); go_simp; all_goals with_reducible rfl)
  simp only [Act.put, List.setIfInBounds_toArray, List.set_cons_zero, List.set_cons_succ]
  refine wpAnyH_takeAt (i := 1) (v := ?vb1) (some 27) rfl rfl (by kernel_rfl) (by kernel_rfl) (by kernel_rfl) (fun _ _ _ h => h) (Or.inl ⟨by rfl, ?hyb1⟩) (by assumption) ?restb1
  case hyb1 => (intro w hSw; (try dsimp only at hSw); go_simp; all_goals with_reducible rfl)
  simp only [Act.put, List.setIfInBounds_toArray, List.set_cons_zero, List.set_cons_succ]
  refine wpAnyH_takeAt (i := 2) (v := ?vb2) (some 28) rfl rfl (by kernel_rfl) (by kernel_rfl) (by kernel_rfl) (fun _ _ _ h => h) (Or.inl ⟨by rfl, ?hyb2⟩) (by assumption) ?restb2
  case hyb2 => (intro w hSw; (try dsimp only at hSw); go_simp; all_goals with_reducible rfl)
  simp only [Act.put, List.setIfInBounds_toArray, List.set_cons_zero, List.set_cons_succ]
  refine wpAnyH_takeAt (i := 3) (v := ?vb3) (some 29) rfl rfl (by kernel_rfl) (by kernel_rfl) (by kernel_rfl) (fun _ _ _ h => h) (Or.inl ⟨by rfl, ?hyb3⟩) (by assumption) ?restb3
  case hyb3 => (intro w hSw; (try dsimp only at hSw); go_simp; all_goals with_reducible rfl)
  simp only [Act.put, List.setIfInBounds_toArray, List.set_cons_zero, List.set_cons_succ]
  refine wpAnyH_takeAt (i := 4) (v := ?vb4) (some 30) rfl rfl (by kernel_rfl) (by kernel_rfl) (by kernel_rfl) (fun _ _ _ h => h) (Or.inl ⟨by rfl, ?hyb4⟩) (by assumption) ?restb4
  case hyb4 => (intro w hSw; (try dsimp only at hSw); go_simp; all_goals with_reducible rfl)
  simp only [Act.put, List.setIfInBounds_toArray, List.set_cons_zero, List.set_cons_succ]
  refine wpAnyH_takeAt (i := 5) (v := ?vb5) (some 31) rfl rfl (by kernel_rfl) (by kernel_rfl) (by kernel_rfl) (fun _ _ _ h => h) (Or.inl ⟨by rfl, ?hyb5⟩) (by assumption) ?restb5
  case hyb5 => (intro w hSw; (try dsimp only at hSw); go_simp; all_goals with_reducible rfl)
  simp only [Act.put, List.setIfInBounds_toArray, List.set_cons_zero, List.set_cons_succ]
  refine wpAnyH_ready (rs := [6]) (by kernel_rfl) (by simp) ?_
  refine AllReadyH.cons rfl (fun K hK => ?_) AllReadyH.nil
  go_simp
  go_at_call 150
  refine (H1.out _ hf02d).mono ?_
  rintro e w3 ⟨v1, rfl, hv13, hf3⟩
  obtain ⟨A1, c1, rfl, _, _⟩ := hv13.form
  have hf3 : Fr (fun _ => False) w2 w3 := ((Fr.refl (fun _ => False) w2).drew).trans hf3 (fun _ _ h => h)
  have hO3 := hO2.fr hf3 id
  have hR3 := hR2.fr hf3 id
  have hL3 := hL2.fr hf3 id
  have hE3 := hE2.fr hf3 id
  have hv03 := hv02.fr hf3 (fun _ _ => id)
  have hf03 := hf02.then_ hf3
  have lc1 := hL3.cell 1
  have ec1 := hE3.cell 1
  have lf := hL3.frozen 1
  have ef := hE3.frozen 1
  try go_wp2_with fail
  refine hK.out _ _ (⟨hO3.cell 5, hO3.cell 6, hO3.cell 7, hO3.cell 8, hO3.cell 9, hO3.cell 10, hO3.cell 11, hO3.cell 12, hO3.cell 13⟩) (fun hHeld => ?_)
  clear hK K
  refine wpAnyH_takeAt (i := 7) (v := ?vb7) (some 25) rfl rfl (by kernel_rfl) (by kernel_rfl) (by kernel_rfl) (fun _ _ _ h => h) (Or.inl ⟨by rfl, ?hyb7⟩) (by assumption) ?restb7
  case hyb7 => (intro w hSw; (try dsimp only at hSw); go_simp; all_goals with_reducible rfl)
  simp only [Act.put, List.setIfInBounds_toArray, List.set_cons_zero, List.set_cons_succ]
  refine wpAnyH_takeAt (i := 8) (v := ?vb8) (some 33) rfl rfl (by kernel_rfl) (by kernel_rfl) (by kernel_rfl) (fun _ _ _ h => h) (Or.inl ⟨by rfl, ?hyb8⟩) (by assumption) ?restb8
  case hyb8 => (intro w hSw; (try dsimp only at hSw); go_simp; all_goals with_reducible rfl)
  simp only [Act.put, List.setIfInBounds_toArray, List.set_cons_zero, List.set_cons_succ]
  refine wpAnyH_takeAt (i := 9) (v := ?vb9) (some 34) rfl rfl (by kernel_rfl) (by kernel_rfl) (by kernel_rfl) (fun _ _ _ h => h) (Or.inl ⟨by rfl, ?hyb9⟩) (by assumption) ?restb9
  case hyb9 => (intro w hSw; (try dsimp only at hSw); go_simp; all_goals with_reducible rfl)
  simp only [Act.put, List.setIfInBounds_toArray, List.set_cons_zero, List.set_cons_succ]
  refine wpAnyH_takeAt (i := 10) (v := ?vb10) (some 35) rfl rfl (by kernel_rfl) (by kernel_rfl) (by kernel_rfl) (fun _ _ _ h => h) (Or.inl ⟨by rfl, ?hyb10⟩) (by assumption) ?restb10
  case hyb10 => (intro w hSw; (try dsimp only at hSw); go_simp; all_goals with_reducible rfl)
  simp only [Act.put, List.setIfInBounds_toArray, List.set_cons_zero, List.set_cons_succ]
  refine wpAnyH_ready (rs := [11]) (by kernel_rfl) (by simp) ?_
  refine AllReadyH.cons rfl (fun K hK => ?_) AllReadyH.nil
  go_simp
  refine hK.out _ _ (⟨(hO3.far (fun h => by (try dsimp only at h); omega) _).cell 5, (hO3.far (fun h => by (try dsimp only at h); omega) _).cell 6, (hO3.far (fun h => by (try dsimp only at h); omega) _).cell 7, (hO3.far (fun h => by (try dsimp only at h); omega) _).cell 8, (hO3.far (fun h => by (try dsimp only at h); omega) _).cell 9, (hO3.far (fun h => by (try dsimp only at h); omega) _).cell 10, (hO3.far (fun h => by (try dsimp only at h); omega) _).cell 11, (hO3.far (fun h => by (try dsimp only at h); omega) _).cell 12, (hO3.far (fun h => by (try dsimp only at h); omega) _).cell 13⟩) (fun hHeld => ?_)
  clear hK K
  refine wpAnyH_takeAt (i := 12) (v := ?vb12) (some 36) rfl rfl (by kernel_rfl) (by kernel_rfl) (by kernel_rfl) (fun _ _ _ h => h) (Or.inl ⟨by rfl, ?hyb12⟩) (by assumption) ?restb12
  case hyb12 => (intro w hSw; (try dsimp only at hSw); go_simp; all_goals with_reducible rfl)
  simp only [Act.put, List.setIfInBounds_toArray, List.set_cons_zero, List.set_cons_succ]
  refine wpAnyH_ready (rs := [13]) (by kernel_rfl) (by simp) ?_
  refine AllReadyH.cons rfl (fun K hK => ?_) AllReadyH.nil
  go_simp
  refine hK.out _ _ (⟨((hO3.far (fun h => by (try dsimp only at h); omega) _).far (fun h => by (try dsimp only at h); omega) _).cell 5, ((hO3.far (fun h => by (try dsimp only at h); omega) _).far (fun h => by (try dsimp only at h); omega) _).cell 6, ((hO3.far (fun h => by (try dsimp only at h); omega) _).far (fun h => by (try dsimp only at h); omega) _).cell 7, ((hO3.far (fun h => by (try dsimp only at h); omega) _).far (fun h => by (try dsimp only at h); omega) _).cell 8, ((hO3.far (fun h => by (try dsimp only at h); omega) _).far (fun h => by (try dsimp only at h); omega) _).cell 9, ((hO3.far (fun h => by (try dsimp only at h); omega) _).far (fun h => by (try dsimp only at h); omega) _).cell 10, ((hO3.far (fun h => by (try dsimp only at h); omega) _).far (fun h => by (try dsimp only at h); omega) _).cell 11, ((hO3.far (fun h => by (try dsimp only at h); omega) _).far (fun h => by (try dsimp only at h); omega) _).cell 12, ((hO3.far (fun h => by (try dsimp only at h); omega) _).far (fun h => by (try dsimp only at h); omega) _).cell 13⟩) (fun hHeld => ?_)
  clear hK K
  refine wpAnyH_done (by kernel_rfl) ?_ _
  refine NoPanic.normal ?_
  have hO4 : Blk ((w3.setCell ⟨w.heap.size + 1 + 1, 1, none⟩ (Value.slice A1 b1.length c1)).setCell ⟨w.heap.size + 1 + 1 + 1, 1, none⟩ .nilIface) _ _ _ := ((hO3.far (fun h => by (try dsimp only at h); omega) _).far (fun h => by (try dsimp only at h); omega) _)
  have hR4 : Blk ((w3.setCell ⟨w.heap.size + 1 + 1, 1, none⟩ (Value.slice A1 b1.length c1)).setCell ⟨w.heap.size + 1 + 1 + 1, 1, none⟩ .nilIface) _ _ _ := ((hR3.far (fun h => by (try dsimp only at h); omega) _).far (fun h => by (try dsimp only at h); omega) _)
  have hL4 : Blk ((w3.setCell ⟨w.heap.size + 1 + 1, 1, none⟩ (Value.slice A1 b1.length c1)).setCell ⟨w.heap.size + 1 + 1 + 1, 1, none⟩ .nilIface) _ _ _ := ((hL3.set_ 1 _).far (fun h => by (try dsimp only at h); omega) _)
  have hE4 : Blk ((w3.setCell ⟨w.heap.size + 1 + 1, 1, none⟩ (Value.slice A1 b1.length c1)).setCell ⟨w.heap.size + 1 + 1 + 1, 1, none⟩ .nilIface) _ _ _ := ((hE3.far (fun h => by (try dsimp only at h); omega) _).set_ 1 _)
  have hf04 : Fr (fun _ => False) w ((w3.setCell ⟨w.heap.size + 1 + 1, 1, none⟩ (Value.slice A1 b1.length c1)).setCell ⟨w.heap.size + 1 + 1 + 1, 1, none⟩ .nilIface) := ((hf03.setCell (p := ⟨w.heap.size + 1 + 1, 1, none⟩) (fun h => absurd h (by dsimp only; omega)) _).setCell (p := ⟨w.heap.size + 1 + 1 + 1, 1, none⟩) (fun h => absurd h (by dsimp only; omega)) _)
  have hv04 : Own8 ((w3.setCell ⟨w.heap.size + 1 + 1, 1, none⟩ (Value.slice A1 b1.length c1)).setCell ⟨w.heap.size + 1 + 1 + 1, 1, none⟩ .nilIface) _ _ _ := hv03.fr (((Fr.refl (fun k => k = (w.heap.size + 1 + 1 + 1) ∨ k = (w.heap.size + 1 + 1)) w3).setCell (p := ⟨w.heap.size + 1 + 1, 1, none⟩) (fun _ => Or.inr rfl) _).setCell (p := ⟨w.heap.size + 1 + 1 + 1, 1, none⟩) (fun _ => Or.inl rfl) _) (fun k hk h => h.elim (fun h => hv03.ne_blk hE3 (by decide) (by rw [← h]; exact hk)) (fun h => hv03.ne_blk hL3 (by decide) (by rw [← h]; exact hk)))
  have hv14 : Own8 ((w3.setCell ⟨w.heap.size + 1 + 1, 1, none⟩ (Value.slice A1 b1.length c1)).setCell ⟨w.heap.size + 1 + 1 + 1, 1, none⟩ .nilIface) _ _ _ := hv13.fr (((Fr.refl (fun k => k = (w.heap.size + 1 + 1 + 1) ∨ k = (w.heap.size + 1 + 1)) w3).setCell (p := ⟨w.heap.size + 1 + 1, 1, none⟩) (fun _ => Or.inr rfl) _).setCell (p := ⟨w.heap.size + 1 + 1 + 1, 1, none⟩) (fun _ => Or.inl rfl) _) (fun k hk h => h.elim (fun h => hv13.ne_blk hE3 (by decide) (by rw [← h]; exact hk)) (fun h => hv13.ne_blk hL3 (by decide) (by rw [← h]; exact hk)))
  generalize ((w3.setCell ⟨w.heap.size + 1 + 1, 1, none⟩ (Value.slice A1 b1.length c1)).setCell ⟨w.heap.size + 1 + 1 + 1, 1, none⟩ .nilIface) = w4 at *
  have k14 := hO4.cell 14
  have k15 := hO4.cell 15
  have k16 := hO4.cell 16
  have HP : Hid (Calls Tryz.prog 151 #[.agg #[.int .i64 G, .int .i64 D, .slice C xs.length cx]] w4 (PutP w4 bs .nilIface)) := (cert_Put (cap := cx) (HC.out.fr hf04 (fun _ _ => id)) (Nat.le_trans HBC.out hf04.size) (by have := HXL.out; omega) G D).mono fun _ _ h => HBS.out ▸ putP_of HXL.out h
  go_upto_region 7 with (first | (go_at_call 151; refine HP.out.mono ?_; rintro e w5 ⟨v2, rfl, hv25, hf5⟩; obtain ⟨A2, c2, rfl, _, _⟩ := hv25.form; have hO5 := hO4.fr hf5 id; have hR5 := hR4.fr hf5 id; have hL5 := hL4.fr hf5 id; have hE5 := hE4.fr hf5 id; have hv05 := hv04.fr hf5 (fun _ _ => id); have hv15 := hv14.fr hf5 (fun _ _ => id); have hf05 := hf04.then_ hf5; have lc := hL5.cell 2; have lf := hL5.frozen 2; have ec := hE5.cell 2; have ef := hE5.frozen 2))
  have hO6 : Blk ((w5.setCell ⟨w.heap.size + 1 + 1, 2, none⟩ (Value.slice A2 bs.length c2)).setCell ⟨w.heap.size + 1 + 1 + 1, 2, none⟩ Value.nilIface) _ _ _ := ((hO5.far (fun h => by (try dsimp only at h); omega) _).far (fun h => by (try dsimp only at h); omega) _)
  have hR6 : Blk ((w5.setCell ⟨w.heap.size + 1 + 1, 2, none⟩ (Value.slice A2 bs.length c2)).setCell ⟨w.heap.size + 1 + 1 + 1, 2, none⟩ Value.nilIface) _ _ _ := ((hR5.far (fun h => by (try dsimp only at h); omega) _).far (fun h => by (try dsimp only at h); omega) _)
  have hL6 : Blk ((w5.setCell ⟨w.heap.size + 1 + 1, 2, none⟩ (Value.slice A2 bs.length c2)).setCell ⟨w.heap.size + 1 + 1 + 1, 2, none⟩ Value.nilIface) _ _ _ := ((hL5.set_ 2 _).far (fun h => by (try dsimp only at h); omega) _)
  have hE6 : Blk ((w5.setCell ⟨w.heap.size + 1 + 1, 2, none⟩ (Value.slice A2 bs.length c2)).setCell ⟨w.heap.size + 1 + 1 + 1, 2, none⟩ Value.nilIface) _ _ _ := ((hE5.far (fun h => by (try dsimp only at h); omega) _).set_ 2 _)
  have hf06 : Fr (fun _ => False) w ((w5.setCell ⟨w.heap.size + 1 + 1, 2, none⟩ (Value.slice A2 bs.length c2)).setCell ⟨w.heap.size + 1 + 1 + 1, 2, none⟩ Value.nilIface) := ((hf05.setCell (p := ⟨w.heap.size + 1 + 1, 2, none⟩) (fun h => absurd h (by dsimp only; omega)) _).setCell (p := ⟨w.heap.size + 1 + 1 + 1, 2, none⟩) (fun h => absurd h (by dsimp only; omega)) _)
  have hv06 : Own8 ((w5.setCell ⟨w.heap.size + 1 + 1, 2, none⟩ (Value.slice A2 bs.length c2)).setCell ⟨w.heap.size + 1 + 1 + 1, 2, none⟩ Value.nilIface) _ _ _ := hv05.fr (((Fr.refl (fun k => k = (w.heap.size + 1 + 1 + 1) ∨ k = (w.heap.size + 1 + 1)) w5).setCell (p := ⟨w.heap.size + 1 + 1, 2, none⟩) (fun _ => Or.inr rfl) _).setCell (p := ⟨w.heap.size + 1 + 1 + 1, 2, none⟩) (fun _ => Or.inl rfl) _) (fun k hk h => h.elim (fun h => hv05.ne_blk hE5 (by decide) (by rw [← h]; exact hk)) (fun h => hv05.ne_blk hL5 (by decide) (by rw [← h]; exact hk)))
  have hv16 : Own8 ((w5.setCell ⟨w.heap.size + 1 + 1, 2, none⟩ (Value.slice A2 bs.length c2)).setCell ⟨w.heap.size + 1 + 1 + 1, 2, none⟩ Value.nilIface) _ _ _ := hv15.fr (((Fr.refl (fun k => k = (w.heap.size + 1 + 1 + 1) ∨ k = (w.heap.size + 1 + 1)) w5).setCell (p := ⟨w.heap.size + 1 + 1, 2, none⟩) (fun _ => Or.inr rfl) _).setCell (p := ⟨w.heap.size + 1 + 1 + 1, 2, none⟩) (fun _ => Or.inl rfl) _) (fun k hk h => h.elim (fun h => hv15.ne_blk hE5 (by decide) (by rw [← h]; exact hk)) (fun h => hv15.ne_blk hL5 (by decide) (by rw [← h]; exact hk)))
  have hv26 : Own8 ((w5.setCell ⟨w.heap.size + 1 + 1, 2, none⟩ (Value.slice A2 bs.length c2)).setCell ⟨w.heap.size + 1 + 1 + 1, 2, none⟩ Value.nilIface) _ _ _ := hv25.fr (((Fr.refl (fun k => k = (w.heap.size + 1 + 1 + 1) ∨ k = (w.heap.size + 1 + 1)) w5).setCell (p := ⟨w.heap.size + 1 + 1, 2, none⟩) (fun _ => Or.inr rfl) _).setCell (p := ⟨w.heap.size + 1 + 1 + 1, 2, none⟩) (fun _ => Or.inl rfl) _) (fun k hk h => h.elim (fun h => hv25.ne_blk hE5 (by decide) (by rw [← h]; exact hk)) (fun h => hv25.ne_blk hL5 (by decide) (by rw [← h]; exact hk)))
  generalize ((w5.setCell ⟨w.heap.size + 1 + 1, 2, none⟩ (Value.slice A2 bs.length c2)).setCell ⟨w.heap.size + 1 + 1 + 1, 2, none⟩ Value.nilIface) = w6 at *
  have ec := hE6.cell 2
  have lc := hL6.cell 2
  obtain ⟨_, _, hve, _, hrow⟩ := hv26.form
  cases hve
  have HGET := Lib.hid (cert_Get (cap := c2) hrow (by have := HBL.out; omega) H8.out)
  clear hrow
  go_upto_region 9 with (first | (go_at_call 152; refine HGET.out.mono ?_; rintro e w7 hg7; obtain ⟨x3, rfl, hf7⟩ := get_fine HG.out hg7; have hO7 := hO6.fr hf7 id; have hR7 := hR6.fr hf7 id; have hL7 := hL6.fr hf7 id; have hE7 := hE6.fr hf7 id; have hv07 := hv06.fr hf7 (fun _ _ => id); have hv17 := hv16.fr hf7 (fun _ _ => id); have hv27 := hv26.fr hf7 (fun _ _ => id); have hf07 := hf06.then_ hf7; have ec := hE7.cell 3; have ef := hE7.frozen 3))
  have hO8 : Blk (w7.setCell ⟨w.heap.size + 1 + 1 + 1, 3, none⟩ Value.nilIface) _ _ _ := (hO7.far (fun h => by (try dsimp only at h); omega) _)
  have hR8 : Blk (w7.setCell ⟨w.heap.size + 1 + 1 + 1, 3, none⟩ Value.nilIface) _ _ _ := (hR7.far (fun h => by (try dsimp only at h); omega) _)
  have hL8 : Blk (w7.setCell ⟨w.heap.size + 1 + 1 + 1, 3, none⟩ Value.nilIface) _ _ _ := (hL7.far (fun h => by (try dsimp only at h); omega) _)
  have hE8 : Blk (w7.setCell ⟨w.heap.size + 1 + 1 + 1, 3, none⟩ Value.nilIface) _ _ _ := (hE7.set_ 3 _)
  have hf08 : Fr (fun _ => False) w (w7.setCell ⟨w.heap.size + 1 + 1 + 1, 3, none⟩ Value.nilIface) := (hf07.setCell (p := ⟨w.heap.size + 1 + 1 + 1, 3, none⟩) (fun h => absurd h (by dsimp only; omega)) _)
  have hv08 : Own8 (w7.setCell ⟨w.heap.size + 1 + 1 + 1, 3, none⟩ Value.nilIface) _ _ _ := hv07.fr ((Fr.refl (fun k => k = (w.heap.size + 1 + 1 + 1)) w7).setCell (p := ⟨w.heap.size + 1 + 1 + 1, 3, none⟩) (fun _ => rfl) _) (fun k hk h => hv07.ne_blk hE7 (by decide) (by rw [← h]; exact hk))
  have hv18 : Own8 (w7.setCell ⟨w.heap.size + 1 + 1 + 1, 3, none⟩ Value.nilIface) _ _ _ := hv17.fr ((Fr.refl (fun k => k = (w.heap.size + 1 + 1 + 1)) w7).setCell (p := ⟨w.heap.size + 1 + 1 + 1, 3, none⟩) (fun _ => rfl) _) (fun k hk h => hv17.ne_blk hE7 (by decide) (by rw [← h]; exact hk))
  have hv28 : Own8 (w7.setCell ⟨w.heap.size + 1 + 1 + 1, 3, none⟩ Value.nilIface) _ _ _ := hv27.fr ((Fr.refl (fun k => k = (w.heap.size + 1 + 1 + 1)) w7).setCell (p := ⟨w.heap.size + 1 + 1 + 1, 3, none⟩) (fun _ => rfl) _) (fun k hk h => hv27.ne_blk hE7 (by decide) (by rw [← h]; exact hk))
  generalize (w7.setCell ⟨w.heap.size + 1 + 1 + 1, 3, none⟩ Value.nilIface) = w8 at *
  have HER : Hid (ErrRow w8 (w.heap.size + 1 + 1 + 1) [.nilIface, .nilIface, .nilIface, .nilIface]) := err_row hE8 (.inl rfl) (.inl rfl) (.inl rfl) (.inl rfl)
  go_upto_region 10 with (first | (go_at_call 153; refine (containsErr (cap := 4) (z := false) rfl HER.out (by simp)).mono ?_; rintro e w9 ⟨rfl, rfl⟩))
  have hf08d : Fr (fun _ => False) w w8.drew := hf08.drew
  refine wp_region_noPanic ?_
  refine wp_region_held_drew (S := (fun w' => w'.cell? ⟨w.heap.size, 0, none⟩ = some (.int .i64 kind) ∧ w'.cell? ⟨w.heap.size, 1, none⟩ = some (.int .i64 c) ∧ w'.cell? ⟨w.heap.size, 2, none⟩ = some (.int .i64 n) ∧ w'.cell? ⟨w.heap.size, 3, none⟩ = some (.slice A nr cr) ∧ w'.cell? ⟨w.heap.size, 4, none⟩ = some (.slice B nw cw) ∧ w'.cell? ⟨w.heap.size, 17, none⟩ = some (.int .i64 0) ∧ w'.cell? ⟨w.heap.size, 18, none⟩ = some (.int .i64 0) ∧ w'.cell? ⟨w.heap.size, 19, none⟩ = some (.slice none 0 0) ∧ w'.cell? ⟨w.heap.size, 20, none⟩ = some (.slice none 0 0) ∧ w'.cell? ⟨w.heap.size + 1 + 1, 0, none⟩ = some ((Value.slice A0 b0.length c0)) ∧ w'.cell? ⟨w.heap.size + 1 + 1, 1, none⟩ = some ((Value.slice A1 b1.length c1)) ∧ w'.cell? ⟨w.heap.size + 1 + 1, 2, none⟩ = some ((Value.slice A2 bs.length c2)))) (by kernel_rfl) (⟨hO8.cell 0, hO8.cell 1, hO8.cell 2, hO8.cell 3, hO8.cell 4, hO8.cell 17, hO8.cell 18, hO8.cell 19, hO8.cell 20, hL8.cell 0, hL8.cell 1, hL8.cell 2⟩) (fun hHeld => ?_)
  refine wpAnyH_takeAt (i := 0) (v := ?vc0) (some 57) rfl rfl (by kernel_rfl) (by kernel_rfl) (by kernel_rfl) (fun _ _ _ h => h) (Or.inl ⟨by rfl, ?hyc0⟩) (by assumption) ?restc0
  case hyc0 => (intro w hSw; (try dsimp only at hSw); go_simp; all_goals with_reducible rfl)
  simp only [Act.put, List.setIfInBounds_toArray, List.set_cons_zero, List.set_cons_succ]
  refine wpAnyH_takeAt (i := 1) (v := ?vc1) (some 58) rfl rfl (by kernel_rfl) (by kernel_rfl) (by kernel_rfl) (fun _ _ _ h => h) (Or.inl ⟨by rfl, ?hyc1⟩) (by assumption) ?restc1
  case hyc1 => (intro w hSw; (try dsimp only at hSw); go_simp; all_goals with_reducible rfl)
  simp only [Act.put, List.setIfInBounds_toArray, List.set_cons_zero, List.set_cons_succ]
  refine wpAnyH_takeAt (i := 2) (v := ?vc2) (some 59) rfl rfl (by kernel_rfl) (by kernel_rfl) (by kernel_rfl) (fun _ _ _ h => h) (Or.inl ⟨by rfl, ?hyc2⟩) (by assumption) ?restc2
  case hyc2 => (intro w hSw; (try dsimp only at hSw); go_simp; all_goals with_reducible rfl)
  simp only [Act.put, List.setIfInBounds_toArray, List.set_cons_zero, List.set_cons_succ]
  refine wpAnyH_takeAt (i := 3) (v := ?vc3) (some 60) rfl rfl (by kernel_rfl) (by kernel_rfl) (by kernel_rfl) (fun _ _ _ h => h) (Or.inl ⟨by rfl, ?hyc3⟩) (by assumption) ?restc3
  case hyc3 => (intro w hSw; (try dsimp only at hSw); go_simp; all_goals with_reducible rfl)
  simp only [Act.put, List.setIfInBounds_toArray, List.set_cons_zero, List.set_cons_succ]
  refine wpAnyH_takeAt (i := 4) (v := ?vc4) (some 61) rfl rfl (by kernel_rfl) (by kernel_rfl) (by kernel_rfl) (fun _ _ _ h => h) (Or.inl ⟨by rfl, ?hyc4⟩) (by assumption) ?restc4
  case hyc4 => (intro w hSw; (try dsimp only at hSw); go_simp; all_goals with_reducible rfl)
  simp only [Act.put, List.setIfInBounds_toArray, List.set_cons_zero, List.set_cons_succ]
  refine wpAnyH_takeAt (i := 5) (v := ?vc5) (some 62) rfl rfl (by kernel_rfl) (by kernel_rfl) (by kernel_rfl) (fun _ _ _ h => h) (Or.inl ⟨by rfl, ?hyc5⟩) (by assumption) ?restc5
  case hyc5 => (intro w hSw; (try dsimp only at hSw); go_simp; all_goals with_reducible rfl)
  simp only [Act.put, List.setIfInBounds_toArray, List.set_cons_zero, List.set_cons_succ]
  refine wpAnyH_takeAt (i := 6) (v := ?vc6) (some 63) rfl rfl (by kernel_rfl) (by kernel_rfl) (by kernel_rfl) (fun _ _ _ h => h) (Or.inl ⟨by rfl, ?hyc6⟩) (by assumption) ?restc6
  case hyc6 => (intro w hSw; (try dsimp only at hSw); go_simp; all_goals with_reducible rfl)
  simp only [Act.put, List.setIfInBounds_toArray, List.set_cons_zero, List.set_cons_succ]
  refine wpAnyH_takeAt (i := 7) (v := ?vc7) (some 64) rfl rfl (by kernel_rfl) (by kernel_rfl) (by kernel_rfl) (fun _ _ _ h => h) (Or.inl ⟨by rfl, ?hyc7⟩) (by assumption) ?restc7
  case hyc7 => (intro w hSw; (try dsimp only at hSw); go_simp; all_goals with_reducible rfl)
  simp only [Act.put, List.setIfInBounds_toArray, List.set_cons_zero, List.set_cons_succ]
  refine wpAnyH_takeAt (i := 8) (v := ?vc8) (some 65) rfl rfl (by kernel_rfl) (by kernel_rfl) (by kernel_rfl) (fun _ _ _ h => h) (Or.inl ⟨by rfl, ?hyc8⟩) (by assumption) ?restc8
  case hyc8 => (intro w hSw; (try dsimp only at hSw); go_simp; all_goals with_reducible rfl)
  simp only [Act.put, List.setIfInBounds_toArray, List.set_cons_zero, List.set_cons_succ]
  refine wpAnyH_takeAt (i := 9) (v := ?vc9) (some 66) rfl rfl (by kernel_rfl) (by kernel_rfl) (by kernel_rfl) (fun _ _ _ h => h) (Or.inl ⟨by rfl, ?hyc9⟩) (by assumption) ?restc9
  case hyc9 => (intro w hSw; (try dsimp only at hSw); go_simp; all_goals with_reducible rfl)
  simp only [Act.put, List.setIfInBounds_toArray, List.set_cons_zero, List.set_cons_succ]
  refine wpAnyH_takeAt (i := 10) (v := ?vc10) (some 67) rfl rfl (by kernel_rfl) (by kernel_rfl) (by kernel_rfl) (fun _ _ _ h => h) (Or.inl ⟨by rfl, ?hyc10⟩) (by assumption) ?restc10
  case hyc10 => (intro w hSw; (try dsimp only at hSw); go_simp; all_goals with_reducible rfl)
  simp only [Act.put, List.setIfInBounds_toArray, List.set_cons_zero, List.set_cons_succ]
  refine wpAnyH_takeAt (i := 11) (v := ?vc11) (some 68) rfl rfl (by kernel_rfl) (by kernel_rfl) (by kernel_rfl) (fun _ _ _ h => h) (Or.inl ⟨by rfl, ?hyc11⟩) (by assumption) ?restc11
  case hyc11 => (intro w hSw; (try dsimp only at hSw); go_simp; all_goals with_reducible rfl)
  simp only [Act.put, List.setIfInBounds_toArray, List.set_cons_zero, List.set_cons_succ]
  refine wpAnyH_takeAt (i := 12) (v := ?vc12) (some 69) rfl rfl (by kernel_rfl) (by kernel_rfl) (by kernel_rfl) (fun _ _ _ h => h) (Or.inl ⟨by rfl, ?hyc12⟩) (by assumption) ?restc12
  case hyc12 => (intro w hSw; (try dsimp only at hSw); go_simp; all_goals with_reducible rfl)
  simp only [Act.put, List.setIfInBounds_toArray, List.set_cons_zero, List.set_cons_succ]
  refine wpAnyH_takeAt (i := 13) (v := ?vc13) (some 70) rfl rfl (by kernel_rfl) (by kernel_rfl) (by kernel_rfl) (fun _ _ _ h => h) (Or.inl ⟨by rfl, ?hyc13⟩) (by assumption) ?restc13
  case hyc13 => (intro w hSw; (try dsimp only at hSw); go_simp; all_goals with_reducible rfl)
  simp only [Act.put, List.setIfInBounds_toArray, List.set_cons_zero, List.set_cons_succ]
  refine wpAnyH_takeAt (i := 14) (v := ?vc14) (some 71) rfl rfl (by kernel_rfl) (by kernel_rfl) (by kernel_rfl) (fun _ _ _ h => h) (Or.inl ⟨by rfl, ?hyc14⟩) (by assumption) ?restc14
  case hyc14 => (intro w hSw; (try dsimp only at hSw); go_simp; all_goals with_reducible rfl)
  simp only [Act.put, List.setIfInBounds_toArray, List.set_cons_zero, List.set_cons_succ]
  refine wpAnyH_takeAt (i := 15) (v := ?vc15) (some 72) rfl rfl (by kernel_rfl) (by kernel_rfl) (by kernel_rfl) (fun _ _ _ h => h) (Or.inl ⟨by rfl, ?hyc15⟩) (by assumption) ?restc15
  case hyc15 => (intro w hSw; (try dsimp only at hSw); go_simp; all_goals with_reducible rfl)
  simp only [Act.put, List.setIfInBounds_toArray, List.set_cons_zero, List.set_cons_succ]
  refine wpAnyH_takeAt (i := 16) (v := ?vc16) (some 73) rfl rfl (by kernel_rfl) (by kernel_rfl) (by kernel_rfl) (fun _ _ _ h => h) (Or.inl ⟨by rfl, ?hyc16⟩) (by assumption) ?restc16
  case hyc16 => (intro w hSw; (try dsimp only at hSw); go_simp; all_goals with_reducible rfl)
  simp only [Act.put, List.setIfInBounds_toArray, List.set_cons_zero, List.set_cons_succ]
  refine wpAnyH_ready (rs := [17]) (by kernel_rfl) (by simp) ?_
  refine AllReadyH.cons rfl (fun K hK => ?_) AllReadyH.nil
  go_simp
  go_at_call 155
  refine (HN.out _ hf08d).mono ?_
  rintro e w10 ⟨rfl, hf10⟩
  have hf10 : Fr (fun _ => False) w8 w10 := ((Fr.refl (fun _ => False) w8).drew).trans hf10 (fun _ _ h => h)
  have hO10 := hO8.fr hf10 id
  have hR10 := hR8.fr hf10 id
  have hL10 := hL8.fr hf10 id
  have hE10 := hE8.fr hf10 id
  have hv010 := hv08.fr hf10 (fun _ _ => id)
  have hv110 := hv18.fr hf10 (fun _ _ => id)
  have hv210 := hv28.fr hf10 (fun _ _ => id)
  have hf010 := hf08.then_ hf10
  try go_wp2_with fail
  refine hK.out _ _ (⟨hO10.cell 0, hO10.cell 1, hO10.cell 2, hO10.cell 3, hO10.cell 4, hO10.cell 17, hO10.cell 18, hO10.cell 19, hO10.cell 20, hL10.cell 0, hL10.cell 1, hL10.cell 2⟩) (fun hHeld => ?_)
  clear hK K
  refine wpAnyH_takeAt (i := 18) (v := ?vc18) (some 75) rfl rfl (by kernel_rfl) (by kernel_rfl) (by kernel_rfl) (fun _ _ _ h => h) (Or.inl ⟨by rfl, ?hyc18⟩) (by assumption) ?restc18
  case hyc18 => (intro w hSw; (try dsimp only at hSw); go_simp; all_goals with_reducible rfl)
  simp only [Act.put, List.setIfInBounds_toArray, List.set_cons_zero, List.set_cons_succ]
  refine wpAnyH_takeAt (i := 19) (v := ?vc19) (some 76) rfl rfl (by kernel_rfl) (by kernel_rfl) (by kernel_rfl) (fun _ _ _ h => h) (Or.inl ⟨by rfl, ?hyc19⟩) (by assumption) ?restc19
  case hyc19 => (intro w hSw; (try dsimp only at hSw); go_simp; all_goals with_reducible rfl)
  simp only [Act.put, List.setIfInBounds_toArray, List.set_cons_zero, List.set_cons_succ]
  refine wpAnyH_takeAt (i := 20) (v := ?vc20) (some 77) rfl rfl (by kernel_rfl) (by kernel_rfl) (by kernel_rfl) (fun _ _ _ h => h) (Or.inl ⟨by rfl, ?hyc20⟩) (by assumption) ?restc20
  case hyc20 => (intro w hSw; (try dsimp only at hSw); go_simp; all_goals with_reducible rfl)
  simp only [Act.put, List.setIfInBounds_toArray, List.set_cons_zero, List.set_cons_succ]
  refine wpAnyH_takeAt (i := 21) (v := ?vc21) (some 78) rfl rfl (by kernel_rfl) (by kernel_rfl) (by kernel_rfl) (fun _ _ _ h => h) (Or.inl ⟨by rfl, ?hyc21⟩) (by assumption) ?restc21
  case hyc21 => (intro w hSw; (try dsimp only at hSw); go_simp; all_goals with_reducible rfl)
  simp only [Act.put, List.setIfInBounds_toArray, List.set_cons_zero, List.set_cons_succ]
  refine wpAnyH_takeAt (i := 22) (v := ?vc22) (some 79) rfl rfl (by kernel_rfl) (by kernel_rfl) (by kernel_rfl) (fun _ _ _ h => h) (Or.inl ⟨by rfl, ?hyc22⟩) (by assumption) ?restc22
  case hyc22 => (intro w hSw; (try dsimp only at hSw); go_simp; all_goals with_reducible rfl)
  simp only [Act.put, List.setIfInBounds_toArray, List.set_cons_zero, List.set_cons_succ]
  refine wpAnyH_ready (rs := [23]) (by kernel_rfl) (by simp) ?_
  refine AllReadyH.cons rfl (fun K hK => ?_) AllReadyH.nil
  go_simp
  go_at_call 156
  refine (fits_zero _).mono ?_
  rintro e w11 ⟨rfl, hf11⟩
  have hO11 := hO10.fr hf11 id
  have hR11 := hR10.fr hf11 id
  have hL11 := hL10.fr hf11 id
  have hE11 := hE10.fr hf11 id
  have hv011 := hv010.fr hf11 (fun _ _ => id)
  have hv111 := hv110.fr hf11 (fun _ _ => id)
  have hv211 := hv210.fr hf11 (fun _ _ => id)
  have hf011 := hf010.then_ hf11
  have rc0 := hR11.cell 0
  have rc1 := hR11.cell 1
  have rc2 := hR11.cell 2
  have rf0 := hR11.frozen 0
  have rf1 := hR11.frozen 1
  have rf2 := hR11.frozen 2
  try go_wp2_with fail
  refine hK.out _ _ (⟨hO11.cell 0, hO11.cell 1, hO11.cell 2, hO11.cell 3, hO11.cell 4, hO11.cell 17, hO11.cell 18, hO11.cell 19, hO11.cell 20, hL11.cell 0, hL11.cell 1, hL11.cell 2⟩) (fun hHeld => ?_)
  clear hK K
  refine wpAnyH_takeAt (i := 24) (v := ?vc24) (some 81) rfl rfl (by kernel_rfl) (by kernel_rfl) (by kernel_rfl) (fun _ _ _ h => h) (Or.inl ⟨by rfl, ?hyc24⟩) (by assumption) ?restc24
  case hyc24 => (intro w hSw; (try dsimp only at hSw); go_simp; all_goals with_reducible rfl)
  simp only [Act.put, List.setIfInBounds_toArray, List.set_cons_zero, List.set_cons_succ]
  refine wpAnyH_ready (rs := [25]) (by kernel_rfl) (by simp) ?_
  refine AllReadyH.cons rfl (fun K hK => ?_) AllReadyH.nil
  go_simp
  refine hK.out _ _ (⟨(((hO11.far (fun h => by (try dsimp only at h); omega) _).far (fun h => by (try dsimp only at h); omega) _).far (fun h => by (try dsimp only at h); omega) _).cell 0, (((hO11.far (fun h => by (try dsimp only at h); omega) _).far (fun h => by (try dsimp only at h); omega) _).far (fun h => by (try dsimp only at h); omega) _).cell 1, (((hO11.far (fun h => by (try dsimp only at h); omega) _).far (fun h => by (try dsimp only at h); omega) _).far (fun h => by (try dsimp only at h); omega) _).cell 2, (((hO11.far (fun h => by (try dsimp only at h); omega) _).far (fun h => by (try dsimp only at h); omega) _).far (fun h => by (try dsimp only at h); omega) _).cell 3, (((hO11.far (fun h => by (try dsimp only at h); omega) _).far (fun h => by (try dsimp only at h); omega) _).far (fun h => by (try dsimp only at h); omega) _).cell 4, (((hO11.far (fun h => by (try dsimp only at h); omega) _).far (fun h => by (try dsimp only at h); omega) _).far (fun h => by (try dsimp only at h); omega) _).cell 17, (((hO11.far (fun h => by (try dsimp only at h); omega) _).far (fun h => by (try dsimp only at h); omega) _).far (fun h => by (try dsimp only at h); omega) _).cell 18, (((hO11.far (fun h => by (try dsimp only at h); omega) _).far (fun h => by (try dsimp only at h); omega) _).far (fun h => by (try dsimp only at h); omega) _).cell 19, (((hO11.far (fun h => by (try dsimp only at h); omega) _).far (fun h => by (try dsimp only at h); omega) _).far (fun h => by (try dsimp only at h); omega) _).cell 20, (((hL11.far (fun h => by (try dsimp only at h); omega) _).far (fun h => by (try dsimp only at h); omega) _).far (fun h => by (try dsimp only at h); omega) _).cell 0, (((hL11.far (fun h => by (try dsimp only at h); omega) _).far (fun h => by (try dsimp only at h); omega) _).far (fun h => by (try dsimp only at h); omega) _).cell 1, (((hL11.far (fun h => by (try dsimp only at h); omega) _).far (fun h => by (try dsimp only at h); omega) _).far (fun h => by (try dsimp only at h); omega) _).cell 2⟩) (fun hHeld => ?_)
  clear hK K
  refine wpAnyH_takeAt (i := 26) (v := ?vc26) (some 3) rfl rfl (by kernel_rfl) (by kernel_rfl) (by kernel_rfl) (fun _ _ _ h => h) (Or.inl ⟨by rfl, ?hyc26⟩) (by assumption) ?restc26
  case hyc26 => (intro w hSw; (try dsimp only at hSw); go_simp; all_goals with_reducible rfl)
  simp only [Act.put, List.setIfInBounds_toArray, List.set_cons_zero, List.set_cons_succ]
  refine wpAnyH_done (by kernel_rfl) ?_ _
  refine NoPanic.normal ?_
  have hO12 : Blk (((w11.setCell ⟨w.heap.size + 1, 0, none⟩ (Value.slice A0 b0.length c0)).setCell ⟨w.heap.size + 1, 1, none⟩ (Value.slice A1 b1.length c1)).setCell ⟨w.heap.size + 1, 2, none⟩ (Value.slice A2 bs.length c2)) _ _ _ := (((hO11.far (fun h => by (try dsimp only at h); omega) _).far (fun h => by (try dsimp only at h); omega) _).far (fun h => by (try dsimp only at h); omega) _)
  have hR12 : Blk (((w11.setCell ⟨w.heap.size + 1, 0, none⟩ (Value.slice A0 b0.length c0)).setCell ⟨w.heap.size + 1, 1, none⟩ (Value.slice A1 b1.length c1)).setCell ⟨w.heap.size + 1, 2, none⟩ (Value.slice A2 bs.length c2)) _ _ _ := (((hR11.set_ 0 _).set_ 1 _).set_ 2 _)
  have hL12 : Blk (((w11.setCell ⟨w.heap.size + 1, 0, none⟩ (Value.slice A0 b0.length c0)).setCell ⟨w.heap.size + 1, 1, none⟩ (Value.slice A1 b1.length c1)).setCell ⟨w.heap.size + 1, 2, none⟩ (Value.slice A2 bs.length c2)) _ _ _ := (((hL11.far (fun h => by (try dsimp only at h); omega) _).far (fun h => by (try dsimp only at h); omega) _).far (fun h => by (try dsimp only at h); omega) _)
  have hE12 : Blk (((w11.setCell ⟨w.heap.size + 1, 0, none⟩ (Value.slice A0 b0.length c0)).setCell ⟨w.heap.size + 1, 1, none⟩ (Value.slice A1 b1.length c1)).setCell ⟨w.heap.size + 1, 2, none⟩ (Value.slice A2 bs.length c2)) _ _ _ := (((hE11.far (fun h => by (try dsimp only at h); omega) _).far (fun h => by (try dsimp only at h); omega) _).far (fun h => by (try dsimp only at h); omega) _)
  have hf012 : Fr (fun _ => False) w (((w11.setCell ⟨w.heap.size + 1, 0, none⟩ (Value.slice A0 b0.length c0)).setCell ⟨w.heap.size + 1, 1, none⟩ (Value.slice A1 b1.length c1)).setCell ⟨w.heap.size + 1, 2, none⟩ (Value.slice A2 bs.length c2)) := (((hf011.setCell (p := ⟨w.heap.size + 1, 0, none⟩) (fun h => absurd h (by dsimp only; omega)) _).setCell (p := ⟨w.heap.size + 1, 1, none⟩) (fun h => absurd h (by dsimp only; omega)) _).setCell (p := ⟨w.heap.size + 1, 2, none⟩) (fun h => absurd h (by dsimp only; omega)) _)
  have hv012 : Own8 (((w11.setCell ⟨w.heap.size + 1, 0, none⟩ (Value.slice A0 b0.length c0)).setCell ⟨w.heap.size + 1, 1, none⟩ (Value.slice A1 b1.length c1)).setCell ⟨w.heap.size + 1, 2, none⟩ (Value.slice A2 bs.length c2)) _ _ _ := hv011.fr ((((Fr.refl (fun k => k = (w.heap.size + 1)) w11).setCell (p := ⟨w.heap.size + 1, 0, none⟩) (fun _ => rfl) _).setCell (p := ⟨w.heap.size + 1, 1, none⟩) (fun _ => rfl) _).setCell (p := ⟨w.heap.size + 1, 2, none⟩) (fun _ => rfl) _) (fun k hk h => hv011.ne_blk hR11 (by decide) (by rw [← h]; exact hk))
  have hv112 : Own8 (((w11.setCell ⟨w.heap.size + 1, 0, none⟩ (Value.slice A0 b0.length c0)).setCell ⟨w.heap.size + 1, 1, none⟩ (Value.slice A1 b1.length c1)).setCell ⟨w.heap.size + 1, 2, none⟩ (Value.slice A2 bs.length c2)) _ _ _ := hv111.fr ((((Fr.refl (fun k => k = (w.heap.size + 1)) w11).setCell (p := ⟨w.heap.size + 1, 0, none⟩) (fun _ => rfl) _).setCell (p := ⟨w.heap.size + 1, 1, none⟩) (fun _ => rfl) _).setCell (p := ⟨w.heap.size + 1, 2, none⟩) (fun _ => rfl) _) (fun k hk h => hv111.ne_blk hR11 (by decide) (by rw [← h]; exact hk))
  have hv212 : Own8 (((w11.setCell ⟨w.heap.size + 1, 0, none⟩ (Value.slice A0 b0.length c0)).setCell ⟨w.heap.size + 1, 1, none⟩ (Value.slice A1 b1.length c1)).setCell ⟨w.heap.size + 1, 2, none⟩ (Value.slice A2 bs.length c2)) _ _ _ := hv211.fr ((((Fr.refl (fun k => k = (w.heap.size + 1)) w11).setCell (p := ⟨w.heap.size + 1, 0, none⟩) (fun _ => rfl) _).setCell (p := ⟨w.heap.size + 1, 1, none⟩) (fun _ => rfl) _).setCell (p := ⟨w.heap.size + 1, 2, none⟩) (fun _ => rfl) _) (fun k hk h => hv211.ne_blk hR11 (by decide) (by rw [← h]; exact hk))
  generalize (((w11.setCell ⟨w.heap.size + 1, 0, none⟩ (Value.slice A0 b0.length c0)).setCell ⟨w.heap.size + 1, 1, none⟩ (Value.slice A1 b1.length c1)).setCell ⟨w.heap.size + 1, 2, none⟩ (Value.slice A2 bs.length c2)) = w12 at *
  have y0 := hR12.cell 0
  have y1 := hR12.cell 1
  have y2 := hR12.cell 2
  simp at y0 y1 y2
  try go_wp2_with fail
  refine bodyPost_ret (v := .tuple #[.agg #[(Value.slice A0 b0.length c0), (Value.slice A1 b1.length c1), (Value.slice A2 bs.length c2)], .bool true]) (by simp [results, Tryz.results123, go_sem, y0, y1, y2]) rfl ?_
  exact ⟨_, _, _, rfl, hv012.base_ (by omega), hv112.base_ (Nat.le_trans hf02.size (Nat.le_refl _)), hv212.base_ hf04.size, hf012⟩

end Go.Proofs.YtmkdhhhoodeemaaGreat

/- say: the texts of a client's order. -/
namespace Go.Proofs.YtmkdhhhoodeemaaGreat
open Go Go.RowKit
attribute [local go_sem ↓] run_neqSay run_eqlSay
set_option maxRecDepth 100000 in
set_option maxHeartbeats 2000000 in
theorem say_texts_begin {w : World} {A B : Option Addr} {nr nw cr cw : Nat} {c n : Int} {s : SayD} {bC : Nat} {C : Option Addr} {cx : Nat} {xs : List Int} {G D : Int} (hC : IntRow w bC C xs) (hbC : bC ≤ w.heap.size) (hxl : xs.length ≤ 1024) (hgetok : getOk (num8 G ++ num8 D ++ numsB xs)) {bs : List Int} (hbs : num8 G ++ num8 D ++ numsB xs = bs) {nm sz : Bool} {b0 b1 : List Int} {r0 r1 : Value}
    (hsz : zeroSay s = !sz)
    (h0 : ∀ w', Fr (fun _ => False) w w' → Calls Tryz.prog 148 #[.bool nm, .agg #[.int .i64 c, .int .i64 n, .slice A nr cr, .slice B nw cw], .func (.func 149) #[] #[]] w' (PutP w' b0 r0))
    (h1 : ∀ w', Fr (fun _ => False) w w' → Calls Tryz.prog 150 #[.bool sz, .agg #[.int .i64 s.kind, .int .i64 s.txn, .bool s.yes, .string s.from_, .string s.to_, .int .i64 s.epoch, .int .i64 s.shard, .int .i64 s.target, .int .i64 s.root], .func (.func 77) #[] #[]] w' (PutP w' b1 r1))
    (hr0 : r0 = .nilIface) (hr1 : r1 = .nilIface) (hnm : nm = true) (hno : ∀ w', Fr (fun _ => False) w w' → Calls Tryz.prog 155 #[.agg #[.int .i64 c, .int .i64 n, .slice A nr cr, .slice B nw cw]] w' (OkB w' false)) :
    Calls Tryz.prog 123 #[.agg #[.int .i64 6, .int .i64 c, .int .i64 n, .slice A nr cr, .slice B nw cw, .int .i64 s.kind, .int .i64 s.txn, .bool s.yes, .string s.from_, .string s.to_, .int .i64 s.epoch, .int .i64 s.shard, .int .i64 s.target, .int .i64 s.root, .int .i64 G, .int .i64 D, .slice C xs.length cx, .int .i64 0, .int .i64 0, .slice none 0 0, .slice none 0 0]] w (fun e w' => ∃ v0 v1 v2, e = .returned (.tuple #[.agg #[v0, v1, v2], .bool true]) ∧ Own8 w' w.heap.size v0 b0 ∧ Own8 w' w.heap.size v1 b1 ∧ Own8 w' w.heap.size v2 bs ∧ Fr (fun _ => False) w w') := by
  have H0 := Lib.hid h0
  have H1 := Lib.hid h1
  have HC := Lib.hid hC
  have HG := hgetok
  rw [hbs] at HG
  have HG := Lib.hid HG
  have HBS := Lib.hid hbs
  have H8 : Hid (Bytes8 bs) := by show Bytes8 bs; rw [← hbs]; exact cert_bytes G D xs
  have HBL : Hid (bs.length ≤ 9000) := by show _ ≤ _; rw [← hbs]; exact cert_len hxl
  have HXL := Lib.hid hxl
  have HBC := Lib.hid hbC
  clear h0 h1 hC hgetok hxl hbC hbs
  have hf0 : Fr (fun _ => False) w ((((w.alloc (Obj.cells #[.int .i64 6, .int .i64 c, .int .i64 n, .slice A nr cr, .slice B nw cw, .int .i64 s.kind, .int .i64 s.txn, .bool s.yes, .string s.from_, .string s.to_, .int .i64 s.epoch, .int .i64 s.shard, .int .i64 s.target, .int .i64 s.root, .int .i64 G, .int .i64 D, .slice C xs.length cx, .int .i64 0, .int .i64 0, .slice none 0 0, .slice none 0 0] 62)).alloc (Obj.cells #[.slice none 0 0, .slice none 0 0, .slice none 0 0] 214)).alloc (Obj.cells #[.slice none 0 0, .slice none 0 0, .slice none 0 0] 214)).alloc (Obj.cells #[.nilIface, .nilIface, .nilIface, .nilIface] 233)) := ((((Fr.refl _ _).alloc _).alloc _).alloc _).alloc _
  have hO0 : Blk ((((w.alloc (Obj.cells #[.int .i64 6, .int .i64 c, .int .i64 n, .slice A nr cr, .slice B nw cw, .int .i64 s.kind, .int .i64 s.txn, .bool s.yes, .string s.from_, .string s.to_, .int .i64 s.epoch, .int .i64 s.shard, .int .i64 s.target, .int .i64 s.root, .int .i64 G, .int .i64 D, .slice C xs.length cx, .int .i64 0, .int .i64 0, .slice none 0 0, .slice none 0 0] 62)).alloc (Obj.cells #[.slice none 0 0, .slice none 0 0, .slice none 0 0] 214)).alloc (Obj.cells #[.slice none 0 0, .slice none 0 0, .slice none 0 0] 214)).alloc (Obj.cells #[.nilIface, .nilIface, .nilIface, .nilIface] 233)) w.heap.size 62 #[.int .i64 6, .int .i64 c, .int .i64 n, .slice A nr cr, .slice B nw cw, .int .i64 s.kind, .int .i64 s.txn, .bool s.yes, .string s.from_, .string s.to_, .int .i64 s.epoch, .int .i64 s.shard, .int .i64 s.target, .int .i64 s.root, .int .i64 G, .int .i64 D, .slice C xs.length cx, .int .i64 0, .int .i64 0, .slice none 0 0, .slice none 0 0] := (((Blk.new w _ _).alloc _).alloc _).alloc _
  have hR0 : Blk ((((w.alloc (Obj.cells #[.int .i64 6, .int .i64 c, .int .i64 n, .slice A nr cr, .slice B nw cw, .int .i64 s.kind, .int .i64 s.txn, .bool s.yes, .string s.from_, .string s.to_, .int .i64 s.epoch, .int .i64 s.shard, .int .i64 s.target, .int .i64 s.root, .int .i64 G, .int .i64 D, .slice C xs.length cx, .int .i64 0, .int .i64 0, .slice none 0 0, .slice none 0 0] 62)).alloc (Obj.cells #[.slice none 0 0, .slice none 0 0, .slice none 0 0] 214)).alloc (Obj.cells #[.slice none 0 0, .slice none 0 0, .slice none 0 0] 214)).alloc (Obj.cells #[.nilIface, .nilIface, .nilIface, .nilIface] 233)) (w.heap.size + 1) 214 #[.slice none 0 0, .slice none 0 0, .slice none 0 0] := ((Blk.new_ _ _ _ (by simp)).alloc _).alloc _
  have hL0 : Blk ((((w.alloc (Obj.cells #[.int .i64 6, .int .i64 c, .int .i64 n, .slice A nr cr, .slice B nw cw, .int .i64 s.kind, .int .i64 s.txn, .bool s.yes, .string s.from_, .string s.to_, .int .i64 s.epoch, .int .i64 s.shard, .int .i64 s.target, .int .i64 s.root, .int .i64 G, .int .i64 D, .slice C xs.length cx, .int .i64 0, .int .i64 0, .slice none 0 0, .slice none 0 0] 62)).alloc (Obj.cells #[.slice none 0 0, .slice none 0 0, .slice none 0 0] 214)).alloc (Obj.cells #[.slice none 0 0, .slice none 0 0, .slice none 0 0] 214)).alloc (Obj.cells #[.nilIface, .nilIface, .nilIface, .nilIface] 233)) (w.heap.size + 1 + 1) 214 #[.slice none 0 0, .slice none 0 0, .slice none 0 0] := (Blk.new_ _ _ _ (by simp)).alloc _
  have hE0 : Blk ((((w.alloc (Obj.cells #[.int .i64 6, .int .i64 c, .int .i64 n, .slice A nr cr, .slice B nw cw, .int .i64 s.kind, .int .i64 s.txn, .bool s.yes, .string s.from_, .string s.to_, .int .i64 s.epoch, .int .i64 s.shard, .int .i64 s.target, .int .i64 s.root, .int .i64 G, .int .i64 D, .slice C xs.length cx, .int .i64 0, .int .i64 0, .slice none 0 0, .slice none 0 0] 62)).alloc (Obj.cells #[.slice none 0 0, .slice none 0 0, .slice none 0 0] 214)).alloc (Obj.cells #[.slice none 0 0, .slice none 0 0, .slice none 0 0] 214)).alloc (Obj.cells #[.nilIface, .nilIface, .nilIface, .nilIface] 233)) (w.heap.size + 1 + 1 + 1) 233 #[.nilIface, .nilIface, .nilIface, .nilIface] := Blk.new_ _ _ _ (by simp)
  have hz0 : w.heap.size + 4 ≤ ((((w.alloc (Obj.cells #[.int .i64 6, .int .i64 c, .int .i64 n, .slice A nr cr, .slice B nw cw, .int .i64 s.kind, .int .i64 s.txn, .bool s.yes, .string s.from_, .string s.to_, .int .i64 s.epoch, .int .i64 s.shard, .int .i64 s.target, .int .i64 s.root, .int .i64 G, .int .i64 D, .slice C xs.length cx, .int .i64 0, .int .i64 0, .slice none 0 0, .slice none 0 0] 62)).alloc (Obj.cells #[.slice none 0 0, .slice none 0 0, .slice none 0 0] 214)).alloc (Obj.cells #[.slice none 0 0, .slice none 0 0, .slice none 0 0] 214)).alloc (Obj.cells #[.nilIface, .nilIface, .nilIface, .nilIface] 233)).heap.size := by simp
  subst hr0 hr1 hnm
  have HN := Lib.hid hno
  clear hno
  go_enter Tryz.func123, Tryz.ntmps123
  go_upto_region 4 with fail
  generalize ((((w.alloc (Obj.cells #[.int .i64 6, .int .i64 c, .int .i64 n, .slice A nr cr, .slice B nw cw, .int .i64 s.kind, .int .i64 s.txn, .bool s.yes, .string s.from_, .string s.to_, .int .i64 s.epoch, .int .i64 s.shard, .int .i64 s.target, .int .i64 s.root, .int .i64 G, .int .i64 D, .slice C xs.length cx, .int .i64 0, .int .i64 0, .slice none 0 0, .slice none 0 0] 62)).alloc (Obj.cells #[.slice none 0 0, .slice none 0 0, .slice none 0 0] 214)).alloc (Obj.cells #[.slice none 0 0, .slice none 0 0, .slice none 0 0] 214)).alloc (Obj.cells #[.nilIface, .nilIface, .nilIface, .nilIface] 233)) = w0 at *
  have k1 := hO0.cell 1
  have k2 := hO0.cell 2
  have k3 := hO0.cell 3
  have k4 := hO0.cell 4
  go_upto_region 5 with (first | (go_at_call 148; refine (H0.out _ hf0).mono ?_; rintro e w1 ⟨v0, rfl, hv01, hf1⟩; obtain ⟨A0, c0, rfl, _, _⟩ := hv01.form; have hf01 := hf0.then_ hf1; have hL1 := hL0.fr hf1 id; have hE1 := hE0.fr hf1 id; have hO1 := hO0.fr hf1 id; have hR1 := hR0.fr hf1 id; have l0 := hL1.cell 0; have lf := hL1.frozen 0; have e0 := hE1.cell 0; have ef := hE1.frozen 0))
  have hO2 : Blk ((w1.setCell ⟨w.heap.size + 1 + 1, 0, none⟩ (Value.slice A0 b0.length c0)).setCell ⟨w.heap.size + 1 + 1 + 1, 0, none⟩ .nilIface) _ _ _ := ((hO1.far (fun h => by (try dsimp only at h); omega) _).far (fun h => by (try dsimp only at h); omega) _)
  have hR2 : Blk ((w1.setCell ⟨w.heap.size + 1 + 1, 0, none⟩ (Value.slice A0 b0.length c0)).setCell ⟨w.heap.size + 1 + 1 + 1, 0, none⟩ .nilIface) _ _ _ := ((hR1.far (fun h => by (try dsimp only at h); omega) _).far (fun h => by (try dsimp only at h); omega) _)
  have hL2 : Blk ((w1.setCell ⟨w.heap.size + 1 + 1, 0, none⟩ (Value.slice A0 b0.length c0)).setCell ⟨w.heap.size + 1 + 1 + 1, 0, none⟩ .nilIface) _ _ _ := ((hL1.set_ 0 _).far (fun h => by (try dsimp only at h); omega) _)
  have hE2 : Blk ((w1.setCell ⟨w.heap.size + 1 + 1, 0, none⟩ (Value.slice A0 b0.length c0)).setCell ⟨w.heap.size + 1 + 1 + 1, 0, none⟩ .nilIface) _ _ _ := ((hE1.far (fun h => by (try dsimp only at h); omega) _).set_ 0 _)
  have hf02 : Fr (fun _ => False) w ((w1.setCell ⟨w.heap.size + 1 + 1, 0, none⟩ (Value.slice A0 b0.length c0)).setCell ⟨w.heap.size + 1 + 1 + 1, 0, none⟩ .nilIface) := ((hf01.setCell (p := ⟨w.heap.size + 1 + 1, 0, none⟩) (fun h => absurd h (by dsimp only; omega)) _).setCell (p := ⟨w.heap.size + 1 + 1 + 1, 0, none⟩) (fun h => absurd h (by dsimp only; omega)) _)
  have hv02 : Own8 ((w1.setCell ⟨w.heap.size + 1 + 1, 0, none⟩ (Value.slice A0 b0.length c0)).setCell ⟨w.heap.size + 1 + 1 + 1, 0, none⟩ .nilIface) _ _ _ := hv01.fr (((Fr.refl (fun k => k = (w.heap.size + 1 + 1 + 1) ∨ k = (w.heap.size + 1 + 1)) w1).setCell (p := ⟨w.heap.size + 1 + 1, 0, none⟩) (fun _ => Or.inr rfl) _).setCell (p := ⟨w.heap.size + 1 + 1 + 1, 0, none⟩) (fun _ => Or.inl rfl) _) (fun k hk h => h.elim (fun h => hv01.ne_blk hE1 (by decide) (by rw [← h]; exact hk)) (fun h => hv01.ne_blk hL1 (by decide) (by rw [← h]; exact hk)))
  generalize ((w1.setCell ⟨w.heap.size + 1 + 1, 0, none⟩ (Value.slice A0 b0.length c0)).setCell ⟨w.heap.size + 1 + 1 + 1, 0, none⟩ .nilIface) = w2 at *
  have k5 := hO2.cell 5
  have k6 := hO2.cell 6
  have k7 := hO2.cell 7
  have k8 := hO2.cell 8
  have k9 := hO2.cell 9
  have k10 := hO2.cell 10
  have k11 := hO2.cell 11
  have k12 := hO2.cell 12
  have k13 := hO2.cell 13
  have hf02d : Fr (fun _ => False) w w2.drew := hf02.drew
  refine wp_region_noPanic ?_
  refine wp_region_held_drew (S := (fun w' => w'.cell? ⟨w.heap.size, 5, none⟩ = some (.int .i64 s.kind) ∧ w'.cell? ⟨w.heap.size, 6, none⟩ = some (.int .i64 s.txn) ∧ w'.cell? ⟨w.heap.size, 7, none⟩ = some (.bool s.yes) ∧ w'.cell? ⟨w.heap.size, 8, none⟩ = some (.string s.from_) ∧ w'.cell? ⟨w.heap.size, 9, none⟩ = some (.string s.to_) ∧ w'.cell? ⟨w.heap.size, 10, none⟩ = some (.int .i64 s.epoch) ∧ w'.cell? ⟨w.heap.size, 11, none⟩ = some (.int .i64 s.shard) ∧ w'.cell? ⟨w.heap.size, 12, none⟩ = some (.int .i64 s.target) ∧ w'.cell? ⟨w.heap.size, 13, none⟩ = some (.int .i64 s.root))) (by kernel_rfl) (⟨k5, k6, k7, k8, k9, k10, k11, k12, k13⟩) (fun hHeld => ?_)
  refine wpAnyH_takeAt (i := 0) (v := ?vb0) (some 26) rfl rfl (by kernel_rfl) (by kernel_rfl) (by kernel_rfl) (fun _ _ _ h => h) (Or.inl ⟨by rfl, ?hyb0⟩) (by assumption) ?restb0
  case hyb0 => (intro w hSw; (try dsimp only at hSw); go_simp; all_goals with_reducible rfl)
  simp only [Act.put, List.setIfInBounds_toArray, List.set_cons_zero, List.set_cons_succ]
  refine wpAnyH_takeAt (i := 1) (v := ?vb1) (some 27) rfl rfl (by kernel_rfl) (by kernel_rfl) (by kernel_rfl) (fun _ _ _ h => h) (Or.inl ⟨by rfl, ?hyb1⟩) (by assumption) ?restb1
  case hyb1 => (intro w hSw; (try dsimp only at hSw); go_simp; all_goals with_reducible rfl)
  simp only [Act.put, List.setIfInBounds_toArray, List.set_cons_zero, List.set_cons_succ]
  refine wpAnyH_takeAt (i := 2) (v := ?vb2) (some 28) rfl rfl (by kernel_rfl) (by kernel_rfl) (by kernel_rfl) (fun _ _ _ h => h) (Or.inl ⟨by rfl, ?hyb2⟩) (by assumption) ?restb2
  case hyb2 => (intro w hSw; (try dsimp only at hSw); go_simp; all_goals with_reducible rfl)
  simp only [Act.put, List.setIfInBounds_toArray, List.set_cons_zero, List.set_cons_succ]
  refine wpAnyH_takeAt (i := 3) (v := ?vb3) (some 29) rfl rfl (by kernel_rfl) (by kernel_rfl) (by kernel_rfl) (fun _ _ _ h => h) (Or.inl ⟨by rfl, ?hyb3⟩) (by assumption) ?restb3
  case hyb3 => (intro w hSw; (try dsimp only at hSw); go_simp; all_goals with_reducible rfl)
  simp only [Act.put, List.setIfInBounds_toArray, List.set_cons_zero, List.set_cons_succ]
  refine wpAnyH_takeAt (i := 4) (v := ?vb4) (some 30) rfl rfl (by kernel_rfl) (by kernel_rfl) (by kernel_rfl) (fun _ _ _ h => h) (Or.inl ⟨by rfl, ?hyb4⟩) (by assumption) ?restb4
  case hyb4 => (intro w hSw; (try dsimp only at hSw); go_simp; all_goals with_reducible rfl)
  simp only [Act.put, List.setIfInBounds_toArray, List.set_cons_zero, List.set_cons_succ]
  refine wpAnyH_takeAt (i := 5) (v := ?vb5) (some 31) rfl rfl (by kernel_rfl) (by kernel_rfl) (by kernel_rfl) (fun _ _ _ h => h) (Or.inl ⟨by rfl, ?hyb5⟩) (by assumption) ?restb5
  case hyb5 => (intro w hSw; (try dsimp only at hSw); go_simp; all_goals with_reducible rfl)
  simp only [Act.put, List.setIfInBounds_toArray, List.set_cons_zero, List.set_cons_succ]
  refine wpAnyH_ready (rs := [6]) (by kernel_rfl) (by simp) ?_
  refine AllReadyH.cons rfl (fun K hK => ?_) AllReadyH.nil
  go_simp
  go_at_call 150
  refine (H1.out _ hf02d).mono ?_
  rintro e w3 ⟨v1, rfl, hv13, hf3⟩
  obtain ⟨A1, c1, rfl, _, _⟩ := hv13.form
  have hf3 : Fr (fun _ => False) w2 w3 := ((Fr.refl (fun _ => False) w2).drew).trans hf3 (fun _ _ h => h)
  have hO3 := hO2.fr hf3 id
  have hR3 := hR2.fr hf3 id
  have hL3 := hL2.fr hf3 id
  have hE3 := hE2.fr hf3 id
  have hv03 := hv02.fr hf3 (fun _ _ => id)
  have hf03 := hf02.then_ hf3
  have lc1 := hL3.cell 1
  have ec1 := hE3.cell 1
  have lf := hL3.frozen 1
  have ef := hE3.frozen 1
  try go_wp2_with fail
  refine hK.out _ _ (⟨hO3.cell 5, hO3.cell 6, hO3.cell 7, hO3.cell 8, hO3.cell 9, hO3.cell 10, hO3.cell 11, hO3.cell 12, hO3.cell 13⟩) (fun hHeld => ?_)
  clear hK K
  refine wpAnyH_takeAt (i := 7) (v := ?vb7) (some 25) rfl rfl (by kernel_rfl) (by kernel_rfl) (by kernel_rfl) (fun _ _ _ h => h) (Or.inl ⟨by rfl, ?hyb7⟩) (by assumption) ?restb7
  case hyb7 => (intro w hSw; (try dsimp only at hSw); go_simp; all_goals with_reducible rfl)
  simp only [Act.put, List.setIfInBounds_toArray, List.set_cons_zero, List.set_cons_succ]
  refine wpAnyH_takeAt (i := 8) (v := ?vb8) (some 33) rfl rfl (by kernel_rfl) (by kernel_rfl) (by kernel_rfl) (fun _ _ _ h => h) (Or.inl ⟨by rfl, ?hyb8⟩) (by assumption) ?restb8
  case hyb8 => (intro w hSw; (try dsimp only at hSw); go_simp; all_goals with_reducible rfl)
  simp only [Act.put, List.setIfInBounds_toArray, List.set_cons_zero, List.set_cons_succ]
  refine wpAnyH_takeAt (i := 9) (v := ?vb9) (some 34) rfl rfl (by kernel_rfl) (by kernel_rfl) (by kernel_rfl) (fun _ _ _ h => h) (Or.inl ⟨by rfl, ?hyb9⟩) (by assumption) ?restb9
  case hyb9 => (intro w hSw; (try dsimp only at hSw); go_simp; all_goals with_reducible rfl)
  simp only [Act.put, List.setIfInBounds_toArray, List.set_cons_zero, List.set_cons_succ]
  refine wpAnyH_takeAt (i := 10) (v := ?vb10) (some 35) rfl rfl (by kernel_rfl) (by kernel_rfl) (by kernel_rfl) (fun _ _ _ h => h) (Or.inl ⟨by rfl, ?hyb10⟩) (by assumption) ?restb10
  case hyb10 => (intro w hSw; (try dsimp only at hSw); go_simp; all_goals with_reducible rfl)
  simp only [Act.put, List.setIfInBounds_toArray, List.set_cons_zero, List.set_cons_succ]
  refine wpAnyH_ready (rs := [11]) (by kernel_rfl) (by simp) ?_
  refine AllReadyH.cons rfl (fun K hK => ?_) AllReadyH.nil
  go_simp
  refine hK.out _ _ (⟨(hO3.far (fun h => by (try dsimp only at h); omega) _).cell 5, (hO3.far (fun h => by (try dsimp only at h); omega) _).cell 6, (hO3.far (fun h => by (try dsimp only at h); omega) _).cell 7, (hO3.far (fun h => by (try dsimp only at h); omega) _).cell 8, (hO3.far (fun h => by (try dsimp only at h); omega) _).cell 9, (hO3.far (fun h => by (try dsimp only at h); omega) _).cell 10, (hO3.far (fun h => by (try dsimp only at h); omega) _).cell 11, (hO3.far (fun h => by (try dsimp only at h); omega) _).cell 12, (hO3.far (fun h => by (try dsimp only at h); omega) _).cell 13⟩) (fun hHeld => ?_)
  clear hK K
  refine wpAnyH_takeAt (i := 12) (v := ?vb12) (some 36) rfl rfl (by kernel_rfl) (by kernel_rfl) (by kernel_rfl) (fun _ _ _ h => h) (Or.inl ⟨by rfl, ?hyb12⟩) (by assumption) ?restb12
  case hyb12 => (intro w hSw; (try dsimp only at hSw); go_simp; all_goals with_reducible rfl)
  simp only [Act.put, List.setIfInBounds_toArray, List.set_cons_zero, List.set_cons_succ]
  refine wpAnyH_ready (rs := [13]) (by kernel_rfl) (by simp) ?_
  refine AllReadyH.cons rfl (fun K hK => ?_) AllReadyH.nil
  go_simp
  refine hK.out _ _ (⟨((hO3.far (fun h => by (try dsimp only at h); omega) _).far (fun h => by (try dsimp only at h); omega) _).cell 5, ((hO3.far (fun h => by (try dsimp only at h); omega) _).far (fun h => by (try dsimp only at h); omega) _).cell 6, ((hO3.far (fun h => by (try dsimp only at h); omega) _).far (fun h => by (try dsimp only at h); omega) _).cell 7, ((hO3.far (fun h => by (try dsimp only at h); omega) _).far (fun h => by (try dsimp only at h); omega) _).cell 8, ((hO3.far (fun h => by (try dsimp only at h); omega) _).far (fun h => by (try dsimp only at h); omega) _).cell 9, ((hO3.far (fun h => by (try dsimp only at h); omega) _).far (fun h => by (try dsimp only at h); omega) _).cell 10, ((hO3.far (fun h => by (try dsimp only at h); omega) _).far (fun h => by (try dsimp only at h); omega) _).cell 11, ((hO3.far (fun h => by (try dsimp only at h); omega) _).far (fun h => by (try dsimp only at h); omega) _).cell 12, ((hO3.far (fun h => by (try dsimp only at h); omega) _).far (fun h => by (try dsimp only at h); omega) _).cell 13⟩) (fun hHeld => ?_)
  clear hK K
  refine wpAnyH_done (by kernel_rfl) ?_ _
  refine NoPanic.normal ?_
  have hO4 : Blk ((w3.setCell ⟨w.heap.size + 1 + 1, 1, none⟩ (Value.slice A1 b1.length c1)).setCell ⟨w.heap.size + 1 + 1 + 1, 1, none⟩ .nilIface) _ _ _ := ((hO3.far (fun h => by (try dsimp only at h); omega) _).far (fun h => by (try dsimp only at h); omega) _)
  have hR4 : Blk ((w3.setCell ⟨w.heap.size + 1 + 1, 1, none⟩ (Value.slice A1 b1.length c1)).setCell ⟨w.heap.size + 1 + 1 + 1, 1, none⟩ .nilIface) _ _ _ := ((hR3.far (fun h => by (try dsimp only at h); omega) _).far (fun h => by (try dsimp only at h); omega) _)
  have hL4 : Blk ((w3.setCell ⟨w.heap.size + 1 + 1, 1, none⟩ (Value.slice A1 b1.length c1)).setCell ⟨w.heap.size + 1 + 1 + 1, 1, none⟩ .nilIface) _ _ _ := ((hL3.set_ 1 _).far (fun h => by (try dsimp only at h); omega) _)
  have hE4 : Blk ((w3.setCell ⟨w.heap.size + 1 + 1, 1, none⟩ (Value.slice A1 b1.length c1)).setCell ⟨w.heap.size + 1 + 1 + 1, 1, none⟩ .nilIface) _ _ _ := ((hE3.far (fun h => by (try dsimp only at h); omega) _).set_ 1 _)
  have hf04 : Fr (fun _ => False) w ((w3.setCell ⟨w.heap.size + 1 + 1, 1, none⟩ (Value.slice A1 b1.length c1)).setCell ⟨w.heap.size + 1 + 1 + 1, 1, none⟩ .nilIface) := ((hf03.setCell (p := ⟨w.heap.size + 1 + 1, 1, none⟩) (fun h => absurd h (by dsimp only; omega)) _).setCell (p := ⟨w.heap.size + 1 + 1 + 1, 1, none⟩) (fun h => absurd h (by dsimp only; omega)) _)
  have hv04 : Own8 ((w3.setCell ⟨w.heap.size + 1 + 1, 1, none⟩ (Value.slice A1 b1.length c1)).setCell ⟨w.heap.size + 1 + 1 + 1, 1, none⟩ .nilIface) _ _ _ := hv03.fr (((Fr.refl (fun k => k = (w.heap.size + 1 + 1 + 1) ∨ k = (w.heap.size + 1 + 1)) w3).setCell (p := ⟨w.heap.size + 1 + 1, 1, none⟩) (fun _ => Or.inr rfl) _).setCell (p := ⟨w.heap.size + 1 + 1 + 1, 1, none⟩) (fun _ => Or.inl rfl) _) (fun k hk h => h.elim (fun h => hv03.ne_blk hE3 (by decide) (by rw [← h]; exact hk)) (fun h => hv03.ne_blk hL3 (by decide) (by rw [← h]; exact hk)))
  have hv14 : Own8 ((w3.setCell ⟨w.heap.size + 1 + 1, 1, none⟩ (Value.slice A1 b1.length c1)).setCell ⟨w.heap.size + 1 + 1 + 1, 1, none⟩ .nilIface) _ _ _ := hv13.fr (((Fr.refl (fun k => k = (w.heap.size + 1 + 1 + 1) ∨ k = (w.heap.size + 1 + 1)) w3).setCell (p := ⟨w.heap.size + 1 + 1, 1, none⟩) (fun _ => Or.inr rfl) _).setCell (p := ⟨w.heap.size + 1 + 1 + 1, 1, none⟩) (fun _ => Or.inl rfl) _) (fun k hk h => h.elim (fun h => hv13.ne_blk hE3 (by decide) (by rw [← h]; exact hk)) (fun h => hv13.ne_blk hL3 (by decide) (by rw [← h]; exact hk)))
  generalize ((w3.setCell ⟨w.heap.size + 1 + 1, 1, none⟩ (Value.slice A1 b1.length c1)).setCell ⟨w.heap.size + 1 + 1 + 1, 1, none⟩ .nilIface) = w4 at *
  have k14 := hO4.cell 14
  have k15 := hO4.cell 15
  have k16 := hO4.cell 16
  have HP : Hid (Calls Tryz.prog 151 #[.agg #[.int .i64 G, .int .i64 D, .slice C xs.length cx]] w4 (PutP w4 bs .nilIface)) := (cert_Put (cap := cx) (HC.out.fr hf04 (fun _ _ => id)) (Nat.le_trans HBC.out hf04.size) (by have := HXL.out; omega) G D).mono fun _ _ h => HBS.out ▸ putP_of HXL.out h
  go_upto_region 7 with (first | (go_at_call 151; refine HP.out.mono ?_; rintro e w5 ⟨v2, rfl, hv25, hf5⟩; obtain ⟨A2, c2, rfl, _, _⟩ := hv25.form; have hO5 := hO4.fr hf5 id; have hR5 := hR4.fr hf5 id; have hL5 := hL4.fr hf5 id; have hE5 := hE4.fr hf5 id; have hv05 := hv04.fr hf5 (fun _ _ => id); have hv15 := hv14.fr hf5 (fun _ _ => id); have hf05 := hf04.then_ hf5; have lc := hL5.cell 2; have lf := hL5.frozen 2; have ec := hE5.cell 2; have ef := hE5.frozen 2))
  have hO6 : Blk ((w5.setCell ⟨w.heap.size + 1 + 1, 2, none⟩ (Value.slice A2 bs.length c2)).setCell ⟨w.heap.size + 1 + 1 + 1, 2, none⟩ Value.nilIface) _ _ _ := ((hO5.far (fun h => by (try dsimp only at h); omega) _).far (fun h => by (try dsimp only at h); omega) _)
  have hR6 : Blk ((w5.setCell ⟨w.heap.size + 1 + 1, 2, none⟩ (Value.slice A2 bs.length c2)).setCell ⟨w.heap.size + 1 + 1 + 1, 2, none⟩ Value.nilIface) _ _ _ := ((hR5.far (fun h => by (try dsimp only at h); omega) _).far (fun h => by (try dsimp only at h); omega) _)
  have hL6 : Blk ((w5.setCell ⟨w.heap.size + 1 + 1, 2, none⟩ (Value.slice A2 bs.length c2)).setCell ⟨w.heap.size + 1 + 1 + 1, 2, none⟩ Value.nilIface) _ _ _ := ((hL5.set_ 2 _).far (fun h => by (try dsimp only at h); omega) _)
  have hE6 : Blk ((w5.setCell ⟨w.heap.size + 1 + 1, 2, none⟩ (Value.slice A2 bs.length c2)).setCell ⟨w.heap.size + 1 + 1 + 1, 2, none⟩ Value.nilIface) _ _ _ := ((hE5.far (fun h => by (try dsimp only at h); omega) _).set_ 2 _)
  have hf06 : Fr (fun _ => False) w ((w5.setCell ⟨w.heap.size + 1 + 1, 2, none⟩ (Value.slice A2 bs.length c2)).setCell ⟨w.heap.size + 1 + 1 + 1, 2, none⟩ Value.nilIface) := ((hf05.setCell (p := ⟨w.heap.size + 1 + 1, 2, none⟩) (fun h => absurd h (by dsimp only; omega)) _).setCell (p := ⟨w.heap.size + 1 + 1 + 1, 2, none⟩) (fun h => absurd h (by dsimp only; omega)) _)
  have hv06 : Own8 ((w5.setCell ⟨w.heap.size + 1 + 1, 2, none⟩ (Value.slice A2 bs.length c2)).setCell ⟨w.heap.size + 1 + 1 + 1, 2, none⟩ Value.nilIface) _ _ _ := hv05.fr (((Fr.refl (fun k => k = (w.heap.size + 1 + 1 + 1) ∨ k = (w.heap.size + 1 + 1)) w5).setCell (p := ⟨w.heap.size + 1 + 1, 2, none⟩) (fun _ => Or.inr rfl) _).setCell (p := ⟨w.heap.size + 1 + 1 + 1, 2, none⟩) (fun _ => Or.inl rfl) _) (fun k hk h => h.elim (fun h => hv05.ne_blk hE5 (by decide) (by rw [← h]; exact hk)) (fun h => hv05.ne_blk hL5 (by decide) (by rw [← h]; exact hk)))
  have hv16 : Own8 ((w5.setCell ⟨w.heap.size + 1 + 1, 2, none⟩ (Value.slice A2 bs.length c2)).setCell ⟨w.heap.size + 1 + 1 + 1, 2, none⟩ Value.nilIface) _ _ _ := hv15.fr (((Fr.refl (fun k => k = (w.heap.size + 1 + 1 + 1) ∨ k = (w.heap.size + 1 + 1)) w5).setCell (p := ⟨w.heap.size + 1 + 1, 2, none⟩) (fun _ => Or.inr rfl) _).setCell (p := ⟨w.heap.size + 1 + 1 + 1, 2, none⟩) (fun _ => Or.inl rfl) _) (fun k hk h => h.elim (fun h => hv15.ne_blk hE5 (by decide) (by rw [← h]; exact hk)) (fun h => hv15.ne_blk hL5 (by decide) (by rw [← h]; exact hk)))
  have hv26 : Own8 ((w5.setCell ⟨w.heap.size + 1 + 1, 2, none⟩ (Value.slice A2 bs.length c2)).setCell ⟨w.heap.size + 1 + 1 + 1, 2, none⟩ Value.nilIface) _ _ _ := hv25.fr (((Fr.refl (fun k => k = (w.heap.size + 1 + 1 + 1) ∨ k = (w.heap.size + 1 + 1)) w5).setCell (p := ⟨w.heap.size + 1 + 1, 2, none⟩) (fun _ => Or.inr rfl) _).setCell (p := ⟨w.heap.size + 1 + 1 + 1, 2, none⟩) (fun _ => Or.inl rfl) _) (fun k hk h => h.elim (fun h => hv25.ne_blk hE5 (by decide) (by rw [← h]; exact hk)) (fun h => hv25.ne_blk hL5 (by decide) (by rw [← h]; exact hk)))
  generalize ((w5.setCell ⟨w.heap.size + 1 + 1, 2, none⟩ (Value.slice A2 bs.length c2)).setCell ⟨w.heap.size + 1 + 1 + 1, 2, none⟩ Value.nilIface) = w6 at *
  have ec := hE6.cell 2
  have lc := hL6.cell 2
  obtain ⟨_, _, hve, _, hrow⟩ := hv26.form
  cases hve
  have HGET := Lib.hid (cert_Get (cap := c2) hrow (by have := HBL.out; omega) H8.out)
  clear hrow
  go_upto_region 9 with (first | (go_at_call 152; refine HGET.out.mono ?_; rintro e w7 hg7; obtain ⟨x3, rfl, hf7⟩ := get_fine HG.out hg7; have hO7 := hO6.fr hf7 id; have hR7 := hR6.fr hf7 id; have hL7 := hL6.fr hf7 id; have hE7 := hE6.fr hf7 id; have hv07 := hv06.fr hf7 (fun _ _ => id); have hv17 := hv16.fr hf7 (fun _ _ => id); have hv27 := hv26.fr hf7 (fun _ _ => id); have hf07 := hf06.then_ hf7; have ec := hE7.cell 3; have ef := hE7.frozen 3))
  have hO8 : Blk (w7.setCell ⟨w.heap.size + 1 + 1 + 1, 3, none⟩ Value.nilIface) _ _ _ := (hO7.far (fun h => by (try dsimp only at h); omega) _)
  have hR8 : Blk (w7.setCell ⟨w.heap.size + 1 + 1 + 1, 3, none⟩ Value.nilIface) _ _ _ := (hR7.far (fun h => by (try dsimp only at h); omega) _)
  have hL8 : Blk (w7.setCell ⟨w.heap.size + 1 + 1 + 1, 3, none⟩ Value.nilIface) _ _ _ := (hL7.far (fun h => by (try dsimp only at h); omega) _)
  have hE8 : Blk (w7.setCell ⟨w.heap.size + 1 + 1 + 1, 3, none⟩ Value.nilIface) _ _ _ := (hE7.set_ 3 _)
  have hf08 : Fr (fun _ => False) w (w7.setCell ⟨w.heap.size + 1 + 1 + 1, 3, none⟩ Value.nilIface) := (hf07.setCell (p := ⟨w.heap.size + 1 + 1 + 1, 3, none⟩) (fun h => absurd h (by dsimp only; omega)) _)
  have hv08 : Own8 (w7.setCell ⟨w.heap.size + 1 + 1 + 1, 3, none⟩ Value.nilIface) _ _ _ := hv07.fr ((Fr.refl (fun k => k = (w.heap.size + 1 + 1 + 1)) w7).setCell (p := ⟨w.heap.size + 1 + 1 + 1, 3, none⟩) (fun _ => rfl) _) (fun k hk h => hv07.ne_blk hE7 (by decide) (by rw [← h]; exact hk))
  have hv18 : Own8 (w7.setCell ⟨w.heap.size + 1 + 1 + 1, 3, none⟩ Value.nilIface) _ _ _ := hv17.fr ((Fr.refl (fun k => k = (w.heap.size + 1 + 1 + 1)) w7).setCell (p := ⟨w.heap.size + 1 + 1 + 1, 3, none⟩) (fun _ => rfl) _) (fun k hk h => hv17.ne_blk hE7 (by decide) (by rw [← h]; exact hk))
  have hv28 : Own8 (w7.setCell ⟨w.heap.size + 1 + 1 + 1, 3, none⟩ Value.nilIface) _ _ _ := hv27.fr ((Fr.refl (fun k => k = (w.heap.size + 1 + 1 + 1)) w7).setCell (p := ⟨w.heap.size + 1 + 1 + 1, 3, none⟩) (fun _ => rfl) _) (fun k hk h => hv27.ne_blk hE7 (by decide) (by rw [← h]; exact hk))
  generalize (w7.setCell ⟨w.heap.size + 1 + 1 + 1, 3, none⟩ Value.nilIface) = w8 at *
  have HER : Hid (ErrRow w8 (w.heap.size + 1 + 1 + 1) [.nilIface, .nilIface, .nilIface, .nilIface]) := err_row hE8 (.inl rfl) (.inl rfl) (.inl rfl) (.inl rfl)
  go_upto_region 10 with (first | (go_at_call 153; refine (containsErr (cap := 4) (z := false) rfl HER.out (by simp)).mono ?_; rintro e w9 ⟨rfl, rfl⟩))
  have hf08d : Fr (fun _ => False) w w8.drew := hf08.drew
  refine wp_region_noPanic ?_
  refine wp_region_held_drew (S := (fun w' => w'.cell? ⟨w.heap.size, 0, none⟩ = some (.int .i64 6) ∧ w'.cell? ⟨w.heap.size, 1, none⟩ = some (.int .i64 c) ∧ w'.cell? ⟨w.heap.size, 2, none⟩ = some (.int .i64 n) ∧ w'.cell? ⟨w.heap.size, 3, none⟩ = some (.slice A nr cr) ∧ w'.cell? ⟨w.heap.size, 4, none⟩ = some (.slice B nw cw) ∧ w'.cell? ⟨w.heap.size, 17, none⟩ = some (.int .i64 0) ∧ w'.cell? ⟨w.heap.size, 18, none⟩ = some (.int .i64 0) ∧ w'.cell? ⟨w.heap.size, 19, none⟩ = some (.slice none 0 0) ∧ w'.cell? ⟨w.heap.size, 20, none⟩ = some (.slice none 0 0) ∧ w'.cell? ⟨w.heap.size + 1 + 1, 0, none⟩ = some ((Value.slice A0 b0.length c0)) ∧ w'.cell? ⟨w.heap.size + 1 + 1, 1, none⟩ = some ((Value.slice A1 b1.length c1)) ∧ w'.cell? ⟨w.heap.size + 1 + 1, 2, none⟩ = some ((Value.slice A2 bs.length c2)))) (by kernel_rfl) (⟨hO8.cell 0, hO8.cell 1, hO8.cell 2, hO8.cell 3, hO8.cell 4, hO8.cell 17, hO8.cell 18, hO8.cell 19, hO8.cell 20, hL8.cell 0, hL8.cell 1, hL8.cell 2⟩) (fun hHeld => ?_)
  refine wpAnyH_takeAt (i := 0) (v := ?vc0) (some 57) rfl rfl (by kernel_rfl) (by kernel_rfl) (by kernel_rfl) (fun _ _ _ h => h) (Or.inl ⟨by rfl, ?hyc0⟩) (by assumption) ?restc0
  case hyc0 => (intro w hSw; (try dsimp only at hSw); go_simp; all_goals with_reducible rfl)
  simp only [Act.put, List.setIfInBounds_toArray, List.set_cons_zero, List.set_cons_succ]
  refine wpAnyH_takeAt (i := 1) (v := ?vc1) (some 58) rfl rfl (by kernel_rfl) (by kernel_rfl) (by kernel_rfl) (fun _ _ _ h => h) (Or.inl ⟨by rfl, ?hyc1⟩) (by assumption) ?restc1
  case hyc1 => (intro w hSw; (try dsimp only at hSw); go_simp; all_goals with_reducible rfl)
  simp only [Act.put, List.setIfInBounds_toArray, List.set_cons_zero, List.set_cons_succ]
  refine wpAnyH_takeAt (i := 2) (v := ?vc2) (some 59) rfl rfl (by kernel_rfl) (by kernel_rfl) (by kernel_rfl) (fun _ _ _ h => h) (Or.inl ⟨by rfl, ?hyc2⟩) (by assumption) ?restc2
  case hyc2 => (intro w hSw; (try dsimp only at hSw); go_simp; all_goals with_reducible rfl)
  simp only [Act.put, List.setIfInBounds_toArray, List.set_cons_zero, List.set_cons_succ]
  refine wpAnyH_takeAt (i := 3) (v := ?vc3) (some 60) rfl rfl (by kernel_rfl) (by kernel_rfl) (by kernel_rfl) (fun _ _ _ h => h) (Or.inl ⟨by rfl, ?hyc3⟩) (by assumption) ?restc3
  case hyc3 => (intro w hSw; (try dsimp only at hSw); go_simp; all_goals with_reducible rfl)
  simp only [Act.put, List.setIfInBounds_toArray, List.set_cons_zero, List.set_cons_succ]
  refine wpAnyH_takeAt (i := 4) (v := ?vc4) (some 61) rfl rfl (by kernel_rfl) (by kernel_rfl) (by kernel_rfl) (fun _ _ _ h => h) (Or.inl ⟨by rfl, ?hyc4⟩) (by assumption) ?restc4
  case hyc4 => (intro w hSw; (try dsimp only at hSw); go_simp; all_goals with_reducible rfl)
  simp only [Act.put, List.setIfInBounds_toArray, List.set_cons_zero, List.set_cons_succ]
  refine wpAnyH_takeAt (i := 5) (v := ?vc5) (some 62) rfl rfl (by kernel_rfl) (by kernel_rfl) (by kernel_rfl) (fun _ _ _ h => h) (Or.inl ⟨by rfl, ?hyc5⟩) (by assumption) ?restc5
  case hyc5 => (intro w hSw; (try dsimp only at hSw); go_simp; all_goals with_reducible rfl)
  simp only [Act.put, List.setIfInBounds_toArray, List.set_cons_zero, List.set_cons_succ]
  refine wpAnyH_takeAt (i := 6) (v := ?vc6) (some 63) rfl rfl (by kernel_rfl) (by kernel_rfl) (by kernel_rfl) (fun _ _ _ h => h) (Or.inl ⟨by rfl, ?hyc6⟩) (by assumption) ?restc6
  case hyc6 => (intro w hSw; (try dsimp only at hSw); go_simp; all_goals with_reducible rfl)
  simp only [Act.put, List.setIfInBounds_toArray, List.set_cons_zero, List.set_cons_succ]
  refine wpAnyH_takeAt (i := 7) (v := ?vc7) (some 64) rfl rfl (by kernel_rfl) (by kernel_rfl) (by kernel_rfl) (fun _ _ _ h => h) (Or.inl ⟨by rfl, ?hyc7⟩) (by assumption) ?restc7
  case hyc7 => (intro w hSw; (try dsimp only at hSw); go_simp; all_goals with_reducible rfl)
  simp only [Act.put, List.setIfInBounds_toArray, List.set_cons_zero, List.set_cons_succ]
  refine wpAnyH_takeAt (i := 8) (v := ?vc8) (some 65) rfl rfl (by kernel_rfl) (by kernel_rfl) (by kernel_rfl) (fun _ _ _ h => h) (Or.inl ⟨by rfl, ?hyc8⟩) (by assumption) ?restc8
  case hyc8 => (intro w hSw; (try dsimp only at hSw); go_simp; all_goals with_reducible rfl)
  simp only [Act.put, List.setIfInBounds_toArray, List.set_cons_zero, List.set_cons_succ]
  refine wpAnyH_takeAt (i := 9) (v := ?vc9) (some 66) rfl rfl (by kernel_rfl) (by kernel_rfl) (by kernel_rfl) (fun _ _ _ h => h) (Or.inl ⟨by rfl, ?hyc9⟩) (by assumption) ?restc9
  case hyc9 => (intro w hSw; (try dsimp only at hSw); go_simp; all_goals with_reducible rfl)
  simp only [Act.put, List.setIfInBounds_toArray, List.set_cons_zero, List.set_cons_succ]
  refine wpAnyH_takeAt (i := 10) (v := ?vc10) (some 67) rfl rfl (by kernel_rfl) (by kernel_rfl) (by kernel_rfl) (fun _ _ _ h => h) (Or.inl ⟨by rfl, ?hyc10⟩) (by assumption) ?restc10
  case hyc10 => (intro w hSw; (try dsimp only at hSw); go_simp; all_goals with_reducible rfl)
  simp only [Act.put, List.setIfInBounds_toArray, List.set_cons_zero, List.set_cons_succ]
  refine wpAnyH_takeAt (i := 11) (v := ?vc11) (some 68) rfl rfl (by kernel_rfl) (by kernel_rfl) (by kernel_rfl) (fun _ _ _ h => h) (Or.inl ⟨by rfl, ?hyc11⟩) (by assumption) ?restc11
  case hyc11 => (intro w hSw; (try dsimp only at hSw); go_simp; all_goals with_reducible rfl)
  simp only [Act.put, List.setIfInBounds_toArray, List.set_cons_zero, List.set_cons_succ]
  refine wpAnyH_takeAt (i := 12) (v := ?vc12) (some 69) rfl rfl (by kernel_rfl) (by kernel_rfl) (by kernel_rfl) (fun _ _ _ h => h) (Or.inl ⟨by rfl, ?hyc12⟩) (by assumption) ?restc12
  case hyc12 => (intro w hSw; (try dsimp only at hSw); go_simp; all_goals with_reducible rfl)
  simp only [Act.put, List.setIfInBounds_toArray, List.set_cons_zero, List.set_cons_succ]
  refine wpAnyH_takeAt (i := 13) (v := ?vc13) (some 70) rfl rfl (by kernel_rfl) (by kernel_rfl) (by kernel_rfl) (fun _ _ _ h => h) (Or.inl ⟨by rfl, ?hyc13⟩) (by assumption) ?restc13
  case hyc13 => (intro w hSw; (try dsimp only at hSw); go_simp; all_goals with_reducible rfl)
  simp only [Act.put, List.setIfInBounds_toArray, List.set_cons_zero, List.set_cons_succ]
  refine wpAnyH_takeAt (i := 14) (v := ?vc14) (some 71) rfl rfl (by kernel_rfl) (by kernel_rfl) (by kernel_rfl) (fun _ _ _ h => h) (Or.inl ⟨by rfl, ?hyc14⟩) (by assumption) ?restc14
  case hyc14 => (intro w hSw; (try dsimp only at hSw); go_simp; all_goals with_reducible rfl)
  simp only [Act.put, List.setIfInBounds_toArray, List.set_cons_zero, List.set_cons_succ]
  refine wpAnyH_takeAt (i := 15) (v := ?vc15) (some 72) rfl rfl (by kernel_rfl) (by kernel_rfl) (by kernel_rfl) (fun _ _ _ h => h) (Or.inl ⟨by rfl, ?hyc15⟩) (by assumption) ?restc15
  case hyc15 => (intro w hSw; (try dsimp only at hSw); go_simp; all_goals with_reducible rfl)
  simp only [Act.put, List.setIfInBounds_toArray, List.set_cons_zero, List.set_cons_succ]
  refine wpAnyH_takeAt (i := 16) (v := ?vc16) (some 73) rfl rfl (by kernel_rfl) (by kernel_rfl) (by kernel_rfl) (fun _ _ _ h => h) (Or.inl ⟨by rfl, ?hyc16⟩) (by assumption) ?restc16
  case hyc16 => (intro w hSw; (try dsimp only at hSw); go_simp; all_goals with_reducible rfl)
  simp only [Act.put, List.setIfInBounds_toArray, List.set_cons_zero, List.set_cons_succ]
  refine wpAnyH_ready (rs := [17]) (by kernel_rfl) (by simp) ?_
  refine AllReadyH.cons rfl (fun K hK => ?_) AllReadyH.nil
  go_simp
  go_at_call 155
  refine (HN.out _ hf08d).mono ?_
  rintro e w10 ⟨rfl, hf10⟩
  have hf10 : Fr (fun _ => False) w8 w10 := ((Fr.refl (fun _ => False) w8).drew).trans hf10 (fun _ _ h => h)
  have hO10 := hO8.fr hf10 id
  have hR10 := hR8.fr hf10 id
  have hL10 := hL8.fr hf10 id
  have hE10 := hE8.fr hf10 id
  have hv010 := hv08.fr hf10 (fun _ _ => id)
  have hv110 := hv18.fr hf10 (fun _ _ => id)
  have hv210 := hv28.fr hf10 (fun _ _ => id)
  have hf010 := hf08.then_ hf10
  try go_wp2_with fail
  refine hK.out _ _ (⟨hO10.cell 0, hO10.cell 1, hO10.cell 2, hO10.cell 3, hO10.cell 4, hO10.cell 17, hO10.cell 18, hO10.cell 19, hO10.cell 20, hL10.cell 0, hL10.cell 1, hL10.cell 2⟩) (fun hHeld => ?_)
  clear hK K
  refine wpAnyH_takeAt (i := 18) (v := ?vc18) (some 75) rfl rfl (by kernel_rfl) (by kernel_rfl) (by kernel_rfl) (fun _ _ _ h => h) (Or.inl ⟨by rfl, ?hyc18⟩) (by assumption) ?restc18
  case hyc18 => (intro w hSw; (try dsimp only at hSw); go_simp; all_goals with_reducible rfl)
  simp only [Act.put, List.setIfInBounds_toArray, List.set_cons_zero, List.set_cons_succ]
  refine wpAnyH_takeAt (i := 19) (v := ?vc19) (some 76) rfl rfl (by kernel_rfl) (by kernel_rfl) (by kernel_rfl) (fun _ _ _ h => h) (Or.inl ⟨by rfl, ?hyc19⟩) (by assumption) ?restc19
  case hyc19 => (intro w hSw; (try dsimp only at hSw); go_simp; all_goals with_reducible rfl)
  simp only [Act.put, List.setIfInBounds_toArray, List.set_cons_zero, List.set_cons_succ]
  refine wpAnyH_takeAt (i := 20) (v := ?vc20) (some 77) rfl rfl (by kernel_rfl) (by kernel_rfl) (by kernel_rfl) (fun _ _ _ h => h) (Or.inl ⟨by rfl, ?hyc20⟩) (by assumption) ?restc20
  case hyc20 => (intro w hSw; (try dsimp only at hSw); go_simp; all_goals with_reducible rfl)
  simp only [Act.put, List.setIfInBounds_toArray, List.set_cons_zero, List.set_cons_succ]
  refine wpAnyH_takeAt (i := 21) (v := ?vc21) (some 78) rfl rfl (by kernel_rfl) (by kernel_rfl) (by kernel_rfl) (fun _ _ _ h => h) (Or.inl ⟨by rfl, ?hyc21⟩) (by assumption) ?restc21
  case hyc21 => (intro w hSw; (try dsimp only at hSw); go_simp; all_goals with_reducible rfl)
  simp only [Act.put, List.setIfInBounds_toArray, List.set_cons_zero, List.set_cons_succ]
  refine wpAnyH_takeAt (i := 22) (v := ?vc22) (some 79) rfl rfl (by kernel_rfl) (by kernel_rfl) (by kernel_rfl) (fun _ _ _ h => h) (Or.inl ⟨by rfl, ?hyc22⟩) (by assumption) ?restc22
  case hyc22 => (intro w hSw; (try dsimp only at hSw); go_simp; all_goals with_reducible rfl)
  simp only [Act.put, List.setIfInBounds_toArray, List.set_cons_zero, List.set_cons_succ]
  refine wpAnyH_ready (rs := [23]) (by kernel_rfl) (by simp) ?_
  refine AllReadyH.cons rfl (fun K hK => ?_) AllReadyH.nil
  go_simp
  go_at_call 156
  refine (fits_zero _).mono ?_
  rintro e w11 ⟨rfl, hf11⟩
  have hO11 := hO10.fr hf11 id
  have hR11 := hR10.fr hf11 id
  have hL11 := hL10.fr hf11 id
  have hE11 := hE10.fr hf11 id
  have hv011 := hv010.fr hf11 (fun _ _ => id)
  have hv111 := hv110.fr hf11 (fun _ _ => id)
  have hv211 := hv210.fr hf11 (fun _ _ => id)
  have hf011 := hf010.then_ hf11
  have rc0 := hR11.cell 0
  have rc1 := hR11.cell 1
  have rc2 := hR11.cell 2
  have rf0 := hR11.frozen 0
  have rf1 := hR11.frozen 1
  have rf2 := hR11.frozen 2
  try go_wp2_with fail
  refine hK.out _ _ (⟨hO11.cell 0, hO11.cell 1, hO11.cell 2, hO11.cell 3, hO11.cell 4, hO11.cell 17, hO11.cell 18, hO11.cell 19, hO11.cell 20, hL11.cell 0, hL11.cell 1, hL11.cell 2⟩) (fun hHeld => ?_)
  clear hK K
  refine wpAnyH_takeAt (i := 24) (v := ?vc24) (some 81) rfl rfl (by kernel_rfl) (by kernel_rfl) (by kernel_rfl) (fun _ _ _ h => h) (Or.inl ⟨by rfl, ?hyc24⟩) (by assumption) ?restc24
  case hyc24 => (intro w hSw; (try dsimp only at hSw); go_simp; all_goals with_reducible rfl)
  simp only [Act.put, List.setIfInBounds_toArray, List.set_cons_zero, List.set_cons_succ]
  refine wpAnyH_ready (rs := [25]) (by kernel_rfl) (by simp) ?_
  refine AllReadyH.cons rfl (fun K hK => ?_) AllReadyH.nil
  go_simp
  refine hK.out _ _ (⟨(((hO11.far (fun h => by (try dsimp only at h); omega) _).far (fun h => by (try dsimp only at h); omega) _).far (fun h => by (try dsimp only at h); omega) _).cell 0, (((hO11.far (fun h => by (try dsimp only at h); omega) _).far (fun h => by (try dsimp only at h); omega) _).far (fun h => by (try dsimp only at h); omega) _).cell 1, (((hO11.far (fun h => by (try dsimp only at h); omega) _).far (fun h => by (try dsimp only at h); omega) _).far (fun h => by (try dsimp only at h); omega) _).cell 2, (((hO11.far (fun h => by (try dsimp only at h); omega) _).far (fun h => by (try dsimp only at h); omega) _).far (fun h => by (try dsimp only at h); omega) _).cell 3, (((hO11.far (fun h => by (try dsimp only at h); omega) _).far (fun h => by (try dsimp only at h); omega) _).far (fun h => by (try dsimp only at h); omega) _).cell 4, (((hO11.far (fun h => by (try dsimp only at h); omega) _).far (fun h => by (try dsimp only at h); omega) _).far (fun h => by (try dsimp only at h); omega) _).cell 17, (((hO11.far (fun h => by (try dsimp only at h); omega) _).far (fun h => by (try dsimp only at h); omega) _).far (fun h => by (try dsimp only at h); omega) _).cell 18, (((hO11.far (fun h => by (try dsimp only at h); omega) _).far (fun h => by (try dsimp only at h); omega) _).far (fun h => by (try dsimp only at h); omega) _).cell 19, (((hO11.far (fun h => by (try dsimp only at h); omega) _).far (fun h => by (try dsimp only at h); omega) _).far (fun h => by (try dsimp only at h); omega) _).cell 20, (((hL11.far (fun h => by (try dsimp only at h); omega) _).far (fun h => by (try dsimp only at h); omega) _).far (fun h => by (try dsimp only at h); omega) _).cell 0, (((hL11.far (fun h => by (try dsimp only at h); omega) _).far (fun h => by (try dsimp only at h); omega) _).far (fun h => by (try dsimp only at h); omega) _).cell 1, (((hL11.far (fun h => by (try dsimp only at h); omega) _).far (fun h => by (try dsimp only at h); omega) _).far (fun h => by (try dsimp only at h); omega) _).cell 2⟩) (fun hHeld => ?_)
  clear hK K
  refine wpAnyH_takeAt (i := 26) (v := ?vc26) (some 3) rfl rfl (by kernel_rfl) (by kernel_rfl) (by kernel_rfl) (fun _ _ _ h => h) (Or.inl ⟨by rfl, ?hyc26⟩) (by assumption) ?restc26
  case hyc26 => (intro w hSw; (try dsimp only at hSw); go_simp; all_goals with_reducible rfl)
  simp only [Act.put, List.setIfInBounds_toArray, List.set_cons_zero, List.set_cons_succ]
  refine wpAnyH_done (by kernel_rfl) ?_ _
  refine NoPanic.normal ?_
  have hO12 : Blk (((w11.setCell ⟨w.heap.size + 1, 0, none⟩ (Value.slice A0 b0.length c0)).setCell ⟨w.heap.size + 1, 1, none⟩ (Value.slice A1 b1.length c1)).setCell ⟨w.heap.size + 1, 2, none⟩ (Value.slice A2 bs.length c2)) _ _ _ := (((hO11.far (fun h => by (try dsimp only at h); omega) _).far (fun h => by (try dsimp only at h); omega) _).far (fun h => by (try dsimp only at h); omega) _)
  have hR12 : Blk (((w11.setCell ⟨w.heap.size + 1, 0, none⟩ (Value.slice A0 b0.length c0)).setCell ⟨w.heap.size + 1, 1, none⟩ (Value.slice A1 b1.length c1)).setCell ⟨w.heap.size + 1, 2, none⟩ (Value.slice A2 bs.length c2)) _ _ _ := (((hR11.set_ 0 _).set_ 1 _).set_ 2 _)
  have hL12 : Blk (((w11.setCell ⟨w.heap.size + 1, 0, none⟩ (Value.slice A0 b0.length c0)).setCell ⟨w.heap.size + 1, 1, none⟩ (Value.slice A1 b1.length c1)).setCell ⟨w.heap.size + 1, 2, none⟩ (Value.slice A2 bs.length c2)) _ _ _ := (((hL11.far (fun h => by (try dsimp only at h); omega) _).far (fun h => by (try dsimp only at h); omega) _).far (fun h => by (try dsimp only at h); omega) _)
  have hE12 : Blk (((w11.setCell ⟨w.heap.size + 1, 0, none⟩ (Value.slice A0 b0.length c0)).setCell ⟨w.heap.size + 1, 1, none⟩ (Value.slice A1 b1.length c1)).setCell ⟨w.heap.size + 1, 2, none⟩ (Value.slice A2 bs.length c2)) _ _ _ := (((hE11.far (fun h => by (try dsimp only at h); omega) _).far (fun h => by (try dsimp only at h); omega) _).far (fun h => by (try dsimp only at h); omega) _)
  have hf012 : Fr (fun _ => False) w (((w11.setCell ⟨w.heap.size + 1, 0, none⟩ (Value.slice A0 b0.length c0)).setCell ⟨w.heap.size + 1, 1, none⟩ (Value.slice A1 b1.length c1)).setCell ⟨w.heap.size + 1, 2, none⟩ (Value.slice A2 bs.length c2)) := (((hf011.setCell (p := ⟨w.heap.size + 1, 0, none⟩) (fun h => absurd h (by dsimp only; omega)) _).setCell (p := ⟨w.heap.size + 1, 1, none⟩) (fun h => absurd h (by dsimp only; omega)) _).setCell (p := ⟨w.heap.size + 1, 2, none⟩) (fun h => absurd h (by dsimp only; omega)) _)
  have hv012 : Own8 (((w11.setCell ⟨w.heap.size + 1, 0, none⟩ (Value.slice A0 b0.length c0)).setCell ⟨w.heap.size + 1, 1, none⟩ (Value.slice A1 b1.length c1)).setCell ⟨w.heap.size + 1, 2, none⟩ (Value.slice A2 bs.length c2)) _ _ _ := hv011.fr ((((Fr.refl (fun k => k = (w.heap.size + 1)) w11).setCell (p := ⟨w.heap.size + 1, 0, none⟩) (fun _ => rfl) _).setCell (p := ⟨w.heap.size + 1, 1, none⟩) (fun _ => rfl) _).setCell (p := ⟨w.heap.size + 1, 2, none⟩) (fun _ => rfl) _) (fun k hk h => hv011.ne_blk hR11 (by decide) (by rw [← h]; exact hk))
  have hv112 : Own8 (((w11.setCell ⟨w.heap.size + 1, 0, none⟩ (Value.slice A0 b0.length c0)).setCell ⟨w.heap.size + 1, 1, none⟩ (Value.slice A1 b1.length c1)).setCell ⟨w.heap.size + 1, 2, none⟩ (Value.slice A2 bs.length c2)) _ _ _ := hv111.fr ((((Fr.refl (fun k => k = (w.heap.size + 1)) w11).setCell (p := ⟨w.heap.size + 1, 0, none⟩) (fun _ => rfl) _).setCell (p := ⟨w.heap.size + 1, 1, none⟩) (fun _ => rfl) _).setCell (p := ⟨w.heap.size + 1, 2, none⟩) (fun _ => rfl) _) (fun k hk h => hv111.ne_blk hR11 (by decide) (by rw [← h]; exact hk))
  have hv212 : Own8 (((w11.setCell ⟨w.heap.size + 1, 0, none⟩ (Value.slice A0 b0.length c0)).setCell ⟨w.heap.size + 1, 1, none⟩ (Value.slice A1 b1.length c1)).setCell ⟨w.heap.size + 1, 2, none⟩ (Value.slice A2 bs.length c2)) _ _ _ := hv211.fr ((((Fr.refl (fun k => k = (w.heap.size + 1)) w11).setCell (p := ⟨w.heap.size + 1, 0, none⟩) (fun _ => rfl) _).setCell (p := ⟨w.heap.size + 1, 1, none⟩) (fun _ => rfl) _).setCell (p := ⟨w.heap.size + 1, 2, none⟩) (fun _ => rfl) _) (fun k hk h => hv211.ne_blk hR11 (by decide) (by rw [← h]; exact hk))
  generalize (((w11.setCell ⟨w.heap.size + 1, 0, none⟩ (Value.slice A0 b0.length c0)).setCell ⟨w.heap.size + 1, 1, none⟩ (Value.slice A1 b1.length c1)).setCell ⟨w.heap.size + 1, 2, none⟩ (Value.slice A2 bs.length c2)) = w12 at *
  have y0 := hR12.cell 0
  have y1 := hR12.cell 1
  have y2 := hR12.cell 2
  simp at y0 y1 y2
  try go_wp2_with fail
  refine bodyPost_ret (v := .tuple #[.agg #[(Value.slice A0 b0.length c0), (Value.slice A1 b1.length c1), (Value.slice A2 bs.length c2)], .bool true]) (by simp [results, Tryz.results123, go_sem, y0, y1, y2]) rfl ?_
  exact ⟨_, _, _, rfl, hv012.base_ (by omega), hv112.base_ (Nat.le_trans hf02.size (Nat.le_refl _)), hv212.base_ hf04.size, hf012⟩
end Go.Proofs.YtmkdhhhoodeemaaGreat
