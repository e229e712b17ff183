/- RelayOrdersSaid: for every input the law returns true, and each argument reads behind the call as it read before. No condition. -/
import Derived.Test.YtmkdhhhoodeemaaGreatRoLProofGa
import Derived.Test.YtmkdhhhoodeemaaGreatRoLProofGb
import Derived.Test.YtmkdhhhoodeemaaGreatRoLProofGc
import Derived.Test.YtmkdhhhoodeemaaGreatRoLProofGd
import Derived.Test.YtmkdhhhoodeemaaGreatRoLProofGe
import Derived.Test.YtmkdhhhoodeemaaGreatRoLProofGf
import Derived.Test.YtmkdhhhoodeemaaGreatRoLProofJa
import Derived.Test.YtmkdhhhoodeemaaGreatRoLProofJb
set_option linter.unusedVariables false
set_option linter.unusedSimpArgs false
set_option maxRecDepth 100000
set_option maxHeartbeats 16000000
namespace Go.Proofs.YtmkdhhhoodeemaaGreat
open Go Go.RowKit
attribute [local go_sem ↓] run_neqSay run_eqlSay
theorem say_texts_prepare {w : World} {A B : Option Addr} {nr nw cr cw : Nat} {c n : Int} {s : SayD} {bC : Nat} {C : Option Addr} {cx : Nat} {xs : List Int} {G D : Int} (hC : IntRow w bC C xs) (hbC : bC ≤ w.heap.size) (hxl : xs.length ≤ 1024) (hgetok : getOk (num8 G ++ num8 D ++ numsB xs)) {bs : List Int} (hbs : num8 G ++ num8 D ++ numsB xs = bs) {nm sz : Bool} {b0 b1 : List Int} {r0 r1 : Value}
  (hsz : zeroSay s = !sz)
  (h0 : ∀ w', Fr (fun _ => False) w w' → Calls Tryz.prog 148 #[.bool nm, .agg #[.int .i64 c, .int .i64 n, .slice A nr cr, .slice B nw cw], .func (.func 149) #[] #[]] w' (PutP w' b0 r0))
  (h1 : ∀ w', Fr (fun _ => False) w w' → Calls Tryz.prog 150 #[.bool sz, .agg #[.int .i64 s.kind, .int .i64 s.txn, .bool s.yes, .string s.from_, .string s.to_, .int .i64 s.epoch, .int .i64 s.shard, .int .i64 s.target, .int .i64 s.root], .func (.func 77) #[] #[]] w' (PutP w' b1 r1))
  (hr0 : r0 = .nilIface) (hr1 : r1 = .nilIface) (hnm : nm = true) (hno : ∀ w', Fr (fun _ => False) w w' → Calls Tryz.prog 155 #[.agg #[.int .i64 c, .int .i64 n, .slice A nr cr, .slice B nw cw]] w' (OkB w' false)) :
  Calls Tryz.prog 123 #[.agg #[.int .i64 1, .int .i64 c, .int .i64 n, .slice A nr cr, .slice B nw cw, .int .i64 s.kind, .int .i64 s.txn, .bool s.yes, .string s.from_, .string s.to_, .int .i64 s.epoch, .int .i64 s.shard, .int .i64 s.target, .int .i64 s.root, .int .i64 G, .int .i64 D, .slice C xs.length cx, .int .i64 0, .int .i64 0, .slice none 0 0, .slice none 0 0]] w (fun e w' => ∃ v0 v1 v2, e = .returned (.tuple #[.agg #[v0, v1, v2], .bool true]) ∧ Own8 w' w.heap.size v0 b0 ∧ Own8 w' w.heap.size v1 b1 ∧ Own8 w' w.heap.size v2 bs ∧ Fr (fun _ => False) w w') := by
 have H0 := Lib.hid h0
 have H1 := Lib.hid h1
 have HC := Lib.hid hC
 have HG := hgetok
 rw [hbs] at HG
 have HG := Lib.hid HG
 have HBS := Lib.hid hbs
 have H8 : Hid (Bytes8 bs) := by show Bytes8 bs; rw [← hbs]; exact cert_bytes G D xs
 have HBL : Hid (bs.length ≤ 9000) := by show _ ≤ _; rw [← hbs]; exact cert_len hxl
 have HXL := Lib.hid hxl
 have HBC := Lib.hid hbC
 clear h0 h1 hC hgetok hxl hbC hbs
 have hf0 : Fr (fun _ => False) w ((((w.alloc (Obj.cells #[.int .i64 1, .int .i64 c, .int .i64 n, .slice A nr cr, .slice B nw cw, .int .i64 s.kind, .int .i64 s.txn, .bool s.yes, .string s.from_, .string s.to_, .int .i64 s.epoch, .int .i64 s.shard, .int .i64 s.target, .int .i64 s.root, .int .i64 G, .int .i64 D, .slice C xs.length cx, .int .i64 0, .int .i64 0, .slice none 0 0, .slice none 0 0] 62)).alloc (Obj.cells #[.slice none 0 0, .slice none 0 0, .slice none 0 0] 214)).alloc (Obj.cells #[.slice none 0 0, .slice none 0 0, .slice none 0 0] 214)).alloc (Obj.cells #[.nilIface, .nilIface, .nilIface, .nilIface] 233)) := ((((Fr.refl _ _).alloc _).alloc _).alloc _).alloc _
 have hO0 : Blk ((((w.alloc (Obj.cells #[.int .i64 1, .int .i64 c, .int .i64 n, .slice A nr cr, .slice B nw cw, .int .i64 s.kind, .int .i64 s.txn, .bool s.yes, .string s.from_, .string s.to_, .int .i64 s.epoch, .int .i64 s.shard, .int .i64 s.target, .int .i64 s.root, .int .i64 G, .int .i64 D, .slice C xs.length cx, .int .i64 0, .int .i64 0, .slice none 0 0, .slice none 0 0] 62)).alloc (Obj.cells #[.slice none 0 0, .slice none 0 0, .slice none 0 0] 214)).alloc (Obj.cells #[.slice none 0 0, .slice none 0 0, .slice none 0 0] 214)).alloc (Obj.cells #[.nilIface, .nilIface, .nilIface, .nilIface] 233)) w.heap.size 62 #[.int .i64 1, .int .i64 c, .int .i64 n, .slice A nr cr, .slice B nw cw, .int .i64 s.kind, .int .i64 s.txn, .bool s.yes, .string s.from_, .string s.to_, .int .i64 s.epoch, .int .i64 s.shard, .int .i64 s.target, .int .i64 s.root, .int .i64 G, .int .i64 D, .slice C xs.length cx, .int .i64 0, .int .i64 0, .slice none 0 0, .slice none 0 0] := (((Blk.new w _ _).alloc _).alloc _).alloc _
 have hR0 : Blk ((((w.alloc (Obj.cells #[.int .i64 1, .int .i64 c, .int .i64 n, .slice A nr cr, .slice B nw cw, .int .i64 s.kind, .int .i64 s.txn, .bool s.yes, .string s.from_, .string s.to_, .int .i64 s.epoch, .int .i64 s.shard, .int .i64 s.target, .int .i64 s.root, .int .i64 G, .int .i64 D, .slice C xs.length cx, .int .i64 0, .int .i64 0, .slice none 0 0, .slice none 0 0] 62)).alloc (Obj.cells #[.slice none 0 0, .slice none 0 0, .slice none 0 0] 214)).alloc (Obj.cells #[.slice none 0 0, .slice none 0 0, .slice none 0 0] 214)).alloc (Obj.cells #[.nilIface, .nilIface, .nilIface, .nilIface] 233)) (w.heap.size + 1) 214 #[.slice none 0 0, .slice none 0 0, .slice none 0 0] := ((Blk.new_ _ _ _ (by simp)).alloc _).alloc _
 have hL0 : Blk ((((w.alloc (Obj.cells #[.int .i64 1, .int .i64 c, .int .i64 n, .slice A nr cr, .slice B nw cw, .int .i64 s.kind, .int .i64 s.txn, .bool s.yes, .string s.from_, .string s.to_, .int .i64 s.epoch, .int .i64 s.shard, .int .i64 s.target, .int .i64 s.root, .int .i64 G, .int .i64 D, .slice C xs.length cx, .int .i64 0, .int .i64 0, .slice none 0 0, .slice none 0 0] 62)).alloc (Obj.cells #[.slice none 0 0, .slice none 0 0, .slice none 0 0] 214)).alloc (Obj.cells #[.slice none 0 0, .slice none 0 0, .slice none 0 0] 214)).alloc (Obj.cells #[.nilIface, .nilIface, .nilIface, .nilIface] 233)) (w.heap.size + 1 + 1) 214 #[.slice none 0 0, .slice none 0 0, .slice none 0 0] := (Blk.new_ _ _ _ (by simp)).alloc _
 have hE0 : Blk ((((w.alloc (Obj.cells #[.int .i64 1, .int .i64 c, .int .i64 n, .slice A nr cr, .slice B nw cw, .int .i64 s.kind, .int .i64 s.txn, .bool s.yes, .string s.from_, .string s.to_, .int .i64 s.epoch, .int .i64 s.shard, .int .i64 s.target, .int .i64 s.root, .int .i64 G, .int .i64 D, .slice C xs.length cx, .int .i64 0, .int .i64 0, .slice none 0 0, .slice none 0 0] 62)).alloc (Obj.cells #[.slice none 0 0, .slice none 0 0, .slice none 0 0] 214)).alloc (Obj.cells #[.slice none 0 0, .slice none 0 0, .slice none 0 0] 214)).alloc (Obj.cells #[.nilIface, .nilIface, .nilIface, .nilIface] 233)) (w.heap.size + 1 + 1 + 1) 233 #[.nilIface, .nilIface, .nilIface, .nilIface] := Blk.new_ _ _ _ (by simp)
 have hz0 : w.heap.size + 4 ≤ ((((w.alloc (Obj.cells #[.int .i64 1, .int .i64 c, .int .i64 n, .slice A nr cr, .slice B nw cw, .int .i64 s.kind, .int .i64 s.txn, .bool s.yes, .string s.from_, .string s.to_, .int .i64 s.epoch, .int .i64 s.shard, .int .i64 s.target, .int .i64 s.root, .int .i64 G, .int .i64 D, .slice C xs.length cx, .int .i64 0, .int .i64 0, .slice none 0 0, .slice none 0 0] 62)).alloc (Obj.cells #[.slice none 0 0, .slice none 0 0, .slice none 0 0] 214)).alloc (Obj.cells #[.slice none 0 0, .slice none 0 0, .slice none 0 0] 214)).alloc (Obj.cells #[.nilIface, .nilIface, .nilIface, .nilIface] 233)).heap.size := by simp
 subst hr0 hr1 hnm
 have HN := Lib.hid hno
 clear hno
 go_enter Tryz.func123, Tryz.ntmps123
 go_upto_region 4 with fail
 generalize ((((w.alloc (Obj.cells #[.int .i64 1, .int .i64 c, .int .i64 n, .slice A nr cr, .slice B nw cw, .int .i64 s.kind, .int .i64 s.txn, .bool s.yes, .string s.from_, .string s.to_, .int .i64 s.epoch, .int .i64 s.shard, .int .i64 s.target, .int .i64 s.root, .int .i64 G, .int .i64 D, .slice C xs.length cx, .int .i64 0, .int .i64 0, .slice none 0 0, .slice none 0 0] 62)).alloc (Obj.cells #[.slice none 0 0, .slice none 0 0, .slice none 0 0] 214)).alloc (Obj.cells #[.slice none 0 0, .slice none 0 0, .slice none 0 0] 214)).alloc (Obj.cells #[.nilIface, .nilIface, .nilIface, .nilIface] 233)) = w0 at *
 have k1 := hO0.cell 1
 have k2 := hO0.cell 2
 have k3 := hO0.cell 3
 have k4 := hO0.cell 4
 go_upto_region 5 with (first | (go_at_call 148; refine (H0.out _ hf0).mono ?_; rintro e w1 ⟨v0, rfl, hv01, hf1⟩; obtain ⟨A0, c0, rfl, _, _⟩ := hv01.form; have hf01 := hf0.then_ hf1; have hL1 := hL0.fr hf1 id; have hE1 := hE0.fr hf1 id; have hO1 := hO0.fr hf1 id; have hR1 := hR0.fr hf1 id; have l0 := hL1.cell 0; have lf := hL1.frozen 0; have e0 := hE1.cell 0; have ef := hE1.frozen 0))
 have hO2 : Blk ((w1.setCell ⟨w.heap.size + 1 + 1, 0, none⟩ (Value.slice A0 b0.length c0)).setCell ⟨w.heap.size + 1 + 1 + 1, 0, none⟩ .nilIface) _ _ _ := ((hO1.far (fun h => by (try dsimp only at h); omega) _).far (fun h => by (try dsimp only at h); omega) _)
 have hR2 : Blk ((w1.setCell ⟨w.heap.size + 1 + 1, 0, none⟩ (Value.slice A0 b0.length c0)).setCell ⟨w.heap.size + 1 + 1 + 1, 0, none⟩ .nilIface) _ _ _ := ((hR1.far (fun h => by (try dsimp only at h); omega) _).far (fun h => by (try dsimp only at h); omega) _)
 have hL2 : Blk ((w1.setCell ⟨w.heap.size + 1 + 1, 0, none⟩ (Value.slice A0 b0.length c0)).setCell ⟨w.heap.size + 1 + 1 + 1, 0, none⟩ .nilIface) _ _ _ := ((hL1.set_ 0 _).far (fun h => by (try dsimp only at h); omega) _)
 have hE2 : Blk ((w1.setCell ⟨w.heap.size + 1 + 1, 0, none⟩ (Value.slice A0 b0.length c0)).setCell ⟨w.heap.size + 1 + 1 + 1, 0, none⟩ .nilIface) _ _ _ := ((hE1.far (fun h => by (try dsimp only at h); omega) _).set_ 0 _)
 have hf02 : Fr (fun _ => False) w ((w1.setCell ⟨w.heap.size + 1 + 1, 0, none⟩ (Value.slice A0 b0.length c0)).setCell ⟨w.heap.size + 1 + 1 + 1, 0, none⟩ .nilIface) := ((hf01.setCell (p := ⟨w.heap.size + 1 + 1, 0, none⟩) (fun h => absurd h (by dsimp only; omega)) _).setCell (p := ⟨w.heap.size + 1 + 1 + 1, 0, none⟩) (fun h => absurd h (by dsimp only; omega)) _)
 have hv02 : Own8 ((w1.setCell ⟨w.heap.size + 1 + 1, 0, none⟩ (Value.slice A0 b0.length c0)).setCell ⟨w.heap.size + 1 + 1 + 1, 0, none⟩ .nilIface) _ _ _ := hv01.fr (((Fr.refl (fun k => k = (w.heap.size + 1 + 1 + 1) ∨ k = (w.heap.size + 1 + 1)) w1).setCell (p := ⟨w.heap.size + 1 + 1, 0, none⟩) (fun _ => Or.inr rfl) _).setCell (p := ⟨w.heap.size + 1 + 1 + 1, 0, none⟩) (fun _ => Or.inl rfl) _) (fun k hk h => h.elim (fun h => hv01.ne_blk hE1 (by decide) (by rw [← h]; exact hk)) (fun h => hv01.ne_blk hL1 (by decide) (by rw [← h]; exact hk)))
 generalize ((w1.setCell ⟨w.heap.size + 1 + 1, 0, none⟩ (Value.slice A0 b0.length c0)).setCell ⟨w.heap.size + 1 + 1 + 1, 0, none⟩ .nilIface) = w2 at *
 have k5 := hO2.cell 5
 have k6 := hO2.cell 6
 have k7 := hO2.cell 7
 have k8 := hO2.cell 8
 have k9 := hO2.cell 9
 have k10 := hO2.cell 10
 have k11 := hO2.cell 11
 have k12 := hO2.cell 12
 have k13 := hO2.cell 13
 have hf02d : Fr (fun _ => False) w w2.drew := hf02.drew
 refine wp_region_noPanic ?_
 refine wp_region_held_drew (S := (fun w' => w'.cell? ⟨w.heap.size, 5, none⟩ = some (.int .i64 s.kind) ∧ w'.cell? ⟨w.heap.size, 6, none⟩ = some (.int .i64 s.txn) ∧ w'.cell? ⟨w.heap.size, 7, none⟩ = some (.bool s.yes) ∧ w'.cell? ⟨w.heap.size, 8, none⟩ = some (.string s.from_) ∧ w'.cell? ⟨w.heap.size, 9, none⟩ = some (.string s.to_) ∧ w'.cell? ⟨w.heap.size, 10, none⟩ = some (.int .i64 s.epoch) ∧ w'.cell? ⟨w.heap.size, 11, none⟩ = some (.int .i64 s.shard) ∧ w'.cell? ⟨w.heap.size, 12, none⟩ = some (.int .i64 s.target) ∧ w'.cell? ⟨w.heap.size, 13, none⟩ = some (.int .i64 s.root))) (by kernel_rfl) (⟨k5, k6, k7, k8, k9, k10, k11, k12, k13⟩) (fun hHeld => ?_)
 refine tk 0 26 ?_
 refine tk 1 27 ?_
 refine tk 2 28 ?_
 refine tk 3 29 ?_
 refine tk 4 30 ?_
 refine tk 5 31 ?_
 refine rd 6 (fun K hK => ?_)
 go_simp
 go_at_call 150
 refine (H1.out _ hf02d).mono ?_
 rintro e w3 ⟨v1, rfl, hv13, hf3⟩
 obtain ⟨A1, c1, rfl, _, _⟩ := hv13.form
 have hf3 : Fr (fun _ => False) w2 w3 := ((Fr.refl (fun _ => False) w2).drew).trans hf3 (fun _ _ h => h)
 have hO3 := hO2.fr hf3 id
 have hR3 := hR2.fr hf3 id
 have hL3 := hL2.fr hf3 id
 have hE3 := hE2.fr hf3 id
 have hv03 := hv02.fr hf3 (fun _ _ => id)
 have hf03 := hf02.then_ hf3
 have lc1 := hL3.cell 1
 have ec1 := hE3.cell 1
 have lf := hL3.frozen 1
 have ef := hE3.frozen 1
 try go_wp2_with fail
 refine hK.out _ _ (⟨hO3.cell 5, hO3.cell 6, hO3.cell 7, hO3.cell 8, hO3.cell 9, hO3.cell 10, hO3.cell 11, hO3.cell 12, hO3.cell 13⟩) (fun hHeld => ?_)
 clear hK K
 refine tk 7 25 ?_
 refine tk 8 33 ?_
 refine tk 9 34 ?_
 refine tk 10 35 ?_
 refine rd 11 (fun K hK => ?_)
 go_simp
 refine hK.out _ _ (⟨(hO3.far (fun h => by (try dsimp only at h); omega) _).cell 5, (hO3.far (fun h => by (try dsimp only at h); omega) _).cell 6, (hO3.far (fun h => by (try dsimp only at h); omega) _).cell 7, (hO3.far (fun h => by (try dsimp only at h); omega) _).cell 8, (hO3.far (fun h => by (try dsimp only at h); omega) _).cell 9, (hO3.far (fun h => by (try dsimp only at h); omega) _).cell 10, (hO3.far (fun h => by (try dsimp only at h); omega) _).cell 11, (hO3.far (fun h => by (try dsimp only at h); omega) _).cell 12, (hO3.far (fun h => by (try dsimp only at h); omega) _).cell 13⟩) (fun hHeld => ?_)
 clear hK K
 refine tk 12 36 ?_
 refine rd 13 (fun K hK => ?_)
 go_simp
 refine hK.out _ _ (⟨((hO3.far (fun h => by (try dsimp only at h); omega) _).far (fun h => by (try dsimp only at h); omega) _).cell 5, ((hO3.far (fun h => by (try dsimp only at h); omega) _).far (fun h => by (try dsimp only at h); omega) _).cell 6, ((hO3.far (fun h => by (try dsimp only at h); omega) _).far (fun h => by (try dsimp only at h); omega) _).cell 7, ((hO3.far (fun h => by (try dsimp only at h); omega) _).far (fun h => by (try dsimp only at h); omega) _).cell 8, ((hO3.far (fun h => by (try dsimp only at h); omega) _).far (fun h => by (try dsimp only at h); omega) _).cell 9, ((hO3.far (fun h => by (try dsimp only at h); omega) _).far (fun h => by (try dsimp only at h); omega) _).cell 10, ((hO3.far (fun h => by (try dsimp only at h); omega) _).far (fun h => by (try dsimp only at h); omega) _).cell 11, ((hO3.far (fun h => by (try dsimp only at h); omega) _).far (fun h => by (try dsimp only at h); omega) _).cell 12, ((hO3.far (fun h => by (try dsimp only at h); omega) _).far (fun h => by (try dsimp only at h); omega) _).cell 13⟩) (fun hHeld => ?_)
 clear hK K
 refine wpAnyH_done (by kernel_rfl) ?_ _
 refine NoPanic.normal ?_
 have hO4 : Blk ((w3.setCell ⟨w.heap.size + 1 + 1, 1, none⟩ (Value.slice A1 b1.length c1)).setCell ⟨w.heap.size + 1 + 1 + 1, 1, none⟩ .nilIface) _ _ _ := ((hO3.far (fun h => by (try dsimp only at h); omega) _).far (fun h => by (try dsimp only at h); omega) _)
 have hR4 : Blk ((w3.setCell ⟨w.heap.size + 1 + 1, 1, none⟩ (Value.slice A1 b1.length c1)).setCell ⟨w.heap.size + 1 + 1 + 1, 1, none⟩ .nilIface) _ _ _ := ((hR3.far (fun h => by (try dsimp only at h); omega) _).far (fun h => by (try dsimp only at h); omega) _)
 have hL4 : Blk ((w3.setCell ⟨w.heap.size + 1 + 1, 1, none⟩ (Value.slice A1 b1.length c1)).setCell ⟨w.heap.size + 1 + 1 + 1, 1, none⟩ .nilIface) _ _ _ := ((hL3.set_ 1 _).far (fun h => by (try dsimp only at h); omega) _)
 have hE4 : Blk ((w3.setCell ⟨w.heap.size + 1 + 1, 1, none⟩ (Value.slice A1 b1.length c1)).setCell ⟨w.heap.size + 1 + 1 + 1, 1, none⟩ .nilIface) _ _ _ := ((hE3.far (fun h => by (try dsimp only at h); omega) _).set_ 1 _)
 have hf04 : Fr (fun _ => False) w ((w3.setCell ⟨w.heap.size + 1 + 1, 1, none⟩ (Value.slice A1 b1.length c1)).setCell ⟨w.heap.size + 1 + 1 + 1, 1, none⟩ .nilIface) := ((hf03.setCell (p := ⟨w.heap.size + 1 + 1, 1, none⟩) (fun h => absurd h (by dsimp only; omega)) _).setCell (p := ⟨w.heap.size + 1 + 1 + 1, 1, none⟩) (fun h => absurd h (by dsimp only; omega)) _)
 have hv04 : Own8 ((w3.setCell ⟨w.heap.size + 1 + 1, 1, none⟩ (Value.slice A1 b1.length c1)).setCell ⟨w.heap.size + 1 + 1 + 1, 1, none⟩ .nilIface) _ _ _ := hv03.fr (((Fr.refl (fun k => k = (w.heap.size + 1 + 1 + 1) ∨ k = (w.heap.size + 1 + 1)) w3).setCell (p := ⟨w.heap.size + 1 + 1, 1, none⟩) (fun _ => Or.inr rfl) _).setCell (p := ⟨w.heap.size + 1 + 1 + 1, 1, none⟩) (fun _ => Or.inl rfl) _) (fun k hk h => h.elim (fun h => hv03.ne_blk hE3 (by decide) (by rw [← h]; exact hk)) (fun h => hv03.ne_blk hL3 (by decide) (by rw [← h]; exact hk)))
 have hv14 : Own8 ((w3.setCell ⟨w.heap.size + 1 + 1, 1, none⟩ (Value.slice A1 b1.length c1)).setCell ⟨w.heap.size + 1 + 1 + 1, 1, none⟩ .nilIface) _ _ _ := hv13.fr (((Fr.refl (fun k => k = (w.heap.size + 1 + 1 + 1) ∨ k = (w.heap.size + 1 + 1)) w3).setCell (p := ⟨w.heap.size + 1 + 1, 1, none⟩) (fun _ => Or.inr rfl) _).setCell (p := ⟨w.heap.size + 1 + 1 + 1, 1, none⟩) (fun _ => Or.inl rfl) _) (fun k hk h => h.elim (fun h => hv13.ne_blk hE3 (by decide) (by rw [← h]; exact hk)) (fun h => hv13.ne_blk hL3 (by decide) (by rw [← h]; exact hk)))
 generalize ((w3.setCell ⟨w.heap.size + 1 + 1, 1, none⟩ (Value.slice A1 b1.length c1)).setCell ⟨w.heap.size + 1 + 1 + 1, 1, none⟩ .nilIface) = w4 at *
 have k14 := hO4.cell 14
 have k15 := hO4.cell 15
 have k16 := hO4.cell 16
 have HP : Hid (Calls Tryz.prog 151 #[.agg #[.int .i64 G, .int .i64 D, .slice C xs.length cx]] w4 (PutP w4 bs .nilIface)) := (cert_Put (cap := cx) (HC.out.fr hf04 (fun _ _ => id)) (Nat.le_trans HBC.out hf04.size) (by have := HXL.out; omega) G D).mono fun _ _ h => HBS.out ▸ putP_of HXL.out h
 go_upto_region 7 with (first | (go_at_call 151; refine HP.out.mono ?_; rintro e w5 ⟨v2, rfl, hv25, hf5⟩; obtain ⟨A2, c2, rfl, _, _⟩ := hv25.form; have hO5 := hO4.fr hf5 id; have hR5 := hR4.fr hf5 id; have hL5 := hL4.fr hf5 id; have hE5 := hE4.fr hf5 id; have hv05 := hv04.fr hf5 (fun _ _ => id); have hv15 := hv14.fr hf5 (fun _ _ => id); have hf05 := hf04.then_ hf5; have lc := hL5.cell 2; have lf := hL5.frozen 2; have ec := hE5.cell 2; have ef := hE5.frozen 2))
 have hO6 : Blk ((w5.setCell ⟨w.heap.size + 1 + 1, 2, none⟩ (Value.slice A2 bs.length c2)).setCell ⟨w.heap.size + 1 + 1 + 1, 2, none⟩ Value.nilIface) _ _ _ := ((hO5.far (fun h => by (try dsimp only at h); omega) _).far (fun h => by (try dsimp only at h); omega) _)
 have hR6 : Blk ((w5.setCell ⟨w.heap.size + 1 + 1, 2, none⟩ (Value.slice A2 bs.length c2)).setCell ⟨w.heap.size + 1 + 1 + 1, 2, none⟩ Value.nilIface) _ _ _ := ((hR5.far (fun h => by (try dsimp only at h); omega) _).far (fun h => by (try dsimp only at h); omega) _)
 have hL6 : Blk ((w5.setCell ⟨w.heap.size + 1 + 1, 2, none⟩ (Value.slice A2 bs.length c2)).setCell ⟨w.heap.size + 1 + 1 + 1, 2, none⟩ Value.nilIface) _ _ _ := ((hL5.set_ 2 _).far (fun h => by (try dsimp only at h); omega) _)
 have hE6 : Blk ((w5.setCell ⟨w.heap.size + 1 + 1, 2, none⟩ (Value.slice A2 bs.length c2)).setCell ⟨w.heap.size + 1 + 1 + 1, 2, none⟩ Value.nilIface) _ _ _ := ((hE5.far (fun h => by (try dsimp only at h); omega) _).set_ 2 _)
 have hf06 : Fr (fun _ => False) w ((w5.setCell ⟨w.heap.size + 1 + 1, 2, none⟩ (Value.slice A2 bs.length c2)).setCell ⟨w.heap.size + 1 + 1 + 1, 2, none⟩ Value.nilIface) := ((hf05.setCell (p := ⟨w.heap.size + 1 + 1, 2, none⟩) (fun h => absurd h (by dsimp only; omega)) _).setCell (p := ⟨w.heap.size + 1 + 1 + 1, 2, none⟩) (fun h => absurd h (by dsimp only; omega)) _)
 have hv06 : Own8 ((w5.setCell ⟨w.heap.size + 1 + 1, 2, none⟩ (Value.slice A2 bs.length c2)).setCell ⟨w.heap.size + 1 + 1 + 1, 2, none⟩ Value.nilIface) _ _ _ := hv05.fr (((Fr.refl (fun k => k = (w.heap.size + 1 + 1 + 1) ∨ k = (w.heap.size + 1 + 1)) w5).setCell (p := ⟨w.heap.size + 1 + 1, 2, none⟩) (fun _ => Or.inr rfl) _).setCell (p := ⟨w.heap.size + 1 + 1 + 1, 2, none⟩) (fun _ => Or.inl rfl) _) (fun k hk h => h.elim (fun h => hv05.ne_blk hE5 (by decide) (by rw [← h]; exact hk)) (fun h => hv05.ne_blk hL5 (by decide) (by rw [← h]; exact hk)))
 have hv16 : Own8 ((w5.setCell ⟨w.heap.size + 1 + 1, 2, none⟩ (Value.slice A2 bs.length c2)).setCell ⟨w.heap.size + 1 + 1 + 1, 2, none⟩ Value.nilIface) _ _ _ := hv15.fr (((Fr.refl (fun k => k = (w.heap.size + 1 + 1 + 1) ∨ k = (w.heap.size + 1 + 1)) w5).setCell (p := ⟨w.heap.size + 1 + 1, 2, none⟩) (fun _ => Or.inr rfl) _).setCell (p := ⟨w.heap.size + 1 + 1 + 1, 2, none⟩) (fun _ => Or.inl rfl) _) (fun k hk h => h.elim (fun h => hv15.ne_blk hE5 (by decide) (by rw [← h]; exact hk)) (fun h => hv15.ne_blk hL5 (by decide) (by rw [← h]; exact hk)))
 have hv26 : Own8 ((w5.setCell ⟨w.heap.size + 1 + 1, 2, none⟩ (Value.slice A2 bs.length c2)).setCell ⟨w.heap.size + 1 + 1 + 1, 2, none⟩ Value.nilIface) _ _ _ := hv25.fr (((Fr.refl (fun k => k = (w.heap.size + 1 + 1 + 1) ∨ k = (w.heap.size + 1 + 1)) w5).setCell (p := ⟨w.heap.size + 1 + 1, 2, none⟩) (fun _ => Or.inr rfl) _).setCell (p := ⟨w.heap.size + 1 + 1 + 1, 2, none⟩) (fun _ => Or.inl rfl) _) (fun k hk h => h.elim (fun h => hv25.ne_blk hE5 (by decide) (by rw [← h]; exact hk)) (fun h => hv25.ne_blk hL5 (by decide) (by rw [← h]; exact hk)))
 generalize ((w5.setCell ⟨w.heap.size + 1 + 1, 2, none⟩ (Value.slice A2 bs.length c2)).setCell ⟨w.heap.size + 1 + 1 + 1, 2, none⟩ Value.nilIface) = w6 at *
 have ec := hE6.cell 2
 have lc := hL6.cell 2
 obtain ⟨_, _, hve, _, hrow⟩ := hv26.form
 cases hve
 have HGET := Lib.hid (cert_Get (cap := c2) hrow (by have := HBL.out; omega) H8.out)
 clear hrow
 go_upto_region 9 with (first | (go_at_call 152; refine HGET.out.mono ?_; rintro e w7 hg7; obtain ⟨x3, rfl, hf7⟩ := get_fine HG.out hg7; have hO7 := hO6.fr hf7 id; have hR7 := hR6.fr hf7 id; have hL7 := hL6.fr hf7 id; have hE7 := hE6.fr hf7 id; have hv07 := hv06.fr hf7 (fun _ _ => id); have hv17 := hv16.fr hf7 (fun _ _ => id); have hv27 := hv26.fr hf7 (fun _ _ => id); have hf07 := hf06.then_ hf7; have ec := hE7.cell 3; have ef := hE7.frozen 3))
 have hO8 : Blk (w7.setCell ⟨w.heap.size + 1 + 1 + 1, 3, none⟩ Value.nilIface) _ _ _ := (hO7.far (fun h => by (try dsimp only at h); omega) _)
 have hR8 : Blk (w7.setCell ⟨w.heap.size + 1 + 1 + 1, 3, none⟩ Value.nilIface) _ _ _ := (hR7.far (fun h => by (try dsimp only at h); omega) _)
 have hL8 : Blk (w7.setCell ⟨w.heap.size + 1 + 1 + 1, 3, none⟩ Value.nilIface) _ _ _ := (hL7.far (fun h => by (try dsimp only at h); omega) _)
 have hE8 : Blk (w7.setCell ⟨w.heap.size + 1 + 1 + 1, 3, none⟩ Value.nilIface) _ _ _ := (hE7.set_ 3 _)
 have hf08 : Fr (fun _ => False) w (w7.setCell ⟨w.heap.size + 1 + 1 + 1, 3, none⟩ Value.nilIface) := (hf07.setCell (p := ⟨w.heap.size + 1 + 1 + 1, 3, none⟩) (fun h => absurd h (by dsimp only; omega)) _)
 have hv08 : Own8 (w7.setCell ⟨w.heap.size + 1 + 1 + 1, 3, none⟩ Value.nilIface) _ _ _ := hv07.fr ((Fr.refl (fun k => k = (w.heap.size + 1 + 1 + 1)) w7).setCell (p := ⟨w.heap.size + 1 + 1 + 1, 3, none⟩) (fun _ => rfl) _) (fun k hk h => hv07.ne_blk hE7 (by decide) (by rw [← h]; exact hk))
 have hv18 : Own8 (w7.setCell ⟨w.heap.size + 1 + 1 + 1, 3, none⟩ Value.nilIface) _ _ _ := hv17.fr ((Fr.refl (fun k => k = (w.heap.size + 1 + 1 + 1)) w7).setCell (p := ⟨w.heap.size + 1 + 1 + 1, 3, none⟩) (fun _ => rfl) _) (fun k hk h => hv17.ne_blk hE7 (by decide) (by rw [← h]; exact hk))
 have hv28 : Own8 (w7.setCell ⟨w.heap.size + 1 + 1 + 1, 3, none⟩ Value.nilIface) _ _ _ := hv27.fr ((Fr.refl (fun k => k = (w.heap.size + 1 + 1 + 1)) w7).setCell (p := ⟨w.heap.size + 1 + 1 + 1, 3, none⟩) (fun _ => rfl) _) (fun k hk h => hv27.ne_blk hE7 (by decide) (by rw [← h]; exact hk))
 generalize (w7.setCell ⟨w.heap.size + 1 + 1 + 1, 3, none⟩ Value.nilIface) = w8 at *
 have HER : Hid (ErrRow w8 (w.heap.size + 1 + 1 + 1) [.nilIface, .nilIface, .nilIface, .nilIface]) := err_row hE8 (.inl rfl) (.inl rfl) (.inl rfl) (.inl rfl)
 go_upto_region 10 with (first | (go_at_call 153; refine (containsErr (cap := 4) (z := false) rfl HER.out (by simp)).mono ?_; rintro e w9 ⟨rfl, rfl⟩))
 have hf08d : Fr (fun _ => False) w w8.drew := hf08.drew
 refine wp_region_noPanic ?_
 refine wp_region_held_drew (S := (fun w' => w'.cell? ⟨w.heap.size, 0, none⟩ = some (.int .i64 1) ∧ w'.cell? ⟨w.heap.size, 1, none⟩ = some (.int .i64 c) ∧ w'.cell? ⟨w.heap.size, 2, none⟩ = some (.int .i64 n) ∧ w'.cell? ⟨w.heap.size, 3, none⟩ = some (.slice A nr cr) ∧ w'.cell? ⟨w.heap.size, 4, none⟩ = some (.slice B nw cw) ∧ w'.cell? ⟨w.heap.size, 17, none⟩ = some (.int .i64 0) ∧ w'.cell? ⟨w.heap.size, 18, none⟩ = some (.int .i64 0) ∧ w'.cell? ⟨w.heap.size, 19, none⟩ = some (.slice none 0 0) ∧ w'.cell? ⟨w.heap.size, 20, none⟩ = some (.slice none 0 0) ∧ w'.cell? ⟨w.heap.size + 1 + 1, 0, none⟩ = some ((Value.slice A0 b0.length c0)) ∧ w'.cell? ⟨w.heap.size + 1 + 1, 1, none⟩ = some ((Value.slice A1 b1.length c1)) ∧ w'.cell? ⟨w.heap.size + 1 + 1, 2, none⟩ = some ((Value.slice A2 bs.length c2)))) (by kernel_rfl) (⟨hO8.cell 0, hO8.cell 1, hO8.cell 2, hO8.cell 3, hO8.cell 4, hO8.cell 17, hO8.cell 18, hO8.cell 19, hO8.cell 20, hL8.cell 0, hL8.cell 1, hL8.cell 2⟩) (fun hHeld => ?_)
 refine tk 0 57 ?_
 refine tk 1 58 ?_
 refine tk 2 59 ?_
 refine tk 3 60 ?_
 refine tk 4 61 ?_
 refine tk 5 62 ?_
 refine tk 6 63 ?_
 refine tk 7 64 ?_
 refine tk 8 65 ?_
 refine tk 9 66 ?_
 refine tk 10 67 ?_
 refine tk 11 68 ?_
 refine tk 12 69 ?_
 refine tk 13 70 ?_
 refine tk 14 71 ?_
 refine tk 15 72 ?_
 refine tk 16 73 ?_
 refine rd 17 (fun K hK => ?_)
 go_simp
 go_at_call 155
 refine (HN.out _ hf08d).mono ?_
 rintro e w10 ⟨rfl, hf10⟩
 have hf10 : Fr (fun _ => False) w8 w10 := ((Fr.refl (fun _ => False) w8).drew).trans hf10 (fun _ _ h => h)
 have hO10 := hO8.fr hf10 id
 have hR10 := hR8.fr hf10 id
 have hL10 := hL8.fr hf10 id
 have hE10 := hE8.fr hf10 id
 have hv010 := hv08.fr hf10 (fun _ _ => id)
 have hv110 := hv18.fr hf10 (fun _ _ => id)
 have hv210 := hv28.fr hf10 (fun _ _ => id)
 have hf010 := hf08.then_ hf10
 try go_wp2_with fail
 refine hK.out _ _ (⟨hO10.cell 0, hO10.cell 1, hO10.cell 2, hO10.cell 3, hO10.cell 4, hO10.cell 17, hO10.cell 18, hO10.cell 19, hO10.cell 20, hL10.cell 0, hL10.cell 1, hL10.cell 2⟩) (fun hHeld => ?_)
 clear hK K
 refine tk 18 75 ?_
 refine tk 19 76 ?_
 refine tk 20 77 ?_
 refine tk 21 78 ?_
 refine tk 22 79 ?_
 refine rd 23 (fun K hK => ?_)
 go_simp
 go_at_call 156
 refine (fits_zero _).mono ?_
 rintro e w11 ⟨rfl, hf11⟩
 have hO11 := hO10.fr hf11 id
 have hR11 := hR10.fr hf11 id
 have hL11 := hL10.fr hf11 id
 have hE11 := hE10.fr hf11 id
 have hv011 := hv010.fr hf11 (fun _ _ => id)
 have hv111 := hv110.fr hf11 (fun _ _ => id)
 have hv211 := hv210.fr hf11 (fun _ _ => id)
 have hf011 := hf010.then_ hf11
 have rc0 := hR11.cell 0
 have rc1 := hR11.cell 1
 have rc2 := hR11.cell 2
 have rf0 := hR11.frozen 0
 have rf1 := hR11.frozen 1
 have rf2 := hR11.frozen 2
 try go_wp2_with fail
 refine hK.out _ _ (⟨hO11.cell 0, hO11.cell 1, hO11.cell 2, hO11.cell 3, hO11.cell 4, hO11.cell 17, hO11.cell 18, hO11.cell 19, hO11.cell 20, hL11.cell 0, hL11.cell 1, hL11.cell 2⟩) (fun hHeld => ?_)
 clear hK K
 refine tk 24 81 ?_
 refine rd 25 (fun K hK => ?_)
 go_simp
 refine hK.out _ _ (⟨(((hO11.far (fun h => by (try dsimp only at h); omega) _).far (fun h => by (try dsimp only at h); omega) _).far (fun h => by (try dsimp only at h); omega) _).cell 0, (((hO11.far (fun h => by (try dsimp only at h); omega) _).far (fun h => by (try dsimp only at h); omega) _).far (fun h => by (try dsimp only at h); omega) _).cell 1, (((hO11.far (fun h => by (try dsimp only at h); omega) _).far (fun h => by (try dsimp only at h); omega) _).far (fun h => by (try dsimp only at h); omega) _).cell 2, (((hO11.far (fun h => by (try dsimp only at h); omega) _).far (fun h => by (try dsimp only at h); omega) _).far (fun h => by (try dsimp only at h); omega) _).cell 3, (((hO11.far (fun h => by (try dsimp only at h); omega) _).far (fun h => by (try dsimp only at h); omega) _).far (fun h => by (try dsimp only at h); omega) _).cell 4, (((hO11.far (fun h => by (try dsimp only at h); omega) _).far (fun h => by (try dsimp only at h); omega) _).far (fun h => by (try dsimp only at h); omega) _).cell 17, (((hO11.far (fun h => by (try dsimp only at h); omega) _).far (fun h => by (try dsimp only at h); omega) _).far (fun h => by (try dsimp only at h); omega) _).cell 18, (((hO11.far (fun h => by (try dsimp only at h); omega) _).far (fun h => by (try dsimp only at h); omega) _).far (fun h => by (try dsimp only at h); omega) _).cell 19, (((hO11.far (fun h => by (try dsimp only at h); omega) _).far (fun h => by (try dsimp only at h); omega) _).far (fun h => by (try dsimp only at h); omega) _).cell 20, (((hL11.far (fun h => by (try dsimp only at h); omega) _).far (fun h => by (try dsimp only at h); omega) _).far (fun h => by (try dsimp only at h); omega) _).cell 0, (((hL11.far (fun h => by (try dsimp only at h); omega) _).far (fun h => by (try dsimp only at h); omega) _).far (fun h => by (try dsimp only at h); omega) _).cell 1, (((hL11.far (fun h => by (try dsimp only at h); omega) _).far (fun h => by (try dsimp only at h); omega) _).far (fun h => by (try dsimp only at h); omega) _).cell 2⟩) (fun hHeld => ?_)
 clear hK K
 refine tk 26 3 ?_
 refine wpAnyH_done (by kernel_rfl) ?_ _
 refine NoPanic.normal ?_
 have hO12 : Blk (((w11.setCell ⟨w.heap.size + 1, 0, none⟩ (Value.slice A0 b0.length c0)).setCell ⟨w.heap.size + 1, 1, none⟩ (Value.slice A1 b1.length c1)).setCell ⟨w.heap.size + 1, 2, none⟩ (Value.slice A2 bs.length c2)) _ _ _ := (((hO11.far (fun h => by (try dsimp only at h); omega) _).far (fun h => by (try dsimp only at h); omega) _).far (fun h => by (try dsimp only at h); omega) _)
 have hR12 : Blk (((w11.setCell ⟨w.heap.size + 1, 0, none⟩ (Value.slice A0 b0.length c0)).setCell ⟨w.heap.size + 1, 1, none⟩ (Value.slice A1 b1.length c1)).setCell ⟨w.heap.size + 1, 2, none⟩ (Value.slice A2 bs.length c2)) _ _ _ := (((hR11.set_ 0 _).set_ 1 _).set_ 2 _)
 have hL12 : Blk (((w11.setCell ⟨w.heap.size + 1, 0, none⟩ (Value.slice A0 b0.length c0)).setCell ⟨w.heap.size + 1, 1, none⟩ (Value.slice A1 b1.length c1)).setCell ⟨w.heap.size + 1, 2, none⟩ (Value.slice A2 bs.length c2)) _ _ _ := (((hL11.far (fun h => by (try dsimp only at h); omega) _).far (fun h => by (try dsimp only at h); omega) _).far (fun h => by (try dsimp only at h); omega) _)
 have hE12 : Blk (((w11.setCell ⟨w.heap.size + 1, 0, none⟩ (Value.slice A0 b0.length c0)).setCell ⟨w.heap.size + 1, 1, none⟩ (Value.slice A1 b1.length c1)).setCell ⟨w.heap.size + 1, 2, none⟩ (Value.slice A2 bs.length c2)) _ _ _ := (((hE11.far (fun h => by (try dsimp only at h); omega) _).far (fun h => by (try dsimp only at h); omega) _).far (fun h => by (try dsimp only at h); omega) _)
 have hf012 : Fr (fun _ => False) w (((w11.setCell ⟨w.heap.size + 1, 0, none⟩ (Value.slice A0 b0.length c0)).setCell ⟨w.heap.size + 1, 1, none⟩ (Value.slice A1 b1.length c1)).setCell ⟨w.heap.size + 1, 2, none⟩ (Value.slice A2 bs.length c2)) := (((hf011.setCell (p := ⟨w.heap.size + 1, 0, none⟩) (fun h => absurd h (by dsimp only; omega)) _).setCell (p := ⟨w.heap.size + 1, 1, none⟩) (fun h => absurd h (by dsimp only; omega)) _).setCell (p := ⟨w.heap.size + 1, 2, none⟩) (fun h => absurd h (by dsimp only; omega)) _)
 have hv012 : Own8 (((w11.setCell ⟨w.heap.size + 1, 0, none⟩ (Value.slice A0 b0.length c0)).setCell ⟨w.heap.size + 1, 1, none⟩ (Value.slice A1 b1.length c1)).setCell ⟨w.heap.size + 1, 2, none⟩ (Value.slice A2 bs.length c2)) _ _ _ := hv011.fr ((((Fr.refl (fun k => k = (w.heap.size + 1)) w11).setCell (p := ⟨w.heap.size + 1, 0, none⟩) (fun _ => rfl) _).setCell (p := ⟨w.heap.size + 1, 1, none⟩) (fun _ => rfl) _).setCell (p := ⟨w.heap.size + 1, 2, none⟩) (fun _ => rfl) _) (fun k hk h => hv011.ne_blk hR11 (by decide) (by rw [← h]; exact hk))
 have hv112 : Own8 (((w11.setCell ⟨w.heap.size + 1, 0, none⟩ (Value.slice A0 b0.length c0)).setCell ⟨w.heap.size + 1, 1, none⟩ (Value.slice A1 b1.length c1)).setCell ⟨w.heap.size + 1, 2, none⟩ (Value.slice A2 bs.length c2)) _ _ _ := hv111.fr ((((Fr.refl (fun k => k = (w.heap.size + 1)) w11).setCell (p := ⟨w.heap.size + 1, 0, none⟩) (fun _ => rfl) _).setCell (p := ⟨w.heap.size + 1, 1, none⟩) (fun _ => rfl) _).setCell (p := ⟨w.heap.size + 1, 2, none⟩) (fun _ => rfl) _) (fun k hk h => hv111.ne_blk hR11 (by decide) (by rw [← h]; exact hk))
 have hv212 : Own8 (((w11.setCell ⟨w.heap.size + 1, 0, none⟩ (Value.slice A0 b0.length c0)).setCell ⟨w.heap.size + 1, 1, none⟩ (Value.slice A1 b1.length c1)).setCell ⟨w.heap.size + 1, 2, none⟩ (Value.slice A2 bs.length c2)) _ _ _ := hv211.fr ((((Fr.refl (fun k => k = (w.heap.size + 1)) w11).setCell (p := ⟨w.heap.size + 1, 0, none⟩) (fun _ => rfl) _).setCell (p := ⟨w.heap.size + 1, 1, none⟩) (fun _ => rfl) _).setCell (p := ⟨w.heap.size + 1, 2, none⟩) (fun _ => rfl) _) (fun k hk h => hv211.ne_blk hR11 (by decide) (by rw [← h]; exact hk))
 generalize (((w11.setCell ⟨w.heap.size + 1, 0, none⟩ (Value.slice A0 b0.length c0)).setCell ⟨w.heap.size + 1, 1, none⟩ (Value.slice A1 b1.length c1)).setCell ⟨w.heap.size + 1, 2, none⟩ (Value.slice A2 bs.length c2)) = w12 at *
 have y0 := hR12.cell 0
 have y1 := hR12.cell 1
 have y2 := hR12.cell 2
 simp at y0 y1 y2
 try go_wp2_with fail
 refine bodyPost_ret (v := .tuple #[.agg #[(Value.slice A0 b0.length c0), (Value.slice A1 b1.length c1), (Value.slice A2 bs.length c2)], .bool true]) (by simp [results, Tryz.results123, go_sem, y0, y1, y2]) rfl ?_
 exact ⟨_, _, _, rfl, hv012.base_ (by omega), hv112.base_ (Nat.le_trans hf02.size (Nat.le_refl _)), hv212.base_ hf04.size, hf012⟩
end Go.Proofs.YtmkdhhhoodeemaaGreat
namespace Go.Proofs.YtmkdhhhoodeemaaGreat
open Go Go.RowKit
theorem rises_fit {l : List Ent} (h : risesE l = true) : l.length ≤ 1024 ∧ ∀ x ∈ l, x.1.size ≤ 16 ∧ x.2.1.size ≤ 64 := by
 unfold risesE at h
 rw [Bool.and_eq_true] at h
 obtain ⟨h1, h2⟩ := h
 refine ⟨by have := of_decide_eq_true h2; omega, fun x hx => ?_⟩
 obtain ⟨k, hk, rfl⟩ := List.mem_iff_getElem.1 hx
 unfold okTo at h1
 rw [List.all_eq_true] at h1
 have h3 := h1 k (List.mem_range.2 hk)
 unfold okAt at h3
 rw [List.getElem?_eq_getElem hk] at h3
 simp [entOk] at h3
 omega
theorem fit_of {l : List Ent} {Bs : List Int} (h : risesE l = true) (hb : Bs.length ≤ 1024) (hd : ∀ d ∈ Bs, 0 ≤ d ∧ d ≤ 2147483647) : FitP l Bs := by
 obtain ⟨h1, h2⟩ := rises_fit h
 refine ⟨h1, fun x hx => ?_, hb, hd⟩
 have := h2 x hx
 unfold longE
 simp
 omega
theorem order_certP {w : World} {kind : Int} (hk1 : 1 ≤ kind) (hk2 : kind ≤ 10) (hk : ¬ kind = 1 ∧ ¬ kind = 6) {s : SayD} (h : OkSay s) {G D : Int} {bC : Nat} {C : Option Addr} {cx : Nat} {xs : List Int} (hC : IntRow w bC C xs) (hbC : bC ≤ w.heap.size) (hxl : xs.length ≤ 1024) (hg : getOk (num8 G ++ num8 D ++ numsB xs))
  {PA QA : Option Addr} {pc qc : Nat} {l : List Ent} {Bs : List Int} (hE : EntRow w (fun k => k < w.heap.size) PA l) (hV : IntF w (fun k => k < w.heap.size) QA Bs) (hr : risesE l = true) (hb : Bs.length ≤ 1024) (hd : ∀ d ∈ Bs, 0 ≤ d ∧ d ≤ 2147483647) :
  Calls Tryz.prog 95 #[.agg #[.int .i64 kind, .int .i64 0, .int .i64 0, .slice none 0 0, .slice none 0 0, .int .i64 s.kind, .int .i64 s.txn, .bool s.yes, .string s.from_, .string s.to_, .int .i64 s.epoch, .int .i64 s.shard, .int .i64 s.target, .int .i64 s.root, .int .i64 G, .int .i64 D, .slice C xs.length cx, .int .i64 l.length, .int .i64 0, .slice PA l.length pc, .slice QA Bs.length qc]] w (PutP w (ordB kind [] (sayB s) (certB G D xs) l.length 0 l Bs) .nilIface) := by
 have hws : wordB s = sayB s := if_pos h
 obtain ⟨hll, hlk⟩ := rises_fit hr
 refine say_PutOrder_okP hE hV hlk hll hb (by simp) (by have := sayB_short s; rw [hws] at this; exact this) (certB_len hxl) (fun w' hf => ?_)
 have hz : zeroSay s = !true := by
  have : ¬ zeroSay s = true := fun e => by
   rw [zeroSay_iff] at e
   rw [e] at h
   exact absurd h.1 (by decide)
  simpa using this
 refine say_texts_okP (hC.fr hf (fun _ _ => id)) (Nat.le_trans hbC hf.size) hxl hg (bs := certB G D xs) rfl (nm := false) (sz := true) (b0 := []) (b1 := sayB s) (r0 := .nilIface) (r1 := .nilIface) hz ?_ ?_ ?_ rfl rfl hk1 hk2 rfl hk ?_
 ·intro w2 hf2
  exact (say_optTxn_none _ _).mono fun _ _ h => h.put
 ·intro w2 hf2
  refine say_optSay_put (fun w3 _ => (say_Put1 w3 s.kind s.txn s.yes s.from_ s.to_ s.epoch s.shard s.target s.root).mono ?_)
  rintro e w4 ⟨v, h1, h2, h3⟩
  rw [if_pos h] at h2
  refine ⟨v, ?_, h2, h3⟩
  rw [h1, show saidO s = none from if_pos h]
  rfl
 ·intro w2 hf2
  exact fits_ok ((hE.fr hf (fun _ _ => id)).fr hf2 (fun _ _ => id)) ((hV.fr hf (fun _ _ => id)).fr hf2 (fun _ _ => id)) (fit_of hr hb hd)
 ·intro w2 _
  exact say_none_zero _
theorem order_prep {w : World} {c n : Int} {A B : Option Addr} {cr cw : Nat} {R : List (ByteArray × Int)} {W : List (ByteArray × ByteArray)} {F : Nat → Prop} (hR : ReadRow w F A R) (hW : WriteRow w F B W) (ht : TOk c n R W) {s : SayD} (h : OkSay s) {G D : Int} {bC : Nat} {C : Option Addr} {cx : Nat} {xs : List Int} (hC : IntRow w bC C xs) (hbC : bC ≤ w.heap.size) (hxl : xs.length ≤ 1024) (hg : getOk (num8 G ++ num8 D ++ numsB xs)) :
  Calls Tryz.prog 95 #[.agg #[.int .i64 1, .int .i64 c, .int .i64 n, .slice A R.length cr, .slice B W.length cw, .int .i64 s.kind, .int .i64 s.txn, .bool s.yes, .string s.from_, .string s.to_, .int .i64 s.epoch, .int .i64 s.shard, .int .i64 s.target, .int .i64 s.root, .int .i64 G, .int .i64 D, .slice C xs.length cx, .int .i64 0, .int .i64 0, .slice none 0 0, .slice none 0 0]] w (PutP w (orderB 1 (txnB c n R W) (sayB s) (certB G D xs)) .nilIface) := by
 have hws : wordB s = sayB s := if_pos h
 refine say_PutOrder_ok (txnB_len ht) (by have := sayB_short s; rw [hws] at this; exact this) (certB_len hxl) (fun w' hf => ?_)
 have hz : zeroSay s = !true := by
  have : ¬ zeroSay s = true := fun e => by
   rw [zeroSay_iff] at e
   rw [e] at h
   exact absurd h.1 (by decide)
  simpa using this
 refine say_texts_prepare (hC.fr hf (fun _ _ => id)) (Nat.le_trans hbC hf.size) hxl hg (bs := certB G D xs) rfl (nm := true) (sz := true) (b0 := txnB c n R W) (b1 := sayB s) (r0 := .nilIface) (r1 := .nilIface) hz ?_ ?_ rfl rfl rfl ?_
 ·intro w2 hf2
  refine say_optTxn_put (fun w3 hf3 => ?_)
  exact txn_Put_ok (cr := cr) (cw := cw) (((hR.fr hf (fun _ _ => id)).fr hf2 (fun _ _ => id)).fr hf3 (fun _ _ => id)) (((hW.fr hf (fun _ _ => id)).fr hf2 (fun _ _ => id)).fr hf3 (fun _ _ => id)) ht
 ·intro w2 hf2
  refine say_optSay_put (fun w3 _ => (say_Put1 w3 s.kind s.txn s.yes s.from_ s.to_ s.epoch s.shard s.target s.root).mono ?_)
  rintro e w4 ⟨v, h1, h2, h3⟩
  rw [if_pos h] at h2
  refine ⟨v, ?_, h2, h3⟩
  rw [h1, show saidO s = none from if_pos h]
  rfl
 ·intro w2 _
  exact say_none_not _ (by have := ht.2.2.1; omega)
theorem ordB_len {kind many first : Int} {a b c : List Int} {l : List Ent} {Bs : List Int} (ha : a.length ≤ 65536) (hb : b.length ≤ 65536) (hc : c.length ≤ 65536) (hr : risesE l = true) (hB : Bs.length ≤ 1024) : (ordB kind a b c many first l Bs).length ≤ 1000000 := by
 obtain ⟨hll, hlk⟩ := rises_fit hr
 have he : (l.flatMap entB).length ≤ 96 * 1024 := by
  have := flat_take_le (f := entB) (l := l) (k := 96) (m := 1024) (fun x hx => by
   have := hlk x hx
   unfold entB
   rw [List.length_append, List.length_append, textB_len, textB_len, num8_length]
   omega) hll l.length
  rwa [List.take_length] at this
 have h2 := flat_num8 Bs
 simp only [ordB, List.length_append, num8_length, textB, count4_length, numsB, h2]
 omega
theorem relay_tasks_okP {w : World} {pm : Int} {PA QA : Option Addr} {pn pc qn qc : Nat} {kind c n : Int} {A B : Option Addr} {nr cr nw cw : Nat} {s : SayD} {G D : Int} {C : Option Addr} {nx cx : Nat} {bG : Nat} {GA : Option Addr} {cg : Nat} {gs : List Int} (hgs : IntRow w bG GA gs) (hbG : bG ≤ w.heap.size) (hgl : gs.length ≤ 1000) {bs : List Int} (hbl : bs.length ≤ 1000000)
  (hP : ∀ w', Fr (fun _ => False) w w' → Calls Tryz.prog 95 #[.agg #[.int .i64 kind, .int .i64 c, .int .i64 n, .slice A nr cr, .slice B nw cw, .int .i64 s.kind, .int .i64 s.txn, .bool s.yes, .string s.from_, .string s.to_, .int .i64 s.epoch, .int .i64 s.shard, .int .i64 s.target, .int .i64 s.root, .int .i64 G, .int .i64 D, .slice C nx cx, .int .i64 pm, .int .i64 0, .slice PA pn pc, .slice QA qn qc]] w' (PutP w' bs .nilIface)) :
  Calls Tryz.prog 64 #[.agg #[.int .i64 kind, .int .i64 c, .int .i64 n, .slice A nr cr, .slice B nw cw, .int .i64 s.kind, .int .i64 s.txn, .bool s.yes, .string s.from_, .string s.to_, .int .i64 s.epoch, .int .i64 s.shard, .int .i64 s.target, .int .i64 s.root, .int .i64 G, .int .i64 D, .slice C nx cx, .int .i64 pm, .int .i64 0, .slice PA pn pc, .slice QA qn qc], .slice GA gs.length cg] w (TasksP w gs bs) := by
 have HP := Lib.hid hP
 have HBL := Lib.hid hbl
 clear hP hbl
 have hB0 := Blk.new w 62 #[.int .i64 kind, .int .i64 c, .int .i64 n, .slice A nr cr, .slice B nw cw, .int .i64 s.kind, .int .i64 s.txn, .bool s.yes, .string s.from_, .string s.to_, .int .i64 s.epoch, .int .i64 s.shard, .int .i64 s.target, .int .i64 s.root, .int .i64 G, .int .i64 D, .slice C nx cx, .int .i64 pm, .int .i64 0, .slice PA pn pc, .slice QA qn qc]
 have hf0 : Fr (fun _ => False) w (w.alloc (Obj.cells #[.int .i64 kind, .int .i64 c, .int .i64 n, .slice A nr cr, .slice B nw cw, .int .i64 s.kind, .int .i64 s.txn, .bool s.yes, .string s.from_, .string s.to_, .int .i64 s.epoch, .int .i64 s.shard, .int .i64 s.target, .int .i64 s.root, .int .i64 G, .int .i64 D, .slice C nx cx, .int .i64 pm, .int .i64 0, .slice PA pn pc, .slice QA qn qc] 62)) := (Fr.refl _ _).alloc _
 go_enter Tryz.func64, Tryz.ntmps64
 go_upto_region 1 with fail
 generalize w.alloc (Obj.cells #[.int .i64 kind, .int .i64 c, .int .i64 n, .slice A nr cr, .slice B nw cw, .int .i64 s.kind, .int .i64 s.txn, .bool s.yes, .string s.from_, .string s.to_, .int .i64 s.epoch, .int .i64 s.shard, .int .i64 s.target, .int .i64 s.root, .int .i64 G, .int .i64 D, .slice C nx cx, .int .i64 pm, .int .i64 0, .slice PA pn pc, .slice QA qn qc] 62) = w0 at *
 go_upto_region 5 with (first
  | (refine wpList_load_row rfl 62 _ rfl _ rfl _ _ (0, 0) _ hB0 Tryz.underlying62 rfl (by kernel_rfl) ?_)
  | (go_at_call 95; refine (HP.out _ hf0).mono ?_; rintro e w1 ⟨v1, rfl, hv1, hf01⟩; obtain ⟨A1, c1, rfl, _, hr1⟩ := hv1.u8row))
 have hgs1 : IntRow w1 bG GA gs := (hgs.fr hf0 (fun _ _ => id)).fr hf01 (fun _ _ => id)
 have hf1 := hf0.then_ hf01
 have hz1 : bG ≤ w1.heap.size := Nat.le_trans hbG hf1.size
 clear hB0 hf0 hf01 hv1 hgs HP
 have hinf := task_info
 go_upto_region 6 with fail
 go_loopw [7, 19] (fun ov i wr => ∃ (k : Nat), k ≤ gs.length ∧ i = .int .i64 k ∧ TasksAt wr w1.heap.size ov (gs.take k) bs ∧ IntRow wr bG GA gs ∧ ByteRow wr (U8 wr) A1 bs ∧ Fr (fun _ => False) w1 wr) (fun _ i _ => gs.length - (intOf i).toNat)
 case atStart => exact ⟨0, by omega, rfl, TasksAt.nil _ _ _, hgs1, hr1, Fr.refl _ _⟩
 case round =>
  clear hgs1 hr1
  obtain ⟨k, hk, rfl, ⟨vals, hown, hvs⟩, hgs1, hr1, hf2⟩ := hrel
  have HV := Lib.hid hvs
  clear hvs
  by_cases hlt : k < gs.length
  ·have hlt' : (k : Int) < (gs.length : Int) := by omega
   obtain ⟨x, hx⟩ : ∃ x, gs[k]? = some x := ⟨gs[k], List.getElem?_eq_getElem hlt⟩
   obtain ⟨b, o, rfl, hbb, hc⟩ := hgs1 k x hx
   have HX := Lib.hid hx
   have hl1 : (gs.take k).length = k := by rw [List.length_take]; omega
   rw [hl1] at hown
   clear hx
   obtain ⟨Av, cv, hev, _, _⟩ := own_form hown
   cases hev
   go_upto_region 8 with fail
   go_wp2_with (first
    | (go_at_call 96; refine (slices_Clone8 hr1 rfl (by have := HBL.out; omega)).mono ?_; rintro e w3 ⟨v3, rfl, hv3, hf3⟩; obtain ⟨A3, c3, rfl, _, hr3⟩ := hv3.u8row; have hown3 := own_fr hown hf3 (fun _ _ => id); have hz3 : w1.heap.size ≤ w3.heap.size := (hf2.then_ hf3).size)
    | (at_builtin; refine wpList_append_el _ rfl _ _ 44 rfl w1.heap.size 68 _ 2 32 Tryz.underlying44 hinf rfl (by decide) _ k vals rfl (own_fr hown3 ((Fr.refl (fun _ => False) w3).alloc _) (fun _ _ => id)) w3.heap.size [.int .i64 x, .slice A3 bs.length c3] rfl rfl (cell_two w3 _ _ _) (by simp [Value.oneCell']) (by omega) (by decide) (by simp; omega) ?_; intro g' c' w4 hown4 hf4))
   have hf34 : Fr (fun _ => False) w3 (w3.alloc (Obj.cells #[.int .i64 x, .slice A3 bs.length c3] 68)) := (Fr.refl _ _).alloc _
   have hu8 : ∀ q, U8 (w3.alloc (Obj.cells #[.int .i64 x, .slice A3 bs.length c3] 68)) q → ¬ (Value.slice Av k cv).ownBlock = some q := fun q hq => hq.ne_own (own_fr hown3 hf34 (fun _ _ => id)) (by decide)
   have hr14 := ((hr1.u8 hf3 (fun _ _ => id)).u8 hf34 (fun _ _ => id)).u8 hf4 hu8
   have hr34 := (hr3.u8 hf34 (fun _ _ => id)).u8 hf4 hu8
   have hlow : ∀ q, q < bG → ¬ (Value.slice Av k cv).ownBlock = some q := fun q hq e => by have := own_ge hown q e; omega
   have hgs4 := ((hgs1.fr hf3 (fun _ _ => id)).fr hf34 (fun _ _ => id)).fr hf4 hlow
   have hf4' : Fr (fun _ => False) w1 w4 := ((hf2.then_ hf3).then_ hf34).trans hf4 (fun q hq e => by have := own_ge hown q e; omega)
   go_roundw
   case rel =>
    refine ⟨k + 1, by omega, by go_num, ?_, hgs4, hr14, hf4'⟩
    rw [take_mem HX.out]
    refine TasksAt.snoc (vals := vals) (by rw [hl1]; exact hown4) ?_ hr34
    intro k g hg
    obtain ⟨A', cap', e1, e2, hr⟩ := HV.out k g hg
    exact ⟨A', cap', e1, e2, ((hr.u8 hf3 (fun _ _ => id)).u8 hf34 (fun _ _ => id)).u8 hf4 hu8⟩
   case measure => simp [intOf]; omega
  ·obtain rfl : k = gs.length := by omega
   rw [List.take_length] at hown
   have hT : TasksAt wr w1.heap.size u7 gs bs := ⟨vals, hown, fun k g hg => HV.out k g (by rw [List.take_length]; exact hg)⟩
   go_wp2
   go_ret
   exact ⟨_, rfl, hT.base_ hf1.size, hf1.then_ hf2⟩
theorem told_none {w : World} {kind : Int} {txn : Int} {yes : Bool} {ff tt : ByteArray} {epoch shard target root : Int} (h : OkSay ⟨kind, txn, yes, ff, tt, epoch, shard, target, root⟩) {G D fr : Int} {C : Option Addr} {nx cx : Nat} (q2 : (kind == 2) = false) (q5 : (kind == 5) = false) (q6 : (kind == 6) = false) {bk lv : Value} :
  Calls Tryz.prog 45 #[bk, .agg #[.int .i64 0, .int .i64 0, .int .i64 0, .slice none 0 0, .slice none 0 0, .int .i64 kind, .int .i64 txn, .bool yes, .string ff, .string tt, .int .i64 epoch, .int .i64 shard, .int .i64 target, .int .i64 root, .int .i64 G, .int .i64 D, .slice C nx cx, .int .i64 0, .int .i64 0, .slice none 0 0, .slice none 0 0], .int .i64 fr, lv] w (TasksP w [] []) := by
 have hsh : (0 ≤ shard ∧ shard ≤ 3) ∧ (0 ≤ target ∧ target ≤ 3) := by
  obtain ⟨a0, a1, a2, a3, a4, a5, a6, a7, a8, a9, a10, a11, a12, a13⟩ := h
  dsimp only at a10 a11 a12 a13
  omega
 have hwr : wrap64 (shard + 1) = shard + 1 := by unfold wrap64; omega
 have HW := Lib.hid hwr
 have hwt : wrap64 (target + 1) = target + 1 := by unfold wrap64; omega
 have HWT := Lib.hid hwt
 clear hwr hwt
 have HOK := Lib.hid h
 clear h
 have hB0 := Blk.new w 62 #[.int .i64 0, .int .i64 0, .int .i64 0, .slice none 0 0, .slice none 0 0, .int .i64 kind, .int .i64 txn, .bool yes, .string ff, .string tt, .int .i64 epoch, .int .i64 shard, .int .i64 target, .int .i64 root, .int .i64 G, .int .i64 D, .slice C nx cx, .int .i64 0, .int .i64 0, .slice none 0 0, .slice none 0 0]
 have hf0 : Fr (fun _ => False) w (w.alloc (Obj.cells #[.int .i64 0, .int .i64 0, .int .i64 0, .slice none 0 0, .slice none 0 0, .int .i64 kind, .int .i64 txn, .bool yes, .string ff, .string tt, .int .i64 epoch, .int .i64 shard, .int .i64 target, .int .i64 root, .int .i64 G, .int .i64 D, .slice C nx cx, .int .i64 0, .int .i64 0, .slice none 0 0, .slice none 0 0] 62)) := (Fr.refl _ _).alloc _
 go_enter Tryz.func45, Tryz.ntmps45
 go_upto_region 1 with fail
 generalize w.alloc (Obj.cells #[.int .i64 0, .int .i64 0, .int .i64 0, .slice none 0 0, .slice none 0 0, .int .i64 kind, .int .i64 txn, .bool yes, .string ff, .string tt, .int .i64 epoch, .int .i64 shard, .int .i64 target, .int .i64 root, .int .i64 G, .int .i64 D, .slice C nx cx, .int .i64 0, .int .i64 0, .slice none 0 0, .slice none 0 0] 62) = w0 at *
 have k5 := hB0.cell 5
 have k6 := hB0.cell 6
 have k7 := hB0.cell 7
 have k8 := hB0.cell 8
 have k9 := hB0.cell 9
 have k10 := hB0.cell 10
 have k11 := hB0.cell 11
 have k12 := hB0.cell 12
 have k13 := hB0.cell 13
 go_upto_region 2 with fail
 have hB1 := hB0.alloc (Obj.cells #[.int .i64 kind, .int .i64 txn, .bool yes, .string ff, .string tt, .int .i64 epoch, .int .i64 shard, .int .i64 target, .int .i64 root] 23)
 have hS1 := Blk.new w0 23 #[.int .i64 kind, .int .i64 txn, .bool yes, .string ff, .string tt, .int .i64 epoch, .int .i64 shard, .int .i64 target, .int .i64 root]
 have hf1 := hf0.alloc (Obj.cells #[.int .i64 kind, .int .i64 txn, .bool yes, .string ff, .string tt, .int .i64 epoch, .int .i64 shard, .int .i64 target, .int .i64 root] 23)
 go_upto_region 2 with fail
 generalize w0.alloc (Obj.cells #[.int .i64 kind, .int .i64 txn, .bool yes, .string ff, .string tt, .int .i64 epoch, .int .i64 shard, .int .i64 target, .int .i64 root] 23) = w1 at *
 have s0 := hS1.cell 0
 have s6 := hS1.cell 6
 have s7 := hS1.cell 7
 clear hf0 k5 k6 k7 k8 k9 k10 k11 k12 k13
 go_upto_region 4 with (go_at_call 79; refine (relay_group _ _).mono ?_; rintro e w' ⟨rfl, rfl⟩; rw [HW.out])
 have kf := hB1.frozen 0
 have k0 := hB1.cell 0
 go_wp2_with fail
 go_ret
 exact ⟨.slice none 0 0, rfl, TasksAt.nil _ _ _, hf1⟩
theorem told_vote_no {w : World} {txn : Int} {yes : Bool} {ff tt : ByteArray} {epoch shard target root : Int} (h : OkSay ⟨2, txn, yes, ff, tt, epoch, shard, target, root⟩) {G D fr : Int} {C : Option Addr} {nx cx : Nat} (hne : (fr == shard + 1) = false) {bk lv : Value} :
  Calls Tryz.prog 45 #[bk, .agg #[.int .i64 0, .int .i64 0, .int .i64 0, .slice none 0 0, .slice none 0 0, .int .i64 2, .int .i64 txn, .bool yes, .string ff, .string tt, .int .i64 epoch, .int .i64 shard, .int .i64 target, .int .i64 root, .int .i64 G, .int .i64 D, .slice C nx cx, .int .i64 0, .int .i64 0, .slice none 0 0, .slice none 0 0], .int .i64 fr, lv] w (TasksP w [] []) := by
 have hsh : (0 ≤ shard ∧ shard ≤ 3) ∧ (0 ≤ target ∧ target ≤ 3) := by
  obtain ⟨a0, a1, a2, a3, a4, a5, a6, a7, a8, a9, a10, a11, a12, a13⟩ := h
  dsimp only at a10 a11 a12 a13
  omega
 have hwr : wrap64 (shard + 1) = shard + 1 := by unfold wrap64; omega
 have HW := Lib.hid hwr
 have hwt : wrap64 (target + 1) = target + 1 := by unfold wrap64; omega
 have HWT := Lib.hid hwt
 clear hwr hwt
 have HOK := Lib.hid h
 clear h
 have hB0 := Blk.new w 62 #[.int .i64 0, .int .i64 0, .int .i64 0, .slice none 0 0, .slice none 0 0, .int .i64 2, .int .i64 txn, .bool yes, .string ff, .string tt, .int .i64 epoch, .int .i64 shard, .int .i64 target, .int .i64 root, .int .i64 G, .int .i64 D, .slice C nx cx, .int .i64 0, .int .i64 0, .slice none 0 0, .slice none 0 0]
 have hf0 : Fr (fun _ => False) w (w.alloc (Obj.cells #[.int .i64 0, .int .i64 0, .int .i64 0, .slice none 0 0, .slice none 0 0, .int .i64 2, .int .i64 txn, .bool yes, .string ff, .string tt, .int .i64 epoch, .int .i64 shard, .int .i64 target, .int .i64 root, .int .i64 G, .int .i64 D, .slice C nx cx, .int .i64 0, .int .i64 0, .slice none 0 0, .slice none 0 0] 62)) := (Fr.refl _ _).alloc _
 go_enter Tryz.func45, Tryz.ntmps45
 go_upto_region 1 with fail
 generalize w.alloc (Obj.cells #[.int .i64 0, .int .i64 0, .int .i64 0, .slice none 0 0, .slice none 0 0, .int .i64 2, .int .i64 txn, .bool yes, .string ff, .string tt, .int .i64 epoch, .int .i64 shard, .int .i64 target, .int .i64 root, .int .i64 G, .int .i64 D, .slice C nx cx, .int .i64 0, .int .i64 0, .slice none 0 0, .slice none 0 0] 62) = w0 at *
 have k5 := hB0.cell 5
 have k6 := hB0.cell 6
 have k7 := hB0.cell 7
 have k8 := hB0.cell 8
 have k9 := hB0.cell 9
 have k10 := hB0.cell 10
 have k11 := hB0.cell 11
 have k12 := hB0.cell 12
 have k13 := hB0.cell 13
 go_upto_region 2 with fail
 have hB1 := hB0.alloc (Obj.cells #[.int .i64 2, .int .i64 txn, .bool yes, .string ff, .string tt, .int .i64 epoch, .int .i64 shard, .int .i64 target, .int .i64 root] 23)
 have hS1 := Blk.new w0 23 #[.int .i64 2, .int .i64 txn, .bool yes, .string ff, .string tt, .int .i64 epoch, .int .i64 shard, .int .i64 target, .int .i64 root]
 have hf1 := hf0.alloc (Obj.cells #[.int .i64 2, .int .i64 txn, .bool yes, .string ff, .string tt, .int .i64 epoch, .int .i64 shard, .int .i64 target, .int .i64 root] 23)
 go_upto_region 2 with fail
 generalize w0.alloc (Obj.cells #[.int .i64 2, .int .i64 txn, .bool yes, .string ff, .string tt, .int .i64 epoch, .int .i64 shard, .int .i64 target, .int .i64 root] 23) = w1 at *
 have s0 := hS1.cell 0
 have s6 := hS1.cell 6
 have s7 := hS1.cell 7
 clear hf0 k5 k6 k7 k8 k9 k10 k11 k12 k13
 go_upto_region 4 with (go_at_call 79; refine (relay_group _ _).mono ?_; rintro e w' ⟨rfl, rfl⟩; rw [HW.out])
 have kf := hB1.frozen 0
 have k0 := hB1.cell 0
 go_upto_region 19 with fail
 have hB2 : Blk (w1.setCell ⟨w.heap.size, 0, none⟩ (.int .i64 7)) w.heap.size 62 #[.int .i64 7, .int .i64 0, .int .i64 0, .slice none 0 0, .slice none 0 0, .int .i64 2, .int .i64 txn, .bool yes, .string ff, .string tt, .int .i64 epoch, .int .i64 shard, .int .i64 target, .int .i64 root, .int .i64 G, .int .i64 D, .slice C nx cx, .int .i64 0, .int .i64 0, .slice none 0 0, .slice none 0 0] := hB1.set_ 0 _
 have hf2 : Fr (fun _ => False) w (w1.setCell ⟨w.heap.size, 0, none⟩ (.int .i64 7)) := hf1.setCell (p := ⟨w.heap.size, 0, none⟩) (fun h => absurd h (Nat.lt_irrefl _)) _
 generalize w1.setCell ⟨w.heap.size, 0, none⟩ (.int .i64 7) = w2 at *
 clear hB1 hf1 hS1 s0 s6 s7 kf k0
 have k0 := hB2.cell 0
 go_wp2_with fail
 go_ret
 exact ⟨.slice none 0 0, rfl, TasksAt.nil _ _ _, hf2⟩
theorem told_imp_no {w : World} {txn : Int} {yes : Bool} {ff tt : ByteArray} {epoch shard target root : Int} (h : OkSay ⟨6, txn, yes, ff, tt, epoch, shard, target, root⟩) {G D fr : Int} {C : Option Addr} {nx cx : Nat} (hne : (fr == target + 1) = false) {bk lv : Value} :
  Calls Tryz.prog 45 #[bk, .agg #[.int .i64 0, .int .i64 0, .int .i64 0, .slice none 0 0, .slice none 0 0, .int .i64 6, .int .i64 txn, .bool yes, .string ff, .string tt, .int .i64 epoch, .int .i64 shard, .int .i64 target, .int .i64 root, .int .i64 G, .int .i64 D, .slice C nx cx, .int .i64 0, .int .i64 0, .slice none 0 0, .slice none 0 0], .int .i64 fr, lv] w (TasksP w [] []) := by
 have hsh : (0 ≤ shard ∧ shard ≤ 3) ∧ (0 ≤ target ∧ target ≤ 3) := by
  obtain ⟨a0, a1, a2, a3, a4, a5, a6, a7, a8, a9, a10, a11, a12, a13⟩ := h
  dsimp only at a10 a11 a12 a13
  omega
 have hwr : wrap64 (shard + 1) = shard + 1 := by unfold wrap64; omega
 have HW := Lib.hid hwr
 have hwt : wrap64 (target + 1) = target + 1 := by unfold wrap64; omega
 have HWT := Lib.hid hwt
 clear hwr hwt
 have HOK := Lib.hid h
 clear h
 have hB0 := Blk.new w 62 #[.int .i64 0, .int .i64 0, .int .i64 0, .slice none 0 0, .slice none 0 0, .int .i64 6, .int .i64 txn, .bool yes, .string ff, .string tt, .int .i64 epoch, .int .i64 shard, .int .i64 target, .int .i64 root, .int .i64 G, .int .i64 D, .slice C nx cx, .int .i64 0, .int .i64 0, .slice none 0 0, .slice none 0 0]
 have hf0 : Fr (fun _ => False) w (w.alloc (Obj.cells #[.int .i64 0, .int .i64 0, .int .i64 0, .slice none 0 0, .slice none 0 0, .int .i64 6, .int .i64 txn, .bool yes, .string ff, .string tt, .int .i64 epoch, .int .i64 shard, .int .i64 target, .int .i64 root, .int .i64 G, .int .i64 D, .slice C nx cx, .int .i64 0, .int .i64 0, .slice none 0 0, .slice none 0 0] 62)) := (Fr.refl _ _).alloc _
 go_enter Tryz.func45, Tryz.ntmps45
 go_upto_region 1 with fail
 generalize w.alloc (Obj.cells #[.int .i64 0, .int .i64 0, .int .i64 0, .slice none 0 0, .slice none 0 0, .int .i64 6, .int .i64 txn, .bool yes, .string ff, .string tt, .int .i64 epoch, .int .i64 shard, .int .i64 target, .int .i64 root, .int .i64 G, .int .i64 D, .slice C nx cx, .int .i64 0, .int .i64 0, .slice none 0 0, .slice none 0 0] 62) = w0 at *
 have k5 := hB0.cell 5
 have k6 := hB0.cell 6
 have k7 := hB0.cell 7
 have k8 := hB0.cell 8
 have k9 := hB0.cell 9
 have k10 := hB0.cell 10
 have k11 := hB0.cell 11
 have k12 := hB0.cell 12
 have k13 := hB0.cell 13
 go_upto_region 2 with fail
 have hB1 := hB0.alloc (Obj.cells #[.int .i64 6, .int .i64 txn, .bool yes, .string ff, .string tt, .int .i64 epoch, .int .i64 shard, .int .i64 target, .int .i64 root] 23)
 have hS1 := Blk.new w0 23 #[.int .i64 6, .int .i64 txn, .bool yes, .string ff, .string tt, .int .i64 epoch, .int .i64 shard, .int .i64 target, .int .i64 root]
 have hf1 := hf0.alloc (Obj.cells #[.int .i64 6, .int .i64 txn, .bool yes, .string ff, .string tt, .int .i64 epoch, .int .i64 shard, .int .i64 target, .int .i64 root] 23)
 go_upto_region 2 with fail
 generalize w0.alloc (Obj.cells #[.int .i64 6, .int .i64 txn, .bool yes, .string ff, .string tt, .int .i64 epoch, .int .i64 shard, .int .i64 target, .int .i64 root] 23) = w1 at *
 have s0 := hS1.cell 0
 have s6 := hS1.cell 6
 have s7 := hS1.cell 7
 clear hf0 k5 k6 k7 k8 k9 k10 k11 k12 k13
 go_upto_region 4 with (go_at_call 79; refine (relay_group _ _).mono ?_; rintro e w' ⟨rfl, rfl⟩; rw [HW.out])
 have kf := hB1.frozen 0
 have k0 := hB1.cell 0
 go_upto_region 18 with fail
 have hB2 : Blk (w1.setCell ⟨w.heap.size, 0, none⟩ (.int .i64 10)) w.heap.size 62 #[.int .i64 10, .int .i64 0, .int .i64 0, .slice none 0 0, .slice none 0 0, .int .i64 6, .int .i64 txn, .bool yes, .string ff, .string tt, .int .i64 epoch, .int .i64 shard, .int .i64 target, .int .i64 root, .int .i64 G, .int .i64 D, .slice C nx cx, .int .i64 0, .int .i64 0, .slice none 0 0, .slice none 0 0] := hB1.set_ 0 _
 have hf2 : Fr (fun _ => False) w (w1.setCell ⟨w.heap.size, 0, none⟩ (.int .i64 10)) := hf1.setCell (p := ⟨w.heap.size, 0, none⟩) (fun h => absurd h (Nat.lt_irrefl _)) _
 have hS2 : Blk (w1.setCell ⟨w.heap.size, 0, none⟩ (.int .i64 10)) _ _ _ := hS1.far (fun e => by have := hB0.lt; dsimp only at e; omega) (.int .i64 10)
 generalize w1.setCell ⟨w.heap.size, 0, none⟩ (.int .i64 10) = w2 at *
 clear hB1 hf1 hS1 s0 s6 s7 kf k0 hB0
 have k0 := hB2.cell 0
 have s7 := hS2.cell 7
 go_upto_region 19 with (go_at_call 79; refine (relay_group _ _).mono ?_; rintro e w' ⟨rfl, rfl⟩; rw [HWT.out])
 go_wp2_with fail
 go_ret
 exact ⟨.slice none 0 0, rfl, TasksAt.nil _ _ _, hf2⟩
theorem told_imp {w : World} {txn : Int} {yes : Bool} {ff tt : ByteArray} {epoch shard target root : Int} (h : OkSay ⟨6, txn, yes, ff, tt, epoch, shard, target, root⟩) {G D fr : Int} {bC : Nat} {C : Option Addr} {cx : Nat} {xs : List Int} (hC : IntRow w bC C xs) (hbC : bC ≤ w.heap.size) (hxl : xs.length ≤ 1024) (hg : getOk (num8 G ++ num8 D ++ numsB xs)) (hfr : fr = target + 1) {bk lv : Value} :
  Calls Tryz.prog 45 #[bk, .agg #[.int .i64 0, .int .i64 0, .int .i64 0, .slice none 0 0, .slice none 0 0, .int .i64 6, .int .i64 txn, .bool yes, .string ff, .string tt, .int .i64 epoch, .int .i64 shard, .int .i64 target, .int .i64 root, .int .i64 G, .int .i64 D, .slice C xs.length cx, .int .i64 0, .int .i64 0, .slice none 0 0, .slice none 0 0], .int .i64 fr, lv] w (TasksP w [0] (orderB 10 [] (sayB ⟨6, txn, yes, ff, tt, epoch, shard, target, root⟩) (certB G D xs))) := by
 subst hfr
 have HC := Lib.hid hC
 have HG := Lib.hid hg
 have HXL := Lib.hid hxl
 clear hC hg hxl
 have hsh : (0 ≤ shard ∧ shard ≤ 3) ∧ (0 ≤ target ∧ target ≤ 3) := by
  obtain ⟨a0, a1, a2, a3, a4, a5, a6, a7, a8, a9, a10, a11, a12, a13⟩ := h
  dsimp only at a10 a11 a12 a13
  omega
 have hwr : wrap64 (shard + 1) = shard + 1 := by unfold wrap64; omega
 have HW := Lib.hid hwr
 have hwt : wrap64 (target + 1) = target + 1 := by unfold wrap64; omega
 have HWT := Lib.hid hwt
 clear hwr hwt
 have HOK := Lib.hid h
 clear h
 have hB0 := Blk.new w 62 #[.int .i64 0, .int .i64 0, .int .i64 0, .slice none 0 0, .slice none 0 0, .int .i64 6, .int .i64 txn, .bool yes, .string ff, .string tt, .int .i64 epoch, .int .i64 shard, .int .i64 target, .int .i64 root, .int .i64 G, .int .i64 D, .slice C xs.length cx, .int .i64 0, .int .i64 0, .slice none 0 0, .slice none 0 0]
 have hf0 : Fr (fun _ => False) w (w.alloc (Obj.cells #[.int .i64 0, .int .i64 0, .int .i64 0, .slice none 0 0, .slice none 0 0, .int .i64 6, .int .i64 txn, .bool yes, .string ff, .string tt, .int .i64 epoch, .int .i64 shard, .int .i64 target, .int .i64 root, .int .i64 G, .int .i64 D, .slice C xs.length cx, .int .i64 0, .int .i64 0, .slice none 0 0, .slice none 0 0] 62)) := (Fr.refl _ _).alloc _
 go_enter Tryz.func45, Tryz.ntmps45
 go_upto_region 1 with fail
 generalize w.alloc (Obj.cells #[.int .i64 0, .int .i64 0, .int .i64 0, .slice none 0 0, .slice none 0 0, .int .i64 6, .int .i64 txn, .bool yes, .string ff, .string tt, .int .i64 epoch, .int .i64 shard, .int .i64 target, .int .i64 root, .int .i64 G, .int .i64 D, .slice C xs.length cx, .int .i64 0, .int .i64 0, .slice none 0 0, .slice none 0 0] 62) = w0 at *
 have k5 := hB0.cell 5
 have k6 := hB0.cell 6
 have k7 := hB0.cell 7
 have k8 := hB0.cell 8
 have k9 := hB0.cell 9
 have k10 := hB0.cell 10
 have k11 := hB0.cell 11
 have k12 := hB0.cell 12
 have k13 := hB0.cell 13
 go_upto_region 2 with fail
 have hB1 := hB0.alloc (Obj.cells #[.int .i64 6, .int .i64 txn, .bool yes, .string ff, .string tt, .int .i64 epoch, .int .i64 shard, .int .i64 target, .int .i64 root] 23)
 have hS1 := Blk.new w0 23 #[.int .i64 6, .int .i64 txn, .bool yes, .string ff, .string tt, .int .i64 epoch, .int .i64 shard, .int .i64 target, .int .i64 root]
 have hf1 := hf0.alloc (Obj.cells #[.int .i64 6, .int .i64 txn, .bool yes, .string ff, .string tt, .int .i64 epoch, .int .i64 shard, .int .i64 target, .int .i64 root] 23)
 go_upto_region 2 with fail
 generalize w0.alloc (Obj.cells #[.int .i64 6, .int .i64 txn, .bool yes, .string ff, .string tt, .int .i64 epoch, .int .i64 shard, .int .i64 target, .int .i64 root] 23) = w1 at *
 have s0 := hS1.cell 0
 have s6 := hS1.cell 6
 have s7 := hS1.cell 7
 clear hf0 k5 k6 k7 k8 k9 k10 k11 k12 k13
 go_upto_region 4 with (go_at_call 79; refine (relay_group _ _).mono ?_; rintro e w' ⟨rfl, rfl⟩; rw [HW.out])
 have kf := hB1.frozen 0
 have k0 := hB1.cell 0
 go_upto_region 18 with fail
 have hB2 : Blk (w1.setCell ⟨w.heap.size, 0, none⟩ (.int .i64 10)) w.heap.size 62 #[.int .i64 10, .int .i64 0, .int .i64 0, .slice none 0 0, .slice none 0 0, .int .i64 6, .int .i64 txn, .bool yes, .string ff, .string tt, .int .i64 epoch, .int .i64 shard, .int .i64 target, .int .i64 root, .int .i64 G, .int .i64 D, .slice C xs.length cx, .int .i64 0, .int .i64 0, .slice none 0 0, .slice none 0 0] := hB1.set_ 0 _
 have hf2 : Fr (fun _ => False) w (w1.setCell ⟨w.heap.size, 0, none⟩ (.int .i64 10)) := hf1.setCell (p := ⟨w.heap.size, 0, none⟩) (fun h => absurd h (Nat.lt_irrefl _)) _
 have hS2 : Blk (w1.setCell ⟨w.heap.size, 0, none⟩ (.int .i64 10)) _ _ _ := hS1.far (fun e => by have := hB0.lt; dsimp only at e; omega) (.int .i64 10)
 generalize w1.setCell ⟨w.heap.size, 0, none⟩ (.int .i64 10) = w2 at *
 clear hB1 hf1 hS1 s0 s6 s7 kf k0 hB0
 have k0 := hB2.cell 0
 have s7 := hS2.cell 7
 go_upto_region 19 with (go_at_call 79; refine (relay_group _ _).mono ?_; rintro e w' ⟨rfl, rfl⟩; rw [HWT.out])
 go_upto_region 21 with fail
 have hg1 := group0 w2
 have hf3 : Fr (fun _ => False) w2 (w2.alloc (Obj.cells #[.int .i64 0] 3)) := (Fr.refl _ _).alloc _
 have hf03 := hf2.then_ hf3
 have HT : Calls Tryz.prog 64 #[.agg #[.int .i64 10, .int .i64 0, .int .i64 0, .slice none 0 0, .slice none 0 0, .int .i64 6, .int .i64 txn, .bool yes, .string ff, .string tt, .int .i64 epoch, .int .i64 shard, .int .i64 target, .int .i64 root, .int .i64 G, .int .i64 D, .slice C xs.length cx, .int .i64 0, .int .i64 0, .slice none 0 0, .slice none 0 0], .slice (some ⟨w2.heap.size, 0, none⟩) 1 1] (w2.alloc (Obj.cells #[.int .i64 0] 3)) (TasksP (w2.alloc (Obj.cells #[.int .i64 0] 3)) [0] (orderB 10 [] (sayB ⟨6, txn, yes, ff, tt, epoch, shard, target, root⟩) (certB G D xs))) := relay_tasks_ok (s := ⟨6, txn, yes, ff, tt, epoch, shard, target, root⟩) (cg := 1) hg1 (by simp) (by simp) (orderB_len (by simp) (by have := sayB_short ⟨6, txn, yes, ff, tt, epoch, shard, target, root⟩; rw [show wordB ⟨6, txn, yes, ff, tt, epoch, shard, target, root⟩ = _ from if_pos HOK.out] at this; exact this) (certB_len HXL.out)) (fun w' hf => order_cert (by omega) (by omega) ⟨by omega, by omega⟩ HOK.out (HC.out.fr (hf03.then_ hf) (fun _ _ => id)) (Nat.le_trans hbC (hf03.then_ hf).size) HXL.out HG.out)
 replace HT := Lib.hid HT
 clear hg1
 go_wp2_with (first
  | (refine wpList_load_row rfl 62 _ rfl _ rfl _ _ (0, 0) _ hB2 Tryz.underlying62 rfl (by kernel_rfl) ?_)
  | (go_at_call 64; refine HT.out.mono ?_; rintro e w' ⟨v, rfl, hv, hf'⟩))
 go_ret
 exact ⟨v, rfl, hv.base_ hf03.size, hf03.then_ hf'⟩
def besideOf (L : List (List Int)) (l : List Ent) : List Int := if l = [] then [((digI L noneB : Nat) : Int)] else []
def bookOf (L : List (List Int)) (l : List Ent) : List (List Int) := if l = [] then digL L noneB else L
def keepE (ff tt : ByteArray) (l : List Ent) : List Ent := l.filter fun x => !dropE ff tt x
theorem merkle_Prove {w : World} {g m base : Nat} {v : Value} {L : List (List Int)} (hb : BookAt w g m base v L) (hbase : base ≤ w.heap.size) (hL : L.length < 65536) {F : Nat → Prop} {A : Option Addr} {l : List Ent} {cap : Nat} (h : EntRow w F A l) (hll : l.length ≤ 60000) (hyes : risesE l = true) (hcap : l.length ≤ cap) :
  Calls Tryz.prog 84 #[.pointer (some ⟨g, 0, none⟩), .slice A l.length cap, .int .i64 0, .int .i64 l.length] w (ProveP w g m base v L l (besideOf L l) (bookOf L l)) := by
 unfold besideOf bookOf
 by_cases he : l = []
 ·rw [if_pos he, if_pos he]
  exact prove_none hb hbase hL h hll hyes hcap he
 ·rw [if_neg he, if_neg he]
  exact prove_all hb hbase hL h hll hyes hcap (by cases l with | nil => exact absurd rfl he | cons x r => simp)
def RelStep (w : World) (g m base : Nat) (v : Value) (L' : List (List Int)) (gg b : List Int) (e : Ending) (w' : World) : Prop :=
 ∃ tv v', e = .returned tv ∧ TasksAt w' w.heap.size tv gg b ∧ BookAt w' g m base v' L' ∧ Fr (fun k => k = g ∨ k = m ∨ v.ownBlock = some k) w w' ∧ ∀ k, v'.ownBlock = some k → v.ownBlock = some k ∨ w.heap.size ≤ k
theorem TasksP.rel {w : World} {g m base : Nat} {v : Value} {L : List (List Int)} (hb : BookAt w g m base v L) {gg b : List Int} {e : Ending} {w' : World} (h : TasksP w gg b e w') : RelStep w g m base v L gg b e w' := by
 obtain ⟨tv, rfl, h1, h2⟩ := h
 exact ⟨tv, v, rfl, h1, hb.keep h2, h2.mono (fun _ _ h => h.elim), fun k hk => .inl hk⟩
theorem EntRow.lts {w : World} {F : Nat → Prop} {A : Option Addr} {l : List Ent} (h : EntRow w F A l) : EntRow w (fun k => k < w.heap.size) A l := fun k x hx => by
 obtain ⟨b, o, e, _, h1, h2⟩ := h k x hx
 exact ⟨b, o, e, World.block_lt_of_cell? w _ h1, h1, h2⟩
theorem IntF.lts {w : World} {F : Nat → Prop} {A : Option Addr} {l : List Int} (h : IntF w F A l) : IntF w (fun k => k < w.heap.size) A l := fun k x hx => by
 obtain ⟨b, o, e, _, h1⟩ := h k x hx
 exact ⟨b, o, e, World.block_lt_of_cell? w _ h1, h1⟩
theorem group_at (w : World) (a : Int) : IntRow (w.alloc (Obj.cells #[.int .i64 a] 3)) (w.heap.size + 1) (some ⟨w.heap.size, 0, none⟩) [a] := by
 intro k x h
 match k, h with
 | 0, h => cases h; exact ⟨_, 0, rfl, by omega, (Blk.new w 3 #[.int .i64 a]).cell 0⟩
theorem told_fro_no {w : World} {bk : Value} {txn : Int} {yes : Bool} {ff tt : ByteArray} {epoch shard target root : Int} (h : OkSay ⟨5, txn, yes, ff, tt, epoch, shard, target, root⟩) {G D fr : Int} {C : Option Addr} {nx cx : Nat} {FE : Nat → Prop} {LA : Option Addr} {lc : Nat} {l : List Ent} (hE : EntRow w FE LA l) (hll : l.length ≤ 60000) (hne : (fr == shard + 1) = false) :
  Calls Tryz.prog 45 #[bk, .agg #[.int .i64 0, .int .i64 0, .int .i64 0, .slice none 0 0, .slice none 0 0, .int .i64 5, .int .i64 txn, .bool yes, .string ff, .string tt, .int .i64 epoch, .int .i64 shard, .int .i64 target, .int .i64 root, .int .i64 G, .int .i64 D, .slice C nx cx, .int .i64 0, .int .i64 0, .slice none 0 0, .slice none 0 0], .int .i64 fr, .slice LA l.length lc] w (TasksP w [] []) := by
 have hsh : (0 ≤ shard ∧ shard ≤ 3) ∧ (0 ≤ target ∧ target ≤ 3) := by
  obtain ⟨a0, a1, a2, a3, a4, a5, a6, a7, a8, a9, a10, a11, a12, a13⟩ := h
  dsimp only at a10 a11 a12 a13
  omega
 have hwr : wrap64 (shard + 1) = shard + 1 := by unfold wrap64; omega
 have HW := Lib.hid hwr
 have hwt : wrap64 (target + 1) = target + 1 := by unfold wrap64; omega
 have HWT := Lib.hid hwt
 clear hwr hwt
 have HOK := Lib.hid h
 clear h
 have hB0 := Blk.new w 62 #[.int .i64 0, .int .i64 0, .int .i64 0, .slice none 0 0, .slice none 0 0, .int .i64 5, .int .i64 txn, .bool yes, .string ff, .string tt, .int .i64 epoch, .int .i64 shard, .int .i64 target, .int .i64 root, .int .i64 G, .int .i64 D, .slice C nx cx, .int .i64 0, .int .i64 0, .slice none 0 0, .slice none 0 0]
 have hf0 : Fr (fun _ => False) w (w.alloc (Obj.cells #[.int .i64 0, .int .i64 0, .int .i64 0, .slice none 0 0, .slice none 0 0, .int .i64 5, .int .i64 txn, .bool yes, .string ff, .string tt, .int .i64 epoch, .int .i64 shard, .int .i64 target, .int .i64 root, .int .i64 G, .int .i64 D, .slice C nx cx, .int .i64 0, .int .i64 0, .slice none 0 0, .slice none 0 0] 62)) := (Fr.refl _ _).alloc _
 go_enter Tryz.func45, Tryz.ntmps45
 go_upto_region 1 with fail
 generalize w.alloc (Obj.cells #[.int .i64 0, .int .i64 0, .int .i64 0, .slice none 0 0, .slice none 0 0, .int .i64 5, .int .i64 txn, .bool yes, .string ff, .string tt, .int .i64 epoch, .int .i64 shard, .int .i64 target, .int .i64 root, .int .i64 G, .int .i64 D, .slice C nx cx, .int .i64 0, .int .i64 0, .slice none 0 0, .slice none 0 0] 62) = w0 at *
 have k5 := hB0.cell 5
 have k6 := hB0.cell 6
 have k7 := hB0.cell 7
 have k8 := hB0.cell 8
 have k9 := hB0.cell 9
 have k10 := hB0.cell 10
 have k11 := hB0.cell 11
 have k12 := hB0.cell 12
 have k13 := hB0.cell 13
 go_upto_region 2 with fail
 have hB1 := hB0.alloc (Obj.cells #[.int .i64 5, .int .i64 txn, .bool yes, .string ff, .string tt, .int .i64 epoch, .int .i64 shard, .int .i64 target, .int .i64 root] 23)
 have hS1 := Blk.new w0 23 #[.int .i64 5, .int .i64 txn, .bool yes, .string ff, .string tt, .int .i64 epoch, .int .i64 shard, .int .i64 target, .int .i64 root]
 have hf1 := hf0.alloc (Obj.cells #[.int .i64 5, .int .i64 txn, .bool yes, .string ff, .string tt, .int .i64 epoch, .int .i64 shard, .int .i64 target, .int .i64 root] 23)
 go_upto_region 2 with fail
 generalize w0.alloc (Obj.cells #[.int .i64 5, .int .i64 txn, .bool yes, .string ff, .string tt, .int .i64 epoch, .int .i64 shard, .int .i64 target, .int .i64 root] 23) = w1 at *
 have s0 := hS1.cell 0
 have s6 := hS1.cell 6
 have s7 := hS1.cell 7
 clear hf0 k5 k6 k7 k8 k9 k10 k11 k12 k13
 go_upto_region 4 with (go_at_call 79; refine (relay_group _ _).mono ?_; rintro e w' ⟨rfl, rfl⟩; rw [HW.out])
 have kf := hB1.frozen 0
 have k0 := hB1.cell 0
 have hSr := hS1
 have hll' : l.length ≤ 1000000 := by omega
 have HCl := Lib.hid (cloneEnt (cap := lc) (hE.fr hf1 (fun _ _ => id)) hll')
 clear hE k0 kf s0 s6 s7
 have s0 := hS1.cell 0
 go_upto_region 9 with (first
  | (go_at_call 81; refine HDl.out.mono ?_; rintro e w3 ⟨A3, n3, c3, rfl, hn3, hc3, hE3, hf3⟩; replace hn3 := Lib.hid hn3)
  | (go_at_call 82; refine HCl.out.mono ?_; rintro e w2 ⟨v2, rfl, ho2, hf2⟩; have hS2 := hS1.fr hf2 id; have HDl := Lib.hid (deleteEnt (p := dropE ff tt) (sb := w0.heap.size) ho2 hll' (fun w' x hf' => told1 ((hS2.fr hf' (own_ne_blk ho2 hS2 (by decide))).cell 3) ((hS2.fr hf' (own_ne_blk ho2 hS2 (by decide))).cell 4) x))))
 have hf13 : Fr (fun _ => False) w1 w3 := hf2.trans hf3 (fun k hk e => by have := own_ge ho2 k e; omega)
 have hS3 := hS1.fr hf13 id
 have hB3 := hB1.fr hf13 id
 have hf03 := hf1.then_ hf13
 clear hS2 HDl HCl ho2 hf2 hf3 hf13 hS1 hSr hB1 hf1 hB0
 obtain ⟨own, hown⟩ : ∃ o, keepE ff tt l = o := ⟨_, rfl⟩
 have hkp : (l.filter fun x => !dropE ff tt x) = own := hown
 replace hn3 := hn3.out
 rw [hkp] at hn3 hE3
 subst hn3
 have HOWN := Lib.hid hown
 have hol : own.length ≤ l.length := by rw [← hkp]; exact List.length_filter_le _ _
 clear hown hkp
 go_wp2_with fail
 go_ret
 exact ⟨.slice none 0 0, rfl, TasksAt.nil _ _ _, hf03⟩
theorem told_fro_bad {w : World} {bk : Value} {txn : Int} {yes : Bool} {ff tt : ByteArray} {epoch shard target root : Int} (h : OkSay ⟨5, txn, yes, ff, tt, epoch, shard, target, root⟩) {G D fr : Int} {C : Option Addr} {nx cx : Nat} {FE : Nat → Prop} {LA : Option Addr} {lc : Nat} {l : List Ent} (hE : EntRow w FE LA l) (hll : l.length ≤ 60000) (hfr : fr = shard + 1) (hbad : risesE (keepE ff tt l) = false) :
  Calls Tryz.prog 45 #[bk, .agg #[.int .i64 0, .int .i64 0, .int .i64 0, .slice none 0 0, .slice none 0 0, .int .i64 5, .int .i64 txn, .bool yes, .string ff, .string tt, .int .i64 epoch, .int .i64 shard, .int .i64 target, .int .i64 root, .int .i64 G, .int .i64 D, .slice C nx cx, .int .i64 0, .int .i64 0, .slice none 0 0, .slice none 0 0], .int .i64 fr, .slice LA l.length lc] w (TasksP w [] []) := by
 subst hfr
 replace hbad := Lib.hid hbad
 have hsh : (0 ≤ shard ∧ shard ≤ 3) ∧ (0 ≤ target ∧ target ≤ 3) := by
  obtain ⟨a0, a1, a2, a3, a4, a5, a6, a7, a8, a9, a10, a11, a12, a13⟩ := h
  dsimp only at a10 a11 a12 a13
  omega
 have hwr : wrap64 (shard + 1) = shard + 1 := by unfold wrap64; omega
 have HW := Lib.hid hwr
 have hwt : wrap64 (target + 1) = target + 1 := by unfold wrap64; omega
 have HWT := Lib.hid hwt
 clear hwr hwt
 have HOK := Lib.hid h
 clear h
 have hB0 := Blk.new w 62 #[.int .i64 0, .int .i64 0, .int .i64 0, .slice none 0 0, .slice none 0 0, .int .i64 5, .int .i64 txn, .bool yes, .string ff, .string tt, .int .i64 epoch, .int .i64 shard, .int .i64 target, .int .i64 root, .int .i64 G, .int .i64 D, .slice C nx cx, .int .i64 0, .int .i64 0, .slice none 0 0, .slice none 0 0]
 have hf0 : Fr (fun _ => False) w (w.alloc (Obj.cells #[.int .i64 0, .int .i64 0, .int .i64 0, .slice none 0 0, .slice none 0 0, .int .i64 5, .int .i64 txn, .bool yes, .string ff, .string tt, .int .i64 epoch, .int .i64 shard, .int .i64 target, .int .i64 root, .int .i64 G, .int .i64 D, .slice C nx cx, .int .i64 0, .int .i64 0, .slice none 0 0, .slice none 0 0] 62)) := (Fr.refl _ _).alloc _
 go_enter Tryz.func45, Tryz.ntmps45
 go_upto_region 1 with fail
 generalize w.alloc (Obj.cells #[.int .i64 0, .int .i64 0, .int .i64 0, .slice none 0 0, .slice none 0 0, .int .i64 5, .int .i64 txn, .bool yes, .string ff, .string tt, .int .i64 epoch, .int .i64 shard, .int .i64 target, .int .i64 root, .int .i64 G, .int .i64 D, .slice C nx cx, .int .i64 0, .int .i64 0, .slice none 0 0, .slice none 0 0] 62) = w0 at *
 have k5 := hB0.cell 5
 have k6 := hB0.cell 6
 have k7 := hB0.cell 7
 have k8 := hB0.cell 8
 have k9 := hB0.cell 9
 have k10 := hB0.cell 10
 have k11 := hB0.cell 11
 have k12 := hB0.cell 12
 have k13 := hB0.cell 13
 go_upto_region 2 with fail
 have hB1 := hB0.alloc (Obj.cells #[.int .i64 5, .int .i64 txn, .bool yes, .string ff, .string tt, .int .i64 epoch, .int .i64 shard, .int .i64 target, .int .i64 root] 23)
 have hS1 := Blk.new w0 23 #[.int .i64 5, .int .i64 txn, .bool yes, .string ff, .string tt, .int .i64 epoch, .int .i64 shard, .int .i64 target, .int .i64 root]
 have hf1 := hf0.alloc (Obj.cells #[.int .i64 5, .int .i64 txn, .bool yes, .string ff, .string tt, .int .i64 epoch, .int .i64 shard, .int .i64 target, .int .i64 root] 23)
 go_upto_region 2 with fail
 generalize w0.alloc (Obj.cells #[.int .i64 5, .int .i64 txn, .bool yes, .string ff, .string tt, .int .i64 epoch, .int .i64 shard, .int .i64 target, .int .i64 root] 23) = w1 at *
 have s0 := hS1.cell 0
 have s6 := hS1.cell 6
 have s7 := hS1.cell 7
 clear hf0 k5 k6 k7 k8 k9 k10 k11 k12 k13
 go_upto_region 4 with (go_at_call 79; refine (relay_group _ _).mono ?_; rintro e w' ⟨rfl, rfl⟩; rw [HW.out])
 have kf := hB1.frozen 0
 have k0 := hB1.cell 0
 have hSr := hS1
 have hll' : l.length ≤ 1000000 := by omega
 have HCl := Lib.hid (cloneEnt (cap := lc) (hE.fr hf1 (fun _ _ => id)) hll')
 clear hE k0 kf s0 s6 s7
 have s0 := hS1.cell 0
 go_upto_region 9 with (first
  | (go_at_call 81; refine HDl.out.mono ?_; rintro e w3 ⟨A3, n3, c3, rfl, hn3, hc3, hE3, hf3⟩; replace hn3 := Lib.hid hn3)
  | (go_at_call 82; refine HCl.out.mono ?_; rintro e w2 ⟨v2, rfl, ho2, hf2⟩; have hS2 := hS1.fr hf2 id; have HDl := Lib.hid (deleteEnt (p := dropE ff tt) (sb := w0.heap.size) ho2 hll' (fun w' x hf' => told1 ((hS2.fr hf' (own_ne_blk ho2 hS2 (by decide))).cell 3) ((hS2.fr hf' (own_ne_blk ho2 hS2 (by decide))).cell 4) x))))
 have hf13 : Fr (fun _ => False) w1 w3 := hf2.trans hf3 (fun k hk e => by have := own_ge ho2 k e; omega)
 have hS3 := hS1.fr hf13 id
 have hB3 := hB1.fr hf13 id
 have hf03 := hf1.then_ hf13
 clear hS2 HDl HCl ho2 hf2 hf3 hf13 hS1 hSr hB1 hf1 hB0
 obtain ⟨own, hown⟩ : ∃ o, keepE ff tt l = o := ⟨_, rfl⟩
 have hkp : (l.filter fun x => !dropE ff tt x) = own := hown
 replace hn3 := hn3.out
 rw [hkp] at hn3 hE3
 subst hn3
 have HOWN := Lib.hid hown
 have hol : own.length ≤ l.length := by rw [← hkp]; exact List.length_filter_le _ _
 clear hown hkp
 replace hbad := hbad.out
 rw [HOWN.out] at hbad
 have HP := Lib.hid (fun bk => prove_bad (cap := c3) hE3 (by omega) hbad bk)
 clear hE3 hbad
 go_wp2_with (go_at_call 84; refine (HP.out _).mono ?_; rintro e w4 ⟨t, u, rfl, hf4⟩)
 go_ret
 exact ⟨.slice none 0 0, rfl, TasksAt.nil _ _ _, (hf03.then_ hf4).alloc _⟩
theorem told_fro {w : World} {txn : Int} {yes : Bool} {ff tt : ByteArray} {epoch shard target root : Int} (h : OkSay ⟨5, txn, yes, ff, tt, epoch, shard, target, root⟩) {G D fr : Int} {FE : Nat → Prop} {LA : Option Addr} {lc : Nat} {l : List Ent} (hE : EntRow w FE LA l) (hll : l.length ≤ 60000) {bC : Nat} {C : Option Addr} {cx : Nat} {xs : List Int} (hC : IntRow w bC C xs) (hbC : bC ≤ w.heap.size) (hxl : xs.length ≤ 1024) (hg : getOk (num8 G ++ num8 D ++ numsB xs)) {g m base : Nat} {v : Value} {L : List (List Int)} (hb : BookAt w g m base v L) (hbase : base ≤ w.heap.size) (hL : L.length < 65536) (HF : ∀ b o, C = some ⟨b, o, none⟩ → ¬ (b = g ∨ b = m ∨ v.ownBlock = some b)) (hfr : fr = shard + 1) (hok : risesE (keepE ff tt l) = true) :
  Calls Tryz.prog 45 #[.pointer (some ⟨g, 0, none⟩), .agg #[.int .i64 0, .int .i64 0, .int .i64 0, .slice none 0 0, .slice none 0 0, .int .i64 5, .int .i64 txn, .bool yes, .string ff, .string tt, .int .i64 epoch, .int .i64 shard, .int .i64 target, .int .i64 root, .int .i64 G, .int .i64 D, .slice C xs.length cx, .int .i64 0, .int .i64 0, .slice none 0 0, .slice none 0 0], .int .i64 fr, .slice LA l.length lc] w (RelStep w g m base v (bookOf L (keepE ff tt l)) [target + 1] (ordB 4 [] (sayB ⟨5, txn, yes, ff, tt, epoch, shard, target, root⟩) (certB G D xs) (keepE ff tt l).length 0 (keepE ff tt l) (besideOf L (keepE ff tt l)))) := by
 subst hfr
 have HC := Lib.hid hC
 have HG := Lib.hid hg
 have HXL := Lib.hid hxl
 replace hok := Lib.hid hok
 replace HF := Lib.hid HF
 clear hC hg hxl
 have hsh : (0 ≤ shard ∧ shard ≤ 3) ∧ (0 ≤ target ∧ target ≤ 3) := by
  obtain ⟨a0, a1, a2, a3, a4, a5, a6, a7, a8, a9, a10, a11, a12, a13⟩ := h
  dsimp only at a10 a11 a12 a13
  omega
 have hwr : wrap64 (shard + 1) = shard + 1 := by unfold wrap64; omega
 have HW := Lib.hid hwr
 have hwt : wrap64 (target + 1) = target + 1 := by unfold wrap64; omega
 have HWT := Lib.hid hwt
 clear hwr hwt
 have HOK := Lib.hid h
 clear h
 have hB0 := Blk.new w 62 #[.int .i64 0, .int .i64 0, .int .i64 0, .slice none 0 0, .slice none 0 0, .int .i64 5, .int .i64 txn, .bool yes, .string ff, .string tt, .int .i64 epoch, .int .i64 shard, .int .i64 target, .int .i64 root, .int .i64 G, .int .i64 D, .slice C xs.length cx, .int .i64 0, .int .i64 0, .slice none 0 0, .slice none 0 0]
 have hf0 : Fr (fun _ => False) w (w.alloc (Obj.cells #[.int .i64 0, .int .i64 0, .int .i64 0, .slice none 0 0, .slice none 0 0, .int .i64 5, .int .i64 txn, .bool yes, .string ff, .string tt, .int .i64 epoch, .int .i64 shard, .int .i64 target, .int .i64 root, .int .i64 G, .int .i64 D, .slice C xs.length cx, .int .i64 0, .int .i64 0, .slice none 0 0, .slice none 0 0] 62)) := (Fr.refl _ _).alloc _
 go_enter Tryz.func45, Tryz.ntmps45
 go_upto_region 1 with fail
 generalize w.alloc (Obj.cells #[.int .i64 0, .int .i64 0, .int .i64 0, .slice none 0 0, .slice none 0 0, .int .i64 5, .int .i64 txn, .bool yes, .string ff, .string tt, .int .i64 epoch, .int .i64 shard, .int .i64 target, .int .i64 root, .int .i64 G, .int .i64 D, .slice C xs.length cx, .int .i64 0, .int .i64 0, .slice none 0 0, .slice none 0 0] 62) = w0 at *
 have k5 := hB0.cell 5
 have k6 := hB0.cell 6
 have k7 := hB0.cell 7
 have k8 := hB0.cell 8
 have k9 := hB0.cell 9
 have k10 := hB0.cell 10
 have k11 := hB0.cell 11
 have k12 := hB0.cell 12
 have k13 := hB0.cell 13
 go_upto_region 2 with fail
 have hB1 := hB0.alloc (Obj.cells #[.int .i64 5, .int .i64 txn, .bool yes, .string ff, .string tt, .int .i64 epoch, .int .i64 shard, .int .i64 target, .int .i64 root] 23)
 have hS1 := Blk.new w0 23 #[.int .i64 5, .int .i64 txn, .bool yes, .string ff, .string tt, .int .i64 epoch, .int .i64 shard, .int .i64 target, .int .i64 root]
 have hf1 := hf0.alloc (Obj.cells #[.int .i64 5, .int .i64 txn, .bool yes, .string ff, .string tt, .int .i64 epoch, .int .i64 shard, .int .i64 target, .int .i64 root] 23)
 go_upto_region 2 with fail
 generalize w0.alloc (Obj.cells #[.int .i64 5, .int .i64 txn, .bool yes, .string ff, .string tt, .int .i64 epoch, .int .i64 shard, .int .i64 target, .int .i64 root] 23) = w1 at *
 have s0 := hS1.cell 0
 have s6 := hS1.cell 6
 have s7 := hS1.cell 7
 clear hf0 k5 k6 k7 k8 k9 k10 k11 k12 k13
 go_upto_region 4 with (go_at_call 79; refine (relay_group _ _).mono ?_; rintro e w' ⟨rfl, rfl⟩; rw [HW.out])
 have kf := hB1.frozen 0
 have k0 := hB1.cell 0
 have hSr := hS1
 have hll' : l.length ≤ 1000000 := by omega
 have HCl := Lib.hid (cloneEnt (cap := lc) (hE.fr hf1 (fun _ _ => id)) hll')
 clear hE k0 kf s0 s6 s7
 have s0 := hS1.cell 0
 go_upto_region 9 with (first
  | (go_at_call 81; refine HDl.out.mono ?_; rintro e w3 ⟨A3, n3, c3, rfl, hn3, hc3, hE3, hf3⟩; replace hn3 := Lib.hid hn3)
  | (go_at_call 82; refine HCl.out.mono ?_; rintro e w2 ⟨v2, rfl, ho2, hf2⟩; have hS2 := hS1.fr hf2 id; have HDl := Lib.hid (deleteEnt (p := dropE ff tt) (sb := w0.heap.size) ho2 hll' (fun w' x hf' => told1 ((hS2.fr hf' (own_ne_blk ho2 hS2 (by decide))).cell 3) ((hS2.fr hf' (own_ne_blk ho2 hS2 (by decide))).cell 4) x))))
 have hf13 : Fr (fun _ => False) w1 w3 := hf2.trans hf3 (fun k hk e => by have := own_ge ho2 k e; omega)
 have hS3 := hS1.fr hf13 id
 have hB3 := hB1.fr hf13 id
 have hf03 := hf1.then_ hf13
 clear hS2 HDl HCl ho2 hf2 hf3 hf13 hS1 hSr hB1 hf1 hB0
 obtain ⟨own, hown⟩ : ∃ o, keepE ff tt l = o := ⟨_, rfl⟩
 have hkp : (l.filter fun x => !dropE ff tt x) = own := hown
 replace hn3 := hn3.out
 rw [hkp] at hn3 hE3
 subst hn3
 have HOWN := Lib.hid hown
 have hol : own.length ≤ l.length := by rw [← hkp]; exact List.length_filter_le _ _
 clear hown hkp
 replace hok := hok.out
 rw [HOWN.out] at hok ⊢
 have hb3 := hb.keep hf03
 have HP := Lib.hid (merkle_Prove (cap := c3) hb3 (Nat.le_trans hbase hf03.size) hL hE3 (by omega) hok hc3)
 have HOKR := Lib.hid hok
 obtain ⟨Bs, hBs⟩ : ∃ b, Hid (besideOf L own = b) := ⟨_, rfl⟩
 obtain ⟨LB, hLB⟩ : ∃ b, Hid (bookOf L own = b) := ⟨_, rfl⟩
 have hBd : Hid (Bs.length ≤ 1024 ∧ ∀ d ∈ Bs, 0 ≤ d ∧ d ≤ 2147483647) := by
  show _ ∧ _
  rw [← hBs.out]
  unfold besideOf
  split
  ·refine ⟨by simp, fun d hd => ?_⟩
   rw [List.mem_singleton.1 hd]
   have : digI L noneB ≤ L.length := by
    unfold digI
    split
    ·exact List.idxOf_le_length
    ·exact Nat.le_refl _
   omega
  ·exact ⟨by simp, fun d hd => by cases hd⟩
 rw [hBs.out, hLB.out] at HP ⊢
 clear hE3 hok hb
 go_upto_region 12 with (go_at_call 84; refine HP.out.mono ?_; rintro e w4 ⟨EA, ec, VA, vc, v4, rfl, hE4, hV4, hb4, hf4, hk4⟩)
 have hS4 := hb3.farB hS3 (by decide) (by decide) hf4
 have hB4 := hb3.farB hB3 (by decide) (by decide) hf4
 have hP5 := Blk.new w4 60 #[.int .i64 own.length, .int .i64 0, .slice EA own.length ec, .slice VA Bs.length vc]
 have hf45 : Fr (fun _ => False) w4 (w4.alloc (Obj.cells #[.int .i64 own.length, .int .i64 0, .slice EA own.length ec, .slice VA Bs.length vc] 60)) := (Fr.refl _ _).alloc _
 have hS5 := hS4.fr hf45 id
 have hB5 := hB4.fr hf45 id
 have hE5 := hE4.fr hf45 (fun _ _ => id)
 have hV5 := hV4.fr hf45 (fun _ _ => id)
 have hb5 := hb4.keep hf45
 have hf05 : Fr (fun k => k = g ∨ k = m ∨ v.ownBlock = some k) w (w4.alloc (Obj.cells #[.int .i64 own.length, .int .i64 0, .slice EA own.length ec, .slice VA Bs.length vc] 60)) := ((hf03.mono (fun _ _ h => h.elim)).trans hf4 (fun _ _ h => h)).then_ hf45
 have hgO : w.heap.size < w3.heap.size := hB3.lt
 have hk5 : ∀ k, v4.ownBlock = some k → v.ownBlock = some k ∨ w.heap.size ≤ k := fun k hk => (hk4 k hk).imp_right (Nat.le_trans hf03.size)
 generalize w4.alloc (Obj.cells #[.int .i64 own.length, .int .i64 0, .slice EA own.length ec, .slice VA Bs.length vc] 60) = w5 at *
 obtain ⟨gP, hgP⟩ : ∃ x, w4.heap.size = x := ⟨_, rfl⟩
 rw [hgP] at hP5 ⊢
 have hne : gP ≠ w.heap.size := by have := hf4.size; omega
 clear hgP hS4 hB4 hE4 hV4 hb4 hb3 HP hS3 hB3 hf45 hk4 s0
 go_upto_region 14 with fail
 go_cut [] from 44 to 46 (fun wx => Blk wx w.heap.size 62 #[.int .i64 4, .int .i64 0, .int .i64 0, .slice none 0 0, .slice none 0 0, .int .i64 5, .int .i64 txn, .bool yes, .string ff, .string tt, .int .i64 epoch, .int .i64 shard, .int .i64 target, .int .i64 root, .int .i64 G, .int .i64 D, .slice C xs.length cx, .int .i64 own.length, .int .i64 0, .slice EA own.length ec, .slice VA Bs.length vc] ∧ Fr (fun k => k = w.heap.size) w5 wx)
 case first =>
  have p0 := hP5.cell 0
  have p1 := hP5.cell 1
  have p2 := hP5.cell 2
  have p3 := hP5.cell 3
  have k0 := hB5.cell 0
  have f0 := hB5.frozen 0
  have k17 := hB5.cell 17
  have f17 := hB5.frozen 17
  have k18 := hB5.cell 18
  have f18 := hB5.frozen 18
  have k19 := hB5.cell 19
  have f19 := hB5.frozen 19
  have k20 := hB5.cell 20
  have f20 := hB5.frozen 20
  refine wp_region_noPanic ?_
  refine wp_region_held_drew (S := (fun w' => w'.cell? ⟨gP, 0, none⟩ = some (.int .i64 own.length) ∧ w'.cell? ⟨gP, 1, none⟩ = some (.int .i64 0) ∧ w'.cell? ⟨gP, 2, none⟩ = some (.slice EA own.length ec) ∧ w'.cell? ⟨gP, 3, none⟩ = some (.slice VA Bs.length vc))) (by kernel_rfl) (⟨p0, p1, p2, p3⟩) (fun hHeld => ?_)
  refine tk 0 44 ?_
  refine tk 1 45 ?_
  refine rd 2 (fun K hK => ?_)
  go_simp
  have hPx : Blk (w5.setCell ⟨w.heap.size, 0, none⟩ (.int .i64 4)) gP 60 #[.int .i64 own.length, .int .i64 0, .slice EA own.length ec, .slice VA Bs.length vc] := (hP5.far (p := ⟨w.heap.size, 0, none⟩) hne (.int .i64 4))
  refine hK.out _ _ (⟨hPx.cell 0, hPx.cell 1, hPx.cell 2, hPx.cell 3⟩) (fun hHeld => ?_)
  clear hK K
  refine tk 3 46 ?_
  refine rd 4 (fun K hK => ?_)
  go_simp
  have hB5a1 : Blk (w5.setCell ⟨w.heap.size, 0, none⟩ (.int .i64 4)) w.heap.size 62 #[.int .i64 4, .int .i64 0, .int .i64 0, .slice none 0 0, .slice none 0 0, .int .i64 5, .int .i64 txn, .bool yes, .string ff, .string tt, .int .i64 epoch, .int .i64 shard, .int .i64 target, .int .i64 root, .int .i64 G, .int .i64 D, .slice C xs.length cx, .int .i64 0, .int .i64 0, .slice none 0 0, .slice none 0 0] := hB5.set_ 0 _
  have hB5a2 : Blk ((w5.setCell ⟨w.heap.size, 0, none⟩ (.int .i64 4)).setCell ⟨w.heap.size, 17, none⟩ (.int .i64 own.length)) w.heap.size 62 #[.int .i64 4, .int .i64 0, .int .i64 0, .slice none 0 0, .slice none 0 0, .int .i64 5, .int .i64 txn, .bool yes, .string ff, .string tt, .int .i64 epoch, .int .i64 shard, .int .i64 target, .int .i64 root, .int .i64 G, .int .i64 D, .slice C xs.length cx, .int .i64 own.length, .int .i64 0, .slice none 0 0, .slice none 0 0] := hB5a1.set_ 17 _
  have hB5a3 : Blk (((w5.setCell ⟨w.heap.size, 0, none⟩ (.int .i64 4)).setCell ⟨w.heap.size, 17, none⟩ (.int .i64 own.length)).setCell ⟨w.heap.size, 18, none⟩ (.int .i64 0)) w.heap.size 62 #[.int .i64 4, .int .i64 0, .int .i64 0, .slice none 0 0, .slice none 0 0, .int .i64 5, .int .i64 txn, .bool yes, .string ff, .string tt, .int .i64 epoch, .int .i64 shard, .int .i64 target, .int .i64 root, .int .i64 G, .int .i64 D, .slice C xs.length cx, .int .i64 own.length, .int .i64 0, .slice none 0 0, .slice none 0 0] := hB5a2.set_ 18 _
  have hB5a4 : Blk ((((w5.setCell ⟨w.heap.size, 0, none⟩ (.int .i64 4)).setCell ⟨w.heap.size, 17, none⟩ (.int .i64 own.length)).setCell ⟨w.heap.size, 18, none⟩ (.int .i64 0)).setCell ⟨w.heap.size, 19, none⟩ (.slice EA own.length ec)) w.heap.size 62 #[.int .i64 4, .int .i64 0, .int .i64 0, .slice none 0 0, .slice none 0 0, .int .i64 5, .int .i64 txn, .bool yes, .string ff, .string tt, .int .i64 epoch, .int .i64 shard, .int .i64 target, .int .i64 root, .int .i64 G, .int .i64 D, .slice C xs.length cx, .int .i64 own.length, .int .i64 0, .slice EA own.length ec, .slice none 0 0] := hB5a3.set_ 19 _
  have hB5a5 : Blk (((((w5.setCell ⟨w.heap.size, 0, none⟩ (.int .i64 4)).setCell ⟨w.heap.size, 17, none⟩ (.int .i64 own.length)).setCell ⟨w.heap.size, 18, none⟩ (.int .i64 0)).setCell ⟨w.heap.size, 19, none⟩ (.slice EA own.length ec)).setCell ⟨w.heap.size, 20, none⟩ (.slice VA Bs.length vc)) w.heap.size 62 #[.int .i64 4, .int .i64 0, .int .i64 0, .slice none 0 0, .slice none 0 0, .int .i64 5, .int .i64 txn, .bool yes, .string ff, .string tt, .int .i64 epoch, .int .i64 shard, .int .i64 target, .int .i64 root, .int .i64 G, .int .i64 D, .slice C xs.length cx, .int .i64 own.length, .int .i64 0, .slice EA own.length ec, .slice VA Bs.length vc] := hB5a4.set_ 20 _
  have hPy : Blk (((((w5.setCell ⟨w.heap.size, 0, none⟩ (.int .i64 4)).setCell ⟨w.heap.size, 17, none⟩ (.int .i64 own.length)).setCell ⟨w.heap.size, 18, none⟩ (.int .i64 0)).setCell ⟨w.heap.size, 19, none⟩ (.slice EA own.length ec)).setCell ⟨w.heap.size, 20, none⟩ (.slice VA Bs.length vc)) gP 60 #[.int .i64 own.length, .int .i64 0, .slice EA own.length ec, .slice VA Bs.length vc] := (((((hP5.far (p := ⟨w.heap.size, 0, none⟩) hne (.int .i64 4)).far (p := ⟨w.heap.size, 17, none⟩) hne (.int .i64 own.length)).far (p := ⟨w.heap.size, 18, none⟩) hne (.int .i64 0)).far (p := ⟨w.heap.size, 19, none⟩) hne (.slice EA own.length ec)).far (p := ⟨w.heap.size, 20, none⟩) hne (.slice VA Bs.length vc))
  have hfy : Fr (fun k => k = w.heap.size) w5 (((((w5.setCell ⟨w.heap.size, 0, none⟩ (.int .i64 4)).setCell ⟨w.heap.size, 17, none⟩ (.int .i64 own.length)).setCell ⟨w.heap.size, 18, none⟩ (.int .i64 0)).setCell ⟨w.heap.size, 19, none⟩ (.slice EA own.length ec)).setCell ⟨w.heap.size, 20, none⟩ (.slice VA Bs.length vc)) := (((((Fr.refl (fun k => k = w.heap.size) w5).setCell (p := ⟨w.heap.size, 0, none⟩) (fun _ => rfl) (.int .i64 4)).setCell (p := ⟨w.heap.size, 17, none⟩) (fun _ => rfl) (.int .i64 own.length)).setCell (p := ⟨w.heap.size, 18, none⟩) (fun _ => rfl) (.int .i64 0)).setCell (p := ⟨w.heap.size, 19, none⟩) (fun _ => rfl) (.slice EA own.length ec)).setCell (p := ⟨w.heap.size, 20, none⟩) (fun _ => rfl) (.slice VA Bs.length vc)
  clear hB5a1 hB5a2 hB5a3 hB5a4
  generalize (((((w5.setCell ⟨w.heap.size, 0, none⟩ (.int .i64 4)).setCell ⟨w.heap.size, 17, none⟩ (.int .i64 own.length)).setCell ⟨w.heap.size, 18, none⟩ (.int .i64 0)).setCell ⟨w.heap.size, 19, none⟩ (.slice EA own.length ec)).setCell ⟨w.heap.size, 20, none⟩ (.slice VA Bs.length vc)) = wz at *
  have hSz := (⟨hPy.cell 0, hPy.cell 1, hPy.cell 2, hPy.cell 3⟩ : wz.cell? ⟨gP, 0, none⟩ = some (.int .i64 own.length) ∧ wz.cell? ⟨gP, 1, none⟩ = some (.int .i64 0) ∧ wz.cell? ⟨gP, 2, none⟩ = some (.slice EA own.length ec) ∧ wz.cell? ⟨gP, 3, none⟩ = some (.slice VA Bs.length vc))
  refine hK.out _ _ hSz (fun hHeld => ?_)
  clear hK K
  refine wpAnyH_done (by kernel_rfl) ?_ _
  refine NoPanic.normal ?_
  go_wp2_with fail
  go_meet
  exact ⟨hB5a5.drew, hfy.drew⟩
 case rest =>
  obtain ⟨hB6, hf56⟩ := hcut
  have hS6 := hS5.fr hf56 (hS5.ne_ hB5 (by decide))
  have hE6 := (hE5.fr hf56 (fun k hk e => by omega)).lts
  have hV6 := (hV5.fr hf56 (fun k hk e => by omega)).lts
  have n2 : m ≠ w.heap.size := fun e => by obtain ⟨⟨es, cl, h1, _⟩, _⟩ := hb5.map; exact hB5.ne_map h1 e.symm
  have n3 := own_ne_blk hb5.own hB5 (by decide)
  have hb6 := hb5.fr hf56 (hb5.blk.ne_ hB5 (by decide)) n2 (fun k hk e => n3 (e ▸ hk))
  have hf06 := hf05.trans hf56 (fun k hk e => by omega)
  clear hS5 hB5 hE5 hV5 hb5 hP5 hf56 hf05 n2 n3
  generalize wc = w6 at *
  have s7 := hS6.cell 7
  have k0 := hB6.cell 0
  go_upto_region 21 with (go_at_call 79; refine (relay_group _ _).mono ?_; rintro e w' ⟨rfl, rfl⟩; rw [HWT.out])
  have hg1 := group_at w6 (target + 1)
  have hf67 : Fr (fun _ => False) w6 (w6.alloc (Obj.cells #[.int .i64 (target + 1)] 3)) := (Fr.refl _ _).alloc _
  have HT : Calls Tryz.prog 64 #[.agg #[.int .i64 4, .int .i64 0, .int .i64 0, .slice none 0 0, .slice none 0 0, .int .i64 5, .int .i64 txn, .bool yes, .string ff, .string tt, .int .i64 epoch, .int .i64 shard, .int .i64 target, .int .i64 root, .int .i64 G, .int .i64 D, .slice C xs.length cx, .int .i64 own.length, .int .i64 0, .slice EA own.length ec, .slice VA Bs.length vc], .slice (some ⟨w6.heap.size, 0, none⟩) 1 1] (w6.alloc (Obj.cells #[.int .i64 (target + 1)] 3)) (TasksP (w6.alloc (Obj.cells #[.int .i64 (target + 1)] 3)) [target + 1] (ordB 4 [] (sayB ⟨5, txn, yes, ff, tt, epoch, shard, target, root⟩) (certB G D xs) own.length 0 own Bs)) := relay_tasks_okP (s := ⟨5, txn, yes, ff, tt, epoch, shard, target, root⟩) (cg := 1) hg1 (by simp) (by simp) (ordB_len (by simp) (by have := sayB_short ⟨5, txn, yes, ff, tt, epoch, shard, target, root⟩; rw [show wordB ⟨5, txn, yes, ff, tt, epoch, shard, target, root⟩ = _ from if_pos HOK.out] at this; exact this) (certB_len HXL.out) HOKR.out hBd.out.1) (fun w' hf => order_certP (by omega) (by omega) ⟨by omega, by omega⟩ HOK.out ((HC.out.away hf06 HF.out).fr (hf67.then_ hf) (fun _ _ => id)) (Nat.le_trans hbC (hf06.then_ (hf67.then_ hf)).size) HXL.out HG.out ((hE6.fr (hf67.then_ hf) (fun _ _ => id)).lts) ((hV6.fr (hf67.then_ hf) (fun _ _ => id)).lts) HOKR.out hBd.out.1 hBd.out.2)
  replace HT := Lib.hid HT
  clear hg1
  go_wp2_with (first
   | (refine wpList_load_row rfl 62 _ rfl _ rfl _ _ (0, 0) _ hB6 Tryz.underlying62 rfl (by kernel_rfl) ?_)
   | (go_at_call 64; refine HT.out.mono ?_; rintro e w' ⟨tv, rfl, hv, hf'⟩))
  go_ret
  rw [HOWN.out, hLB.out, hBs.out]
  exact ⟨tv, v4, rfl, hv.base_ (Nat.le_trans hf06.size hf67.size), hb6.keep (hf67.then_ hf'), hf06.then_ (hf67.then_ hf'), hk5⟩
theorem ownsRow_built1 (w : World) (e : TypeId) (u : Value) : (w.alloc (.cells #[u] e)).ownsRow w.heap.size e 1 (.slice (some ⟨w.heap.size, 0, none⟩) 1 1) 1 [u] :=
 ⟨by simp, .inr ⟨w.heap.size, 1, #[u], rfl, Nat.le_refl _, heap_alloc_new w _, Nat.le_refl _, by simp only [maxLen]; omega, by simp, by simp⟩⟩
theorem own_introw {w : World} {base : Nat} {v : Value} {n : Nat} {l : List Int} (h : w.ownsRow base 3 1 v n (num64V l)) (hn : n = l.length) : ∃ A c, v = .slice A l.length c ∧ IntRow w w.heap.size A l := by
 subst hn
 obtain ⟨A, c, rfl, hr⟩ := own_ints h
 refine ⟨A, c, rfl, fun k x hx => ?_⟩
 obtain ⟨b, o, e, _, hc⟩ := hr k x hx
 exact ⟨b, o, e, World.block_lt_of_cell? w _ hc, hc⟩
theorem ruled_none {w : World} {kind : Int} {txn : Int} {yes : Bool} {ff tt : ByteArray} {epoch shard target root : Int} (h : OkSay ⟨kind, txn, yes, ff, tt, epoch, shard, target, root⟩) {G D : Int} {C : Option Addr} {nx cx : Nat} (q1 : (kind == 1) = false) (q3 : (kind == 3) = false) (q4 : (kind == 4) = false) (q7 : (kind == 7) = false) {bk sh : Value} :
  Calls Tryz.prog 44 #[bk, .agg #[.int .i64 0, .int .i64 0, .int .i64 0, .slice none 0 0, .slice none 0 0, .int .i64 kind, .int .i64 txn, .bool yes, .string ff, .string tt, .int .i64 epoch, .int .i64 shard, .int .i64 target, .int .i64 root, .int .i64 G, .int .i64 D, .slice C nx cx, .int .i64 0, .int .i64 0, .slice none 0 0, .slice none 0 0], sh] w (TasksP w [] []) := by
 have hsh : (0 ≤ shard ∧ shard ≤ 3) ∧ (0 ≤ target ∧ target ≤ 3) ∧ (0 ≤ txn ∧ txn ≤ 2147483647) := by
  obtain ⟨a0, a1, a2, a3, a4, a5, a6, a7, a8, a9, a10, a11, a12, a13⟩ := h
  dsimp only at a2 a3 a10 a11 a12 a13
  omega
 have hwr : wrap64 (shard + 1) = shard + 1 := by unfold wrap64; omega
 have HW := Lib.hid hwr
 have hwt : wrap64 (target + 1) = target + 1 := by unfold wrap64; omega
 have HWT := Lib.hid hwt
 clear hwr hwt
 have HOK := Lib.hid h
 clear h
 have hB0 := Blk.new w 62 #[.int .i64 0, .int .i64 0, .int .i64 0, .slice none 0 0, .slice none 0 0, .int .i64 kind, .int .i64 txn, .bool yes, .string ff, .string tt, .int .i64 epoch, .int .i64 shard, .int .i64 target, .int .i64 root, .int .i64 G, .int .i64 D, .slice C nx cx, .int .i64 0, .int .i64 0, .slice none 0 0, .slice none 0 0]
 have hf0 : Fr (fun _ => False) w (w.alloc (Obj.cells #[.int .i64 0, .int .i64 0, .int .i64 0, .slice none 0 0, .slice none 0 0, .int .i64 kind, .int .i64 txn, .bool yes, .string ff, .string tt, .int .i64 epoch, .int .i64 shard, .int .i64 target, .int .i64 root, .int .i64 G, .int .i64 D, .slice C nx cx, .int .i64 0, .int .i64 0, .slice none 0 0, .slice none 0 0] 62)) := (Fr.refl _ _).alloc _
 go_enter Tryz.func44, Tryz.ntmps44
 go_upto_region 1 with fail
 generalize w.alloc (Obj.cells #[.int .i64 0, .int .i64 0, .int .i64 0, .slice none 0 0, .slice none 0 0, .int .i64 kind, .int .i64 txn, .bool yes, .string ff, .string tt, .int .i64 epoch, .int .i64 shard, .int .i64 target, .int .i64 root, .int .i64 G, .int .i64 D, .slice C nx cx, .int .i64 0, .int .i64 0, .slice none 0 0, .slice none 0 0] 62) = w0 at *
 have k5 := hB0.cell 5
 have k6 := hB0.cell 6
 have k7 := hB0.cell 7
 have k8 := hB0.cell 8
 have k9 := hB0.cell 9
 have k10 := hB0.cell 10
 have k11 := hB0.cell 11
 have k12 := hB0.cell 12
 have k13 := hB0.cell 13
 go_upto_region 2 with fail
 have hB1 := hB0.alloc (Obj.cells #[.int .i64 kind, .int .i64 txn, .bool yes, .string ff, .string tt, .int .i64 epoch, .int .i64 shard, .int .i64 target, .int .i64 root] 23)
 have hS1 := Blk.new w0 23 #[.int .i64 kind, .int .i64 txn, .bool yes, .string ff, .string tt, .int .i64 epoch, .int .i64 shard, .int .i64 target, .int .i64 root]
 have hf1 := hf0.alloc (Obj.cells #[.int .i64 kind, .int .i64 txn, .bool yes, .string ff, .string tt, .int .i64 epoch, .int .i64 shard, .int .i64 target, .int .i64 root] 23)
 generalize w0.alloc (Obj.cells #[.int .i64 kind, .int .i64 txn, .bool yes, .string ff, .string tt, .int .i64 epoch, .int .i64 shard, .int .i64 target, .int .i64 root] 23) = w1 at *
 have s6 := hS1.cell 6
 clear hf0 k5 k6 k7 k8 k9 k10 k11 k12 k13
 go_upto_region 3 with (go_at_call 79; refine (relay_group _ _).mono ?_; rintro e w' ⟨rfl, rfl⟩; rw [HW.out])
 have hB2 := hB1.alloc (Obj.cells #[.int .i64 (shard + 1)] 3)
 have hS2 := hS1.alloc (Obj.cells #[.int .i64 (shard + 1)] 3)
 have hg2 := group_at w1 (shard + 1)
 have ho2 := ownsRow_built1 w1 3 (.int .i64 (shard + 1))
 have hz2 : w1.heap.size < (w1.alloc (Obj.cells #[.int .i64 (shard + 1)] 3)).heap.size := by simp
 have hf2 := hf1.alloc (Obj.cells #[.int .i64 (shard + 1)] 3)
 generalize w1.alloc (Obj.cells #[.int .i64 (shard + 1)] 3) = w2 at *
 clear hB1 hS1 hf1 s6
 have s0 := hS2.cell 0
 have s1 := hS2.cell 1
 have s7 := hS2.cell 7
 have k0 := hB2.cell 0
 have f0 := hB2.frozen 0
 go_wp2_with fail
 go_ret
 exact ⟨.slice none 0 0, rfl, TasksAt.nil _ _ _, hf2⟩
theorem ruled_freeze {w : World} {txn : Int} {yes : Bool} {ff tt : ByteArray} {epoch shard target root : Int} (h : OkSay ⟨4, txn, yes, ff, tt, epoch, shard, target, root⟩) {G D : Int} {bC : Nat} {C : Option Addr} {cx : Nat} {xs : List Int} (hC : IntRow w bC C xs) (hbC : bC ≤ w.heap.size) (hxl : xs.length ≤ 1024) (hg : getOk (num8 G ++ num8 D ++ numsB xs)) {bk sh : Value} :
  Calls Tryz.prog 44 #[bk, .agg #[.int .i64 0, .int .i64 0, .int .i64 0, .slice none 0 0, .slice none 0 0, .int .i64 4, .int .i64 txn, .bool yes, .string ff, .string tt, .int .i64 epoch, .int .i64 shard, .int .i64 target, .int .i64 root, .int .i64 G, .int .i64 D, .slice C xs.length cx, .int .i64 0, .int .i64 0, .slice none 0 0, .slice none 0 0], sh] w (TasksP w [shard + 1] (orderB 3 [] (sayB ⟨4, txn, yes, ff, tt, epoch, shard, target, root⟩) (certB G D xs))) := by
 have HC := Lib.hid hC
 have HG := Lib.hid hg
 have HXL := Lib.hid hxl
 clear hC hg hxl
 have hsh : (0 ≤ shard ∧ shard ≤ 3) ∧ (0 ≤ target ∧ target ≤ 3) ∧ (0 ≤ txn ∧ txn ≤ 2147483647) := by
  obtain ⟨a0, a1, a2, a3, a4, a5, a6, a7, a8, a9, a10, a11, a12, a13⟩ := h
  dsimp only at a2 a3 a10 a11 a12 a13
  omega
 have hwr : wrap64 (shard + 1) = shard + 1 := by unfold wrap64; omega
 have HW := Lib.hid hwr
 have hwt : wrap64 (target + 1) = target + 1 := by unfold wrap64; omega
 have HWT := Lib.hid hwt
 clear hwr hwt
 have HOK := Lib.hid h
 clear h
 have hB0 := Blk.new w 62 #[.int .i64 0, .int .i64 0, .int .i64 0, .slice none 0 0, .slice none 0 0, .int .i64 4, .int .i64 txn, .bool yes, .string ff, .string tt, .int .i64 epoch, .int .i64 shard, .int .i64 target, .int .i64 root, .int .i64 G, .int .i64 D, .slice C xs.length cx, .int .i64 0, .int .i64 0, .slice none 0 0, .slice none 0 0]
 have hf0 : Fr (fun _ => False) w (w.alloc (Obj.cells #[.int .i64 0, .int .i64 0, .int .i64 0, .slice none 0 0, .slice none 0 0, .int .i64 4, .int .i64 txn, .bool yes, .string ff, .string tt, .int .i64 epoch, .int .i64 shard, .int .i64 target, .int .i64 root, .int .i64 G, .int .i64 D, .slice C xs.length cx, .int .i64 0, .int .i64 0, .slice none 0 0, .slice none 0 0] 62)) := (Fr.refl _ _).alloc _
 go_enter Tryz.func44, Tryz.ntmps44
 go_upto_region 1 with fail
 generalize w.alloc (Obj.cells #[.int .i64 0, .int .i64 0, .int .i64 0, .slice none 0 0, .slice none 0 0, .int .i64 4, .int .i64 txn, .bool yes, .string ff, .string tt, .int .i64 epoch, .int .i64 shard, .int .i64 target, .int .i64 root, .int .i64 G, .int .i64 D, .slice C xs.length cx, .int .i64 0, .int .i64 0, .slice none 0 0, .slice none 0 0] 62) = w0 at *
 have k5 := hB0.cell 5
 have k6 := hB0.cell 6
 have k7 := hB0.cell 7
 have k8 := hB0.cell 8
 have k9 := hB0.cell 9
 have k10 := hB0.cell 10
 have k11 := hB0.cell 11
 have k12 := hB0.cell 12
 have k13 := hB0.cell 13
 go_upto_region 2 with fail
 have hB1 := hB0.alloc (Obj.cells #[.int .i64 4, .int .i64 txn, .bool yes, .string ff, .string tt, .int .i64 epoch, .int .i64 shard, .int .i64 target, .int .i64 root] 23)
 have hS1 := Blk.new w0 23 #[.int .i64 4, .int .i64 txn, .bool yes, .string ff, .string tt, .int .i64 epoch, .int .i64 shard, .int .i64 target, .int .i64 root]
 have hww : w0.heap.size < (w0.alloc (Obj.cells #[.int .i64 4, .int .i64 txn, .bool yes, .string ff, .string tt, .int .i64 epoch, .int .i64 shard, .int .i64 target, .int .i64 root] 23)).heap.size := by simp
 have hf1 := hf0.alloc (Obj.cells #[.int .i64 4, .int .i64 txn, .bool yes, .string ff, .string tt, .int .i64 epoch, .int .i64 shard, .int .i64 target, .int .i64 root] 23)
 generalize w0.alloc (Obj.cells #[.int .i64 4, .int .i64 txn, .bool yes, .string ff, .string tt, .int .i64 epoch, .int .i64 shard, .int .i64 target, .int .i64 root] 23) = w1 at *
 have s6 := hS1.cell 6
 clear hf0 k5 k6 k7 k8 k9 k10 k11 k12 k13
 go_upto_region 3 with (go_at_call 79; refine (relay_group _ _).mono ?_; rintro e w' ⟨rfl, rfl⟩; rw [HW.out])
 have hB2 := hB1.alloc (Obj.cells #[.int .i64 (shard + 1)] 3)
 have hS2 := hS1.alloc (Obj.cells #[.int .i64 (shard + 1)] 3)
 have hg2 := group_at w1 (shard + 1)
 have ho2 := ownsRow_built1 w1 3 (.int .i64 (shard + 1))
 have hz2 : w1.heap.size < (w1.alloc (Obj.cells #[.int .i64 (shard + 1)] 3)).heap.size := by simp
 have hf2 := hf1.alloc (Obj.cells #[.int .i64 (shard + 1)] 3)
 generalize w1.alloc (Obj.cells #[.int .i64 (shard + 1)] 3) = w2 at *
 clear hB1 hS1 hf1 s6
 have s0 := hS2.cell 0
 have s1 := hS2.cell 1
 have s7 := hS2.cell 7
 have k0 := hB2.cell 0
 have f0 := hB2.frozen 0
 go_upto_region 25 with fail
 have hB3 : Blk (w2.setCell ⟨w.heap.size, 0, none⟩ (.int .i64 3)) w.heap.size 62 #[.int .i64 3, .int .i64 0, .int .i64 0, .slice none 0 0, .slice none 0 0, .int .i64 4, .int .i64 txn, .bool yes, .string ff, .string tt, .int .i64 epoch, .int .i64 shard, .int .i64 target, .int .i64 root, .int .i64 G, .int .i64 D, .slice C xs.length cx, .int .i64 0, .int .i64 0, .slice none 0 0, .slice none 0 0] := hB2.set_ 0 _
 have hf23 : Fr (fun k => k = w.heap.size) w2 (w2.setCell ⟨w.heap.size, 0, none⟩ (.int .i64 3)) := (Fr.refl (fun k => k = w.heap.size) w2).setCell (p := ⟨w.heap.size, 0, none⟩) (fun _ => rfl) _
 have hf3 : Fr (fun _ => False) w (w2.setCell ⟨w.heap.size, 0, none⟩ (.int .i64 3)) := hf2.trans hf23 (fun k hk e => by omega)
 have hS3 := hS2.fr hf23 (hS2.ne_ hB2 (by decide))
 have hw01 : w1.heap.size ≠ w.heap.size := fun e => by have := hB0.lt; have := hww; omega
 have ho3 := own_fr ho2 hf23 (fun k hk e => by simp [Value.ownBlock] at hk; omega)
 generalize w2.setCell ⟨w.heap.size, 0, none⟩ (.int .i64 3) = w3 at *
 clear hB2 hS2 hf2 hg2 s0 s1 s7 k0 f0
 obtain ⟨A3, c3, ev, hr3⟩ := own_introw (l := [shard + 1]) ho3 rfl
 cases ev
 have HT : Calls Tryz.prog 64 #[.agg #[.int .i64 3, .int .i64 0, .int .i64 0, .slice none 0 0, .slice none 0 0, .int .i64 4, .int .i64 txn, .bool yes, .string ff, .string tt, .int .i64 epoch, .int .i64 shard, .int .i64 target, .int .i64 root, .int .i64 G, .int .i64 D, .slice C xs.length cx, .int .i64 0, .int .i64 0, .slice none 0 0, .slice none 0 0], .slice (some ⟨w1.heap.size, 0, none⟩) 1 1] w3 (TasksP w3 [shard + 1] (orderB 3 [] (sayB ⟨4, txn, yes, ff, tt, epoch, shard, target, root⟩) (certB G D xs))) := relay_tasks_ok (s := ⟨4, txn, yes, ff, tt, epoch, shard, target, root⟩) (cg := 1) (gs := [shard + 1]) hr3 (Nat.le_refl _) (by simp) (orderB_len (by simp) (by have := sayB_short ⟨4, txn, yes, ff, tt, epoch, shard, target, root⟩; rw [show wordB ⟨4, txn, yes, ff, tt, epoch, shard, target, root⟩ = _ from if_pos HOK.out] at this; exact this) (certB_len HXL.out)) (fun w' hf => order_cert (by omega) (by omega) ⟨by omega, by omega⟩ HOK.out (HC.out.fr (hf3.then_ hf) (fun _ _ => id)) (Nat.le_trans hbC (hf3.then_ hf).size) HXL.out HG.out)
 replace HT := Lib.hid HT
 go_wp2_with (first
  | (refine wpList_load_row rfl 62 _ rfl _ rfl _ _ (0, 0) _ hB3 Tryz.underlying62 rfl (by kernel_rfl) ?_)
  | (go_at_call 64; refine HT.out.mono ?_; rintro e w' ⟨tv, rfl, hv, hf'⟩))
 go_ret
 exact ⟨tv, rfl, hv.base_ hf3.size, hf3.then_ hf'⟩
theorem ruled_own {w : World} {txn : Int} {yes : Bool} {ff tt : ByteArray} {epoch shard target root : Int} (h : OkSay ⟨7, txn, yes, ff, tt, epoch, shard, target, root⟩) {G D : Int} {bC : Nat} {C : Option Addr} {cx : Nat} {xs : List Int} (hC : IntRow w bC C xs) (hbC : bC ≤ w.heap.size) (hxl : xs.length ≤ 1024) (hg : getOk (num8 G ++ num8 D ++ numsB xs)) {bk sh : Value} :
  Calls Tryz.prog 44 #[bk, .agg #[.int .i64 0, .int .i64 0, .int .i64 0, .slice none 0 0, .slice none 0 0, .int .i64 7, .int .i64 txn, .bool yes, .string ff, .string tt, .int .i64 epoch, .int .i64 shard, .int .i64 target, .int .i64 root, .int .i64 G, .int .i64 D, .slice C xs.length cx, .int .i64 0, .int .i64 0, .slice none 0 0, .slice none 0 0], sh] w (TasksP w [shard + 1, target + 1] (orderB 5 [] (sayB ⟨7, txn, yes, ff, tt, epoch, shard, target, root⟩) (certB G D xs))) := by
 have HC := Lib.hid hC
 have HG := Lib.hid hg
 have HXL := Lib.hid hxl
 clear hC hg hxl
 have hsh : (0 ≤ shard ∧ shard ≤ 3) ∧ (0 ≤ target ∧ target ≤ 3) ∧ (0 ≤ txn ∧ txn ≤ 2147483647) := by
  obtain ⟨a0, a1, a2, a3, a4, a5, a6, a7, a8, a9, a10, a11, a12, a13⟩ := h
  dsimp only at a2 a3 a10 a11 a12 a13
  omega
 have hwr : wrap64 (shard + 1) = shard + 1 := by unfold wrap64; omega
 have HW := Lib.hid hwr
 have hwt : wrap64 (target + 1) = target + 1 := by unfold wrap64; omega
 have HWT := Lib.hid hwt
 clear hwr hwt
 have HOK := Lib.hid h
 clear h
 have hB0 := Blk.new w 62 #[.int .i64 0, .int .i64 0, .int .i64 0, .slice none 0 0, .slice none 0 0, .int .i64 7, .int .i64 txn, .bool yes, .string ff, .string tt, .int .i64 epoch, .int .i64 shard, .int .i64 target, .int .i64 root, .int .i64 G, .int .i64 D, .slice C xs.length cx, .int .i64 0, .int .i64 0, .slice none 0 0, .slice none 0 0]
 have hf0 : Fr (fun _ => False) w (w.alloc (Obj.cells #[.int .i64 0, .int .i64 0, .int .i64 0, .slice none 0 0, .slice none 0 0, .int .i64 7, .int .i64 txn, .bool yes, .string ff, .string tt, .int .i64 epoch, .int .i64 shard, .int .i64 target, .int .i64 root, .int .i64 G, .int .i64 D, .slice C xs.length cx, .int .i64 0, .int .i64 0, .slice none 0 0, .slice none 0 0] 62)) := (Fr.refl _ _).alloc _
 go_enter Tryz.func44, Tryz.ntmps44
 go_upto_region 1 with fail
 generalize w.alloc (Obj.cells #[.int .i64 0, .int .i64 0, .int .i64 0, .slice none 0 0, .slice none 0 0, .int .i64 7, .int .i64 txn, .bool yes, .string ff, .string tt, .int .i64 epoch, .int .i64 shard, .int .i64 target, .int .i64 root, .int .i64 G, .int .i64 D, .slice C xs.length cx, .int .i64 0, .int .i64 0, .slice none 0 0, .slice none 0 0] 62) = w0 at *
 have k5 := hB0.cell 5
 have k6 := hB0.cell 6
 have k7 := hB0.cell 7
 have k8 := hB0.cell 8
 have k9 := hB0.cell 9
 have k10 := hB0.cell 10
 have k11 := hB0.cell 11
 have k12 := hB0.cell 12
 have k13 := hB0.cell 13
 go_upto_region 2 with fail
 have hB1 := hB0.alloc (Obj.cells #[.int .i64 7, .int .i64 txn, .bool yes, .string ff, .string tt, .int .i64 epoch, .int .i64 shard, .int .i64 target, .int .i64 root] 23)
 have hS1 := Blk.new w0 23 #[.int .i64 7, .int .i64 txn, .bool yes, .string ff, .string tt, .int .i64 epoch, .int .i64 shard, .int .i64 target, .int .i64 root]
 have hww : w0.heap.size < (w0.alloc (Obj.cells #[.int .i64 7, .int .i64 txn, .bool yes, .string ff, .string tt, .int .i64 epoch, .int .i64 shard, .int .i64 target, .int .i64 root] 23)).heap.size := by simp
 have hf1 := hf0.alloc (Obj.cells #[.int .i64 7, .int .i64 txn, .bool yes, .string ff, .string tt, .int .i64 epoch, .int .i64 shard, .int .i64 target, .int .i64 root] 23)
 generalize w0.alloc (Obj.cells #[.int .i64 7, .int .i64 txn, .bool yes, .string ff, .string tt, .int .i64 epoch, .int .i64 shard, .int .i64 target, .int .i64 root] 23) = w1 at *
 have s6 := hS1.cell 6
 clear hf0 k5 k6 k7 k8 k9 k10 k11 k12 k13
 go_upto_region 3 with (go_at_call 79; refine (relay_group _ _).mono ?_; rintro e w' ⟨rfl, rfl⟩; rw [HW.out])
 have hB2 := hB1.alloc (Obj.cells #[.int .i64 (shard + 1)] 3)
 have hS2 := hS1.alloc (Obj.cells #[.int .i64 (shard + 1)] 3)
 have hg2 := group_at w1 (shard + 1)
 have ho2 := ownsRow_built1 w1 3 (.int .i64 (shard + 1))
 have hz2 : w1.heap.size < (w1.alloc (Obj.cells #[.int .i64 (shard + 1)] 3)).heap.size := by simp
 have hf2 := hf1.alloc (Obj.cells #[.int .i64 (shard + 1)] 3)
 generalize w1.alloc (Obj.cells #[.int .i64 (shard + 1)] 3) = w2 at *
 clear hB1 hS1 hf1 s6
 have s0 := hS2.cell 0
 have s1 := hS2.cell 1
 have s7 := hS2.cell 7
 have k0 := hB2.cell 0
 have f0 := hB2.frozen 0
 go_upto_region 24 with fail
 have hB3 : Blk (w2.setCell ⟨w.heap.size, 0, none⟩ (.int .i64 5)) w.heap.size 62 #[.int .i64 5, .int .i64 0, .int .i64 0, .slice none 0 0, .slice none 0 0, .int .i64 7, .int .i64 txn, .bool yes, .string ff, .string tt, .int .i64 epoch, .int .i64 shard, .int .i64 target, .int .i64 root, .int .i64 G, .int .i64 D, .slice C xs.length cx, .int .i64 0, .int .i64 0, .slice none 0 0, .slice none 0 0] := hB2.set_ 0 _
 have hf23 : Fr (fun k => k = w.heap.size) w2 (w2.setCell ⟨w.heap.size, 0, none⟩ (.int .i64 5)) := (Fr.refl (fun k => k = w.heap.size) w2).setCell (p := ⟨w.heap.size, 0, none⟩) (fun _ => rfl) _
 have hf3 : Fr (fun _ => False) w (w2.setCell ⟨w.heap.size, 0, none⟩ (.int .i64 5)) := hf2.trans hf23 (fun k hk e => by omega)
 have hS3 := hS2.fr hf23 (hS2.ne_ hB2 (by decide))
 have hw01 : w1.heap.size ≠ w.heap.size := fun e => by have := hB0.lt; have := hww; omega
 have ho3 := own_fr ho2 hf23 (fun k hk e => by simp [Value.ownBlock] at hk; omega)
 generalize w2.setCell ⟨w.heap.size, 0, none⟩ (.int .i64 5) = w3 at *
 clear hB2 hS2 hf2 hg2 s0 s1 s7 k0 f0
 have s7 := hS3.cell 7
 have hgo : w.heap.size < w1.heap.size := by have := hB0.lt; omega
 have ho3' : w3.ownsRow w1.heap.size 3 1 (.slice (some ⟨w1.heap.size, 0, none⟩) 1 1) 1 (num64V [shard + 1]) := ho3
 have hz3 : w1.heap.size ≤ w3.heap.size := Nat.le_trans (Nat.le_of_lt hz2) hf23.size
 clear hf23 hS3 ho2
 go_upto_region 25 with (first
  | (at_builtin; refine wpList_append1 _ rfl _ _ _ rfl w1.heap.size 3 (.int .i64 0) 8 Tryz.underlying30 int_info rfl (.slice (some ⟨w1.heap.size, 0, none⟩) 1 1) 1 (num64V [shard + 1]) rfl (ho3'.alloc _) w3.heap.size (.int .i64 (target + 1)) rfl ?_ rfl (by omega) (by omega) ?_ ?_; (· simp); (· simp; omega); intro g4 c4 w4 hown4 hf4)
  | (go_at_call 79; refine (relay_group _ _).mono ?_; rintro e w' ⟨rfl, rfl⟩; rw [HWT.out]))
 have hf34 : Fr (fun k => k = w1.heap.size) w3 w4 := ((Fr.refl (fun k => k = w1.heap.size) w3).alloc _).trans hf4 (fun k _ h => by simp [Value.ownBlock] at h; exact h.symm)
 have hB4 := hB3.fr hf34 (by omega)
 have hf04 : Fr (fun _ => False) w w4 := hf3.trans hf34 (fun k hk e => by omega)
 obtain ⟨A4, c4', ev, hr4⟩ := own_introw (l := [shard + 1, target + 1]) hown4 rfl
 cases ev
 have HT : Calls Tryz.prog 64 #[.agg #[.int .i64 5, .int .i64 0, .int .i64 0, .slice none 0 0, .slice none 0 0, .int .i64 7, .int .i64 txn, .bool yes, .string ff, .string tt, .int .i64 epoch, .int .i64 shard, .int .i64 target, .int .i64 root, .int .i64 G, .int .i64 D, .slice C xs.length cx, .int .i64 0, .int .i64 0, .slice none 0 0, .slice none 0 0], .slice (some ⟨g4, 0, none⟩) 2 c4] w4 (TasksP w4 [shard + 1, target + 1] (orderB 5 [] (sayB ⟨7, txn, yes, ff, tt, epoch, shard, target, root⟩) (certB G D xs))) := relay_tasks_ok (s := ⟨7, txn, yes, ff, tt, epoch, shard, target, root⟩) (cg := c4) (gs := [shard + 1, target + 1]) hr4 (Nat.le_refl _) (by simp) (orderB_len (by simp) (by have := sayB_short ⟨7, txn, yes, ff, tt, epoch, shard, target, root⟩; rw [show wordB ⟨7, txn, yes, ff, tt, epoch, shard, target, root⟩ = _ from if_pos HOK.out] at this; exact this) (certB_len HXL.out)) (fun w' hf => order_cert (by omega) (by omega) ⟨by omega, by omega⟩ HOK.out (HC.out.fr (hf04.then_ hf) (fun _ _ => id)) (Nat.le_trans hbC (hf04.then_ hf).size) HXL.out HG.out)
 replace HT := Lib.hid HT
 go_wp2_with (first
  | (refine wpList_load_row rfl 62 _ rfl _ rfl _ _ (0, 0) _ hB4 Tryz.underlying62 rfl (by kernel_rfl) ?_)
  | (go_at_call 64; refine HT.out.mono ?_; rintro e w' ⟨tv, rfl, hv, hf'⟩))
 go_ret
 exact ⟨tv, rfl, hv.base_ hf04.size, hf04.then_ hf'⟩
theorem ruled_decide {w : World} {txn : Int} {yes : Bool} {ff tt : ByteArray} {epoch shard target root : Int} (h : OkSay ⟨3, txn, yes, ff, tt, epoch, shard, target, root⟩) {G D : Int} {bC : Nat} {C : Option Addr} {cx : Nat} {xs : List Int} (hC : IntRow w bC C xs) (hbC : bC ≤ w.heap.size) (hxl : xs.length ≤ 1024) (hg : getOk (num8 G ++ num8 D ++ numsB xs)) {bS : Nat} {SA : Option Addr} {sc : Nat} {ss : List Int} (hSS : IntRow w bS SA ss) (hbS : bS ≤ w.heap.size) (hsl : ss.length ≤ 1000) {bk : Value} :
  Calls Tryz.prog 44 #[bk, .agg #[.int .i64 0, .int .i64 0, .int .i64 0, .slice none 0 0, .slice none 0 0, .int .i64 3, .int .i64 txn, .bool yes, .string ff, .string tt, .int .i64 epoch, .int .i64 shard, .int .i64 target, .int .i64 root, .int .i64 G, .int .i64 D, .slice C xs.length cx, .int .i64 0, .int .i64 0, .slice none 0 0, .slice none 0 0], .slice SA ss.length sc] w (TasksP w (ss.map fun s => wrap64 (s + 1)) (orderB 2 [] (sayB ⟨3, txn, yes, ff, tt, epoch, shard, target, root⟩) (certB G D xs))) := by
 have HC := Lib.hid hC
 have HG := Lib.hid hg
 have HXL := Lib.hid hxl
 clear hC hg hxl
 have HSS := Lib.hid hSS
 clear hSS
 have hsh : (0 ≤ shard ∧ shard ≤ 3) ∧ (0 ≤ target ∧ target ≤ 3) ∧ (0 ≤ txn ∧ txn ≤ 2147483647) := by
  obtain ⟨a0, a1, a2, a3, a4, a5, a6, a7, a8, a9, a10, a11, a12, a13⟩ := h
  dsimp only at a2 a3 a10 a11 a12 a13
  omega
 have hwr : wrap64 (shard + 1) = shard + 1 := by unfold wrap64; omega
 have HW := Lib.hid hwr
 have hwt : wrap64 (target + 1) = target + 1 := by unfold wrap64; omega
 have HWT := Lib.hid hwt
 clear hwr hwt
 have HOK := Lib.hid h
 clear h
 have hB0 := Blk.new w 62 #[.int .i64 0, .int .i64 0, .int .i64 0, .slice none 0 0, .slice none 0 0, .int .i64 3, .int .i64 txn, .bool yes, .string ff, .string tt, .int .i64 epoch, .int .i64 shard, .int .i64 target, .int .i64 root, .int .i64 G, .int .i64 D, .slice C xs.length cx, .int .i64 0, .int .i64 0, .slice none 0 0, .slice none 0 0]
 have hf0 : Fr (fun _ => False) w (w.alloc (Obj.cells #[.int .i64 0, .int .i64 0, .int .i64 0, .slice none 0 0, .slice none 0 0, .int .i64 3, .int .i64 txn, .bool yes, .string ff, .string tt, .int .i64 epoch, .int .i64 shard, .int .i64 target, .int .i64 root, .int .i64 G, .int .i64 D, .slice C xs.length cx, .int .i64 0, .int .i64 0, .slice none 0 0, .slice none 0 0] 62)) := (Fr.refl _ _).alloc _
 go_enter Tryz.func44, Tryz.ntmps44
 go_upto_region 1 with fail
 generalize w.alloc (Obj.cells #[.int .i64 0, .int .i64 0, .int .i64 0, .slice none 0 0, .slice none 0 0, .int .i64 3, .int .i64 txn, .bool yes, .string ff, .string tt, .int .i64 epoch, .int .i64 shard, .int .i64 target, .int .i64 root, .int .i64 G, .int .i64 D, .slice C xs.length cx, .int .i64 0, .int .i64 0, .slice none 0 0, .slice none 0 0] 62) = w0 at *
 have k5 := hB0.cell 5
 have k6 := hB0.cell 6
 have k7 := hB0.cell 7
 have k8 := hB0.cell 8
 have k9 := hB0.cell 9
 have k10 := hB0.cell 10
 have k11 := hB0.cell 11
 have k12 := hB0.cell 12
 have k13 := hB0.cell 13
 go_upto_region 2 with fail
 have hB1 := hB0.alloc (Obj.cells #[.int .i64 3, .int .i64 txn, .bool yes, .string ff, .string tt, .int .i64 epoch, .int .i64 shard, .int .i64 target, .int .i64 root] 23)
 have hS1 := Blk.new w0 23 #[.int .i64 3, .int .i64 txn, .bool yes, .string ff, .string tt, .int .i64 epoch, .int .i64 shard, .int .i64 target, .int .i64 root]
 have hww : w0.heap.size < (w0.alloc (Obj.cells #[.int .i64 3, .int .i64 txn, .bool yes, .string ff, .string tt, .int .i64 epoch, .int .i64 shard, .int .i64 target, .int .i64 root] 23)).heap.size := by simp
 have hf1 := hf0.alloc (Obj.cells #[.int .i64 3, .int .i64 txn, .bool yes, .string ff, .string tt, .int .i64 epoch, .int .i64 shard, .int .i64 target, .int .i64 root] 23)
 generalize w0.alloc (Obj.cells #[.int .i64 3, .int .i64 txn, .bool yes, .string ff, .string tt, .int .i64 epoch, .int .i64 shard, .int .i64 target, .int .i64 root] 23) = w1 at *
 have s6 := hS1.cell 6
 clear hf0 k5 k6 k7 k8 k9 k10 k11 k12 k13
 go_upto_region 3 with (go_at_call 79; refine (relay_group _ _).mono ?_; rintro e w' ⟨rfl, rfl⟩; rw [HW.out])
 have hB2 := hB1.alloc (Obj.cells #[.int .i64 (shard + 1)] 3)
 have hS2 := hS1.alloc (Obj.cells #[.int .i64 (shard + 1)] 3)
 have hg2 := group_at w1 (shard + 1)
 have ho2 := ownsRow_built1 w1 3 (.int .i64 (shard + 1))
 have hz2 : w1.heap.size < (w1.alloc (Obj.cells #[.int .i64 (shard + 1)] 3)).heap.size := by simp
 have hf2 := hf1.alloc (Obj.cells #[.int .i64 (shard + 1)] 3)
 generalize w1.alloc (Obj.cells #[.int .i64 (shard + 1)] 3) = w2 at *
 clear hB1 hS1 hf1 s6
 have s0 := hS2.cell 0
 have s1 := hS2.cell 1
 have s7 := hS2.cell 7
 have k0 := hB2.cell 0
 have f0 := hB2.frozen 0
 go_upto_region 16 with fail
 have hB3 : Blk (w2.setCell ⟨w.heap.size, 0, none⟩ (.int .i64 2)) w.heap.size 62 #[.int .i64 2, .int .i64 0, .int .i64 0, .slice none 0 0, .slice none 0 0, .int .i64 3, .int .i64 txn, .bool yes, .string ff, .string tt, .int .i64 epoch, .int .i64 shard, .int .i64 target, .int .i64 root, .int .i64 G, .int .i64 D, .slice C xs.length cx, .int .i64 0, .int .i64 0, .slice none 0 0, .slice none 0 0] := hB2.set_ 0 _
 have hf23 : Fr (fun k => k = w.heap.size) w2 (w2.setCell ⟨w.heap.size, 0, none⟩ (.int .i64 2)) := (Fr.refl (fun k => k = w.heap.size) w2).setCell (p := ⟨w.heap.size, 0, none⟩) (fun _ => rfl) _
 have hf3 : Fr (fun _ => False) w (w2.setCell ⟨w.heap.size, 0, none⟩ (.int .i64 2)) := hf2.trans hf23 (fun k hk e => by omega)
 have hS3 := hS2.fr hf23 (hS2.ne_ hB2 (by decide))
 have hw01 : w1.heap.size ≠ w.heap.size := fun e => by have := hB0.lt; have := hww; omega
 have ho3 := own_fr ho2 hf23 (fun k hk e => by simp [Value.ownBlock] at hk; omega)
 generalize w2.setCell ⟨w.heap.size, 0, none⟩ (.int .i64 2) = w3 at *
 clear hB2 hS2 hf2 hg2 s0 s1 s7 k0 f0
 clear ho2 ho3 hS3 hf23
 go_loopw [8, 46] (fun lv i wr => ∃ k : Nat, k ≤ ss.length ∧ i = .int .i64 k ∧ wr.ownsRow w3.heap.size 3 1 lv k (num64V ((ss.map fun s => wrap64 (s + 1)).take k)) ∧ Fr (fun _ => False) w3 wr) (fun _ i _ => ss.length - (intOf i).toNat)
 case atStart => exact ⟨0, by omega, rfl, World.ownsRow_nil _ _ _ _, Fr.refl _ _⟩
 case round =>
  obtain ⟨k, hk, rfl, hown, hf⟩ := hrel
  by_cases hlt : k < ss.length
  ·obtain ⟨x, hx⟩ : ∃ x, ss[k]? = some x := ⟨ss[k], List.getElem?_eq_getElem hlt⟩
   obtain ⟨b, o, rfl, hb, hc⟩ := (HSS.out.fr (hf3.then_ hf) (fun _ _ => id)) k x hx
   have hlt' : (k : Int) < (ss.length : Int) := by omega
   have HX : Hid ((ss.map fun s => wrap64 (s + 1))[k]? = some (wrap64 (x + 1))) := by show _ = _; rw [List.getElem?_map, hx]; rfl
   have hlm : Hid ((ss.map fun s => wrap64 (s + 1)).length = ss.length) := by show _ = _; rw [List.length_map]
   obtain ⟨y, hy⟩ : ∃ y, Hid (wrap64 (x + 1) = y) := ⟨_, rfl⟩
   clear hx
   go_wp2_with (first
    | (at_builtin; refine wpList_append1 _ rfl _ _ _ rfl w3.heap.size 3 (.int .i64 0) 8 Tryz.underlying30 int_info rfl u8 k (num64V ((ss.map fun s => wrap64 (s + 1)).take k)) rfl (hown.alloc _) wr.heap.size (.int .i64 y) rfl ?_ rfl (by omega) (by omega) ?_ ?_; (· simp); (· have := hf.size; simp; omega); intro g4 c4 w4 hown4 hf4)
    | (go_at_call 79; refine (relay_group _ _).mono ?_; rintro e w' ⟨rfl, rfl⟩; rw [hy.out]))
   go_roundw
   case rel =>
    have hfb : Fr (fun k => u8.ownBlock = some k) wr w4 := ((Fr.refl (fun k => u8.ownBlock = some k) wr).alloc _).trans hf4 (fun _ _ h => h)
    have e1 : num64V ((ss.map fun s => wrap64 (s + 1)).take (k + 1)) = num64V ((ss.map fun s => wrap64 (s + 1)).take k) ++ [.int .i64 y] := by
     rw [take_mem HX.out, num64V, num64V, List.map_append, hy.out]
     rfl
    exact ⟨k + 1, by omega, by go_num, by rw [e1]; exact hown4, hf.own hown hfb (Nat.le_refl _)⟩
   case measure => simp [intOf]; omega
  ·obtain rfl : k = ss.length := by omega
   obtain ⟨gs, hgs⟩ : ∃ gs, Hid ((ss.map fun s => wrap64 (s + 1)) = gs) := ⟨_, rfl⟩
   have hgl : Hid (gs.length = ss.length) := by show _ = _; rw [← hgs.out, List.length_map]
   rw [hgs.out, List.take_of_length_le (by have := hgl.out; omega)] at hown
   obtain ⟨A4, c4, ev, hr4⟩ := own_introw (l := gs) hown hgl.out.symm
   subst ev
   have hB4 := hB3.fr hf id
   have hf04 := hf3.then_ hf
   clear hown hB3 hf3
   have HT : Calls Tryz.prog 64 #[.agg #[.int .i64 2, .int .i64 0, .int .i64 0, .slice none 0 0, .slice none 0 0, .int .i64 3, .int .i64 txn, .bool yes, .string ff, .string tt, .int .i64 epoch, .int .i64 shard, .int .i64 target, .int .i64 root, .int .i64 G, .int .i64 D, .slice C xs.length cx, .int .i64 0, .int .i64 0, .slice none 0 0, .slice none 0 0], .slice A4 gs.length c4] wr (TasksP wr gs (orderB 2 [] (sayB ⟨3, txn, yes, ff, tt, epoch, shard, target, root⟩) (certB G D xs))) := relay_tasks_ok (s := ⟨3, txn, yes, ff, tt, epoch, shard, target, root⟩) (cg := c4) (gs := gs) hr4 (Nat.le_refl _) (by have := hgl.out; omega) (orderB_len (by simp) (by have := sayB_short ⟨3, txn, yes, ff, tt, epoch, shard, target, root⟩; rw [show wordB ⟨3, txn, yes, ff, tt, epoch, shard, target, root⟩ = _ from if_pos HOK.out] at this; exact this) (certB_len HXL.out)) (fun w' hf => order_cert (by omega) (by omega) ⟨by omega, by omega⟩ HOK.out (HC.out.fr (hf04.then_ hf) (fun _ _ => id)) (Nat.le_trans hbC (hf04.then_ hf).size) HXL.out HG.out)
   replace HT := Lib.hid HT
   go_wp2_with (first
    | (refine wpList_load_row rfl 62 _ rfl _ rfl _ _ (0, 0) _ hB4 Tryz.underlying62 rfl (by kernel_rfl) ?_)
    | (go_at_call 64; refine HT.out.mono ?_; rintro e w' ⟨tv, rfl, hv, hf'⟩))
   go_ret
   rw [hgs.out]
   exact ⟨tv, rfl, hv.base_ hf04.size, hf04.then_ hf'⟩
def NoText (w : World) (e : Ending) (w' : World) : Prop := ∃ t u, e = .returned (.tuple #[.slice none 0 0, .iface t u]) ∧ Fr (fun _ => False) w w'
theorem book_wrong {w : World} {g m base : Nat} {v : Value} {L : List (List Int)} (h : BookAt w g m base v L) : Calls Tryz.prog 76 #[.pointer (some ⟨g, 0, none⟩), .int .i64 1] w fun e w' => e = .returned (errV [((⟨#[98, 111, 111, 107]⟩ : ByteArray), (L.length : Int))] 1) ∧ ∃ n, w' = w.drewN n := by
 obtain ⟨A0, cap0, rfl, _, _⟩ := own_form h.own
 have c0 : w.cell? ⟨g, 0, none⟩ = some (.slice A0 L.length cap0) := h.blk.cell 0
 have H := Lib.hid (fun w => fault_Of 1 rfl w)
 go_enter Tryz.func76, Tryz.ntmps76
 go_upto_region 1 with fail
 go_quiet (first | (go_at_call 71; exact quiet_left (H.out _)) | (go_at_call 70; exact quiet_left (fault_Wrap _ _ _ _ _)))
 go_wp2
 go_ret
 exact ⟨rfl, _, rfl⟩
theorem book_Text_no {w : World} {g m base : Nat} {v : Value} {L : List (List Int)} (h : BookAt w g m base v L) {d : Int} (h0 : 0 ≤ d) (hd : (L.length : Int) ≤ d) : Calls Tryz.prog 75 #[.pointer (some ⟨g, 0, none⟩), .int .i64 d] w (NoText w) := by
 have HW := book_wrong h
 obtain ⟨t, u, hu⟩ := errV_iface [((⟨#[98, 111, 111, 107]⟩ : ByteArray), (L.length : Int))] 1
 rw [hu] at HW
 replace HW := Lib.hid HW
 obtain ⟨A0, cap0, rfl, _, _⟩ := own_form h.own
 have c0 : w.cell? ⟨g, 0, none⟩ = some (.slice A0 L.length cap0) := h.blk.cell 0
 have h0' : ¬ d < 0 := by omega
 clear h hu
 go_enter Tryz.func75, Tryz.ntmps75
 go_wp2_with (go_at_call 76; refine HW.out.mono ?_; rintro e w' ⟨rfl, n, rfl⟩)
 refine bodyPost_ret (v := .tuple #[.slice none 0 0, .iface t u]) (by simp [results, Tryz.results75, go_sem]) rfl ?_
 exact ⟨t, u, rfl, (Fr.refl _ _).drewN n⟩
def IsTxn (bs : List Int) : Prop := ∃ c n R W, TOk c n R W ∧ bs = txnB c n R W
def PrepP (w : World) (L : List (List Int)) (txn : Int) (gg : List Int) (f : List Int → List Int) (e : Ending) (w' : World) : Prop :=
 (∃ bs, L[txn.toNat]? = some bs ∧ IsTxn bs ∧ TasksP w gg (f bs) e w') ∨ ((∀ bs, L[txn.toNat]? = some bs → ¬ IsTxn bs) ∧ TasksP w [] [] e w')
theorem ruled_begin {w : World} {txn : Int} {yes : Bool} {ff tt : ByteArray} {epoch shard target root : Int} (h : OkSay ⟨1, txn, yes, ff, tt, epoch, shard, target, root⟩) {G D : Int} {bC : Nat} {C : Option Addr} {cx : Nat} {xs : List Int} (hC : IntRow w bC C xs) (hbC : bC ≤ w.heap.size) (hxl : xs.length ≤ 1024) (hg : getOk (num8 G ++ num8 D ++ numsB xs)) {g m base : Nat} {v : Value} {L : List (List Int)} (hb : BookAt w g m base v L) (hL : L.length < 65536) (hLl : ∀ x ∈ L, x.length ≤ 65536) {sh : Value} :
  Calls Tryz.prog 44 #[.pointer (some ⟨g, 0, none⟩), .agg #[.int .i64 0, .int .i64 0, .int .i64 0, .slice none 0 0, .slice none 0 0, .int .i64 1, .int .i64 txn, .bool yes, .string ff, .string tt, .int .i64 epoch, .int .i64 shard, .int .i64 target, .int .i64 root, .int .i64 G, .int .i64 D, .slice C xs.length cx, .int .i64 0, .int .i64 0, .slice none 0 0, .slice none 0 0], sh] w (PrepP w L txn [shard + 1] fun bs => orderB 1 bs (sayB ⟨1, txn, yes, ff, tt, epoch, shard, target, root⟩) (certB G D xs)) := by
 have HC := Lib.hid hC
 have HG := Lib.hid hg
 have HXL := Lib.hid hxl
 clear hC hg hxl
 have HLL := Lib.hid hLl
 clear hLl
 have hsh : (0 ≤ shard ∧ shard ≤ 3) ∧ (0 ≤ target ∧ target ≤ 3) ∧ (0 ≤ txn ∧ txn ≤ 2147483647) := by
  obtain ⟨a0, a1, a2, a3, a4, a5, a6, a7, a8, a9, a10, a11, a12, a13⟩ := h
  dsimp only at a2 a3 a10 a11 a12 a13
  omega
 have hwr : wrap64 (shard + 1) = shard + 1 := by unfold wrap64; omega
 have HW := Lib.hid hwr
 have hwt : wrap64 (target + 1) = target + 1 := by unfold wrap64; omega
 have HWT := Lib.hid hwt
 clear hwr hwt
 have HOK := Lib.hid h
 clear h
 have hB0 := Blk.new w 62 #[.int .i64 0, .int .i64 0, .int .i64 0, .slice none 0 0, .slice none 0 0, .int .i64 1, .int .i64 txn, .bool yes, .string ff, .string tt, .int .i64 epoch, .int .i64 shard, .int .i64 target, .int .i64 root, .int .i64 G, .int .i64 D, .slice C xs.length cx, .int .i64 0, .int .i64 0, .slice none 0 0, .slice none 0 0]
 have hf0 : Fr (fun _ => False) w (w.alloc (Obj.cells #[.int .i64 0, .int .i64 0, .int .i64 0, .slice none 0 0, .slice none 0 0, .int .i64 1, .int .i64 txn, .bool yes, .string ff, .string tt, .int .i64 epoch, .int .i64 shard, .int .i64 target, .int .i64 root, .int .i64 G, .int .i64 D, .slice C xs.length cx, .int .i64 0, .int .i64 0, .slice none 0 0, .slice none 0 0] 62)) := (Fr.refl _ _).alloc _
 go_enter Tryz.func44, Tryz.ntmps44
 go_upto_region 1 with fail
 generalize w.alloc (Obj.cells #[.int .i64 0, .int .i64 0, .int .i64 0, .slice none 0 0, .slice none 0 0, .int .i64 1, .int .i64 txn, .bool yes, .string ff, .string tt, .int .i64 epoch, .int .i64 shard, .int .i64 target, .int .i64 root, .int .i64 G, .int .i64 D, .slice C xs.length cx, .int .i64 0, .int .i64 0, .slice none 0 0, .slice none 0 0] 62) = w0 at *
 have k5 := hB0.cell 5
 have k6 := hB0.cell 6
 have k7 := hB0.cell 7
 have k8 := hB0.cell 8
 have k9 := hB0.cell 9
 have k10 := hB0.cell 10
 have k11 := hB0.cell 11
 have k12 := hB0.cell 12
 have k13 := hB0.cell 13
 go_upto_region 2 with fail
 have hB1 := hB0.alloc (Obj.cells #[.int .i64 1, .int .i64 txn, .bool yes, .string ff, .string tt, .int .i64 epoch, .int .i64 shard, .int .i64 target, .int .i64 root] 23)
 have hS1 := Blk.new w0 23 #[.int .i64 1, .int .i64 txn, .bool yes, .string ff, .string tt, .int .i64 epoch, .int .i64 shard, .int .i64 target, .int .i64 root]
 have hww : w0.heap.size < (w0.alloc (Obj.cells #[.int .i64 1, .int .i64 txn, .bool yes, .string ff, .string tt, .int .i64 epoch, .int .i64 shard, .int .i64 target, .int .i64 root] 23)).heap.size := by simp
 have hf1 := hf0.alloc (Obj.cells #[.int .i64 1, .int .i64 txn, .bool yes, .string ff, .string tt, .int .i64 epoch, .int .i64 shard, .int .i64 target, .int .i64 root] 23)
 generalize w0.alloc (Obj.cells #[.int .i64 1, .int .i64 txn, .bool yes, .string ff, .string tt, .int .i64 epoch, .int .i64 shard, .int .i64 target, .int .i64 root] 23) = w1 at *
 have s6 := hS1.cell 6
 clear hf0 k5 k6 k7 k8 k9 k10 k11 k12 k13
 go_upto_region 3 with (go_at_call 79; refine (relay_group _ _).mono ?_; rintro e w' ⟨rfl, rfl⟩; rw [HW.out])
 have hB2 := hB1.alloc (Obj.cells #[.int .i64 (shard + 1)] 3)
 have hS2 := hS1.alloc (Obj.cells #[.int .i64 (shard + 1)] 3)
 have hg2 := group_at w1 (shard + 1)
 have ho2 := ownsRow_built1 w1 3 (.int .i64 (shard + 1))
 have hz2 : w1.heap.size < (w1.alloc (Obj.cells #[.int .i64 (shard + 1)] 3)).heap.size := by simp
 have hf2 := hf1.alloc (Obj.cells #[.int .i64 (shard + 1)] 3)
 generalize w1.alloc (Obj.cells #[.int .i64 (shard + 1)] 3) = w2 at *
 clear hB1 hS1 hf1 s6
 have s0 := hS2.cell 0
 have s1 := hS2.cell 1
 have s7 := hS2.cell 7
 have k0 := hB2.cell 0
 have f0 := hB2.frozen 0
 have hb2 := hb.keep hf2
 have hw01 : w1.heap.size ≠ w.heap.size := fun e => by have := hB0.lt; have := hww; omega
 clear hb hg2
 by_cases hin : txn < (L.length : Int)
 ·obtain ⟨k, hk⟩ : ∃ k : Nat, txn = (k : Int) := ⟨txn.toNat, by omega⟩
  obtain ⟨bs, hbs⟩ : ∃ bs, L[k]? = some bs := ⟨L[k]'(by omega), List.getElem?_eq_getElem _⟩
  have HT := book_Text hb2 hbs hL
  rw [← hk] at HT
  replace HT := Lib.hid HT
  have HBS : Hid (L[txn.toNat]? = some bs) := by show _ = _; rw [hk]; exact hbs
  have hlb : Hid (bs.length ≤ 65536) := HLL.out bs (List.mem_of_getElem? hbs)
  have h8 : Hid (Bytes8 bs) := fun x hx => by have := hb2.map.2 bs (List.mem_of_getElem? hbs) x hx; omega
  clear hbs hk hin
  go_upto_region 8 with (go_at_call 75; refine HT.out.mono ?_; rintro e w3 ⟨A3, c3, rfl, hr3, hf3⟩)
  have hB3 := hB2.fr hf3 id
  have hf03 := hf2.then_ hf3
  have ho3 := own_fr ho2 hf3 (fun _ _ => id)
  have HG3 := Lib.hid (txn_Get (cap := c3) hr3 (by have := hlb.out; omega) h8.out)
  clear hr3 HT hS2 hb2 ho2 hB2 hf2 k0 f0 s0 s1 s7
  by_cases hT : IsTxn bs
  ·have HGA : Hid (Calls Tryz.prog 80 #[.slice A3 bs.length c3] w3 (fun e w' => ∃ c n R W RA cr WA cw, TOk c n R W ∧ bs = txnB c n R W ∧ e = .returned (.tuple #[.agg #[.int .i64 c, .int .i64 n, .slice RA R.length cr, .slice WA W.length cw], .nilIface]) ∧ ReadRow w' (fun k => w3.heap.size ≤ k) RA R ∧ WriteRow w' (fun k => w3.heap.size ≤ k) WA W ∧ Fr (fun _ => False) w3 w')) := by
    refine HG3.out.mono ?_
    rintro e w' (h | ⟨hno, _⟩)
    ·exact h
    ·obtain ⟨c, n, R, W, h1, h2⟩ := hT
     exact absurd h2 (hno c n R W h1)
   clear HG3
   go_upto_region 9 with (first
    | (go_at_call 80; refine HGA.out.mono ?_; rintro e w4 ⟨c, n, R, W, RA, cr, WA, cw, hok, hbt, rfl, hR4, hW4, hf4⟩; replace hbt := Lib.hid hbt; have hB4 := hB3.fr hf4 id; have hth : w4.there w.heap.size 1 4 := hB4.there (Nat.le_of_ble_eq_true rfl))
    | (refine wpList_store_mid rfl 29 (.tmp 37) (.tmp 35) rfl w.heap.size 1 #[.int .i64 c, .int .i64 n, .slice RA R.length cr, .slice WA W.length cw] rfl rfl hth (by kernel_rfl) (by simp [Value.oneCell']) ?_))
   replace hok := Lib.hid hok
   replace hT := Lib.hid hT
   have hB4a : Blk (w4.setCell ⟨w.heap.size, 1, none⟩ (.int .i64 c)) w.heap.size 62 #[.int .i64 0, .int .i64 c, .int .i64 0, .slice none 0 0, .slice none 0 0, .int .i64 1, .int .i64 txn, .bool yes, .string ff, .string tt, .int .i64 epoch, .int .i64 shard, .int .i64 target, .int .i64 root, .int .i64 G, .int .i64 D, .slice C xs.length cx, .int .i64 0, .int .i64 0, .slice none 0 0, .slice none 0 0] := hB4.set_ 1 _
   have hB4b : Blk ((w4.setCell ⟨w.heap.size, 1, none⟩ (.int .i64 c)).setCell ⟨w.heap.size, 2, none⟩ (.int .i64 n)) w.heap.size 62 #[.int .i64 0, .int .i64 c, .int .i64 n, .slice none 0 0, .slice none 0 0, .int .i64 1, .int .i64 txn, .bool yes, .string ff, .string tt, .int .i64 epoch, .int .i64 shard, .int .i64 target, .int .i64 root, .int .i64 G, .int .i64 D, .slice C xs.length cx, .int .i64 0, .int .i64 0, .slice none 0 0, .slice none 0 0] := hB4a.set_ 2 _
   have hB4c : Blk (((w4.setCell ⟨w.heap.size, 1, none⟩ (.int .i64 c)).setCell ⟨w.heap.size, 2, none⟩ (.int .i64 n)).setCell ⟨w.heap.size, 3, none⟩ (.slice RA R.length cr)) w.heap.size 62 #[.int .i64 0, .int .i64 c, .int .i64 n, .slice RA R.length cr, .slice none 0 0, .int .i64 1, .int .i64 txn, .bool yes, .string ff, .string tt, .int .i64 epoch, .int .i64 shard, .int .i64 target, .int .i64 root, .int .i64 G, .int .i64 D, .slice C xs.length cx, .int .i64 0, .int .i64 0, .slice none 0 0, .slice none 0 0] := hB4b.set_ 3 _
   have hB4d : Blk ((((w4.setCell ⟨w.heap.size, 1, none⟩ (.int .i64 c)).setCell ⟨w.heap.size, 2, none⟩ (.int .i64 n)).setCell ⟨w.heap.size, 3, none⟩ (.slice RA R.length cr)).setCell ⟨w.heap.size, 4, none⟩ (.slice WA W.length cw)) w.heap.size 62 #[.int .i64 0, .int .i64 c, .int .i64 n, .slice RA R.length cr, .slice WA W.length cw, .int .i64 1, .int .i64 txn, .bool yes, .string ff, .string tt, .int .i64 epoch, .int .i64 shard, .int .i64 target, .int .i64 root, .int .i64 G, .int .i64 D, .slice C xs.length cx, .int .i64 0, .int .i64 0, .slice none 0 0, .slice none 0 0] := hB4c.set_ 4 _
   have hf45 : Fr (fun k => k = w.heap.size) w4 ((((w4.setCell ⟨w.heap.size, 1, none⟩ (.int .i64 c)).setCell ⟨w.heap.size, 2, none⟩ (.int .i64 n)).setCell ⟨w.heap.size, 3, none⟩ (.slice RA R.length cr)).setCell ⟨w.heap.size, 4, none⟩ (.slice WA W.length cw)) := ((((Fr.refl (fun k => k = w.heap.size) w4).setCell (p := ⟨w.heap.size, 1, none⟩) (fun _ => rfl) (.int .i64 c)).setCell (p := ⟨w.heap.size, 2, none⟩) (fun _ => rfl) (.int .i64 n)).setCell (p := ⟨w.heap.size, 3, none⟩) (fun _ => rfl) (.slice RA R.length cr)).setCell (p := ⟨w.heap.size, 4, none⟩) (fun _ => rfl) (.slice WA W.length cw)
   clear hB4a hB4b hB4c hB4
   have hR5 := hR4.fr hf45 (fun k hk e => by have := hB3.lt; omega)
   have hW5 := hW4.fr hf45 (fun k hk e => by have := hB3.lt; omega)
   have hf05 : Fr (fun _ => False) w ((((w4.setCell ⟨w.heap.size, 1, none⟩ (.int .i64 c)).setCell ⟨w.heap.size, 2, none⟩ (.int .i64 n)).setCell ⟨w.heap.size, 3, none⟩ (.slice RA R.length cr)).setCell ⟨w.heap.size, 4, none⟩ (.slice WA W.length cw)) := (hf03.then_ hf4).trans hf45 (fun k hk e => by omega)
   have ho5 := own_fr (own_fr ho3 hf4 (fun _ _ => id)) hf45 (fun k hk e => by simp [Value.ownBlock] at hk; omega)
   generalize hw5 : ((((w4.setCell ⟨w.heap.size, 1, none⟩ (.int .i64 c)).setCell ⟨w.heap.size, 2, none⟩ (.int .i64 n)).setCell ⟨w.heap.size, 3, none⟩ (.slice RA R.length cr)).setCell ⟨w.heap.size, 4, none⟩ (.slice WA W.length cw)) = w5 at *
   rw [show (w4.setCells w.heap.size 1 #[.int .i64 c, .int .i64 n, .slice RA R.length cr, .slice WA W.length cw].toList) = w5 from hw5]
   have hlt3 := hB3.lt
   clear hw5 hR4 hW4 hf45 ho3 hB3 hf03 hf4 hth
   have k0 := hB4d.cell 0
   have f0 := hB4d.frozen 0
   go_upto_region 25 with fail
   have hB6 : Blk (w5.setCell ⟨w.heap.size, 0, none⟩ (.int .i64 1)) w.heap.size 62 #[.int .i64 1, .int .i64 c, .int .i64 n, .slice RA R.length cr, .slice WA W.length cw, .int .i64 1, .int .i64 txn, .bool yes, .string ff, .string tt, .int .i64 epoch, .int .i64 shard, .int .i64 target, .int .i64 root, .int .i64 G, .int .i64 D, .slice C xs.length cx, .int .i64 0, .int .i64 0, .slice none 0 0, .slice none 0 0] := hB4d.set_ 0 _
   have hf56 : Fr (fun k => k = w.heap.size) w5 (w5.setCell ⟨w.heap.size, 0, none⟩ (.int .i64 1)) := (Fr.refl (fun k => k = w.heap.size) w5).setCell (p := ⟨w.heap.size, 0, none⟩) (fun _ => rfl) _
   have hf06 := hf05.trans hf56 (fun k hk e => by omega)
   have hR6 := hR5.fr hf56 (fun k hk e => by omega)
   have hW6 := hW5.fr hf56 (fun k hk e => by omega)
   have ho6 := own_fr ho5 hf56 (fun k hk e => by simp [Value.ownBlock] at hk; omega)
   generalize w5.setCell ⟨w.heap.size, 0, none⟩ (.int .i64 1) = w6 at *
   clear hB4d hf05 hf56 hR5 hW5 ho5 k0 f0
   obtain ⟨A6, c6, ev, hr6⟩ := own_introw (l := [shard + 1]) ho6 rfl
   cases ev
   have HTL := Lib.hid (txnB_len hok.out)
   have HT : Calls Tryz.prog 64 #[.agg #[.int .i64 1, .int .i64 c, .int .i64 n, .slice RA R.length cr, .slice WA W.length cw, .int .i64 1, .int .i64 txn, .bool yes, .string ff, .string tt, .int .i64 epoch, .int .i64 shard, .int .i64 target, .int .i64 root, .int .i64 G, .int .i64 D, .slice C xs.length cx, .int .i64 0, .int .i64 0, .slice none 0 0, .slice none 0 0], .slice (some ⟨w1.heap.size, 0, none⟩) 1 1] w6 (TasksP w6 [shard + 1] (orderB 1 (txnB c n R W) (sayB ⟨1, txn, yes, ff, tt, epoch, shard, target, root⟩) (certB G D xs))) := relay_tasks_ok (s := ⟨1, txn, yes, ff, tt, epoch, shard, target, root⟩) (cg := 1) (gs := [shard + 1]) hr6 (Nat.le_refl _) (by simp) (orderB_len HTL.out (by have := sayB_short ⟨1, txn, yes, ff, tt, epoch, shard, target, root⟩; rw [show wordB ⟨1, txn, yes, ff, tt, epoch, shard, target, root⟩ = _ from if_pos HOK.out] at this; exact this) (certB_len HXL.out)) (fun w' hf => order_prep ((hR6.fr hf (fun _ _ => id)).mono_ (F' := fun _ => True) (fun _ _ => trivial)) ((hW6.fr hf (fun _ _ => id)).mono_ (F' := fun _ => True) (fun _ _ => trivial)) hok.out HOK.out (HC.out.fr (hf06.then_ hf) (fun _ _ => id)) (Nat.le_trans hbC (hf06.then_ hf).size) HXL.out HG.out)
   replace HT := Lib.hid HT
   go_wp2_with (first
    | (refine wpList_load_row rfl 62 _ rfl _ rfl _ _ (0, 0) _ hB6 Tryz.underlying62 rfl (by kernel_rfl) ?_)
    | (go_at_call 64; refine HT.out.mono ?_; rintro e w' ⟨tv, rfl, hv, hf'⟩))
   go_ret
   exact .inl ⟨bs, HBS.out, hT.out, tv, rfl, by rw [hbt.out]; exact hv.base_ hf06.size, hf06.then_ hf'⟩
  ·have HGN : Hid (Calls Tryz.prog 80 #[.slice A3 bs.length c3] w3 (fun e w' => ∃ t u, e = .returned (.tuple #[.agg #[.int .i64 0, .int .i64 0, .slice none 0 0, .slice none 0 0], .iface t u]) ∧ Fr (fun _ => False) w3 w')) := by
    refine HG3.out.mono ?_
    rintro e w' (⟨c, n, R, W, _, _, _, _, h1, h2, _⟩ | ⟨_, ⟨l, k, rfl⟩, hf⟩)
    ·exact absurd ⟨c, n, R, W, h1, h2⟩ hT
    ·obtain ⟨t, u, hu⟩ := errV_iface l k
     exact ⟨t, u, by rw [hu], hf⟩
   have HNO : Hid (∀ b, L[txn.toNat]? = some b → ¬ IsTxn b) := fun b hb => by
    have e := HBS.out
    rw [hb] at e
    rw [Option.some.inj e]
    exact hT
   clear HG3 hT
   go_upto_region 9 with (first
    | (go_at_call 80; refine HGN.out.mono ?_; rintro e w4 ⟨t, u, rfl, hf4⟩; have hB4 := hB3.fr hf4 id; have hth : w4.there w.heap.size 1 4 := hB4.there (Nat.le_of_ble_eq_true rfl))
    | (refine wpList_store_mid rfl 29 (.tmp 37) (.tmp 35) rfl w.heap.size 1 #[.int .i64 0, .int .i64 0, .slice none 0 0, .slice none 0 0] rfl rfl hth (by kernel_rfl) (by simp [Value.oneCell']) ?_))
   have hfz : Fr (fun k => k = w.heap.size) w4 (w4.setCells w.heap.size 1 #[.int .i64 0, .int .i64 0, .slice none 0 0, .slice none 0 0].toList) := Fr.setCells_ (S := fun k => k = w.heap.size) (fun _ => rfl) _ _ (Fr.refl _ _)
   generalize w4.setCells w.heap.size 1 #[.int .i64 0, .int .i64 0, .slice none 0 0, .slice none 0 0].toList = w5 at *
   go_wp2_with fail
   go_ret
   exact .inr ⟨HNO.out, .slice none 0 0, rfl, TasksAt.nil _ _ _, (hf03.then_ hf4).trans hfz (fun k hk e => by omega)⟩
 ·have HT := Lib.hid (book_Text_no hb2 (d := txn) (by omega) (by omega))
  have HNO : Hid (∀ bs, L[txn.toNat]? = some bs → ¬ IsTxn bs) := fun bs hbs => by
   have := (List.getElem?_eq_some_iff.1 hbs).1
   omega
  go_wp2_with (go_at_call 75; refine HT.out.mono ?_; rintro e w3 ⟨t, u, rfl, hf3⟩)
  go_ret
  exact .inr ⟨HNO.out, .slice none 0 0, rfl, TasksAt.nil _ _ _, hf2.then_ hf3⟩
def MadeF (w : World) (G D : Int) (L : List (Int × Int)) (need : Int) (e : Ending) (w' : World) : Prop :=
  Fr (fun _ => False) w w' ∧
  (((need < 1 ∨ ((whoInts G D L).length : Int) < need) ∧ e = .returned (.tuple #[.agg #[.int .i64 0, .int .i64 0, .slice none 0 0], errV [((⟨#[109, 97, 107, 101]⟩ : ByteArray), ((whoInts G D L).length : Int))] 51])) ∨
   (¬ (need < 1 ∨ ((whoInts G D L).length : Int) < need) ∧ ∃ A cap, e = .returned (.tuple #[.agg #[.int .i64 G, .int .i64 D, .slice A ((whoInts G D L).take need.toNat).length cap], .nilIface]) ∧ IntRow w' w'.heap.size A ((whoInts G D L).take need.toNat) ∧ ∀ b o, A = some ⟨b, o, none⟩ → w.heap.size ≤ b))
theorem cert_MakeF {w : World} {g m : Nat} {L : List (Int × Int)} (hs : SealsAt w g m L) (G D need : Int) :
  Calls Tryz.prog 43 #[.pointer (some ⟨g, 0, none⟩), .int .i64 G, .int .i64 D, .int .i64 need] w (MadeF w G D L need) := by
 go_enter Tryz.func43, Tryz.ntmps43
 go_wp2_with fail
 have hf0 : Fr (fun _ => False) w (w.alloc (Obj.cells #[.int .i64 0, .int .i64 0, .slice none 0 0] 41)) := (Fr.refl _ _).alloc _
 refine (seals_Who (hs.fr hf0 id id) G D).mono ?_
 rintro e w1 ⟨v, rfl, hown, hf1⟩
 obtain ⟨A, cap, rfl, hcap, _⟩ := own_form hown
 have b1 : Blk w1 w.heap.size 41 #[.int .i64 0, .int .i64 0, .slice none 0 0] := (Blk.new _ _ _).fr hf1 id
 have c0 := b1.cell 0
 have c1 := b1.cell 1
 have c2 := b1.cell 2
 have z0 := b1.frozen 0
 have z1 := b1.frozen 1
 have z2 := b1.frozen 2
 have hf2 := hf0.then_ hf1
 by_cases hn : need < 1 ∨ ((whoTo G D L 10).length : Int) < need
 ·have HN := Lib.hid hn
  by_cases h1 : need < 1
  ·clear hn
   go_wp2_with (first
    | (go_at_call 71; refine (fault_Of _ rfl _).mono ?_; rintro e w' ⟨rfl, rfl⟩)
    | (go_at_call 70; refine (fault_Wrap _ _ _ _ _).mono ?_; rintro e w' ⟨rfl, rfl⟩))
   have b2 := ((b1.set_ 0 (.int .i64 0)).set_ 1 (.int .i64 0)).set_ 2 (.slice none 0 0)
   have d0 := b2.cell 0
   have d1 := b2.cell 1
   have d2 := b2.cell 2
   refine bodyPost_ret (v := .tuple #[.agg #[.int .i64 0, .int .i64 0, .slice none 0 0], errV [((⟨#[109, 97, 107, 101]⟩ : ByteArray), ((whoTo G D L 10).length : Int))] 51]) (by simp [results, Tryz.results43, go_sem, d0, d1, d2]) rfl ?_
   refine ⟨?_, .inl ⟨by rw [whoInts_length]; exact HN.out, by rw [whoInts_length]⟩⟩
   exact Fr.setCell (p := ⟨w.heap.size, 2, none⟩) (Fr.setCell (p := ⟨w.heap.size, 1, none⟩) (Fr.setCell (p := ⟨w.heap.size, 0, none⟩) hf2 (fun h => absurd h (Nat.lt_irrefl _)) _) (fun h => absurd h (Nat.lt_irrefl _)) _) (fun h => absurd h (Nat.lt_irrefl _)) _
  ·have h2 : ((whoTo G D L 10).length : Int) < need := by omega
   clear hn
   go_wp2_with (first
    | (go_at_call 71; refine (fault_Of _ rfl _).mono ?_; rintro e w' ⟨rfl, rfl⟩)
    | (go_at_call 70; refine (fault_Wrap _ _ _ _ _).mono ?_; rintro e w' ⟨rfl, rfl⟩))
   have b2 := ((b1.set_ 0 (.int .i64 0)).set_ 1 (.int .i64 0)).set_ 2 (.slice none 0 0)
   have d0 := b2.cell 0
   have d1 := b2.cell 1
   have d2 := b2.cell 2
   refine bodyPost_ret (v := .tuple #[.agg #[.int .i64 0, .int .i64 0, .slice none 0 0], errV [((⟨#[109, 97, 107, 101]⟩ : ByteArray), ((whoTo G D L 10).length : Int))] 51]) (by simp [results, Tryz.results43, go_sem, d0, d1, d2]) rfl ?_
   refine ⟨?_, .inl ⟨by rw [whoInts_length]; exact HN.out, by rw [whoInts_length]⟩⟩
   exact Fr.setCell (p := ⟨w.heap.size, 2, none⟩) (Fr.setCell (p := ⟨w.heap.size, 1, none⟩) (Fr.setCell (p := ⟨w.heap.size, 0, none⟩) hf2 (fun h => absurd h (Nat.lt_irrefl _)) _) (fun h => absurd h (Nat.lt_irrefl _)) _) (fun h => absurd h (Nat.lt_irrefl _)) _
 ·have HN := Lib.hid hn
  have h1 : ¬ need < 1 := by omega
  have h2 : ¬ ((whoTo G D L 10).length : Int) < need := by omega
  obtain ⟨n, rfl⟩ : ∃ n : Nat, need = n := ⟨need.toNat, by omega⟩
  have h3 : n ≤ (whoTo G D L 10).length := by omega
  have h4 : n ≤ cap := by omega
  have h5 : ¬ cap = 0 := by omega
  have hlen : ((whoInts G D L).take n).length = n := by rw [List.length_take, whoInts_length]; omega
  clear hn
  go_wp2_with fail
  have b2 := b1.set_ 0 (.int .i64 G)
  have b3 := b2.set_ 1 (.int .i64 D)
  have b4 := b3.set_ 2 (.slice A n cap)
  have d0 := b4.cell 0
  have d1 := b4.cell 1
  have d2 := b4.cell 2
  have o4 := own_setCell (own_setCell (own_setCell hown b1 (by decide) 0 (.int .i64 G)) b2 (by decide) 1 (.int .i64 D)) b3 (by decide) 2 (.slice A n cap)
  refine bodyPost_ret (v := .tuple #[.agg #[.int .i64 G, .int .i64 D, .slice A n cap], .nilIface]) (by simp [results, Tryz.results43, go_sem, d0, d1, d2]) rfl ?_
  refine ⟨?_, .inr ⟨by rw [whoInts_length]; exact HN.out, A, cap, ?_, ?_, ?_⟩⟩
  ·exact Fr.setCell (p := ⟨w.heap.size, 2, none⟩) (Fr.setCell (p := ⟨w.heap.size, 1, none⟩) (Fr.setCell (p := ⟨w.heap.size, 0, none⟩) hf2 (fun h => absurd h (Nat.lt_irrefl _)) _) (fun h => absurd h (Nat.lt_irrefl _)) _) (fun h => absurd h (Nat.lt_irrefl _)) _
  ·rw [Int.toNat_natCast, hlen]
  ·rw [Int.toNat_natCast]
   exact (IntRow.of_own o4).take n
  ·intro b o e
   have h5 := own_ge o4 b (by rw [e]; rfl)
   have h6 : w.heap.size ≤ (w.alloc (Obj.cells #[.int .i64 0, .int .i64 0, .slice none 0 0] 41)).heap.size := by simp
   exact Nat.le_trans h6 h5
end Go.Proofs.YtmkdhhhoodeemaaGreat
