/- Parts of the proof, joined. -/
import Derived.Test.YtmkdhhhoodeemaaGreatRoLProofGa
import Derived.Test.YtmkdhhhoodeemaaGreatRoLProofGb
import Derived.Test.YtmkdhhhoodeemaaGreatRoLProofGc
import Derived.Test.YtmkdhhhoodeemaaGreatRoLProofGd
set_option linter.unusedVariables false
set_option linter.unusedSimpArgs false
set_option maxRecDepth 100000
set_option maxHeartbeats 16000000
namespace Go.Proofs.YtmkdhhhoodeemaaGreat
open Go Go.RowKit
attribute [local go_sem ↓] run_neqSay run_eqlSay
theorem say_texts_okP {w : World} {pm : Int} {PA QA : Option Addr} {pn pc qn qc : Nat} {A B : Option Addr} {nr nw cr cw : Nat} {c n : Int} {s : SayD} {bC : Nat} {C : Option Addr} {cx : Nat} {xs : List Int} {G D : Int} (hC : IntRow w bC C xs) (hbC : bC ≤ w.heap.size) (hxl : xs.length ≤ 1024) (hgetok : getOk (num8 G ++ num8 D ++ numsB xs)) {bs : List Int} (hbs : num8 G ++ num8 D ++ numsB xs = bs) {kind : Int} {nm sz : Bool} {b0 b1 : List Int} {r0 r1 : Value}
  (hsz : zeroSay s = !sz)
  (h0 : ∀ w', Fr (fun _ => False) w w' → Calls Tryz.prog 148 #[.bool nm, .agg #[.int .i64 c, .int .i64 n, .slice A nr cr, .slice B nw cw], .func (.func 149) #[] #[]] w' (PutP w' b0 r0))
  (h1 : ∀ w', Fr (fun _ => False) w w' → Calls Tryz.prog 150 #[.bool sz, .agg #[.int .i64 s.kind, .int .i64 s.txn, .bool s.yes, .string s.from_, .string s.to_, .int .i64 s.epoch, .int .i64 s.shard, .int .i64 s.target, .int .i64 s.root], .func (.func 77) #[] #[]] w' (PutP w' b1 r1))
  (hfit : ∀ w', Fr (fun _ => False) w w' → Calls Tryz.prog 156 #[.agg #[.int .i64 pm, .int .i64 0, .slice PA pn pc, .slice QA qn qc]] w' (OkB w' true)) (hr0 : r0 = .nilIface) (hr1 : r1 = .nilIface) (hk1 : 1 ≤ kind) (hk2 : kind ≤ 10) (hnm : nm = false) (hk : ¬ kind = 1 ∧ ¬ kind = 6) (hno : ∀ w', Fr (fun _ => False) w w' → Calls Tryz.prog 155 #[.agg #[.int .i64 c, .int .i64 n, .slice A nr cr, .slice B nw cw]] w' (OkB w' true)) :
  Calls Tryz.prog 123 #[.agg #[.int .i64 kind, .int .i64 c, .int .i64 n, .slice A nr cr, .slice B nw cw, .int .i64 s.kind, .int .i64 s.txn, .bool s.yes, .string s.from_, .string s.to_, .int .i64 s.epoch, .int .i64 s.shard, .int .i64 s.target, .int .i64 s.root, .int .i64 G, .int .i64 D, .slice C xs.length cx, .int .i64 pm, .int .i64 0, .slice PA pn pc, .slice QA qn qc]] w (fun e w' => ∃ v0 v1 v2, e = .returned (.tuple #[.agg #[v0, v1, v2], .bool true]) ∧ Own8 w' w.heap.size v0 b0 ∧ Own8 w' w.heap.size v1 b1 ∧ Own8 w' w.heap.size v2 bs ∧ Fr (fun _ => False) w w') := by
 have H0 := Lib.hid h0
 have H1 := Lib.hid h1
 have HC := Lib.hid hC
 have HG := hgetok
 rw [hbs] at HG
 have HG := Lib.hid HG
 have HBS := Lib.hid hbs
 have H8 : Hid (Bytes8 bs) := by show Bytes8 bs; rw [← hbs]; exact cert_bytes G D xs
 have HBL : Hid (bs.length ≤ 9000) := by show _ ≤ _; rw [← hbs]; exact cert_len hxl
 have HXL := Lib.hid hxl
 have HBC := Lib.hid hbC
 clear h0 h1 hC hgetok hxl hbC hbs
 have hf0 : Fr (fun _ => False) w ((((w.alloc (Obj.cells #[.int .i64 kind, .int .i64 c, .int .i64 n, .slice A nr cr, .slice B nw cw, .int .i64 s.kind, .int .i64 s.txn, .bool s.yes, .string s.from_, .string s.to_, .int .i64 s.epoch, .int .i64 s.shard, .int .i64 s.target, .int .i64 s.root, .int .i64 G, .int .i64 D, .slice C xs.length cx, .int .i64 pm, .int .i64 0, .slice PA pn pc, .slice QA qn qc] 62)).alloc (Obj.cells #[.slice none 0 0, .slice none 0 0, .slice none 0 0] 214)).alloc (Obj.cells #[.slice none 0 0, .slice none 0 0, .slice none 0 0] 214)).alloc (Obj.cells #[.nilIface, .nilIface, .nilIface, .nilIface] 233)) := ((((Fr.refl _ _).alloc _).alloc _).alloc _).alloc _
 have hO0 : Blk ((((w.alloc (Obj.cells #[.int .i64 kind, .int .i64 c, .int .i64 n, .slice A nr cr, .slice B nw cw, .int .i64 s.kind, .int .i64 s.txn, .bool s.yes, .string s.from_, .string s.to_, .int .i64 s.epoch, .int .i64 s.shard, .int .i64 s.target, .int .i64 s.root, .int .i64 G, .int .i64 D, .slice C xs.length cx, .int .i64 pm, .int .i64 0, .slice PA pn pc, .slice QA qn qc] 62)).alloc (Obj.cells #[.slice none 0 0, .slice none 0 0, .slice none 0 0] 214)).alloc (Obj.cells #[.slice none 0 0, .slice none 0 0, .slice none 0 0] 214)).alloc (Obj.cells #[.nilIface, .nilIface, .nilIface, .nilIface] 233)) w.heap.size 62 #[.int .i64 kind, .int .i64 c, .int .i64 n, .slice A nr cr, .slice B nw cw, .int .i64 s.kind, .int .i64 s.txn, .bool s.yes, .string s.from_, .string s.to_, .int .i64 s.epoch, .int .i64 s.shard, .int .i64 s.target, .int .i64 s.root, .int .i64 G, .int .i64 D, .slice C xs.length cx, .int .i64 pm, .int .i64 0, .slice PA pn pc, .slice QA qn qc] := (((Blk.new w _ _).alloc _).alloc _).alloc _
 have hR0 : Blk ((((w.alloc (Obj.cells #[.int .i64 kind, .int .i64 c, .int .i64 n, .slice A nr cr, .slice B nw cw, .int .i64 s.kind, .int .i64 s.txn, .bool s.yes, .string s.from_, .string s.to_, .int .i64 s.epoch, .int .i64 s.shard, .int .i64 s.target, .int .i64 s.root, .int .i64 G, .int .i64 D, .slice C xs.length cx, .int .i64 pm, .int .i64 0, .slice PA pn pc, .slice QA qn qc] 62)).alloc (Obj.cells #[.slice none 0 0, .slice none 0 0, .slice none 0 0] 214)).alloc (Obj.cells #[.slice none 0 0, .slice none 0 0, .slice none 0 0] 214)).alloc (Obj.cells #[.nilIface, .nilIface, .nilIface, .nilIface] 233)) (w.heap.size + 1) 214 #[.slice none 0 0, .slice none 0 0, .slice none 0 0] := ((Blk.new_ _ _ _ (by simp)).alloc _).alloc _
 have hL0 : Blk ((((w.alloc (Obj.cells #[.int .i64 kind, .int .i64 c, .int .i64 n, .slice A nr cr, .slice B nw cw, .int .i64 s.kind, .int .i64 s.txn, .bool s.yes, .string s.from_, .string s.to_, .int .i64 s.epoch, .int .i64 s.shard, .int .i64 s.target, .int .i64 s.root, .int .i64 G, .int .i64 D, .slice C xs.length cx, .int .i64 pm, .int .i64 0, .slice PA pn pc, .slice QA qn qc] 62)).alloc (Obj.cells #[.slice none 0 0, .slice none 0 0, .slice none 0 0] 214)).alloc (Obj.cells #[.slice none 0 0, .slice none 0 0, .slice none 0 0] 214)).alloc (Obj.cells #[.nilIface, .nilIface, .nilIface, .nilIface] 233)) (w.heap.size + 1 + 1) 214 #[.slice none 0 0, .slice none 0 0, .slice none 0 0] := (Blk.new_ _ _ _ (by simp)).alloc _
 have hE0 : Blk ((((w.alloc (Obj.cells #[.int .i64 kind, .int .i64 c, .int .i64 n, .slice A nr cr, .slice B nw cw, .int .i64 s.kind, .int .i64 s.txn, .bool s.yes, .string s.from_, .string s.to_, .int .i64 s.epoch, .int .i64 s.shard, .int .i64 s.target, .int .i64 s.root, .int .i64 G, .int .i64 D, .slice C xs.length cx, .int .i64 pm, .int .i64 0, .slice PA pn pc, .slice QA qn qc] 62)).alloc (Obj.cells #[.slice none 0 0, .slice none 0 0, .slice none 0 0] 214)).alloc (Obj.cells #[.slice none 0 0, .slice none 0 0, .slice none 0 0] 214)).alloc (Obj.cells #[.nilIface, .nilIface, .nilIface, .nilIface] 233)) (w.heap.size + 1 + 1 + 1) 233 #[.nilIface, .nilIface, .nilIface, .nilIface] := Blk.new_ _ _ _ (by simp)
 have hz0 : w.heap.size + 4 ≤ ((((w.alloc (Obj.cells #[.int .i64 kind, .int .i64 c, .int .i64 n, .slice A nr cr, .slice B nw cw, .int .i64 s.kind, .int .i64 s.txn, .bool s.yes, .string s.from_, .string s.to_, .int .i64 s.epoch, .int .i64 s.shard, .int .i64 s.target, .int .i64 s.root, .int .i64 G, .int .i64 D, .slice C xs.length cx, .int .i64 pm, .int .i64 0, .slice PA pn pc, .slice QA qn qc] 62)).alloc (Obj.cells #[.slice none 0 0, .slice none 0 0, .slice none 0 0] 214)).alloc (Obj.cells #[.slice none 0 0, .slice none 0 0, .slice none 0 0] 214)).alloc (Obj.cells #[.nilIface, .nilIface, .nilIface, .nilIface] 233)).heap.size := by simp
 subst hr0 hr1 hnm
 have HN := Lib.hid hno
 clear hno
 have HFIT := Lib.hid hfit
 clear hfit
 obtain ⟨q1, q6⟩ := hk
 have q1' : (kind == 1) = false := by simp [q1]
 have q6' : (kind == 6) = false := by simp [q6]
 go_enter Tryz.func123, Tryz.ntmps123
 go_upto_region 4 with fail
 generalize ((((w.alloc (Obj.cells #[.int .i64 kind, .int .i64 c, .int .i64 n, .slice A nr cr, .slice B nw cw, .int .i64 s.kind, .int .i64 s.txn, .bool s.yes, .string s.from_, .string s.to_, .int .i64 s.epoch, .int .i64 s.shard, .int .i64 s.target, .int .i64 s.root, .int .i64 G, .int .i64 D, .slice C xs.length cx, .int .i64 pm, .int .i64 0, .slice PA pn pc, .slice QA qn qc] 62)).alloc (Obj.cells #[.slice none 0 0, .slice none 0 0, .slice none 0 0] 214)).alloc (Obj.cells #[.slice none 0 0, .slice none 0 0, .slice none 0 0] 214)).alloc (Obj.cells #[.nilIface, .nilIface, .nilIface, .nilIface] 233)) = w0 at *
 have k1 := hO0.cell 1
 have k2 := hO0.cell 2
 have k3 := hO0.cell 3
 have k4 := hO0.cell 4
 go_upto_region 5 with (first | (go_at_call 148; refine (H0.out _ hf0).mono ?_; rintro e w1 ⟨v0, rfl, hv01, hf1⟩; obtain ⟨A0, c0, rfl, _, _⟩ := hv01.form; have hf01 := hf0.then_ hf1; have hL1 := hL0.fr hf1 id; have hE1 := hE0.fr hf1 id; have hO1 := hO0.fr hf1 id; have hR1 := hR0.fr hf1 id; have l0 := hL1.cell 0; have lf := hL1.frozen 0; have e0 := hE1.cell 0; have ef := hE1.frozen 0))
 have hO2 : Blk ((w1.setCell ⟨w.heap.size + 1 + 1, 0, none⟩ (Value.slice A0 b0.length c0)).setCell ⟨w.heap.size + 1 + 1 + 1, 0, none⟩ .nilIface) _ _ _ := ((hO1.far (fun h => by (try dsimp only at h); omega) _).far (fun h => by (try dsimp only at h); omega) _)
 have hR2 : Blk ((w1.setCell ⟨w.heap.size + 1 + 1, 0, none⟩ (Value.slice A0 b0.length c0)).setCell ⟨w.heap.size + 1 + 1 + 1, 0, none⟩ .nilIface) _ _ _ := ((hR1.far (fun h => by (try dsimp only at h); omega) _).far (fun h => by (try dsimp only at h); omega) _)
 have hL2 : Blk ((w1.setCell ⟨w.heap.size + 1 + 1, 0, none⟩ (Value.slice A0 b0.length c0)).setCell ⟨w.heap.size + 1 + 1 + 1, 0, none⟩ .nilIface) _ _ _ := ((hL1.set_ 0 _).far (fun h => by (try dsimp only at h); omega) _)
 have hE2 : Blk ((w1.setCell ⟨w.heap.size + 1 + 1, 0, none⟩ (Value.slice A0 b0.length c0)).setCell ⟨w.heap.size + 1 + 1 + 1, 0, none⟩ .nilIface) _ _ _ := ((hE1.far (fun h => by (try dsimp only at h); omega) _).set_ 0 _)
 have hf02 : Fr (fun _ => False) w ((w1.setCell ⟨w.heap.size + 1 + 1, 0, none⟩ (Value.slice A0 b0.length c0)).setCell ⟨w.heap.size + 1 + 1 + 1, 0, none⟩ .nilIface) := ((hf01.setCell (p := ⟨w.heap.size + 1 + 1, 0, none⟩) (fun h => absurd h (by dsimp only; omega)) _).setCell (p := ⟨w.heap.size + 1 + 1 + 1, 0, none⟩) (fun h => absurd h (by dsimp only; omega)) _)
 have hv02 : Own8 ((w1.setCell ⟨w.heap.size + 1 + 1, 0, none⟩ (Value.slice A0 b0.length c0)).setCell ⟨w.heap.size + 1 + 1 + 1, 0, none⟩ .nilIface) _ _ _ := hv01.fr (((Fr.refl (fun k => k = (w.heap.size + 1 + 1 + 1) ∨ k = (w.heap.size + 1 + 1)) w1).setCell (p := ⟨w.heap.size + 1 + 1, 0, none⟩) (fun _ => Or.inr rfl) _).setCell (p := ⟨w.heap.size + 1 + 1 + 1, 0, none⟩) (fun _ => Or.inl rfl) _) (fun k hk h => h.elim (fun h => hv01.ne_blk hE1 (by decide) (by rw [← h]; exact hk)) (fun h => hv01.ne_blk hL1 (by decide) (by rw [← h]; exact hk)))
 generalize ((w1.setCell ⟨w.heap.size + 1 + 1, 0, none⟩ (Value.slice A0 b0.length c0)).setCell ⟨w.heap.size + 1 + 1 + 1, 0, none⟩ .nilIface) = w2 at *
 have k5 := hO2.cell 5
 have k6 := hO2.cell 6
 have k7 := hO2.cell 7
 have k8 := hO2.cell 8
 have k9 := hO2.cell 9
 have k10 := hO2.cell 10
 have k11 := hO2.cell 11
 have k12 := hO2.cell 12
 have k13 := hO2.cell 13
 have hf02d : Fr (fun _ => False) w w2.drew := hf02.drew
 refine wp_region_noPanic ?_
 refine wp_region_held_drew (S := (fun w' => w'.cell? ⟨w.heap.size, 5, none⟩ = some (.int .i64 s.kind) ∧ w'.cell? ⟨w.heap.size, 6, none⟩ = some (.int .i64 s.txn) ∧ w'.cell? ⟨w.heap.size, 7, none⟩ = some (.bool s.yes) ∧ w'.cell? ⟨w.heap.size, 8, none⟩ = some (.string s.from_) ∧ w'.cell? ⟨w.heap.size, 9, none⟩ = some (.string s.to_) ∧ w'.cell? ⟨w.heap.size, 10, none⟩ = some (.int .i64 s.epoch) ∧ w'.cell? ⟨w.heap.size, 11, none⟩ = some (.int .i64 s.shard) ∧ w'.cell? ⟨w.heap.size, 12, none⟩ = some (.int .i64 s.target) ∧ w'.cell? ⟨w.heap.size, 13, none⟩ = some (.int .i64 s.root))) (by kernel_rfl) (⟨k5, k6, k7, k8, k9, k10, k11, k12, k13⟩) (fun hHeld => ?_)
 refine tk 0 26 ?_
 refine tk 1 27 ?_
 refine tk 2 28 ?_
 refine tk 3 29 ?_
 refine tk 4 30 ?_
 refine tk 5 31 ?_
 refine rd 6 (fun K hK => ?_)
 go_simp
 go_at_call 150
 refine (H1.out _ hf02d).mono ?_
 rintro e w3 ⟨v1, rfl, hv13, hf3⟩
 obtain ⟨A1, c1, rfl, _, _⟩ := hv13.form
 have hf3 : Fr (fun _ => False) w2 w3 := ((Fr.refl (fun _ => False) w2).drew).trans hf3 (fun _ _ h => h)
 have hO3 := hO2.fr hf3 id
 have hR3 := hR2.fr hf3 id
 have hL3 := hL2.fr hf3 id
 have hE3 := hE2.fr hf3 id
 have hv03 := hv02.fr hf3 (fun _ _ => id)
 have hf03 := hf02.then_ hf3
 have lc1 := hL3.cell 1
 have ec1 := hE3.cell 1
 have lf := hL3.frozen 1
 have ef := hE3.frozen 1
 try go_wp2_with fail
 refine hK.out _ _ (⟨hO3.cell 5, hO3.cell 6, hO3.cell 7, hO3.cell 8, hO3.cell 9, hO3.cell 10, hO3.cell 11, hO3.cell 12, hO3.cell 13⟩) (fun hHeld => ?_)
 clear hK K
 refine tk 7 25 ?_
 refine tk 8 33 ?_
 refine tk 9 34 ?_
 refine tk 10 35 ?_
 refine rd 11 (fun K hK => ?_)
 go_simp
 refine hK.out _ _ (⟨(hO3.far (fun h => by (try dsimp only at h); omega) _).cell 5, (hO3.far (fun h => by (try dsimp only at h); omega) _).cell 6, (hO3.far (fun h => by (try dsimp only at h); omega) _).cell 7, (hO3.far (fun h => by (try dsimp only at h); omega) _).cell 8, (hO3.far (fun h => by (try dsimp only at h); omega) _).cell 9, (hO3.far (fun h => by (try dsimp only at h); omega) _).cell 10, (hO3.far (fun h => by (try dsimp only at h); omega) _).cell 11, (hO3.far (fun h => by (try dsimp only at h); omega) _).cell 12, (hO3.far (fun h => by (try dsimp only at h); omega) _).cell 13⟩) (fun hHeld => ?_)
 clear hK K
 refine tk 12 36 ?_
 refine rd 13 (fun K hK => ?_)
 go_simp
 refine hK.out _ _ (⟨((hO3.far (fun h => by (try dsimp only at h); omega) _).far (fun h => by (try dsimp only at h); omega) _).cell 5, ((hO3.far (fun h => by (try dsimp only at h); omega) _).far (fun h => by (try dsimp only at h); omega) _).cell 6, ((hO3.far (fun h => by (try dsimp only at h); omega) _).far (fun h => by (try dsimp only at h); omega) _).cell 7, ((hO3.far (fun h => by (try dsimp only at h); omega) _).far (fun h => by (try dsimp only at h); omega) _).cell 8, ((hO3.far (fun h => by (try dsimp only at h); omega) _).far (fun h => by (try dsimp only at h); omega) _).cell 9, ((hO3.far (fun h => by (try dsimp only at h); omega) _).far (fun h => by (try dsimp only at h); omega) _).cell 10, ((hO3.far (fun h => by (try dsimp only at h); omega) _).far (fun h => by (try dsimp only at h); omega) _).cell 11, ((hO3.far (fun h => by (try dsimp only at h); omega) _).far (fun h => by (try dsimp only at h); omega) _).cell 12, ((hO3.far (fun h => by (try dsimp only at h); omega) _).far (fun h => by (try dsimp only at h); omega) _).cell 13⟩) (fun hHeld => ?_)
 clear hK K
 refine wpAnyH_done (by kernel_rfl) ?_ _
 refine NoPanic.normal ?_
 have hO4 : Blk ((w3.setCell ⟨w.heap.size + 1 + 1, 1, none⟩ (Value.slice A1 b1.length c1)).setCell ⟨w.heap.size + 1 + 1 + 1, 1, none⟩ .nilIface) _ _ _ := ((hO3.far (fun h => by (try dsimp only at h); omega) _).far (fun h => by (try dsimp only at h); omega) _)
 have hR4 : Blk ((w3.setCell ⟨w.heap.size + 1 + 1, 1, none⟩ (Value.slice A1 b1.length c1)).setCell ⟨w.heap.size + 1 + 1 + 1, 1, none⟩ .nilIface) _ _ _ := ((hR3.far (fun h => by (try dsimp only at h); omega) _).far (fun h => by (try dsimp only at h); omega) _)
 have hL4 : Blk ((w3.setCell ⟨w.heap.size + 1 + 1, 1, none⟩ (Value.slice A1 b1.length c1)).setCell ⟨w.heap.size + 1 + 1 + 1, 1, none⟩ .nilIface) _ _ _ := ((hL3.set_ 1 _).far (fun h => by (try dsimp only at h); omega) _)
 have hE4 : Blk ((w3.setCell ⟨w.heap.size + 1 + 1, 1, none⟩ (Value.slice A1 b1.length c1)).setCell ⟨w.heap.size + 1 + 1 + 1, 1, none⟩ .nilIface) _ _ _ := ((hE3.far (fun h => by (try dsimp only at h); omega) _).set_ 1 _)
 have hf04 : Fr (fun _ => False) w ((w3.setCell ⟨w.heap.size + 1 + 1, 1, none⟩ (Value.slice A1 b1.length c1)).setCell ⟨w.heap.size + 1 + 1 + 1, 1, none⟩ .nilIface) := ((hf03.setCell (p := ⟨w.heap.size + 1 + 1, 1, none⟩) (fun h => absurd h (by dsimp only; omega)) _).setCell (p := ⟨w.heap.size + 1 + 1 + 1, 1, none⟩) (fun h => absurd h (by dsimp only; omega)) _)
 have hv04 : Own8 ((w3.setCell ⟨w.heap.size + 1 + 1, 1, none⟩ (Value.slice A1 b1.length c1)).setCell ⟨w.heap.size + 1 + 1 + 1, 1, none⟩ .nilIface) _ _ _ := hv03.fr (((Fr.refl (fun k => k = (w.heap.size + 1 + 1 + 1) ∨ k = (w.heap.size + 1 + 1)) w3).setCell (p := ⟨w.heap.size + 1 + 1, 1, none⟩) (fun _ => Or.inr rfl) _).setCell (p := ⟨w.heap.size + 1 + 1 + 1, 1, none⟩) (fun _ => Or.inl rfl) _) (fun k hk h => h.elim (fun h => hv03.ne_blk hE3 (by decide) (by rw [← h]; exact hk)) (fun h => hv03.ne_blk hL3 (by decide) (by rw [← h]; exact hk)))
 have hv14 : Own8 ((w3.setCell ⟨w.heap.size + 1 + 1, 1, none⟩ (Value.slice A1 b1.length c1)).setCell ⟨w.heap.size + 1 + 1 + 1, 1, none⟩ .nilIface) _ _ _ := hv13.fr (((Fr.refl (fun k => k = (w.heap.size + 1 + 1 + 1) ∨ k = (w.heap.size + 1 + 1)) w3).setCell (p := ⟨w.heap.size + 1 + 1, 1, none⟩) (fun _ => Or.inr rfl) _).setCell (p := ⟨w.heap.size + 1 + 1 + 1, 1, none⟩) (fun _ => Or.inl rfl) _) (fun k hk h => h.elim (fun h => hv13.ne_blk hE3 (by decide) (by rw [← h]; exact hk)) (fun h => hv13.ne_blk hL3 (by decide) (by rw [← h]; exact hk)))
 generalize ((w3.setCell ⟨w.heap.size + 1 + 1, 1, none⟩ (Value.slice A1 b1.length c1)).setCell ⟨w.heap.size + 1 + 1 + 1, 1, none⟩ .nilIface) = w4 at *
 have k14 := hO4.cell 14
 have k15 := hO4.cell 15
 have k16 := hO4.cell 16
 have HP : Hid (Calls Tryz.prog 151 #[.agg #[.int .i64 G, .int .i64 D, .slice C xs.length cx]] w4 (PutP w4 bs .nilIface)) := (cert_Put (cap := cx) (HC.out.fr hf04 (fun _ _ => id)) (Nat.le_trans HBC.out hf04.size) (by have := HXL.out; omega) G D).mono fun _ _ h => HBS.out ▸ putP_of HXL.out h
 go_upto_region 7 with (first | (go_at_call 151; refine HP.out.mono ?_; rintro e w5 ⟨v2, rfl, hv25, hf5⟩; obtain ⟨A2, c2, rfl, _, _⟩ := hv25.form; have hO5 := hO4.fr hf5 id; have hR5 := hR4.fr hf5 id; have hL5 := hL4.fr hf5 id; have hE5 := hE4.fr hf5 id; have hv05 := hv04.fr hf5 (fun _ _ => id); have hv15 := hv14.fr hf5 (fun _ _ => id); have hf05 := hf04.then_ hf5; have lc := hL5.cell 2; have lf := hL5.frozen 2; have ec := hE5.cell 2; have ef := hE5.frozen 2))
 have hO6 : Blk ((w5.setCell ⟨w.heap.size + 1 + 1, 2, none⟩ (Value.slice A2 bs.length c2)).setCell ⟨w.heap.size + 1 + 1 + 1, 2, none⟩ Value.nilIface) _ _ _ := ((hO5.far (fun h => by (try dsimp only at h); omega) _).far (fun h => by (try dsimp only at h); omega) _)
 have hR6 : Blk ((w5.setCell ⟨w.heap.size + 1 + 1, 2, none⟩ (Value.slice A2 bs.length c2)).setCell ⟨w.heap.size + 1 + 1 + 1, 2, none⟩ Value.nilIface) _ _ _ := ((hR5.far (fun h => by (try dsimp only at h); omega) _).far (fun h => by (try dsimp only at h); omega) _)
 have hL6 : Blk ((w5.setCell ⟨w.heap.size + 1 + 1, 2, none⟩ (Value.slice A2 bs.length c2)).setCell ⟨w.heap.size + 1 + 1 + 1, 2, none⟩ Value.nilIface) _ _ _ := ((hL5.set_ 2 _).far (fun h => by (try dsimp only at h); omega) _)
 have hE6 : Blk ((w5.setCell ⟨w.heap.size + 1 + 1, 2, none⟩ (Value.slice A2 bs.length c2)).setCell ⟨w.heap.size + 1 + 1 + 1, 2, none⟩ Value.nilIface) _ _ _ := ((hE5.far (fun h => by (try dsimp only at h); omega) _).set_ 2 _)
 have hf06 : Fr (fun _ => False) w ((w5.setCell ⟨w.heap.size + 1 + 1, 2, none⟩ (Value.slice A2 bs.length c2)).setCell ⟨w.heap.size + 1 + 1 + 1, 2, none⟩ Value.nilIface) := ((hf05.setCell (p := ⟨w.heap.size + 1 + 1, 2, none⟩) (fun h => absurd h (by dsimp only; omega)) _).setCell (p := ⟨w.heap.size + 1 + 1 + 1, 2, none⟩) (fun h => absurd h (by dsimp only; omega)) _)
 have hv06 : Own8 ((w5.setCell ⟨w.heap.size + 1 + 1, 2, none⟩ (Value.slice A2 bs.length c2)).setCell ⟨w.heap.size + 1 + 1 + 1, 2, none⟩ Value.nilIface) _ _ _ := hv05.fr (((Fr.refl (fun k => k = (w.heap.size + 1 + 1 + 1) ∨ k = (w.heap.size + 1 + 1)) w5).setCell (p := ⟨w.heap.size + 1 + 1, 2, none⟩) (fun _ => Or.inr rfl) _).setCell (p := ⟨w.heap.size + 1 + 1 + 1, 2, none⟩) (fun _ => Or.inl rfl) _) (fun k hk h => h.elim (fun h => hv05.ne_blk hE5 (by decide) (by rw [← h]; exact hk)) (fun h => hv05.ne_blk hL5 (by decide) (by rw [← h]; exact hk)))
 have hv16 : Own8 ((w5.setCell ⟨w.heap.size + 1 + 1, 2, none⟩ (Value.slice A2 bs.length c2)).setCell ⟨w.heap.size + 1 + 1 + 1, 2, none⟩ Value.nilIface) _ _ _ := hv15.fr (((Fr.refl (fun k => k = (w.heap.size + 1 + 1 + 1) ∨ k = (w.heap.size + 1 + 1)) w5).setCell (p := ⟨w.heap.size + 1 + 1, 2, none⟩) (fun _ => Or.inr rfl) _).setCell (p := ⟨w.heap.size + 1 + 1 + 1, 2, none⟩) (fun _ => Or.inl rfl) _) (fun k hk h => h.elim (fun h => hv15.ne_blk hE5 (by decide) (by rw [← h]; exact hk)) (fun h => hv15.ne_blk hL5 (by decide) (by rw [← h]; exact hk)))
 have hv26 : Own8 ((w5.setCell ⟨w.heap.size + 1 + 1, 2, none⟩ (Value.slice A2 bs.length c2)).setCell ⟨w.heap.size + 1 + 1 + 1, 2, none⟩ Value.nilIface) _ _ _ := hv25.fr (((Fr.refl (fun k => k = (w.heap.size + 1 + 1 + 1) ∨ k = (w.heap.size + 1 + 1)) w5).setCell (p := ⟨w.heap.size + 1 + 1, 2, none⟩) (fun _ => Or.inr rfl) _).setCell (p := ⟨w.heap.size + 1 + 1 + 1, 2, none⟩) (fun _ => Or.inl rfl) _) (fun k hk h => h.elim (fun h => hv25.ne_blk hE5 (by decide) (by rw [← h]; exact hk)) (fun h => hv25.ne_blk hL5 (by decide) (by rw [← h]; exact hk)))
 generalize ((w5.setCell ⟨w.heap.size + 1 + 1, 2, none⟩ (Value.slice A2 bs.length c2)).setCell ⟨w.heap.size + 1 + 1 + 1, 2, none⟩ Value.nilIface) = w6 at *
 have ec := hE6.cell 2
 have lc := hL6.cell 2
 obtain ⟨_, _, hve, _, hrow⟩ := hv26.form
 cases hve
 have HGET := Lib.hid (cert_Get (cap := c2) hrow (by have := HBL.out; omega) H8.out)
 clear hrow
 go_upto_region 9 with (first | (go_at_call 152; refine HGET.out.mono ?_; rintro e w7 hg7; obtain ⟨x3, rfl, hf7⟩ := get_fine HG.out hg7; have hO7 := hO6.fr hf7 id; have hR7 := hR6.fr hf7 id; have hL7 := hL6.fr hf7 id; have hE7 := hE6.fr hf7 id; have hv07 := hv06.fr hf7 (fun _ _ => id); have hv17 := hv16.fr hf7 (fun _ _ => id); have hv27 := hv26.fr hf7 (fun _ _ => id); have hf07 := hf06.then_ hf7; have ec := hE7.cell 3; have ef := hE7.frozen 3))
 have hO8 : Blk (w7.setCell ⟨w.heap.size + 1 + 1 + 1, 3, none⟩ Value.nilIface) _ _ _ := (hO7.far (fun h => by (try dsimp only at h); omega) _)
 have hR8 : Blk (w7.setCell ⟨w.heap.size + 1 + 1 + 1, 3, none⟩ Value.nilIface) _ _ _ := (hR7.far (fun h => by (try dsimp only at h); omega) _)
 have hL8 : Blk (w7.setCell ⟨w.heap.size + 1 + 1 + 1, 3, none⟩ Value.nilIface) _ _ _ := (hL7.far (fun h => by (try dsimp only at h); omega) _)
 have hE8 : Blk (w7.setCell ⟨w.heap.size + 1 + 1 + 1, 3, none⟩ Value.nilIface) _ _ _ := (hE7.set_ 3 _)
 have hf08 : Fr (fun _ => False) w (w7.setCell ⟨w.heap.size + 1 + 1 + 1, 3, none⟩ Value.nilIface) := (hf07.setCell (p := ⟨w.heap.size + 1 + 1 + 1, 3, none⟩) (fun h => absurd h (by dsimp only; omega)) _)
 have hv08 : Own8 (w7.setCell ⟨w.heap.size + 1 + 1 + 1, 3, none⟩ Value.nilIface) _ _ _ := hv07.fr ((Fr.refl (fun k => k = (w.heap.size + 1 + 1 + 1)) w7).setCell (p := ⟨w.heap.size + 1 + 1 + 1, 3, none⟩) (fun _ => rfl) _) (fun k hk h => hv07.ne_blk hE7 (by decide) (by rw [← h]; exact hk))
 have hv18 : Own8 (w7.setCell ⟨w.heap.size + 1 + 1 + 1, 3, none⟩ Value.nilIface) _ _ _ := hv17.fr ((Fr.refl (fun k => k = (w.heap.size + 1 + 1 + 1)) w7).setCell (p := ⟨w.heap.size + 1 + 1 + 1, 3, none⟩) (fun _ => rfl) _) (fun k hk h => hv17.ne_blk hE7 (by decide) (by rw [← h]; exact hk))
 have hv28 : Own8 (w7.setCell ⟨w.heap.size + 1 + 1 + 1, 3, none⟩ Value.nilIface) _ _ _ := hv27.fr ((Fr.refl (fun k => k = (w.heap.size + 1 + 1 + 1)) w7).setCell (p := ⟨w.heap.size + 1 + 1 + 1, 3, none⟩) (fun _ => rfl) _) (fun k hk h => hv27.ne_blk hE7 (by decide) (by rw [← h]; exact hk))
 generalize (w7.setCell ⟨w.heap.size + 1 + 1 + 1, 3, none⟩ Value.nilIface) = w8 at *
 have HER : Hid (ErrRow w8 (w.heap.size + 1 + 1 + 1) [.nilIface, .nilIface, .nilIface, .nilIface]) := err_row hE8 (.inl rfl) (.inl rfl) (.inl rfl) (.inl rfl)
 go_upto_region 10 with (first | (go_at_call 153; refine (containsErr (cap := 4) (z := false) rfl HER.out (by simp)).mono ?_; rintro e w9 ⟨rfl, rfl⟩))
 have hf08d : Fr (fun _ => False) w w8.drew := hf08.drew
 refine wp_region_noPanic ?_
 refine wp_region_held_drew (S := (fun w' => w'.cell? ⟨w.heap.size, 0, none⟩ = some (.int .i64 kind) ∧ w'.cell? ⟨w.heap.size, 1, none⟩ = some (.int .i64 c) ∧ w'.cell? ⟨w.heap.size, 2, none⟩ = some (.int .i64 n) ∧ w'.cell? ⟨w.heap.size, 3, none⟩ = some (.slice A nr cr) ∧ w'.cell? ⟨w.heap.size, 4, none⟩ = some (.slice B nw cw) ∧ w'.cell? ⟨w.heap.size, 17, none⟩ = some (.int .i64 pm) ∧ w'.cell? ⟨w.heap.size, 18, none⟩ = some (.int .i64 0) ∧ w'.cell? ⟨w.heap.size, 19, none⟩ = some (.slice PA pn pc) ∧ w'.cell? ⟨w.heap.size, 20, none⟩ = some (.slice QA qn qc) ∧ w'.cell? ⟨w.heap.size + 1 + 1, 0, none⟩ = some ((Value.slice A0 b0.length c0)) ∧ w'.cell? ⟨w.heap.size + 1 + 1, 1, none⟩ = some ((Value.slice A1 b1.length c1)) ∧ w'.cell? ⟨w.heap.size + 1 + 1, 2, none⟩ = some ((Value.slice A2 bs.length c2)))) (by kernel_rfl) (⟨hO8.cell 0, hO8.cell 1, hO8.cell 2, hO8.cell 3, hO8.cell 4, hO8.cell 17, hO8.cell 18, hO8.cell 19, hO8.cell 20, hL8.cell 0, hL8.cell 1, hL8.cell 2⟩) (fun hHeld => ?_)
 refine tk 0 57 ?_
 refine tk 1 58 ?_
 refine tk 2 59 ?_
 refine tk 3 60 ?_
 refine tk 4 61 ?_
 refine tk 5 62 ?_
 refine tk 6 63 ?_
 refine tk 7 64 ?_
 refine tk 8 65 ?_
 refine tk 9 66 ?_
 refine tk 10 67 ?_
 refine tk 11 68 ?_
 refine tk 12 69 ?_
 refine tk 13 70 ?_
 refine tk 14 71 ?_
 refine tk 15 72 ?_
 refine tk 16 73 ?_
 refine rd 17 (fun K hK => ?_)
 go_simp
 go_at_call 155
 refine (HN.out _ hf08d).mono ?_
 rintro e w10 ⟨rfl, hf10⟩
 have hf10 : Fr (fun _ => False) w8 w10 := ((Fr.refl (fun _ => False) w8).drew).trans hf10 (fun _ _ h => h)
 have hO10 := hO8.fr hf10 id
 have hR10 := hR8.fr hf10 id
 have hL10 := hL8.fr hf10 id
 have hE10 := hE8.fr hf10 id
 have hv010 := hv08.fr hf10 (fun _ _ => id)
 have hv110 := hv18.fr hf10 (fun _ _ => id)
 have hv210 := hv28.fr hf10 (fun _ _ => id)
 have hf010 := hf08.then_ hf10
 try go_wp2_with fail
 refine hK.out _ _ (⟨hO10.cell 0, hO10.cell 1, hO10.cell 2, hO10.cell 3, hO10.cell 4, hO10.cell 17, hO10.cell 18, hO10.cell 19, hO10.cell 20, hL10.cell 0, hL10.cell 1, hL10.cell 2⟩) (fun hHeld => ?_)
 clear hK K
 refine tk 18 75 ?_
 refine tk 19 76 ?_
 refine tk 20 77 ?_
 refine tk 21 78 ?_
 refine tk 22 79 ?_
 refine rd 23 (fun K hK => ?_)
 go_simp
 go_at_call 156
 refine (HFIT.out _ hf010).mono ?_
 rintro e w11 ⟨rfl, hf11⟩
 have hO11 := hO10.fr hf11 id
 have hR11 := hR10.fr hf11 id
 have hL11 := hL10.fr hf11 id
 have hE11 := hE10.fr hf11 id
 have hv011 := hv010.fr hf11 (fun _ _ => id)
 have hv111 := hv110.fr hf11 (fun _ _ => id)
 have hv211 := hv210.fr hf11 (fun _ _ => id)
 have hf011 := hf010.then_ hf11
 have rc0 := hR11.cell 0
 have rc1 := hR11.cell 1
 have rc2 := hR11.cell 2
 have rf0 := hR11.frozen 0
 have rf1 := hR11.frozen 1
 have rf2 := hR11.frozen 2
 try go_wp2_with fail
 refine hK.out _ _ (⟨hO11.cell 0, hO11.cell 1, hO11.cell 2, hO11.cell 3, hO11.cell 4, hO11.cell 17, hO11.cell 18, hO11.cell 19, hO11.cell 20, hL11.cell 0, hL11.cell 1, hL11.cell 2⟩) (fun hHeld => ?_)
 clear hK K
 refine tk 24 81 ?_
 refine rd 25 (fun K hK => ?_)
 go_simp
 refine hK.out _ _ (⟨(((hO11.far (fun h => by (try dsimp only at h); omega) _).far (fun h => by (try dsimp only at h); omega) _).far (fun h => by (try dsimp only at h); omega) _).cell 0, (((hO11.far (fun h => by (try dsimp only at h); omega) _).far (fun h => by (try dsimp only at h); omega) _).far (fun h => by (try dsimp only at h); omega) _).cell 1, (((hO11.far (fun h => by (try dsimp only at h); omega) _).far (fun h => by (try dsimp only at h); omega) _).far (fun h => by (try dsimp only at h); omega) _).cell 2, (((hO11.far (fun h => by (try dsimp only at h); omega) _).far (fun h => by (try dsimp only at h); omega) _).far (fun h => by (try dsimp only at h); omega) _).cell 3, (((hO11.far (fun h => by (try dsimp only at h); omega) _).far (fun h => by (try dsimp only at h); omega) _).far (fun h => by (try dsimp only at h); omega) _).cell 4, (((hO11.far (fun h => by (try dsimp only at h); omega) _).far (fun h => by (try dsimp only at h); omega) _).far (fun h => by (try dsimp only at h); omega) _).cell 17, (((hO11.far (fun h => by (try dsimp only at h); omega) _).far (fun h => by (try dsimp only at h); omega) _).far (fun h => by (try dsimp only at h); omega) _).cell 18, (((hO11.far (fun h => by (try dsimp only at h); omega) _).far (fun h => by (try dsimp only at h); omega) _).far (fun h => by (try dsimp only at h); omega) _).cell 19, (((hO11.far (fun h => by (try dsimp only at h); omega) _).far (fun h => by (try dsimp only at h); omega) _).far (fun h => by (try dsimp only at h); omega) _).cell 20, (((hL11.far (fun h => by (try dsimp only at h); omega) _).far (fun h => by (try dsimp only at h); omega) _).far (fun h => by (try dsimp only at h); omega) _).cell 0, (((hL11.far (fun h => by (try dsimp only at h); omega) _).far (fun h => by (try dsimp only at h); omega) _).far (fun h => by (try dsimp only at h); omega) _).cell 1, (((hL11.far (fun h => by (try dsimp only at h); omega) _).far (fun h => by (try dsimp only at h); omega) _).far (fun h => by (try dsimp only at h); omega) _).cell 2⟩) (fun hHeld => ?_)
 clear hK K
 refine tk 26 3 ?_
 refine wpAnyH_done (by kernel_rfl) ?_ _
 refine NoPanic.normal ?_
 have hO12 : Blk (((w11.setCell ⟨w.heap.size + 1, 0, none⟩ (Value.slice A0 b0.length c0)).setCell ⟨w.heap.size + 1, 1, none⟩ (Value.slice A1 b1.length c1)).setCell ⟨w.heap.size + 1, 2, none⟩ (Value.slice A2 bs.length c2)) _ _ _ := (((hO11.far (fun h => by (try dsimp only at h); omega) _).far (fun h => by (try dsimp only at h); omega) _).far (fun h => by (try dsimp only at h); omega) _)
 have hR12 : Blk (((w11.setCell ⟨w.heap.size + 1, 0, none⟩ (Value.slice A0 b0.length c0)).setCell ⟨w.heap.size + 1, 1, none⟩ (Value.slice A1 b1.length c1)).setCell ⟨w.heap.size + 1, 2, none⟩ (Value.slice A2 bs.length c2)) _ _ _ := (((hR11.set_ 0 _).set_ 1 _).set_ 2 _)
 have hL12 : Blk (((w11.setCell ⟨w.heap.size + 1, 0, none⟩ (Value.slice A0 b0.length c0)).setCell ⟨w.heap.size + 1, 1, none⟩ (Value.slice A1 b1.length c1)).setCell ⟨w.heap.size + 1, 2, none⟩ (Value.slice A2 bs.length c2)) _ _ _ := (((hL11.far (fun h => by (try dsimp only at h); omega) _).far (fun h => by (try dsimp only at h); omega) _).far (fun h => by (try dsimp only at h); omega) _)
 have hE12 : Blk (((w11.setCell ⟨w.heap.size + 1, 0, none⟩ (Value.slice A0 b0.length c0)).setCell ⟨w.heap.size + 1, 1, none⟩ (Value.slice A1 b1.length c1)).setCell ⟨w.heap.size + 1, 2, none⟩ (Value.slice A2 bs.length c2)) _ _ _ := (((hE11.far (fun h => by (try dsimp only at h); omega) _).far (fun h => by (try dsimp only at h); omega) _).far (fun h => by (try dsimp only at h); omega) _)
 have hf012 : Fr (fun _ => False) w (((w11.setCell ⟨w.heap.size + 1, 0, none⟩ (Value.slice A0 b0.length c0)).setCell ⟨w.heap.size + 1, 1, none⟩ (Value.slice A1 b1.length c1)).setCell ⟨w.heap.size + 1, 2, none⟩ (Value.slice A2 bs.length c2)) := (((hf011.setCell (p := ⟨w.heap.size + 1, 0, none⟩) (fun h => absurd h (by dsimp only; omega)) _).setCell (p := ⟨w.heap.size + 1, 1, none⟩) (fun h => absurd h (by dsimp only; omega)) _).setCell (p := ⟨w.heap.size + 1, 2, none⟩) (fun h => absurd h (by dsimp only; omega)) _)
 have hv012 : Own8 (((w11.setCell ⟨w.heap.size + 1, 0, none⟩ (Value.slice A0 b0.length c0)).setCell ⟨w.heap.size + 1, 1, none⟩ (Value.slice A1 b1.length c1)).setCell ⟨w.heap.size + 1, 2, none⟩ (Value.slice A2 bs.length c2)) _ _ _ := hv011.fr ((((Fr.refl (fun k => k = (w.heap.size + 1)) w11).setCell (p := ⟨w.heap.size + 1, 0, none⟩) (fun _ => rfl) _).setCell (p := ⟨w.heap.size + 1, 1, none⟩) (fun _ => rfl) _).setCell (p := ⟨w.heap.size + 1, 2, none⟩) (fun _ => rfl) _) (fun k hk h => hv011.ne_blk hR11 (by decide) (by rw [← h]; exact hk))
 have hv112 : Own8 (((w11.setCell ⟨w.heap.size + 1, 0, none⟩ (Value.slice A0 b0.length c0)).setCell ⟨w.heap.size + 1, 1, none⟩ (Value.slice A1 b1.length c1)).setCell ⟨w.heap.size + 1, 2, none⟩ (Value.slice A2 bs.length c2)) _ _ _ := hv111.fr ((((Fr.refl (fun k => k = (w.heap.size + 1)) w11).setCell (p := ⟨w.heap.size + 1, 0, none⟩) (fun _ => rfl) _).setCell (p := ⟨w.heap.size + 1, 1, none⟩) (fun _ => rfl) _).setCell (p := ⟨w.heap.size + 1, 2, none⟩) (fun _ => rfl) _) (fun k hk h => hv111.ne_blk hR11 (by decide) (by rw [← h]; exact hk))
 have hv212 : Own8 (((w11.setCell ⟨w.heap.size + 1, 0, none⟩ (Value.slice A0 b0.length c0)).setCell ⟨w.heap.size + 1, 1, none⟩ (Value.slice A1 b1.length c1)).setCell ⟨w.heap.size + 1, 2, none⟩ (Value.slice A2 bs.length c2)) _ _ _ := hv211.fr ((((Fr.refl (fun k => k = (w.heap.size + 1)) w11).setCell (p := ⟨w.heap.size + 1, 0, none⟩) (fun _ => rfl) _).setCell (p := ⟨w.heap.size + 1, 1, none⟩) (fun _ => rfl) _).setCell (p := ⟨w.heap.size + 1, 2, none⟩) (fun _ => rfl) _) (fun k hk h => hv211.ne_blk hR11 (by decide) (by rw [← h]; exact hk))
 generalize (((w11.setCell ⟨w.heap.size + 1, 0, none⟩ (Value.slice A0 b0.length c0)).setCell ⟨w.heap.size + 1, 1, none⟩ (Value.slice A1 b1.length c1)).setCell ⟨w.heap.size + 1, 2, none⟩ (Value.slice A2 bs.length c2)) = w12 at *
 have y0 := hR12.cell 0
 have y1 := hR12.cell 1
 have y2 := hR12.cell 2
 simp at y0 y1 y2
 try go_wp2_with fail
 refine bodyPost_ret (v := .tuple #[.agg #[(Value.slice A0 b0.length c0), (Value.slice A1 b1.length c1), (Value.slice A2 bs.length c2)], .bool true]) (by simp [results, Tryz.results123, go_sem, y0, y1, y2]) rfl ?_
 exact ⟨_, _, _, rfl, hv012.base_ (by omega), hv112.base_ (Nat.le_trans hf02.size (Nat.le_refl _)), hv212.base_ hf04.size, hf012⟩

theorem say_texts_ok {w : World} {A B : Option Addr} {nr nw cr cw : Nat} {c n : Int} {s : SayD} {bC : Nat} {C : Option Addr} {cx : Nat} {xs : List Int} {G D : Int} (hC : IntRow w bC C xs) (hbC : bC ≤ w.heap.size) (hxl : xs.length ≤ 1024) (hgetok : getOk (num8 G ++ num8 D ++ numsB xs)) {bs : List Int} (hbs : num8 G ++ num8 D ++ numsB xs = bs) {kind : Int} {nm sz : Bool} {b0 b1 : List Int} {r0 r1 : Value}
  (hsz : zeroSay s = !sz)
  (h0 : ∀ w', Fr (fun _ => False) w w' → Calls Tryz.prog 148 #[.bool nm, .agg #[.int .i64 c, .int .i64 n, .slice A nr cr, .slice B nw cw], .func (.func 149) #[] #[]] w' (PutP w' b0 r0))
  (h1 : ∀ w', Fr (fun _ => False) w w' → Calls Tryz.prog 150 #[.bool sz, .agg #[.int .i64 s.kind, .int .i64 s.txn, .bool s.yes, .string s.from_, .string s.to_, .int .i64 s.epoch, .int .i64 s.shard, .int .i64 s.target, .int .i64 s.root], .func (.func 77) #[] #[]] w' (PutP w' b1 r1))
  (hr0 : r0 = .nilIface) (hr1 : r1 = .nilIface) (hk1 : 1 ≤ kind) (hk2 : kind ≤ 10) (hnm : nm = false) (hk : ¬ kind = 1 ∧ ¬ kind = 6) (hno : ∀ w', Fr (fun _ => False) w w' → Calls Tryz.prog 155 #[.agg #[.int .i64 c, .int .i64 n, .slice A nr cr, .slice B nw cw]] w' (OkB w' true)) :
  Calls Tryz.prog 123 #[.agg #[.int .i64 kind, .int .i64 c, .int .i64 n, .slice A nr cr, .slice B nw cw, .int .i64 s.kind, .int .i64 s.txn, .bool s.yes, .string s.from_, .string s.to_, .int .i64 s.epoch, .int .i64 s.shard, .int .i64 s.target, .int .i64 s.root, .int .i64 G, .int .i64 D, .slice C xs.length cx, .int .i64 0, .int .i64 0, .slice none 0 0, .slice none 0 0]] w (fun e w' => ∃ v0 v1 v2, e = .returned (.tuple #[.agg #[v0, v1, v2], .bool true]) ∧ Own8 w' w.heap.size v0 b0 ∧ Own8 w' w.heap.size v1 b1 ∧ Own8 w' w.heap.size v2 bs ∧ Fr (fun _ => False) w w') := by
 subst hr0 hr1
 exact say_texts_okP (pm := 0) (PA := none) (QA := none) (pn := 0) (pc := 0) (qn := 0) (qc := 0) hC hbC hxl hgetok hbs hsz h0 h1 (fun w' _ => fits_ok (w := w') (F := fun _ => False) (LA := none) (BA := none) (lc := 0) (bc := 0) (l := []) (Bs := []) (fun k x h => by simp at h) (fun k x h => by simp at h) (by constructor <;> simp)) rfl rfl hk1 hk2 hnm hk hno
end Go.Proofs.YtmkdhhhoodeemaaGreat
namespace Go.Proofs.YtmkdhhhoodeemaaGreat
open Go Go.RowKit
theorem say_PutOrder_okP {w : World} {PA QA : Option Addr} {pc qc : Nat} {l : List Ent} {Bs : List Int} (hE : EntRow w (fun k => k < w.heap.size) PA l) (hV : IntF w (fun k => k < w.heap.size) QA Bs) (hlk : ∀ x ∈ l, x.1.size ≤ 16 ∧ x.2.1.size ≤ 64) (hll : l.length ≤ 1024) (hBs : Bs.length ≤ 1024) {kind c n : Int} {A B : Option Addr} {nr cr nw cw : Nat} {s : SayD} {G D : Int} {C : Option Addr} {nx cx : Nat} {t0 t1 t2 : List Int} (hl0 : t0.length ≤ 65536) (hl1 : t1.length ≤ 65536) (hl2 : t2.length ≤ 65536)
  (hT : ∀ w', Fr (fun _ => False) w w' → Calls Tryz.prog 123 #[.agg #[.int .i64 kind, .int .i64 c, .int .i64 n, .slice A nr cr, .slice B nw cw, .int .i64 s.kind, .int .i64 s.txn, .bool s.yes, .string s.from_, .string s.to_, .int .i64 s.epoch, .int .i64 s.shard, .int .i64 s.target, .int .i64 s.root, .int .i64 G, .int .i64 D, .slice C nx cx, .int .i64 l.length, .int .i64 0, .slice PA l.length pc, .slice QA Bs.length qc]] w' (TextsP w' t0 t1 t2)) :
  Calls Tryz.prog 95 #[.agg #[.int .i64 kind, .int .i64 c, .int .i64 n, .slice A nr cr, .slice B nw cw, .int .i64 s.kind, .int .i64 s.txn, .bool s.yes, .string s.from_, .string s.to_, .int .i64 s.epoch, .int .i64 s.shard, .int .i64 s.target, .int .i64 s.root, .int .i64 G, .int .i64 D, .slice C nx cx, .int .i64 l.length, .int .i64 0, .slice PA l.length pc, .slice QA Bs.length qc]] w (PutP w (ordB kind t0 t1 t2 l.length 0 l Bs) .nilIface) := by
 have HT := Lib.hid hT
 have HE := Lib.hid hE
 have HV := Lib.hid hV
 have HK := Lib.hid hlk
 have HEB : Hid (∀ x ∈ l, (entB x).length ≤ 96) := fun x hx => by
  have := hlk x hx
  unfold entB
  rw [List.length_append, List.length_append, textB_len, textB_len, num8_length]
  omega
 clear hT hE hV hlk
 have hB0 := Blk.new w 62 #[.int .i64 kind, .int .i64 c, .int .i64 n, .slice A nr cr, .slice B nw cw, .int .i64 s.kind, .int .i64 s.txn, .bool s.yes, .string s.from_, .string s.to_, .int .i64 s.epoch, .int .i64 s.shard, .int .i64 s.target, .int .i64 s.root, .int .i64 G, .int .i64 D, .slice C nx cx, .int .i64 l.length, .int .i64 0, .slice PA l.length pc, .slice QA Bs.length qc]
 have hf0 : Fr (fun _ => False) w (w.alloc (Obj.cells #[.int .i64 kind, .int .i64 c, .int .i64 n, .slice A nr cr, .slice B nw cw, .int .i64 s.kind, .int .i64 s.txn, .bool s.yes, .string s.from_, .string s.to_, .int .i64 s.epoch, .int .i64 s.shard, .int .i64 s.target, .int .i64 s.root, .int .i64 G, .int .i64 D, .slice C nx cx, .int .i64 l.length, .int .i64 0, .slice PA l.length pc, .slice QA Bs.length qc] 62)) := (Fr.refl _ _).alloc _
 go_enter Tryz.func95, Tryz.ntmps95
 go_upto_region 1 with fail
 generalize w.alloc (Obj.cells #[.int .i64 kind, .int .i64 c, .int .i64 n, .slice A nr cr, .slice B nw cw, .int .i64 s.kind, .int .i64 s.txn, .bool s.yes, .string s.from_, .string s.to_, .int .i64 s.epoch, .int .i64 s.shard, .int .i64 s.target, .int .i64 s.root, .int .i64 G, .int .i64 D, .slice C nx cx, .int .i64 l.length, .int .i64 0, .slice PA l.length pc, .slice QA Bs.length qc] 62) = w0 at *
 go_wp2_with (refine wpList_load_row rfl 62 _ rfl _ rfl _ _ (0, 0) _ hB0 Tryz.underlying62 rfl (by kernel_rfl) ?_)
 refine (HT.out _ hf0).mono ?_
 rintro e w1 ⟨u0, u1, u2, rfl, hu0, hu1, hu2, hf01⟩
 obtain ⟨A0, c0, rfl, _, hr0⟩ := hu0.form
 obtain ⟨A1, c1, rfl, _, hr1⟩ := hu1.form
 obtain ⟨A2, c2, rfl, _, hr2⟩ := hu2.form
 have hr0 := hr0.mono (F' := fun k => k < w1.heap.size + 1) (fun k hk => Nat.lt_succ_of_lt (hu0.lt k hk))
 have hr1 := hr1.mono (F' := fun k => k < w1.heap.size + 1) (fun k hk => Nat.lt_succ_of_lt (hu1.lt k hk))
 have hr2 := hr2.mono (F' := fun k => k < w1.heap.size + 1) (fun k hk => Nat.lt_succ_of_lt (hu2.lt k hk))
 have hB1 := hB0.fr hf01 id
 have hf1 := hf0.then_ hf01
 clear hB0 hf0 hu0 hu1 hu2 hf01
 obtain ⟨gB, hgB⟩ : ∃ g, Hid (w.heap.size = g) := ⟨_, rfl⟩
 obtain ⟨g, hg⟩ : ∃ g, Hid (w1.heap.size + 1 = g) := ⟨_, rfl⟩
 have hsg : w.heap.size ≤ g := by rw [← hg.out]; exact Nat.le_succ_of_le hf1.size
 obtain ⟨b0, hb0⟩ : ∃ b : List Int, Hid (([] : List Int) = b) := ⟨_, rfl⟩
 have hbl0 : b0.length = 0 := by rw [← hb0.out]; rfl
 have hR2 : Blk ((w1.alloc (Obj.cells #[.slice A0 t0.length c0, .slice A1 t1.length c1, .slice A2 t2.length c2] 214)).alloc (Obj.cells #[.slice none 0 0, .nilIface] 194)) w1.heap.size 214 #[.slice A0 t0.length c0, .slice A1 t1.length c1, .slice A2 t2.length c2] := (Blk.new _ _ _).alloc _
 have hW2 : WriterAt ((w1.alloc (Obj.cells #[.slice A0 t0.length c0, .slice A1 t1.length c1, .slice A2 t2.length c2] 214)).alloc (Obj.cells #[.slice none 0 0, .nilIface] 194)) (w1.heap.size + 1) (w1.heap.size + 1) (.slice none 0 0) b0 none := by rw [← hb0.out]; exact ⟨Blk.new_ _ _ _ (by simp), Own8.nil _ _⟩
 have hB2 := (hB1.alloc (Obj.cells #[.slice A0 t0.length c0, .slice A1 t1.length c1, .slice A2 t2.length c2] 214)).alloc (Obj.cells #[.slice none 0 0, .nilIface] 194)
 have hf2 := (hf1.alloc (Obj.cells #[.slice A0 t0.length c0, .slice A1 t1.length c1, .slice A2 t2.length c2] 214)).alloc (Obj.cells #[.slice none 0 0, .nilIface] 194)
 have hz2 : w1.heap.size + 1 ≤ ((w1.alloc (Obj.cells #[.slice A0 t0.length c0, .slice A1 t1.length c1, .slice A2 t2.length c2] 214)).alloc (Obj.cells #[.slice none 0 0, .nilIface] 194)).heap.size := by simp
 have hr0 := (hr0.fr ((Fr.refl (fun _ => False) w1).alloc (Obj.cells #[.slice A0 t0.length c0, .slice A1 t1.length c1, .slice A2 t2.length c2] 214)) (fun _ _ => id)).fr ((Fr.refl (fun _ => False) _).alloc (Obj.cells #[.slice none 0 0, .nilIface] 194)) (fun _ _ => id)
 have hr1 := (hr1.fr ((Fr.refl (fun _ => False) w1).alloc (Obj.cells #[.slice A0 t0.length c0, .slice A1 t1.length c1, .slice A2 t2.length c2] 214)) (fun _ _ => id)).fr ((Fr.refl (fun _ => False) _).alloc (Obj.cells #[.slice none 0 0, .nilIface] 194)) (fun _ _ => id)
 have hr2 := (hr2.fr ((Fr.refl (fun _ => False) w1).alloc (Obj.cells #[.slice A0 t0.length c0, .slice A1 t1.length c1, .slice A2 t2.length c2] 214)) (fun _ _ => id)).fr ((Fr.refl (fun _ => False) _).alloc (Obj.cells #[.slice none 0 0, .nilIface] 194)) (fun _ _ => id)
 have hc2 := hB2.cell 0
 clear hB1 hf1
 go_upto_region 5 with fail
 rw [hg.out] at hW2 hz2 hr0 hr1 hr2 ⊢
 generalize ((w1.alloc (Obj.cells #[.slice A0 t0.length c0, .slice A1 t1.length c1, .slice A2 t2.length c2] 214)).alloc (Obj.cells #[.slice none 0 0, .nilIface] 194)) = w2 at *
 have hl : Hid (t0.length ≤ 65536 ∧ t1.length ≤ 65536 ∧ t2.length ≤ 65536) := ⟨hl0, hl1, hl2⟩
 clear hl0 hl1 hl2
 go_wp2_with fail
 refine (writer_Num hW2 hz2 (by omega) kind).mono ?_
 rintro e w3 ⟨v3, rfl, hW3, hq3, _⟩
 have hW3 : WriterAt w3 g g v3 (b0 ++ num8 kind) none := hW3
 obtain ⟨b1, hb1⟩ : ∃ b, Hid (b0 ++ num8 kind = b) := ⟨_, rfl⟩
 rw [hb1.out] at hW3
 have hbl1 : b1.length = 8 := by rw [← hb1.out, List.length_append, hbl0]; simp [num8_length]
 have hB3 := wrote_blk hB2 hW2.blk hW2.own hq3 (by decide) (by decide)
 have hR3 := wrote_blk hR2 hW2.blk hW2.own hq3 (by decide) (by decide)
 have hr0 := wrote_row hr0 hW2.own hq3
 have hr1 := wrote_row hr1 hW2.own hq3
 have hr2 := wrote_row hr2 hW2.own hq3
 have hf3 := wrote_fr hf2 hW2.own hsg hsg hq3
 clear hq3 hW2 hB2 hR2 hf2 hc2 hz2
 have hcr0 := hR3.cell 0
 have hcr1 := hR3.cell 1
 have hcr2 := hR3.cell 2
 go_upto_region 7 with fail
 clear hcr0 hcr1 hcr2 hR3
 go_loopw [36] (fun ix wr => ∃ (q : Nat) (v : Value), ((q = 0 ∧ ix = .int .i64 0) ∨ (q = 1 ∧ ix = .int .i64 1) ∨ (q = 2 ∧ ix = .int .i64 2) ∨ (q = 3 ∧ ix = .int .i64 3)) ∧ WriterAt wr g g v (b1 ++ ([t0, t1, t2].take q).flatMap textB) none ∧ Blk wr w.heap.size 62 #[.int .i64 kind, .int .i64 c, .int .i64 n, .slice A nr cr, .slice B nw cw, .int .i64 s.kind, .int .i64 s.txn, .bool s.yes, .string s.from_, .string s.to_, .int .i64 s.epoch, .int .i64 s.shard, .int .i64 s.target, .int .i64 s.root, .int .i64 G, .int .i64 D, .slice C nx cx, .int .i64 l.length, .int .i64 0, .slice PA l.length pc, .slice QA Bs.length qc] ∧ ByteRow wr (fun k => k < g) A0 t0 ∧ ByteRow wr (fun k => k < g) A1 t1 ∧ ByteRow wr (fun k => k < g) A2 t2 ∧ Fr (fun _ => False) w wr) (fun ix _ => 3 - (intOf ix).toNat)
 case atStart => exact ⟨0, _, .inl ⟨rfl, rfl⟩, by rw [List.take_zero, List.flatMap_nil, List.append_nil]; exact hW3, hB3, hr0, hr1, hr2, hf3⟩
 case round =>
  clear hW3 hB3 hr0 hr1 hr2 hf3
  obtain ⟨q, v4, hix, hW4, hB4, hr0, hr1, hr2, hf4⟩ := hrel
  have hz4 : g ≤ wr.heap.size := Nat.le_of_lt hW4.blk.lt
  have hfl : ∀ q, q ≤ 3 → (b1 ++ ([t0, t1, t2].take q).flatMap textB).length ≤ 300000 := by
   intro q hq
   have := hl.out
   match q, hq with
   | 0, _ => simp; omega
   | 1, _ => simp [textB, count4_length]; omega
   | 2, _ => simp [textB, count4_length]; omega
   | 3, _ => simp [textB, count4_length]; omega
  have HFL := Lib.hid hfl
  clear hfl
  rcases hix with ⟨rfl, rfl⟩ | ⟨rfl, rfl⟩ | ⟨rfl, rfl⟩ | ⟨rfl, rfl⟩
  ·have HX : Hid ([t0, t1, t2][0]? = some t0) := rfl
   have i0 : ∀ w, (Instr.index 214 (.agg #[.slice A0 t0.length c0, .slice A1 t1.length c1, .slice A2 t2.length c2]) (.int .i64 0)).run Tryz.prog w = .ok (.slice A0 t0.length c0) w := fun _ => by kernel_rfl
   have HTx := writer_Text (cap := c0) hW4 hz4 hr0 (wrote_hA hW4.own) (by have := HFL.out 0 (by omega); have := hl.out; omega)
   rw [if_pos (by have := hl.out; omega)] at HTx
   have HTx := Lib.hid HTx
   go_wp2_with (go_at_call 99; refine HTx.out.mono ?_; rintro e wn ⟨vn, rfl, hWn, hqn, _⟩)
   have hBn := wrote_blk hB4 hW4.blk hW4.own hqn (by decide) (by decide)
   have hn0 := wrote_row hr0 hW4.own hqn
   have hn1 := wrote_row hr1 hW4.own hqn
   have hn2 := wrote_row hr2 hW4.own hqn
   have hfn := wrote_fr hf4 hW4.own hsg hsg hqn
   have hWn : WriterAt wn g g vn ((b1 ++ ([t0, t1, t2].take 0).flatMap textB) ++ textB t0) none := hWn
   go_roundw
   case rel => exact ⟨0 + 1, vn, Or.inr (Or.inl ⟨rfl, by go_num⟩), by rw [flat_take textB HX.out, ← List.append_assoc]; exact hWn, hBn, hn0, hn1, hn2, hfn⟩
   case measure => simp [intOf] <;> omega
  ·have HX : Hid ([t0, t1, t2][1]? = some t1) := rfl
   have i1 : ∀ w, (Instr.index 214 (.agg #[.slice A0 t0.length c0, .slice A1 t1.length c1, .slice A2 t2.length c2]) (.int .i64 1)).run Tryz.prog w = .ok (.slice A1 t1.length c1) w := fun _ => by kernel_rfl
   have HTx := writer_Text (cap := c1) hW4 hz4 hr1 (wrote_hA hW4.own) (by have := HFL.out 1 (by omega); have := hl.out; omega)
   rw [if_pos (by have := hl.out; omega)] at HTx
   have HTx := Lib.hid HTx
   go_wp2_with (go_at_call 99; refine HTx.out.mono ?_; rintro e wn ⟨vn, rfl, hWn, hqn, _⟩)
   have hBn := wrote_blk hB4 hW4.blk hW4.own hqn (by decide) (by decide)
   have hn0 := wrote_row hr0 hW4.own hqn
   have hn1 := wrote_row hr1 hW4.own hqn
   have hn2 := wrote_row hr2 hW4.own hqn
   have hfn := wrote_fr hf4 hW4.own hsg hsg hqn
   have hWn : WriterAt wn g g vn ((b1 ++ ([t0, t1, t2].take 1).flatMap textB) ++ textB t1) none := hWn
   go_roundw
   case rel => exact ⟨1 + 1, vn, Or.inr (Or.inr (Or.inl ⟨rfl, by go_num⟩)), by rw [flat_take textB HX.out, ← List.append_assoc]; exact hWn, hBn, hn0, hn1, hn2, hfn⟩
   case measure => simp [intOf] <;> omega
  ·have HX : Hid ([t0, t1, t2][2]? = some t2) := rfl
   have i2 : ∀ w, (Instr.index 214 (.agg #[.slice A0 t0.length c0, .slice A1 t1.length c1, .slice A2 t2.length c2]) (.int .i64 2)).run Tryz.prog w = .ok (.slice A2 t2.length c2) w := fun _ => by kernel_rfl
   have HTx := writer_Text (cap := c2) hW4 hz4 hr2 (wrote_hA hW4.own) (by have := HFL.out 2 (by omega); have := hl.out; omega)
   rw [if_pos (by have := hl.out; omega)] at HTx
   have HTx := Lib.hid HTx
   go_wp2_with (go_at_call 99; refine HTx.out.mono ?_; rintro e wn ⟨vn, rfl, hWn, hqn, _⟩)
   have hBn := wrote_blk hB4 hW4.blk hW4.own hqn (by decide) (by decide)
   have hn0 := wrote_row hr0 hW4.own hqn
   have hn1 := wrote_row hr1 hW4.own hqn
   have hn2 := wrote_row hr2 hW4.own hqn
   have hfn := wrote_fr hf4 hW4.own hsg hsg hqn
   have hWn : WriterAt wn g g vn ((b1 ++ ([t0, t1, t2].take 2).flatMap textB) ++ textB t2) none := hWn
   go_roundw
   case rel => exact ⟨2 + 1, vn, Or.inr (Or.inr (Or.inr ⟨rfl, by go_num⟩)), by rw [flat_take textB HX.out, ← List.append_assoc]; exact hWn, hBn, hn0, hn1, hn2, hfn⟩
   case measure => simp [intOf] <;> omega
  ·obtain ⟨b2, hb2⟩ : ∃ b, Hid (b1 ++ ([t0, t1, t2].take 3).flatMap textB = b) := ⟨_, rfl⟩
   have hbl2 : b2.length ≤ 300000 := by rw [← hb2.out]; exact HFL.out 3 (by omega)
   rw [hb2.out] at hW4
   clear HFL hr0 hr1 hr2
   generalize wr = w4 at *
   have hk17 := hB4.cell 17
   have hk18 := hB4.cell 18
   have hk19 := hB4.cell 19
   go_upto_region 11 with fail
   have hW5 := hW4.fr ((Fr.refl (fun _ => False) w4).alloc (Obj.cells #[.int .i64 l.length, .int .i64 0, .int .i64 l.length] 3)) id (fun _ _ => id)
   have hB5 := hB4.alloc (Obj.cells #[.int .i64 l.length, .int .i64 0, .int .i64 l.length] 3)
   have hS5 : Blk (w4.alloc (Obj.cells #[.int .i64 l.length, .int .i64 0, .int .i64 l.length] 3)) w4.heap.size 3 (intsA [(l.length : Int), 0, l.length]) := Blk.new _ _ _
   have hf5 := hf4.alloc (Obj.cells #[.int .i64 l.length, .int .i64 0, .int .i64 l.length] 3)
   have hz5 : g ≤ (w4.alloc (Obj.cells #[.int .i64 l.length, .int .i64 0, .int .i64 l.length] 3)).heap.size := Nat.le_trans hz4 (by simp)
   go_upto_region 12 with fail
   clear hW4 hB4 hf4 hz4 hk17 hk18 hk19
   obtain ⟨gs, hgs⟩ : ∃ g, Hid (w4.heap.size = g) := ⟨_, rfl⟩
   rw [hgs.out] at hS5 ⊢
   generalize w4.alloc (Obj.cells #[.int .i64 l.length, .int .i64 0, .int .i64 l.length] 3) = w5 at *
   go_loopw [55] (fun ix wr => ∃ (q : Nat) (v : Value), q ≤ 3 ∧ ix = .int .i64 q ∧ WriterAt wr g g v (b2 ++ ([(l.length : Int), 0, l.length].take q).flatMap num8) none ∧ Blk wr w.heap.size 62 #[.int .i64 kind, .int .i64 c, .int .i64 n, .slice A nr cr, .slice B nw cw, .int .i64 s.kind, .int .i64 s.txn, .bool s.yes, .string s.from_, .string s.to_, .int .i64 s.epoch, .int .i64 s.shard, .int .i64 s.target, .int .i64 s.root, .int .i64 G, .int .i64 D, .slice C nx cx, .int .i64 l.length, .int .i64 0, .slice PA l.length pc, .slice QA Bs.length qc] ∧ Blk wr gs 3 (intsA [(l.length : Int), 0, l.length]) ∧ Fr (fun _ => False) w wr) (fun ix _ => 3 - (intOf ix).toNat)
   case atStart => exact ⟨0, v4, by omega, rfl, by rw [List.take_zero, List.flatMap_nil, List.append_nil]; exact hW5, hB5, hS5, hf5⟩
   case round =>
    clear hW5 hB5 hS5 hf5 hz5
    obtain ⟨q, v6, hq, rfl, hW6, hB6, hS6, hf6⟩ := hrel
    have hz6 : g ≤ wr.heap.size := Nat.le_of_lt hW6.blk.lt
    by_cases hlt : q < 3
    ·obtain ⟨x, hx⟩ : ∃ x, [(l.length : Int), 0, l.length][q]? = some x := ⟨[(l.length : Int), 0, l.length][q]'(by simpa using hlt), List.getElem?_eq_getElem _⟩
     have hcx := hS6.cell q
     rw [intsA_at hx] at hcx
     have HX := Lib.hid hx
     have hlf : (b2 ++ ([(l.length : Int), 0, l.length].take q).flatMap num8).length ≤ 310000 := by
      have h1 := flat_num8 ([(l.length : Int), 0, l.length].take q)
      rw [List.length_append, h1, List.length_take]
      omega
     clear hx
     go_wp2_with (go_at_call 98; refine (writer_Num hW6 hz6 (by omega) x).mono ?_; rintro e wn ⟨vn, rfl, hWn, hqn, _⟩)
     have hBn := wrote_blk hB6 hW6.blk hW6.own hqn (by decide) (by decide)
     have hSn := wrote_blk hS6 hW6.blk hW6.own hqn (by decide) (by decide)
     have hfn := wrote_fr hf6 hW6.own hsg hsg hqn
     go_roundw
     case rel => exact ⟨q + 1, vn, by omega, by go_num, by rw [flat_take num8 HX.out, ← List.append_assoc]; exact hWn, hBn, hSn, hfn⟩
     case measure => simp [intOf]; omega
    ·obtain rfl : q = 3 := by omega
     obtain ⟨b3, hb3⟩ : ∃ b, Hid (b2 ++ ([(l.length : Int), 0, l.length].take 3).flatMap num8 = b) := ⟨_, rfl⟩
     rw [hb3.out] at hW6
     have hbl3 : b3.length = b2.length + 24 := by rw [← hb3.out, List.length_append, flat_num8]; rfl
     clear hS6
     generalize wr = w6 at *
     have hk19 := hB6.cell 19
     have hk20 := hB6.cell 20
     have hW6' := hW6
     clear hW6
     go_upto_region 17 with fail
     have hb3l : b3.length ≤ 310100 := by omega
     clear hk19 hk20
     go_loopw [67] (fun ix wr => ∃ (q : Nat) (v : Value), q ≤ l.length ∧ ix = .int .i64 q ∧ WriterAt wr g g v (b3 ++ (l.take q).flatMap entB) none ∧ Blk wr w.heap.size 62 #[.int .i64 kind, .int .i64 c, .int .i64 n, .slice A nr cr, .slice B nw cw, .int .i64 s.kind, .int .i64 s.txn, .bool s.yes, .string s.from_, .string s.to_, .int .i64 s.epoch, .int .i64 s.shard, .int .i64 s.target, .int .i64 s.root, .int .i64 G, .int .i64 D, .slice C nx cx, .int .i64 l.length, .int .i64 0, .slice PA l.length pc, .slice QA Bs.length qc] ∧ Fr (fun _ => False) w wr) (fun ix _ => l.length - (intOf ix).toNat)
     case atStart => exact ⟨0, v6, by omega, rfl, by rw [List.take_zero, List.flatMap_nil, List.append_nil]; exact hW6', hB6, hf6⟩
     case round =>
      clear hW6' hB6 hf6
      obtain ⟨q, v6, hq, rfl, hW6, hB6, hf6⟩ := hrel
      have hz6 : g ≤ wr.heap.size := Nat.le_of_lt hW6.blk.lt
      have hlf := flat_take_le HEB.out hll q
      have hlf : (b3 ++ (l.take q).flatMap entB).length ≤ 410000 := by rw [List.length_append]; omega
      by_cases hlt : q < l.length
      ·obtain ⟨x, hx⟩ : ∃ x, l[q]? = some x := ⟨l[q], List.getElem?_eq_getElem hlt⟩
       obtain ⟨b, o, rfl, _, d0, d1, d2⟩ := (HE.out.fr hf6 (fun _ _ => id)) q x hx
       have HX := Lib.hid hx
       have hx16 := HK.out x (List.mem_of_getElem? hx)
       have hx64 := hx16.2
       have hx16 := hx16.1
       have hlt' : (q : Int) < (l.length : Int) := by omega
       clear hx
       obtain ⟨bq, hbq⟩ : ∃ b, Hid (b3 ++ (l.take q).flatMap entB = b) := ⟨_, rfl⟩
       rw [hbq.out] at hW6 hlf
       go_upto_region 19 with fail
       have hW7 := hW6.fr ((Fr.refl (fun _ => False) wr).alloc (Obj.cells #[.string x.1, .string x.2.1, .int .i64 x.2.2] 119)) id (fun _ _ => id)
       have hB7 := hB6.alloc (Obj.cells #[.string x.1, .string x.2.1, .int .i64 x.2.2] 119)
       have hX7 : Blk (wr.alloc (Obj.cells #[.string x.1, .string x.2.1, .int .i64 x.2.2] 119)) wr.heap.size 119 #[.string x.1, .string x.2.1, .int .i64 x.2.2] := Blk.new wr _ _
       have hf7 := hf6.alloc (Obj.cells #[.string x.1, .string x.2.1, .int .i64 x.2.2] 119)
       have hz7 : g ≤ (wr.alloc (Obj.cells #[.string x.1, .string x.2.1, .int .i64 x.2.2] 119)).heap.size := Nat.le_trans hz6 (by simp)
       generalize wr.alloc (Obj.cells #[.string x.1, .string x.2.1, .int .i64 x.2.2] 119) = w7 at *
       obtain ⟨gx, hgx⟩ : ∃ y, wr.heap.size = y := ⟨_, rfl⟩
       rw [hgx] at hX7 ⊢
       clear hW6 hB6 hf6 hz6 d0 d1 d2 hgx
       have y0 := hX7.cell 0
       have hcs7 := run_str w7 x.1
       have hws7 := hW7.fr (strW_fr w7 x.1) id (fun _ _ => id)
       have hbs7 := hB7.fr (strW_fr w7 x.1) id
       have hxs7 := hX7.fr (strW_fr w7 x.1) id
       have hfs7 := hf7.then_ (strW_fr w7 x.1)
       have hzs7 : g ≤ (strW w7 x.1).heap.size := Nat.le_trans hz7 (strW_fr w7 x.1).size
       have HT7 := writer_Text (cap := grownCap w7 x.1.size 0 5) hws7 hzs7 (strW_row w7 x.1) (fun k e1 e2 => own8_new hW7.own (e1 ▸ e2)) (by rw [bytesOf_length]; omega)
       rw [bytesOf_length, if_pos (by omega)] at HT7
       have HT7 := Lib.hid HT7
       go_upto_region 20 with (go_at_call 99; refine HT7.out.mono ?_; rintro e w8 ⟨v8, rfl, hW8, hq8, _⟩)
       have hW8 : WriterAt w8 g g v8 (bq ++ textB (bytesOf x.1)) none := hW8
       have hB8 := wrote_blk hbs7 hws7.blk hws7.own hq8 (by decide) (by decide)
       have hX8 := wrote_blk hxs7 hws7.blk hws7.own hq8 (by decide) (by decide)
       have hf8 := wrote_fr hfs7 hws7.own hsg hsg hq8
       have hz8 : g ≤ w8.heap.size := Nat.le_of_lt hW8.blk.lt
       clear hq8 hW7 hB7 hf7 hws7 hbs7 hfs7 HT7 hzs7 hz7 hxs7 hX7 hcs7 y0
       have y1 := hX8.cell 1
       have hlb : (bq ++ textB (bytesOf x.1)).length ≤ 410020 := by rw [List.length_append, textB_len]; omega
       obtain ⟨bt, hbt⟩ : ∃ b, Hid ((bq ++ textB (bytesOf x.1)) = b) := ⟨_, rfl⟩
       rw [hbt.out] at hW8 hlb
       have hcs8 := run_str w8 x.2.1
       have hws8 := hW8.fr (strW_fr w8 x.2.1) id (fun _ _ => id)
       have hbs8 := hB8.fr (strW_fr w8 x.2.1) id
       have hxs8 := hX8.fr (strW_fr w8 x.2.1) id
       have hfs8 := hf8.then_ (strW_fr w8 x.2.1)
       have hzs8 : g ≤ (strW w8 x.2.1).heap.size := Nat.le_trans hz8 (strW_fr w8 x.2.1).size
       have HT8 := writer_Text (cap := grownCap w8 x.2.1.size 0 5) hws8 hzs8 (strW_row w8 x.2.1) (fun k e1 e2 => own8_new hW8.own (e1 ▸ e2)) (by rw [bytesOf_length]; omega)
       rw [bytesOf_length, if_pos (by omega)] at HT8
       have HT8 := Lib.hid HT8
       go_upto_region 21 with (go_at_call 99; refine HT8.out.mono ?_; rintro e w9 ⟨v9, rfl, hW9, hq9, _⟩)
       have hW9 : WriterAt w9 g g v9 (bt ++ textB (bytesOf x.2.1)) none := hW9
       have hB9 := wrote_blk hbs8 hws8.blk hws8.own hq9 (by decide) (by decide)
       have hX9 := wrote_blk hxs8 hws8.blk hws8.own hq9 (by decide) (by decide)
       have hf9 := wrote_fr hfs8 hws8.own hsg hsg hq9
       have hz9 : g ≤ w9.heap.size := Nat.le_of_lt hW9.blk.lt
       clear hq9 hW8 hB8 hf8 hws8 hbs8 hfs8 HT8 hzs8 hz8 hxs8 hX8 hcs8 y1
       have y2 := hX9.cell 2
       have hlc : (bt ++ textB (bytesOf x.2.1)).length ≤ 410100 := by rw [List.length_append, textB_len]; omega
       obtain ⟨bu, hbu⟩ : ∃ b, Hid ((bt ++ textB (bytesOf x.2.1)) = b) := ⟨_, rfl⟩
       rw [hbu.out] at hW9 hlc
       go_wp2_with (go_at_call 98; refine (writer_Num hW9 hz9 (by omega) x.2.2).mono ?_; rintro e wn ⟨vn, rfl, hWn, hqn, _⟩)
       have hWn : WriterAt wn g g vn (bu ++ num8 x.2.2) none := hWn
       have hBn := wrote_blk hB9 hW9.blk hW9.own hqn (by decide) (by decide)
       have hfn := wrote_fr hf9 hW9.own hsg hsg hqn
       refine ⟨⟨_, _, _, _, _, _, _, _, _, _, _, _, _, _, _, _, _, _, _, _, ?_, rfl⟩, ?_⟩
       ·exact ⟨q + 1, _, by omega, by go_num, by rw [flat_take entB HX.out, entB, ← List.append_assoc, ← List.append_assoc, ← List.append_assoc, hbq.out, hbt.out, hbu.out]; exact hWn, hBn, hfn⟩
       ·simp [intOf]; omega
      ·obtain rfl : q = l.length := by omega
       rw [List.take_length] at hW6 hlf
       obtain ⟨b4, hb4⟩ : ∃ b, Hid (b3 ++ l.flatMap entB = b) := ⟨_, rfl⟩
       rw [hb4.out] at hW6 hlf
       have hk20 := hB6.cell 20
       go_upto_region 25 with fail
       generalize wr = w7 at *
       go_loopw [13, 90] (fun bs ix w0 => ∃ q : Nat, q ≤ Bs.length ∧ ix = .int .i64 q ∧ w0.ownsRow w7.heap.size 2 1 bs q (num64V (Bs.take q)) ∧ Fr (fun _ => False) w7 w0) (fun _ ix _ => Bs.length - (intOf ix).toNat)
       case atStart => exact ⟨0, by omega, rfl, World.ownsRow_nil _ _ _ _, Fr.refl _ _⟩
       case round =>
        obtain ⟨q, hq, rfl, hown, hf⟩ := hrel
        by_cases hlt : q < Bs.length
        ·obtain ⟨x, hx⟩ : ∃ x, Bs[q]? = some x := ⟨Bs[q], List.getElem?_eq_getElem hlt⟩
         obtain ⟨b, o, rfl, hb, hc⟩ := (HV.out.fr (hf6.then_ hf) (fun _ _ => id)) q x hx
         have HX := Lib.hid hx
         have hlt' : (q : Int) < (Bs.length : Int) := by omega
         clear hx
         go_wp2_with (at_builtin; refine wpList_append1 _ rfl _ _ _ rfl w7.heap.size 2 (.int .i64 0) 8 Tryz.underlying132 int64_info rfl u13 q (num64V (Bs.take q)) rfl (hown.alloc _) wr.heap.size (.int .i64 x) rfl ?_ rfl (by omega) (by omega) ?_ ?_; (· simp); (· have := hf.size; simp; omega); intro g3 c3 w3 hown3 hf3)
         have hfb : Fr (fun k => u13.ownBlock = some k) wr w3 := ((Fr.refl (fun k => u13.ownBlock = some k) wr).alloc _).trans hf3 (fun _ _ h => h)
         have e1 : num64V (Bs.take (q + 1)) = num64V (Bs.take q) ++ [.int .i64 x] := by
          obtain ⟨h1, h2⟩ := List.getElem?_eq_some_iff.1 HX.out
          rw [List.take_succ_eq_append_getElem h1, h2, num64V, num64V, List.map_append]
          rfl
         refine ⟨⟨_, _, _, _, _, _, _, _, _, _, _, ?_, rfl⟩, ?_⟩
         ·exact ⟨q + 1, by omega, by go_num, by rw [e1]; exact hown3, hf.own hown hfb (Nat.le_refl _)⟩
         ·simp [intOf]; omega
        ·obtain rfl : q = Bs.length := by omega
         rw [List.take_length] at hown
         obtain ⟨A5, cap5, rfl, hr5⟩ := NumRow.of_own hown
         have hW7 := hW6.fr hf id (fun _ _ => id)
         have hB7 := hB6.fr hf id
         have hf7 := hf6.then_ hf
         have hz7 : g ≤ wr.heap.size := Nat.le_trans hz6 hf.size
         have hA := own_ne_own hown hW7.own (by decide)
         have HN := writer_Nums (cap := cap5) hW7 hz7 hr5 hA (by omega) (.inl (by rw [numsB, List.length_append, count4_length, flat_num8]; omega))
         rw [if_pos hBs] at HN
         replace HN := Lib.hid HN
         have hbl4 : (b4 ++ numsB Bs).length ≤ 1099511627776 := by rw [List.length_append, numsB, List.length_append, count4_length, flat_num8]; omega
         obtain ⟨b5, hb5⟩ : ∃ b, Hid (b4 ++ numsB Bs = b) := ⟨_, rfl⟩
         rw [hb5.out] at hbl4
         clear hr5 hA hk20 hW6 hB6 hf6 hown
         go_upto_region 30 with (go_at_call 124; refine HN.out.mono ?_; rintro e w8 ⟨v8, rfl, hW8, hq8, _⟩)
         have hW8 : WriterAt w8 g g v8 (b4 ++ numsB Bs) none := hW8
         rw [hb5.out] at hW8
         have hB8 := wrote_blk hB7 hW7.blk hW7.own hq8 (by decide) (by decide)
         have hf8 := wrote_fr hf7 hW7.own hsg hsg hq8
         clear hq8 hW7 hB7 hf7 HN
         have HY := Lib.hid (writer_Bytes hW8 hbl4)
         go_upto_region 31 with (go_at_call 100; refine HY.out.mono ?_; rintro e w9 ⟨v9, rfl, hv9, hf9⟩)
         have hv9 : Own8 w9 w8.heap.size v9 b5 := hv9
         have hnil2 : errW none = .nilIface := rfl
         rw [hnil2]
         clear hnil2
         have hB9 := hB8.fr hf9 id
         have hk0 := hB9.cell 0
         go_wp2_with (go_at_call 70; refine (fault_Wrap_nil _ _ _).mono ?_; rintro e w' ⟨rfl, rfl⟩)
         refine bodyPost_ret (v := .tuple #[v9, .nilIface]) (by simp [results, Tryz.results95, go_sem]) rfl ?_
         have he : ordB kind t0 t1 t2 l.length 0 l Bs = b5 := by
          rw [← hb5.out, ← hb4.out, ← hb3.out, ← hb2.out, ← hb1.out, ← hb0.out]
          simp [ordB]
         rw [he]
         exact ⟨v9, rfl, own_base hv9 hf8.size, hf8.then_ hf9⟩
theorem say_PutOrder_ok {w : World} {kind c n : Int} {A B : Option Addr} {nr cr nw cw : Nat} {s : SayD} {G D : Int} {C : Option Addr} {nx cx : Nat} {t0 t1 t2 : List Int} (hl0 : t0.length ≤ 65536) (hl1 : t1.length ≤ 65536) (hl2 : t2.length ≤ 65536)
  (hT : ∀ w', Fr (fun _ => False) w w' → Calls Tryz.prog 123 #[.agg #[.int .i64 kind, .int .i64 c, .int .i64 n, .slice A nr cr, .slice B nw cw, .int .i64 s.kind, .int .i64 s.txn, .bool s.yes, .string s.from_, .string s.to_, .int .i64 s.epoch, .int .i64 s.shard, .int .i64 s.target, .int .i64 s.root, .int .i64 G, .int .i64 D, .slice C nx cx, .int .i64 0, .int .i64 0, .slice none 0 0, .slice none 0 0]] w' (TextsP w' t0 t1 t2)) :
  Calls Tryz.prog 95 #[.agg #[.int .i64 kind, .int .i64 c, .int .i64 n, .slice A nr cr, .slice B nw cw, .int .i64 s.kind, .int .i64 s.txn, .bool s.yes, .string s.from_, .string s.to_, .int .i64 s.epoch, .int .i64 s.shard, .int .i64 s.target, .int .i64 s.root, .int .i64 G, .int .i64 D, .slice C nx cx, .int .i64 0, .int .i64 0, .slice none 0 0, .slice none 0 0]] w (PutP w (orderB kind t0 t1 t2) .nilIface) := by
 have h := say_PutOrder_okP (w := w) (PA := none) (QA := none) (pc := 0) (qc := 0) (l := []) (Bs := []) (fun k x h => by simp at h) (fun k x h => by simp at h) (by simp) (by simp) (by simp) hl0 hl1 hl2 hT
 have e : ordB kind t0 t1 t2 0 0 [] [] = orderB kind t0 t1 t2 := by simp [orderB, ordB]
 rw [← e]
 exact h
end Go.Proofs.YtmkdhhhoodeemaaGreat
namespace Go.Proofs.YtmkdhhhoodeemaaGreat
open Go Go.RowKit
attribute [local go_sem ↓] run_neqSay run_eqlSay
theorem say_texts_begin {w : World} {A B : Option Addr} {nr nw cr cw : Nat} {c n : Int} {s : SayD} {bC : Nat} {C : Option Addr} {cx : Nat} {xs : List Int} {G D : Int} (hC : IntRow w bC C xs) (hbC : bC ≤ w.heap.size) (hxl : xs.length ≤ 1024) (hgetok : getOk (num8 G ++ num8 D ++ numsB xs)) {bs : List Int} (hbs : num8 G ++ num8 D ++ numsB xs = bs) {nm sz : Bool} {b0 b1 : List Int} {r0 r1 : Value}
  (hsz : zeroSay s = !sz)
  (h0 : ∀ w', Fr (fun _ => False) w w' → Calls Tryz.prog 148 #[.bool nm, .agg #[.int .i64 c, .int .i64 n, .slice A nr cr, .slice B nw cw], .func (.func 149) #[] #[]] w' (PutP w' b0 r0))
  (h1 : ∀ w', Fr (fun _ => False) w w' → Calls Tryz.prog 150 #[.bool sz, .agg #[.int .i64 s.kind, .int .i64 s.txn, .bool s.yes, .string s.from_, .string s.to_, .int .i64 s.epoch, .int .i64 s.shard, .int .i64 s.target, .int .i64 s.root], .func (.func 77) #[] #[]] w' (PutP w' b1 r1))
  (hr0 : r0 = .nilIface) (hr1 : r1 = .nilIface) (hnm : nm = true) (hno : ∀ w', Fr (fun _ => False) w w' → Calls Tryz.prog 155 #[.agg #[.int .i64 c, .int .i64 n, .slice A nr cr, .slice B nw cw]] w' (OkB w' false)) :
  Calls Tryz.prog 123 #[.agg #[.int .i64 6, .int .i64 c, .int .i64 n, .slice A nr cr, .slice B nw cw, .int .i64 s.kind, .int .i64 s.txn, .bool s.yes, .string s.from_, .string s.to_, .int .i64 s.epoch, .int .i64 s.shard, .int .i64 s.target, .int .i64 s.root, .int .i64 G, .int .i64 D, .slice C xs.length cx, .int .i64 0, .int .i64 0, .slice none 0 0, .slice none 0 0]] w (fun e w' => ∃ v0 v1 v2, e = .returned (.tuple #[.agg #[v0, v1, v2], .bool true]) ∧ Own8 w' w.heap.size v0 b0 ∧ Own8 w' w.heap.size v1 b1 ∧ Own8 w' w.heap.size v2 bs ∧ Fr (fun _ => False) w w') := by
 have H0 := Lib.hid h0
 have H1 := Lib.hid h1
 have HC := Lib.hid hC
 have HG := hgetok
 rw [hbs] at HG
 have HG := Lib.hid HG
 have HBS := Lib.hid hbs
 have H8 : Hid (Bytes8 bs) := by show Bytes8 bs; rw [← hbs]; exact cert_bytes G D xs
 have HBL : Hid (bs.length ≤ 9000) := by show _ ≤ _; rw [← hbs]; exact cert_len hxl
 have HXL := Lib.hid hxl
 have HBC := Lib.hid hbC
 clear h0 h1 hC hgetok hxl hbC hbs
 have hf0 : Fr (fun _ => False) w ((((w.alloc (Obj.cells #[.int .i64 6, .int .i64 c, .int .i64 n, .slice A nr cr, .slice B nw cw, .int .i64 s.kind, .int .i64 s.txn, .bool s.yes, .string s.from_, .string s.to_, .int .i64 s.epoch, .int .i64 s.shard, .int .i64 s.target, .int .i64 s.root, .int .i64 G, .int .i64 D, .slice C xs.length cx, .int .i64 0, .int .i64 0, .slice none 0 0, .slice none 0 0] 62)).alloc (Obj.cells #[.slice none 0 0, .slice none 0 0, .slice none 0 0] 214)).alloc (Obj.cells #[.slice none 0 0, .slice none 0 0, .slice none 0 0] 214)).alloc (Obj.cells #[.nilIface, .nilIface, .nilIface, .nilIface] 233)) := ((((Fr.refl _ _).alloc _).alloc _).alloc _).alloc _
 have hO0 : Blk ((((w.alloc (Obj.cells #[.int .i64 6, .int .i64 c, .int .i64 n, .slice A nr cr, .slice B nw cw, .int .i64 s.kind, .int .i64 s.txn, .bool s.yes, .string s.from_, .string s.to_, .int .i64 s.epoch, .int .i64 s.shard, .int .i64 s.target, .int .i64 s.root, .int .i64 G, .int .i64 D, .slice C xs.length cx, .int .i64 0, .int .i64 0, .slice none 0 0, .slice none 0 0] 62)).alloc (Obj.cells #[.slice none 0 0, .slice none 0 0, .slice none 0 0] 214)).alloc (Obj.cells #[.slice none 0 0, .slice none 0 0, .slice none 0 0] 214)).alloc (Obj.cells #[.nilIface, .nilIface, .nilIface, .nilIface] 233)) w.heap.size 62 #[.int .i64 6, .int .i64 c, .int .i64 n, .slice A nr cr, .slice B nw cw, .int .i64 s.kind, .int .i64 s.txn, .bool s.yes, .string s.from_, .string s.to_, .int .i64 s.epoch, .int .i64 s.shard, .int .i64 s.target, .int .i64 s.root, .int .i64 G, .int .i64 D, .slice C xs.length cx, .int .i64 0, .int .i64 0, .slice none 0 0, .slice none 0 0] := (((Blk.new w _ _).alloc _).alloc _).alloc _
 have hR0 : Blk ((((w.alloc (Obj.cells #[.int .i64 6, .int .i64 c, .int .i64 n, .slice A nr cr, .slice B nw cw, .int .i64 s.kind, .int .i64 s.txn, .bool s.yes, .string s.from_, .string s.to_, .int .i64 s.epoch, .int .i64 s.shard, .int .i64 s.target, .int .i64 s.root, .int .i64 G, .int .i64 D, .slice C xs.length cx, .int .i64 0, .int .i64 0, .slice none 0 0, .slice none 0 0] 62)).alloc (Obj.cells #[.slice none 0 0, .slice none 0 0, .slice none 0 0] 214)).alloc (Obj.cells #[.slice none 0 0, .slice none 0 0, .slice none 0 0] 214)).alloc (Obj.cells #[.nilIface, .nilIface, .nilIface, .nilIface] 233)) (w.heap.size + 1) 214 #[.slice none 0 0, .slice none 0 0, .slice none 0 0] := ((Blk.new_ _ _ _ (by simp)).alloc _).alloc _
 have hL0 : Blk ((((w.alloc (Obj.cells #[.int .i64 6, .int .i64 c, .int .i64 n, .slice A nr cr, .slice B nw cw, .int .i64 s.kind, .int .i64 s.txn, .bool s.yes, .string s.from_, .string s.to_, .int .i64 s.epoch, .int .i64 s.shard, .int .i64 s.target, .int .i64 s.root, .int .i64 G, .int .i64 D, .slice C xs.length cx, .int .i64 0, .int .i64 0, .slice none 0 0, .slice none 0 0] 62)).alloc (Obj.cells #[.slice none 0 0, .slice none 0 0, .slice none 0 0] 214)).alloc (Obj.cells #[.slice none 0 0, .slice none 0 0, .slice none 0 0] 214)).alloc (Obj.cells #[.nilIface, .nilIface, .nilIface, .nilIface] 233)) (w.heap.size + 1 + 1) 214 #[.slice none 0 0, .slice none 0 0, .slice none 0 0] := (Blk.new_ _ _ _ (by simp)).alloc _
 have hE0 : Blk ((((w.alloc (Obj.cells #[.int .i64 6, .int .i64 c, .int .i64 n, .slice A nr cr, .slice B nw cw, .int .i64 s.kind, .int .i64 s.txn, .bool s.yes, .string s.from_, .string s.to_, .int .i64 s.epoch, .int .i64 s.shard, .int .i64 s.target, .int .i64 s.root, .int .i64 G, .int .i64 D, .slice C xs.length cx, .int .i64 0, .int .i64 0, .slice none 0 0, .slice none 0 0] 62)).alloc (Obj.cells #[.slice none 0 0, .slice none 0 0, .slice none 0 0] 214)).alloc (Obj.cells #[.slice none 0 0, .slice none 0 0, .slice none 0 0] 214)).alloc (Obj.cells #[.nilIface, .nilIface, .nilIface, .nilIface] 233)) (w.heap.size + 1 + 1 + 1) 233 #[.nilIface, .nilIface, .nilIface, .nilIface] := Blk.new_ _ _ _ (by simp)
 have hz0 : w.heap.size + 4 ≤ ((((w.alloc (Obj.cells #[.int .i64 6, .int .i64 c, .int .i64 n, .slice A nr cr, .slice B nw cw, .int .i64 s.kind, .int .i64 s.txn, .bool s.yes, .string s.from_, .string s.to_, .int .i64 s.epoch, .int .i64 s.shard, .int .i64 s.target, .int .i64 s.root, .int .i64 G, .int .i64 D, .slice C xs.length cx, .int .i64 0, .int .i64 0, .slice none 0 0, .slice none 0 0] 62)).alloc (Obj.cells #[.slice none 0 0, .slice none 0 0, .slice none 0 0] 214)).alloc (Obj.cells #[.slice none 0 0, .slice none 0 0, .slice none 0 0] 214)).alloc (Obj.cells #[.nilIface, .nilIface, .nilIface, .nilIface] 233)).heap.size := by simp
 subst hr0 hr1 hnm
 have HN := Lib.hid hno
 clear hno
 go_enter Tryz.func123, Tryz.ntmps123
 go_upto_region 4 with fail
 generalize ((((w.alloc (Obj.cells #[.int .i64 6, .int .i64 c, .int .i64 n, .slice A nr cr, .slice B nw cw, .int .i64 s.kind, .int .i64 s.txn, .bool s.yes, .string s.from_, .string s.to_, .int .i64 s.epoch, .int .i64 s.shard, .int .i64 s.target, .int .i64 s.root, .int .i64 G, .int .i64 D, .slice C xs.length cx, .int .i64 0, .int .i64 0, .slice none 0 0, .slice none 0 0] 62)).alloc (Obj.cells #[.slice none 0 0, .slice none 0 0, .slice none 0 0] 214)).alloc (Obj.cells #[.slice none 0 0, .slice none 0 0, .slice none 0 0] 214)).alloc (Obj.cells #[.nilIface, .nilIface, .nilIface, .nilIface] 233)) = w0 at *
 have k1 := hO0.cell 1
 have k2 := hO0.cell 2
 have k3 := hO0.cell 3
 have k4 := hO0.cell 4
 go_upto_region 5 with (first | (go_at_call 148; refine (H0.out _ hf0).mono ?_; rintro e w1 ⟨v0, rfl, hv01, hf1⟩; obtain ⟨A0, c0, rfl, _, _⟩ := hv01.form; have hf01 := hf0.then_ hf1; have hL1 := hL0.fr hf1 id; have hE1 := hE0.fr hf1 id; have hO1 := hO0.fr hf1 id; have hR1 := hR0.fr hf1 id; have l0 := hL1.cell 0; have lf := hL1.frozen 0; have e0 := hE1.cell 0; have ef := hE1.frozen 0))
 have hO2 : Blk ((w1.setCell ⟨w.heap.size + 1 + 1, 0, none⟩ (Value.slice A0 b0.length c0)).setCell ⟨w.heap.size + 1 + 1 + 1, 0, none⟩ .nilIface) _ _ _ := ((hO1.far (fun h => by (try dsimp only at h); omega) _).far (fun h => by (try dsimp only at h); omega) _)
 have hR2 : Blk ((w1.setCell ⟨w.heap.size + 1 + 1, 0, none⟩ (Value.slice A0 b0.length c0)).setCell ⟨w.heap.size + 1 + 1 + 1, 0, none⟩ .nilIface) _ _ _ := ((hR1.far (fun h => by (try dsimp only at h); omega) _).far (fun h => by (try dsimp only at h); omega) _)
 have hL2 : Blk ((w1.setCell ⟨w.heap.size + 1 + 1, 0, none⟩ (Value.slice A0 b0.length c0)).setCell ⟨w.heap.size + 1 + 1 + 1, 0, none⟩ .nilIface) _ _ _ := ((hL1.set_ 0 _).far (fun h => by (try dsimp only at h); omega) _)
 have hE2 : Blk ((w1.setCell ⟨w.heap.size + 1 + 1, 0, none⟩ (Value.slice A0 b0.length c0)).setCell ⟨w.heap.size + 1 + 1 + 1, 0, none⟩ .nilIface) _ _ _ := ((hE1.far (fun h => by (try dsimp only at h); omega) _).set_ 0 _)
 have hf02 : Fr (fun _ => False) w ((w1.setCell ⟨w.heap.size + 1 + 1, 0, none⟩ (Value.slice A0 b0.length c0)).setCell ⟨w.heap.size + 1 + 1 + 1, 0, none⟩ .nilIface) := ((hf01.setCell (p := ⟨w.heap.size + 1 + 1, 0, none⟩) (fun h => absurd h (by dsimp only; omega)) _).setCell (p := ⟨w.heap.size + 1 + 1 + 1, 0, none⟩) (fun h => absurd h (by dsimp only; omega)) _)
 have hv02 : Own8 ((w1.setCell ⟨w.heap.size + 1 + 1, 0, none⟩ (Value.slice A0 b0.length c0)).setCell ⟨w.heap.size + 1 + 1 + 1, 0, none⟩ .nilIface) _ _ _ := hv01.fr (((Fr.refl (fun k => k = (w.heap.size + 1 + 1 + 1) ∨ k = (w.heap.size + 1 + 1)) w1).setCell (p := ⟨w.heap.size + 1 + 1, 0, none⟩) (fun _ => Or.inr rfl) _).setCell (p := ⟨w.heap.size + 1 + 1 + 1, 0, none⟩) (fun _ => Or.inl rfl) _) (fun k hk h => h.elim (fun h => hv01.ne_blk hE1 (by decide) (by rw [← h]; exact hk)) (fun h => hv01.ne_blk hL1 (by decide) (by rw [← h]; exact hk)))
 generalize ((w1.setCell ⟨w.heap.size + 1 + 1, 0, none⟩ (Value.slice A0 b0.length c0)).setCell ⟨w.heap.size + 1 + 1 + 1, 0, none⟩ .nilIface) = w2 at *
 have k5 := hO2.cell 5
 have k6 := hO2.cell 6
 have k7 := hO2.cell 7
 have k8 := hO2.cell 8
 have k9 := hO2.cell 9
 have k10 := hO2.cell 10
 have k11 := hO2.cell 11
 have k12 := hO2.cell 12
 have k13 := hO2.cell 13
 have hf02d : Fr (fun _ => False) w w2.drew := hf02.drew
 refine wp_region_noPanic ?_
 refine wp_region_held_drew (S := (fun w' => w'.cell? ⟨w.heap.size, 5, none⟩ = some (.int .i64 s.kind) ∧ w'.cell? ⟨w.heap.size, 6, none⟩ = some (.int .i64 s.txn) ∧ w'.cell? ⟨w.heap.size, 7, none⟩ = some (.bool s.yes) ∧ w'.cell? ⟨w.heap.size, 8, none⟩ = some (.string s.from_) ∧ w'.cell? ⟨w.heap.size, 9, none⟩ = some (.string s.to_) ∧ w'.cell? ⟨w.heap.size, 10, none⟩ = some (.int .i64 s.epoch) ∧ w'.cell? ⟨w.heap.size, 11, none⟩ = some (.int .i64 s.shard) ∧ w'.cell? ⟨w.heap.size, 12, none⟩ = some (.int .i64 s.target) ∧ w'.cell? ⟨w.heap.size, 13, none⟩ = some (.int .i64 s.root))) (by kernel_rfl) (⟨k5, k6, k7, k8, k9, k10, k11, k12, k13⟩) (fun hHeld => ?_)
 refine tk 0 26 ?_
 refine tk 1 27 ?_
 refine tk 2 28 ?_
 refine tk 3 29 ?_
 refine tk 4 30 ?_
 refine tk 5 31 ?_
 refine rd 6 (fun K hK => ?_)
 go_simp
 go_at_call 150
 refine (H1.out _ hf02d).mono ?_
 rintro e w3 ⟨v1, rfl, hv13, hf3⟩
 obtain ⟨A1, c1, rfl, _, _⟩ := hv13.form
 have hf3 : Fr (fun _ => False) w2 w3 := ((Fr.refl (fun _ => False) w2).drew).trans hf3 (fun _ _ h => h)
 have hO3 := hO2.fr hf3 id
 have hR3 := hR2.fr hf3 id
 have hL3 := hL2.fr hf3 id
 have hE3 := hE2.fr hf3 id
 have hv03 := hv02.fr hf3 (fun _ _ => id)
 have hf03 := hf02.then_ hf3
 have lc1 := hL3.cell 1
 have ec1 := hE3.cell 1
 have lf := hL3.frozen 1
 have ef := hE3.frozen 1
 try go_wp2_with fail
 refine hK.out _ _ (⟨hO3.cell 5, hO3.cell 6, hO3.cell 7, hO3.cell 8, hO3.cell 9, hO3.cell 10, hO3.cell 11, hO3.cell 12, hO3.cell 13⟩) (fun hHeld => ?_)
 clear hK K
 refine tk 7 25 ?_
 refine tk 8 33 ?_
 refine tk 9 34 ?_
 refine tk 10 35 ?_
 refine rd 11 (fun K hK => ?_)
 go_simp
 refine hK.out _ _ (⟨(hO3.far (fun h => by (try dsimp only at h); omega) _).cell 5, (hO3.far (fun h => by (try dsimp only at h); omega) _).cell 6, (hO3.far (fun h => by (try dsimp only at h); omega) _).cell 7, (hO3.far (fun h => by (try dsimp only at h); omega) _).cell 8, (hO3.far (fun h => by (try dsimp only at h); omega) _).cell 9, (hO3.far (fun h => by (try dsimp only at h); omega) _).cell 10, (hO3.far (fun h => by (try dsimp only at h); omega) _).cell 11, (hO3.far (fun h => by (try dsimp only at h); omega) _).cell 12, (hO3.far (fun h => by (try dsimp only at h); omega) _).cell 13⟩) (fun hHeld => ?_)
 clear hK K
 refine tk 12 36 ?_
 refine rd 13 (fun K hK => ?_)
 go_simp
 refine hK.out _ _ (⟨((hO3.far (fun h => by (try dsimp only at h); omega) _).far (fun h => by (try dsimp only at h); omega) _).cell 5, ((hO3.far (fun h => by (try dsimp only at h); omega) _).far (fun h => by (try dsimp only at h); omega) _).cell 6, ((hO3.far (fun h => by (try dsimp only at h); omega) _).far (fun h => by (try dsimp only at h); omega) _).cell 7, ((hO3.far (fun h => by (try dsimp only at h); omega) _).far (fun h => by (try dsimp only at h); omega) _).cell 8, ((hO3.far (fun h => by (try dsimp only at h); omega) _).far (fun h => by (try dsimp only at h); omega) _).cell 9, ((hO3.far (fun h => by (try dsimp only at h); omega) _).far (fun h => by (try dsimp only at h); omega) _).cell 10, ((hO3.far (fun h => by (try dsimp only at h); omega) _).far (fun h => by (try dsimp only at h); omega) _).cell 11, ((hO3.far (fun h => by (try dsimp only at h); omega) _).far (fun h => by (try dsimp only at h); omega) _).cell 12, ((hO3.far (fun h => by (try dsimp only at h); omega) _).far (fun h => by (try dsimp only at h); omega) _).cell 13⟩) (fun hHeld => ?_)
 clear hK K
 refine wpAnyH_done (by kernel_rfl) ?_ _
 refine NoPanic.normal ?_
 have hO4 : Blk ((w3.setCell ⟨w.heap.size + 1 + 1, 1, none⟩ (Value.slice A1 b1.length c1)).setCell ⟨w.heap.size + 1 + 1 + 1, 1, none⟩ .nilIface) _ _ _ := ((hO3.far (fun h => by (try dsimp only at h); omega) _).far (fun h => by (try dsimp only at h); omega) _)
 have hR4 : Blk ((w3.setCell ⟨w.heap.size + 1 + 1, 1, none⟩ (Value.slice A1 b1.length c1)).setCell ⟨w.heap.size + 1 + 1 + 1, 1, none⟩ .nilIface) _ _ _ := ((hR3.far (fun h => by (try dsimp only at h); omega) _).far (fun h => by (try dsimp only at h); omega) _)
 have hL4 : Blk ((w3.setCell ⟨w.heap.size + 1 + 1, 1, none⟩ (Value.slice A1 b1.length c1)).setCell ⟨w.heap.size + 1 + 1 + 1, 1, none⟩ .nilIface) _ _ _ := ((hL3.set_ 1 _).far (fun h => by (try dsimp only at h); omega) _)
 have hE4 : Blk ((w3.setCell ⟨w.heap.size + 1 + 1, 1, none⟩ (Value.slice A1 b1.length c1)).setCell ⟨w.heap.size + 1 + 1 + 1, 1, none⟩ .nilIface) _ _ _ := ((hE3.far (fun h => by (try dsimp only at h); omega) _).set_ 1 _)
 have hf04 : Fr (fun _ => False) w ((w3.setCell ⟨w.heap.size + 1 + 1, 1, none⟩ (Value.slice A1 b1.length c1)).setCell ⟨w.heap.size + 1 + 1 + 1, 1, none⟩ .nilIface) := ((hf03.setCell (p := ⟨w.heap.size + 1 + 1, 1, none⟩) (fun h => absurd h (by dsimp only; omega)) _).setCell (p := ⟨w.heap.size + 1 + 1 + 1, 1, none⟩) (fun h => absurd h (by dsimp only; omega)) _)
 have hv04 : Own8 ((w3.setCell ⟨w.heap.size + 1 + 1, 1, none⟩ (Value.slice A1 b1.length c1)).setCell ⟨w.heap.size + 1 + 1 + 1, 1, none⟩ .nilIface) _ _ _ := hv03.fr (((Fr.refl (fun k => k = (w.heap.size + 1 + 1 + 1) ∨ k = (w.heap.size + 1 + 1)) w3).setCell (p := ⟨w.heap.size + 1 + 1, 1, none⟩) (fun _ => Or.inr rfl) _).setCell (p := ⟨w.heap.size + 1 + 1 + 1, 1, none⟩) (fun _ => Or.inl rfl) _) (fun k hk h => h.elim (fun h => hv03.ne_blk hE3 (by decide) (by rw [← h]; exact hk)) (fun h => hv03.ne_blk hL3 (by decide) (by rw [← h]; exact hk)))
 have hv14 : Own8 ((w3.setCell ⟨w.heap.size + 1 + 1, 1, none⟩ (Value.slice A1 b1.length c1)).setCell ⟨w.heap.size + 1 + 1 + 1, 1, none⟩ .nilIface) _ _ _ := hv13.fr (((Fr.refl (fun k => k = (w.heap.size + 1 + 1 + 1) ∨ k = (w.heap.size + 1 + 1)) w3).setCell (p := ⟨w.heap.size + 1 + 1, 1, none⟩) (fun _ => Or.inr rfl) _).setCell (p := ⟨w.heap.size + 1 + 1 + 1, 1, none⟩) (fun _ => Or.inl rfl) _) (fun k hk h => h.elim (fun h => hv13.ne_blk hE3 (by decide) (by rw [← h]; exact hk)) (fun h => hv13.ne_blk hL3 (by decide) (by rw [← h]; exact hk)))
 generalize ((w3.setCell ⟨w.heap.size + 1 + 1, 1, none⟩ (Value.slice A1 b1.length c1)).setCell ⟨w.heap.size + 1 + 1 + 1, 1, none⟩ .nilIface) = w4 at *
 have k14 := hO4.cell 14
 have k15 := hO4.cell 15
 have k16 := hO4.cell 16
 have HP : Hid (Calls Tryz.prog 151 #[.agg #[.int .i64 G, .int .i64 D, .slice C xs.length cx]] w4 (PutP w4 bs .nilIface)) := (cert_Put (cap := cx) (HC.out.fr hf04 (fun _ _ => id)) (Nat.le_trans HBC.out hf04.size) (by have := HXL.out; omega) G D).mono fun _ _ h => HBS.out ▸ putP_of HXL.out h
 go_upto_region 7 with (first | (go_at_call 151; refine HP.out.mono ?_; rintro e w5 ⟨v2, rfl, hv25, hf5⟩; obtain ⟨A2, c2, rfl, _, _⟩ := hv25.form; have hO5 := hO4.fr hf5 id; have hR5 := hR4.fr hf5 id; have hL5 := hL4.fr hf5 id; have hE5 := hE4.fr hf5 id; have hv05 := hv04.fr hf5 (fun _ _ => id); have hv15 := hv14.fr hf5 (fun _ _ => id); have hf05 := hf04.then_ hf5; have lc := hL5.cell 2; have lf := hL5.frozen 2; have ec := hE5.cell 2; have ef := hE5.frozen 2))
 have hO6 : Blk ((w5.setCell ⟨w.heap.size + 1 + 1, 2, none⟩ (Value.slice A2 bs.length c2)).setCell ⟨w.heap.size + 1 + 1 + 1, 2, none⟩ Value.nilIface) _ _ _ := ((hO5.far (fun h => by (try dsimp only at h); omega) _).far (fun h => by (try dsimp only at h); omega) _)
 have hR6 : Blk ((w5.setCell ⟨w.heap.size + 1 + 1, 2, none⟩ (Value.slice A2 bs.length c2)).setCell ⟨w.heap.size + 1 + 1 + 1, 2, none⟩ Value.nilIface) _ _ _ := ((hR5.far (fun h => by (try dsimp only at h); omega) _).far (fun h => by (try dsimp only at h); omega) _)
 have hL6 : Blk ((w5.setCell ⟨w.heap.size + 1 + 1, 2, none⟩ (Value.slice A2 bs.length c2)).setCell ⟨w.heap.size + 1 + 1 + 1, 2, none⟩ Value.nilIface) _ _ _ := ((hL5.set_ 2 _).far (fun h => by (try dsimp only at h); omega) _)
 have hE6 : Blk ((w5.setCell ⟨w.heap.size + 1 + 1, 2, none⟩ (Value.slice A2 bs.length c2)).setCell ⟨w.heap.size + 1 + 1 + 1, 2, none⟩ Value.nilIface) _ _ _ := ((hE5.far (fun h => by (try dsimp only at h); omega) _).set_ 2 _)
 have hf06 : Fr (fun _ => False) w ((w5.setCell ⟨w.heap.size + 1 + 1, 2, none⟩ (Value.slice A2 bs.length c2)).setCell ⟨w.heap.size + 1 + 1 + 1, 2, none⟩ Value.nilIface) := ((hf05.setCell (p := ⟨w.heap.size + 1 + 1, 2, none⟩) (fun h => absurd h (by dsimp only; omega)) _).setCell (p := ⟨w.heap.size + 1 + 1 + 1, 2, none⟩) (fun h => absurd h (by dsimp only; omega)) _)
 have hv06 : Own8 ((w5.setCell ⟨w.heap.size + 1 + 1, 2, none⟩ (Value.slice A2 bs.length c2)).setCell ⟨w.heap.size + 1 + 1 + 1, 2, none⟩ Value.nilIface) _ _ _ := hv05.fr (((Fr.refl (fun k => k = (w.heap.size + 1 + 1 + 1) ∨ k = (w.heap.size + 1 + 1)) w5).setCell (p := ⟨w.heap.size + 1 + 1, 2, none⟩) (fun _ => Or.inr rfl) _).setCell (p := ⟨w.heap.size + 1 + 1 + 1, 2, none⟩) (fun _ => Or.inl rfl) _) (fun k hk h => h.elim (fun h => hv05.ne_blk hE5 (by decide) (by rw [← h]; exact hk)) (fun h => hv05.ne_blk hL5 (by decide) (by rw [← h]; exact hk)))
 have hv16 : Own8 ((w5.setCell ⟨w.heap.size + 1 + 1, 2, none⟩ (Value.slice A2 bs.length c2)).setCell ⟨w.heap.size + 1 + 1 + 1, 2, none⟩ Value.nilIface) _ _ _ := hv15.fr (((Fr.refl (fun k => k = (w.heap.size + 1 + 1 + 1) ∨ k = (w.heap.size + 1 + 1)) w5).setCell (p := ⟨w.heap.size + 1 + 1, 2, none⟩) (fun _ => Or.inr rfl) _).setCell (p := ⟨w.heap.size + 1 + 1 + 1, 2, none⟩) (fun _ => Or.inl rfl) _) (fun k hk h => h.elim (fun h => hv15.ne_blk hE5 (by decide) (by rw [← h]; exact hk)) (fun h => hv15.ne_blk hL5 (by decide) (by rw [← h]; exact hk)))
 have hv26 : Own8 ((w5.setCell ⟨w.heap.size + 1 + 1, 2, none⟩ (Value.slice A2 bs.length c2)).setCell ⟨w.heap.size + 1 + 1 + 1, 2, none⟩ Value.nilIface) _ _ _ := hv25.fr (((Fr.refl (fun k => k = (w.heap.size + 1 + 1 + 1) ∨ k = (w.heap.size + 1 + 1)) w5).setCell (p := ⟨w.heap.size + 1 + 1, 2, none⟩) (fun _ => Or.inr rfl) _).setCell (p := ⟨w.heap.size + 1 + 1 + 1, 2, none⟩) (fun _ => Or.inl rfl) _) (fun k hk h => h.elim (fun h => hv25.ne_blk hE5 (by decide) (by rw [← h]; exact hk)) (fun h => hv25.ne_blk hL5 (by decide) (by rw [← h]; exact hk)))
 generalize ((w5.setCell ⟨w.heap.size + 1 + 1, 2, none⟩ (Value.slice A2 bs.length c2)).setCell ⟨w.heap.size + 1 + 1 + 1, 2, none⟩ Value.nilIface) = w6 at *
 have ec := hE6.cell 2
 have lc := hL6.cell 2
 obtain ⟨_, _, hve, _, hrow⟩ := hv26.form
 cases hve
 have HGET := Lib.hid (cert_Get (cap := c2) hrow (by have := HBL.out; omega) H8.out)
 clear hrow
 go_upto_region 9 with (first | (go_at_call 152; refine HGET.out.mono ?_; rintro e w7 hg7; obtain ⟨x3, rfl, hf7⟩ := get_fine HG.out hg7; have hO7 := hO6.fr hf7 id; have hR7 := hR6.fr hf7 id; have hL7 := hL6.fr hf7 id; have hE7 := hE6.fr hf7 id; have hv07 := hv06.fr hf7 (fun _ _ => id); have hv17 := hv16.fr hf7 (fun _ _ => id); have hv27 := hv26.fr hf7 (fun _ _ => id); have hf07 := hf06.then_ hf7; have ec := hE7.cell 3; have ef := hE7.frozen 3))
 have hO8 : Blk (w7.setCell ⟨w.heap.size + 1 + 1 + 1, 3, none⟩ Value.nilIface) _ _ _ := (hO7.far (fun h => by (try dsimp only at h); omega) _)
 have hR8 : Blk (w7.setCell ⟨w.heap.size + 1 + 1 + 1, 3, none⟩ Value.nilIface) _ _ _ := (hR7.far (fun h => by (try dsimp only at h); omega) _)
 have hL8 : Blk (w7.setCell ⟨w.heap.size + 1 + 1 + 1, 3, none⟩ Value.nilIface) _ _ _ := (hL7.far (fun h => by (try dsimp only at h); omega) _)
 have hE8 : Blk (w7.setCell ⟨w.heap.size + 1 + 1 + 1, 3, none⟩ Value.nilIface) _ _ _ := (hE7.set_ 3 _)
 have hf08 : Fr (fun _ => False) w (w7.setCell ⟨w.heap.size + 1 + 1 + 1, 3, none⟩ Value.nilIface) := (hf07.setCell (p := ⟨w.heap.size + 1 + 1 + 1, 3, none⟩) (fun h => absurd h (by dsimp only; omega)) _)
 have hv08 : Own8 (w7.setCell ⟨w.heap.size + 1 + 1 + 1, 3, none⟩ Value.nilIface) _ _ _ := hv07.fr ((Fr.refl (fun k => k = (w.heap.size + 1 + 1 + 1)) w7).setCell (p := ⟨w.heap.size + 1 + 1 + 1, 3, none⟩) (fun _ => rfl) _) (fun k hk h => hv07.ne_blk hE7 (by decide) (by rw [← h]; exact hk))
 have hv18 : Own8 (w7.setCell ⟨w.heap.size + 1 + 1 + 1, 3, none⟩ Value.nilIface) _ _ _ := hv17.fr ((Fr.refl (fun k => k = (w.heap.size + 1 + 1 + 1)) w7).setCell (p := ⟨w.heap.size + 1 + 1 + 1, 3, none⟩) (fun _ => rfl) _) (fun k hk h => hv17.ne_blk hE7 (by decide) (by rw [← h]; exact hk))
 have hv28 : Own8 (w7.setCell ⟨w.heap.size + 1 + 1 + 1, 3, none⟩ Value.nilIface) _ _ _ := hv27.fr ((Fr.refl (fun k => k = (w.heap.size + 1 + 1 + 1)) w7).setCell (p := ⟨w.heap.size + 1 + 1 + 1, 3, none⟩) (fun _ => rfl) _) (fun k hk h => hv27.ne_blk hE7 (by decide) (by rw [← h]; exact hk))
 generalize (w7.setCell ⟨w.heap.size + 1 + 1 + 1, 3, none⟩ Value.nilIface) = w8 at *
 have HER : Hid (ErrRow w8 (w.heap.size + 1 + 1 + 1) [.nilIface, .nilIface, .nilIface, .nilIface]) := err_row hE8 (.inl rfl) (.inl rfl) (.inl rfl) (.inl rfl)
 go_upto_region 10 with (first | (go_at_call 153; refine (containsErr (cap := 4) (z := false) rfl HER.out (by simp)).mono ?_; rintro e w9 ⟨rfl, rfl⟩))
 have hf08d : Fr (fun _ => False) w w8.drew := hf08.drew
 refine wp_region_noPanic ?_
 refine wp_region_held_drew (S := (fun w' => w'.cell? ⟨w.heap.size, 0, none⟩ = some (.int .i64 6) ∧ w'.cell? ⟨w.heap.size, 1, none⟩ = some (.int .i64 c) ∧ w'.cell? ⟨w.heap.size, 2, none⟩ = some (.int .i64 n) ∧ w'.cell? ⟨w.heap.size, 3, none⟩ = some (.slice A nr cr) ∧ w'.cell? ⟨w.heap.size, 4, none⟩ = some (.slice B nw cw) ∧ w'.cell? ⟨w.heap.size, 17, none⟩ = some (.int .i64 0) ∧ w'.cell? ⟨w.heap.size, 18, none⟩ = some (.int .i64 0) ∧ w'.cell? ⟨w.heap.size, 19, none⟩ = some (.slice none 0 0) ∧ w'.cell? ⟨w.heap.size, 20, none⟩ = some (.slice none 0 0) ∧ w'.cell? ⟨w.heap.size + 1 + 1, 0, none⟩ = some ((Value.slice A0 b0.length c0)) ∧ w'.cell? ⟨w.heap.size + 1 + 1, 1, none⟩ = some ((Value.slice A1 b1.length c1)) ∧ w'.cell? ⟨w.heap.size + 1 + 1, 2, none⟩ = some ((Value.slice A2 bs.length c2)))) (by kernel_rfl) (⟨hO8.cell 0, hO8.cell 1, hO8.cell 2, hO8.cell 3, hO8.cell 4, hO8.cell 17, hO8.cell 18, hO8.cell 19, hO8.cell 20, hL8.cell 0, hL8.cell 1, hL8.cell 2⟩) (fun hHeld => ?_)
 refine tk 0 57 ?_
 refine tk 1 58 ?_
 refine tk 2 59 ?_
 refine tk 3 60 ?_
 refine tk 4 61 ?_
 refine tk 5 62 ?_
 refine tk 6 63 ?_
 refine tk 7 64 ?_
 refine tk 8 65 ?_
 refine tk 9 66 ?_
 refine tk 10 67 ?_
 refine tk 11 68 ?_
 refine tk 12 69 ?_
 refine tk 13 70 ?_
 refine tk 14 71 ?_
 refine tk 15 72 ?_
 refine tk 16 73 ?_
 refine rd 17 (fun K hK => ?_)
 go_simp
 go_at_call 155
 refine (HN.out _ hf08d).mono ?_
 rintro e w10 ⟨rfl, hf10⟩
 have hf10 : Fr (fun _ => False) w8 w10 := ((Fr.refl (fun _ => False) w8).drew).trans hf10 (fun _ _ h => h)
 have hO10 := hO8.fr hf10 id
 have hR10 := hR8.fr hf10 id
 have hL10 := hL8.fr hf10 id
 have hE10 := hE8.fr hf10 id
 have hv010 := hv08.fr hf10 (fun _ _ => id)
 have hv110 := hv18.fr hf10 (fun _ _ => id)
 have hv210 := hv28.fr hf10 (fun _ _ => id)
 have hf010 := hf08.then_ hf10
 try go_wp2_with fail
 refine hK.out _ _ (⟨hO10.cell 0, hO10.cell 1, hO10.cell 2, hO10.cell 3, hO10.cell 4, hO10.cell 17, hO10.cell 18, hO10.cell 19, hO10.cell 20, hL10.cell 0, hL10.cell 1, hL10.cell 2⟩) (fun hHeld => ?_)
 clear hK K
 refine tk 18 75 ?_
 refine tk 19 76 ?_
 refine tk 20 77 ?_
 refine tk 21 78 ?_
 refine tk 22 79 ?_
 refine rd 23 (fun K hK => ?_)
 go_simp
 go_at_call 156
 refine (fits_zero _).mono ?_
 rintro e w11 ⟨rfl, hf11⟩
 have hO11 := hO10.fr hf11 id
 have hR11 := hR10.fr hf11 id
 have hL11 := hL10.fr hf11 id
 have hE11 := hE10.fr hf11 id
 have hv011 := hv010.fr hf11 (fun _ _ => id)
 have hv111 := hv110.fr hf11 (fun _ _ => id)
 have hv211 := hv210.fr hf11 (fun _ _ => id)
 have hf011 := hf010.then_ hf11
 have rc0 := hR11.cell 0
 have rc1 := hR11.cell 1
 have rc2 := hR11.cell 2
 have rf0 := hR11.frozen 0
 have rf1 := hR11.frozen 1
 have rf2 := hR11.frozen 2
 try go_wp2_with fail
 refine hK.out _ _ (⟨hO11.cell 0, hO11.cell 1, hO11.cell 2, hO11.cell 3, hO11.cell 4, hO11.cell 17, hO11.cell 18, hO11.cell 19, hO11.cell 20, hL11.cell 0, hL11.cell 1, hL11.cell 2⟩) (fun hHeld => ?_)
 clear hK K
 refine tk 24 81 ?_
 refine rd 25 (fun K hK => ?_)
 go_simp
 refine hK.out _ _ (⟨(((hO11.far (fun h => by (try dsimp only at h); omega) _).far (fun h => by (try dsimp only at h); omega) _).far (fun h => by (try dsimp only at h); omega) _).cell 0, (((hO11.far (fun h => by (try dsimp only at h); omega) _).far (fun h => by (try dsimp only at h); omega) _).far (fun h => by (try dsimp only at h); omega) _).cell 1, (((hO11.far (fun h => by (try dsimp only at h); omega) _).far (fun h => by (try dsimp only at h); omega) _).far (fun h => by (try dsimp only at h); omega) _).cell 2, (((hO11.far (fun h => by (try dsimp only at h); omega) _).far (fun h => by (try dsimp only at h); omega) _).far (fun h => by (try dsimp only at h); omega) _).cell 3, (((hO11.far (fun h => by (try dsimp only at h); omega) _).far (fun h => by (try dsimp only at h); omega) _).far (fun h => by (try dsimp only at h); omega) _).cell 4, (((hO11.far (fun h => by (try dsimp only at h); omega) _).far (fun h => by (try dsimp only at h); omega) _).far (fun h => by (try dsimp only at h); omega) _).cell 17, (((hO11.far (fun h => by (try dsimp only at h); omega) _).far (fun h => by (try dsimp only at h); omega) _).far (fun h => by (try dsimp only at h); omega) _).cell 18, (((hO11.far (fun h => by (try dsimp only at h); omega) _).far (fun h => by (try dsimp only at h); omega) _).far (fun h => by (try dsimp only at h); omega) _).cell 19, (((hO11.far (fun h => by (try dsimp only at h); omega) _).far (fun h => by (try dsimp only at h); omega) _).far (fun h => by (try dsimp only at h); omega) _).cell 20, (((hL11.far (fun h => by (try dsimp only at h); omega) _).far (fun h => by (try dsimp only at h); omega) _).far (fun h => by (try dsimp only at h); omega) _).cell 0, (((hL11.far (fun h => by (try dsimp only at h); omega) _).far (fun h => by (try dsimp only at h); omega) _).far (fun h => by (try dsimp only at h); omega) _).cell 1, (((hL11.far (fun h => by (try dsimp only at h); omega) _).far (fun h => by (try dsimp only at h); omega) _).far (fun h => by (try dsimp only at h); omega) _).cell 2⟩) (fun hHeld => ?_)
 clear hK K
 refine tk 26 3 ?_
 refine wpAnyH_done (by kernel_rfl) ?_ _
 refine NoPanic.normal ?_
 have hO12 : Blk (((w11.setCell ⟨w.heap.size + 1, 0, none⟩ (Value.slice A0 b0.length c0)).setCell ⟨w.heap.size + 1, 1, none⟩ (Value.slice A1 b1.length c1)).setCell ⟨w.heap.size + 1, 2, none⟩ (Value.slice A2 bs.length c2)) _ _ _ := (((hO11.far (fun h => by (try dsimp only at h); omega) _).far (fun h => by (try dsimp only at h); omega) _).far (fun h => by (try dsimp only at h); omega) _)
 have hR12 : Blk (((w11.setCell ⟨w.heap.size + 1, 0, none⟩ (Value.slice A0 b0.length c0)).setCell ⟨w.heap.size + 1, 1, none⟩ (Value.slice A1 b1.length c1)).setCell ⟨w.heap.size + 1, 2, none⟩ (Value.slice A2 bs.length c2)) _ _ _ := (((hR11.set_ 0 _).set_ 1 _).set_ 2 _)
 have hL12 : Blk (((w11.setCell ⟨w.heap.size + 1, 0, none⟩ (Value.slice A0 b0.length c0)).setCell ⟨w.heap.size + 1, 1, none⟩ (Value.slice A1 b1.length c1)).setCell ⟨w.heap.size + 1, 2, none⟩ (Value.slice A2 bs.length c2)) _ _ _ := (((hL11.far (fun h => by (try dsimp only at h); omega) _).far (fun h => by (try dsimp only at h); omega) _).far (fun h => by (try dsimp only at h); omega) _)
 have hE12 : Blk (((w11.setCell ⟨w.heap.size + 1, 0, none⟩ (Value.slice A0 b0.length c0)).setCell ⟨w.heap.size + 1, 1, none⟩ (Value.slice A1 b1.length c1)).setCell ⟨w.heap.size + 1, 2, none⟩ (Value.slice A2 bs.length c2)) _ _ _ := (((hE11.far (fun h => by (try dsimp only at h); omega) _).far (fun h => by (try dsimp only at h); omega) _).far (fun h => by (try dsimp only at h); omega) _)
 have hf012 : Fr (fun _ => False) w (((w11.setCell ⟨w.heap.size + 1, 0, none⟩ (Value.slice A0 b0.length c0)).setCell ⟨w.heap.size + 1, 1, none⟩ (Value.slice A1 b1.length c1)).setCell ⟨w.heap.size + 1, 2, none⟩ (Value.slice A2 bs.length c2)) := (((hf011.setCell (p := ⟨w.heap.size + 1, 0, none⟩) (fun h => absurd h (by dsimp only; omega)) _).setCell (p := ⟨w.heap.size + 1, 1, none⟩) (fun h => absurd h (by dsimp only; omega)) _).setCell (p := ⟨w.heap.size + 1, 2, none⟩) (fun h => absurd h (by dsimp only; omega)) _)
 have hv012 : Own8 (((w11.setCell ⟨w.heap.size + 1, 0, none⟩ (Value.slice A0 b0.length c0)).setCell ⟨w.heap.size + 1, 1, none⟩ (Value.slice A1 b1.length c1)).setCell ⟨w.heap.size + 1, 2, none⟩ (Value.slice A2 bs.length c2)) _ _ _ := hv011.fr ((((Fr.refl (fun k => k = (w.heap.size + 1)) w11).setCell (p := ⟨w.heap.size + 1, 0, none⟩) (fun _ => rfl) _).setCell (p := ⟨w.heap.size + 1, 1, none⟩) (fun _ => rfl) _).setCell (p := ⟨w.heap.size + 1, 2, none⟩) (fun _ => rfl) _) (fun k hk h => hv011.ne_blk hR11 (by decide) (by rw [← h]; exact hk))
 have hv112 : Own8 (((w11.setCell ⟨w.heap.size + 1, 0, none⟩ (Value.slice A0 b0.length c0)).setCell ⟨w.heap.size + 1, 1, none⟩ (Value.slice A1 b1.length c1)).setCell ⟨w.heap.size + 1, 2, none⟩ (Value.slice A2 bs.length c2)) _ _ _ := hv111.fr ((((Fr.refl (fun k => k = (w.heap.size + 1)) w11).setCell (p := ⟨w.heap.size + 1, 0, none⟩) (fun _ => rfl) _).setCell (p := ⟨w.heap.size + 1, 1, none⟩) (fun _ => rfl) _).setCell (p := ⟨w.heap.size + 1, 2, none⟩) (fun _ => rfl) _) (fun k hk h => hv111.ne_blk hR11 (by decide) (by rw [← h]; exact hk))
 have hv212 : Own8 (((w11.setCell ⟨w.heap.size + 1, 0, none⟩ (Value.slice A0 b0.length c0)).setCell ⟨w.heap.size + 1, 1, none⟩ (Value.slice A1 b1.length c1)).setCell ⟨w.heap.size + 1, 2, none⟩ (Value.slice A2 bs.length c2)) _ _ _ := hv211.fr ((((Fr.refl (fun k => k = (w.heap.size + 1)) w11).setCell (p := ⟨w.heap.size + 1, 0, none⟩) (fun _ => rfl) _).setCell (p := ⟨w.heap.size + 1, 1, none⟩) (fun _ => rfl) _).setCell (p := ⟨w.heap.size + 1, 2, none⟩) (fun _ => rfl) _) (fun k hk h => hv211.ne_blk hR11 (by decide) (by rw [← h]; exact hk))
 generalize (((w11.setCell ⟨w.heap.size + 1, 0, none⟩ (Value.slice A0 b0.length c0)).setCell ⟨w.heap.size + 1, 1, none⟩ (Value.slice A1 b1.length c1)).setCell ⟨w.heap.size + 1, 2, none⟩ (Value.slice A2 bs.length c2)) = w12 at *
 have y0 := hR12.cell 0
 have y1 := hR12.cell 1
 have y2 := hR12.cell 2
 simp at y0 y1 y2
 try go_wp2_with fail
 refine bodyPost_ret (v := .tuple #[.agg #[(Value.slice A0 b0.length c0), (Value.slice A1 b1.length c1), (Value.slice A2 bs.length c2)], .bool true]) (by simp [results, Tryz.results123, go_sem, y0, y1, y2]) rfl ?_
 exact ⟨_, _, _, rfl, hv012.base_ (by omega), hv112.base_ (Nat.le_trans hf02.size (Nat.le_refl _)), hv212.base_ hf04.size, hf012⟩
end Go.Proofs.YtmkdhhhoodeemaaGreat
namespace Go.Proofs.YtmkdhhhoodeemaaGreat
open Go Go.RowKit
attribute [local go_sem ↓] run_neqSay run_eqlSay
theorem say_texts_badT {w : World} {A B : Option Addr} {nr nw cr cw : Nat} {c n : Int} {s : SayD} {bC : Nat} {C : Option Addr} {cx : Nat} {xs : List Int} {G D : Int} (hC : IntRow w bC C xs) (hbC : bC ≤ w.heap.size) (hxl : xs.length ≤ 1024) (hgetok : getOk (num8 G ++ num8 D ++ numsB xs)) {bs : List Int} (hbs : num8 G ++ num8 D ++ numsB xs = bs) {nm sz : Bool} {b0 b1 : List Int} {r0 r1 : Value}
  (hsz : zeroSay s = !sz)
  (h0 : ∀ w', Fr (fun _ => False) w w' → Calls Tryz.prog 148 #[.bool nm, .agg #[.int .i64 c, .int .i64 n, .slice A nr cr, .slice B nw cw], .func (.func 149) #[] #[]] w' (PutP w' b0 r0))
  (h1 : ∀ w', Fr (fun _ => False) w w' → Calls Tryz.prog 150 #[.bool sz, .agg #[.int .i64 s.kind, .int .i64 s.txn, .bool s.yes, .string s.from_, .string s.to_, .int .i64 s.epoch, .int .i64 s.shard, .int .i64 s.target, .int .i64 s.root], .func (.func 77) #[] #[]] w' (PutP w' b1 r1))
  (hr1 : r1 = .nilIface) (hnm : nm = true) {t0 : TypeId} {u0 : Value} (hr0 : r0 = .iface t0 u0) :
  Calls Tryz.prog 123 #[.agg #[.int .i64 6, .int .i64 c, .int .i64 n, .slice A nr cr, .slice B nw cw, .int .i64 s.kind, .int .i64 s.txn, .bool s.yes, .string s.from_, .string s.to_, .int .i64 s.epoch, .int .i64 s.shard, .int .i64 s.target, .int .i64 s.root, .int .i64 G, .int .i64 D, .slice C xs.length cx, .int .i64 0, .int .i64 0, .slice none 0 0, .slice none 0 0]] w (fun e w' => ∃ A0 n0 c0 A1 n1 c1 A2 n2 c2, e = .returned (.tuple #[.agg #[.slice A0 n0 c0, .slice A1 n1 c1, .slice A2 n2 c2], .bool false]) ∧ Fr (fun _ => False) w w') := by
 have H0 := Lib.hid h0
 have H1 := Lib.hid h1
 have HC := Lib.hid hC
 have HG := hgetok
 rw [hbs] at HG
 have HG := Lib.hid HG
 have HBS := Lib.hid hbs
 have H8 : Hid (Bytes8 bs) := by show Bytes8 bs; rw [← hbs]; exact cert_bytes G D xs
 have HBL : Hid (bs.length ≤ 9000) := by show _ ≤ _; rw [← hbs]; exact cert_len hxl
 have HXL := Lib.hid hxl
 have HBC := Lib.hid hbC
 clear h0 h1 hC hgetok hxl hbC hbs
 have hf0 : Fr (fun _ => False) w ((((w.alloc (Obj.cells #[.int .i64 6, .int .i64 c, .int .i64 n, .slice A nr cr, .slice B nw cw, .int .i64 s.kind, .int .i64 s.txn, .bool s.yes, .string s.from_, .string s.to_, .int .i64 s.epoch, .int .i64 s.shard, .int .i64 s.target, .int .i64 s.root, .int .i64 G, .int .i64 D, .slice C xs.length cx, .int .i64 0, .int .i64 0, .slice none 0 0, .slice none 0 0] 62)).alloc (Obj.cells #[.slice none 0 0, .slice none 0 0, .slice none 0 0] 214)).alloc (Obj.cells #[.slice none 0 0, .slice none 0 0, .slice none 0 0] 214)).alloc (Obj.cells #[.nilIface, .nilIface, .nilIface, .nilIface] 233)) := ((((Fr.refl _ _).alloc _).alloc _).alloc _).alloc _
 have hO0 : Blk ((((w.alloc (Obj.cells #[.int .i64 6, .int .i64 c, .int .i64 n, .slice A nr cr, .slice B nw cw, .int .i64 s.kind, .int .i64 s.txn, .bool s.yes, .string s.from_, .string s.to_, .int .i64 s.epoch, .int .i64 s.shard, .int .i64 s.target, .int .i64 s.root, .int .i64 G, .int .i64 D, .slice C xs.length cx, .int .i64 0, .int .i64 0, .slice none 0 0, .slice none 0 0] 62)).alloc (Obj.cells #[.slice none 0 0, .slice none 0 0, .slice none 0 0] 214)).alloc (Obj.cells #[.slice none 0 0, .slice none 0 0, .slice none 0 0] 214)).alloc (Obj.cells #[.nilIface, .nilIface, .nilIface, .nilIface] 233)) w.heap.size 62 #[.int .i64 6, .int .i64 c, .int .i64 n, .slice A nr cr, .slice B nw cw, .int .i64 s.kind, .int .i64 s.txn, .bool s.yes, .string s.from_, .string s.to_, .int .i64 s.epoch, .int .i64 s.shard, .int .i64 s.target, .int .i64 s.root, .int .i64 G, .int .i64 D, .slice C xs.length cx, .int .i64 0, .int .i64 0, .slice none 0 0, .slice none 0 0] := (((Blk.new w _ _).alloc _).alloc _).alloc _
 have hR0 : Blk ((((w.alloc (Obj.cells #[.int .i64 6, .int .i64 c, .int .i64 n, .slice A nr cr, .slice B nw cw, .int .i64 s.kind, .int .i64 s.txn, .bool s.yes, .string s.from_, .string s.to_, .int .i64 s.epoch, .int .i64 s.shard, .int .i64 s.target, .int .i64 s.root, .int .i64 G, .int .i64 D, .slice C xs.length cx, .int .i64 0, .int .i64 0, .slice none 0 0, .slice none 0 0] 62)).alloc (Obj.cells #[.slice none 0 0, .slice none 0 0, .slice none 0 0] 214)).alloc (Obj.cells #[.slice none 0 0, .slice none 0 0, .slice none 0 0] 214)).alloc (Obj.cells #[.nilIface, .nilIface, .nilIface, .nilIface] 233)) (w.heap.size + 1) 214 #[.slice none 0 0, .slice none 0 0, .slice none 0 0] := ((Blk.new_ _ _ _ (by simp)).alloc _).alloc _
 have hL0 : Blk ((((w.alloc (Obj.cells #[.int .i64 6, .int .i64 c, .int .i64 n, .slice A nr cr, .slice B nw cw, .int .i64 s.kind, .int .i64 s.txn, .bool s.yes, .string s.from_, .string s.to_, .int .i64 s.epoch, .int .i64 s.shard, .int .i64 s.target, .int .i64 s.root, .int .i64 G, .int .i64 D, .slice C xs.length cx, .int .i64 0, .int .i64 0, .slice none 0 0, .slice none 0 0] 62)).alloc (Obj.cells #[.slice none 0 0, .slice none 0 0, .slice none 0 0] 214)).alloc (Obj.cells #[.slice none 0 0, .slice none 0 0, .slice none 0 0] 214)).alloc (Obj.cells #[.nilIface, .nilIface, .nilIface, .nilIface] 233)) (w.heap.size + 1 + 1) 214 #[.slice none 0 0, .slice none 0 0, .slice none 0 0] := (Blk.new_ _ _ _ (by simp)).alloc _
 have hE0 : Blk ((((w.alloc (Obj.cells #[.int .i64 6, .int .i64 c, .int .i64 n, .slice A nr cr, .slice B nw cw, .int .i64 s.kind, .int .i64 s.txn, .bool s.yes, .string s.from_, .string s.to_, .int .i64 s.epoch, .int .i64 s.shard, .int .i64 s.target, .int .i64 s.root, .int .i64 G, .int .i64 D, .slice C xs.length cx, .int .i64 0, .int .i64 0, .slice none 0 0, .slice none 0 0] 62)).alloc (Obj.cells #[.slice none 0 0, .slice none 0 0, .slice none 0 0] 214)).alloc (Obj.cells #[.slice none 0 0, .slice none 0 0, .slice none 0 0] 214)).alloc (Obj.cells #[.nilIface, .nilIface, .nilIface, .nilIface] 233)) (w.heap.size + 1 + 1 + 1) 233 #[.nilIface, .nilIface, .nilIface, .nilIface] := Blk.new_ _ _ _ (by simp)
 have hz0 : w.heap.size + 4 ≤ ((((w.alloc (Obj.cells #[.int .i64 6, .int .i64 c, .int .i64 n, .slice A nr cr, .slice B nw cw, .int .i64 s.kind, .int .i64 s.txn, .bool s.yes, .string s.from_, .string s.to_, .int .i64 s.epoch, .int .i64 s.shard, .int .i64 s.target, .int .i64 s.root, .int .i64 G, .int .i64 D, .slice C xs.length cx, .int .i64 0, .int .i64 0, .slice none 0 0, .slice none 0 0] 62)).alloc (Obj.cells #[.slice none 0 0, .slice none 0 0, .slice none 0 0] 214)).alloc (Obj.cells #[.slice none 0 0, .slice none 0 0, .slice none 0 0] 214)).alloc (Obj.cells #[.nilIface, .nilIface, .nilIface, .nilIface] 233)).heap.size := by simp
 subst hr0 hr1 hnm
 go_enter Tryz.func123, Tryz.ntmps123
 go_upto_region 4 with fail
 generalize ((((w.alloc (Obj.cells #[.int .i64 6, .int .i64 c, .int .i64 n, .slice A nr cr, .slice B nw cw, .int .i64 s.kind, .int .i64 s.txn, .bool s.yes, .string s.from_, .string s.to_, .int .i64 s.epoch, .int .i64 s.shard, .int .i64 s.target, .int .i64 s.root, .int .i64 G, .int .i64 D, .slice C xs.length cx, .int .i64 0, .int .i64 0, .slice none 0 0, .slice none 0 0] 62)).alloc (Obj.cells #[.slice none 0 0, .slice none 0 0, .slice none 0 0] 214)).alloc (Obj.cells #[.slice none 0 0, .slice none 0 0, .slice none 0 0] 214)).alloc (Obj.cells #[.nilIface, .nilIface, .nilIface, .nilIface] 233)) = w0 at *
 have k1 := hO0.cell 1
 have k2 := hO0.cell 2
 have k3 := hO0.cell 3
 have k4 := hO0.cell 4
 go_upto_region 5 with (first | (go_at_call 148; refine (H0.out _ hf0).mono ?_; rintro e w1 ⟨v0, rfl, hv01, hf1⟩; obtain ⟨A0, c0, rfl, _, _⟩ := hv01.form; have hf01 := hf0.then_ hf1; have hL1 := hL0.fr hf1 id; have hE1 := hE0.fr hf1 id; have hO1 := hO0.fr hf1 id; have hR1 := hR0.fr hf1 id; have l0 := hL1.cell 0; have lf := hL1.frozen 0; have e0 := hE1.cell 0; have ef := hE1.frozen 0))
 have hO2 : Blk ((w1.setCell ⟨w.heap.size + 1 + 1, 0, none⟩ (Value.slice A0 b0.length c0)).setCell ⟨w.heap.size + 1 + 1 + 1, 0, none⟩ (Value.iface t0 u0)) _ _ _ := ((hO1.far (fun h => by (try dsimp only at h); omega) _).far (fun h => by (try dsimp only at h); omega) _)
 have hR2 : Blk ((w1.setCell ⟨w.heap.size + 1 + 1, 0, none⟩ (Value.slice A0 b0.length c0)).setCell ⟨w.heap.size + 1 + 1 + 1, 0, none⟩ (Value.iface t0 u0)) _ _ _ := ((hR1.far (fun h => by (try dsimp only at h); omega) _).far (fun h => by (try dsimp only at h); omega) _)
 have hL2 : Blk ((w1.setCell ⟨w.heap.size + 1 + 1, 0, none⟩ (Value.slice A0 b0.length c0)).setCell ⟨w.heap.size + 1 + 1 + 1, 0, none⟩ (Value.iface t0 u0)) _ _ _ := ((hL1.set_ 0 _).far (fun h => by (try dsimp only at h); omega) _)
 have hE2 : Blk ((w1.setCell ⟨w.heap.size + 1 + 1, 0, none⟩ (Value.slice A0 b0.length c0)).setCell ⟨w.heap.size + 1 + 1 + 1, 0, none⟩ (Value.iface t0 u0)) _ _ _ := ((hE1.far (fun h => by (try dsimp only at h); omega) _).set_ 0 _)
 have hf02 : Fr (fun _ => False) w ((w1.setCell ⟨w.heap.size + 1 + 1, 0, none⟩ (Value.slice A0 b0.length c0)).setCell ⟨w.heap.size + 1 + 1 + 1, 0, none⟩ (Value.iface t0 u0)) := ((hf01.setCell (p := ⟨w.heap.size + 1 + 1, 0, none⟩) (fun h => absurd h (by dsimp only; omega)) _).setCell (p := ⟨w.heap.size + 1 + 1 + 1, 0, none⟩) (fun h => absurd h (by dsimp only; omega)) _)
 have hv02 : Own8 ((w1.setCell ⟨w.heap.size + 1 + 1, 0, none⟩ (Value.slice A0 b0.length c0)).setCell ⟨w.heap.size + 1 + 1 + 1, 0, none⟩ (Value.iface t0 u0)) _ _ _ := hv01.fr (((Fr.refl (fun k => k = (w.heap.size + 1 + 1 + 1) ∨ k = (w.heap.size + 1 + 1)) w1).setCell (p := ⟨w.heap.size + 1 + 1, 0, none⟩) (fun _ => Or.inr rfl) _).setCell (p := ⟨w.heap.size + 1 + 1 + 1, 0, none⟩) (fun _ => Or.inl rfl) _) (fun k hk h => h.elim (fun h => hv01.ne_blk hE1 (by decide) (by rw [← h]; exact hk)) (fun h => hv01.ne_blk hL1 (by decide) (by rw [← h]; exact hk)))
 generalize ((w1.setCell ⟨w.heap.size + 1 + 1, 0, none⟩ (Value.slice A0 b0.length c0)).setCell ⟨w.heap.size + 1 + 1 + 1, 0, none⟩ (Value.iface t0 u0)) = w2 at *
 have k5 := hO2.cell 5
 have k6 := hO2.cell 6
 have k7 := hO2.cell 7
 have k8 := hO2.cell 8
 have k9 := hO2.cell 9
 have k10 := hO2.cell 10
 have k11 := hO2.cell 11
 have k12 := hO2.cell 12
 have k13 := hO2.cell 13
 have hf02d : Fr (fun _ => False) w w2.drew := hf02.drew
 refine wp_region_noPanic ?_
 refine wp_region_held_drew (S := (fun w' => w'.cell? ⟨w.heap.size, 5, none⟩ = some (.int .i64 s.kind) ∧ w'.cell? ⟨w.heap.size, 6, none⟩ = some (.int .i64 s.txn) ∧ w'.cell? ⟨w.heap.size, 7, none⟩ = some (.bool s.yes) ∧ w'.cell? ⟨w.heap.size, 8, none⟩ = some (.string s.from_) ∧ w'.cell? ⟨w.heap.size, 9, none⟩ = some (.string s.to_) ∧ w'.cell? ⟨w.heap.size, 10, none⟩ = some (.int .i64 s.epoch) ∧ w'.cell? ⟨w.heap.size, 11, none⟩ = some (.int .i64 s.shard) ∧ w'.cell? ⟨w.heap.size, 12, none⟩ = some (.int .i64 s.target) ∧ w'.cell? ⟨w.heap.size, 13, none⟩ = some (.int .i64 s.root))) (by kernel_rfl) (⟨k5, k6, k7, k8, k9, k10, k11, k12, k13⟩) (fun hHeld => ?_)
 refine tk 0 26 ?_
 refine tk 1 27 ?_
 refine tk 2 28 ?_
 refine tk 3 29 ?_
 refine tk 4 30 ?_
 refine tk 5 31 ?_
 refine rd 6 (fun K hK => ?_)
 go_simp
 go_at_call 150
 refine (H1.out _ hf02d).mono ?_
 rintro e w3 ⟨v1, rfl, hv13, hf3⟩
 obtain ⟨A1, c1, rfl, _, _⟩ := hv13.form
 have hf3 : Fr (fun _ => False) w2 w3 := ((Fr.refl (fun _ => False) w2).drew).trans hf3 (fun _ _ h => h)
 have hO3 := hO2.fr hf3 id
 have hR3 := hR2.fr hf3 id
 have hL3 := hL2.fr hf3 id
 have hE3 := hE2.fr hf3 id
 have hv03 := hv02.fr hf3 (fun _ _ => id)
 have hf03 := hf02.then_ hf3
 have lc1 := hL3.cell 1
 have ec1 := hE3.cell 1
 have lf := hL3.frozen 1
 have ef := hE3.frozen 1
 try go_wp2_with fail
 refine hK.out _ _ (⟨hO3.cell 5, hO3.cell 6, hO3.cell 7, hO3.cell 8, hO3.cell 9, hO3.cell 10, hO3.cell 11, hO3.cell 12, hO3.cell 13⟩) (fun hHeld => ?_)
 clear hK K
 refine tk 7 25 ?_
 refine tk 8 33 ?_
 refine tk 9 34 ?_
 refine tk 10 35 ?_
 refine rd 11 (fun K hK => ?_)
 go_simp
 refine hK.out _ _ (⟨(hO3.far (fun h => by (try dsimp only at h); omega) _).cell 5, (hO3.far (fun h => by (try dsimp only at h); omega) _).cell 6, (hO3.far (fun h => by (try dsimp only at h); omega) _).cell 7, (hO3.far (fun h => by (try dsimp only at h); omega) _).cell 8, (hO3.far (fun h => by (try dsimp only at h); omega) _).cell 9, (hO3.far (fun h => by (try dsimp only at h); omega) _).cell 10, (hO3.far (fun h => by (try dsimp only at h); omega) _).cell 11, (hO3.far (fun h => by (try dsimp only at h); omega) _).cell 12, (hO3.far (fun h => by (try dsimp only at h); omega) _).cell 13⟩) (fun hHeld => ?_)
 clear hK K
 refine tk 12 36 ?_
 refine rd 13 (fun K hK => ?_)
 go_simp
 refine hK.out _ _ (⟨((hO3.far (fun h => by (try dsimp only at h); omega) _).far (fun h => by (try dsimp only at h); omega) _).cell 5, ((hO3.far (fun h => by (try dsimp only at h); omega) _).far (fun h => by (try dsimp only at h); omega) _).cell 6, ((hO3.far (fun h => by (try dsimp only at h); omega) _).far (fun h => by (try dsimp only at h); omega) _).cell 7, ((hO3.far (fun h => by (try dsimp only at h); omega) _).far (fun h => by (try dsimp only at h); omega) _).cell 8, ((hO3.far (fun h => by (try dsimp only at h); omega) _).far (fun h => by (try dsimp only at h); omega) _).cell 9, ((hO3.far (fun h => by (try dsimp only at h); omega) _).far (fun h => by (try dsimp only at h); omega) _).cell 10, ((hO3.far (fun h => by (try dsimp only at h); omega) _).far (fun h => by (try dsimp only at h); omega) _).cell 11, ((hO3.far (fun h => by (try dsimp only at h); omega) _).far (fun h => by (try dsimp only at h); omega) _).cell 12, ((hO3.far (fun h => by (try dsimp only at h); omega) _).far (fun h => by (try dsimp only at h); omega) _).cell 13⟩) (fun hHeld => ?_)
 clear hK K
 refine wpAnyH_done (by kernel_rfl) ?_ _
 refine NoPanic.normal ?_
 have hO4 : Blk ((w3.setCell ⟨w.heap.size + 1 + 1, 1, none⟩ (Value.slice A1 b1.length c1)).setCell ⟨w.heap.size + 1 + 1 + 1, 1, none⟩ .nilIface) _ _ _ := ((hO3.far (fun h => by (try dsimp only at h); omega) _).far (fun h => by (try dsimp only at h); omega) _)
 have hR4 : Blk ((w3.setCell ⟨w.heap.size + 1 + 1, 1, none⟩ (Value.slice A1 b1.length c1)).setCell ⟨w.heap.size + 1 + 1 + 1, 1, none⟩ .nilIface) _ _ _ := ((hR3.far (fun h => by (try dsimp only at h); omega) _).far (fun h => by (try dsimp only at h); omega) _)
 have hL4 : Blk ((w3.setCell ⟨w.heap.size + 1 + 1, 1, none⟩ (Value.slice A1 b1.length c1)).setCell ⟨w.heap.size + 1 + 1 + 1, 1, none⟩ .nilIface) _ _ _ := ((hL3.set_ 1 _).far (fun h => by (try dsimp only at h); omega) _)
 have hE4 : Blk ((w3.setCell ⟨w.heap.size + 1 + 1, 1, none⟩ (Value.slice A1 b1.length c1)).setCell ⟨w.heap.size + 1 + 1 + 1, 1, none⟩ .nilIface) _ _ _ := ((hE3.far (fun h => by (try dsimp only at h); omega) _).set_ 1 _)
 have hf04 : Fr (fun _ => False) w ((w3.setCell ⟨w.heap.size + 1 + 1, 1, none⟩ (Value.slice A1 b1.length c1)).setCell ⟨w.heap.size + 1 + 1 + 1, 1, none⟩ .nilIface) := ((hf03.setCell (p := ⟨w.heap.size + 1 + 1, 1, none⟩) (fun h => absurd h (by dsimp only; omega)) _).setCell (p := ⟨w.heap.size + 1 + 1 + 1, 1, none⟩) (fun h => absurd h (by dsimp only; omega)) _)
 have hv04 : Own8 ((w3.setCell ⟨w.heap.size + 1 + 1, 1, none⟩ (Value.slice A1 b1.length c1)).setCell ⟨w.heap.size + 1 + 1 + 1, 1, none⟩ .nilIface) _ _ _ := hv03.fr (((Fr.refl (fun k => k = (w.heap.size + 1 + 1 + 1) ∨ k = (w.heap.size + 1 + 1)) w3).setCell (p := ⟨w.heap.size + 1 + 1, 1, none⟩) (fun _ => Or.inr rfl) _).setCell (p := ⟨w.heap.size + 1 + 1 + 1, 1, none⟩) (fun _ => Or.inl rfl) _) (fun k hk h => h.elim (fun h => hv03.ne_blk hE3 (by decide) (by rw [← h]; exact hk)) (fun h => hv03.ne_blk hL3 (by decide) (by rw [← h]; exact hk)))
 have hv14 : Own8 ((w3.setCell ⟨w.heap.size + 1 + 1, 1, none⟩ (Value.slice A1 b1.length c1)).setCell ⟨w.heap.size + 1 + 1 + 1, 1, none⟩ .nilIface) _ _ _ := hv13.fr (((Fr.refl (fun k => k = (w.heap.size + 1 + 1 + 1) ∨ k = (w.heap.size + 1 + 1)) w3).setCell (p := ⟨w.heap.size + 1 + 1, 1, none⟩) (fun _ => Or.inr rfl) _).setCell (p := ⟨w.heap.size + 1 + 1 + 1, 1, none⟩) (fun _ => Or.inl rfl) _) (fun k hk h => h.elim (fun h => hv13.ne_blk hE3 (by decide) (by rw [← h]; exact hk)) (fun h => hv13.ne_blk hL3 (by decide) (by rw [← h]; exact hk)))
 generalize ((w3.setCell ⟨w.heap.size + 1 + 1, 1, none⟩ (Value.slice A1 b1.length c1)).setCell ⟨w.heap.size + 1 + 1 + 1, 1, none⟩ .nilIface) = w4 at *
 have k14 := hO4.cell 14
 have k15 := hO4.cell 15
 have k16 := hO4.cell 16
 have HP : Hid (Calls Tryz.prog 151 #[.agg #[.int .i64 G, .int .i64 D, .slice C xs.length cx]] w4 (PutP w4 bs .nilIface)) := (cert_Put (cap := cx) (HC.out.fr hf04 (fun _ _ => id)) (Nat.le_trans HBC.out hf04.size) (by have := HXL.out; omega) G D).mono fun _ _ h => HBS.out ▸ putP_of HXL.out h
 go_upto_region 7 with (first | (go_at_call 151; refine HP.out.mono ?_; rintro e w5 ⟨v2, rfl, hv25, hf5⟩; obtain ⟨A2, c2, rfl, _, _⟩ := hv25.form; have hO5 := hO4.fr hf5 id; have hR5 := hR4.fr hf5 id; have hL5 := hL4.fr hf5 id; have hE5 := hE4.fr hf5 id; have hv05 := hv04.fr hf5 (fun _ _ => id); have hv15 := hv14.fr hf5 (fun _ _ => id); have hf05 := hf04.then_ hf5; have lc := hL5.cell 2; have lf := hL5.frozen 2; have ec := hE5.cell 2; have ef := hE5.frozen 2))
 have hO6 : Blk ((w5.setCell ⟨w.heap.size + 1 + 1, 2, none⟩ (Value.slice A2 bs.length c2)).setCell ⟨w.heap.size + 1 + 1 + 1, 2, none⟩ Value.nilIface) _ _ _ := ((hO5.far (fun h => by (try dsimp only at h); omega) _).far (fun h => by (try dsimp only at h); omega) _)
 have hR6 : Blk ((w5.setCell ⟨w.heap.size + 1 + 1, 2, none⟩ (Value.slice A2 bs.length c2)).setCell ⟨w.heap.size + 1 + 1 + 1, 2, none⟩ Value.nilIface) _ _ _ := ((hR5.far (fun h => by (try dsimp only at h); omega) _).far (fun h => by (try dsimp only at h); omega) _)
 have hL6 : Blk ((w5.setCell ⟨w.heap.size + 1 + 1, 2, none⟩ (Value.slice A2 bs.length c2)).setCell ⟨w.heap.size + 1 + 1 + 1, 2, none⟩ Value.nilIface) _ _ _ := ((hL5.set_ 2 _).far (fun h => by (try dsimp only at h); omega) _)
 have hE6 : Blk ((w5.setCell ⟨w.heap.size + 1 + 1, 2, none⟩ (Value.slice A2 bs.length c2)).setCell ⟨w.heap.size + 1 + 1 + 1, 2, none⟩ Value.nilIface) _ _ _ := ((hE5.far (fun h => by (try dsimp only at h); omega) _).set_ 2 _)
 have hf06 : Fr (fun _ => False) w ((w5.setCell ⟨w.heap.size + 1 + 1, 2, none⟩ (Value.slice A2 bs.length c2)).setCell ⟨w.heap.size + 1 + 1 + 1, 2, none⟩ Value.nilIface) := ((hf05.setCell (p := ⟨w.heap.size + 1 + 1, 2, none⟩) (fun h => absurd h (by dsimp only; omega)) _).setCell (p := ⟨w.heap.size + 1 + 1 + 1, 2, none⟩) (fun h => absurd h (by dsimp only; omega)) _)
 have hv06 : Own8 ((w5.setCell ⟨w.heap.size + 1 + 1, 2, none⟩ (Value.slice A2 bs.length c2)).setCell ⟨w.heap.size + 1 + 1 + 1, 2, none⟩ Value.nilIface) _ _ _ := hv05.fr (((Fr.refl (fun k => k = (w.heap.size + 1 + 1 + 1) ∨ k = (w.heap.size + 1 + 1)) w5).setCell (p := ⟨w.heap.size + 1 + 1, 2, none⟩) (fun _ => Or.inr rfl) _).setCell (p := ⟨w.heap.size + 1 + 1 + 1, 2, none⟩) (fun _ => Or.inl rfl) _) (fun k hk h => h.elim (fun h => hv05.ne_blk hE5 (by decide) (by rw [← h]; exact hk)) (fun h => hv05.ne_blk hL5 (by decide) (by rw [← h]; exact hk)))
 have hv16 : Own8 ((w5.setCell ⟨w.heap.size + 1 + 1, 2, none⟩ (Value.slice A2 bs.length c2)).setCell ⟨w.heap.size + 1 + 1 + 1, 2, none⟩ Value.nilIface) _ _ _ := hv15.fr (((Fr.refl (fun k => k = (w.heap.size + 1 + 1 + 1) ∨ k = (w.heap.size + 1 + 1)) w5).setCell (p := ⟨w.heap.size + 1 + 1, 2, none⟩) (fun _ => Or.inr rfl) _).setCell (p := ⟨w.heap.size + 1 + 1 + 1, 2, none⟩) (fun _ => Or.inl rfl) _) (fun k hk h => h.elim (fun h => hv15.ne_blk hE5 (by decide) (by rw [← h]; exact hk)) (fun h => hv15.ne_blk hL5 (by decide) (by rw [← h]; exact hk)))
 have hv26 : Own8 ((w5.setCell ⟨w.heap.size + 1 + 1, 2, none⟩ (Value.slice A2 bs.length c2)).setCell ⟨w.heap.size + 1 + 1 + 1, 2, none⟩ Value.nilIface) _ _ _ := hv25.fr (((Fr.refl (fun k => k = (w.heap.size + 1 + 1 + 1) ∨ k = (w.heap.size + 1 + 1)) w5).setCell (p := ⟨w.heap.size + 1 + 1, 2, none⟩) (fun _ => Or.inr rfl) _).setCell (p := ⟨w.heap.size + 1 + 1 + 1, 2, none⟩) (fun _ => Or.inl rfl) _) (fun k hk h => h.elim (fun h => hv25.ne_blk hE5 (by decide) (by rw [← h]; exact hk)) (fun h => hv25.ne_blk hL5 (by decide) (by rw [← h]; exact hk)))
 generalize ((w5.setCell ⟨w.heap.size + 1 + 1, 2, none⟩ (Value.slice A2 bs.length c2)).setCell ⟨w.heap.size + 1 + 1 + 1, 2, none⟩ Value.nilIface) = w6 at *
 have ec := hE6.cell 2
 have lc := hL6.cell 2
 obtain ⟨_, _, hve, _, hrow⟩ := hv26.form
 cases hve
 have HGET := Lib.hid (cert_Get (cap := c2) hrow (by have := HBL.out; omega) H8.out)
 clear hrow
 go_upto_region 9 with (first | (go_at_call 152; refine HGET.out.mono ?_; rintro e w7 hg7; obtain ⟨x3, rfl, hf7⟩ := get_fine HG.out hg7; have hO7 := hO6.fr hf7 id; have hR7 := hR6.fr hf7 id; have hL7 := hL6.fr hf7 id; have hE7 := hE6.fr hf7 id; have hv07 := hv06.fr hf7 (fun _ _ => id); have hv17 := hv16.fr hf7 (fun _ _ => id); have hv27 := hv26.fr hf7 (fun _ _ => id); have hf07 := hf06.then_ hf7; have ec := hE7.cell 3; have ef := hE7.frozen 3))
 have hO8 : Blk (w7.setCell ⟨w.heap.size + 1 + 1 + 1, 3, none⟩ Value.nilIface) _ _ _ := (hO7.far (fun h => by (try dsimp only at h); omega) _)
 have hR8 : Blk (w7.setCell ⟨w.heap.size + 1 + 1 + 1, 3, none⟩ Value.nilIface) _ _ _ := (hR7.far (fun h => by (try dsimp only at h); omega) _)
 have hL8 : Blk (w7.setCell ⟨w.heap.size + 1 + 1 + 1, 3, none⟩ Value.nilIface) _ _ _ := (hL7.far (fun h => by (try dsimp only at h); omega) _)
 have hE8 : Blk (w7.setCell ⟨w.heap.size + 1 + 1 + 1, 3, none⟩ Value.nilIface) _ _ _ := (hE7.set_ 3 _)
 have hf08 : Fr (fun _ => False) w (w7.setCell ⟨w.heap.size + 1 + 1 + 1, 3, none⟩ Value.nilIface) := (hf07.setCell (p := ⟨w.heap.size + 1 + 1 + 1, 3, none⟩) (fun h => absurd h (by dsimp only; omega)) _)
 have hv08 : Own8 (w7.setCell ⟨w.heap.size + 1 + 1 + 1, 3, none⟩ Value.nilIface) _ _ _ := hv07.fr ((Fr.refl (fun k => k = (w.heap.size + 1 + 1 + 1)) w7).setCell (p := ⟨w.heap.size + 1 + 1 + 1, 3, none⟩) (fun _ => rfl) _) (fun k hk h => hv07.ne_blk hE7 (by decide) (by rw [← h]; exact hk))
 have hv18 : Own8 (w7.setCell ⟨w.heap.size + 1 + 1 + 1, 3, none⟩ Value.nilIface) _ _ _ := hv17.fr ((Fr.refl (fun k => k = (w.heap.size + 1 + 1 + 1)) w7).setCell (p := ⟨w.heap.size + 1 + 1 + 1, 3, none⟩) (fun _ => rfl) _) (fun k hk h => hv17.ne_blk hE7 (by decide) (by rw [← h]; exact hk))
 have hv28 : Own8 (w7.setCell ⟨w.heap.size + 1 + 1 + 1, 3, none⟩ Value.nilIface) _ _ _ := hv27.fr ((Fr.refl (fun k => k = (w.heap.size + 1 + 1 + 1)) w7).setCell (p := ⟨w.heap.size + 1 + 1 + 1, 3, none⟩) (fun _ => rfl) _) (fun k hk h => hv27.ne_blk hE7 (by decide) (by rw [← h]; exact hk))
 generalize (w7.setCell ⟨w.heap.size + 1 + 1 + 1, 3, none⟩ Value.nilIface) = w8 at *
 have HER : Hid (ErrRow w8 (w.heap.size + 1 + 1 + 1) [(Value.iface t0 u0), .nilIface, .nilIface, .nilIface]) := err_row hE8 (.inr ⟨_, _, rfl⟩) (.inl rfl) (.inl rfl) (.inl rfl)
 go_upto_region 10 with (first | (go_at_call 153; refine (containsErr (cap := 4) (z := true) rfl HER.out (by simp)).mono ?_; rintro e w9 ⟨rfl, rfl⟩))
 have hf08d : Fr (fun _ => False) w w8.drew := hf08.drew
 have hO8d := hO8.drew
 have hL8d := hL8.drew
 have hR8d := hR8.drew
 have rc0 := hR8d.cell 0
 have rc1 := hR8d.cell 1
 have rc2 := hR8d.cell 2
 have rf0 := hR8d.frozen 0
 have rf1 := hR8d.frozen 1
 have rf2 := hR8d.frozen 2
 refine wp_region_noPanic ?_
 refine wp_region_held_drew (S := (fun w' => w'.cell? ⟨w.heap.size, 0, none⟩ = some (.int .i64 6) ∧ w'.cell? ⟨w.heap.size, 1, none⟩ = some (.int .i64 c) ∧ w'.cell? ⟨w.heap.size, 2, none⟩ = some (.int .i64 n) ∧ w'.cell? ⟨w.heap.size, 3, none⟩ = some (.slice A nr cr) ∧ w'.cell? ⟨w.heap.size, 4, none⟩ = some (.slice B nw cw) ∧ w'.cell? ⟨w.heap.size, 17, none⟩ = some (.int .i64 0) ∧ w'.cell? ⟨w.heap.size, 18, none⟩ = some (.int .i64 0) ∧ w'.cell? ⟨w.heap.size, 19, none⟩ = some (.slice none 0 0) ∧ w'.cell? ⟨w.heap.size, 20, none⟩ = some (.slice none 0 0) ∧ w'.cell? ⟨w.heap.size + 1 + 1, 0, none⟩ = some ((Value.slice A0 b0.length c0)) ∧ w'.cell? ⟨w.heap.size + 1 + 1, 1, none⟩ = some ((Value.slice A1 b1.length c1)) ∧ w'.cell? ⟨w.heap.size + 1 + 1, 2, none⟩ = some ((Value.slice A2 bs.length c2)))) (by kernel_rfl) (⟨hO8.cell 0, hO8.cell 1, hO8.cell 2, hO8.cell 3, hO8.cell 4, hO8.cell 17, hO8.cell 18, hO8.cell 19, hO8.cell 20, hL8.cell 0, hL8.cell 1, hL8.cell 2⟩) (fun hHeld => ?_)
 have hE8d := hE8.drew
 generalize w8.drew = w9 at *
 refine tk 0 57 ?_
 refine tk 1 58 ?_
 refine tk 2 59 ?_
 refine tk 3 60 ?_
 refine tkU 4 61 ?_
 refine tkU 5 62 ?_
 refine tkU 6 63 ?_
 refine tk 7 64 ?_
 refine tk 8 65 ?_
 refine tkU 9 66 ?_
 refine tkU 10 67 ?_
 refine tkU 11 68 ?_
 refine tk 12 69 ?_
 refine tk 13 70 ?_
 refine tkU 14 71 ?_
 refine tkU 15 72 ?_
 refine tkU 16 73 ?_
 refine tkU 17 74 ?_
 refine tkU 18 75 ?_
 refine tk 19 76 ?_
 refine tk 20 77 ?_
 refine tkU 21 78 ?_
 refine tkU 22 79 ?_
 refine tkU 23 80 ?_
 refine tk 24 81 ?_
 refine rd 25 (fun K hK => ?_)
 go_simp
 refine hK.out _ _ (⟨(((hO8d.far (fun h => by (try dsimp only at h); omega) _).far (fun h => by (try dsimp only at h); omega) _).far (fun h => by (try dsimp only at h); omega) _).cell 0, (((hO8d.far (fun h => by (try dsimp only at h); omega) _).far (fun h => by (try dsimp only at h); omega) _).far (fun h => by (try dsimp only at h); omega) _).cell 1, (((hO8d.far (fun h => by (try dsimp only at h); omega) _).far (fun h => by (try dsimp only at h); omega) _).far (fun h => by (try dsimp only at h); omega) _).cell 2, (((hO8d.far (fun h => by (try dsimp only at h); omega) _).far (fun h => by (try dsimp only at h); omega) _).far (fun h => by (try dsimp only at h); omega) _).cell 3, (((hO8d.far (fun h => by (try dsimp only at h); omega) _).far (fun h => by (try dsimp only at h); omega) _).far (fun h => by (try dsimp only at h); omega) _).cell 4, (((hO8d.far (fun h => by (try dsimp only at h); omega) _).far (fun h => by (try dsimp only at h); omega) _).far (fun h => by (try dsimp only at h); omega) _).cell 17, (((hO8d.far (fun h => by (try dsimp only at h); omega) _).far (fun h => by (try dsimp only at h); omega) _).far (fun h => by (try dsimp only at h); omega) _).cell 18, (((hO8d.far (fun h => by (try dsimp only at h); omega) _).far (fun h => by (try dsimp only at h); omega) _).far (fun h => by (try dsimp only at h); omega) _).cell 19, (((hO8d.far (fun h => by (try dsimp only at h); omega) _).far (fun h => by (try dsimp only at h); omega) _).far (fun h => by (try dsimp only at h); omega) _).cell 20, (((hL8d.far (fun h => by (try dsimp only at h); omega) _).far (fun h => by (try dsimp only at h); omega) _).far (fun h => by (try dsimp only at h); omega) _).cell 0, (((hL8d.far (fun h => by (try dsimp only at h); omega) _).far (fun h => by (try dsimp only at h); omega) _).far (fun h => by (try dsimp only at h); omega) _).cell 1, (((hL8d.far (fun h => by (try dsimp only at h); omega) _).far (fun h => by (try dsimp only at h); omega) _).far (fun h => by (try dsimp only at h); omega) _).cell 2⟩) (fun hHeld => ?_)
 clear hK K
 refine tk 26 3 ?_
 refine wpAnyH_done (by kernel_rfl) ?_ _
 refine NoPanic.normal ?_
 have hO12 : Blk (((w9.setCell ⟨w.heap.size + 1, 0, none⟩ (Value.slice A0 b0.length c0)).setCell ⟨w.heap.size + 1, 1, none⟩ (Value.slice A1 b1.length c1)).setCell ⟨w.heap.size + 1, 2, none⟩ (Value.slice A2 bs.length c2)) _ _ _ := (((hO8d.far (fun h => by (try dsimp only at h); omega) _).far (fun h => by (try dsimp only at h); omega) _).far (fun h => by (try dsimp only at h); omega) _)
 have hR12 : Blk (((w9.setCell ⟨w.heap.size + 1, 0, none⟩ (Value.slice A0 b0.length c0)).setCell ⟨w.heap.size + 1, 1, none⟩ (Value.slice A1 b1.length c1)).setCell ⟨w.heap.size + 1, 2, none⟩ (Value.slice A2 bs.length c2)) _ _ _ := (((hR8d.set_ 0 _).set_ 1 _).set_ 2 _)
 have hL12 : Blk (((w9.setCell ⟨w.heap.size + 1, 0, none⟩ (Value.slice A0 b0.length c0)).setCell ⟨w.heap.size + 1, 1, none⟩ (Value.slice A1 b1.length c1)).setCell ⟨w.heap.size + 1, 2, none⟩ (Value.slice A2 bs.length c2)) _ _ _ := (((hL8d.far (fun h => by (try dsimp only at h); omega) _).far (fun h => by (try dsimp only at h); omega) _).far (fun h => by (try dsimp only at h); omega) _)
 have hE12 : Blk (((w9.setCell ⟨w.heap.size + 1, 0, none⟩ (Value.slice A0 b0.length c0)).setCell ⟨w.heap.size + 1, 1, none⟩ (Value.slice A1 b1.length c1)).setCell ⟨w.heap.size + 1, 2, none⟩ (Value.slice A2 bs.length c2)) _ _ _ := (((hE8d.far (fun h => by (try dsimp only at h); omega) _).far (fun h => by (try dsimp only at h); omega) _).far (fun h => by (try dsimp only at h); omega) _)
 have hf012 : Fr (fun _ => False) w (((w9.setCell ⟨w.heap.size + 1, 0, none⟩ (Value.slice A0 b0.length c0)).setCell ⟨w.heap.size + 1, 1, none⟩ (Value.slice A1 b1.length c1)).setCell ⟨w.heap.size + 1, 2, none⟩ (Value.slice A2 bs.length c2)) := (((hf08d.setCell (p := ⟨w.heap.size + 1, 0, none⟩) (fun h => absurd h (by dsimp only; omega)) _).setCell (p := ⟨w.heap.size + 1, 1, none⟩) (fun h => absurd h (by dsimp only; omega)) _).setCell (p := ⟨w.heap.size + 1, 2, none⟩) (fun h => absurd h (by dsimp only; omega)) _)
 generalize (((w9.setCell ⟨w.heap.size + 1, 0, none⟩ (Value.slice A0 b0.length c0)).setCell ⟨w.heap.size + 1, 1, none⟩ (Value.slice A1 b1.length c1)).setCell ⟨w.heap.size + 1, 2, none⟩ (Value.slice A2 bs.length c2)) = w12 at *
 have y0 := hR12.cell 0
 have y1 := hR12.cell 1
 have y2 := hR12.cell 2
 simp at y0 y1 y2
 try go_wp2_with fail
 refine bodyPost_ret (v := .tuple #[.agg #[(Value.slice A0 b0.length c0), (Value.slice A1 b1.length c1), (Value.slice A2 bs.length c2)], .bool false]) (by simp [results, Tryz.results123, go_sem, y0, y1, y2]) rfl ?_
 exact ⟨A0, _, c0, A1, _, c1, A2, _, c2, rfl, hf012⟩
end Go.Proofs.YtmkdhhhoodeemaaGreat
namespace Go.Proofs.YtmkdhhhoodeemaaGreat
open Go Go.RowKit
theorem intC_zero {bs : List Int} {p : Nat} {most : Int} : intC bs p most = 0 ↔ numC bs p = 0 ∧ 0 ≤ numX bs p ∧ numX bs p ≤ most := by
 unfold intC
 split
 ·rename_i h
  constructor
  ·intro h1; exact absurd h1 h
  ·intro h1; exact absurd h1.1 h
 ·rename_i h
  have h : numC bs p = 0 := by simpa using h
  split
  ·constructor
   ·intro h1; cases h1
   ·intro h1; omega
  ·split
   ·constructor
    ·intro h1; cases h1
    ·intro h1; omega
   ·exact ⟨fun _ => ⟨h, by omega, by omega⟩, fun _ => rfl⟩
theorem getE1_zero {x : Int} : getE1 x = 0 ↔ 0 ≤ x ∧ x ≤ 2147483647 := by
 unfold getE1
 split
 ·constructor
  ·intro h; cases h
  ·intro h; omega
 ·split
  ·constructor
   ·intro h; cases h
   ·intro h; omega
  ·exact ⟨fun _ => by omega, fun _ => rfl⟩
def May (G D : Int) (xs : List Int) : Prop := (0 ≤ G ∧ G < 2147483648 ∧ 0 ≤ D ∧ D < 2147483648) ∧ ∀ y ∈ xs, 0 ≤ y ∧ y < 2147483648
def Wf64 (n : Int) : Prop := -9223372036854775808 ≤ n ∧ n ≤ 9223372036854775807
theorem put_get {G D : Int} {xs : List Int} (hl : xs.length ≤ 1024) (hG : Wf64 G) (hD : Wf64 D) (hx : ∀ y ∈ xs, Wf64 y) :
  (getOk (num8 G ++ num8 D ++ numsB xs) ↔ May G D xs) ∧ numX (num8 G ++ num8 D ++ numsB xs) 0 = G ∧ numX (num8 G ++ num8 D ++ numsB xs) 8 = D ∧ numsX (num8 G ++ num8 D ++ numsB xs) 16 = xs := by
 generalize hb : num8 G ++ num8 D ++ numsB xs = b
 have h0 : b.drop 0 = num8 G ++ (num8 D ++ numsB xs) := by rw [List.drop_zero, ← hb, List.append_assoc]
 obtain ⟨a1, a2, a3⟩ := num_read h0 hG.1 hG.2
 obtain ⟨b1, b2, b3⟩ := num_read a3 hD.1 hD.2
 have b3' : b.drop 16 = numsB xs ++ [] := by rw [List.append_nil]; exact b3
 obtain ⟨c1, c2, c3⟩ := nums_read b3' hl hx
 have c4 : ¬ numsP b 16 < b.length := fun h => by
  have := congrArg List.length c3
  rw [List.length_drop, List.length_nil] at this
  omega
 have b1' : numC b 8 = 0 := b1
 have b2' : numX b 8 = D := b2
 refine ⟨?_, a2, b2', c2⟩
 unfold getOk May
 rw [intC_zero, intC_zero, a2, b2', c2]
 constructor
 ·rintro ⟨⟨_, g1, g2⟩, ⟨_, g3, g4⟩, _, _, g5⟩
  exact ⟨by omega, fun y hy => by have := getE1_zero.1 (g5 y hy); omega⟩
 ·rintro ⟨g1, g2⟩
  exact ⟨⟨a1, by omega⟩, ⟨b1', by omega⟩, c1, c4, fun y hy => getE1_zero.2 (by have := g2 y hy; omega)⟩
def certZ : List Int := num8 0 ++ num8 0 ++ numsB []
theorem getOk_zero : getOk (num8 0 ++ num8 0 ++ numsB []) := (put_get (xs := []) (by simp) ⟨by omega, by omega⟩ ⟨by omega, by omega⟩ (fun y h => by cases h)).1.2 ⟨by omega, fun y h => by cases h⟩
theorem certZ_len : certZ.length ≤ 65536 := by simp [certZ, num8_length, numsB, count4_length]
instance (s : SayD) : Decidable (ZSay s) := decidable_of_iff (zeroSay s = true) (zeroSay_iff s)
theorem orderB_len {kind : Int} {a b c : List Int} (ha : a.length ≤ 65536) (hb : b.length ≤ 65536) (hc : c.length ≤ 65536) : (orderB kind a b c).length ≤ 1000000 := by
 simp [orderB, num8_length, textB, count4_length, numsB]
 omega
def wordB (s : SayD) : List Int := if OkSay s then sayB s else []
theorem sayB_short (s : SayD) : (wordB s).length ≤ 65536 := by
 unfold wordB
 split
 ·rename_i h1
  obtain ⟨_, _, h3⟩ := sayB_length h1
  omega
 ·simp
def zeroS : SayD := ⟨0, 0, false, ⟨#[]⟩, ⟨#[]⟩, 0, 0, 0, 0⟩
theorem intRow_nil (w : World) (B : Nat) : IntRow w B none [] := fun k x h => by cases h
theorem PutNo.put {w : World} {r : Value} {e : Ending} {w' : World} (h : PutNo w r e w') : PutP w [] r e w' := by
 obtain ⟨x, h1, rfl, h3⟩ := h
 exact ⟨_, h1, Own8.nil _ _, h3⟩
theorem NonePair.put {w : World} {e : Ending} {w' : World} (h : NonePair w e w') : PutP w [] .nilIface e w' := ⟨_, h.1, Own8.nil _ _, h.2⟩
theorem order_begin {w : World} {F : Nat → Prop} {A B : Option Addr} {cr cw : Nat} {c n : Int} {R : List (ByteArray × Int)} {W : List (ByteArray × ByteArray)} (hr : ReadRow w F A R) (hw : WriteRow w F B W) (h : TOk c n R W) :
  Calls Tryz.prog 95 #[.agg #[.int .i64 6, .int .i64 c, .int .i64 n, .slice A R.length cr, .slice B W.length cw, .int .i64 zeroS.kind, .int .i64 zeroS.txn, .bool zeroS.yes, .string zeroS.from_, .string zeroS.to_, .int .i64 zeroS.epoch, .int .i64 zeroS.shard, .int .i64 zeroS.target, .int .i64 zeroS.root, .int .i64 0, .int .i64 0, .slice none 0 0, .int .i64 0, .int .i64 0, .slice none 0 0, .slice none 0 0]] w (PutP w (orderB 6 (txnB c n R W) [] certZ) .nilIface) := by
 refine say_PutOrder_ok (txnB_len h) (by simp) certZ_len (fun w' hf => ?_)
 have hr1 := hr.fr hf (fun _ _ => id)
 have hw1 := hw.fr hf (fun _ _ => id)
 refine say_texts_begin (xs := []) (intRow_nil w' 0) (Nat.zero_le _) (by simp) getOk_zero (bs := certZ) rfl (nm := true) (sz := false) (b0 := txnB c n R W) (b1 := []) (r0 := .nilIface) (r1 := .nilIface) ((zeroSay_iff _).2 rfl) ?_ ?_ rfl rfl rfl ?_
 ·intro w2 hf2
  exact say_optTxn_put (fun w3 hf3 => txn_Put_ok ((hr1.fr hf2 (fun _ _ => id)).fr hf3 (fun _ _ => id)) ((hw1.fr hf2 (fun _ _ => id)).fr hf3 (fun _ _ => id)) h)
 ·intro w2 hf2
  exact (say_optSay_none _ _ _ _ _ _ _ _ _ _ _).mono fun _ _ h => h.put
 ·intro w2 _
  exact say_none_not _ (by have := h.2.2.1; omega)
theorem order_begin_no {w : World} {F : Nat → Prop} {A B : Option Addr} {cr cw : Nat} {c n : Int} {R : List (ByteArray × Int)} {W : List (ByteArray × ByteArray)} (hr : ReadRow w F A R) (hw : WriteRow w F B W) (hs : FewT R W) (h : ¬ TOk c n R W) :
  Calls Tryz.prog 95 #[.agg #[.int .i64 6, .int .i64 c, .int .i64 n, .slice A R.length cr, .slice B W.length cw, .int .i64 zeroS.kind, .int .i64 zeroS.txn, .bool zeroS.yes, .string zeroS.from_, .string zeroS.to_, .int .i64 zeroS.epoch, .int .i64 zeroS.shard, .int .i64 zeroS.target, .int .i64 zeroS.root, .int .i64 0, .int .i64 0, .slice none 0 0, .int .i64 0, .int .i64 0, .slice none 0 0, .slice none 0 0]] w (fun e w' => ∃ t u, e = .returned (.tuple #[.slice none 0 0, .iface t u]) ∧ Fr (fun _ => False) w w') := by
 refine say_PutOrder_bad (fun w' hf => ?_)
 have hr1 := hr.fr hf (fun _ _ => id)
 have hw1 := hw.fr hf (fun _ _ => id)
 obtain ⟨t, u, hu⟩ := errV_iface [((⟨#[116, 120, 110]⟩ : ByteArray), 0)] 101
 refine say_texts_badT (xs := []) (intRow_nil w' 0) (Nat.zero_le _) (by simp) getOk_zero (bs := certZ) rfl (nm := true) (sz := false) (b0 := []) (b1 := []) (r0 := errV [((⟨#[116, 120, 110]⟩ : ByteArray), 0)] 101) (r1 := .nilIface) ((zeroSay_iff _).2 rfl) ?_ ?_ rfl rfl hu
 ·intro w2 hf2
  exact say_optTxn_put (fun w3 hf3 => (txn_Put_bad ((hr1.fr hf2 (fun _ _ => id)).fr hf3 (fun _ _ => id)) ((hw1.fr hf2 (fun _ _ => id)).fr hf3 (fun _ _ => id)) hs h).mono fun _ _ h => h.put)
 ·intro w2 hf2
  exact (say_optSay_none _ _ _ _ _ _ _ _ _ _ _).mono fun _ _ h => h.put
theorem group0 (w : World) : IntRow (w.alloc (Obj.cells #[.int .i64 0] 3)) (w.heap.size + 1) (some ⟨w.heap.size, 0, none⟩) [0] := by
 intro k x h
 match k, h with
 | 0, h => cases h; exact ⟨_, 0, rfl, by omega, (Blk.new w 3 #[.int .i64 0]).cell 0⟩
theorem relay_Begin {w : World} {F : Nat → Prop} {A B : Option Addr} {cr cw : Nat} {c n : Int} {R : List (ByteArray × Int)} {W : List (ByteArray × ByteArray)} (hr : ReadRow w F A R) (hw : WriteRow w F B W) (hs : FewT R W) :
  Calls Tryz.prog 23 #[.agg #[.int .i64 c, .int .i64 n, .slice A R.length cr, .slice B W.length cw]] w (TasksP w (if TOk c n R W then [0] else []) (if TOk c n R W then orderB 6 (txnB c n R W) [] certZ else [])) := by
 have hf2 : Fr (fun _ => False) w ((w.alloc (Obj.cells #[.int .i64 c, .int .i64 n, .slice A R.length cr, .slice B W.length cw] 29)).alloc (Obj.cells #[.int .i64 0] 3)) := ((Fr.refl _ _).alloc _).alloc _
 have hg : IntRow ((w.alloc (Obj.cells #[.int .i64 c, .int .i64 n, .slice A R.length cr, .slice B W.length cw] 29)).alloc (Obj.cells #[.int .i64 0] 3)) (w.heap.size + 1 + 1) (some ⟨w.heap.size + 1, 0, none⟩) [0] := by
  have := group0 (w.alloc (Obj.cells #[.int .i64 c, .int .i64 n, .slice A R.length cr, .slice B W.length cw] 29))
  simpa using this
 have hz : w.heap.size + 1 + 1 ≤ ((w.alloc (Obj.cells #[.int .i64 c, .int .i64 n, .slice A R.length cr, .slice B W.length cw] 29)).alloc (Obj.cells #[.int .i64 0] 3)).heap.size := by simp
 by_cases hok : TOk c n R W
 ·rw [if_pos hok, if_pos hok]
  have HT : Calls Tryz.prog 64 #[.agg #[.int .i64 6, .int .i64 c, .int .i64 n, .slice A R.length cr, .slice B W.length cw, .int .i64 0, .int .i64 0, .bool false, .string ⟨#[]⟩, .string ⟨#[]⟩, .int .i64 0, .int .i64 0, .int .i64 0, .int .i64 0, .int .i64 0, .int .i64 0, .slice none 0 0, .int .i64 0, .int .i64 0, .slice none 0 0, .slice none 0 0], .slice (some ⟨w.heap.size + 1, 0, none⟩) 1 1] ((w.alloc (Obj.cells #[.int .i64 c, .int .i64 n, .slice A R.length cr, .slice B W.length cw] 29)).alloc (Obj.cells #[.int .i64 0] 3)) (TasksP ((w.alloc (Obj.cells #[.int .i64 c, .int .i64 n, .slice A R.length cr, .slice B W.length cw] 29)).alloc (Obj.cells #[.int .i64 0] 3)) [0] (orderB 6 (txnB c n R W) [] certZ)) := relay_tasks_ok (s := zeroS) (cg := 1) hg hz (by simp) (bs := orderB 6 (txnB c n R W) [] certZ) (orderB_len (txnB_len hok) (by simp) certZ_len) (fun w' hf => order_begin (hr.fr (hf2.then_ hf) (fun _ _ => id)) (hw.fr (hf2.then_ hf) (fun _ _ => id)) hok)
  have HT := Lib.hid HT
  clear hg hz
  go_enter Tryz.func23, Tryz.ntmps23
  go_upto_region 1 with fail
  go_wp2_with (go_at_call 64; refine HT.out.mono ?_; rintro e w' ⟨v, rfl, hv, hf'⟩)
  go_ret
  exact ⟨v, rfl, hv.base_ hf2.size, hf2.then_ hf'⟩
 ·rw [if_neg hok, if_neg hok]
  have HT : ∀ V, Calls Tryz.prog 64 #[.agg #[.int .i64 6, .int .i64 c, .int .i64 n, .slice A R.length cr, .slice B W.length cw, .int .i64 0, .int .i64 0, .bool false, .string ⟨#[]⟩, .string ⟨#[]⟩, .int .i64 0, .int .i64 0, .int .i64 0, .int .i64 0, .int .i64 0, .int .i64 0, .slice none 0 0, .int .i64 0, .int .i64 0, .slice none 0 0, .slice none 0 0], V] ((w.alloc (Obj.cells #[.int .i64 c, .int .i64 n, .slice A R.length cr, .slice B W.length cw] 29)).alloc (Obj.cells #[.int .i64 0] 3)) (TasksP ((w.alloc (Obj.cells #[.int .i64 c, .int .i64 n, .slice A R.length cr, .slice B W.length cw] 29)).alloc (Obj.cells #[.int .i64 0] 3)) [] []) := fun V => relay_tasks_bad (s := zeroS) (fun w' hf => order_begin_no (hr.fr (hf2.then_ hf) (fun _ _ => id)) (hw.fr (hf2.then_ hf) (fun _ _ => id)) hs hok)
  have HT := Lib.hid HT
  clear hg hz
  go_enter Tryz.func23, Tryz.ntmps23
  go_upto_region 1 with fail
  go_wp2_with (go_at_call 64; refine (HT.out _).mono ?_; rintro e w' ⟨v, rfl, hv, hf'⟩)
  go_ret
  exact ⟨v, rfl, hv.base_ hf2.size, hf2.then_ hf'⟩
end Go.Proofs.YtmkdhhhoodeemaaGreat
