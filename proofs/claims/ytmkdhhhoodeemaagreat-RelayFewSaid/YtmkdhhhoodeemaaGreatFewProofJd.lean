/- RelayFewSaid: for every input the law returns true, and each argument reads behind the call as it read before. No condition. -/
import Derived.Test.YtmkdhhhoodeemaaGreatFewProofGa
import Derived.Test.YtmkdhhhoodeemaaGreatFewProofGb
import Derived.Test.YtmkdhhhoodeemaaGreatFewProofGc
import Derived.Test.YtmkdhhhoodeemaaGreatFewProofGd
import Derived.Test.YtmkdhhhoodeemaaGreatFewProofGe
import Derived.Test.YtmkdhhhoodeemaaGreatFewProofGf
import Derived.Test.YtmkdhhhoodeemaaGreatFewProofGg
import Derived.Test.YtmkdhhhoodeemaaGreatFewProofJa
import Derived.Test.YtmkdhhhoodeemaaGreatFewProofJb
import Derived.Test.YtmkdhhhoodeemaaGreatFewProofJc
set_option linter.unusedVariables false
set_option linter.unusedSimpArgs false
/- relay: ruled. -/
namespace Go.Proofs.YtmkdhhhoodeemaaGreat
open Go Go.RowKit
theorem ownsRow_built1 (w : World) (e : TypeId) (u : Value) : (w.alloc (.cells #[u] e)).ownsRow w.heap.size e 1 (.slice (some ⟨w.heap.size, 0, none⟩) 1 1) 1 [u] :=
  ⟨by simp, .inr ⟨w.heap.size, 1, #[u], rfl, Nat.le_refl _, heap_alloc_new w _, Nat.le_refl _, by simp only [maxLen]; omega, by simp, by simp⟩⟩
theorem own_introw {w : World} {base : Nat} {v : Value} {n : Nat} {l : List Int} (h : w.ownsRow base 3 1 v n (num64V l)) (hn : n = l.length) : ∃ A c, v = .slice A l.length c ∧ IntRow w w.heap.size A l := by
  subst hn
  obtain ⟨A, c, rfl, hr⟩ := own_ints h
  refine ⟨A, c, rfl, fun k x hx => ?_⟩
  obtain ⟨b, o, e, _, hc⟩ := hr k x hx
  exact ⟨b, o, e, World.block_lt_of_cell? w _ hc, hc⟩
set_option maxRecDepth 100000 in
set_option maxHeartbeats 800000 in
theorem ruled_none {w : World} {kind : Int} {txn : Int} {yes : Bool} {ff tt : ByteArray} {epoch shard target root : Int} (h : OkSay ⟨kind, txn, yes, ff, tt, epoch, shard, target, root⟩) {G D : Int} {C : Option Addr} {nx cx : Nat} (q1 : (kind == 1) = false) (q3 : (kind == 3) = false) (q4 : (kind == 4) = false) (q7 : (kind == 7) = false) {bk sh : Value} :
    Calls Tryz.prog 44 #[bk, .agg #[.int .i64 0, .int .i64 0, .int .i64 0, .slice none 0 0, .slice none 0 0, .int .i64 kind, .int .i64 txn, .bool yes, .string ff, .string tt, .int .i64 epoch, .int .i64 shard, .int .i64 target, .int .i64 root, .int .i64 G, .int .i64 D, .slice C nx cx, .int .i64 0, .int .i64 0, .slice none 0 0, .slice none 0 0], sh] w (TasksP w [] []) := by
  have hsh : (0 ≤ shard ∧ shard ≤ 3) ∧ (0 ≤ target ∧ target ≤ 3) ∧ (0 ≤ txn ∧ txn ≤ 2147483647) := by
    obtain ⟨a0, a1, a2, a3, a4, a5, a6, a7, a8, a9, a10, a11, a12, a13⟩ := h
    dsimp only at a2 a3 a10 a11 a12 a13
    omega
  have hwr : wrap64 (shard + 1) = shard + 1 := by unfold wrap64; omega
  have HW := Lib.hid hwr
  have hwt : wrap64 (target + 1) = target + 1 := by unfold wrap64; omega
  have HWT := Lib.hid hwt
  clear hwr hwt
  have HOK := Lib.hid h
  clear h
  have hB0 := Blk.new w 62 #[.int .i64 0, .int .i64 0, .int .i64 0, .slice none 0 0, .slice none 0 0, .int .i64 kind, .int .i64 txn, .bool yes, .string ff, .string tt, .int .i64 epoch, .int .i64 shard, .int .i64 target, .int .i64 root, .int .i64 G, .int .i64 D, .slice C nx cx, .int .i64 0, .int .i64 0, .slice none 0 0, .slice none 0 0]
  have hf0 : Fr (fun _ => False) w (w.alloc (Obj.cells #[.int .i64 0, .int .i64 0, .int .i64 0, .slice none 0 0, .slice none 0 0, .int .i64 kind, .int .i64 txn, .bool yes, .string ff, .string tt, .int .i64 epoch, .int .i64 shard, .int .i64 target, .int .i64 root, .int .i64 G, .int .i64 D, .slice C nx cx, .int .i64 0, .int .i64 0, .slice none 0 0, .slice none 0 0] 62)) := (Fr.refl _ _).alloc _
  go_enter Tryz.func44, Tryz.ntmps44
  go_upto_region 1 with fail
  generalize w.alloc (Obj.cells #[.int .i64 0, .int .i64 0, .int .i64 0, .slice none 0 0, .slice none 0 0, .int .i64 kind, .int .i64 txn, .bool yes, .string ff, .string tt, .int .i64 epoch, .int .i64 shard, .int .i64 target, .int .i64 root, .int .i64 G, .int .i64 D, .slice C nx cx, .int .i64 0, .int .i64 0, .slice none 0 0, .slice none 0 0] 62) = w0 at *
  have k5 := hB0.cell 5
  have k6 := hB0.cell 6
  have k7 := hB0.cell 7
  have k8 := hB0.cell 8
  have k9 := hB0.cell 9
  have k10 := hB0.cell 10
  have k11 := hB0.cell 11
  have k12 := hB0.cell 12
  have k13 := hB0.cell 13
  go_upto_region 2 with fail
  have hB1 := hB0.alloc (Obj.cells #[.int .i64 kind, .int .i64 txn, .bool yes, .string ff, .string tt, .int .i64 epoch, .int .i64 shard, .int .i64 target, .int .i64 root] 23)
  have hS1 := Blk.new w0 23 #[.int .i64 kind, .int .i64 txn, .bool yes, .string ff, .string tt, .int .i64 epoch, .int .i64 shard, .int .i64 target, .int .i64 root]
  have hf1 := hf0.alloc (Obj.cells #[.int .i64 kind, .int .i64 txn, .bool yes, .string ff, .string tt, .int .i64 epoch, .int .i64 shard, .int .i64 target, .int .i64 root] 23)
  generalize w0.alloc (Obj.cells #[.int .i64 kind, .int .i64 txn, .bool yes, .string ff, .string tt, .int .i64 epoch, .int .i64 shard, .int .i64 target, .int .i64 root] 23) = w1 at *
  have s6 := hS1.cell 6
  clear hf0 k5 k6 k7 k8 k9 k10 k11 k12 k13
  go_upto_region 3 with (go_at_call 79; refine (relay_group _ _).mono ?_; rintro e w' ⟨rfl, rfl⟩; rw [HW.out])
  have hB2 := hB1.alloc (Obj.cells #[.int .i64 (shard + 1)] 3)
  have hS2 := hS1.alloc (Obj.cells #[.int .i64 (shard + 1)] 3)
  have hg2 := group_at w1 (shard + 1)
  have ho2 := ownsRow_built1 w1 3 (.int .i64 (shard + 1))
  have hz2 : w1.heap.size < (w1.alloc (Obj.cells #[.int .i64 (shard + 1)] 3)).heap.size := by simp
  have hf2 := hf1.alloc (Obj.cells #[.int .i64 (shard + 1)] 3)
  generalize w1.alloc (Obj.cells #[.int .i64 (shard + 1)] 3) = w2 at *
  clear hB1 hS1 hf1 s6
  have s0 := hS2.cell 0
  have s1 := hS2.cell 1
  have s7 := hS2.cell 7
  have k0 := hB2.cell 0
  have f0 := hB2.frozen 0
  go_wp2_with fail
  go_ret
  exact ⟨.slice none 0 0, rfl, TasksAt.nil _ _ _, hf2⟩
set_option maxRecDepth 100000 in
set_option maxHeartbeats 800000 in
theorem ruled_freeze {w : World} {txn : Int} {yes : Bool} {ff tt : ByteArray} {epoch shard target root : Int} (h : OkSay ⟨4, txn, yes, ff, tt, epoch, shard, target, root⟩) {G D : Int} {bC : Nat} {C : Option Addr} {cx : Nat} {xs : List Int} (hC : IntRow w bC C xs) (hbC : bC ≤ w.heap.size) (hxl : xs.length ≤ 1024) (hg : getOk (num8 G ++ num8 D ++ numsB xs)) {bk sh : Value} :
    Calls Tryz.prog 44 #[bk, .agg #[.int .i64 0, .int .i64 0, .int .i64 0, .slice none 0 0, .slice none 0 0, .int .i64 4, .int .i64 txn, .bool yes, .string ff, .string tt, .int .i64 epoch, .int .i64 shard, .int .i64 target, .int .i64 root, .int .i64 G, .int .i64 D, .slice C xs.length cx, .int .i64 0, .int .i64 0, .slice none 0 0, .slice none 0 0], sh] w (TasksP w [shard + 1] (orderB 3 [] (sayB ⟨4, txn, yes, ff, tt, epoch, shard, target, root⟩) (certB G D xs))) := by
  have HC := Lib.hid hC
  have HG := Lib.hid hg
  have HXL := Lib.hid hxl
  clear hC hg hxl
  have hsh : (0 ≤ shard ∧ shard ≤ 3) ∧ (0 ≤ target ∧ target ≤ 3) ∧ (0 ≤ txn ∧ txn ≤ 2147483647) := by
    obtain ⟨a0, a1, a2, a3, a4, a5, a6, a7, a8, a9, a10, a11, a12, a13⟩ := h
    dsimp only at a2 a3 a10 a11 a12 a13
    omega
  have hwr : wrap64 (shard + 1) = shard + 1 := by unfold wrap64; omega
  have HW := Lib.hid hwr
  have hwt : wrap64 (target + 1) = target + 1 := by unfold wrap64; omega
  have HWT := Lib.hid hwt
  clear hwr hwt
  have HOK := Lib.hid h
  clear h
  have hB0 := Blk.new w 62 #[.int .i64 0, .int .i64 0, .int .i64 0, .slice none 0 0, .slice none 0 0, .int .i64 4, .int .i64 txn, .bool yes, .string ff, .string tt, .int .i64 epoch, .int .i64 shard, .int .i64 target, .int .i64 root, .int .i64 G, .int .i64 D, .slice C xs.length cx, .int .i64 0, .int .i64 0, .slice none 0 0, .slice none 0 0]
  have hf0 : Fr (fun _ => False) w (w.alloc (Obj.cells #[.int .i64 0, .int .i64 0, .int .i64 0, .slice none 0 0, .slice none 0 0, .int .i64 4, .int .i64 txn, .bool yes, .string ff, .string tt, .int .i64 epoch, .int .i64 shard, .int .i64 target, .int .i64 root, .int .i64 G, .int .i64 D, .slice C xs.length cx, .int .i64 0, .int .i64 0, .slice none 0 0, .slice none 0 0] 62)) := (Fr.refl _ _).alloc _
  go_enter Tryz.func44, Tryz.ntmps44
  go_upto_region 1 with fail
  generalize w.alloc (Obj.cells #[.int .i64 0, .int .i64 0, .int .i64 0, .slice none 0 0, .slice none 0 0, .int .i64 4, .int .i64 txn, .bool yes, .string ff, .string tt, .int .i64 epoch, .int .i64 shard, .int .i64 target, .int .i64 root, .int .i64 G, .int .i64 D, .slice C xs.length cx, .int .i64 0, .int .i64 0, .slice none 0 0, .slice none 0 0] 62) = w0 at *
  have k5 := hB0.cell 5
  have k6 := hB0.cell 6
  have k7 := hB0.cell 7
  have k8 := hB0.cell 8
  have k9 := hB0.cell 9
  have k10 := hB0.cell 10
  have k11 := hB0.cell 11
  have k12 := hB0.cell 12
  have k13 := hB0.cell 13
  go_upto_region 2 with fail
  have hB1 := hB0.alloc (Obj.cells #[.int .i64 4, .int .i64 txn, .bool yes, .string ff, .string tt, .int .i64 epoch, .int .i64 shard, .int .i64 target, .int .i64 root] 23)
  have hS1 := Blk.new w0 23 #[.int .i64 4, .int .i64 txn, .bool yes, .string ff, .string tt, .int .i64 epoch, .int .i64 shard, .int .i64 target, .int .i64 root]
  have hww : w0.heap.size < (w0.alloc (Obj.cells #[.int .i64 4, .int .i64 txn, .bool yes, .string ff, .string tt, .int .i64 epoch, .int .i64 shard, .int .i64 target, .int .i64 root] 23)).heap.size := by simp
  have hf1 := hf0.alloc (Obj.cells #[.int .i64 4, .int .i64 txn, .bool yes, .string ff, .string tt, .int .i64 epoch, .int .i64 shard, .int .i64 target, .int .i64 root] 23)
  generalize w0.alloc (Obj.cells #[.int .i64 4, .int .i64 txn, .bool yes, .string ff, .string tt, .int .i64 epoch, .int .i64 shard, .int .i64 target, .int .i64 root] 23) = w1 at *
  have s6 := hS1.cell 6
  clear hf0 k5 k6 k7 k8 k9 k10 k11 k12 k13
  go_upto_region 3 with (go_at_call 79; refine (relay_group _ _).mono ?_; rintro e w' ⟨rfl, rfl⟩; rw [HW.out])
  have hB2 := hB1.alloc (Obj.cells #[.int .i64 (shard + 1)] 3)
  have hS2 := hS1.alloc (Obj.cells #[.int .i64 (shard + 1)] 3)
  have hg2 := group_at w1 (shard + 1)
  have ho2 := ownsRow_built1 w1 3 (.int .i64 (shard + 1))
  have hz2 : w1.heap.size < (w1.alloc (Obj.cells #[.int .i64 (shard + 1)] 3)).heap.size := by simp
  have hf2 := hf1.alloc (Obj.cells #[.int .i64 (shard + 1)] 3)
  generalize w1.alloc (Obj.cells #[.int .i64 (shard + 1)] 3) = w2 at *
  clear hB1 hS1 hf1 s6
  have s0 := hS2.cell 0
  have s1 := hS2.cell 1
  have s7 := hS2.cell 7
  have k0 := hB2.cell 0
  have f0 := hB2.frozen 0
  go_upto_region 25 with fail
  have hB3 : Blk (w2.setCell ⟨w.heap.size, 0, none⟩ (.int .i64 3)) w.heap.size 62 #[.int .i64 3, .int .i64 0, .int .i64 0, .slice none 0 0, .slice none 0 0, .int .i64 4, .int .i64 txn, .bool yes, .string ff, .string tt, .int .i64 epoch, .int .i64 shard, .int .i64 target, .int .i64 root, .int .i64 G, .int .i64 D, .slice C xs.length cx, .int .i64 0, .int .i64 0, .slice none 0 0, .slice none 0 0] := hB2.set_ 0 _
  have hf23 : Fr (fun k => k = w.heap.size) w2 (w2.setCell ⟨w.heap.size, 0, none⟩ (.int .i64 3)) := (Fr.refl (fun k => k = w.heap.size) w2).setCell (p := ⟨w.heap.size, 0, none⟩) (fun _ => rfl) _
  have hf3 : Fr (fun _ => False) w (w2.setCell ⟨w.heap.size, 0, none⟩ (.int .i64 3)) := hf2.trans hf23 (fun k hk e => by omega)
  have hS3 := hS2.fr hf23 (hS2.ne_ hB2 (by decide))
  have hw01 : w1.heap.size ≠ w.heap.size := fun e => by have := hB0.lt; have := hww; omega
  have ho3 := own_fr ho2 hf23 (fun k hk e => by simp [Value.ownBlock] at hk; omega)
  generalize w2.setCell ⟨w.heap.size, 0, none⟩ (.int .i64 3) = w3 at *
  clear hB2 hS2 hf2 hg2 s0 s1 s7 k0 f0
  obtain ⟨A3, c3, ev, hr3⟩ := own_introw (l := [shard + 1]) ho3 rfl
  cases ev
  have HT : Calls Tryz.prog 64 #[.agg #[.int .i64 3, .int .i64 0, .int .i64 0, .slice none 0 0, .slice none 0 0, .int .i64 4, .int .i64 txn, .bool yes, .string ff, .string tt, .int .i64 epoch, .int .i64 shard, .int .i64 target, .int .i64 root, .int .i64 G, .int .i64 D, .slice C xs.length cx, .int .i64 0, .int .i64 0, .slice none 0 0, .slice none 0 0], .slice (some ⟨w1.heap.size, 0, none⟩) 1 1] w3 (TasksP w3 [shard + 1] (orderB 3 [] (sayB ⟨4, txn, yes, ff, tt, epoch, shard, target, root⟩) (certB G D xs))) := relay_tasks_ok (s := ⟨4, txn, yes, ff, tt, epoch, shard, target, root⟩) (cg := 1) (gs := [shard + 1]) hr3 (Nat.le_refl _) (by simp) (orderB_len (by simp) (by have := sayB_short ⟨4, txn, yes, ff, tt, epoch, shard, target, root⟩; rw [show wordB ⟨4, txn, yes, ff, tt, epoch, shard, target, root⟩ = _ from if_pos HOK.out] at this; exact this) (certB_len HXL.out)) (fun w' hf => order_cert (by omega) (by omega) ⟨by omega, by omega⟩ HOK.out (HC.out.fr (hf3.then_ hf) (fun _ _ => id)) (Nat.le_trans hbC (hf3.then_ hf).size) HXL.out HG.out)
  replace HT := Lib.hid HT
  go_wp2_with (first
    | (refine wpList_load_row rfl 62 _ rfl _ rfl _ _ (0, 0) _ hB3 Tryz.underlying62 rfl (by kernel_rfl) ?_)
    | (go_at_call 64; refine HT.out.mono ?_; rintro e w' ⟨tv, rfl, hv, hf'⟩))
  go_ret
  exact ⟨tv, rfl, hv.base_ hf3.size, hf3.then_ hf'⟩
set_option maxRecDepth 100000 in
set_option maxHeartbeats 800000 in
theorem ruled_own {w : World} {txn : Int} {yes : Bool} {ff tt : ByteArray} {epoch shard target root : Int} (h : OkSay ⟨7, txn, yes, ff, tt, epoch, shard, target, root⟩) {G D : Int} {bC : Nat} {C : Option Addr} {cx : Nat} {xs : List Int} (hC : IntRow w bC C xs) (hbC : bC ≤ w.heap.size) (hxl : xs.length ≤ 1024) (hg : getOk (num8 G ++ num8 D ++ numsB xs)) {bk sh : Value} :
    Calls Tryz.prog 44 #[bk, .agg #[.int .i64 0, .int .i64 0, .int .i64 0, .slice none 0 0, .slice none 0 0, .int .i64 7, .int .i64 txn, .bool yes, .string ff, .string tt, .int .i64 epoch, .int .i64 shard, .int .i64 target, .int .i64 root, .int .i64 G, .int .i64 D, .slice C xs.length cx, .int .i64 0, .int .i64 0, .slice none 0 0, .slice none 0 0], sh] w (TasksP w [shard + 1, target + 1] (orderB 5 [] (sayB ⟨7, txn, yes, ff, tt, epoch, shard, target, root⟩) (certB G D xs))) := by
  have HC := Lib.hid hC
  have HG := Lib.hid hg
  have HXL := Lib.hid hxl
  clear hC hg hxl
  have hsh : (0 ≤ shard ∧ shard ≤ 3) ∧ (0 ≤ target ∧ target ≤ 3) ∧ (0 ≤ txn ∧ txn ≤ 2147483647) := by
    obtain ⟨a0, a1, a2, a3, a4, a5, a6, a7, a8, a9, a10, a11, a12, a13⟩ := h
    dsimp only at a2 a3 a10 a11 a12 a13
    omega
  have hwr : wrap64 (shard + 1) = shard + 1 := by unfold wrap64; omega
  have HW := Lib.hid hwr
  have hwt : wrap64 (target + 1) = target + 1 := by unfold wrap64; omega
  have HWT := Lib.hid hwt
  clear hwr hwt
  have HOK := Lib.hid h
  clear h
  have hB0 := Blk.new w 62 #[.int .i64 0, .int .i64 0, .int .i64 0, .slice none 0 0, .slice none 0 0, .int .i64 7, .int .i64 txn, .bool yes, .string ff, .string tt, .int .i64 epoch, .int .i64 shard, .int .i64 target, .int .i64 root, .int .i64 G, .int .i64 D, .slice C xs.length cx, .int .i64 0, .int .i64 0, .slice none 0 0, .slice none 0 0]
  have hf0 : Fr (fun _ => False) w (w.alloc (Obj.cells #[.int .i64 0, .int .i64 0, .int .i64 0, .slice none 0 0, .slice none 0 0, .int .i64 7, .int .i64 txn, .bool yes, .string ff, .string tt, .int .i64 epoch, .int .i64 shard, .int .i64 target, .int .i64 root, .int .i64 G, .int .i64 D, .slice C xs.length cx, .int .i64 0, .int .i64 0, .slice none 0 0, .slice none 0 0] 62)) := (Fr.refl _ _).alloc _
  go_enter Tryz.func44, Tryz.ntmps44
  go_upto_region 1 with fail
  generalize w.alloc (Obj.cells #[.int .i64 0, .int .i64 0, .int .i64 0, .slice none 0 0, .slice none 0 0, .int .i64 7, .int .i64 txn, .bool yes, .string ff, .string tt, .int .i64 epoch, .int .i64 shard, .int .i64 target, .int .i64 root, .int .i64 G, .int .i64 D, .slice C xs.length cx, .int .i64 0, .int .i64 0, .slice none 0 0, .slice none 0 0] 62) = w0 at *
  have k5 := hB0.cell 5
  have k6 := hB0.cell 6
  have k7 := hB0.cell 7
  have k8 := hB0.cell 8
  have k9 := hB0.cell 9
  have k10 := hB0.cell 10
  have k11 := hB0.cell 11
  have k12 := hB0.cell 12
  have k13 := hB0.cell 13
  go_upto_region 2 with fail
  have hB1 := hB0.alloc (Obj.cells #[.int .i64 7, .int .i64 txn, .bool yes, .string ff, .string tt, .int .i64 epoch, .int .i64 shard, .int .i64 target, .int .i64 root] 23)
  have hS1 := Blk.new w0 23 #[.int .i64 7, .int .i64 txn, .bool yes, .string ff, .string tt, .int .i64 epoch, .int .i64 shard, .int .i64 target, .int .i64 root]
  have hww : w0.heap.size < (w0.alloc (Obj.cells #[.int .i64 7, .int .i64 txn, .bool yes, .string ff, .string tt, .int .i64 epoch, .int .i64 shard, .int .i64 target, .int .i64 root] 23)).heap.size := by simp
  have hf1 := hf0.alloc (Obj.cells #[.int .i64 7, .int .i64 txn, .bool yes, .string ff, .string tt, .int .i64 epoch, .int .i64 shard, .int .i64 target, .int .i64 root] 23)
  generalize w0.alloc (Obj.cells #[.int .i64 7, .int .i64 txn, .bool yes, .string ff, .string tt, .int .i64 epoch, .int .i64 shard, .int .i64 target, .int .i64 root] 23) = w1 at *
  have s6 := hS1.cell 6
  clear hf0 k5 k6 k7 k8 k9 k10 k11 k12 k13
  go_upto_region 3 with (go_at_call 79; refine (relay_group _ _).mono ?_; rintro e w' ⟨rfl, rfl⟩; rw [HW.out])
  have hB2 := hB1.alloc (Obj.cells #[.int .i64 (shard + 1)] 3)
  have hS2 := hS1.alloc (Obj.cells #[.int .i64 (shard + 1)] 3)
  have hg2 := group_at w1 (shard + 1)
  have ho2 := ownsRow_built1 w1 3 (.int .i64 (shard + 1))
  have hz2 : w1.heap.size < (w1.alloc (Obj.cells #[.int .i64 (shard + 1)] 3)).heap.size := by simp
  have hf2 := hf1.alloc (Obj.cells #[.int .i64 (shard + 1)] 3)
  generalize w1.alloc (Obj.cells #[.int .i64 (shard + 1)] 3) = w2 at *
  clear hB1 hS1 hf1 s6
  have s0 := hS2.cell 0
  have s1 := hS2.cell 1
  have s7 := hS2.cell 7
  have k0 := hB2.cell 0
  have f0 := hB2.frozen 0
  go_upto_region 24 with fail
  have hB3 : Blk (w2.setCell ⟨w.heap.size, 0, none⟩ (.int .i64 5)) w.heap.size 62 #[.int .i64 5, .int .i64 0, .int .i64 0, .slice none 0 0, .slice none 0 0, .int .i64 7, .int .i64 txn, .bool yes, .string ff, .string tt, .int .i64 epoch, .int .i64 shard, .int .i64 target, .int .i64 root, .int .i64 G, .int .i64 D, .slice C xs.length cx, .int .i64 0, .int .i64 0, .slice none 0 0, .slice none 0 0] := hB2.set_ 0 _
  have hf23 : Fr (fun k => k = w.heap.size) w2 (w2.setCell ⟨w.heap.size, 0, none⟩ (.int .i64 5)) := (Fr.refl (fun k => k = w.heap.size) w2).setCell (p := ⟨w.heap.size, 0, none⟩) (fun _ => rfl) _
  have hf3 : Fr (fun _ => False) w (w2.setCell ⟨w.heap.size, 0, none⟩ (.int .i64 5)) := hf2.trans hf23 (fun k hk e => by omega)
  have hS3 := hS2.fr hf23 (hS2.ne_ hB2 (by decide))
  have hw01 : w1.heap.size ≠ w.heap.size := fun e => by have := hB0.lt; have := hww; omega
  have ho3 := own_fr ho2 hf23 (fun k hk e => by simp [Value.ownBlock] at hk; omega)
  generalize w2.setCell ⟨w.heap.size, 0, none⟩ (.int .i64 5) = w3 at *
  clear hB2 hS2 hf2 hg2 s0 s1 s7 k0 f0
  have s7 := hS3.cell 7
  have hgo : w.heap.size < w1.heap.size := by have := hB0.lt; omega
  have ho3' : w3.ownsRow w1.heap.size 3 1 (.slice (some ⟨w1.heap.size, 0, none⟩) 1 1) 1 (num64V [shard + 1]) := ho3
  have hz3 : w1.heap.size ≤ w3.heap.size := Nat.le_trans (Nat.le_of_lt hz2) hf23.size
  clear hf23 hS3 ho2
  go_upto_region 25 with (first
    | (at_builtin; refine wpList_append1 _ rfl _ _ _ rfl w1.heap.size 3 (.int .i64 0) 8 Tryz.underlying30 int_info rfl (.slice (some ⟨w1.heap.size, 0, none⟩) 1 1) 1 (num64V [shard + 1]) rfl (ho3'.alloc _) w3.heap.size (.int .i64 (target + 1)) rfl ?_ rfl (by omega) (by omega) ?_ ?_; (· simp); (· simp; omega); intro g4 c4 w4 hown4 hf4)
    | (go_at_call 79; refine (relay_group _ _).mono ?_; rintro e w' ⟨rfl, rfl⟩; rw [HWT.out]))
  have hf34 : Fr (fun k => k = w1.heap.size) w3 w4 := ((Fr.refl (fun k => k = w1.heap.size) w3).alloc _).trans hf4 (fun k _ h => by simp [Value.ownBlock] at h; exact h.symm)
  have hB4 := hB3.fr hf34 (by omega)
  have hf04 : Fr (fun _ => False) w w4 := hf3.trans hf34 (fun k hk e => by omega)
  obtain ⟨A4, c4', ev, hr4⟩ := own_introw (l := [shard + 1, target + 1]) hown4 rfl
  cases ev
  have HT : Calls Tryz.prog 64 #[.agg #[.int .i64 5, .int .i64 0, .int .i64 0, .slice none 0 0, .slice none 0 0, .int .i64 7, .int .i64 txn, .bool yes, .string ff, .string tt, .int .i64 epoch, .int .i64 shard, .int .i64 target, .int .i64 root, .int .i64 G, .int .i64 D, .slice C xs.length cx, .int .i64 0, .int .i64 0, .slice none 0 0, .slice none 0 0], .slice (some ⟨g4, 0, none⟩) 2 c4] w4 (TasksP w4 [shard + 1, target + 1] (orderB 5 [] (sayB ⟨7, txn, yes, ff, tt, epoch, shard, target, root⟩) (certB G D xs))) := relay_tasks_ok (s := ⟨7, txn, yes, ff, tt, epoch, shard, target, root⟩) (cg := c4) (gs := [shard + 1, target + 1]) hr4 (Nat.le_refl _) (by simp) (orderB_len (by simp) (by have := sayB_short ⟨7, txn, yes, ff, tt, epoch, shard, target, root⟩; rw [show wordB ⟨7, txn, yes, ff, tt, epoch, shard, target, root⟩ = _ from if_pos HOK.out] at this; exact this) (certB_len HXL.out)) (fun w' hf => order_cert (by omega) (by omega) ⟨by omega, by omega⟩ HOK.out (HC.out.fr (hf04.then_ hf) (fun _ _ => id)) (Nat.le_trans hbC (hf04.then_ hf).size) HXL.out HG.out)
  replace HT := Lib.hid HT
  go_wp2_with (first
    | (refine wpList_load_row rfl 62 _ rfl _ rfl _ _ (0, 0) _ hB4 Tryz.underlying62 rfl (by kernel_rfl) ?_)
    | (go_at_call 64; refine HT.out.mono ?_; rintro e w' ⟨tv, rfl, hv, hf'⟩))
  go_ret
  exact ⟨tv, rfl, hv.base_ hf04.size, hf04.then_ hf'⟩
set_option maxRecDepth 100000 in
set_option maxHeartbeats 800000 in
theorem ruled_decide {w : World} {txn : Int} {yes : Bool} {ff tt : ByteArray} {epoch shard target root : Int} (h : OkSay ⟨3, txn, yes, ff, tt, epoch, shard, target, root⟩) {G D : Int} {bC : Nat} {C : Option Addr} {cx : Nat} {xs : List Int} (hC : IntRow w bC C xs) (hbC : bC ≤ w.heap.size) (hxl : xs.length ≤ 1024) (hg : getOk (num8 G ++ num8 D ++ numsB xs)) {bS : Nat} {SA : Option Addr} {sc : Nat} {ss : List Int} (hSS : IntRow w bS SA ss) (hbS : bS ≤ w.heap.size) (hsl : ss.length ≤ 1000) {bk : Value} :
    Calls Tryz.prog 44 #[bk, .agg #[.int .i64 0, .int .i64 0, .int .i64 0, .slice none 0 0, .slice none 0 0, .int .i64 3, .int .i64 txn, .bool yes, .string ff, .string tt, .int .i64 epoch, .int .i64 shard, .int .i64 target, .int .i64 root, .int .i64 G, .int .i64 D, .slice C xs.length cx, .int .i64 0, .int .i64 0, .slice none 0 0, .slice none 0 0], .slice SA ss.length sc] w (TasksP w (ss.map fun s => wrap64 (s + 1)) (orderB 2 [] (sayB ⟨3, txn, yes, ff, tt, epoch, shard, target, root⟩) (certB G D xs))) := by
  have HC := Lib.hid hC
  have HG := Lib.hid hg
  have HXL := Lib.hid hxl
  clear hC hg hxl
  have HSS := Lib.hid hSS
  clear hSS
  have hsh : (0 ≤ shard ∧ shard ≤ 3) ∧ (0 ≤ target ∧ target ≤ 3) ∧ (0 ≤ txn ∧ txn ≤ 2147483647) := by
    obtain ⟨a0, a1, a2, a3, a4, a5, a6, a7, a8, a9, a10, a11, a12, a13⟩ := h
    dsimp only at a2 a3 a10 a11 a12 a13
    omega
  have hwr : wrap64 (shard + 1) = shard + 1 := by unfold wrap64; omega
  have HW := Lib.hid hwr
  have hwt : wrap64 (target + 1) = target + 1 := by unfold wrap64; omega
  have HWT := Lib.hid hwt
  clear hwr hwt
  have HOK := Lib.hid h
  clear h
  have hB0 := Blk.new w 62 #[.int .i64 0, .int .i64 0, .int .i64 0, .slice none 0 0, .slice none 0 0, .int .i64 3, .int .i64 txn, .bool yes, .string ff, .string tt, .int .i64 epoch, .int .i64 shard, .int .i64 target, .int .i64 root, .int .i64 G, .int .i64 D, .slice C xs.length cx, .int .i64 0, .int .i64 0, .slice none 0 0, .slice none 0 0]
  have hf0 : Fr (fun _ => False) w (w.alloc (Obj.cells #[.int .i64 0, .int .i64 0, .int .i64 0, .slice none 0 0, .slice none 0 0, .int .i64 3, .int .i64 txn, .bool yes, .string ff, .string tt, .int .i64 epoch, .int .i64 shard, .int .i64 target, .int .i64 root, .int .i64 G, .int .i64 D, .slice C xs.length cx, .int .i64 0, .int .i64 0, .slice none 0 0, .slice none 0 0] 62)) := (Fr.refl _ _).alloc _
  go_enter Tryz.func44, Tryz.ntmps44
  go_upto_region 1 with fail
  generalize w.alloc (Obj.cells #[.int .i64 0, .int .i64 0, .int .i64 0, .slice none 0 0, .slice none 0 0, .int .i64 3, .int .i64 txn, .bool yes, .string ff, .string tt, .int .i64 epoch, .int .i64 shard, .int .i64 target, .int .i64 root, .int .i64 G, .int .i64 D, .slice C xs.length cx, .int .i64 0, .int .i64 0, .slice none 0 0, .slice none 0 0] 62) = w0 at *
  have k5 := hB0.cell 5
  have k6 := hB0.cell 6
  have k7 := hB0.cell 7
  have k8 := hB0.cell 8
  have k9 := hB0.cell 9
  have k10 := hB0.cell 10
  have k11 := hB0.cell 11
  have k12 := hB0.cell 12
  have k13 := hB0.cell 13
  go_upto_region 2 with fail
  have hB1 := hB0.alloc (Obj.cells #[.int .i64 3, .int .i64 txn, .bool yes, .string ff, .string tt, .int .i64 epoch, .int .i64 shard, .int .i64 target, .int .i64 root] 23)
  have hS1 := Blk.new w0 23 #[.int .i64 3, .int .i64 txn, .bool yes, .string ff, .string tt, .int .i64 epoch, .int .i64 shard, .int .i64 target, .int .i64 root]
  have hww : w0.heap.size < (w0.alloc (Obj.cells #[.int .i64 3, .int .i64 txn, .bool yes, .string ff, .string tt, .int .i64 epoch, .int .i64 shard, .int .i64 target, .int .i64 root] 23)).heap.size := by simp
  have hf1 := hf0.alloc (Obj.cells #[.int .i64 3, .int .i64 txn, .bool yes, .string ff, .string tt, .int .i64 epoch, .int .i64 shard, .int .i64 target, .int .i64 root] 23)
  generalize w0.alloc (Obj.cells #[.int .i64 3, .int .i64 txn, .bool yes, .string ff, .string tt, .int .i64 epoch, .int .i64 shard, .int .i64 target, .int .i64 root] 23) = w1 at *
  have s6 := hS1.cell 6
  clear hf0 k5 k6 k7 k8 k9 k10 k11 k12 k13
  go_upto_region 3 with (go_at_call 79; refine (relay_group _ _).mono ?_; rintro e w' ⟨rfl, rfl⟩; rw [HW.out])
  have hB2 := hB1.alloc (Obj.cells #[.int .i64 (shard + 1)] 3)
  have hS2 := hS1.alloc (Obj.cells #[.int .i64 (shard + 1)] 3)
  have hg2 := group_at w1 (shard + 1)
  have ho2 := ownsRow_built1 w1 3 (.int .i64 (shard + 1))
  have hz2 : w1.heap.size < (w1.alloc (Obj.cells #[.int .i64 (shard + 1)] 3)).heap.size := by simp
  have hf2 := hf1.alloc (Obj.cells #[.int .i64 (shard + 1)] 3)
  generalize w1.alloc (Obj.cells #[.int .i64 (shard + 1)] 3) = w2 at *
  clear hB1 hS1 hf1 s6
  have s0 := hS2.cell 0
  have s1 := hS2.cell 1
  have s7 := hS2.cell 7
  have k0 := hB2.cell 0
  have f0 := hB2.frozen 0
  go_upto_region 16 with fail
  have hB3 : Blk (w2.setCell ⟨w.heap.size, 0, none⟩ (.int .i64 2)) w.heap.size 62 #[.int .i64 2, .int .i64 0, .int .i64 0, .slice none 0 0, .slice none 0 0, .int .i64 3, .int .i64 txn, .bool yes, .string ff, .string tt, .int .i64 epoch, .int .i64 shard, .int .i64 target, .int .i64 root, .int .i64 G, .int .i64 D, .slice C xs.length cx, .int .i64 0, .int .i64 0, .slice none 0 0, .slice none 0 0] := hB2.set_ 0 _
  have hf23 : Fr (fun k => k = w.heap.size) w2 (w2.setCell ⟨w.heap.size, 0, none⟩ (.int .i64 2)) := (Fr.refl (fun k => k = w.heap.size) w2).setCell (p := ⟨w.heap.size, 0, none⟩) (fun _ => rfl) _
  have hf3 : Fr (fun _ => False) w (w2.setCell ⟨w.heap.size, 0, none⟩ (.int .i64 2)) := hf2.trans hf23 (fun k hk e => by omega)
  have hS3 := hS2.fr hf23 (hS2.ne_ hB2 (by decide))
  have hw01 : w1.heap.size ≠ w.heap.size := fun e => by have := hB0.lt; have := hww; omega
  have ho3 := own_fr ho2 hf23 (fun k hk e => by simp [Value.ownBlock] at hk; omega)
  generalize w2.setCell ⟨w.heap.size, 0, none⟩ (.int .i64 2) = w3 at *
  clear hB2 hS2 hf2 hg2 s0 s1 s7 k0 f0
  clear ho2 ho3 hS3 hf23
  go_loopw [8, 46] (fun lv i wr => ∃ k : Nat, k ≤ ss.length ∧ i = .int .i64 k ∧ wr.ownsRow w3.heap.size 3 1 lv k (num64V ((ss.map fun s => wrap64 (s + 1)).take k)) ∧ Fr (fun _ => False) w3 wr) (fun _ i _ => ss.length - (intOf i).toNat)
  case atStart => exact ⟨0, by omega, rfl, World.ownsRow_nil _ _ _ _, Fr.refl _ _⟩
  case round =>
    obtain ⟨k, hk, rfl, hown, hf⟩ := hrel
    by_cases hlt : k < ss.length
    · obtain ⟨x, hx⟩ : ∃ x, ss[k]? = some x := ⟨ss[k], List.getElem?_eq_getElem hlt⟩
      obtain ⟨b, o, rfl, hb, hc⟩ := (HSS.out.fr (hf3.then_ hf) (fun _ _ => id)) k x hx
      have hlt' : (k : Int) < (ss.length : Int) := by omega
      have HX : Hid ((ss.map fun s => wrap64 (s + 1))[k]? = some (wrap64 (x + 1))) := by show _ = _; rw [List.getElem?_map, hx]; rfl
      have hlm : Hid ((ss.map fun s => wrap64 (s + 1)).length = ss.length) := by show _ = _; rw [List.length_map]
      obtain ⟨y, hy⟩ : ∃ y, Hid (wrap64 (x + 1) = y) := ⟨_, rfl⟩
      clear hx
      go_wp2_with (first
        | (at_builtin; refine wpList_append1 _ rfl _ _ _ rfl w3.heap.size 3 (.int .i64 0) 8 Tryz.underlying30 int_info rfl u8 k (num64V ((ss.map fun s => wrap64 (s + 1)).take k)) rfl (hown.alloc _) wr.heap.size (.int .i64 y) rfl ?_ rfl (by omega) (by omega) ?_ ?_; (· simp); (· have := hf.size; simp; omega); intro g4 c4 w4 hown4 hf4)
        | (go_at_call 79; refine (relay_group _ _).mono ?_; rintro e w' ⟨rfl, rfl⟩; rw [hy.out]))
      go_roundw
      case rel =>
        have hfb : Fr (fun k => u8.ownBlock = some k) wr w4 := ((Fr.refl (fun k => u8.ownBlock = some k) wr).alloc _).trans hf4 (fun _ _ h => h)
        have e1 : num64V ((ss.map fun s => wrap64 (s + 1)).take (k + 1)) = num64V ((ss.map fun s => wrap64 (s + 1)).take k) ++ [.int .i64 y] := by
          rw [take_mem HX.out, num64V, num64V, List.map_append, hy.out]
          rfl
        exact ⟨k + 1, by omega, by go_num, by rw [e1]; exact hown4, hf.own hown hfb (Nat.le_refl _)⟩
      case measure => simp [intOf]; omega
    · obtain rfl : k = ss.length := by omega
      obtain ⟨gs, hgs⟩ : ∃ gs, Hid ((ss.map fun s => wrap64 (s + 1)) = gs) := ⟨_, rfl⟩
      have hgl : Hid (gs.length = ss.length) := by show _ = _; rw [← hgs.out, List.length_map]
      rw [hgs.out, List.take_of_length_le (by have := hgl.out; omega)] at hown
      obtain ⟨A4, c4, ev, hr4⟩ := own_introw (l := gs) hown hgl.out.symm
      subst ev
      have hB4 := hB3.fr hf id
      have hf04 := hf3.then_ hf
      clear hown hB3 hf3
      have HT : Calls Tryz.prog 64 #[.agg #[.int .i64 2, .int .i64 0, .int .i64 0, .slice none 0 0, .slice none 0 0, .int .i64 3, .int .i64 txn, .bool yes, .string ff, .string tt, .int .i64 epoch, .int .i64 shard, .int .i64 target, .int .i64 root, .int .i64 G, .int .i64 D, .slice C xs.length cx, .int .i64 0, .int .i64 0, .slice none 0 0, .slice none 0 0], .slice A4 gs.length c4] wr (TasksP wr gs (orderB 2 [] (sayB ⟨3, txn, yes, ff, tt, epoch, shard, target, root⟩) (certB G D xs))) := relay_tasks_ok (s := ⟨3, txn, yes, ff, tt, epoch, shard, target, root⟩) (cg := c4) (gs := gs) hr4 (Nat.le_refl _) (by have := hgl.out; omega) (orderB_len (by simp) (by have := sayB_short ⟨3, txn, yes, ff, tt, epoch, shard, target, root⟩; rw [show wordB ⟨3, txn, yes, ff, tt, epoch, shard, target, root⟩ = _ from if_pos HOK.out] at this; exact this) (certB_len HXL.out)) (fun w' hf => order_cert (by omega) (by omega) ⟨by omega, by omega⟩ HOK.out (HC.out.fr (hf04.then_ hf) (fun _ _ => id)) (Nat.le_trans hbC (hf04.then_ hf).size) HXL.out HG.out)
      replace HT := Lib.hid HT
      go_wp2_with (first
        | (refine wpList_load_row rfl 62 _ rfl _ rfl _ _ (0, 0) _ hB4 Tryz.underlying62 rfl (by kernel_rfl) ?_)
        | (go_at_call 64; refine HT.out.mono ?_; rintro e w' ⟨tv, rfl, hv, hf'⟩))
      go_ret
      rw [hgs.out]
      exact ⟨tv, rfl, hv.base_ hf04.size, hf04.then_ hf'⟩
end Go.Proofs.YtmkdhhhoodeemaaGreat

/- relay: ruled: a transaction is to be prepared. -/
namespace Go.Proofs.YtmkdhhhoodeemaaGreat
open Go Go.RowKit
def NoText (w : World) (e : Ending) (w' : World) : Prop := ∃ t u, e = .returned (.tuple #[.slice none 0 0, .iface t u]) ∧ Fr (fun _ => False) w w'
theorem book_wrong {w : World} {g m base : Nat} {v : Value} {L : List (List Int)} (h : BookAt w g m base v L) : Calls Tryz.prog 76 #[.pointer (some ⟨g, 0, none⟩), .int .i64 1] w fun e w' => e = .returned (errV [((⟨#[98, 111, 111, 107]⟩ : ByteArray), (L.length : Int))] 1) ∧ ∃ n, w' = w.drewN n := by
  obtain ⟨A0, cap0, rfl, _, _⟩ := own_form h.own
  have c0 : w.cell? ⟨g, 0, none⟩ = some (.slice A0 L.length cap0) := h.blk.cell 0
  have H := Lib.hid (fun w => fault_Of 1 rfl w)
  go_enter Tryz.func76, Tryz.ntmps76
  go_upto_region 1 with fail
  go_quiet (first | (go_at_call 71; exact quiet_left (H.out _)) | (go_at_call 70; exact quiet_left (fault_Wrap _ _ _ _ _)))
  go_wp2
  go_ret
  exact ⟨rfl, _, rfl⟩
theorem book_Text_no {w : World} {g m base : Nat} {v : Value} {L : List (List Int)} (h : BookAt w g m base v L) {d : Int} (h0 : 0 ≤ d) (hd : (L.length : Int) ≤ d) : Calls Tryz.prog 75 #[.pointer (some ⟨g, 0, none⟩), .int .i64 d] w (NoText w) := by
  have HW := book_wrong h
  obtain ⟨t, u, hu⟩ := errV_iface [((⟨#[98, 111, 111, 107]⟩ : ByteArray), (L.length : Int))] 1
  rw [hu] at HW
  replace HW := Lib.hid HW
  obtain ⟨A0, cap0, rfl, _, _⟩ := own_form h.own
  have c0 : w.cell? ⟨g, 0, none⟩ = some (.slice A0 L.length cap0) := h.blk.cell 0
  have h0' : ¬ d < 0 := by omega
  clear h hu
  go_enter Tryz.func75, Tryz.ntmps75
  go_wp2_with (go_at_call 76; refine HW.out.mono ?_; rintro e w' ⟨rfl, n, rfl⟩)
  refine bodyPost_ret (v := .tuple #[.slice none 0 0, .iface t u]) (by simp [results, Tryz.results75, go_sem]) rfl ?_
  exact ⟨t, u, rfl, (Fr.refl _ _).drewN n⟩
/-- Are bytes a right transaction's? -/
def IsTxn (bs : List Int) : Prop := ∃ c n R W, TOk c n R W ∧ bs = txnB c n R W
/-- What becomes of a begun transaction. -/
def PrepP (w : World) (L : List (List Int)) (txn : Int) (gg : List Int) (f : List Int → List Int) (e : Ending) (w' : World) : Prop :=
  (∃ bs, L[txn.toNat]? = some bs ∧ IsTxn bs ∧ TasksP w gg (f bs) e w') ∨ ((∀ bs, L[txn.toNat]? = some bs → ¬ IsTxn bs) ∧ TasksP w [] [] e w')
set_option maxRecDepth 100000 in
set_option maxHeartbeats 4000000 in
theorem ruled_begin {w : World} {txn : Int} {yes : Bool} {ff tt : ByteArray} {epoch shard target root : Int} (h : OkSay ⟨1, txn, yes, ff, tt, epoch, shard, target, root⟩) {G D : Int} {bC : Nat} {C : Option Addr} {cx : Nat} {xs : List Int} (hC : IntRow w bC C xs) (hbC : bC ≤ w.heap.size) (hxl : xs.length ≤ 1024) (hg : getOk (num8 G ++ num8 D ++ numsB xs)) {g m base : Nat} {v : Value} {L : List (List Int)} (hb : BookAt w g m base v L) (hL : L.length < 65536) (hLl : ∀ x ∈ L, x.length ≤ 65536) {sh : Value} :
    Calls Tryz.prog 44 #[.pointer (some ⟨g, 0, none⟩), .agg #[.int .i64 0, .int .i64 0, .int .i64 0, .slice none 0 0, .slice none 0 0, .int .i64 1, .int .i64 txn, .bool yes, .string ff, .string tt, .int .i64 epoch, .int .i64 shard, .int .i64 target, .int .i64 root, .int .i64 G, .int .i64 D, .slice C xs.length cx, .int .i64 0, .int .i64 0, .slice none 0 0, .slice none 0 0], sh] w (PrepP w L txn [shard + 1] fun bs => orderB 1 bs (sayB ⟨1, txn, yes, ff, tt, epoch, shard, target, root⟩) (certB G D xs)) := by
  have HC := Lib.hid hC
  have HG := Lib.hid hg
  have HXL := Lib.hid hxl
  clear hC hg hxl
  have HLL := Lib.hid hLl
  clear hLl
  have hsh : (0 ≤ shard ∧ shard ≤ 3) ∧ (0 ≤ target ∧ target ≤ 3) ∧ (0 ≤ txn ∧ txn ≤ 2147483647) := by
    obtain ⟨a0, a1, a2, a3, a4, a5, a6, a7, a8, a9, a10, a11, a12, a13⟩ := h
    dsimp only at a2 a3 a10 a11 a12 a13
    omega
  have hwr : wrap64 (shard + 1) = shard + 1 := by unfold wrap64; omega
  have HW := Lib.hid hwr
  have hwt : wrap64 (target + 1) = target + 1 := by unfold wrap64; omega
  have HWT := Lib.hid hwt
  clear hwr hwt
  have HOK := Lib.hid h
  clear h
  have hB0 := Blk.new w 62 #[.int .i64 0, .int .i64 0, .int .i64 0, .slice none 0 0, .slice none 0 0, .int .i64 1, .int .i64 txn, .bool yes, .string ff, .string tt, .int .i64 epoch, .int .i64 shard, .int .i64 target, .int .i64 root, .int .i64 G, .int .i64 D, .slice C xs.length cx, .int .i64 0, .int .i64 0, .slice none 0 0, .slice none 0 0]
  have hf0 : Fr (fun _ => False) w (w.alloc (Obj.cells #[.int .i64 0, .int .i64 0, .int .i64 0, .slice none 0 0, .slice none 0 0, .int .i64 1, .int .i64 txn, .bool yes, .string ff, .string tt, .int .i64 epoch, .int .i64 shard, .int .i64 target, .int .i64 root, .int .i64 G, .int .i64 D, .slice C xs.length cx, .int .i64 0, .int .i64 0, .slice none 0 0, .slice none 0 0] 62)) := (Fr.refl _ _).alloc _
  go_enter Tryz.func44, Tryz.ntmps44
  go_upto_region 1 with fail
  generalize w.alloc (Obj.cells #[.int .i64 0, .int .i64 0, .int .i64 0, .slice none 0 0, .slice none 0 0, .int .i64 1, .int .i64 txn, .bool yes, .string ff, .string tt, .int .i64 epoch, .int .i64 shard, .int .i64 target, .int .i64 root, .int .i64 G, .int .i64 D, .slice C xs.length cx, .int .i64 0, .int .i64 0, .slice none 0 0, .slice none 0 0] 62) = w0 at *
  have k5 := hB0.cell 5
  have k6 := hB0.cell 6
  have k7 := hB0.cell 7
  have k8 := hB0.cell 8
  have k9 := hB0.cell 9
  have k10 := hB0.cell 10
  have k11 := hB0.cell 11
  have k12 := hB0.cell 12
  have k13 := hB0.cell 13
  go_upto_region 2 with fail
  have hB1 := hB0.alloc (Obj.cells #[.int .i64 1, .int .i64 txn, .bool yes, .string ff, .string tt, .int .i64 epoch, .int .i64 shard, .int .i64 target, .int .i64 root] 23)
  have hS1 := Blk.new w0 23 #[.int .i64 1, .int .i64 txn, .bool yes, .string ff, .string tt, .int .i64 epoch, .int .i64 shard, .int .i64 target, .int .i64 root]
  have hww : w0.heap.size < (w0.alloc (Obj.cells #[.int .i64 1, .int .i64 txn, .bool yes, .string ff, .string tt, .int .i64 epoch, .int .i64 shard, .int .i64 target, .int .i64 root] 23)).heap.size := by simp
  have hf1 := hf0.alloc (Obj.cells #[.int .i64 1, .int .i64 txn, .bool yes, .string ff, .string tt, .int .i64 epoch, .int .i64 shard, .int .i64 target, .int .i64 root] 23)
  generalize w0.alloc (Obj.cells #[.int .i64 1, .int .i64 txn, .bool yes, .string ff, .string tt, .int .i64 epoch, .int .i64 shard, .int .i64 target, .int .i64 root] 23) = w1 at *
  have s6 := hS1.cell 6
  clear hf0 k5 k6 k7 k8 k9 k10 k11 k12 k13
  go_upto_region 3 with (go_at_call 79; refine (relay_group _ _).mono ?_; rintro e w' ⟨rfl, rfl⟩; rw [HW.out])
  have hB2 := hB1.alloc (Obj.cells #[.int .i64 (shard + 1)] 3)
  have hS2 := hS1.alloc (Obj.cells #[.int .i64 (shard + 1)] 3)
  have hg2 := group_at w1 (shard + 1)
  have ho2 := ownsRow_built1 w1 3 (.int .i64 (shard + 1))
  have hz2 : w1.heap.size < (w1.alloc (Obj.cells #[.int .i64 (shard + 1)] 3)).heap.size := by simp
  have hf2 := hf1.alloc (Obj.cells #[.int .i64 (shard + 1)] 3)
  generalize w1.alloc (Obj.cells #[.int .i64 (shard + 1)] 3) = w2 at *
  clear hB1 hS1 hf1 s6
  have s0 := hS2.cell 0
  have s1 := hS2.cell 1
  have s7 := hS2.cell 7
  have k0 := hB2.cell 0
  have f0 := hB2.frozen 0
  have hb2 := hb.keep hf2
  have hw01 : w1.heap.size ≠ w.heap.size := fun e => by have := hB0.lt; have := hww; omega
  clear hb hg2
  by_cases hin : txn < (L.length : Int)
  · obtain ⟨k, hk⟩ : ∃ k : Nat, txn = (k : Int) := ⟨txn.toNat, by omega⟩
    obtain ⟨bs, hbs⟩ : ∃ bs, L[k]? = some bs := ⟨L[k]'(by omega), List.getElem?_eq_getElem _⟩
    have HT := book_Text hb2 hbs hL
    rw [← hk] at HT
    replace HT := Lib.hid HT
    have HBS : Hid (L[txn.toNat]? = some bs) := by show _ = _; rw [hk]; exact hbs
    have hlb : Hid (bs.length ≤ 65536) := HLL.out bs (List.mem_of_getElem? hbs)
    have h8 : Hid (Bytes8 bs) := fun x hx => by have := hb2.map.2 bs (List.mem_of_getElem? hbs) x hx; omega
    clear hbs hk hin
    go_upto_region 8 with (go_at_call 75; refine HT.out.mono ?_; rintro e w3 ⟨A3, c3, rfl, hr3, hf3⟩)
    have hB3 := hB2.fr hf3 id
    have hf03 := hf2.then_ hf3
    have ho3 := own_fr ho2 hf3 (fun _ _ => id)
    have HG3 := Lib.hid (txn_Get (cap := c3) hr3 (by have := hlb.out; omega) h8.out)
    clear hr3 HT hS2 hb2 ho2 hB2 hf2 k0 f0 s0 s1 s7
    by_cases hT : IsTxn bs
    · have HGA : Hid (Calls Tryz.prog 80 #[.slice A3 bs.length c3] w3 (fun e w' => ∃ c n R W RA cr WA cw, TOk c n R W ∧ bs = txnB c n R W ∧ e = .returned (.tuple #[.agg #[.int .i64 c, .int .i64 n, .slice RA R.length cr, .slice WA W.length cw], .nilIface]) ∧ ReadRow w' (fun k => w3.heap.size ≤ k) RA R ∧ WriteRow w' (fun k => w3.heap.size ≤ k) WA W ∧ Fr (fun _ => False) w3 w')) := by
        refine HG3.out.mono ?_
        rintro e w' (h | ⟨hno, _⟩)
        · exact h
        · obtain ⟨c, n, R, W, h1, h2⟩ := hT
          exact absurd h2 (hno c n R W h1)
      clear HG3
      go_upto_region 9 with (first
        | (go_at_call 80; refine HGA.out.mono ?_; rintro e w4 ⟨c, n, R, W, RA, cr, WA, cw, hok, hbt, rfl, hR4, hW4, hf4⟩; replace hbt := Lib.hid hbt; have hB4 := hB3.fr hf4 id; have hth : w4.there w.heap.size 1 4 := hB4.there (Nat.le_of_ble_eq_true rfl))
        | (refine wpList_store_mid rfl 29 (.tmp 37) (.tmp 35) rfl w.heap.size 1 #[.int .i64 c, .int .i64 n, .slice RA R.length cr, .slice WA W.length cw] rfl rfl hth (by kernel_rfl) (by simp [Value.oneCell']) ?_))
      replace hok := Lib.hid hok
      replace hT := Lib.hid hT
      have hB4a : Blk (w4.setCell ⟨w.heap.size, 1, none⟩ (.int .i64 c)) w.heap.size 62 #[.int .i64 0, .int .i64 c, .int .i64 0, .slice none 0 0, .slice none 0 0, .int .i64 1, .int .i64 txn, .bool yes, .string ff, .string tt, .int .i64 epoch, .int .i64 shard, .int .i64 target, .int .i64 root, .int .i64 G, .int .i64 D, .slice C xs.length cx, .int .i64 0, .int .i64 0, .slice none 0 0, .slice none 0 0] := hB4.set_ 1 _
      have hB4b : Blk ((w4.setCell ⟨w.heap.size, 1, none⟩ (.int .i64 c)).setCell ⟨w.heap.size, 2, none⟩ (.int .i64 n)) w.heap.size 62 #[.int .i64 0, .int .i64 c, .int .i64 n, .slice none 0 0, .slice none 0 0, .int .i64 1, .int .i64 txn, .bool yes, .string ff, .string tt, .int .i64 epoch, .int .i64 shard, .int .i64 target, .int .i64 root, .int .i64 G, .int .i64 D, .slice C xs.length cx, .int .i64 0, .int .i64 0, .slice none 0 0, .slice none 0 0] := hB4a.set_ 2 _
      have hB4c : Blk (((w4.setCell ⟨w.heap.size, 1, none⟩ (.int .i64 c)).setCell ⟨w.heap.size, 2, none⟩ (.int .i64 n)).setCell ⟨w.heap.size, 3, none⟩ (.slice RA R.length cr)) w.heap.size 62 #[.int .i64 0, .int .i64 c, .int .i64 n, .slice RA R.length cr, .slice none 0 0, .int .i64 1, .int .i64 txn, .bool yes, .string ff, .string tt, .int .i64 epoch, .int .i64 shard, .int .i64 target, .int .i64 root, .int .i64 G, .int .i64 D, .slice C xs.length cx, .int .i64 0, .int .i64 0, .slice none 0 0, .slice none 0 0] := hB4b.set_ 3 _
      have hB4d : Blk ((((w4.setCell ⟨w.heap.size, 1, none⟩ (.int .i64 c)).setCell ⟨w.heap.size, 2, none⟩ (.int .i64 n)).setCell ⟨w.heap.size, 3, none⟩ (.slice RA R.length cr)).setCell ⟨w.heap.size, 4, none⟩ (.slice WA W.length cw)) w.heap.size 62 #[.int .i64 0, .int .i64 c, .int .i64 n, .slice RA R.length cr, .slice WA W.length cw, .int .i64 1, .int .i64 txn, .bool yes, .string ff, .string tt, .int .i64 epoch, .int .i64 shard, .int .i64 target, .int .i64 root, .int .i64 G, .int .i64 D, .slice C xs.length cx, .int .i64 0, .int .i64 0, .slice none 0 0, .slice none 0 0] := hB4c.set_ 4 _
      have hf45 : Fr (fun k => k = w.heap.size) w4 ((((w4.setCell ⟨w.heap.size, 1, none⟩ (.int .i64 c)).setCell ⟨w.heap.size, 2, none⟩ (.int .i64 n)).setCell ⟨w.heap.size, 3, none⟩ (.slice RA R.length cr)).setCell ⟨w.heap.size, 4, none⟩ (.slice WA W.length cw)) := ((((Fr.refl (fun k => k = w.heap.size) w4).setCell (p := ⟨w.heap.size, 1, none⟩) (fun _ => rfl) (.int .i64 c)).setCell (p := ⟨w.heap.size, 2, none⟩) (fun _ => rfl) (.int .i64 n)).setCell (p := ⟨w.heap.size, 3, none⟩) (fun _ => rfl) (.slice RA R.length cr)).setCell (p := ⟨w.heap.size, 4, none⟩) (fun _ => rfl) (.slice WA W.length cw)
      clear hB4a hB4b hB4c hB4
      have hR5 := hR4.fr hf45 (fun k hk e => by have := hB3.lt; omega)
      have hW5 := hW4.fr hf45 (fun k hk e => by have := hB3.lt; omega)
      have hf05 : Fr (fun _ => False) w ((((w4.setCell ⟨w.heap.size, 1, none⟩ (.int .i64 c)).setCell ⟨w.heap.size, 2, none⟩ (.int .i64 n)).setCell ⟨w.heap.size, 3, none⟩ (.slice RA R.length cr)).setCell ⟨w.heap.size, 4, none⟩ (.slice WA W.length cw)) := (hf03.then_ hf4).trans hf45 (fun k hk e => by omega)
      have ho5 := own_fr (own_fr ho3 hf4 (fun _ _ => id)) hf45 (fun k hk e => by simp [Value.ownBlock] at hk; omega)
      generalize hw5 : ((((w4.setCell ⟨w.heap.size, 1, none⟩ (.int .i64 c)).setCell ⟨w.heap.size, 2, none⟩ (.int .i64 n)).setCell ⟨w.heap.size, 3, none⟩ (.slice RA R.length cr)).setCell ⟨w.heap.size, 4, none⟩ (.slice WA W.length cw)) = w5 at *
      rw [show (w4.setCells w.heap.size 1 #[.int .i64 c, .int .i64 n, .slice RA R.length cr, .slice WA W.length cw].toList) = w5 from hw5]
      have hlt3 := hB3.lt
      clear hw5 hR4 hW4 hf45 ho3 hB3 hf03 hf4 hth
      have k0 := hB4d.cell 0
      have f0 := hB4d.frozen 0
      go_upto_region 25 with fail
      have hB6 : Blk (w5.setCell ⟨w.heap.size, 0, none⟩ (.int .i64 1)) w.heap.size 62 #[.int .i64 1, .int .i64 c, .int .i64 n, .slice RA R.length cr, .slice WA W.length cw, .int .i64 1, .int .i64 txn, .bool yes, .string ff, .string tt, .int .i64 epoch, .int .i64 shard, .int .i64 target, .int .i64 root, .int .i64 G, .int .i64 D, .slice C xs.length cx, .int .i64 0, .int .i64 0, .slice none 0 0, .slice none 0 0] := hB4d.set_ 0 _
      have hf56 : Fr (fun k => k = w.heap.size) w5 (w5.setCell ⟨w.heap.size, 0, none⟩ (.int .i64 1)) := (Fr.refl (fun k => k = w.heap.size) w5).setCell (p := ⟨w.heap.size, 0, none⟩) (fun _ => rfl) _
      have hf06 := hf05.trans hf56 (fun k hk e => by omega)
      have hR6 := hR5.fr hf56 (fun k hk e => by omega)
      have hW6 := hW5.fr hf56 (fun k hk e => by omega)
      have ho6 := own_fr ho5 hf56 (fun k hk e => by simp [Value.ownBlock] at hk; omega)
      generalize w5.setCell ⟨w.heap.size, 0, none⟩ (.int .i64 1) = w6 at *
      clear hB4d hf05 hf56 hR5 hW5 ho5 k0 f0
      obtain ⟨A6, c6, ev, hr6⟩ := own_introw (l := [shard + 1]) ho6 rfl
      cases ev
      have HTL := Lib.hid (txnB_len hok.out)
      have HT : Calls Tryz.prog 64 #[.agg #[.int .i64 1, .int .i64 c, .int .i64 n, .slice RA R.length cr, .slice WA W.length cw, .int .i64 1, .int .i64 txn, .bool yes, .string ff, .string tt, .int .i64 epoch, .int .i64 shard, .int .i64 target, .int .i64 root, .int .i64 G, .int .i64 D, .slice C xs.length cx, .int .i64 0, .int .i64 0, .slice none 0 0, .slice none 0 0], .slice (some ⟨w1.heap.size, 0, none⟩) 1 1] w6 (TasksP w6 [shard + 1] (orderB 1 (txnB c n R W) (sayB ⟨1, txn, yes, ff, tt, epoch, shard, target, root⟩) (certB G D xs))) := relay_tasks_ok (s := ⟨1, txn, yes, ff, tt, epoch, shard, target, root⟩) (cg := 1) (gs := [shard + 1]) hr6 (Nat.le_refl _) (by simp) (orderB_len HTL.out (by have := sayB_short ⟨1, txn, yes, ff, tt, epoch, shard, target, root⟩; rw [show wordB ⟨1, txn, yes, ff, tt, epoch, shard, target, root⟩ = _ from if_pos HOK.out] at this; exact this) (certB_len HXL.out)) (fun w' hf => order_prep ((hR6.fr hf (fun _ _ => id)).mono_ (F' := fun _ => True) (fun _ _ => trivial)) ((hW6.fr hf (fun _ _ => id)).mono_ (F' := fun _ => True) (fun _ _ => trivial)) hok.out HOK.out (HC.out.fr (hf06.then_ hf) (fun _ _ => id)) (Nat.le_trans hbC (hf06.then_ hf).size) HXL.out HG.out)
      replace HT := Lib.hid HT
      go_wp2_with (first
        | (refine wpList_load_row rfl 62 _ rfl _ rfl _ _ (0, 0) _ hB6 Tryz.underlying62 rfl (by kernel_rfl) ?_)
        | (go_at_call 64; refine HT.out.mono ?_; rintro e w' ⟨tv, rfl, hv, hf'⟩))
      go_ret
      exact .inl ⟨bs, HBS.out, hT.out, tv, rfl, by rw [hbt.out]; exact hv.base_ hf06.size, hf06.then_ hf'⟩
    · have HGN : Hid (Calls Tryz.prog 80 #[.slice A3 bs.length c3] w3 (fun e w' => ∃ t u, e = .returned (.tuple #[.agg #[.int .i64 0, .int .i64 0, .slice none 0 0, .slice none 0 0], .iface t u]) ∧ Fr (fun _ => False) w3 w')) := by
        refine HG3.out.mono ?_
        rintro e w' (⟨c, n, R, W, _, _, _, _, h1, h2, _⟩ | ⟨_, ⟨l, k, rfl⟩, hf⟩)
        · exact absurd ⟨c, n, R, W, h1, h2⟩ hT
        · obtain ⟨t, u, hu⟩ := errV_iface l k
          exact ⟨t, u, by rw [hu], hf⟩
      have HNO : Hid (∀ b, L[txn.toNat]? = some b → ¬ IsTxn b) := fun b hb => by
        have e := HBS.out
        rw [hb] at e
        rw [Option.some.inj e]
        exact hT
      clear HG3 hT
      go_upto_region 9 with (first
        | (go_at_call 80; refine HGN.out.mono ?_; rintro e w4 ⟨t, u, rfl, hf4⟩; have hB4 := hB3.fr hf4 id; have hth : w4.there w.heap.size 1 4 := hB4.there (Nat.le_of_ble_eq_true rfl))
        | (refine wpList_store_mid rfl 29 (.tmp 37) (.tmp 35) rfl w.heap.size 1 #[.int .i64 0, .int .i64 0, .slice none 0 0, .slice none 0 0] rfl rfl hth (by kernel_rfl) (by simp [Value.oneCell']) ?_))
      have hfz : Fr (fun k => k = w.heap.size) w4 (w4.setCells w.heap.size 1 #[.int .i64 0, .int .i64 0, .slice none 0 0, .slice none 0 0].toList) := Fr.setCells_ (S := fun k => k = w.heap.size) (fun _ => rfl) _ _ (Fr.refl _ _)
      generalize w4.setCells w.heap.size 1 #[.int .i64 0, .int .i64 0, .slice none 0 0, .slice none 0 0].toList = w5 at *
      go_wp2_with fail
      go_ret
      exact .inr ⟨HNO.out, .slice none 0 0, rfl, TasksAt.nil _ _ _, (hf03.then_ hf4).trans hfz (fun k hk e => by omega)⟩
  · have HT := Lib.hid (book_Text_no hb2 (d := txn) (by omega) (by omega))
    have HNO : Hid (∀ bs, L[txn.toNat]? = some bs → ¬ IsTxn bs) := fun bs hbs => by
      have := (List.getElem?_eq_some_iff.1 hbs).1
      omega
    go_wp2_with (go_at_call 75; refine HT.out.mono ?_; rintro e w3 ⟨t, u, rfl, hf3⟩)
    go_ret
    exact .inr ⟨HNO.out, .slice none 0 0, rfl, TasksAt.nil _ _ _, hf2.then_ hf3⟩
end Go.Proofs.YtmkdhhhoodeemaaGreat

/- cert.Make: its row is new. -/
namespace Go.Proofs.YtmkdhhhoodeemaaGreat
open Go Go.RowKit
/-- What Make gives; its row is new. -/
def MadeF (w : World) (G D : Int) (L : List (Int × Int)) (need : Int) (e : Ending) (w' : World) : Prop :=
  Fr (fun _ => False) w w' ∧
  (((need < 1 ∨ ((whoInts G D L).length : Int) < need) ∧ e = .returned (.tuple #[.agg #[.int .i64 0, .int .i64 0, .slice none 0 0], errV [((⟨#[109, 97, 107, 101]⟩ : ByteArray), ((whoInts G D L).length : Int))] 51])) ∨
   (¬ (need < 1 ∨ ((whoInts G D L).length : Int) < need) ∧ ∃ A cap, e = .returned (.tuple #[.agg #[.int .i64 G, .int .i64 D, .slice A ((whoInts G D L).take need.toNat).length cap], .nilIface]) ∧ IntRow w' w'.heap.size A ((whoInts G D L).take need.toNat) ∧ ∀ b o, A = some ⟨b, o, none⟩ → w.heap.size ≤ b))
set_option maxRecDepth 100000 in
theorem cert_MakeF {w : World} {g m : Nat} {L : List (Int × Int)} (hs : SealsAt w g m L) (G D need : Int) :
    Calls Tryz.prog 43 #[.pointer (some ⟨g, 0, none⟩), .int .i64 G, .int .i64 D, .int .i64 need] w (MadeF w G D L need) := by
  go_enter Tryz.func43, Tryz.ntmps43
  go_wp2_with fail
  have hf0 : Fr (fun _ => False) w (w.alloc (Obj.cells #[.int .i64 0, .int .i64 0, .slice none 0 0] 41)) := (Fr.refl _ _).alloc _
  refine (seals_Who (hs.fr hf0 id id) G D).mono ?_
  rintro e w1 ⟨v, rfl, hown, hf1⟩
  obtain ⟨A, cap, rfl, hcap, _⟩ := own_form hown
  have b1 : Blk w1 w.heap.size 41 #[.int .i64 0, .int .i64 0, .slice none 0 0] := (Blk.new _ _ _).fr hf1 id
  have c0 := b1.cell 0
  have c1 := b1.cell 1
  have c2 := b1.cell 2
  have z0 := b1.frozen 0
  have z1 := b1.frozen 1
  have z2 := b1.frozen 2
  have hf2 := hf0.then_ hf1
  by_cases hn : need < 1 ∨ ((whoTo G D L 10).length : Int) < need
  · have HN := Lib.hid hn
    by_cases h1 : need < 1
    · clear hn
      go_wp2_with (first
        | (go_at_call 71; refine (fault_Of _ rfl _).mono ?_; rintro e w' ⟨rfl, rfl⟩)
        | (go_at_call 70; refine (fault_Wrap _ _ _ _ _).mono ?_; rintro e w' ⟨rfl, rfl⟩))
      have b2 := ((b1.set_ 0 (.int .i64 0)).set_ 1 (.int .i64 0)).set_ 2 (.slice none 0 0)
      have d0 := b2.cell 0
      have d1 := b2.cell 1
      have d2 := b2.cell 2
      refine bodyPost_ret (v := .tuple #[.agg #[.int .i64 0, .int .i64 0, .slice none 0 0], errV [((⟨#[109, 97, 107, 101]⟩ : ByteArray), ((whoTo G D L 10).length : Int))] 51]) (by simp [results, Tryz.results43, go_sem, d0, d1, d2]) rfl ?_
      refine ⟨?_, .inl ⟨by rw [whoInts_length]; exact HN.out, by rw [whoInts_length]⟩⟩
      exact Fr.setCell (p := ⟨w.heap.size, 2, none⟩) (Fr.setCell (p := ⟨w.heap.size, 1, none⟩) (Fr.setCell (p := ⟨w.heap.size, 0, none⟩) hf2 (fun h => absurd h (Nat.lt_irrefl _)) _) (fun h => absurd h (Nat.lt_irrefl _)) _) (fun h => absurd h (Nat.lt_irrefl _)) _
    · have h2 : ((whoTo G D L 10).length : Int) < need := by omega
      clear hn
      go_wp2_with (first
        | (go_at_call 71; refine (fault_Of _ rfl _).mono ?_; rintro e w' ⟨rfl, rfl⟩)
        | (go_at_call 70; refine (fault_Wrap _ _ _ _ _).mono ?_; rintro e w' ⟨rfl, rfl⟩))
      have b2 := ((b1.set_ 0 (.int .i64 0)).set_ 1 (.int .i64 0)).set_ 2 (.slice none 0 0)
      have d0 := b2.cell 0
      have d1 := b2.cell 1
      have d2 := b2.cell 2
      refine bodyPost_ret (v := .tuple #[.agg #[.int .i64 0, .int .i64 0, .slice none 0 0], errV [((⟨#[109, 97, 107, 101]⟩ : ByteArray), ((whoTo G D L 10).length : Int))] 51]) (by simp [results, Tryz.results43, go_sem, d0, d1, d2]) rfl ?_
      refine ⟨?_, .inl ⟨by rw [whoInts_length]; exact HN.out, by rw [whoInts_length]⟩⟩
      exact Fr.setCell (p := ⟨w.heap.size, 2, none⟩) (Fr.setCell (p := ⟨w.heap.size, 1, none⟩) (Fr.setCell (p := ⟨w.heap.size, 0, none⟩) hf2 (fun h => absurd h (Nat.lt_irrefl _)) _) (fun h => absurd h (Nat.lt_irrefl _)) _) (fun h => absurd h (Nat.lt_irrefl _)) _
  · have HN := Lib.hid hn
    have h1 : ¬ need < 1 := by omega
    have h2 : ¬ ((whoTo G D L 10).length : Int) < need := by omega
    obtain ⟨n, rfl⟩ : ∃ n : Nat, need = n := ⟨need.toNat, by omega⟩
    have h3 : n ≤ (whoTo G D L 10).length := by omega
    have h4 : n ≤ cap := by omega
    have h5 : ¬ cap = 0 := by omega
    have hlen : ((whoInts G D L).take n).length = n := by rw [List.length_take, whoInts_length]; omega
    clear hn
    go_wp2_with fail
    have b2 := b1.set_ 0 (.int .i64 G)
    have b3 := b2.set_ 1 (.int .i64 D)
    have b4 := b3.set_ 2 (.slice A n cap)
    have d0 := b4.cell 0
    have d1 := b4.cell 1
    have d2 := b4.cell 2
    have o4 := own_setCell (own_setCell (own_setCell hown b1 (by decide) 0 (.int .i64 G)) b2 (by decide) 1 (.int .i64 D)) b3 (by decide) 2 (.slice A n cap)
    refine bodyPost_ret (v := .tuple #[.agg #[.int .i64 G, .int .i64 D, .slice A n cap], .nilIface]) (by simp [results, Tryz.results43, go_sem, d0, d1, d2]) rfl ?_
    refine ⟨?_, .inr ⟨by rw [whoInts_length]; exact HN.out, A, cap, ?_, ?_, ?_⟩⟩
    · exact Fr.setCell (p := ⟨w.heap.size, 2, none⟩) (Fr.setCell (p := ⟨w.heap.size, 1, none⟩) (Fr.setCell (p := ⟨w.heap.size, 0, none⟩) hf2 (fun h => absurd h (Nat.lt_irrefl _)) _) (fun h => absurd h (Nat.lt_irrefl _)) _) (fun h => absurd h (Nat.lt_irrefl _)) _
    · rw [Int.toNat_natCast, hlen]
    · rw [Int.toNat_natCast]
      exact (IntRow.of_own o4).take n
    · intro b o e
      have h5 := own_ge o4 b (by rw [e]; rfl)
      have h6 : w.heap.size ≤ (w.alloc (Obj.cells #[.int .i64 0, .int .i64 0, .slice none 0 0] 41)).heap.size := by simp
      exact Nat.le_trans h6 h5
end Go.Proofs.YtmkdhhhoodeemaaGreat

/- relay: Orders, by what is told, what is ruled. -/
namespace Go.Proofs.YtmkdhhhoodeemaaGreat
open Go Go.RowKit
set_option maxRecDepth 100000 in
set_option maxHeartbeats 1000000 in
theorem orders_bad {w : World} {g m base : Nat} {v : Value} {L : List (List Int)} {gs ms : Nat} {SL : List (Int × Int)} (hb : BS w g m base v L gs ms SL) (hbase : base ≤ w.heap.size) (hL : L.length < 65536) {kind txn : Int} {yes : Bool} {ff tt : ByteArray} {epoch shard target root : Int} (hok : ¬ OkSay ⟨kind, txn, yes, ff, tt, epoch, shard, target, root⟩) {G f : Int} (hf : 0 ≤ f ∧ f ≤ 3) {sv sh lv : Value} :
    Calls Tryz.prog 15 #[.pointer (some ⟨g, 0, none⟩), sv, .int .i64 f, .agg #[.int .i64 G, .int .i64 kind, .int .i64 txn, .bool yes, .string ff, .string tt, .int .i64 epoch, .int .i64 shard, .int .i64 target, .int .i64 root], sh, lv] w (OrdStep w g m base v L gs ms SL [] []) := by
  obtain ⟨hf1, hf2⟩ := hf
  have hd1 : ¬ f < 0 := by omega
  have hd2 : ¬ 3 < f := by omega
  have hB0 := Blk.new w 25 #[.int .i64 G, .int .i64 kind, .int .i64 txn, .bool yes, .string ff, .string tt, .int .i64 epoch, .int .i64 shard, .int .i64 target, .int .i64 root]
  have hf0 : Fr (fun _ => False) w (w.alloc (Obj.cells #[.int .i64 G, .int .i64 kind, .int .i64 txn, .bool yes, .string ff, .string tt, .int .i64 epoch, .int .i64 shard, .int .i64 target, .int .i64 root] 25)) := (Fr.refl _ _).alloc _
  have hb0 := hb.keep hf0
  have HD := say_Digest1 hb0.book (Nat.le_trans hbase hf0.size) hL kind txn yes ff tt epoch shard target root
  have hso : saidO ⟨kind, txn, yes, ff, tt, epoch, shard, target, root⟩ = some ([((⟨#[115, 97, 121]⟩ : ByteArray), kind)], 111) := if_neg hok
  have hsl : sayL L ⟨kind, txn, yes, ff, tt, epoch, shard, target, root⟩ = L := if_neg hok
  obtain ⟨t, u, hu⟩ := errV_iface [((⟨#[115, 97, 121]⟩ : ByteArray), kind)] 111
  rw [hso, hsl, show errO (some ([((⟨#[115, 97, 121]⟩ : ByteArray), kind)], 111)) = .iface t u from hu] at HD
  replace HD := Lib.hid HD
  clear hok hso hsl hu
  go_enter Tryz.func15, Tryz.ntmps15
  go_upto_region 1 with fail
  generalize w.alloc (Obj.cells #[.int .i64 G, .int .i64 kind, .int .i64 txn, .bool yes, .string ff, .string tt, .int .i64 epoch, .int .i64 shard, .int .i64 target, .int .i64 root] 25) = w0 at *
  have k0 := hB0.cell 0
  have k1 := hB0.cell 1
  have k2 := hB0.cell 2
  have k3 := hB0.cell 3
  have k4 := hB0.cell 4
  have k5 := hB0.cell 5
  have k6 := hB0.cell 6
  have k7 := hB0.cell 7
  have k8 := hB0.cell 8
  have k9 := hB0.cell 9
  go_wp2_with (go_at_call 42; refine HD.out.mono ?_; rintro e w1 ⟨v1, rfl, hb1, hf01, hk1⟩)
  have hs1 := hb0.bookStep hb1 hf01
  go_ret
  exact ⟨_, v1, rfl, TasksAt.nil _ _ _, hs1, (hf0.mono (fun _ _ h => h.elim)).trans hf01 (fun _ _ h => h), fun k hk => (hk1 k hk).imp_right (Nat.le_trans hf0.size)⟩
set_option maxRecDepth 100000 in
set_option maxHeartbeats 2000000 in
theorem orders_told {w : World} {g m base : Nat} {v : Value} {L : List (List Int)} {gs ms : Nat} {SL : List (Int × Int)} (hb : BS w g m base v L gs ms SL) (hbase : base ≤ w.heap.size) (hL : L.length < 65536) {kind txn : Int} {yes : Bool} {ff tt : ByteArray} {epoch shard target root : Int} (hok : OkSay ⟨kind, txn, yes, ff, tt, epoch, shard, target, root⟩) {G f : Int} (hf : 0 ≤ f ∧ f ≤ 3) (hmany : ¬ ((whoInts G (sayI L ⟨kind, txn, yes, ff, tt, epoch, shard, target, root⟩) SL).length : Int) < 2 * f + 1) {sh lv : Value} {xs : List Int} (hxs : (whoInts G (sayI L ⟨kind, txn, yes, ff, tt, epoch, shard, target, root⟩) SL).take (2 * f + 1).toNat = xs) (hxl : xs.length ≤ 1024) (hget : getOk (num8 G ++ num8 (sayI L ⟨kind, txn, yes, ff, tt, epoch, shard, target, root⟩) ++ numsB xs)) (hG0 : (G == 0) = false) {L2 : List (List Int)} {gg bb : List Int} (hR : ∀ (w4 : World) (bC : Nat) (A : Option Addr) (cap : Nat) (v1 : Value), BookAt w4 g m base v1 (sayL L ⟨kind, txn, yes, ff, tt, epoch, shard, target, root⟩) → IntRow w4 bC A xs → bC ≤ w4.heap.size → Fr (fun k => k = g ∨ k = m ∨ v.ownBlock = some k) w w4 → (∀ k, v1.ownBlock = some k → v.ownBlock = some k ∨ w.heap.size ≤ k) → (∀ b o, A = some ⟨b, o, none⟩ → ¬ (b = g ∨ b = m ∨ v1.ownBlock = some b)) → Calls Tryz.prog 45 #[.pointer (some ⟨g, 0, none⟩), .agg #[.int .i64 0, .int .i64 0, .int .i64 0, .slice none 0 0, .slice none 0 0, .int .i64 kind, .int .i64 txn, .bool yes, .string ff, .string tt, .int .i64 epoch, .int .i64 shard, .int .i64 target, .int .i64 root, .int .i64 G, .int .i64 (sayI L ⟨kind, txn, yes, ff, tt, epoch, shard, target, root⟩), .slice A xs.length cap, .int .i64 0, .int .i64 0, .slice none 0 0, .slice none 0 0], .int .i64 G, lv] w4 (RelStep w4 g m base v1 L2 gg bb)) :
    Calls Tryz.prog 15 #[.pointer (some ⟨g, 0, none⟩), .pointer (some ⟨gs, 0, none⟩), .int .i64 f, .agg #[.int .i64 G, .int .i64 kind, .int .i64 txn, .bool yes, .string ff, .string tt, .int .i64 epoch, .int .i64 shard, .int .i64 target, .int .i64 root], sh, lv] w (OrdStep w g m base v L2 gs ms SL gg bb) := by
  obtain ⟨hf1, hf2⟩ := hf
  have hd1 : ¬ f < 0 := by omega
  have hd2 : ¬ 3 < f := by omega
  have hB0 := Blk.new w 25 #[.int .i64 G, .int .i64 kind, .int .i64 txn, .bool yes, .string ff, .string tt, .int .i64 epoch, .int .i64 shard, .int .i64 target, .int .i64 root]
  have hf0 : Fr (fun _ => False) w (w.alloc (Obj.cells #[.int .i64 G, .int .i64 kind, .int .i64 txn, .bool yes, .string ff, .string tt, .int .i64 epoch, .int .i64 shard, .int .i64 target, .int .i64 root] 25)) := (Fr.refl _ _).alloc _
  have hb0 := hb.keep hf0
  have HD := Lib.hid (say_Digest1 hb0.book (Nat.le_trans hbase hf0.size) hL kind txn yes ff tt epoch shard target root)
  have hso : saidO ⟨kind, txn, yes, ff, tt, epoch, shard, target, root⟩ = none := if_pos hok
  rw [hso, show errO none = .nilIface from rfl] at HD
  obtain ⟨D, hD⟩ : ∃ D, Hid (sayI L ⟨kind, txn, yes, ff, tt, epoch, shard, target, root⟩ = D) := ⟨_, rfl⟩
  rw [hD.out] at HD hmany hxs hget hR
  have HR := Lib.hid hR
  clear hR
  have HF := Lib.hid hmany
  have HXS := Lib.hid hxs
  have HXL := Lib.hid hxl
  have HG := Lib.hid hget
  have HOK := Lib.hid hok
  clear hmany hok hso hxs hget hxl
  go_enter Tryz.func15, Tryz.ntmps15
  go_upto_region 1 with fail
  generalize w.alloc (Obj.cells #[.int .i64 G, .int .i64 kind, .int .i64 txn, .bool yes, .string ff, .string tt, .int .i64 epoch, .int .i64 shard, .int .i64 target, .int .i64 root] 25) = w0 at *
  have k0 := hB0.cell 0
  have k1 := hB0.cell 1
  have k2 := hB0.cell 2
  have k3 := hB0.cell 3
  have k4 := hB0.cell 4
  have k5 := hB0.cell 5
  have k6 := hB0.cell 6
  have k7 := hB0.cell 7
  have k8 := hB0.cell 8
  have k9 := hB0.cell 9
  go_upto_region 4 with (go_at_call 42; refine HD.out.mono ?_; rintro e w1 ⟨v1, rfl, hb1, hf01, hk1⟩)
  have hB1 := hb0.bookFr hB0 (by decide) (by decide) (hf01.mono (fun _ _ h => h.elim .inl (fun h => .inr (h.elim .inl (fun h => .inr (.inl h))))))
  have hs1 := hb0.bookStep hb1 hf01
  have k0 := hB1.cell 0
  have k1 := hB1.cell 1
  have k2 := hB1.cell 2
  have k3 := hB1.cell 3
  have k4 := hB1.cell 4
  have k5 := hB1.cell 5
  have k6 := hB1.cell 6
  have k7 := hB1.cell 7
  have k8 := hB1.cell 8
  have k9 := hB1.cell 9
  have HC : Hid (Calls Tryz.prog 43 #[.pointer (some ⟨gs, 0, none⟩), .int .i64 G, .int .i64 D, .int .i64 (2 * f + 1)] w1 fun e w' => ∃ A cap, e = .returned (.tuple #[.agg #[.int .i64 G, .int .i64 D, .slice A xs.length cap], .nilIface]) ∧ IntRow w' w'.heap.size A xs ∧ Fr (fun _ => False) w1 w' ∧ ∀ b o, A = some ⟨b, o, none⟩ → w1.heap.size ≤ b) := by
    refine (cert_MakeF hs1.seals G D (2 * f + 1)).mono ?_
    rintro e w2 ⟨hf12, ⟨hno, _⟩ | ⟨_, A, cap, he, hr, hnew⟩⟩
    · exact absurd hno (by have := HF.out; omega)
    · rw [HXS.out] at he hr
      exact ⟨A, cap, he, hr, hf12, hnew⟩
  clear hb0 hB0 HD
  go_upto_region 9 with (go_at_call 43; refine HC.out.mono ?_; rintro e w2 ⟨A, cap, rfl, hr2, hf12, hnew⟩; replace hnew := Lib.hid hnew)
  have hf13 := hf12.alloc (Obj.cells #[.int .i64 G, .int .i64 D, .slice A xs.length cap] 41)
  have hB3 := (hB1.fr hf12 id).alloc (Obj.cells #[.int .i64 G, .int .i64 D, .slice A xs.length cap] 41)
  have hC3 := Blk.new w2 41 #[.int .i64 G, .int .i64 D, .slice A xs.length cap]
  have hr3 := hr2.fr ((Fr.refl (fun _ => False) w2).alloc (Obj.cells #[.int .i64 G, .int .i64 D, .slice A xs.length cap] 41)) (fun _ _ => id)
  have hz3 : w2.heap.size ≤ (w2.alloc (Obj.cells #[.int .i64 G, .int .i64 D, .slice A xs.length cap] 41)).heap.size := by simp
  generalize w2.alloc (Obj.cells #[.int .i64 G, .int .i64 D, .slice A xs.length cap] 41) = w3 at *
  clear hB1 k0 k1 k2 k3 k4 k5 k6 k7 k8 k9
  have k0 := hB3.cell 0
  have k1 := hB3.cell 1
  have k2 := hB3.cell 2
  have k3 := hB3.cell 3
  have k4 := hB3.cell 4
  have k5 := hB3.cell 5
  have k6 := hB3.cell 6
  have k7 := hB3.cell 7
  have k8 := hB3.cell 8
  have k9 := hB3.cell 9
  have c0 := hC3.cell 0
  have c1 := hC3.cell 1
  have c2 := hC3.cell 2
  go_upto_region 10 with (refine wpList_store_new rfl 62 (.tmp 16) (.tmp 48) rfl _ _ rfl rfl (by kernel_rfl) rfl (by simp [Value.oneCell']) ?_)
  have hO4 := Blk.new w3 62 #[.int .i64 0, .int .i64 0, .int .i64 0, .slice none 0 0, .slice none 0 0, .int .i64 kind, .int .i64 txn, .bool yes, .string ff, .string tt, .int .i64 epoch, .int .i64 shard, .int .i64 target, .int .i64 root, .int .i64 G, .int .i64 D, .slice A xs.length cap, .int .i64 0, .int .i64 0, .slice none 0 0, .slice none 0 0]
  have hB4 := hB3.alloc (Obj.cells #[.int .i64 0, .int .i64 0, .int .i64 0, .slice none 0 0, .slice none 0 0, .int .i64 kind, .int .i64 txn, .bool yes, .string ff, .string tt, .int .i64 epoch, .int .i64 shard, .int .i64 target, .int .i64 root, .int .i64 G, .int .i64 D, .slice A xs.length cap, .int .i64 0, .int .i64 0, .slice none 0 0, .slice none 0 0] 62)
  have hf34 : Fr (fun _ => False) w3 (w3.alloc (Obj.cells #[.int .i64 0, .int .i64 0, .int .i64 0, .slice none 0 0, .slice none 0 0, .int .i64 kind, .int .i64 txn, .bool yes, .string ff, .string tt, .int .i64 epoch, .int .i64 shard, .int .i64 target, .int .i64 root, .int .i64 G, .int .i64 D, .slice A xs.length cap, .int .i64 0, .int .i64 0, .slice none 0 0, .slice none 0 0] 62)) := (Fr.refl _ _).alloc _
  have hr4 := hr3.fr hf34 (fun _ _ => id)
  have hz4 : w2.heap.size ≤ (w3.alloc (Obj.cells #[.int .i64 0, .int .i64 0, .int .i64 0, .slice none 0 0, .slice none 0 0, .int .i64 kind, .int .i64 txn, .bool yes, .string ff, .string tt, .int .i64 epoch, .int .i64 shard, .int .i64 target, .int .i64 root, .int .i64 G, .int .i64 D, .slice A xs.length cap, .int .i64 0, .int .i64 0, .slice none 0 0, .slice none 0 0] 62)).heap.size := Nat.le_trans hz3 hf34.size
  generalize w3.alloc (Obj.cells #[.int .i64 0, .int .i64 0, .int .i64 0, .slice none 0 0, .slice none 0 0, .int .i64 kind, .int .i64 txn, .bool yes, .string ff, .string tt, .int .i64 epoch, .int .i64 shard, .int .i64 target, .int .i64 root, .int .i64 G, .int .i64 D, .slice A xs.length cap, .int .i64 0, .int .i64 0, .slice none 0 0, .slice none 0 0] 62) = w4 at *
  clear k0 k1 k2 k3 k4 k5 k6 k7 k8 k9 c0 c1 c2 hC3
  have k0 := hB4.cell 0
  have hf14 := hf13.then_ hf34
  have hs4 := hs1.keep hf14
  have hff4 := ((hf0.mono (fun _ _ h => h.elim)).trans hf01 (fun _ _ h => h)).then_ hf14
  have hk4 : ∀ k, v1.ownBlock = some k → v.ownBlock = some k ∨ w.heap.size ≤ k := fun k hk => (hk1 k hk).imp_right (Nat.le_trans hf0.size)
  have HT := HR.out w4 w4.heap.size A cap v1 hs4.book (fun k x hx => by obtain ⟨b, o, e, _, hc⟩ := hr4 k x hx; exact ⟨b, o, e, World.block_lt_of_cell? w4 _ hc, hc⟩) (Nat.le_refl _) hff4 hk4 (fun b o e h => by
    have h1 := hnew.out b o e
    rcases h with h | h | h
    · have := hs1.book.blk.lt; omega
    · obtain ⟨⟨es, cl, h3, _⟩, _⟩ := hs1.book.map; have := lt_of_heap h3; omega
    · obtain ⟨cs, hB⟩ := own_cells hs1.book.own h; have := hB.lt; omega)
  have HT := Lib.hid HT
  clear hr4 hr3 hr2
  go_wp2_with (first
    | (refine wpList_load_row rfl 62 _ rfl _ rfl _ _ (0, 0) _ hO4 Tryz.underlying62 rfl (by kernel_rfl) ?_)
    | (go_at_call 45; refine HT.out.mono ?_; rintro e w5 ⟨tv, v5, rfl, htv, hb5, hf45, hk5⟩))
  go_ret
  refine ⟨tv, v5, rfl, htv.base_ hff4.size, hs4.bookStep hb5 hf45, hff4.trans hf45 (fun k hk e => ?_), fun k hk => ?_⟩
  · rcases e with e | e | e
    · exact .inl e
    · exact .inr (.inl e)
    · exact (hk4 k e).elim (fun e => .inr (.inr e)) (fun e => absurd hk (by omega))
  · exact (hk5 k hk).elim (fun e => hk4 k e) (fun e => .inr (Nat.le_trans hff4.size e))
set_option maxRecDepth 100000 in
set_option maxHeartbeats 2000000 in
theorem orders_ruled {w : World} {g m base : Nat} {v : Value} {L : List (List Int)} {gs ms : Nat} {SL : List (Int × Int)} (hb : BS w g m base v L gs ms SL) (hbase : base ≤ w.heap.size) (hL : L.length < 65536) {kind txn : Int} {yes : Bool} {ff tt : ByteArray} {epoch shard target root : Int} (hok : OkSay ⟨kind, txn, yes, ff, tt, epoch, shard, target, root⟩) {G f : Int} (hf : 0 ≤ f ∧ f ≤ 3) (hmany : ¬ ((whoInts G (sayI L ⟨kind, txn, yes, ff, tt, epoch, shard, target, root⟩) SL).length : Int) < 2 * f + 1) {sh lv : Value} {xs : List Int} (hxs : (whoInts G (sayI L ⟨kind, txn, yes, ff, tt, epoch, shard, target, root⟩) SL).take (2 * f + 1).toNat = xs) (hxl : xs.length ≤ 1024) (hget : getOk (num8 G ++ num8 (sayI L ⟨kind, txn, yes, ff, tt, epoch, shard, target, root⟩) ++ numsB xs)) (hG0 : (G == 0) = true) {L2 : List (List Int)} {gg bb : List Int} (hR : ∀ (w4 : World) (bC : Nat) (A : Option Addr) (cap : Nat) (v1 : Value), BookAt w4 g m base v1 (sayL L ⟨kind, txn, yes, ff, tt, epoch, shard, target, root⟩) → IntRow w4 bC A xs → bC ≤ w4.heap.size → Fr (fun k => k = g ∨ k = m ∨ v.ownBlock = some k) w w4 → (∀ k, v1.ownBlock = some k → v.ownBlock = some k ∨ w.heap.size ≤ k) → (∀ b o, A = some ⟨b, o, none⟩ → ¬ (b = g ∨ b = m ∨ v1.ownBlock = some b)) → Calls Tryz.prog 44 #[.pointer (some ⟨g, 0, none⟩), .agg #[.int .i64 0, .int .i64 0, .int .i64 0, .slice none 0 0, .slice none 0 0, .int .i64 kind, .int .i64 txn, .bool yes, .string ff, .string tt, .int .i64 epoch, .int .i64 shard, .int .i64 target, .int .i64 root, .int .i64 G, .int .i64 (sayI L ⟨kind, txn, yes, ff, tt, epoch, shard, target, root⟩), .slice A xs.length cap, .int .i64 0, .int .i64 0, .slice none 0 0, .slice none 0 0], sh] w4 (RelStep w4 g m base v1 L2 gg bb)) :
    Calls Tryz.prog 15 #[.pointer (some ⟨g, 0, none⟩), .pointer (some ⟨gs, 0, none⟩), .int .i64 f, .agg #[.int .i64 G, .int .i64 kind, .int .i64 txn, .bool yes, .string ff, .string tt, .int .i64 epoch, .int .i64 shard, .int .i64 target, .int .i64 root], sh, lv] w (OrdStep w g m base v L2 gs ms SL gg bb) := by
  obtain ⟨hf1, hf2⟩ := hf
  have hd1 : ¬ f < 0 := by omega
  have hd2 : ¬ 3 < f := by omega
  have hB0 := Blk.new w 25 #[.int .i64 G, .int .i64 kind, .int .i64 txn, .bool yes, .string ff, .string tt, .int .i64 epoch, .int .i64 shard, .int .i64 target, .int .i64 root]
  have hf0 : Fr (fun _ => False) w (w.alloc (Obj.cells #[.int .i64 G, .int .i64 kind, .int .i64 txn, .bool yes, .string ff, .string tt, .int .i64 epoch, .int .i64 shard, .int .i64 target, .int .i64 root] 25)) := (Fr.refl _ _).alloc _
  have hb0 := hb.keep hf0
  have HD := Lib.hid (say_Digest1 hb0.book (Nat.le_trans hbase hf0.size) hL kind txn yes ff tt epoch shard target root)
  have hso : saidO ⟨kind, txn, yes, ff, tt, epoch, shard, target, root⟩ = none := if_pos hok
  rw [hso, show errO none = .nilIface from rfl] at HD
  obtain ⟨D, hD⟩ : ∃ D, Hid (sayI L ⟨kind, txn, yes, ff, tt, epoch, shard, target, root⟩ = D) := ⟨_, rfl⟩
  rw [hD.out] at HD hmany hxs hget hR
  have HR := Lib.hid hR
  clear hR
  have HF := Lib.hid hmany
  have HXS := Lib.hid hxs
  have HXL := Lib.hid hxl
  have HG := Lib.hid hget
  have HOK := Lib.hid hok
  clear hmany hok hso hxs hget hxl
  go_enter Tryz.func15, Tryz.ntmps15
  go_upto_region 1 with fail
  generalize w.alloc (Obj.cells #[.int .i64 G, .int .i64 kind, .int .i64 txn, .bool yes, .string ff, .string tt, .int .i64 epoch, .int .i64 shard, .int .i64 target, .int .i64 root] 25) = w0 at *
  have k0 := hB0.cell 0
  have k1 := hB0.cell 1
  have k2 := hB0.cell 2
  have k3 := hB0.cell 3
  have k4 := hB0.cell 4
  have k5 := hB0.cell 5
  have k6 := hB0.cell 6
  have k7 := hB0.cell 7
  have k8 := hB0.cell 8
  have k9 := hB0.cell 9
  go_upto_region 4 with (go_at_call 42; refine HD.out.mono ?_; rintro e w1 ⟨v1, rfl, hb1, hf01, hk1⟩)
  have hB1 := hb0.bookFr hB0 (by decide) (by decide) (hf01.mono (fun _ _ h => h.elim .inl (fun h => .inr (h.elim .inl (fun h => .inr (.inl h))))))
  have hs1 := hb0.bookStep hb1 hf01
  have k0 := hB1.cell 0
  have k1 := hB1.cell 1
  have k2 := hB1.cell 2
  have k3 := hB1.cell 3
  have k4 := hB1.cell 4
  have k5 := hB1.cell 5
  have k6 := hB1.cell 6
  have k7 := hB1.cell 7
  have k8 := hB1.cell 8
  have k9 := hB1.cell 9
  have HC : Hid (Calls Tryz.prog 43 #[.pointer (some ⟨gs, 0, none⟩), .int .i64 G, .int .i64 D, .int .i64 (2 * f + 1)] w1 fun e w' => ∃ A cap, e = .returned (.tuple #[.agg #[.int .i64 G, .int .i64 D, .slice A xs.length cap], .nilIface]) ∧ IntRow w' w'.heap.size A xs ∧ Fr (fun _ => False) w1 w' ∧ ∀ b o, A = some ⟨b, o, none⟩ → w1.heap.size ≤ b) := by
    refine (cert_MakeF hs1.seals G D (2 * f + 1)).mono ?_
    rintro e w2 ⟨hf12, ⟨hno, _⟩ | ⟨_, A, cap, he, hr, hnew⟩⟩
    · exact absurd hno (by have := HF.out; omega)
    · rw [HXS.out] at he hr
      exact ⟨A, cap, he, hr, hf12, hnew⟩
  clear hb0 hB0 HD
  go_upto_region 9 with (go_at_call 43; refine HC.out.mono ?_; rintro e w2 ⟨A, cap, rfl, hr2, hf12, hnew⟩; replace hnew := Lib.hid hnew)
  have hf13 := hf12.alloc (Obj.cells #[.int .i64 G, .int .i64 D, .slice A xs.length cap] 41)
  have hB3 := (hB1.fr hf12 id).alloc (Obj.cells #[.int .i64 G, .int .i64 D, .slice A xs.length cap] 41)
  have hC3 := Blk.new w2 41 #[.int .i64 G, .int .i64 D, .slice A xs.length cap]
  have hr3 := hr2.fr ((Fr.refl (fun _ => False) w2).alloc (Obj.cells #[.int .i64 G, .int .i64 D, .slice A xs.length cap] 41)) (fun _ _ => id)
  have hz3 : w2.heap.size ≤ (w2.alloc (Obj.cells #[.int .i64 G, .int .i64 D, .slice A xs.length cap] 41)).heap.size := by simp
  generalize w2.alloc (Obj.cells #[.int .i64 G, .int .i64 D, .slice A xs.length cap] 41) = w3 at *
  clear hB1 k0 k1 k2 k3 k4 k5 k6 k7 k8 k9
  have k0 := hB3.cell 0
  have k1 := hB3.cell 1
  have k2 := hB3.cell 2
  have k3 := hB3.cell 3
  have k4 := hB3.cell 4
  have k5 := hB3.cell 5
  have k6 := hB3.cell 6
  have k7 := hB3.cell 7
  have k8 := hB3.cell 8
  have k9 := hB3.cell 9
  have c0 := hC3.cell 0
  have c1 := hC3.cell 1
  have c2 := hC3.cell 2
  go_upto_region 10 with (refine wpList_store_new rfl 62 (.tmp 16) (.tmp 48) rfl _ _ rfl rfl (by kernel_rfl) rfl (by simp [Value.oneCell']) ?_)
  have hO4 := Blk.new w3 62 #[.int .i64 0, .int .i64 0, .int .i64 0, .slice none 0 0, .slice none 0 0, .int .i64 kind, .int .i64 txn, .bool yes, .string ff, .string tt, .int .i64 epoch, .int .i64 shard, .int .i64 target, .int .i64 root, .int .i64 G, .int .i64 D, .slice A xs.length cap, .int .i64 0, .int .i64 0, .slice none 0 0, .slice none 0 0]
  have hB4 := hB3.alloc (Obj.cells #[.int .i64 0, .int .i64 0, .int .i64 0, .slice none 0 0, .slice none 0 0, .int .i64 kind, .int .i64 txn, .bool yes, .string ff, .string tt, .int .i64 epoch, .int .i64 shard, .int .i64 target, .int .i64 root, .int .i64 G, .int .i64 D, .slice A xs.length cap, .int .i64 0, .int .i64 0, .slice none 0 0, .slice none 0 0] 62)
  have hf34 : Fr (fun _ => False) w3 (w3.alloc (Obj.cells #[.int .i64 0, .int .i64 0, .int .i64 0, .slice none 0 0, .slice none 0 0, .int .i64 kind, .int .i64 txn, .bool yes, .string ff, .string tt, .int .i64 epoch, .int .i64 shard, .int .i64 target, .int .i64 root, .int .i64 G, .int .i64 D, .slice A xs.length cap, .int .i64 0, .int .i64 0, .slice none 0 0, .slice none 0 0] 62)) := (Fr.refl _ _).alloc _
  have hr4 := hr3.fr hf34 (fun _ _ => id)
  have hz4 : w2.heap.size ≤ (w3.alloc (Obj.cells #[.int .i64 0, .int .i64 0, .int .i64 0, .slice none 0 0, .slice none 0 0, .int .i64 kind, .int .i64 txn, .bool yes, .string ff, .string tt, .int .i64 epoch, .int .i64 shard, .int .i64 target, .int .i64 root, .int .i64 G, .int .i64 D, .slice A xs.length cap, .int .i64 0, .int .i64 0, .slice none 0 0, .slice none 0 0] 62)).heap.size := Nat.le_trans hz3 hf34.size
  generalize w3.alloc (Obj.cells #[.int .i64 0, .int .i64 0, .int .i64 0, .slice none 0 0, .slice none 0 0, .int .i64 kind, .int .i64 txn, .bool yes, .string ff, .string tt, .int .i64 epoch, .int .i64 shard, .int .i64 target, .int .i64 root, .int .i64 G, .int .i64 D, .slice A xs.length cap, .int .i64 0, .int .i64 0, .slice none 0 0, .slice none 0 0] 62) = w4 at *
  clear k0 k1 k2 k3 k4 k5 k6 k7 k8 k9 c0 c1 c2 hC3
  have k0 := hB4.cell 0
  have hf14 := hf13.then_ hf34
  have hs4 := hs1.keep hf14
  have hff4 := ((hf0.mono (fun _ _ h => h.elim)).trans hf01 (fun _ _ h => h)).then_ hf14
  have hk4 : ∀ k, v1.ownBlock = some k → v.ownBlock = some k ∨ w.heap.size ≤ k := fun k hk => (hk1 k hk).imp_right (Nat.le_trans hf0.size)
  have HT := HR.out w4 w4.heap.size A cap v1 hs4.book (fun k x hx => by obtain ⟨b, o, e, _, hc⟩ := hr4 k x hx; exact ⟨b, o, e, World.block_lt_of_cell? w4 _ hc, hc⟩) (Nat.le_refl _) hff4 hk4 (fun b o e h => by
    have h1 := hnew.out b o e
    rcases h with h | h | h
    · have := hs1.book.blk.lt; omega
    · obtain ⟨⟨es, cl, h3, _⟩, _⟩ := hs1.book.map; have := lt_of_heap h3; omega
    · obtain ⟨cs, hB⟩ := own_cells hs1.book.own h; have := hB.lt; omega)
  have HT := Lib.hid HT
  clear hr4 hr3 hr2
  go_wp2_with (first
    | (refine wpList_load_row rfl 62 _ rfl _ rfl _ _ (0, 0) _ hO4 Tryz.underlying62 rfl (by kernel_rfl) ?_)
    | (go_at_call 44; refine HT.out.mono ?_; rintro e w5 ⟨tv, v5, rfl, htv, hb5, hf45, hk5⟩))
  go_ret
  refine ⟨tv, v5, rfl, htv.base_ hff4.size, hs4.bookStep hb5 hf45, hff4.trans hf45 (fun k hk e => ?_), fun k hk => ?_⟩
  · rcases e with e | e | e
    · exact .inl e
    · exact .inr (.inl e)
    · exact (hk4 k e).elim (fun e => .inr (.inr e)) (fun e => absurd hk (by omega))
  · exact (hk5 k hk).elim (fun e => hk4 k e) (fun e => .inr (Nat.le_trans hff4.size e))
end Go.Proofs.YtmkdhhhoodeemaaGreat

/- relay: Orders of whatever a group said. -/
namespace Go.Proofs.YtmkdhhhoodeemaaGreat
open Go Go.RowKit
/-- The group that may say it. -/
def byOf (kind shard target : Int) : Int := if kind = 1 ∨ kind = 3 ∨ kind = 4 ∨ kind = 7 then 0 else if kind = 6 then wrap64 (target + 1) else wrap64 (shard + 1)
/-- Nothing may come of it. -/
def Forced (n : Nat) (G : Int) (s : SayD) : Prop := n < 3 ∨ G ≠ byOf s.kind s.shard s.target ∨ s.kind = 8 ∨ s.kind = 9 ∨ ¬ OkSay s
theorem forced_no {n : Nat} {G : Int} {s : SayD} (h1 : ¬ n < 3) (h2 : G = byOf s.kind s.shard s.target) (h3 : s.kind ≠ 8) (h4 : s.kind ≠ 9) (h5 : OkSay s) : ¬ Forced n G s := by
  rintro (h | h | h | h | h)
  · exact h1 h
  · exact h h2
  · exact h3 h
  · exact h4 h
  · exact h h5
theorem who_mem {G D : Int} {L : List (Int × Int)} {x : Int} (h : x ∈ whoInts G D L) : 0 ≤ x ∧ 0 ≤ memberOf G x := by
  obtain ⟨i, hi, rfl⟩ := List.mem_map.1 h
  have := (List.mem_filter.1 hi).2
  simp only [decide_eq_true_eq] at this
  exact ⟨by omega, this.1⟩
theorem member_ge {G x : Int} (h : 0 ≤ memberOf G x) : (0 ≤ G ∧ G < 8) ∧ (0 ≤ x ∧ x < 10) := by
  unfold memberOf at h
  split at h
  · omega
  · omega
theorem get_who {G D : Int} {SL : List (Int × Int)} (hn : ¬ (whoInts G D SL).length < 3) (hD : 0 ≤ D ∧ D < 2147483648) : (0 ≤ G ∧ G < 8) ∧ ((whoInts G D SL).take 3).length ≤ 1024 ∧ getOk (num8 G ++ num8 D ++ numsB ((whoInts G D SL).take 3)) := by
  have hm : ∀ y ∈ (whoInts G D SL).take 3, (0 ≤ G ∧ G < 8) ∧ (0 ≤ y ∧ y < 10) := fun y hy => member_ge (who_mem (List.mem_of_mem_take hy)).2
  have hG : 0 ≤ G ∧ G < 8 := by
    obtain ⟨y, hy⟩ : ∃ y, y ∈ whoInts G D SL := by
      cases h : whoInts G D SL with
      | nil => rw [h] at hn; simp at hn
      | cons a l => exact ⟨a, by simp⟩
    exact (member_ge (who_mem hy).2).1
  have hl : ((whoInts G D SL).take 3).length ≤ 1024 := by rw [List.length_take]; omega
  refine ⟨hG, hl, ?_⟩
  exact (put_get hl ⟨by omega, by omega⟩ ⟨by omega, by omega⟩ (fun y hy => by have := (hm y hy).2; unfold Wf64; omega)).1.2 ⟨⟨by omega, by omega, by omega, by omega⟩, fun y hy => by have := (hm y hy).2; omega⟩
theorem GoodL.book {L : List (List Int)} (h : GoodL L) (l : List Ent) : GoodL (bookOf L l) := by
  unfold bookOf
  split
  · exact h.dig (by decide)
  · exact h
theorem bookOf_prefix (L : List (List Int)) (l : List Ent) : L <+: bookOf L l := by
  unfold bookOf
  split
  · exact digL_prefix _ _
  · exact List.prefix_rfl
theorem okSay_parts {kind txn : Int} {yes : Bool} {ff tt : ByteArray} {epoch shard target root : Int} (h : OkSay ⟨kind, txn, yes, ff, tt, epoch, shard, target, root⟩) : (1 ≤ kind ∧ kind ≤ 9) ∧ (0 ≤ shard ∧ shard ≤ 3) ∧ (0 ≤ target ∧ target ≤ 3) := by
  obtain ⟨a0, a1, a2, a3, a4, a5, a6, a7, a8, a9, a10, a11, a12, a13⟩ := h
  dsimp only at a0 a1 a10 a11 a12 a13
  omega
def AnyOrd (w : World) (g m base : Nat) (v : Value) (L : List (List Int)) (gs ms : Nat) (SL : List (Int × Int)) (G : Int) (s : SayD) (sh lv : Value) : Prop :=
  ∃ gg bb L', GoodL L' ∧ L <+: L' ∧ (Forced (whoInts G (sayI L s) SL).length G s → gg = []) ∧
    Calls Tryz.prog 15 #[.pointer (some ⟨g, 0, none⟩), .pointer (some ⟨gs, 0, none⟩), .int .i64 1, .agg #[.int .i64 G, .int .i64 s.kind, .int .i64 s.txn, .bool s.yes, .string s.from_, .string s.to_, .int .i64 s.epoch, .int .i64 s.shard, .int .i64 s.target, .int .i64 s.root], sh, lv] w (OrdStep w g m base v L' gs ms SL gg bb)
set_option maxHeartbeats 1000000 in
theorem orders_any {w : World} {g m base : Nat} {v : Value} {L : List (List Int)} {gs ms : Nat} {SL : List (Int × Int)} (hb : BS w g m base v L gs ms SL) (hbase : base ≤ w.heap.size) (hL : L.length < 60000) (hgl : GoodL L) {kind txn : Int} {yes : Bool} {ff tt : ByteArray} {epoch shard target root : Int} {G : Int}
    {bS : Nat} {SA : Option Addr} {sc : Nat} {ss : List Int} (hSh : IntRow w bS SA ss) (hbS : bS ≤ w.heap.size) (hSA : ∀ b o, SA = some ⟨b, o, none⟩ → ¬ (b = g ∨ b = m ∨ v.ownBlock = some b)) (hsl : ss.length ≤ 1000)
    {FE : Nat → Prop} {LA : Option Addr} {lc : Nat} {l : List Ent} (hE : EntRow w FE LA l) (hFE : ∀ k, FE k → ¬ (k = g ∨ k = m ∨ v.ownBlock = some k)) (hll : l.length ≤ 60000) :
    AnyOrd w g m base v L gs ms SL G ⟨kind, txn, yes, ff, tt, epoch, shard, target, root⟩ (.slice SA ss.length sc) (.slice LA l.length lc) := by
  by_cases hnok : ¬ OkSay ⟨kind, txn, yes, ff, tt, epoch, shard, target, root⟩
  · exact ⟨[], [], L, hgl, List.prefix_rfl, fun _ => rfl, orders_bad hb hbase (by omega) hnok (by omega)⟩
  have hok : OkSay ⟨kind, txn, yes, ff, tt, epoch, shard, target, root⟩ := Decidable.of_not_not hnok
  clear hnok
  by_cases hfew : (whoInts G (sayI L ⟨kind, txn, yes, ff, tt, epoch, shard, target, root⟩) SL).length < 3
  · exact ⟨[], [], _, hgl.say _, sayL_prefix L _, fun _ => rfl, orders_few hb hbase (by omega) hok (by omega) (by omega)⟩
  have hD : 0 ≤ sayI L ⟨kind, txn, yes, ff, tt, epoch, shard, target, root⟩ ∧ sayI L ⟨kind, txn, yes, ff, tt, epoch, shard, target, root⟩ < 2147483648 := by
    unfold sayI
    rw [if_pos hok]
    have : digI L (sayB ⟨kind, txn, yes, ff, tt, epoch, shard, target, root⟩) ≤ L.length := by
      unfold digI
      split
      · exact List.idxOf_le_length
      · exact Nat.le_refl _
    omega
  obtain ⟨hGr, hxl, hget⟩ := get_who hfew hD
  obtain ⟨hkd, hshd, htg⟩ := okSay_parts hok
  obtain ⟨xs, hXS⟩ : ∃ xs, (whoInts G (sayI L ⟨kind, txn, yes, ff, tt, epoch, shard, target, root⟩) SL).take 3 = xs := ⟨_, rfl⟩
  rw [hXS] at hxl hget
  have hXS : (whoInts G (sayI L ⟨kind, txn, yes, ff, tt, epoch, shard, target, root⟩) SL).take ((2 * (1 : Int) + 1).toNat) = xs := hXS
  have hsl1 := sayL_len L ⟨kind, txn, yes, ff, tt, epoch, shard, target, root⟩
  have hpf := sayL_prefix L ⟨kind, txn, yes, ff, tt, epoch, shard, target, root⟩
  have hgl1 := hgl.say ⟨kind, txn, yes, ff, tt, epoch, shard, target, root⟩
  have hw1 : wrap64 (shard + 1) = shard + 1 := by unfold wrap64; omega
  have hw2 : wrap64 (target + 1) = target + 1 := by unfold wrap64; omega
  by_cases hG : G = 0
  · subst hG
    by_cases hk : kind = 4
    · subst hk
      refine ⟨[shard + 1], orderB 3 [] (sayB ⟨4, txn, yes, ff, tt, epoch, shard, target, root⟩) (certB 0 (sayI L ⟨4, txn, yes, ff, tt, epoch, shard, target, root⟩) xs), (sayL L ⟨4, txn, yes, ff, tt, epoch, shard, target, root⟩), ?_, ?_, ?_, orders_ruled hb hbase (by omega) hok (by omega) (by omega) hXS hxl hget (by rfl) (fun w4 bC A cap v1 hb4 hr4 hz4 hf4 hk4 hA4 => ?_)⟩
      · exact hgl1
      · exact hpf
      · exact fun h => absurd h (forced_no hfew (by unfold byOf; simp [hw1, hw2]) (by dsimp only; decide) (by dsimp only; decide) hok)
      · exact (ruled_freeze hok hr4 hz4 hxl hget).mono fun _ _ h => h.rel hb4
    by_cases hk : kind = 7
    · subst hk
      refine ⟨[shard + 1, target + 1], orderB 5 [] (sayB ⟨7, txn, yes, ff, tt, epoch, shard, target, root⟩) (certB 0 (sayI L ⟨7, txn, yes, ff, tt, epoch, shard, target, root⟩) xs), (sayL L ⟨7, txn, yes, ff, tt, epoch, shard, target, root⟩), ?_, ?_, ?_, orders_ruled hb hbase (by omega) hok (by omega) (by omega) hXS hxl hget (by rfl) (fun w4 bC A cap v1 hb4 hr4 hz4 hf4 hk4 hA4 => ?_)⟩
      · exact hgl1
      · exact hpf
      · exact fun h => absurd h (forced_no hfew (by unfold byOf; simp [hw1, hw2]) (by dsimp only; decide) (by dsimp only; decide) hok)
      · exact (ruled_own hok hr4 hz4 hxl hget).mono fun _ _ h => h.rel hb4
    by_cases hk : kind = 3
    · subst hk
      refine ⟨(ss.map fun s => wrap64 (s + 1)), orderB 2 [] (sayB ⟨3, txn, yes, ff, tt, epoch, shard, target, root⟩) (certB 0 (sayI L ⟨3, txn, yes, ff, tt, epoch, shard, target, root⟩) xs), (sayL L ⟨3, txn, yes, ff, tt, epoch, shard, target, root⟩), ?_, ?_, ?_, orders_ruled hb hbase (by omega) hok (by omega) (by omega) hXS hxl hget (by rfl) (fun w4 bC A cap v1 hb4 hr4 hz4 hf4 hk4 hA4 => ?_)⟩
      · exact hgl1
      · exact hpf
      · exact fun h => absurd h (forced_no hfew (by unfold byOf; simp [hw1, hw2]) (by dsimp only; decide) (by dsimp only; decide) hok)
      · exact (ruled_decide hok hr4 hz4 hxl hget (hSh.away hf4 hSA) (Nat.le_trans hbS hf4.size) hsl).mono fun _ _ h => h.rel hb4
    by_cases hk : kind = 1
    · subst hk
      by_cases hT : ∃ bs, (sayL L ⟨1, txn, yes, ff, tt, epoch, shard, target, root⟩)[txn.toNat]? = some bs ∧ IsTxn bs
      · obtain ⟨bs, hbs, hT⟩ := hT
        refine ⟨[shard + 1], orderB 1 bs (sayB ⟨1, txn, yes, ff, tt, epoch, shard, target, root⟩) (certB 0 (sayI L ⟨1, txn, yes, ff, tt, epoch, shard, target, root⟩) xs), (sayL L ⟨1, txn, yes, ff, tt, epoch, shard, target, root⟩), ?_, ?_, ?_, orders_ruled hb hbase (by omega) hok (by omega) (by omega) hXS hxl hget (by rfl) (fun w4 bC A cap v1 hb4 hr4 hz4 hf4 hk4 hA4 => ?_)⟩
        · exact hgl1
        · exact hpf
        · exact fun h => absurd h (forced_no hfew (by unfold byOf; simp [hw1, hw2]) (by dsimp only; decide) (by dsimp only; decide) hok)
        · refine (ruled_begin hok hr4 hz4 hxl hget hb4 (by omega) hgl1.2).mono ?_
          rintro e w' (⟨b, h1, h2, h3⟩ | ⟨h1, _⟩)
          · rw [hbs] at h1
            cases h1
            exact h3.rel hb4
          · exact absurd hT (h1 bs hbs)
      · refine ⟨[], [], (sayL L ⟨1, txn, yes, ff, tt, epoch, shard, target, root⟩), ?_, ?_, ?_, orders_ruled hb hbase (by omega) hok (by omega) (by omega) hXS hxl hget (by rfl) (fun w4 bC A cap v1 hb4 hr4 hz4 hf4 hk4 hA4 => ?_)⟩
        · exact hgl1
        · exact hpf
        · exact fun _ => rfl
        · refine (ruled_begin hok hr4 hz4 hxl hget hb4 (by omega) hgl1.2).mono ?_
          rintro e w' (⟨b, h1, h2, h3⟩ | ⟨_, h1⟩)
          · exact absurd ⟨b, h1, h2⟩ hT
          · exact h1.rel hb4
    refine ⟨[], [], (sayL L ⟨kind, txn, yes, ff, tt, epoch, shard, target, root⟩), ?_, ?_, ?_, orders_ruled hb hbase (by omega) hok (by omega) (by omega) hXS hxl hget (by rfl) (fun w4 bC A cap v1 hb4 hr4 hz4 hf4 hk4 hA4 => ?_)⟩
    · exact hgl1
    · exact hpf
    · exact fun _ => rfl
    · exact (ruled_none hok (beq_eq_false_iff_ne.2 (by assumption)) (beq_eq_false_iff_ne.2 (by assumption)) (beq_eq_false_iff_ne.2 (by assumption)) (beq_eq_false_iff_ne.2 (by assumption))).mono fun _ _ h => h.rel hb4
  · have hG0 : (G == 0) = false := beq_eq_false_iff_ne.2 hG
    by_cases hk : kind = 2
    · subst hk
      by_cases hfr : G = shard + 1
      · refine ⟨[0], orderB 7 [] (sayB ⟨2, txn, yes, ff, tt, epoch, shard, target, root⟩) (certB G (sayI L ⟨2, txn, yes, ff, tt, epoch, shard, target, root⟩) xs), (sayL L ⟨2, txn, yes, ff, tt, epoch, shard, target, root⟩), ?_, ?_, ?_, orders_told hb hbase (by omega) hok (by omega) (by omega) hXS hxl hget hG0 (fun w4 bC A cap v1 hb4 hr4 hz4 hf4 hk4 hA4 => ?_)⟩
        · exact hgl1
        · exact hpf
        · exact fun h => absurd h (forced_no hfew (by unfold byOf; simp [hw1, hw2]; exact hfr) (by dsimp only; decide) (by dsimp only; decide) hok)
        · exact (told_vote hok hr4 hz4 hxl hget hfr).mono fun _ _ h => h.rel hb4
      · refine ⟨[], [], (sayL L ⟨2, txn, yes, ff, tt, epoch, shard, target, root⟩), ?_, ?_, ?_, orders_told hb hbase (by omega) hok (by omega) (by omega) hXS hxl hget hG0 (fun w4 bC A cap v1 hb4 hr4 hz4 hf4 hk4 hA4 => ?_)⟩
        · exact hgl1
        · exact hpf
        · exact fun _ => rfl
        · exact (told_vote_no hok (beq_eq_false_iff_ne.2 hfr)).mono fun _ _ h => h.rel hb4
    by_cases hk : kind = 6
    · subst hk
      by_cases hfr : G = target + 1
      · refine ⟨[0], orderB 10 [] (sayB ⟨6, txn, yes, ff, tt, epoch, shard, target, root⟩) (certB G (sayI L ⟨6, txn, yes, ff, tt, epoch, shard, target, root⟩) xs), (sayL L ⟨6, txn, yes, ff, tt, epoch, shard, target, root⟩), ?_, ?_, ?_, orders_told hb hbase (by omega) hok (by omega) (by omega) hXS hxl hget hG0 (fun w4 bC A cap v1 hb4 hr4 hz4 hf4 hk4 hA4 => ?_)⟩
        · exact hgl1
        · exact hpf
        · exact fun h => absurd h (forced_no hfew (by unfold byOf; simp [hw1, hw2]; exact hfr) (by dsimp only; decide) (by dsimp only; decide) hok)
        · exact (told_imp hok hr4 hz4 hxl hget hfr).mono fun _ _ h => h.rel hb4
      · refine ⟨[], [], (sayL L ⟨6, txn, yes, ff, tt, epoch, shard, target, root⟩), ?_, ?_, ?_, orders_told hb hbase (by omega) hok (by omega) (by omega) hXS hxl hget hG0 (fun w4 bC A cap v1 hb4 hr4 hz4 hf4 hk4 hA4 => ?_)⟩
        · exact hgl1
        · exact hpf
        · exact fun _ => rfl
        · exact (told_imp_no hok (beq_eq_false_iff_ne.2 hfr)).mono fun _ _ h => h.rel hb4
    by_cases hk : kind = 5
    · subst hk
      by_cases hfr : G = shard + 1
      · by_cases hri : risesE (keepE ff tt l) = true
        · refine ⟨[target + 1], (ordB 4 [] (sayB ⟨5, txn, yes, ff, tt, epoch, shard, target, root⟩) (certB G (sayI L ⟨5, txn, yes, ff, tt, epoch, shard, target, root⟩) xs) (keepE ff tt l).length 0 (keepE ff tt l) (besideOf (sayL L ⟨5, txn, yes, ff, tt, epoch, shard, target, root⟩) (keepE ff tt l))), (bookOf (sayL L ⟨5, txn, yes, ff, tt, epoch, shard, target, root⟩) (keepE ff tt l)), ?_, ?_, ?_, orders_told hb hbase (by omega) hok (by omega) (by omega) hXS hxl hget hG0 (fun w4 bC A cap v1 hb4 hr4 hz4 hf4 hk4 hA4 => ?_)⟩
          · exact hgl1.book _
          · exact hpf.trans (bookOf_prefix _ _)
          · exact fun h => absurd h (forced_no hfew (by unfold byOf; simp [hw1, hw2]; exact hfr) (by dsimp only; decide) (by dsimp only; decide) hok)
          · exact told_fro hok (hE.fr hf4 hFE) hll hr4 hz4 hxl hget hb4 (Nat.le_trans hbase hf4.size) (by omega) hA4 hfr hri
        · refine ⟨[], [], (sayL L ⟨5, txn, yes, ff, tt, epoch, shard, target, root⟩), ?_, ?_, ?_, orders_told hb hbase (by omega) hok (by omega) (by omega) hXS hxl hget hG0 (fun w4 bC A cap v1 hb4 hr4 hz4 hf4 hk4 hA4 => ?_)⟩
          · exact hgl1
          · exact hpf
          · exact fun _ => rfl
          · exact (told_fro_bad hok (hE.fr hf4 hFE) hll hfr (by simpa using hri)).mono fun _ _ h => h.rel hb4
      · refine ⟨[], [], (sayL L ⟨5, txn, yes, ff, tt, epoch, shard, target, root⟩), ?_, ?_, ?_, orders_told hb hbase (by omega) hok (by omega) (by omega) hXS hxl hget hG0 (fun w4 bC A cap v1 hb4 hr4 hz4 hf4 hk4 hA4 => ?_)⟩
        · exact hgl1
        · exact hpf
        · exact fun _ => rfl
        · exact (told_fro_no hok (hE.fr hf4 hFE) hll (beq_eq_false_iff_ne.2 hfr)).mono fun _ _ h => h.rel hb4
    refine ⟨[], [], (sayL L ⟨kind, txn, yes, ff, tt, epoch, shard, target, root⟩), ?_, ?_, ?_, orders_told hb hbase (by omega) hok (by omega) (by omega) hXS hxl hget hG0 (fun w4 bC A cap v1 hb4 hr4 hz4 hf4 hk4 hA4 => ?_)⟩
    · exact hgl1
    · exact hpf
    · exact fun _ => rfl
    · exact (told_none hok (beq_eq_false_iff_ne.2 (by assumption)) (beq_eq_false_iff_ne.2 (by assumption)) (beq_eq_false_iff_ne.2 (by assumption))).mono fun _ _ h => h.rel hb4
end Go.Proofs.YtmkdhhhoodeemaaGreat
