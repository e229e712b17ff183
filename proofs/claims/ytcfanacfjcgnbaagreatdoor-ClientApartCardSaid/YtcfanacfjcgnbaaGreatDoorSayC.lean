/- say: Check. -/
import Derived.Test.YtcfanacfjcgnbaaGreatDoorSay
namespace Go.Proofs.YtcfanacfjcgnbaaGreatDoor
open Go Go.RowKit
def saidO (s : SayD) : Option (List (ByteArray × Int) × Int) := if OkSay s then none else some ([((⟨#[115, 97, 121]⟩ : ByteArray), s.kind)], 111)
set_option maxRecDepth 100000 in
set_option maxHeartbeats 2000000 in
theorem say_Check1 (w : World) (kind txn : Int) (yes : Bool) (fr to : ByteArray) (epoch shard target root : Int) :
    Calls Tryz.prog 76 #[.agg #[.int .i64 kind, .int .i64 txn, .bool yes, .string fr, .string to, .int .i64 epoch, .int .i64 shard, .int .i64 target, .int .i64 root]] w fun e w' => e = .returned (errO (saidO ⟨kind, txn, yes, fr, to, epoch, shard, target, root⟩)) ∧ Fr (fun _ => False) w w' := by
  by_cases mx : (fr.size : Int) < to.size
  ·
    by_cases c0 : kind < 1
    · have hd0 := c0
      have hno : ¬ OkSay ⟨kind, txn, yes, fr, to, epoch, shard, target, root⟩ := fun h => by unfold OkSay at h; obtain ⟨a0, a1, a2, a3, a4, a5, a6, a7, a8, a9, a10, a11, a12, a13⟩ := h; exact (a0 c0)
      rw [saidO, if_neg hno]
      clear hno
      go_enter Tryz.func76, Tryz.ntmps76
      go_wp2_with (first | (go_at_call 84; refine (say_between _ (two_new _ _ _ _ (by simp))).mono ?_; rintro e w' ⟨rfl, rfl⟩; rw [hd1]) | (go_at_call 84; refine (say_between _ (two_new _ _ _ _ (by simp))).mono ?_; rintro e w' ⟨rfl, rfl⟩; rw [hd2]))
      go_quiet ((first | (go_at_call 44; exact quiet_left (fault_Of 111 rfl _)) | (go_at_call 42; exact quiet_left (fault_Wrap _ _ _ _ _))))
      go_wp2
      go_ret
      refine ⟨rfl, ?_⟩
      repeat first | exact Fr.refl _ _ | refine Fr.alloc ?_ _ | refine Fr.drewN ?_ _ | refine Fr.drew ?_
    ·
      by_cases c1 : 9 < kind
      · have hd0 := c1
        have hno : ¬ OkSay ⟨kind, txn, yes, fr, to, epoch, shard, target, root⟩ := fun h => by unfold OkSay at h; obtain ⟨a0, a1, a2, a3, a4, a5, a6, a7, a8, a9, a10, a11, a12, a13⟩ := h; exact (a1 c1)
        rw [saidO, if_neg hno]
        clear hno
        go_enter Tryz.func76, Tryz.ntmps76
        go_wp2_with (first | (go_at_call 84; refine (say_between _ (two_new _ _ _ _ (by simp))).mono ?_; rintro e w' ⟨rfl, rfl⟩; rw [hd1]) | (go_at_call 84; refine (say_between _ (two_new _ _ _ _ (by simp))).mono ?_; rintro e w' ⟨rfl, rfl⟩; rw [hd2]))
        go_quiet ((first | (go_at_call 44; exact quiet_left (fault_Of 111 rfl _)) | (go_at_call 42; exact quiet_left (fault_Wrap _ _ _ _ _))))
        go_wp2
        go_ret
        refine ⟨rfl, ?_⟩
        repeat first | exact Fr.refl _ _ | refine Fr.alloc ?_ _ | refine Fr.drewN ?_ _ | refine Fr.drew ?_
      ·
        by_cases c2 : In2 2147483647 txn root = false
        · have hd1 := c2
          have hno : ¬ OkSay ⟨kind, txn, yes, fr, to, epoch, shard, target, root⟩ := fun h => by unfold OkSay at h; obtain ⟨a0, a1, a2, a3, a4, a5, a6, a7, a8, a9, a10, a11, a12, a13⟩ := h; exact (by have := c2; rw [(in2_iff 2147483647 txn root).2 ⟨a2, a4, a3, a5⟩] at this; cases this)
          rw [saidO, if_neg hno]
          clear hno
          go_enter Tryz.func76, Tryz.ntmps76
          go_wp2_with (first | (go_at_call 84; refine (say_between _ (two_new _ _ _ _ (by simp))).mono ?_; rintro e w' ⟨rfl, rfl⟩; rw [hd1]) | (go_at_call 84; refine (say_between _ (two_new _ _ _ _ (by simp))).mono ?_; rintro e w' ⟨rfl, rfl⟩; rw [hd2]))
          go_quiet ((first | (go_at_call 44; exact quiet_left (fault_Of 111 rfl _)) | (go_at_call 42; exact quiet_left (fault_Wrap _ _ _ _ _))))
          go_wp2
          go_ret
          refine ⟨rfl, ?_⟩
          repeat first | exact Fr.refl _ _ | refine Fr.alloc ?_ _ | refine Fr.drewN ?_ _ | refine Fr.drew ?_
        ·
          have hd1 : In2 2147483647 txn root = true := by simpa using c2
          have hi2 := Lib.hid ((in2_iff 2147483647 txn root).1 hd1)
          clear c2
          by_cases c3 : (16 : Int) < fr.size
          · have hd0 := c3
            have hno : ¬ OkSay ⟨kind, txn, yes, fr, to, epoch, shard, target, root⟩ := fun h => by unfold OkSay at h; obtain ⟨a0, a1, a2, a3, a4, a5, a6, a7, a8, a9, a10, a11, a12, a13⟩ := h; exact (a6 c3)
            rw [saidO, if_neg hno]
            clear hno
            go_enter Tryz.func76, Tryz.ntmps76
            go_wp2_with (first | (go_at_call 84; refine (say_between _ (two_new _ _ _ _ (by simp))).mono ?_; rintro e w' ⟨rfl, rfl⟩; rw [hd1]) | (go_at_call 84; refine (say_between _ (two_new _ _ _ _ (by simp))).mono ?_; rintro e w' ⟨rfl, rfl⟩; rw [hd2]))
            go_quiet ((first | (go_at_call 44; exact quiet_left (fault_Of 111 rfl _)) | (go_at_call 42; exact quiet_left (fault_Wrap _ _ _ _ _))))
            go_wp2
            go_ret
            refine ⟨rfl, ?_⟩
            repeat first | exact Fr.refl _ _ | refine Fr.alloc ?_ _ | refine Fr.drewN ?_ _ | refine Fr.drew ?_
          ·
            by_cases c4 : (16 : Int) < to.size
            · have hd0 := c4
              have hno : ¬ OkSay ⟨kind, txn, yes, fr, to, epoch, shard, target, root⟩ := fun h => by unfold OkSay at h; obtain ⟨a0, a1, a2, a3, a4, a5, a6, a7, a8, a9, a10, a11, a12, a13⟩ := h; exact (a7 c4)
              rw [saidO, if_neg hno]
              clear hno
              go_enter Tryz.func76, Tryz.ntmps76
              go_wp2_with (first | (go_at_call 84; refine (say_between _ (two_new _ _ _ _ (by simp))).mono ?_; rintro e w' ⟨rfl, rfl⟩; rw [hd1]) | (go_at_call 84; refine (say_between _ (two_new _ _ _ _ (by simp))).mono ?_; rintro e w' ⟨rfl, rfl⟩; rw [hd2]))
              go_quiet ((first | (go_at_call 44; exact quiet_left (fault_Of 111 rfl _)) | (go_at_call 42; exact quiet_left (fault_Wrap _ _ _ _ _))))
              go_wp2
              go_ret
              refine ⟨rfl, ?_⟩
              repeat first | exact Fr.refl _ _ | refine Fr.alloc ?_ _ | refine Fr.drewN ?_ _ | refine Fr.drew ?_
            ·
              by_cases c5 : epoch < 0
              · have hd0 := c5
                have hno : ¬ OkSay ⟨kind, txn, yes, fr, to, epoch, shard, target, root⟩ := fun h => by unfold OkSay at h; obtain ⟨a0, a1, a2, a3, a4, a5, a6, a7, a8, a9, a10, a11, a12, a13⟩ := h; exact (a8 c5)
                rw [saidO, if_neg hno]
                clear hno
                go_enter Tryz.func76, Tryz.ntmps76
                go_wp2_with (first | (go_at_call 84; refine (say_between _ (two_new _ _ _ _ (by simp))).mono ?_; rintro e w' ⟨rfl, rfl⟩; rw [hd1]) | (go_at_call 84; refine (say_between _ (two_new _ _ _ _ (by simp))).mono ?_; rintro e w' ⟨rfl, rfl⟩; rw [hd2]))
                go_quiet ((first | (go_at_call 44; exact quiet_left (fault_Of 111 rfl _)) | (go_at_call 42; exact quiet_left (fault_Wrap _ _ _ _ _))))
                go_wp2
                go_ret
                refine ⟨rfl, ?_⟩
                repeat first | exact Fr.refl _ _ | refine Fr.alloc ?_ _ | refine Fr.drewN ?_ _ | refine Fr.drew ?_
              ·
                by_cases c6 : 1099511627776 < epoch
                · have hd0 := c6
                  have hno : ¬ OkSay ⟨kind, txn, yes, fr, to, epoch, shard, target, root⟩ := fun h => by unfold OkSay at h; obtain ⟨a0, a1, a2, a3, a4, a5, a6, a7, a8, a9, a10, a11, a12, a13⟩ := h; exact (a9 c6)
                  rw [saidO, if_neg hno]
                  clear hno
                  go_enter Tryz.func76, Tryz.ntmps76
                  go_wp2_with (first | (go_at_call 84; refine (say_between _ (two_new _ _ _ _ (by simp))).mono ?_; rintro e w' ⟨rfl, rfl⟩; rw [hd1]) | (go_at_call 84; refine (say_between _ (two_new _ _ _ _ (by simp))).mono ?_; rintro e w' ⟨rfl, rfl⟩; rw [hd2]))
                  go_quiet ((first | (go_at_call 44; exact quiet_left (fault_Of 111 rfl _)) | (go_at_call 42; exact quiet_left (fault_Wrap _ _ _ _ _))))
                  go_wp2
                  go_ret
                  refine ⟨rfl, ?_⟩
                  repeat first | exact Fr.refl _ _ | refine Fr.alloc ?_ _ | refine Fr.drewN ?_ _ | refine Fr.drew ?_
                ·
                  by_cases c7 : In2 3 shard target = false
                  · have hd2 := c7
                    have hno : ¬ OkSay ⟨kind, txn, yes, fr, to, epoch, shard, target, root⟩ := fun h => by unfold OkSay at h; obtain ⟨a0, a1, a2, a3, a4, a5, a6, a7, a8, a9, a10, a11, a12, a13⟩ := h; exact (by have := c7; rw [(in2_iff 3 shard target).2 ⟨a10, a12, a11, a13⟩] at this; cases this)
                    rw [saidO, if_neg hno]
                    clear hno
                    go_enter Tryz.func76, Tryz.ntmps76
                    go_wp2_with (first | (go_at_call 84; refine (say_between _ (two_new _ _ _ _ (by simp))).mono ?_; rintro e w' ⟨rfl, rfl⟩; rw [hd1]) | (go_at_call 84; refine (say_between _ (two_new _ _ _ _ (by simp))).mono ?_; rintro e w' ⟨rfl, rfl⟩; rw [hd2]))
                    go_quiet ((first | (go_at_call 44; exact quiet_left (fault_Of 111 rfl _)) | (go_at_call 42; exact quiet_left (fault_Wrap _ _ _ _ _))))
                    go_wp2
                    go_ret
                    refine ⟨rfl, ?_⟩
                    repeat first | exact Fr.refl _ _ | refine Fr.alloc ?_ _ | refine Fr.drewN ?_ _ | refine Fr.drew ?_
                  ·
                    have hd2 : In2 3 shard target = true := by simpa using c7
                    have hi7 := Lib.hid ((in2_iff 3 shard target).1 hd2)
                    clear c7
                    have hok : OkSay ⟨kind, txn, yes, fr, to, epoch, shard, target, root⟩ := ⟨c0, c1, hi2.out.1, hi2.out.2.2.1, hi2.out.2.1, hi2.out.2.2.2, c3, c4, c5, c6, hi7.out.1, hi7.out.2.2.1, hi7.out.2.1, hi7.out.2.2.2⟩
                    rw [saidO, if_pos hok]
                    clear hok
                    go_enter Tryz.func76, Tryz.ntmps76
                    go_wp2_with (first | (go_at_call 84; refine (say_between _ (two_new _ _ _ _ (by simp))).mono ?_; rintro e w' ⟨rfl, rfl⟩; rw [hd1]) | (go_at_call 84; refine (say_between _ (two_new _ _ _ _ (by simp))).mono ?_; rintro e w' ⟨rfl, rfl⟩; rw [hd2]))
                    go_ret
                    refine ⟨rfl, ?_⟩
                    repeat first | exact Fr.refl _ _ | refine Fr.alloc ?_ _
  ·
    by_cases c0 : kind < 1
    · have hd0 := c0
      have hno : ¬ OkSay ⟨kind, txn, yes, fr, to, epoch, shard, target, root⟩ := fun h => by unfold OkSay at h; obtain ⟨a0, a1, a2, a3, a4, a5, a6, a7, a8, a9, a10, a11, a12, a13⟩ := h; exact (a0 c0)
      rw [saidO, if_neg hno]
      clear hno
      go_enter Tryz.func76, Tryz.ntmps76
      go_wp2_with (first | (go_at_call 84; refine (say_between _ (two_new _ _ _ _ (by simp))).mono ?_; rintro e w' ⟨rfl, rfl⟩; rw [hd1]) | (go_at_call 84; refine (say_between _ (two_new _ _ _ _ (by simp))).mono ?_; rintro e w' ⟨rfl, rfl⟩; rw [hd2]))
      go_quiet ((first | (go_at_call 44; exact quiet_left (fault_Of 111 rfl _)) | (go_at_call 42; exact quiet_left (fault_Wrap _ _ _ _ _))))
      go_wp2
      go_ret
      refine ⟨rfl, ?_⟩
      repeat first | exact Fr.refl _ _ | refine Fr.alloc ?_ _ | refine Fr.drewN ?_ _ | refine Fr.drew ?_
    ·
      by_cases c1 : 9 < kind
      · have hd0 := c1
        have hno : ¬ OkSay ⟨kind, txn, yes, fr, to, epoch, shard, target, root⟩ := fun h => by unfold OkSay at h; obtain ⟨a0, a1, a2, a3, a4, a5, a6, a7, a8, a9, a10, a11, a12, a13⟩ := h; exact (a1 c1)
        rw [saidO, if_neg hno]
        clear hno
        go_enter Tryz.func76, Tryz.ntmps76
        go_wp2_with (first | (go_at_call 84; refine (say_between _ (two_new _ _ _ _ (by simp))).mono ?_; rintro e w' ⟨rfl, rfl⟩; rw [hd1]) | (go_at_call 84; refine (say_between _ (two_new _ _ _ _ (by simp))).mono ?_; rintro e w' ⟨rfl, rfl⟩; rw [hd2]))
        go_quiet ((first | (go_at_call 44; exact quiet_left (fault_Of 111 rfl _)) | (go_at_call 42; exact quiet_left (fault_Wrap _ _ _ _ _))))
        go_wp2
        go_ret
        refine ⟨rfl, ?_⟩
        repeat first | exact Fr.refl _ _ | refine Fr.alloc ?_ _ | refine Fr.drewN ?_ _ | refine Fr.drew ?_
      ·
        by_cases c2 : In2 2147483647 txn root = false
        · have hd1 := c2
          have hno : ¬ OkSay ⟨kind, txn, yes, fr, to, epoch, shard, target, root⟩ := fun h => by unfold OkSay at h; obtain ⟨a0, a1, a2, a3, a4, a5, a6, a7, a8, a9, a10, a11, a12, a13⟩ := h; exact (by have := c2; rw [(in2_iff 2147483647 txn root).2 ⟨a2, a4, a3, a5⟩] at this; cases this)
          rw [saidO, if_neg hno]
          clear hno
          go_enter Tryz.func76, Tryz.ntmps76
          go_wp2_with (first | (go_at_call 84; refine (say_between _ (two_new _ _ _ _ (by simp))).mono ?_; rintro e w' ⟨rfl, rfl⟩; rw [hd1]) | (go_at_call 84; refine (say_between _ (two_new _ _ _ _ (by simp))).mono ?_; rintro e w' ⟨rfl, rfl⟩; rw [hd2]))
          go_quiet ((first | (go_at_call 44; exact quiet_left (fault_Of 111 rfl _)) | (go_at_call 42; exact quiet_left (fault_Wrap _ _ _ _ _))))
          go_wp2
          go_ret
          refine ⟨rfl, ?_⟩
          repeat first | exact Fr.refl _ _ | refine Fr.alloc ?_ _ | refine Fr.drewN ?_ _ | refine Fr.drew ?_
        ·
          have hd1 : In2 2147483647 txn root = true := by simpa using c2
          have hi2 := Lib.hid ((in2_iff 2147483647 txn root).1 hd1)
          clear c2
          by_cases c3 : (16 : Int) < fr.size
          · have hd0 := c3
            have hno : ¬ OkSay ⟨kind, txn, yes, fr, to, epoch, shard, target, root⟩ := fun h => by unfold OkSay at h; obtain ⟨a0, a1, a2, a3, a4, a5, a6, a7, a8, a9, a10, a11, a12, a13⟩ := h; exact (a6 c3)
            rw [saidO, if_neg hno]
            clear hno
            go_enter Tryz.func76, Tryz.ntmps76
            go_wp2_with (first | (go_at_call 84; refine (say_between _ (two_new _ _ _ _ (by simp))).mono ?_; rintro e w' ⟨rfl, rfl⟩; rw [hd1]) | (go_at_call 84; refine (say_between _ (two_new _ _ _ _ (by simp))).mono ?_; rintro e w' ⟨rfl, rfl⟩; rw [hd2]))
            go_quiet ((first | (go_at_call 44; exact quiet_left (fault_Of 111 rfl _)) | (go_at_call 42; exact quiet_left (fault_Wrap _ _ _ _ _))))
            go_wp2
            go_ret
            refine ⟨rfl, ?_⟩
            repeat first | exact Fr.refl _ _ | refine Fr.alloc ?_ _ | refine Fr.drewN ?_ _ | refine Fr.drew ?_
          ·
            by_cases c4 : (16 : Int) < to.size
            · have hd0 := c4
              exact absurd hd0 (by omega)
            ·
              by_cases c5 : epoch < 0
              · have hd0 := c5
                have hno : ¬ OkSay ⟨kind, txn, yes, fr, to, epoch, shard, target, root⟩ := fun h => by unfold OkSay at h; obtain ⟨a0, a1, a2, a3, a4, a5, a6, a7, a8, a9, a10, a11, a12, a13⟩ := h; exact (a8 c5)
                rw [saidO, if_neg hno]
                clear hno
                go_enter Tryz.func76, Tryz.ntmps76
                go_wp2_with (first | (go_at_call 84; refine (say_between _ (two_new _ _ _ _ (by simp))).mono ?_; rintro e w' ⟨rfl, rfl⟩; rw [hd1]) | (go_at_call 84; refine (say_between _ (two_new _ _ _ _ (by simp))).mono ?_; rintro e w' ⟨rfl, rfl⟩; rw [hd2]))
                go_quiet ((first | (go_at_call 44; exact quiet_left (fault_Of 111 rfl _)) | (go_at_call 42; exact quiet_left (fault_Wrap _ _ _ _ _))))
                go_wp2
                go_ret
                refine ⟨rfl, ?_⟩
                repeat first | exact Fr.refl _ _ | refine Fr.alloc ?_ _ | refine Fr.drewN ?_ _ | refine Fr.drew ?_
              ·
                by_cases c6 : 1099511627776 < epoch
                · have hd0 := c6
                  have hno : ¬ OkSay ⟨kind, txn, yes, fr, to, epoch, shard, target, root⟩ := fun h => by unfold OkSay at h; obtain ⟨a0, a1, a2, a3, a4, a5, a6, a7, a8, a9, a10, a11, a12, a13⟩ := h; exact (a9 c6)
                  rw [saidO, if_neg hno]
                  clear hno
                  go_enter Tryz.func76, Tryz.ntmps76
                  go_wp2_with (first | (go_at_call 84; refine (say_between _ (two_new _ _ _ _ (by simp))).mono ?_; rintro e w' ⟨rfl, rfl⟩; rw [hd1]) | (go_at_call 84; refine (say_between _ (two_new _ _ _ _ (by simp))).mono ?_; rintro e w' ⟨rfl, rfl⟩; rw [hd2]))
                  go_quiet ((first | (go_at_call 44; exact quiet_left (fault_Of 111 rfl _)) | (go_at_call 42; exact quiet_left (fault_Wrap _ _ _ _ _))))
                  go_wp2
                  go_ret
                  refine ⟨rfl, ?_⟩
                  repeat first | exact Fr.refl _ _ | refine Fr.alloc ?_ _ | refine Fr.drewN ?_ _ | refine Fr.drew ?_
                ·
                  by_cases c7 : In2 3 shard target = false
                  · have hd2 := c7
                    have hno : ¬ OkSay ⟨kind, txn, yes, fr, to, epoch, shard, target, root⟩ := fun h => by unfold OkSay at h; obtain ⟨a0, a1, a2, a3, a4, a5, a6, a7, a8, a9, a10, a11, a12, a13⟩ := h; exact (by have := c7; rw [(in2_iff 3 shard target).2 ⟨a10, a12, a11, a13⟩] at this; cases this)
                    rw [saidO, if_neg hno]
                    clear hno
                    go_enter Tryz.func76, Tryz.ntmps76
                    go_wp2_with (first | (go_at_call 84; refine (say_between _ (two_new _ _ _ _ (by simp))).mono ?_; rintro e w' ⟨rfl, rfl⟩; rw [hd1]) | (go_at_call 84; refine (say_between _ (two_new _ _ _ _ (by simp))).mono ?_; rintro e w' ⟨rfl, rfl⟩; rw [hd2]))
                    go_quiet ((first | (go_at_call 44; exact quiet_left (fault_Of 111 rfl _)) | (go_at_call 42; exact quiet_left (fault_Wrap _ _ _ _ _))))
                    go_wp2
                    go_ret
                    refine ⟨rfl, ?_⟩
                    repeat first | exact Fr.refl _ _ | refine Fr.alloc ?_ _ | refine Fr.drewN ?_ _ | refine Fr.drew ?_
                  ·
                    have hd2 : In2 3 shard target = true := by simpa using c7
                    have hi7 := Lib.hid ((in2_iff 3 shard target).1 hd2)
                    clear c7
                    have hok : OkSay ⟨kind, txn, yes, fr, to, epoch, shard, target, root⟩ := ⟨c0, c1, hi2.out.1, hi2.out.2.2.1, hi2.out.2.1, hi2.out.2.2.2, c3, c4, c5, c6, hi7.out.1, hi7.out.2.2.1, hi7.out.2.1, hi7.out.2.2.2⟩
                    rw [saidO, if_pos hok]
                    clear hok
                    go_enter Tryz.func76, Tryz.ntmps76
                    go_wp2_with (first | (go_at_call 84; refine (say_between _ (two_new _ _ _ _ (by simp))).mono ?_; rintro e w' ⟨rfl, rfl⟩; rw [hd1]) | (go_at_call 84; refine (say_between _ (two_new _ _ _ _ (by simp))).mono ?_; rintro e w' ⟨rfl, rfl⟩; rw [hd2]))
                    go_ret
                    refine ⟨rfl, ?_⟩
                    repeat first | exact Fr.refl _ _ | refine Fr.alloc ?_ _
end Go.Proofs.YtcfanacfjcgnbaaGreatDoor
