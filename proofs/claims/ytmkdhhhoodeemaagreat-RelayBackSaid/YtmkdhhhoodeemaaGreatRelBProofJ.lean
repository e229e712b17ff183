/- RelayBackSaid: for every input the law returns true, and each argument reads behind the call as it read before. No condition. -/
import Derived.Test.YtmkdhhhoodeemaaGreatRows
import Derived.WalkKit
import Derived.ProofKit
import Derived.OpenShut
import Derived.ChangeOld
import Derived.Below
import Derived.Carry
import Derived.Test.YtmkdhhhoodeemaaGreatGa
import Derived.Test.YtmkdhhhoodeemaaGreatGb
import Derived.Test.YtmkdhhhoodeemaaGreatGc
import Derived.Test.YtmkdhhhoodeemaaGreatGd
import Derived.Test.YtmkdhhhoodeemaaGreatGe
import Derived.Test.YtmkdhhhoodeemaaGreatGf
import Derived.Test.YtmkdhhhoodeemaaGreatGg
import Derived.Test.YtmkdhhhoodeemaaGreatGh
import Derived.Test.YtmkdhhhoodeemaaGreatRelBProofJa
import Derived.Test.YtmkdhhhoodeemaaGreatRelBProofJb
set_option linter.unusedVariables false
set_option linter.unusedSimpArgs false
/- cohortlaw19: RelayBack. -/
namespace Go.Proofs.YtmkdhhhoodeemaaGreat
open Go Go.RowKit
theorem not_say_zero : ¬ OkSay ⟨0, 0, false, ⟨#[]⟩, ⟨#[]⟩, 0, 0, 0, 0⟩ := fun h => h.1 (by decide)
theorem getOrder_begin {w : World} {F : Nat → Prop} {A : Option Addr} {cap : Nat} {c n : Int} {R : List (ByteArray × Int)} {W : List (ByteArray × ByteArray)} (hok : TOk c n R W) (hr : ByteRow w F A (orderB 6 (txnB c n R W) [] certZ)) :
    Calls Tryz.prog 19 #[.slice A (orderB 6 (txnB c n R W) [] certZ).length cap] w (OrdGot w 6 c n R W ⟨0, 0, false, ⟨#[]⟩, ⟨#[]⟩, 0, 0, 0, 0⟩ 0 0 [] 0 0 [] []) := by
  have hlen := orderB_len (kind := 6) (a := txnB c n R W) (b := []) (c := certZ) (txnB_len hok) (by simp) certZ_len
  rw [orderB_ordB] at hr hlen ⊢
  refine ref11_GetOrder hr (by omega) (by omega) (by omega) (txnB_len hok) (by simp) certZ_len (by omega) (by omega) (by omega) (by omega) (by simp) (fun x h => by simp at h) (by simp) (fun x h => by simp at h) (.inr ⟨by simp [txnB, num8_length]; omega, fun w' F' A' cap' h => ref10_Get h hok⟩) (.inl ⟨rfl, rfl⟩) (fun w' F' A' cap' h => ?_) (fun w' RA cr WA cw CA cc EA ce VA cv h1 h2 h3 h4 h5 => ?_)
  · rw [← certG_zero] at h ⊢
    exact ref05_Get h (by simp) ⟨by omega, by omega⟩ ⟨by omega, by omega⟩ (fun y h => by simp at h)
  · exact ref11_RightOrder h1 h2 h3 h4 h5 (by omega) (by omega) (.inl ⟨.inr rfl, hok⟩) (.inl rfl) (by simp) ⟨by omega, by omega⟩ ⟨by omega, by omega⟩ (fun y h => by simp at h) (by omega) (by omega) (by omega) (by omega) (by simp) (fun x h => by simp at h) (by simp) (fun x h => by simp at h)
theorem getOrder_word {w : World} {F : Nat → Prop} {A : Option Addr} {cap : Nat} {kind : Int} (hk : kind = 8 ∨ kind = 9) {s : SayD} (hs : OkSay s ∨ ZSay s) (hr : ByteRow w F A (orderB kind [] (wordB s) certZ)) :
    Calls Tryz.prog 19 #[.slice A (orderB kind [] (wordB s) certZ).length cap] w (OrdGot w kind 0 0 [] [] s 0 0 [] 0 0 [] []) := by
  have hlen := orderB_len (kind := kind) (a := []) (b := wordB s) (c := certZ) (by simp) (sayB_short s) certZ_len
  rw [orderB_ordB] at hr hlen ⊢
  refine ref11_GetOrder hr (by omega) (by omega) (by omega) (by simp) (sayB_short s) certZ_len (by omega) (by omega) (by omega) (by omega) (by simp) (fun x h => by simp at h) (by simp) (fun x h => by simp at h) (.inl ⟨rfl, rfl, rfl, rfl, rfl⟩) ?_ (fun w' F' A' cap' h => ?_) (fun w' RA cr WA cw CA cc EA ce VA cv h1 h2 h3 h4 h5 => ?_)
  · by_cases hok : OkSay s
    · refine .inr ?_
      rw [show wordB s = sayB s from if_pos hok]
      exact ⟨by simp [sayB, num8_length]; omega, fun w' F' A' cap' h => ref11_Get h hok⟩
    · refine .inl ⟨?_, hs.resolve_left hok⟩
      rw [show wordB s = [] from if_neg hok]
      rfl
  · rw [← certG_zero] at h ⊢
    exact ref05_Get h (by simp) ⟨by omega, by omega⟩ ⟨by omega, by omega⟩ (fun y h => by simp at h)
  · exact ref11_RightOrder h1 h2 h3 h4 h5 (by omega) (by omega) (.inr ⟨⟨by omega, by omega⟩, rfl, rfl, rfl, rfl⟩) hs.symm (by simp) ⟨by omega, by omega⟩ ⟨by omega, by omega⟩ (fun y h => by simp at h) (by omega) (by omega) (by omega) (by omega) (by simp) (fun x h => by simp at h) (by simp) (fun x h => by simp at h)
theorem run_eqSay2 (k t : Int) (y : Bool) (f g : ByteArray) (e sh ta r : Int) (w : World) : (Op.equalIn 10000 23 (.agg #[.int .i64 k, .int .i64 t, .bool y, .string f, .string g, .int .i64 e, .int .i64 sh, .int .i64 ta, .int .i64 r]) (.agg #[.int .i64 k, .int .i64 t, .bool y, .string f, .string g, .int .i64 e, .int .i64 sh, .int .i64 ta, .int .i64 r])).run Tryz.prog w = .ok true w := by
  have u1 := Tryz.underlying3
  have u2 := Tryz.underlying2
  have u3 := Tryz.underlying4
  have u4 := Tryz.underlying9
  rw [show (10000 : Nat) = 9999 + 1 from rfl, run_equalIn_struct w 9999 23 _ _ say_fields say_stood]
  simp only [Program.fieldsOf, Tryz.underlying23]
  go_simp
theorem run_neqSay2 (k t : Int) (y : Bool) (f g : ByteArray) (e sh ta r : Int) (w : World) : (binOp .neq 23 (.agg #[.int .i64 k, .int .i64 t, .bool y, .string f, .string g, .int .i64 e, .int .i64 sh, .int .i64 ta, .int .i64 r]) (.agg #[.int .i64 k, .int .i64 t, .bool y, .string f, .string g, .int .i64 e, .int .i64 sh, .int .i64 ta, .int .i64 r])).run Tryz.prog w = .ok (.bool false) w := by
  rw [run_neq_struct, run_eqSay2 k t y f g e sh ta r w]
  rfl
end Go.Proofs.YtmkdhhhoodeemaaGreat

/- cohortlaw19: RelayBack. -/
namespace Go.Proofs.YtmkdhhhoodeemaaGreat
open Go Go.RowKit
attribute [local go_sem ↓] run_neqSay2 run_eqlSay
set_option maxRecDepth 100000 in
set_option maxHeartbeats 8000000 in
theorem relayBack_walk {w : World} {F : Nat → Prop} {A B : Option Addr} {cr cw : Nat} {c n : Int} {R : List (ByteArray × Int)} {W : List (ByteArray × ByteArray)} (hr : ReadRow w F A R) (hw : WriteRow w F B W) (lR : R.length ≤ 9223372036854775807) (lW : W.length ≤ 9223372036854775807) (s : SayD) :
    Calls Tryz.prog 7 #[.agg #[.int .i64 c, .int .i64 n, .slice A R.length cr, .slice B W.length cw], .agg #[.int .i64 s.kind, .int .i64 s.txn, .bool s.yes, .string s.from_, .string s.to_, .int .i64 s.epoch, .int .i64 s.shard, .int .i64 s.target, .int .i64 s.root]] w (Bool1 w true) := by
  have hT0 := (Blk.new w 29 #[.int .i64 c, .int .i64 n, .slice A R.length cr, .slice B W.length cw]).alloc (Obj.cells #[.int .i64 s.kind, .int .i64 s.txn, .bool s.yes, .string s.from_, .string s.to_, .int .i64 s.epoch, .int .i64 s.shard, .int .i64 s.target, .int .i64 s.root] 23)
  have hS0 : Blk ((w.alloc (Obj.cells #[.int .i64 c, .int .i64 n, .slice A R.length cr, .slice B W.length cw] 29)).alloc (Obj.cells #[.int .i64 s.kind, .int .i64 s.txn, .bool s.yes, .string s.from_, .string s.to_, .int .i64 s.epoch, .int .i64 s.shard, .int .i64 s.target, .int .i64 s.root] 23)) (w.heap.size + 1) 23 #[.int .i64 s.kind, .int .i64 s.txn, .bool s.yes, .string s.from_, .string s.to_, .int .i64 s.epoch, .int .i64 s.shard, .int .i64 s.target, .int .i64 s.root] := Blk.new_ _ _ _ (by simp)
  have hf0 : Fr (fun _ => False) w ((w.alloc (Obj.cells #[.int .i64 c, .int .i64 n, .slice A R.length cr, .slice B W.length cw] 29)).alloc (Obj.cells #[.int .i64 s.kind, .int .i64 s.txn, .bool s.yes, .string s.from_, .string s.to_, .int .i64 s.epoch, .int .i64 s.shard, .int .i64 s.target, .int .i64 s.root] 23)) := ((Fr.refl _ _).alloc _).alloc _
  go_enter Tryz.func7, Tryz.ntmps7
  go_upto_region 1 with fail
  generalize ((w.alloc (Obj.cells #[.int .i64 c, .int .i64 n, .slice A R.length cr, .slice B W.length cw] 29)).alloc (Obj.cells #[.int .i64 s.kind, .int .i64 s.txn, .bool s.yes, .string s.from_, .string s.to_, .int .i64 s.epoch, .int .i64 s.shard, .int .i64 s.target, .int .i64 s.root] 23)) = w0 at *
  go_upto_region 2 with (go_at_call 8; refine (law19_head _).mono ?_; rintro e w1 ⟨rfl, hf1⟩)
  have hT1 := hT0.fr hf1 id
  have hS1 := hS0.fr hf1 id
  have hf01 := hf0.then_ hf1
  have HGr := Lib.hid (fun w => law19_Great (w := w) (s := s) (A := A) (B := B) (cr := cr) (cw := cw) (c := c) (n := n) lR lW)
  have hfew := few_of_great (s := s) lR lW
  obtain ⟨z, hz⟩ : ∃ z, Hid (greatB s R W = z) := ⟨_, rfl⟩
  rw [hz.out] at HGr hfew
  clear hT0 hS0 hf0 hf1 lR lW
  have t0 := hT1.cell 0
  have t1 := hT1.cell 1
  have t2 := hT1.cell 2
  have t3 := hT1.cell 3
  have s0 := hS1.cell 0
  have s1 := hS1.cell 1
  have s2 := hS1.cell 2
  have s3 := hS1.cell 3
  have s4 := hS1.cell 4
  have s5 := hS1.cell 5
  have s6 := hS1.cell 6
  have s7 := hS1.cell 7
  have s8 := hS1.cell 8
  cases z with
  | true =>
    clear hfew
    go_wp2_with (go_at_call 10; refine (HGr.out _).mono ?_; rintro e w2 ⟨rfl, hf2⟩)
    go_ret
    exact ⟨rfl, hf01.then_ hf2⟩
  | false =>
    have hfw := hfew rfl
    clear hfew
    go_upto_region 4 with (go_at_call 10; refine (HGr.out _).mono ?_; rintro e w2 ⟨rfl, hf2⟩)
    have hT2 := hT1.fr hf2 id
    have hS2 := hS1.fr hf2 id
    have hf02 := hf01.then_ hf2
    clear hT1 hS1 hf01 hf2 HGr hz t0 t1 t2 t3 s0 s1 s2 s3 s4 s5 s6 s7 s8
    have hr2 := hr.fr hf02 (fun _ _ => id)
    have hw2 := hw.fr hf02 (fun _ _ => id)
    have HB := fun w' (hf : Fr (fun _ => False) w2 w') => relay_Begin (cr := cr) (cw := cw) (c := c) (n := n) (hr2.fr hf (fun _ _ => id)) (hw2.fr hf (fun _ _ => id)) hfw
    have HC := fun w' => relay_Cancel (w := w') s
    have HM := fun w' => relay_Move (w := w') s
    have HRt := fun w' (hf : Fr (fun _ => False) w2 w') => ref10_Right (w := w') (cr := cr) (cw := cw) (c := c) (n := n) (hr2.fr hf (fun _ _ => id)) (hw2.fr hf (fun _ _ => id))
    have HRs := fun w => ref11_Right1 w s.kind s.txn s.yes s.from_ s.to_ s.epoch s.shard s.target s.root
    have HRs : ∀ w, Calls Tryz.prog 29 #[.agg #[.int .i64 s.kind, .int .i64 s.txn, .bool s.yes, .string s.from_, .string s.to_, .int .i64 s.epoch, .int .i64 s.shard, .int .i64 s.target, .int .i64 s.root]] w (Bool1 w (decide (OkSay s))) := HRs
    have HSm := fun w' (hf : Fr (fun _ => False) w2 w') RA WA crr cww (h1 : ReadRow w' (fun _ => True) RA R) (h2 : WriteRow w' (fun _ => True) WA W) (lR : R.length ≤ 1000) (lW : W.length ≤ 1000) => ref10_Same (w := w') (F := fun _ => True) (cr := crr) (cw := cww) (cr' := cr) (cw' := cw) (c := c) (n := n) (c' := c) (n' := n) h1 h2 ((hr2.fr hf (fun _ _ => id)).mono_ (fun _ _ => trivial)) ((hw2.fr hf (fun _ _ => id)).mono_ (fun _ _ => trivial)) lR lW
    have hf2r : Fr (fun _ => False) w2 w2 := Fr.refl _ _
    clear hr hw hfw hr2 hw2
    by_cases hT : TOk c n R W
    · by_cases hM : OkSay s
      · simp only [if_pos hT] at HB
        simp only [decide_eq_true hT] at HRt
        have lR := rises_len hT.2.2.2.2.2.1
        have lW := rises_len hT.2.2.2.2.2.2
        replace HSm := fun w' hf RA WA crr cww h1 h2 => HSm w' hf RA WA crr cww h1 h2 (by omega) (by omega)
        rw [decide_eq_true (p := c = c ∧ n = n ∧ R = R ∧ W = W) ⟨rfl, rfl, rfl, rfl⟩] at HSm
        replace HSm := Lib.hid HSm
        have HG1 := Lib.hid (fun w' A' cap' (h : ByteRow w' (U8 w') A' (orderB 6 (txnB c n R W) [] certZ)) => getOrder_begin (cap := cap') hT h)
        obtain ⟨b1, hb1⟩ : ∃ b, Hid (orderB 6 (txnB c n R W) [] certZ = b) := ⟨_, rfl⟩
        rw [hb1.out] at HB HG1
        clear hT hb1 lR lW
        replace HB := Lib.hid HB
        replace HRt := Lib.hid HRt
        simp only [if_pos (show OkSay s ∨ ZSay s from Or.inl hM)] at HC HM
        have HG2 := Lib.hid (fun w' A' cap' (h : ByteRow w' (U8 w') A' (orderB 8 [] (wordB s) certZ)) => getOrder_word (cap := cap') (by omega) (Or.inl hM) h)
        obtain ⟨b2, hb2⟩ : ∃ b, Hid (orderB 8 [] (wordB s) certZ = b) := ⟨_, rfl⟩
        rw [hb2.out] at HG2 HC
        clear hb2
        have HG3 := Lib.hid (fun w' A' cap' (h : ByteRow w' (U8 w') A' (orderB 9 [] (wordB s) certZ)) => getOrder_word (cap := cap') (by omega) (Or.inl hM) h)
        obtain ⟨b3, hb3⟩ : ∃ b, Hid (orderB 9 [] (wordB s) certZ = b) := ⟨_, rfl⟩
        rw [hb3.out] at HG3 HM
        clear hb3
        simp only [decide_eq_true hM] at HRs
        clear hM
        have hzz : True := trivial
        replace HC := Lib.hid HC
        replace HM := Lib.hid HM
        replace HRs := Lib.hid HRs
        have t0 := (hT2.fr hf2r id).cell 0
        have t1 := (hT2.fr hf2r id).cell 1
        have t2 := (hT2.fr hf2r id).cell 2
        have t3 := (hT2.fr hf2r id).cell 3
        have s0 := (hS2.fr hf2r id).cell 0
        have s1 := (hS2.fr hf2r id).cell 1
        have s2 := (hS2.fr hf2r id).cell 2
        have s3 := (hS2.fr hf2r id).cell 3
        have s4 := (hS2.fr hf2r id).cell 4
        have s5 := (hS2.fr hf2r id).cell 5
        have s6 := (hS2.fr hf2r id).cell 6
        have s7 := (hS2.fr hf2r id).cell 7
        have s8 := (hS2.fr hf2r id).cell 8
        go_upto_region 5 with (go_at_call 23; refine (HB.out _ hf2r).mono ?_; rintro e w3 ⟨v3, rfl, ht1, g3⟩)
        obtain ⟨k1, c1, A1, p1, rfl, e1, f1, r1⟩ := ht1.one
        have q3 := hf2r.then_ g3
        clear t0 t1 t2 t3 s0 s1 s2 s3 s4 s5 s6 s7 s8
        clear HB ht1
        have t0 := (hT2.fr q3 id).cell 0
        have t1 := (hT2.fr q3 id).cell 1
        have t2 := (hT2.fr q3 id).cell 2
        have t3 := (hT2.fr q3 id).cell 3
        have s0 := (hS2.fr q3 id).cell 0
        have s1 := (hS2.fr q3 id).cell 1
        have s2 := (hS2.fr q3 id).cell 2
        have s3 := (hS2.fr q3 id).cell 3
        have s4 := (hS2.fr q3 id).cell 4
        have s5 := (hS2.fr q3 id).cell 5
        have s6 := (hS2.fr q3 id).cell 6
        have s7 := (hS2.fr q3 id).cell 7
        have s8 := (hS2.fr q3 id).cell 8
        go_upto_region 6 with (go_at_call 25; refine (HC.out _).mono ?_; rintro e w4 ⟨v4, rfl, ht2, g4⟩)
        obtain ⟨k2, c2, A2, p2, rfl, e2, f2, r2⟩ := ht2.one
        have q4 := q3.then_ g4
        clear t0 t1 t2 t3 s0 s1 s2 s3 s4 s5 s6 s7 s8
        clear HC ht2
        have t0 := (hT2.fr q4 id).cell 0
        have t1 := (hT2.fr q4 id).cell 1
        have t2 := (hT2.fr q4 id).cell 2
        have t3 := (hT2.fr q4 id).cell 3
        have s0 := (hS2.fr q4 id).cell 0
        have s1 := (hS2.fr q4 id).cell 1
        have s2 := (hS2.fr q4 id).cell 2
        have s3 := (hS2.fr q4 id).cell 3
        have s4 := (hS2.fr q4 id).cell 4
        have s5 := (hS2.fr q4 id).cell 5
        have s6 := (hS2.fr q4 id).cell 6
        have s7 := (hS2.fr q4 id).cell 7
        have s8 := (hS2.fr q4 id).cell 8
        go_upto_region 7 with (go_at_call 27; refine (HM.out _).mono ?_; rintro e w5 ⟨v5, rfl, ht3, g5⟩)
        obtain ⟨k3, c3, A3, p3, rfl, e3, f3, r3⟩ := ht3.one
        have q5 := q4.then_ g5
        clear t0 t1 t2 t3 s0 s1 s2 s3 s4 s5 s6 s7 s8
        clear HM ht3
        have t0 := (hT2.fr q5 id).cell 0
        have t1 := (hT2.fr q5 id).cell 1
        have t2 := (hT2.fr q5 id).cell 2
        have t3 := (hT2.fr q5 id).cell 3
        have s0 := (hS2.fr q5 id).cell 0
        have s1 := (hS2.fr q5 id).cell 1
        have s2 := (hS2.fr q5 id).cell 2
        have s3 := (hS2.fr q5 id).cell 3
        have s4 := (hS2.fr q5 id).cell 4
        have s5 := (hS2.fr q5 id).cell 5
        have s6 := (hS2.fr q5 id).cell 6
        have s7 := (hS2.fr q5 id).cell 7
        have s8 := (hS2.fr q5 id).cell 8
        go_upto_region 8 with (go_at_call 29; refine (HRs.out _).mono ?_; rintro e w6 ⟨rfl, g6⟩; have q6 := q5.then_ g6; have s0 := (hS2.fr q6 id).cell 0; have s1 := (hS2.fr q6 id).cell 1; have s2 := (hS2.fr q6 id).cell 2; have s3 := (hS2.fr q6 id).cell 3; have s4 := (hS2.fr q6 id).cell 4; have s5 := (hS2.fr q6 id).cell 5; have s6 := (hS2.fr q6 id).cell 6; have s7 := (hS2.fr q6 id).cell 7; have s8 := (hS2.fr q6 id).cell 8)
        clear t0 t1 t2 t3 s0 s1 s2 s3 s4 s5 s6 s7 s8
        clear HRs
        have t0 := (hT2.fr q6 id).cell 0
        have t1 := (hT2.fr q6 id).cell 1
        have t2 := (hT2.fr q6 id).cell 2
        have t3 := (hT2.fr q6 id).cell 3
        have s0 := (hS2.fr q6 id).cell 0
        have s1 := (hS2.fr q6 id).cell 1
        have s2 := (hS2.fr q6 id).cell 2
        have s3 := (hS2.fr q6 id).cell 3
        have s4 := (hS2.fr q6 id).cell 4
        have s5 := (hS2.fr q6 id).cell 5
        have s6 := (hS2.fr q6 id).cell 6
        have s7 := (hS2.fr q6 id).cell 7
        have s8 := (hS2.fr q6 id).cell 8
        have g36 := (g4.then_ g5).then_ g6
        have e1 := g36.cell_some e1 id
        have f1 := g36.cell_some f1 id
        have r1 := r1.u8 g36 (fun _ _ => id)
        have g46 := g5.then_ g6
        have e2 := g46.cell_some e2 id
        have f2 := g46.cell_some f2 id
        have r2 := r2.u8 g46 (fun _ _ => id)
        have e3 := g6.cell_some e3 id
        have f3 := g6.cell_some f3 id
        have r3 := r3.u8 g6 (fun _ _ => id)
        clear g3 g4 g5 g6 g36 g46
        go_upto_region 10 with (go_at_call 30; refine (HRt.out _ q6).mono ?_; rintro e w7 ⟨rfl, g7⟩)
        have q7 := q6.then_ g7
        clear t0 t1 t2 t3 s0 s1 s2 s3 s4 s5 s6 s7 s8
        clear HRt
        have e1 := g7.cell_some e1 id
        have f1 := g7.cell_some f1 id
        have r1 := r1.u8 g7 (fun _ _ => id)
        have e2 := g7.cell_some e2 id
        have f2 := g7.cell_some f2 id
        have r2 := r2.u8 g7 (fun _ _ => id)
        have e3 := g7.cell_some e3 id
        have f3 := g7.cell_some f3 id
        have r3 := r3.u8 g7 (fun _ _ => id)
        have HX := Lib.hid (HG1.out w7 _ p1 r1)
        go_upto_region 12 with (first | (refine wpList_store_new rfl 62 (.tmp 10) (.tmp 76) rfl _ _ rfl rfl (by kernel_rfl) rfl (by simp [Value.oneCell']) ?_) | (go_at_call 19; refine HX.out.mono ?_; rintro e w8 ⟨RA1, cr1, WA1, cw1, CA1, cc1, EA1, ce1, VA1, cv1, rfl, hR8, hW8, _, _, _, g8⟩))
        have hX1 := Blk.new w8 62 #[.int .i64 6, .int .i64 c, .int .i64 n, .slice RA1 R.length cr1, .slice WA1 W.length cw1, .int .i64 0, .int .i64 0, .bool false, .string ⟨#[]⟩, .string ⟨#[]⟩, .int .i64 0, .int .i64 0, .int .i64 0, .int .i64 0, .int .i64 0, .int .i64 0, .slice CA1 0 cc1, .int .i64 0, .int .i64 0, .slice EA1 0 ce1, .slice VA1 0 cv1]
        have g9 := (Fr.refl (fun _ => False) w8).alloc (Obj.cells #[.int .i64 6, .int .i64 c, .int .i64 n, .slice RA1 R.length cr1, .slice WA1 W.length cw1, .int .i64 0, .int .i64 0, .bool false, .string ⟨#[]⟩, .string ⟨#[]⟩, .int .i64 0, .int .i64 0, .int .i64 0, .int .i64 0, .int .i64 0, .int .i64 0, .slice CA1 0 cc1, .int .i64 0, .int .i64 0, .slice EA1 0 ce1, .slice VA1 0 cv1] 62)
        generalize w8.alloc (Obj.cells #[.int .i64 6, .int .i64 c, .int .i64 n, .slice RA1 R.length cr1, .slice WA1 W.length cw1, .int .i64 0, .int .i64 0, .bool false, .string ⟨#[]⟩, .string ⟨#[]⟩, .int .i64 0, .int .i64 0, .int .i64 0, .int .i64 0, .int .i64 0, .int .i64 0, .slice CA1 0 cc1, .int .i64 0, .int .i64 0, .slice EA1 0 ce1, .slice VA1 0 cv1] 62) = w9 at *
        have q9 := (q7.then_ g8).then_ g9
        have g79 := g8.then_ g9
        have e1 := g79.cell_some e1 id
        have f1 := g79.cell_some f1 id
        have r1 := r1.u8 g79 (fun _ _ => id)
        have e2 := g79.cell_some e2 id
        have f2 := g79.cell_some f2 id
        have r2 := r2.u8 g79 (fun _ _ => id)
        have e3 := g79.cell_some e3 id
        have f3 := g79.cell_some f3 id
        have r3 := r3.u8 g79 (fun _ _ => id)
        have hR9 := (hR8.fr g9 (fun _ _ => id)).mono_ (F' := fun _ => True) (fun _ _ => trivial)
        have hW9 := (hW8.fr g9 (fun _ _ => id)).mono_ (F' := fun _ => True) (fun _ _ => trivial)
        have HY := Lib.hid (HSm.out w9 q9 RA1 WA1 cr1 cw1 hR9 hW9)
        have x0 := hX1.cell 0
        have x1 := hX1.cell 1
        have x2 := hX1.cell 2
        have x3 := hX1.cell 3
        have x4 := hX1.cell 4
        have t0 := (hT2.fr q9 id).cell 0
        have t1 := (hT2.fr q9 id).cell 1
        have t2 := (hT2.fr q9 id).cell 2
        have t3 := (hT2.fr q9 id).cell 3
        have s0 := (hS2.fr q9 id).cell 0
        have s1 := (hS2.fr q9 id).cell 1
        have s2 := (hS2.fr q9 id).cell 2
        have s3 := (hS2.fr q9 id).cell 3
        have s4 := (hS2.fr q9 id).cell 4
        have s5 := (hS2.fr q9 id).cell 5
        have s6 := (hS2.fr q9 id).cell 6
        have s7 := (hS2.fr q9 id).cell 7
        have s8 := (hS2.fr q9 id).cell 8
        clear HX HG1 HSm hR8 hW8 hR9 hW9 g8 g9 g79
        go_upto_region 14 with (go_at_call 22; refine HY.out.mono ?_; rintro e w10 ⟨rfl, g10⟩)
        have q10 := q9.then_ g10
        clear t0 t1 t2 t3 s0 s1 s2 s3 s4 s5 s6 s7 s8
        clear HY x0 x1 x2 x3 x4 hX1
        have e2 := g10.cell_some e2 id
        have f2 := g10.cell_some f2 id
        have r2 := r2.u8 g10 (fun _ _ => id)
        have e3 := g10.cell_some e3 id
        have f3 := g10.cell_some f3 id
        have r3 := r3.u8 g10 (fun _ _ => id)
        have HX := Lib.hid (HG2.out w10 _ p2 r2)
        go_upto_region 16 with (first | (refine wpList_store_new rfl 62 (.tmp 13) (.tmp 109) rfl _ _ rfl rfl (by kernel_rfl) rfl (by simp [Value.oneCell']) ?_) | (go_at_call 19; refine HX.out.mono ?_; rintro e w11 ⟨RA2, cr2, WA2, cw2, CA2, cc2, EA2, ce2, VA2, cv2, rfl, _, _, _, _, _, g11⟩))
        have hX2 := Blk.new w11 62 #[.int .i64 8, .int .i64 0, .int .i64 0, .slice RA2 0 cr2, .slice WA2 0 cw2, .int .i64 s.kind, .int .i64 s.txn, .bool s.yes, .string s.from_, .string s.to_, .int .i64 s.epoch, .int .i64 s.shard, .int .i64 s.target, .int .i64 s.root, .int .i64 0, .int .i64 0, .slice CA2 0 cc2, .int .i64 0, .int .i64 0, .slice EA2 0 ce2, .slice VA2 0 cv2]
        have g12 := (Fr.refl (fun _ => False) w11).alloc (Obj.cells #[.int .i64 8, .int .i64 0, .int .i64 0, .slice RA2 0 cr2, .slice WA2 0 cw2, .int .i64 s.kind, .int .i64 s.txn, .bool s.yes, .string s.from_, .string s.to_, .int .i64 s.epoch, .int .i64 s.shard, .int .i64 s.target, .int .i64 s.root, .int .i64 0, .int .i64 0, .slice CA2 0 cc2, .int .i64 0, .int .i64 0, .slice EA2 0 ce2, .slice VA2 0 cv2] 62)
        generalize w11.alloc (Obj.cells #[.int .i64 8, .int .i64 0, .int .i64 0, .slice RA2 0 cr2, .slice WA2 0 cw2, .int .i64 s.kind, .int .i64 s.txn, .bool s.yes, .string s.from_, .string s.to_, .int .i64 s.epoch, .int .i64 s.shard, .int .i64 s.target, .int .i64 s.root, .int .i64 0, .int .i64 0, .slice CA2 0 cc2, .int .i64 0, .int .i64 0, .slice EA2 0 ce2, .slice VA2 0 cv2] 62) = w12 at *
        have q12 := (q10.then_ g11).then_ g12
        have g1112 := g11.then_ g12
        have e2 := g1112.cell_some e2 id
        have f2 := g1112.cell_some f2 id
        have r2 := r2.u8 g1112 (fun _ _ => id)
        have e3 := g1112.cell_some e3 id
        have f3 := g1112.cell_some f3 id
        have r3 := r3.u8 g1112 (fun _ _ => id)
        clear HX HG2 g11 g12 g1112
        have HX := Lib.hid (HG3.out w12 _ p3 r3)
        go_upto_region 17 with (first | (refine wpList_store_new rfl 62 (.tmp 16) (.tmp 118) rfl _ _ rfl rfl (by kernel_rfl) rfl (by simp [Value.oneCell']) ?_) | (go_at_call 19; refine HX.out.mono ?_; rintro e w13 ⟨RA3, cr3, WA3, cw3, CA3, cc3, EA3, ce3, VA3, cv3, rfl, _, _, _, _, _, g13⟩))
        have hX3 := Blk.new w13 62 #[.int .i64 9, .int .i64 0, .int .i64 0, .slice RA3 0 cr3, .slice WA3 0 cw3, .int .i64 s.kind, .int .i64 s.txn, .bool s.yes, .string s.from_, .string s.to_, .int .i64 s.epoch, .int .i64 s.shard, .int .i64 s.target, .int .i64 s.root, .int .i64 0, .int .i64 0, .slice CA3 0 cc3, .int .i64 0, .int .i64 0, .slice EA3 0 ce3, .slice VA3 0 cv3]
        have g14 := (Fr.refl (fun _ => False) w13).alloc (Obj.cells #[.int .i64 9, .int .i64 0, .int .i64 0, .slice RA3 0 cr3, .slice WA3 0 cw3, .int .i64 s.kind, .int .i64 s.txn, .bool s.yes, .string s.from_, .string s.to_, .int .i64 s.epoch, .int .i64 s.shard, .int .i64 s.target, .int .i64 s.root, .int .i64 0, .int .i64 0, .slice CA3 0 cc3, .int .i64 0, .int .i64 0, .slice EA3 0 ce3, .slice VA3 0 cv3] 62)
        generalize w13.alloc (Obj.cells #[.int .i64 9, .int .i64 0, .int .i64 0, .slice RA3 0 cr3, .slice WA3 0 cw3, .int .i64 s.kind, .int .i64 s.txn, .bool s.yes, .string s.from_, .string s.to_, .int .i64 s.epoch, .int .i64 s.shard, .int .i64 s.target, .int .i64 s.root, .int .i64 0, .int .i64 0, .slice CA3 0 cc3, .int .i64 0, .int .i64 0, .slice EA3 0 ce3, .slice VA3 0 cv3] 62) = w14 at *
        have q14 := (q12.then_ g13).then_ g14
        have g1314 := g13.then_ g14
        have e2 := g1314.cell_some e2 id
        have f2 := g1314.cell_some f2 id
        have r2 := r2.u8 g1314 (fun _ _ => id)
        have e3 := g1314.cell_some e3 id
        have f3 := g1314.cell_some f3 id
        have r3 := r3.u8 g1314 (fun _ _ => id)
        have hX2 := hX2.fr g1314 id
        clear HX HG3 g13 g14 g1314
        have x0 := hX2.cell 0
        have y0 := hX3.cell 0
        have x5 := hX2.cell 5
        have y5 := hX3.cell 5
        have x6 := hX2.cell 6
        have y6 := hX3.cell 6
        have x7 := hX2.cell 7
        have y7 := hX3.cell 7
        have x8 := hX2.cell 8
        have y8 := hX3.cell 8
        have x9 := hX2.cell 9
        have y9 := hX3.cell 9
        have x10 := hX2.cell 10
        have y10 := hX3.cell 10
        have x11 := hX2.cell 11
        have y11 := hX3.cell 11
        have x12 := hX2.cell 12
        have y12 := hX3.cell 12
        have x13 := hX2.cell 13
        have y13 := hX3.cell 13
        have s0 := (hS2.fr q14 id).cell 0
        have s1 := (hS2.fr q14 id).cell 1
        have s2 := (hS2.fr q14 id).cell 2
        have s3 := (hS2.fr q14 id).cell 3
        have s4 := (hS2.fr q14 id).cell 4
        have s5 := (hS2.fr q14 id).cell 5
        have s6 := (hS2.fr q14 id).cell 6
        have s7 := (hS2.fr q14 id).cell 7
        have s8 := (hS2.fr q14 id).cell 8
        go_wp2
        go_ret
        exact ⟨rfl, hf02.then_ q14⟩
      · have hMn := hM
        clear hM
        by_cases hM : ZSay s
        · simp only [if_pos hT] at HB
          simp only [decide_eq_true hT] at HRt
          have lR := rises_len hT.2.2.2.2.2.1
          have lW := rises_len hT.2.2.2.2.2.2
          replace HSm := fun w' hf RA WA crr cww h1 h2 => HSm w' hf RA WA crr cww h1 h2 (by omega) (by omega)
          rw [decide_eq_true (p := c = c ∧ n = n ∧ R = R ∧ W = W) ⟨rfl, rfl, rfl, rfl⟩] at HSm
          replace HSm := Lib.hid HSm
          have HG1 := Lib.hid (fun w' A' cap' (h : ByteRow w' (U8 w') A' (orderB 6 (txnB c n R W) [] certZ)) => getOrder_begin (cap := cap') hT h)
          obtain ⟨b1, hb1⟩ : ∃ b, Hid (orderB 6 (txnB c n R W) [] certZ = b) := ⟨_, rfl⟩
          rw [hb1.out] at HB HG1
          clear hT hb1 lR lW
          replace HB := Lib.hid HB
          replace HRt := Lib.hid HRt
          simp only [if_pos (show OkSay s ∨ ZSay s from Or.inr hM)] at HC HM
          have HG2 := Lib.hid (fun w' A' cap' (h : ByteRow w' (U8 w') A' (orderB 8 [] (wordB s) certZ)) => getOrder_word (cap := cap') (by omega) (Or.inr hM) h)
          obtain ⟨b2, hb2⟩ : ∃ b, Hid (orderB 8 [] (wordB s) certZ = b) := ⟨_, rfl⟩
          rw [hb2.out] at HG2 HC
          clear hb2
          have HG3 := Lib.hid (fun w' A' cap' (h : ByteRow w' (U8 w') A' (orderB 9 [] (wordB s) certZ)) => getOrder_word (cap := cap') (by omega) (Or.inr hM) h)
          obtain ⟨b3, hb3⟩ : ∃ b, Hid (orderB 9 [] (wordB s) certZ = b) := ⟨_, rfl⟩
          rw [hb3.out] at HG3 HM
          clear hb3
          have hnok : ¬ OkSay s := fun h => by rw [show s = ⟨0, 0, false, ⟨#[]⟩, ⟨#[]⟩, 0, 0, 0, 0⟩ from hM] at h; exact not_say_zero h
          simp only [decide_eq_false hnok] at HRs
          have hzz : zeroSay ⟨s.kind, s.txn, s.yes, s.from_, s.to_, s.epoch, s.shard, s.target, s.root⟩ = true := (zeroSay_iff s).2 hM
          clear hM hnok
          replace HC := Lib.hid HC
          replace HM := Lib.hid HM
          replace HRs := Lib.hid HRs
          have t0 := (hT2.fr hf2r id).cell 0
          have t1 := (hT2.fr hf2r id).cell 1
          have t2 := (hT2.fr hf2r id).cell 2
          have t3 := (hT2.fr hf2r id).cell 3
          have s0 := (hS2.fr hf2r id).cell 0
          have s1 := (hS2.fr hf2r id).cell 1
          have s2 := (hS2.fr hf2r id).cell 2
          have s3 := (hS2.fr hf2r id).cell 3
          have s4 := (hS2.fr hf2r id).cell 4
          have s5 := (hS2.fr hf2r id).cell 5
          have s6 := (hS2.fr hf2r id).cell 6
          have s7 := (hS2.fr hf2r id).cell 7
          have s8 := (hS2.fr hf2r id).cell 8
          go_upto_region 5 with (go_at_call 23; refine (HB.out _ hf2r).mono ?_; rintro e w3 ⟨v3, rfl, ht1, g3⟩)
          obtain ⟨k1, c1, A1, p1, rfl, e1, f1, r1⟩ := ht1.one
          have q3 := hf2r.then_ g3
          clear t0 t1 t2 t3 s0 s1 s2 s3 s4 s5 s6 s7 s8
          clear HB ht1
          have t0 := (hT2.fr q3 id).cell 0
          have t1 := (hT2.fr q3 id).cell 1
          have t2 := (hT2.fr q3 id).cell 2
          have t3 := (hT2.fr q3 id).cell 3
          have s0 := (hS2.fr q3 id).cell 0
          have s1 := (hS2.fr q3 id).cell 1
          have s2 := (hS2.fr q3 id).cell 2
          have s3 := (hS2.fr q3 id).cell 3
          have s4 := (hS2.fr q3 id).cell 4
          have s5 := (hS2.fr q3 id).cell 5
          have s6 := (hS2.fr q3 id).cell 6
          have s7 := (hS2.fr q3 id).cell 7
          have s8 := (hS2.fr q3 id).cell 8
          go_upto_region 6 with (go_at_call 25; refine (HC.out _).mono ?_; rintro e w4 ⟨v4, rfl, ht2, g4⟩)
          obtain ⟨k2, c2, A2, p2, rfl, e2, f2, r2⟩ := ht2.one
          have q4 := q3.then_ g4
          clear t0 t1 t2 t3 s0 s1 s2 s3 s4 s5 s6 s7 s8
          clear HC ht2
          have t0 := (hT2.fr q4 id).cell 0
          have t1 := (hT2.fr q4 id).cell 1
          have t2 := (hT2.fr q4 id).cell 2
          have t3 := (hT2.fr q4 id).cell 3
          have s0 := (hS2.fr q4 id).cell 0
          have s1 := (hS2.fr q4 id).cell 1
          have s2 := (hS2.fr q4 id).cell 2
          have s3 := (hS2.fr q4 id).cell 3
          have s4 := (hS2.fr q4 id).cell 4
          have s5 := (hS2.fr q4 id).cell 5
          have s6 := (hS2.fr q4 id).cell 6
          have s7 := (hS2.fr q4 id).cell 7
          have s8 := (hS2.fr q4 id).cell 8
          go_upto_region 7 with (go_at_call 27; refine (HM.out _).mono ?_; rintro e w5 ⟨v5, rfl, ht3, g5⟩)
          obtain ⟨k3, c3, A3, p3, rfl, e3, f3, r3⟩ := ht3.one
          have q5 := q4.then_ g5
          clear t0 t1 t2 t3 s0 s1 s2 s3 s4 s5 s6 s7 s8
          clear HM ht3
          have t0 := (hT2.fr q5 id).cell 0
          have t1 := (hT2.fr q5 id).cell 1
          have t2 := (hT2.fr q5 id).cell 2
          have t3 := (hT2.fr q5 id).cell 3
          have s0 := (hS2.fr q5 id).cell 0
          have s1 := (hS2.fr q5 id).cell 1
          have s2 := (hS2.fr q5 id).cell 2
          have s3 := (hS2.fr q5 id).cell 3
          have s4 := (hS2.fr q5 id).cell 4
          have s5 := (hS2.fr q5 id).cell 5
          have s6 := (hS2.fr q5 id).cell 6
          have s7 := (hS2.fr q5 id).cell 7
          have s8 := (hS2.fr q5 id).cell 8
          go_upto_region 8 with (go_at_call 29; refine (HRs.out _).mono ?_; rintro e w6 ⟨rfl, g6⟩; have q6 := q5.then_ g6; have s0 := (hS2.fr q6 id).cell 0; have s1 := (hS2.fr q6 id).cell 1; have s2 := (hS2.fr q6 id).cell 2; have s3 := (hS2.fr q6 id).cell 3; have s4 := (hS2.fr q6 id).cell 4; have s5 := (hS2.fr q6 id).cell 5; have s6 := (hS2.fr q6 id).cell 6; have s7 := (hS2.fr q6 id).cell 7; have s8 := (hS2.fr q6 id).cell 8)
          clear t0 t1 t2 t3 s0 s1 s2 s3 s4 s5 s6 s7 s8
          clear HRs
          have t0 := (hT2.fr q6 id).cell 0
          have t1 := (hT2.fr q6 id).cell 1
          have t2 := (hT2.fr q6 id).cell 2
          have t3 := (hT2.fr q6 id).cell 3
          have s0 := (hS2.fr q6 id).cell 0
          have s1 := (hS2.fr q6 id).cell 1
          have s2 := (hS2.fr q6 id).cell 2
          have s3 := (hS2.fr q6 id).cell 3
          have s4 := (hS2.fr q6 id).cell 4
          have s5 := (hS2.fr q6 id).cell 5
          have s6 := (hS2.fr q6 id).cell 6
          have s7 := (hS2.fr q6 id).cell 7
          have s8 := (hS2.fr q6 id).cell 8
          have g36 := (g4.then_ g5).then_ g6
          have e1 := g36.cell_some e1 id
          have f1 := g36.cell_some f1 id
          have r1 := r1.u8 g36 (fun _ _ => id)
          have g46 := g5.then_ g6
          have e2 := g46.cell_some e2 id
          have f2 := g46.cell_some f2 id
          have r2 := r2.u8 g46 (fun _ _ => id)
          have e3 := g6.cell_some e3 id
          have f3 := g6.cell_some f3 id
          have r3 := r3.u8 g6 (fun _ _ => id)
          clear g3 g4 g5 g6 g36 g46
          go_upto_region 10 with (go_at_call 30; refine (HRt.out _ q6).mono ?_; rintro e w7 ⟨rfl, g7⟩)
          have q7 := q6.then_ g7
          clear t0 t1 t2 t3 s0 s1 s2 s3 s4 s5 s6 s7 s8
          clear HRt
          have e1 := g7.cell_some e1 id
          have f1 := g7.cell_some f1 id
          have r1 := r1.u8 g7 (fun _ _ => id)
          have e2 := g7.cell_some e2 id
          have f2 := g7.cell_some f2 id
          have r2 := r2.u8 g7 (fun _ _ => id)
          have e3 := g7.cell_some e3 id
          have f3 := g7.cell_some f3 id
          have r3 := r3.u8 g7 (fun _ _ => id)
          have HX := Lib.hid (HG1.out w7 _ p1 r1)
          go_upto_region 12 with (first | (refine wpList_store_new rfl 62 (.tmp 10) (.tmp 76) rfl _ _ rfl rfl (by kernel_rfl) rfl (by simp [Value.oneCell']) ?_) | (go_at_call 19; refine HX.out.mono ?_; rintro e w8 ⟨RA1, cr1, WA1, cw1, CA1, cc1, EA1, ce1, VA1, cv1, rfl, hR8, hW8, _, _, _, g8⟩))
          have hX1 := Blk.new w8 62 #[.int .i64 6, .int .i64 c, .int .i64 n, .slice RA1 R.length cr1, .slice WA1 W.length cw1, .int .i64 0, .int .i64 0, .bool false, .string ⟨#[]⟩, .string ⟨#[]⟩, .int .i64 0, .int .i64 0, .int .i64 0, .int .i64 0, .int .i64 0, .int .i64 0, .slice CA1 0 cc1, .int .i64 0, .int .i64 0, .slice EA1 0 ce1, .slice VA1 0 cv1]
          have g9 := (Fr.refl (fun _ => False) w8).alloc (Obj.cells #[.int .i64 6, .int .i64 c, .int .i64 n, .slice RA1 R.length cr1, .slice WA1 W.length cw1, .int .i64 0, .int .i64 0, .bool false, .string ⟨#[]⟩, .string ⟨#[]⟩, .int .i64 0, .int .i64 0, .int .i64 0, .int .i64 0, .int .i64 0, .int .i64 0, .slice CA1 0 cc1, .int .i64 0, .int .i64 0, .slice EA1 0 ce1, .slice VA1 0 cv1] 62)
          generalize w8.alloc (Obj.cells #[.int .i64 6, .int .i64 c, .int .i64 n, .slice RA1 R.length cr1, .slice WA1 W.length cw1, .int .i64 0, .int .i64 0, .bool false, .string ⟨#[]⟩, .string ⟨#[]⟩, .int .i64 0, .int .i64 0, .int .i64 0, .int .i64 0, .int .i64 0, .int .i64 0, .slice CA1 0 cc1, .int .i64 0, .int .i64 0, .slice EA1 0 ce1, .slice VA1 0 cv1] 62) = w9 at *
          have q9 := (q7.then_ g8).then_ g9
          have g79 := g8.then_ g9
          have e1 := g79.cell_some e1 id
          have f1 := g79.cell_some f1 id
          have r1 := r1.u8 g79 (fun _ _ => id)
          have e2 := g79.cell_some e2 id
          have f2 := g79.cell_some f2 id
          have r2 := r2.u8 g79 (fun _ _ => id)
          have e3 := g79.cell_some e3 id
          have f3 := g79.cell_some f3 id
          have r3 := r3.u8 g79 (fun _ _ => id)
          have hR9 := (hR8.fr g9 (fun _ _ => id)).mono_ (F' := fun _ => True) (fun _ _ => trivial)
          have hW9 := (hW8.fr g9 (fun _ _ => id)).mono_ (F' := fun _ => True) (fun _ _ => trivial)
          have HY := Lib.hid (HSm.out w9 q9 RA1 WA1 cr1 cw1 hR9 hW9)
          have x0 := hX1.cell 0
          have x1 := hX1.cell 1
          have x2 := hX1.cell 2
          have x3 := hX1.cell 3
          have x4 := hX1.cell 4
          have t0 := (hT2.fr q9 id).cell 0
          have t1 := (hT2.fr q9 id).cell 1
          have t2 := (hT2.fr q9 id).cell 2
          have t3 := (hT2.fr q9 id).cell 3
          have s0 := (hS2.fr q9 id).cell 0
          have s1 := (hS2.fr q9 id).cell 1
          have s2 := (hS2.fr q9 id).cell 2
          have s3 := (hS2.fr q9 id).cell 3
          have s4 := (hS2.fr q9 id).cell 4
          have s5 := (hS2.fr q9 id).cell 5
          have s6 := (hS2.fr q9 id).cell 6
          have s7 := (hS2.fr q9 id).cell 7
          have s8 := (hS2.fr q9 id).cell 8
          clear HX HG1 HSm hR8 hW8 hR9 hW9 g8 g9 g79
          go_upto_region 14 with (go_at_call 22; refine HY.out.mono ?_; rintro e w10 ⟨rfl, g10⟩)
          have q10 := q9.then_ g10
          clear t0 t1 t2 t3 s0 s1 s2 s3 s4 s5 s6 s7 s8
          clear HY x0 x1 x2 x3 x4 hX1
          have e2 := g10.cell_some e2 id
          have f2 := g10.cell_some f2 id
          have r2 := r2.u8 g10 (fun _ _ => id)
          have e3 := g10.cell_some e3 id
          have f3 := g10.cell_some f3 id
          have r3 := r3.u8 g10 (fun _ _ => id)
          have HX := Lib.hid (HG2.out w10 _ p2 r2)
          go_upto_region 16 with (first | (refine wpList_store_new rfl 62 (.tmp 13) (.tmp 109) rfl _ _ rfl rfl (by kernel_rfl) rfl (by simp [Value.oneCell']) ?_) | (go_at_call 19; refine HX.out.mono ?_; rintro e w11 ⟨RA2, cr2, WA2, cw2, CA2, cc2, EA2, ce2, VA2, cv2, rfl, _, _, _, _, _, g11⟩))
          have hX2 := Blk.new w11 62 #[.int .i64 8, .int .i64 0, .int .i64 0, .slice RA2 0 cr2, .slice WA2 0 cw2, .int .i64 s.kind, .int .i64 s.txn, .bool s.yes, .string s.from_, .string s.to_, .int .i64 s.epoch, .int .i64 s.shard, .int .i64 s.target, .int .i64 s.root, .int .i64 0, .int .i64 0, .slice CA2 0 cc2, .int .i64 0, .int .i64 0, .slice EA2 0 ce2, .slice VA2 0 cv2]
          have g12 := (Fr.refl (fun _ => False) w11).alloc (Obj.cells #[.int .i64 8, .int .i64 0, .int .i64 0, .slice RA2 0 cr2, .slice WA2 0 cw2, .int .i64 s.kind, .int .i64 s.txn, .bool s.yes, .string s.from_, .string s.to_, .int .i64 s.epoch, .int .i64 s.shard, .int .i64 s.target, .int .i64 s.root, .int .i64 0, .int .i64 0, .slice CA2 0 cc2, .int .i64 0, .int .i64 0, .slice EA2 0 ce2, .slice VA2 0 cv2] 62)
          generalize w11.alloc (Obj.cells #[.int .i64 8, .int .i64 0, .int .i64 0, .slice RA2 0 cr2, .slice WA2 0 cw2, .int .i64 s.kind, .int .i64 s.txn, .bool s.yes, .string s.from_, .string s.to_, .int .i64 s.epoch, .int .i64 s.shard, .int .i64 s.target, .int .i64 s.root, .int .i64 0, .int .i64 0, .slice CA2 0 cc2, .int .i64 0, .int .i64 0, .slice EA2 0 ce2, .slice VA2 0 cv2] 62) = w12 at *
          have q12 := (q10.then_ g11).then_ g12
          have g1112 := g11.then_ g12
          have e2 := g1112.cell_some e2 id
          have f2 := g1112.cell_some f2 id
          have r2 := r2.u8 g1112 (fun _ _ => id)
          have e3 := g1112.cell_some e3 id
          have f3 := g1112.cell_some f3 id
          have r3 := r3.u8 g1112 (fun _ _ => id)
          clear HX HG2 g11 g12 g1112
          have HX := Lib.hid (HG3.out w12 _ p3 r3)
          go_upto_region 17 with (first | (refine wpList_store_new rfl 62 (.tmp 16) (.tmp 118) rfl _ _ rfl rfl (by kernel_rfl) rfl (by simp [Value.oneCell']) ?_) | (go_at_call 19; refine HX.out.mono ?_; rintro e w13 ⟨RA3, cr3, WA3, cw3, CA3, cc3, EA3, ce3, VA3, cv3, rfl, _, _, _, _, _, g13⟩))
          have hX3 := Blk.new w13 62 #[.int .i64 9, .int .i64 0, .int .i64 0, .slice RA3 0 cr3, .slice WA3 0 cw3, .int .i64 s.kind, .int .i64 s.txn, .bool s.yes, .string s.from_, .string s.to_, .int .i64 s.epoch, .int .i64 s.shard, .int .i64 s.target, .int .i64 s.root, .int .i64 0, .int .i64 0, .slice CA3 0 cc3, .int .i64 0, .int .i64 0, .slice EA3 0 ce3, .slice VA3 0 cv3]
          have g14 := (Fr.refl (fun _ => False) w13).alloc (Obj.cells #[.int .i64 9, .int .i64 0, .int .i64 0, .slice RA3 0 cr3, .slice WA3 0 cw3, .int .i64 s.kind, .int .i64 s.txn, .bool s.yes, .string s.from_, .string s.to_, .int .i64 s.epoch, .int .i64 s.shard, .int .i64 s.target, .int .i64 s.root, .int .i64 0, .int .i64 0, .slice CA3 0 cc3, .int .i64 0, .int .i64 0, .slice EA3 0 ce3, .slice VA3 0 cv3] 62)
          generalize w13.alloc (Obj.cells #[.int .i64 9, .int .i64 0, .int .i64 0, .slice RA3 0 cr3, .slice WA3 0 cw3, .int .i64 s.kind, .int .i64 s.txn, .bool s.yes, .string s.from_, .string s.to_, .int .i64 s.epoch, .int .i64 s.shard, .int .i64 s.target, .int .i64 s.root, .int .i64 0, .int .i64 0, .slice CA3 0 cc3, .int .i64 0, .int .i64 0, .slice EA3 0 ce3, .slice VA3 0 cv3] 62) = w14 at *
          have q14 := (q12.then_ g13).then_ g14
          have g1314 := g13.then_ g14
          have e2 := g1314.cell_some e2 id
          have f2 := g1314.cell_some f2 id
          have r2 := r2.u8 g1314 (fun _ _ => id)
          have e3 := g1314.cell_some e3 id
          have f3 := g1314.cell_some f3 id
          have r3 := r3.u8 g1314 (fun _ _ => id)
          have hX2 := hX2.fr g1314 id
          clear HX HG3 g13 g14 g1314
          have x0 := hX2.cell 0
          have y0 := hX3.cell 0
          have x5 := hX2.cell 5
          have y5 := hX3.cell 5
          have x6 := hX2.cell 6
          have y6 := hX3.cell 6
          have x7 := hX2.cell 7
          have y7 := hX3.cell 7
          have x8 := hX2.cell 8
          have y8 := hX3.cell 8
          have x9 := hX2.cell 9
          have y9 := hX3.cell 9
          have x10 := hX2.cell 10
          have y10 := hX3.cell 10
          have x11 := hX2.cell 11
          have y11 := hX3.cell 11
          have x12 := hX2.cell 12
          have y12 := hX3.cell 12
          have x13 := hX2.cell 13
          have y13 := hX3.cell 13
          have s0 := (hS2.fr q14 id).cell 0
          have s1 := (hS2.fr q14 id).cell 1
          have s2 := (hS2.fr q14 id).cell 2
          have s3 := (hS2.fr q14 id).cell 3
          have s4 := (hS2.fr q14 id).cell 4
          have s5 := (hS2.fr q14 id).cell 5
          have s6 := (hS2.fr q14 id).cell 6
          have s7 := (hS2.fr q14 id).cell 7
          have s8 := (hS2.fr q14 id).cell 8
          go_wp2
          go_ret
          exact ⟨rfl, hf02.then_ q14⟩
        · have hM : ¬ (OkSay s ∨ ZSay s) := fun h => h.elim hMn hM
          clear hMn
          simp only [if_pos hT] at HB
          simp only [decide_eq_true hT] at HRt
          have lR := rises_len hT.2.2.2.2.2.1
          have lW := rises_len hT.2.2.2.2.2.2
          replace HSm := fun w' hf RA WA crr cww h1 h2 => HSm w' hf RA WA crr cww h1 h2 (by omega) (by omega)
          rw [decide_eq_true (p := c = c ∧ n = n ∧ R = R ∧ W = W) ⟨rfl, rfl, rfl, rfl⟩] at HSm
          replace HSm := Lib.hid HSm
          have HG1 := Lib.hid (fun w' A' cap' (h : ByteRow w' (U8 w') A' (orderB 6 (txnB c n R W) [] certZ)) => getOrder_begin (cap := cap') hT h)
          obtain ⟨b1, hb1⟩ : ∃ b, Hid (orderB 6 (txnB c n R W) [] certZ = b) := ⟨_, rfl⟩
          rw [hb1.out] at HB HG1
          clear hT hb1 lR lW
          replace HB := Lib.hid HB
          replace HRt := Lib.hid HRt
          simp only [if_neg hM] at HC HM
          simp only [decide_eq_false (fun h => hM (Or.inl h))] at HRs
          have hzz : zeroSay ⟨s.kind, s.txn, s.yes, s.from_, s.to_, s.epoch, s.shard, s.target, s.root⟩ = false := by
            have : ¬ zeroSay s = true := fun e => hM (Or.inr ((zeroSay_iff s).1 e))
            simpa using this
          clear hM
          replace HC := Lib.hid HC
          replace HM := Lib.hid HM
          replace HRs := Lib.hid HRs
          have t0 := (hT2.fr hf2r id).cell 0
          have t1 := (hT2.fr hf2r id).cell 1
          have t2 := (hT2.fr hf2r id).cell 2
          have t3 := (hT2.fr hf2r id).cell 3
          have s0 := (hS2.fr hf2r id).cell 0
          have s1 := (hS2.fr hf2r id).cell 1
          have s2 := (hS2.fr hf2r id).cell 2
          have s3 := (hS2.fr hf2r id).cell 3
          have s4 := (hS2.fr hf2r id).cell 4
          have s5 := (hS2.fr hf2r id).cell 5
          have s6 := (hS2.fr hf2r id).cell 6
          have s7 := (hS2.fr hf2r id).cell 7
          have s8 := (hS2.fr hf2r id).cell 8
          go_upto_region 5 with (go_at_call 23; refine (HB.out _ hf2r).mono ?_; rintro e w3 ⟨v3, rfl, ht1, g3⟩)
          obtain ⟨k1, c1, A1, p1, rfl, e1, f1, r1⟩ := ht1.one
          have q3 := hf2r.then_ g3
          clear t0 t1 t2 t3 s0 s1 s2 s3 s4 s5 s6 s7 s8
          clear HB ht1
          have t0 := (hT2.fr q3 id).cell 0
          have t1 := (hT2.fr q3 id).cell 1
          have t2 := (hT2.fr q3 id).cell 2
          have t3 := (hT2.fr q3 id).cell 3
          have s0 := (hS2.fr q3 id).cell 0
          have s1 := (hS2.fr q3 id).cell 1
          have s2 := (hS2.fr q3 id).cell 2
          have s3 := (hS2.fr q3 id).cell 3
          have s4 := (hS2.fr q3 id).cell 4
          have s5 := (hS2.fr q3 id).cell 5
          have s6 := (hS2.fr q3 id).cell 6
          have s7 := (hS2.fr q3 id).cell 7
          have s8 := (hS2.fr q3 id).cell 8
          go_upto_region 6 with (go_at_call 25; refine (HC.out _).mono ?_; rintro e w4 ⟨v4, rfl, ht2, g4⟩)
          obtain ⟨A2, c2, rfl⟩ := ht2.zero
          have q4 := q3.then_ g4
          clear t0 t1 t2 t3 s0 s1 s2 s3 s4 s5 s6 s7 s8
          clear HC ht2
          have t0 := (hT2.fr q4 id).cell 0
          have t1 := (hT2.fr q4 id).cell 1
          have t2 := (hT2.fr q4 id).cell 2
          have t3 := (hT2.fr q4 id).cell 3
          have s0 := (hS2.fr q4 id).cell 0
          have s1 := (hS2.fr q4 id).cell 1
          have s2 := (hS2.fr q4 id).cell 2
          have s3 := (hS2.fr q4 id).cell 3
          have s4 := (hS2.fr q4 id).cell 4
          have s5 := (hS2.fr q4 id).cell 5
          have s6 := (hS2.fr q4 id).cell 6
          have s7 := (hS2.fr q4 id).cell 7
          have s8 := (hS2.fr q4 id).cell 8
          go_upto_region 7 with (go_at_call 27; refine (HM.out _).mono ?_; rintro e w5 ⟨v5, rfl, ht3, g5⟩)
          obtain ⟨A3, c3, rfl⟩ := ht3.zero
          have q5 := q4.then_ g5
          clear t0 t1 t2 t3 s0 s1 s2 s3 s4 s5 s6 s7 s8
          clear HM ht3
          have t0 := (hT2.fr q5 id).cell 0
          have t1 := (hT2.fr q5 id).cell 1
          have t2 := (hT2.fr q5 id).cell 2
          have t3 := (hT2.fr q5 id).cell 3
          have s0 := (hS2.fr q5 id).cell 0
          have s1 := (hS2.fr q5 id).cell 1
          have s2 := (hS2.fr q5 id).cell 2
          have s3 := (hS2.fr q5 id).cell 3
          have s4 := (hS2.fr q5 id).cell 4
          have s5 := (hS2.fr q5 id).cell 5
          have s6 := (hS2.fr q5 id).cell 6
          have s7 := (hS2.fr q5 id).cell 7
          have s8 := (hS2.fr q5 id).cell 8
          go_upto_region 8 with (go_at_call 29; refine (HRs.out _).mono ?_; rintro e w6 ⟨rfl, g6⟩; have q6 := q5.then_ g6; have s0 := (hS2.fr q6 id).cell 0; have s1 := (hS2.fr q6 id).cell 1; have s2 := (hS2.fr q6 id).cell 2; have s3 := (hS2.fr q6 id).cell 3; have s4 := (hS2.fr q6 id).cell 4; have s5 := (hS2.fr q6 id).cell 5; have s6 := (hS2.fr q6 id).cell 6; have s7 := (hS2.fr q6 id).cell 7; have s8 := (hS2.fr q6 id).cell 8)
          clear t0 t1 t2 t3 s0 s1 s2 s3 s4 s5 s6 s7 s8
          clear HRs
          have t0 := (hT2.fr q6 id).cell 0
          have t1 := (hT2.fr q6 id).cell 1
          have t2 := (hT2.fr q6 id).cell 2
          have t3 := (hT2.fr q6 id).cell 3
          have s0 := (hS2.fr q6 id).cell 0
          have s1 := (hS2.fr q6 id).cell 1
          have s2 := (hS2.fr q6 id).cell 2
          have s3 := (hS2.fr q6 id).cell 3
          have s4 := (hS2.fr q6 id).cell 4
          have s5 := (hS2.fr q6 id).cell 5
          have s6 := (hS2.fr q6 id).cell 6
          have s7 := (hS2.fr q6 id).cell 7
          have s8 := (hS2.fr q6 id).cell 8
          have g36 := (g4.then_ g5).then_ g6
          have e1 := g36.cell_some e1 id
          have f1 := g36.cell_some f1 id
          have r1 := r1.u8 g36 (fun _ _ => id)
          clear g3 g4 g5 g6 g36
          go_upto_region 10 with (go_at_call 30; refine (HRt.out _ q6).mono ?_; rintro e w7 ⟨rfl, g7⟩)
          have q7 := q6.then_ g7
          clear t0 t1 t2 t3 s0 s1 s2 s3 s4 s5 s6 s7 s8
          clear HRt
          have e1 := g7.cell_some e1 id
          have f1 := g7.cell_some f1 id
          have r1 := r1.u8 g7 (fun _ _ => id)
          have HX := Lib.hid (HG1.out w7 _ p1 r1)
          go_upto_region 12 with (first | (refine wpList_store_new rfl 62 (.tmp 10) (.tmp 76) rfl _ _ rfl rfl (by kernel_rfl) rfl (by simp [Value.oneCell']) ?_) | (go_at_call 19; refine HX.out.mono ?_; rintro e w8 ⟨RA1, cr1, WA1, cw1, CA1, cc1, EA1, ce1, VA1, cv1, rfl, hR8, hW8, _, _, _, g8⟩))
          have hX1 := Blk.new w8 62 #[.int .i64 6, .int .i64 c, .int .i64 n, .slice RA1 R.length cr1, .slice WA1 W.length cw1, .int .i64 0, .int .i64 0, .bool false, .string ⟨#[]⟩, .string ⟨#[]⟩, .int .i64 0, .int .i64 0, .int .i64 0, .int .i64 0, .int .i64 0, .int .i64 0, .slice CA1 0 cc1, .int .i64 0, .int .i64 0, .slice EA1 0 ce1, .slice VA1 0 cv1]
          have g9 := (Fr.refl (fun _ => False) w8).alloc (Obj.cells #[.int .i64 6, .int .i64 c, .int .i64 n, .slice RA1 R.length cr1, .slice WA1 W.length cw1, .int .i64 0, .int .i64 0, .bool false, .string ⟨#[]⟩, .string ⟨#[]⟩, .int .i64 0, .int .i64 0, .int .i64 0, .int .i64 0, .int .i64 0, .int .i64 0, .slice CA1 0 cc1, .int .i64 0, .int .i64 0, .slice EA1 0 ce1, .slice VA1 0 cv1] 62)
          generalize w8.alloc (Obj.cells #[.int .i64 6, .int .i64 c, .int .i64 n, .slice RA1 R.length cr1, .slice WA1 W.length cw1, .int .i64 0, .int .i64 0, .bool false, .string ⟨#[]⟩, .string ⟨#[]⟩, .int .i64 0, .int .i64 0, .int .i64 0, .int .i64 0, .int .i64 0, .int .i64 0, .slice CA1 0 cc1, .int .i64 0, .int .i64 0, .slice EA1 0 ce1, .slice VA1 0 cv1] 62) = w9 at *
          have q9 := (q7.then_ g8).then_ g9
          have g79 := g8.then_ g9
          have e1 := g79.cell_some e1 id
          have f1 := g79.cell_some f1 id
          have r1 := r1.u8 g79 (fun _ _ => id)
          have hR9 := (hR8.fr g9 (fun _ _ => id)).mono_ (F' := fun _ => True) (fun _ _ => trivial)
          have hW9 := (hW8.fr g9 (fun _ _ => id)).mono_ (F' := fun _ => True) (fun _ _ => trivial)
          have HY := Lib.hid (HSm.out w9 q9 RA1 WA1 cr1 cw1 hR9 hW9)
          have x0 := hX1.cell 0
          have x1 := hX1.cell 1
          have x2 := hX1.cell 2
          have x3 := hX1.cell 3
          have x4 := hX1.cell 4
          have t0 := (hT2.fr q9 id).cell 0
          have t1 := (hT2.fr q9 id).cell 1
          have t2 := (hT2.fr q9 id).cell 2
          have t3 := (hT2.fr q9 id).cell 3
          have s0 := (hS2.fr q9 id).cell 0
          have s1 := (hS2.fr q9 id).cell 1
          have s2 := (hS2.fr q9 id).cell 2
          have s3 := (hS2.fr q9 id).cell 3
          have s4 := (hS2.fr q9 id).cell 4
          have s5 := (hS2.fr q9 id).cell 5
          have s6 := (hS2.fr q9 id).cell 6
          have s7 := (hS2.fr q9 id).cell 7
          have s8 := (hS2.fr q9 id).cell 8
          clear HX HG1 HSm hR8 hW8 hR9 hW9 g8 g9 g79
          go_upto_region 14 with (go_at_call 22; refine HY.out.mono ?_; rintro e w10 ⟨rfl, g10⟩)
          have q10 := q9.then_ g10
          clear t0 t1 t2 t3 s0 s1 s2 s3 s4 s5 s6 s7 s8
          clear HY x0 x1 x2 x3 x4 hX1
          go_wp2
          go_ret
          exact ⟨rfl, hf02.then_ q10⟩
    · by_cases hM : OkSay s
      · simp only [if_neg hT] at HB
        simp only [decide_eq_false hT] at HRt
        clear hT HSm
        replace HB := Lib.hid HB
        replace HRt := Lib.hid HRt
        simp only [if_pos (show OkSay s ∨ ZSay s from Or.inl hM)] at HC HM
        have HG2 := Lib.hid (fun w' A' cap' (h : ByteRow w' (U8 w') A' (orderB 8 [] (wordB s) certZ)) => getOrder_word (cap := cap') (by omega) (Or.inl hM) h)
        obtain ⟨b2, hb2⟩ : ∃ b, Hid (orderB 8 [] (wordB s) certZ = b) := ⟨_, rfl⟩
        rw [hb2.out] at HG2 HC
        clear hb2
        have HG3 := Lib.hid (fun w' A' cap' (h : ByteRow w' (U8 w') A' (orderB 9 [] (wordB s) certZ)) => getOrder_word (cap := cap') (by omega) (Or.inl hM) h)
        obtain ⟨b3, hb3⟩ : ∃ b, Hid (orderB 9 [] (wordB s) certZ = b) := ⟨_, rfl⟩
        rw [hb3.out] at HG3 HM
        clear hb3
        simp only [decide_eq_true hM] at HRs
        clear hM
        have hzz : True := trivial
        replace HC := Lib.hid HC
        replace HM := Lib.hid HM
        replace HRs := Lib.hid HRs
        have t0 := (hT2.fr hf2r id).cell 0
        have t1 := (hT2.fr hf2r id).cell 1
        have t2 := (hT2.fr hf2r id).cell 2
        have t3 := (hT2.fr hf2r id).cell 3
        have s0 := (hS2.fr hf2r id).cell 0
        have s1 := (hS2.fr hf2r id).cell 1
        have s2 := (hS2.fr hf2r id).cell 2
        have s3 := (hS2.fr hf2r id).cell 3
        have s4 := (hS2.fr hf2r id).cell 4
        have s5 := (hS2.fr hf2r id).cell 5
        have s6 := (hS2.fr hf2r id).cell 6
        have s7 := (hS2.fr hf2r id).cell 7
        have s8 := (hS2.fr hf2r id).cell 8
        go_upto_region 5 with (go_at_call 23; refine (HB.out _ hf2r).mono ?_; rintro e w3 ⟨v3, rfl, ht1, g3⟩)
        obtain ⟨A1, c1, rfl⟩ := ht1.zero
        have q3 := hf2r.then_ g3
        clear t0 t1 t2 t3 s0 s1 s2 s3 s4 s5 s6 s7 s8
        clear HB ht1
        have t0 := (hT2.fr q3 id).cell 0
        have t1 := (hT2.fr q3 id).cell 1
        have t2 := (hT2.fr q3 id).cell 2
        have t3 := (hT2.fr q3 id).cell 3
        have s0 := (hS2.fr q3 id).cell 0
        have s1 := (hS2.fr q3 id).cell 1
        have s2 := (hS2.fr q3 id).cell 2
        have s3 := (hS2.fr q3 id).cell 3
        have s4 := (hS2.fr q3 id).cell 4
        have s5 := (hS2.fr q3 id).cell 5
        have s6 := (hS2.fr q3 id).cell 6
        have s7 := (hS2.fr q3 id).cell 7
        have s8 := (hS2.fr q3 id).cell 8
        go_upto_region 6 with (go_at_call 25; refine (HC.out _).mono ?_; rintro e w4 ⟨v4, rfl, ht2, g4⟩)
        obtain ⟨k2, c2, A2, p2, rfl, e2, f2, r2⟩ := ht2.one
        have q4 := q3.then_ g4
        clear t0 t1 t2 t3 s0 s1 s2 s3 s4 s5 s6 s7 s8
        clear HC ht2
        have t0 := (hT2.fr q4 id).cell 0
        have t1 := (hT2.fr q4 id).cell 1
        have t2 := (hT2.fr q4 id).cell 2
        have t3 := (hT2.fr q4 id).cell 3
        have s0 := (hS2.fr q4 id).cell 0
        have s1 := (hS2.fr q4 id).cell 1
        have s2 := (hS2.fr q4 id).cell 2
        have s3 := (hS2.fr q4 id).cell 3
        have s4 := (hS2.fr q4 id).cell 4
        have s5 := (hS2.fr q4 id).cell 5
        have s6 := (hS2.fr q4 id).cell 6
        have s7 := (hS2.fr q4 id).cell 7
        have s8 := (hS2.fr q4 id).cell 8
        go_upto_region 7 with (go_at_call 27; refine (HM.out _).mono ?_; rintro e w5 ⟨v5, rfl, ht3, g5⟩)
        obtain ⟨k3, c3, A3, p3, rfl, e3, f3, r3⟩ := ht3.one
        have q5 := q4.then_ g5
        clear t0 t1 t2 t3 s0 s1 s2 s3 s4 s5 s6 s7 s8
        clear HM ht3
        have t0 := (hT2.fr q5 id).cell 0
        have t1 := (hT2.fr q5 id).cell 1
        have t2 := (hT2.fr q5 id).cell 2
        have t3 := (hT2.fr q5 id).cell 3
        have s0 := (hS2.fr q5 id).cell 0
        have s1 := (hS2.fr q5 id).cell 1
        have s2 := (hS2.fr q5 id).cell 2
        have s3 := (hS2.fr q5 id).cell 3
        have s4 := (hS2.fr q5 id).cell 4
        have s5 := (hS2.fr q5 id).cell 5
        have s6 := (hS2.fr q5 id).cell 6
        have s7 := (hS2.fr q5 id).cell 7
        have s8 := (hS2.fr q5 id).cell 8
        go_upto_region 8 with (go_at_call 29; refine (HRs.out _).mono ?_; rintro e w6 ⟨rfl, g6⟩; have q6 := q5.then_ g6; have s0 := (hS2.fr q6 id).cell 0; have s1 := (hS2.fr q6 id).cell 1; have s2 := (hS2.fr q6 id).cell 2; have s3 := (hS2.fr q6 id).cell 3; have s4 := (hS2.fr q6 id).cell 4; have s5 := (hS2.fr q6 id).cell 5; have s6 := (hS2.fr q6 id).cell 6; have s7 := (hS2.fr q6 id).cell 7; have s8 := (hS2.fr q6 id).cell 8)
        clear t0 t1 t2 t3 s0 s1 s2 s3 s4 s5 s6 s7 s8
        clear HRs
        have t0 := (hT2.fr q6 id).cell 0
        have t1 := (hT2.fr q6 id).cell 1
        have t2 := (hT2.fr q6 id).cell 2
        have t3 := (hT2.fr q6 id).cell 3
        have s0 := (hS2.fr q6 id).cell 0
        have s1 := (hS2.fr q6 id).cell 1
        have s2 := (hS2.fr q6 id).cell 2
        have s3 := (hS2.fr q6 id).cell 3
        have s4 := (hS2.fr q6 id).cell 4
        have s5 := (hS2.fr q6 id).cell 5
        have s6 := (hS2.fr q6 id).cell 6
        have s7 := (hS2.fr q6 id).cell 7
        have s8 := (hS2.fr q6 id).cell 8
        have g46 := g5.then_ g6
        have e2 := g46.cell_some e2 id
        have f2 := g46.cell_some f2 id
        have r2 := r2.u8 g46 (fun _ _ => id)
        have e3 := g6.cell_some e3 id
        have f3 := g6.cell_some f3 id
        have r3 := r3.u8 g6 (fun _ _ => id)
        clear g3 g4 g5 g6 g46
        go_upto_region 10 with (go_at_call 30; refine (HRt.out _ q6).mono ?_; rintro e w7 ⟨rfl, g7⟩)
        have q7 := q6.then_ g7
        clear t0 t1 t2 t3 s0 s1 s2 s3 s4 s5 s6 s7 s8
        clear HRt
        have e2 := g7.cell_some e2 id
        have f2 := g7.cell_some f2 id
        have r2 := r2.u8 g7 (fun _ _ => id)
        have e3 := g7.cell_some e3 id
        have f3 := g7.cell_some f3 id
        have r3 := r3.u8 g7 (fun _ _ => id)
        have HX := Lib.hid (HG2.out w7 _ p2 r2)
        go_upto_region 16 with (first | (refine wpList_store_new rfl 62 (.tmp 13) (.tmp 109) rfl _ _ rfl rfl (by kernel_rfl) rfl (by simp [Value.oneCell']) ?_) | (go_at_call 19; refine HX.out.mono ?_; rintro e w11 ⟨RA2, cr2, WA2, cw2, CA2, cc2, EA2, ce2, VA2, cv2, rfl, _, _, _, _, _, g11⟩))
        have hX2 := Blk.new w11 62 #[.int .i64 8, .int .i64 0, .int .i64 0, .slice RA2 0 cr2, .slice WA2 0 cw2, .int .i64 s.kind, .int .i64 s.txn, .bool s.yes, .string s.from_, .string s.to_, .int .i64 s.epoch, .int .i64 s.shard, .int .i64 s.target, .int .i64 s.root, .int .i64 0, .int .i64 0, .slice CA2 0 cc2, .int .i64 0, .int .i64 0, .slice EA2 0 ce2, .slice VA2 0 cv2]
        have g12 := (Fr.refl (fun _ => False) w11).alloc (Obj.cells #[.int .i64 8, .int .i64 0, .int .i64 0, .slice RA2 0 cr2, .slice WA2 0 cw2, .int .i64 s.kind, .int .i64 s.txn, .bool s.yes, .string s.from_, .string s.to_, .int .i64 s.epoch, .int .i64 s.shard, .int .i64 s.target, .int .i64 s.root, .int .i64 0, .int .i64 0, .slice CA2 0 cc2, .int .i64 0, .int .i64 0, .slice EA2 0 ce2, .slice VA2 0 cv2] 62)
        generalize w11.alloc (Obj.cells #[.int .i64 8, .int .i64 0, .int .i64 0, .slice RA2 0 cr2, .slice WA2 0 cw2, .int .i64 s.kind, .int .i64 s.txn, .bool s.yes, .string s.from_, .string s.to_, .int .i64 s.epoch, .int .i64 s.shard, .int .i64 s.target, .int .i64 s.root, .int .i64 0, .int .i64 0, .slice CA2 0 cc2, .int .i64 0, .int .i64 0, .slice EA2 0 ce2, .slice VA2 0 cv2] 62) = w12 at *
        have q12 := (q7.then_ g11).then_ g12
        have g1112 := g11.then_ g12
        have e2 := g1112.cell_some e2 id
        have f2 := g1112.cell_some f2 id
        have r2 := r2.u8 g1112 (fun _ _ => id)
        have e3 := g1112.cell_some e3 id
        have f3 := g1112.cell_some f3 id
        have r3 := r3.u8 g1112 (fun _ _ => id)
        clear HX HG2 g11 g12 g1112
        have HX := Lib.hid (HG3.out w12 _ p3 r3)
        go_upto_region 17 with (first | (refine wpList_store_new rfl 62 (.tmp 16) (.tmp 118) rfl _ _ rfl rfl (by kernel_rfl) rfl (by simp [Value.oneCell']) ?_) | (go_at_call 19; refine HX.out.mono ?_; rintro e w13 ⟨RA3, cr3, WA3, cw3, CA3, cc3, EA3, ce3, VA3, cv3, rfl, _, _, _, _, _, g13⟩))
        have hX3 := Blk.new w13 62 #[.int .i64 9, .int .i64 0, .int .i64 0, .slice RA3 0 cr3, .slice WA3 0 cw3, .int .i64 s.kind, .int .i64 s.txn, .bool s.yes, .string s.from_, .string s.to_, .int .i64 s.epoch, .int .i64 s.shard, .int .i64 s.target, .int .i64 s.root, .int .i64 0, .int .i64 0, .slice CA3 0 cc3, .int .i64 0, .int .i64 0, .slice EA3 0 ce3, .slice VA3 0 cv3]
        have g14 := (Fr.refl (fun _ => False) w13).alloc (Obj.cells #[.int .i64 9, .int .i64 0, .int .i64 0, .slice RA3 0 cr3, .slice WA3 0 cw3, .int .i64 s.kind, .int .i64 s.txn, .bool s.yes, .string s.from_, .string s.to_, .int .i64 s.epoch, .int .i64 s.shard, .int .i64 s.target, .int .i64 s.root, .int .i64 0, .int .i64 0, .slice CA3 0 cc3, .int .i64 0, .int .i64 0, .slice EA3 0 ce3, .slice VA3 0 cv3] 62)
        generalize w13.alloc (Obj.cells #[.int .i64 9, .int .i64 0, .int .i64 0, .slice RA3 0 cr3, .slice WA3 0 cw3, .int .i64 s.kind, .int .i64 s.txn, .bool s.yes, .string s.from_, .string s.to_, .int .i64 s.epoch, .int .i64 s.shard, .int .i64 s.target, .int .i64 s.root, .int .i64 0, .int .i64 0, .slice CA3 0 cc3, .int .i64 0, .int .i64 0, .slice EA3 0 ce3, .slice VA3 0 cv3] 62) = w14 at *
        have q14 := (q12.then_ g13).then_ g14
        have g1314 := g13.then_ g14
        have e2 := g1314.cell_some e2 id
        have f2 := g1314.cell_some f2 id
        have r2 := r2.u8 g1314 (fun _ _ => id)
        have e3 := g1314.cell_some e3 id
        have f3 := g1314.cell_some f3 id
        have r3 := r3.u8 g1314 (fun _ _ => id)
        have hX2 := hX2.fr g1314 id
        clear HX HG3 g13 g14 g1314
        have x0 := hX2.cell 0
        have y0 := hX3.cell 0
        have x5 := hX2.cell 5
        have y5 := hX3.cell 5
        have x6 := hX2.cell 6
        have y6 := hX3.cell 6
        have x7 := hX2.cell 7
        have y7 := hX3.cell 7
        have x8 := hX2.cell 8
        have y8 := hX3.cell 8
        have x9 := hX2.cell 9
        have y9 := hX3.cell 9
        have x10 := hX2.cell 10
        have y10 := hX3.cell 10
        have x11 := hX2.cell 11
        have y11 := hX3.cell 11
        have x12 := hX2.cell 12
        have y12 := hX3.cell 12
        have x13 := hX2.cell 13
        have y13 := hX3.cell 13
        have s0 := (hS2.fr q14 id).cell 0
        have s1 := (hS2.fr q14 id).cell 1
        have s2 := (hS2.fr q14 id).cell 2
        have s3 := (hS2.fr q14 id).cell 3
        have s4 := (hS2.fr q14 id).cell 4
        have s5 := (hS2.fr q14 id).cell 5
        have s6 := (hS2.fr q14 id).cell 6
        have s7 := (hS2.fr q14 id).cell 7
        have s8 := (hS2.fr q14 id).cell 8
        go_wp2
        go_ret
        exact ⟨rfl, hf02.then_ q14⟩
      · have hMn := hM
        clear hM
        by_cases hM : ZSay s
        · simp only [if_neg hT] at HB
          simp only [decide_eq_false hT] at HRt
          clear hT HSm
          replace HB := Lib.hid HB
          replace HRt := Lib.hid HRt
          simp only [if_pos (show OkSay s ∨ ZSay s from Or.inr hM)] at HC HM
          have HG2 := Lib.hid (fun w' A' cap' (h : ByteRow w' (U8 w') A' (orderB 8 [] (wordB s) certZ)) => getOrder_word (cap := cap') (by omega) (Or.inr hM) h)
          obtain ⟨b2, hb2⟩ : ∃ b, Hid (orderB 8 [] (wordB s) certZ = b) := ⟨_, rfl⟩
          rw [hb2.out] at HG2 HC
          clear hb2
          have HG3 := Lib.hid (fun w' A' cap' (h : ByteRow w' (U8 w') A' (orderB 9 [] (wordB s) certZ)) => getOrder_word (cap := cap') (by omega) (Or.inr hM) h)
          obtain ⟨b3, hb3⟩ : ∃ b, Hid (orderB 9 [] (wordB s) certZ = b) := ⟨_, rfl⟩
          rw [hb3.out] at HG3 HM
          clear hb3
          have hnok : ¬ OkSay s := fun h => by rw [show s = ⟨0, 0, false, ⟨#[]⟩, ⟨#[]⟩, 0, 0, 0, 0⟩ from hM] at h; exact not_say_zero h
          simp only [decide_eq_false hnok] at HRs
          have hzz : zeroSay ⟨s.kind, s.txn, s.yes, s.from_, s.to_, s.epoch, s.shard, s.target, s.root⟩ = true := (zeroSay_iff s).2 hM
          clear hM hnok
          replace HC := Lib.hid HC
          replace HM := Lib.hid HM
          replace HRs := Lib.hid HRs
          have t0 := (hT2.fr hf2r id).cell 0
          have t1 := (hT2.fr hf2r id).cell 1
          have t2 := (hT2.fr hf2r id).cell 2
          have t3 := (hT2.fr hf2r id).cell 3
          have s0 := (hS2.fr hf2r id).cell 0
          have s1 := (hS2.fr hf2r id).cell 1
          have s2 := (hS2.fr hf2r id).cell 2
          have s3 := (hS2.fr hf2r id).cell 3
          have s4 := (hS2.fr hf2r id).cell 4
          have s5 := (hS2.fr hf2r id).cell 5
          have s6 := (hS2.fr hf2r id).cell 6
          have s7 := (hS2.fr hf2r id).cell 7
          have s8 := (hS2.fr hf2r id).cell 8
          go_upto_region 5 with (go_at_call 23; refine (HB.out _ hf2r).mono ?_; rintro e w3 ⟨v3, rfl, ht1, g3⟩)
          obtain ⟨A1, c1, rfl⟩ := ht1.zero
          have q3 := hf2r.then_ g3
          clear t0 t1 t2 t3 s0 s1 s2 s3 s4 s5 s6 s7 s8
          clear HB ht1
          have t0 := (hT2.fr q3 id).cell 0
          have t1 := (hT2.fr q3 id).cell 1
          have t2 := (hT2.fr q3 id).cell 2
          have t3 := (hT2.fr q3 id).cell 3
          have s0 := (hS2.fr q3 id).cell 0
          have s1 := (hS2.fr q3 id).cell 1
          have s2 := (hS2.fr q3 id).cell 2
          have s3 := (hS2.fr q3 id).cell 3
          have s4 := (hS2.fr q3 id).cell 4
          have s5 := (hS2.fr q3 id).cell 5
          have s6 := (hS2.fr q3 id).cell 6
          have s7 := (hS2.fr q3 id).cell 7
          have s8 := (hS2.fr q3 id).cell 8
          go_upto_region 6 with (go_at_call 25; refine (HC.out _).mono ?_; rintro e w4 ⟨v4, rfl, ht2, g4⟩)
          obtain ⟨k2, c2, A2, p2, rfl, e2, f2, r2⟩ := ht2.one
          have q4 := q3.then_ g4
          clear t0 t1 t2 t3 s0 s1 s2 s3 s4 s5 s6 s7 s8
          clear HC ht2
          have t0 := (hT2.fr q4 id).cell 0
          have t1 := (hT2.fr q4 id).cell 1
          have t2 := (hT2.fr q4 id).cell 2
          have t3 := (hT2.fr q4 id).cell 3
          have s0 := (hS2.fr q4 id).cell 0
          have s1 := (hS2.fr q4 id).cell 1
          have s2 := (hS2.fr q4 id).cell 2
          have s3 := (hS2.fr q4 id).cell 3
          have s4 := (hS2.fr q4 id).cell 4
          have s5 := (hS2.fr q4 id).cell 5
          have s6 := (hS2.fr q4 id).cell 6
          have s7 := (hS2.fr q4 id).cell 7
          have s8 := (hS2.fr q4 id).cell 8
          go_upto_region 7 with (go_at_call 27; refine (HM.out _).mono ?_; rintro e w5 ⟨v5, rfl, ht3, g5⟩)
          obtain ⟨k3, c3, A3, p3, rfl, e3, f3, r3⟩ := ht3.one
          have q5 := q4.then_ g5
          clear t0 t1 t2 t3 s0 s1 s2 s3 s4 s5 s6 s7 s8
          clear HM ht3
          have t0 := (hT2.fr q5 id).cell 0
          have t1 := (hT2.fr q5 id).cell 1
          have t2 := (hT2.fr q5 id).cell 2
          have t3 := (hT2.fr q5 id).cell 3
          have s0 := (hS2.fr q5 id).cell 0
          have s1 := (hS2.fr q5 id).cell 1
          have s2 := (hS2.fr q5 id).cell 2
          have s3 := (hS2.fr q5 id).cell 3
          have s4 := (hS2.fr q5 id).cell 4
          have s5 := (hS2.fr q5 id).cell 5
          have s6 := (hS2.fr q5 id).cell 6
          have s7 := (hS2.fr q5 id).cell 7
          have s8 := (hS2.fr q5 id).cell 8
          go_upto_region 8 with (go_at_call 29; refine (HRs.out _).mono ?_; rintro e w6 ⟨rfl, g6⟩; have q6 := q5.then_ g6; have s0 := (hS2.fr q6 id).cell 0; have s1 := (hS2.fr q6 id).cell 1; have s2 := (hS2.fr q6 id).cell 2; have s3 := (hS2.fr q6 id).cell 3; have s4 := (hS2.fr q6 id).cell 4; have s5 := (hS2.fr q6 id).cell 5; have s6 := (hS2.fr q6 id).cell 6; have s7 := (hS2.fr q6 id).cell 7; have s8 := (hS2.fr q6 id).cell 8)
          clear t0 t1 t2 t3 s0 s1 s2 s3 s4 s5 s6 s7 s8
          clear HRs
          have t0 := (hT2.fr q6 id).cell 0
          have t1 := (hT2.fr q6 id).cell 1
          have t2 := (hT2.fr q6 id).cell 2
          have t3 := (hT2.fr q6 id).cell 3
          have s0 := (hS2.fr q6 id).cell 0
          have s1 := (hS2.fr q6 id).cell 1
          have s2 := (hS2.fr q6 id).cell 2
          have s3 := (hS2.fr q6 id).cell 3
          have s4 := (hS2.fr q6 id).cell 4
          have s5 := (hS2.fr q6 id).cell 5
          have s6 := (hS2.fr q6 id).cell 6
          have s7 := (hS2.fr q6 id).cell 7
          have s8 := (hS2.fr q6 id).cell 8
          have g46 := g5.then_ g6
          have e2 := g46.cell_some e2 id
          have f2 := g46.cell_some f2 id
          have r2 := r2.u8 g46 (fun _ _ => id)
          have e3 := g6.cell_some e3 id
          have f3 := g6.cell_some f3 id
          have r3 := r3.u8 g6 (fun _ _ => id)
          clear g3 g4 g5 g6 g46
          go_upto_region 10 with (go_at_call 30; refine (HRt.out _ q6).mono ?_; rintro e w7 ⟨rfl, g7⟩)
          have q7 := q6.then_ g7
          clear t0 t1 t2 t3 s0 s1 s2 s3 s4 s5 s6 s7 s8
          clear HRt
          have e2 := g7.cell_some e2 id
          have f2 := g7.cell_some f2 id
          have r2 := r2.u8 g7 (fun _ _ => id)
          have e3 := g7.cell_some e3 id
          have f3 := g7.cell_some f3 id
          have r3 := r3.u8 g7 (fun _ _ => id)
          have HX := Lib.hid (HG2.out w7 _ p2 r2)
          go_upto_region 16 with (first | (refine wpList_store_new rfl 62 (.tmp 13) (.tmp 109) rfl _ _ rfl rfl (by kernel_rfl) rfl (by simp [Value.oneCell']) ?_) | (go_at_call 19; refine HX.out.mono ?_; rintro e w11 ⟨RA2, cr2, WA2, cw2, CA2, cc2, EA2, ce2, VA2, cv2, rfl, _, _, _, _, _, g11⟩))
          have hX2 := Blk.new w11 62 #[.int .i64 8, .int .i64 0, .int .i64 0, .slice RA2 0 cr2, .slice WA2 0 cw2, .int .i64 s.kind, .int .i64 s.txn, .bool s.yes, .string s.from_, .string s.to_, .int .i64 s.epoch, .int .i64 s.shard, .int .i64 s.target, .int .i64 s.root, .int .i64 0, .int .i64 0, .slice CA2 0 cc2, .int .i64 0, .int .i64 0, .slice EA2 0 ce2, .slice VA2 0 cv2]
          have g12 := (Fr.refl (fun _ => False) w11).alloc (Obj.cells #[.int .i64 8, .int .i64 0, .int .i64 0, .slice RA2 0 cr2, .slice WA2 0 cw2, .int .i64 s.kind, .int .i64 s.txn, .bool s.yes, .string s.from_, .string s.to_, .int .i64 s.epoch, .int .i64 s.shard, .int .i64 s.target, .int .i64 s.root, .int .i64 0, .int .i64 0, .slice CA2 0 cc2, .int .i64 0, .int .i64 0, .slice EA2 0 ce2, .slice VA2 0 cv2] 62)
          generalize w11.alloc (Obj.cells #[.int .i64 8, .int .i64 0, .int .i64 0, .slice RA2 0 cr2, .slice WA2 0 cw2, .int .i64 s.kind, .int .i64 s.txn, .bool s.yes, .string s.from_, .string s.to_, .int .i64 s.epoch, .int .i64 s.shard, .int .i64 s.target, .int .i64 s.root, .int .i64 0, .int .i64 0, .slice CA2 0 cc2, .int .i64 0, .int .i64 0, .slice EA2 0 ce2, .slice VA2 0 cv2] 62) = w12 at *
          have q12 := (q7.then_ g11).then_ g12
          have g1112 := g11.then_ g12
          have e2 := g1112.cell_some e2 id
          have f2 := g1112.cell_some f2 id
          have r2 := r2.u8 g1112 (fun _ _ => id)
          have e3 := g1112.cell_some e3 id
          have f3 := g1112.cell_some f3 id
          have r3 := r3.u8 g1112 (fun _ _ => id)
          clear HX HG2 g11 g12 g1112
          have HX := Lib.hid (HG3.out w12 _ p3 r3)
          go_upto_region 17 with (first | (refine wpList_store_new rfl 62 (.tmp 16) (.tmp 118) rfl _ _ rfl rfl (by kernel_rfl) rfl (by simp [Value.oneCell']) ?_) | (go_at_call 19; refine HX.out.mono ?_; rintro e w13 ⟨RA3, cr3, WA3, cw3, CA3, cc3, EA3, ce3, VA3, cv3, rfl, _, _, _, _, _, g13⟩))
          have hX3 := Blk.new w13 62 #[.int .i64 9, .int .i64 0, .int .i64 0, .slice RA3 0 cr3, .slice WA3 0 cw3, .int .i64 s.kind, .int .i64 s.txn, .bool s.yes, .string s.from_, .string s.to_, .int .i64 s.epoch, .int .i64 s.shard, .int .i64 s.target, .int .i64 s.root, .int .i64 0, .int .i64 0, .slice CA3 0 cc3, .int .i64 0, .int .i64 0, .slice EA3 0 ce3, .slice VA3 0 cv3]
          have g14 := (Fr.refl (fun _ => False) w13).alloc (Obj.cells #[.int .i64 9, .int .i64 0, .int .i64 0, .slice RA3 0 cr3, .slice WA3 0 cw3, .int .i64 s.kind, .int .i64 s.txn, .bool s.yes, .string s.from_, .string s.to_, .int .i64 s.epoch, .int .i64 s.shard, .int .i64 s.target, .int .i64 s.root, .int .i64 0, .int .i64 0, .slice CA3 0 cc3, .int .i64 0, .int .i64 0, .slice EA3 0 ce3, .slice VA3 0 cv3] 62)
          generalize w13.alloc (Obj.cells #[.int .i64 9, .int .i64 0, .int .i64 0, .slice RA3 0 cr3, .slice WA3 0 cw3, .int .i64 s.kind, .int .i64 s.txn, .bool s.yes, .string s.from_, .string s.to_, .int .i64 s.epoch, .int .i64 s.shard, .int .i64 s.target, .int .i64 s.root, .int .i64 0, .int .i64 0, .slice CA3 0 cc3, .int .i64 0, .int .i64 0, .slice EA3 0 ce3, .slice VA3 0 cv3] 62) = w14 at *
          have q14 := (q12.then_ g13).then_ g14
          have g1314 := g13.then_ g14
          have e2 := g1314.cell_some e2 id
          have f2 := g1314.cell_some f2 id
          have r2 := r2.u8 g1314 (fun _ _ => id)
          have e3 := g1314.cell_some e3 id
          have f3 := g1314.cell_some f3 id
          have r3 := r3.u8 g1314 (fun _ _ => id)
          have hX2 := hX2.fr g1314 id
          clear HX HG3 g13 g14 g1314
          have x0 := hX2.cell 0
          have y0 := hX3.cell 0
          have x5 := hX2.cell 5
          have y5 := hX3.cell 5
          have x6 := hX2.cell 6
          have y6 := hX3.cell 6
          have x7 := hX2.cell 7
          have y7 := hX3.cell 7
          have x8 := hX2.cell 8
          have y8 := hX3.cell 8
          have x9 := hX2.cell 9
          have y9 := hX3.cell 9
          have x10 := hX2.cell 10
          have y10 := hX3.cell 10
          have x11 := hX2.cell 11
          have y11 := hX3.cell 11
          have x12 := hX2.cell 12
          have y12 := hX3.cell 12
          have x13 := hX2.cell 13
          have y13 := hX3.cell 13
          have s0 := (hS2.fr q14 id).cell 0
          have s1 := (hS2.fr q14 id).cell 1
          have s2 := (hS2.fr q14 id).cell 2
          have s3 := (hS2.fr q14 id).cell 3
          have s4 := (hS2.fr q14 id).cell 4
          have s5 := (hS2.fr q14 id).cell 5
          have s6 := (hS2.fr q14 id).cell 6
          have s7 := (hS2.fr q14 id).cell 7
          have s8 := (hS2.fr q14 id).cell 8
          go_wp2
          go_ret
          exact ⟨rfl, hf02.then_ q14⟩
        · have hM : ¬ (OkSay s ∨ ZSay s) := fun h => h.elim hMn hM
          clear hMn
          simp only [if_neg hT] at HB
          simp only [decide_eq_false hT] at HRt
          clear hT HSm
          replace HB := Lib.hid HB
          replace HRt := Lib.hid HRt
          simp only [if_neg hM] at HC HM
          simp only [decide_eq_false (fun h => hM (Or.inl h))] at HRs
          have hzz : zeroSay ⟨s.kind, s.txn, s.yes, s.from_, s.to_, s.epoch, s.shard, s.target, s.root⟩ = false := by
            have : ¬ zeroSay s = true := fun e => hM (Or.inr ((zeroSay_iff s).1 e))
            simpa using this
          clear hM
          replace HC := Lib.hid HC
          replace HM := Lib.hid HM
          replace HRs := Lib.hid HRs
          have t0 := (hT2.fr hf2r id).cell 0
          have t1 := (hT2.fr hf2r id).cell 1
          have t2 := (hT2.fr hf2r id).cell 2
          have t3 := (hT2.fr hf2r id).cell 3
          have s0 := (hS2.fr hf2r id).cell 0
          have s1 := (hS2.fr hf2r id).cell 1
          have s2 := (hS2.fr hf2r id).cell 2
          have s3 := (hS2.fr hf2r id).cell 3
          have s4 := (hS2.fr hf2r id).cell 4
          have s5 := (hS2.fr hf2r id).cell 5
          have s6 := (hS2.fr hf2r id).cell 6
          have s7 := (hS2.fr hf2r id).cell 7
          have s8 := (hS2.fr hf2r id).cell 8
          go_upto_region 5 with (go_at_call 23; refine (HB.out _ hf2r).mono ?_; rintro e w3 ⟨v3, rfl, ht1, g3⟩)
          obtain ⟨A1, c1, rfl⟩ := ht1.zero
          have q3 := hf2r.then_ g3
          clear t0 t1 t2 t3 s0 s1 s2 s3 s4 s5 s6 s7 s8
          clear HB ht1
          have t0 := (hT2.fr q3 id).cell 0
          have t1 := (hT2.fr q3 id).cell 1
          have t2 := (hT2.fr q3 id).cell 2
          have t3 := (hT2.fr q3 id).cell 3
          have s0 := (hS2.fr q3 id).cell 0
          have s1 := (hS2.fr q3 id).cell 1
          have s2 := (hS2.fr q3 id).cell 2
          have s3 := (hS2.fr q3 id).cell 3
          have s4 := (hS2.fr q3 id).cell 4
          have s5 := (hS2.fr q3 id).cell 5
          have s6 := (hS2.fr q3 id).cell 6
          have s7 := (hS2.fr q3 id).cell 7
          have s8 := (hS2.fr q3 id).cell 8
          go_upto_region 6 with (go_at_call 25; refine (HC.out _).mono ?_; rintro e w4 ⟨v4, rfl, ht2, g4⟩)
          obtain ⟨A2, c2, rfl⟩ := ht2.zero
          have q4 := q3.then_ g4
          clear t0 t1 t2 t3 s0 s1 s2 s3 s4 s5 s6 s7 s8
          clear HC ht2
          have t0 := (hT2.fr q4 id).cell 0
          have t1 := (hT2.fr q4 id).cell 1
          have t2 := (hT2.fr q4 id).cell 2
          have t3 := (hT2.fr q4 id).cell 3
          have s0 := (hS2.fr q4 id).cell 0
          have s1 := (hS2.fr q4 id).cell 1
          have s2 := (hS2.fr q4 id).cell 2
          have s3 := (hS2.fr q4 id).cell 3
          have s4 := (hS2.fr q4 id).cell 4
          have s5 := (hS2.fr q4 id).cell 5
          have s6 := (hS2.fr q4 id).cell 6
          have s7 := (hS2.fr q4 id).cell 7
          have s8 := (hS2.fr q4 id).cell 8
          go_upto_region 7 with (go_at_call 27; refine (HM.out _).mono ?_; rintro e w5 ⟨v5, rfl, ht3, g5⟩)
          obtain ⟨A3, c3, rfl⟩ := ht3.zero
          have q5 := q4.then_ g5
          clear t0 t1 t2 t3 s0 s1 s2 s3 s4 s5 s6 s7 s8
          clear HM ht3
          have t0 := (hT2.fr q5 id).cell 0
          have t1 := (hT2.fr q5 id).cell 1
          have t2 := (hT2.fr q5 id).cell 2
          have t3 := (hT2.fr q5 id).cell 3
          have s0 := (hS2.fr q5 id).cell 0
          have s1 := (hS2.fr q5 id).cell 1
          have s2 := (hS2.fr q5 id).cell 2
          have s3 := (hS2.fr q5 id).cell 3
          have s4 := (hS2.fr q5 id).cell 4
          have s5 := (hS2.fr q5 id).cell 5
          have s6 := (hS2.fr q5 id).cell 6
          have s7 := (hS2.fr q5 id).cell 7
          have s8 := (hS2.fr q5 id).cell 8
          go_upto_region 8 with (go_at_call 29; refine (HRs.out _).mono ?_; rintro e w6 ⟨rfl, g6⟩; have q6 := q5.then_ g6; have s0 := (hS2.fr q6 id).cell 0; have s1 := (hS2.fr q6 id).cell 1; have s2 := (hS2.fr q6 id).cell 2; have s3 := (hS2.fr q6 id).cell 3; have s4 := (hS2.fr q6 id).cell 4; have s5 := (hS2.fr q6 id).cell 5; have s6 := (hS2.fr q6 id).cell 6; have s7 := (hS2.fr q6 id).cell 7; have s8 := (hS2.fr q6 id).cell 8)
          clear t0 t1 t2 t3 s0 s1 s2 s3 s4 s5 s6 s7 s8
          clear HRs
          have t0 := (hT2.fr q6 id).cell 0
          have t1 := (hT2.fr q6 id).cell 1
          have t2 := (hT2.fr q6 id).cell 2
          have t3 := (hT2.fr q6 id).cell 3
          have s0 := (hS2.fr q6 id).cell 0
          have s1 := (hS2.fr q6 id).cell 1
          have s2 := (hS2.fr q6 id).cell 2
          have s3 := (hS2.fr q6 id).cell 3
          have s4 := (hS2.fr q6 id).cell 4
          have s5 := (hS2.fr q6 id).cell 5
          have s6 := (hS2.fr q6 id).cell 6
          have s7 := (hS2.fr q6 id).cell 7
          have s8 := (hS2.fr q6 id).cell 8
          clear g3 g4 g5 g6
          go_upto_region 10 with (go_at_call 30; refine (HRt.out _ q6).mono ?_; rintro e w7 ⟨rfl, g7⟩)
          have q7 := q6.then_ g7
          clear t0 t1 t2 t3 s0 s1 s2 s3 s4 s5 s6 s7 s8
          clear HRt
          go_wp2
          go_ret
          exact ⟨rfl, hf02.then_ q7⟩
end Go.Proofs.YtmkdhhhoodeemaaGreat

/- RelayBackSaid: for every input the law returns true, and each argument reads behind the call as it read before. No condition. -/
namespace Go.Proofs.YtmkdhhhoodeemaaGreat
open Go Go.RowKit Go.ChangeShapes Go.WideShapes Go.ChangeAt Go.Deep Go.Joins
theorem own_relayBack : ownKnob Tryz.prog.godebug = none := by kernel_rfl
theorem laidOut_relayBack : laidOutB Tryz.prog = true := by kernel_rfl
set_option maxRecDepth 100000 in
theorem lifted_relayBack (os : Os) (started : os.Started) (H : Type) (enc : TypeId × Value → H) :
    ReturnsInHanded {} Tryz.checked os 7 .any (Rows.relayBackSpec.pre6 enc Tryz.prog Tryz.f7 Rows.relayBackRow.domain false) (Rows.relayBackSpec.post enc Tryz.prog Tryz.f7 false true false false) := by
  refine returnsInHanded_of_change (C := Tryz.checked) own_relayBack started (by kernel_rfl) Tryz.func7
    (ChangeSpec.witness6 (enc := enc) (C := Tryz.checked) false ⟨#[], #[.agg #[.int .i64 0, .int .i64 0, .slice none 0 0, .slice none 0 0], .agg #[.int .i64 0, .int .i64 0, .bool false, .string ⟨#[]⟩, .string ⟨#[]⟩, .int .i64 0, .int .i64 0, .int .i64 0, .int .i64 0]], []⟩ 8 (by kernel_rfl) (by kernel_rfl) (by kernel_rfl) (by kernel_rfl)) ?_
  intro W base args ds gs before hval0 hW hcnd _
  have hval : ∀ (j : Nat) t v, Tryz.f7.params[j]? = some t → args[j]? = some v → Value.okWide Tryz.prog W .any base t v := hval0
  have hW' := hW
  obtain ⟨p, q, hA0, hV, rfl, hfz, hnd⟩ := hW
  have hA : DataW.TrodAll enc Tryz.prog W 0 (fun _ => true) true Tryz.f7.params.toList args.toList ds p := hA0
  rw [Tryz.params7] at hA hval
  obtain ⟨v0, vs0, d0, ds0, p0, q0, hargs, rfl, rfl, h0, r0⟩ := trodAll_cons hA
  obtain ⟨v1, vs1, d1, ds1, p1, q1, rfl, rfl, rfl, h1, r1⟩ := trodAll_cons r0
  obtain ⟨rfl, rfl, rfl⟩ := trodAll_nil r1
  obtain rfl : args = #[v0, v1] := by cases args; simp_all
  obtain ⟨rfl, rfl⟩ := trodVars_none hV
  have k0 := h0
  have lt0 : ∀ x ∈ p0, x.block < W.heap.size := by obtain ⟨m, hm⟩ := k0; exact DataW.trod_lt m _ _ _ hm
  have k1 := h1
  have lt1 : ∀ x ∈ p1, x.block < W.heap.size := by obtain ⟨m, hm⟩ := k1; exact DataW.trod_lt m _ _ _ hm
  obtain ⟨cs0, rfl, _⟩ := okWide_struct Tryz.underlying29 (hval 0 29 v0 rfl rfl)
  obtain ⟨fuel0, hf0⟩ := h0
  obtain ⟨c0, n0, A0, cr0, R0, B0, cw0, W0, hcs0, hR0, hW0, lR0, lW0, _, _⟩ := open_txn hf0
  obtain rfl : cs0 = #[.int .i64 c0, .int .i64 n0, .slice A0 R0.length cr0, .slice B0 W0.length cw0] := Array.ext' hcs0
  obtain ⟨cs1, rfl, _⟩ := okWide_struct Tryz.underlying23 (hval 1 23 v1 rfl rfl)
  obtain ⟨fuel1, hf1⟩ := h1
  obtain ⟨s1, hcs1, lf1, lt_1, hz1⟩ := open_say hf1
  obtain rfl : cs1 = #[.int .i64 s1.kind, .int .i64 s1.txn, .bool s1.yes, .string s1.from_, .string s1.to_, .int .i64 s1.epoch, .int .i64 s1.shard, .int .i64 s1.target, .int .i64 s1.root] := Array.ext' hcs1
  clear hA0 hval0
  refine (relayBack_walk hR0 hW0 lR0 lW0 s1).mono fun e W' ⟨he, hfr⟩ => ?_
  subst he
  have bel : Below W.heap.size W W' := hfr.below (Nat.le_refl _) (fun _ _ => id)
  exact ⟨_, rfl, _, _, _, [], _, [], hW', trodAll_mk1 (shut_bool Tryz.underlying4 _), (trodAll_cons_mk (Below.trod laidOut_relayBack (by kernel_rfl) (of_decide_eq_true (by kernel_rfl)) k0 bel lt0) (trodAll_cons_mk (Below.trod laidOut_relayBack (by kernel_rfl) (of_decide_eq_true (by kernel_rfl)) k1 bel lt1) trodAll_mk0)), rfl, bel.frame _, fun h => by cases h⟩
theorem over_relayBack : Rows.relayBackRow.holds Tryz.pinned (OpenSpec.ofChange Rows.relayBackSpec) :=
  OpenClaim.holds_of_wide 7 Tryz.f7 rfl rfl rfl rfl rfl rfl rfl ⟨rfl, rfl, rfl, rfl, rfl⟩ rfl rfl rfl rfl rfl (by kernel_rfl) Tryz.func7 (by kernel_rfl)
    (of_decide_eq_true (by kernel_rfl)) (by unfold Func.isWrapper; first | (rw [if_pos (by decide +kernel)]; kernel_rfl) | (rw [if_neg (by decide +kernel)]; exact ⟨rfl, rfl⟩))
    (fun os started H enc _ => lifted_relayBack os started H enc)
theorem relayBack_holds : Rows.RelayBackSaid := over_relayBack
end Go.Proofs.YtmkdhhhoodeemaaGreat
