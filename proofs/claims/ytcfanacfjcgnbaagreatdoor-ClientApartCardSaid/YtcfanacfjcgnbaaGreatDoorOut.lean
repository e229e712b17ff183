/- client: Outcome. -/
import Derived.Test.YtcfanacfjcgnbaaGreatDoorOut1
namespace Go.Proofs.YtcfanacfjcgnbaaGreatDoor
open Go Go.RowKit
def outI (f : Int) (L : List (List Int)) (SL : List (Int × Int)) (xs : List Int) : Int :=
  if f < (saidN 0 (digL L xs) SL (decS (digI L xs : Nat) true) : Nat) then 3 else if f < (saidN 0 (sayL (digL L xs) (decS (digI L xs : Nat) true)) SL (decS (digI L xs : Nat) false) : Nat) then 4 else 0
def outL (f : Int) (L : List (List Int)) (SL : List (Int × Int)) (xs : List Int) : List (List Int) :=
  if f < (saidN 0 (digL L xs) SL (decS (digI L xs : Nat) true) : Nat) then sayL (digL L xs) (decS (digI L xs : Nat) true) else sayL (sayL (digL L xs) (decS (digI L xs : Nat) true)) (decS (digI L xs : Nat) false)
theorem digL_len (L : List (List Int)) (xs : List Int) : (digL L xs).length ≤ L.length + 1 := by
  unfold digL
  split <;> simp
theorem sayL_len (L : List (List Int)) (s : SayD) : (sayL L s).length ≤ L.length + 1 := by
  unfold sayL
  split
  · exact digL_len _ _
  · omega
theorem BSStep.before {w w1 w' : World} {g m base : Nat} {v : Value} {L' : List (List Int)} {gs ms : Nat} {SL' : List (Int × Int)} {r : Value} {e : Ending} (h : BSStep w1 g m base v L' gs ms SL' r e w') (hf : Fr (fun _ => False) w w1) : BSStep w g m base v L' gs ms SL' r e w' := by
  obtain ⟨v', h1, h2, h3, h4⟩ := h
  exact ⟨v', h1, h2, (hf.mono (fun _ _ h => h.elim)).trans h3 (fun _ _ h => h), fun k hk => (h4 k hk).imp_right (Nat.le_trans hf.size)⟩
/-- Two steps, one behind the other. -/
theorem bs_two {w w1 w2 : World} {g m ms : Nat} {v v1 : Value} (hf1 : Fr (fun k => k = g ∨ k = m ∨ v.ownBlock = some k ∨ k = ms) w w1) (hk1 : ∀ k, v1.ownBlock = some k → v.ownBlock = some k ∨ w.heap.size ≤ k) (hf2 : Fr (fun k => k = g ∨ k = m ∨ v1.ownBlock = some k ∨ k = ms) w1 w2) :
    Fr (fun k => k = g ∨ k = m ∨ v.ownBlock = some k ∨ k = ms) w w2 := by
  refine hf1.trans hf2 (fun k hk e => ?_)
  rcases e with e | e | e | e
  · exact .inl e
  · exact .inr (.inl e)
  · rcases hk1 k e with e | e
    · exact .inr (.inr (.inl e))
    · omega
  · exact .inr (.inr (.inr e))
theorem bs_own {w w1 : World} {v v1 v2 : Value} (hs : w.heap.size ≤ w1.heap.size) (hk1 : ∀ k, v1.ownBlock = some k → v.ownBlock = some k ∨ w.heap.size ≤ k) (hk2 : ∀ k, v2.ownBlock = some k → v1.ownBlock = some k ∨ w1.heap.size ≤ k) : ∀ k, v2.ownBlock = some k → v.ownBlock = some k ∨ w.heap.size ≤ k := fun k hk => by
  rcases hk2 k hk with e | e
  · exact hk1 k e
  · exact .inr (Nat.le_trans hs e)
set_option maxRecDepth 100000 in
set_option maxHeartbeats 1000000 in
theorem client_Outcome_ok {w : World} {g m base : Nat} {v : Value} {L : List (List Int)} {gs ms : Nat} {SL : List (Int × Int)} (h : BS w g m base v L gs ms SL) (hbase : base ≤ w.heap.size) (hL : L.length < 65000) (f : Int) (hf : 0 ≤ f) {F : Nat → Prop} {A B : Option Addr} {cr cw : Nat} {c n : Int} {R : List (ByteArray × Int)} {W : List (ByteArray × ByteArray)} (hr : ReadRow w F A R) (hw : WriteRow w F B W) (ht : TOk c n R W) :
    Calls Tryz.prog 10 #[.pointer (some ⟨g, 0, none⟩), .pointer (some ⟨gs, 0, none⟩), .int .i64 f, .agg #[.int .i64 c, .int .i64 n, .slice A R.length cr, .slice B W.length cw]] w (BSStep w g m base v (outL f L SL (txnB c n R W)) gs ms SL (.int .i64 (outI f L SL (txnB c n R W)))) := by
  let o1 : Obj := Obj.cells #[.pointer (some ⟨g, 0, none⟩)] 34
  let o2 : Obj := Obj.cells #[.pointer (some ⟨gs, 0, none⟩)] 35
  let o4 : Obj := Obj.cells #[.int .i64 f] 3
  let o5 : Obj := Obj.cells #[.int .i64 c, .int .i64 n, .slice A R.length cr, .slice B W.length cw] 25
  obtain ⟨w0, hw0⟩ : ∃ w0, (((w.alloc o1).alloc o2).alloc o4).alloc o5 = w0 := ⟨_, rfl⟩
  have b1 : Blk w0 w.heap.size 34 #[.pointer (some ⟨g, 0, none⟩)] := by subst hw0; exact (((Blk.new w _ _).alloc _).alloc _).alloc _
  have b2 : Blk w0 (w.heap.size + 1) 35 #[.pointer (some ⟨gs, 0, none⟩)] := by subst hw0; exact ((Blk.new_ (w.alloc o1) _ _ (by simp)).alloc _).alloc _
  have b4 : Blk w0 (w.heap.size + 1 + 1) 3 #[.int .i64 f] := by subst hw0; exact (Blk.new_ ((w.alloc o1).alloc o2) _ _ (by simp)).alloc _
  have b5 : Blk w0 (w.heap.size + 1 + 1 + 1) 25 #[.int .i64 c, .int .i64 n, .slice A R.length cr, .slice B W.length cw] := by subst hw0; exact Blk.new_ (((w.alloc o1).alloc o2).alloc o4) _ _ (by simp)
  have hf0 : Fr (fun _ => False) w w0 := by subst hw0; exact ((((Fr.refl _ _).alloc _).alloc _).alloc _).alloc _
  have h0 := h.keep hf0
  have hbase0 := Nat.le_trans hbase hf0.size
  have HD := Lib.hid (client_digest_ok (cr := cr) (cw := cw) h0.book hbase0 (by omega) (hr.fr hf0 (fun _ _ => id)) (hw.fr hf0 (fun _ _ => id)) ht)
  have c1 := b1.cell 0
  have c2 := b2.cell 0
  have c4 := b4.cell 0
  have c50 := b5.cell 0
  have c51 := b5.cell 1
  have c52 := b5.cell 2
  have c53 := b5.cell 3
  obtain ⟨r, hr'⟩ : ∃ r, Hid (outI f L SL (txnB c n R W) = r) := ⟨_, rfl⟩
  obtain ⟨Lo, hLo⟩ : ∃ r, Hid (outL f L SL (txnB c n R W) = r) := ⟨_, rfl⟩
  rw [hr'.out, hLo.out]
  have hl1 := digL_len L (txnB c n R W)
  have hl2 := sayL_len (digL L (txnB c n R W)) (decS (digI L (txnB c n R W) : Nat) true)
  have hr1 : Hid (r = if f < (saidN 0 (digL L (txnB c n R W)) SL (decS (digI L (txnB c n R W) : Nat) true) : Nat) then 3 else if f < (saidN 0 (sayL (digL L (txnB c n R W)) (decS (digI L (txnB c n R W) : Nat) true)) SL (decS (digI L (txnB c n R W) : Nat) false) : Nat) then 4 else 0) := hr'.out.symm
  have hLo1 : Hid (Lo = if f < (saidN 0 (digL L (txnB c n R W)) SL (decS (digI L (txnB c n R W) : Nat) true) : Nat) then sayL (digL L (txnB c n R W)) (decS (digI L (txnB c n R W) : Nat) true) else sayL (sayL (digL L (txnB c n R W)) (decS (digI L (txnB c n R W) : Nat) true)) (decS (digI L (txnB c n R W) : Nat) false)) := hLo.out.symm
  have HW0 : Hid ((((w.alloc (Obj.cells #[.pointer (some ⟨g, 0, none⟩)] 34)).alloc (Obj.cells #[.pointer (some ⟨gs, 0, none⟩)] 35)).alloc (Obj.cells #[.int .i64 f] 3)).alloc (Obj.cells #[.int .i64 c, .int .i64 n, .slice A R.length cr, .slice B W.length cw] 25) = w0) := hw0
  clear hr' hLo ht hr hw hw0 o1 o2 o4 o5
  generalize (digI L (txnB c n R W) : Nat) = dn at *
  generalize digL L (txnB c n R W) = L1 at *
  have HL2 : Hid (L1.length < 65002 ∧ (sayL L1 (decS dn true)).length < 65002) := ⟨by omega, by omega⟩
  clear hl1 hl2
  go_enter Tryz.func10, Tryz.ntmps10
  go_wp2_with fail
  rw [HW0.out]
  refine HD.out.mono ?_
  rintro e w1 ⟨v1, rfl, hb1, hf1, hk1⟩
  have h1 := h0.bookStep hb1 hf1
  have hf1 : Fr (fun k => k = g ∨ k = m ∨ v.ownBlock = some k ∨ k = ms) w0 w1 := hf1.mono (fun k _ e => by rcases e with e | e | e; (· exact .inl e); (· exact .inr (.inl e)); exact .inr (.inr (.inl e)))
  have hfd : Fr (fun _ => False) w1 (w1.alloc (Obj.cells #[.int .i64 dn] 3)) := (Fr.refl _ _).alloc _
  have a1 := (h0.bookFr b1 (by decide) (by decide) hf1).fr hfd id
  have a2 := (h0.bookFr b2 (by decide) (by decide) hf1).fr hfd id
  have a3 := Blk.new w1 3 #[.int .i64 dn]
  have a4 := (h0.bookFr b4 (by decide) (by decide) hf1).fr hfd id
  have hd1 := h1.keep hfd
  have hbased := Nat.le_trans hbase0 (Nat.le_trans hf1.size hfd.size)
  clear HD c1 c2 c4 c50 c51 c52 c53 b1 b2 b4 b5
  go_wp2_with fail
  refine (client_Outcome1 hd1 hbased (by have := HL2.out.1; omega) a1 a2 a3 a4 true).mono ?_
  rintro e w2 ⟨v2, rfl, h2, hf2, hk2⟩
  have hfd2 := bs_two (v := v1) (v1 := v1) (hfd.mono (fun _ _ h => h.elim)) (fun k hk => .inl hk) hf2
  have hf02 := bs_two hf1 hk1 hfd2
  have hk02 := bs_own hf1.size hk1 (bs_own hfd.size (v := v1) (v1 := v1) (fun k hk => .inl hk) hk2)
  by_cases p1 : f < (saidN 0 L1 SL (decS dn true) : Nat)
  · have HE1 : Hid (r = 3) := hr1.out.trans (if_pos p1)
    have HE2 : Hid (Lo = sayL L1 (decS dn true)) := hLo1.out.trans (if_pos p1)
    rw [decide_eq_true p1]
    clear p1 hr1 hLo1
    go_wp2_with fail
    go_ret
    rw [HE1.out, HE2.out]
    exact BSStep.before ⟨v2, rfl, h2, hf02, hk02⟩ hf0
  · have HE1 : Hid (r = if f < (saidN 0 (sayL L1 (decS dn true)) SL (decS dn false) : Nat) then 4 else 0) := hr1.out.trans (if_neg p1)
    have HE2 : Hid (Lo = sayL (sayL L1 (decS dn true)) (decS dn false)) := hLo1.out.trans (if_neg p1)
    rw [decide_eq_false p1]
    clear p1 hr1 hLo1
    have a1 := hd1.bookFr a1 (by decide) (by decide) hf2
    have a2 := hd1.bookFr a2 (by decide) (by decide) hf2
    have a3 := hd1.bookFr a3 (by decide) (by decide) hf2
    have a4 := hd1.bookFr a4 (by decide) (by decide) hf2
    go_wp2_with fail
    refine (client_Outcome1 h2 (Nat.le_trans hbased hf2.size) (by have := HL2.out.2; omega) a1 a2 a3 a4 false).mono ?_
    rintro e w3 ⟨v3, rfl, h3, hf3, hk3⟩
    have hf03 := bs_two hf02 hk02 hf3
    have hk03 := bs_own hf02.size hk02 hk3
    by_cases p2 : f < (saidN 0 (sayL L1 (decS dn true)) SL (decS dn false) : Nat)
    · have HE3 : Hid (r = 4) := HE1.out.trans (if_pos p2)
      rw [decide_eq_true p2]
      clear p2 HE1
      go_wp2_with fail
      go_ret
      rw [HE3.out, HE2.out]
      exact BSStep.before ⟨v3, rfl, h3, hf03, hk03⟩ hf0
    · have HE3 : Hid (r = 0) := HE1.out.trans (if_neg p2)
      rw [decide_eq_false p2]
      clear p2 HE1
      go_wp2_with fail
      go_ret
      rw [HE3.out, HE2.out]
      exact BSStep.before ⟨v3, rfl, h3, hf03, hk03⟩ hf0
end Go.Proofs.YtcfanacfjcgnbaaGreatDoor
