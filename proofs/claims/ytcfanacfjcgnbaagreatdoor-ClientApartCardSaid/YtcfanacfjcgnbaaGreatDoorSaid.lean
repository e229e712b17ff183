/- say.Digest; client.Said, signed, Word. -/
import Derived.Test.YtcfanacfjcgnbaaGreatDoorSayQ
import Derived.Test.YtcfanacfjcgnbaaGreatDoorBookT
import Derived.Test.YtcfanacfjcgnbaaGreatDoorSeals
namespace Go.Proofs.YtcfanacfjcgnbaaGreatDoor
open Go Go.RowKit
theorem b8_append {a b : List Int} (ha : B8 a) (hb : B8 b) : B8 (a ++ b) := fun x hx => (List.mem_append.1 hx).elim (ha x) (hb x)
theorem b8_num8 (n : Int) : B8 (num8 n) := by
  intro x hx
  obtain ⟨k, _, rfl⟩ : ∃ k : Nat, k < 8 ∧ x = n / 2 ^ (56 - 8 * k) % 256 := by
    simp only [num8, List.mem_map, List.mem_range] at hx
    obtain ⟨k, h1, h2⟩ := hx
    exact ⟨k, h1, h2.symm⟩
  omega
theorem b8_count4 (n : Int) : B8 (count4 n) := by
  intro x hx
  simp only [count4, List.mem_cons, List.not_mem_nil, or_false] at hx
  omega
theorem b8_textB (s : ByteArray) : B8 (textB (bytesOf s)) := b8_append (b8_count4 _) (bytesOf_8 s)
theorem b8_sayB (s : SayD) : B8 (sayB s) := by
  unfold sayB
  repeat first | exact b8_num8 _ | exact b8_textB _ | refine b8_append ?_ ?_
theorem sayB_length {s : SayD} (h : OkSay s) : (sayB s).length = 64 + s.from_.size + s.to_.size ∧ s.from_.size ≤ 16 ∧ s.to_.size ≤ 16 := by
  obtain ⟨a0, a1, a2, a3, a4, a5, a6, a7, a8, a9, a10, a11, a12, a13⟩ := h
  refine ⟨?_, by omega, by omega⟩
  simp [sayB, num8_length, textB, count4_length, bytesOf_length]
  omega
def sayI (L : List (List Int)) (s : SayD) : Int := if OkSay s then (digI L (sayB s) : Nat) else -1
def sayL (L : List (List Int)) (s : SayD) : List (List Int) := if OkSay s then digL L (sayB s) else L
def BookStep (w : World) (g m base : Nat) (v : Value) (L' : List (List Int)) (r : Value) (e : Ending) (w' : World) : Prop :=
  ∃ v', e = .returned r ∧ BookAt w' g m base v' L' ∧ Fr (fun k => k = g ∨ k = m ∨ v.ownBlock = some k) w w' ∧ ∀ k, v'.ownBlock = some k → v.ownBlock = some k ∨ w.heap.size ≤ k
theorem BookStep.before {w w1 w' : World} {g m base : Nat} {v : Value} {L' : List (List Int)} {r : Value} {e : Ending} (h : BookStep w1 g m base v L' r e w') (hf : Fr (fun _ => False) w w1) : BookStep w g m base v L' r e w' := by
  obtain ⟨v', h1, h2, h3, h4⟩ := h
  exact ⟨v', h1, h2, (hf.mono (fun _ _ h => h.elim)).trans h3 (fun _ _ h => h), fun k hk => (h4 k hk).imp_right (Nat.le_trans hf.size)⟩
set_option maxRecDepth 100000 in
theorem say_Digest1 {w : World} {g m base : Nat} {v : Value} {L : List (List Int)} (h : BookAt w g m base v L) (hbase : base ≤ w.heap.size) (hL : L.length < 65536) (kind txn : Int) (yes : Bool) (ff tt : ByteArray) (epoch shard target root : Int) :
    Calls Tryz.prog 39 #[.pointer (some ⟨g, 0, none⟩), .agg #[.int .i64 kind, .int .i64 txn, .bool yes, .string ff, .string tt, .int .i64 epoch, .int .i64 shard, .int .i64 target, .int .i64 root]] w (BookStep w g m base v (sayL L ⟨kind, txn, yes, ff, tt, epoch, shard, target, root⟩) (.tuple #[.int .i64 (sayI L ⟨kind, txn, yes, ff, tt, epoch, shard, target, root⟩), errO (saidO ⟨kind, txn, yes, ff, tt, epoch, shard, target, root⟩)])) := by
  have HP := Lib.hid (fun w => say_Put1 w kind txn yes ff tt epoch shard target root)
  have hB0 := Blk.new w 42 #[.int .i64 kind, .int .i64 txn, .bool yes, .string ff, .string tt, .int .i64 epoch, .int .i64 shard, .int .i64 target, .int .i64 root]
  have hf0 : Fr (fun _ => False) w (w.alloc (Obj.cells #[.int .i64 kind, .int .i64 txn, .bool yes, .string ff, .string tt, .int .i64 epoch, .int .i64 shard, .int .i64 target, .int .i64 root] 42)) := (Fr.refl _ _).alloc _
  by_cases hok : OkSay ⟨kind, txn, yes, ff, tt, epoch, shard, target, root⟩
  · obtain ⟨hl1, hl2, hl3⟩ := sayB_length hok
    have hb8 := b8_sayB ⟨kind, txn, yes, ff, tt, epoch, shard, target, root⟩
    unfold sayI sayL saidO
    rw [if_pos hok, if_pos hok, if_pos hok]
    have HP : Hid (∀ w, Calls Tryz.prog 63 #[.agg #[.int .i64 kind, .int .i64 txn, .bool yes, .string ff, .string tt, .int .i64 epoch, .int .i64 shard, .int .i64 target, .int .i64 root]] w fun e w' => ∃ v, e = .returned (.tuple #[v, .nilIface]) ∧ Own8 w' w.heap.size v (sayB ⟨kind, txn, yes, ff, tt, epoch, shard, target, root⟩) ∧ Fr (fun _ => False) w w') := fun w => (HP.out w).mono fun e w' ⟨v, h1, h2, h3⟩ => by
      unfold saidO at h1
      rw [if_pos hok] at h1 h2
      exact ⟨v, h1, h2, h3⟩
    clear hok
    generalize sayB ⟨kind, txn, yes, ff, tt, epoch, shard, target, root⟩ = xs at hl1 hb8 HP ⊢
    have HL1 : Hid (xs.length ≤ 65536) := by show _ ≤ _; dsimp only at hl1 hl2 hl3; omega
    have HB8 := Lib.hid hb8
    clear hl1 hl2 hl3 hb8
    go_enter Tryz.func39, Tryz.ntmps39
    go_wp2_with fail
    refine (HP.out _).mono ?_
    rintro e w1 ⟨v1, rfl, hv1, hf1⟩
    have hf01 := hf0.then_ hf1
    have hB1 := hB0.fr hf1 id
    obtain ⟨A1, cap1, rfl, _, hr1⟩ := hv1.form
    have hb1 := h.keep hf01
    clear hB0 hf0 hf1 hv1 HP
    go_wp2_with fail
    refine (book_Digest hb1 (Nat.le_trans hbase hf01.size) hr1 HB8.out HL1.out hL).mono ?_
    rintro e w2 ⟨v2, rfl, hb2, hf2, hk2⟩
    have hB2 := hB1.fr hf2 (fun e => by
      rcases e with e | e | e
      · exact hB1.ne_ hb1.blk (by decide) e
      · obtain ⟨⟨es, cl, h1, _⟩, _⟩ := hb1.map
        exact hB1.ne_map h1 e
      · exact own_ne_blk hb1.own hB1 (by decide) e)
    have hc2 := hB2.cell 0
    go_wp2_with (go_at_call 42; refine (fault_Wrap_nil _ _ _).mono ?_; rintro e w' ⟨rfl, rfl⟩)
    refine bodyPost_ret (v := .tuple #[.int .i64 (digI L xs : Nat), .nilIface]) (by simp [results, Tryz.results39, go_sem]) rfl ?_
    exact BookStep.before ⟨v2, rfl, hb2, hf2, hk2⟩ hf01
  · have hso : saidO ⟨kind, txn, yes, ff, tt, epoch, shard, target, root⟩ = some ([((⟨#[115, 97, 121]⟩ : ByteArray), kind)], 111) := if_neg hok
    unfold sayI sayL
    rw [if_neg hok, if_neg hok, hso]
    obtain ⟨t, u, hu⟩ := errO_some ([((⟨#[115, 97, 121]⟩ : ByteArray), kind)], 111)
    have HP : Hid (∀ w, Calls Tryz.prog 63 #[.agg #[.int .i64 kind, .int .i64 txn, .bool yes, .string ff, .string tt, .int .i64 epoch, .int .i64 shard, .int .i64 target, .int .i64 root]] w fun e w' => ∃ A n cap, e = .returned (.tuple #[.slice A n cap, .iface t u]) ∧ Fr (fun _ => False) w w') := fun w => (HP.out w).mono fun e w' ⟨v, h1, h2, h3⟩ => by
      rw [hso, hu] at h1
      obtain ⟨A, cap, rfl, _, _⟩ := h2.form
      exact ⟨_, _, _, h1, h3⟩
    rw [hu]
    clear hok hso hu
    go_enter Tryz.func39, Tryz.ntmps39
    go_wp2_with (go_at_call 63; refine (HP.out _).mono ?_; rintro e w1 ⟨A1, n1, cap1, rfl, hf1⟩)
    have hf01 := hf0.then_ hf1
    refine bodyPost_ret (v := .tuple #[.int .i64 (-1), .iface t u]) (by simp [results, Tryz.results39, go_sem]) rfl ?_
    exact BookStep.before ⟨v, rfl, h.keep hf01, Fr.refl _ _, fun k hk => .inl hk⟩ hf01
end Go.Proofs.YtcfanacfjcgnbaaGreatDoor
