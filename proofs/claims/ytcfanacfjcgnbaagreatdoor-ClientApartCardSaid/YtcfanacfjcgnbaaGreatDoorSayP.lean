/- cohortref11: Put. say: Put. -/
import Derived.Test.YtcfanacfjcgnbaaGreatDoorSayC
import Derived.Test.YtcfanacfjcgnbaaGreatDoorRefL
namespace Go.Proofs.YtcfanacfjcgnbaaGreatDoor
open Go Go.RowKit
def yesI (b : Bool) : Int := if b then 1 else 0
def sayB (s : SayD) : List Int := num8 s.kind ++ num8 s.txn ++ num8 (yesI s.yes) ++ textB (bytesOf s.from_) ++ textB (bytesOf s.to_) ++ num8 s.epoch ++ num8 s.shard ++ num8 s.target ++ num8 s.root
theorem wrote_fr {w wi wj : World} {g base : Nat} {v : Value} {bs : List Int} (hf : Fr (fun _ => False) w wi) (ho : Own8 wi base v bs) (hg : w.heap.size ≤ g) (hb : w.heap.size ≤ base) (h : Fr (fun k => k = g ∨ v.ownBlock = some k) wi wj) : Fr (fun _ => False) w wj :=
  hf.trans h (fun k hk e => by
    rcases e with e | e
    · omega
    · have := own_ge ho k e; omega)
theorem wrote_blk {wi wj : World} {g gB base : Nat} {tg t : TypeId} {cs cg : Array Value} {v : Value} {bs : List Int} (hB : Blk wi gB t cs) (hg : Blk wi g tg cg) (ho : Own8 wi base v bs) (h : Fr (fun k => k = g ∨ v.ownBlock = some k) wi wj) (h1 : tg ≠ t) (h2 : 5 ≠ t) : Blk wj gB t cs :=
  hB.fr h (fun e => by
    rcases e with e | e
    · exact (hB.ne_ hg (fun h => h1 h.symm)) e
    · exact ho.ne_blk hB h2 e)
theorem own8_new {w : World} {base : Nat} {v : Value} {bs : List Int} (h : Own8 w base v bs) : v.ownBlock ≠ some w.heap.size := fun e => Nat.lt_irrefl _ (h.lt _ e)
set_option maxRecDepth 100000 in
set_option maxHeartbeats 4000000 in
theorem ref11_Put1 (w : World) (kind txn : Int) (yes : Bool) (ff tt : ByteArray) (epoch shard target root : Int) :
    Calls Tryz.prog 17 #[.agg #[.int .i64 kind, .int .i64 txn, .bool yes, .string ff, .string tt, .int .i64 epoch, .int .i64 shard, .int .i64 target, .int .i64 root]] w (Fresh w (if OkSay ⟨kind, txn, yes, ff, tt, epoch, shard, target, root⟩ then sayB ⟨kind, txn, yes, ff, tt, epoch, shard, target, root⟩ else [])) := by
  have HR := fun w => ref11_Right1 w kind txn yes ff tt epoch shard target root
  by_cases hok : OkSay ⟨kind, txn, yes, ff, tt, epoch, shard, target, root⟩
  · rw [if_pos hok]
    rw [decide_eq_true hok] at HR
    have HR := Lib.hid HR
    have h16 : Hid (ff.size ≤ 16 ∧ tt.size ≤ 16) := by
      obtain ⟨a0, a1, a2, a3, a4, a5, a6, a7, a8, a9, a10, a11, a12, a13⟩ := hok
      dsimp only at a6 a7
      exact ⟨by omega, by omega⟩
    clear hok
    have h16f : ff.size ≤ 16 := h16.out.1
    have h16t : tt.size ≤ 16 := h16.out.2
    have hB0 := Blk.new w 42 #[.int .i64 kind, .int .i64 txn, .bool yes, .string ff, .string tt, .int .i64 epoch, .int .i64 shard, .int .i64 target, .int .i64 root]
    have hf0 : Fr (fun _ => False) w (w.alloc (Obj.cells #[.int .i64 kind, .int .i64 txn, .bool yes, .string ff, .string tt, .int .i64 epoch, .int .i64 shard, .int .i64 target, .int .i64 root] 42)) := (Fr.refl _ _).alloc _
    cases yes with
    | true =>
      go_enter Tryz.func17, Tryz.ntmps17
      go_wp2_with fail
      refine (HR.out _).mono ?_
      rintro e w1 ⟨rfl, hf01⟩
      have hB1 := hB0.fr hf01 id
      have hf1 := hf0.then_ hf01
      obtain ⟨g, hg⟩ : ∃ g, Hid (w1.heap.size = g) := ⟨_, rfl⟩
      have hsg : w.heap.size ≤ g := by rw [← hg.out]; exact hf1.size
      obtain ⟨b0, hb0⟩ : ∃ b : List Int, Hid (([] : List Int) = b) := ⟨_, rfl⟩
      have hl0 : b0.length = 0 := by rw [← hb0.out]; rfl
      have hW2 : RefW (w1.alloc (Obj.cells #[.slice none 0 0, .int .i64 0, .int .i64 0] 90)) w1.heap.size w1.heap.size (.slice none 0 0) [] none := ⟨Blk.new _ _ _, Own8.nil _ _⟩
      have hf2 : Fr (fun _ => False) w (w1.alloc (Obj.cells #[.slice none 0 0, .int .i64 0, .int .i64 0] 90)) := hf1.alloc _
      have hB2 := hB1.alloc (Obj.cells #[.slice none 0 0, .int .i64 0, .int .i64 0] 90)
      have hz2 : w1.heap.size ≤ (w1.alloc (Obj.cells #[.slice none 0 0, .int .i64 0, .int .i64 0] 90)).heap.size := by simp
      have hc2 := hB2.cell 0
      clear hB0 hf0 HR hf01 hB1 hf1
      rw [hb0.out] at hW2
      go_wp2_with fail
      rw [hg.out] at hW2 hz2 ⊢
      generalize w1.alloc (Obj.cells #[.slice none 0 0, .int .i64 0, .int .i64 0] 90) = w2 at *
      refine (refw_Num hW2 hz2 (by omega) (kind)).mono ?_
      rintro e w3 ⟨v3, rfl, hW3, hq3, _⟩
      have hW3 : RefW w3 g g v3 (b0 ++ num8 (kind)) none := hW3
      obtain ⟨b1, hb1⟩ : ∃ b, Hid (b0 ++ num8 (kind) = b) := ⟨_, rfl⟩
      rw [hb1.out] at hW3
      have hl1 : b1.length = b0.length + 8 := by rw [← hb1.out, List.length_append]; simp [num8_length]
      have hB3 := wrote_blk hB2 hW2.blk hW2.own hq3 (by decide) (by decide)
      have hf3 := wrote_fr hf2 hW2.own hsg hsg hq3
      have hz3 : g ≤ w3.heap.size := Nat.le_of_lt hW3.blk.lt
      clear hq3 hW2 hB2 hf2
      have hc3 := hB3.cell 1
      go_wp2_with fail
      refine (refw_Num hW3 hz3 (by omega) (txn)).mono ?_
      rintro e w4 ⟨v4, rfl, hW4, hq4, _⟩
      have hW4 : RefW w4 g g v4 (b1 ++ num8 (txn)) none := hW4
      obtain ⟨b2, hb2⟩ : ∃ b, Hid (b1 ++ num8 (txn) = b) := ⟨_, rfl⟩
      rw [hb2.out] at hW4
      have hl2 : b2.length = b1.length + 8 := by rw [← hb2.out, List.length_append]; simp [num8_length]
      have hB4 := wrote_blk hB3 hW3.blk hW3.own hq4 (by decide) (by decide)
      have hf4 := wrote_fr hf3 hW3.own hsg hsg hq4
      have hz4 : g ≤ w4.heap.size := Nat.le_of_lt hW4.blk.lt
      clear hq4 hW3 hB3 hf3
      have hc4 := hB4.cell 2
      go_wp2_with fail
      refine (refw_Num hW4 hz4 (by omega) (1)).mono ?_
      rintro e w5 ⟨v5, rfl, hW5, hq5, _⟩
      have hW5 : RefW w5 g g v5 (b2 ++ num8 (1)) none := hW5
      obtain ⟨b3, hb3⟩ : ∃ b, Hid (b2 ++ num8 (1) = b) := ⟨_, rfl⟩
      rw [hb3.out] at hW5
      have hl3 : b3.length = b2.length + 8 := by rw [← hb3.out, List.length_append]; simp [num8_length]
      have hB5 := wrote_blk hB4 hW4.blk hW4.own hq5 (by decide) (by decide)
      have hf5 := wrote_fr hf4 hW4.own hsg hsg hq5
      have hz5 : g ≤ w5.heap.size := Nat.le_of_lt hW5.blk.lt
      clear hq5 hW4 hB4 hf4
      have hc5 := hB5.cell 3
      have hcs5 := run_str w5 ff
      have hws5 := hW5.fr (strW_fr w5 ff) id (fun _ _ => id)
      have hbs5 := hB5.fr (strW_fr w5 ff) id
      have hfs5 := hf5.then_ (strW_fr w5 ff)
      have hzs5 : g ≤ (strW w5 ff).heap.size := Nat.le_trans hz5 (strW_fr w5 ff).size
      have HT5 := refw_Text (cap := grownCap w5 ff.size 0 5) hws5 hzs5 (strW_row w5 ff) (fun k e1 e2 => own8_new hW5.own (e1 ▸ e2)) (by rw [bytesOf_length]; have := h16.out; omega) (.inl (by rw [bytesOf_length]; have := h16.out; omega))
      rw [bytesOf_length, if_pos (by have := h16.out; omega)] at HT5
      have HT5 := Lib.hid HT5
      go_wp2_with fail
      clear hcs5
      refine HT5.out.mono ?_
      rintro e w6 ⟨v6, rfl, hW6, hq6, _⟩
      have hW6 : RefW w6 g g v6 (b3 ++ textB (bytesOf ff)) none := hW6
      obtain ⟨b4, hb4⟩ : ∃ b, Hid (b3 ++ textB (bytesOf ff) = b) := ⟨_, rfl⟩
      rw [hb4.out] at hW6
      have hl4 : b4.length = b3.length + (4 + ff.size) := by rw [← hb4.out, List.length_append]; simp [textB, count4_length, bytesOf_length]
      have hB6 := wrote_blk hbs5 hws5.blk hws5.own hq6 (by decide) (by decide)
      have hf6 := wrote_fr hfs5 hws5.own hsg hsg hq6
      have hz6 : g ≤ w6.heap.size := Nat.le_of_lt hW6.blk.lt
      clear hq6 hW5 hB5 hf5 hws5 hbs5 hfs5 HT5 hzs5
      have hc6 := hB6.cell 4
      have hcs6 := run_str w6 tt
      have hws6 := hW6.fr (strW_fr w6 tt) id (fun _ _ => id)
      have hbs6 := hB6.fr (strW_fr w6 tt) id
      have hfs6 := hf6.then_ (strW_fr w6 tt)
      have hzs6 : g ≤ (strW w6 tt).heap.size := Nat.le_trans hz6 (strW_fr w6 tt).size
      have HT6 := refw_Text (cap := grownCap w6 tt.size 0 5) hws6 hzs6 (strW_row w6 tt) (fun k e1 e2 => own8_new hW6.own (e1 ▸ e2)) (by rw [bytesOf_length]; have := h16.out; omega) (.inl (by rw [bytesOf_length]; have := h16.out; omega))
      rw [bytesOf_length, if_pos (by have := h16.out; omega)] at HT6
      have HT6 := Lib.hid HT6
      go_wp2_with fail
      clear hcs6
      refine HT6.out.mono ?_
      rintro e w7 ⟨v7, rfl, hW7, hq7, _⟩
      have hW7 : RefW w7 g g v7 (b4 ++ textB (bytesOf tt)) none := hW7
      obtain ⟨b5, hb5⟩ : ∃ b, Hid (b4 ++ textB (bytesOf tt) = b) := ⟨_, rfl⟩
      rw [hb5.out] at hW7
      have hl5 : b5.length = b4.length + (4 + tt.size) := by rw [← hb5.out, List.length_append]; simp [textB, count4_length, bytesOf_length]
      have hB7 := wrote_blk hbs6 hws6.blk hws6.own hq7 (by decide) (by decide)
      have hf7 := wrote_fr hfs6 hws6.own hsg hsg hq7
      have hz7 : g ≤ w7.heap.size := Nat.le_of_lt hW7.blk.lt
      clear hq7 hW6 hB6 hf6 hws6 hbs6 hfs6 HT6 hzs6
      have hc7 := hB7.cell 5
      go_wp2_with fail
      refine (refw_Num hW7 hz7 (by omega) (epoch)).mono ?_
      rintro e w8 ⟨v8, rfl, hW8, hq8, _⟩
      have hW8 : RefW w8 g g v8 (b5 ++ num8 (epoch)) none := hW8
      obtain ⟨b6, hb6⟩ : ∃ b, Hid (b5 ++ num8 (epoch) = b) := ⟨_, rfl⟩
      rw [hb6.out] at hW8
      have hl6 : b6.length = b5.length + 8 := by rw [← hb6.out, List.length_append]; simp [num8_length]
      have hB8 := wrote_blk hB7 hW7.blk hW7.own hq8 (by decide) (by decide)
      have hf8 := wrote_fr hf7 hW7.own hsg hsg hq8
      have hz8 : g ≤ w8.heap.size := Nat.le_of_lt hW8.blk.lt
      clear hq8 hW7 hB7 hf7
      have hc8 := hB8.cell 6
      go_wp2_with fail
      refine (refw_Num hW8 hz8 (by omega) (shard)).mono ?_
      rintro e w9 ⟨v9, rfl, hW9, hq9, _⟩
      have hW9 : RefW w9 g g v9 (b6 ++ num8 (shard)) none := hW9
      obtain ⟨b7, hb7⟩ : ∃ b, Hid (b6 ++ num8 (shard) = b) := ⟨_, rfl⟩
      rw [hb7.out] at hW9
      have hl7 : b7.length = b6.length + 8 := by rw [← hb7.out, List.length_append]; simp [num8_length]
      have hB9 := wrote_blk hB8 hW8.blk hW8.own hq9 (by decide) (by decide)
      have hf9 := wrote_fr hf8 hW8.own hsg hsg hq9
      have hz9 : g ≤ w9.heap.size := Nat.le_of_lt hW9.blk.lt
      clear hq9 hW8 hB8 hf8
      have hc9 := hB9.cell 7
      go_wp2_with fail
      refine (refw_Num hW9 hz9 (by omega) (target)).mono ?_
      rintro e w10 ⟨v10, rfl, hW10, hq10, _⟩
      have hW10 : RefW w10 g g v10 (b7 ++ num8 (target)) none := hW10
      obtain ⟨b8, hb8⟩ : ∃ b, Hid (b7 ++ num8 (target) = b) := ⟨_, rfl⟩
      rw [hb8.out] at hW10
      have hl8 : b8.length = b7.length + 8 := by rw [← hb8.out, List.length_append]; simp [num8_length]
      have hB10 := wrote_blk hB9 hW9.blk hW9.own hq10 (by decide) (by decide)
      have hf10 := wrote_fr hf9 hW9.own hsg hsg hq10
      have hz10 : g ≤ w10.heap.size := Nat.le_of_lt hW10.blk.lt
      clear hq10 hW9 hB9 hf9
      have hc10 := hB10.cell 8
      go_wp2_with fail
      refine (refw_Num hW10 hz10 (by omega) (root)).mono ?_
      rintro e w11 ⟨v11, rfl, hW11, hq11, _⟩
      have hW11 : RefW w11 g g v11 (b8 ++ num8 (root)) none := hW11
      obtain ⟨b9, hb9⟩ : ∃ b, Hid (b8 ++ num8 (root) = b) := ⟨_, rfl⟩
      rw [hb9.out] at hW11
      have hl9 : b9.length = b8.length + 8 := by rw [← hb9.out, List.length_append]; simp [num8_length]
      have hB11 := wrote_blk hB10 hW10.blk hW10.own hq11 (by decide) (by decide)
      have hf11 := wrote_fr hf10 hW10.own hsg hsg hq11
      have hz11 : g ≤ w11.heap.size := Nat.le_of_lt hW11.blk.lt
      clear hq11 hW10 hB10 hf10
      go_wp2_with fail
      refine (refw_Bytes hW11 (by omega)).mono ?_
      rintro e wz ⟨vz, rfl, hvz, hfz⟩
      go_wp2_with fail
      go_ret
      have he : sayB ⟨kind, txn, true, ff, tt, epoch, shard, target, root⟩ = b9 := by
        unfold sayB yesI
        have e0 : num8 kind = b1 := by rw [← hb1.out, ← hb0.out]; rfl
        dsimp only
        simp only [if_true, e0, hb2.out, hb3.out, hb4.out, hb5.out, hb6.out, hb7.out, hb8.out, hb9.out]
      rw [he]
      exact ⟨vz, rfl, own_base hvz (hf11.size), hf11.then_ hfz⟩
    | false =>
      go_enter Tryz.func17, Tryz.ntmps17
      go_wp2_with fail
      refine (HR.out _).mono ?_
      rintro e w1 ⟨rfl, hf01⟩
      have hB1 := hB0.fr hf01 id
      have hf1 := hf0.then_ hf01
      obtain ⟨g, hg⟩ : ∃ g, Hid (w1.heap.size = g) := ⟨_, rfl⟩
      have hsg : w.heap.size ≤ g := by rw [← hg.out]; exact hf1.size
      obtain ⟨b0, hb0⟩ : ∃ b : List Int, Hid (([] : List Int) = b) := ⟨_, rfl⟩
      have hl0 : b0.length = 0 := by rw [← hb0.out]; rfl
      have hW2 : RefW (w1.alloc (Obj.cells #[.slice none 0 0, .int .i64 0, .int .i64 0] 90)) w1.heap.size w1.heap.size (.slice none 0 0) [] none := ⟨Blk.new _ _ _, Own8.nil _ _⟩
      have hf2 : Fr (fun _ => False) w (w1.alloc (Obj.cells #[.slice none 0 0, .int .i64 0, .int .i64 0] 90)) := hf1.alloc _
      have hB2 := hB1.alloc (Obj.cells #[.slice none 0 0, .int .i64 0, .int .i64 0] 90)
      have hz2 : w1.heap.size ≤ (w1.alloc (Obj.cells #[.slice none 0 0, .int .i64 0, .int .i64 0] 90)).heap.size := by simp
      have hc2 := hB2.cell 0
      clear hB0 hf0 HR hf01 hB1 hf1
      rw [hb0.out] at hW2
      go_wp2_with fail
      rw [hg.out] at hW2 hz2 ⊢
      generalize w1.alloc (Obj.cells #[.slice none 0 0, .int .i64 0, .int .i64 0] 90) = w2 at *
      refine (refw_Num hW2 hz2 (by omega) (kind)).mono ?_
      rintro e w3 ⟨v3, rfl, hW3, hq3, _⟩
      have hW3 : RefW w3 g g v3 (b0 ++ num8 (kind)) none := hW3
      obtain ⟨b1, hb1⟩ : ∃ b, Hid (b0 ++ num8 (kind) = b) := ⟨_, rfl⟩
      rw [hb1.out] at hW3
      have hl1 : b1.length = b0.length + 8 := by rw [← hb1.out, List.length_append]; simp [num8_length]
      have hB3 := wrote_blk hB2 hW2.blk hW2.own hq3 (by decide) (by decide)
      have hf3 := wrote_fr hf2 hW2.own hsg hsg hq3
      have hz3 : g ≤ w3.heap.size := Nat.le_of_lt hW3.blk.lt
      clear hq3 hW2 hB2 hf2
      have hc3 := hB3.cell 1
      go_wp2_with fail
      refine (refw_Num hW3 hz3 (by omega) (txn)).mono ?_
      rintro e w4 ⟨v4, rfl, hW4, hq4, _⟩
      have hW4 : RefW w4 g g v4 (b1 ++ num8 (txn)) none := hW4
      obtain ⟨b2, hb2⟩ : ∃ b, Hid (b1 ++ num8 (txn) = b) := ⟨_, rfl⟩
      rw [hb2.out] at hW4
      have hl2 : b2.length = b1.length + 8 := by rw [← hb2.out, List.length_append]; simp [num8_length]
      have hB4 := wrote_blk hB3 hW3.blk hW3.own hq4 (by decide) (by decide)
      have hf4 := wrote_fr hf3 hW3.own hsg hsg hq4
      have hz4 : g ≤ w4.heap.size := Nat.le_of_lt hW4.blk.lt
      clear hq4 hW3 hB3 hf3
      have hc4 := hB4.cell 2
      go_wp2_with fail
      refine (refw_Num hW4 hz4 (by omega) (0)).mono ?_
      rintro e w5 ⟨v5, rfl, hW5, hq5, _⟩
      have hW5 : RefW w5 g g v5 (b2 ++ num8 (0)) none := hW5
      obtain ⟨b3, hb3⟩ : ∃ b, Hid (b2 ++ num8 (0) = b) := ⟨_, rfl⟩
      rw [hb3.out] at hW5
      have hl3 : b3.length = b2.length + 8 := by rw [← hb3.out, List.length_append]; simp [num8_length]
      have hB5 := wrote_blk hB4 hW4.blk hW4.own hq5 (by decide) (by decide)
      have hf5 := wrote_fr hf4 hW4.own hsg hsg hq5
      have hz5 : g ≤ w5.heap.size := Nat.le_of_lt hW5.blk.lt
      clear hq5 hW4 hB4 hf4
      have hc5 := hB5.cell 3
      have hcs5 := run_str w5 ff
      have hws5 := hW5.fr (strW_fr w5 ff) id (fun _ _ => id)
      have hbs5 := hB5.fr (strW_fr w5 ff) id
      have hfs5 := hf5.then_ (strW_fr w5 ff)
      have hzs5 : g ≤ (strW w5 ff).heap.size := Nat.le_trans hz5 (strW_fr w5 ff).size
      have HT5 := refw_Text (cap := grownCap w5 ff.size 0 5) hws5 hzs5 (strW_row w5 ff) (fun k e1 e2 => own8_new hW5.own (e1 ▸ e2)) (by rw [bytesOf_length]; have := h16.out; omega) (.inl (by rw [bytesOf_length]; have := h16.out; omega))
      rw [bytesOf_length, if_pos (by have := h16.out; omega)] at HT5
      have HT5 := Lib.hid HT5
      go_wp2_with fail
      clear hcs5
      refine HT5.out.mono ?_
      rintro e w6 ⟨v6, rfl, hW6, hq6, _⟩
      have hW6 : RefW w6 g g v6 (b3 ++ textB (bytesOf ff)) none := hW6
      obtain ⟨b4, hb4⟩ : ∃ b, Hid (b3 ++ textB (bytesOf ff) = b) := ⟨_, rfl⟩
      rw [hb4.out] at hW6
      have hl4 : b4.length = b3.length + (4 + ff.size) := by rw [← hb4.out, List.length_append]; simp [textB, count4_length, bytesOf_length]
      have hB6 := wrote_blk hbs5 hws5.blk hws5.own hq6 (by decide) (by decide)
      have hf6 := wrote_fr hfs5 hws5.own hsg hsg hq6
      have hz6 : g ≤ w6.heap.size := Nat.le_of_lt hW6.blk.lt
      clear hq6 hW5 hB5 hf5 hws5 hbs5 hfs5 HT5 hzs5
      have hc6 := hB6.cell 4
      have hcs6 := run_str w6 tt
      have hws6 := hW6.fr (strW_fr w6 tt) id (fun _ _ => id)
      have hbs6 := hB6.fr (strW_fr w6 tt) id
      have hfs6 := hf6.then_ (strW_fr w6 tt)
      have hzs6 : g ≤ (strW w6 tt).heap.size := Nat.le_trans hz6 (strW_fr w6 tt).size
      have HT6 := refw_Text (cap := grownCap w6 tt.size 0 5) hws6 hzs6 (strW_row w6 tt) (fun k e1 e2 => own8_new hW6.own (e1 ▸ e2)) (by rw [bytesOf_length]; have := h16.out; omega) (.inl (by rw [bytesOf_length]; have := h16.out; omega))
      rw [bytesOf_length, if_pos (by have := h16.out; omega)] at HT6
      have HT6 := Lib.hid HT6
      go_wp2_with fail
      clear hcs6
      refine HT6.out.mono ?_
      rintro e w7 ⟨v7, rfl, hW7, hq7, _⟩
      have hW7 : RefW w7 g g v7 (b4 ++ textB (bytesOf tt)) none := hW7
      obtain ⟨b5, hb5⟩ : ∃ b, Hid (b4 ++ textB (bytesOf tt) = b) := ⟨_, rfl⟩
      rw [hb5.out] at hW7
      have hl5 : b5.length = b4.length + (4 + tt.size) := by rw [← hb5.out, List.length_append]; simp [textB, count4_length, bytesOf_length]
      have hB7 := wrote_blk hbs6 hws6.blk hws6.own hq7 (by decide) (by decide)
      have hf7 := wrote_fr hfs6 hws6.own hsg hsg hq7
      have hz7 : g ≤ w7.heap.size := Nat.le_of_lt hW7.blk.lt
      clear hq7 hW6 hB6 hf6 hws6 hbs6 hfs6 HT6 hzs6
      have hc7 := hB7.cell 5
      go_wp2_with fail
      refine (refw_Num hW7 hz7 (by omega) (epoch)).mono ?_
      rintro e w8 ⟨v8, rfl, hW8, hq8, _⟩
      have hW8 : RefW w8 g g v8 (b5 ++ num8 (epoch)) none := hW8
      obtain ⟨b6, hb6⟩ : ∃ b, Hid (b5 ++ num8 (epoch) = b) := ⟨_, rfl⟩
      rw [hb6.out] at hW8
      have hl6 : b6.length = b5.length + 8 := by rw [← hb6.out, List.length_append]; simp [num8_length]
      have hB8 := wrote_blk hB7 hW7.blk hW7.own hq8 (by decide) (by decide)
      have hf8 := wrote_fr hf7 hW7.own hsg hsg hq8
      have hz8 : g ≤ w8.heap.size := Nat.le_of_lt hW8.blk.lt
      clear hq8 hW7 hB7 hf7
      have hc8 := hB8.cell 6
      go_wp2_with fail
      refine (refw_Num hW8 hz8 (by omega) (shard)).mono ?_
      rintro e w9 ⟨v9, rfl, hW9, hq9, _⟩
      have hW9 : RefW w9 g g v9 (b6 ++ num8 (shard)) none := hW9
      obtain ⟨b7, hb7⟩ : ∃ b, Hid (b6 ++ num8 (shard) = b) := ⟨_, rfl⟩
      rw [hb7.out] at hW9
      have hl7 : b7.length = b6.length + 8 := by rw [← hb7.out, List.length_append]; simp [num8_length]
      have hB9 := wrote_blk hB8 hW8.blk hW8.own hq9 (by decide) (by decide)
      have hf9 := wrote_fr hf8 hW8.own hsg hsg hq9
      have hz9 : g ≤ w9.heap.size := Nat.le_of_lt hW9.blk.lt
      clear hq9 hW8 hB8 hf8
      have hc9 := hB9.cell 7
      go_wp2_with fail
      refine (refw_Num hW9 hz9 (by omega) (target)).mono ?_
      rintro e w10 ⟨v10, rfl, hW10, hq10, _⟩
      have hW10 : RefW w10 g g v10 (b7 ++ num8 (target)) none := hW10
      obtain ⟨b8, hb8⟩ : ∃ b, Hid (b7 ++ num8 (target) = b) := ⟨_, rfl⟩
      rw [hb8.out] at hW10
      have hl8 : b8.length = b7.length + 8 := by rw [← hb8.out, List.length_append]; simp [num8_length]
      have hB10 := wrote_blk hB9 hW9.blk hW9.own hq10 (by decide) (by decide)
      have hf10 := wrote_fr hf9 hW9.own hsg hsg hq10
      have hz10 : g ≤ w10.heap.size := Nat.le_of_lt hW10.blk.lt
      clear hq10 hW9 hB9 hf9
      have hc10 := hB10.cell 8
      go_wp2_with fail
      refine (refw_Num hW10 hz10 (by omega) (root)).mono ?_
      rintro e w11 ⟨v11, rfl, hW11, hq11, _⟩
      have hW11 : RefW w11 g g v11 (b8 ++ num8 (root)) none := hW11
      obtain ⟨b9, hb9⟩ : ∃ b, Hid (b8 ++ num8 (root) = b) := ⟨_, rfl⟩
      rw [hb9.out] at hW11
      have hl9 : b9.length = b8.length + 8 := by rw [← hb9.out, List.length_append]; simp [num8_length]
      have hB11 := wrote_blk hB10 hW10.blk hW10.own hq11 (by decide) (by decide)
      have hf11 := wrote_fr hf10 hW10.own hsg hsg hq11
      have hz11 : g ≤ w11.heap.size := Nat.le_of_lt hW11.blk.lt
      clear hq11 hW10 hB10 hf10
      go_wp2_with fail
      refine (refw_Bytes hW11 (by omega)).mono ?_
      rintro e wz ⟨vz, rfl, hvz, hfz⟩
      go_wp2_with fail
      go_ret
      have he : sayB ⟨kind, txn, false, ff, tt, epoch, shard, target, root⟩ = b9 := by
        unfold sayB yesI
        have e0 : num8 kind = b1 := by rw [← hb1.out, ← hb0.out]; rfl
        dsimp only
        simp only [if_false, Bool.false_eq_true, e0, hb2.out, hb3.out, hb4.out, hb5.out, hb6.out, hb7.out, hb8.out, hb9.out]
      rw [he]
      exact ⟨vz, rfl, own_base hvz (hf11.size), hf11.then_ hfz⟩
  · rw [if_neg hok]
    rw [decide_eq_false hok] at HR
    have HR := Lib.hid HR
    clear hok
    go_enter Tryz.func17, Tryz.ntmps17
    go_wp2_with (go_at_call 33; refine (HR.out _).mono ?_; rintro e w1 ⟨rfl, hf01⟩)
    go_ret
    exact ⟨_, rfl, Own8.nil _ _, ((Fr.refl (fun _ => False) w).alloc _).then_ hf01⟩
end Go.Proofs.YtcfanacfjcgnbaaGreatDoor
