/- say: Put. -/
import Derived.Test.YtcfanacfjcgnbaaGreatDoorSayP
import Derived.Test.YtcfanacfjcgnbaaGreatDoorWireB
import Derived.Test.YtcfanacfjcgnbaaGreatDoorWireT
namespace Go.Proofs.YtcfanacfjcgnbaaGreatDoor
open Go Go.RowKit
def intsA (l : List Int) : Array Value := (l.map fun x => Value.int .i64 x).toArray
theorem intsA_at {l : List Int} {q : Nat} {x : Int} (h : l[q]? = some x) : (intsA l)[q]? = some (.int .i64 x) := by
  rw [intsA, List.getElem?_toArray, List.getElem?_map, h]
  rfl
def PutS (w : World) (s : SayD) (e : Ending) (w' : World) : Prop :=
  ∃ v, e = .returned (.tuple #[v, errO (saidO s)]) ∧ Own8 w' w.heap.size v (if OkSay s then sayB s else []) ∧ Fr (fun _ => False) w w'
set_option maxRecDepth 100000 in
set_option maxHeartbeats 4000000 in
theorem say_Put1 (w : World) (kind txn : Int) (yes : Bool) (ff tt : ByteArray) (epoch shard target root : Int) :
    Calls Tryz.prog 63 #[.agg #[.int .i64 kind, .int .i64 txn, .bool yes, .string ff, .string tt, .int .i64 epoch, .int .i64 shard, .int .i64 target, .int .i64 root]] w (PutS w ⟨kind, txn, yes, ff, tt, epoch, shard, target, root⟩) := by
  have HR := fun w => say_Check1 w kind txn yes ff tt epoch shard target root
  by_cases hok : OkSay ⟨kind, txn, yes, ff, tt, epoch, shard, target, root⟩
  · have hso : saidO ⟨kind, txn, yes, ff, tt, epoch, shard, target, root⟩ = none := if_pos hok
    unfold PutS
    rw [if_pos hok, hso]
    rw [hso] at HR
    have HR := Lib.hid HR
    have h16 : Hid (ff.size ≤ 16 ∧ tt.size ≤ 16) := by
      obtain ⟨a0, a1, a2, a3, a4, a5, a6, a7, a8, a9, a10, a11, a12, a13⟩ := hok
      dsimp only at a6 a7
      exact ⟨by omega, by omega⟩
    clear hok hso
    have h16f : ff.size ≤ 16 := h16.out.1
    have h16t : tt.size ≤ 16 := h16.out.2
    have hB0 := Blk.new w 42 #[.int .i64 kind, .int .i64 txn, .bool yes, .string ff, .string tt, .int .i64 epoch, .int .i64 shard, .int .i64 target, .int .i64 root]
    have hf0 : Fr (fun _ => False) w (w.alloc (Obj.cells #[.int .i64 kind, .int .i64 txn, .bool yes, .string ff, .string tt, .int .i64 epoch, .int .i64 shard, .int .i64 target, .int .i64 root] 42)) := (Fr.refl _ _).alloc _
    cases yes with
    | true =>
      go_enter Tryz.func63, Tryz.ntmps63
      go_wp2_with fail
      refine (HR.out _).mono ?_
      rintro e w1 ⟨rfl, hf01⟩
      have hB1 := hB0.fr hf01 id
      have hf1 := hf0.then_ hf01
      have hnil : errO none = .nilIface := rfl
      rw [hnil]
      have hcy := hB1.cell 2
      obtain ⟨gB, hgB⟩ : ∃ g, Hid (w.heap.size = g) := ⟨_, rfl⟩
      obtain ⟨g, hg⟩ : ∃ g, Hid (w1.heap.size = g) := ⟨_, rfl⟩
      have hsg : w.heap.size ≤ g := by rw [← hg.out]; exact hf1.size
      obtain ⟨b0, hb0⟩ : ∃ b : List Int, Hid (([] : List Int) = b) := ⟨_, rfl⟩
      have hl0 : b0.length = 0 := by rw [← hb0.out]; rfl
      obtain ⟨v2, hv2⟩ : ∃ v, Hid (Value.slice none 0 0 = v) := ⟨_, rfl⟩
      have hW2 : WriterAt ((w1.alloc (Obj.cells #[.slice none 0 0, .nilIface] 139)).alloc (Obj.cells #[.int .i64 kind, .int .i64 txn, .int .i64 1] 3)) w1.heap.size w1.heap.size (.slice none 0 0) b0 none := by rw [← hb0.out]; exact ⟨(Blk.new _ _ _).alloc _, Own8.nil _ _⟩
      have hB2 := (hB1.alloc (Obj.cells #[.slice none 0 0, .nilIface] 139)).alloc (Obj.cells #[.int .i64 kind, .int .i64 txn, .int .i64 1] 3)
      have hS3 : Blk ((w1.alloc (Obj.cells #[.slice none 0 0, .nilIface] 139)).alloc (Obj.cells #[.int .i64 kind, .int .i64 txn, .int .i64 1] 3)) (w1.heap.size + 1) 3 (intsA [kind, txn, 1]) := Blk.new_ _ _ _ (by simp)
      have hf2 := (hf1.alloc (Obj.cells #[.slice none 0 0, .nilIface] 139)).alloc (Obj.cells #[.int .i64 kind, .int .i64 txn, .int .i64 1] 3)
      have hz2 : w1.heap.size ≤ ((w1.alloc (Obj.cells #[.slice none 0 0, .nilIface] 139)).alloc (Obj.cells #[.int .i64 kind, .int .i64 txn, .int .i64 1] 3)).heap.size := by simp; omega
      have hq0 := (hB1.alloc (Obj.cells #[.slice none 0 0, .nilIface] 139)).cell 0
      have hq1 := (hB1.alloc (Obj.cells #[.slice none 0 0, .nilIface] 139)).cell 1
      clear hB0 hf0 HR hf01 hB1 hf1 hnil
      go_wp2_with fail
      rw [hg.out] at hW2 hS3 hz2 ⊢
      clear hq0 hq1 hcy
      generalize (w1.alloc (Obj.cells #[.slice none 0 0, .nilIface] 139)).alloc (Obj.cells #[.int .i64 kind, .int .i64 txn, .int .i64 1] 3) = w2 at *
      go_loopw [29] (fun ix wr => ∃ (q : Nat) (v : Value), q ≤ 3 ∧ ix = .int .i64 q ∧ WriterAt wr g g v (b0 ++ ([kind, txn, 1].take q).flatMap num8) none ∧ Blk wr w.heap.size 42 #[.int .i64 kind, .int .i64 txn, .bool true, .string ff, .string tt, .int .i64 epoch, .int .i64 shard, .int .i64 target, .int .i64 root] ∧ Blk wr (g + 1) 3 (intsA [kind, txn, 1]) ∧ Fr (fun _ => False) w wr) (fun ix _ => 3 - (intOf ix).toNat)
      case atStart => exact ⟨0, _, by omega, rfl, by rw [List.take_zero, List.flatMap_nil, List.append_nil]; exact hW2, hB2, hS3, hf2⟩
      case round =>
        clear hW2 hB2 hS3 hf2 hz2
        obtain ⟨q, v3, hq, rfl, hW3, hB3, hS3, hf3⟩ := hrel
        have hz3 : g ≤ wr.heap.size := Nat.le_of_lt hW3.blk.lt
        by_cases hlt : q < 3
        · obtain ⟨x, hx⟩ : ∃ x, [kind, txn, 1][q]? = some x := ⟨[kind, txn, 1][q]'(by simpa using hlt), List.getElem?_eq_getElem _⟩
          have hcx := hS3.cell q
          rw [intsA_at hx] at hcx
          have HX := Lib.hid hx
          have hlf : (b0 ++ ([kind, txn, 1].take q).flatMap num8).length ≤ 10000 := by
            have h1 := flat_num8 ([kind, txn, 1].take q)
            rw [List.length_append, h1, List.length_take]
            omega
          clear hx
          go_wp2_with (go_at_call 59; refine (writer_Num hW3 hz3 (by omega) x).mono ?_; rintro e wn ⟨vn, rfl, hWn, hqn, _⟩)
          have hBn := wrote_blk hB3 hW3.blk hW3.own hqn (by decide) (by decide)
          have hSn := wrote_blk hS3 hW3.blk hW3.own hqn (by decide) (by decide)
          have hfn := wrote_fr hf3 hW3.own hsg hsg hqn
          go_roundw
          case rel => exact ⟨q + 1, vn, by omega, by go_num, by rw [flat_take num8 HX.out, ← List.append_assoc]; exact hWn, hBn, hSn, hfn⟩
          case measure => simp [intOf]; omega
        · obtain rfl : q = 3 := by omega
          obtain ⟨b1, hb1⟩ : ∃ b, Hid (b0 ++ ([kind, txn, 1].take 3).flatMap num8 = b) := ⟨_, rfl⟩
          rw [hb1.out] at hW3
          have hl1 : b1.length = b0.length + 24 := by rw [← hb1.out, List.length_append, flat_num8]; rfl
          clear hlt hS3
          generalize wr = w3 at *
          have hc3_3 := hB3.cell 3
          have hcs3 := run_str w3 ff
          have hws3 := hW3.fr (strW_fr w3 ff) id (fun _ _ => id)
          have hbs3 := hB3.fr (strW_fr w3 ff) id
          have hfs3 := hf3.then_ (strW_fr w3 ff)
          have hzs3 : g ≤ (strW w3 ff).heap.size := Nat.le_trans hz3 (strW_fr w3 ff).size
          have HT3 := writer_Text (cap := grownCap w3 ff.size 0 5) hws3 hzs3 (strW_row w3 ff) (fun k e1 e2 => own8_new hW3.own (e1 ▸ e2)) (by rw [bytesOf_length]; have := h16.out; omega)
          rw [bytesOf_length, if_pos (by have := h16.out; omega)] at HT3
          have HT3 := Lib.hid HT3
          go_wp2_with fail
          clear hcs3
          refine HT3.out.mono ?_
          rintro e w4 ⟨v4, rfl, hW4, hq4, _⟩
          have hW4 : WriterAt w4 g g v4 (b1 ++ textB (bytesOf ff)) none := hW4
          obtain ⟨b2, hb2⟩ : ∃ b, Hid (b1 ++ textB (bytesOf ff) = b) := ⟨_, rfl⟩
          rw [hb2.out] at hW4
          have hl2 : b2.length = b1.length + (4 + ff.size) := by rw [← hb2.out, List.length_append]; simp [textB, count4_length, bytesOf_length]
          have hB4 := wrote_blk hbs3 hws3.blk hws3.own hq4 (by decide) (by decide)
          have hf4 := wrote_fr hfs3 hws3.own hsg hsg hq4
          have hz4 : g ≤ w4.heap.size := Nat.le_of_lt hW4.blk.lt
          clear hq4 hW3 hB3 hf3 hws3 hbs3 hfs3 HT3 hzs3
          have hc4_4 := hB4.cell 4
          have hcs4 := run_str w4 tt
          have hws4 := hW4.fr (strW_fr w4 tt) id (fun _ _ => id)
          have hbs4 := hB4.fr (strW_fr w4 tt) id
          have hfs4 := hf4.then_ (strW_fr w4 tt)
          have hzs4 : g ≤ (strW w4 tt).heap.size := Nat.le_trans hz4 (strW_fr w4 tt).size
          have HT4 := writer_Text (cap := grownCap w4 tt.size 0 5) hws4 hzs4 (strW_row w4 tt) (fun k e1 e2 => own8_new hW4.own (e1 ▸ e2)) (by rw [bytesOf_length]; have := h16.out; omega)
          rw [bytesOf_length, if_pos (by have := h16.out; omega)] at HT4
          have HT4 := Lib.hid HT4
          go_wp2_with fail
          clear hcs4
          refine HT4.out.mono ?_
          rintro e w5 ⟨v5, rfl, hW5, hq5, _⟩
          have hW5 : WriterAt w5 g g v5 (b2 ++ textB (bytesOf tt)) none := hW5
          obtain ⟨b3, hb3⟩ : ∃ b, Hid (b2 ++ textB (bytesOf tt) = b) := ⟨_, rfl⟩
          rw [hb3.out] at hW5
          have hl3 : b3.length = b2.length + (4 + tt.size) := by rw [← hb3.out, List.length_append]; simp [textB, count4_length, bytesOf_length]
          have hB5 := wrote_blk hbs4 hws4.blk hws4.own hq5 (by decide) (by decide)
          have hf5 := wrote_fr hfs4 hws4.own hsg hsg hq5
          have hz5 : g ≤ w5.heap.size := Nat.le_of_lt hW5.blk.lt
          clear hq5 hW4 hB4 hf4 hws4 hbs4 hfs4 HT4 hzs4
          have hc5_5 := hB5.cell 5
          go_wp2_with fail
          refine (writer_Num hW5 hz5 (by omega) (epoch)).mono ?_
          rintro e w6 ⟨v6, rfl, hW6, hq6, _⟩
          have hW6 : WriterAt w6 g g v6 (b3 ++ num8 (epoch)) none := hW6
          obtain ⟨b4, hb4⟩ : ∃ b, Hid (b3 ++ num8 (epoch) = b) := ⟨_, rfl⟩
          rw [hb4.out] at hW6
          have hl4 : b4.length = b3.length + 8 := by rw [← hb4.out, List.length_append]; simp [num8_length]
          have hB6 := wrote_blk hB5 hW5.blk hW5.own hq6 (by decide) (by decide)
          have hf6 := wrote_fr hf5 hW5.own hsg hsg hq6
          have hz6 : g ≤ w6.heap.size := Nat.le_of_lt hW6.blk.lt
          clear hq6 hW5 hB5 hf5
          have hc6_6 := hB6.cell 6
          have hc6_7 := hB6.cell 7
          have hc6_8 := hB6.cell 8
          have hW7 := hW6.fr ((Fr.refl (fun _ => False) w6).alloc (Obj.cells #[.int .i64 shard, .int .i64 target, .int .i64 root] 3)) id (fun _ _ => id)
          have hB7 := hB6.alloc (Obj.cells #[.int .i64 shard, .int .i64 target, .int .i64 root] 3)
          have hS8 : Blk (w6.alloc (Obj.cells #[.int .i64 shard, .int .i64 target, .int .i64 root] 3)) w6.heap.size 3 (intsA [shard, target, root]) := Blk.new _ _ _
          have hf7 := hf6.alloc (Obj.cells #[.int .i64 shard, .int .i64 target, .int .i64 root] 3)
          have hz7 : g ≤ (w6.alloc (Obj.cells #[.int .i64 shard, .int .i64 target, .int .i64 root] 3)).heap.size := Nat.le_trans hz6 (by simp)
          go_wp2_with fail
          clear hW6 hB6 hf6 hz6
          obtain ⟨gs, hgs⟩ : ∃ g, Hid (w6.heap.size = g) := ⟨_, rfl⟩
          rw [hgs.out] at hS8 ⊢
          generalize w6.alloc (Obj.cells #[.int .i64 shard, .int .i64 target, .int .i64 root] 3) = w7 at *
          go_loopw [59] (fun ix wr => ∃ (q : Nat) (v : Value), q ≤ 3 ∧ ix = .int .i64 q ∧ WriterAt wr g g v (b4 ++ ([shard, target, root].take q).flatMap num8) none ∧ Blk wr w.heap.size 42 #[.int .i64 kind, .int .i64 txn, .bool true, .string ff, .string tt, .int .i64 epoch, .int .i64 shard, .int .i64 target, .int .i64 root] ∧ Blk wr (gs) 3 (intsA [shard, target, root]) ∧ Fr (fun _ => False) w wr) (fun ix _ => 3 - (intOf ix).toNat)
          case atStart => exact ⟨0, _, by omega, rfl, by rw [List.take_zero, List.flatMap_nil, List.append_nil]; exact hW7, hB7, hS8, hf7⟩
          case round =>
            clear hW7 hB7 hS8 hf7 hz7
            obtain ⟨q, v8, hq, rfl, hW8, hB8, hS8, hf8⟩ := hrel
            have hz8 : g ≤ wr.heap.size := Nat.le_of_lt hW8.blk.lt
            by_cases hlt : q < 3
            · obtain ⟨x, hx⟩ : ∃ x, [shard, target, root][q]? = some x := ⟨[shard, target, root][q]'(by simpa using hlt), List.getElem?_eq_getElem _⟩
              have hcx := hS8.cell q
              rw [intsA_at hx] at hcx
              have HX := Lib.hid hx
              have hlf : (b4 ++ ([shard, target, root].take q).flatMap num8).length ≤ 10000 := by
                have h1 := flat_num8 ([shard, target, root].take q)
                rw [List.length_append, h1, List.length_take]
                omega
              clear hx
              go_wp2_with (go_at_call 59; refine (writer_Num hW8 hz8 (by omega) x).mono ?_; rintro e wn ⟨vn, rfl, hWn, hqn, _⟩)
              have hBn := wrote_blk hB8 hW8.blk hW8.own hqn (by decide) (by decide)
              have hSn := wrote_blk hS8 hW8.blk hW8.own hqn (by decide) (by decide)
              have hfn := wrote_fr hf8 hW8.own hsg hsg hqn
              go_roundw
              case rel => exact ⟨q + 1, vn, by omega, by go_num, by rw [flat_take num8 HX.out, ← List.append_assoc]; exact hWn, hBn, hSn, hfn⟩
              case measure => simp [intOf]; omega
            · obtain rfl : q = 3 := by omega
              obtain ⟨b5, hb5⟩ : ∃ b, Hid (b4 ++ ([shard, target, root].take 3).flatMap num8 = b) := ⟨_, rfl⟩
              rw [hb5.out] at hW8
              have hl5 : b5.length = b4.length + 24 := by rw [← hb5.out, List.length_append, flat_num8]; rfl
              clear hlt hS8
              generalize wr = w8 at *
              go_wp2_with fail
              refine (writer_Bytes hW8 (by omega)).mono ?_
              rintro e wz ⟨vz, rfl, hvz, hfz⟩
              have hvz : Own8 wz w8.heap.size vz b5 := hvz
              have hnil2 : errW none = .nilIface := rfl
              rw [hnil2]
              clear hnil2
              have hBz := hB8.fr hfz id
              have hcz := hBz.cell 0
              go_wp2_with (go_at_call 42; refine (fault_Wrap_nil _ _ _).mono ?_; rintro e w' ⟨rfl, rfl⟩)
              refine bodyPost_ret (v := .tuple #[vz, .nilIface]) (by simp [results, Tryz.results63, go_sem]) rfl ?_
              have he : sayB ⟨kind, txn, true, ff, tt, epoch, shard, target, root⟩ = b5 := by
                have e1 : num8 kind ++ num8 txn ++ num8 1 = b1 := by rw [← hb1.out, ← hb0.out]; simp
                have e5 : b4 ++ num8 shard ++ num8 target ++ num8 root = b5 := by rw [← hb5.out]; simp
                unfold sayB yesI
                dsimp only
                simp only [if_true, e1, hb2.out, hb3.out, hb4.out, e5]
              rw [he]
              exact ⟨vz, rfl, own_base hvz (hf8.size), hf8.then_ hfz⟩
    | false =>
      go_enter Tryz.func63, Tryz.ntmps63
      go_wp2_with fail
      refine (HR.out _).mono ?_
      rintro e w1 ⟨rfl, hf01⟩
      have hB1 := hB0.fr hf01 id
      have hf1 := hf0.then_ hf01
      have hnil : errO none = .nilIface := rfl
      rw [hnil]
      have hcy := hB1.cell 2
      obtain ⟨gB, hgB⟩ : ∃ g, Hid (w.heap.size = g) := ⟨_, rfl⟩
      obtain ⟨g, hg⟩ : ∃ g, Hid (w1.heap.size = g) := ⟨_, rfl⟩
      have hsg : w.heap.size ≤ g := by rw [← hg.out]; exact hf1.size
      obtain ⟨b0, hb0⟩ : ∃ b : List Int, Hid (([] : List Int) = b) := ⟨_, rfl⟩
      have hl0 : b0.length = 0 := by rw [← hb0.out]; rfl
      obtain ⟨v2, hv2⟩ : ∃ v, Hid (Value.slice none 0 0 = v) := ⟨_, rfl⟩
      have hW2 : WriterAt ((w1.alloc (Obj.cells #[.slice none 0 0, .nilIface] 139)).alloc (Obj.cells #[.int .i64 kind, .int .i64 txn, .int .i64 0] 3)) w1.heap.size w1.heap.size (.slice none 0 0) b0 none := by rw [← hb0.out]; exact ⟨(Blk.new _ _ _).alloc _, Own8.nil _ _⟩
      have hB2 := (hB1.alloc (Obj.cells #[.slice none 0 0, .nilIface] 139)).alloc (Obj.cells #[.int .i64 kind, .int .i64 txn, .int .i64 0] 3)
      have hS3 : Blk ((w1.alloc (Obj.cells #[.slice none 0 0, .nilIface] 139)).alloc (Obj.cells #[.int .i64 kind, .int .i64 txn, .int .i64 0] 3)) (w1.heap.size + 1) 3 (intsA [kind, txn, 0]) := Blk.new_ _ _ _ (by simp)
      have hf2 := (hf1.alloc (Obj.cells #[.slice none 0 0, .nilIface] 139)).alloc (Obj.cells #[.int .i64 kind, .int .i64 txn, .int .i64 0] 3)
      have hz2 : w1.heap.size ≤ ((w1.alloc (Obj.cells #[.slice none 0 0, .nilIface] 139)).alloc (Obj.cells #[.int .i64 kind, .int .i64 txn, .int .i64 0] 3)).heap.size := by simp; omega
      have hq0 := (hB1.alloc (Obj.cells #[.slice none 0 0, .nilIface] 139)).cell 0
      have hq1 := (hB1.alloc (Obj.cells #[.slice none 0 0, .nilIface] 139)).cell 1
      clear hB0 hf0 HR hf01 hB1 hf1 hnil
      go_wp2_with fail
      rw [hg.out] at hW2 hS3 hz2 ⊢
      clear hq0 hq1 hcy
      generalize (w1.alloc (Obj.cells #[.slice none 0 0, .nilIface] 139)).alloc (Obj.cells #[.int .i64 kind, .int .i64 txn, .int .i64 0] 3) = w2 at *
      go_loopw [29] (fun ix wr => ∃ (q : Nat) (v : Value), q ≤ 3 ∧ ix = .int .i64 q ∧ WriterAt wr g g v (b0 ++ ([kind, txn, 0].take q).flatMap num8) none ∧ Blk wr w.heap.size 42 #[.int .i64 kind, .int .i64 txn, .bool false, .string ff, .string tt, .int .i64 epoch, .int .i64 shard, .int .i64 target, .int .i64 root] ∧ Blk wr (g + 1) 3 (intsA [kind, txn, 0]) ∧ Fr (fun _ => False) w wr) (fun ix _ => 3 - (intOf ix).toNat)
      case atStart => exact ⟨0, _, by omega, rfl, by rw [List.take_zero, List.flatMap_nil, List.append_nil]; exact hW2, hB2, hS3, hf2⟩
      case round =>
        clear hW2 hB2 hS3 hf2 hz2
        obtain ⟨q, v3, hq, rfl, hW3, hB3, hS3, hf3⟩ := hrel
        have hz3 : g ≤ wr.heap.size := Nat.le_of_lt hW3.blk.lt
        by_cases hlt : q < 3
        · obtain ⟨x, hx⟩ : ∃ x, [kind, txn, 0][q]? = some x := ⟨[kind, txn, 0][q]'(by simpa using hlt), List.getElem?_eq_getElem _⟩
          have hcx := hS3.cell q
          rw [intsA_at hx] at hcx
          have HX := Lib.hid hx
          have hlf : (b0 ++ ([kind, txn, 0].take q).flatMap num8).length ≤ 10000 := by
            have h1 := flat_num8 ([kind, txn, 0].take q)
            rw [List.length_append, h1, List.length_take]
            omega
          clear hx
          go_wp2_with (go_at_call 59; refine (writer_Num hW3 hz3 (by omega) x).mono ?_; rintro e wn ⟨vn, rfl, hWn, hqn, _⟩)
          have hBn := wrote_blk hB3 hW3.blk hW3.own hqn (by decide) (by decide)
          have hSn := wrote_blk hS3 hW3.blk hW3.own hqn (by decide) (by decide)
          have hfn := wrote_fr hf3 hW3.own hsg hsg hqn
          go_roundw
          case rel => exact ⟨q + 1, vn, by omega, by go_num, by rw [flat_take num8 HX.out, ← List.append_assoc]; exact hWn, hBn, hSn, hfn⟩
          case measure => simp [intOf]; omega
        · obtain rfl : q = 3 := by omega
          obtain ⟨b1, hb1⟩ : ∃ b, Hid (b0 ++ ([kind, txn, 0].take 3).flatMap num8 = b) := ⟨_, rfl⟩
          rw [hb1.out] at hW3
          have hl1 : b1.length = b0.length + 24 := by rw [← hb1.out, List.length_append, flat_num8]; rfl
          clear hlt hS3
          generalize wr = w3 at *
          have hc3_3 := hB3.cell 3
          have hcs3 := run_str w3 ff
          have hws3 := hW3.fr (strW_fr w3 ff) id (fun _ _ => id)
          have hbs3 := hB3.fr (strW_fr w3 ff) id
          have hfs3 := hf3.then_ (strW_fr w3 ff)
          have hzs3 : g ≤ (strW w3 ff).heap.size := Nat.le_trans hz3 (strW_fr w3 ff).size
          have HT3 := writer_Text (cap := grownCap w3 ff.size 0 5) hws3 hzs3 (strW_row w3 ff) (fun k e1 e2 => own8_new hW3.own (e1 ▸ e2)) (by rw [bytesOf_length]; have := h16.out; omega)
          rw [bytesOf_length, if_pos (by have := h16.out; omega)] at HT3
          have HT3 := Lib.hid HT3
          go_wp2_with fail
          clear hcs3
          refine HT3.out.mono ?_
          rintro e w4 ⟨v4, rfl, hW4, hq4, _⟩
          have hW4 : WriterAt w4 g g v4 (b1 ++ textB (bytesOf ff)) none := hW4
          obtain ⟨b2, hb2⟩ : ∃ b, Hid (b1 ++ textB (bytesOf ff) = b) := ⟨_, rfl⟩
          rw [hb2.out] at hW4
          have hl2 : b2.length = b1.length + (4 + ff.size) := by rw [← hb2.out, List.length_append]; simp [textB, count4_length, bytesOf_length]
          have hB4 := wrote_blk hbs3 hws3.blk hws3.own hq4 (by decide) (by decide)
          have hf4 := wrote_fr hfs3 hws3.own hsg hsg hq4
          have hz4 : g ≤ w4.heap.size := Nat.le_of_lt hW4.blk.lt
          clear hq4 hW3 hB3 hf3 hws3 hbs3 hfs3 HT3 hzs3
          have hc4_4 := hB4.cell 4
          have hcs4 := run_str w4 tt
          have hws4 := hW4.fr (strW_fr w4 tt) id (fun _ _ => id)
          have hbs4 := hB4.fr (strW_fr w4 tt) id
          have hfs4 := hf4.then_ (strW_fr w4 tt)
          have hzs4 : g ≤ (strW w4 tt).heap.size := Nat.le_trans hz4 (strW_fr w4 tt).size
          have HT4 := writer_Text (cap := grownCap w4 tt.size 0 5) hws4 hzs4 (strW_row w4 tt) (fun k e1 e2 => own8_new hW4.own (e1 ▸ e2)) (by rw [bytesOf_length]; have := h16.out; omega)
          rw [bytesOf_length, if_pos (by have := h16.out; omega)] at HT4
          have HT4 := Lib.hid HT4
          go_wp2_with fail
          clear hcs4
          refine HT4.out.mono ?_
          rintro e w5 ⟨v5, rfl, hW5, hq5, _⟩
          have hW5 : WriterAt w5 g g v5 (b2 ++ textB (bytesOf tt)) none := hW5
          obtain ⟨b3, hb3⟩ : ∃ b, Hid (b2 ++ textB (bytesOf tt) = b) := ⟨_, rfl⟩
          rw [hb3.out] at hW5
          have hl3 : b3.length = b2.length + (4 + tt.size) := by rw [← hb3.out, List.length_append]; simp [textB, count4_length, bytesOf_length]
          have hB5 := wrote_blk hbs4 hws4.blk hws4.own hq5 (by decide) (by decide)
          have hf5 := wrote_fr hfs4 hws4.own hsg hsg hq5
          have hz5 : g ≤ w5.heap.size := Nat.le_of_lt hW5.blk.lt
          clear hq5 hW4 hB4 hf4 hws4 hbs4 hfs4 HT4 hzs4
          have hc5_5 := hB5.cell 5
          go_wp2_with fail
          refine (writer_Num hW5 hz5 (by omega) (epoch)).mono ?_
          rintro e w6 ⟨v6, rfl, hW6, hq6, _⟩
          have hW6 : WriterAt w6 g g v6 (b3 ++ num8 (epoch)) none := hW6
          obtain ⟨b4, hb4⟩ : ∃ b, Hid (b3 ++ num8 (epoch) = b) := ⟨_, rfl⟩
          rw [hb4.out] at hW6
          have hl4 : b4.length = b3.length + 8 := by rw [← hb4.out, List.length_append]; simp [num8_length]
          have hB6 := wrote_blk hB5 hW5.blk hW5.own hq6 (by decide) (by decide)
          have hf6 := wrote_fr hf5 hW5.own hsg hsg hq6
          have hz6 : g ≤ w6.heap.size := Nat.le_of_lt hW6.blk.lt
          clear hq6 hW5 hB5 hf5
          have hc6_6 := hB6.cell 6
          have hc6_7 := hB6.cell 7
          have hc6_8 := hB6.cell 8
          have hW7 := hW6.fr ((Fr.refl (fun _ => False) w6).alloc (Obj.cells #[.int .i64 shard, .int .i64 target, .int .i64 root] 3)) id (fun _ _ => id)
          have hB7 := hB6.alloc (Obj.cells #[.int .i64 shard, .int .i64 target, .int .i64 root] 3)
          have hS8 : Blk (w6.alloc (Obj.cells #[.int .i64 shard, .int .i64 target, .int .i64 root] 3)) w6.heap.size 3 (intsA [shard, target, root]) := Blk.new _ _ _
          have hf7 := hf6.alloc (Obj.cells #[.int .i64 shard, .int .i64 target, .int .i64 root] 3)
          have hz7 : g ≤ (w6.alloc (Obj.cells #[.int .i64 shard, .int .i64 target, .int .i64 root] 3)).heap.size := Nat.le_trans hz6 (by simp)
          go_wp2_with fail
          clear hW6 hB6 hf6 hz6
          obtain ⟨gs, hgs⟩ : ∃ g, Hid (w6.heap.size = g) := ⟨_, rfl⟩
          rw [hgs.out] at hS8 ⊢
          generalize w6.alloc (Obj.cells #[.int .i64 shard, .int .i64 target, .int .i64 root] 3) = w7 at *
          go_loopw [59] (fun ix wr => ∃ (q : Nat) (v : Value), q ≤ 3 ∧ ix = .int .i64 q ∧ WriterAt wr g g v (b4 ++ ([shard, target, root].take q).flatMap num8) none ∧ Blk wr w.heap.size 42 #[.int .i64 kind, .int .i64 txn, .bool false, .string ff, .string tt, .int .i64 epoch, .int .i64 shard, .int .i64 target, .int .i64 root] ∧ Blk wr (gs) 3 (intsA [shard, target, root]) ∧ Fr (fun _ => False) w wr) (fun ix _ => 3 - (intOf ix).toNat)
          case atStart => exact ⟨0, _, by omega, rfl, by rw [List.take_zero, List.flatMap_nil, List.append_nil]; exact hW7, hB7, hS8, hf7⟩
          case round =>
            clear hW7 hB7 hS8 hf7 hz7
            obtain ⟨q, v8, hq, rfl, hW8, hB8, hS8, hf8⟩ := hrel
            have hz8 : g ≤ wr.heap.size := Nat.le_of_lt hW8.blk.lt
            by_cases hlt : q < 3
            · obtain ⟨x, hx⟩ : ∃ x, [shard, target, root][q]? = some x := ⟨[shard, target, root][q]'(by simpa using hlt), List.getElem?_eq_getElem _⟩
              have hcx := hS8.cell q
              rw [intsA_at hx] at hcx
              have HX := Lib.hid hx
              have hlf : (b4 ++ ([shard, target, root].take q).flatMap num8).length ≤ 10000 := by
                have h1 := flat_num8 ([shard, target, root].take q)
                rw [List.length_append, h1, List.length_take]
                omega
              clear hx
              go_wp2_with (go_at_call 59; refine (writer_Num hW8 hz8 (by omega) x).mono ?_; rintro e wn ⟨vn, rfl, hWn, hqn, _⟩)
              have hBn := wrote_blk hB8 hW8.blk hW8.own hqn (by decide) (by decide)
              have hSn := wrote_blk hS8 hW8.blk hW8.own hqn (by decide) (by decide)
              have hfn := wrote_fr hf8 hW8.own hsg hsg hqn
              go_roundw
              case rel => exact ⟨q + 1, vn, by omega, by go_num, by rw [flat_take num8 HX.out, ← List.append_assoc]; exact hWn, hBn, hSn, hfn⟩
              case measure => simp [intOf]; omega
            · obtain rfl : q = 3 := by omega
              obtain ⟨b5, hb5⟩ : ∃ b, Hid (b4 ++ ([shard, target, root].take 3).flatMap num8 = b) := ⟨_, rfl⟩
              rw [hb5.out] at hW8
              have hl5 : b5.length = b4.length + 24 := by rw [← hb5.out, List.length_append, flat_num8]; rfl
              clear hlt hS8
              generalize wr = w8 at *
              go_wp2_with fail
              refine (writer_Bytes hW8 (by omega)).mono ?_
              rintro e wz ⟨vz, rfl, hvz, hfz⟩
              have hvz : Own8 wz w8.heap.size vz b5 := hvz
              have hnil2 : errW none = .nilIface := rfl
              rw [hnil2]
              clear hnil2
              have hBz := hB8.fr hfz id
              have hcz := hBz.cell 0
              go_wp2_with (go_at_call 42; refine (fault_Wrap_nil _ _ _).mono ?_; rintro e w' ⟨rfl, rfl⟩)
              refine bodyPost_ret (v := .tuple #[vz, .nilIface]) (by simp [results, Tryz.results63, go_sem]) rfl ?_
              have he : sayB ⟨kind, txn, false, ff, tt, epoch, shard, target, root⟩ = b5 := by
                have e1 : num8 kind ++ num8 txn ++ num8 0 = b1 := by rw [← hb1.out, ← hb0.out]; simp
                have e5 : b4 ++ num8 shard ++ num8 target ++ num8 root = b5 := by rw [← hb5.out]; simp
                unfold sayB yesI
                dsimp only
                simp only [if_false, Bool.false_eq_true, e1, hb2.out, hb3.out, hb4.out, e5]
              rw [he]
              exact ⟨vz, rfl, own_base hvz (hf8.size), hf8.then_ hfz⟩
  · have hso : saidO ⟨kind, txn, yes, ff, tt, epoch, shard, target, root⟩ = some ([((⟨#[115, 97, 121]⟩ : ByteArray), kind)], 111) := if_neg hok
    unfold PutS
    rw [if_neg hok, hso]
    rw [hso] at HR
    obtain ⟨t, u, hu⟩ := errO_some ([((⟨#[115, 97, 121]⟩ : ByteArray), kind)], 111)
    rw [hu] at HR ⊢
    have HR := Lib.hid HR
    clear hok hso hu
    go_enter Tryz.func63, Tryz.ntmps63
    go_wp2_with (go_at_call 76; refine (HR.out _).mono ?_; rintro e w1 ⟨rfl, hf01⟩)
    refine bodyPost_ret (v := .tuple #[.slice none 0 0, .iface t u]) (by simp [results, Tryz.results63, go_sem]) rfl ?_
    exact ⟨_, rfl, Own8.nil _ _, ((Fr.refl (fun _ => False) w).alloc _).then_ hf01⟩
end Go.Proofs.YtcfanacfjcgnbaaGreatDoor
