/- cohortlaw05.CertBack: the walk. -/
import Derived.Test.YtjnmfaaegbkmhaaGet05
import Derived.Test.YtjnmfaaegbkmhaaSame05
import Derived.Test.YtjnmfaaegbkmhaaHead05
import Derived.Test.YtjnmfaaegbkmhaaConv
import Derived.Deep.CutRange
namespace Go.Proofs.Ytjnmfaaegbkmhaa
open Go Go.RowKit
theorem intC_zero {bs : List Int} {p : Nat} {most : Int} : intC bs p most = 0 ↔ numC bs p = 0 ∧ 0 ≤ numX bs p ∧ numX bs p ≤ most := by
  unfold intC
  split
  · rename_i h
    constructor
    · intro h1; exact absurd h1 h
    · intro h1; exact absurd h1.1 h
  · rename_i h
    have h : numC bs p = 0 := by simpa using h
    split
    · constructor
      · intro h1; cases h1
      · intro h1; omega
    · split
      · constructor
        · intro h1; cases h1
        · intro h1; omega
      · exact ⟨fun _ => ⟨h, by omega, by omega⟩, fun _ => rfl⟩
theorem getE1_zero {x : Int} : getE1 x = 0 ↔ 0 ≤ x ∧ x ≤ 2147483647 := by
  unfold getE1
  split
  · constructor
    · intro h; cases h
    · intro h; omega
  · split
    · constructor
      · intro h; cases h
      · intro h; omega
    · exact ⟨fun _ => by omega, fun _ => rfl⟩
def May (G D : Int) (xs : List Int) : Prop := (0 ≤ G ∧ G < 2147483648 ∧ 0 ≤ D ∧ D < 2147483648) ∧ ∀ y ∈ xs, 0 ≤ y ∧ y < 2147483648
def Wf64 (n : Int) : Prop := -9223372036854775808 ≤ n ∧ n ≤ 9223372036854775807
theorem put_get {G D : Int} {xs : List Int} (hl : xs.length ≤ 1024) (hG : Wf64 G) (hD : Wf64 D) (hx : ∀ y ∈ xs, Wf64 y) :
    (getOk (num8 G ++ num8 D ++ numsB xs) ↔ May G D xs) ∧ numX (num8 G ++ num8 D ++ numsB xs) 0 = G ∧ numX (num8 G ++ num8 D ++ numsB xs) 8 = D ∧ numsX (num8 G ++ num8 D ++ numsB xs) 16 = xs := by
  generalize hb : num8 G ++ num8 D ++ numsB xs = b
  have h0 : b.drop 0 = num8 G ++ (num8 D ++ numsB xs) := by rw [List.drop_zero, ← hb, List.append_assoc]
  obtain ⟨a1, a2, a3⟩ := num_read h0 hG.1 hG.2
  obtain ⟨b1, b2, b3⟩ := num_read a3 hD.1 hD.2
  have b3' : b.drop 16 = numsB xs ++ [] := by rw [List.append_nil]; exact b3
  obtain ⟨c1, c2, c3⟩ := nums_read b3' hl hx
  have c4 : ¬ numsP b 16 < b.length := fun h => by
    have := congrArg List.length c3
    rw [List.length_drop, List.length_nil] at this
    omega
  have b1' : numC b 8 = 0 := b1
  have b2' : numX b 8 = D := b2
  refine ⟨?_, a2, b2', c2⟩
  unfold getOk May
  rw [intC_zero, intC_zero, a2, b2', c2]
  constructor
  · rintro ⟨⟨_, g1, g2⟩, ⟨_, g3, g4⟩, _, _, g5⟩
    exact ⟨by omega, fun y hy => by have := getE1_zero.1 (g5 y hy); omega⟩
  · rintro ⟨g1, g2⟩
    exact ⟨⟨a1, by omega⟩, ⟨b1', by omega⟩, c1, c4, fun y hy => getE1_zero.2 (by have := g2 y hy; omega)⟩
theorem get_put {b : List Int} (h8 : Bytes8 b) (h : getOk b) : num8 (numX b 0) ++ num8 (numX b 8) ++ numsB (numsX b 16) = b ∧ (numsX b 16).length ≤ 1024 := by
  obtain ⟨g1, g2, g3, g4, _⟩ := h
  have e1 := num_kept h8 (intC_zero.1 g1).1
  have e2 := num_kept h8 (intC_zero.1 g2).1
  obtain ⟨e3, e4⟩ := nums_kept h8 g3
  refine ⟨?_, e4⟩
  have e5 : b.drop (numsP b 16) = [] := List.drop_eq_nil_of_le (by omega)
  rw [e5, List.append_nil] at e3
  have e2' : b.drop 8 = num8 (numX b 8) ++ b.drop 16 := e2
  have e1' : b = num8 (numX b 0) ++ b.drop 8 := by simpa using e1
  conv => rhs; rw [e1', e2', e3]
  rw [List.append_assoc]
theorem bytes_append {a b : List Int} (ha : Bytes8 a) (hb : Bytes8 b) : Bytes8 (a ++ b) := fun x hx => (List.mem_append.1 hx).elim (ha x) (hb x)
theorem bytes_flat {α : Type} (f : α → List Int) (hf : ∀ x, Bytes8 (f x)) (l : List α) : Bytes8 (l.flatMap f) := fun x hx => by
  obtain ⟨y, _, h⟩ := List.mem_flatMap.1 hx
  exact hf y x h
theorem put_bytes (G D : Int) (xs : List Int) : Bytes8 (num8 G ++ num8 D ++ numsB xs) :=
  bytes_append (bytes_append (num8_bytes G) (num8_bytes D)) (bytes_append (count4_bytes _) (bytes_flat num8 num8_bytes xs))
def okY (y : Int) : Bool := decide (0 ≤ y ∧ y < 2147483648)
theorem okY_true {y : Int} (h1 : 0 ≤ y) (h2 : y < 2147483648) : okY y = true := decide_eq_true ⟨h1, h2⟩
theorem okY_false {y : Int} (h : ¬ (0 ≤ y ∧ y < 2147483648)) : okY y = false := decide_eq_false h
theorem all_take {xs : List Int} {k : Nat} {y : Int} (h : xs[k]? = some y) (f : Int → Bool) : (xs.take (k + 1)).all f = ((xs.take k).all f && f y) := by
  obtain ⟨h1, h2⟩ := List.getElem?_eq_some_iff.1 h
  rw [List.take_succ_eq_append_getElem h1, h2, List.all_append]
  simp
set_option maxRecDepth 100000 in
set_option maxHeartbeats 1000000 in
theorem certBack_walk {w : World} {B : Option Addr} {xs : List Int} {cap2 : Nat} (hr : IntRow w w.heap.size B xs) (hxl : xs.length ≤ 9223372036854775807) (hxw : ∀ y ∈ xs, Wf64 y) {G D : Int} (hG : Wf64 G) (hD : Wf64 D)
    {A : Option Addr} {bs : List Int} {cap : Nat} (hb : ByteRow w (fun k => k < w.heap.size) A bs) (hbl : bs.length ≤ 9223372036854775807) (h8 : Bytes8 bs) :
    Calls Try.prog 5 #[.agg #[.int .i64 G, .int .i64 D, .slice B xs.length cap2], .slice A bs.length cap] w (Fine w true) := by
  have HG := Lib.hid hG
  have HD := Lib.hid hD
  have HXW := Lib.hid hxw
  have H8 := Lib.hid h8
  clear hG hD hxw h8
  have cb0 := Blk.new w 25 #[.int .i64 G, .int .i64 D, .slice B xs.length cap2]
  have hf0 : Fr (fun _ => False) w (w.alloc (Obj.cells #[.int .i64 G, .int .i64 D, .slice B xs.length cap2] 25)) := (Fr.refl _ _).alloc _
  go_enter Try.func5, Try.ntmps5
  go_wp2_with fail
  refine (law05_head _).mono ?_
  rintro e w1 ⟨rfl, hf01⟩
  have cb1 := cb0.fr hf01 id
  have hf1 := hf0.then_ hf01
  have hr1 := hr.fr hf1 (fun _ _ => id)
  have hb1 := hb.fr hf1 (fun _ _ => id)
  have hsz1 := hf1.size
  have c0 := cb1.cell 0
  have c1 := cb1.cell 1
  have c2 := cb1.cell 2
  clear cb0 hf0 hf01 hr hb
  by_cases hx3 : xs.length ≤ 3000
  · have hx3' : ¬ (3000 : Int) < (xs.length : Int) := by omega
    by_cases hb5 : bs.length ≤ 50000
    · have hb5' : ¬ (50000 : Int) < (bs.length : Int) := by omega
      have HX3 := Lib.hid hx3
      have HB5 := Lib.hid hb5
      clear hx3 hb5 hxl hbl
      go_upto_region 4 with fail
      clear hx3' hb5'
      go_cut [6] from 27 to 44 (fun m wx => m = .bool (decide (0 ≤ G ∧ G < 2147483648 ∧ 0 ≤ D ∧ D < 2147483648)) ∧ wx = w1)
      case first =>
        by_cases g1 : 0 ≤ G
        · by_cases g2 : G < 2147483648
          · by_cases g3 : 0 ≤ D
            · by_cases g4 : D < 2147483648
              · go_wp2_with fail
                go_meet
                case rel => exact ⟨congrArg Value.bool (decide_eq_true (p := 0 ≤ G ∧ G < 2147483648 ∧ 0 ≤ D ∧ D < 2147483648) (by omega)).symm, rfl⟩
              · go_wp2_with fail
                go_meet
                case rel => exact ⟨congrArg Value.bool (decide_eq_false (p := 0 ≤ G ∧ G < 2147483648 ∧ 0 ≤ D ∧ D < 2147483648) (by omega)).symm, rfl⟩
            · go_wp2_with fail
              go_meet
              case rel => exact ⟨congrArg Value.bool (decide_eq_false (p := 0 ≤ G ∧ G < 2147483648 ∧ 0 ≤ D ∧ D < 2147483648) (by omega)).symm, rfl⟩
          · go_wp2_with fail
            go_meet
            case rel => exact ⟨congrArg Value.bool (decide_eq_false (p := 0 ≤ G ∧ G < 2147483648 ∧ 0 ≤ D ∧ D < 2147483648) (by omega)).symm, rfl⟩
        · go_wp2_with fail
          go_meet
          case rel => exact ⟨congrArg Value.bool (decide_eq_false (p := 0 ≤ G ∧ G < 2147483648 ∧ 0 ≤ D ∧ D < 2147483648) (by omega)).symm, rfl⟩
      case rest =>
        obtain ⟨rfl, rfl⟩ := hcut
        obtain ⟨m0, hm0⟩ : ∃ m0 : Bool, decide (0 ≤ G ∧ G < 2147483648 ∧ 0 ≤ D ∧ D < 2147483648) = m0 := ⟨_, rfl⟩
        rw [hm0]
        have HM0 := Lib.hid hm0
        clear hm0
        go_wp2_with fail
        go_loopw [6, 7] (fun m i wr => ∃ (k : Nat) (mk : Bool), k ≤ xs.length ∧ i = .int .i64 k ∧ m = .bool mk ∧ Hid (mk = (m0 && (xs.take k).all okY)) ∧ wc = wr) (fun _ i _ => xs.length - (intOf i).toNat)
        case atStart => exact ⟨0, m0, by omega, rfl, rfl, (by show _ = _; simp), rfl⟩
        case round =>
          obtain ⟨k, mk, hk, rfl, rfl, hmk, rfl⟩ := hrel
          have hkb : (k : Int) ≤ 3000 := by have := HX3.out; omega
          by_cases hlt : k < xs.length
          · obtain ⟨y, hy⟩ : ∃ y, xs[k]? = some y := ⟨xs[k], List.getElem?_eq_getElem hlt⟩
            obtain ⟨b, o, rfl, _, hc⟩ := hr1 k y hy
            have HY := Lib.hid hy
            clear hr1 hy hb1
            cases mk with
            | false =>
              go_wp2_with fail
              go_roundw
              case rel => exact ⟨k + 1, false, by omega, by go_num, rfl, (by show _ = _; rw [all_take HY.out, ← Bool.and_assoc, ← hmk.out]; rfl), by trivial⟩
              case measure => simp [intOf]; omega
            | true =>
              by_cases y1 : 0 ≤ y
              · by_cases y2 : y < 2147483648
                · have HYY : Hid (okY y = true) := okY_true y1 y2
                  go_wp2_with fail
                  go_roundw
                  case rel => exact ⟨k + 1, true, by omega, by go_num, rfl, (by show _ = _; rw [all_take HY.out, ← Bool.and_assoc, ← hmk.out, HYY.out]; rfl), by trivial⟩
                  case measure => simp [intOf]; omega
                · have HYY : Hid (okY y = false) := okY_false (fun h => y2 h.2)
                  go_wp2_with fail
                  go_roundw
                  case rel => exact ⟨k + 1, false, by omega, by go_num, rfl, (by show _ = _; rw [all_take HY.out, ← Bool.and_assoc, ← hmk.out, HYY.out]; rfl), by trivial⟩
                  case measure => simp [intOf]; omega
              · have HYY : Hid (okY y = false) := okY_false (fun h => y1 h.1)
                go_wp2_with fail
                go_roundw
                case rel => exact ⟨k + 1, false, by omega, by go_num, rfl, (by show _ = _; rw [all_take HY.out, ← Bool.and_assoc, ← hmk.out, HYY.out]; rfl), by trivial⟩
                case measure => simp [intOf]; omega
          · obtain rfl : k = xs.length := by omega
            have HMAY : Hid (mk = true ↔ May G D xs) := by
              have h1 := hmk.out
              rw [List.take_length, ← HM0.out] at h1
              show _ ↔ _
              rw [h1, Bool.and_eq_true, decide_eq_true_iff, List.all_eq_true]
              unfold May okY
              simp only [decide_eq_true_eq]
            clear hmk HM0
            go_wp2_with fail
            refine (cert_Put hr1 hsz1 (by have := HX3.out; omega) G D).mono ?_
            rintro e w2 ⟨v2, rfl, hv2, hf12⟩
            have hf2 := hf1.then_ hf12
            by_cases hl : xs.length ≤ 1024
            · have hEn : errO (putErr xs) = .nilIface := by rw [putErr, if_pos hl]; rfl
              have hPb : putB G D xs = num8 G ++ num8 D ++ numsB xs := by rw [putB, if_pos hl]
              obtain ⟨hiff, hgG, hgD, hgX⟩ := put_get hl HG.out HD.out HXW.out
              have h8P : Bytes8 (num8 G ++ num8 D ++ numsB xs) := put_bytes G D xs
              have hlenP : (num8 G ++ num8 D ++ numsB xs).length ≤ 1000000 := by rw [List.length_append, List.length_append, num8_length, num8_length, numsB, List.length_append, count4_length, flat_num8]; omega
              rw [hEn]
              rw [hPb] at hv2
              generalize num8 G ++ num8 D ++ numsB xs = P at hv2 hiff hgG hgD hgX h8P hlenP
              obtain ⟨A2, cap3, rfl, _, hr2⟩ := hv2.form
              have hr1' := hr1.fr hf12 (fun _ _ => id)
              have cb2 := cb1.fr hf12 id
              have HGG := Lib.hid hgG
              have HGD := Lib.hid hgD
              have HGX := Lib.hid hgX
              clear hEn hPb hl hgG hgD hgX
              go_wp2_with fail
              refine (cert_Get hr2 hlenP h8P).mono ?_
              rintro e w3 ⟨hg3, hf23⟩
              have hf3 := hf2.then_ hf23
              have hf13 := hf12.then_ hf23
              have hr3' := hr1'.fr hf23 (fun _ _ => id)
              have cb3 := cb2.fr hf23 id
              clear hr2 h8P hlenP hv2 cb2 hr1'
              rcases hg3 with ⟨hgo, A3, cap3, rfl, hr3⟩ | ⟨hgo, l3, c3, rfl⟩
              · have hmk : mk = true := HMAY.out.2 (hiff.1 hgo)
                subst hmk
                rw [HGX.out] at hr3
                rw [HGG.out, HGD.out, HGX.out]
                have hfX4 : Fr (fun _ => False) w3 (w3.alloc (Obj.cells #[.int .i64 G, .int .i64 D, .slice A3 xs.length cap3] 25)) := (Fr.refl _ _).alloc _
                have cb4 := cb3.fr hfX4 id
                have q0 := cb3.cell 0
                have q1 := cb3.cell 1
                have q2 := cb3.cell 2
                have hlt3 := cb3.lt
                clear hiff hgo c0 c1 c2
                go_wp2_with (go_at_call 17; refine (ref05_Same (hr3.fr hfX4 (fun _ _ => id)) (hr3'.fr hfX4 (fun _ _ => id)) (by have := HX3.out; omega) rfl G D).mono ?_; rintro e w5 ⟨rfl, hf45⟩)
                have hfX := (hf13.then_ hfX4).then_ hf45
                have hfwX := (hf3.then_ hfX4).then_ hf45
                clear q0 q1 q2 hfX4 hf45 hr3 hr3' cb3 cb4 hf13 hf23
                refine (cert_Get (hb1.fr hfX (fun _ _ => id)) (by have := HB5.out; omega) H8.out).mono ?_
                rintro e wA ⟨hgA, hfA⟩
                have hfXA := hfX.then_ hfA
                have hfwA := hfwX.then_ hfA
                rcases hgA with ⟨hgo, AA, capA, rfl, hrA⟩ | ⟨_, lA, cA, rfl⟩
                · obtain ⟨hback, hlen⟩ := get_put H8.out hgo
                  have hEn : errO (putErr (numsX bs 16)) = .nilIface := by rw [putErr, if_pos hlen]; rfl
                  have hPb : putB (numX bs 0) (numX bs 8) (numsX bs 16) = bs := by rw [putB, if_pos hlen]; exact hback
                  generalize numX bs 0 = G2 at hPb ⊢
                  generalize numX bs 8 = D2 at hPb ⊢
                  generalize numsX bs 16 = xs2 at hPb hEn hrA hlen ⊢
                  have hfAB : Fr (fun _ => False) wA (wA.alloc (Obj.cells #[.int .i64 G2, .int .i64 D2, .slice AA xs2.length capA] 25)) := (Fr.refl _ _).alloc _
                  have HPB := Lib.hid hPb
                  have HEN := Lib.hid hEn
                  have HLE := Lib.hid hlen
                  clear hback hlen hgo hPb hEn
                  go_wp2_with fail
                  refine (cert_Put (hrA.fr hfAB (fun _ _ => id)) hfAB.size (by have := HLE.out; omega) G2 D2).mono ?_
                  rintro e wB ⟨vB, rfl, hvB, hfB⟩
                  rw [HEN.out]
                  rw [HPB.out] at hvB
                  obtain ⟨AB, capB, rfl, _, hrB⟩ := hvB.form
                  have hbB := (hb1.fr hfXA (fun _ _ => id)).fr (hfAB.then_ hfB) (fun _ _ => id)
                  have hcv1 := conv_bytes (w := wB) (n := bs.length) (cap := capB) hrB rfl
                  have hcv2 := conv_bytes (w := wB) (n := bs.length) (cap := cap) hbB rfl
                  have hfin := (hfwA.then_ hfAB).then_ hfB
                  clear hfAB hfB hrA hvB hrB hbB hb1 hr1
                  go_wp2_with fail
                  go_ret
                  exact ⟨rfl, hfin⟩
                · obtain ⟨tA, uA, huA⟩ := errV_iface lA cA
                  rw [huA]
                  clear huA
                  have hSame : ∀ w', Calls Try.prog 17 #[.agg #[.int .i64 0, .int .i64 0, .slice none 0 0], .agg #[.int .i64 0, .int .i64 0, .slice none 0 0]] w' (Yes w') := fun w' => ref05_Same (B := 0) (B' := 0) (xs := []) (fun k x hx => by simp at hx) (fun k x hx => by simp at hx) (by simp) rfl 0 0
                  have hfin := hfwA.alloc (Obj.cells #[.int .i64 0, .int .i64 0, .slice none 0 0] 25)
                  clear hb1 hr1
                  go_wp2_with (go_at_call 17; refine (hSame _).mono ?_; rintro e wB ⟨rfl, hfB⟩)
                  go_ret
                  exact ⟨rfl, hfin.then_ hfB⟩
              · have hmk : mk = false := by
                  cases mk with
                  | false => rfl
                  | true => exact absurd (hiff.2 (HMAY.out.1 rfl)) hgo
                subst hmk
                obtain ⟨t3, u3, hu3⟩ := errV_iface l3 c3
                rw [hu3]
                have hfX := hf13.alloc (Obj.cells #[.int .i64 0, .int .i64 0, .slice none 0 0] 25)
                have hfwX := hf3.alloc (Obj.cells #[.int .i64 0, .int .i64 0, .slice none 0 0] 25)
                clear hu3 hiff hgo hf13 hf23 hr3' cb3 c0 c1 c2
                go_wp2_with fail
                refine (cert_Get (hb1.fr hfX (fun _ _ => id)) (by have := HB5.out; omega) H8.out).mono ?_
                rintro e wA ⟨hgA, hfA⟩
                have hfXA := hfX.then_ hfA
                have hfwA := hfwX.then_ hfA
                rcases hgA with ⟨hgo, AA, capA, rfl, hrA⟩ | ⟨_, lA, cA, rfl⟩
                · obtain ⟨hback, hlen⟩ := get_put H8.out hgo
                  have hEn : errO (putErr (numsX bs 16)) = .nilIface := by rw [putErr, if_pos hlen]; rfl
                  have hPb : putB (numX bs 0) (numX bs 8) (numsX bs 16) = bs := by rw [putB, if_pos hlen]; exact hback
                  generalize numX bs 0 = G2 at hPb ⊢
                  generalize numX bs 8 = D2 at hPb ⊢
                  generalize numsX bs 16 = xs2 at hPb hEn hrA hlen ⊢
                  have hfAB : Fr (fun _ => False) wA (wA.alloc (Obj.cells #[.int .i64 G2, .int .i64 D2, .slice AA xs2.length capA] 25)) := (Fr.refl _ _).alloc _
                  have HPB := Lib.hid hPb
                  have HEN := Lib.hid hEn
                  have HLE := Lib.hid hlen
                  clear hback hlen hgo hPb hEn
                  go_wp2_with fail
                  refine (cert_Put (hrA.fr hfAB (fun _ _ => id)) hfAB.size (by have := HLE.out; omega) G2 D2).mono ?_
                  rintro e wB ⟨vB, rfl, hvB, hfB⟩
                  rw [HEN.out]
                  rw [HPB.out] at hvB
                  obtain ⟨AB, capB, rfl, _, hrB⟩ := hvB.form
                  have hbB := (hb1.fr hfXA (fun _ _ => id)).fr (hfAB.then_ hfB) (fun _ _ => id)
                  have hcv1 := conv_bytes (w := wB) (n := bs.length) (cap := capB) hrB rfl
                  have hcv2 := conv_bytes (w := wB) (n := bs.length) (cap := cap) hbB rfl
                  have hfin := (hfwA.then_ hfAB).then_ hfB
                  clear hfAB hfB hrA hvB hrB hbB hb1 hr1
                  go_wp2_with fail
                  go_ret
                  exact ⟨rfl, hfin⟩
                · obtain ⟨tA, uA, huA⟩ := errV_iface lA cA
                  rw [huA]
                  clear huA
                  have hSame : ∀ w', Calls Try.prog 17 #[.agg #[.int .i64 0, .int .i64 0, .slice none 0 0], .agg #[.int .i64 0, .int .i64 0, .slice none 0 0]] w' (Yes w') := fun w' => ref05_Same (B := 0) (B' := 0) (xs := []) (fun k x hx => by simp at hx) (fun k x hx => by simp at hx) (by simp) rfl 0 0
                  have hfin := hfwA.alloc (Obj.cells #[.int .i64 0, .int .i64 0, .slice none 0 0] 25)
                  clear hb1 hr1
                  go_wp2_with (go_at_call 17; refine (hSame _).mono ?_; rintro e wB ⟨rfl, hfB⟩)
                  go_ret
                  exact ⟨rfl, hfin.then_ hfB⟩
            · have hEn : errO (putErr xs) = errV [((⟨#[99, 101, 114, 116]⟩ : ByteArray), 0), ((⟨#[119, 114, 105, 116, 101]⟩ : ByteArray), 16)] 2 := by rw [putErr, if_neg hl]; rfl
              obtain ⟨t3, u3, hu3⟩ := errV_iface [((⟨#[99, 101, 114, 116]⟩ : ByteArray), 0), ((⟨#[119, 114, 105, 116, 101]⟩ : ByteArray), 16)] 2
              rw [hEn, hu3]
              have hfX := hf12
              have hfwX := hf2
              clear hEn hu3 hl hv2 c0 c1 c2
              go_wp2_with fail
              refine (cert_Get (hb1.fr hfX (fun _ _ => id)) (by have := HB5.out; omega) H8.out).mono ?_
              rintro e wA ⟨hgA, hfA⟩
              have hfXA := hfX.then_ hfA
              have hfwA := hfwX.then_ hfA
              rcases hgA with ⟨hgo, AA, capA, rfl, hrA⟩ | ⟨_, lA, cA, rfl⟩
              · obtain ⟨hback, hlen⟩ := get_put H8.out hgo
                have hEn : errO (putErr (numsX bs 16)) = .nilIface := by rw [putErr, if_pos hlen]; rfl
                have hPb : putB (numX bs 0) (numX bs 8) (numsX bs 16) = bs := by rw [putB, if_pos hlen]; exact hback
                generalize numX bs 0 = G2 at hPb ⊢
                generalize numX bs 8 = D2 at hPb ⊢
                generalize numsX bs 16 = xs2 at hPb hEn hrA hlen ⊢
                have hfAB : Fr (fun _ => False) wA (wA.alloc (Obj.cells #[.int .i64 G2, .int .i64 D2, .slice AA xs2.length capA] 25)) := (Fr.refl _ _).alloc _
                have HPB := Lib.hid hPb
                have HEN := Lib.hid hEn
                have HLE := Lib.hid hlen
                clear hback hlen hgo hPb hEn
                go_wp2_with fail
                refine (cert_Put (hrA.fr hfAB (fun _ _ => id)) hfAB.size (by have := HLE.out; omega) G2 D2).mono ?_
                rintro e wB ⟨vB, rfl, hvB, hfB⟩
                rw [HEN.out]
                rw [HPB.out] at hvB
                obtain ⟨AB, capB, rfl, _, hrB⟩ := hvB.form
                have hbB := (hb1.fr hfXA (fun _ _ => id)).fr (hfAB.then_ hfB) (fun _ _ => id)
                have hcv1 := conv_bytes (w := wB) (n := bs.length) (cap := capB) hrB rfl
                have hcv2 := conv_bytes (w := wB) (n := bs.length) (cap := cap) hbB rfl
                have hfin := (hfwA.then_ hfAB).then_ hfB
                clear hfAB hfB hrA hvB hrB hbB hb1 hr1
                go_wp2_with fail
                go_ret
                exact ⟨rfl, hfin⟩
              · obtain ⟨tA, uA, huA⟩ := errV_iface lA cA
                rw [huA]
                clear huA
                have hSame : ∀ w', Calls Try.prog 17 #[.agg #[.int .i64 0, .int .i64 0, .slice none 0 0], .agg #[.int .i64 0, .int .i64 0, .slice none 0 0]] w' (Yes w') := fun w' => ref05_Same (B := 0) (B' := 0) (xs := []) (fun k x hx => by simp at hx) (fun k x hx => by simp at hx) (by simp) rfl 0 0
                have hfin := hfwA.alloc (Obj.cells #[.int .i64 0, .int .i64 0, .slice none 0 0] 25)
                clear hb1 hr1
                go_wp2_with (go_at_call 17; refine (hSame _).mono ?_; rintro e wB ⟨rfl, hfB⟩)
                go_ret
                exact ⟨rfl, hfin.then_ hfB⟩
    · have hb5' : (50000 : Int) < (bs.length : Int) := by omega
      clear hr1 hb1 HXW H8
      go_wp2
      go_ret
      exact ⟨rfl, hf1⟩
  · have hx3' : (3000 : Int) < (xs.length : Int) := by omega
    clear hr1 hb1 HXW H8
    go_wp2
    go_ret
    exact ⟨rfl, hf1⟩
end Go.Proofs.Ytjnmfaaegbkmhaa
