/- cohortlaw02.WireKept: the walk. -/
import Derived.Test.YtkbcobbnjiekfaaDoorTold02
import Derived.Test.YtkbcobbnjiekfaaDoorText01
import Derived.Test.YtkbcobbnjiekfaaDoorRdSum
import Derived.Test.YtkbcobbnjiekfaaDoorWall
import Derived.Test.YtkbcobbnjiekfaaDoorSame02
import Derived.Deep.RegionHeld3
namespace Go.Proofs.YtkbcobbnjiekfaaDoor
open Go Go.RowKit
theorem ByteRow.alive {w : World} {F : Nat → Prop} {A : Option Addr} {xs : List Int} (h : ByteRow w F A xs) : ByteRow w (fun k => k < w.heap.size) A xs := fun k x hx => by
  obtain ⟨b, o, e, _, hc⟩ := h k x hx
  exact ⟨b, o, e, World.block_lt_of_cell? w _ hc, hc⟩
theorem NumRow.alive {w : World} {F : Nat → Prop} {A : Option Addr} {xs : List Int} (h : NumRow w F A xs) : NumRow w (fun k => k < w.heap.size) A xs := fun k x hx => by
  obtain ⟨b, o, e, _, hc⟩ := h k x hx
  exact ⟨b, o, e, World.block_lt_of_cell? w _ hc, hc⟩
theorem TextRow.alive {w : World} {F : Nat → Prop} {A : Option Addr} {l : List (List Int)} (h : TextRow w F A l) : TextRow w (fun k => k < w.heap.size) A l := fun k x hx => by
  obtain ⟨b, o, A', cap', e, _, hc, hr⟩ := h k x hx
  exact ⟨b, o, A', cap', e, World.block_lt_of_cell? w _ hc, hc, hr.alive⟩
theorem byteRow_take {w : World} {F : Nat → Prop} {A : Option Addr} {xs : List Int} (h : ByteRow w F A xs) (n : Nat) : ByteRow w F A (xs.take n) := fun k x hx => h k x (by
  rw [List.getElem?_take] at hx
  split at hx
  · exact hx
  · cases hx)
/-- What is read of a number, texts and numbers lies there so. -/
theorem kept_all {bs : List Int} (h8 : Bytes8 bs) (h1 : numC bs 0 = 0) (h2 : listC bs 8 = 0) (h3 : numsC bs (listP bs 8) = 0) (hp : numsP bs (listP bs 8) ≤ bs.length) :
    ∃ ys, num8 (numX bs 0) ++ listB (listX bs 8) ++ numsB (numsX bs (listP bs 8)) = ys ∧ bs.take ys.length = ys ∧ numsP bs (listP bs 8) = ys.length ∧ (listX bs 8).length ≤ 1024 ∧ (∀ s ∈ listX bs 8, s.length ≤ 65536) ∧ (numsX bs (listP bs 8)).length ≤ 1024 := by
  have a1 := num_kept h8 h1
  obtain ⟨a2, b2, c2⟩ := list_kept h8 h2
  obtain ⟨a3, b3⟩ := nums_kept h8 h3
  rw [Nat.zero_add] at a1
  rw [List.drop_zero, a2, a3, ← List.append_assoc, ← List.append_assoc] at a1
  refine ⟨_, rfl, ?_, ?_, b2, c2, b3⟩
  · have e := congrArg (List.take (num8 (numX bs 0) ++ listB (listX bs 8) ++ numsB (numsX bs (listP bs 8))).length) a1
    rw [List.take_left' rfl] at e
    exact e
  · have := congrArg List.length a1
    rw [List.length_append, List.length_drop] at this
    omega
set_option maxRecDepth 100000 in
set_option maxHeartbeats 2000000 in
theorem wireKept_walk {w : World} (hG0 : Laid w) {tb : Nat → Int} (hT0 : Tab w tb) {B : Option Addr} {bs : List Int} {capB : Nat} (hrb : ByteRow w (fun k => k < w.heap.size) B bs) (hcapB : bs.length ≤ capB) (h8 : Bytes8 bs) (hbl : bs.length ≤ 9223372036854775807) :
    Calls Tryd.prog 8 #[.slice B bs.length capB] w (Fine w true) := by
  have hGb : 0 < w.heap.size := World.block_lt_of_cell? w _ hG0
  have H8 := Lib.hid h8
  have HT := Lib.hid hT0
  clear h8 hT0
  go_enter Tryd.func8, Tryd.ntmps8
  go_wp2_with fail
  refine (law02_head hG0).mono ?_
  rintro e w1 ⟨rfl, hf1⟩
  by_cases hb4 : bs.length ≤ 400000
  · have hb4' : ¬ (400000 : Int) < (bs.length : Int) := by omega
    have HB := Lib.hid hb4
    have HLB : Hid (bs.length ≤ 1099511627776) := by show _ ≤ _; omega
    clear hb4 hbl
    go_wp2_with fail
    clear hb4'
    refine (wire_New (hrb.fr hf1 (fun _ _ => id)) HLB.out).mono ?_
    rintro e w2 ⟨g, A5, rfl, hR2, hg2, hA2, hf12⟩
    have hf2 := hf1.then_ hf12
    have hgw : w.heap.size ≤ g := by have := hf1.size; omega
    clear hf1 hf12 hg2 hA2
    go_wp2_with fail
    refine (reader_Num hR2 HLB.out H8.out).mono ?_
    intro e wa ha
    obtain ⟨x1, err1, p1, rfl, hR1, hE1, hfa, _, ha1⟩ := rd_num ha (by decide) hR2.le (numC_in _ _) (OkE.none _)
    have HA1 := Lib.hid ha1
    have hfw1 := hf2.trans hfa (fun j hj e => by omega)
    clear ha ha1 hR2 hfa hf2
    go_wp2_with fail
    refine (reader_List hR1 HLB.out H8.out).mono ?_
    intro e wb hb
    obtain ⟨B2, m2, c2, err2, p2, rfl, hR2, hE2, hfb, _, hb1⟩ := rd_any hb isList_slice (by decide) hR1.le (listC_in _ _) hE1
    have HA2 := Lib.hid hb1
    have hfw2 := hfw1.trans hfb (fun j hj e => by omega)
    clear hb hb1 hR1 hfb hfw1 hE1
    go_wp2_with fail
    refine (reader_Nums hR2 HLB.out H8.out).mono ?_
    intro e wc hc
    obtain ⟨B3, m3, c3, err3, p3, rfl, hR3, hE3, hfc, _, hc1⟩ := rd_any hc isNums_slice (by decide) hR2.le (numsC_in _ _) hE2
    have HA3 := Lib.hid hc1
    have hfw3 := hfw2.trans hfc (fun j hj e => by omega)
    clear hc hc1 hE2 hfw2
    have hgb : g < wb.heap.size := by obtain ⟨_, _, _, _, hb⟩ := hR2.blk; exact hb.lt
    go_wp2_with fail
    have hEnd := reader_End hR3 HLB.out
    unfold Ended at hEnd
    cases err3 with
    | some er =>
      obtain ⟨s, n, h1, h2, h3, h4, h5⟩ := hE3 er rfl
      obtain ⟨l, c⟩ := er
      obtain rfl : l = [(s, (n : Int))] := h1
      dsimp only at h4 h5
      have hq22 : (c != 22) = true := by
        rcases h4 with h | h | h | h <;> simp [h]
      have hq0 : (c != 0) = true := by simpa using h5
      obtain ⟨t, u, hu⟩ := errV_iface [(s, (n : Int))] c
      have HC := Lib.hid (fun (w : World) hG => @fault_Code w hG [(s, (n : Int))] c)
      have HTr := Lib.hid (fun (w : World) hG => @fault_Trail w hG [(s, (n : Int))] (by simp) c)
      have hEnd' : Calls Tryd.prog 14 #[.pointer (some ⟨g, 0, none⟩)] wc fun e w' => e = .returned (errV [(s, (n : Int))] c) ∧ Fr (fun _ => False) wc w' := hEnd
      rw [hu] at hEnd' HC HTr
      clear hEnd hu HA1 HA2 HA3 hR3 hE3 h4 h5 hR2 hfc
      refine hEnd'.mono ?_
      rintro e wd ⟨rfl, hfd⟩
      have hfw4 := hfw3.then_ hfd
      have hG4 := hG0.fr hfw4 id
      clear hEnd' hfd
      go_wp2_with fail
      refine (HC.out _ hG4).mono ?_
      rintro e we ⟨rfl, hfe⟩
      have hfw5 := hfw4.then_ hfe
      have hG5 := hG4.fr hfe id
      go_wp2_with fail
      refine (HC.out _ hG5).mono ?_
      rintro e wf ⟨rfl, hff⟩
      have hfw6 := hfw5.then_ hff
      have hG6 := hG5.fr hff id
      go_wp2_with fail
      refine (HTr.out _ hG6).mono ?_
      rintro e wg ⟨v7, rfl, hown7, hfg⟩
      obtain ⟨A7, cap7, rfl, _, _⟩ := own_form hown7
      go_wp2_with fail
      go_ret
      exact ⟨rfl, hfw6.then_ hfg⟩
    | none =>
      obtain ⟨rfl, k3, kv3, kp3⟩ := HA3.out rfl
      obtain ⟨rfl, k2, kv2, kp2⟩ := HA2.out rfl
      obtain ⟨_, k1, kx1, kp1⟩ := HA1.out rfl
      clear HA1 HA2 HA3 hE3
      subst kp1
      rw [Nat.zero_add] at k2 kv2 kp2
      subst kp2
      obtain ⟨ys, hys, htk, hpl, hll, hls, hlm⟩ := kept_all H8.out k1 k2 k3 (by rw [← kp3]; exact hR3.le)
      rw [hpl] at kp3
      subst kp3
      rw [← kx1] at hys
      obtain ⟨A2, q2, hv2, hr2⟩ := TextRow.of_list kv2
      obtain ⟨A3, q3, hv3, hr3⟩ := NumRow.of_own kv3
      cases hv2
      cases hv3
      have hle : ys.length ≤ bs.length := by have := hR3.le; exact this
      have hr2c := hr2.fr hfc (fun j hj e => by
        rcases hj with hj | ⟨o, hj⟩
        · obtain ⟨_, _, _, _, hb⟩ := hR2.blk
          obtain ⟨vals, hown, _⟩ := kv2
          exact own_ne_blk hown hb (by decide) (e ▸ hj)
        · exact hR2.ne j o hj e)
      generalize listX bs 8 = l at hys hls hll hr2c
      generalize numsX bs (listP bs 8) = m at hys hlm hr3
      clear kv2 kv3 k1 k2 k3 kx1 hpl hr2 hfc hR2 hgb
      have hlg : longs l = false := by
        rw [longs, List.any_eq_false]
        exact fun s hs h => absurd (of_decide_eq_true h) (Nat.not_lt.2 (hls s hs))
      have hlo : listO l = some (listB l) := by rw [listO, if_pos ⟨hll, hlg⟩]
      have hys8 : 8 + (listB l).length + (numsB m).length = ys.length := by
        rw [← hys]
        simp only [List.length_append, num8_length]
      have HYS := Lib.hid hys
      have HTK := Lib.hid htk
      have HLE := Lib.hid hle
      have HL := Lib.hid hll
      have HM := Lib.hid hlm
      have HYL := Lib.hid hys8
      have HLO := Lib.hid hlo
      clear hys htk hle hll hlm hls hys8 hlo hlg
      by_cases hend : ys.length < bs.length
      · obtain ⟨t, u, hu⟩ := errV_iface [((⟨#[101, 110, 100]⟩ : ByteArray), (ys.length : Int))] 22
        have HC := Lib.hid (fun (w : World) hG => @fault_Code w hG [((⟨#[101, 110, 100]⟩ : ByteArray), (ys.length : Int))] 22)
        have HX := Lib.hid (fun (w : World) hT => @fault_TextG w tb hT (⟨#[101, 110, 100]⟩ : ByteArray) ys.length 22 (by decide) (by have := HB.out; omega) (by decide))
        have hen : endE bs ys.length none = some ([((⟨#[101, 110, 100]⟩ : ByteArray), (ys.length : Int))], 22) := by unfold endE; dsimp only; rw [if_pos hend]
        rw [hen] at hEnd
        have hEnd' : Calls Tryd.prog 14 #[.pointer (some ⟨g, 0, none⟩)] wc fun e w' => e = .returned (errV [((⟨#[101, 110, 100]⟩ : ByteArray), (ys.length : Int))] 22) ∧ Fr (fun _ => False) wc w' := hEnd
        rw [hu] at hEnd' HC
        have HX : Hid (∀ (w : World), Tab w tb → Calls Tryd.prog 24 #[.iface t u] w (Texted w (textG tb (⟨#[101, 110, 100]⟩ : ByteArray) ys.length 22))) := fun w hT => by have h := HX.out w hT; rw [← hu]; exact h
        have hlq : ((ys.length : Int) == (bs.length : Int)) = false := by simp; omega
        clear hu hen
        have hbb : ∃ b o, B = some ⟨b, o, none⟩ ∧ b < w.heap.size := by
          obtain ⟨x, hx⟩ : ∃ x, bs[0]? = some x := ⟨bs[0]'(by have := HLE.out; have := HYL.out; omega), List.getElem?_eq_getElem _⟩
          obtain ⟨b, o, e1, e2, _⟩ := hrb 0 x hx
          exact ⟨b, o, e1, e2⟩
        have HEND := Lib.hid hend
        clear hEnd hend
        refine hEnd'.mono ?_
        rintro e wd ⟨rfl, hfd⟩
        have hfw4 := hfw3.then_ hfd
        have hr2d := (hr2c.fr hfd (fun _ _ => id)).alive
        have hr3d := (hr3.fr hfd (fun _ _ => id)).alive
        have hG4 := hG0.fr hfw4 id
        clear hEnd' hfd hr2c hr3 hfw3
        go_wp2_with fail
        refine (HC.out _ hG4).mono ?_
        rintro e we ⟨rfl, hfe⟩
        have hfw5 := hfw4.then_ hfe
        have hG5 := hG4.fr hfe id
        have hr2e := hr2d.fr hfe (fun _ _ => id)
        have hr3e := hr3d.fr hfe (fun _ _ => id)
        have hsz := hfe.size
        clear hfw4 hG4 hr2d hr3d hfe
        have hW0 : WriterAt (we.alloc (Obj.cells #[.slice none 0 0, .nilIface] 28)) we.heap.size we.heap.size (.slice none 0 0) [] none := ⟨Blk.new _ _ _, Own8.nil _ _⟩
        have hf0 : Fr (fun _ => False) we (we.alloc (Obj.cells #[.slice none 0 0, .nilIface] 28)) := (Fr.refl _ _).alloc _
        have hfw6 := hfw5.then_ hf0
        go_wp2_with fail
        refine (writer_Num hW0 hf0.size (by simp) x1).mono ?_
        rintro e w5 ⟨v5, rfl, hW5, hf5, hk5⟩
        have hW5 : WriterAt w5 we.heap.size we.heap.size v5 (num8 x1) none := hW5
        have hn5 : ∀ j, j < we.heap.size → v5.ownBlock ≠ some j := fun j hj e => by have := own_ge hW5.own j e; omega
        have hf05 : Fr (fun _ => False) we w5 := hf0.trans hf5 (fun j hj h => by rcases h with h | h; (· omega); (· cases h))
        have r2 := hr2e.fr hf05 (fun _ _ => id)
        have r3 := hr3e.fr hf05 (fun _ _ => id)
        have HT5 := writer_List (cap := c2) hW5 hf05.size r2 (fun j hj => hn5 j (Nat.lt_of_lt_of_le hj hsz)) (fun j hj => by have := hf05.size; omega) (by have := HL.out; omega) (.inl (by have := HYL.out; have := HLE.out; have := HB.out; rw [num8_length]; omega))
        rw [HLO.out] at HT5
        clear hf5 hk5
        go_wp2_with fail
        refine HT5.mono ?_
        rintro e w6 ⟨v6, rfl, hW6, hf6, hk6⟩
        have hW6 : WriterAt w6 we.heap.size we.heap.size v6 (num8 x1 ++ listB l) none := hW6
        have hn6 : ∀ j, j < we.heap.size → v6.ownBlock ≠ some j := fun j hj e => by have := own_ge hW6.own j e; omega
        have hf06 : Fr (fun _ => False) we w6 := hf05.trans hf6 (fun j hj h => by rcases h with h | h; (· omega); (· exact absurd h (hn5 j hj)))
        have r3 := hr3e.fr hf06 (fun _ _ => id)
        have HT6 := writer_Nums (cap := c3) hW6 hf06.size r3 (fun j hj => hn6 j (Nat.lt_of_lt_of_le hj hsz)) (by have := HM.out; omega) (.inl (by have := HYL.out; have := HLE.out; have := HB.out; rw [List.length_append, num8_length]; omega))
        rw [if_pos HM.out] at HT6
        clear HT5 hf6 hk6 hn5 hW5
        go_wp2_with fail
        refine HT6.mono ?_
        rintro e w7 ⟨v7, rfl, hW7, hf7, hk7⟩
        have hW7 : WriterAt w7 we.heap.size we.heap.size v7 (num8 x1 ++ listB l ++ numsB m) none := hW7
        rw [HYS.out] at hW7
        have hf07 : Fr (fun _ => False) we w7 := hf06.trans hf7 (fun j hj h => by rcases h with h | h; (· omega); (· exact absurd h (hn6 j hj)))
        clear HT6 hf7 hk7 hn6 hW6
        go_wp2_with fail
        refine (writer_Bytes hW7 (by have := HLE.out; have := HB.out; omega)).mono ?_
        rintro e w8 ⟨v8, rfl, hv8, hf8⟩
        have hv8 : Own8 w8 w7.heap.size v8 ys := hv8
        have hf08 := hfw5.then_ (hf07.then_ hf8)
        have hG8 := hG0.fr hf08 id
        obtain ⟨A8, cap8, rfl, _, hr8⟩ := hv8.form
        have hnil : errW none = .nilIface := rfl
        rw [hnil]
        obtain ⟨bB, oB, rfl, hbB⟩ := hbb
        have hcv1 := fun n => conv_bytes (w := w8.drewN n) (n := ys.length) (cap := cap8) (hr8.fr ((Fr.refl (fun _ => False) w8).drewN n) (fun _ _ => id)) rfl
        have hrt : ByteRow w8 (fun k => k < w.heap.size) (some ⟨bB, oB, none⟩) ys := by
          have h := byteRow_take (hrb.fr hf08 (fun _ _ => id)) ys.length
          rw [HTK.out] at h
          exact h
        have hcv2 := fun n => conv_bytes (w := w8.drewN n) (n := ys.length) (cap := capB) (hrt.fr ((Fr.refl (fun _ => False) w8).drewN n) (fun _ _ => id)) rfl
        have hle5 : ys.length ≤ bs.length := HLE.out
        have hle6 : ys.length ≤ capB := by omega
        have hgt5 : decide ((bs.length : Int) < (ys.length : Int)) = false := decide_eq_false (by omega)
        have hgt6 : decide (bs.length < ys.length) = false := decide_eq_false (by omega)
        have hle8 : (0 : Int) ≤ (ys.length : Int) := by omega
        have hle7 : (ys.length : Int) ≤ (capB : Int) := by omega
        clear hnil hW7 hf8 hv8 hr8 hrt hf05 hf06 hf07 hW0
        go_wp2_with fail
        go_big_quiet (fail)
        clear hcv1 hcv2
        go_wp2_with (first | (go_at_call 24; refine (HX.out _ (HT.out.fr (hf08.drewN _))).mono ?_; rintro e w9 ⟨rfl, hf9⟩; have hf09 := (hf08.drewN _).then_ hf9; have hT9 := HT.out.fr (hf09.alloc (Obj.cells #[.string (⟨#[101, 110, 100]⟩ : ByteArray), .int .i64 (ys.length : Int)] 59))) | (go_at_call 34; refine (ref01_Text1 hT9 (by decide) (by have := HLE.out; have := HB.out; omega) (StepRow.new w9 ((⟨#[101, 110, 100]⟩ : ByteArray), (ys.length : Int)))).mono ?_; rintro e w10 ⟨rfl, hf10⟩))
        go_ret
        exact ⟨rfl, (hf09.alloc _).then_ hf10⟩
      · have hen : endE bs ys.length none = none := by unfold endE; dsimp only; rw [if_neg hend]
        rw [hen] at hEnd
        have hEnd' : Calls Tryd.prog 14 #[.pointer (some ⟨g, 0, none⟩)] wc fun e w' => e = .returned .nilIface ∧ Fr (fun _ => False) wc w' := hEnd
        have hlq : ((ys.length : Int) == (bs.length : Int)) = true := by have := HLE.out; simp; omega
        clear hen
        have hbb : ∃ b o, B = some ⟨b, o, none⟩ ∧ b < w.heap.size := by
          obtain ⟨x, hx⟩ : ∃ x, bs[0]? = some x := ⟨bs[0]'(by have := HLE.out; have := HYL.out; omega), List.getElem?_eq_getElem _⟩
          obtain ⟨b, o, e1, e2, _⟩ := hrb 0 x hx
          exact ⟨b, o, e1, e2⟩
        have HEND := Lib.hid hend
        clear hEnd hend
        refine hEnd'.mono ?_
        rintro e wd ⟨rfl, hfd⟩
        have hfw4 := hfw3.then_ hfd
        have hr2d := (hr2c.fr hfd (fun _ _ => id)).alive
        have hr3d := (hr3.fr hfd (fun _ _ => id)).alive
        have hG4 := hG0.fr hfw4 id
        clear hEnd' hfd hr2c hr3 hfw3
        have hsz : wd.heap.size ≤ wd.heap.size := Nat.le_refl _
        have hW0 : WriterAt (wd.alloc (Obj.cells #[.slice none 0 0, .nilIface] 28)) wd.heap.size wd.heap.size (.slice none 0 0) [] none := ⟨Blk.new _ _ _, Own8.nil _ _⟩
        have hf0 : Fr (fun _ => False) wd (wd.alloc (Obj.cells #[.slice none 0 0, .nilIface] 28)) := (Fr.refl _ _).alloc _
        have hfw6 := hfw4.then_ hf0
        go_wp2_with fail
        refine (writer_Num hW0 hf0.size (by simp) x1).mono ?_
        rintro e w5 ⟨v5, rfl, hW5, hf5, hk5⟩
        have hW5 : WriterAt w5 wd.heap.size wd.heap.size v5 (num8 x1) none := hW5
        have hn5 : ∀ j, j < wd.heap.size → v5.ownBlock ≠ some j := fun j hj e => by have := own_ge hW5.own j e; omega
        have hf05 : Fr (fun _ => False) wd w5 := hf0.trans hf5 (fun j hj h => by rcases h with h | h; (· omega); (· cases h))
        have r2 := hr2d.fr hf05 (fun _ _ => id)
        have r3 := hr3d.fr hf05 (fun _ _ => id)
        have HT5 := writer_List (cap := c2) hW5 hf05.size r2 (fun j hj => hn5 j (Nat.lt_of_lt_of_le hj hsz)) (fun j hj => by have := hf05.size; omega) (by have := HL.out; omega) (.inl (by have := HYL.out; have := HLE.out; have := HB.out; rw [num8_length]; omega))
        rw [HLO.out] at HT5
        clear hf5 hk5
        go_wp2_with fail
        refine HT5.mono ?_
        rintro e w6 ⟨v6, rfl, hW6, hf6, hk6⟩
        have hW6 : WriterAt w6 wd.heap.size wd.heap.size v6 (num8 x1 ++ listB l) none := hW6
        have hn6 : ∀ j, j < wd.heap.size → v6.ownBlock ≠ some j := fun j hj e => by have := own_ge hW6.own j e; omega
        have hf06 : Fr (fun _ => False) wd w6 := hf05.trans hf6 (fun j hj h => by rcases h with h | h; (· omega); (· exact absurd h (hn5 j hj)))
        have r3 := hr3d.fr hf06 (fun _ _ => id)
        have HT6 := writer_Nums (cap := c3) hW6 hf06.size r3 (fun j hj => hn6 j (Nat.lt_of_lt_of_le hj hsz)) (by have := HM.out; omega) (.inl (by have := HYL.out; have := HLE.out; have := HB.out; rw [List.length_append, num8_length]; omega))
        rw [if_pos HM.out] at HT6
        clear HT5 hf6 hk6 hn5 hW5
        go_wp2_with fail
        refine HT6.mono ?_
        rintro e w7 ⟨v7, rfl, hW7, hf7, hk7⟩
        have hW7 : WriterAt w7 wd.heap.size wd.heap.size v7 (num8 x1 ++ listB l ++ numsB m) none := hW7
        rw [HYS.out] at hW7
        have hf07 : Fr (fun _ => False) wd w7 := hf06.trans hf7 (fun j hj h => by rcases h with h | h; (· omega); (· exact absurd h (hn6 j hj)))
        clear HT6 hf7 hk7 hn6 hW6
        go_wp2_with fail
        refine (writer_Bytes hW7 (by have := HLE.out; have := HB.out; omega)).mono ?_
        rintro e w8 ⟨v8, rfl, hv8, hf8⟩
        have hv8 : Own8 w8 w7.heap.size v8 ys := hv8
        have hf08 := hfw4.then_ (hf07.then_ hf8)
        have hG8 := hG0.fr hf08 id
        obtain ⟨A8, cap8, rfl, _, hr8⟩ := hv8.form
        have hnil : errW none = .nilIface := rfl
        rw [hnil]
        obtain ⟨bB, oB, rfl, hbB⟩ := hbb
        have hcv1 := fun n => conv_bytes (w := w8.drewN n) (n := ys.length) (cap := cap8) (hr8.fr ((Fr.refl (fun _ => False) w8).drewN n) (fun _ _ => id)) rfl
        have hrt : ByteRow w8 (fun k => k < w.heap.size) (some ⟨bB, oB, none⟩) ys := by
          have h := byteRow_take (hrb.fr hf08 (fun _ _ => id)) ys.length
          rw [HTK.out] at h
          exact h
        have hcv2 := fun n => conv_bytes (w := w8.drewN n) (n := ys.length) (cap := capB) (hrt.fr ((Fr.refl (fun _ => False) w8).drewN n) (fun _ _ => id)) rfl
        have hle5 : ys.length ≤ bs.length := HLE.out
        have hle6 : ys.length ≤ capB := by omega
        have hgt5 : decide ((bs.length : Int) < (ys.length : Int)) = false := decide_eq_false (by omega)
        have hgt6 : decide (bs.length < ys.length) = false := decide_eq_false (by omega)
        have hle8 : (0 : Int) ≤ (ys.length : Int) := by omega
        have hle7 : (ys.length : Int) ≤ (capB : Int) := by omega
        clear hnil hW7 hf8 hv8 hr8 hrt hf05 hf06 hf07 hW0
        go_wp2_with fail
        go_big_quiet (fail)
        go_wp2_with fail
        go_ret
        exact ⟨rfl, hf08.drewN _⟩
  · have hb4' : (400000 : Int) < (bs.length : Int) := by omega
    clear hb4 hbl
    go_wp2
    go_ret
    exact ⟨rfl, hf1⟩
end Go.Proofs.YtkbcobbnjiekfaaDoor
