/- wire: the Reader's Nums and List. -/
import Derived.Test.YtkbcobbnjiekfaaDoorReadI
namespace Go.Proofs.YtkbcobbnjiekfaaDoor
open Go Go.RowKit
def rowRun {α : Type} (X : Nat → α) (C : Nat → Int) (N : Nat → Nat) : Nat → Nat → List α × Nat × Int
  | 0, p => ([], p, 0)
  | n + 1, p => if C p ≠ 0 then ([], p, C p) else (X p :: (rowRun X C N n (N p)).1, (rowRun X C N n (N p)).2)
theorem rowRun_stop {α : Type} {X : Nat → α} {C : Nat → Int} {N : Nat → Nat} {n p : Nat} (h : C p ≠ 0) : (rowRun X C N (n + 1) p).2.2 = C p := by rw [rowRun, if_pos h]
theorem rowRun_on {α : Type} {X : Nat → α} {C : Nat → Int} {N : Nat → Nat} {n p : Nat} (h : C p = 0) : rowRun X C N (n + 1) p = (X p :: (rowRun X C N n (N p)).1, (rowRun X C N n (N p)).2) := by rw [rowRun, if_neg (by simp [h])]
def numsRun (bs : List Int) (n p : Nat) : List Int × Nat × Int := rowRun (numX bs) (numC bs) (fun p => p + 8) n p
def listRun (bs : List Int) (n p : Nat) : List (List Int) × Nat × Int := rowRun (textX bs) (textC bs) (fun p => p + 4 + textN bs p) n p
def numsC (bs : List Int) (pos : Nat) : Int := if countC bs pos 1024 ≠ 0 then countC bs pos 1024 else (numsRun bs (textN bs pos) (pos + 4)).2.2
def numsX (bs : List Int) (pos : Nat) : List Int := (numsRun bs (textN bs pos) (pos + 4)).1
def numsP (bs : List Int) (pos : Nat) : Nat := (numsRun bs (textN bs pos) (pos + 4)).2.1
def listC (bs : List Int) (pos : Nat) : Int := if countC bs pos 1024 ≠ 0 then countC bs pos 1024 else (listRun bs (textN bs pos) (pos + 4)).2.2
def listX (bs : List Int) (pos : Nat) : List (List Int) := (listRun bs (textN bs pos) (pos + 4)).1
def listP (bs : List Int) (pos : Nat) : Nat := (listRun bs (textN bs pos) (pos + 4)).2.1
def num64V (xs : List Int) : List Value := xs.map fun x => .int .i64 x
def IsNums (base : Nat) (xs : List Int) (v : Value) (w : World) : Prop := w.ownsRow base 2 1 v xs.length (num64V xs)
theorem int64_info : (Tryd.prog.info? 2).map (fun i => (i.zero, i.size, i.bytes)) = some (some (.int .i64 0), 1, 8) := by kernel_rfl
theorem NumRow.of_own {w : World} {base : Nat} {e : TypeId} {v : Value} {xs : List Int} (h : w.ownsRow base e 1 v xs.length (num64V xs)) : ∃ A cap, v = .slice A xs.length cap ∧ NumRow w (fun k => v.ownBlock = some k) A xs := by
  obtain ⟨A, cap, hv, _, hat⟩ := own_form h
  refine ⟨A, cap, hv, ?_⟩
  intro k x hx
  obtain ⟨b, hb, _, hc⟩ := hat k (.int .i64 x) (by simp [num64V, hx])
  exact ⟨b, 0, hb, by rw [hv, hb]; rfl, by rw [Nat.zero_add]; exact hc⟩
/-- The middle of the reading of a row. -/
def Mid {α : Type} (run : Nat → Nat → List α × Nat × Int) (T p0 m p : Nat) (xs : List α) (c : Int) : Prop :=
  (c = 0 → run T p0 = (xs ++ (run m p).1, (run m p).2)) ∧ (c ≠ 0 → (run T p0).2.2 = c)
set_option maxRecDepth 100000 in
set_option maxHeartbeats 400000 in
theorem row_int64_1 {w : World} {g : Nat} {A : Option Addr} {bs : List Int} {pos : Nat} (h : ReaderAt w g A bs pos none) (hl : bs.length ≤ 1099511627776) (h8 : Bytes8 bs) (b1 b2 : Nat) (hx : w.cell? ⟨b1, 0, none⟩ = some (.pointer (some ⟨g, 0, none⟩))) (hy : w.cell? ⟨b2, 0, none⟩ = some (.func (.func 41) #[.pointer (some ⟨g, 0, none⟩)] #[])) (hg1 : b1 ≠ g) (hg2 : b2 ≠ g) :
    Calls Tryd.prog 75 #[.pointer (some ⟨b1, 0, none⟩), .pointer (some ⟨b2, 0, none⟩)] w (ReadOut w g A bs (IsNums w.heap.size (numsX bs pos)) (fun _ => True) (numsP bs pos) (numsC bs pos)) := by
  have hg0 : g < w.heap.size := by obtain ⟨_, _, _, _, hb⟩ := h.blk; exact hb.lt
  have hA0 := h.alt
  go_enter Tryd.func75, Tryd.ntmps75
  go_wp2_with fail
  refine (reader_count h hl 1024).mono ?_
  rintro e w1 ⟨v, p, rfl, hv, hz, h1, hf1⟩
  by_cases hc : countC bs pos 1024 = 0
  · obtain ⟨rfl, rfl⟩ := hv hc
    obtain ⟨h4, hm⟩ := countC_ok hc
    have hb4 := spell4_bound (h8.part pos 4) (by rw [List.length_take, List.length_drop]; omega)
    have hn : spell64 ((bs.drop pos).take 4) = (textN bs pos : Int) := by unfold textN; omega
    have hT : textN bs pos ≤ 1024 := by omega
    rw [hc, hn]
    have HC : Hid (numsC bs pos = (numsRun bs (textN bs pos) (pos + 4)).2.2) := by show _ = _; rw [numsC, if_neg (by simp [hc])]
    have HX : Hid (numsX bs pos = (numsRun bs (textN bs pos) (pos + 4)).1) := rfl
    have HP : Hid (numsP bs pos = (numsRun bs (textN bs pos) (pos + 4)).2.1) := rfl
    generalize textN bs pos = T at hT HC HX HP ⊢
    clear hn hb4 hm hc hv hz h4
    go_wp2_with fail
    go_loopw [4, 5, 6] (fun n e out wr => ∃ (m p : Nat) (xs : List Int) (c : Int), n = .int .i64 m ∧ e = .int .i64 c ∧ xs.length + m = T ∧ ReaderAt wr g A bs p none ∧ Fr (fun k => k = g) w wr ∧ IsNums w.heap.size xs out wr ∧ Mid (numsRun bs) T (pos + 4) m p xs c) (fun n _ _ _ => (intOf n).toNat)
    case atStart => exact ⟨T, pos + 4, [], 0, rfl, rfl, by simp, h1, hf1, World.ownsRow_nil _ _ _ _, fun _ => by simp, fun h => absurd rfl h⟩
    case round =>
      obtain ⟨m, p, xs, c, rfl, rfl, hlen, hr, hf, hown, hmid⟩ := hrel
      have HM := Lib.hid hmid
      clear hmid
      have hx1 := hf.cell_some hx hg1
      have hy1 := hf.cell_some hy hg2
      cases m with
      | zero =>
        clear hx hy hx1 hy1
        by_cases hc0 : c = 0
        · subst hc0
          have e0 := HM.out.1 rfl
          have eC : Hid (numsC bs pos = 0) := by show _ = _; rw [HC.out, e0]; rfl
          have eX : Hid (numsX bs pos = xs) := by show _ = _; rw [HX.out, e0]; exact List.append_nil _
          have eP : Hid (numsP bs pos = p) := by show _ = _; rw [HP.out, e0]; rfl
          clear e0
          go_wp2
          refine bodyPost_ret (v := .tuple #[u6, .int .i64 0]) (by simp [results, Tryd.results75, go_sem]) rfl ?_
          exact ⟨u6, p, by rw [eC.out], fun _ => ⟨by rw [eX.out]; exact hown, eP.out.symm⟩, fun _ => trivial, hr, hf⟩
        · have HN := Lib.hid hc0
          have hcb : (c == 0) = false := by simpa using hc0
          have eC : Hid (numsC bs pos = c) := by show _ = _; rw [HC.out]; exact HM.out.2 hc0
          clear hc0
          go_wp2
          refine bodyPost_ret (v := .tuple #[u6, .int .i64 c]) (by simp [results, Tryd.results75, go_sem]) rfl ?_
          exact ⟨u6, p, by rw [eC.out], fun h => absurd (eC.out ▸ h) HN.out, fun _ => trivial, hr, hf⟩
      | succ m =>
        have hm0 : ((m + 1 : Nat) : Int) > 0 := by omega
        by_cases hc0 : c = 0
        · subst hc0
          have e0 := HM.out.1 rfl
          by_cases hp : numC bs p = 0
          · have HM2 : Hid (Mid (numsRun bs) T (pos + 4) m (p + 8) (xs ++ [numX bs p]) 0) := by
              refine ⟨fun _ => ?_, fun h => absurd rfl h⟩
              rw [e0, numsRun, rowRun_on hp]
              simp only [List.append_assoc, List.singleton_append]
              rfl
            have HPP := Lib.hid hp
            clear e0 hp
            have hv0 : Hid (spell64 ((bs.drop p).take 8) = numX bs p) := rfl
            go_wp2_with (first
              | (go_at_call 41; refine (reader_number hr hl).mono ?_; rintro e w2 ⟨v2, p2, rfl, hv2, hz2, h2, hf2⟩; obtain ⟨e2, rfl⟩ := hv2 HPP.out; obtain rfl : v2 = .int .i64 (numX bs p) := e2; rw [show (if bs.length - p < 8 then (21 : Int) else 0) = 0 from HPP.out]; clear hv2 hz2; have hown2 := own_fr hown hf2 (fun k hk e => by have := own_ge hown k hk; omega))
              | (at_builtin; refine wpList_append1 _ rfl _ _ _ rfl w.heap.size 2 (.int .i64 0) 8 Tryd.underlying42 int64_info rfl u6 xs.length (num64V xs) rfl (hown2.alloc _) w2.heap.size (.int .i64 (numX bs p)) rfl ?_ rfl (by omega) (by omega) ?_ ?_; (· simp); (· have := hf.size; have := hf2.size; simp; omega); intro g3 c3 w3 hown3 hf3))
            go_roundw
            case rel =>
              have hf12 := hf.trans hf2 (fun _ _ h => h)
              have hfb : Fr (fun k => u6.ownBlock = some k) w2 w3 := ((Fr.refl (fun k => u6.ownBlock = some k) w2).alloc _).trans hf3 (fun _ _ h => h)
              have hf13 := hf12.own hown hfb (Nat.le_refl _)
              exact ⟨m, p + 8, xs ++ [numX bs p], 0, by go_num, rfl, by simp; omega, h2.fr hfb (fun e => by have := own_ge hown _ e; omega) (fun k o e1 e2 => by have := own_ge hown _ e2; have := hA0 k o e1; omega), hf13, by simpa [IsNums, num64V] using hown3, HM2.out⟩
            case measure => simp [intOf]
          · have HM2 : ∀ q, Hid (Mid (numsRun bs) T (pos + 4) m q (xs ++ [0]) (numC bs p)) := by
              intro q
              refine ⟨fun h => absurd h hp, fun _ => ?_⟩
              rw [e0, numsRun]
              exact rowRun_stop hp
            have HPP := Lib.hid hp
            clear e0 hp
            go_wp2_with (first
              | (go_at_call 41; refine (reader_number hr hl).mono ?_; rintro e w2 ⟨v2, p2, rfl, hv2, hz2, h2, hf2⟩; obtain rfl := hz2 HPP.out; rw [show (if bs.length - p < 8 then (21 : Int) else 0) = numC bs p from rfl]; clear hv2 hz2; have hown2 := own_fr hown hf2 (fun k hk e => by have := own_ge hown k hk; omega))
              | (at_builtin; refine wpList_append1 _ rfl _ _ _ rfl w.heap.size 2 (.int .i64 0) 8 Tryd.underlying42 int64_info rfl u6 xs.length (num64V xs) rfl (hown2.alloc _) w2.heap.size (.int .i64 (0)) rfl ?_ rfl (by omega) (by omega) ?_ ?_; (· simp); (· have := hf.size; have := hf2.size; simp; omega); intro g3 c3 w3 hown3 hf3))
            go_roundw
            case rel =>
              have hf12 := hf.trans hf2 (fun _ _ h => h)
              have hfb : Fr (fun k => u6.ownBlock = some k) w2 w3 := ((Fr.refl (fun k => u6.ownBlock = some k) w2).alloc _).trans hf3 (fun _ _ h => h)
              have hf13 := hf12.own hown hfb (Nat.le_refl _)
              exact ⟨m, p2, xs ++ [0], numC bs p, by go_num, rfl, by simp; omega, h2.fr hfb (fun e => by have := own_ge hown _ e; omega) (fun k o e1 e2 => by have := own_ge hown _ e2; have := hA0 k o e1; omega), hf13, by simpa [IsNums, num64V] using hown3, (HM2 p2).out⟩
            case measure => simp [intOf]
        · have HN := Lib.hid hc0
          have hcb : (c == 0) = false := by simpa using hc0
          have eC : Hid (numsC bs pos = c) := by show _ = _; rw [HC.out]; exact HM.out.2 hc0
          clear hc0 hx hy hx1 hy1
          go_wp2
          refine bodyPost_ret (v := .tuple #[u6, .int .i64 c]) (by simp [results, Tryd.results75, go_sem]) rfl ?_
          exact ⟨u6, p, by rw [eC.out], fun h => absurd (eC.out ▸ h) HN.out, fun _ => trivial, hr, hf⟩
  · have hc1 : (countC bs pos 1024 == 0) = false := by simpa using hc
    have hcc : Hid (numsC bs pos = countC bs pos 1024) := by show _ = _; rw [numsC, if_pos hc]
    have HC := Lib.hid hc
    obtain ⟨n0, rfl⟩ := hz HC.out
    clear hc hv hz hx hy
    go_wp2_with fail
    go_loopw [4, 5, 6] (fun n e out wr => n = .int .i64 n0 ∧ e = .int .i64 (countC bs pos 1024) ∧ w1 = wr) (fun _ _ _ _ => 0)
    case atStart => exact ⟨rfl, rfl, rfl⟩
    case round =>
      obtain ⟨rfl, rfl, rfl⟩ := hrel
      by_cases hn0 : n0 > 0
      all_goals
        go_wp2
        refine bodyPost_ret (v := .tuple #[u6, .int .i64 (countC bs pos 1024)]) (by simp [results, Tryd.results75, go_sem]) rfl ?_
        exact ⟨u6, p, by rw [hcc.out], fun h => absurd (hcc.out ▸ h) HC.out, fun _ => trivial, h1, hf1⟩
def IsList (base : Nat) (A : Option Addr) (l : List (List Int)) (v : Value) (w : World) : Prop :=
  ∃ vals, w.ownsRow base 24 1 v l.length vals ∧ ∀ (k : Nat) s, l[k]? = some s → ∃ A' cap', vals[k]? = some (.slice A' s.length cap') ∧ ByteRow w (inA A) A' s
theorem text_info : (Tryd.prog.info? 24).map (fun i => (i.zero, i.size, i.bytes)) = some (some (.slice none 0 0), 1, 24) := by kernel_rfl
theorem isList_snoc {w : World} {base : Nat} {A A2 : Option Addr} {l : List (List Int)} {s : List Int} {v : Value} {vals : List Value} {q : Nat} (h : w.ownsRow base 24 1 v (l.length + 1) (vals ++ [.slice A2 s.length q]))
    (hv : ∀ (k : Nat) s, l[k]? = some s → ∃ A' cap', vals[k]? = some (.slice A' s.length cap') ∧ ByteRow w (inA A) A' s) (hs : ByteRow w (inA A) A2 s) : IsList base A (l ++ [s]) v w := by
  have hl : vals.length = l.length := by
    have := h.1
    simp only [List.length_append, List.length_singleton] at this
    omega
  refine ⟨_, by simpa using h, ?_⟩
  intro k x hx
  rcases Nat.lt_or_ge k l.length with hk | hk
  · rw [List.getElem?_append_left hk] at hx
    obtain ⟨A', cap', h1, h2⟩ := hv k x hx
    exact ⟨A', cap', by rw [List.getElem?_append_left (by omega)]; exact h1, h2⟩
  · rw [List.getElem?_append_right hk] at hx
    have hk0 : k - l.length = 0 := by
      cases hd : k - l.length with
      | zero => rfl
      | succ n => rw [hd] at hx; simp at hx
    rw [hk0] at hx
    simp only [List.getElem?_cons_zero, Option.some.injEq] at hx
    subst hx
    exact ⟨A2, q, by rw [List.getElem?_append_right (by omega), show k - vals.length = 0 by omega]; rfl, hs⟩
set_option maxRecDepth 100000 in
set_option maxHeartbeats 400000 in
theorem row_text_1 {w : World} {g : Nat} {A : Option Addr} {bs : List Int} {pos : Nat} (h : ReaderAt w g A bs pos none) (hl : bs.length ≤ 1099511627776) (h8 : Bytes8 bs) (b1 b2 : Nat) (hx : w.cell? ⟨b1, 0, none⟩ = some (.pointer (some ⟨g, 0, none⟩))) (hy : w.cell? ⟨b2, 0, none⟩ = some (.func (.func 54) #[.pointer (some ⟨g, 0, none⟩)] #[])) (hg1 : b1 ≠ g) (hg2 : b2 ≠ g) :
    Calls Tryd.prog 74 #[.pointer (some ⟨b1, 0, none⟩), .pointer (some ⟨b2, 0, none⟩)] w (ReadOut w g A bs (IsList w.heap.size A (listX bs pos)) (fun _ => True) (listP bs pos) (listC bs pos)) := by
  have hg0 : g < w.heap.size := by obtain ⟨_, _, _, _, hb⟩ := h.blk; exact hb.lt
  have hA0 := h.alt
  go_enter Tryd.func74, Tryd.ntmps74
  go_wp2_with fail
  refine (reader_count h hl 1024).mono ?_
  rintro e w1 ⟨v, p, rfl, hv, hz, h1, hf1⟩
  by_cases hc : countC bs pos 1024 = 0
  · obtain ⟨rfl, rfl⟩ := hv hc
    obtain ⟨h4, hm⟩ := countC_ok hc
    have hb4 := spell4_bound (h8.part pos 4) (by rw [List.length_take, List.length_drop]; omega)
    have hn : spell64 ((bs.drop pos).take 4) = (textN bs pos : Int) := by unfold textN; omega
    have hT : textN bs pos ≤ 1024 := by omega
    rw [hc, hn]
    have HC : Hid (listC bs pos = (listRun bs (textN bs pos) (pos + 4)).2.2) := by show _ = _; rw [listC, if_neg (by simp [hc])]
    have HX : Hid (listX bs pos = (listRun bs (textN bs pos) (pos + 4)).1) := rfl
    have HP : Hid (listP bs pos = (listRun bs (textN bs pos) (pos + 4)).2.1) := rfl
    generalize textN bs pos = T at hT HC HX HP ⊢
    clear hn hb4 hm hc hv hz h4
    go_wp2_with fail
    go_loopw [4, 5, 6] (fun n e out wr => ∃ (m p : Nat) (xs : List (List Int)) (c : Int), n = .int .i64 m ∧ e = .int .i64 c ∧ xs.length + m = T ∧ ReaderAt wr g A bs p none ∧ Fr (fun k => k = g) w wr ∧ IsList w.heap.size A xs out wr ∧ Mid (listRun bs) T (pos + 4) m p xs c) (fun n _ _ _ => (intOf n).toNat)
    case atStart => exact ⟨T, pos + 4, [], 0, rfl, rfl, by simp, h1, hf1, ⟨[], World.ownsRow_nil _ _ _ _, fun k s hs => by cases hs⟩, fun _ => by simp, fun h => absurd rfl h⟩
    case round =>
      obtain ⟨m, p, xs, c, rfl, rfl, hlen, hr, hf, hown, hmid⟩ := hrel
      obtain ⟨vals, hown, hval⟩ := hown
      have HM := Lib.hid hmid
      have HV := Lib.hid hval
      clear hmid hval
      have hx1 := hf.cell_some hx hg1
      have hy1 := hf.cell_some hy hg2
      cases m with
      | zero =>
        clear hx hy hx1 hy1
        by_cases hc0 : c = 0
        · subst hc0
          have e0 := HM.out.1 rfl
          have eC : Hid (listC bs pos = 0) := by show _ = _; rw [HC.out, e0]; rfl
          have eX : Hid (listX bs pos = xs) := by show _ = _; rw [HX.out, e0]; exact List.append_nil _
          have eP : Hid (listP bs pos = p) := by show _ = _; rw [HP.out, e0]; rfl
          clear e0
          go_wp2
          refine bodyPost_ret (v := .tuple #[u6, .int .i64 0]) (by simp [results, Tryd.results74, go_sem]) rfl ?_
          exact ⟨u6, p, by rw [eC.out], fun _ => ⟨by rw [eX.out]; exact ⟨vals, hown, HV.out⟩, eP.out.symm⟩, fun _ => trivial, hr, hf⟩
        · have HN := Lib.hid hc0
          have hcb : (c == 0) = false := by simpa using hc0
          have eC : Hid (listC bs pos = c) := by show _ = _; rw [HC.out]; exact HM.out.2 hc0
          clear hc0
          go_wp2
          refine bodyPost_ret (v := .tuple #[u6, .int .i64 c]) (by simp [results, Tryd.results74, go_sem]) rfl ?_
          exact ⟨u6, p, by rw [eC.out], fun h => absurd (eC.out ▸ h) HN.out, fun _ => trivial, hr, hf⟩
      | succ m =>
        have hm0 : ((m + 1 : Nat) : Int) > 0 := by omega
        by_cases hc0 : c = 0
        · subst hc0
          have e0 := HM.out.1 rfl
          by_cases hp : textC bs p = 0
          · have HM2 : Hid (Mid (listRun bs) T (pos + 4) m (p + 4 + textN bs p) (xs ++ [textX bs p]) 0) := by
              refine ⟨fun _ => ?_, fun h => absurd rfl h⟩
              rw [e0, listRun, rowRun_on hp]
              simp only [List.append_assoc, List.singleton_append]
              rfl
            have HPP := Lib.hid hp
            clear e0 hp
            go_wp2_with (first
              | (go_at_call 54; refine (reader_text hr hl h8).mono ?_; rintro e w2 ⟨v2, p2, rfl, hv2, hz2, h2, hf2⟩; obtain ⟨⟨A2, q2, rfl, hb2⟩, rfl⟩ := hv2 HPP.out; rw [HPP.out]; clear hv2 hz2; have hown2 := own_fr hown hf2 (fun k hk e => by have := own_ge hown k hk; omega))
              | (at_builtin; refine wpList_append1 _ rfl _ _ _ rfl w.heap.size 24 (.slice none 0 0) 24 Tryd.underlying41 text_info rfl u6 xs.length vals rfl (hown2.alloc _) w2.heap.size (.slice A2 (textX bs p).length q2) rfl ?_ rfl (by omega) (by omega) ?_ ?_; (· simp); (· have := hf.size; have := hf2.size; simp; omega); intro g3 c3 w3 hown3 hf3))
            go_roundw
            case rel =>
              have hf12 := hf.trans hf2 (fun _ _ h => h)
              have hfb : Fr (fun k => u6.ownBlock = some k) w2 w3 := ((Fr.refl (fun k => u6.ownBlock = some k) w2).alloc _).trans hf3 (fun _ _ h => h)
              have hf13 := hf12.own hown hfb (Nat.le_refl _)
              exact ⟨m, p + 4 + textN bs p, xs ++ [textX bs p], 0, by go_num, rfl, by simp; omega, h2.fr hfb (fun e => by have := own_ge hown _ e; omega) (fun k o e1 e2 => by have := own_ge hown _ e2; have := hA0 k o e1; omega), hf13, isList_snoc hown3 (fun k s hs => by obtain ⟨B, q, e, hB⟩ := HV.out k s hs; exact ⟨B, q, e, (hB.fr hf2 (fun k ⟨o, e1⟩ e2 => hr.ne k o e1 e2)).fr hfb (fun k ⟨o, e1⟩ e2 => by have := own_ge hown _ e2; have := hA0 k o e1; omega)⟩) (hb2.fr hfb (fun k ⟨o, e1⟩ e2 => by have := own_ge hown _ e2; have := hA0 k o e1; omega)), HM2.out⟩
            case measure => simp [intOf]
          · have HM2 : ∀ q, Hid (Mid (listRun bs) T (pos + 4) m q (xs ++ [[]]) (textC bs p)) := by
              intro q
              refine ⟨fun h => absurd h hp, fun _ => ?_⟩
              rw [e0, listRun]
              exact rowRun_stop hp
            have HPP := Lib.hid hp
            clear e0 hp
            go_wp2_with (first
              | (go_at_call 54; refine (reader_text hr hl h8).mono ?_; rintro e w2 ⟨v2, p2, rfl, hv2, hz2, h2, hf2⟩; obtain rfl := hz2 HPP.out; clear hv2 hz2; have hown2 := own_fr hown hf2 (fun k hk e => by have := own_ge hown k hk; omega))
              | (at_builtin; refine wpList_append1 _ rfl _ _ _ rfl w.heap.size 24 (.slice none 0 0) 24 Tryd.underlying41 text_info rfl u6 xs.length vals rfl (hown2.alloc _) w2.heap.size (.slice none 0 0) rfl ?_ rfl (by omega) (by omega) ?_ ?_; (· simp); (· have := hf.size; have := hf2.size; simp; omega); intro g3 c3 w3 hown3 hf3))
            go_roundw
            case rel =>
              have hf12 := hf.trans hf2 (fun _ _ h => h)
              have hfb : Fr (fun k => u6.ownBlock = some k) w2 w3 := ((Fr.refl (fun k => u6.ownBlock = some k) w2).alloc _).trans hf3 (fun _ _ h => h)
              have hf13 := hf12.own hown hfb (Nat.le_refl _)
              exact ⟨m, p2, xs ++ [[]], textC bs p, by go_num, rfl, by simp; omega, h2.fr hfb (fun e => by have := own_ge hown _ e; omega) (fun k o e1 e2 => by have := own_ge hown _ e2; have := hA0 k o e1; omega), hf13, isList_snoc hown3 (fun k s hs => by obtain ⟨B, q, e, hB⟩ := HV.out k s hs; exact ⟨B, q, e, (hB.fr hf2 (fun k ⟨o, e1⟩ e2 => hr.ne k o e1 e2)).fr hfb (fun k ⟨o, e1⟩ e2 => by have := own_ge hown _ e2; have := hA0 k o e1; omega)⟩) (fun k x hx => by cases hx), (HM2 p2).out⟩
            case measure => simp [intOf]
        · have HN := Lib.hid hc0
          have hcb : (c == 0) = false := by simpa using hc0
          have eC : Hid (listC bs pos = c) := by show _ = _; rw [HC.out]; exact HM.out.2 hc0
          clear hc0 hx hy hx1 hy1
          go_wp2
          refine bodyPost_ret (v := .tuple #[u6, .int .i64 c]) (by simp [results, Tryd.results74, go_sem]) rfl ?_
          exact ⟨u6, p, by rw [eC.out], fun h => absurd (eC.out ▸ h) HN.out, fun _ => trivial, hr, hf⟩
  · have hc1 : (countC bs pos 1024 == 0) = false := by simpa using hc
    have hcc : Hid (listC bs pos = countC bs pos 1024) := by show _ = _; rw [listC, if_pos hc]
    have HC := Lib.hid hc
    obtain ⟨n0, rfl⟩ := hz HC.out
    clear hc hv hz hx hy
    go_wp2_with fail
    go_loopw [4, 5, 6] (fun n e out wr => n = .int .i64 n0 ∧ e = .int .i64 (countC bs pos 1024) ∧ w1 = wr) (fun _ _ _ _ => 0)
    case atStart => exact ⟨rfl, rfl, rfl⟩
    case round =>
      obtain ⟨rfl, rfl, rfl⟩ := hrel
      by_cases hn0 : n0 > 0
      all_goals
        go_wp2
        refine bodyPost_ret (v := .tuple #[u6, .int .i64 (countC bs pos 1024)]) (by simp [results, Tryd.results74, go_sem]) rfl ?_
        exact ⟨u6, p, by rw [hcc.out], fun h => absurd (hcc.out ▸ h) HC.out, fun _ => trivial, h1, hf1⟩
theorem NextOut.imp {w w' : World} {g : Nat} {A : Option Addr} {bs : List Int} {V V' : Value → World → Prop} {pos' : Nat} {z : Value} {s : ByteArray} {pos : Nat} {c : Int} {e : Ending} (h : NextOut w g A bs V pos' z s pos c e w') (hV : ∀ v w, V v w → V' v w) : NextOut w g A bs V' pos' z s pos c e w' := by
  rcases h with ⟨h1, v, h2, h3, h4, h5⟩ | h
  · exact .inl ⟨h1, v, h2, hV _ _ h3, h4, h5⟩
  · exact .inr h
theorem wire_row_int64 (w : World) (g : Nat) : Calls Tryd.prog 58 #[.pointer (some ⟨g, 0, none⟩), .func (.func 41) #[.pointer (some ⟨g, 0, none⟩)] #[]] w fun e w' => e = .returned (.func (.func 75) #[] #[.pointer (some ⟨w.heap.size, 0, none⟩), .pointer (some ⟨w.heap.size + 1, 0, none⟩)]) ∧ w' = (w.alloc (.cells #[.pointer (some ⟨g, 0, none⟩)] 32)).alloc (.cells #[.func (.func 41) #[.pointer (some ⟨g, 0, none⟩)] #[]] 73) := by
  go_enter Tryd.func58, Tryd.ntmps58
  go_wp2
  go_ret
  exact ⟨rfl, rfl⟩
theorem reader_Nums {w : World} {g : Nat} {A : Option Addr} {bs : List Int} {pos : Nat} {err : Option (List (ByteArray × Int) × Int)} (h : ReaderAt w g A bs pos err) (hl : bs.length ≤ 1099511627776) (h8 : Bytes8 bs) :
    Calls Tryd.prog 23 #[.pointer (some ⟨g, 0, none⟩)] w (Rd w g A bs (IsNums w.heap.size (numsX bs pos)) (numsP bs pos) (.slice none 0 0) (⟨#[110, 117, 109, 115]⟩ : ByteArray) pos (numsC bs pos) err) := by
  have hf0 : Fr (fun _ => False) w ((w.alloc (Obj.cells #[.pointer (some ⟨g, 0, none⟩)] 32)).alloc (Obj.cells #[.func (.func 41) #[.pointer (some ⟨g, 0, none⟩)] #[]] 73)) := ((Fr.refl _ _).alloc _).alloc _
  have h1 := h.fr hf0 id (fun _ _ _ => id)
  have hx : ((w.alloc (Obj.cells #[.pointer (some ⟨g, 0, none⟩)] 32)).alloc (Obj.cells #[.func (.func 41) #[.pointer (some ⟨g, 0, none⟩)] #[]] 73)).cell? ⟨w.heap.size, 0, none⟩ = some (.pointer (some ⟨g, 0, none⟩)) := ((Blk.new w 32 #[.pointer (some ⟨g, 0, none⟩)]).alloc _).cell 0
  have hy : ((w.alloc (Obj.cells #[.pointer (some ⟨g, 0, none⟩)] 32)).alloc (Obj.cells #[.func (.func 41) #[.pointer (some ⟨g, 0, none⟩)] #[]] 73)).cell? ⟨w.heap.size + 1, 0, none⟩ = some (.func (.func 41) #[.pointer (some ⟨g, 0, none⟩)] #[]) := (Blk.new_ (w.alloc (Obj.cells #[.pointer (some ⟨g, 0, none⟩)] 32)) 73 #[.func (.func 41) #[.pointer (some ⟨g, 0, none⟩)] #[]] (n := w.heap.size + 1) (by simp)).cell 0
  have hg : g < w.heap.size := by obtain ⟨_, _, _, _, hb⟩ := h.blk; exact hb.lt
  have hg1 : w.heap.size ≠ g := by omega
  have hg2 : w.heap.size + 1 ≠ g := by omega
  cases err with
  | some er =>
    go_enter Tryd.func23, Tryd.ntmps23
    go_wp2_with (first
      | (go_at_call 58; refine (wire_row_int64 _ _).mono ?_; rintro e w1 ⟨rfl, rfl⟩)
      | (go_at_call 57; refine (next_bad_Nums h1 _ _).mono ?_; rintro e w1 ⟨rfl, rfl⟩))
    go_ret
    exact ⟨rfl, h1, hf0⟩
  | none =>
    go_enter Tryd.func23, Tryd.ntmps23
    go_wp2_with (first
      | (go_at_call 58; refine (wire_row_int64 _ _).mono ?_; rintro e w1 ⟨rfl, rfl⟩)
      | (go_at_call 57; refine (next_Nums h1 (⟨#[110, 117, 109, 115]⟩ : ByteArray) w.heap.size (w.heap.size + 1) (row_int64_1 h1 hl h8 _ _ hx hy hg1 hg2)).mono ?_; intro e w1 hn; obtain ⟨v, rfl, hn1⟩ := (hn.before hf0).ending; clear hn))
    go_ret
    exact hn1.imp (fun v w h => own_base h (by simp; omega))
theorem wire_row_text (w : World) (g : Nat) : Calls Tryd.prog 56 #[.pointer (some ⟨g, 0, none⟩), .func (.func 54) #[.pointer (some ⟨g, 0, none⟩)] #[]] w fun e w' => e = .returned (.func (.func 74) #[] #[.pointer (some ⟨w.heap.size, 0, none⟩), .pointer (some ⟨w.heap.size + 1, 0, none⟩)]) ∧ w' = (w.alloc (.cells #[.pointer (some ⟨g, 0, none⟩)] 32)).alloc (.cells #[.func (.func 54) #[.pointer (some ⟨g, 0, none⟩)] #[]] 85) := by
  go_enter Tryd.func56, Tryd.ntmps56
  go_wp2
  go_ret
  exact ⟨rfl, rfl⟩
theorem reader_List {w : World} {g : Nat} {A : Option Addr} {bs : List Int} {pos : Nat} {err : Option (List (ByteArray × Int) × Int)} (h : ReaderAt w g A bs pos err) (hl : bs.length ≤ 1099511627776) (h8 : Bytes8 bs) :
    Calls Tryd.prog 22 #[.pointer (some ⟨g, 0, none⟩)] w (Rd w g A bs (IsList w.heap.size A (listX bs pos)) (listP bs pos) (.slice none 0 0) (⟨#[108, 105, 115, 116]⟩ : ByteArray) pos (listC bs pos) err) := by
  have hf0 : Fr (fun _ => False) w ((w.alloc (Obj.cells #[.pointer (some ⟨g, 0, none⟩)] 32)).alloc (Obj.cells #[.func (.func 54) #[.pointer (some ⟨g, 0, none⟩)] #[]] 85)) := ((Fr.refl _ _).alloc _).alloc _
  have h1 := h.fr hf0 id (fun _ _ _ => id)
  have hx : ((w.alloc (Obj.cells #[.pointer (some ⟨g, 0, none⟩)] 32)).alloc (Obj.cells #[.func (.func 54) #[.pointer (some ⟨g, 0, none⟩)] #[]] 85)).cell? ⟨w.heap.size, 0, none⟩ = some (.pointer (some ⟨g, 0, none⟩)) := ((Blk.new w 32 #[.pointer (some ⟨g, 0, none⟩)]).alloc _).cell 0
  have hy : ((w.alloc (Obj.cells #[.pointer (some ⟨g, 0, none⟩)] 32)).alloc (Obj.cells #[.func (.func 54) #[.pointer (some ⟨g, 0, none⟩)] #[]] 85)).cell? ⟨w.heap.size + 1, 0, none⟩ = some (.func (.func 54) #[.pointer (some ⟨g, 0, none⟩)] #[]) := (Blk.new_ (w.alloc (Obj.cells #[.pointer (some ⟨g, 0, none⟩)] 32)) 85 #[.func (.func 54) #[.pointer (some ⟨g, 0, none⟩)] #[]] (n := w.heap.size + 1) (by simp)).cell 0
  have hg : g < w.heap.size := by obtain ⟨_, _, _, _, hb⟩ := h.blk; exact hb.lt
  have hg1 : w.heap.size ≠ g := by omega
  have hg2 : w.heap.size + 1 ≠ g := by omega
  cases err with
  | some er =>
    go_enter Tryd.func22, Tryd.ntmps22
    go_wp2_with (first
      | (go_at_call 56; refine (wire_row_text _ _).mono ?_; rintro e w1 ⟨rfl, rfl⟩)
      | (go_at_call 55; refine (next_bad_List h1 _ _).mono ?_; rintro e w1 ⟨rfl, rfl⟩))
    go_ret
    exact ⟨rfl, h1, hf0⟩
  | none =>
    go_enter Tryd.func22, Tryd.ntmps22
    go_wp2_with (first
      | (go_at_call 56; refine (wire_row_text _ _).mono ?_; rintro e w1 ⟨rfl, rfl⟩)
      | (go_at_call 55; refine (next_List h1 (⟨#[108, 105, 115, 116]⟩ : ByteArray) w.heap.size (w.heap.size + 1) (row_text_1 h1 hl h8 _ _ hx hy hg1 hg2)).mono ?_; intro e w1 hn; obtain ⟨v, rfl, hn1⟩ := (hn.before hf0).ending; clear hn))
    go_ret
    exact hn1.imp (fun v w ⟨vals, h, h'⟩ => ⟨vals, own_base h (by simp; omega), h'⟩)
theorem TextRow.of_list {w : World} {base : Nat} {A : Option Addr} {l : List (List Int)} {v : Value} (h : IsList base A l v w) : ∃ A' cap, v = .slice A' l.length cap ∧ TextRow w (fun k => v.ownBlock = some k ∨ inA A k) A' l := by
  obtain ⟨vals, hown, hval⟩ := h
  obtain ⟨A', cap, hv, _, hat⟩ := own_form hown
  refine ⟨A', cap, hv, ?_⟩
  intro k s hs
  obtain ⟨B, q, e, hB⟩ := hval k s hs
  obtain ⟨b, hb, _, hc⟩ := hat k _ e
  exact ⟨b, 0, B, q, hb, .inl (by rw [hv, hb]; rfl), by rw [Nat.zero_add]; exact hc, hB.mono (fun _ h => .inr h)⟩
end Go.Proofs.YtkbcobbnjiekfaaDoor
