/- cohortref05: Make, Check, Same. -/
import Derived.Test.YtjnmfaaegbkmhaaDoorTold
import Derived.Test.YtjnmfaaegbkmhaaDoorGrow
import Derived.Test.YtjnmfaaegbkmhaaDoorPlain05
import Derived.Test.YtjnmfaaegbkmhaaDoorSigned
namespace Go.Proofs.YtjnmfaaegbkmhaaDoor
open Go Go.RowKit
set_option maxRecDepth 100000 in
theorem ref04_Who {w : World} {g base : Nat} {v : Value} {L : List (Int × Int)} (h : RefAt w g base v L) (hL : L.length ≤ 1099511627776) (gr d : Int) :
    Calls Tryd.prog 28 #[.pointer (some ⟨g, 0, none⟩), .int .i64 gr, .int .i64 d] w fun e w' => ∃ v, e = .returned v ∧ w'.ownsRow w.heap.size 3 1 v (whoTo gr d L 10).length (intVals (whoTo gr d L 10)) ∧ Fr (fun _ => False) w w' := by
  obtain ⟨i0, hi, hz0, hz1, hz2⟩ := info_parts int_info
  go_enter Tryd.func28, Tryd.ntmps28
  go_wp2_with fail
  go_loopw [7, 8] (fun v i wr => ∃ k : Nat, k ≤ 10 ∧ i = .int .i64 k ∧ wr.ownsRow w.heap.size 3 1 v (whoTo gr d L k).length (intVals (whoTo gr d L k)) ∧ Fr (fun _ => False) w wr) (fun _ i _ => 10 - (intOf i).toNat)
  case atStart => exact ⟨0, by omega, rfl, ⟨rfl, .inl ⟨rfl, rfl⟩⟩, Fr.refl _ _⟩
  case round =>
    obtain ⟨k, hk, rfl, hown, hf⟩ := hrel
    have hr := h.fr hf id (fun _ _ => id)
    by_cases hlt : k < 10
    · by_cases h0 : 0 ≤ memberOf gr k
      · by_cases hm : (memberOf gr k, d) ∈ L
        · go_wp2_with (first
            | (go_at_call 19; refine (ref04_Member gr k _).mono ?_; rintro e w' ⟨rfl, rfl⟩)
            | (go_at_call 29; refine (ref04_Signed hr hL _ d).mono ?_; rintro e w1 ⟨rfl, rfl⟩)
            | (at_builtin; refine wpList_append1 _ rfl _ _ _ rfl w.heap.size 3 (.int .i64 0) 8 Tryd.underlying23 int_info rfl u7 _ _ rfl (hown.alloc _) wr.heap.size (.int .i64 k) rfl ?_ rfl ?_ (by omega) ?_ ?_; (· simp); (· have := whoTo_le gr d L k; omega); (· have := hf.size; simp; omega); intro g2 c2 w2 hown2 hf2))
          go_roundw
          case rel =>
            have hfw : Fr (fun _ => False) w (wr.alloc (Obj.cells #[Value.int IntKind.i64 k] 3)) := hf.alloc _
            exact ⟨k + 1, by omega, by go_num, by rw [whoTo_succ_yes h0 hm]; simpa [intVals] using hown2, hfw.own hown hf2 (Nat.le_refl _)⟩
          case measure => simp [intOf]; omega
        · go_wp2_with (first
            | (go_at_call 19; refine (ref04_Member gr k _).mono ?_; rintro e w' ⟨rfl, rfl⟩)
            | (go_at_call 29; refine (ref04_Signed hr hL _ d).mono ?_; rintro e w1 ⟨rfl, rfl⟩))
          go_roundw
          case rel => exact ⟨k + 1, by omega, by go_num, by rw [whoTo_succ_no (fun h => hm h.2)]; exact hown, hf⟩
          case measure => simp [intOf]; omega
      · go_wp2_with (first
          | (go_at_call 19; refine (ref04_Member gr k _).mono ?_; rintro e w' ⟨rfl, rfl⟩))
        go_roundw
        case rel => exact ⟨k + 1, by omega, by go_num, by rw [whoTo_succ_no (fun h => by have := h.1; omega)]; exact hown, hf⟩
        case measure => simp [intOf]; omega
    · obtain rfl : k = 10 := by omega
      go_wp2
      go_ret
      exact ⟨_, rfl, hown, hf⟩
theorem ref04_SameInts {w : World} {B B' : Nat} {A A' : Option Addr} {xs : List Int} {n cap cap' : Nat} (h : IntRow w B A xs) (h' : IntRow w B' A' xs) (hl : xs.length ≤ 9223372036854775807) (hn : n = xs.length) :
    Calls Tryd.prog 30 #[.slice A n cap, .slice A' n cap'] w (Yes w) := by
  subst hn
  go_enter Tryd.func30, Tryd.ntmps30
  go_wp2_with fail
  go_loopw [5] (fun i wr => ∃ k : Nat, k ≤ xs.length ∧ i = .int .i64 k ∧ Fr (fun _ => False) w wr) (fun i _ => xs.length - (intOf i).toNat)
  case atStart => exact ⟨0, by omega, rfl, Fr.refl _ _⟩
  case round =>
    obtain ⟨k, hk, rfl, hf⟩ := hrel
    by_cases hlt : k < xs.length
    · obtain ⟨x, hx⟩ : ∃ x, xs[k]? = some x := ⟨xs[k], List.getElem?_eq_getElem hlt⟩
      obtain ⟨b, o, rfl, _, c0⟩ := h k x hx
      obtain ⟨b', o', rfl, _, c0'⟩ := h' k x hx
      have d0 := hf.cell_some c0 id
      have d0' := hf.cell_some c0' id
      clear h h' c0 c0' hx
      go_wp2_with fail
      go_big_quiet (fail)
      go_wp2
      go_roundw
      case rel => exact ⟨k + 1, by omega, by go_num, hf.drewN _⟩
      case measure => simp [intOf]; omega
    · have hkl : k = xs.length := by omega
      clear h h'
      go_wp2
      go_ret
      exact ⟨rfl, hf⟩
set_option maxRecDepth 100000 in
theorem ref05_Same {w : World} {B B' : Nat} {A A' : Option Addr} {xs : List Int} {n cap cap' : Nat} (h : IntRow w B A xs) (h' : IntRow w B' A' xs) (hl : xs.length ≤ 9223372036854775807) (hn : n = xs.length) (G D : Int) :
    Calls Tryd.prog 15 #[.agg #[.int .i64 G, .int .i64 D, .slice A n cap], .agg #[.int .i64 G, .int .i64 D, .slice A' n cap']] w (Yes w) := by
  subst hn
  have hf0 : Fr (fun _ => False) w ((w.alloc (Obj.cells #[.int .i64 G, .int .i64 D, .slice A xs.length cap] 25)).alloc (Obj.cells #[.int .i64 G, .int .i64 D, .slice A' xs.length cap'] 25)) := ((Fr.refl _ _).alloc _).alloc _
  have h1 := h.fr hf0 (fun _ _ => id)
  have h2 := h'.fr hf0 (fun _ _ => id)
  clear h h'
  go_enter Tryd.func15, Tryd.ntmps15
  go_wp2_with fail
  refine (ref04_SameInts h1 h2 hl rfl).mono ?_
  rintro e w1 ⟨rfl, hf1⟩
  go_wp2
  go_ret
  exact ⟨rfl, hf0.then_ hf1⟩
def RefMade (w : World) (G D : Int) (L : List (Int × Int)) (need : Int) (e : Ending) (w' : World) : Prop :=
  Fr (fun _ => False) w w' ∧
  (((need < 1 ∨ ((whoInts G D L).length : Int) < need) ∧ e = .returned (.tuple #[.agg #[.int .i64 0, .int .i64 0, .slice none 0 0], .int .i64 51, .agg #[.string (⟨#[109, 97, 107, 101]⟩ : ByteArray), .int .i64 ((whoInts G D L).length : Int)]])) ∨
   (¬ (need < 1 ∨ ((whoInts G D L).length : Int) < need) ∧ ∃ A cap, e = .returned (.tuple #[.agg #[.int .i64 G, .int .i64 D, .slice A ((whoInts G D L).take need.toNat).length cap], .int .i64 0, .agg #[.string ⟨#[]⟩, .int .i64 0]]) ∧ IntRow w' w'.heap.size A ((whoInts G D L).take need.toNat)))
set_option maxRecDepth 100000 in
theorem ref05_Make {w : World} {g base : Nat} {v : Value} {L : List (Int × Int)} (hs : RefAt w g base v L) (hL : L.length ≤ 1099511627776) (G D need : Int) :
    Calls Tryd.prog 13 #[.pointer (some ⟨g, 0, none⟩), .int .i64 G, .int .i64 D, .int .i64 need] w (RefMade w G D L need) := by
  have hf0 : Fr (fun _ => False) w ((w.alloc (Obj.cells #[.int .i64 0, .int .i64 0, .slice none 0 0] 25)).alloc (Obj.cells #[.string ⟨#[]⟩, .int .i64 0] 43)) := ((Fr.refl _ _).alloc _).alloc _
  go_enter Tryd.func13, Tryd.ntmps13
  go_wp2_with fail
  refine (ref04_Who (hs.fr hf0 id (fun _ _ => id)) hL G D).mono ?_
  rintro e w1 ⟨v, rfl, hown, hf1⟩
  obtain ⟨A, cap, rfl, hcap, _⟩ := own_form hown
  have b1 : Blk w1 w.heap.size 25 #[.int .i64 0, .int .i64 0, .slice none 0 0] := ((Blk.new _ _ _).alloc _).fr hf1 id
  have s1 : Blk w1 (w.heap.size + 1) 43 #[.string ⟨#[]⟩, .int .i64 0] := (Blk.new_ _ _ _ (n := w.heap.size + 1) (by simp)).fr hf1 id
  have hf2 := hf0.then_ hf1
  have hr := IntRow.of_own hown
  have hlt := s1.lt
  have hne1 : ¬ w.heap.size = w.heap.size + 1 := by omega
  have hne2 : ¬ w.heap.size + 1 = w.heap.size := by omega
  have c0 := b1.cell 0
  have c1 := b1.cell 1
  have c2 := b1.cell 2
  have c3 := s1.cell 0
  have c4 := s1.cell 1
  have z0 := b1.frozen 0
  have z1 := b1.frozen 1
  have z2 := b1.frozen 2
  have z3 := s1.frozen 0
  have z4 := s1.frozen 1
  by_cases hn : need < 1 ∨ ((whoTo G D L 10).length : Int) < need
  · have HN := Lib.hid hn
    by_cases h1 : need < 1
    · clear hn
      go_wp2_with fail
      have b2 := (((b1.set_ 0 (.int .i64 0)).set_ 1 (.int .i64 0)).set_ 2 (.slice none 0 0))
      have s2 := (((s1.far (p := ⟨w.heap.size, 0, none⟩) hne2 (.int .i64 0)).far (p := ⟨w.heap.size, 1, none⟩) hne2 (.int .i64 0)).far (p := ⟨w.heap.size, 2, none⟩) hne2 (.slice none 0 0))
      have s3 := (s2.set_ 0 (.string (⟨#[109, 97, 107, 101]⟩ : ByteArray))).set_ 1 (.int .i64 ((whoTo G D L 10).length : Int))
      have b3 := (b2.far (p := ⟨w.heap.size + 1, 0, none⟩) hne1 (.string (⟨#[109, 97, 107, 101]⟩ : ByteArray))).far (p := ⟨w.heap.size + 1, 1, none⟩) hne1 (.int .i64 ((whoTo G D L 10).length : Int))
      have d0 := b3.cell 0
      have d1 := b3.cell 1
      have d2 := b3.cell 2
      have d3 := s3.cell 0
      have d4 := s3.cell 1
      refine bodyPost_ret (v := .tuple #[.agg #[.int .i64 0, .int .i64 0, .slice none 0 0], .int .i64 51, .agg #[.string (⟨#[109, 97, 107, 101]⟩ : ByteArray), .int .i64 ((whoTo G D L 10).length : Int)]]) (by simp [results, Tryd.results13, go_sem, d0, d1, d2, d3, d4]) rfl ?_
      refine ⟨?_, .inl ⟨by rw [whoInts_length]; exact HN.out, by rw [whoInts_length]⟩⟩
      exact Fr.setCell (p := ⟨w.heap.size + 1, 1, none⟩) (Fr.setCell (p := ⟨w.heap.size + 1, 0, none⟩) (Fr.setCell (p := ⟨w.heap.size, 2, none⟩) (Fr.setCell (p := ⟨w.heap.size, 1, none⟩) (Fr.setCell (p := ⟨w.heap.size, 0, none⟩) hf2 (fun h => absurd h (Nat.lt_irrefl _)) _) (fun h => absurd h (Nat.lt_irrefl _)) _) (fun h => absurd h (Nat.lt_irrefl _)) _) (fun h => absurd h (by simp)) _) (fun h => absurd h (by simp)) _
    · have h2 : ((whoTo G D L 10).length : Int) < need := by omega
      clear hn
      go_wp2_with fail
      have b2 := (((b1.set_ 0 (.int .i64 0)).set_ 1 (.int .i64 0)).set_ 2 (.slice none 0 0))
      have s2 := (((s1.far (p := ⟨w.heap.size, 0, none⟩) hne2 (.int .i64 0)).far (p := ⟨w.heap.size, 1, none⟩) hne2 (.int .i64 0)).far (p := ⟨w.heap.size, 2, none⟩) hne2 (.slice none 0 0))
      have s3 := (s2.set_ 0 (.string (⟨#[109, 97, 107, 101]⟩ : ByteArray))).set_ 1 (.int .i64 ((whoTo G D L 10).length : Int))
      have b3 := (b2.far (p := ⟨w.heap.size + 1, 0, none⟩) hne1 (.string (⟨#[109, 97, 107, 101]⟩ : ByteArray))).far (p := ⟨w.heap.size + 1, 1, none⟩) hne1 (.int .i64 ((whoTo G D L 10).length : Int))
      have d0 := b3.cell 0
      have d1 := b3.cell 1
      have d2 := b3.cell 2
      have d3 := s3.cell 0
      have d4 := s3.cell 1
      refine bodyPost_ret (v := .tuple #[.agg #[.int .i64 0, .int .i64 0, .slice none 0 0], .int .i64 51, .agg #[.string (⟨#[109, 97, 107, 101]⟩ : ByteArray), .int .i64 ((whoTo G D L 10).length : Int)]]) (by simp [results, Tryd.results13, go_sem, d0, d1, d2, d3, d4]) rfl ?_
      refine ⟨?_, .inl ⟨by rw [whoInts_length]; exact HN.out, by rw [whoInts_length]⟩⟩
      exact Fr.setCell (p := ⟨w.heap.size + 1, 1, none⟩) (Fr.setCell (p := ⟨w.heap.size + 1, 0, none⟩) (Fr.setCell (p := ⟨w.heap.size, 2, none⟩) (Fr.setCell (p := ⟨w.heap.size, 1, none⟩) (Fr.setCell (p := ⟨w.heap.size, 0, none⟩) hf2 (fun h => absurd h (Nat.lt_irrefl _)) _) (fun h => absurd h (Nat.lt_irrefl _)) _) (fun h => absurd h (Nat.lt_irrefl _)) _) (fun h => absurd h (by simp)) _) (fun h => absurd h (by simp)) _
  · have HN := Lib.hid hn
    have h1 : ¬ need < 1 := by omega
    have h2 : ¬ ((whoTo G D L 10).length : Int) < need := by omega
    obtain ⟨n, rfl⟩ : ∃ n : Nat, need = n := ⟨need.toNat, by omega⟩
    have h3 : n ≤ (whoTo G D L 10).length := by omega
    have h4 : n ≤ cap := by omega
    have h5 : ¬ cap = 0 := by omega
    have hlen : ((whoInts G D L).take n).length = n := by rw [List.length_take, whoInts_length]; omega
    obtain ⟨b, o, rfl, hbw, hat⟩ := (hr.take n).at (xs := (whoInts G D L).take n) (by rw [hlen]; omega)
    have own1 : (w1.alloc (Obj.cells #[] 3)).ownsRow w1.heap.size 3 1 (.slice (some ⟨w1.heap.size, 0, none⟩) 0 0) 0 (ints []) := by
      have := own_built w1 (base := w1.heap.size) (Nat.le_refl _) [] (by simp) 0 rfl
      simpa [ints] using this
    have hf3 : Fr (fun _ => False) w (w1.alloc (Obj.cells #[] 3)) := hf2.alloc _
    have hat3 := hat.fr ((Fr.refl (fun _ => False) w1).alloc (Obj.cells #[] 3)) id
    have b3 := b1.alloc (Obj.cells #[] 3)
    have s3 := s1.alloc (Obj.cells #[] 3)
    have hsz1 : w.heap.size ≤ w1.heap.size := hf2.size
    have hn1 : n ≤ 1099511627776 := by have := whoTo_le G D L 10; omega
    have hn0 : 0 < n := by omega
    clear hn
    go_wp2_with (first
      | (at_builtin
         refine wpList_append_ints rfl (.tmp 30) (.tmp 33) rfl w1.heap.size _ 0 [] rfl own1 b o n cap ((whoInts G D L).take n) rfl hlen hat3 hn0 (by omega) (by simp) ?_
         intro g5 k5 w5 own5 gr5 h5
         simp only [Nat.zero_add, List.nil_append] at own5
         have b5 := b3.grown_own own1 gr5 (by decide)
         have s5 := s3.grown_own own1 gr5 (by decide)
         have hf5 := hf3.grown_own own1 gr5 hsz1
         have e0 := b5.cell 0
         have e1 := b5.cell 1
         have e2 := b5.cell 2
         have e3 := s5.cell 0
         have e4 := s5.cell 1
         have y0 := b5.frozen 0
         have y1 := b5.frozen 1
         have y2 := b5.frozen 2
         have y3 := s5.frozen 0
         have y4 := s5.frozen 1))
    have b6 := ((b5.set_ 0 (.int .i64 G)).set_ 1 (.int .i64 D)).set_ 2 (.slice (some ⟨g5, 0, none⟩) n k5)
    have s6 := ((s5.far (p := ⟨w.heap.size, 0, none⟩) hne2 (.int .i64 G)).far (p := ⟨w.heap.size, 1, none⟩) hne2 (.int .i64 D)).far (p := ⟨w.heap.size, 2, none⟩) hne2 (.slice (some ⟨g5, 0, none⟩) n k5)
    have s7 := (s6.set_ 0 (.string ⟨#[]⟩)).set_ 1 (.int .i64 0)
    have b7 := (b6.far (p := ⟨w.heap.size + 1, 0, none⟩) hne1 (.string ⟨#[]⟩)).far (p := ⟨w.heap.size + 1, 1, none⟩) hne1 (.int .i64 0)
    have o6 := own_setCell (own_setCell (own_setCell own5 b5 (by decide) 0 (.int .i64 G)) (b5.set_ 0 (.int .i64 G)) (by decide) 1 (.int .i64 D)) ((b5.set_ 0 (.int .i64 G)).set_ 1 (.int .i64 D)) (by decide) 2 (.slice (some ⟨g5, 0, none⟩) n k5)
    have o7 := own_setCell (own_setCell o6 s6 (by decide) 0 (.string ⟨#[]⟩)) (s6.set_ 0 (.string ⟨#[]⟩)) (by decide) 1 (.int .i64 0)
    have d0 := b7.cell 0
    have d1 := b7.cell 1
    have d2 := b7.cell 2
    have d3 := s7.cell 0
    have d4 := s7.cell 1
    refine bodyPost_ret (v := .tuple #[.agg #[.int .i64 G, .int .i64 D, .slice (some ⟨g5, 0, none⟩) n k5], .int .i64 0, .agg #[.string ⟨#[]⟩, .int .i64 0]]) (by simp [results, Tryd.results13, go_sem, d0, d1, d2, d3, d4]) rfl ?_
    refine ⟨?_, .inr ⟨by rw [whoInts_length]; exact HN.out, some ⟨g5, 0, none⟩, k5, ?_, ?_⟩⟩
    · exact Fr.setCell (p := ⟨w.heap.size + 1, 1, none⟩) (Fr.setCell (p := ⟨w.heap.size + 1, 0, none⟩) (Fr.setCell (p := ⟨w.heap.size, 2, none⟩) (Fr.setCell (p := ⟨w.heap.size, 1, none⟩) (Fr.setCell (p := ⟨w.heap.size, 0, none⟩) hf5 (fun h => absurd h (Nat.lt_irrefl _)) _) (fun h => absurd h (Nat.lt_irrefl _)) _) (fun h => absurd h (Nat.lt_irrefl _)) _) (fun h => absurd h (by simp)) _) (fun h => absurd h (by simp)) _
    · rw [Int.toNat_natCast, hlen]
    · rw [Int.toNat_natCast]
      exact IntRow.of_own' o7
/-- What the document answers of an error: its number, and the one step. -/
def ansC (o : Option (List (ByteArray × Int) × Int)) : Int := match o with | none => 0 | some p => p.2
def ansS (o : Option (List (ByteArray × Int) × Int)) : ByteArray × Int := match o with | none => (⟨#[]⟩, 0) | some p => p.1.headD (⟨#[]⟩, 0)
def RefChecked (w : World) (o : Option (List (ByteArray × Int) × Int)) (e : Ending) (w' : World) : Prop :=
  e = .returned (.tuple #[.int .i64 (ansC o), .agg #[.string (ansS o).1, .int .i64 (ansS o).2]]) ∧ Fr (fun _ => False) w w'
theorem refChecked_of {w w' : World} {o : Option (List (ByteArray × Int) × Int)} {c : Int} {s : ByteArray} {k : Int} (h : o = some ([(s, k)], c)) (hf : Fr (fun _ => False) w w') :
    RefChecked w o (.returned (.tuple #[.int .i64 c, .agg #[.string s, .int .i64 k]])) w' := by
  subst h
  exact ⟨rfl, hf⟩
theorem refChecked_none {w w' : World} {o : Option (List (ByteArray × Int) × Int)} (h : o = none) (hf : Fr (fun _ => False) w w') :
    RefChecked w o (.returned (.tuple #[.int .i64 0, .agg #[.string ⟨#[]⟩, .int .i64 0]])) w' := by
  subst h
  exact ⟨rfl, hf⟩
theorem hfs {w wr : World} {g : Nat} (hg : ¬ g < w.heap.size) (n : Nat) (u v : Value) (h : Fr (fun _ => False) w wr) : Fr (fun _ => False) w (((wr.drewN n).setCell ⟨g, 0, none⟩ u).setCell ⟨g, 1, none⟩ v) :=
  Fr.setCell (p := ⟨g, 1, none⟩) (Fr.setCell (p := ⟨g, 0, none⟩) (h.drewN n) (fun h => absurd h hg) _) (fun h => absurd h hg) _
theorem hfs' {w wr : World} {g : Nat} (hg : ¬ g < w.heap.size) (u v : Value) (h : Fr (fun _ => False) w wr) : Fr (fun _ => False) w ((wr.setCell ⟨g, 0, none⟩ u).setCell ⟨g, 1, none⟩ v) :=
  Fr.setCell (p := ⟨g, 1, none⟩) (Fr.setCell (p := ⟨g, 0, none⟩) h (fun h => absurd h hg) _) (fun h => absurd h hg) _
set_option maxRecDepth 100000 in
set_option maxHeartbeats 2000000 in
theorem ref05_Check {w : World} {g base : Nat} {v : Value} {L : List (Int × Int)} (hs : RefAt w g base v L) (hL : L.length ≤ 1099511627776) {A : Option Addr} {cap : Nat} {xs : List Int} (hr : IntRow w w.heap.size A xs) (hlen : xs.length ≤ 9223372036854775807) (G D need : Int) :
    Calls Tryd.prog 14 #[.pointer (some ⟨g, 0, none⟩), .agg #[.int .i64 G, .int .i64 D, .slice A xs.length cap], .int .i64 need] w (RefChecked w (checkE G D L xs need)) := by
  have hf0 : Fr (fun _ => False) w ((w.alloc (Obj.cells #[.int .i64 G, .int .i64 D, .slice A xs.length cap] 25)).alloc (Obj.cells #[.string ⟨#[]⟩, .int .i64 0] 43)) := ((Fr.refl _ _).alloc _).alloc _
  have b0 := (Blk.new w 25 #[.int .i64 G, .int .i64 D, .slice A xs.length cap]).alloc (Obj.cells #[.string ⟨#[]⟩, .int .i64 0] 43)
  have s0 := Blk.new_ (w.alloc (Obj.cells #[.int .i64 G, .int .i64 D, .slice A xs.length cap] 25)) 43 #[.string ⟨#[]⟩, .int .i64 0] (n := w.heap.size + 1) (by simp)
  have hs0 := hs.fr hf0 id (fun _ _ => id)
  have hr0 := hr.fr hf0 (fun _ _ => id)
  clear hs hr
  go_enter Tryd.func14, Tryd.ntmps14
  go_wp2_with fail
  go_loopw [8] (fun i wr => ∃ k : Nat, k ≤ xs.length ∧ i = .int .i64 k ∧ chkErr G D L (-1) 0 xs = chkErr G D L (lastAt xs k) k (xs.drop k) ∧ Fr (fun _ => False) ((w.alloc (Obj.cells #[.int .i64 G, .int .i64 D, .slice A xs.length cap] 25)).alloc (Obj.cells #[.string ⟨#[]⟩, .int .i64 0] 43)) wr) (fun i _ => xs.length - (intOf i).toNat)
  case atStart => exact ⟨0, by omega, rfl, rfl, Fr.refl _ _⟩
  case round =>
    obtain ⟨k, hk, rfl, he, hf⟩ := hrel
    have hs1 := hs0.fr hf id (fun _ _ => id)
    have b1 := b0.fr hf id
    have s1 := s0.fr hf id
    have hf1 := hf0.then_ hf
    have e0 := b1.cell 0
    have e1 := b1.cell 1
    have e2 := b1.cell 2
    have e3 := s1.cell 0
    have e4 := s1.cell 1
    have z0 := s1.frozen 0
    have z1 := s1.frozen 1
    have y2 := fun u v => ((s1.set_ 0 u).set_ 1 v).cell 0
    have y3 := fun u v => ((s1.set_ 0 u).set_ 1 v).cell 1
    have y0 := fun (n : Nat) u v => (((s1.drewN n).set_ 0 u).set_ 1 v).cell 0
    have y1 := fun (n : Nat) u v => (((s1.drewN n).set_ 0 u).set_ 1 v).cell 1
    by_cases hlt : k < xs.length
    · obtain ⟨x, hx⟩ : ∃ x, xs[k]? = some x := ⟨xs[k], List.getElem?_eq_getElem hlt⟩
      obtain ⟨b, o, rfl, hb, c0⟩ := hr0 k x hx
      have d0 := hf.cell_some c0 id
      have HX := Lib.hid hx
      have HE := Lib.hid he
      have HR := Lib.hid hr0
      clear c0 hx he hr0 b0 s0
      by_cases hm : memberOf G x < 0
      · have H52 : Hid (chk1 G D L (lastAt xs k) x = 52) := chk1_who (.inl hm)
        go_wp2_with fail
        go_big_quiet ((go_at_call 19; exact quiet_left (ref04_Member G x _)))
        go_wp2_with fail
        go_big_quiet (fail)
        go_wp2
        refine bodyPost_ret (v := .tuple #[.int .i64 52, .agg #[.string (⟨#[115, 105, 103, 110, 101, 114]⟩ : ByteArray), .int .i64 k]]) (by simp [results, Tryd.results14, go_sem, y0, y1]) rfl ?_
        exact refChecked_of (by rw [checkE_some (by rw [HE.out, chkErr_stop HX.out (by rw [H52.out]; decide), H52.out])]) (hfs (by simp) _ _ _ hf1)
      · have hmd : decide (memberOf G x < 0) = false := decide_eq_false hm
        by_cases hk0 : k = 0
        · have HK : Hid (¬ (memberOf G x < 0 ∨ x ≤ lastAt xs k)) := by
            have h1 : 0 ≤ x := by
              by_cases h : x < 0
              · exact absurd (by simp [memberOf, h]) hm
              · omega
            show ¬ _
            rw [hk0]
            simp only [lastAt, if_pos]
            omega
          subst hk0
          rw [Nat.add_zero] at d0
          by_cases hL2 : (memberOf G x, D) ∈ L
          · have H0 : Hid (chk1 G D L (lastAt xs 0) x = 0) := chk1_ok HK.out (by simpa using hL2)
            go_wp2_with fail
            go_big_quiet ((go_at_call 19; exact quiet_left (ref04_Member G x _)))
            go_wp2_with fail
            go_big_quiet (fail)
            go_wp2_with (go_at_call 29; refine (ref04_Signed (hs1.drewN _) hL _ D).mono ?_; rintro e w1 ⟨rfl, rfl⟩)
            go_roundw
            case rel => exact ⟨1, by omega, by go_num, by rw [HE.out, chkErr_step HX.out H0.out], hf.drewN _⟩
            case measure => simp [intOf]; omega
          · have H53 : Hid (chk1 G D L (lastAt xs 0) x = 53) := chk1_seal HK.out (by simpa using hL2)
            go_wp2_with fail
            go_big_quiet ((go_at_call 19; exact quiet_left (ref04_Member G x _)))
            go_wp2_with fail
            go_big_quiet (fail)
            go_wp2_with (go_at_call 29; refine (ref04_Signed (hs1.drewN _) hL _ D).mono ?_; rintro e w1 ⟨rfl, rfl⟩)
            refine bodyPost_ret (v := .tuple #[.int .i64 53, .agg #[.string (⟨#[115, 105, 103, 110, 101, 114]⟩ : ByteArray), .int .i64 0]]) (by simp [results, Tryd.results14, go_sem, y0, y1]) rfl ?_
            exact refChecked_of (by rw [checkE_some (by rw [HE.out, chkErr_stop HX.out (by rw [H53.out]; decide), H53.out])]; rfl) (hfs (by simp) _ _ _ hf1)
        · have hk1 : 1 ≤ k := by omega
          have hk2 : decide (0 < k) = true := decide_eq_true (by omega)
          obtain ⟨y, hy⟩ : ∃ y, xs[k - 1]? = some y := ⟨xs[k - 1], List.getElem?_eq_getElem (by omega)⟩
          have hly : lastAt xs k = y := by simp [lastAt, hk0, List.getD_eq_getElem?_getD, hy]
          obtain ⟨b', o', hbb, _, c1⟩ := HR.out (k - 1) y hy
          cases hbb
          have d1 := hf.cell_some c1 id
          clear c1
          by_cases hxy : x ≤ y
          · have H52 : Hid (chk1 G D L (lastAt xs k) x = 52) := chk1_who (.inr (by rw [hly]; exact hxy))
            clear hy hly
            go_wp2_with fail
            go_big_quiet ((go_at_call 19; exact quiet_left (ref04_Member G x _)))
            go_wp2_with fail
            go_big_quiet (fail)
            go_wp2
            refine bodyPost_ret (v := .tuple #[.int .i64 52, .agg #[.string (⟨#[115, 105, 103, 110, 101, 114]⟩ : ByteArray), .int .i64 k]]) (by simp [results, Tryd.results14, go_sem, y0, y1]) rfl ?_
            exact refChecked_of (by rw [checkE_some (by rw [HE.out, chkErr_stop HX.out (by rw [H52.out]; decide), H52.out])]) (hfs (by simp) _ _ _ hf1)
          · have HK : Hid (¬ (memberOf G x < 0 ∨ x ≤ lastAt xs k)) := by
              show ¬ _
              rw [hly]
              omega
            clear hy hly
            by_cases hL2 : (memberOf G x, D) ∈ L
            · have H0 : Hid (chk1 G D L (lastAt xs k) x = 0) := chk1_ok HK.out (by simpa using hL2)
              go_wp2_with fail
              go_big_quiet ((go_at_call 19; exact quiet_left (ref04_Member G x _)))
              go_wp2_with fail
              go_big_quiet (fail)
              go_wp2_with (go_at_call 29; refine (ref04_Signed (hs1.drewN _) hL _ D).mono ?_; rintro e w1 ⟨rfl, rfl⟩)
              go_roundw
              case rel => exact ⟨k + 1, by omega, by go_num, by rw [HE.out, chkErr_step HX.out H0.out], hf.drewN _⟩
              case measure => simp [intOf]; omega
            · have H53 : Hid (chk1 G D L (lastAt xs k) x = 53) := chk1_seal HK.out (by simpa using hL2)
              go_wp2_with fail
              go_big_quiet ((go_at_call 19; exact quiet_left (ref04_Member G x _)))
              go_wp2_with fail
              go_big_quiet (fail)
              go_wp2_with (go_at_call 29; refine (ref04_Signed (hs1.drewN _) hL _ D).mono ?_; rintro e w1 ⟨rfl, rfl⟩)
              refine bodyPost_ret (v := .tuple #[.int .i64 53, .agg #[.string (⟨#[115, 105, 103, 110, 101, 114]⟩ : ByteArray), .int .i64 k]]) (by simp [results, Tryd.results14, go_sem, y0, y1]) rfl ?_
              exact refChecked_of (by rw [checkE_some (by rw [HE.out, chkErr_stop HX.out (by rw [H53.out]; decide), H53.out])]) (hfs (by simp) _ _ _ hf1)
    · obtain rfl : k = xs.length := by omega
      have HE : Hid (chkErr G D L (-1) 0 xs = none) := by rw [he, List.drop_length]; rfl
      clear he hr0 b0 s0
      by_cases hn : need < 1 ∨ (xs.length : Int) < need
      · have HN := Lib.hid hn
        by_cases h1 : need < 1
        · clear hn
          go_wp2_with fail
          go_region
          go_wp2
          refine bodyPost_ret (v := .tuple #[.int .i64 51, .agg #[.string (⟨#[99, 104, 101, 99, 107]⟩ : ByteArray), .int .i64 xs.length]]) (by simp [results, Tryd.results14, go_sem, y2, y3]) rfl ?_
          exact refChecked_of (checkE_few HE.out HN.out) (hfs' (by simp) _ _ hf1).drew
        · have h2 : (xs.length : Int) < need := by omega
          clear hn
          go_wp2_with fail
          go_region
          go_wp2
          refine bodyPost_ret (v := .tuple #[.int .i64 51, .agg #[.string (⟨#[99, 104, 101, 99, 107]⟩ : ByteArray), .int .i64 xs.length]]) (by simp [results, Tryd.results14, go_sem, y2, y3]) rfl ?_
          exact refChecked_of (checkE_few HE.out HN.out) (hfs' (by simp) _ _ hf1).drew
      · have HN := Lib.hid hn
        have h1 : ¬ need < 1 := by omega
        have h2 : ¬ (xs.length : Int) < need := by omega
        clear hn
        go_wp2
        refine bodyPost_ret (v := .tuple #[.int .i64 0, .agg #[.string ⟨#[]⟩, .int .i64 0]]) (by simp [results, Tryd.results14, go_sem, y2, y3]) rfl ?_
        exact refChecked_none (checkE_ok HE.out HN.out) (hfs' (by simp) _ _ hf1)
end Go.Proofs.YtjnmfaaegbkmhaaDoor
