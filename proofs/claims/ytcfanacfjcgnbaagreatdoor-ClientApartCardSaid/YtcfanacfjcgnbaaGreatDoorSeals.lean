/- seals: New, Signed, Sign, Who. -/
import Derived.Test.YtcfanacfjcgnbaaGreatDoorSmall
namespace Go.Proofs.YtcfanacfjcgnbaaGreatDoor
open Go Go.RowKit
theorem sealType : PairType Tryz.prog 97 101 3 95 where
  map := by kernel_rfl
  int := by kernel_rfl
  stood := by kernel_rfl
  desc := ⟨_, _, Tryz.underlying101, rfl, rfl, rfl, rfl, by decide, by decide⟩
  elem := fun _ => by kernel_rfl
/-- The seals behind the pointer to block g: block m is their map, with these pairs. -/
structure SealsAt (w : World) (g m : Nat) (L : List (Int × Int)) : Prop where
  blk : Blk w g 99 #[.map (some m)]
  map : PairMap w m L
theorem SealsAt.fr {S : Nat → Prop} {w w' : World} {g m : Nat} {L : List (Int × Int)} (h : SealsAt w g m L) (hf : Fr S w w') (hg : ¬ S g) (hm : ¬ S m) : SealsAt w' g m L :=
  ⟨h.blk.fr hf hg, h.map.fr hf hm⟩
theorem SealsAt.drew {w : World} {g m : Nat} {L : List (Int × Int)} (h : SealsAt w g m L) : SealsAt w.drew g m L := ⟨h.blk, h.map⟩
theorem SealsAt.drewN {w : World} {g m : Nat} {L : List (Int × Int)} (h : SealsAt w g m L) (n : Nat) : SealsAt (w.drewN n) g m L := ⟨h.blk, h.map⟩
theorem SealsAt.ne {w : World} {g m : Nat} {L : List (Int × Int)} (h : SealsAt w g m L) : g ≠ m := by
  obtain ⟨es, cl, h1, _⟩ := h.map
  exact h.blk.ne_map h1
theorem seals_New (w : World) : Calls Tryz.prog 21 #[] w fun e w' => ∃ g m, e = .returned (.pointer (some ⟨g, 0, none⟩)) ∧ w.heap.size ≤ g ∧ w.heap.size ≤ m ∧ SealsAt w' g m [] ∧ Fr (fun _ => False) w w' := by
  have hmm := @run_makeMap Tryz.prog
  go_enter Tryz.func21, Tryz.ntmps21
  go_wp2
  go_ret
  exact ⟨w.heap.size + 1, w.heap.size, rfl, by omega, by omega, ⟨Blk.new_ _ _ _ (by simp), ⟨#[], 0, (Below.heap_alloc _ _ _ (by simp)).trans (heap_alloc_new _ _), rfl, by simp⟩⟩, ((Fr.refl _ _).alloc _).alloc _⟩
theorem seals_Signed {w : World} {g m : Nat} {L : List (Int × Int)} (h : SealsAt w g m L) (who d : Int) :
    Calls Tryz.prog 18 #[.pointer (some ⟨g, 0, none⟩), .int .i64 who, .int .i64 d] w fun e w' => e = .returned (.bool (decide ((who, d) ∈ L))) ∧ Fr (fun _ => False) w w' := by
  have hc := h.blk.cell 0
  have hl := run_lookup_pair (w := w) sealType h.map who d
  go_enter Tryz.func18, Tryz.ntmps18
  go_wp2
  go_ret
  exact ⟨rfl, (Fr.refl _ _).alloc _⟩
set_option maxRecDepth 100000 in
theorem seals_Sign {w : World} {g m : Nat} {L : List (Int × Int)} (h : SealsAt w g m L) (who d : Int) (hi : who ≤ 9223372036854775807) :
    Calls Tryz.prog 28 #[.pointer (some ⟨g, 0, none⟩), .int .i64 who, .int .i64 d] w fun e w' => e = .returned (errO (signErr who d L)) ∧ SealsAt w' g m (signL who d L) ∧ Fr (fun x => x = m) w w' := by
  by_cases hm : (who, d) ∈ L
  · go_enter Tryz.func28, Tryz.ntmps28
    go_wp2_with (first
      | (go_at_call 43; refine (seals_Group who hi _).mono ?_; rintro e w' ⟨rfl, rfl⟩)
      | (go_at_call 41; refine (seals_Client who _).mono ?_; rintro e w' ⟨rfl, rfl⟩)
      | (go_at_call 44; refine (fault_Of _ rfl _).mono ?_; rintro e w' ⟨rfl, rfl⟩)
      | (go_at_call 42; refine (fault_Wrap _ _ _ _ _).mono ?_; rintro e w' ⟨rfl, rfl⟩)
      | (go_at_call 18; refine (seals_Signed h who d).mono ?_; rintro e w1 ⟨rfl, hf1⟩; have h1 := h.fr hf1 id id; have hc1 := h1.blk.cell 0; have hlen := run_len_pair (P := Tryz.prog) (ty := 3) sealType.map h1.map))
    all_goals go_ret
    all_goals first
      | (obtain ⟨q1, q2⟩ := sign_bad (L := L) (show (clientOf who < 0 ∧ groupOf who < 0) ∨ d < 0 by omega); rw [q1, q2]; exact ⟨rfl, h, Fr.refl _ _⟩)
      | (obtain ⟨q1, q2⟩ := sign_in (L := L) (show ¬ ((clientOf who < 0 ∧ groupOf who < 0) ∨ d < 0) by omega) hm; rw [q1, q2]; exact ⟨rfl, h1, hf1.mono (fun _ _ hx => hx.elim)⟩)
  · go_enter Tryz.func28, Tryz.ntmps28
    go_wp2_with (first
      | (go_at_call 43; refine (seals_Group who hi _).mono ?_; rintro e w' ⟨rfl, rfl⟩)
      | (go_at_call 41; refine (seals_Client who _).mono ?_; rintro e w' ⟨rfl, rfl⟩)
      | (go_at_call 44; refine (fault_Of _ rfl _).mono ?_; rintro e w' ⟨rfl, rfl⟩)
      | (go_at_call 42; refine (fault_Wrap _ _ _ _ _).mono ?_; rintro e w' ⟨rfl, rfl⟩)
      | (go_at_call 18; refine (seals_Signed h who d).mono ?_; rintro e w1 ⟨rfl, hf1⟩; have h1 := h.fr hf1 id id; have hc1 := h1.blk.cell 0; have hlen := run_len_pair (P := Tryz.prog) (ty := 3) sealType.map h1.map; obtain ⟨w2, hu, hf2, hm2⟩ := run_update_pair sealType h1.map who d hm))
    all_goals go_ret
    all_goals first
      | (obtain ⟨q1, q2⟩ := sign_bad (L := L) (show (clientOf who < 0 ∧ groupOf who < 0) ∨ d < 0 by omega); rw [q1, q2]; exact ⟨rfl, h, Fr.refl _ _⟩)
      | (obtain ⟨q1, q2⟩ := sign_full (L := L) (show ¬ ((clientOf who < 0 ∧ groupOf who < 0) ∨ d < 0) by omega) hm ‹_›; rw [q1, q2]; exact ⟨rfl, h1, hf1.mono (fun _ _ hx => hx.elim)⟩)
      | (obtain ⟨q1, q2⟩ := sign_new (L := L) (show ¬ ((clientOf who < 0 ∧ groupOf who < 0) ∨ d < 0) by omega) hm ‹_›; rw [q1, q2]; exact ⟨rfl, ⟨h1.blk.fr hf2 h1.ne, hm2⟩, (hf1.mono (fun _ _ hx => hx.elim)).trans hf2 (fun _ _ hx => hx)⟩)
/-- Who of a group signed: of the first n places. -/
def whoTo (g d : Int) (L : List (Int × Int)) (n : Nat) : List Nat := (List.range n).filter fun (i : Nat) => decide (0 ≤ memberOf g i ∧ (memberOf g i, d) ∈ L)
theorem whoTo_succ_yes {g d : Int} {L : List (Int × Int)} {n : Nat} (h0 : 0 ≤ memberOf g n) (h1 : (memberOf g n, d) ∈ L) : whoTo g d L (n + 1) = whoTo g d L n ++ [n] := by
  simp [whoTo, List.range_succ, h0, h1]
theorem whoTo_succ_no {g d : Int} {L : List (Int × Int)} {n : Nat} (h : ¬ (0 ≤ memberOf g n ∧ (memberOf g n, d) ∈ L)) : whoTo g d L (n + 1) = whoTo g d L n := by
  simp only [whoTo, List.range_succ, List.filter_append, List.filter_cons, List.filter_nil, decide_eq_true_eq, h]
  simp
theorem whoTo_le (g d : Int) (L : List (Int × Int)) (n : Nat) : (whoTo g d L n).length ≤ n := by
  have := List.length_filter_le (fun (i : Nat) => decide (0 ≤ memberOf g i ∧ (memberOf g i, d) ∈ L)) (List.range n)
  simpa [whoTo] using this
theorem int_info : (Tryz.prog.info? 3).map (fun i => (i.zero, i.size, i.bytes)) = some (some (.int .i64 0), 1, 8) := by kernel_rfl
def intVals (l : List Nat) : List Value := l.map fun (i : Nat) => Value.int .i64 i
set_option maxRecDepth 100000 in
theorem seals_Who {w : World} {g m : Nat} {L : List (Int × Int)} (h : SealsAt w g m L) (gr d : Int) :
    Calls Tryz.prog 40 #[.pointer (some ⟨g, 0, none⟩), .int .i64 gr, .int .i64 d] w fun e w' => ∃ v, e = .returned v ∧ w'.ownsRow w.heap.size 3 1 v (whoTo gr d L 10).length (intVals (whoTo gr d L 10)) ∧ Fr (fun _ => False) w w' := by
  obtain ⟨i0, hi, hz0, hz1, hz2⟩ := info_parts int_info
  go_enter Tryz.func40, Tryz.ntmps40
  go_wp2_with fail
  go_loopw [7, 10] (fun v i wr => ∃ k : Nat, k ≤ 10 ∧ i = .int .i64 k ∧ wr.ownsRow w.heap.size 3 1 v (whoTo gr d L k).length (intVals (whoTo gr d L k)) ∧ Fr (fun _ => False) w wr) (fun _ i _ => 10 - (intOf i).toNat)
  case atStart => exact ⟨0, by omega, rfl, ⟨rfl, .inl ⟨rfl, rfl⟩⟩, Fr.refl _ _⟩
  case round =>
    obtain ⟨k, hk, rfl, hown, hf⟩ := hrel
    have hr := h.fr hf id id
    by_cases hlt : k < 10
    · by_cases h0 : 0 ≤ memberOf gr k
      · by_cases hm : (memberOf gr k, d) ∈ L
        · go_wp2_with (first
            | (go_at_call 64; refine (seals_Member gr k _).mono ?_; rintro e w' ⟨rfl, rfl⟩)
            | (go_at_call 18; refine (seals_Signed hr _ d).mono ?_; rintro e w1 ⟨rfl, hf1⟩; have hown1 := own_fr hown hf1 (fun _ _ => id); have hsz1 := hf1.size)
            | (at_builtin; go_loud (refine wpList_append1 _ rfl _ _ _ rfl w.heap.size 3 (.int .i64 0) 8 Tryz.underlying55 int_info rfl u7 _ _ rfl (hown1.alloc _) w1.heap.size (.int .i64 k) rfl ?_ rfl ?_ (by omega) ?_ ?_); (· simp); (· have := whoTo_le gr d L k; omega); (· have := hf.size; simp; omega); intro g2 c2 w2 hown2 hf2))
          go_roundw
          case rel =>
            have hfw : Fr (fun _ => False) w (w1.alloc (Obj.cells #[Value.int IntKind.i64 k] 3)) := (hf.then_ hf1).alloc _
            exact ⟨k + 1, by omega, by go_num, by rw [whoTo_succ_yes h0 hm]; simpa [intVals] using hown2, hfw.own hown1 hf2 (Nat.le_refl _)⟩
          case measure => simp [intOf]; omega
        · go_wp2_with (first
            | (go_at_call 64; refine (seals_Member gr k _).mono ?_; rintro e w' ⟨rfl, rfl⟩)
            | (go_at_call 18; refine (seals_Signed hr _ d).mono ?_; rintro e w1 ⟨rfl, hf1⟩))
          go_roundw
          case rel => exact ⟨k + 1, by omega, by go_num, by rw [whoTo_succ_no (fun h => hm h.2)]; exact own_fr hown hf1 (fun _ _ => id), hf.then_ hf1⟩
          case measure => simp [intOf]; omega
      · go_wp2_with (first
          | (go_at_call 64; refine (seals_Member gr k _).mono ?_; rintro e w' ⟨rfl, rfl⟩))
        go_roundw
        case rel => exact ⟨k + 1, by omega, by go_num, by rw [whoTo_succ_no (fun h => by have := h.1; omega)]; exact hown, hf⟩
        case measure => simp [intOf]; omega
    · obtain rfl : k = 10 := by omega
      go_wp2
      go_ret
      exact ⟨_, rfl, hown, hf⟩
end Go.Proofs.YtcfanacfjcgnbaaGreatDoor
