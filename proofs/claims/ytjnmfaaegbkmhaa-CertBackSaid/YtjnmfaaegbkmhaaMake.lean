/- cert.Make. -/
import Derived.Test.YtjnmfaaegbkmhaaCheck
namespace Go.Proofs.Ytjnmfaaegbkmhaa
open Go Go.RowKit
def whoInts (G D : Int) (L : List (Int × Int)) : List Int := (whoTo G D L 10).map fun (i : Nat) => (i : Int)
theorem whoInts_length (G D : Int) (L : List (Int × Int)) : (whoInts G D L).length = (whoTo G D L 10).length := by simp [whoInts]
theorem IntRow.of_own {w : World} {base : Nat} {A : Option Addr} {n cap : Nat} {l : List Nat} (h : w.ownsRow base 3 1 (.slice A n cap) l.length (intVals l)) : IntRow w w.heap.size A (l.map fun (i : Nat) => (i : Int)) := by
  obtain ⟨A', cap', hv, _, hat⟩ := own_form h
  cases hv
  intro k x hx
  obtain ⟨b, hb, _, hc⟩ := hat k (.int .i64 x) (by
    rw [List.getElem?_map] at hx
    obtain ⟨i, hi, rfl⟩ := Option.map_eq_some_iff.1 hx
    simp [intVals, hi])
  exact ⟨b, 0, hb, World.block_lt_of_cell? w _ hc, by rw [Nat.zero_add]; exact hc⟩
theorem IntRow.take {w : World} {B : Nat} {A : Option Addr} {xs : List Int} (h : IntRow w B A xs) (n : Nat) : IntRow w B A (xs.take n) := by
  intro k x hx
  rw [List.getElem?_take] at hx
  split at hx
  · exact h k x hx
  · cases hx
def Made (w : World) (G D : Int) (L : List (Int × Int)) (need : Int) (e : Ending) (w' : World) : Prop :=
  Fr (fun _ => False) w w' ∧
  (((need < 1 ∨ ((whoInts G D L).length : Int) < need) ∧ e = .returned (.tuple #[.agg #[.int .i64 0, .int .i64 0, .slice none 0 0], errV [((⟨#[109, 97, 107, 101]⟩ : ByteArray), ((whoInts G D L).length : Int))] 51])) ∨
   (¬ (need < 1 ∨ ((whoInts G D L).length : Int) < need) ∧ ∃ A cap, e = .returned (.tuple #[.agg #[.int .i64 G, .int .i64 D, .slice A ((whoInts G D L).take need.toNat).length cap], .nilIface]) ∧ IntRow w' w'.heap.size A ((whoInts G D L).take need.toNat)))
set_option maxRecDepth 100000 in
theorem cert_Make {w : World} {g m : Nat} {L : List (Int × Int)} (hs : SealsAt w g m L) (G D need : Int) :
    Calls Try.prog 8 #[.pointer (some ⟨g, 0, none⟩), .int .i64 G, .int .i64 D, .int .i64 need] w (Made w G D L need) := by
  go_enter Try.func8, Try.ntmps8
  go_wp2_with fail
  have hf0 : Fr (fun _ => False) w (w.alloc (Obj.cells #[.int .i64 0, .int .i64 0, .slice none 0 0] 25)) := (Fr.refl _ _).alloc _
  refine (seals_Who (hs.fr hf0 id id) G D).mono ?_
  rintro e w1 ⟨v, rfl, hown, hf1⟩
  obtain ⟨A, cap, rfl, hcap, _⟩ := own_form hown
  have b1 : Blk w1 w.heap.size 25 #[.int .i64 0, .int .i64 0, .slice none 0 0] := (Blk.new _ _ _).fr hf1 id
  have c0 := b1.cell 0
  have c1 := b1.cell 1
  have c2 := b1.cell 2
  have z0 := b1.frozen 0
  have z1 := b1.frozen 1
  have z2 := b1.frozen 2
  have hf2 := hf0.then_ hf1
  by_cases hn : need < 1 ∨ ((whoTo G D L 10).length : Int) < need
  · have HN := Lib.hid hn
    by_cases h1 : need < 1
    · clear hn
      go_wp2_with (first
        | (go_at_call 22; refine (fault_Of _ rfl _).mono ?_; rintro e w' ⟨rfl, rfl⟩)
        | (go_at_call 21; refine (fault_Wrap _ _ _ _ _).mono ?_; rintro e w' ⟨rfl, rfl⟩))
      have b2 := ((b1.set_ 0 (.int .i64 0)).set_ 1 (.int .i64 0)).set_ 2 (.slice none 0 0)
      have d0 := b2.cell 0
      have d1 := b2.cell 1
      have d2 := b2.cell 2
      refine bodyPost_ret (v := .tuple #[.agg #[.int .i64 0, .int .i64 0, .slice none 0 0], errV [((⟨#[109, 97, 107, 101]⟩ : ByteArray), ((whoTo G D L 10).length : Int))] 51]) (by simp [results, Try.results8, go_sem, d0, d1, d2]) rfl ?_
      refine ⟨?_, .inl ⟨by rw [whoInts_length]; exact HN.out, by rw [whoInts_length]⟩⟩
      exact Fr.setCell (p := ⟨w.heap.size, 2, none⟩) (Fr.setCell (p := ⟨w.heap.size, 1, none⟩) (Fr.setCell (p := ⟨w.heap.size, 0, none⟩) hf2 (fun h => absurd h (Nat.lt_irrefl _)) _) (fun h => absurd h (Nat.lt_irrefl _)) _) (fun h => absurd h (Nat.lt_irrefl _)) _
    · have h2 : ((whoTo G D L 10).length : Int) < need := by omega
      clear hn
      go_wp2_with (first
        | (go_at_call 22; refine (fault_Of _ rfl _).mono ?_; rintro e w' ⟨rfl, rfl⟩)
        | (go_at_call 21; refine (fault_Wrap _ _ _ _ _).mono ?_; rintro e w' ⟨rfl, rfl⟩))
      have b2 := ((b1.set_ 0 (.int .i64 0)).set_ 1 (.int .i64 0)).set_ 2 (.slice none 0 0)
      have d0 := b2.cell 0
      have d1 := b2.cell 1
      have d2 := b2.cell 2
      refine bodyPost_ret (v := .tuple #[.agg #[.int .i64 0, .int .i64 0, .slice none 0 0], errV [((⟨#[109, 97, 107, 101]⟩ : ByteArray), ((whoTo G D L 10).length : Int))] 51]) (by simp [results, Try.results8, go_sem, d0, d1, d2]) rfl ?_
      refine ⟨?_, .inl ⟨by rw [whoInts_length]; exact HN.out, by rw [whoInts_length]⟩⟩
      exact Fr.setCell (p := ⟨w.heap.size, 2, none⟩) (Fr.setCell (p := ⟨w.heap.size, 1, none⟩) (Fr.setCell (p := ⟨w.heap.size, 0, none⟩) hf2 (fun h => absurd h (Nat.lt_irrefl _)) _) (fun h => absurd h (Nat.lt_irrefl _)) _) (fun h => absurd h (Nat.lt_irrefl _)) _
  · have HN := Lib.hid hn
    have h1 : ¬ need < 1 := by omega
    have h2 : ¬ ((whoTo G D L 10).length : Int) < need := by omega
    obtain ⟨n, rfl⟩ : ∃ n : Nat, need = n := ⟨need.toNat, by omega⟩
    have h3 : n ≤ (whoTo G D L 10).length := by omega
    have h4 : n ≤ cap := by omega
    have h5 : ¬ cap = 0 := by omega
    have hlen : ((whoInts G D L).take n).length = n := by rw [List.length_take, whoInts_length]; omega
    clear hn
    go_wp2_with fail
    have b2 := b1.set_ 0 (.int .i64 G)
    have b3 := b2.set_ 1 (.int .i64 D)
    have b4 := b3.set_ 2 (.slice A n cap)
    have d0 := b4.cell 0
    have d1 := b4.cell 1
    have d2 := b4.cell 2
    have o4 := own_setCell (own_setCell (own_setCell hown b1 (by decide) 0 (.int .i64 G)) b2 (by decide) 1 (.int .i64 D)) b3 (by decide) 2 (.slice A n cap)
    refine bodyPost_ret (v := .tuple #[.agg #[.int .i64 G, .int .i64 D, .slice A n cap], .nilIface]) (by simp [results, Try.results8, go_sem, d0, d1, d2]) rfl ?_
    refine ⟨?_, .inr ⟨by rw [whoInts_length]; exact HN.out, A, cap, ?_, ?_⟩⟩
    · exact Fr.setCell (p := ⟨w.heap.size, 2, none⟩) (Fr.setCell (p := ⟨w.heap.size, 1, none⟩) (Fr.setCell (p := ⟨w.heap.size, 0, none⟩) hf2 (fun h => absurd h (Nat.lt_irrefl _)) _) (fun h => absurd h (Nat.lt_irrefl _)) _) (fun h => absurd h (Nat.lt_irrefl _)) _
    · rw [Int.toNat_natCast, hlen]
    · rw [Int.toNat_natCast]
      exact (IntRow.of_own o4).take n
end Go.Proofs.Ytjnmfaaegbkmhaa
