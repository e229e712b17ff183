/- Maps whose keys are strings, each element the place in which its key came. -/
import Derived.Test.YtcfanacfjcgnbaaGreatDoorStrB
namespace Go.Proofs.YtcfanacfjcgnbaaGreatDoor
open Go Go.RowKit
section
variable {P : Program} {w : World}
def B8 (xs : List Int) : Prop := ∀ x ∈ xs, 0 ≤ x ∧ x ≤ 255
def strV (x : List Int) : Value := .string (strOfNums x)
/-- Block m is a map whose keys, in the order in which they came, are the texts L; each element is its key's place. -/
def StrMap (w : World) (m : Nat) (L : List (List Int)) : Prop :=
  (∃ es cl, w.heap[m]? = some (.map es cl) ∧ es.toList.map (·.key) = L.map strV ∧ ∀ (j : Nat) e, es.toList[j]? = some e → e.val = .int .i64 j) ∧ ∀ t ∈ L, B8 t
theorem StrMap.fr {S : Nat → Prop} {w w' : World} {m : Nat} {L : List (List Int)} (h : StrMap w m L) (hf : Fr S w w') (hs : ¬ S m) : StrMap w' m L := by
  obtain ⟨⟨es, cl, h1, h2⟩, h3⟩ := h
  exact ⟨⟨es, cl, hf.at_ h1 hs, h2⟩, h3⟩
theorem StrMap.lt {w : World} {m : Nat} {L : List (List Int)} (h : StrMap w m L) : m < w.heap.size := by
  obtain ⟨⟨es, cl, h1, _⟩, _⟩ := h
  exact lt_of_heap h1
theorem idxOf_other {q s : List Int} {L : List (List Int)} (h : s ≠ q) : (q :: L).idxOf s = L.idxOf s + 1 := by
  rw [List.idxOf_cons]
  have : (q == s) = false := by simpa using fun e => h e.symm
  rw [this]
  rfl
theorem findNow_str {s : List Int} (hs : B8 s) : ∀ (es : List MapEntry) (L : List (List Int)) (i c : Nat), es.map (·.key) = L.map strV → (∀ t ∈ L, B8 t) → (∀ (j : Nat) e, es[j]? = some e → e.val = .int .i64 ((c + j : Nat) : Int)) →
    Instr.findNow .string (strV s) es i = some (if s ∈ L then some (i + L.idxOf s, .int .i64 ((c + L.idxOf s : Nat) : Int)) else none)
  | [], L, i, c, h, _, _ => by
    obtain rfl : L = [] := by simpa using h.symm
    simp [Instr.findNow]
  | x :: es, L, i, c, h, hL, hv => by
    obtain ⟨q, L', rfl, hq, hr⟩ : ∃ q L', L = q :: L' ∧ x.key = strV q ∧ es.map (·.key) = L'.map strV := by
      cases L with
      | nil => simp at h
      | cons q L' => simp only [List.map_cons, List.cons.injEq] at h; exact ⟨q, L', rfl, h.1, h.2⟩
    have ih := findNow_str hs es L' (i + 1) (c + 1) hr (fun t ht => hL t (.tail _ ht)) (fun j e he => by
      have := hv (j + 1) e (by simpa using he)
      rw [this]
      congr 2
      omega)
    have h0 := hv 0 x rfl
    by_cases hsq : s = q
    · subst hsq
      have e1 : Instr.sameNow .string (strV s) x.key = some true := by
        rw [hq]
        exact congrArg some ((MapKept.bytes_beq _ _).2 rfl)
      rw [Instr.findNow, e1]
      simp [h0]
    · have e1 : Instr.sameNow .string (strV s) x.key = some false := by
        rw [hq]
        refine congrArg some (Bool.eq_false_iff.2 fun hh => hsq ?_)
        exact strOf_inj hs (hL q (.head _)) ((MapKept.bytes_beq _ _).1 hh)
      rw [Instr.findNow, e1]
      have e2 := idxOf_other (L := L') hsq
      show Instr.findNow .string (strV s) es (i + 1) = _
      rw [ih, e2]
      by_cases hm : s ∈ L'
      · rw [if_pos hm, if_pos (.tail _ hm)]
        congr 3
        · omega
        · congr 2; omega
      · rw [if_neg hm, if_neg (by simp [hsq, hm])]
variable {mt k e : TypeId}
theorem run_find_str (hk : P.underlying k = some .string) {es : Array MapEntry} {L : List (List Int)} (h2 : es.toList.map (·.key) = L.map strV) (h3 : ∀ (j : Nat) e, es.toList[j]? = some e → e.val = .int .i64 j) (hL : ∀ t ∈ L, B8 t) {s : List Int} (hs : B8 s) :
    (Instr.findKey k (strV s) es.toList).run P w = .ok (if s ∈ L then some (L.idxOf s, .int .i64 (L.idxOf s : Int)) else none) w := by
  have hf := findNow_str hs es.toList L 0 0 h2 hL (fun j e he => by rw [h3 j e he]; congr 2; omega)
  simp only [Nat.zero_add] at hf
  simp [Instr.findKey, run_underlying hk, hf]
theorem run_check_str (hk : P.underlying k = some .string) (em : Bool) (s : List Int) : (Instr.checkKey em 10000 k (strV s)).run P w = .ok () w := by
  show (Instr.checkKey em (9999 + 1) k (strV s)).run P w = .ok () w
  rw [Instr.checkKey]
  simp [run_underlying hk, strV]
theorem run_lookup_in (hm : P.underlying mt = some (.map k e)) (hk : P.underlying k = some .string) {m : Nat} {L : List (List Int)} (h : StrMap w m L) {s : List Int} (hs : B8 s) (hin : s ∈ L) :
    (Instr.lookup mt (.map (some m)) (.string (strOfNums s)) true).run P w = .ok (.tuple #[.int .i64 (L.idxOf s : Int), .bool true]) w := by
  obtain ⟨⟨es, cl, h1, h2, h3⟩, hL⟩ := h
  have hr := run_find_str (w := w) hk h2 h3 hL hs
  have hc := fun em => run_check_str (w := w) hk em s
  rw [if_pos hin] at hr
  simp only [strV] at hc hr
  simp [Instr.lookup, run_underlying hm, MapKept.run_getObj_map h1, hc, hr]
theorem run_lookup_out (hm : P.underlying mt = some (.map k e)) (hk : P.underlying k = some .string) (hz : ∀ w : World, (zeroValue e).run P w = .ok (.int .i64 0) w) {m : Nat} {L : List (List Int)} (h : StrMap w m L) {s : List Int} (hs : B8 s) (hin : s ∉ L) :
    (Instr.lookup mt (.map (some m)) (.string (strOfNums s)) true).run P w = .ok (.tuple #[.int .i64 0, .bool false]) w := by
  obtain ⟨⟨es, cl, h1, h2, h3⟩, hL⟩ := h
  have hr := run_find_str (w := w) hk h2 h3 hL hs
  have hc := fun em => run_check_str (w := w) hk em s
  rw [if_neg hin] at hr
  simp only [strV] at hc hr
  simp [Instr.lookup, run_underlying hm, MapKept.run_getObj_map h1, hc, hr, hz]
theorem run_update_str (hm : P.underlying mt = some (.map k e)) (hk : P.underlying k = some .string) {m : Nat} {L : List (List Int)} (h : StrMap w m L) {s : List Int} (hs : B8 s) (hn : s ∉ L) (n : Int) (hnL : n = L.length) :
    ∃ w', (Instr.mapUpdate mt (.map (some m)) (.string (strOfNums s)) (.int .i64 n)).run P w = .ok () w' ∧ Fr (fun x => x = m) w w' ∧ StrMap w' m (L ++ [s]) := by
  subst hnL
  obtain ⟨⟨es, cl, h1, h2, h3⟩, hL⟩ := h
  have hr := run_find_str (w := w) hk h2 h3 hL hs
  have hc := fun em => run_check_str (w := w) hk em s
  rw [if_neg hn] at hr
  simp only [strV] at hc hr
  have hlen : es.toList.length = L.length := by
    have := congrArg List.length h2
    simpa using this
  refine ⟨ChangeMaps.setBlock w m (.map (es.push ⟨strV s, .int .i64 L.length, cl⟩) (cl + 1)), ?_, (Fr.refl (fun x => x = m) w).setBlock (fun _ => rfl) _, ⟨es.push ⟨strV s, .int .i64 L.length, cl⟩, cl + 1, ?_, ?_, ?_⟩, ?_⟩
  · simp [Instr.mapUpdate, run_underlying hm, MapKept.run_getObj_map h1, hc, hr, MapKept.run_setObj_map _ h1, Result.andThen, ChangeMaps.setBlock, strV]
  · simp only [ChangeMaps.setBlock]
    rw [Array.getElem?_setIfInBounds_self_of_lt (lt_of_heap h1)]
  · simp [h2]
  · intro j x hx
    rw [Array.toList_push] at hx
    by_cases hj : j < es.toList.length
    · rw [List.getElem?_append_left hj] at hx
      exact h3 j x hx
    · rw [List.getElem?_append_right (Nat.not_lt.1 hj)] at hx
      rcases hjj : j - es.toList.length with _ | q
      · rw [hjj] at hx
        obtain rfl := Option.some.inj hx
        show Value.int .i64 (L.length : Int) = .int .i64 (j : Int)
        congr 1
        omega
      · rw [hjj] at hx
        simp at hx
  · intro t ht
    rcases List.mem_append.1 ht with ht | ht
    · exact hL t ht
    · rw [List.mem_singleton.1 ht]
      exact hs
end
end Go.Proofs.YtcfanacfjcgnbaaGreatDoor
