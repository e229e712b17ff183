/- Parts of the proof, joined. -/
import Derived.WalkKit
import Derived.WalkLawsBesides
import Derived.WalkSpells
import Derived.Maps.Own
import Derived.OneCell
import Derived.Deep.QuietTactic
import Derived.BigQuiet
import Derived.Test.YtmkdhhhoodeemaaGreatProg
import Derived.Lib.Hide
import Derived.Lib.SliceRun
import Derived.Deep.AppendLies
import Derived.Maps.AppendAt
import Derived.Deep.RegionLaw
import Derived.Laws.BytesArg
import Derived.Lib.ConvBytes
import Derived.Deep.RegionHeld3
set_option linter.unusedVariables false
set_option linter.unusedSimpArgs false
/- Words on memory for this seat: what a call leaves as it was, a block known whole, maps whose keys are pairs of integers. Plain lemmas over any program. -/
namespace Go.Proofs.YtmkdhhhoodeemaaGreat
open Go Go.RowKit

/-- What was there before and does not lie in S is as it was. -/
structure Fr (S : Nat → Prop) (w w' : World) : Prop where
  os : w'.os = w.os
  tape : w'.tape = w.tape
  output : w'.output = w.output
  size : w.heap.size ≤ w'.heap.size
  block : ∀ k, k < w.heap.size → ¬ S k → w'.heap[k]? = w.heap[k]?

section
variable {S T : Nat → Prop} {a b c w w' : World}
theorem Fr.refl (S : Nat → Prop) (w : World) : Fr S w w := ⟨rfl, rfl, rfl, Nat.le_refl _, fun _ _ _ => rfl⟩
theorem Fr.trans (h : Fr S a b) (k : Fr T b c) (hT : ∀ x, x < a.heap.size → T x → S x) : Fr S a c :=
  ⟨k.os.trans h.os, k.tape.trans h.tape, k.output.trans h.output, Nat.le_trans h.size k.size,
   fun i hi hs => (k.block i (Nat.lt_of_lt_of_le hi h.size) (fun ht => hs (hT i hi ht))).trans (h.block i hi hs)⟩
theorem Fr.mono (h : Fr S a b) (hT : ∀ x, x < a.heap.size → S x → T x) : Fr T a b :=
  ⟨h.os, h.tape, h.output, h.size, fun i hi hs => h.block i hi (fun x => hs (hT i hi x))⟩
theorem Fr.then_ (h : Fr S a b) (k : Fr (fun _ => False) b c) : Fr S a c := h.trans k (fun _ _ hx => hx.elim)
theorem Fr.drew (h : Fr S a w) : Fr S a w.drew := ⟨h.os, h.tape, h.output, h.size, h.block⟩
theorem Fr.drewN (h : Fr S a w) (n : Nat) : Fr S a (w.drewN n) := ⟨h.os, h.tape, h.output, h.size, h.block⟩
theorem Fr.alloc (h : Fr S a w) (o : Obj) : Fr S a (w.alloc o) :=
  h.trans (T := fun _ => False) ⟨rfl, rfl, rfl, by simp, fun k hk _ => Below.heap_alloc _ _ _ hk⟩ (fun _ _ hx => hx.elim)
theorem Fr.setCell (h : Fr S a w) {p : Addr} (hp : p.block < a.heap.size → S p.block) (u : Value) : Fr S a (w.setCell p u) :=
  h.trans (T := fun k => k = p.block) ⟨rfl, rfl, rfl, by simp, fun k _ hk => Below.heap_setCell _ _ _ _ hk⟩ (fun x hx e => by subst e; exact hp hx)
theorem Fr.setBlock (h : Fr S a w) {m : Nat} (hp : m < a.heap.size → S m) (o : Obj) : Fr S a (ChangeMaps.setBlock w m o) :=
  h.trans (T := fun k => k = m) ⟨rfl, rfl, rfl, by simp [ChangeMaps.setBlock], fun k _ hk => by
    simp only [ChangeMaps.setBlock]
    rw [Array.getElem?_setIfInBounds_ne (fun e => hk e.symm)]⟩ (fun x hx e => by subst e; exact hp hx)
theorem Fr.grown (h : Fr S a w) {row : Option Nat} (hg : w.grownBy w' row) (hr : ∀ k, k < a.heap.size → row = some k → S k) : Fr S a w' :=
  h.trans (T := fun k => row = some k) ⟨hg.os, hg.tape, hg.output, hg.size, fun k hk hn => hg.block k hk (fun e => hn e.symm)⟩ hr
theorem Fr.below {B : Nat} (h : Fr S w w') (hB : B ≤ w.heap.size) (hS : ∀ k, k < B → ¬ S k) : Below B w w' :=
  ⟨h.os, h.tape, h.output, h.size, fun k hk => h.block k (Nat.lt_of_lt_of_le hk hB) (hS k hk)⟩
theorem Fr.cell (h : Fr S w w') {p : Addr} (hp : p.block < w.heap.size) (hs : ¬ S p.block) : w'.cell? p = w.cell? p :=
  World.cell?_of_block (w := w) (h.block p.block hp hs)
theorem Fr.cell_some (h : Fr S w w') {p : Addr} {v : Value} (hc : w.cell? p = some v) (hs : ¬ S p.block) : w'.cell? p = some v :=
  (h.cell (World.block_lt_of_cell? w p hc) hs).trans hc
theorem Fr.frozen (h : Fr S w w') {p : Addr} (hp : p.block < w.heap.size) (hs : ¬ S p.block) : w'.frozen? p = w.frozen? p :=
  World.frozen?_of_block (w := w) (h.block p.block hp hs)
theorem Fr.at_ (h : Fr S w w') {k : Nat} {o : Obj} (hk : w.heap[k]? = some o) (hs : ¬ S k) : w'.heap[k]? = some o := by
  have hlt : k < w.heap.size := by
    rcases Nat.lt_or_ge k w.heap.size with h1 | h1
    · exact h1
    · rw [Array.getElem?_eq_none h1] at hk; cases hk
  exact (h.block k hlt hs).trans hk
end

theorem lt_of_heap {w : World} {k : Nat} {o : Obj} (hk : w.heap[k]? = some o) : k < w.heap.size := by
  rcases Nat.lt_or_ge k w.heap.size with h1 | h1
  · exact h1
  · rw [Array.getElem?_eq_none h1] at hk; cases hk

/-- Block g is just the cells cs of element type t, none frozen. -/
def Blk (w : World) (g : Nat) (t : TypeId) (cs : Array Value) : Prop := w.heap[g]? = some (.cells cs t (0, 0))

section
variable {S : Nat → Prop} {w w' : World} {g : Nat} {t : TypeId} {cs : Array Value}
theorem Blk.lt (h : Blk w g t cs) : g < w.heap.size := lt_of_heap h
theorem Blk.cell (h : Blk w g t cs) (i : Nat) : w.cell? ⟨g, i, none⟩ = cs[i]? := cell_of_row w g i cs t (0, 0) h
theorem Blk.frozen (h : Blk w g t cs) (i : Nat) : w.frozen? ⟨g, i, none⟩ = false := by
  unfold Blk at h
  simp [World.frozen?, h]
theorem Blk.new (w : World) (t : TypeId) (cs : Array Value) : Blk (w.alloc (.cells cs t)) w.heap.size t cs := heap_alloc_new w _
theorem Blk.new_ (w : World) (t : TypeId) (cs : Array Value) {n : Nat} (hn : n = w.heap.size) : Blk (w.alloc (.cells cs t)) n t cs := by subst hn; exact Blk.new w t cs
theorem Blk.drew (h : Blk w g t cs) : Blk w.drew g t cs := h
theorem Blk.drewN (h : Blk w g t cs) (n : Nat) : Blk (w.drewN n) g t cs := h
theorem Blk.alloc (h : Blk w g t cs) (o : Obj) : Blk (w.alloc o) g t cs := (Below.heap_alloc w o g h.lt).trans h
theorem Blk.set_ (h : Blk w g t cs) (i : Nat) (u : Value) : Blk (w.setCell ⟨g, i, none⟩ u) g t (cs.setIfInBounds i u) := by
  unfold Blk at h ⊢
  simp [World.setCell, Array.getElem?_modify, h]
theorem Blk.far (h : Blk w g t cs) {p : Addr} (hp : g ≠ p.block) (u : Value) : Blk (w.setCell p u) g t cs := (Below.heap_setCell w p u g hp).trans h
theorem Blk.fr (h : Blk w g t cs) (hf : Fr S w w') (hs : ¬ S g) : Blk w' g t cs := hf.at_ h hs
theorem Blk.below {B : Nat} (h : Blk w g t cs) (hb : Below B w w') (hg : g < B) : Blk w' g t cs := (hb.block g hg).trans h
theorem Blk.ne_ {g' : Nat} {t' : TypeId} {cs' : Array Value} (h : Blk w g t cs) (h' : Blk w g' t' cs') (hne : t ≠ t') : g ≠ g' := by
  rintro rfl
  unfold Blk at h h'
  rw [h] at h'
  injection h' with h'
  injection h' with _ ht
  exact hne ht
theorem Blk.ne_map {m : Nat} {es : Array MapEntry} {cl : Nat} (h : Blk w g t cs) (h' : w.heap[m]? = some (.map es cl)) : g ≠ m := by
  rintro rfl
  unfold Blk at h
  rw [h] at h'
  cases h'
end

/-! Maps whose keys are structs of two integers. -/
section
variable {P : Program} {w : World}

def pairKey (p : Int × Int) : Value := .agg #[.int .i64 p.1, .int .i64 p.2]

/-- Block m is a map whose keys, in the order in which they came, are the pairs L; each element is the one value of no cells. -/
def PairMap (w : World) (m : Nat) (L : List (Int × Int)) : Prop :=
  ∃ es cl, w.heap[m]? = some (.map es cl) ∧ es.toList.map (·.key) = L.map pairKey ∧ ∀ e ∈ es.toList, e.val = .agg #[]

theorem PairMap.fr {S : Nat → Prop} {w w' : World} {m : Nat} {L : List (Int × Int)} (h : PairMap w m L) (hf : Fr S w w') (hs : ¬ S m) : PairMap w' m L := by
  obtain ⟨es, cl, h1, h2⟩ := h
  exact ⟨es, cl, hf.at_ h1 hs, h2⟩
theorem PairMap.lt {w : World} {m : Nat} {L : List (Int × Int)} (h : PairMap w m L) : m < w.heap.size := by
  obtain ⟨es, cl, h1, _⟩ := h
  exact lt_of_heap h1
theorem PairMap.alloc {w : World} {m : Nat} {L : List (Int × Int)} (h : PairMap w m L) (o : Obj) : PairMap (w.alloc o) m L := by
  obtain ⟨es, cl, h1, h2⟩ := h
  exact ⟨es, cl, (Below.heap_alloc w o m (lt_of_heap h1)).trans h1, h2⟩

/-- The key's type, by its closed facts. -/
structure PairType (P : Program) (mt k ik e : TypeId) : Prop where
  map : P.underlying mt = some (.map k e)
  int : P.underlying ik = some (.int .i64)
  stood : P.stoodInHeld k = false
  desc : ∃ f0 f1 : Field, P.underlying k = some (.struct #[f0, f1]) ∧ f0.type = ik ∧ f1.type = ik ∧ f0.offset = 0 ∧ f1.offset = 1 ∧ f0.name ≠ "_" ∧ f1.name ≠ "_"
  elem : ∀ w : World, (zeroValue e).run P w = .ok (.agg #[]) w

variable {mt k ik e : TypeId}
theorem run_equalIn_int (n : Nat) (hi : P.underlying ik = some (.int .i64)) (a b : Int) : (Op.equalIn (n + 1) ik (.int .i64 a) (.int .i64 b)).run P w = .ok (a == b) w := by
  simp [Op.equalIn, run_underlying hi]
theorem run_part_int (hi : P.underlying ik = some (.int .i64)) (cs : Array Value) (i : Nat) (v : Value) (hv : cs[i]? = some v) : (part ik cs i).run P w = .ok v w := by
  simp [part, isAgg, run_underlying hi, hv]
theorem run_equalIn_pair (T : PairType P mt k ik e) (n : Nat) (p q : Int × Int) :
    (Op.equalIn (n + 2) k (pairKey p) (pairKey q)).run P w = .ok (decide (p = q)) w := by
  obtain ⟨f0, f1, hd, t0, t1, o0, o1, n0, n1⟩ := T.desc
  obtain ⟨p1, p2⟩ := p
  obtain ⟨q1, q2⟩ := q
  have hs := T.stood
  have hi := T.int
  have h0 := fun v1 v2 : Value => run_part_int (w := w) hi #[v1, v2] 0 v1 rfl
  have h1 := fun v1 v2 : Value => run_part_int (w := w) hi #[v1, v2] 1 v2 rfl
  have he := fun a b => run_equalIn_int (w := w) n hi a b
  rw [Op.equalIn]
  simp only [pairKey, run_underlying hd, Sem.run_bind, Result.andThen_ok]
  simp [hs, t0, t1, o0, o1, n0, n1, h0, h1, he]
  by_cases e1 : p1 = q1 <;> by_cases e2 : p2 = q2 <;> simp [e1, e2]
theorem run_equal_pair (T : PairType P mt k ik e) (p q : Int × Int) :
    (Op.equal k (pairKey p) (pairKey q)).run P w = .ok (decide (p = q)) w := run_equalIn_pair T 9998 p q
theorem run_check_pair (T : PairType P mt k ik e) (em : Bool) (p : Int × Int) :
    (Instr.checkKey em 10000 k (pairKey p)).run P w = .ok () w := by
  obtain ⟨f0, f1, hd, t0, t1, o0, o1, n0, n1⟩ := T.desc
  have hi := T.int
  have h0 := fun v1 v2 : Value => run_part_int (w := w) hi #[v1, v2] 0 v1 rfl
  have h1 := fun v1 v2 : Value => run_part_int (w := w) hi #[v1, v2] 1 v2 rfl
  have hc := fun (v : Int) => (show (Instr.checkKey em (9998 + 1) ik (.int .i64 v)).run P w = .ok () w by rw [Instr.checkKey]; simp [run_underlying hi])
  show (Instr.checkKey em (9999 + 1) k (pairKey p)).run P w = .ok () w
  rw [Instr.checkKey]
  simp only [pairKey, run_underlying hd, Sem.run_bind, Result.andThen_ok]
  simp [t0, t1, o0, o1, n0, n1, h0, h1, hc]
theorem run_findAsking_pair (T : PairType P mt k ik e) (p : Int × Int) : ∀ (es : List MapEntry) (L : List (Int × Int)) (i : Nat), es.map (·.key) = L.map pairKey → (∀ x ∈ es, x.val = .agg #[]) →
    ∃ r, (Instr.findAsking k (pairKey p) es i).run P w = .ok r w ∧ (p ∈ L → ∃ j, r = some (j, .agg #[])) ∧ (p ∉ L → r = none)
  | [], L, i, h, _ => by
    have hL : L = [] := by simpa using h.symm
    subst hL
    exact ⟨none, by simp [Instr.findAsking], by simp, by simp⟩
  | x :: es, L, i, h, hv => by
    obtain ⟨q, L', rfl, hq, hr⟩ : ∃ q L', L = q :: L' ∧ x.key = pairKey q ∧ es.map (·.key) = L'.map pairKey := by
      cases L with
      | nil => simp at h
      | cons q L' => simp only [List.map_cons, List.cons.injEq] at h; exact ⟨q, L', rfl, h.1, h.2⟩
    have he := run_equal_pair (w := w) T p q
    obtain ⟨r, h1, h2, h3⟩ := run_findAsking_pair T p es L' (i + 1) hr (fun y hy => hv y (by simp [hy]))
    by_cases hpq : p = q
    · subst hpq
      exact ⟨some (i, x.val), by simp [Instr.findAsking, hq, he], fun _ => ⟨i, by rw [hv x (by simp)]⟩, by simp⟩
    · refine ⟨r, by simp [Instr.findAsking, hq, he, hpq, h1], fun hm => h2 ?_, fun hm => h3 ?_⟩
      · rcases List.mem_cons.1 hm with h' | h'
        · exact absurd h' hpq
        · exact h'
      · exact fun h' => hm (List.mem_cons_of_mem _ h')
theorem findNow_pair (d : TypeDesc) (v : Array Value) : ∀ (es : List MapEntry) (i : Nat), es ≠ [] → Instr.findNow d (.agg v) es i = none
  | [], _, h => absurd rfl h
  | x :: es, i, _ => by
    have : Instr.sameNow d (.agg v) x.key = none := by cases d <;> cases hk : x.key <;> rfl
    simp [Instr.findNow, this]
theorem run_findKey_pair (T : PairType P mt k ik e) (p : Int × Int) {es : List MapEntry} {L : List (Int × Int)} (h : es.map (·.key) = L.map pairKey) (hv : ∀ x ∈ es, x.val = .agg #[]) :
    ∃ r, (Instr.findKey k (pairKey p) es).run P w = .ok r w ∧ (p ∈ L → ∃ j, r = some (j, .agg #[])) ∧ (p ∉ L → r = none) := by
  obtain ⟨f0, f1, hd, _⟩ := T.desc
  by_cases hes : es = []
  · subst hes
    have hL : L = [] := by simpa using h.symm
    subst hL
    exact ⟨none, by simp [Instr.findKey, run_underlying hd, Instr.findNow], by simp, by simp⟩
  · obtain ⟨r, h1, h2⟩ := run_findAsking_pair (w := w) T p es L 0 h hv
    refine ⟨r, ?_, h2⟩
    simp only [Instr.findKey, run_underlying hd, Sem.run_bind, Result.andThen_ok, pairKey]
    rw [findNow_pair _ _ es 0 hes]
    exact h1

/-- 'v, ok := m[k]'. -/
theorem run_lookup_pair (T : PairType P mt k ik e) {m : Nat} {L : List (Int × Int)} (h : PairMap w m L) (a b : Int) :
    (Instr.lookup mt (.map (some m)) (.agg #[.int .i64 a, .int .i64 b]) true).run P w = .ok (.tuple #[.agg #[], .bool (decide ((a, b) ∈ L))]) w := by
  obtain ⟨es, cl, h1, h2, h3⟩ := h
  obtain ⟨r, hr, hin, hout⟩ := run_findKey_pair (w := w) T (a, b) h2 h3
  have hc := fun em => run_check_pair (w := w) T em (a, b)
  have hz := T.elem w
  simp only [pairKey] at hc hr
  by_cases hm : (a, b) ∈ L
  · obtain ⟨j, rfl⟩ := hin hm
    simp [Instr.lookup, run_underlying T.map, MapKept.run_getObj_map h1, hc, hr, hm]
  · obtain rfl := hout hm
    simp [Instr.lookup, run_underlying T.map, MapKept.run_getObj_map h1, hc, hr, hm, hz]

/-- 'm[k] = struct{}{}' at a key that is not there. -/
theorem run_update_pair (T : PairType P mt k ik e) {m : Nat} {L : List (Int × Int)} (h : PairMap w m L) (a b : Int) (hn : (a, b) ∉ L) :
    ∃ w', (Instr.mapUpdate mt (.map (some m)) (.agg #[.int .i64 a, .int .i64 b]) (.agg #[])).run P w = .ok () w' ∧ Fr (fun x => x = m) w w' ∧ PairMap w' m (L ++ [(a, b)]) := by
  obtain ⟨es, cl, h1, h2, h3⟩ := h
  obtain ⟨r, hr, _, hout⟩ := run_findKey_pair (w := w) T (a, b) h2 h3
  have hc := fun em => run_check_pair (w := w) T em (a, b)
  simp only [pairKey] at hc hr
  obtain rfl := hout hn
  refine ⟨ChangeMaps.setBlock w m (.map (es.push ⟨pairKey (a, b), .agg #[], cl⟩) (cl + 1)), ?_, (Fr.refl (fun x => x = m) w).setBlock (fun _ => rfl) _, ?_⟩
  · simp [Instr.mapUpdate, run_underlying T.map, MapKept.run_getObj_map h1, hc, hr, MapKept.run_setObj_map _ h1, Result.andThen, ChangeMaps.setBlock, pairKey]
  · refine ⟨es.push ⟨pairKey (a, b), .agg #[], cl⟩, cl + 1, ?_, ?_, ?_⟩
    · simp only [ChangeMaps.setBlock]
      rw [Array.getElem?_setIfInBounds_self_of_lt (lt_of_heap h1)]
    · simp [h2]
    · intro x hx
      simp only [Array.toList_push, List.mem_append, List.mem_singleton] at hx
      rcases hx with hx | rfl
      · exact h3 x hx
      · rfl
theorem run_len_pair {ty : TypeId} {m : Nat} {L : List (Int × Int)} (hm : P.underlying mt = some (.map k e)) (h : PairMap w m L) :
    (Builtin.len_ #[mt] ty #[.map (some m)]).run P w = .ok (.int .i64 L.length) w := by
  obtain ⟨es, cl, h1, h2, _⟩ := h
  have : es.size = L.length := by
    have := congrArg List.length h2
    simpa using this
  simp [Builtin.len_, run_underlying hm, MapKept.run_getObj_map h1, Result.andThen, goInt, this]
end
theorem own_fr {S : Nat → Prop} {w w' : World} {base : Nat} {e : TypeId} {size : Nat} {v : Value} {n : Nat} {xs : List Value} (h : w.ownsRow base e size v n xs) (hf : Fr S w w') (hs : ∀ k, v.ownBlock = some k → ¬ S k) : w'.ownsRow base e size v n xs := by
  refine ⟨h.1, ?_⟩
  rcases h.2 with hn | ⟨g, cap, cur, rfl, hb, hgg, rest⟩
  · exact .inl hn
  · exact .inr ⟨g, cap, cur, rfl, hb, hf.at_ hgg (hs g rfl), rest⟩
theorem own_base {w : World} {base base' : Nat} {e : TypeId} {size : Nat} {v : Value} {n : Nat} {xs : List Value} (h : w.ownsRow base e size v n xs) (hb : base' ≤ base) : w.ownsRow base' e size v n xs := by
  refine ⟨h.1, ?_⟩
  rcases h.2 with hn | ⟨g, cap, cur, rfl, hbb, rest⟩
  · exact .inl hn
  · exact .inr ⟨g, cap, cur, rfl, Nat.le_trans hb hbb, rest⟩

theorem own_form {w : World} {base : Nat} {e : TypeId} {size : Nat} {v : Value} {n : Nat} {xs : List Value} (h : w.ownsRow base e size v n xs) :
    ∃ A cap, v = .slice A n cap ∧ n ≤ cap ∧ ∀ j u, xs[j]? = some u → ∃ b, A = some ⟨b, 0, none⟩ ∧ base ≤ b ∧ w.cell? ⟨b, j, none⟩ = some u := by
  rcases h with ⟨hl, ⟨rfl, rfl⟩ | ⟨g, cap, cur, rfl, hb, hg, hn, _, _, htake⟩⟩
  · refine ⟨none, 0, rfl, Nat.le_refl _, fun j u hu => ?_⟩
    have : xs = [] := List.eq_nil_of_length_eq_zero (by simpa using hl)
    subst this
    simp at hu
  · refine ⟨some ⟨g, 0, none⟩, cap, rfl, hn, fun j u hu => ⟨g, rfl, hb, ?_⟩⟩
    rw [cell_of_row w g j cur e (0, 0) hg]
    rw [← htake, List.getElem?_take] at hu
    split at hu
    · simpa using hu
    · cases hu

theorem own_some {w : World} {base : Nat} {e : TypeId} {size : Nat} {v : Value} {n : Nat} {xs : List Value} (h : w.ownsRow base e size v (n + 1) xs) : ∃ g c, v = .slice (some ⟨g, 0, none⟩) (n + 1) c := by
  rcases h.2 with ⟨_, h0⟩ | ⟨g, cap, _, rfl, _⟩
  · omega
  · exact ⟨g, cap, rfl⟩
/-- 'out = append(out, x)', one element of one cell. -/
theorem wpList_append1 {P : Program} (w : World) {ops : Array Oper} {rest : List Oper} {o : Oper} {a : Act} {Q : Exit → Act → World → Prop} (hgd : o.guard = none) (s x : Operand) (t : TypeId)
    (ho : o.op = .call { callee := .builtin .append, args := #[s, x], argTypes := #[t, t] })
    (base : Nat) (e : TypeId) (z : Value) (bytes : Nat) (ht : P.underlying t = some (.slice e)) (hinf : (P.info? e).map (fun i => (i.zero, i.size, i.bytes)) = some (some z, 1, bytes)) (hzs : z.cells.size = 1)
    (v : Value) (n : Nat) (xs : List Value) (hs : a.eval s = v) (hown : w.ownsRow base e 1 v n xs)
    (g : Nat) (u : Value) (hx : a.eval x = .slice (some ⟨g, 0, none⟩) 1 1) (hc : w.cell? ⟨g, 0, none⟩ = some u) (h1 : u.oneCell' = true)
    (h63 : n + 1 ≤ 1099511627776) (hby : bytes ≤ 64) (hbase : base ≤ w.heap.size)
    (h : ∀ g' c' w', w'.ownsRow base e 1 (.slice (some ⟨g', 0, none⟩) (n + 1) c') (n + 1) (xs ++ [u]) → Fr (fun k => v.ownBlock = some k) w w' → wpList P ops Q rest (a.put o.dst (.slice (some ⟨g', 0, none⟩) (n + 1) c')) w') : wpList P ops Q (o :: rest) a w := by
  obtain ⟨i0, hi, hz0, hz1, hz2⟩ := info_parts hinf
  refine wpList_append_own w hgd s x t ho base e i0 z 1 bytes ht hi hz0 hz1 hz2 hzs (by omega) v n xs hs hown ⟨g, 0, none⟩ 1 1 [u] hx rfl ?_ ?_ (by simp only [maxLen]; omega) ?_ hbase ?_
  · intro j y hy
    cases j with
    | zero => simp only [List.getElem?_cons_zero, Option.some.injEq] at hy; subst hy; simpa [Addr.add] using hc
    | succ j => simp at hy
  · intro y hy
    simp only [List.mem_singleton] at hy
    subst hy
    exact h1
  · have := Nat.mul_le_mul h63 hby
    omega
  · intro v' w' h2 h3 _
    obtain ⟨g', c', rfl⟩ := own_some h2
    exact h g' c' w' h2 ⟨h3.os, h3.tape, h3.output, h3.size, fun k hk hn => h3.block k hk (fun e1 => hn e1.symm)⟩
theorem Fr.own {S : Nat → Prop} {a b w2 x : World} {base : Nat} {e : TypeId} {size : Nat} {v : Value} {n : Nat} {xs : List Value} (h : Fr S a b) (hown : x.ownsRow base e size v n xs) (hf : Fr (fun k => v.ownBlock = some k) b w2) (hb : a.heap.size ≤ base) : Fr S a w2 :=
  h.trans hf (fun k hk e1 => absurd hk (by have := (hown.lt k e1).1; omega))
/-- The cells of a row of pairs of integers. -/
def pairCells (L : List (Int × Int)) : List Value := L.flatMap fun p => [.int .i64 p.1, .int .i64 p.2]
theorem pairCells_at : ∀ (L : List (Int × Int)) (k : Nat) (p : Int × Int), L[k]? = some p → (pairCells L)[k * 2]? = some (.int .i64 p.1) ∧ (pairCells L)[k * 2 + 1]? = some (.int .i64 p.2)
  | [], k, p, h => by simp at h
  | q :: L, 0, p, h => by
    simp only [List.getElem?_cons_zero, Option.some.injEq] at h
    subst h
    simp [pairCells]
  | q :: L, k + 1, p, h => by
    have := pairCells_at L k p (by simpa using h)
    simp only [pairCells, List.flatMap_cons, List.cons_append, List.nil_append] at this ⊢
    rw [show (k + 1) * 2 = k * 2 + 1 + 1 by omega]
    exact this
theorem pairCells_snoc (L : List (Int × Int)) (p : Int × Int) : pairCells (L ++ [p]) = pairCells L ++ [.int .i64 p.1, .int .i64 p.2] := by simp [pairCells]
theorem notin_take_succ {L : List (Int × Int)} {k : Nat} {p q : Int × Int} (h : q ∉ L.take k) (hp : L[k]? = some p) (hne : p ≠ q) : q ∉ L.take (k + 1) := by
  obtain ⟨hlt, rfl⟩ := List.getElem?_eq_some_iff.1 hp
  rw [List.take_succ_eq_append_getElem hlt]
  intro hm
  rcases List.mem_append.1 hm with h1 | h1
  · exact h h1
  · exact hne (List.mem_singleton.1 h1).symm
/-- 'out = append(out, x)', one element of any number of cells. -/
theorem wpList_append_el {P : Program} (w : World) {ops : Array Oper} {rest : List Oper} {o : Oper} {a : Act} {Q : Exit → Act → World → Prop} (hgd : o.guard = none) (s x : Operand) (t : TypeId)
    (ho : o.op = .call { callee := .builtin .append, args := #[s, x], argTypes := #[t, t] })
    (base : Nat) (e : TypeId) (z : Value) (size bytes : Nat) (ht : P.underlying t = some (.slice e)) (hinf : (P.info? e).map (fun i => (i.zero, i.size, i.bytes)) = some (some z, size, bytes)) (hzs : z.cells.size = size) (hsz : 0 < size)
    (v : Value) (n : Nat) (xs : List Value) (hs : a.eval s = v) (hown : w.ownsRow base e size v n xs)
    (g : Nat) (us : List Value) (hx : a.eval x = .slice (some ⟨g, 0, none⟩) 1 1) (hl : us.length = size) (hc : ∀ j u, us[j]? = some u → w.cell? ⟨g, j, none⟩ = some u) (h1 : ∀ u ∈ us, u.oneCell' = true)
    (h63 : n + 1 ≤ 1099511627776) (hby : bytes ≤ 64) (hbase : base ≤ w.heap.size)
    (h : ∀ g' c' w', w'.ownsRow base e size (.slice (some ⟨g', 0, none⟩) (n + 1) c') (n + 1) (xs ++ us) → Fr (fun k => v.ownBlock = some k) w w' → wpList P ops Q rest (a.put o.dst (.slice (some ⟨g', 0, none⟩) (n + 1) c')) w') : wpList P ops Q (o :: rest) a w := by
  obtain ⟨i0, hi, hz0, hz1, hz2⟩ := info_parts hinf
  refine wpList_append_own w hgd s x t ho base e i0 z size bytes ht hi hz0 hz1 hz2 hzs hsz v n xs hs hown ⟨g, 0, none⟩ 1 1 us hx (by rw [hl, Nat.one_mul]) ?_ h1 (by simp only [maxLen]; omega) ?_ hbase ?_
  · intro j y hy
    have := hc j y hy
    rwa [show (⟨g, 0, none⟩ : Addr).add j = ⟨g, j, none⟩ by unfold Addr.add; split <;> simp_all]
  · have := Nat.mul_le_mul h63 hby
    omega
  · intro v' w' h2 h3 _
    obtain ⟨g', c', rfl⟩ := own_some h2
    exact h g' c' w' h2 ⟨h3.os, h3.tape, h3.output, h3.size, fun k hk hn => h3.block k hk (fun e1 => hn e1.symm)⟩
theorem own_ne_blk {w : World} {base : Nat} {e t : TypeId} {size n g : Nat} {v : Value} {xs : List Value} {cs : Array Value} (h : w.ownsRow base e size v n xs) (hg : Blk w g t cs) (hne : e ≠ t) : v.ownBlock ≠ some g := by
  rcases h.2 with ⟨rfl, _⟩ | ⟨g', cap, cur, rfl, _, hh, _⟩
  · simp [Value.ownBlock]
  · intro he
    have : g' = g := by simpa [Value.ownBlock] using he
    subst this
    exact Blk.ne_ (t := e) hh hg hne rfl
theorem own_ne_map {w : World} {base : Nat} {e : TypeId} {size n m : Nat} {v : Value} {xs : List Value} {L : List (Int × Int)} (h : w.ownsRow base e size v n xs) (hm : PairMap w m L) : v.ownBlock ≠ some m := by
  obtain ⟨es, cl, h1, _⟩ := hm
  rcases h.2 with ⟨rfl, _⟩ | ⟨g', cap, cur, rfl, _, hh, _⟩
  · simp [Value.ownBlock]
  · intro he
    have : g' = m := by simpa [Value.ownBlock] using he
    subst this
    rw [hh] at h1
    cases h1
theorem cell_two (w : World) (a b : Value) (t : TypeId) : ∀ j u, [a, b][j]? = some u → (w.alloc (.cells #[a, b] t)).cell? ⟨w.heap.size, j, none⟩ = some u := by
  intro j u hu
  have := (Blk.new w t #[a, b]).cell j
  rw [this]
  simpa using hu
theorem own_setCell {w : World} {base : Nat} {e t : TypeId} {size n g : Nat} {v : Value} {xs : List Value} {cs : Array Value} (h : w.ownsRow base e size v n xs) (hg : Blk w g t cs) (hne : e ≠ t) (i : Nat) (u : Value) : (w.setCell ⟨g, i, none⟩ u).ownsRow base e size v n xs :=
  own_fr h ((Fr.refl (fun k => k = g) w).setCell (p := ⟨g, i, none⟩) (fun _ => rfl) u) (fun _ hk e1 => own_ne_blk h hg hne (hk.trans (congrArg some e1)))
/-! A quiet callee that leaves the world alone, in a region that draws its order. -/
theorem quiet_left {P : Program} {f : FuncId} {args : Array Value} {w : World} {n : Nat} {v : Value}
    (h : Calls P f args (w.drewN n) fun e w' => e = .returned v ∧ w.drewN n = w') : Calls P f args (w.drewN n) fun e w'' => e = .returned v ∧ ∃ m, w'' = w.drewN m :=
  h.mono fun _ _ ⟨he, hm⟩ => ⟨he, n, hm.symm⟩
end Go.Proofs.YtmkdhhhoodeemaaGreat

/- The small functions: seals.Member, Client, Group, cohortref04.Member, Client, Group, fault.Of, fault.Wrap: each returns just this and leaves the world alone. -/
namespace Go.Proofs.YtmkdhhhoodeemaaGreat
open Go Go.RowKit
theorem ret_int {k : IntKind} {a b : Int} (h : a = b) : Ending.returned (.int k a) = .returned (.int k b) := by rw [h]
theorem ret_int2 {k l : IntKind} {a b c d : Int} (h : a = b) (h' : c = d) : Ending.returned (.tuple #[.int k a, .int l c]) = .returned (.tuple #[.int k b, .int l d]) := by rw [h, h']
def memberOf (g i : Int) : Int := if g < 0 ∨ 8 ≤ g ∨ i < 0 ∨ 10 ≤ i then -1 else 100 + g * 16 + i
def clientOf (i : Int) : Int := if i < 0 ∨ 16 ≤ i then -1 else i
def groupOf (w : Int) : Int := if w < 100 ∨ 8 ≤ (w - 100) / 16 ∨ 10 ≤ (w - 100) % 16 then -1 else (w - 100) / 16
def placeOf (w : Int) : Int := if w < 100 ∨ 8 ≤ (w - 100) / 16 ∨ 10 ≤ (w - 100) % 16 then -1 else (w - 100) % 16
theorem seals_Member (g i : Int) (w : World) : Calls Tryz.prog 101 #[.int .i64 g, .int .i64 i] w fun e w' => e = .returned (.int .i64 (memberOf g i)) ∧ w = w' := by
  go_enter Tryz.func101, Tryz.ntmps101
  go_wp2
  all_goals go_ret
  all_goals exact ⟨ret_int (by unfold memberOf; first | rw [if_pos (by omega)] | (rw [if_neg (by omega)]; try omega)), rfl⟩
theorem ref04_Member (g i : Int) (w : World) : Calls Tryz.prog 37 #[.int .i64 g, .int .i64 i] w fun e w' => e = .returned (.int .i64 (memberOf g i)) ∧ w = w' := by
  go_enter Tryz.func37, Tryz.ntmps37
  go_wp2
  all_goals go_ret
  all_goals exact ⟨ret_int (by unfold memberOf; first | rw [if_pos (by omega)] | (rw [if_neg (by omega)]; try omega)), rfl⟩
theorem seals_Client (i : Int) (w : World) : Calls Tryz.prog 69 #[.int .i64 i] w fun e w' => e = .returned (.int .i64 (clientOf i)) ∧ w = w' := by
  go_enter Tryz.func69, Tryz.ntmps69
  go_wp2
  all_goals go_ret
  all_goals exact ⟨ret_int (by unfold clientOf; first | rw [if_pos (by omega)] | (rw [if_neg (by omega)])), rfl⟩
theorem ref04_Client (i : Int) (w : World) : Calls Tryz.prog 74 #[.int .i64 i] w fun e w' => e = .returned (.int .i64 (clientOf i)) ∧ w = w' := by
  go_enter Tryz.func74, Tryz.ntmps74
  go_wp2
  all_goals go_ret
  all_goals exact ⟨ret_int (by unfold clientOf; first | rw [if_pos (by omega)] | (rw [if_neg (by omega)])), rfl⟩
theorem seals_Group (i : Int) (hi : i ≤ 9223372036854775807) (w : World) : Calls Tryz.prog 68 #[.int .i64 i] w fun e w' => e = .returned (.tuple #[.int .i64 (groupOf i), .int .i64 (placeOf i)]) ∧ w = w' := by
  by_cases h : i < 100
  · go_enter Tryz.func68, Tryz.ntmps68
    go_wp2
    go_ret2
    exact ⟨ret_int2 (by unfold groupOf; rw [if_pos (by omega)]) (by unfold placeOf; rw [if_pos (by omega)]), rfl⟩
  · go_enter Tryz.func68, Tryz.ntmps68
    go_wp2
    all_goals go_ret2
    all_goals exact ⟨ret_int2 (by unfold groupOf; first | rw [if_pos (by omega)] | rw [if_neg (by omega)]) (by unfold placeOf; first | rw [if_pos (by omega)] | rw [if_neg (by omega)]), rfl⟩
/-- An error that came through these places, the outermost first, with this number. -/
def errV : List (ByteArray × Int) → Int → Value
  | [], c => .iface 63 (.int .i64 c)
  | (s, n) :: r, c => .iface 189 (.agg #[.string s, .int .i64 n, errV r c])
theorem errV_iface (l : List (ByteArray × Int)) (c : Int) : ∃ t v, errV l c = .iface t v := by
  cases l with
  | nil => exact ⟨_, _, rfl⟩
  | cons x r => exact ⟨_, _, rfl⟩
/-- An error, or none. -/
def errO : Option (List (ByteArray × Int) × Int) → Value
  | none => .nilIface
  | some x => errV x.1 x.2
theorem errO_some (x : List (ByteArray × Int) × Int) : ∃ t v, errO (some x) = .iface t v := errV_iface x.1 x.2
theorem fault_Of (c : Int) (h : (c == 0) = false) (w : World) : Calls Tryz.prog 71 #[.int .i64 c] w fun e w' => e = .returned (errV [] c) ∧ w = w' := by
  go_enter Tryz.func71, Tryz.ntmps71
  go_wp2
  go_ret
  exact ⟨rfl, rfl⟩
theorem fault_Wrap_nil (s : ByteArray) (n : Int) (w : World) : Calls Tryz.prog 70 #[.nilIface, .string s, .int .i64 n] w fun e w' => e = .returned .nilIface ∧ w = w' := by
  go_enter Tryz.func70, Tryz.ntmps70
  go_wp2
  go_ret
  exact ⟨rfl, rfl⟩
theorem fault_Wrap (l : List (ByteArray × Int)) (c : Int) (s : ByteArray) (n : Int) (w : World) : Calls Tryz.prog 70 #[errV l c, .string s, .int .i64 n] w fun e w' => e = .returned (errV ((s, n) :: l) c) ∧ w = w' := by
  simp only [errV]
  obtain ⟨t, v, h⟩ := errV_iface l c
  rw [h]
  clear h
  go_enter Tryz.func70, Tryz.ntmps70
  go_wp2
  go_ret
  exact ⟨rfl, rfl⟩
def signBad (who d : Int) : Bool := decide ((clientOf who < 0 ∧ groupOf who < 0) ∨ d < 0)
def signErr (who d : Int) (L : List (Int × Int)) : Option (List (ByteArray × Int) × Int) :=
  if signBad who d = true then some ([((⟨#[115, 101, 97, 108, 115]⟩ : ByteArray), who)], 1) else if (who, d) ∈ L then none else if ((L.length : Int) == 131072) = true then some ([((⟨#[115, 101, 97, 108, 115]⟩ : ByteArray), who)], 2) else none
def signL (who d : Int) (L : List (Int × Int)) : List (Int × Int) :=
  if signBad who d = true then L else if (who, d) ∈ L then L else if ((L.length : Int) == 131072) = true then L else L ++ [(who, d)]
section
variable {who d : Int} {L : List (Int × Int)}
theorem sign_bad (h : (clientOf who < 0 ∧ groupOf who < 0) ∨ d < 0) : signErr who d L = some ([((⟨#[115, 101, 97, 108, 115]⟩ : ByteArray), who)], 1) ∧ signL who d L = L := by
  simp [signErr, signL, signBad, h]
theorem sign_in (h : ¬ ((clientOf who < 0 ∧ groupOf who < 0) ∨ d < 0)) (hm : (who, d) ∈ L) : signErr who d L = none ∧ signL who d L = L := by
  simp [signErr, signL, signBad, h, hm]
theorem sign_full (h : ¬ ((clientOf who < 0 ∧ groupOf who < 0) ∨ d < 0)) (hm : (who, d) ∉ L) (hl : ((L.length : Int) == 131072) = true) : signErr who d L = some ([((⟨#[115, 101, 97, 108, 115]⟩ : ByteArray), who)], 2) ∧ signL who d L = L := by
  simp only [signErr, signL, signBad, h, hm, hl]
  simp
theorem sign_new (h : ¬ ((clientOf who < 0 ∧ groupOf who < 0) ∨ d < 0)) (hm : (who, d) ∉ L) (hl : ((L.length : Int) == 131072) = false) : signErr who d L = none ∧ signL who d L = L ++ [(who, d)] := by
  simp only [signErr, signL, signBad, h, hm, hl]
  simp
end
end Go.Proofs.YtmkdhhhoodeemaaGreat

/- Words on rows of the call's own, for any element. -/
namespace Go.Proofs.YtmkdhhhoodeemaaGreat
open Go Go.RowKit
theorem add_at (b o k : Nat) : (⟨b, o, none⟩ : Addr).add k = ⟨b, o + k, none⟩ := by unfold Addr.add; split <;> simp_all
theorem Fr.grown_own {S : Nat → Prop} {a w w' : World} {base : Nat} {e : TypeId} {size : Nat} {v : Value} {n : Nat} {xs : List Value} (h : Fr S a w) (hown : w.ownsRow base e size v n xs) (hg : w.grownBy w' v.ownBlock) (hb : a.heap.size ≤ base) : Fr S a w' :=
  h.own hown ((Fr.refl (fun k => v.ownBlock = some k) w).grown hg (fun _ _ e1 => e1)) hb
theorem Blk.grown_own {w w' : World} {g : Nat} {t : TypeId} {cs : Array Value} {base : Nat} {e : TypeId} {size : Nat} {v : Value} {n : Nat} {xs : List Value} (h : Blk w g t cs) (hown : w.ownsRow base e size v n xs) (hg : w.grownBy w' v.ownBlock) (hne : e ≠ t) : Blk w' g t cs :=
  h.fr ((Fr.refl (fun k => v.ownBlock = some k) w).grown hg (fun _ _ e1 => e1)) (own_ne_blk hown h hne)
/-- A row of integers below block B. -/
def IntRow (w : World) (B : Nat) (A : Option Addr) (xs : List Int) : Prop :=
  ∀ k x, xs[k]? = some x → ∃ b o, A = some ⟨b, o, none⟩ ∧ b < B ∧ w.cell? ⟨b, o + k, none⟩ = some (.int .i64 x)
theorem IntRow.fr {S : Nat → Prop} {w w' : World} {B : Nat} {A : Option Addr} {xs : List Int} (h : IntRow w B A xs) (hf : Fr S w w') (hS : ∀ k, k < B → ¬ S k) : IntRow w' B A xs := by
  intro k x hx
  obtain ⟨b, o, e, hb, hc⟩ := h k x hx
  exact ⟨b, o, e, hb, hf.cell_some hc (hS b hb)⟩
theorem IntRow.mono {w : World} {B B' : Nat} {A : Option Addr} {xs : List Int} (h : IntRow w B A xs) (hB : B ≤ B') : IntRow w B' A xs := by
  intro k x hx
  obtain ⟨b, o, e, hb, hc⟩ := h k x hx
  exact ⟨b, o, e, Nat.lt_of_lt_of_le hb hB, hc⟩
theorem IntRow.away {S : Nat → Prop} {w w' : World} {B : Nat} {A : Option Addr} {xs : List Int} (h : IntRow w B A xs) (hf : Fr S w w') (hS : ∀ b o, A = some ⟨b, o, none⟩ → ¬ S b) : IntRow w' B A xs := by
  intro k x hx
  obtain ⟨b, o, e, hb, hc⟩ := h k x hx
  exact ⟨b, o, e, hb, hf.cell_some hc (hS b o e)⟩
def IntAt (w : World) (b o : Nat) (xs : List Int) : Prop := ∀ (k : Nat) (x : Int), xs[k]? = some x → w.cell? ⟨b, o + k, none⟩ = some (.int .i64 x)
theorem IntAt.fr {S : Nat → Prop} {w w' : World} {b o : Nat} {xs : List Int} (h : IntAt w b o xs) (hf : Fr S w w') (hs : ¬ S b) : IntAt w' b o xs :=
  fun k x hx => hf.cell_some (h k x hx) hs
theorem IntRow.at {w : World} {B : Nat} {A : Option Addr} {xs : List Int} (h : IntRow w B A xs) (hn : 0 < xs.length) : ∃ b o, A = some ⟨b, o, none⟩ ∧ b < B ∧ IntAt w b o xs := by
  obtain ⟨b, o, e, hb, _⟩ := h 0 xs[0] (List.getElem?_eq_getElem hn)
  refine ⟨b, o, e, hb, fun k x hx => ?_⟩
  obtain ⟨b', o', e', _, hc⟩ := h k x hx
  rw [e] at e'
  cases e'
  exact hc
def ints (xs : List Int) : List Value := xs.map fun x => .int .i64 x
theorem own_ge {w : World} {base : Nat} {e : TypeId} {size : Nat} {v : Value} {n : Nat} {xs : List Value} (h : w.ownsRow base e size v n xs) : ∀ k, v.ownBlock = some k → base ≤ k := by
  intro k hk
  rcases h.2 with ⟨rfl, _⟩ | ⟨g, cap, cur, rfl, hg, _⟩
  · cases hk
  · cases hk
    exact hg
end Go.Proofs.YtmkdhhhoodeemaaGreat

/- Rows of bytes: appending; bytes.Clone. -/
namespace Go.Proofs.YtmkdhhhoodeemaaGreat
open Go Go.RowKit
def bytesV (xs : List Int) : List Value := xs.map fun x => .int .u8 x
/-- A row of bytes of the call's own. -/
def Own8 (w : World) (base : Nat) (v : Value) (xs : List Int) : Prop := w.ownsRow base 5 1 v xs.length (bytesV xs)
def ByteAt (w : World) (b o : Nat) (xs : List Int) : Prop := ∀ (k : Nat) (x : Int), xs[k]? = some x → w.cell? ⟨b, o + k, none⟩ = some (.int .u8 x)
/-- A row of bytes in a block of F. -/
def ByteRow (w : World) (F : Nat → Prop) (A : Option Addr) (xs : List Int) : Prop :=
  ∀ k x, xs[k]? = some x → ∃ b o, A = some ⟨b, o, none⟩ ∧ F b ∧ w.cell? ⟨b, o + k, none⟩ = some (.int .u8 x)
/-- A row of numbers in a block of F. -/
def NumRow (w : World) (F : Nat → Prop) (A : Option Addr) (xs : List Int) : Prop :=
  ∀ k x, xs[k]? = some x → ∃ b o, A = some ⟨b, o, none⟩ ∧ F b ∧ w.cell? ⟨b, o + k, none⟩ = some (.int .i64 x)
/-- A row of texts, it and they in blocks of F. -/
def TextRow (w : World) (F : Nat → Prop) (A : Option Addr) (l : List (List Int)) : Prop :=
  ∀ k s, l[k]? = some s → ∃ b o A' cap', A = some ⟨b, o, none⟩ ∧ F b ∧ w.cell? ⟨b, o + k, none⟩ = some (.slice A' s.length cap') ∧ ByteRow w F A' s
section
variable {S F F' : Nat → Prop} {w w' : World} {b o base : Nat} {A : Option Addr} {xs : List Int} {v : Value}
theorem ByteAt.fr (h : ByteAt w b o xs) (hf : Fr S w w') (hs : ¬ S b) : ByteAt w' b o xs := fun k x hx => hf.cell_some (h k x hx) hs
theorem ByteRow.fr (h : ByteRow w F A xs) (hf : Fr S w w') (hS : ∀ k, F k → ¬ S k) : ByteRow w' F A xs := by
  intro k x hx
  obtain ⟨b, o, e, hb, hc⟩ := h k x hx
  exact ⟨b, o, e, hb, hf.cell_some hc (hS b hb)⟩
theorem ByteRow.mono (h : ByteRow w F A xs) (hB : ∀ k, F k → F' k) : ByteRow w F' A xs := by
  intro k x hx
  obtain ⟨b, o, e, hb, hc⟩ := h k x hx
  exact ⟨b, o, e, hB b hb, hc⟩
theorem NumRow.fr (h : NumRow w F A xs) (hf : Fr S w w') (hS : ∀ k, F k → ¬ S k) : NumRow w' F A xs := by
  intro k x hx
  obtain ⟨b, o, e, hb, hc⟩ := h k x hx
  exact ⟨b, o, e, hb, hf.cell_some hc (hS b hb)⟩
theorem TextRow.fr {l : List (List Int)} (h : TextRow w F A l) (hf : Fr S w w') (hS : ∀ k, F k → ¬ S k) : TextRow w' F A l := by
  intro k x hx
  obtain ⟨b, o, A', cap', e, hb, hc, hr⟩ := h k x hx
  exact ⟨b, o, A', cap', e, hb, hf.cell_some hc (hS b hb), hr.fr hf hS⟩
theorem ByteRow.at (h : ByteRow w F A xs) (hn : 0 < xs.length) : ∃ b o, A = some ⟨b, o, none⟩ ∧ F b ∧ ByteAt w b o xs := by
  obtain ⟨b, o, e, hb, _⟩ := h 0 xs[0] (List.getElem?_eq_getElem hn)
  refine ⟨b, o, e, hb, fun k x hx => ?_⟩
  obtain ⟨b', o', e', _, hc⟩ := h k x hx
  rw [e] at e'
  cases e'
  exact hc
theorem Own8.nil (w : World) (base : Nat) : Own8 w base (.slice none 0 0) [] := World.ownsRow_nil _ _ _ _
theorem Own8.fr (h : Own8 w base v xs) (hf : Fr S w w') (hs : ∀ k, v.ownBlock = some k → ¬ S k) : Own8 w' base v xs := own_fr h hf hs
theorem Own8.alloc (h : Own8 w base v xs) (o : Obj) : Own8 (w.alloc o) base v xs := h.fr ((Fr.refl (fun _ => False) w).alloc o) (fun _ _ => id)
theorem Own8.drew (h : Own8 w base v xs) : Own8 w.drew base v xs := h.fr ((Fr.refl (fun _ => False) w).drew) (fun _ _ => id)
theorem Own8.setCell {g i : Nat} {t : TypeId} {cs : Array Value} (h : Own8 w base v xs) (hg : Blk w g t cs) (hne : 5 ≠ t) (u : Value) : Own8 (w.setCell ⟨g, i, none⟩ u) base v xs := own_setCell h hg hne i u
theorem Own8.len {n m c : Nat} (h : Own8 w base (.slice A n c) xs) (e : n = m) : Own8 w base (.slice A m c) xs := by subst e; exact h
theorem Own8.base_ {base' : Nat} (h : Own8 w base v xs) (hb : base' ≤ base) : Own8 w base' v xs := own_base h hb
theorem Own8.form (h : Own8 w base v xs) : ∃ A cap, v = .slice A xs.length cap ∧ xs.length ≤ cap ∧ ByteRow w (fun k => v.ownBlock = some k) A xs := by
  obtain ⟨A, cap, hv, hcap, hat⟩ := own_form h
  refine ⟨A, cap, hv, hcap, ?_⟩
  intro k x hx
  obtain ⟨b, hb, _, hc⟩ := hat k (.int .u8 x) (by simp [bytesV, hx])
  exact ⟨b, 0, hb, by rw [hv, hb]; rfl, by rw [Nat.zero_add]; exact hc⟩
theorem Own8.lt (h : Own8 w base v xs) : ∀ k, v.ownBlock = some k → k < w.heap.size := by
  intro k hk
  rcases h.2 with ⟨rfl, _⟩ | ⟨g, cap, cur, rfl, _, hg, _⟩
  · cases hk
  · cases hk
    exact lt_of_heap hg
theorem Own8.ne_blk {g : Nat} {t : TypeId} {cs : Array Value} (h : Own8 w base v xs) (hg : Blk w g t cs) (hne : 5 ≠ t) : v.ownBlock ≠ some g := own_ne_blk h hg hne
theorem bytes_cells (h : ByteAt w b o xs) : ∀ j u, (bytesV xs)[j]? = some u → w.cell? ((⟨b, o, none⟩ : Addr).add j) = some u := by
  intro j u hu
  rw [bytesV, List.getElem?_map] at hu
  obtain ⟨x, hx, rfl⟩ := Option.map_eq_some_iff.1 hu
  rw [add_at]
  exact h j x hx
theorem bytes_one (xs : List Int) : ∀ u ∈ bytesV xs, u.oneCell' = true := by
  intro u hu
  obtain ⟨x, _, rfl⟩ := List.mem_map.1 hu
  rfl
theorem ByteAt.new (w : World) (xs : List Int) : ByteAt (w.alloc (.cells (bytesV xs).toArray 5)) w.heap.size 0 xs := by
  intro k x hx
  rw [Nat.zero_add, (Blk.new w 5 (bytesV xs).toArray).cell k]
  simp [bytesV, hx]
/-- A row made with its elements, out of 'buildSlice'. -/
theorem Own8.built (w : World) {base : Nat} (hb : base ≤ w.heap.size) (xs : List Int) (hx : xs.length ≤ 1000) (n : Nat) (hn : n = xs.length) :
    Own8 (w.alloc (.cells (bytesV xs).toArray 5)) base (.slice (some ⟨w.heap.size, 0, none⟩) n n) xs := by
  subst hn
  refine ⟨by simp [bytesV], .inr ⟨w.heap.size, xs.length, (bytesV xs).toArray, rfl, hb, heap_alloc_new w _, Nat.le_refl _, by simp only [maxLen]; omega, by simp [bytesV], ?_⟩⟩
  simp [bytesV, List.take_of_length_le]
end
/-- 'append(v, xs...)' in a plain list, v the call's own. -/
theorem wpList_append_bytes {w : World} {ops : Array Oper} {rest : List Oper} {o : Oper} {a : Act} {Q : Exit → Act → World → Prop} (hgd : o.guard = none) (s x : Operand)
    (ho : o.op = .call { callee := .builtin .append, args := #[s, x], argTypes := #[38, 38] })
    (base : Nat) (v : Value) (ys : List Int) (hs : a.eval s = v) (hown : Own8 w base v ys)
    (b f m c : Nat) (xs : List Int) (hx : a.eval x = .slice (some ⟨b, f, none⟩) m c) (hl : xs.length = m) (hxs : ByteAt w b f xs)
    (hm : 0 < m) (h63 : ys.length + m ≤ 1099511627776) (hbase : base ≤ w.heap.size)
    (h : ∀ g cap w', Own8 w' base (.slice (some ⟨g, 0, none⟩) (ys ++ xs).length cap) (ys ++ xs) → Fr (fun k => v.ownBlock = some k) w w' → (v.ownBlock = some g ∨ g = w.heap.size) → wpList Tryz.prog ops Q rest (a.put o.dst (.slice (some ⟨g, 0, none⟩) (ys ++ xs).length cap)) w') : wpList Tryz.prog ops Q (o :: rest) a w := by
  have hinf : (Tryz.prog.info? 5).map (fun i => (i.zero, i.size, i.bytes)) = some (some (.int .u8 0), 1, 1) := by kernel_rfl
  obtain ⟨i0, hi, hz0, hz1, hz2⟩ := info_parts hinf
  refine wpList_append_lies (w := w) hgd s x 38 ho base 5 i0 (.int .u8 0) 1 1 Tryz.underlying38 hi hz0 hz1 hz2 rfl (by decide) v ys.length (bytesV ys) hs hown ⟨b, f, none⟩ m c (bytesV xs) hx (by simp [bytesV, hl]) (bytes_cells hxs) (bytes_one xs) hm (by simp only [maxLen]; omega) (by omega) hbase w.heap.size rfl ?_
  intro g cap w' h1 h2 h3 _
  have e : ys.length + m = (ys ++ xs).length := by rw [List.length_append, hl]
  rw [e] at h1 ⊢
  exact h g cap w' (by unfold Own8; rw [bytesV, List.map_append]; exact h1) ((Fr.refl _ w).grown h2 (fun _ _ e1 => e1)) h3
theorem run_append_nil (w : World) (base : Nat) (t ty e : TypeId) (i : TypeInfo) (size : Nat) (ht : Tryz.prog.underlying t = some (.slice e)) (hi : Tryz.prog.info? e = some i)
    (v : Value) (n : Nat) (xs : List Value) (hown : w.ownsRow base e size v n xs) (c : Nat) : (Builtin.append_ #[t, t] ty #[v, .slice none 0 c]).run Tryz.prog w = .ok v w := by
  rcases hown.2 with ⟨rfl, rfl⟩ | ⟨g, cap, cur, rfl, _, _, hnc, _⟩
  · simp [Builtin.append_, run_underlying ht, sizeOf, typeInfo, hi, Builtin.lenOf, Builtin.firstCells]
  · simp [Builtin.append_, run_underlying ht, sizeOf, typeInfo, hi, Builtin.lenOf, Builtin.firstCells, hnc, storeCells]
/-- 'append(v, xs...)', v the call's own, xs any bytes, none perhaps. -/
theorem run_append_text (w : World) (ty : TypeId) (base : Nat) (v : Value) (ys : List Int) (hown : Own8 w base v ys) (B : Nat → Prop) (A : Option Addr) (c : Nat) (xs : List Int) (hr : ByteRow w B A xs)
    (h63 : ys.length + xs.length ≤ 1099511627776) (hbase : base ≤ w.heap.size) :
    ∃ v' w', (Builtin.append_ #[38, 38] ty #[v, .slice A xs.length c]).run Tryz.prog w = .ok v' w' ∧ Own8 w' base v' (ys ++ xs) ∧ Fr (fun k => v.ownBlock = some k) w w' ∧ (v'.ownBlock = v.ownBlock ∨ v'.ownBlock = some w.heap.size) := by
  have hinf : (Tryz.prog.info? 5).map (fun i => (i.zero, i.size, i.bytes)) = some (some (.int .u8 0), 1, 1) := by kernel_rfl
  obtain ⟨i0, hi, hz0, hz1, hz2⟩ := info_parts hinf
  rcases A with _ | ad
  · have hx : xs = [] := by
      cases xs with
      | nil => rfl
      | cons x r => obtain ⟨b, o, e, _⟩ := hr 0 x rfl; cases e
    subst hx
    exact ⟨v, w, run_append_nil w base 38 ty 5 i0 1 Tryz.underlying38 hi v ys.length (bytesV ys) hown c, by simpa using hown, Fr.refl _ _, .inl rfl⟩
  · have hcells : ∀ j u, (bytesV xs)[j]? = some u → w.cell? (ad.add j) = some u := by
      intro j u hu
      rw [bytesV, List.getElem?_map] at hu
      obtain ⟨x, hx, rfl⟩ := Option.map_eq_some_iff.1 hu
      obtain ⟨b, o, e, _, hc⟩ := hr j x hx
      cases e
      rw [add_at]
      exact hc
    obtain ⟨v', w', hrun, h2, h3, _, h5⟩ := run_append_own_at (P := Tryz.prog) (w := w) base 38 ty 5 i0 (.int .u8 0) 1 1 Tryz.underlying38 hi hz0 hz1 hz2 rfl (by decide) v ys.length (bytesV ys) hown ad xs.length c (bytesV xs) (by simp [bytesV]) hcells (bytes_one xs) (by simp only [maxLen]; omega) (by omega) hbase
    exact ⟨v', w', hrun, by unfold Own8; rw [bytesV, List.map_append, List.length_append]; exact h2, (Fr.refl _ w).grown h3 (fun _ _ e1 => e1), h5⟩
theorem wp_append_text {w : World} {o : Oper} {a : Act} {K : Act → World → Prop} {Q : Exit → Act → World → Prop} (s x : Operand)
    (ho : o.op = .call { callee := .builtin .append, args := #[s, x], argTypes := #[38, 38] })
    (base : Nat) (v : Value) (ys : List Int) (hs : a.eval s = v) (hown : Own8 w base v ys)
    (B : Nat → Prop) (A : Option Addr) (m c : Nat) (xs : List Int) (hx : a.eval x = .slice A m c) (hl : m = xs.length) (hr : ByteRow w B A xs) (h63 : ys.length + xs.length ≤ 1099511627776) (hbase : base ≤ w.heap.size)
    (h : ∀ v' w', Own8 w' base v' (ys ++ xs) → Fr (fun k => v.ownBlock = some k) w w' → (v'.ownBlock = v.ownBlock ∨ v'.ownBlock = some w.heap.size) → K (a.put o.dst v') w') : o.wp Tryz.prog a w K Q := by
  subst hl
  obtain ⟨v', w', hrun, h2, h3, h4⟩ := run_append_text w o.type base v ys hown B A c xs hr h63 hbase
  unfold Oper.wp execOp
  simp only [ho, resolve, invoke, builtin, Sem.run_bind, Sem.run_pure, Result.andThen_ok, List.map_toArray, List.map_cons, List.map_nil, hs, hx, hrun]
  exact h v' w' h2 h3 h4
theorem wpList_append_text {w : World} {ops : Array Oper} {rest : List Oper} {o : Oper} {a : Act} {Q : Exit → Act → World → Prop} (hgd : o.guard = none) (s x : Operand)
    (ho : o.op = .call { callee := .builtin .append, args := #[s, x], argTypes := #[38, 38] })
    (base : Nat) (v : Value) (ys : List Int) (hs : a.eval s = v) (hown : Own8 w base v ys)
    (B : Nat → Prop) (A : Option Addr) (m c : Nat) (xs : List Int) (hx : a.eval x = .slice A m c) (hl : m = xs.length) (hr : ByteRow w B A xs) (h63 : ys.length + xs.length ≤ 1099511627776) (hbase : base ≤ w.heap.size)
    (h : ∀ v' w', Own8 w' base v' (ys ++ xs) → Fr (fun k => v.ownBlock = some k) w w' → (v'.ownBlock = v.ownBlock ∨ v'.ownBlock = some w.heap.size) → wpList Tryz.prog ops Q rest (a.put o.dst v') w') : wpList Tryz.prog ops Q (o :: rest) a w :=
  wpList_plain hgd fun _ hK => wp_append_text s x ho base v ys hs hown B A m c xs hx hl hr h63 hbase fun v' w' h2 h3 h4 => hK _ _ (h v' w' h2 h3 h4)
theorem step_append_text {w : World} {ops : Array Oper} {o : Oper} {a : Act} {K : Act → World → Prop} {Q : Exit → Act → World → Prop} {E : Prop} (hgd : o.guard = none) (s x : Operand)
    (ho : o.op = .call { callee := .builtin .append, args := #[s, x], argTypes := #[38, 38] })
    (base : Nat) (v : Value) (ys : List Int) (hs : a.eval s = v) (hown : Own8 w base v ys)
    (B : Nat → Prop) (A : Option Addr) (m c : Nat) (xs : List Int) (hx : a.eval x = .slice A m c) (hl : m = xs.length) (hr : ByteRow w B A xs) (h63 : ys.length + xs.length ≤ 1099511627776) (hbase : base ≤ w.heap.size)
    (h : ∀ v' w', Own8 w' base v' (ys ++ xs) → Fr (fun k => v.ownBlock = some k) w w' → (v'.ownBlock = v.ownBlock ∨ v'.ownBlock = some w.heap.size) → K (a.put o.dst v') w') :
    if Region.wanted o (yielded ops a.tmps) = true then Oper.wp Tryz.prog o a w K Q else E := by
  have hw : Region.wanted o (yielded ops a.tmps) = true := by simp [Region.wanted, hgd]
  rw [if_pos hw]
  exact wp_append_text s x ho base v ys hs hown B A m c xs hx hl hr h63 hbase h
/-- What is a fresh row of these bytes. -/
def Fresh (w : World) (xs : List Int) (e : Ending) (w' : World) : Prop := ∃ v, e = .returned v ∧ Own8 w' w.heap.size v xs ∧ Fr (fun _ => False) w w'
set_option maxRecDepth 100000 in
theorem bytes_Clone {w : World} {B : Nat → Prop} {A : Option Addr} {xs : List Int} {n cap : Nat} (h : ByteRow w B A xs) (hn : n = xs.length) (hl : xs.length ≤ 1099511627776) :
    Calls Tryz.prog 132 #[.slice A n cap] w (Fresh w xs) := by
  subst hn
  have hq := fun w' A n => @Lib.run_eql_slice_nil Tryz.prog w' 38 5 A n cap 0 0 Tryz.underlying38
  cases xs with
  | nil =>
    cases A with
    | none =>
      go_enter Tryz.func132, Tryz.ntmps132
      go_wp2
      go_ret
      exact ⟨.slice none 0 0, rfl, Own8.nil _ _, Fr.refl _ _⟩
    | some a =>
      go_enter Tryz.func132, Tryz.ntmps132
      go_wp2
      go_ret
      exact ⟨.slice (some ⟨w.heap.size, 0, none⟩) 0 0, rfl, Own8.built w (Nat.le_refl _) [] (by simp) 0 rfl, (Fr.refl (fun _ => False) w).alloc _⟩
  | cons x r =>
    obtain ⟨b, o, rfl, hb, hat⟩ := h.at (by simp)
    go_enter Tryz.func132, Tryz.ntmps132
    go_wp2_with (at_builtin; refine wpList_append_bytes rfl (.tmp 5) (.tmp 6) rfl w.heap.size _ [] rfl (Own8.built w (Nat.le_refl _) [] (by simp) 0 rfl) b o (x :: r).length cap (x :: r) rfl rfl (hat.fr ((Fr.refl (fun _ => False) w).alloc _) id) (by simp) (by simpa using hl) (by simp) ?_; intro g2 c2 w2 hown2 hf2 hg2)
    go_ret
    refine ⟨.slice (some ⟨g2, 0, none⟩) ([] ++ (x :: r)).length c2, rfl, hown2, ((Fr.refl (fun _ => False) w).alloc (Obj.cells #[] 5)).trans hf2 ?_⟩
    intro k hk e1
    cases e1
    simp at hk
end Go.Proofs.YtmkdhhhoodeemaaGreat

/- append of a row to a row of the call's own, for any element of one cell, in a region that draws its order. -/
namespace Go.Proofs.YtmkdhhhoodeemaaGreat
open Go Go.RowKit
section
variable {P : Program}
theorem wp_append_gen {w : World} {o : Oper} {a : Act} {K : Act → World → Prop} {Q : Exit → Act → World → Prop} (s x : Operand) (T e : TypeId)
    (ho : o.op = .call { callee := .builtin .append, args := #[s, x], argTypes := #[T, T] }) (hT : P.underlying T = some (.slice e)) {z : Value} {bytes : Nat} (hinf : (P.info? e).map (fun i => (i.zero, i.size, i.bytes)) = some (some z, 1, bytes)) (hz1 : z.cells.size = 1)
    (base : Nat) (v : Value) (n : Nat) (ys : List Value) (hs : a.eval s = v) (hown : w.ownsRow base e 1 v n ys)
    (ad : Addr) (m c : Nat) (news : List Value) (hx : a.eval x = .slice (some ad) m c) (hl : news.length = m) (hnews : ∀ j u, news[j]? = some u → w.cell? (ad.add j) = some u) (h1 : ∀ u ∈ news, u.oneCell' = true) (h63 : n + m ≤ 1099511627776) (hb : bytes ≤ 64) (hbase : base ≤ w.heap.size)
    (h : ∀ v' w', w'.ownsRow base e 1 v' (n + m) (ys ++ news) → Fr (fun k => v.ownBlock = some k) w w' → (v'.ownBlock = v.ownBlock ∨ v'.ownBlock = some w.heap.size) → K (a.put o.dst v') w') : o.wp P a w K Q := by
  obtain ⟨i0, hi, hz0, hz2, hz3⟩ := info_parts hinf
  have hbytes : (n + m) * bytes ≤ 140737488355328 := Nat.le_trans (Nat.mul_le_mul h63 hb) (by decide)
  obtain ⟨v', w', hrun, h2, h3, _, h5⟩ := run_append_own_at (P := P) (w := w) base T o.type e i0 z 1 bytes hT hi hz0 hz2 hz3 hz1 (by decide) v n ys hown ad m c news (by omega) hnews h1 (by simp only [maxLen]; omega) hbytes hbase
  unfold Oper.wp execOp
  simp only [ho, resolve, invoke, builtin, Sem.run_bind, Sem.run_pure, Result.andThen_ok, List.map_toArray, List.map_cons, List.map_nil, hs, hx, hrun]
  exact h v' w' h2 ((Fr.refl _ w).grown h3 (fun _ _ e1 => e1)) h5
theorem step_append_gen {w : World} {ops : Array Oper} {o : Oper} {a : Act} {K : Act → World → Prop} {Q : Exit → Act → World → Prop} {E : Prop} (hgd : o.guard = none) (s x : Operand) (T e : TypeId)
    (ho : o.op = .call { callee := .builtin .append, args := #[s, x], argTypes := #[T, T] }) (hT : P.underlying T = some (.slice e)) {z : Value} {bytes : Nat} (hinf : (P.info? e).map (fun i => (i.zero, i.size, i.bytes)) = some (some z, 1, bytes)) (hz1 : z.cells.size = 1)
    (base : Nat) (v : Value) (n : Nat) (ys : List Value) (hs : a.eval s = v) (hown : w.ownsRow base e 1 v n ys)
    (ad : Addr) (m c : Nat) (news : List Value) (hx : a.eval x = .slice (some ad) m c) (hl : news.length = m) (hnews : ∀ j u, news[j]? = some u → w.cell? (ad.add j) = some u) (h1 : ∀ u ∈ news, u.oneCell' = true) (h63 : n + m ≤ 1099511627776) (hb : bytes ≤ 64) (hbase : base ≤ w.heap.size)
    (h : ∀ v' w', w'.ownsRow base e 1 v' (n + m) (ys ++ news) → Fr (fun k => v.ownBlock = some k) w w' → (v'.ownBlock = v.ownBlock ∨ v'.ownBlock = some w.heap.size) → K (a.put o.dst v') w') :
    if Region.wanted o (yielded ops a.tmps) = true then Oper.wp P o a w K Q else E := by
  have hw : Region.wanted o (yielded ops a.tmps) = true := by simp [Region.wanted, hgd]
  rw [if_pos hw]
  exact wp_append_gen s x T e ho hT hinf hz1 base v n ys hs hown ad m c news hx hl hnews h1 h63 hb hbase h
/-- What lies in a row of one cell that was just made. -/
theorem new_one (w : World) (e : TypeId) (u : Value) : ∀ (j : Nat) u', ([u] : List Value)[j]? = some u' → (w.alloc (Obj.cells #[u] e)).cell? ((⟨w.heap.size, 0, none⟩ : Addr).add j) = some u' := by
  intro j u' h
  cases j with
  | zero =>
    cases h
    exact (Blk.new w e #[u]).cell 0
  | succ j => simp at h
end
end Go.Proofs.YtmkdhhhoodeemaaGreat

/- Bytes as a string. -/
namespace Go.Proofs.YtmkdhhhoodeemaaGreat
open Go Go.RowKit
theorem conv_bytes {w : World} {F : Nat → Prop} {A : Option Addr} {xs : List Int} {n cap : Nat} (h : ByteRow w F A xs) (hn : n = xs.length) : (convert 38 9 (.slice A n cap)).run Tryz.prog w = .ok (.string (strOfNums xs)) w := by
  subst hn
  cases xs with
  | nil =>
    cases A with
    | none => exact run_convert_bytes_nil w 38 5 Tryz.underlying38 Tryz.underlying5 0 cap 9 Tryz.underlying9
    | some a =>
      rw [List.length_nil, run_convert_bytes_string w 38 9 5 _ _ cap Tryz.underlying38 Tryz.underlying5 Tryz.underlying9, run_bytesToString w a 0 cap [] (by simp [loadCells, loadCellsFrom])]
      rfl
  | cons x r =>
    obtain ⟨b, o, rfl, _, hat⟩ := h.at (by simp)
    refine run_convert_bytes_arg w 38 5 Tryz.underlying38 Tryz.underlying5 b o _ cap (x :: r) rfl ?_ 9 Tryz.underlying9
    intro i hi
    refine hat i _ ?_
    rw [List.getD_eq_getElem?_getD, List.getElem?_eq_getElem hi]
    rfl
end Go.Proofs.YtmkdhhhoodeemaaGreat

/- Strings and bytes: a string's bytes in a new row; the string of bytes. -/
namespace Go.Proofs.YtmkdhhhoodeemaaGreat
open Go Go.RowKit
def bytesOf (s : ByteArray) : List Int := s.data.toList.map fun b => (b.toNat : Int)
theorem bytesOf_length (s : ByteArray) : (bytesOf s).length = s.size := by
  rw [bytesOf, List.length_map, Array.length_toList]
  rfl
theorem bytesOf_8 (s : ByteArray) : ∀ x ∈ bytesOf s, 0 ≤ x ∧ x ≤ 255 := by
  intro x hx
  obtain ⟨b, _, rfl⟩ := List.mem_map.1 hx
  have := b.toNat_lt
  omega
theorem strOf_bytesOf (s : ByteArray) : strOfNums (bytesOf s) = s := by
  refine ByteArray.ext (Array.ext' ?_)
  rw [strOfNums_data, bytesOf, List.map_map]
  conv => rhs; rw [← List.map_id s.data.toList]
  refine List.map_congr_left fun b _ => ?_
  show UInt8.ofNat ((b.toNat : Int)).toNat = b
  simp
theorem bytesOf_strOf {xs : List Int} (h : ∀ x ∈ xs, 0 ≤ x ∧ x ≤ 255) : bytesOf (strOfNums xs) = xs := by
  rw [bytesOf, strOfNums_data, List.map_map]
  conv => rhs; rw [← List.map_id xs]
  refine List.map_congr_left fun x hx => ?_
  obtain ⟨h1, h2⟩ := h x hx
  show ((UInt8.ofNat x.toNat).toNat : Int) = x
  rw [UInt8.toNat_ofNat']
  omega
theorem strOf_inj {a b : List Int} (ha : ∀ x ∈ a, 0 ≤ x ∧ x ≤ 255) (hb : ∀ x ∈ b, 0 ≤ x ∧ x ≤ 255) (h : strOfNums a = strOfNums b) : a = b := by
  rw [← bytesOf_strOf ha, h, bytesOf_strOf hb]
/-- The world behind '[]byte(s)'. -/
def strW (w : World) (s : ByteArray) : World := Lib.bytesWorld w 5 s
theorem strW_fr (w : World) (s : ByteArray) : Fr (fun _ => False) w (strW w s) :=
  ⟨rfl, rfl, rfl, by rw [strW, Lib.bytesWorld_size]; omega, fun k hk _ => Lib.bytesWorld_at_old w 5 s k hk⟩
theorem strW_row (w : World) (s : ByteArray) : ByteRow (strW w s) (fun k => k = w.heap.size) (some ⟨w.heap.size, 0, none⟩) (bytesOf s) := by
  intro k x hx
  refine ⟨w.heap.size, 0, rfl, rfl, ?_⟩
  obtain ⟨hk, rfl⟩ := List.getElem?_eq_some_iff.1 hx
  have hk' : k < s.size := by rw [bytesOf_length] at hk; exact hk
  rw [Nat.zero_add]
  have := Lib.bytesWorld_cell w 5 s k hk'
  rw [strW, this, List.getD_eq_getElem?_getD, List.getElem?_eq_getElem (by rw [Array.length_toList]; exact hk')]
  simp [bytesOf]
theorem run_str (w : World) (s : ByteArray) : (convert 9 38 (.string s)).run Tryz.prog w = .ok (.slice (some ⟨w.heap.size, 0, none⟩) s.size (grownCap w s.size 0 5)) (strW w s) :=
  Lib.run_convert_string_bytes w 9 38 5 s Tryz.underlying9 Tryz.underlying38 Tryz.underlying5
end Go.Proofs.YtmkdhhhoodeemaaGreat

/- Regions that draw their order, walked by hand: a take with its destination said; S made greater on the way. -/
namespace Go.Proofs.YtmkdhhhoodeemaaGreat
open Go
theorem wpAnyH_takeAt {P : Program} {md : Region.Mode} {ops : Array Oper} {Q : Exit → Act → World → Prop} {S : World → Prop} {i : Nat} {oi : Oper} {v : Value} {fuel : Nat} {listed : Array Bool} {a : Act} {w : World} (d : Option Tmp) (hi : ops[i]? = some oi) (hd : oi.dst = d)
    (hs : Region.noSelect ops = true) (hf : Region.free md ops listed i = true) (hr : (Region.ready md ops listed).contains i = true)
    (hQ : ∀ c a w, Q (.panic c) (a.put d v) w → Q (.panic c) a w) (hy : YieldsIf P ops S oi v a) (hS : S w)
    (h : wpAnyH P md ops Q S fuel (listed.setIfInBounds i true) (a.put d v) w) : wpAnyH P md ops Q S (fuel + 1) listed a w := by
  subst hd
  exact wpAnyH_take hi hs hf hr hQ hy hS h
end Go.Proofs.YtmkdhhhoodeemaaGreat
