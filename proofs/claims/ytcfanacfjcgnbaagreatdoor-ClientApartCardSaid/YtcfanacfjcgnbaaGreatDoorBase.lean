/- Words on memory for this seat: what a call leaves as it was, a block known whole, maps whose keys are pairs of integers. Plain lemmas over any program. -/
import Derived.WalkKit
import Derived.WalkLawsBesides
import Derived.WalkSpells
import Derived.Maps.Own
import Derived.OneCell
import Derived.Deep.QuietTactic
import Derived.BigQuiet
namespace Go.Proofs.YtcfanacfjcgnbaaGreatDoor
open Go Go.RowKit

/-- What was there before and does not lie in S is as it was. -/
structure Fr (S : Nat → Prop) (w w' : World) : Prop where
  os : w'.os = w.os
  tape : w'.tape = w.tape
  output : w'.output = w.output
  size : w.heap.size ≤ w'.heap.size
  block : ∀ k, k < w.heap.size → ¬ S k → w'.heap[k]? = w.heap[k]?

section
variable {S T : Nat → Prop} {a b c w w' : World}
theorem Fr.refl (S : Nat → Prop) (w : World) : Fr S w w := ⟨rfl, rfl, rfl, Nat.le_refl _, fun _ _ _ => rfl⟩
theorem Fr.trans (h : Fr S a b) (k : Fr T b c) (hT : ∀ x, x < a.heap.size → T x → S x) : Fr S a c :=
  ⟨k.os.trans h.os, k.tape.trans h.tape, k.output.trans h.output, Nat.le_trans h.size k.size,
   fun i hi hs => (k.block i (Nat.lt_of_lt_of_le hi h.size) (fun ht => hs (hT i hi ht))).trans (h.block i hi hs)⟩
theorem Fr.mono (h : Fr S a b) (hT : ∀ x, x < a.heap.size → S x → T x) : Fr T a b :=
  ⟨h.os, h.tape, h.output, h.size, fun i hi hs => h.block i hi (fun x => hs (hT i hi x))⟩
theorem Fr.then_ (h : Fr S a b) (k : Fr (fun _ => False) b c) : Fr S a c := h.trans k (fun _ _ hx => hx.elim)
theorem Fr.drew (h : Fr S a w) : Fr S a w.drew := ⟨h.os, h.tape, h.output, h.size, h.block⟩
theorem Fr.drewN (h : Fr S a w) (n : Nat) : Fr S a (w.drewN n) := ⟨h.os, h.tape, h.output, h.size, h.block⟩
theorem Fr.alloc (h : Fr S a w) (o : Obj) : Fr S a (w.alloc o) :=
  h.trans (T := fun _ => False) ⟨rfl, rfl, rfl, by simp, fun k hk _ => Below.heap_alloc _ _ _ hk⟩ (fun _ _ hx => hx.elim)
theorem Fr.setCell (h : Fr S a w) {p : Addr} (hp : p.block < a.heap.size → S p.block) (u : Value) : Fr S a (w.setCell p u) :=
  h.trans (T := fun k => k = p.block) ⟨rfl, rfl, rfl, by simp, fun k _ hk => Below.heap_setCell _ _ _ _ hk⟩ (fun x hx e => by subst e; exact hp hx)
theorem Fr.setBlock (h : Fr S a w) {m : Nat} (hp : m < a.heap.size → S m) (o : Obj) : Fr S a (ChangeMaps.setBlock w m o) :=
  h.trans (T := fun k => k = m) ⟨rfl, rfl, rfl, by simp [ChangeMaps.setBlock], fun k _ hk => by
    simp only [ChangeMaps.setBlock]
    rw [Array.getElem?_setIfInBounds_ne (fun e => hk e.symm)]⟩ (fun x hx e => by subst e; exact hp hx)
theorem Fr.grown (h : Fr S a w) {row : Option Nat} (hg : w.grownBy w' row) (hr : ∀ k, k < a.heap.size → row = some k → S k) : Fr S a w' :=
  h.trans (T := fun k => row = some k) ⟨hg.os, hg.tape, hg.output, hg.size, fun k hk hn => hg.block k hk (fun e => hn e.symm)⟩ hr
theorem Fr.below {B : Nat} (h : Fr S w w') (hB : B ≤ w.heap.size) (hS : ∀ k, k < B → ¬ S k) : Below B w w' :=
  ⟨h.os, h.tape, h.output, h.size, fun k hk => h.block k (Nat.lt_of_lt_of_le hk hB) (hS k hk)⟩
theorem Fr.cell (h : Fr S w w') {p : Addr} (hp : p.block < w.heap.size) (hs : ¬ S p.block) : w'.cell? p = w.cell? p :=
  World.cell?_of_block (w := w) (h.block p.block hp hs)
theorem Fr.cell_some (h : Fr S w w') {p : Addr} {v : Value} (hc : w.cell? p = some v) (hs : ¬ S p.block) : w'.cell? p = some v :=
  (h.cell (World.block_lt_of_cell? w p hc) hs).trans hc
theorem Fr.frozen (h : Fr S w w') {p : Addr} (hp : p.block < w.heap.size) (hs : ¬ S p.block) : w'.frozen? p = w.frozen? p :=
  World.frozen?_of_block (w := w) (h.block p.block hp hs)
theorem Fr.at_ (h : Fr S w w') {k : Nat} {o : Obj} (hk : w.heap[k]? = some o) (hs : ¬ S k) : w'.heap[k]? = some o := by
  have hlt : k < w.heap.size := by
    rcases Nat.lt_or_ge k w.heap.size with h1 | h1
    · exact h1
    · rw [Array.getElem?_eq_none h1] at hk; cases hk
  exact (h.block k hlt hs).trans hk
end

theorem lt_of_heap {w : World} {k : Nat} {o : Obj} (hk : w.heap[k]? = some o) : k < w.heap.size := by
  rcases Nat.lt_or_ge k w.heap.size with h1 | h1
  · exact h1
  · rw [Array.getElem?_eq_none h1] at hk; cases hk

/-- Block g is just the cells cs of element type t, none frozen. -/
def Blk (w : World) (g : Nat) (t : TypeId) (cs : Array Value) : Prop := w.heap[g]? = some (.cells cs t (0, 0))

section
variable {S : Nat → Prop} {w w' : World} {g : Nat} {t : TypeId} {cs : Array Value}
theorem Blk.lt (h : Blk w g t cs) : g < w.heap.size := lt_of_heap h
theorem Blk.cell (h : Blk w g t cs) (i : Nat) : w.cell? ⟨g, i, none⟩ = cs[i]? := cell_of_row w g i cs t (0, 0) h
theorem Blk.frozen (h : Blk w g t cs) (i : Nat) : w.frozen? ⟨g, i, none⟩ = false := by
  unfold Blk at h
  simp [World.frozen?, h]
theorem Blk.new (w : World) (t : TypeId) (cs : Array Value) : Blk (w.alloc (.cells cs t)) w.heap.size t cs := heap_alloc_new w _
theorem Blk.new_ (w : World) (t : TypeId) (cs : Array Value) {n : Nat} (hn : n = w.heap.size) : Blk (w.alloc (.cells cs t)) n t cs := by subst hn; exact Blk.new w t cs
theorem Blk.drew (h : Blk w g t cs) : Blk w.drew g t cs := h
theorem Blk.drewN (h : Blk w g t cs) (n : Nat) : Blk (w.drewN n) g t cs := h
theorem Blk.alloc (h : Blk w g t cs) (o : Obj) : Blk (w.alloc o) g t cs := (Below.heap_alloc w o g h.lt).trans h
theorem Blk.set_ (h : Blk w g t cs) (i : Nat) (u : Value) : Blk (w.setCell ⟨g, i, none⟩ u) g t (cs.setIfInBounds i u) := by
  unfold Blk at h ⊢
  simp [World.setCell, Array.getElem?_modify, h]
theorem Blk.far (h : Blk w g t cs) {p : Addr} (hp : g ≠ p.block) (u : Value) : Blk (w.setCell p u) g t cs := (Below.heap_setCell w p u g hp).trans h
theorem Blk.fr (h : Blk w g t cs) (hf : Fr S w w') (hs : ¬ S g) : Blk w' g t cs := hf.at_ h hs
theorem Blk.below {B : Nat} (h : Blk w g t cs) (hb : Below B w w') (hg : g < B) : Blk w' g t cs := (hb.block g hg).trans h
theorem Blk.ne_ {g' : Nat} {t' : TypeId} {cs' : Array Value} (h : Blk w g t cs) (h' : Blk w g' t' cs') (hne : t ≠ t') : g ≠ g' := by
  rintro rfl
  unfold Blk at h h'
  rw [h] at h'
  injection h' with h'
  injection h' with _ ht
  exact hne ht
theorem Blk.ne_map {m : Nat} {es : Array MapEntry} {cl : Nat} (h : Blk w g t cs) (h' : w.heap[m]? = some (.map es cl)) : g ≠ m := by
  rintro rfl
  unfold Blk at h
  rw [h] at h'
  cases h'
end

/-! Maps whose keys are structs of two integers. -/
section
variable {P : Program} {w : World}

def pairKey (p : Int × Int) : Value := .agg #[.int .i64 p.1, .int .i64 p.2]

/-- Block m is a map whose keys, in the order in which they came, are the pairs L; each element is the one value of no cells. -/
def PairMap (w : World) (m : Nat) (L : List (Int × Int)) : Prop :=
  ∃ es cl, w.heap[m]? = some (.map es cl) ∧ es.toList.map (·.key) = L.map pairKey ∧ ∀ e ∈ es.toList, e.val = .agg #[]

theorem PairMap.fr {S : Nat → Prop} {w w' : World} {m : Nat} {L : List (Int × Int)} (h : PairMap w m L) (hf : Fr S w w') (hs : ¬ S m) : PairMap w' m L := by
  obtain ⟨es, cl, h1, h2⟩ := h
  exact ⟨es, cl, hf.at_ h1 hs, h2⟩
theorem PairMap.lt {w : World} {m : Nat} {L : List (Int × Int)} (h : PairMap w m L) : m < w.heap.size := by
  obtain ⟨es, cl, h1, _⟩ := h
  exact lt_of_heap h1
theorem PairMap.alloc {w : World} {m : Nat} {L : List (Int × Int)} (h : PairMap w m L) (o : Obj) : PairMap (w.alloc o) m L := by
  obtain ⟨es, cl, h1, h2⟩ := h
  exact ⟨es, cl, (Below.heap_alloc w o m (lt_of_heap h1)).trans h1, h2⟩

/-- The key's type, by its closed facts. -/
structure PairType (P : Program) (mt k ik e : TypeId) : Prop where
  map : P.underlying mt = some (.map k e)
  int : P.underlying ik = some (.int .i64)
  stood : P.stoodInHeld k = false
  desc : ∃ f0 f1 : Field, P.underlying k = some (.struct #[f0, f1]) ∧ f0.type = ik ∧ f1.type = ik ∧ f0.offset = 0 ∧ f1.offset = 1 ∧ f0.name ≠ "_" ∧ f1.name ≠ "_"
  elem : ∀ w : World, (zeroValue e).run P w = .ok (.agg #[]) w

variable {mt k ik e : TypeId}
theorem run_equalIn_int (n : Nat) (hi : P.underlying ik = some (.int .i64)) (a b : Int) : (Op.equalIn (n + 1) ik (.int .i64 a) (.int .i64 b)).run P w = .ok (a == b) w := by
  simp [Op.equalIn, run_underlying hi]
theorem run_part_int (hi : P.underlying ik = some (.int .i64)) (cs : Array Value) (i : Nat) (v : Value) (hv : cs[i]? = some v) : (part ik cs i).run P w = .ok v w := by
  simp [part, isAgg, run_underlying hi, hv]
theorem run_equalIn_pair (T : PairType P mt k ik e) (n : Nat) (p q : Int × Int) :
    (Op.equalIn (n + 2) k (pairKey p) (pairKey q)).run P w = .ok (decide (p = q)) w := by
  obtain ⟨f0, f1, hd, t0, t1, o0, o1, n0, n1⟩ := T.desc
  obtain ⟨p1, p2⟩ := p
  obtain ⟨q1, q2⟩ := q
  have hs := T.stood
  have hi := T.int
  have h0 := fun v1 v2 : Value => run_part_int (w := w) hi #[v1, v2] 0 v1 rfl
  have h1 := fun v1 v2 : Value => run_part_int (w := w) hi #[v1, v2] 1 v2 rfl
  have he := fun a b => run_equalIn_int (w := w) n hi a b
  rw [Op.equalIn]
  simp only [pairKey, run_underlying hd, Sem.run_bind, Result.andThen_ok]
  simp [hs, t0, t1, o0, o1, n0, n1, h0, h1, he]
  by_cases e1 : p1 = q1 <;> by_cases e2 : p2 = q2 <;> simp [e1, e2]
theorem run_equal_pair (T : PairType P mt k ik e) (p q : Int × Int) :
    (Op.equal k (pairKey p) (pairKey q)).run P w = .ok (decide (p = q)) w := run_equalIn_pair T 9998 p q
theorem run_check_pair (T : PairType P mt k ik e) (em : Bool) (p : Int × Int) :
    (Instr.checkKey em 10000 k (pairKey p)).run P w = .ok () w := by
  obtain ⟨f0, f1, hd, t0, t1, o0, o1, n0, n1⟩ := T.desc
  have hi := T.int
  have h0 := fun v1 v2 : Value => run_part_int (w := w) hi #[v1, v2] 0 v1 rfl
  have h1 := fun v1 v2 : Value => run_part_int (w := w) hi #[v1, v2] 1 v2 rfl
  have hc := fun (v : Int) => (show (Instr.checkKey em (9998 + 1) ik (.int .i64 v)).run P w = .ok () w by rw [Instr.checkKey]; simp [run_underlying hi])
  show (Instr.checkKey em (9999 + 1) k (pairKey p)).run P w = .ok () w
  rw [Instr.checkKey]
  simp only [pairKey, run_underlying hd, Sem.run_bind, Result.andThen_ok]
  simp [t0, t1, o0, o1, n0, n1, h0, h1, hc]
theorem run_findAsking_pair (T : PairType P mt k ik e) (p : Int × Int) : ∀ (es : List MapEntry) (L : List (Int × Int)) (i : Nat), es.map (·.key) = L.map pairKey → (∀ x ∈ es, x.val = .agg #[]) →
    ∃ r, (Instr.findAsking k (pairKey p) es i).run P w = .ok r w ∧ (p ∈ L → ∃ j, r = some (j, .agg #[])) ∧ (p ∉ L → r = none)
  | [], L, i, h, _ => by
    have hL : L = [] := by simpa using h.symm
    subst hL
    exact ⟨none, by simp [Instr.findAsking], by simp, by simp⟩
  | x :: es, L, i, h, hv => by
    obtain ⟨q, L', rfl, hq, hr⟩ : ∃ q L', L = q :: L' ∧ x.key = pairKey q ∧ es.map (·.key) = L'.map pairKey := by
      cases L with
      | nil => simp at h
      | cons q L' => simp only [List.map_cons, List.cons.injEq] at h; exact ⟨q, L', rfl, h.1, h.2⟩
    have he := run_equal_pair (w := w) T p q
    obtain ⟨r, h1, h2, h3⟩ := run_findAsking_pair T p es L' (i + 1) hr (fun y hy => hv y (by simp [hy]))
    by_cases hpq : p = q
    · subst hpq
      exact ⟨some (i, x.val), by simp [Instr.findAsking, hq, he], fun _ => ⟨i, by rw [hv x (by simp)]⟩, by simp⟩
    · refine ⟨r, by simp [Instr.findAsking, hq, he, hpq, h1], fun hm => h2 ?_, fun hm => h3 ?_⟩
      · rcases List.mem_cons.1 hm with h' | h'
        · exact absurd h' hpq
        · exact h'
      · exact fun h' => hm (List.mem_cons_of_mem _ h')
theorem findNow_pair (d : TypeDesc) (v : Array Value) : ∀ (es : List MapEntry) (i : Nat), es ≠ [] → Instr.findNow d (.agg v) es i = none
  | [], _, h => absurd rfl h
  | x :: es, i, _ => by
    have : Instr.sameNow d (.agg v) x.key = none := by cases d <;> cases hk : x.key <;> rfl
    simp [Instr.findNow, this]
theorem run_findKey_pair (T : PairType P mt k ik e) (p : Int × Int) {es : List MapEntry} {L : List (Int × Int)} (h : es.map (·.key) = L.map pairKey) (hv : ∀ x ∈ es, x.val = .agg #[]) :
    ∃ r, (Instr.findKey k (pairKey p) es).run P w = .ok r w ∧ (p ∈ L → ∃ j, r = some (j, .agg #[])) ∧ (p ∉ L → r = none) := by
  obtain ⟨f0, f1, hd, _⟩ := T.desc
  by_cases hes : es = []
  · subst hes
    have hL : L = [] := by simpa using h.symm
    subst hL
    exact ⟨none, by simp [Instr.findKey, run_underlying hd, Instr.findNow], by simp, by simp⟩
  · obtain ⟨r, h1, h2⟩ := run_findAsking_pair (w := w) T p es L 0 h hv
    refine ⟨r, ?_, h2⟩
    simp only [Instr.findKey, run_underlying hd, Sem.run_bind, Result.andThen_ok, pairKey]
    rw [findNow_pair _ _ es 0 hes]
    exact h1

/-- 'v, ok := m[k]'. -/
theorem run_lookup_pair (T : PairType P mt k ik e) {m : Nat} {L : List (Int × Int)} (h : PairMap w m L) (a b : Int) :
    (Instr.lookup mt (.map (some m)) (.agg #[.int .i64 a, .int .i64 b]) true).run P w = .ok (.tuple #[.agg #[], .bool (decide ((a, b) ∈ L))]) w := by
  obtain ⟨es, cl, h1, h2, h3⟩ := h
  obtain ⟨r, hr, hin, hout⟩ := run_findKey_pair (w := w) T (a, b) h2 h3
  have hc := fun em => run_check_pair (w := w) T em (a, b)
  have hz := T.elem w
  simp only [pairKey] at hc hr
  by_cases hm : (a, b) ∈ L
  · obtain ⟨j, rfl⟩ := hin hm
    simp [Instr.lookup, run_underlying T.map, MapKept.run_getObj_map h1, hc, hr, hm]
  · obtain rfl := hout hm
    simp [Instr.lookup, run_underlying T.map, MapKept.run_getObj_map h1, hc, hr, hm, hz]

/-- 'm[k] = struct{}{}' at a key that is not there. -/
theorem run_update_pair (T : PairType P mt k ik e) {m : Nat} {L : List (Int × Int)} (h : PairMap w m L) (a b : Int) (hn : (a, b) ∉ L) :
    ∃ w', (Instr.mapUpdate mt (.map (some m)) (.agg #[.int .i64 a, .int .i64 b]) (.agg #[])).run P w = .ok () w' ∧ Fr (fun x => x = m) w w' ∧ PairMap w' m (L ++ [(a, b)]) := by
  obtain ⟨es, cl, h1, h2, h3⟩ := h
  obtain ⟨r, hr, _, hout⟩ := run_findKey_pair (w := w) T (a, b) h2 h3
  have hc := fun em => run_check_pair (w := w) T em (a, b)
  simp only [pairKey] at hc hr
  obtain rfl := hout hn
  refine ⟨ChangeMaps.setBlock w m (.map (es.push ⟨pairKey (a, b), .agg #[], cl⟩) (cl + 1)), ?_, (Fr.refl (fun x => x = m) w).setBlock (fun _ => rfl) _, ?_⟩
  · simp [Instr.mapUpdate, run_underlying T.map, MapKept.run_getObj_map h1, hc, hr, MapKept.run_setObj_map _ h1, Result.andThen, ChangeMaps.setBlock, pairKey]
  · refine ⟨es.push ⟨pairKey (a, b), .agg #[], cl⟩, cl + 1, ?_, ?_, ?_⟩
    · simp only [ChangeMaps.setBlock]
      rw [Array.getElem?_setIfInBounds_self_of_lt (lt_of_heap h1)]
    · simp [h2]
    · intro x hx
      simp only [Array.toList_push, List.mem_append, List.mem_singleton] at hx
      rcases hx with hx | rfl
      · exact h3 x hx
      · rfl
theorem run_len_pair {ty : TypeId} {m : Nat} {L : List (Int × Int)} (hm : P.underlying mt = some (.map k e)) (h : PairMap w m L) :
    (Builtin.len_ #[mt] ty #[.map (some m)]).run P w = .ok (.int .i64 L.length) w := by
  obtain ⟨es, cl, h1, h2, _⟩ := h
  have : es.size = L.length := by
    have := congrArg List.length h2
    simpa using this
  simp [Builtin.len_, run_underlying hm, MapKept.run_getObj_map h1, Result.andThen, goInt, this]
end
theorem own_fr {S : Nat → Prop} {w w' : World} {base : Nat} {e : TypeId} {size : Nat} {v : Value} {n : Nat} {xs : List Value} (h : w.ownsRow base e size v n xs) (hf : Fr S w w') (hs : ∀ k, v.ownBlock = some k → ¬ S k) : w'.ownsRow base e size v n xs := by
  refine ⟨h.1, ?_⟩
  rcases h.2 with hn | ⟨g, cap, cur, rfl, hb, hgg, rest⟩
  · exact .inl hn
  · exact .inr ⟨g, cap, cur, rfl, hb, hf.at_ hgg (hs g rfl), rest⟩
theorem own_base {w : World} {base base' : Nat} {e : TypeId} {size : Nat} {v : Value} {n : Nat} {xs : List Value} (h : w.ownsRow base e size v n xs) (hb : base' ≤ base) : w.ownsRow base' e size v n xs := by
  refine ⟨h.1, ?_⟩
  rcases h.2 with hn | ⟨g, cap, cur, rfl, hbb, rest⟩
  · exact .inl hn
  · exact .inr ⟨g, cap, cur, rfl, Nat.le_trans hb hbb, rest⟩

theorem own_form {w : World} {base : Nat} {e : TypeId} {size : Nat} {v : Value} {n : Nat} {xs : List Value} (h : w.ownsRow base e size v n xs) :
    ∃ A cap, v = .slice A n cap ∧ n ≤ cap ∧ ∀ j u, xs[j]? = some u → ∃ b, A = some ⟨b, 0, none⟩ ∧ base ≤ b ∧ w.cell? ⟨b, j, none⟩ = some u := by
  rcases h with ⟨hl, ⟨rfl, rfl⟩ | ⟨g, cap, cur, rfl, hb, hg, hn, _, _, htake⟩⟩
  · refine ⟨none, 0, rfl, Nat.le_refl _, fun j u hu => ?_⟩
    have : xs = [] := List.eq_nil_of_length_eq_zero (by simpa using hl)
    subst this
    simp at hu
  · refine ⟨some ⟨g, 0, none⟩, cap, rfl, hn, fun j u hu => ⟨g, rfl, hb, ?_⟩⟩
    rw [cell_of_row w g j cur e (0, 0) hg]
    rw [← htake, List.getElem?_take] at hu
    split at hu
    · simpa using hu
    · cases hu

theorem own_some {w : World} {base : Nat} {e : TypeId} {size : Nat} {v : Value} {n : Nat} {xs : List Value} (h : w.ownsRow base e size v (n + 1) xs) : ∃ g c, v = .slice (some ⟨g, 0, none⟩) (n + 1) c := by
  rcases h.2 with ⟨_, h0⟩ | ⟨g, cap, _, rfl, _⟩
  · omega
  · exact ⟨g, cap, rfl⟩
/-- 'out = append(out, x)', one element of one cell. -/
theorem wpList_append1 {P : Program} (w : World) {ops : Array Oper} {rest : List Oper} {o : Oper} {a : Act} {Q : Exit → Act → World → Prop} (hgd : o.guard = none) (s x : Operand) (t : TypeId)
    (ho : o.op = .call { callee := .builtin .append, args := #[s, x], argTypes := #[t, t] })
    (base : Nat) (e : TypeId) (z : Value) (bytes : Nat) (ht : P.underlying t = some (.slice e)) (hinf : (P.info? e).map (fun i => (i.zero, i.size, i.bytes)) = some (some z, 1, bytes)) (hzs : z.cells.size = 1)
    (v : Value) (n : Nat) (xs : List Value) (hs : a.eval s = v) (hown : w.ownsRow base e 1 v n xs)
    (g : Nat) (u : Value) (hx : a.eval x = .slice (some ⟨g, 0, none⟩) 1 1) (hc : w.cell? ⟨g, 0, none⟩ = some u) (h1 : u.oneCell' = true)
    (h63 : n + 1 ≤ 1099511627776) (hby : bytes ≤ 64) (hbase : base ≤ w.heap.size)
    (h : ∀ g' c' w', w'.ownsRow base e 1 (.slice (some ⟨g', 0, none⟩) (n + 1) c') (n + 1) (xs ++ [u]) → Fr (fun k => v.ownBlock = some k) w w' → wpList P ops Q rest (a.put o.dst (.slice (some ⟨g', 0, none⟩) (n + 1) c')) w') : wpList P ops Q (o :: rest) a w := by
  obtain ⟨i0, hi, hz0, hz1, hz2⟩ := info_parts hinf
  refine wpList_append_own w hgd s x t ho base e i0 z 1 bytes ht hi hz0 hz1 hz2 hzs (by omega) v n xs hs hown ⟨g, 0, none⟩ 1 1 [u] hx rfl ?_ ?_ (by simp only [maxLen]; omega) ?_ hbase ?_
  · intro j y hy
    cases j with
    | zero => simp only [List.getElem?_cons_zero, Option.some.injEq] at hy; subst hy; simpa [Addr.add] using hc
    | succ j => simp at hy
  · intro y hy
    simp only [List.mem_singleton] at hy
    subst hy
    exact h1
  · have := Nat.mul_le_mul h63 hby
    omega
  · intro v' w' h2 h3 _
    obtain ⟨g', c', rfl⟩ := own_some h2
    exact h g' c' w' h2 ⟨h3.os, h3.tape, h3.output, h3.size, fun k hk hn => h3.block k hk (fun e1 => hn e1.symm)⟩
theorem Fr.own {S : Nat → Prop} {a b w2 x : World} {base : Nat} {e : TypeId} {size : Nat} {v : Value} {n : Nat} {xs : List Value} (h : Fr S a b) (hown : x.ownsRow base e size v n xs) (hf : Fr (fun k => v.ownBlock = some k) b w2) (hb : a.heap.size ≤ base) : Fr S a w2 :=
  h.trans hf (fun k hk e1 => absurd hk (by have := (hown.lt k e1).1; omega))
/-- The cells of a row of pairs of integers. -/
def pairCells (L : List (Int × Int)) : List Value := L.flatMap fun p => [.int .i64 p.1, .int .i64 p.2]
theorem pairCells_at : ∀ (L : List (Int × Int)) (k : Nat) (p : Int × Int), L[k]? = some p → (pairCells L)[k * 2]? = some (.int .i64 p.1) ∧ (pairCells L)[k * 2 + 1]? = some (.int .i64 p.2)
  | [], k, p, h => by simp at h
  | q :: L, 0, p, h => by
    simp only [List.getElem?_cons_zero, Option.some.injEq] at h
    subst h
    simp [pairCells]
  | q :: L, k + 1, p, h => by
    have := pairCells_at L k p (by simpa using h)
    simp only [pairCells, List.flatMap_cons, List.cons_append, List.nil_append] at this ⊢
    rw [show (k + 1) * 2 = k * 2 + 1 + 1 by omega]
    exact this
theorem pairCells_snoc (L : List (Int × Int)) (p : Int × Int) : pairCells (L ++ [p]) = pairCells L ++ [.int .i64 p.1, .int .i64 p.2] := by simp [pairCells]
theorem notin_take_succ {L : List (Int × Int)} {k : Nat} {p q : Int × Int} (h : q ∉ L.take k) (hp : L[k]? = some p) (hne : p ≠ q) : q ∉ L.take (k + 1) := by
  obtain ⟨hlt, rfl⟩ := List.getElem?_eq_some_iff.1 hp
  rw [List.take_succ_eq_append_getElem hlt]
  intro hm
  rcases List.mem_append.1 hm with h1 | h1
  · exact h h1
  · exact hne (List.mem_singleton.1 h1).symm
/-- 'out = append(out, x)', one element of any number of cells. -/
theorem wpList_append_el {P : Program} (w : World) {ops : Array Oper} {rest : List Oper} {o : Oper} {a : Act} {Q : Exit → Act → World → Prop} (hgd : o.guard = none) (s x : Operand) (t : TypeId)
    (ho : o.op = .call { callee := .builtin .append, args := #[s, x], argTypes := #[t, t] })
    (base : Nat) (e : TypeId) (z : Value) (size bytes : Nat) (ht : P.underlying t = some (.slice e)) (hinf : (P.info? e).map (fun i => (i.zero, i.size, i.bytes)) = some (some z, size, bytes)) (hzs : z.cells.size = size) (hsz : 0 < size)
    (v : Value) (n : Nat) (xs : List Value) (hs : a.eval s = v) (hown : w.ownsRow base e size v n xs)
    (g : Nat) (us : List Value) (hx : a.eval x = .slice (some ⟨g, 0, none⟩) 1 1) (hl : us.length = size) (hc : ∀ j u, us[j]? = some u → w.cell? ⟨g, j, none⟩ = some u) (h1 : ∀ u ∈ us, u.oneCell' = true)
    (h63 : n + 1 ≤ 1099511627776) (hby : bytes ≤ 64) (hbase : base ≤ w.heap.size)
    (h : ∀ g' c' w', w'.ownsRow base e size (.slice (some ⟨g', 0, none⟩) (n + 1) c') (n + 1) (xs ++ us) → Fr (fun k => v.ownBlock = some k) w w' → wpList P ops Q rest (a.put o.dst (.slice (some ⟨g', 0, none⟩) (n + 1) c')) w') : wpList P ops Q (o :: rest) a w := by
  obtain ⟨i0, hi, hz0, hz1, hz2⟩ := info_parts hinf
  refine wpList_append_own w hgd s x t ho base e i0 z size bytes ht hi hz0 hz1 hz2 hzs hsz v n xs hs hown ⟨g, 0, none⟩ 1 1 us hx (by rw [hl, Nat.one_mul]) ?_ h1 (by simp only [maxLen]; omega) ?_ hbase ?_
  · intro j y hy
    have := hc j y hy
    rwa [show (⟨g, 0, none⟩ : Addr).add j = ⟨g, j, none⟩ by unfold Addr.add; split <;> simp_all]
  · have := Nat.mul_le_mul h63 hby
    omega
  · intro v' w' h2 h3 _
    obtain ⟨g', c', rfl⟩ := own_some h2
    exact h g' c' w' h2 ⟨h3.os, h3.tape, h3.output, h3.size, fun k hk hn => h3.block k hk (fun e1 => hn e1.symm)⟩
theorem own_ne_blk {w : World} {base : Nat} {e t : TypeId} {size n g : Nat} {v : Value} {xs : List Value} {cs : Array Value} (h : w.ownsRow base e size v n xs) (hg : Blk w g t cs) (hne : e ≠ t) : v.ownBlock ≠ some g := by
  rcases h.2 with ⟨rfl, _⟩ | ⟨g', cap, cur, rfl, _, hh, _⟩
  · simp [Value.ownBlock]
  · intro he
    have : g' = g := by simpa [Value.ownBlock] using he
    subst this
    exact Blk.ne_ (t := e) hh hg hne rfl
theorem own_ne_map {w : World} {base : Nat} {e : TypeId} {size n m : Nat} {v : Value} {xs : List Value} {L : List (Int × Int)} (h : w.ownsRow base e size v n xs) (hm : PairMap w m L) : v.ownBlock ≠ some m := by
  obtain ⟨es, cl, h1, _⟩ := hm
  rcases h.2 with ⟨rfl, _⟩ | ⟨g', cap, cur, rfl, _, hh, _⟩
  · simp [Value.ownBlock]
  · intro he
    have : g' = m := by simpa [Value.ownBlock] using he
    subst this
    rw [hh] at h1
    cases h1
theorem cell_two (w : World) (a b : Value) (t : TypeId) : ∀ j u, [a, b][j]? = some u → (w.alloc (.cells #[a, b] t)).cell? ⟨w.heap.size, j, none⟩ = some u := by
  intro j u hu
  have := (Blk.new w t #[a, b]).cell j
  rw [this]
  simpa using hu
theorem own_setCell {w : World} {base : Nat} {e t : TypeId} {size n g : Nat} {v : Value} {xs : List Value} {cs : Array Value} (h : w.ownsRow base e size v n xs) (hg : Blk w g t cs) (hne : e ≠ t) (i : Nat) (u : Value) : (w.setCell ⟨g, i, none⟩ u).ownsRow base e size v n xs :=
  own_fr h ((Fr.refl (fun k => k = g) w).setCell (p := ⟨g, i, none⟩) (fun _ => rfl) u) (fun _ hk e1 => own_ne_blk h hg hne (hk.trans (congrArg some e1)))
/-! A quiet callee that leaves the world alone, in a region that draws its order. -/
theorem quiet_left {P : Program} {f : FuncId} {args : Array Value} {w : World} {n : Nat} {v : Value}
    (h : Calls P f args (w.drewN n) fun e w' => e = .returned v ∧ w.drewN n = w') : Calls P f args (w.drewN n) fun e w'' => e = .returned v ∧ ∃ m, w'' = w.drewN m :=
  h.mono fun _ _ ⟨he, hm⟩ => ⟨he, n, hm.symm⟩
theorem quiet_add_left {P : Program} {f : FuncId} {args : Array Value} {w : World} {a n : Nat} {v : Value}
    (h : Calls P f args (w.drewN (a + n)) fun e w' => e = .returned v ∧ w.drewN (a + n) = w') :
    Calls P f args (w.drewN (a + n)) fun e w'' => e = .returned v ∧ ∃ m, w'' = w.drewN (a + m) :=
  h.mono fun _ _ ⟨he, hm⟩ => ⟨he, n, hm.symm⟩
end Go.Proofs.YtcfanacfjcgnbaaGreatDoor
