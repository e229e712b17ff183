/- Parts of the proof, joined. -/
import Derived.WalkKit
import Derived.WalkLawsBesides
import Derived.WalkSpells
import Derived.Maps.Own
import Derived.OneCell
import Derived.Deep.QuietTactic
import Derived.BigQuiet
import Derived.Test.YtmkdhhhoodeemaaGreatProg
import Derived.Lib.Hide
import Derived.Lib.SliceRun
import Derived.Deep.AppendLies
import Derived.Maps.AppendAt
import Derived.Deep.RegionLaw
import Derived.Laws.BytesArg
import Derived.Lib.ConvBytes
import Derived.Deep.RegionHeld3
import Derived.Deep.CutRange
set_option linter.unusedVariables false
set_option linter.unusedSimpArgs false
set_option maxRecDepth 100000
set_option maxHeartbeats 16000000
namespace Go.Proofs.YtmkdhhhoodeemaaGreat
open Go Go.RowKit

structure Fr (S : Nat → Prop) (w w' : World) : Prop where
 os : w'.os = w.os
 tape : w'.tape = w.tape
 output : w'.output = w.output
 size : w.heap.size ≤ w'.heap.size
 block : ∀ k, k < w.heap.size → ¬ S k → w'.heap[k]? = w.heap[k]?

section
variable {S T : Nat → Prop} {a b c w w' : World}
theorem Fr.refl (S : Nat → Prop) (w : World) : Fr S w w := ⟨rfl, rfl, rfl, Nat.le_refl _, fun _ _ _ => rfl⟩
theorem Fr.trans (h : Fr S a b) (k : Fr T b c) (hT : ∀ x, x < a.heap.size → T x → S x) : Fr S a c :=
  ⟨k.os.trans h.os, k.tape.trans h.tape, k.output.trans h.output, Nat.le_trans h.size k.size,
   fun i hi hs => (k.block i (Nat.lt_of_lt_of_le hi h.size) (fun ht => hs (hT i hi ht))).trans (h.block i hi hs)⟩
theorem Fr.mono (h : Fr S a b) (hT : ∀ x, x < a.heap.size → S x → T x) : Fr T a b :=
 ⟨h.os, h.tape, h.output, h.size, fun i hi hs => h.block i hi (fun x => hs (hT i hi x))⟩
theorem Fr.then_ (h : Fr S a b) (k : Fr (fun _ => False) b c) : Fr S a c := h.trans k (fun _ _ hx => hx.elim)
theorem Fr.drew (h : Fr S a w) : Fr S a w.drew := ⟨h.os, h.tape, h.output, h.size, h.block⟩
theorem Fr.drewN (h : Fr S a w) (n : Nat) : Fr S a (w.drewN n) := ⟨h.os, h.tape, h.output, h.size, h.block⟩
theorem Fr.alloc (h : Fr S a w) (o : Obj) : Fr S a (w.alloc o) :=
 h.trans (T := fun _ => False) ⟨rfl, rfl, rfl, by simp, fun k hk _ => Below.heap_alloc _ _ _ hk⟩ (fun _ _ hx => hx.elim)
theorem Fr.setCell (h : Fr S a w) {p : Addr} (hp : p.block < a.heap.size → S p.block) (u : Value) : Fr S a (w.setCell p u) :=
 h.trans (T := fun k => k = p.block) ⟨rfl, rfl, rfl, by simp, fun k _ hk => Below.heap_setCell _ _ _ _ hk⟩ (fun x hx e => by subst e; exact hp hx)
theorem Fr.setBlock (h : Fr S a w) {m : Nat} (hp : m < a.heap.size → S m) (o : Obj) : Fr S a (ChangeMaps.setBlock w m o) :=
 h.trans (T := fun k => k = m) ⟨rfl, rfl, rfl, by simp [ChangeMaps.setBlock], fun k _ hk => by
  simp only [ChangeMaps.setBlock]
  rw [Array.getElem?_setIfInBounds_ne (fun e => hk e.symm)]⟩ (fun x hx e => by subst e; exact hp hx)
theorem Fr.grown (h : Fr S a w) {row : Option Nat} (hg : w.grownBy w' row) (hr : ∀ k, k < a.heap.size → row = some k → S k) : Fr S a w' :=
 h.trans (T := fun k => row = some k) ⟨hg.os, hg.tape, hg.output, hg.size, fun k hk hn => hg.block k hk (fun e => hn e.symm)⟩ hr
theorem Fr.below {B : Nat} (h : Fr S w w') (hB : B ≤ w.heap.size) (hS : ∀ k, k < B → ¬ S k) : Below B w w' :=
 ⟨h.os, h.tape, h.output, h.size, fun k hk => h.block k (Nat.lt_of_lt_of_le hk hB) (hS k hk)⟩
theorem Fr.cell (h : Fr S w w') {p : Addr} (hp : p.block < w.heap.size) (hs : ¬ S p.block) : w'.cell? p = w.cell? p :=
 World.cell?_of_block (w := w) (h.block p.block hp hs)
theorem Fr.cell_some (h : Fr S w w') {p : Addr} {v : Value} (hc : w.cell? p = some v) (hs : ¬ S p.block) : w'.cell? p = some v :=
 (h.cell (World.block_lt_of_cell? w p hc) hs).trans hc
theorem Fr.at_ (h : Fr S w w') {k : Nat} {o : Obj} (hk : w.heap[k]? = some o) (hs : ¬ S k) : w'.heap[k]? = some o := by
 have hlt : k < w.heap.size := by
  rcases Nat.lt_or_ge k w.heap.size with h1 | h1
  ·exact h1
  ·rw [Array.getElem?_eq_none h1] at hk; cases hk
 exact (h.block k hlt hs).trans hk
end

theorem lt_of_heap {w : World} {k : Nat} {o : Obj} (hk : w.heap[k]? = some o) : k < w.heap.size := by
 rcases Nat.lt_or_ge k w.heap.size with h1 | h1
 ·exact h1
 ·rw [Array.getElem?_eq_none h1] at hk; cases hk

def Blk (w : World) (g : Nat) (t : TypeId) (cs : Array Value) : Prop := w.heap[g]? = some (.cells cs t (0, 0))

section
variable {S : Nat → Prop} {w w' : World} {g : Nat} {t : TypeId} {cs : Array Value}
theorem Blk.lt (h : Blk w g t cs) : g < w.heap.size := lt_of_heap h
theorem Blk.cell (h : Blk w g t cs) (i : Nat) : w.cell? ⟨g, i, none⟩ = cs[i]? := cell_of_row w g i cs t (0, 0) h
theorem Blk.frozen (h : Blk w g t cs) (i : Nat) : w.frozen? ⟨g, i, none⟩ = false := by
 unfold Blk at h
 simp [World.frozen?, h]
theorem Blk.new (w : World) (t : TypeId) (cs : Array Value) : Blk (w.alloc (.cells cs t)) w.heap.size t cs := heap_alloc_new w _
theorem Blk.new_ (w : World) (t : TypeId) (cs : Array Value) {n : Nat} (hn : n = w.heap.size) : Blk (w.alloc (.cells cs t)) n t cs := by subst hn; exact Blk.new w t cs
theorem Blk.drew (h : Blk w g t cs) : Blk w.drew g t cs := h
theorem Blk.drewN (h : Blk w g t cs) (n : Nat) : Blk (w.drewN n) g t cs := h
theorem Blk.alloc (h : Blk w g t cs) (o : Obj) : Blk (w.alloc o) g t cs := (Below.heap_alloc w o g h.lt).trans h
theorem Blk.set_ (h : Blk w g t cs) (i : Nat) (u : Value) : Blk (w.setCell ⟨g, i, none⟩ u) g t (cs.setIfInBounds i u) := by
 unfold Blk at h ⊢
 simp [World.setCell, Array.getElem?_modify, h]
theorem Blk.far (h : Blk w g t cs) {p : Addr} (hp : g ≠ p.block) (u : Value) : Blk (w.setCell p u) g t cs := (Below.heap_setCell w p u g hp).trans h
theorem Blk.fr (h : Blk w g t cs) (hf : Fr S w w') (hs : ¬ S g) : Blk w' g t cs := hf.at_ h hs
theorem Blk.ne_ {g' : Nat} {t' : TypeId} {cs' : Array Value} (h : Blk w g t cs) (h' : Blk w g' t' cs') (hne : t ≠ t') : g ≠ g' := by
 rintro rfl
 unfold Blk at h h'
 rw [h] at h'
 injection h' with h'
 injection h' with _ ht
 exact hne ht
theorem Blk.ne_map {m : Nat} {es : Array MapEntry} {cl : Nat} (h : Blk w g t cs) (h' : w.heap[m]? = some (.map es cl)) : g ≠ m := by
 rintro rfl
 unfold Blk at h
 rw [h] at h'
 cases h'
end

/-! Maps whose keys are structs of two integers. -/
section
variable {P : Program} {w : World}

def pairKey (p : Int × Int) : Value := .agg #[.int .i64 p.1, .int .i64 p.2]

def PairMap (w : World) (m : Nat) (L : List (Int × Int)) : Prop :=
 ∃ es cl, w.heap[m]? = some (.map es cl) ∧ es.toList.map (·.key) = L.map pairKey ∧ ∀ e ∈ es.toList, e.val = .agg #[]

theorem PairMap.fr {S : Nat → Prop} {w w' : World} {m : Nat} {L : List (Int × Int)} (h : PairMap w m L) (hf : Fr S w w') (hs : ¬ S m) : PairMap w' m L := by
 obtain ⟨es, cl, h1, h2⟩ := h
 exact ⟨es, cl, hf.at_ h1 hs, h2⟩
structure PairType (P : Program) (mt k ik e : TypeId) : Prop where
 map : P.underlying mt = some (.map k e)
 int : P.underlying ik = some (.int .i64)
 stood : P.stoodInHeld k = false
 desc : ∃ f0 f1 : Field, P.underlying k = some (.struct #[f0, f1]) ∧ f0.type = ik ∧ f1.type = ik ∧ f0.offset = 0 ∧ f1.offset = 1 ∧ f0.name ≠ "_" ∧ f1.name ≠ "_"
 elem : ∀ w : World, (zeroValue e).run P w = .ok (.agg #[]) w

variable {mt k ik e : TypeId}
theorem run_equalIn_int (n : Nat) (hi : P.underlying ik = some (.int .i64)) (a b : Int) : (Op.equalIn (n + 1) ik (.int .i64 a) (.int .i64 b)).run P w = .ok (a == b) w := by
 simp [Op.equalIn, run_underlying hi]
theorem run_part_int (hi : P.underlying ik = some (.int .i64)) (cs : Array Value) (i : Nat) (v : Value) (hv : cs[i]? = some v) : (part ik cs i).run P w = .ok v w := by
 simp [part, isAgg, run_underlying hi, hv]
theorem run_equalIn_pair (T : PairType P mt k ik e) (n : Nat) (p q : Int × Int) :
  (Op.equalIn (n + 2) k (pairKey p) (pairKey q)).run P w = .ok (decide (p = q)) w := by
 obtain ⟨f0, f1, hd, t0, t1, o0, o1, n0, n1⟩ := T.desc
 obtain ⟨p1, p2⟩ := p
 obtain ⟨q1, q2⟩ := q
 have hs := T.stood
 have hi := T.int
 have h0 := fun v1 v2 : Value => run_part_int (w := w) hi #[v1, v2] 0 v1 rfl
 have h1 := fun v1 v2 : Value => run_part_int (w := w) hi #[v1, v2] 1 v2 rfl
 have he := fun a b => run_equalIn_int (w := w) n hi a b
 rw [Op.equalIn]
 simp only [pairKey, run_underlying hd, Sem.run_bind, Result.andThen_ok]
 simp [hs, t0, t1, o0, o1, n0, n1, h0, h1, he]
 by_cases e1 : p1 = q1 <;> by_cases e2 : p2 = q2 <;> simp [e1, e2]
theorem run_equal_pair (T : PairType P mt k ik e) (p q : Int × Int) :
  (Op.equal k (pairKey p) (pairKey q)).run P w = .ok (decide (p = q)) w := run_equalIn_pair T 9998 p q
theorem run_check_pair (T : PairType P mt k ik e) (em : Bool) (p : Int × Int) :
  (Instr.checkKey em 10000 k (pairKey p)).run P w = .ok () w := by
 obtain ⟨f0, f1, hd, t0, t1, o0, o1, n0, n1⟩ := T.desc
 have hi := T.int
 have h0 := fun v1 v2 : Value => run_part_int (w := w) hi #[v1, v2] 0 v1 rfl
 have h1 := fun v1 v2 : Value => run_part_int (w := w) hi #[v1, v2] 1 v2 rfl
 have hc := fun (v : Int) => (show (Instr.checkKey em (9998 + 1) ik (.int .i64 v)).run P w = .ok () w by rw [Instr.checkKey]; simp [run_underlying hi])
 show (Instr.checkKey em (9999 + 1) k (pairKey p)).run P w = .ok () w
 rw [Instr.checkKey]
 simp only [pairKey, run_underlying hd, Sem.run_bind, Result.andThen_ok]
 simp [t0, t1, o0, o1, n0, n1, h0, h1, hc]
theorem run_findAsking_pair (T : PairType P mt k ik e) (p : Int × Int) : ∀ (es : List MapEntry) (L : List (Int × Int)) (i : Nat), es.map (·.key) = L.map pairKey → (∀ x ∈ es, x.val = .agg #[]) →
  ∃ r, (Instr.findAsking k (pairKey p) es i).run P w = .ok r w ∧ (p ∈ L → ∃ j, r = some (j, .agg #[])) ∧ (p ∉ L → r = none)
 | [], L, i, h, _ => by
  have hL : L = [] := by simpa using h.symm
  subst hL
  exact ⟨none, by simp [Instr.findAsking], by simp, by simp⟩
 | x :: es, L, i, h, hv => by
  obtain ⟨q, L', rfl, hq, hr⟩ : ∃ q L', L = q :: L' ∧ x.key = pairKey q ∧ es.map (·.key) = L'.map pairKey := by
   cases L with
   | nil => simp at h
   | cons q L' => simp only [List.map_cons, List.cons.injEq] at h; exact ⟨q, L', rfl, h.1, h.2⟩
  have he := run_equal_pair (w := w) T p q
  obtain ⟨r, h1, h2, h3⟩ := run_findAsking_pair T p es L' (i + 1) hr (fun y hy => hv y (by simp [hy]))
  by_cases hpq : p = q
  ·subst hpq
   exact ⟨some (i, x.val), by simp [Instr.findAsking, hq, he], fun _ => ⟨i, by rw [hv x (by simp)]⟩, by simp⟩
  ·refine ⟨r, by simp [Instr.findAsking, hq, he, hpq, h1], fun hm => h2 ?_, fun hm => h3 ?_⟩
   ·rcases List.mem_cons.1 hm with h' | h'
    ·exact absurd h' hpq
    ·exact h'
   ·exact fun h' => hm (List.mem_cons_of_mem _ h')
theorem findNow_pair (d : TypeDesc) (v : Array Value) : ∀ (es : List MapEntry) (i : Nat), es ≠ [] → Instr.findNow d (.agg v) es i = none
 | [], _, h => absurd rfl h
 | x :: es, i, _ => by
  have : Instr.sameNow d (.agg v) x.key = none := by cases d <;> cases hk : x.key <;> rfl
  simp [Instr.findNow, this]
theorem run_findKey_pair (T : PairType P mt k ik e) (p : Int × Int) {es : List MapEntry} {L : List (Int × Int)} (h : es.map (·.key) = L.map pairKey) (hv : ∀ x ∈ es, x.val = .agg #[]) :
  ∃ r, (Instr.findKey k (pairKey p) es).run P w = .ok r w ∧ (p ∈ L → ∃ j, r = some (j, .agg #[])) ∧ (p ∉ L → r = none) := by
 obtain ⟨f0, f1, hd, _⟩ := T.desc
 by_cases hes : es = []
 ·subst hes
  have hL : L = [] := by simpa using h.symm
  subst hL
  exact ⟨none, by simp [Instr.findKey, run_underlying hd, Instr.findNow], by simp, by simp⟩
 ·obtain ⟨r, h1, h2⟩ := run_findAsking_pair (w := w) T p es L 0 h hv
  refine ⟨r, ?_, h2⟩
  simp only [Instr.findKey, run_underlying hd, Sem.run_bind, Result.andThen_ok, pairKey]
  rw [findNow_pair _ _ es 0 hes]
  exact h1

theorem run_lookup_pair (T : PairType P mt k ik e) {m : Nat} {L : List (Int × Int)} (h : PairMap w m L) (a b : Int) :
  (Instr.lookup mt (.map (some m)) (.agg #[.int .i64 a, .int .i64 b]) true).run P w = .ok (.tuple #[.agg #[], .bool (decide ((a, b) ∈ L))]) w := by
 obtain ⟨es, cl, h1, h2, h3⟩ := h
 obtain ⟨r, hr, hin, hout⟩ := run_findKey_pair (w := w) T (a, b) h2 h3
 have hc := fun em => run_check_pair (w := w) T em (a, b)
 have hz := T.elem w
 simp only [pairKey] at hc hr
 by_cases hm : (a, b) ∈ L
 ·obtain ⟨j, rfl⟩ := hin hm
  simp [Instr.lookup, run_underlying T.map, MapKept.run_getObj_map h1, hc, hr, hm]
 ·obtain rfl := hout hm
  simp [Instr.lookup, run_underlying T.map, MapKept.run_getObj_map h1, hc, hr, hm, hz]

theorem run_update_pair (T : PairType P mt k ik e) {m : Nat} {L : List (Int × Int)} (h : PairMap w m L) (a b : Int) (hn : (a, b) ∉ L) :
  ∃ w', (Instr.mapUpdate mt (.map (some m)) (.agg #[.int .i64 a, .int .i64 b]) (.agg #[])).run P w = .ok () w' ∧ Fr (fun x => x = m) w w' ∧ PairMap w' m (L ++ [(a, b)]) := by
 obtain ⟨es, cl, h1, h2, h3⟩ := h
 obtain ⟨r, hr, _, hout⟩ := run_findKey_pair (w := w) T (a, b) h2 h3
 have hc := fun em => run_check_pair (w := w) T em (a, b)
 simp only [pairKey] at hc hr
 obtain rfl := hout hn
 refine ⟨ChangeMaps.setBlock w m (.map (es.push ⟨pairKey (a, b), .agg #[], cl⟩) (cl + 1)), ?_, (Fr.refl (fun x => x = m) w).setBlock (fun _ => rfl) _, ?_⟩
 ·simp [Instr.mapUpdate, run_underlying T.map, MapKept.run_getObj_map h1, hc, hr, MapKept.run_setObj_map _ h1, Result.andThen, ChangeMaps.setBlock, pairKey]
 ·refine ⟨es.push ⟨pairKey (a, b), .agg #[], cl⟩, cl + 1, ?_, ?_, ?_⟩
  ·simp only [ChangeMaps.setBlock]
   rw [Array.getElem?_setIfInBounds_self_of_lt (lt_of_heap h1)]
  ·simp [h2]
  ·intro x hx
   simp only [Array.toList_push, List.mem_append, List.mem_singleton] at hx
   rcases hx with hx | rfl
   ·exact h3 x hx
   ·rfl
theorem run_len_pair {ty : TypeId} {m : Nat} {L : List (Int × Int)} (hm : P.underlying mt = some (.map k e)) (h : PairMap w m L) :
  (Builtin.len_ #[mt] ty #[.map (some m)]).run P w = .ok (.int .i64 L.length) w := by
 obtain ⟨es, cl, h1, h2, _⟩ := h
 have : es.size = L.length := by
  have := congrArg List.length h2
  simpa using this
 simp [Builtin.len_, run_underlying hm, MapKept.run_getObj_map h1, Result.andThen, goInt, this]
end
theorem own_fr {S : Nat → Prop} {w w' : World} {base : Nat} {e : TypeId} {size : Nat} {v : Value} {n : Nat} {xs : List Value} (h : w.ownsRow base e size v n xs) (hf : Fr S w w') (hs : ∀ k, v.ownBlock = some k → ¬ S k) : w'.ownsRow base e size v n xs := by
 refine ⟨h.1, ?_⟩
 rcases h.2 with hn | ⟨g, cap, cur, rfl, hb, hgg, rest⟩
 ·exact .inl hn
 ·exact .inr ⟨g, cap, cur, rfl, hb, hf.at_ hgg (hs g rfl), rest⟩
theorem own_base {w : World} {base base' : Nat} {e : TypeId} {size : Nat} {v : Value} {n : Nat} {xs : List Value} (h : w.ownsRow base e size v n xs) (hb : base' ≤ base) : w.ownsRow base' e size v n xs := by
 refine ⟨h.1, ?_⟩
 rcases h.2 with hn | ⟨g, cap, cur, rfl, hbb, rest⟩
 ·exact .inl hn
 ·exact .inr ⟨g, cap, cur, rfl, Nat.le_trans hb hbb, rest⟩

theorem own_form {w : World} {base : Nat} {e : TypeId} {size : Nat} {v : Value} {n : Nat} {xs : List Value} (h : w.ownsRow base e size v n xs) :
  ∃ A cap, v = .slice A n cap ∧ n ≤ cap ∧ ∀ j u, xs[j]? = some u → ∃ b, A = some ⟨b, 0, none⟩ ∧ base ≤ b ∧ w.cell? ⟨b, j, none⟩ = some u := by
 rcases h with ⟨hl, ⟨rfl, rfl⟩ | ⟨g, cap, cur, rfl, hb, hg, hn, _, _, htake⟩⟩
 ·refine ⟨none, 0, rfl, Nat.le_refl _, fun j u hu => ?_⟩
  have : xs = [] := List.eq_nil_of_length_eq_zero (by simpa using hl)
  subst this
  simp at hu
 ·refine ⟨some ⟨g, 0, none⟩, cap, rfl, hn, fun j u hu => ⟨g, rfl, hb, ?_⟩⟩
  rw [cell_of_row w g j cur e (0, 0) hg]
  rw [← htake, List.getElem?_take] at hu
  split at hu
  ·simpa using hu
  ·cases hu

theorem own_some {w : World} {base : Nat} {e : TypeId} {size : Nat} {v : Value} {n : Nat} {xs : List Value} (h : w.ownsRow base e size v (n + 1) xs) : ∃ g c, v = .slice (some ⟨g, 0, none⟩) (n + 1) c := by
 rcases h.2 with ⟨_, h0⟩ | ⟨g, cap, _, rfl, _⟩
 ·omega
 ·exact ⟨g, cap, rfl⟩
theorem wpList_append1 {P : Program} (w : World) {ops : Array Oper} {rest : List Oper} {o : Oper} {a : Act} {Q : Exit → Act → World → Prop} (hgd : o.guard = none) (s x : Operand) (t : TypeId)
  (ho : o.op = .call { callee := .builtin .append, args := #[s, x], argTypes := #[t, t] })
  (base : Nat) (e : TypeId) (z : Value) (bytes : Nat) (ht : P.underlying t = some (.slice e)) (hinf : (P.info? e).map (fun i => (i.zero, i.size, i.bytes)) = some (some z, 1, bytes)) (hzs : z.cells.size = 1)
  (v : Value) (n : Nat) (xs : List Value) (hs : a.eval s = v) (hown : w.ownsRow base e 1 v n xs)
  (g : Nat) (u : Value) (hx : a.eval x = .slice (some ⟨g, 0, none⟩) 1 1) (hc : w.cell? ⟨g, 0, none⟩ = some u) (h1 : u.oneCell' = true)
  (h63 : n + 1 ≤ 1099511627776) (hby : bytes ≤ 64) (hbase : base ≤ w.heap.size)
  (h : ∀ g' c' w', w'.ownsRow base e 1 (.slice (some ⟨g', 0, none⟩) (n + 1) c') (n + 1) (xs ++ [u]) → Fr (fun k => v.ownBlock = some k) w w' → wpList P ops Q rest (a.put o.dst (.slice (some ⟨g', 0, none⟩) (n + 1) c')) w') : wpList P ops Q (o :: rest) a w := by
 obtain ⟨i0, hi, hz0, hz1, hz2⟩ := info_parts hinf
 refine wpList_append_own w hgd s x t ho base e i0 z 1 bytes ht hi hz0 hz1 hz2 hzs (by omega) v n xs hs hown ⟨g, 0, none⟩ 1 1 [u] hx rfl ?_ ?_ (by simp only [maxLen]; omega) ?_ hbase ?_
 ·intro j y hy
  cases j with
  | zero => simp only [List.getElem?_cons_zero, Option.some.injEq] at hy; subst hy; simpa [Addr.add] using hc
  | succ j => simp at hy
 ·intro y hy
  simp only [List.mem_singleton] at hy
  subst hy
  exact h1
 ·have := Nat.mul_le_mul h63 hby
  omega
 ·intro v' w' h2 h3 _
  obtain ⟨g', c', rfl⟩ := own_some h2
  exact h g' c' w' h2 ⟨h3.os, h3.tape, h3.output, h3.size, fun k hk hn => h3.block k hk (fun e1 => hn e1.symm)⟩
theorem Fr.own {S : Nat → Prop} {a b w2 x : World} {base : Nat} {e : TypeId} {size : Nat} {v : Value} {n : Nat} {xs : List Value} (h : Fr S a b) (hown : x.ownsRow base e size v n xs) (hf : Fr (fun k => v.ownBlock = some k) b w2) (hb : a.heap.size ≤ base) : Fr S a w2 :=
 h.trans hf (fun k hk e1 => absurd hk (by have := (hown.lt k e1).1; omega))
def pairCells (L : List (Int × Int)) : List Value := L.flatMap fun p => [.int .i64 p.1, .int .i64 p.2]
theorem pairCells_at : ∀ (L : List (Int × Int)) (k : Nat) (p : Int × Int), L[k]? = some p → (pairCells L)[k * 2]? = some (.int .i64 p.1) ∧ (pairCells L)[k * 2 + 1]? = some (.int .i64 p.2)
 | [], k, p, h => by simp at h
 | q :: L, 0, p, h => by
  simp only [List.getElem?_cons_zero, Option.some.injEq] at h
  subst h
  simp [pairCells]
 | q :: L, k + 1, p, h => by
  have := pairCells_at L k p (by simpa using h)
  simp only [pairCells, List.flatMap_cons, List.cons_append, List.nil_append] at this ⊢
  rw [show (k + 1) * 2 = k * 2 + 1 + 1 by omega]
  exact this
theorem pairCells_snoc (L : List (Int × Int)) (p : Int × Int) : pairCells (L ++ [p]) = pairCells L ++ [.int .i64 p.1, .int .i64 p.2] := by simp [pairCells]
theorem notin_take_succ {L : List (Int × Int)} {k : Nat} {p q : Int × Int} (h : q ∉ L.take k) (hp : L[k]? = some p) (hne : p ≠ q) : q ∉ L.take (k + 1) := by
 obtain ⟨hlt, rfl⟩ := List.getElem?_eq_some_iff.1 hp
 rw [List.take_succ_eq_append_getElem hlt]
 intro hm
 rcases List.mem_append.1 hm with h1 | h1
 ·exact h h1
 ·exact hne (List.mem_singleton.1 h1).symm
theorem wpList_append_el {P : Program} (w : World) {ops : Array Oper} {rest : List Oper} {o : Oper} {a : Act} {Q : Exit → Act → World → Prop} (hgd : o.guard = none) (s x : Operand) (t : TypeId)
  (ho : o.op = .call { callee := .builtin .append, args := #[s, x], argTypes := #[t, t] })
  (base : Nat) (e : TypeId) (z : Value) (size bytes : Nat) (ht : P.underlying t = some (.slice e)) (hinf : (P.info? e).map (fun i => (i.zero, i.size, i.bytes)) = some (some z, size, bytes)) (hzs : z.cells.size = size) (hsz : 0 < size)
  (v : Value) (n : Nat) (xs : List Value) (hs : a.eval s = v) (hown : w.ownsRow base e size v n xs)
  (g : Nat) (us : List Value) (hx : a.eval x = .slice (some ⟨g, 0, none⟩) 1 1) (hl : us.length = size) (hc : ∀ j u, us[j]? = some u → w.cell? ⟨g, j, none⟩ = some u) (h1 : ∀ u ∈ us, u.oneCell' = true)
  (h63 : n + 1 ≤ 1099511627776) (hby : bytes ≤ 64) (hbase : base ≤ w.heap.size)
  (h : ∀ g' c' w', w'.ownsRow base e size (.slice (some ⟨g', 0, none⟩) (n + 1) c') (n + 1) (xs ++ us) → Fr (fun k => v.ownBlock = some k) w w' → wpList P ops Q rest (a.put o.dst (.slice (some ⟨g', 0, none⟩) (n + 1) c')) w') : wpList P ops Q (o :: rest) a w := by
 obtain ⟨i0, hi, hz0, hz1, hz2⟩ := info_parts hinf
 refine wpList_append_own w hgd s x t ho base e i0 z size bytes ht hi hz0 hz1 hz2 hzs hsz v n xs hs hown ⟨g, 0, none⟩ 1 1 us hx (by rw [hl, Nat.one_mul]) ?_ h1 (by simp only [maxLen]; omega) ?_ hbase ?_
 ·intro j y hy
  have := hc j y hy
  rwa [show (⟨g, 0, none⟩ : Addr).add j = ⟨g, j, none⟩ by unfold Addr.add; split <;> simp_all]
 ·have := Nat.mul_le_mul h63 hby
  omega
 ·intro v' w' h2 h3 _
  obtain ⟨g', c', rfl⟩ := own_some h2
  exact h g' c' w' h2 ⟨h3.os, h3.tape, h3.output, h3.size, fun k hk hn => h3.block k hk (fun e1 => hn e1.symm)⟩
theorem own_ne_blk {w : World} {base : Nat} {e t : TypeId} {size n g : Nat} {v : Value} {xs : List Value} {cs : Array Value} (h : w.ownsRow base e size v n xs) (hg : Blk w g t cs) (hne : e ≠ t) : v.ownBlock ≠ some g := by
 rcases h.2 with ⟨rfl, _⟩ | ⟨g', cap, cur, rfl, _, hh, _⟩
 ·simp [Value.ownBlock]
 ·intro he
  have : g' = g := by simpa [Value.ownBlock] using he
  subst this
  exact Blk.ne_ (t := e) hh hg hne rfl
theorem own_ne_map {w : World} {base : Nat} {e : TypeId} {size n m : Nat} {v : Value} {xs : List Value} {L : List (Int × Int)} (h : w.ownsRow base e size v n xs) (hm : PairMap w m L) : v.ownBlock ≠ some m := by
 obtain ⟨es, cl, h1, _⟩ := hm
 rcases h.2 with ⟨rfl, _⟩ | ⟨g', cap, cur, rfl, _, hh, _⟩
 ·simp [Value.ownBlock]
 ·intro he
  have : g' = m := by simpa [Value.ownBlock] using he
  subst this
  rw [hh] at h1
  cases h1
theorem cell_two (w : World) (a b : Value) (t : TypeId) : ∀ j u, [a, b][j]? = some u → (w.alloc (.cells #[a, b] t)).cell? ⟨w.heap.size, j, none⟩ = some u := by
 intro j u hu
 have := (Blk.new w t #[a, b]).cell j
 rw [this]
 simpa using hu
theorem own_setCell {w : World} {base : Nat} {e t : TypeId} {size n g : Nat} {v : Value} {xs : List Value} {cs : Array Value} (h : w.ownsRow base e size v n xs) (hg : Blk w g t cs) (hne : e ≠ t) (i : Nat) (u : Value) : (w.setCell ⟨g, i, none⟩ u).ownsRow base e size v n xs :=
 own_fr h ((Fr.refl (fun k => k = g) w).setCell (p := ⟨g, i, none⟩) (fun _ => rfl) u) (fun _ hk e1 => own_ne_blk h hg hne (hk.trans (congrArg some e1)))
/-! A quiet callee that leaves the world alone, in a region that draws its order. -/
theorem quiet_left {P : Program} {f : FuncId} {args : Array Value} {w : World} {n : Nat} {v : Value}
  (h : Calls P f args (w.drewN n) fun e w' => e = .returned v ∧ w.drewN n = w') : Calls P f args (w.drewN n) fun e w'' => e = .returned v ∧ ∃ m, w'' = w.drewN m :=
 h.mono fun _ _ ⟨he, hm⟩ => ⟨he, n, hm.symm⟩
theorem ret_int {k : IntKind} {a b : Int} (h : a = b) : Ending.returned (.int k a) = .returned (.int k b) := by rw [h]
theorem ret_int2 {k l : IntKind} {a b c d : Int} (h : a = b) (h' : c = d) : Ending.returned (.tuple #[.int k a, .int l c]) = .returned (.tuple #[.int k b, .int l d]) := by rw [h, h']
def memberOf (g i : Int) : Int := if g < 0 ∨ 8 ≤ g ∨ i < 0 ∨ 10 ≤ i then -1 else 100 + g * 16 + i
def clientOf (i : Int) : Int := if i < 0 ∨ 16 ≤ i then -1 else i
def groupOf (w : Int) : Int := if w < 100 ∨ 8 ≤ (w - 100) / 16 ∨ 10 ≤ (w - 100) % 16 then -1 else (w - 100) / 16
def placeOf (w : Int) : Int := if w < 100 ∨ 8 ≤ (w - 100) / 16 ∨ 10 ≤ (w - 100) % 16 then -1 else (w - 100) % 16
theorem seals_Member (g i : Int) (w : World) : Calls Tryz.prog 101 #[.int .i64 g, .int .i64 i] w fun e w' => e = .returned (.int .i64 (memberOf g i)) ∧ w = w' := by
 go_enter Tryz.func101, Tryz.ntmps101
 go_wp2
 all_goals go_ret
 all_goals exact ⟨ret_int (by unfold memberOf; first | rw [if_pos (by omega)] | (rw [if_neg (by omega)]; try omega)), rfl⟩
theorem ref04_Member (g i : Int) (w : World) : Calls Tryz.prog 37 #[.int .i64 g, .int .i64 i] w fun e w' => e = .returned (.int .i64 (memberOf g i)) ∧ w = w' := by
 go_enter Tryz.func37, Tryz.ntmps37
 go_wp2
 all_goals go_ret
 all_goals exact ⟨ret_int (by unfold memberOf; first | rw [if_pos (by omega)] | (rw [if_neg (by omega)]; try omega)), rfl⟩
theorem seals_Client (i : Int) (w : World) : Calls Tryz.prog 69 #[.int .i64 i] w fun e w' => e = .returned (.int .i64 (clientOf i)) ∧ w = w' := by
 go_enter Tryz.func69, Tryz.ntmps69
 go_wp2
 all_goals go_ret
 all_goals exact ⟨ret_int (by unfold clientOf; first | rw [if_pos (by omega)] | (rw [if_neg (by omega)])), rfl⟩
theorem ref04_Client (i : Int) (w : World) : Calls Tryz.prog 74 #[.int .i64 i] w fun e w' => e = .returned (.int .i64 (clientOf i)) ∧ w = w' := by
 go_enter Tryz.func74, Tryz.ntmps74
 go_wp2
 all_goals go_ret
 all_goals exact ⟨ret_int (by unfold clientOf; first | rw [if_pos (by omega)] | (rw [if_neg (by omega)])), rfl⟩
theorem seals_Group (i : Int) (hi : i ≤ 9223372036854775807) (w : World) : Calls Tryz.prog 68 #[.int .i64 i] w fun e w' => e = .returned (.tuple #[.int .i64 (groupOf i), .int .i64 (placeOf i)]) ∧ w = w' := by
 by_cases h : i < 100
 ·go_enter Tryz.func68, Tryz.ntmps68
  go_wp2
  go_ret2
  exact ⟨ret_int2 (by unfold groupOf; rw [if_pos (by omega)]) (by unfold placeOf; rw [if_pos (by omega)]), rfl⟩
 ·go_enter Tryz.func68, Tryz.ntmps68
  go_wp2
  all_goals go_ret2
  all_goals exact ⟨ret_int2 (by unfold groupOf; first | rw [if_pos (by omega)] | rw [if_neg (by omega)]) (by unfold placeOf; first | rw [if_pos (by omega)] | rw [if_neg (by omega)]), rfl⟩
def errV : List (ByteArray × Int) → Int → Value
 | [], c => .iface 63 (.int .i64 c)
 | (s, n) :: r, c => .iface 189 (.agg #[.string s, .int .i64 n, errV r c])
theorem errV_iface (l : List (ByteArray × Int)) (c : Int) : ∃ t v, errV l c = .iface t v := by
 cases l with
 | nil => exact ⟨_, _, rfl⟩
 | cons x r => exact ⟨_, _, rfl⟩
def errO : Option (List (ByteArray × Int) × Int) → Value
 | none => .nilIface
 | some x => errV x.1 x.2
theorem errO_some (x : List (ByteArray × Int) × Int) : ∃ t v, errO (some x) = .iface t v := errV_iface x.1 x.2
theorem fault_Of (c : Int) (h : (c == 0) = false) (w : World) : Calls Tryz.prog 71 #[.int .i64 c] w fun e w' => e = .returned (errV [] c) ∧ w = w' := by
 go_enter Tryz.func71, Tryz.ntmps71
 go_wp2
 go_ret
 exact ⟨rfl, rfl⟩
theorem fault_Wrap_nil (s : ByteArray) (n : Int) (w : World) : Calls Tryz.prog 70 #[.nilIface, .string s, .int .i64 n] w fun e w' => e = .returned .nilIface ∧ w = w' := by
 go_enter Tryz.func70, Tryz.ntmps70
 go_wp2
 go_ret
 exact ⟨rfl, rfl⟩
theorem fault_Wrap (l : List (ByteArray × Int)) (c : Int) (s : ByteArray) (n : Int) (w : World) : Calls Tryz.prog 70 #[errV l c, .string s, .int .i64 n] w fun e w' => e = .returned (errV ((s, n) :: l) c) ∧ w = w' := by
 simp only [errV]
 obtain ⟨t, v, h⟩ := errV_iface l c
 rw [h]
 clear h
 go_enter Tryz.func70, Tryz.ntmps70
 go_wp2
 go_ret
 exact ⟨rfl, rfl⟩
def signBad (who d : Int) : Bool := decide ((clientOf who < 0 ∧ groupOf who < 0) ∨ d < 0)
def signErr (who d : Int) (L : List (Int × Int)) : Option (List (ByteArray × Int) × Int) :=
 if signBad who d = true then some ([((⟨#[115, 101, 97, 108, 115]⟩ : ByteArray), who)], 1) else if (who, d) ∈ L then none else if ((L.length : Int) == 131072) = true then some ([((⟨#[115, 101, 97, 108, 115]⟩ : ByteArray), who)], 2) else none
def signL (who d : Int) (L : List (Int × Int)) : List (Int × Int) :=
 if signBad who d = true then L else if (who, d) ∈ L then L else if ((L.length : Int) == 131072) = true then L else L ++ [(who, d)]
section
variable {who d : Int} {L : List (Int × Int)}
theorem sign_bad (h : (clientOf who < 0 ∧ groupOf who < 0) ∨ d < 0) : signErr who d L = some ([((⟨#[115, 101, 97, 108, 115]⟩ : ByteArray), who)], 1) ∧ signL who d L = L := by
 simp [signErr, signL, signBad, h]
theorem sign_in (h : ¬ ((clientOf who < 0 ∧ groupOf who < 0) ∨ d < 0)) (hm : (who, d) ∈ L) : signErr who d L = none ∧ signL who d L = L := by
 simp [signErr, signL, signBad, h, hm]
theorem sign_full (h : ¬ ((clientOf who < 0 ∧ groupOf who < 0) ∨ d < 0)) (hm : (who, d) ∉ L) (hl : ((L.length : Int) == 131072) = true) : signErr who d L = some ([((⟨#[115, 101, 97, 108, 115]⟩ : ByteArray), who)], 2) ∧ signL who d L = L := by
 simp only [signErr, signL, signBad, h, hm, hl]
 simp
theorem sign_new (h : ¬ ((clientOf who < 0 ∧ groupOf who < 0) ∨ d < 0)) (hm : (who, d) ∉ L) (hl : ((L.length : Int) == 131072) = false) : signErr who d L = none ∧ signL who d L = L ++ [(who, d)] := by
 simp only [signErr, signL, signBad, h, hm, hl]
 simp
end
theorem add_at (b o k : Nat) : (⟨b, o, none⟩ : Addr).add k = ⟨b, o + k, none⟩ := by unfold Addr.add; split <;> simp_all
theorem Fr.grown_own {S : Nat → Prop} {a w w' : World} {base : Nat} {e : TypeId} {size : Nat} {v : Value} {n : Nat} {xs : List Value} (h : Fr S a w) (hown : w.ownsRow base e size v n xs) (hg : w.grownBy w' v.ownBlock) (hb : a.heap.size ≤ base) : Fr S a w' :=
 h.own hown ((Fr.refl (fun k => v.ownBlock = some k) w).grown hg (fun _ _ e1 => e1)) hb
theorem Blk.grown_own {w w' : World} {g : Nat} {t : TypeId} {cs : Array Value} {base : Nat} {e : TypeId} {size : Nat} {v : Value} {n : Nat} {xs : List Value} (h : Blk w g t cs) (hown : w.ownsRow base e size v n xs) (hg : w.grownBy w' v.ownBlock) (hne : e ≠ t) : Blk w' g t cs :=
 h.fr ((Fr.refl (fun k => v.ownBlock = some k) w).grown hg (fun _ _ e1 => e1)) (own_ne_blk hown h hne)
def IntRow (w : World) (B : Nat) (A : Option Addr) (xs : List Int) : Prop :=
 ∀ k x, xs[k]? = some x → ∃ b o, A = some ⟨b, o, none⟩ ∧ b < B ∧ w.cell? ⟨b, o + k, none⟩ = some (.int .i64 x)
theorem IntRow.fr {S : Nat → Prop} {w w' : World} {B : Nat} {A : Option Addr} {xs : List Int} (h : IntRow w B A xs) (hf : Fr S w w') (hS : ∀ k, k < B → ¬ S k) : IntRow w' B A xs := by
 intro k x hx
 obtain ⟨b, o, e, hb, hc⟩ := h k x hx
 exact ⟨b, o, e, hb, hf.cell_some hc (hS b hb)⟩
theorem IntRow.away {S : Nat → Prop} {w w' : World} {B : Nat} {A : Option Addr} {xs : List Int} (h : IntRow w B A xs) (hf : Fr S w w') (hS : ∀ b o, A = some ⟨b, o, none⟩ → ¬ S b) : IntRow w' B A xs := by
 intro k x hx
 obtain ⟨b, o, e, hb, hc⟩ := h k x hx
 exact ⟨b, o, e, hb, hf.cell_some hc (hS b o e)⟩
def IntAt (w : World) (b o : Nat) (xs : List Int) : Prop := ∀ (k : Nat) (x : Int), xs[k]? = some x → w.cell? ⟨b, o + k, none⟩ = some (.int .i64 x)
theorem IntAt.fr {S : Nat → Prop} {w w' : World} {b o : Nat} {xs : List Int} (h : IntAt w b o xs) (hf : Fr S w w') (hs : ¬ S b) : IntAt w' b o xs :=
 fun k x hx => hf.cell_some (h k x hx) hs
theorem IntRow.at {w : World} {B : Nat} {A : Option Addr} {xs : List Int} (h : IntRow w B A xs) (hn : 0 < xs.length) : ∃ b o, A = some ⟨b, o, none⟩ ∧ b < B ∧ IntAt w b o xs := by
 obtain ⟨b, o, e, hb, _⟩ := h 0 xs[0] (List.getElem?_eq_getElem hn)
 refine ⟨b, o, e, hb, fun k x hx => ?_⟩
 obtain ⟨b', o', e', _, hc⟩ := h k x hx
 rw [e] at e'
 cases e'
 exact hc
def ints (xs : List Int) : List Value := xs.map fun x => .int .i64 x
theorem own_ge {w : World} {base : Nat} {e : TypeId} {size : Nat} {v : Value} {n : Nat} {xs : List Value} (h : w.ownsRow base e size v n xs) : ∀ k, v.ownBlock = some k → base ≤ k := by
 intro k hk
 rcases h.2 with ⟨rfl, _⟩ | ⟨g, cap, cur, rfl, hg, _⟩
 ·cases hk
 ·cases hk
  exact hg
def bytesV (xs : List Int) : List Value := xs.map fun x => .int .u8 x
def Own8 (w : World) (base : Nat) (v : Value) (xs : List Int) : Prop := w.ownsRow base 5 1 v xs.length (bytesV xs)
def ByteAt (w : World) (b o : Nat) (xs : List Int) : Prop := ∀ (k : Nat) (x : Int), xs[k]? = some x → w.cell? ⟨b, o + k, none⟩ = some (.int .u8 x)
def ByteRow (w : World) (F : Nat → Prop) (A : Option Addr) (xs : List Int) : Prop :=
 ∀ k x, xs[k]? = some x → ∃ b o, A = some ⟨b, o, none⟩ ∧ F b ∧ w.cell? ⟨b, o + k, none⟩ = some (.int .u8 x)
def NumRow (w : World) (F : Nat → Prop) (A : Option Addr) (xs : List Int) : Prop :=
 ∀ k x, xs[k]? = some x → ∃ b o, A = some ⟨b, o, none⟩ ∧ F b ∧ w.cell? ⟨b, o + k, none⟩ = some (.int .i64 x)
section
variable {S F F' : Nat → Prop} {w w' : World} {b o base : Nat} {A : Option Addr} {xs : List Int} {v : Value}
theorem ByteAt.fr (h : ByteAt w b o xs) (hf : Fr S w w') (hs : ¬ S b) : ByteAt w' b o xs := fun k x hx => hf.cell_some (h k x hx) hs
theorem ByteRow.fr (h : ByteRow w F A xs) (hf : Fr S w w') (hS : ∀ k, F k → ¬ S k) : ByteRow w' F A xs := by
 intro k x hx
 obtain ⟨b, o, e, hb, hc⟩ := h k x hx
 exact ⟨b, o, e, hb, hf.cell_some hc (hS b hb)⟩
theorem ByteRow.mono (h : ByteRow w F A xs) (hB : ∀ k, F k → F' k) : ByteRow w F' A xs := by
 intro k x hx
 obtain ⟨b, o, e, hb, hc⟩ := h k x hx
 exact ⟨b, o, e, hB b hb, hc⟩
theorem NumRow.fr (h : NumRow w F A xs) (hf : Fr S w w') (hS : ∀ k, F k → ¬ S k) : NumRow w' F A xs := by
 intro k x hx
 obtain ⟨b, o, e, hb, hc⟩ := h k x hx
 exact ⟨b, o, e, hb, hf.cell_some hc (hS b hb)⟩
theorem ByteRow.at (h : ByteRow w F A xs) (hn : 0 < xs.length) : ∃ b o, A = some ⟨b, o, none⟩ ∧ F b ∧ ByteAt w b o xs := by
 obtain ⟨b, o, e, hb, _⟩ := h 0 xs[0] (List.getElem?_eq_getElem hn)
 refine ⟨b, o, e, hb, fun k x hx => ?_⟩
 obtain ⟨b', o', e', _, hc⟩ := h k x hx
 rw [e] at e'
 cases e'
 exact hc
theorem Own8.nil (w : World) (base : Nat) : Own8 w base (.slice none 0 0) [] := World.ownsRow_nil _ _ _ _
theorem Own8.fr (h : Own8 w base v xs) (hf : Fr S w w') (hs : ∀ k, v.ownBlock = some k → ¬ S k) : Own8 w' base v xs := own_fr h hf hs
theorem Own8.alloc (h : Own8 w base v xs) (o : Obj) : Own8 (w.alloc o) base v xs := h.fr ((Fr.refl (fun _ => False) w).alloc o) (fun _ _ => id)
theorem Own8.drew (h : Own8 w base v xs) : Own8 w.drew base v xs := h.fr ((Fr.refl (fun _ => False) w).drew) (fun _ _ => id)
theorem Own8.setCell {g i : Nat} {t : TypeId} {cs : Array Value} (h : Own8 w base v xs) (hg : Blk w g t cs) (hne : 5 ≠ t) (u : Value) : Own8 (w.setCell ⟨g, i, none⟩ u) base v xs := own_setCell h hg hne i u
theorem Own8.len {n m c : Nat} (h : Own8 w base (.slice A n c) xs) (e : n = m) : Own8 w base (.slice A m c) xs := by subst e; exact h
theorem Own8.base_ {base' : Nat} (h : Own8 w base v xs) (hb : base' ≤ base) : Own8 w base' v xs := own_base h hb
theorem Own8.form (h : Own8 w base v xs) : ∃ A cap, v = .slice A xs.length cap ∧ xs.length ≤ cap ∧ ByteRow w (fun k => v.ownBlock = some k) A xs := by
 obtain ⟨A, cap, hv, hcap, hat⟩ := own_form h
 refine ⟨A, cap, hv, hcap, ?_⟩
 intro k x hx
 obtain ⟨b, hb, _, hc⟩ := hat k (.int .u8 x) (by simp [bytesV, hx])
 exact ⟨b, 0, hb, by rw [hv, hb]; rfl, by rw [Nat.zero_add]; exact hc⟩
theorem Own8.lt (h : Own8 w base v xs) : ∀ k, v.ownBlock = some k → k < w.heap.size := by
 intro k hk
 rcases h.2 with ⟨rfl, _⟩ | ⟨g, cap, cur, rfl, _, hg, _⟩
 ·cases hk
 ·cases hk
  exact lt_of_heap hg
theorem Own8.ne_blk {g : Nat} {t : TypeId} {cs : Array Value} (h : Own8 w base v xs) (hg : Blk w g t cs) (hne : 5 ≠ t) : v.ownBlock ≠ some g := own_ne_blk h hg hne
theorem bytes_cells (h : ByteAt w b o xs) : ∀ j u, (bytesV xs)[j]? = some u → w.cell? ((⟨b, o, none⟩ : Addr).add j) = some u := by
 intro j u hu
 rw [bytesV, List.getElem?_map] at hu
 obtain ⟨x, hx, rfl⟩ := Option.map_eq_some_iff.1 hu
 rw [add_at]
 exact h j x hx
theorem bytes_one (xs : List Int) : ∀ u ∈ bytesV xs, u.oneCell' = true := by
 intro u hu
 obtain ⟨x, _, rfl⟩ := List.mem_map.1 hu
 rfl
theorem ByteAt.new (w : World) (xs : List Int) : ByteAt (w.alloc (.cells (bytesV xs).toArray 5)) w.heap.size 0 xs := by
 intro k x hx
 rw [Nat.zero_add, (Blk.new w 5 (bytesV xs).toArray).cell k]
 simp [bytesV, hx]
theorem Own8.built (w : World) {base : Nat} (hb : base ≤ w.heap.size) (xs : List Int) (hx : xs.length ≤ 1000) (n : Nat) (hn : n = xs.length) :
  Own8 (w.alloc (.cells (bytesV xs).toArray 5)) base (.slice (some ⟨w.heap.size, 0, none⟩) n n) xs := by
 subst hn
 refine ⟨by simp [bytesV], .inr ⟨w.heap.size, xs.length, (bytesV xs).toArray, rfl, hb, heap_alloc_new w _, Nat.le_refl _, by simp only [maxLen]; omega, by simp [bytesV], ?_⟩⟩
 simp [bytesV, List.take_of_length_le]
end
theorem wpList_append_bytes {w : World} {ops : Array Oper} {rest : List Oper} {o : Oper} {a : Act} {Q : Exit → Act → World → Prop} (hgd : o.guard = none) (s x : Operand)
  (ho : o.op = .call { callee := .builtin .append, args := #[s, x], argTypes := #[38, 38] })
  (base : Nat) (v : Value) (ys : List Int) (hs : a.eval s = v) (hown : Own8 w base v ys)
  (b f m c : Nat) (xs : List Int) (hx : a.eval x = .slice (some ⟨b, f, none⟩) m c) (hl : xs.length = m) (hxs : ByteAt w b f xs)
  (hm : 0 < m) (h63 : ys.length + m ≤ 1099511627776) (hbase : base ≤ w.heap.size)
  (h : ∀ g cap w', Own8 w' base (.slice (some ⟨g, 0, none⟩) (ys ++ xs).length cap) (ys ++ xs) → Fr (fun k => v.ownBlock = some k) w w' → (v.ownBlock = some g ∨ g = w.heap.size) → wpList Tryz.prog ops Q rest (a.put o.dst (.slice (some ⟨g, 0, none⟩) (ys ++ xs).length cap)) w') : wpList Tryz.prog ops Q (o :: rest) a w := by
 have hinf : (Tryz.prog.info? 5).map (fun i => (i.zero, i.size, i.bytes)) = some (some (.int .u8 0), 1, 1) := by kernel_rfl
 obtain ⟨i0, hi, hz0, hz1, hz2⟩ := info_parts hinf
 refine wpList_append_lies (w := w) hgd s x 38 ho base 5 i0 (.int .u8 0) 1 1 Tryz.underlying38 hi hz0 hz1 hz2 rfl (by decide) v ys.length (bytesV ys) hs hown ⟨b, f, none⟩ m c (bytesV xs) hx (by simp [bytesV, hl]) (bytes_cells hxs) (bytes_one xs) hm (by simp only [maxLen]; omega) (by omega) hbase w.heap.size rfl ?_
 intro g cap w' h1 h2 h3 _
 have e : ys.length + m = (ys ++ xs).length := by rw [List.length_append, hl]
 rw [e] at h1 ⊢
 exact h g cap w' (by unfold Own8; rw [bytesV, List.map_append]; exact h1) ((Fr.refl _ w).grown h2 (fun _ _ e1 => e1)) h3
theorem run_append_nil (w : World) (base : Nat) (t ty e : TypeId) (i : TypeInfo) (size : Nat) (ht : Tryz.prog.underlying t = some (.slice e)) (hi : Tryz.prog.info? e = some i)
  (v : Value) (n : Nat) (xs : List Value) (hown : w.ownsRow base e size v n xs) (c : Nat) : (Builtin.append_ #[t, t] ty #[v, .slice none 0 c]).run Tryz.prog w = .ok v w := by
 rcases hown.2 with ⟨rfl, rfl⟩ | ⟨g, cap, cur, rfl, _, _, hnc, _⟩
 ·simp [Builtin.append_, run_underlying ht, sizeOf, typeInfo, hi, Builtin.lenOf, Builtin.firstCells]
 ·simp [Builtin.append_, run_underlying ht, sizeOf, typeInfo, hi, Builtin.lenOf, Builtin.firstCells, hnc, storeCells]
theorem run_append_text (w : World) (ty : TypeId) (base : Nat) (v : Value) (ys : List Int) (hown : Own8 w base v ys) (B : Nat → Prop) (A : Option Addr) (c : Nat) (xs : List Int) (hr : ByteRow w B A xs)
  (h63 : ys.length + xs.length ≤ 1099511627776) (hbase : base ≤ w.heap.size) :
  ∃ v' w', (Builtin.append_ #[38, 38] ty #[v, .slice A xs.length c]).run Tryz.prog w = .ok v' w' ∧ Own8 w' base v' (ys ++ xs) ∧ Fr (fun k => v.ownBlock = some k) w w' ∧ (v'.ownBlock = v.ownBlock ∨ v'.ownBlock = some w.heap.size) := by
 have hinf : (Tryz.prog.info? 5).map (fun i => (i.zero, i.size, i.bytes)) = some (some (.int .u8 0), 1, 1) := by kernel_rfl
 obtain ⟨i0, hi, hz0, hz1, hz2⟩ := info_parts hinf
 rcases A with _ | ad
 ·have hx : xs = [] := by
   cases xs with
   | nil => rfl
   | cons x r => obtain ⟨b, o, e, _⟩ := hr 0 x rfl; cases e
  subst hx
  exact ⟨v, w, run_append_nil w base 38 ty 5 i0 1 Tryz.underlying38 hi v ys.length (bytesV ys) hown c, by simpa using hown, Fr.refl _ _, .inl rfl⟩
 ·have hcells : ∀ j u, (bytesV xs)[j]? = some u → w.cell? (ad.add j) = some u := by
   intro j u hu
   rw [bytesV, List.getElem?_map] at hu
   obtain ⟨x, hx, rfl⟩ := Option.map_eq_some_iff.1 hu
   obtain ⟨b, o, e, _, hc⟩ := hr j x hx
   cases e
   rw [add_at]
   exact hc
  obtain ⟨v', w', hrun, h2, h3, _, h5⟩ := run_append_own_at (P := Tryz.prog) (w := w) base 38 ty 5 i0 (.int .u8 0) 1 1 Tryz.underlying38 hi hz0 hz1 hz2 rfl (by decide) v ys.length (bytesV ys) hown ad xs.length c (bytesV xs) (by simp [bytesV]) hcells (bytes_one xs) (by simp only [maxLen]; omega) (by omega) hbase
  exact ⟨v', w', hrun, by unfold Own8; rw [bytesV, List.map_append, List.length_append]; exact h2, (Fr.refl _ w).grown h3 (fun _ _ e1 => e1), h5⟩
theorem wp_append_text {w : World} {o : Oper} {a : Act} {K : Act → World → Prop} {Q : Exit → Act → World → Prop} (s x : Operand)
  (ho : o.op = .call { callee := .builtin .append, args := #[s, x], argTypes := #[38, 38] })
  (base : Nat) (v : Value) (ys : List Int) (hs : a.eval s = v) (hown : Own8 w base v ys)
  (B : Nat → Prop) (A : Option Addr) (m c : Nat) (xs : List Int) (hx : a.eval x = .slice A m c) (hl : m = xs.length) (hr : ByteRow w B A xs) (h63 : ys.length + xs.length ≤ 1099511627776) (hbase : base ≤ w.heap.size)
  (h : ∀ v' w', Own8 w' base v' (ys ++ xs) → Fr (fun k => v.ownBlock = some k) w w' → (v'.ownBlock = v.ownBlock ∨ v'.ownBlock = some w.heap.size) → K (a.put o.dst v') w') : o.wp Tryz.prog a w K Q := by
 subst hl
 obtain ⟨v', w', hrun, h2, h3, h4⟩ := run_append_text w o.type base v ys hown B A c xs hr h63 hbase
 unfold Oper.wp execOp
 simp only [ho, resolve, invoke, builtin, Sem.run_bind, Sem.run_pure, Result.andThen_ok, List.map_toArray, List.map_cons, List.map_nil, hs, hx, hrun]
 exact h v' w' h2 h3 h4
theorem wpList_append_text {w : World} {ops : Array Oper} {rest : List Oper} {o : Oper} {a : Act} {Q : Exit → Act → World → Prop} (hgd : o.guard = none) (s x : Operand)
  (ho : o.op = .call { callee := .builtin .append, args := #[s, x], argTypes := #[38, 38] })
  (base : Nat) (v : Value) (ys : List Int) (hs : a.eval s = v) (hown : Own8 w base v ys)
  (B : Nat → Prop) (A : Option Addr) (m c : Nat) (xs : List Int) (hx : a.eval x = .slice A m c) (hl : m = xs.length) (hr : ByteRow w B A xs) (h63 : ys.length + xs.length ≤ 1099511627776) (hbase : base ≤ w.heap.size)
  (h : ∀ v' w', Own8 w' base v' (ys ++ xs) → Fr (fun k => v.ownBlock = some k) w w' → (v'.ownBlock = v.ownBlock ∨ v'.ownBlock = some w.heap.size) → wpList Tryz.prog ops Q rest (a.put o.dst v') w') : wpList Tryz.prog ops Q (o :: rest) a w :=
 wpList_plain hgd fun _ hK => wp_append_text s x ho base v ys hs hown B A m c xs hx hl hr h63 hbase fun v' w' h2 h3 h4 => hK _ _ (h v' w' h2 h3 h4)
theorem step_append_text {w : World} {ops : Array Oper} {o : Oper} {a : Act} {K : Act → World → Prop} {Q : Exit → Act → World → Prop} {E : Prop} (hgd : o.guard = none) (s x : Operand)
  (ho : o.op = .call { callee := .builtin .append, args := #[s, x], argTypes := #[38, 38] })
  (base : Nat) (v : Value) (ys : List Int) (hs : a.eval s = v) (hown : Own8 w base v ys)
  (B : Nat → Prop) (A : Option Addr) (m c : Nat) (xs : List Int) (hx : a.eval x = .slice A m c) (hl : m = xs.length) (hr : ByteRow w B A xs) (h63 : ys.length + xs.length ≤ 1099511627776) (hbase : base ≤ w.heap.size)
  (h : ∀ v' w', Own8 w' base v' (ys ++ xs) → Fr (fun k => v.ownBlock = some k) w w' → (v'.ownBlock = v.ownBlock ∨ v'.ownBlock = some w.heap.size) → K (a.put o.dst v') w') :
  if Region.wanted o (yielded ops a.tmps) = true then Oper.wp Tryz.prog o a w K Q else E := by
 have hw : Region.wanted o (yielded ops a.tmps) = true := by simp [Region.wanted, hgd]
 rw [if_pos hw]
 exact wp_append_text s x ho base v ys hs hown B A m c xs hx hl hr h63 hbase h
def Fresh (w : World) (xs : List Int) (e : Ending) (w' : World) : Prop := ∃ v, e = .returned v ∧ Own8 w' w.heap.size v xs ∧ Fr (fun _ => False) w w'
theorem bytes_Clone {w : World} {B : Nat → Prop} {A : Option Addr} {xs : List Int} {n cap : Nat} (h : ByteRow w B A xs) (hn : n = xs.length) (hl : xs.length ≤ 1099511627776) :
  Calls Tryz.prog 132 #[.slice A n cap] w (Fresh w xs) := by
 subst hn
 have hq := fun w' A n => @Lib.run_eql_slice_nil Tryz.prog w' 38 5 A n cap 0 0 Tryz.underlying38
 cases xs with
 | nil =>
  cases A with
  | none =>
   go_enter Tryz.func132, Tryz.ntmps132
   go_wp2
   go_ret
   exact ⟨.slice none 0 0, rfl, Own8.nil _ _, Fr.refl _ _⟩
  | some a =>
   go_enter Tryz.func132, Tryz.ntmps132
   go_wp2
   go_ret
   exact ⟨.slice (some ⟨w.heap.size, 0, none⟩) 0 0, rfl, Own8.built w (Nat.le_refl _) [] (by simp) 0 rfl, (Fr.refl (fun _ => False) w).alloc _⟩
 | cons x r =>
  obtain ⟨b, o, rfl, hb, hat⟩ := h.at (by simp)
  go_enter Tryz.func132, Tryz.ntmps132
  go_wp2_with (at_builtin; refine wpList_append_bytes rfl (.tmp 5) (.tmp 6) rfl w.heap.size _ [] rfl (Own8.built w (Nat.le_refl _) [] (by simp) 0 rfl) b o (x :: r).length cap (x :: r) rfl rfl (hat.fr ((Fr.refl (fun _ => False) w).alloc _) id) (by simp) (by simpa using hl) (by simp) ?_; intro g2 c2 w2 hown2 hf2 hg2)
  go_ret
  refine ⟨.slice (some ⟨g2, 0, none⟩) ([] ++ (x :: r)).length c2, rfl, hown2, ((Fr.refl (fun _ => False) w).alloc (Obj.cells #[] 5)).trans hf2 ?_⟩
  intro k hk e1
  cases e1
  simp at hk
section
variable {P : Program}
theorem wp_append_gen {w : World} {o : Oper} {a : Act} {K : Act → World → Prop} {Q : Exit → Act → World → Prop} (s x : Operand) (T e : TypeId)
  (ho : o.op = .call { callee := .builtin .append, args := #[s, x], argTypes := #[T, T] }) (hT : P.underlying T = some (.slice e)) {z : Value} {bytes : Nat} (hinf : (P.info? e).map (fun i => (i.zero, i.size, i.bytes)) = some (some z, 1, bytes)) (hz1 : z.cells.size = 1)
  (base : Nat) (v : Value) (n : Nat) (ys : List Value) (hs : a.eval s = v) (hown : w.ownsRow base e 1 v n ys)
  (ad : Addr) (m c : Nat) (news : List Value) (hx : a.eval x = .slice (some ad) m c) (hl : news.length = m) (hnews : ∀ j u, news[j]? = some u → w.cell? (ad.add j) = some u) (h1 : ∀ u ∈ news, u.oneCell' = true) (h63 : n + m ≤ 1099511627776) (hb : bytes ≤ 64) (hbase : base ≤ w.heap.size)
  (h : ∀ v' w', w'.ownsRow base e 1 v' (n + m) (ys ++ news) → Fr (fun k => v.ownBlock = some k) w w' → (v'.ownBlock = v.ownBlock ∨ v'.ownBlock = some w.heap.size) → K (a.put o.dst v') w') : o.wp P a w K Q := by
 obtain ⟨i0, hi, hz0, hz2, hz3⟩ := info_parts hinf
 have hbytes : (n + m) * bytes ≤ 140737488355328 := Nat.le_trans (Nat.mul_le_mul h63 hb) (by decide)
 obtain ⟨v', w', hrun, h2, h3, _, h5⟩ := run_append_own_at (P := P) (w := w) base T o.type e i0 z 1 bytes hT hi hz0 hz2 hz3 hz1 (by decide) v n ys hown ad m c news (by omega) hnews h1 (by simp only [maxLen]; omega) hbytes hbase
 unfold Oper.wp execOp
 simp only [ho, resolve, invoke, builtin, Sem.run_bind, Sem.run_pure, Result.andThen_ok, List.map_toArray, List.map_cons, List.map_nil, hs, hx, hrun]
 exact h v' w' h2 ((Fr.refl _ w).grown h3 (fun _ _ e1 => e1)) h5
theorem step_append_gen {w : World} {ops : Array Oper} {o : Oper} {a : Act} {K : Act → World → Prop} {Q : Exit → Act → World → Prop} {E : Prop} (hgd : o.guard = none) (s x : Operand) (T e : TypeId)
  (ho : o.op = .call { callee := .builtin .append, args := #[s, x], argTypes := #[T, T] }) (hT : P.underlying T = some (.slice e)) {z : Value} {bytes : Nat} (hinf : (P.info? e).map (fun i => (i.zero, i.size, i.bytes)) = some (some z, 1, bytes)) (hz1 : z.cells.size = 1)
  (base : Nat) (v : Value) (n : Nat) (ys : List Value) (hs : a.eval s = v) (hown : w.ownsRow base e 1 v n ys)
  (ad : Addr) (m c : Nat) (news : List Value) (hx : a.eval x = .slice (some ad) m c) (hl : news.length = m) (hnews : ∀ j u, news[j]? = some u → w.cell? (ad.add j) = some u) (h1 : ∀ u ∈ news, u.oneCell' = true) (h63 : n + m ≤ 1099511627776) (hb : bytes ≤ 64) (hbase : base ≤ w.heap.size)
  (h : ∀ v' w', w'.ownsRow base e 1 v' (n + m) (ys ++ news) → Fr (fun k => v.ownBlock = some k) w w' → (v'.ownBlock = v.ownBlock ∨ v'.ownBlock = some w.heap.size) → K (a.put o.dst v') w') :
  if Region.wanted o (yielded ops a.tmps) = true then Oper.wp P o a w K Q else E := by
 have hw : Region.wanted o (yielded ops a.tmps) = true := by simp [Region.wanted, hgd]
 rw [if_pos hw]
 exact wp_append_gen s x T e ho hT hinf hz1 base v n ys hs hown ad m c news hx hl hnews h1 h63 hb hbase h
theorem new_one (w : World) (e : TypeId) (u : Value) : ∀ (j : Nat) u', ([u] : List Value)[j]? = some u' → (w.alloc (Obj.cells #[u] e)).cell? ((⟨w.heap.size, 0, none⟩ : Addr).add j) = some u' := by
 intro j u' h
 cases j with
 | zero =>
  cases h
  exact (Blk.new w e #[u]).cell 0
 | succ j => simp at h
end
theorem conv_bytes {w : World} {F : Nat → Prop} {A : Option Addr} {xs : List Int} {n cap : Nat} (h : ByteRow w F A xs) (hn : n = xs.length) : (convert 38 9 (.slice A n cap)).run Tryz.prog w = .ok (.string (strOfNums xs)) w := by
 subst hn
 cases xs with
 | nil =>
  cases A with
  | none => exact run_convert_bytes_nil w 38 5 Tryz.underlying38 Tryz.underlying5 0 cap 9 Tryz.underlying9
  | some a =>
   rw [List.length_nil, run_convert_bytes_string w 38 9 5 _ _ cap Tryz.underlying38 Tryz.underlying5 Tryz.underlying9, run_bytesToString w a 0 cap [] (by simp [loadCells, loadCellsFrom])]
   rfl
 | cons x r =>
  obtain ⟨b, o, rfl, _, hat⟩ := h.at (by simp)
  refine run_convert_bytes_arg w 38 5 Tryz.underlying38 Tryz.underlying5 b o _ cap (x :: r) rfl ?_ 9 Tryz.underlying9
  intro i hi
  refine hat i _ ?_
  rw [List.getD_eq_getElem?_getD, List.getElem?_eq_getElem hi]
  rfl
def bytesOf (s : ByteArray) : List Int := s.data.toList.map fun b => (b.toNat : Int)
theorem bytesOf_length (s : ByteArray) : (bytesOf s).length = s.size := by
 rw [bytesOf, List.length_map, Array.length_toList]
 rfl
theorem bytesOf_8 (s : ByteArray) : ∀ x ∈ bytesOf s, 0 ≤ x ∧ x ≤ 255 := by
 intro x hx
 obtain ⟨b, _, rfl⟩ := List.mem_map.1 hx
 have := b.toNat_lt
 omega
theorem strOf_bytesOf (s : ByteArray) : strOfNums (bytesOf s) = s := by
 refine ByteArray.ext (Array.ext' ?_)
 rw [strOfNums_data, bytesOf, List.map_map]
 conv => rhs; rw [← List.map_id s.data.toList]
 refine List.map_congr_left fun b _ => ?_
 show UInt8.ofNat ((b.toNat : Int)).toNat = b
 simp
theorem bytesOf_strOf {xs : List Int} (h : ∀ x ∈ xs, 0 ≤ x ∧ x ≤ 255) : bytesOf (strOfNums xs) = xs := by
 rw [bytesOf, strOfNums_data, List.map_map]
 conv => rhs; rw [← List.map_id xs]
 refine List.map_congr_left fun x hx => ?_
 obtain ⟨h1, h2⟩ := h x hx
 show ((UInt8.ofNat x.toNat).toNat : Int) = x
 rw [UInt8.toNat_ofNat']
 omega
theorem strOf_inj {a b : List Int} (ha : ∀ x ∈ a, 0 ≤ x ∧ x ≤ 255) (hb : ∀ x ∈ b, 0 ≤ x ∧ x ≤ 255) (h : strOfNums a = strOfNums b) : a = b := by
 rw [← bytesOf_strOf ha, h, bytesOf_strOf hb]
def strW (w : World) (s : ByteArray) : World := Lib.bytesWorld w 5 s
theorem strW_fr (w : World) (s : ByteArray) : Fr (fun _ => False) w (strW w s) :=
 ⟨rfl, rfl, rfl, by rw [strW, Lib.bytesWorld_size]; omega, fun k hk _ => Lib.bytesWorld_at_old w 5 s k hk⟩
theorem strW_row (w : World) (s : ByteArray) : ByteRow (strW w s) (fun k => k = w.heap.size) (some ⟨w.heap.size, 0, none⟩) (bytesOf s) := by
 intro k x hx
 refine ⟨w.heap.size, 0, rfl, rfl, ?_⟩
 obtain ⟨hk, rfl⟩ := List.getElem?_eq_some_iff.1 hx
 have hk' : k < s.size := by rw [bytesOf_length] at hk; exact hk
 rw [Nat.zero_add]
 have := Lib.bytesWorld_cell w 5 s k hk'
 rw [strW, this, List.getD_eq_getElem?_getD, List.getElem?_eq_getElem (by rw [Array.length_toList]; exact hk')]
 simp [bytesOf]
theorem run_str (w : World) (s : ByteArray) : (convert 9 38 (.string s)).run Tryz.prog w = .ok (.slice (some ⟨w.heap.size, 0, none⟩) s.size (grownCap w s.size 0 5)) (strW w s) :=
 Lib.run_convert_string_bytes w 9 38 5 s Tryz.underlying9 Tryz.underlying38 Tryz.underlying5
end Go.Proofs.YtmkdhhhoodeemaaGreat
namespace Go.Proofs.YtmkdhhhoodeemaaGreat
open Go
theorem wpAnyH_takeAt {P : Program} {md : Region.Mode} {ops : Array Oper} {Q : Exit → Act → World → Prop} {S : World → Prop} {i : Nat} {oi : Oper} {v : Value} {fuel : Nat} {listed : Array Bool} {a : Act} {w : World} (d : Option Tmp) (hi : ops[i]? = some oi) (hd : oi.dst = d)
  (hs : Region.noSelect ops = true) (hf : Region.free md ops listed i = true) (hr : (Region.ready md ops listed).contains i = true)
  (hQ : ∀ c a w, Q (.panic c) (a.put d v) w → Q (.panic c) a w) (hy : YieldsIf P ops S oi v a) (hS : S w)
  (h : wpAnyH P md ops Q S fuel (listed.setIfInBounds i true) (a.put d v) w) : wpAnyH P md ops Q S (fuel + 1) listed a w := by
 subst hd
 exact wpAnyH_take hi hs hf hr hQ hy hS h
theorem tk {P : Program} {md : Region.Mode} {ops : Array Oper} {Q : Exit → Act → World → Prop} {S : World → Prop} {oi : Oper} {v : Value} {fuel : Nat} {listed listed' : Array Bool} {a a' : Act} {w : World} (i s : Nat)
    (h : wpAnyH P md ops Q S fuel listed' a' w) (hi : ops[i]? = some oi := by rfl) (hd : oi.dst = some s := by rfl)
    (hs : Region.noSelect ops = true := by kernel_rfl) (hf : Region.free md ops listed i = true := by kernel_rfl) (hr : (Region.ready md ops listed).contains i = true := by kernel_rfl)
    (hy : YieldsIf P ops S oi v a := by (refine Or.inl ⟨by rfl, ?_⟩; intro w hSw; (try dsimp only at hSw); go_simp; all_goals with_reducible rfl)) (ha : a.put (some s) v = a' := by ((try simp only [Act.put, List.setIfInBounds_toArray, List.set_cons_zero, List.set_cons_succ]); try rfl)) (hl : listed.setIfInBounds i true = listed' := by ((try simp only [List.setIfInBounds_toArray, List.set_cons_zero, List.set_cons_succ]); try rfl))
    (hQ : ∀ c a w, Q (.panic c) (a.put (some s) v) w → Q (.panic c) a w := by exact fun _ _ _ h => h) (hS : S w := by assumption) : wpAnyH P md ops Q S (fuel + 1) listed a w := by
  subst ha hl
  exact wpAnyH_takeAt (some s) hi hd hs hf hr hQ hy hS h
theorem tkU {P : Program} {md : Region.Mode} {ops : Array Oper} {Q : Exit → Act → World → Prop} {S : World → Prop} {oi : Oper} {v : Value} {fuel : Nat} {listed listed' : Array Bool} {a a' : Act} {w : World} (i s : Nat)
    (h : wpAnyH P md ops Q S fuel listed' a' w) (hi : ops[i]? = some oi := by rfl) (hd : oi.dst = some s := by rfl)
    (hs : Region.noSelect ops = true := by kernel_rfl) (hf : Region.free md ops listed i = true := by kernel_rfl) (hr : (Region.ready md ops listed).contains i = true := by kernel_rfl)
    (hy : YieldsIf P ops S oi v a := by exact Or.inr ⟨by rfl, rfl⟩) (ha : a.put (some s) v = a' := by ((try simp only [Act.put, List.setIfInBounds_toArray, List.set_cons_zero, List.set_cons_succ]); try rfl)) (hl : listed.setIfInBounds i true = listed' := by ((try simp only [List.setIfInBounds_toArray, List.set_cons_zero, List.set_cons_succ]); try rfl))
    (hQ : ∀ c a w, Q (.panic c) (a.put (some s) v) w → Q (.panic c) a w := by exact fun _ _ _ h => h) (hS : S w := by assumption) : wpAnyH P md ops Q S (fuel + 1) listed a w := by
  subst ha hl
  exact wpAnyH_takeAt (some s) hi hd hs hf hr hQ hy hS h
theorem rd {P : Program} {md : Region.Mode} {ops : Array Oper} {Q : Exit → Act → World → Prop} {S : World → Prop} {o : Oper} {fuel : Nat} {listed : Array Bool} {a : Act} {w : World} (i : Nat)
    (h : ∀ K' : Act → World → Prop, Shut (∀ a w, S w → (S w → wpAnyH P md ops Q S fuel (listed.setIfInBounds i true) a w) → K' a w) → if Region.wanted o (yielded ops a.tmps) = true then Oper.wp P o a w K' Q else K' (a.put o.dst undef) w)
    (ho : ops[i]? = some o := by rfl) (hr : Region.ready md ops listed = [i] := by kernel_rfl) : wpAnyH P md ops Q S (fuel + 1) listed a w :=
  wpAnyH_ready hr (by simp) (AllReadyH.cons ho h AllReadyH.nil)
end Go.Proofs.YtmkdhhhoodeemaaGreat
namespace Go.Proofs.YtmkdhhhoodeemaaGreat
open Go Go.RowKit
def strLess (a b : ByteArray) : Bool := Op.bytesLess a.toList b.toList
def ReadRow (w : World) (F : Nat → Prop) (A : Option Addr) (l : List (ByteArray × Int)) : Prop :=
 ∀ k x, l[k]? = some x → ∃ b o, A = some ⟨b, o, none⟩ ∧ F b ∧ w.cell? ⟨b, o + k * 2, none⟩ = some (.string x.1) ∧ w.cell? ⟨b, o + k * 2 + 1, none⟩ = some (.int .i64 x.2)
def WriteRow (w : World) (F : Nat → Prop) (A : Option Addr) (l : List (ByteArray × ByteArray)) : Prop :=
 ∀ k x, l[k]? = some x → ∃ b o, A = some ⟨b, o, none⟩ ∧ F b ∧ w.cell? ⟨b, o + k * 2, none⟩ = some (.string x.1) ∧ w.cell? ⟨b, o + k * 2 + 1, none⟩ = some (.string x.2)
theorem ReadRow.fr {S F : Nat → Prop} {w w' : World} {A : Option Addr} {l : List (ByteArray × Int)} (h : ReadRow w F A l) (hf : Fr S w w') (hS : ∀ k, F k → ¬ S k) : ReadRow w' F A l := fun k x hx => by
 obtain ⟨b, o, e, h1, h2, h3⟩ := h k x hx
 exact ⟨b, o, e, h1, hf.cell_some h2 (hS b h1), hf.cell_some h3 (hS b h1)⟩
theorem WriteRow.fr {S F : Nat → Prop} {w w' : World} {A : Option Addr} {l : List (ByteArray × ByteArray)} (h : WriteRow w F A l) (hf : Fr S w w') (hS : ∀ k, F k → ¬ S k) : WriteRow w' F A l := fun k x hx => by
 obtain ⟨b, o, e, h1, h2, h3⟩ := h k x hx
 exact ⟨b, o, e, h1, hf.cell_some h2 (hS b h1), hf.cell_some h3 (hS b h1)⟩
def readOk (x : ByteArray × Int) : Bool := decide (0 ≤ x.2) && decide (x.2 ≤ 1099511627776)
def writeOk (x : ByteArray × ByteArray) : Bool := decide ((x.2.size : Int) ≤ 64)
section
variable {α : Type} (ok : ByteArray × α → Bool)
def okAt (l : List (ByteArray × α)) (k : Nat) : Bool :=
 match l[k]? with
 | none => true
 | some x => !decide ((16 : Int) < x.1.size) && ok x && (match k with | 0 => true | j + 1 => match l[j]? with | none => true | some y => strLess y.1 x.1)
def okTo (l : List (ByteArray × α)) (k : Nat) : Bool := (List.range k).all (okAt ok l)
def rises (l : List (ByteArray × α)) : Bool := okTo ok l l.length && decide ((l.length : Int) ≤ 8)
theorem okTo_succ {l : List (ByteArray × α)} {k : Nat} (h : okTo ok l k = true) (h1 : okAt ok l k = true) : okTo ok l (k + 1) = true := by
 unfold okTo at h ⊢
 rw [List.range_succ, List.all_append, h]
 simp [h1]
theorem rises_no {l : List (ByteArray × α)} {k : Nat} (hk : k < l.length) (h1 : okAt ok l k = false) : rises ok l = false := by
 unfold rises
 have : okTo ok l l.length = false := by
  unfold okTo
  rw [List.all_eq_false]
  exact ⟨k, List.mem_range.2 hk, by simp [h1]⟩
 rw [this]
 rfl
end
theorem wrap_i64 (j : Nat) (h : j ≤ 1000000) : IntKind.i64.wrap (j : Int) = (j : Int) := by
 unfold IntKind.wrap
 simp [IntKind.signed, IntKind.bits]
 omega
def OkB (w : World) (b : Bool) (e : Ending) (w' : World) : Prop := e = .returned (.bool b) ∧ Fr (fun _ => False) w w'
theorem txn_read (w : World) (s : ByteArray) (n : Int) : Calls Tryz.prog 166 #[.agg #[.string s, .int .i64 n]] w fun e w' => e = .returned (.string s) ∧ Fr (fun _ => False) w w' := by
 go_enter Tryz.func166, Tryz.ntmps166
 go_wp2
 go_ret
 exact ⟨rfl, (Fr.refl _ _).alloc _⟩
theorem txn_written (w : World) (s t : ByteArray) : Calls Tryz.prog 169 #[.agg #[.string s, .string t]] w fun e w' => e = .returned (.string s) ∧ Fr (fun _ => False) w w' := by
 go_enter Tryz.func169, Tryz.ntmps169
 go_wp2
 go_ret
 exact ⟨rfl, (Fr.refl _ _).alloc _⟩
theorem txn_right1 (w : World) (x : ByteArray × Int) : Calls Tryz.prog 167 #[.agg #[.string x.1, .int .i64 x.2]] w (OkB w (readOk x)) := by
 obtain ⟨s, n⟩ := x
 unfold readOk
 by_cases h0 : 0 ≤ n
 ·go_enter Tryz.func167, Tryz.ntmps167
  go_wp2
  go_ret
  exact ⟨by simp [h0], (Fr.refl _ _).alloc _⟩
 ·go_enter Tryz.func167, Tryz.ntmps167
  go_wp2
  go_ret
  exact ⟨by rw [decide_eq_false (p := 0 ≤ n) (by omega)]; rfl, (Fr.refl _ _).alloc _⟩
theorem txn_right2 (w : World) (x : ByteArray × ByteArray) : Calls Tryz.prog 170 #[.agg #[.string x.1, .string x.2]] w (OkB w (writeOk x)) := by
 obtain ⟨s, t⟩ := x
 go_enter Tryz.func170, Tryz.ntmps170
 go_wp2
 go_ret
 exact ⟨rfl, (Fr.refl _ _).alloc _⟩
theorem txn_rises_read {w : World} {F : Nat → Prop} {A : Option Addr} {l : List (ByteArray × Int)} {cap : Nat} (h : ReadRow w F A l) (hll : l.length ≤ 1000000) :
  Calls Tryz.prog 165 #[.slice A l.length cap, .func (.func 166) #[] #[], .func (.func 167) #[] #[]] w (OkB w (rises readOk l)) := by
 go_enter Tryz.func165, Tryz.ntmps165
 go_wp2_with fail
 go_loopw [11] (fun ix wr => ∃ k : Nat, k ≤ l.length ∧ ix = .int .i64 k ∧ Hid (okTo readOk l k = true) ∧ Fr (fun _ => False) w wr) (fun ix _ => l.length - (intOf ix).toNat)
 case atStart => exact ⟨0, by omega, rfl, rfl, Fr.refl _ _⟩
 case round =>
  obtain ⟨k, hk, rfl, hok, hf⟩ := hrel
  by_cases hlt : k < l.length
  ·obtain ⟨x, hx⟩ : ∃ x, l[k]? = some x := ⟨l[k], List.getElem?_eq_getElem hlt⟩
   obtain ⟨b, o, rfl, hFb, hc0, hc1⟩ := h k x hx
   have d0 := hf.cell_some hc0 id
   have d1 := hf.cell_some hc1 id
   have HX := Lib.hid hx
   have HR := Lib.hid h
   clear hx h hc0 hc1
   go_upto_region 4 with fail
   generalize hgx : wr.heap.size = gx
   have hb0 : Blk (wr.alloc (Obj.cells #[.string x.1, .int .i64 x.2] 143)) gx 143 #[.string x.1, .int .i64 x.2] := Blk.new_ _ _ _ hgx.symm
   have hfa : Fr (fun _ => False) wr (wr.alloc (Obj.cells #[.string x.1, .int .i64 x.2] 143)) := (Fr.refl _ _).alloc _
   generalize wr.alloc (Obj.cells #[.string x.1, .int .i64 x.2] 143) = wa at hb0 hfa ⊢
   have HGX := Lib.hid hgx
   clear d0 d1 hgx
   go_cut [43] from 16 to 43 (fun c wx => c = .bool (!(okAt readOk l k)) ∧ Fr (fun _ => False) wa wx)
   case first =>
    have f0 : Fr (fun _ => False) wa wa.drew := (Fr.refl _ _).drew
    by_cases c16 : (16 : Int) < x.1.size
    ·have eo : okAt readOk l k = false := by unfold okAt; rw [HX.out]; simp [c16]
     have HEO := Lib.hid eo
     have q16 : decide ((16 : Int) < x.1.size) = true := decide_eq_true c16
     have five : ∀ w', Fr (fun _ => False) wa w' → w'.cell? ⟨gx, 0, none⟩ = some (.string x.1) ∧ w'.cell? ⟨gx, 1, none⟩ = some (.int .i64 x.2) := fun w' h => ⟨(hb0.fr h id).cell 0, (hb0.fr h id).cell 1⟩
     clear eo hlt
     refine wp_region_noPanic ?_
     refine wp_region_held_drew (S := (fun w' => w'.cell? ⟨gx, 0, none⟩ = some (.string x.1) ∧ w'.cell? ⟨gx, 1, none⟩ = some (.int .i64 x.2))) (by kernel_rfl) (five _ f0) (fun hHeld => ?_)
     refine tk 0 16 ?_
     refine tk 1 17 ?_
     refine rd 2 (fun K hK => ?_)
     go_simp
     go_at_call 166
     refine (txn_read _ _ _).mono ?_; rintro e w1 ⟨rfl, hf1⟩; have f1 := f0.then_ hf1
     try go_wp2_with fail
     refine hK.out _ _ (five _ f1) (fun hHeld => ?_)
     clear hK K
     refine tk 3 19 ?_
     refine tk 4 20 ?_
     refine tk 5 21 ?_
     refine tkU 6 22 ?_
     refine tkU 7 23 ?_
     refine tkU 8 24 ?_
     refine tkU 9 25 ?_
     refine tk 10 26 ?_
     refine tk 11 27 ?_
     refine tkU 12 28 ?_
     refine tkU 13 29 ?_
     refine tkU 14 30 ?_
     refine tkU 15 31 ?_
     refine tkU 16 32 ?_
     refine tkU 17 33 ?_
     refine tkU 18 34 ?_
     refine tkU 19 35 ?_
     refine tkU 20 36 ?_
     refine tkU 21 37 ?_
     refine tkU 22 38 ?_
     refine tkU 23 39 ?_
     refine tkU 24 40 ?_
     refine tkU 25 41 ?_
     refine tkU 26 42 ?_
     refine tk 27 43 ?_
     refine wpAnyH_done (by kernel_rfl) ?_ _
     refine NoPanic.normal ?_
     all_goals go_wp2_with fail
     all_goals go_meet
     all_goals exact ⟨by rw [HEO.out]; rfl, f1⟩
    ·have q16 : decide ((16 : Int) < x.1.size) = false := decide_eq_false c16
     cases hro : readOk x with
     | false =>
      have eo : okAt readOk l k = false := by unfold okAt; rw [HX.out]; simp [hro]
      have HEO := Lib.hid eo
      have five : ∀ w', Fr (fun _ => False) wa w' → w'.cell? ⟨gx, 0, none⟩ = some (.string x.1) ∧ w'.cell? ⟨gx, 1, none⟩ = some (.int .i64 x.2) := fun w' h => ⟨(hb0.fr h id).cell 0, (hb0.fr h id).cell 1⟩
      have HRO := Lib.hid hro
      clear eo hlt hro
      refine wp_region_noPanic ?_
      refine wp_region_held_drew (S := (fun w' => w'.cell? ⟨gx, 0, none⟩ = some (.string x.1) ∧ w'.cell? ⟨gx, 1, none⟩ = some (.int .i64 x.2))) (by kernel_rfl) (five _ f0) (fun hHeld => ?_)
      refine tk 0 16 ?_
      refine tk 1 17 ?_
      refine rd 2 (fun K hK => ?_)
      go_simp
      go_at_call 166
      refine (txn_read _ _ _).mono ?_; rintro e w1 ⟨rfl, hf1⟩; have f1 := f0.then_ hf1
      try go_wp2_with fail
      refine hK.out _ _ (five _ f1) (fun hHeld => ?_)
      clear hK K
      refine tk 3 19 ?_
      refine tk 4 20 ?_
      refine tk 5 21 ?_
      refine tk 6 22 ?_
      refine tk 7 23 ?_
      refine rd 8 (fun K hK => ?_)
      go_simp
      go_at_call 167
      refine (txn_right1 _ x).mono ?_; rintro e w2 ⟨rfl, hf2⟩; rw [HRO.out]; have f2 := f1.then_ hf2
      try go_wp2_with fail
      refine hK.out _ _ (five _ f2) (fun hHeld => ?_)
      clear hK K
      refine tk 9 25 ?_
      refine tk 10 26 ?_
      refine tk 11 27 ?_
      refine tkU 12 28 ?_
      refine tkU 13 29 ?_
      refine tkU 14 30 ?_
      refine tkU 15 31 ?_
      refine tkU 16 32 ?_
      refine tkU 17 33 ?_
      refine tkU 18 34 ?_
      refine tkU 19 35 ?_
      refine tkU 20 36 ?_
      refine tkU 21 37 ?_
      refine tkU 22 38 ?_
      refine tkU 23 39 ?_
      refine tkU 24 40 ?_
      refine tkU 25 41 ?_
      refine tkU 26 42 ?_
      refine tk 27 43 ?_
      refine wpAnyH_done (by kernel_rfl) ?_ _
      refine NoPanic.normal ?_
      all_goals go_wp2_with fail
      all_goals go_meet
      all_goals exact ⟨by rw [HEO.out]; rfl, f2⟩
     | true =>
      have HRO := Lib.hid hro
      cases k with
      | zero =>
       have eo : okAt readOk l 0 = true := by unfold okAt; rw [HX.out]; simp [hro, c16]
       have HEO := Lib.hid eo
       have five : ∀ w', Fr (fun _ => False) wa w' → w'.cell? ⟨gx, 0, none⟩ = some (.string x.1) ∧ w'.cell? ⟨gx, 1, none⟩ = some (.int .i64 x.2) := fun w' h => ⟨(hb0.fr h id).cell 0, (hb0.fr h id).cell 1⟩
       clear eo hlt hro
       refine wp_region_noPanic ?_
       refine wp_region_held_drew (S := (fun w' => w'.cell? ⟨gx, 0, none⟩ = some (.string x.1) ∧ w'.cell? ⟨gx, 1, none⟩ = some (.int .i64 x.2))) (by kernel_rfl) (five _ f0) (fun hHeld => ?_)
       refine tk 0 16 ?_
       refine tk 1 17 ?_
       refine rd 2 (fun K hK => ?_)
       go_simp
       go_at_call 166
       refine (txn_read _ _ _).mono ?_; rintro e w1 ⟨rfl, hf1⟩; have f1 := f0.then_ hf1
       try go_wp2_with fail
       refine hK.out _ _ (five _ f1) (fun hHeld => ?_)
       clear hK K
       refine tk 3 19 ?_
       refine tk 4 20 ?_
       refine tk 5 21 ?_
       refine tk 6 22 ?_
       refine tk 7 23 ?_
       refine rd 8 (fun K hK => ?_)
       go_simp
       go_at_call 167
       refine (txn_right1 _ x).mono ?_; rintro e w2 ⟨rfl, hf2⟩; rw [HRO.out]; have f2 := f1.then_ hf2
       try go_wp2_with fail
       refine hK.out _ _ (five _ f2) (fun hHeld => ?_)
       clear hK K
       refine tk 9 25 ?_
       refine tk 10 26 ?_
       refine tk 11 27 ?_
       refine tk 12 28 ?_
       refine tk 13 29 ?_
       refine tk 14 30 ?_
       refine tkU 15 31 ?_
       refine tkU 16 32 ?_
       refine tkU 17 33 ?_
       refine tkU 18 34 ?_
       refine tkU 19 35 ?_
       refine tkU 20 36 ?_
       refine tkU 21 37 ?_
       refine tkU 22 38 ?_
       refine tkU 23 39 ?_
       refine tkU 24 40 ?_
       refine tkU 25 41 ?_
       refine tk 26 42 ?_
       refine tk 27 43 ?_
       refine wpAnyH_done (by kernel_rfl) ?_ _
       refine NoPanic.normal ?_
       all_goals go_wp2_with fail
       all_goals go_meet
       all_goals exact ⟨by rw [HEO.out]; rfl, f2⟩
      | succ j =>
       obtain ⟨y, hy⟩ : ∃ y, l[j]? = some y := ⟨l[j]'(by omega), List.getElem?_eq_getElem (by omega)⟩
       obtain ⟨b', o', e1, _, g0, g1⟩ := HR.out j y hy
       cases e1
       have eo : okAt readOk l (j + 1) = strLess y.1 x.1 := by unfold okAt; rw [HX.out]; dsimp only; rw [hy]; simp [hro, c16]
       have hfr : Fr (fun _ => False) w wa := hf.then_ hfa
       have G0 := Lib.hid g0
       have G1 := Lib.hid g1
       have five : ∀ w', Fr (fun _ => False) wa w' → w'.cell? ⟨gx, 0, none⟩ = some (.string x.1) ∧ w'.cell? ⟨gx, 1, none⟩ = some (.int .i64 x.2) ∧ w'.cell? ⟨b, o + j * 2, none⟩ = some (.string y.1) ∧ w'.cell? ⟨b, o + j * 2 + 1, none⟩ = some (.int .i64 y.2) := fun w' h => ⟨(hb0.fr h id).cell 0, (hb0.fr h id).cell 1, (hfr.then_ h).cell_some G0.out id, (hfr.then_ h).cell_some G1.out id⟩
       have qk : decide ((0 : Int) < ((j + 1 : Nat) : Int)) = true := decide_eq_true (by omega)
       have qj : ((j + 1 : Nat) : Int) - 1 = (j : Int) := by omega
       have qj0 : (0 : Int) ≤ (j : Int) := by omega
       have qjw : IntKind.i64.wrap (j : Int) = (j : Int) := wrap_i64 j (by omega)
       have qj1 : (j : Int) < (l.length : Int) := by omega
       cases hsl : Op.bytesLess y.1.toList x.1.toList with
       | false =>
        have HEO := Lib.hid (eo.trans hsl)
        clear eo hro g0 g1 hy
        refine wp_region_noPanic ?_
        refine wp_region_held_drew (S := (fun w' => w'.cell? ⟨gx, 0, none⟩ = some (.string x.1) ∧ w'.cell? ⟨gx, 1, none⟩ = some (.int .i64 x.2) ∧ w'.cell? ⟨b, o + j * 2, none⟩ = some (.string y.1) ∧ w'.cell? ⟨b, o + j * 2 + 1, none⟩ = some (.int .i64 y.2))) (by kernel_rfl) (five _ f0) (fun hHeld => ?_)
        refine tk 0 16 ?_
        refine tk 1 17 ?_
        refine rd 2 (fun K hK => ?_)
        go_simp
        go_at_call 166
        refine (txn_read _ _ _).mono ?_; rintro e w1 ⟨rfl, hf1⟩; have f1 := f0.then_ hf1
        try go_wp2_with fail
        refine hK.out _ _ (five _ f1) (fun hHeld => ?_)
        clear hK K
        refine tk 3 19 ?_
        refine tk 4 20 ?_
        refine tk 5 21 ?_
        refine tk 6 22 ?_
        refine tk 7 23 ?_
        refine rd 8 (fun K hK => ?_)
        go_simp
        go_at_call 167
        refine (txn_right1 _ x).mono ?_; rintro e w2 ⟨rfl, hf2⟩; rw [HRO.out]; have f2 := f1.then_ hf2
        try go_wp2_with fail
        refine hK.out _ _ (five _ f2) (fun hHeld => ?_)
        clear hK K
        refine tk 9 25 ?_
        refine tk 10 26 ?_
        refine tk 11 27 ?_
        refine tk 12 28 ?_
        refine tk 13 29 ?_
        refine tk 14 30 ?_
        refine tk 15 31 ?_
        refine tk 16 32 ?_
        refine tk 17 33 ?_
        refine tk 18 34 ?_
        refine tk 19 35 ?_
        refine tk 20 36 ?_
        refine tk 22 38 ?_
        refine tk 23 39 ?_
        refine rd 21 (fun K hK => ?_)
        go_simp
        go_at_call 166
        refine (txn_read _ _ _).mono ?_; rintro e w3 ⟨rfl, hf3⟩; have f3 := f2.then_ hf3
        try go_wp2_with fail
        refine hK.out _ _ (five _ f3) (fun hHeld => ?_)
        clear hK K
        refine rd 24 (fun K hK => ?_)
        go_simp
        go_at_call 166
        refine (txn_read _ _ _).mono ?_; rintro e w4 ⟨rfl, hf4⟩; have f4 := f3.then_ hf4
        try go_wp2_with fail
        refine hK.out _ _ (five _ f4) (fun hHeld => ?_)
        clear hK K
        refine tk 25 41 ?_
        refine tk 26 42 ?_
        refine tk 27 43 ?_
        refine wpAnyH_done (by kernel_rfl) ?_ _
        refine NoPanic.normal ?_
        all_goals go_wp2_with fail
        all_goals go_meet
        all_goals exact ⟨by rw [HEO.out]; rfl, f4⟩
       | true =>
        have HEO := Lib.hid (eo.trans hsl)
        clear eo hro g0 g1 hy
        refine wp_region_noPanic ?_
        refine wp_region_held_drew (S := (fun w' => w'.cell? ⟨gx, 0, none⟩ = some (.string x.1) ∧ w'.cell? ⟨gx, 1, none⟩ = some (.int .i64 x.2) ∧ w'.cell? ⟨b, o + j * 2, none⟩ = some (.string y.1) ∧ w'.cell? ⟨b, o + j * 2 + 1, none⟩ = some (.int .i64 y.2))) (by kernel_rfl) (five _ f0) (fun hHeld => ?_)
        refine tk 0 16 ?_
        refine tk 1 17 ?_
        refine rd 2 (fun K hK => ?_)
        go_simp
        go_at_call 166
        refine (txn_read _ _ _).mono ?_; rintro e w1 ⟨rfl, hf1⟩; have f1 := f0.then_ hf1
        try go_wp2_with fail
        refine hK.out _ _ (five _ f1) (fun hHeld => ?_)
        clear hK K
        refine tk 3 19 ?_
        refine tk 4 20 ?_
        refine tk 5 21 ?_
        refine tk 6 22 ?_
        refine tk 7 23 ?_
        refine rd 8 (fun K hK => ?_)
        go_simp
        go_at_call 167
        refine (txn_right1 _ x).mono ?_; rintro e w2 ⟨rfl, hf2⟩; rw [HRO.out]; have f2 := f1.then_ hf2
        try go_wp2_with fail
        refine hK.out _ _ (five _ f2) (fun hHeld => ?_)
        clear hK K
        refine tk 9 25 ?_
        refine tk 10 26 ?_
        refine tk 11 27 ?_
        refine tk 12 28 ?_
        refine tk 13 29 ?_
        refine tk 14 30 ?_
        refine tk 15 31 ?_
        refine tk 16 32 ?_
        refine tk 17 33 ?_
        refine tk 18 34 ?_
        refine tk 19 35 ?_
        refine tk 20 36 ?_
        refine tk 22 38 ?_
        refine tk 23 39 ?_
        refine rd 21 (fun K hK => ?_)
        go_simp
        go_at_call 166
        refine (txn_read _ _ _).mono ?_; rintro e w3 ⟨rfl, hf3⟩; have f3 := f2.then_ hf3
        try go_wp2_with fail
        refine hK.out _ _ (five _ f3) (fun hHeld => ?_)
        clear hK K
        refine rd 24 (fun K hK => ?_)
        go_simp
        go_at_call 166
        refine (txn_read _ _ _).mono ?_; rintro e w4 ⟨rfl, hf4⟩; have f4 := f3.then_ hf4
        try go_wp2_with fail
        refine hK.out _ _ (five _ f4) (fun hHeld => ?_)
        clear hK K
        refine tk 25 41 ?_
        refine tk 26 42 ?_
        refine tk 27 43 ?_
        refine wpAnyH_done (by kernel_rfl) ?_ _
        refine NoPanic.normal ?_
        all_goals go_wp2_with fail
        all_goals go_meet
        all_goals exact ⟨by rw [HEO.out]; rfl, f4⟩
   case rest =>
    obtain ⟨rfl, hfc⟩ := hcut
    have hfw := hf.then_ (hfa.then_ hfc)
    cases hoa : okAt readOk l k with
    | true =>
     have HOA := Lib.hid hoa
     clear hoa
     go_wp2_with fail
     go_roundw
     case rel => exact ⟨k + 1, by omega, by go_num, okTo_succ _ hok.out HOA.out, hfw⟩
     case measure => simp [intOf]; omega
    | false =>
     have hno := rises_no _ hlt hoa
     clear hoa
     go_wp2_with fail
     go_ret
     exact ⟨by rw [hno]; rfl, hfw⟩
  ·obtain rfl : k = l.length := by omega
   have hri : rises readOk l = decide ((l.length : Int) ≤ 8) := by unfold rises; rw [hok.out]; rfl
   have HRI := Lib.hid hri
   clear hri h
   go_wp2_with fail
   go_ret
   exact ⟨by rw [HRI.out]; rfl, hf⟩
theorem txn_rises_write {w : World} {F : Nat → Prop} {A : Option Addr} {l : List (ByteArray × ByteArray)} {cap : Nat} (h : WriteRow w F A l) (hll : l.length ≤ 1000000) :
  Calls Tryz.prog 168 #[.slice A l.length cap, .func (.func 169) #[] #[], .func (.func 170) #[] #[]] w (OkB w (rises writeOk l)) := by
 go_enter Tryz.func168, Tryz.ntmps168
 go_wp2_with fail
 go_loopw [11] (fun ix wr => ∃ k : Nat, k ≤ l.length ∧ ix = .int .i64 k ∧ Hid (okTo writeOk l k = true) ∧ Fr (fun _ => False) w wr) (fun ix _ => l.length - (intOf ix).toNat)
 case atStart => exact ⟨0, by omega, rfl, rfl, Fr.refl _ _⟩
 case round =>
  obtain ⟨k, hk, rfl, hok, hf⟩ := hrel
  by_cases hlt : k < l.length
  ·obtain ⟨x, hx⟩ : ∃ x, l[k]? = some x := ⟨l[k], List.getElem?_eq_getElem hlt⟩
   obtain ⟨b, o, rfl, hFb, hc0, hc1⟩ := h k x hx
   have d0 := hf.cell_some hc0 id
   have d1 := hf.cell_some hc1 id
   have HX := Lib.hid hx
   have HR := Lib.hid h
   clear hx h hc0 hc1
   go_upto_region 4 with fail
   generalize hgx : wr.heap.size = gx
   have hb0 : Blk (wr.alloc (Obj.cells #[.string x.1, .string x.2] 84)) gx 84 #[.string x.1, .string x.2] := Blk.new_ _ _ _ hgx.symm
   have hfa : Fr (fun _ => False) wr (wr.alloc (Obj.cells #[.string x.1, .string x.2] 84)) := (Fr.refl _ _).alloc _
   generalize wr.alloc (Obj.cells #[.string x.1, .string x.2] 84) = wa at hb0 hfa ⊢
   have HGX := Lib.hid hgx
   clear d0 d1 hgx
   go_cut [43] from 16 to 43 (fun c wx => c = .bool (!(okAt writeOk l k)) ∧ Fr (fun _ => False) wa wx)
   case first =>
    have f0 : Fr (fun _ => False) wa wa.drew := (Fr.refl _ _).drew
    by_cases c16 : (16 : Int) < x.1.size
    ·have eo : okAt writeOk l k = false := by unfold okAt; rw [HX.out]; simp [c16]
     have HEO := Lib.hid eo
     have q16 : decide ((16 : Int) < x.1.size) = true := decide_eq_true c16
     have five : ∀ w', Fr (fun _ => False) wa w' → w'.cell? ⟨gx, 0, none⟩ = some (.string x.1) ∧ w'.cell? ⟨gx, 1, none⟩ = some (.string x.2) := fun w' h => ⟨(hb0.fr h id).cell 0, (hb0.fr h id).cell 1⟩
     clear eo hlt
     refine wp_region_noPanic ?_
     refine wp_region_held_drew (S := (fun w' => w'.cell? ⟨gx, 0, none⟩ = some (.string x.1) ∧ w'.cell? ⟨gx, 1, none⟩ = some (.string x.2))) (by kernel_rfl) (five _ f0) (fun hHeld => ?_)
     refine tk 0 16 ?_
     refine tk 1 17 ?_
     refine rd 2 (fun K hK => ?_)
     go_simp
     go_at_call 169
     refine (txn_written _ _ _).mono ?_; rintro e w1 ⟨rfl, hf1⟩; have f1 := f0.then_ hf1
     try go_wp2_with fail
     refine hK.out _ _ (five _ f1) (fun hHeld => ?_)
     clear hK K
     refine tk 3 19 ?_
     refine tk 4 20 ?_
     refine tk 5 21 ?_
     refine tkU 6 22 ?_
     refine tkU 7 23 ?_
     refine tkU 8 24 ?_
     refine tkU 9 25 ?_
     refine tk 10 26 ?_
     refine tk 11 27 ?_
     refine tkU 12 28 ?_
     refine tkU 13 29 ?_
     refine tkU 14 30 ?_
     refine tkU 15 31 ?_
     refine tkU 16 32 ?_
     refine tkU 17 33 ?_
     refine tkU 18 34 ?_
     refine tkU 19 35 ?_
     refine tkU 20 36 ?_
     refine tkU 21 37 ?_
     refine tkU 22 38 ?_
     refine tkU 23 39 ?_
     refine tkU 24 40 ?_
     refine tkU 25 41 ?_
     refine tkU 26 42 ?_
     refine tk 27 43 ?_
     refine wpAnyH_done (by kernel_rfl) ?_ _
     refine NoPanic.normal ?_
     all_goals go_wp2_with fail
     all_goals go_meet
     all_goals exact ⟨by rw [HEO.out]; rfl, f1⟩
    ·have q16 : decide ((16 : Int) < x.1.size) = false := decide_eq_false c16
     cases hro : writeOk x with
     | false =>
      have eo : okAt writeOk l k = false := by unfold okAt; rw [HX.out]; simp [hro]
      have HEO := Lib.hid eo
      have five : ∀ w', Fr (fun _ => False) wa w' → w'.cell? ⟨gx, 0, none⟩ = some (.string x.1) ∧ w'.cell? ⟨gx, 1, none⟩ = some (.string x.2) := fun w' h => ⟨(hb0.fr h id).cell 0, (hb0.fr h id).cell 1⟩
      have HRO := Lib.hid hro
      clear eo hlt hro
      refine wp_region_noPanic ?_
      refine wp_region_held_drew (S := (fun w' => w'.cell? ⟨gx, 0, none⟩ = some (.string x.1) ∧ w'.cell? ⟨gx, 1, none⟩ = some (.string x.2))) (by kernel_rfl) (five _ f0) (fun hHeld => ?_)
      refine tk 0 16 ?_
      refine tk 1 17 ?_
      refine rd 2 (fun K hK => ?_)
      go_simp
      go_at_call 169
      refine (txn_written _ _ _).mono ?_; rintro e w1 ⟨rfl, hf1⟩; have f1 := f0.then_ hf1
      try go_wp2_with fail
      refine hK.out _ _ (five _ f1) (fun hHeld => ?_)
      clear hK K
      refine tk 3 19 ?_
      refine tk 4 20 ?_
      refine tk 5 21 ?_
      refine tk 6 22 ?_
      refine tk 7 23 ?_
      refine rd 8 (fun K hK => ?_)
      go_simp
      go_at_call 170
      refine (txn_right2 _ x).mono ?_; rintro e w2 ⟨rfl, hf2⟩; rw [HRO.out]; have f2 := f1.then_ hf2
      try go_wp2_with fail
      refine hK.out _ _ (five _ f2) (fun hHeld => ?_)
      clear hK K
      refine tk 9 25 ?_
      refine tk 10 26 ?_
      refine tk 11 27 ?_
      refine tkU 12 28 ?_
      refine tkU 13 29 ?_
      refine tkU 14 30 ?_
      refine tkU 15 31 ?_
      refine tkU 16 32 ?_
      refine tkU 17 33 ?_
      refine tkU 18 34 ?_
      refine tkU 19 35 ?_
      refine tkU 20 36 ?_
      refine tkU 21 37 ?_
      refine tkU 22 38 ?_
      refine tkU 23 39 ?_
      refine tkU 24 40 ?_
      refine tkU 25 41 ?_
      refine tkU 26 42 ?_
      refine tk 27 43 ?_
      refine wpAnyH_done (by kernel_rfl) ?_ _
      refine NoPanic.normal ?_
      all_goals go_wp2_with fail
      all_goals go_meet
      all_goals exact ⟨by rw [HEO.out]; rfl, f2⟩
     | true =>
      have HRO := Lib.hid hro
      cases k with
      | zero =>
       have eo : okAt writeOk l 0 = true := by unfold okAt; rw [HX.out]; simp [hro, c16]
       have HEO := Lib.hid eo
       have five : ∀ w', Fr (fun _ => False) wa w' → w'.cell? ⟨gx, 0, none⟩ = some (.string x.1) ∧ w'.cell? ⟨gx, 1, none⟩ = some (.string x.2) := fun w' h => ⟨(hb0.fr h id).cell 0, (hb0.fr h id).cell 1⟩
       clear eo hlt hro
       refine wp_region_noPanic ?_
       refine wp_region_held_drew (S := (fun w' => w'.cell? ⟨gx, 0, none⟩ = some (.string x.1) ∧ w'.cell? ⟨gx, 1, none⟩ = some (.string x.2))) (by kernel_rfl) (five _ f0) (fun hHeld => ?_)
       refine tk 0 16 ?_
       refine tk 1 17 ?_
       refine rd 2 (fun K hK => ?_)
       go_simp
       go_at_call 169
       refine (txn_written _ _ _).mono ?_; rintro e w1 ⟨rfl, hf1⟩; have f1 := f0.then_ hf1
       try go_wp2_with fail
       refine hK.out _ _ (five _ f1) (fun hHeld => ?_)
       clear hK K
       refine tk 3 19 ?_
       refine tk 4 20 ?_
       refine tk 5 21 ?_
       refine tk 6 22 ?_
       refine tk 7 23 ?_
       refine rd 8 (fun K hK => ?_)
       go_simp
       go_at_call 170
       refine (txn_right2 _ x).mono ?_; rintro e w2 ⟨rfl, hf2⟩; rw [HRO.out]; have f2 := f1.then_ hf2
       try go_wp2_with fail
       refine hK.out _ _ (five _ f2) (fun hHeld => ?_)
       clear hK K
       refine tk 9 25 ?_
       refine tk 10 26 ?_
       refine tk 11 27 ?_
       refine tk 12 28 ?_
       refine tk 13 29 ?_
       refine tk 14 30 ?_
       refine tkU 15 31 ?_
       refine tkU 16 32 ?_
       refine tkU 17 33 ?_
       refine tkU 18 34 ?_
       refine tkU 19 35 ?_
       refine tkU 20 36 ?_
       refine tkU 21 37 ?_
       refine tkU 22 38 ?_
       refine tkU 23 39 ?_
       refine tkU 24 40 ?_
       refine tkU 25 41 ?_
       refine tk 26 42 ?_
       refine tk 27 43 ?_
       refine wpAnyH_done (by kernel_rfl) ?_ _
       refine NoPanic.normal ?_
       all_goals go_wp2_with fail
       all_goals go_meet
       all_goals exact ⟨by rw [HEO.out]; rfl, f2⟩
      | succ j =>
       obtain ⟨y, hy⟩ : ∃ y, l[j]? = some y := ⟨l[j]'(by omega), List.getElem?_eq_getElem (by omega)⟩
       obtain ⟨b', o', e1, _, g0, g1⟩ := HR.out j y hy
       cases e1
       have eo : okAt writeOk l (j + 1) = strLess y.1 x.1 := by unfold okAt; rw [HX.out]; dsimp only; rw [hy]; simp [hro, c16]
       have hfr : Fr (fun _ => False) w wa := hf.then_ hfa
       have G0 := Lib.hid g0
       have G1 := Lib.hid g1
       have five : ∀ w', Fr (fun _ => False) wa w' → w'.cell? ⟨gx, 0, none⟩ = some (.string x.1) ∧ w'.cell? ⟨gx, 1, none⟩ = some (.string x.2) ∧ w'.cell? ⟨b, o + j * 2, none⟩ = some (.string y.1) ∧ w'.cell? ⟨b, o + j * 2 + 1, none⟩ = some (.string y.2) := fun w' h => ⟨(hb0.fr h id).cell 0, (hb0.fr h id).cell 1, (hfr.then_ h).cell_some G0.out id, (hfr.then_ h).cell_some G1.out id⟩
       have qk : decide ((0 : Int) < ((j + 1 : Nat) : Int)) = true := decide_eq_true (by omega)
       have qj : ((j + 1 : Nat) : Int) - 1 = (j : Int) := by omega
       have qj0 : (0 : Int) ≤ (j : Int) := by omega
       have qjw : IntKind.i64.wrap (j : Int) = (j : Int) := wrap_i64 j (by omega)
       have qj1 : (j : Int) < (l.length : Int) := by omega
       cases hsl : Op.bytesLess y.1.toList x.1.toList with
       | false =>
        have HEO := Lib.hid (eo.trans hsl)
        clear eo hro g0 g1 hy
        refine wp_region_noPanic ?_
        refine wp_region_held_drew (S := (fun w' => w'.cell? ⟨gx, 0, none⟩ = some (.string x.1) ∧ w'.cell? ⟨gx, 1, none⟩ = some (.string x.2) ∧ w'.cell? ⟨b, o + j * 2, none⟩ = some (.string y.1) ∧ w'.cell? ⟨b, o + j * 2 + 1, none⟩ = some (.string y.2))) (by kernel_rfl) (five _ f0) (fun hHeld => ?_)
        refine tk 0 16 ?_
        refine tk 1 17 ?_
        refine rd 2 (fun K hK => ?_)
        go_simp
        go_at_call 169
        refine (txn_written _ _ _).mono ?_; rintro e w1 ⟨rfl, hf1⟩; have f1 := f0.then_ hf1
        try go_wp2_with fail
        refine hK.out _ _ (five _ f1) (fun hHeld => ?_)
        clear hK K
        refine tk 3 19 ?_
        refine tk 4 20 ?_
        refine tk 5 21 ?_
        refine tk 6 22 ?_
        refine tk 7 23 ?_
        refine rd 8 (fun K hK => ?_)
        go_simp
        go_at_call 170
        refine (txn_right2 _ x).mono ?_; rintro e w2 ⟨rfl, hf2⟩; rw [HRO.out]; have f2 := f1.then_ hf2
        try go_wp2_with fail
        refine hK.out _ _ (five _ f2) (fun hHeld => ?_)
        clear hK K
        refine tk 9 25 ?_
        refine tk 10 26 ?_
        refine tk 11 27 ?_
        refine tk 12 28 ?_
        refine tk 13 29 ?_
        refine tk 14 30 ?_
        refine tk 15 31 ?_
        refine tk 16 32 ?_
        refine tk 17 33 ?_
        refine tk 18 34 ?_
        refine tk 19 35 ?_
        refine tk 20 36 ?_
        refine tk 22 38 ?_
        refine tk 23 39 ?_
        refine rd 21 (fun K hK => ?_)
        go_simp
        go_at_call 169
        refine (txn_written _ _ _).mono ?_; rintro e w3 ⟨rfl, hf3⟩; have f3 := f2.then_ hf3
        try go_wp2_with fail
        refine hK.out _ _ (five _ f3) (fun hHeld => ?_)
        clear hK K
        refine rd 24 (fun K hK => ?_)
        go_simp
        go_at_call 169
        refine (txn_written _ _ _).mono ?_; rintro e w4 ⟨rfl, hf4⟩; have f4 := f3.then_ hf4
        try go_wp2_with fail
        refine hK.out _ _ (five _ f4) (fun hHeld => ?_)
        clear hK K
        refine tk 25 41 ?_
        refine tk 26 42 ?_
        refine tk 27 43 ?_
        refine wpAnyH_done (by kernel_rfl) ?_ _
        refine NoPanic.normal ?_
        all_goals go_wp2_with fail
        all_goals go_meet
        all_goals exact ⟨by rw [HEO.out]; rfl, f4⟩
       | true =>
        have HEO := Lib.hid (eo.trans hsl)
        clear eo hro g0 g1 hy
        refine wp_region_noPanic ?_
        refine wp_region_held_drew (S := (fun w' => w'.cell? ⟨gx, 0, none⟩ = some (.string x.1) ∧ w'.cell? ⟨gx, 1, none⟩ = some (.string x.2) ∧ w'.cell? ⟨b, o + j * 2, none⟩ = some (.string y.1) ∧ w'.cell? ⟨b, o + j * 2 + 1, none⟩ = some (.string y.2))) (by kernel_rfl) (five _ f0) (fun hHeld => ?_)
        refine tk 0 16 ?_
        refine tk 1 17 ?_
        refine rd 2 (fun K hK => ?_)
        go_simp
        go_at_call 169
        refine (txn_written _ _ _).mono ?_; rintro e w1 ⟨rfl, hf1⟩; have f1 := f0.then_ hf1
        try go_wp2_with fail
        refine hK.out _ _ (five _ f1) (fun hHeld => ?_)
        clear hK K
        refine tk 3 19 ?_
        refine tk 4 20 ?_
        refine tk 5 21 ?_
        refine tk 6 22 ?_
        refine tk 7 23 ?_
        refine rd 8 (fun K hK => ?_)
        go_simp
        go_at_call 170
        refine (txn_right2 _ x).mono ?_; rintro e w2 ⟨rfl, hf2⟩; rw [HRO.out]; have f2 := f1.then_ hf2
        try go_wp2_with fail
        refine hK.out _ _ (five _ f2) (fun hHeld => ?_)
        clear hK K
        refine tk 9 25 ?_
        refine tk 10 26 ?_
        refine tk 11 27 ?_
        refine tk 12 28 ?_
        refine tk 13 29 ?_
        refine tk 14 30 ?_
        refine tk 15 31 ?_
        refine tk 16 32 ?_
        refine tk 17 33 ?_
        refine tk 18 34 ?_
        refine tk 19 35 ?_
        refine tk 20 36 ?_
        refine tk 22 38 ?_
        refine tk 23 39 ?_
        refine rd 21 (fun K hK => ?_)
        go_simp
        go_at_call 169
        refine (txn_written _ _ _).mono ?_; rintro e w3 ⟨rfl, hf3⟩; have f3 := f2.then_ hf3
        try go_wp2_with fail
        refine hK.out _ _ (five _ f3) (fun hHeld => ?_)
        clear hK K
        refine rd 24 (fun K hK => ?_)
        go_simp
        go_at_call 169
        refine (txn_written _ _ _).mono ?_; rintro e w4 ⟨rfl, hf4⟩; have f4 := f3.then_ hf4
        try go_wp2_with fail
        refine hK.out _ _ (five _ f4) (fun hHeld => ?_)
        clear hK K
        refine tk 25 41 ?_
        refine tk 26 42 ?_
        refine tk 27 43 ?_
        refine wpAnyH_done (by kernel_rfl) ?_ _
        refine NoPanic.normal ?_
        all_goals go_wp2_with fail
        all_goals go_meet
        all_goals exact ⟨by rw [HEO.out]; rfl, f4⟩
   case rest =>
    obtain ⟨rfl, hfc⟩ := hcut
    have hfw := hf.then_ (hfa.then_ hfc)
    cases hoa : okAt writeOk l k with
    | true =>
     have HOA := Lib.hid hoa
     clear hoa
     go_wp2_with fail
     go_roundw
     case rel => exact ⟨k + 1, by omega, by go_num, okTo_succ _ hok.out HOA.out, hfw⟩
     case measure => simp [intOf]; omega
    | false =>
     have hno := rises_no _ hlt hoa
     clear hoa
     go_wp2_with fail
     go_ret
     exact ⟨by rw [hno]; rfl, hfw⟩
  ·obtain rfl : k = l.length := by omega
   have hri : rises writeOk l = decide ((l.length : Int) ≤ 8) := by unfold rises; rw [hok.out]; rfl
   have HRI := Lib.hid hri
   clear hri h
   go_wp2_with fail
   go_ret
   exact ⟨by rw [HRI.out]; rfl, hf⟩
def TOk (c n : Int) (R : List (ByteArray × Int)) (W : List (ByteArray × ByteArray)) : Prop :=
 0 ≤ c ∧ c < 16 ∧ 1 ≤ n ∧ n ≤ 1099511627776 ∧ (0 : Int) < (R.length : Int) + W.length ∧ rises readOk R = true ∧ rises writeOk W = true
instance (c n : Int) (R : List (ByteArray × Int)) (W : List (ByteArray × ByteArray)) : Decidable (TOk c n R W) := by unfold TOk; infer_instance
section
variable {α : Type} {ok : ByteArray × α → Bool}
theorem rises_len {l : List (ByteArray × α)} (h : rises ok l = true) : l.length ≤ 8 := by
 unfold rises at h
 rw [Bool.and_eq_true, decide_eq_true_eq] at h
 omega
theorem rises_at {l : List (ByteArray × α)} (h : rises ok l = true) : ∀ x ∈ l, x.1.size ≤ 16 ∧ ok x = true := by
 intro x hx
 obtain ⟨k, hk⟩ := List.getElem?_of_mem hx
 have hlt : k < l.length := (List.getElem?_eq_some_iff.1 hk).1
 unfold rises okTo at h
 rw [Bool.and_eq_true, List.all_eq_true] at h
 have h1 := h.1 k (List.mem_range.2 hlt)
 unfold okAt at h1
 rw [hk] at h1
 simp only [Bool.and_eq_true, Bool.not_eq_true', decide_eq_false_iff_not] at h1
 exact ⟨by omega, h1.1.2⟩
end
theorem read_sizes {R : List (ByteArray × Int)} (h : rises readOk R = true) : ∀ x ∈ R, x.1.size ≤ 16 := fun x hx => (rises_at h x hx).1
theorem write_sizes {W : List (ByteArray × ByteArray)} (h : rises writeOk W = true) : ∀ x ∈ W, x.1.size ≤ 16 ∧ x.2.size ≤ 64 := fun x hx => by
 obtain ⟨h1, h2⟩ := rises_at h x hx
 unfold writeOk at h2
 rw [decide_eq_true_eq] at h2
 exact ⟨h1, by omega⟩
theorem txn_right_ok {w : World} {F : Nat → Prop} {A B : Option Addr} {cr cw : Nat} {c n : Int} {R : List (ByteArray × Int)} {W : List (ByteArray × ByteArray)} (hr : ReadRow w F A R) (hw : WriteRow w F B W) (h : TOk c n R W) :
  Calls Tryz.prog 138 #[.agg #[.int .i64 c, .int .i64 n, .slice A R.length cr, .slice B W.length cw]] w (OkB w true) := by
 obtain ⟨h0, h1, h2, h3, h4, h5, h6⟩ := h
 have hf0 : Fr (fun _ => False) w (w.alloc (Obj.cells #[.int .i64 c, .int .i64 n, .slice A R.length cr, .slice B W.length cw] 29)) := (Fr.refl _ _).alloc _
 have hl1 := rises_len h5
 have hl2 := rises_len h6
 have hsum : IntKind.i64.wrap ((R.length : Int) + (W.length : Int)) = (R.length : Int) + (W.length : Int) := by
  have := wrap_i64 (R.length + W.length) (by omega)
  rw [Int.natCast_add] at this
  exact this
 have HR := Lib.hid (txn_rises_read (cap := cr) (hr.fr hf0 (fun _ _ => id)) (by omega))
 have hB0 := Blk.new w 29 #[.int .i64 c, .int .i64 n, .slice A R.length cr, .slice B W.length cw]
 have HW : Hid (∀ w', Fr (fun _ => False) w w' → Calls Tryz.prog 168 #[.slice B W.length cw, .func (.func 169) #[] #[], .func (.func 170) #[] #[]] w' (OkB w' true)) := fun w' hf => by
  have := txn_rises_write (cap := cw) (hw.fr hf (fun _ _ => id)) (by omega)
  rw [h6] at this
  exact this
 rw [h5] at HR
 clear hr hw h5 h6 hl1 hl2
 go_enter Tryz.func138, Tryz.ntmps138
 go_wp2_with (first | (go_at_call 165; refine HR.out.mono ?_; rintro e w1 ⟨rfl, hf1⟩; have hf01 := hf0.then_ hf1; have hc3 := (hB0.fr hf1 id).cell 3) | (go_at_call 168; refine (HW.out _ hf01).mono ?_; rintro e w2 ⟨rfl, hf2⟩))
 go_ret
 exact ⟨rfl, hf01.then_ hf2⟩
theorem txn_wrap_nil (w : World) : Calls Tryz.prog 109 #[.nilIface] w fun e w' => e = .returned .nilIface ∧ w = w' := by
 go_enter Tryz.func109, Tryz.ntmps109
 go_wp2_with (go_at_call 70; refine (fault_Wrap_nil _ _ _).mono ?_; rintro e w' ⟨rfl, rfl⟩)
 go_ret
 exact ⟨rfl, rfl⟩
theorem txn_wrap_err (l : List (ByteArray × Int)) (k : Int) (w : World) : Calls Tryz.prog 109 #[errV l k] w fun e w' => e = .returned (errV (((⟨#[116, 120, 110]⟩ : ByteArray), 0) :: l) k) ∧ w = w' := by
 obtain ⟨t, u, hu⟩ := errV_iface l k
 have HW := Lib.hid (fun w => fault_Wrap l k (⟨#[116, 120, 110]⟩ : ByteArray) 0 w)
 obtain ⟨t2, u2, hu2⟩ := errV_iface (((⟨#[116, 120, 110]⟩ : ByteArray), 0) :: l) k
 rw [hu, hu2] at HW
 rw [hu, hu2]
 clear hu hu2
 go_enter Tryz.func109, Tryz.ntmps109
 go_wp2_with (go_at_call 70; refine (HW.out _).mono ?_; rintro e w' ⟨rfl, rfl⟩)
 go_ret
 exact ⟨rfl, rfl⟩
def NilOk (w : World) (e : Ending) (w' : World) : Prop := e = .returned .nilIface ∧ Fr (fun _ => False) w w'
theorem txn_Check_ok {w : World} {F : Nat → Prop} {A B : Option Addr} {cr cw : Nat} {c n : Int} {R : List (ByteArray × Int)} {W : List (ByteArray × ByteArray)} (hr : ReadRow w F A R) (hw : WriteRow w F B W) (h : TOk c n R W) :
  Calls Tryz.prog 111 #[.agg #[.int .i64 c, .int .i64 n, .slice A R.length cr, .slice B W.length cw]] w (NilOk w) := by
 have hf0 : Fr (fun _ => False) w (w.alloc (Obj.cells #[.int .i64 c, .int .i64 n, .slice A R.length cr, .slice B W.length cw] 29)) := (Fr.refl _ _).alloc _
 have HR := Lib.hid (txn_right_ok (cr := cr) (cw := cw) (hr.fr hf0 (fun _ _ => id)) (hw.fr hf0 (fun _ _ => id)) h)
 clear hr hw h
 go_enter Tryz.func111, Tryz.ntmps111
 go_wp2_with (go_at_call 138; refine HR.out.mono ?_; rintro e w1 ⟨rfl, hf1⟩)
 go_ret
 exact ⟨rfl, hf0.then_ hf1⟩
def TxnErr (w : World) (e : Ending) (w' : World) : Prop := e = .returned (errV [((⟨#[116, 120, 110]⟩ : ByteArray), 0)] 101) ∧ Fr (fun _ => False) w w'
structure SayD where
 kind : Int
 txn : Int
 yes : Bool
 from_ : ByteArray
 to_ : ByteArray
 epoch : Int
 shard : Int
 target : Int
 root : Int
def OkSay (s : SayD) : Prop := ¬ s.kind < 1 ∧ ¬ 9 < s.kind ∧ ¬ s.txn < 0 ∧ ¬ 2147483647 < s.txn ∧ ¬ s.root < 0 ∧ ¬ 2147483647 < s.root ∧ ¬ (16 : Int) < s.from_.size ∧ ¬ (16 : Int) < s.to_.size ∧ ¬ s.epoch < 0 ∧ ¬ 1099511627776 < s.epoch ∧ ¬ s.shard < 0 ∧ ¬ 3 < s.shard ∧ ¬ s.target < 0 ∧ ¬ 3 < s.target
instance (s : SayD) : Decidable (OkSay s) := by unfold OkSay; infer_instance
def Bool1 (w : World) (b : Bool) (e : Ending) (w' : World) : Prop := e = .returned (.bool b) ∧ Fr (fun _ => False) w w'
def TwoAt (w : World) (g : Nat) (a b : Int) : Prop := w.cell? ⟨g, 0, none⟩ = some (.int .i64 a) ∧ w.cell? ⟨g, 1, none⟩ = some (.int .i64 b)
theorem two_new (w : World) (e : TypeId) (a b : Int) {n : Nat} (hn : n = w.heap.size) : TwoAt (w.alloc (.cells #[.int .i64 a, .int .i64 b] e)) n a b :=
 ⟨(Blk.new_ w e #[.int .i64 a, .int .i64 b] hn).cell 0, (Blk.new_ w e #[.int .i64 a, .int .i64 b] hn).cell 1⟩
theorem slices_Min2 {w : World} {g : Nat} {a b : Int} (h : TwoAt w g a b) : Calls Tryz.prog 158 #[.slice (some ⟨g, 0, none⟩) 2 2] w fun e w' => e = .returned (.int .i64 (min a b)) ∧ w = w' := by
 obtain ⟨h0, h1⟩ := h
 go_enter Tryz.func158, Tryz.ntmps158
 go_wp2_with fail
 go_loopw [3, 4] (fun m i wr => ((i = .int .i64 1 ∧ m = .int .i64 a) ∨ (i = .int .i64 2 ∧ m = .int .i64 (min a b))) ∧ w = wr) (fun _ i _ => 2 - (intOf i).toNat)
 case atStart => exact ⟨.inl ⟨rfl, rfl⟩, rfl⟩
 case round =>
  obtain ⟨⟨rfl, rfl⟩ | ⟨rfl, rfl⟩, rfl⟩ := hrel
  ·by_cases hab : a ≤ b
   ·have hmin : min a b = a := by omega
    go_wp2_with fail
    go_roundw
    case rel => exact ⟨.inr ⟨rfl, by first | (rw [hmin]; done) | (rw [hmin]; congr 1; split <;> omega)⟩, by trivial⟩
    case measure => simp [intOf]
   ·have hmin : min a b = b := by omega
    go_wp2_with fail
    go_roundw
    case rel => exact ⟨.inr ⟨rfl, by first | (rw [hmin]; done) | (rw [hmin]; congr 1; split <;> omega)⟩, by trivial⟩
    case measure => simp [intOf]
  ·go_wp2
   go_ret
   exact ⟨rfl, rfl⟩
theorem slices_Max2 {w : World} {g : Nat} {a b : Int} (h : TwoAt w g a b) : Calls Tryz.prog 159 #[.slice (some ⟨g, 0, none⟩) 2 2] w fun e w' => e = .returned (.int .i64 (max a b)) ∧ w = w' := by
 obtain ⟨h0, h1⟩ := h
 go_enter Tryz.func159, Tryz.ntmps159
 go_wp2_with fail
 go_loopw [3, 4] (fun m i wr => ((i = .int .i64 1 ∧ m = .int .i64 a) ∨ (i = .int .i64 2 ∧ m = .int .i64 (max a b))) ∧ w = wr) (fun _ i _ => 2 - (intOf i).toNat)
 case atStart => exact ⟨.inl ⟨rfl, rfl⟩, rfl⟩
 case round =>
  obtain ⟨⟨rfl, rfl⟩ | ⟨rfl, rfl⟩, rfl⟩ := hrel
  ·by_cases hab : a ≤ b
   ·have hmax : max a b = b := by omega
    go_wp2_with fail
    go_roundw
    case rel => exact ⟨.inr ⟨rfl, by first | (rw [hmax]; done) | (rw [hmax]; congr 1; split <;> omega)⟩, by trivial⟩
    case measure => simp [intOf]
   ·have hmax : max a b = a := by omega
    go_wp2_with fail
    go_roundw
    case rel => exact ⟨.inr ⟨rfl, by first | (rw [hmax]; done) | (rw [hmax]; congr 1; split <;> omega)⟩, by trivial⟩
    case measure => simp [intOf]
  ·go_wp2
   go_ret
   exact ⟨rfl, rfl⟩
def In2 (top a b : Int) : Bool := decide (0 ≤ min a b) && decide (max a b ≤ top)
theorem in2_iff (top a b : Int) : In2 top a b = true ↔ ¬ a < 0 ∧ ¬ b < 0 ∧ ¬ top < a ∧ ¬ top < b := by
 unfold In2
 simp only [Bool.and_eq_true, decide_eq_true_eq]
 omega
theorem say_between {w : World} {g : Nat} {a b : Int} (top : Int) (h : TwoAt w g a b) : Calls Tryz.prog 125 #[.int .i64 top, .slice (some ⟨g, 0, none⟩) 2 2] w fun e w' => e = .returned (.bool (In2 top a b)) ∧ w = w' := by
 have HT := Lib.hid h
 clear h
 unfold In2
 obtain ⟨x, hx⟩ : ∃ x, Hid (min a b = x) := ⟨_, rfl⟩
 obtain ⟨y, hy⟩ : ∃ y, Hid (max a b = y) := ⟨_, rfl⟩
 have H1 := Lib.hid (slices_Min2 HT.out)
 have H2 := Lib.hid (slices_Max2 HT.out)
 rw [hx.out] at H1
 rw [hy.out] at H2
 rw [hx.out, hy.out]
 by_cases h0 : 0 ≤ x
 ·go_enter Tryz.func125, Tryz.ntmps125
  go_wp2_with (first | (go_at_call 158; refine H1.out.mono ?_; rintro e w' ⟨rfl, rfl⟩) | (go_at_call 159; refine H2.out.mono ?_; rintro e w' ⟨rfl, rfl⟩))
  go_ret
  exact ⟨by simp [h0], rfl⟩
 ·go_enter Tryz.func125, Tryz.ntmps125
  go_wp2_with (first | (go_at_call 158; refine H1.out.mono ?_; rintro e w' ⟨rfl, rfl⟩) | (go_at_call 159; refine H2.out.mono ?_; rintro e w' ⟨rfl, rfl⟩))
  go_ret
  exact ⟨by rw [decide_eq_false (p := 0 ≤ x) (by omega)]; rfl, rfl⟩
theorem ref11_Right1 (w : World) (kind txn : Int) (yes : Bool) (fr to2 : ByteArray) (epoch shard target root : Int) :
  Calls Tryz.prog 29 #[.agg #[.int .i64 kind, .int .i64 txn, .bool yes, .string fr, .string to2, .int .i64 epoch, .int .i64 shard, .int .i64 target, .int .i64 root]] w (Bool1 w (decide (OkSay ⟨kind, txn, yes, fr, to2, epoch, shard, target, root⟩))) := by
 by_cases b0 : kind < 1
 ·rw [decide_eq_false (show ¬ OkSay ⟨kind, txn, yes, fr, to2, epoch, shard, target, root⟩ from fun h => by unfold OkSay at h; exact absurd b0 (by first | exact h.1 | exact (by obtain ⟨a0, a1, a2, a3, a4, a5, a6, a7, a8, a9, a10, a11, a12, a13⟩ := h; exact a0)))]
  go_enter Tryz.func29, Tryz.ntmps29
  go_wp2
  go_ret
  exact ⟨by first | rfl | (simp; omega), (Fr.refl _ _).alloc _⟩
 ·
  by_cases b1 : 9 < kind
  ·rw [decide_eq_false (show ¬ OkSay ⟨kind, txn, yes, fr, to2, epoch, shard, target, root⟩ from fun h => by unfold OkSay at h; exact absurd b1 (by first | exact h.1 | exact (by obtain ⟨a0, a1, a2, a3, a4, a5, a6, a7, a8, a9, a10, a11, a12, a13⟩ := h; exact a1)))]
   go_enter Tryz.func29, Tryz.ntmps29
   go_wp2
   go_ret
   exact ⟨by first | rfl | (simp; omega), (Fr.refl _ _).alloc _⟩
  ·
   by_cases b2 : txn < 0
   ·rw [decide_eq_false (show ¬ OkSay ⟨kind, txn, yes, fr, to2, epoch, shard, target, root⟩ from fun h => by unfold OkSay at h; exact absurd b2 (by first | exact h.1 | exact (by obtain ⟨a0, a1, a2, a3, a4, a5, a6, a7, a8, a9, a10, a11, a12, a13⟩ := h; exact a2)))]
    go_enter Tryz.func29, Tryz.ntmps29
    go_wp2
    go_ret
    exact ⟨by first | rfl | (simp; omega), (Fr.refl _ _).alloc _⟩
   ·
    by_cases b3 : 2147483647 < txn
    ·rw [decide_eq_false (show ¬ OkSay ⟨kind, txn, yes, fr, to2, epoch, shard, target, root⟩ from fun h => by unfold OkSay at h; exact absurd b3 (by first | exact h.1 | exact (by obtain ⟨a0, a1, a2, a3, a4, a5, a6, a7, a8, a9, a10, a11, a12, a13⟩ := h; exact a3)))]
     go_enter Tryz.func29, Tryz.ntmps29
     go_wp2
     go_ret
     exact ⟨by first | rfl | (simp; omega), (Fr.refl _ _).alloc _⟩
    ·
     by_cases b4 : root < 0
     ·rw [decide_eq_false (show ¬ OkSay ⟨kind, txn, yes, fr, to2, epoch, shard, target, root⟩ from fun h => by unfold OkSay at h; exact absurd b4 (by first | exact h.1 | exact (by obtain ⟨a0, a1, a2, a3, a4, a5, a6, a7, a8, a9, a10, a11, a12, a13⟩ := h; exact a4)))]
      go_enter Tryz.func29, Tryz.ntmps29
      go_wp2
      go_ret
      exact ⟨by first | rfl | (simp; omega), (Fr.refl _ _).alloc _⟩
     ·
      by_cases b5 : 2147483647 < root
      ·rw [decide_eq_false (show ¬ OkSay ⟨kind, txn, yes, fr, to2, epoch, shard, target, root⟩ from fun h => by unfold OkSay at h; exact absurd b5 (by first | exact h.1 | exact (by obtain ⟨a0, a1, a2, a3, a4, a5, a6, a7, a8, a9, a10, a11, a12, a13⟩ := h; exact a5)))]
       go_enter Tryz.func29, Tryz.ntmps29
       go_wp2
       go_ret
       exact ⟨by first | rfl | (simp; omega), (Fr.refl _ _).alloc _⟩
      ·
       by_cases b6 : (16 : Int) < fr.size
       ·rw [decide_eq_false (show ¬ OkSay ⟨kind, txn, yes, fr, to2, epoch, shard, target, root⟩ from fun h => by unfold OkSay at h; exact absurd b6 (by first | exact h.1 | exact (by obtain ⟨a0, a1, a2, a3, a4, a5, a6, a7, a8, a9, a10, a11, a12, a13⟩ := h; exact a6)))]
        go_enter Tryz.func29, Tryz.ntmps29
        go_wp2
        go_ret
        exact ⟨by first | rfl | (simp; omega), (Fr.refl _ _).alloc _⟩
       ·
        by_cases b7 : (16 : Int) < to2.size
        ·rw [decide_eq_false (show ¬ OkSay ⟨kind, txn, yes, fr, to2, epoch, shard, target, root⟩ from fun h => by unfold OkSay at h; exact absurd b7 (by first | exact h.1 | exact (by obtain ⟨a0, a1, a2, a3, a4, a5, a6, a7, a8, a9, a10, a11, a12, a13⟩ := h; exact a7)))]
         go_enter Tryz.func29, Tryz.ntmps29
         go_wp2
         go_ret
         exact ⟨by first | rfl | (simp; omega), (Fr.refl _ _).alloc _⟩
        ·
         by_cases b8 : epoch < 0
         ·rw [decide_eq_false (show ¬ OkSay ⟨kind, txn, yes, fr, to2, epoch, shard, target, root⟩ from fun h => by unfold OkSay at h; exact absurd b8 (by first | exact h.1 | exact (by obtain ⟨a0, a1, a2, a3, a4, a5, a6, a7, a8, a9, a10, a11, a12, a13⟩ := h; exact a8)))]
          go_enter Tryz.func29, Tryz.ntmps29
          go_wp2
          go_ret
          exact ⟨by first | rfl | (simp; omega), (Fr.refl _ _).alloc _⟩
         ·
          by_cases b9 : 1099511627776 < epoch
          ·rw [decide_eq_false (show ¬ OkSay ⟨kind, txn, yes, fr, to2, epoch, shard, target, root⟩ from fun h => by unfold OkSay at h; exact absurd b9 (by first | exact h.1 | exact (by obtain ⟨a0, a1, a2, a3, a4, a5, a6, a7, a8, a9, a10, a11, a12, a13⟩ := h; exact a9)))]
           go_enter Tryz.func29, Tryz.ntmps29
           go_wp2
           go_ret
           exact ⟨by first | rfl | (simp; omega), (Fr.refl _ _).alloc _⟩
          ·
           by_cases b10 : shard < 0
           ·rw [decide_eq_false (show ¬ OkSay ⟨kind, txn, yes, fr, to2, epoch, shard, target, root⟩ from fun h => by unfold OkSay at h; exact absurd b10 (by first | exact h.1 | exact (by obtain ⟨a0, a1, a2, a3, a4, a5, a6, a7, a8, a9, a10, a11, a12, a13⟩ := h; exact a10)))]
            go_enter Tryz.func29, Tryz.ntmps29
            go_wp2
            go_ret
            exact ⟨by first | rfl | (simp; omega), (Fr.refl _ _).alloc _⟩
           ·
            by_cases b11 : 3 < shard
            ·rw [decide_eq_false (show ¬ OkSay ⟨kind, txn, yes, fr, to2, epoch, shard, target, root⟩ from fun h => by unfold OkSay at h; exact absurd b11 (by first | exact h.1 | exact (by obtain ⟨a0, a1, a2, a3, a4, a5, a6, a7, a8, a9, a10, a11, a12, a13⟩ := h; exact a11)))]
             go_enter Tryz.func29, Tryz.ntmps29
             go_wp2
             go_ret
             exact ⟨by first | rfl | (simp; omega), (Fr.refl _ _).alloc _⟩
            ·
             by_cases b12 : target < 0
             ·rw [decide_eq_false (show ¬ OkSay ⟨kind, txn, yes, fr, to2, epoch, shard, target, root⟩ from fun h => by unfold OkSay at h; exact absurd b12 (by first | exact h.1 | exact (by obtain ⟨a0, a1, a2, a3, a4, a5, a6, a7, a8, a9, a10, a11, a12, a13⟩ := h; exact a12)))]
              go_enter Tryz.func29, Tryz.ntmps29
              go_wp2
              go_ret
              exact ⟨by first | rfl | (simp; omega), (Fr.refl _ _).alloc _⟩
             ·
              by_cases b13 : 3 < target
              ·rw [decide_eq_false (show ¬ OkSay ⟨kind, txn, yes, fr, to2, epoch, shard, target, root⟩ from fun h => by unfold OkSay at h; exact absurd b13 (by first | exact h.1 | exact (by obtain ⟨a0, a1, a2, a3, a4, a5, a6, a7, a8, a9, a10, a11, a12, a13⟩ := h; exact a13)))]
               go_enter Tryz.func29, Tryz.ntmps29
               go_wp2
               go_ret
               exact ⟨by first | rfl | (simp; omega), (Fr.refl _ _).alloc _⟩
              ·
               rw [decide_eq_true (show OkSay ⟨kind, txn, yes, fr, to2, epoch, shard, target, root⟩ from ⟨b0, b1, b2, b3, b4, b5, b6, b7, b8, b9, b10, b11, b12, b13⟩)]
               go_enter Tryz.func29, Tryz.ntmps29
               go_wp2
               go_ret
               exact ⟨by first | rfl | (simp; omega), (Fr.refl _ _).alloc _⟩
def saidO (s : SayD) : Option (List (ByteArray × Int) × Int) := if OkSay s then none else some ([((⟨#[115, 97, 121]⟩ : ByteArray), s.kind)], 111)
theorem say_Check1 (w : World) (kind txn : Int) (yes : Bool) (fr to2 : ByteArray) (epoch shard target root : Int) :
  Calls Tryz.prog 97 #[.agg #[.int .i64 kind, .int .i64 txn, .bool yes, .string fr, .string to2, .int .i64 epoch, .int .i64 shard, .int .i64 target, .int .i64 root]] w fun e w' => e = .returned (errO (saidO ⟨kind, txn, yes, fr, to2, epoch, shard, target, root⟩)) ∧ Fr (fun _ => False) w w' := by
 by_cases mx : (fr.size : Int) < to2.size
 ·
  by_cases c0 : kind < 1
  ·have hd0 := c0
   have hno : ¬ OkSay ⟨kind, txn, yes, fr, to2, epoch, shard, target, root⟩ := fun h => by unfold OkSay at h; obtain ⟨a0, a1, a2, a3, a4, a5, a6, a7, a8, a9, a10, a11, a12, a13⟩ := h; exact (a0 c0)
   rw [saidO, if_neg hno]
   clear hno
   go_enter Tryz.func97, Tryz.ntmps97
   go_wp2_with (first | (go_at_call 125; refine (say_between _ (two_new _ _ _ _ (by simp))).mono ?_; rintro e w' ⟨rfl, rfl⟩; rw [hd1]) | (go_at_call 125; refine (say_between _ (two_new _ _ _ _ (by simp))).mono ?_; rintro e w' ⟨rfl, rfl⟩; rw [hd2]))
   go_quiet ((first | (go_at_call 71; exact quiet_left (fault_Of 111 rfl _)) | (go_at_call 70; exact quiet_left (fault_Wrap _ _ _ _ _))))
   go_wp2
   go_ret
   refine ⟨rfl, ?_⟩
   repeat first | exact Fr.refl _ _ | refine Fr.alloc ?_ _ | refine Fr.drewN ?_ _ | refine Fr.drew ?_
  ·
   by_cases c1 : 9 < kind
   ·have hd0 := c1
    have hno : ¬ OkSay ⟨kind, txn, yes, fr, to2, epoch, shard, target, root⟩ := fun h => by unfold OkSay at h; obtain ⟨a0, a1, a2, a3, a4, a5, a6, a7, a8, a9, a10, a11, a12, a13⟩ := h; exact (a1 c1)
    rw [saidO, if_neg hno]
    clear hno
    go_enter Tryz.func97, Tryz.ntmps97
    go_wp2_with (first | (go_at_call 125; refine (say_between _ (two_new _ _ _ _ (by simp))).mono ?_; rintro e w' ⟨rfl, rfl⟩; rw [hd1]) | (go_at_call 125; refine (say_between _ (two_new _ _ _ _ (by simp))).mono ?_; rintro e w' ⟨rfl, rfl⟩; rw [hd2]))
    go_quiet ((first | (go_at_call 71; exact quiet_left (fault_Of 111 rfl _)) | (go_at_call 70; exact quiet_left (fault_Wrap _ _ _ _ _))))
    go_wp2
    go_ret
    refine ⟨rfl, ?_⟩
    repeat first | exact Fr.refl _ _ | refine Fr.alloc ?_ _ | refine Fr.drewN ?_ _ | refine Fr.drew ?_
   ·
    by_cases c2 : In2 2147483647 txn root = false
    ·have hd1 := c2
     have hno : ¬ OkSay ⟨kind, txn, yes, fr, to2, epoch, shard, target, root⟩ := fun h => by unfold OkSay at h; obtain ⟨a0, a1, a2, a3, a4, a5, a6, a7, a8, a9, a10, a11, a12, a13⟩ := h; exact (by have := c2; rw [(in2_iff 2147483647 txn root).2 ⟨a2, a4, a3, a5⟩] at this; cases this)
     rw [saidO, if_neg hno]
     clear hno
     go_enter Tryz.func97, Tryz.ntmps97
     go_wp2_with (first | (go_at_call 125; refine (say_between _ (two_new _ _ _ _ (by simp))).mono ?_; rintro e w' ⟨rfl, rfl⟩; rw [hd1]) | (go_at_call 125; refine (say_between _ (two_new _ _ _ _ (by simp))).mono ?_; rintro e w' ⟨rfl, rfl⟩; rw [hd2]))
     go_quiet ((first | (go_at_call 71; exact quiet_left (fault_Of 111 rfl _)) | (go_at_call 70; exact quiet_left (fault_Wrap _ _ _ _ _))))
     go_wp2
     go_ret
     refine ⟨rfl, ?_⟩
     repeat first | exact Fr.refl _ _ | refine Fr.alloc ?_ _ | refine Fr.drewN ?_ _ | refine Fr.drew ?_
    ·
     have hd1 : In2 2147483647 txn root = true := by simpa using c2
     have hi2 := Lib.hid ((in2_iff 2147483647 txn root).1 hd1)
     clear c2
     by_cases c3 : (16 : Int) < fr.size
     ·have hd0 := c3
      have hno : ¬ OkSay ⟨kind, txn, yes, fr, to2, epoch, shard, target, root⟩ := fun h => by unfold OkSay at h; obtain ⟨a0, a1, a2, a3, a4, a5, a6, a7, a8, a9, a10, a11, a12, a13⟩ := h; exact (a6 c3)
      rw [saidO, if_neg hno]
      clear hno
      go_enter Tryz.func97, Tryz.ntmps97
      go_wp2_with (first | (go_at_call 125; refine (say_between _ (two_new _ _ _ _ (by simp))).mono ?_; rintro e w' ⟨rfl, rfl⟩; rw [hd1]) | (go_at_call 125; refine (say_between _ (two_new _ _ _ _ (by simp))).mono ?_; rintro e w' ⟨rfl, rfl⟩; rw [hd2]))
      go_quiet ((first | (go_at_call 71; exact quiet_left (fault_Of 111 rfl _)) | (go_at_call 70; exact quiet_left (fault_Wrap _ _ _ _ _))))
      go_wp2
      go_ret
      refine ⟨rfl, ?_⟩
      repeat first | exact Fr.refl _ _ | refine Fr.alloc ?_ _ | refine Fr.drewN ?_ _ | refine Fr.drew ?_
     ·
      by_cases c4 : (16 : Int) < to2.size
      ·have hd0 := c4
       have hno : ¬ OkSay ⟨kind, txn, yes, fr, to2, epoch, shard, target, root⟩ := fun h => by unfold OkSay at h; obtain ⟨a0, a1, a2, a3, a4, a5, a6, a7, a8, a9, a10, a11, a12, a13⟩ := h; exact (a7 c4)
       rw [saidO, if_neg hno]
       clear hno
       go_enter Tryz.func97, Tryz.ntmps97
       go_wp2_with (first | (go_at_call 125; refine (say_between _ (two_new _ _ _ _ (by simp))).mono ?_; rintro e w' ⟨rfl, rfl⟩; rw [hd1]) | (go_at_call 125; refine (say_between _ (two_new _ _ _ _ (by simp))).mono ?_; rintro e w' ⟨rfl, rfl⟩; rw [hd2]))
       go_quiet ((first | (go_at_call 71; exact quiet_left (fault_Of 111 rfl _)) | (go_at_call 70; exact quiet_left (fault_Wrap _ _ _ _ _))))
       go_wp2
       go_ret
       refine ⟨rfl, ?_⟩
       repeat first | exact Fr.refl _ _ | refine Fr.alloc ?_ _ | refine Fr.drewN ?_ _ | refine Fr.drew ?_
      ·
       by_cases c5 : epoch < 0
       ·have hd0 := c5
        have hno : ¬ OkSay ⟨kind, txn, yes, fr, to2, epoch, shard, target, root⟩ := fun h => by unfold OkSay at h; obtain ⟨a0, a1, a2, a3, a4, a5, a6, a7, a8, a9, a10, a11, a12, a13⟩ := h; exact (a8 c5)
        rw [saidO, if_neg hno]
        clear hno
        go_enter Tryz.func97, Tryz.ntmps97
        go_wp2_with (first | (go_at_call 125; refine (say_between _ (two_new _ _ _ _ (by simp))).mono ?_; rintro e w' ⟨rfl, rfl⟩; rw [hd1]) | (go_at_call 125; refine (say_between _ (two_new _ _ _ _ (by simp))).mono ?_; rintro e w' ⟨rfl, rfl⟩; rw [hd2]))
        go_quiet ((first | (go_at_call 71; exact quiet_left (fault_Of 111 rfl _)) | (go_at_call 70; exact quiet_left (fault_Wrap _ _ _ _ _))))
        go_wp2
        go_ret
        refine ⟨rfl, ?_⟩
        repeat first | exact Fr.refl _ _ | refine Fr.alloc ?_ _ | refine Fr.drewN ?_ _ | refine Fr.drew ?_
       ·
        by_cases c6 : 1099511627776 < epoch
        ·have hd0 := c6
         have hno : ¬ OkSay ⟨kind, txn, yes, fr, to2, epoch, shard, target, root⟩ := fun h => by unfold OkSay at h; obtain ⟨a0, a1, a2, a3, a4, a5, a6, a7, a8, a9, a10, a11, a12, a13⟩ := h; exact (a9 c6)
         rw [saidO, if_neg hno]
         clear hno
         go_enter Tryz.func97, Tryz.ntmps97
         go_wp2_with (first | (go_at_call 125; refine (say_between _ (two_new _ _ _ _ (by simp))).mono ?_; rintro e w' ⟨rfl, rfl⟩; rw [hd1]) | (go_at_call 125; refine (say_between _ (two_new _ _ _ _ (by simp))).mono ?_; rintro e w' ⟨rfl, rfl⟩; rw [hd2]))
         go_quiet ((first | (go_at_call 71; exact quiet_left (fault_Of 111 rfl _)) | (go_at_call 70; exact quiet_left (fault_Wrap _ _ _ _ _))))
         go_wp2
         go_ret
         refine ⟨rfl, ?_⟩
         repeat first | exact Fr.refl _ _ | refine Fr.alloc ?_ _ | refine Fr.drewN ?_ _ | refine Fr.drew ?_
        ·
         by_cases c7 : In2 3 shard target = false
         ·have hd2 := c7
          have hno : ¬ OkSay ⟨kind, txn, yes, fr, to2, epoch, shard, target, root⟩ := fun h => by unfold OkSay at h; obtain ⟨a0, a1, a2, a3, a4, a5, a6, a7, a8, a9, a10, a11, a12, a13⟩ := h; exact (by have := c7; rw [(in2_iff 3 shard target).2 ⟨a10, a12, a11, a13⟩] at this; cases this)
          rw [saidO, if_neg hno]
          clear hno
          go_enter Tryz.func97, Tryz.ntmps97
          go_wp2_with (first | (go_at_call 125; refine (say_between _ (two_new _ _ _ _ (by simp))).mono ?_; rintro e w' ⟨rfl, rfl⟩; rw [hd1]) | (go_at_call 125; refine (say_between _ (two_new _ _ _ _ (by simp))).mono ?_; rintro e w' ⟨rfl, rfl⟩; rw [hd2]))
          go_quiet ((first | (go_at_call 71; exact quiet_left (fault_Of 111 rfl _)) | (go_at_call 70; exact quiet_left (fault_Wrap _ _ _ _ _))))
          go_wp2
          go_ret
          refine ⟨rfl, ?_⟩
          repeat first | exact Fr.refl _ _ | refine Fr.alloc ?_ _ | refine Fr.drewN ?_ _ | refine Fr.drew ?_
         ·
          have hd2 : In2 3 shard target = true := by simpa using c7
          have hi7 := Lib.hid ((in2_iff 3 shard target).1 hd2)
          clear c7
          have hok : OkSay ⟨kind, txn, yes, fr, to2, epoch, shard, target, root⟩ := ⟨c0, c1, hi2.out.1, hi2.out.2.2.1, hi2.out.2.1, hi2.out.2.2.2, c3, c4, c5, c6, hi7.out.1, hi7.out.2.2.1, hi7.out.2.1, hi7.out.2.2.2⟩
          rw [saidO, if_pos hok]
          clear hok
          go_enter Tryz.func97, Tryz.ntmps97
          go_wp2_with (first | (go_at_call 125; refine (say_between _ (two_new _ _ _ _ (by simp))).mono ?_; rintro e w' ⟨rfl, rfl⟩; rw [hd1]) | (go_at_call 125; refine (say_between _ (two_new _ _ _ _ (by simp))).mono ?_; rintro e w' ⟨rfl, rfl⟩; rw [hd2]))
          go_ret
          refine ⟨rfl, ?_⟩
          repeat first | exact Fr.refl _ _ | refine Fr.alloc ?_ _
 ·
  by_cases c0 : kind < 1
  ·have hd0 := c0
   have hno : ¬ OkSay ⟨kind, txn, yes, fr, to2, epoch, shard, target, root⟩ := fun h => by unfold OkSay at h; obtain ⟨a0, a1, a2, a3, a4, a5, a6, a7, a8, a9, a10, a11, a12, a13⟩ := h; exact (a0 c0)
   rw [saidO, if_neg hno]
   clear hno
   go_enter Tryz.func97, Tryz.ntmps97
   go_wp2_with (first | (go_at_call 125; refine (say_between _ (two_new _ _ _ _ (by simp))).mono ?_; rintro e w' ⟨rfl, rfl⟩; rw [hd1]) | (go_at_call 125; refine (say_between _ (two_new _ _ _ _ (by simp))).mono ?_; rintro e w' ⟨rfl, rfl⟩; rw [hd2]))
   go_quiet ((first | (go_at_call 71; exact quiet_left (fault_Of 111 rfl _)) | (go_at_call 70; exact quiet_left (fault_Wrap _ _ _ _ _))))
   go_wp2
   go_ret
   refine ⟨rfl, ?_⟩
   repeat first | exact Fr.refl _ _ | refine Fr.alloc ?_ _ | refine Fr.drewN ?_ _ | refine Fr.drew ?_
  ·
   by_cases c1 : 9 < kind
   ·have hd0 := c1
    have hno : ¬ OkSay ⟨kind, txn, yes, fr, to2, epoch, shard, target, root⟩ := fun h => by unfold OkSay at h; obtain ⟨a0, a1, a2, a3, a4, a5, a6, a7, a8, a9, a10, a11, a12, a13⟩ := h; exact (a1 c1)
    rw [saidO, if_neg hno]
    clear hno
    go_enter Tryz.func97, Tryz.ntmps97
    go_wp2_with (first | (go_at_call 125; refine (say_between _ (two_new _ _ _ _ (by simp))).mono ?_; rintro e w' ⟨rfl, rfl⟩; rw [hd1]) | (go_at_call 125; refine (say_between _ (two_new _ _ _ _ (by simp))).mono ?_; rintro e w' ⟨rfl, rfl⟩; rw [hd2]))
    go_quiet ((first | (go_at_call 71; exact quiet_left (fault_Of 111 rfl _)) | (go_at_call 70; exact quiet_left (fault_Wrap _ _ _ _ _))))
    go_wp2
    go_ret
    refine ⟨rfl, ?_⟩
    repeat first | exact Fr.refl _ _ | refine Fr.alloc ?_ _ | refine Fr.drewN ?_ _ | refine Fr.drew ?_
   ·
    by_cases c2 : In2 2147483647 txn root = false
    ·have hd1 := c2
     have hno : ¬ OkSay ⟨kind, txn, yes, fr, to2, epoch, shard, target, root⟩ := fun h => by unfold OkSay at h; obtain ⟨a0, a1, a2, a3, a4, a5, a6, a7, a8, a9, a10, a11, a12, a13⟩ := h; exact (by have := c2; rw [(in2_iff 2147483647 txn root).2 ⟨a2, a4, a3, a5⟩] at this; cases this)
     rw [saidO, if_neg hno]
     clear hno
     go_enter Tryz.func97, Tryz.ntmps97
     go_wp2_with (first | (go_at_call 125; refine (say_between _ (two_new _ _ _ _ (by simp))).mono ?_; rintro e w' ⟨rfl, rfl⟩; rw [hd1]) | (go_at_call 125; refine (say_between _ (two_new _ _ _ _ (by simp))).mono ?_; rintro e w' ⟨rfl, rfl⟩; rw [hd2]))
     go_quiet ((first | (go_at_call 71; exact quiet_left (fault_Of 111 rfl _)) | (go_at_call 70; exact quiet_left (fault_Wrap _ _ _ _ _))))
     go_wp2
     go_ret
     refine ⟨rfl, ?_⟩
     repeat first | exact Fr.refl _ _ | refine Fr.alloc ?_ _ | refine Fr.drewN ?_ _ | refine Fr.drew ?_
    ·
     have hd1 : In2 2147483647 txn root = true := by simpa using c2
     have hi2 := Lib.hid ((in2_iff 2147483647 txn root).1 hd1)
     clear c2
     by_cases c3 : (16 : Int) < fr.size
     ·have hd0 := c3
      have hno : ¬ OkSay ⟨kind, txn, yes, fr, to2, epoch, shard, target, root⟩ := fun h => by unfold OkSay at h; obtain ⟨a0, a1, a2, a3, a4, a5, a6, a7, a8, a9, a10, a11, a12, a13⟩ := h; exact (a6 c3)
      rw [saidO, if_neg hno]
      clear hno
      go_enter Tryz.func97, Tryz.ntmps97
      go_wp2_with (first | (go_at_call 125; refine (say_between _ (two_new _ _ _ _ (by simp))).mono ?_; rintro e w' ⟨rfl, rfl⟩; rw [hd1]) | (go_at_call 125; refine (say_between _ (two_new _ _ _ _ (by simp))).mono ?_; rintro e w' ⟨rfl, rfl⟩; rw [hd2]))
      go_quiet ((first | (go_at_call 71; exact quiet_left (fault_Of 111 rfl _)) | (go_at_call 70; exact quiet_left (fault_Wrap _ _ _ _ _))))
      go_wp2
      go_ret
      refine ⟨rfl, ?_⟩
      repeat first | exact Fr.refl _ _ | refine Fr.alloc ?_ _ | refine Fr.drewN ?_ _ | refine Fr.drew ?_
     ·
      by_cases c4 : (16 : Int) < to2.size
      ·have hd0 := c4
       exact absurd hd0 (by omega)
      ·
       by_cases c5 : epoch < 0
       ·have hd0 := c5
        have hno : ¬ OkSay ⟨kind, txn, yes, fr, to2, epoch, shard, target, root⟩ := fun h => by unfold OkSay at h; obtain ⟨a0, a1, a2, a3, a4, a5, a6, a7, a8, a9, a10, a11, a12, a13⟩ := h; exact (a8 c5)
        rw [saidO, if_neg hno]
        clear hno
        go_enter Tryz.func97, Tryz.ntmps97
        go_wp2_with (first | (go_at_call 125; refine (say_between _ (two_new _ _ _ _ (by simp))).mono ?_; rintro e w' ⟨rfl, rfl⟩; rw [hd1]) | (go_at_call 125; refine (say_between _ (two_new _ _ _ _ (by simp))).mono ?_; rintro e w' ⟨rfl, rfl⟩; rw [hd2]))
        go_quiet ((first | (go_at_call 71; exact quiet_left (fault_Of 111 rfl _)) | (go_at_call 70; exact quiet_left (fault_Wrap _ _ _ _ _))))
        go_wp2
        go_ret
        refine ⟨rfl, ?_⟩
        repeat first | exact Fr.refl _ _ | refine Fr.alloc ?_ _ | refine Fr.drewN ?_ _ | refine Fr.drew ?_
       ·
        by_cases c6 : 1099511627776 < epoch
        ·have hd0 := c6
         have hno : ¬ OkSay ⟨kind, txn, yes, fr, to2, epoch, shard, target, root⟩ := fun h => by unfold OkSay at h; obtain ⟨a0, a1, a2, a3, a4, a5, a6, a7, a8, a9, a10, a11, a12, a13⟩ := h; exact (a9 c6)
         rw [saidO, if_neg hno]
         clear hno
         go_enter Tryz.func97, Tryz.ntmps97
         go_wp2_with (first | (go_at_call 125; refine (say_between _ (two_new _ _ _ _ (by simp))).mono ?_; rintro e w' ⟨rfl, rfl⟩; rw [hd1]) | (go_at_call 125; refine (say_between _ (two_new _ _ _ _ (by simp))).mono ?_; rintro e w' ⟨rfl, rfl⟩; rw [hd2]))
         go_quiet ((first | (go_at_call 71; exact quiet_left (fault_Of 111 rfl _)) | (go_at_call 70; exact quiet_left (fault_Wrap _ _ _ _ _))))
         go_wp2
         go_ret
         refine ⟨rfl, ?_⟩
         repeat first | exact Fr.refl _ _ | refine Fr.alloc ?_ _ | refine Fr.drewN ?_ _ | refine Fr.drew ?_
        ·
         by_cases c7 : In2 3 shard target = false
         ·have hd2 := c7
          have hno : ¬ OkSay ⟨kind, txn, yes, fr, to2, epoch, shard, target, root⟩ := fun h => by unfold OkSay at h; obtain ⟨a0, a1, a2, a3, a4, a5, a6, a7, a8, a9, a10, a11, a12, a13⟩ := h; exact (by have := c7; rw [(in2_iff 3 shard target).2 ⟨a10, a12, a11, a13⟩] at this; cases this)
          rw [saidO, if_neg hno]
          clear hno
          go_enter Tryz.func97, Tryz.ntmps97
          go_wp2_with (first | (go_at_call 125; refine (say_between _ (two_new _ _ _ _ (by simp))).mono ?_; rintro e w' ⟨rfl, rfl⟩; rw [hd1]) | (go_at_call 125; refine (say_between _ (two_new _ _ _ _ (by simp))).mono ?_; rintro e w' ⟨rfl, rfl⟩; rw [hd2]))
          go_quiet ((first | (go_at_call 71; exact quiet_left (fault_Of 111 rfl _)) | (go_at_call 70; exact quiet_left (fault_Wrap _ _ _ _ _))))
          go_wp2
          go_ret
          refine ⟨rfl, ?_⟩
          repeat first | exact Fr.refl _ _ | refine Fr.alloc ?_ _ | refine Fr.drewN ?_ _ | refine Fr.drew ?_
         ·
          have hd2 : In2 3 shard target = true := by simpa using c7
          have hi7 := Lib.hid ((in2_iff 3 shard target).1 hd2)
          clear c7
          have hok : OkSay ⟨kind, txn, yes, fr, to2, epoch, shard, target, root⟩ := ⟨c0, c1, hi2.out.1, hi2.out.2.2.1, hi2.out.2.1, hi2.out.2.2.2, c3, c4, c5, c6, hi7.out.1, hi7.out.2.2.1, hi7.out.2.1, hi7.out.2.2.2⟩
          rw [saidO, if_pos hok]
          clear hok
          go_enter Tryz.func97, Tryz.ntmps97
          go_wp2_with (first | (go_at_call 125; refine (say_between _ (two_new _ _ _ _ (by simp))).mono ?_; rintro e w' ⟨rfl, rfl⟩; rw [hd1]) | (go_at_call 125; refine (say_between _ (two_new _ _ _ _ (by simp))).mono ?_; rintro e w' ⟨rfl, rfl⟩; rw [hd2]))
          go_ret
          refine ⟨rfl, ?_⟩
          repeat first | exact Fr.refl _ _ | refine Fr.alloc ?_ _
def num8 (n : Int) : List Int := (List.range 8).map fun (j : Nat) => n / 2 ^ (56 - 8 * j) % 256
theorem num8_length (n : Int) : (num8 n).length = 8 := by simp [num8]
theorem num8_take {n : Int} {j : Nat} (h : j < 8) : (num8 n).take (j + 1) = (num8 n).take j ++ [n / 2 ^ (56 - 8 * j) % 256] := by
 rw [List.take_succ_eq_append_getElem (by rw [num8_length]; exact h)]
 simp [num8]
def Grown (w : World) (base : Nat) (v : Value) (xs : List Int) (e : Ending) (w' : World) : Prop :=
 ∃ v', e = .returned v' ∧ Own8 w' base v' xs ∧ Fr (fun k => v.ownBlock = some k) w w' ∧ ∀ k, v'.ownBlock = some k → v.ownBlock = some k ∨ w.heap.size ≤ k
theorem wire_number {w : World} {base : Nat} {v : Value} {bs : List Int} (h : Own8 w base v bs) (hbase : base ≤ w.heap.size) (hb : bs.length + 8 ≤ 1099511627776) (n : Int) :
  Calls Tryz.prog 128 #[v, .int .i64 n] w (Grown w base v (bs ++ num8 n)) := by
 go_enter Tryz.func128, Tryz.ntmps128
 go_wp2_with fail
 go_loopw [0, 5] (fun b i wr => ∃ j : Nat, j ≤ 8 ∧ i = .int .i64 (56 - 8 * (j : Int)) ∧ Own8 wr base b (bs ++ (num8 n).take j) ∧ Fr (fun k => v.ownBlock = some k) w wr ∧ ∀ k, b.ownBlock = some k → v.ownBlock = some k ∨ w.heap.size ≤ k) (fun b i _ => (intOf i + 8).toNat)
 case atStart => exact ⟨0, by omega, rfl, by simpa using h, Fr.refl _ _, fun k hk => .inl hk⟩
 case round =>
  obtain ⟨j, hj, rfl, hown, hf, hk⟩ := hrel
  by_cases hlt : j < 8
  ·have h0 : (0 : Int) ≤ 56 - 8 * (j : Int) := by omega
   go_wp2_with (at_builtin; refine wpList_append_bytes rfl (.tmp 10) (.tmp 15) rfl base u0 (bs ++ (num8 n).take j) rfl (hown.alloc _) wr.heap.size 0 1 1 [n / 2 ^ (56 - 8 * j) % 256] rfl rfl (ByteAt.new wr [n / 2 ^ (56 - 8 * j) % 256]) (by decide) (by simp [num8_length]; omega) (by have := hf.size; simp; omega) ?_; intro g2 c2 w2 hown2 hf2 hg2)
   go_roundw
   case rel =>
    refine ⟨j + 1, by omega, by go_num, by rw [num8_take hlt, ← List.append_assoc]; exact hown2.len (by simp), hf.trans (((Fr.refl (fun k => u0.ownBlock = some k) wr).alloc _).trans hf2 (fun k _ h => h)) (fun k hlk h => (hk k h).resolve_right (by omega)), ?_⟩
    intro k e1
    cases e1
    rcases hg2 with h | h
    ·exact hk _ h
    ·exact .inr (by rw [h]; have := hf.size; simp; omega)
   case measure => simp [intOf]; omega
  ·obtain rfl : j = 8 := by omega
   go_wp2
   go_ret
   exact ⟨_, rfl, by simpa [num8_length, List.take_of_length_le] using hown, hf, hk⟩
def count4 (n : Int) : List Int := [n / 16777216 % 256, n / 65536 % 256, n / 256 % 256, n % 256]
theorem wire_count {w : World} {base : Nat} {v : Value} {bs : List Int} (h : Own8 w base v bs) (hbase : base ≤ w.heap.size) (hb : bs.length + 4 ≤ 1099511627776) (n : Int) :
  Calls Tryz.prog 160 #[v, .int .i64 n] w (Grown w base v (bs ++ count4 n)) := by
 go_enter Tryz.func160, Tryz.ntmps160
 go_wp2_with (at_builtin; refine wpList_append_bytes rfl (.tmp 5) (.tmp 17) rfl base v bs rfl (h.alloc _) w.heap.size 0 4 4 (count4 n) rfl rfl (ByteAt.new w (count4 n)) (by decide) (by omega) (by simp; omega) ?_; intro g2 c2 w2 hown2 hf2 hg2)
 go_ret
 refine ⟨.slice (some ⟨g2, 0, none⟩) (bs.length + (count4 n).length) c2, rfl, hown2.len (by simp), ((Fr.refl (fun k => v.ownBlock = some k) w).alloc _).trans hf2 (fun k _ h => h), ?_⟩
 intro k e1
 cases e1
 rcases hg2 with h | h
 ·exact .inl h
 ·exact .inr (by rw [h]; simp)
theorem num1 {w : World} {base : Nat} {v : Value} {bs : List Int} (h : Own8 w base v bs) (hbase : base ≤ w.heap.size) (hb : bs.length + 8 ≤ 1099511627776) (n : Int) (bx : Nat) (hx : w.cell? ⟨bx, 0, none⟩ = some (.int .i64 n)) :
  Calls Tryz.prog 127 #[v, .pointer (some ⟨bx, 0, none⟩)] w (Grown w base v (bs ++ num8 n)) := by
 go_enter Tryz.func127, Tryz.ntmps127
 go_wp2_with fail
 refine (wire_number h hbase hb n).mono ?_
 rintro e w' ⟨v', rfl, h1, h2, h3⟩
 go_wp2
 go_ret
 exact ⟨_, rfl, h1, h2, h3⟩
def errW (bad : Option Nat) : Value := errO (bad.map fun a => ([((⟨#[119, 114, 105, 116, 101]⟩ : ByteArray), (a : Int))], 2))
structure WriterAt (w : World) (g base : Nat) (v : Value) (bs : List Int) (bad : Option Nat) : Prop where
 blk : Blk w g 194 #[v, errW bad]
 own : Own8 w base v bs
theorem WriterAt.fr {S : Nat → Prop} {w w' : World} {g base : Nat} {v : Value} {bs : List Int} {bad : Option Nat} (h : WriterAt w g base v bs bad) (hf : Fr S w w') (hg : ¬ S g) (hv : ∀ k, v.ownBlock = some k → ¬ S k) : WriterAt w' g base v bs bad :=
 ⟨h.blk.fr hf hg, h.own.fr hf hv⟩
def Wrote (w : World) (g base : Nat) (v : Value) (bs : List Int) (bad : Option Nat) (e : Ending) (w' : World) : Prop :=
 ∃ v', e = .returned (.tuple #[]) ∧ WriterAt w' g base v' bs bad ∧ Fr (fun k => k = g ∨ v.ownBlock = some k) w w' ∧ ∀ k, v'.ownBlock = some k → v.ownBlock = some k ∨ w.heap.size ≤ k
theorem add_bad {w : World} {g base : Nat} {v : Value} {bs : List Int} {a : Nat} (h : WriterAt w g base v bs (some a)) (fine : Bool) (f : Value) :
  Calls Tryz.prog 126 #[.pointer (some ⟨g, 0, none⟩), .bool fine, f] w (Wrote w g base v bs (some a)) := by
 have c0 := h.blk.cell 1
 obtain ⟨t, u, hu⟩ := errO_some ([((⟨#[119, 114, 105, 116, 101]⟩ : ByteArray), (a : Int))], 2)
 have c1 : w.cell? ⟨g, 1, none⟩ = some (.iface t u) := by rw [← hu]; exact c0
 clear c0
 go_enter Tryz.func126, Tryz.ntmps126
 go_wp2
 refine bodyPost_ret (v := .tuple #[]) (by simp [results, Tryz.results126, go_sem]) rfl ?_
 exact ⟨v, rfl, h, Fr.refl _ _, fun k hk => .inl hk⟩
theorem add_num {w : World} {g base : Nat} {v : Value} {bs ys : List Int} (h : WriterAt w g base v bs none) (b1 : Nat)
  (hof : Calls Tryz.prog 127 #[v, .pointer (some ⟨b1, 0, none⟩)] w (Grown w base v ys)) :
  Calls Tryz.prog 126 #[.pointer (some ⟨g, 0, none⟩), .bool true, .func (.func 127) #[] #[.pointer (some ⟨b1, 0, none⟩)]] w (Wrote w g base v ys none) := by
 have c0 := h.blk.cell 0
 have c1 : w.cell? ⟨g, 1, none⟩ = some .nilIface := h.blk.cell 1
 go_enter Tryz.func126, Tryz.ntmps126
 go_wp2_with (go_at_call 127; refine hof.mono ?_; rintro e w1 ⟨v1, rfl, h1, hf1, hk1⟩; obtain ⟨A1, p1, rfl, _, _⟩ := h1.form; have hb1 := h.blk.fr hf1 (h.own.ne_blk h.blk (by decide)); have d0 := hb1.cell 0; have z0 := hb1.frozen 0)
 refine bodyPost_ret (v := .tuple #[]) (by simp [results, Tryz.results126, go_sem]) rfl ?_
 exact ⟨_, rfl, ⟨hb1.set_ 0 (.slice A1 ys.length p1), h1.setCell hb1 (by decide) _⟩, (hf1.mono (fun k _ hk => .inr hk)).setCell (p := ⟨g, 0, none⟩) (fun _ => .inl rfl) _, hk1⟩
theorem add_nums {w : World} {g base : Nat} {v : Value} {bs ys : List Int} (h : WriterAt w g base v bs none) (b1 b2 : Nat)
  (hof : Calls Tryz.prog 183 #[v, .pointer (some ⟨b1, 0, none⟩), .pointer (some ⟨b2, 0, none⟩)] w (Grown w base v ys)) :
  Calls Tryz.prog 126 #[.pointer (some ⟨g, 0, none⟩), .bool true, .func (.func 183) #[] #[.pointer (some ⟨b1, 0, none⟩), .pointer (some ⟨b2, 0, none⟩)]] w (Wrote w g base v ys none) := by
 have c0 := h.blk.cell 0
 have c1 : w.cell? ⟨g, 1, none⟩ = some .nilIface := h.blk.cell 1
 go_enter Tryz.func126, Tryz.ntmps126
 go_wp2_with (go_at_call 183; refine hof.mono ?_; rintro e w1 ⟨v1, rfl, h1, hf1, hk1⟩; obtain ⟨A1, p1, rfl, _, _⟩ := h1.form; have hb1 := h.blk.fr hf1 (h.own.ne_blk h.blk (by decide)); have d0 := hb1.cell 0; have z0 := hb1.frozen 0)
 refine bodyPost_ret (v := .tuple #[]) (by simp [results, Tryz.results126, go_sem]) rfl ?_
 exact ⟨_, rfl, ⟨hb1.set_ 0 (.slice A1 ys.length p1), h1.setCell hb1 (by decide) _⟩, (hf1.mono (fun k _ hk => .inr hk)).setCell (p := ⟨g, 0, none⟩) (fun _ => .inl rfl) _, hk1⟩
theorem add_text {w : World} {g base : Nat} {v : Value} {bs ys : List Int} (h : WriterAt w g base v bs none) (b1 : Nat)
  (hof : Calls Tryz.prog 130 #[v, .pointer (some ⟨b1, 0, none⟩)] w (Grown w base v ys)) :
  Calls Tryz.prog 126 #[.pointer (some ⟨g, 0, none⟩), .bool true, .func (.func 130) #[] #[.pointer (some ⟨b1, 0, none⟩)]] w (Wrote w g base v ys none) := by
 have c0 := h.blk.cell 0
 have c1 : w.cell? ⟨g, 1, none⟩ = some .nilIface := h.blk.cell 1
 go_enter Tryz.func126, Tryz.ntmps126
 go_wp2_with (go_at_call 130; refine hof.mono ?_; rintro e w1 ⟨v1, rfl, h1, hf1, hk1⟩; obtain ⟨A1, p1, rfl, _, _⟩ := h1.form; have hb1 := h.blk.fr hf1 (h.own.ne_blk h.blk (by decide)); have d0 := hb1.cell 0; have z0 := hb1.frozen 0)
 refine bodyPost_ret (v := .tuple #[]) (by simp [results, Tryz.results126, go_sem]) rfl ?_
 exact ⟨_, rfl, ⟨hb1.set_ 0 (.slice A1 ys.length p1), h1.setCell hb1 (by decide) _⟩, (hf1.mono (fun k _ hk => .inr hk)).setCell (p := ⟨g, 0, none⟩) (fun _ => .inl rfl) _, hk1⟩
theorem add_many {w : World} {g base : Nat} {v : Value} {bs : List Int} (h : WriterAt w g base v bs none) (f : Value) :
  Calls Tryz.prog 126 #[.pointer (some ⟨g, 0, none⟩), .bool false, f] w (Wrote w g base v bs (some bs.length)) := by
 obtain ⟨A, cap, rfl, _, _⟩ := h.own.form
 obtain ⟨t, u, hu⟩ := errV_iface [((⟨#[119, 114, 105, 116, 101]⟩ : ByteArray), (bs.length : Int))] 2
 have hW : errW (some bs.length) = .iface t u := hu
 have c0 : w.cell? ⟨g, 0, none⟩ = some (.slice A bs.length cap) := h.blk.cell 0
 have c1 : w.cell? ⟨g, 1, none⟩ = some .nilIface := h.blk.cell 1
 have z1 := h.blk.frozen 1
 go_enter Tryz.func126, Tryz.ntmps126
 go_wp2_with fail
 have e0 := (h.blk.drew.set_ 1 (.iface t u)).cell 0
 go_region_held3 (fun w' => w'.cell? ⟨g, 0, none⟩ = some (.slice A bs.length cap)) (first | exact c0 | exact e0) (first | (go_at_call 71; refine (fault_Of 2 rfl _).mono ?_; rintro e w' ⟨rfl, rfl⟩) | (go_at_call 70; refine (fault_Wrap [] 2 _ _ _).mono ?_; rintro e w' ⟨rfl, rfl⟩; rw [hu]))
 go_wp2
 refine bodyPost_ret (v := .tuple #[]) (by simp [results, Tryz.results126, go_sem]) rfl ?_
 refine ⟨_, rfl, ⟨?_, (h.own.drew).setCell h.blk.drew (by decide) _⟩, ((Fr.refl (fun k => k = g ∨ (Value.slice A bs.length cap).ownBlock = some k) w).drew).setCell (p := ⟨g, 1, none⟩) (fun _ => .inl rfl) _, fun k hk => .inl hk⟩
 rw [hW]
 exact h.blk.drew.set_ 1 (.iface t u)
def wput (bs : List Int) (bad : Option Nat) (o : Option (List Int)) : List Int × Option Nat :=
 match bad, o with
 | some a, _ => (bs, some a)
 | none, some x => (bs ++ x, none)
 | none, none => (bs, some bs.length)
def Put1 (w : World) (g base : Nat) (v : Value) (bs : List Int) (bad : Option Nat) (o : Option (List Int)) (e : Ending) (w' : World) : Prop :=
 Wrote w g base v (wput bs bad o).1 (wput bs bad o).2 e w'
theorem Wrote.before {w w1 w' : World} {g base : Nat} {v : Value} {bs : List Int} {bad : Option Nat} {e : Ending} (h : Wrote w1 g base v bs bad e w') (hf : Fr (fun _ => False) w w1) : Wrote w g base v bs bad e w' := by
 obtain ⟨v', he, h1, h2, h3⟩ := h
 exact ⟨v', he, h1, (hf.mono (fun _ _ hx => hx.elim)).trans h2 (fun _ _ hx => hx), fun k hk => (h3 k hk).imp_right (Nat.le_trans hf.size)⟩
theorem writer_Num {w : World} {g base : Nat} {v : Value} {bs : List Int} {bad : Option Nat} (h : WriterAt w g base v bs bad) (hbase : base ≤ w.heap.size) (hb : bs.length + 8 ≤ 1099511627776) (n : Int) :
  Calls Tryz.prog 98 #[.pointer (some ⟨g, 0, none⟩), .int .i64 n] w (Put1 w g base v bs bad (some (num8 n))) := by
 have hf0 : Fr (fun _ => False) w (w.alloc (Obj.cells #[.int .i64 n] 2)) := (Fr.refl _ _).alloc _
 have h1 := h.fr hf0 id (fun _ _ => id)
 have hx := (Blk.new w 2 #[.int .i64 n]).cell 0
 unfold Put1
 cases bad with
 | some a =>
  simp only [wput]
  go_enter Tryz.func98, Tryz.ntmps98
  go_wp2_with (go_at_call 126; refine (add_bad h1 true _).mono ?_; rintro e w' ⟨v1, rfl, h2, hf2, hk2⟩)
  refine bodyPost_ret (v := .tuple #[]) (by simp [results, Tryz.results98, go_sem]) rfl ?_
  exact Wrote.before ⟨v1, rfl, h2, hf2, hk2⟩ hf0
 | none =>
  simp only [wput]
  go_enter Tryz.func98, Tryz.ntmps98
  go_wp2_with (go_at_call 126; refine (add_num h1 w.heap.size (num1 h1.own (by simp; omega) hb n w.heap.size hx)).mono ?_; rintro e w' ⟨v1, rfl, h2, hf2, hk2⟩)
  refine bodyPost_ret (v := .tuple #[]) (by simp [results, Tryz.results98, go_sem]) rfl ?_
  exact Wrote.before ⟨v1, rfl, h2, hf2, hk2⟩ hf0
def textB (s : List Int) : List Int := count4 s.length ++ s
def numsB (l : List Int) : List Int := count4 l.length ++ l.flatMap num8
theorem Grown.of_own {w w1 w2 : World} {base : Nat} {v v1 v2 : Value} {xs : List Int} (hf1 : Fr (fun k => v.ownBlock = some k) w w1) (hk1 : ∀ k, v1.ownBlock = some k → v.ownBlock = some k ∨ w.heap.size ≤ k)
  (h2 : Own8 w2 base v2 xs) (hf2 : Fr (fun k => v1.ownBlock = some k) w1 w2) (hk2 : v2.ownBlock = v1.ownBlock ∨ v2.ownBlock = some w1.heap.size) : Grown w base v xs (.returned v2) w2 := by
 refine ⟨v2, rfl, h2, hf1.trans hf2 (fun k hlt hk => (hk1 k hk).resolve_right (by omega)), ?_⟩
 intro k hk
 rcases hk2 with h | h
 ·exact hk1 k (h ▸ hk)
 ·rw [hk] at h
  cases h
  exact .inr hf1.size
theorem wire_short {w : World} (A : Option Addr) (n cap : Nat) : Calls Tryz.prog 129 #[.slice A n cap] w fun e w' => e = .returned (.bool (decide (n ≤ 65536))) ∧ w = w' := by
 go_enter Tryz.func129, Tryz.ntmps129
 go_wp2
 go_ret
 exact ⟨by simp; omega, rfl⟩
theorem wire_text {w : World} {base : Nat} {v : Value} {bs s : List Int} {F : Nat → Prop} {A : Option Addr} {cap : Nat} (h : Own8 w base v bs) (hr : ByteRow w F A s) (hA : ∀ k, F k → v.ownBlock ≠ some k) (hbase : base ≤ w.heap.size) (hb : bs.length + 4 + s.length ≤ 1099511627776) :
  Calls Tryz.prog 131 #[v, .slice A s.length cap] w (Grown w base v (bs ++ textB s)) := by
 have HB : Hid (bs.length + 4 + s.length ≤ 1099511627776) := hb
 go_enter Tryz.func131, Tryz.ntmps131
 go_wp2_with (first
  | (go_at_call 160; refine (wire_count h hbase (by omega) _).mono ?_; rintro e w1 ⟨v1, rfl, h1, hf1, hk1⟩)
  | (at_builtin; refine wpList_append_text rfl (.tmp 8) (.tmp 9) rfl base v1 _ rfl h1 F A s.length cap s rfl rfl (hr.fr hf1 hA) (by have := HB.out; simp [count4]; omega) (by have := hf1.size; omega) ?_; intro v2 w2 h2 hf2 hk2))
 go_ret
 exact Grown.of_own hf1 hk1 (by rw [textB, ← List.append_assoc]; exact h2) hf2 hk2
theorem text1 {w : World} {base : Nat} {v : Value} {bs s : List Int} {F : Nat → Prop} {A : Option Addr} {cap : Nat} (h : Own8 w base v bs) (hr : ByteRow w F A s) (hA : ∀ k, F k → v.ownBlock ≠ some k) (hbase : base ≤ w.heap.size) (hb : bs.length + 4 + s.length ≤ 1099511627776)
  (bx : Nat) (hx : w.cell? ⟨bx, 0, none⟩ = some (.slice A s.length cap)) :
  Calls Tryz.prog 130 #[v, .pointer (some ⟨bx, 0, none⟩)] w (Grown w base v (bs ++ textB s)) := by
 go_enter Tryz.func130, Tryz.ntmps130
 go_wp2_with fail
 refine (wire_text h hr hA hbase hb).mono ?_
 rintro e w' ⟨v', rfl, h1, h2, h3⟩
 go_wp2
 go_ret
 exact ⟨_, rfl, h1, h2, h3⟩
theorem writer_Text {w : World} {g base : Nat} {v : Value} {bs : List Int} {bad : Option Nat} (h : WriterAt w g base v bs bad) (hbase : base ≤ w.heap.size) {s : List Int} {F : Nat → Prop} {A : Option Addr} {cap : Nat} (hr : ByteRow w F A s) (hA : ∀ k, F k → v.ownBlock ≠ some k) (hb : bs.length + 4 + s.length ≤ 1099511627776) :
  Calls Tryz.prog 99 #[.pointer (some ⟨g, 0, none⟩), .slice A s.length cap] w (Put1 w g base v bs bad (if s.length ≤ 65536 then some (textB s) else none)) := by
 have hf0 : Fr (fun _ => False) w (w.alloc (Obj.cells #[.slice A s.length cap] 38)) := (Fr.refl _ _).alloc _
 have h1 := h.fr hf0 id (fun _ _ => id)
 have hr1 := hr.fr hf0 (fun _ _ => id)
 have hx := (Blk.new w 38 #[.slice A s.length cap]).cell 0
 have HB : Hid (bs.length + 4 + s.length ≤ 1099511627776) := hb
 unfold Put1
 cases bad with
 | some a =>
  have e : wput bs (some a) (if s.length ≤ 65536 then some (textB s) else none) = (bs, some a) := by split <;> rfl
  rw [e]
  go_enter Tryz.func99, Tryz.ntmps99
  go_wp2_with (first
   | (go_at_call 129; refine (wire_short _ _ _).mono ?_; rintro e w1 ⟨rfl, rfl⟩)
   | (go_at_call 126; refine (add_bad h1 _ _).mono ?_; rintro e w' ⟨v1, rfl, h2, hf2, hk2⟩))
  refine bodyPost_ret (v := .tuple #[]) (by simp [results, Tryz.results99, go_sem]) rfl ?_
  exact Wrote.before ⟨v1, rfl, h2, hf2, hk2⟩ hf0
 | none =>
  by_cases hs : s.length ≤ 65536
  ·rw [if_pos hs]
   have hd : decide (s.length ≤ 65536) = true := decide_eq_true hs
   simp only [wput]
   clear hs
   go_enter Tryz.func99, Tryz.ntmps99
   go_wp2_with (first
    | (go_at_call 129; refine (wire_short _ _ _).mono ?_; rintro e w1 ⟨rfl, rfl⟩; rw [hd])
    | (go_at_call 126; refine (add_text h1 w.heap.size (text1 h1.own hr1 hA (by simp; omega) HB.out w.heap.size hx)).mono ?_; rintro e w' ⟨v1, rfl, h2, hf2, hk2⟩))
   refine bodyPost_ret (v := .tuple #[]) (by simp [results, Tryz.results99, go_sem]) rfl ?_
   exact Wrote.before ⟨v1, rfl, h2, hf2, hk2⟩ hf0
  ·rw [if_neg hs]
   have hd : decide (s.length ≤ 65536) = false := decide_eq_false hs
   simp only [wput]
   clear hs
   go_enter Tryz.func99, Tryz.ntmps99
   go_wp2_with (first
    | (go_at_call 129; refine (wire_short _ _ _).mono ?_; rintro e w1 ⟨rfl, rfl⟩; rw [hd])
    | (go_at_call 126; refine (add_many h1 _).mono ?_; rintro e w' ⟨v1, rfl, h2, hf2, hk2⟩))
   refine bodyPost_ret (v := .tuple #[]) (by simp [results, Tryz.results99, go_sem]) rfl ?_
   exact Wrote.before ⟨v1, rfl, h2, hf2, hk2⟩ hf0
theorem flat_take {α : Type} (f : α → List Int) {l : List α} {k : Nat} {x : α} (h : l[k]? = some x) : (l.take (k + 1)).flatMap f = (l.take k).flatMap f ++ f x := by
 obtain ⟨hlt, rfl⟩ := List.getElem?_eq_some_iff.1 h
 rw [List.take_succ_eq_append_getElem hlt, List.flatMap_append]
 simp
theorem flat_le {α : Type} (f : α → List Int) (l : List α) (k : Nat) : ((l.take k).flatMap f).length ≤ (l.flatMap f).length := by
 have e : l.flatMap f = (l.take k).flatMap f ++ (l.drop k).flatMap f := by rw [← List.flatMap_append, List.take_append_drop]
 rw [e]
 simp
theorem flat_le1 {α : Type} (f : α → List Int) {l : List α} {k : Nat} {x : α} (h : l[k]? = some x) : ((l.take k).flatMap f).length + (f x).length ≤ (l.flatMap f).length := by
 have h1 := flat_take f h
 have h2 := flat_le f l (k + 1)
 rw [h1, List.length_append] at h2
 exact h2
theorem count4_length (n : Int) : (count4 n).length = 4 := rfl
theorem flat_num8 (l : List Int) : (l.flatMap num8).length = 8 * l.length := by
 induction l with
 | nil => rfl
 | cons x r ih => simp only [List.flatMap_cons, List.length_append, num8_length, ih, List.length_cons]; omega
theorem rows_int64_1 {w : World} {base : Nat} {v : Value} {bs l : List Int} {F : Nat → Prop} {A : Option Addr} {cap : Nat} (h : Own8 w base v bs) (hr : NumRow w F A l) (hA : ∀ k, F k → v.ownBlock ≠ some k) (hbase : base ≤ w.heap.size) (hb : bs.length + (numsB l).length ≤ 1099511627776)
  (bx by_ : Nat) (hx : w.cell? ⟨bx, 0, none⟩ = some (.slice A l.length cap)) (hy : w.cell? ⟨by_, 0, none⟩ = some (.func (.func 128) #[] #[])) (hvx : v.ownBlock ≠ some bx) (hvy : v.ownBlock ≠ some by_) :
  Calls Tryz.prog 183 #[v, .pointer (some ⟨bx, 0, none⟩), .pointer (some ⟨by_, 0, none⟩)] w (Grown w base v (bs ++ numsB l)) := by
 have HB : Hid (bs.length + (4 + (l.flatMap num8).length) ≤ 1099511627776) := by simpa [numsB, count4_length, Hid] using hb
 have hll : l.length ≤ 1099511627776 := by have h1 := HB.out; rw [flat_num8] at h1; omega
 clear hb
 go_enter Tryz.func183, Tryz.ntmps183
 go_wp2_with (first
  | (go_at_call 160; refine (wire_count h hbase (by have := HB.out; omega) _).mono ?_; rintro e w1 ⟨v1, rfl, h1, hf1, hk1⟩; have hx1 := hf1.cell_some hx hvx; have hy1 := hf1.cell_some hy hvy; have hr1 := hr.fr hf1 hA))
 go_loopw [0, 13] (fun b i wr => ∃ k : Nat, k ≤ l.length ∧ i = .int .i64 k ∧ Own8 wr base b (bs ++ count4 l.length ++ (l.take k).flatMap num8) ∧ Fr (fun k => v.ownBlock = some k) w wr ∧ ∀ k, b.ownBlock = some k → v.ownBlock = some k ∨ w.heap.size ≤ k) (fun _ i _ => l.length - (intOf i).toNat)
 case atStart => exact ⟨0, by omega, rfl, by simpa using h1, hf1, hk1⟩
 case round =>
  obtain ⟨k, hk, rfl, hown, hf, hko⟩ := hrel
  by_cases hlt : k < l.length
  ·obtain ⟨x, hx0⟩ : ∃ x, l[k]? = some x := ⟨l[k], List.getElem?_eq_getElem hlt⟩
   obtain ⟨b, o, rfl, hFb, hc⟩ := hr k x hx0
   have d0 := hf.cell_some hc (hA b hFb)
   have d1 := hf.cell_some hx hvx
   have d2 := hf.cell_some hy hvy
   have HX := Lib.hid hx0
   have hsz := hf.size
   have hb2 : (bs ++ count4 l.length ++ (l.take k).flatMap num8).length + 8 ≤ 1099511627776 := by
    have h1 := HB.out
    have h2 := flat_le1 num8 hx0
    rw [num8_length] at h2
    simp only [List.length_append, count4_length]
    omega
   clear hr hc hx hy hx0 hx1 hy1 hr1
   go_wp2_with (first
    | (go_at_call 128; refine (wire_number hown (by omega) hb2 x).mono ?_; rintro e w2 ⟨v2, rfl, h2, hf2, hk2⟩))
   go_roundw
   case rel =>
    refine ⟨k + 1, by omega, by go_num, by rw [flat_take num8 HX.out, ← List.append_assoc]; exact h2, hf.trans hf2 (fun k hlk h => (hko k h).resolve_right (by omega)), ?_⟩
    intro j hj
    rcases hk2 j hj with h | h
    ·exact hko j h
    ·exact .inr (by omega)
   case measure => simp [intOf]; omega
  ·obtain rfl : k = l.length := by omega
   rw [List.take_length] at hown
   go_wp2
   go_ret
   exact ⟨_, rfl, by rw [numsB, ← List.append_assoc]; exact hown, hf, hko⟩
theorem wire_rows_int64 (w : World) (A : Option Addr) (n cap : Nat) : Calls Tryz.prog 157 #[.slice A n cap, .func (.func 128) #[] #[]] w fun e w' => e = .returned (.func (.func 183) #[] #[.pointer (some ⟨w.heap.size, 0, none⟩), .pointer (some ⟨w.heap.size + 1, 0, none⟩)]) ∧ w' = (w.alloc (.cells #[.slice A n cap] 132)).alloc (.cells #[.func (.func 128) #[] #[]] 219) := by
 go_enter Tryz.func157, Tryz.ntmps157
 go_wp2
 go_ret
 exact ⟨rfl, rfl⟩
theorem writer_Nums {w : World} {g base : Nat} {v : Value} {bs : List Int} {bad : Option Nat} (h : WriterAt w g base v bs bad) (hbase : base ≤ w.heap.size) {l : List Int} {F : Nat → Prop} {A : Option Addr} {cap : Nat} (hr : NumRow w F A l) (hA : ∀ k, F k → v.ownBlock ≠ some k) (hll : l.length ≤ 9223372036854775807) (hb : bs.length + (numsB l).length ≤ 1099511627776 ∨ 1024 < l.length) :
  Calls Tryz.prog 124 #[.pointer (some ⟨g, 0, none⟩), .slice A l.length cap] w (Put1 w g base v bs bad (if l.length ≤ 1024 then some (numsB l) else none)) := by
 have hf0 : Fr (fun _ => False) w ((w.alloc (Obj.cells #[.slice A l.length cap] 132)).alloc (Obj.cells #[.func (.func 128) #[] #[]] 219)) := ((Fr.refl _ _).alloc _).alloc _
 have h1 := h.fr hf0 id (fun _ _ => id)
 have hr1 := hr.fr hf0 (fun _ _ => id)
 have hx : ((w.alloc (Obj.cells #[.slice A l.length cap] 132)).alloc (Obj.cells #[.func (.func 128) #[] #[]] 219)).cell? ⟨w.heap.size, 0, none⟩ = some (.slice A l.length cap) := ((Blk.new w 132 #[.slice A l.length cap]).alloc _).cell 0
 have hy : ((w.alloc (Obj.cells #[.slice A l.length cap] 132)).alloc (Obj.cells #[.func (.func 128) #[] #[]] 219)).cell? ⟨w.heap.size + 1, 0, none⟩ = some (.func (.func 128) #[] #[]) := (Blk.new_ (w.alloc (Obj.cells #[.slice A l.length cap] 132)) 219 #[.func (.func 128) #[] #[]] (n := w.heap.size + 1) (by simp)).cell 0
 have hvx : v.ownBlock ≠ some w.heap.size := fun e => Nat.lt_irrefl _ (h.own.lt _ e)
 have hvy : v.ownBlock ≠ some (w.heap.size + 1) := fun e => by have := h.own.lt _ e; omega
 have HB := Lib.hid hb
 unfold Put1
 clear hr hb
 cases bad with
 | some a =>
  have e : wput bs (some a) (if l.length ≤ 1024 then some (numsB l) else none) = (bs, some a) := by split <;> rfl
  rw [e]
  go_enter Tryz.func124, Tryz.ntmps124
  go_wp2_with (first
   | (go_at_call 157; refine (wire_rows_int64 _ _ _ _).mono ?_; rintro e w1 ⟨rfl, rfl⟩)
   | (go_at_call 126; refine (add_bad h1 _ _).mono ?_; rintro e w' ⟨v1, rfl, h2, hf2, hk2⟩))
  refine bodyPost_ret (v := .tuple #[]) (by simp [results, Tryz.results124, go_sem]) rfl ?_
  exact Wrote.before ⟨v1, rfl, h2, hf2, hk2⟩ hf0
 | none =>
  by_cases hs : l.length ≤ 1024
  ·rw [if_pos hs]
   have hs' : (l.length : Int) ≤ 1024 := by omega
   have HS := Lib.hid hs
   simp only [wput]
   clear hs
   go_enter Tryz.func124, Tryz.ntmps124
   go_wp2_with (first
    | (go_at_call 157; refine (wire_rows_int64 _ _ _ _).mono ?_; rintro e w1 ⟨rfl, rfl⟩)
    | (go_at_call 126; refine (add_nums h1 w.heap.size (w.heap.size + 1) (rows_int64_1 h1.own hr1 hA (by simp; omega) (HB.out.resolve_right (by have := HS.out; omega)) _ _ hx hy hvx hvy)).mono ?_; rintro e w' ⟨v1, rfl, h2, hf2, hk2⟩))
   refine bodyPost_ret (v := .tuple #[]) (by simp [results, Tryz.results124, go_sem]) rfl ?_
   exact Wrote.before ⟨v1, rfl, h2, hf2, hk2⟩ hf0
  ·rw [if_neg hs]
   have hs' : ¬ (l.length : Int) ≤ 1024 := by omega
   simp only [wput]
   clear hs
   go_enter Tryz.func124, Tryz.ntmps124
   go_wp2_with (first
    | (go_at_call 157; refine (wire_rows_int64 _ _ _ _).mono ?_; rintro e w1 ⟨rfl, rfl⟩)
    | (go_at_call 126; refine (add_many h1 _).mono ?_; rintro e w' ⟨v1, rfl, h2, hf2, hk2⟩))
   refine bodyPost_ret (v := .tuple #[]) (by simp [results, Tryz.results124, go_sem]) rfl ?_
   exact Wrote.before ⟨v1, rfl, h2, hf2, hk2⟩ hf0
end Go.Proofs.YtmkdhhhoodeemaaGreat
