/- cohortlaw12: the World: its parts, and what steps leave. -/
import Derived.Test.YtcfanacfjcgnbaaGreatDoorOut
import Derived.Test.YtcfanacfjcgnbaaGreatDoorRef03
import Derived.Test.YtcfanacfjcgnbaaGreatDoorRef04
namespace Go.Proofs.YtcfanacfjcgnbaaGreatDoor
open Go Go.RowKit
/-- A block's type is none of the book's, the seals', the document's. -/
def Other (t : TypeId) : Prop := t ≠ 107 ∧ t ≠ 9 ∧ t ≠ 69 ∧ t ≠ 60 ∧ t ≠ 72 ∧ t ≠ 118
instance (t : TypeId) : Decidable (Other t) := by unfold Other; infer_instance
/-- What a step of the World leaves. -/
structure St (lo : Nat) (w w' : World) : Prop where
  fr : Fr (fun k => lo ≤ k) w w'
  blk : ∀ k t cs, Blk w k t cs → Other t → Blk w' k t cs
theorem St.of (lo : Nat) {w w' : World} (h : Fr (fun _ => False) w w') : St lo w w' := ⟨h.mono (fun _ _ h => h.elim), fun _ _ _ hB _ => hB.fr h id⟩
theorem St.trans {lo : Nat} {a b c : World} (h : St lo a b) (k : St lo b c) : St lo a c := ⟨h.fr.trans k.fr (fun _ _ h => h), fun x t cs hB ho => k.blk x t cs (h.blk x t cs hB ho) ho⟩
theorem own_cells {w : World} {base : Nat} {e : TypeId} {size n : Nat} {v : Value} {xs : List Value} (h : w.ownsRow base e size v n xs) {k : Nat} (hk : v.ownBlock = some k) : ∃ cs, Blk w k e cs := by
  rcases h.2 with ⟨rfl, _⟩ | ⟨g', cap, cur, rfl, _, hh, _⟩
  · cases hk
  · cases hk
    exact ⟨_, hh⟩
theorem own_st {lo : Nat} {w w' : World} {base : Nat} {e : TypeId} {size : Nat} {v : Value} {n : Nat} {xs : List Value} (h : w.ownsRow base e size v n xs) (hs : St lo w w') (ho : Other e) : w'.ownsRow base e size v n xs := by
  refine ⟨h.1, ?_⟩
  rcases h.2 with hn | ⟨g, cap, cur, rfl, hb, hgg, rest⟩
  · exact .inl hn
  · exact .inr ⟨g, cap, cur, rfl, hb, hs.blk _ _ _ hgg ho, rest⟩
theorem cells_inj {w : World} {k : Nat} {cs cs' : Array Value} {t t' : TypeId} {f f' : Nat × Nat} (h : w.heap[k]? = some (.cells cs t f)) (h' : w.heap[k]? = some (.cells cs' t' f')) : t = t' := by
  rw [h] at h'
  injection h' with h'
  injection h' with _ h2
theorem bs_ne {w : World} {g m base : Nat} {v : Value} {L : List (List Int)} {gs ms : Nat} {SL : List (Int × Int)} (h : BS w g m base v L gs ms SL) {k : Nat} {cs : Array Value} {t : TypeId} {f : Nat × Nat} (hk : w.heap[k]? = some (.cells cs t f)) (h1 : t ≠ 107) (h2 : t ≠ 9) : ¬ (k = g ∨ k = m ∨ v.ownBlock = some k ∨ k = ms) := by
  rintro (rfl | rfl | e | rfl)
  · exact h1 (cells_inj hk h.book.blk)
  · obtain ⟨⟨es, cl, h3, _⟩, _⟩ := h.book.map
    rw [hk] at h3
    cases h3
  · obtain ⟨cs', hB⟩ := own_cells h.book.own e
    exact h2 (cells_inj hk hB)
  · obtain ⟨es, cl, h3, _⟩ := h.seals.map
    rw [hk] at h3
    cases h3
theorem u8_ne_bs {w : World} {g m base : Nat} {v : Value} {L : List (List Int)} {gs ms : Nat} {SL : List (Int × Int)} (h : BS w g m base v L gs ms SL) (k : Nat) (hk : U8 w k) : ¬ (k = g ∨ k = m ∨ v.ownBlock = some k ∨ k = ms) := by
  obtain ⟨cs, f, h1⟩ := hk
  exact bs_ne h h1 (by decide) (by decide)
theorem rb_ne {w : World} {g base : Nat} {v : Value} {L : List (List Int)} (h : RBookAt w g base v L) {k : Nat} {o : Obj} (hk : w.heap[k]? = some o) (ho : ∀ cs t f, o = .cells cs t f → t ≠ 69 ∧ t ≠ 60) : ¬ (k = g ∨ v.ownBlock = some k) := by
  obtain ⟨vals, hown, _⟩ := h.row
  rintro (rfl | e)
  · exact (ho _ _ _ (Option.some.inj (hk.symm.trans h.blk))).1 rfl
  · obtain ⟨cs', hB⟩ := own_cells hown e
    exact (ho _ _ _ (Option.some.inj (hk.symm.trans hB))).2 rfl
theorem rq_ne {w : World} {g base : Nat} {v : Value} {L : List (Int × Int)} (h : RefAt w g base v L) {k : Nat} {o : Obj} (hk : w.heap[k]? = some o) (ho : ∀ cs t f, o = .cells cs t f → t ≠ 72 ∧ t ≠ 118) : ¬ (k = g ∨ v.ownBlock = some k) := by
  rintro (rfl | e)
  · exact (ho _ _ _ (Option.some.inj (hk.symm.trans h.blk))).1 rfl
  · obtain ⟨cs', hB⟩ := own_cells h.own e
    exact (ho _ _ _ (Option.some.inj (hk.symm.trans hB))).2 rfl
theorem tcell {cs cs' : Array Value} {t t' : TypeId} {f f' : Nat × Nat} {p q : TypeId} (e : Obj.cells cs t f = Obj.cells cs' t' f') (h1 : t ≠ p) (h2 : t ≠ q) : t' ≠ p ∧ t' ≠ q := by
  injection e with _ h
  subst h
  exact ⟨h1, h2⟩
/-- The blocks of a World, and what they hold. -/
structure WSAt (w : World) (lo gw g m base : Nat) (v : Value) (L : List (List Int)) (gs ms : Nat) (SL : List (Int × Int)) (gD bD : Nat) (vD : Value) (LD : List (List Int)) (gQ bQ : Nat) (vQ : Value) (SQ : List (Int × Int)) : Prop where
  blk : Blk w gw 39 #[.pointer (some ⟨g, 0, none⟩), .pointer (some ⟨gs, 0, none⟩), .pointer (some ⟨gD, 0, none⟩), .pointer (some ⟨gQ, 0, none⟩)]
  bs : BS w g m base v L gs ms SL
  rb : RBookAt w gD bD vD LD
  rq : RefAt w gQ bQ vQ SQ
  lo_g : lo ≤ g
  lo_m : lo ≤ m
  lo_b : lo ≤ base
  lo_s : lo ≤ ms
  lo_D : lo ≤ gD
  lo_bD : lo ≤ bD
  lo_Q : lo ≤ gQ
  lo_bQ : lo ≤ bQ
  b_le : base ≤ w.heap.size
  bD_le : bD ≤ w.heap.size
  bQ_le : bQ ≤ w.heap.size
section
variable {w w' : World} {lo gw g m base : Nat} {v v' : Value} {L L' : List (List Int)} {gs ms : Nat} {SL SL' : List (Int × Int)} {gD bD : Nat} {vD vD' : Value} {LD LD' : List (List Int)} {gQ bQ : Nat} {vQ vQ' : Value} {SQ SQ' : List (Int × Int)}
theorem WSAt.keep (h : WSAt w lo gw g m base v L gs ms SL gD bD vD LD gQ bQ vQ SQ) (hf : Fr (fun _ => False) w w') : WSAt w' lo gw g m base v L gs ms SL gD bD vD LD gQ bQ vQ SQ :=
  ⟨h.blk.fr hf id, h.bs.keep hf, h.rb.keep hf, h.rq.fr hf id (fun _ _ => id), h.lo_g, h.lo_m, h.lo_b, h.lo_s, h.lo_D, h.lo_bD, h.lo_Q, h.lo_bQ, Nat.le_trans h.b_le hf.size, Nat.le_trans h.bD_le hf.size, Nat.le_trans h.bQ_le hf.size⟩
/-- A step of the program's book and seals. -/
theorem WSAt.step (h : WSAt w lo gw g m base v L gs ms SL gD bD vD LD gQ bQ vQ SQ) (hb : BS w' g m base v' L' gs ms SL') (hf : Fr (fun k => k = g ∨ k = m ∨ v.ownBlock = some k ∨ k = ms) w w') :
    WSAt w' lo gw g m base v' L' gs ms SL' gD bD vD LD gQ bQ vQ SQ ∧ St lo w w' := by
  have hne := fun {k cs t f} => bs_ne (k := k) (cs := cs) (t := t) (f := f) h.bs
  refine ⟨⟨h.blk.fr hf (hne h.blk (by decide) (by decide)), hb, h.rb.fr hf (hne h.rb.blk (by decide) (by decide)) ?_ (u8_ne_bs h.bs), h.rq.fr hf (hne h.rq.blk (by decide) (by decide)) ?_, h.lo_g, h.lo_m, h.lo_b, h.lo_s, h.lo_D, h.lo_bD, h.lo_Q, h.lo_bQ, Nat.le_trans h.b_le hf.size, Nat.le_trans h.bD_le hf.size, Nat.le_trans h.bQ_le hf.size⟩, hf.mono ?_, fun k t cs hB ho => hB.fr hf (hne hB ho.1 ho.2.1)⟩
  · intro k hk
    obtain ⟨vals, hown, _⟩ := h.rb.row
    obtain ⟨cs, hB⟩ := own_cells hown hk
    exact hne hB (by decide) (by decide)
  · intro k hk
    obtain ⟨cs, hB⟩ := own_cells h.rq.own hk
    exact hne hB (by decide) (by decide)
  · intro k _ e
    rcases e with rfl | rfl | e | rfl
    · exact h.lo_g
    · exact h.lo_m
    · exact Nat.le_trans h.lo_b (own_ge h.bs.book.own k e)
    · exact h.lo_s
/-- A step of the document's book. -/
theorem WSAt.stepD (h : WSAt w lo gw g m base v L gs ms SL gD bD vD LD gQ bQ vQ SQ) (hb : RBookAt w' gD bD vD' LD') (hf : Fr (fun k => k = gD ∨ vD.ownBlock = some k) w w') :
    WSAt w' lo gw g m base v L gs ms SL gD bD vD' LD' gQ bQ vQ SQ ∧ St lo w w' := by
  have hne := fun {k o} => rb_ne (k := k) (o := o) h.rb
  have hc := fun {k cs t} (hB : Blk w k t cs) (h1 : t ≠ 69) (h2 : t ≠ 60) => hne hB (fun cs' t' f e => tcell e h1 h2)
  refine ⟨⟨h.blk.fr hf (hc h.blk (by decide) (by decide)), ⟨h.bs.book.fr hf (hc h.bs.book.blk (by decide) (by decide)) ?_ ?_, h.bs.seals.fr hf (hc h.bs.seals.blk (by decide) (by decide)) ?_, h.bs.ne⟩, hb, h.rq.fr hf (hc h.rq.blk (by decide) (by decide)) ?_, h.lo_g, h.lo_m, h.lo_b, h.lo_s, h.lo_D, h.lo_bD, h.lo_Q, h.lo_bQ, Nat.le_trans h.b_le hf.size, Nat.le_trans h.bD_le hf.size, Nat.le_trans h.bQ_le hf.size⟩, hf.mono ?_, fun k t cs hB ho => hB.fr hf (hc hB ho.2.2.1 ho.2.2.2.1)⟩
  · obtain ⟨⟨es, cl, h3, _⟩, _⟩ := h.bs.book.map
    exact hne h3 (fun _ _ _ e => by cases e)
  · intro k hk
    obtain ⟨cs, hB⟩ := own_cells h.bs.book.own hk
    exact hc hB (by decide) (by decide)
  · obtain ⟨es, cl, h3, _⟩ := h.bs.seals.map
    exact hne h3 (fun _ _ _ e => by cases e)
  · intro k hk
    obtain ⟨cs, hB⟩ := own_cells h.rq.own hk
    exact hc hB (by decide) (by decide)
  · intro k _ e
    obtain ⟨vals, hown, _⟩ := h.rb.row
    rcases e with rfl | e
    · exact h.lo_D
    · exact Nat.le_trans h.lo_bD (own_ge hown k e)
/-- A step of the document's seals. -/
theorem WSAt.stepQ (h : WSAt w lo gw g m base v L gs ms SL gD bD vD LD gQ bQ vQ SQ) (hb : RefAt w' gQ bQ vQ' SQ') (hf : Fr (fun k => k = gQ ∨ vQ.ownBlock = some k) w w') :
    WSAt w' lo gw g m base v L gs ms SL gD bD vD LD gQ bQ vQ' SQ' ∧ St lo w w' := by
  have hne := fun {k o} => rq_ne (k := k) (o := o) h.rq
  have hc := fun {k cs t} (hB : Blk w k t cs) (h1 : t ≠ 72) (h2 : t ≠ 118) => hne hB (fun cs' t' f e => tcell e h1 h2)
  refine ⟨⟨h.blk.fr hf (hc h.blk (by decide) (by decide)), ⟨h.bs.book.fr hf (hc h.bs.book.blk (by decide) (by decide)) ?_ ?_, h.bs.seals.fr hf (hc h.bs.seals.blk (by decide) (by decide)) ?_, h.bs.ne⟩, h.rb.fr hf (hc h.rb.blk (by decide) (by decide)) ?_ ?_, hb, h.lo_g, h.lo_m, h.lo_b, h.lo_s, h.lo_D, h.lo_bD, h.lo_Q, h.lo_bQ, Nat.le_trans h.b_le hf.size, Nat.le_trans h.bD_le hf.size, Nat.le_trans h.bQ_le hf.size⟩, hf.mono ?_, fun k t cs hB ho => hB.fr hf (hc hB ho.2.2.2.2.1 ho.2.2.2.2.2)⟩
  · obtain ⟨⟨es, cl, h3, _⟩, _⟩ := h.bs.book.map
    exact hne h3 (fun _ _ _ e => by cases e)
  · intro k hk
    obtain ⟨cs, hB⟩ := own_cells h.bs.book.own hk
    exact hc hB (by decide) (by decide)
  · obtain ⟨es, cl, h3, _⟩ := h.bs.seals.map
    exact hne h3 (fun _ _ _ e => by cases e)
  · intro k hk
    obtain ⟨vals, hown, _⟩ := h.rb.row
    obtain ⟨cs, hB⟩ := own_cells hown hk
    exact hc hB (by decide) (by decide)
  · intro k ⟨cs, f, h1⟩
    exact hne h1 (fun cs' t' f e => tcell e (by decide) (by decide))
  · intro k _ e
    rcases e with rfl | e
    · exact h.lo_Q
    · exact Nat.le_trans h.lo_bQ (own_ge h.rq.own k e)
end
/-- A World: the program's book has the texts L, its seals the pairs SL; the document's book has LD; its seals nQ at most. -/
def WS (w : World) (lo gw : Nat) (L : List (List Int)) (SL : List (Int × Int)) (LD : List (List Int)) (nQ : Nat) : Prop :=
  ∃ g m base v gs ms gD bD vD gQ bQ vQ SQ, WSAt w lo gw g m base v L gs ms SL gD bD vD LD gQ bQ vQ SQ ∧ SQ.length ≤ nQ
theorem WS.keep {w w' : World} {lo gw : Nat} {L : List (List Int)} {SL : List (Int × Int)} {LD : List (List Int)} {nQ : Nat} (h : WS w lo gw L SL LD nQ) (hf : Fr (fun _ => False) w w') : WS w' lo gw L SL LD nQ := by
  obtain ⟨g, m, base, v, gs, ms, gD, bD, vD, gQ, bQ, vQ, SQ, h, hq⟩ := h
  exact ⟨g, m, base, v, gs, ms, gD, bD, vD, gQ, bQ, vQ, SQ, h.keep hf, hq⟩
end Go.Proofs.YtcfanacfjcgnbaaGreatDoor
