/- Words on rows of the call's own, for any element. -/
import Derived.Test.YtcfanacfjcgnbaaGreatDoorBase
namespace Go.Proofs.YtcfanacfjcgnbaaGreatDoor
open Go Go.RowKit
theorem add_at (b o k : Nat) : (⟨b, o, none⟩ : Addr).add k = ⟨b, o + k, none⟩ := by unfold Addr.add; split <;> simp_all
theorem Fr.grown_own {S : Nat → Prop} {a w w' : World} {base : Nat} {e : TypeId} {size : Nat} {v : Value} {n : Nat} {xs : List Value} (h : Fr S a w) (hown : w.ownsRow base e size v n xs) (hg : w.grownBy w' v.ownBlock) (hb : a.heap.size ≤ base) : Fr S a w' :=
  h.own hown ((Fr.refl (fun k => v.ownBlock = some k) w).grown hg (fun _ _ e1 => e1)) hb
theorem Blk.grown_own {w w' : World} {g : Nat} {t : TypeId} {cs : Array Value} {base : Nat} {e : TypeId} {size : Nat} {v : Value} {n : Nat} {xs : List Value} (h : Blk w g t cs) (hown : w.ownsRow base e size v n xs) (hg : w.grownBy w' v.ownBlock) (hne : e ≠ t) : Blk w' g t cs :=
  h.fr ((Fr.refl (fun k => v.ownBlock = some k) w).grown hg (fun _ _ e1 => e1)) (own_ne_blk hown h hne)
/-- A row of integers below block B. -/
def IntRow (w : World) (B : Nat) (A : Option Addr) (xs : List Int) : Prop :=
  ∀ k x, xs[k]? = some x → ∃ b o, A = some ⟨b, o, none⟩ ∧ b < B ∧ w.cell? ⟨b, o + k, none⟩ = some (.int .i64 x)
theorem IntRow.fr {S : Nat → Prop} {w w' : World} {B : Nat} {A : Option Addr} {xs : List Int} (h : IntRow w B A xs) (hf : Fr S w w') (hS : ∀ k, k < B → ¬ S k) : IntRow w' B A xs := by
  intro k x hx
  obtain ⟨b, o, e, hb, hc⟩ := h k x hx
  exact ⟨b, o, e, hb, hf.cell_some hc (hS b hb)⟩
theorem IntRow.mono {w : World} {B B' : Nat} {A : Option Addr} {xs : List Int} (h : IntRow w B A xs) (hB : B ≤ B') : IntRow w B' A xs := by
  intro k x hx
  obtain ⟨b, o, e, hb, hc⟩ := h k x hx
  exact ⟨b, o, e, Nat.lt_of_lt_of_le hb hB, hc⟩
theorem IntRow.away {S : Nat → Prop} {w w' : World} {B : Nat} {A : Option Addr} {xs : List Int} (h : IntRow w B A xs) (hf : Fr S w w') (hS : ∀ b o, A = some ⟨b, o, none⟩ → ¬ S b) : IntRow w' B A xs := by
  intro k x hx
  obtain ⟨b, o, e, hb, hc⟩ := h k x hx
  exact ⟨b, o, e, hb, hf.cell_some hc (hS b o e)⟩
def IntAt (w : World) (b o : Nat) (xs : List Int) : Prop := ∀ (k : Nat) (x : Int), xs[k]? = some x → w.cell? ⟨b, o + k, none⟩ = some (.int .i64 x)
theorem IntAt.fr {S : Nat → Prop} {w w' : World} {b o : Nat} {xs : List Int} (h : IntAt w b o xs) (hf : Fr S w w') (hs : ¬ S b) : IntAt w' b o xs :=
  fun k x hx => hf.cell_some (h k x hx) hs
theorem IntRow.at {w : World} {B : Nat} {A : Option Addr} {xs : List Int} (h : IntRow w B A xs) (hn : 0 < xs.length) : ∃ b o, A = some ⟨b, o, none⟩ ∧ b < B ∧ IntAt w b o xs := by
  obtain ⟨b, o, e, hb, _⟩ := h 0 xs[0] (List.getElem?_eq_getElem hn)
  refine ⟨b, o, e, hb, fun k x hx => ?_⟩
  obtain ⟨b', o', e', _, hc⟩ := h k x hx
  rw [e] at e'
  cases e'
  exact hc
def ints (xs : List Int) : List Value := xs.map fun x => .int .i64 x
theorem own_ge {w : World} {base : Nat} {e : TypeId} {size : Nat} {v : Value} {n : Nat} {xs : List Value} (h : w.ownsRow base e size v n xs) : ∀ k, v.ownBlock = some k → base ≤ k := by
  intro k hk
  rcases h.2 with ⟨rfl, _⟩ | ⟨g, cap, cur, rfl, hg, _⟩
  · cases hk
  · cases hk
    exact hg
end Go.Proofs.YtcfanacfjcgnbaaGreatDoor
