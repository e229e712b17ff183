/- seals.Many; client: signed, Said, Word. -/
import Derived.Test.YtcfanacfjcgnbaaGreatDoorSaid
namespace Go.Proofs.YtcfanacfjcgnbaaGreatDoor
open Go Go.RowKit
/-- The program's book and seals, apart from one another. -/
structure BS (w : World) (g m base : Nat) (v : Value) (L : List (List Int)) (gs ms : Nat) (SL : List (Int × Int)) : Prop where
  book : BookAt w g m base v L
  seals : SealsAt w gs ms SL
  ne : m ≠ ms
theorem BS.keep {w w' : World} {g m base : Nat} {v : Value} {L : List (List Int)} {gs ms : Nat} {SL : List (Int × Int)} (h : BS w g m base v L gs ms SL) (hf : Fr (fun _ => False) w w') : BS w' g m base v L gs ms SL := ⟨h.book.keep hf, h.seals.fr hf id id, h.ne⟩
theorem own_ne_pair {w : World} {base : Nat} {e : TypeId} {size n m : Nat} {v : Value} {xs : List Value} {L : List (Int × Int)} (h : w.ownsRow base e size v n xs) (hm : PairMap w m L) : v.ownBlock ≠ some m := own_ne_map h hm
theorem BS.apart {w : World} {g m base : Nat} {v : Value} {L : List (List Int)} {gs ms : Nat} {SL : List (Int × Int)} (h : BS w g m base v L gs ms SL) : (∀ k, k = gs ∨ k = ms → ¬ (k = g ∨ k = m ∨ v.ownBlock = some k)) := by
  obtain ⟨es, cl, h1, _⟩ := h.seals.map
  obtain ⟨⟨es2, cl2, h2, _⟩, _⟩ := h.book.map
  intro k hk e
  rcases hk with rfl | rfl
  · rcases e with e | e | e
    · exact h.seals.blk.ne_ h.book.blk (by decide) e
    · exact h.seals.blk.ne_map h2 e
    · exact own_ne_blk h.book.own h.seals.blk (by decide) e
  · rcases e with e | e | e
    · exact h.book.blk.ne_map h1 e.symm
    · exact h.ne e.symm
    · exact own_ne_map h.book.own h.seals.map e
theorem BS.bookStep {w w' : World} {g m base : Nat} {v v' : Value} {L L' : List (List Int)} {gs ms : Nat} {SL : List (Int × Int)} (h : BS w g m base v L gs ms SL) (hb : BookAt w' g m base v' L') (hf : Fr (fun k => k = g ∨ k = m ∨ v.ownBlock = some k) w w') : BS w' g m base v' L' gs ms SL :=
  ⟨hb, h.seals.fr hf (h.apart gs (.inl rfl)) (h.apart ms (.inr rfl)), h.ne⟩
theorem BS.sealStep {w w' : World} {g m base : Nat} {v : Value} {L : List (List Int)} {gs ms : Nat} {SL SL' : List (Int × Int)} (h : BS w g m base v L gs ms SL) (hs : SealsAt w' gs ms SL') (hf : Fr (fun k => k = ms) w w') : BS w' g m base v L gs ms SL' := by
  have ha := h.apart ms (.inr rfl)
  exact ⟨h.book.fr hf (fun e => ha (.inl e.symm)) (fun e => ha (.inr (.inl e.symm))) (fun k hk e => ha (.inr (.inr (e ▸ hk)))), hs, h.ne⟩
def wrapO (s : ByteArray) (n : Int) (o : Option (List (ByteArray × Int) × Int)) : Option (List (ByteArray × Int) × Int) := o.map fun q => ((s, n) :: q.1, q.2)
def sgnI (who d : Int) (SL : List (Int × Int)) : Int := if (signErr who d SL).isNone then d else -1
theorem client_signed {w : World} {gs ms : Nat} {SL : List (Int × Int)} (h : SealsAt w gs ms SL) (c d : Int) (hc : c ≤ 9223372036854775807) :
    Calls Tryz.prog 26 #[.pointer (some ⟨gs, 0, none⟩), .int .i64 c, .int .i64 d, .nilIface] w fun e w' => e = .returned (.tuple #[.int .i64 (sgnI (clientOf c) d SL), errO (wrapO (⟨#[99, 108, 105, 101, 110, 116]⟩ : ByteArray) c (signErr (clientOf c) d SL))]) ∧ SealsAt w' gs ms (signL (clientOf c) d SL) ∧ Fr (fun k => k = ms) w w' := by
  have hcl : clientOf c ≤ 9223372036854775807 := by unfold clientOf; split <;> omega
  have HS := Lib.hid (seals_Sign h (clientOf c) d hcl)
  cases ho : signErr (clientOf c) d SL with
  | none =>
    have e1 : sgnI (clientOf c) d SL = d := by unfold sgnI; rw [ho]; rfl
    rw [e1]
    have HS : Hid (Calls Tryz.prog 28 #[.pointer (some ⟨gs, 0, none⟩), .int .i64 (clientOf c), .int .i64 d] w fun e w' => e = .returned .nilIface ∧ SealsAt w' gs ms (signL (clientOf c) d SL) ∧ Fr (fun x => x = ms) w w') := HS.out.mono fun e w' ⟨h1, h2⟩ => ⟨by rw [h1, ho]; rfl, h2⟩
    clear e1 ho h
    go_enter Tryz.func26, Tryz.ntmps26
    go_wp2_with (first | (go_at_call 41; refine (seals_Client c _).mono ?_; rintro e w' ⟨rfl, rfl⟩) | (go_at_call 28; refine HS.out.mono ?_; rintro e w' ⟨rfl, h1, hf1⟩))
    refine bodyPost_ret (v := .tuple #[.int .i64 d, .nilIface]) (by simp [results, Tryz.results26, go_sem]) rfl ?_
    exact ⟨rfl, h1, hf1⟩
  | some q =>
    have e1 : sgnI (clientOf c) d SL = -1 := by unfold sgnI; rw [ho]; rfl
    rw [e1]
    obtain ⟨l, k⟩ := q
    obtain ⟨t, u, hu⟩ := errV_iface l k
    have HW := Lib.hid (fun w => fault_Wrap l k (⟨#[99, 108, 105, 101, 110, 116]⟩ : ByteArray) c w)
    obtain ⟨t2, u2, hu2⟩ := errV_iface (((⟨#[99, 108, 105, 101, 110, 116]⟩ : ByteArray), c) :: l) k
    rw [hu, hu2] at HW
    have HS : Hid (Calls Tryz.prog 28 #[.pointer (some ⟨gs, 0, none⟩), .int .i64 (clientOf c), .int .i64 d] w fun e w' => e = .returned (.iface t u) ∧ SealsAt w' gs ms (signL (clientOf c) d SL) ∧ Fr (fun x => x = ms) w w') := HS.out.mono fun e w' ⟨h1, h2⟩ => ⟨by rw [h1, ho, ← hu]; rfl, h2⟩
    have HE : Hid (errO (wrapO (⟨#[99, 108, 105, 101, 110, 116]⟩ : ByteArray) c (some (l, k))) = .iface t2 u2) := hu2
    clear e1 ho h hu hu2
    go_enter Tryz.func26, Tryz.ntmps26
    go_wp2_with (first | (go_at_call 41; refine (seals_Client c _).mono ?_; rintro e w' ⟨rfl, rfl⟩) | (go_at_call 28; refine HS.out.mono ?_; rintro e w' ⟨rfl, h1, hf1⟩) | (go_at_call 42; refine (HW.out _).mono ?_; rintro e w' ⟨rfl, rfl⟩))
    refine bodyPost_ret (v := .tuple #[.int .i64 (-1), .iface t2 u2]) (by simp [results, Tryz.results26, go_sem]) rfl ?_
    exact ⟨by rw [HE.out], h1, hf1⟩
theorem client_signed_err (w : World) (gs : Nat) (c d : Int) (l : List (ByteArray × Int)) (k : Int) :
    Calls Tryz.prog 26 #[.pointer (some ⟨gs, 0, none⟩), .int .i64 c, .int .i64 d, errV l k] w fun e w' => e = .returned (.tuple #[.int .i64 (-1), errV (((⟨#[99, 108, 105, 101, 110, 116]⟩ : ByteArray), c) :: l) k]) ∧ w = w' := by
  obtain ⟨t, u, hu⟩ := errV_iface l k
  have HW := Lib.hid (fun w => fault_Wrap l k (⟨#[99, 108, 105, 101, 110, 116]⟩ : ByteArray) c w)
  obtain ⟨t2, u2, hu2⟩ := errV_iface (((⟨#[99, 108, 105, 101, 110, 116]⟩ : ByteArray), c) :: l) k
  rw [hu, hu2] at HW
  rw [hu, hu2]
  clear hu hu2
  go_enter Tryz.func26, Tryz.ntmps26
  go_wp2_with (go_at_call 42; refine (HW.out _).mono ?_; rintro e w' ⟨rfl, rfl⟩)
  refine bodyPost_ret (v := .tuple #[.int .i64 (-1), .iface t2 u2]) (by simp [results, Tryz.results26, go_sem]) rfl ?_
  exact ⟨rfl, rfl⟩
end Go.Proofs.YtcfanacfjcgnbaaGreatDoor
