/- A World's book and seals, taken out and put back. -/
import Derived.Test.YtcfanacfjcgnbaaGreatDoorVote
import Derived.Test.YtcfanacfjcgnbaaGreatDoorOpen20
namespace Go.Proofs.YtcfanacfjcgnbaaGreatDoor
open Go Go.RowKit
theorem GoodL.say {L : List (List Int)} (h : GoodL L) (s : SayD) : GoodL (sayL L s) := by
  unfold sayL
  split
  · rename_i hok
    obtain ⟨h1, h2, h3⟩ := sayB_length hok
    exact h.dig (by omega)
  · exact h
theorem GoodL.outStep {L : List (List Int)} {SL : List (Int × Int)} (h : GoodL L) (k : Int) {xs : List Int} (hx : xs.length ≤ 65536) : GoodL (outL k L SL xs) := by
  unfold outL
  split
  · exact (h.dig hx).say _
  · exact ((h.dig hx).say _).say _
theorem digL_prefix (L : List (List Int)) (xs : List Int) : L <+: digL L xs := by
  unfold digL
  split
  · exact List.prefix_rfl
  · exact List.prefix_append _ _
theorem sayL_prefix (L : List (List Int)) (s : SayD) : L <+: sayL L s := by
  unfold sayL
  split
  · exact digL_prefix _ _
  · exact List.prefix_rfl
theorem outL_prefix (k : Int) (L : List (List Int)) (SL : List (Int × Int)) (xs : List Int) : L <+: outL k L SL xs := by
  unfold outL
  split
  · exact (digL_prefix L xs).trans (sayL_prefix _ _)
  · exact ((digL_prefix L xs).trans (sayL_prefix _ _)).trans (sayL_prefix _ _)
theorem outL_len (k : Int) (L : List (List Int)) (SL : List (Int × Int)) (xs : List Int) : (outL k L SL xs).length ≤ L.length + 3 := by
  have h1 := digL_len L xs
  have h2 := sayL_len (digL L xs) (decS (digI L xs : Nat) true)
  have h3 := sayL_len (sayL (digL L xs) (decS (digI L xs : Nat) true)) (decS (digI L xs : Nat) false)
  unfold outL
  split <;> omega
/-- The World's book and seals, and what it is behind a step of theirs. -/
structure Lens (w : World) (lo gw : Nat) (L : List (List Int)) (SL : List (Int × Int)) (nQ : Nat) (g m base : Nat) (v : Value) (gs ms gD gQ : Nat) : Prop where
  blk : Blk w gw 39 #[.pointer (some ⟨g, 0, none⟩), .pointer (some ⟨gs, 0, none⟩), .pointer (some ⟨gD, 0, none⟩), .pointer (some ⟨gQ, 0, none⟩)]
  bs : BS w g m base v L gs ms SL
  base_le : base ≤ w.heap.size
  b : w.cell? ⟨gw, 0, none⟩ = some (.pointer (some ⟨g, 0, none⟩))
  s : w.cell? ⟨gw, 1, none⟩ = some (.pointer (some ⟨gs, 0, none⟩))
  back : ∀ (w' : World) (v' : Value) (L' : List (List Int)) (SL' : List (Int × Int)), BS w' g m base v' L' gs ms SL' → Fr (fun k => k = g ∨ k = m ∨ v.ownBlock = some k ∨ k = ms) w w' → GoodL L' → L <+: L' → WP w' lo gw L' SL' nQ ∧ St lo w w'
theorem WP.open {w : World} {lo gw : Nat} {L : List (List Int)} {SL : List (Int × Int)} {nQ : Nat} (h : WP w lo gw L SL nQ) : ∃ g m base v gs ms gD gQ, Lens w lo gw L SL nQ g m base v gs ms gD gQ := by
  obtain ⟨hg, LD, hp, g, m, base, v, gs, ms, gD, bD, vD, gQ, bQ, vQ, SQ, h, hq⟩ := h
  refine ⟨g, m, base, v, gs, ms, gD, gQ, h.blk, h.bs, h.b_le, h.blk.cell 0, h.blk.cell 1, fun w' v' L' SL' hb hf hg' hp' => ?_⟩
  obtain ⟨h1, h2⟩ := h.step hb hf
  exact ⟨⟨hg', LD, hp.trans hp', g, m, base, v', gs, ms, gD, bD, vD, gQ, bQ, vQ, SQ, h1, hq⟩, h2⟩
theorem Lens.step {w w' : World} {lo gw : Nat} {L L' : List (List Int)} {SL SL' : List (Int × Int)} {nQ : Nat} {g m base : Nat} {v : Value} {gs ms gD gQ : Nat} {r : Value} {e : Ending} (h : Lens w lo gw L SL nQ g m base v gs ms gD gQ) (hb : BSStep w g m base v L' gs ms SL' r e w') (hg : GoodL L') (hp : L <+: L') :
    e = .returned r ∧ WP w' lo gw L' SL' nQ ∧ St lo w w' := by
  obtain ⟨v', he, hb, hf, _⟩ := hb
  exact ⟨he, h.back w' v' L' SL' hb hf hg hp⟩
theorem WP.good {w : World} {lo gw : Nat} {L : List (List Int)} {SL : List (Int × Int)} {nQ : Nat} (h : WP w lo gw L SL nQ) : GoodL L := h.1
/-- A step of the World as a whole. -/
theorem WP.of_step {w w' : World} {lo gw : Nat} {L : List (List Int)} {SL : List (Int × Int)} {nQ : Nat} {r : Value} {e : Ending} (hg : GoodL L) (h : WStep w lo gw L SL L nQ r e w') : e = .returned r ∧ WP w' lo gw L SL nQ ∧ St lo w w' :=
  ⟨h.1, ⟨hg, L, List.prefix_rfl, h.2.1⟩, h.2.2⟩
theorem wp_Digest {w : World} {lo gw : Nat} {L : List (List Int)} {SL : List (Int × Int)} {nQ : Nat} (h : WP w lo gw L SL nQ) (hL : L.length < 5000) {b : Nat} {A : Option Addr} {cap : Nat} {xs : List Int} (hv : Own8 w b (.slice A xs.length cap) xs) (h8 : B8 xs) (hx : xs.length ≤ 65536) :
    Calls Tryz.prog 16 #[.pointer (some ⟨gw, 0, none⟩), .slice A xs.length cap] w (fun e w' => e = .returned (.int .i64 (digI L xs : Nat)) ∧ WP w' lo gw (digL L xs) SL nQ ∧ St lo w w') := by
  obtain ⟨hg, LD, hp, h⟩ := h
  exact (law12_Digest h hg hp hL hv h8 hx).mono fun _ _ hs => WP.of_step (hg.dig hx) hs
theorem wp_Sign {w : World} {lo gw : Nat} {L : List (List Int)} {SL : List (Int × Int)} {nQ : Nat} (h : WP w lo gw L SL nQ) (hn : nQ < 131000) (gr mask d : Int) :
    Calls Tryz.prog 15 #[.pointer (some ⟨gw, 0, none⟩), .int .i64 gr, .int .i64 mask, .int .i64 d] w (fun e w' => ∃ r, e = .returned r ∧ WP w' lo gw L (signTo gr mask d SL 10) (nQ + 10) ∧ St lo w w') := by
  obtain ⟨hg, LD, hp, h⟩ := h
  exact (law12_Sign h hn gr mask d).mono fun _ _ ⟨r, h1, h2, h3⟩ => ⟨r, h1, ⟨hg, LD, hp, h2⟩, h3⟩
theorem wp_Txn {w : World} {lo gw : Nat} {L : List (List Int)} {SL : List (Int × Int)} {nQ : Nat} (h : WP w lo gw L SL nQ) (hL : L.length < 5000) {F : Nat → Prop} {A B : Option Addr} {cr cw : Nat} {c n : Int} {R : List (ByteArray × Int)} {W : List (ByteArray × ByteArray)} (hr : ReadRow w F A R) (hw : WriteRow w F B W) (ht : TOk c n R W) :
    Calls Tryz.prog 9 #[.pointer (some ⟨gw, 0, none⟩), .agg #[.int .i64 c, .int .i64 n, .slice A R.length cr, .slice B W.length cw]] w (fun e w' => e = .returned (.int .i64 (digI L (txnB c n R W) : Nat)) ∧ WP w' lo gw (digL L (txnB c n R W)) SL nQ ∧ St lo w w') := by
  obtain ⟨hg, LD, hp, h⟩ := h
  exact (law12_Txn h hg hp hL hr hw ht).mono fun _ _ hs => WP.of_step (hg.dig (txnB_len ht)) hs
theorem wp_Start (w : World) : Calls Tryz.prog 6 #[] w (fun e w' => ∃ gw, e = .returned (.tuple #[.pointer (some ⟨gw, 0, none⟩), .bool true]) ∧ w.heap.size ≤ gw ∧ WP w' w.heap.size gw [] [] 0 ∧ Fr (fun _ => False) w w') :=
  (law12_Start w).mono fun _ _ ⟨gw, h1, h2, h3, h4⟩ => ⟨gw, h1, h2, ⟨GoodL.nil, [], List.prefix_rfl, h3⟩, h4⟩
theorem ReadRow.st {lo : Nat} {w w' : World} {A : Option Addr} {l : List (ByteArray × Int)} (h : ReadRow w (fun k => k < lo) A l) (hs : St lo w w') : ReadRow w' (fun k => k < lo) A l := h.fr hs.fr (fun k hk e => by omega)
theorem WriteRow.st {lo : Nat} {w w' : World} {A : Option Addr} {l : List (ByteArray × ByteArray)} (h : WriteRow w (fun k => k < lo) A l) (hs : St lo w w') : WriteRow w' (fun k => k < lo) A l := h.fr hs.fr (fun k hk e => by omega)
theorem VoteRow.st {lo : Nat} {w w' : World} {A : Option Addr} {l : List VoteD} (h : VoteRow w (fun k => k < lo) A l) (hs : St lo w w') : VoteRow w' (fun k => k < lo) A l := h.fr hs.fr (fun k hk e => by omega)
theorem WP.size_le {w : World} {lo gw : Nat} {L : List (List Int)} {SL : List (Int × Int)} {nQ : Nat} (h : WP w lo gw L SL nQ) : lo ≤ w.heap.size := h.lo_le
end Go.Proofs.YtcfanacfjcgnbaaGreatDoor
