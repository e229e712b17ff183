/- client: Said, Word. -/
import Derived.Test.YtcfanacfjcgnbaaGreatDoorClient
namespace Go.Proofs.YtcfanacfjcgnbaaGreatDoor
open Go Go.RowKit
/-- A step of the book and the seals that answers r. -/
def BSStep (w : World) (g m base : Nat) (v : Value) (L' : List (List Int)) (gs ms : Nat) (SL' : List (Int × Int)) (r : Value) (e : Ending) (w' : World) : Prop :=
  ∃ v', e = .returned r ∧ BS w' g m base v' L' gs ms SL' ∧ Fr (fun k => k = g ∨ k = m ∨ v.ownBlock = some k ∨ k = ms) w w' ∧ ∀ k, v'.ownBlock = some k → v.ownBlock = some k ∨ w.heap.size ≤ k
def SayArg (kind txn : Int) (yes : Bool) (ff tt : ByteArray) (epoch shard target root : Int) : Value := .agg #[.int .i64 kind, .int .i64 txn, .bool yes, .string ff, .string tt, .int .i64 epoch, .int .i64 shard, .int .i64 target, .int .i64 root]
def saidN (gr : Int) (L : List (List Int)) (SL : List (Int × Int)) (s : SayD) : Nat := if OkSay s then (whoTo gr (sayI L s) SL 10).length else 0
set_option maxRecDepth 100000 in
theorem client_Said {w : World} {g m base : Nat} {v : Value} {L : List (List Int)} {gs ms : Nat} {SL : List (Int × Int)} (h : BS w g m base v L gs ms SL) (hbase : base ≤ w.heap.size) (hL : L.length < 65536) (gr : Int) (kind txn : Int) (yes : Bool) (ff tt : ByteArray) (epoch shard target root : Int) :
    Calls Tryz.prog 25 #[.pointer (some ⟨g, 0, none⟩), .pointer (some ⟨gs, 0, none⟩), .int .i64 gr, .agg #[.int .i64 kind, .int .i64 txn, .bool yes, .string ff, .string tt, .int .i64 epoch, .int .i64 shard, .int .i64 target, .int .i64 root]] w (BSStep w g m base v (sayL L ⟨kind, txn, yes, ff, tt, epoch, shard, target, root⟩) gs ms SL (.int .i64 (saidN gr L SL ⟨kind, txn, yes, ff, tt, epoch, shard, target, root⟩ : Nat))) := by
  have hf0 : Fr (fun _ => False) w (w.alloc (Obj.cells #[.int .i64 kind, .int .i64 txn, .bool yes, .string ff, .string tt, .int .i64 epoch, .int .i64 shard, .int .i64 target, .int .i64 root] 42)) := (Fr.refl _ _).alloc _
  have h0 := h.keep hf0
  have HD := say_Digest1 h0.book (Nat.le_trans hbase hf0.size) hL kind txn yes ff tt epoch shard target root
  by_cases hok : OkSay ⟨kind, txn, yes, ff, tt, epoch, shard, target, root⟩
  · have hso : saidO ⟨kind, txn, yes, ff, tt, epoch, shard, target, root⟩ = none := if_pos hok
    have hn : saidN gr L SL ⟨kind, txn, yes, ff, tt, epoch, shard, target, root⟩ = (whoTo gr (sayI L ⟨kind, txn, yes, ff, tt, epoch, shard, target, root⟩) SL 10).length := if_pos hok
    rw [hso] at HD
    rw [hn]
    generalize sayI L ⟨kind, txn, yes, ff, tt, epoch, shard, target, root⟩ = d at HD ⊢
    generalize sayL L ⟨kind, txn, yes, ff, tt, epoch, shard, target, root⟩ = L' at HD ⊢
    have HD := Lib.hid HD
    clear hok hso hn
    go_enter Tryz.func25, Tryz.ntmps25
    go_wp2_with fail
    refine HD.out.mono ?_
    rintro e w1 ⟨v1, rfl, hb1, hf1, hk1⟩
    have h1 := h0.bookStep hb1 hf1
    have hnil : errO none = .nilIface := rfl
    rw [hnil]
    clear HD hnil
    go_wp2_with fail
    refine (seals_Who h1.seals gr d).mono ?_
    rintro e w2 ⟨v2, rfl, hown2, hf2⟩
    obtain ⟨A2, cap2, rfl, _, _⟩ := own_form hown2
    go_wp2_with fail
    go_ret
    refine ⟨v1, rfl, h1.keep hf2, ?_, fun k hk => (hk1 k hk).imp_right (Nat.le_trans hf0.size)⟩
    refine ((hf0.mono (fun _ _ h => h.elim)).trans hf1 (fun k _ e => ?_)).then_ hf2
    rcases e with e | e | e
    · exact .inl e
    · exact .inr (.inl e)
    · exact .inr (.inr (.inl e))
  · have hso : saidO ⟨kind, txn, yes, ff, tt, epoch, shard, target, root⟩ = some ([((⟨#[115, 97, 121]⟩ : ByteArray), kind)], 111) := if_neg hok
    have hn : saidN gr L SL ⟨kind, txn, yes, ff, tt, epoch, shard, target, root⟩ = 0 := if_neg hok
    obtain ⟨t, u, hu⟩ := errO_some ([((⟨#[115, 97, 121]⟩ : ByteArray), kind)], 111)
    rw [hso, hu] at HD
    rw [hn]
    generalize sayI L ⟨kind, txn, yes, ff, tt, epoch, shard, target, root⟩ = d at HD ⊢
    generalize sayL L ⟨kind, txn, yes, ff, tt, epoch, shard, target, root⟩ = L' at HD ⊢
    have HD := Lib.hid HD
    clear hok hso hn hu
    go_enter Tryz.func25, Tryz.ntmps25
    go_wp2_with (go_at_call 39; refine HD.out.mono ?_; rintro e w1 ⟨v1, rfl, hb1, hf1, hk1⟩)
    go_ret
    refine ⟨v1, rfl, h0.bookStep hb1 hf1, ?_, fun k hk => (hk1 k hk).imp_right (Nat.le_trans hf0.size)⟩
    refine (hf0.mono (fun _ _ h => h.elim)).trans hf1 (fun k _ e => ?_)
    rcases e with e | e | e
    · exact .inl e
    · exact .inr (.inl e)
    · exact .inr (.inr (.inl e))
def wordI (who : Int) (L : List (List Int)) (SL : List (Int × Int)) (s : SayD) : Int := if OkSay s then sgnI (clientOf who) (sayI L s) SL else -1
def wordO (who : Int) (L : List (List Int)) (SL : List (Int × Int)) (s : SayD) : Option (List (ByteArray × Int) × Int) := if OkSay s then wrapO (⟨#[99, 108, 105, 101, 110, 116]⟩ : ByteArray) who (signErr (clientOf who) (sayI L s) SL) else some ([((⟨#[99, 108, 105, 101, 110, 116]⟩ : ByteArray), who), ((⟨#[115, 97, 121]⟩ : ByteArray), s.kind)], 111)
def wordS (who : Int) (L : List (List Int)) (SL : List (Int × Int)) (s : SayD) : List (Int × Int) := if OkSay s then signL (clientOf who) (sayI L s) SL else SL
end Go.Proofs.YtcfanacfjcgnbaaGreatDoor
