/- RelayOrdersSaid: for every input the law returns true, and each argument reads behind the call as it read before. No condition. -/
import Derived.BigQuiet
import Derived.Deep.RegionHeld3
import Derived.Deep.AppendLies
import Derived.Lib.SlBytesConst
import Derived.Test.YtmkdhhhoodeemaaGreatRoLProofGa
import Derived.Test.YtmkdhhhoodeemaaGreatRoLProofGb
import Derived.Test.YtmkdhhhoodeemaaGreatRoLProofGc
import Derived.Test.YtmkdhhhoodeemaaGreatRoLProofGd
import Derived.Test.YtmkdhhhoodeemaaGreatRoLProofGe
import Derived.Test.YtmkdhhhoodeemaaGreatRoLProofGf
import Derived.Test.YtmkdhhhoodeemaaGreatRoLProofJa
import Derived.Test.YtmkdhhhoodeemaaGreatRoLProofJb
import Derived.Test.YtmkdhhhoodeemaaGreatRoLProofJc
set_option linter.unusedVariables false
set_option linter.unusedSimpArgs false
set_option maxRecDepth 100000
set_option maxHeartbeats 16000000
namespace Go.Proofs.YtmkdhhhoodeemaaGreat
open Go Go.RowKit
theorem orders_bad {w : World} {g m base : Nat} {v : Value} {L : List (List Int)} {gs ms : Nat} {SL : List (Int × Int)} (hb : BS w g m base v L gs ms SL) (hbase : base ≤ w.heap.size) (hL : L.length < 65536) {kind txn : Int} {yes : Bool} {ff tt : ByteArray} {epoch shard target root : Int} (hok : ¬ OkSay ⟨kind, txn, yes, ff, tt, epoch, shard, target, root⟩) {G f : Int} (hf : 0 ≤ f ∧ f ≤ 3) {sv sh lv : Value} :
  Calls Tryz.prog 15 #[.pointer (some ⟨g, 0, none⟩), sv, .int .i64 f, .agg #[.int .i64 G, .int .i64 kind, .int .i64 txn, .bool yes, .string ff, .string tt, .int .i64 epoch, .int .i64 shard, .int .i64 target, .int .i64 root], sh, lv] w (OrdStep w g m base v L gs ms SL [] []) := by
 obtain ⟨hf1, hf2⟩ := hf
 have hd1 : ¬ f < 0 := by omega
 have hd2 : ¬ 3 < f := by omega
 have hB0 := Blk.new w 25 #[.int .i64 G, .int .i64 kind, .int .i64 txn, .bool yes, .string ff, .string tt, .int .i64 epoch, .int .i64 shard, .int .i64 target, .int .i64 root]
 have hf0 : Fr (fun _ => False) w (w.alloc (Obj.cells #[.int .i64 G, .int .i64 kind, .int .i64 txn, .bool yes, .string ff, .string tt, .int .i64 epoch, .int .i64 shard, .int .i64 target, .int .i64 root] 25)) := (Fr.refl _ _).alloc _
 have hb0 := hb.keep hf0
 have HD := say_Digest1 hb0.book (Nat.le_trans hbase hf0.size) hL kind txn yes ff tt epoch shard target root
 have hso : saidO ⟨kind, txn, yes, ff, tt, epoch, shard, target, root⟩ = some ([((⟨#[115, 97, 121]⟩ : ByteArray), kind)], 111) := if_neg hok
 have hsl : sayL L ⟨kind, txn, yes, ff, tt, epoch, shard, target, root⟩ = L := if_neg hok
 obtain ⟨t, u, hu⟩ := errV_iface [((⟨#[115, 97, 121]⟩ : ByteArray), kind)] 111
 rw [hso, hsl, show errO (some ([((⟨#[115, 97, 121]⟩ : ByteArray), kind)], 111)) = .iface t u from hu] at HD
 replace HD := Lib.hid HD
 clear hok hso hsl hu
 go_enter Tryz.func15, Tryz.ntmps15
 go_upto_region 1 with fail
 generalize w.alloc (Obj.cells #[.int .i64 G, .int .i64 kind, .int .i64 txn, .bool yes, .string ff, .string tt, .int .i64 epoch, .int .i64 shard, .int .i64 target, .int .i64 root] 25) = w0 at *
 have k0 := hB0.cell 0
 have k1 := hB0.cell 1
 have k2 := hB0.cell 2
 have k3 := hB0.cell 3
 have k4 := hB0.cell 4
 have k5 := hB0.cell 5
 have k6 := hB0.cell 6
 have k7 := hB0.cell 7
 have k8 := hB0.cell 8
 have k9 := hB0.cell 9
 go_wp2_with (go_at_call 42; refine HD.out.mono ?_; rintro e w1 ⟨v1, rfl, hb1, hf01, hk1⟩)
 have hs1 := hb0.bookStep hb1 hf01
 go_ret
 exact ⟨_, v1, rfl, TasksAt.nil _ _ _, hs1, (hf0.mono (fun _ _ h => h.elim)).trans hf01 (fun _ _ h => h), fun k hk => (hk1 k hk).imp_right (Nat.le_trans hf0.size)⟩
theorem orders_told {w : World} {g m base : Nat} {v : Value} {L : List (List Int)} {gs ms : Nat} {SL : List (Int × Int)} (hb : BS w g m base v L gs ms SL) (hbase : base ≤ w.heap.size) (hL : L.length < 65536) {kind txn : Int} {yes : Bool} {ff tt : ByteArray} {epoch shard target root : Int} (hok : OkSay ⟨kind, txn, yes, ff, tt, epoch, shard, target, root⟩) {G f : Int} (hf : 0 ≤ f ∧ f ≤ 3) (hmany : ¬ ((whoInts G (sayI L ⟨kind, txn, yes, ff, tt, epoch, shard, target, root⟩) SL).length : Int) < 2 * f + 1) {sh lv : Value} {xs : List Int} (hxs : (whoInts G (sayI L ⟨kind, txn, yes, ff, tt, epoch, shard, target, root⟩) SL).take (2 * f + 1).toNat = xs) (hxl : xs.length ≤ 1024) (hget : getOk (num8 G ++ num8 (sayI L ⟨kind, txn, yes, ff, tt, epoch, shard, target, root⟩) ++ numsB xs)) (hG0 : (G == 0) = false) {L2 : List (List Int)} {gg bb : List Int} (hR : ∀ (w4 : World) (bC : Nat) (A : Option Addr) (cap : Nat) (v1 : Value), BookAt w4 g m base v1 (sayL L ⟨kind, txn, yes, ff, tt, epoch, shard, target, root⟩) → IntRow w4 bC A xs → bC ≤ w4.heap.size → Fr (fun k => k = g ∨ k = m ∨ v.ownBlock = some k) w w4 → (∀ k, v1.ownBlock = some k → v.ownBlock = some k ∨ w.heap.size ≤ k) → (∀ b o, A = some ⟨b, o, none⟩ → ¬ (b = g ∨ b = m ∨ v1.ownBlock = some b)) → Calls Tryz.prog 45 #[.pointer (some ⟨g, 0, none⟩), .agg #[.int .i64 0, .int .i64 0, .int .i64 0, .slice none 0 0, .slice none 0 0, .int .i64 kind, .int .i64 txn, .bool yes, .string ff, .string tt, .int .i64 epoch, .int .i64 shard, .int .i64 target, .int .i64 root, .int .i64 G, .int .i64 (sayI L ⟨kind, txn, yes, ff, tt, epoch, shard, target, root⟩), .slice A xs.length cap, .int .i64 0, .int .i64 0, .slice none 0 0, .slice none 0 0], .int .i64 G, lv] w4 (RelStep w4 g m base v1 L2 gg bb)) :
  Calls Tryz.prog 15 #[.pointer (some ⟨g, 0, none⟩), .pointer (some ⟨gs, 0, none⟩), .int .i64 f, .agg #[.int .i64 G, .int .i64 kind, .int .i64 txn, .bool yes, .string ff, .string tt, .int .i64 epoch, .int .i64 shard, .int .i64 target, .int .i64 root], sh, lv] w (OrdStep w g m base v L2 gs ms SL gg bb) := by
 obtain ⟨hf1, hf2⟩ := hf
 have hd1 : ¬ f < 0 := by omega
 have hd2 : ¬ 3 < f := by omega
 have hB0 := Blk.new w 25 #[.int .i64 G, .int .i64 kind, .int .i64 txn, .bool yes, .string ff, .string tt, .int .i64 epoch, .int .i64 shard, .int .i64 target, .int .i64 root]
 have hf0 : Fr (fun _ => False) w (w.alloc (Obj.cells #[.int .i64 G, .int .i64 kind, .int .i64 txn, .bool yes, .string ff, .string tt, .int .i64 epoch, .int .i64 shard, .int .i64 target, .int .i64 root] 25)) := (Fr.refl _ _).alloc _
 have hb0 := hb.keep hf0
 have HD := Lib.hid (say_Digest1 hb0.book (Nat.le_trans hbase hf0.size) hL kind txn yes ff tt epoch shard target root)
 have hso : saidO ⟨kind, txn, yes, ff, tt, epoch, shard, target, root⟩ = none := if_pos hok
 rw [hso, show errO none = .nilIface from rfl] at HD
 obtain ⟨D, hD⟩ : ∃ D, Hid (sayI L ⟨kind, txn, yes, ff, tt, epoch, shard, target, root⟩ = D) := ⟨_, rfl⟩
 rw [hD.out] at HD hmany hxs hget hR
 have HR := Lib.hid hR
 clear hR
 have HF := Lib.hid hmany
 have HXS := Lib.hid hxs
 have HXL := Lib.hid hxl
 have HG := Lib.hid hget
 have HOK := Lib.hid hok
 clear hmany hok hso hxs hget hxl
 go_enter Tryz.func15, Tryz.ntmps15
 go_upto_region 1 with fail
 generalize w.alloc (Obj.cells #[.int .i64 G, .int .i64 kind, .int .i64 txn, .bool yes, .string ff, .string tt, .int .i64 epoch, .int .i64 shard, .int .i64 target, .int .i64 root] 25) = w0 at *
 have k0 := hB0.cell 0
 have k1 := hB0.cell 1
 have k2 := hB0.cell 2
 have k3 := hB0.cell 3
 have k4 := hB0.cell 4
 have k5 := hB0.cell 5
 have k6 := hB0.cell 6
 have k7 := hB0.cell 7
 have k8 := hB0.cell 8
 have k9 := hB0.cell 9
 go_upto_region 4 with (go_at_call 42; refine HD.out.mono ?_; rintro e w1 ⟨v1, rfl, hb1, hf01, hk1⟩)
 have hB1 := hb0.bookFr hB0 (by decide) (by decide) (hf01.mono (fun _ _ h => h.elim .inl (fun h => .inr (h.elim .inl (fun h => .inr (.inl h))))))
 have hs1 := hb0.bookStep hb1 hf01
 have k0 := hB1.cell 0
 have k1 := hB1.cell 1
 have k2 := hB1.cell 2
 have k3 := hB1.cell 3
 have k4 := hB1.cell 4
 have k5 := hB1.cell 5
 have k6 := hB1.cell 6
 have k7 := hB1.cell 7
 have k8 := hB1.cell 8
 have k9 := hB1.cell 9
 have HC : Hid (Calls Tryz.prog 43 #[.pointer (some ⟨gs, 0, none⟩), .int .i64 G, .int .i64 D, .int .i64 (2 * f + 1)] w1 fun e w' => ∃ A cap, e = .returned (.tuple #[.agg #[.int .i64 G, .int .i64 D, .slice A xs.length cap], .nilIface]) ∧ IntRow w' w'.heap.size A xs ∧ Fr (fun _ => False) w1 w' ∧ ∀ b o, A = some ⟨b, o, none⟩ → w1.heap.size ≤ b) := by
  refine (cert_MakeF hs1.seals G D (2 * f + 1)).mono ?_
  rintro e w2 ⟨hf12, ⟨hno, _⟩ | ⟨_, A, cap, he, hr, hnew⟩⟩
  ·exact absurd hno (by have := HF.out; omega)
  ·rw [HXS.out] at he hr
   exact ⟨A, cap, he, hr, hf12, hnew⟩
 clear hb0 hB0 HD
 go_upto_region 9 with (go_at_call 43; refine HC.out.mono ?_; rintro e w2 ⟨A, cap, rfl, hr2, hf12, hnew⟩; replace hnew := Lib.hid hnew)
 have hf13 := hf12.alloc (Obj.cells #[.int .i64 G, .int .i64 D, .slice A xs.length cap] 41)
 have hB3 := (hB1.fr hf12 id).alloc (Obj.cells #[.int .i64 G, .int .i64 D, .slice A xs.length cap] 41)
 have hC3 := Blk.new w2 41 #[.int .i64 G, .int .i64 D, .slice A xs.length cap]
 have hr3 := hr2.fr ((Fr.refl (fun _ => False) w2).alloc (Obj.cells #[.int .i64 G, .int .i64 D, .slice A xs.length cap] 41)) (fun _ _ => id)
 have hz3 : w2.heap.size ≤ (w2.alloc (Obj.cells #[.int .i64 G, .int .i64 D, .slice A xs.length cap] 41)).heap.size := by simp
 generalize w2.alloc (Obj.cells #[.int .i64 G, .int .i64 D, .slice A xs.length cap] 41) = w3 at *
 clear hB1 k0 k1 k2 k3 k4 k5 k6 k7 k8 k9
 have k0 := hB3.cell 0
 have k1 := hB3.cell 1
 have k2 := hB3.cell 2
 have k3 := hB3.cell 3
 have k4 := hB3.cell 4
 have k5 := hB3.cell 5
 have k6 := hB3.cell 6
 have k7 := hB3.cell 7
 have k8 := hB3.cell 8
 have k9 := hB3.cell 9
 have c0 := hC3.cell 0
 have c1 := hC3.cell 1
 have c2 := hC3.cell 2
 go_upto_region 10 with (refine wpList_store_new rfl 62 (.tmp 16) (.tmp 48) rfl _ _ rfl rfl (by kernel_rfl) rfl (by simp [Value.oneCell']) ?_)
 have hO4 := Blk.new w3 62 #[.int .i64 0, .int .i64 0, .int .i64 0, .slice none 0 0, .slice none 0 0, .int .i64 kind, .int .i64 txn, .bool yes, .string ff, .string tt, .int .i64 epoch, .int .i64 shard, .int .i64 target, .int .i64 root, .int .i64 G, .int .i64 D, .slice A xs.length cap, .int .i64 0, .int .i64 0, .slice none 0 0, .slice none 0 0]
 have hB4 := hB3.alloc (Obj.cells #[.int .i64 0, .int .i64 0, .int .i64 0, .slice none 0 0, .slice none 0 0, .int .i64 kind, .int .i64 txn, .bool yes, .string ff, .string tt, .int .i64 epoch, .int .i64 shard, .int .i64 target, .int .i64 root, .int .i64 G, .int .i64 D, .slice A xs.length cap, .int .i64 0, .int .i64 0, .slice none 0 0, .slice none 0 0] 62)
 have hf34 : Fr (fun _ => False) w3 (w3.alloc (Obj.cells #[.int .i64 0, .int .i64 0, .int .i64 0, .slice none 0 0, .slice none 0 0, .int .i64 kind, .int .i64 txn, .bool yes, .string ff, .string tt, .int .i64 epoch, .int .i64 shard, .int .i64 target, .int .i64 root, .int .i64 G, .int .i64 D, .slice A xs.length cap, .int .i64 0, .int .i64 0, .slice none 0 0, .slice none 0 0] 62)) := (Fr.refl _ _).alloc _
 have hr4 := hr3.fr hf34 (fun _ _ => id)
 have hz4 : w2.heap.size ≤ (w3.alloc (Obj.cells #[.int .i64 0, .int .i64 0, .int .i64 0, .slice none 0 0, .slice none 0 0, .int .i64 kind, .int .i64 txn, .bool yes, .string ff, .string tt, .int .i64 epoch, .int .i64 shard, .int .i64 target, .int .i64 root, .int .i64 G, .int .i64 D, .slice A xs.length cap, .int .i64 0, .int .i64 0, .slice none 0 0, .slice none 0 0] 62)).heap.size := Nat.le_trans hz3 hf34.size
 generalize w3.alloc (Obj.cells #[.int .i64 0, .int .i64 0, .int .i64 0, .slice none 0 0, .slice none 0 0, .int .i64 kind, .int .i64 txn, .bool yes, .string ff, .string tt, .int .i64 epoch, .int .i64 shard, .int .i64 target, .int .i64 root, .int .i64 G, .int .i64 D, .slice A xs.length cap, .int .i64 0, .int .i64 0, .slice none 0 0, .slice none 0 0] 62) = w4 at *
 clear k0 k1 k2 k3 k4 k5 k6 k7 k8 k9 c0 c1 c2 hC3
 have k0 := hB4.cell 0
 have hf14 := hf13.then_ hf34
 have hs4 := hs1.keep hf14
 have hff4 := ((hf0.mono (fun _ _ h => h.elim)).trans hf01 (fun _ _ h => h)).then_ hf14
 have hk4 : ∀ k, v1.ownBlock = some k → v.ownBlock = some k ∨ w.heap.size ≤ k := fun k hk => (hk1 k hk).imp_right (Nat.le_trans hf0.size)
 have HT := HR.out w4 w4.heap.size A cap v1 hs4.book (fun k x hx => by obtain ⟨b, o, e, _, hc⟩ := hr4 k x hx; exact ⟨b, o, e, World.block_lt_of_cell? w4 _ hc, hc⟩) (Nat.le_refl _) hff4 hk4 (fun b o e h => by
  have h1 := hnew.out b o e
  rcases h with h | h | h
  ·have := hs1.book.blk.lt; omega
  ·obtain ⟨⟨es, cl, h3, _⟩, _⟩ := hs1.book.map; have := lt_of_heap h3; omega
  ·obtain ⟨cs, hB⟩ := own_cells hs1.book.own h; have := hB.lt; omega)
 have HT := Lib.hid HT
 clear hr4 hr3 hr2
 go_wp2_with (first
  | (refine wpList_load_row rfl 62 _ rfl _ rfl _ _ (0, 0) _ hO4 Tryz.underlying62 rfl (by kernel_rfl) ?_)
  | (go_at_call 45; refine HT.out.mono ?_; rintro e w5 ⟨tv, v5, rfl, htv, hb5, hf45, hk5⟩))
 go_ret
 refine ⟨tv, v5, rfl, htv.base_ hff4.size, hs4.bookStep hb5 hf45, hff4.trans hf45 (fun k hk e => ?_), fun k hk => ?_⟩
 ·rcases e with e | e | e
  ·exact .inl e
  ·exact .inr (.inl e)
  ·exact (hk4 k e).elim (fun e => .inr (.inr e)) (fun e => absurd hk (by omega))
 ·exact (hk5 k hk).elim (fun e => hk4 k e) (fun e => .inr (Nat.le_trans hff4.size e))
theorem orders_ruled {w : World} {g m base : Nat} {v : Value} {L : List (List Int)} {gs ms : Nat} {SL : List (Int × Int)} (hb : BS w g m base v L gs ms SL) (hbase : base ≤ w.heap.size) (hL : L.length < 65536) {kind txn : Int} {yes : Bool} {ff tt : ByteArray} {epoch shard target root : Int} (hok : OkSay ⟨kind, txn, yes, ff, tt, epoch, shard, target, root⟩) {G f : Int} (hf : 0 ≤ f ∧ f ≤ 3) (hmany : ¬ ((whoInts G (sayI L ⟨kind, txn, yes, ff, tt, epoch, shard, target, root⟩) SL).length : Int) < 2 * f + 1) {sh lv : Value} {xs : List Int} (hxs : (whoInts G (sayI L ⟨kind, txn, yes, ff, tt, epoch, shard, target, root⟩) SL).take (2 * f + 1).toNat = xs) (hxl : xs.length ≤ 1024) (hget : getOk (num8 G ++ num8 (sayI L ⟨kind, txn, yes, ff, tt, epoch, shard, target, root⟩) ++ numsB xs)) (hG0 : (G == 0) = true) {L2 : List (List Int)} {gg bb : List Int} (hR : ∀ (w4 : World) (bC : Nat) (A : Option Addr) (cap : Nat) (v1 : Value), BookAt w4 g m base v1 (sayL L ⟨kind, txn, yes, ff, tt, epoch, shard, target, root⟩) → IntRow w4 bC A xs → bC ≤ w4.heap.size → Fr (fun k => k = g ∨ k = m ∨ v.ownBlock = some k) w w4 → (∀ k, v1.ownBlock = some k → v.ownBlock = some k ∨ w.heap.size ≤ k) → (∀ b o, A = some ⟨b, o, none⟩ → ¬ (b = g ∨ b = m ∨ v1.ownBlock = some b)) → Calls Tryz.prog 44 #[.pointer (some ⟨g, 0, none⟩), .agg #[.int .i64 0, .int .i64 0, .int .i64 0, .slice none 0 0, .slice none 0 0, .int .i64 kind, .int .i64 txn, .bool yes, .string ff, .string tt, .int .i64 epoch, .int .i64 shard, .int .i64 target, .int .i64 root, .int .i64 G, .int .i64 (sayI L ⟨kind, txn, yes, ff, tt, epoch, shard, target, root⟩), .slice A xs.length cap, .int .i64 0, .int .i64 0, .slice none 0 0, .slice none 0 0], sh] w4 (RelStep w4 g m base v1 L2 gg bb)) :
  Calls Tryz.prog 15 #[.pointer (some ⟨g, 0, none⟩), .pointer (some ⟨gs, 0, none⟩), .int .i64 f, .agg #[.int .i64 G, .int .i64 kind, .int .i64 txn, .bool yes, .string ff, .string tt, .int .i64 epoch, .int .i64 shard, .int .i64 target, .int .i64 root], sh, lv] w (OrdStep w g m base v L2 gs ms SL gg bb) := by
 obtain ⟨hf1, hf2⟩ := hf
 have hd1 : ¬ f < 0 := by omega
 have hd2 : ¬ 3 < f := by omega
 have hB0 := Blk.new w 25 #[.int .i64 G, .int .i64 kind, .int .i64 txn, .bool yes, .string ff, .string tt, .int .i64 epoch, .int .i64 shard, .int .i64 target, .int .i64 root]
 have hf0 : Fr (fun _ => False) w (w.alloc (Obj.cells #[.int .i64 G, .int .i64 kind, .int .i64 txn, .bool yes, .string ff, .string tt, .int .i64 epoch, .int .i64 shard, .int .i64 target, .int .i64 root] 25)) := (Fr.refl _ _).alloc _
 have hb0 := hb.keep hf0
 have HD := Lib.hid (say_Digest1 hb0.book (Nat.le_trans hbase hf0.size) hL kind txn yes ff tt epoch shard target root)
 have hso : saidO ⟨kind, txn, yes, ff, tt, epoch, shard, target, root⟩ = none := if_pos hok
 rw [hso, show errO none = .nilIface from rfl] at HD
 obtain ⟨D, hD⟩ : ∃ D, Hid (sayI L ⟨kind, txn, yes, ff, tt, epoch, shard, target, root⟩ = D) := ⟨_, rfl⟩
 rw [hD.out] at HD hmany hxs hget hR
 have HR := Lib.hid hR
 clear hR
 have HF := Lib.hid hmany
 have HXS := Lib.hid hxs
 have HXL := Lib.hid hxl
 have HG := Lib.hid hget
 have HOK := Lib.hid hok
 clear hmany hok hso hxs hget hxl
 go_enter Tryz.func15, Tryz.ntmps15
 go_upto_region 1 with fail
 generalize w.alloc (Obj.cells #[.int .i64 G, .int .i64 kind, .int .i64 txn, .bool yes, .string ff, .string tt, .int .i64 epoch, .int .i64 shard, .int .i64 target, .int .i64 root] 25) = w0 at *
 have k0 := hB0.cell 0
 have k1 := hB0.cell 1
 have k2 := hB0.cell 2
 have k3 := hB0.cell 3
 have k4 := hB0.cell 4
 have k5 := hB0.cell 5
 have k6 := hB0.cell 6
 have k7 := hB0.cell 7
 have k8 := hB0.cell 8
 have k9 := hB0.cell 9
 go_upto_region 4 with (go_at_call 42; refine HD.out.mono ?_; rintro e w1 ⟨v1, rfl, hb1, hf01, hk1⟩)
 have hB1 := hb0.bookFr hB0 (by decide) (by decide) (hf01.mono (fun _ _ h => h.elim .inl (fun h => .inr (h.elim .inl (fun h => .inr (.inl h))))))
 have hs1 := hb0.bookStep hb1 hf01
 have k0 := hB1.cell 0
 have k1 := hB1.cell 1
 have k2 := hB1.cell 2
 have k3 := hB1.cell 3
 have k4 := hB1.cell 4
 have k5 := hB1.cell 5
 have k6 := hB1.cell 6
 have k7 := hB1.cell 7
 have k8 := hB1.cell 8
 have k9 := hB1.cell 9
 have HC : Hid (Calls Tryz.prog 43 #[.pointer (some ⟨gs, 0, none⟩), .int .i64 G, .int .i64 D, .int .i64 (2 * f + 1)] w1 fun e w' => ∃ A cap, e = .returned (.tuple #[.agg #[.int .i64 G, .int .i64 D, .slice A xs.length cap], .nilIface]) ∧ IntRow w' w'.heap.size A xs ∧ Fr (fun _ => False) w1 w' ∧ ∀ b o, A = some ⟨b, o, none⟩ → w1.heap.size ≤ b) := by
  refine (cert_MakeF hs1.seals G D (2 * f + 1)).mono ?_
  rintro e w2 ⟨hf12, ⟨hno, _⟩ | ⟨_, A, cap, he, hr, hnew⟩⟩
  ·exact absurd hno (by have := HF.out; omega)
  ·rw [HXS.out] at he hr
   exact ⟨A, cap, he, hr, hf12, hnew⟩
 clear hb0 hB0 HD
 go_upto_region 9 with (go_at_call 43; refine HC.out.mono ?_; rintro e w2 ⟨A, cap, rfl, hr2, hf12, hnew⟩; replace hnew := Lib.hid hnew)
 have hf13 := hf12.alloc (Obj.cells #[.int .i64 G, .int .i64 D, .slice A xs.length cap] 41)
 have hB3 := (hB1.fr hf12 id).alloc (Obj.cells #[.int .i64 G, .int .i64 D, .slice A xs.length cap] 41)
 have hC3 := Blk.new w2 41 #[.int .i64 G, .int .i64 D, .slice A xs.length cap]
 have hr3 := hr2.fr ((Fr.refl (fun _ => False) w2).alloc (Obj.cells #[.int .i64 G, .int .i64 D, .slice A xs.length cap] 41)) (fun _ _ => id)
 have hz3 : w2.heap.size ≤ (w2.alloc (Obj.cells #[.int .i64 G, .int .i64 D, .slice A xs.length cap] 41)).heap.size := by simp
 generalize w2.alloc (Obj.cells #[.int .i64 G, .int .i64 D, .slice A xs.length cap] 41) = w3 at *
 clear hB1 k0 k1 k2 k3 k4 k5 k6 k7 k8 k9
 have k0 := hB3.cell 0
 have k1 := hB3.cell 1
 have k2 := hB3.cell 2
 have k3 := hB3.cell 3
 have k4 := hB3.cell 4
 have k5 := hB3.cell 5
 have k6 := hB3.cell 6
 have k7 := hB3.cell 7
 have k8 := hB3.cell 8
 have k9 := hB3.cell 9
 have c0 := hC3.cell 0
 have c1 := hC3.cell 1
 have c2 := hC3.cell 2
 go_upto_region 10 with (refine wpList_store_new rfl 62 (.tmp 16) (.tmp 48) rfl _ _ rfl rfl (by kernel_rfl) rfl (by simp [Value.oneCell']) ?_)
 have hO4 := Blk.new w3 62 #[.int .i64 0, .int .i64 0, .int .i64 0, .slice none 0 0, .slice none 0 0, .int .i64 kind, .int .i64 txn, .bool yes, .string ff, .string tt, .int .i64 epoch, .int .i64 shard, .int .i64 target, .int .i64 root, .int .i64 G, .int .i64 D, .slice A xs.length cap, .int .i64 0, .int .i64 0, .slice none 0 0, .slice none 0 0]
 have hB4 := hB3.alloc (Obj.cells #[.int .i64 0, .int .i64 0, .int .i64 0, .slice none 0 0, .slice none 0 0, .int .i64 kind, .int .i64 txn, .bool yes, .string ff, .string tt, .int .i64 epoch, .int .i64 shard, .int .i64 target, .int .i64 root, .int .i64 G, .int .i64 D, .slice A xs.length cap, .int .i64 0, .int .i64 0, .slice none 0 0, .slice none 0 0] 62)
 have hf34 : Fr (fun _ => False) w3 (w3.alloc (Obj.cells #[.int .i64 0, .int .i64 0, .int .i64 0, .slice none 0 0, .slice none 0 0, .int .i64 kind, .int .i64 txn, .bool yes, .string ff, .string tt, .int .i64 epoch, .int .i64 shard, .int .i64 target, .int .i64 root, .int .i64 G, .int .i64 D, .slice A xs.length cap, .int .i64 0, .int .i64 0, .slice none 0 0, .slice none 0 0] 62)) := (Fr.refl _ _).alloc _
 have hr4 := hr3.fr hf34 (fun _ _ => id)
 have hz4 : w2.heap.size ≤ (w3.alloc (Obj.cells #[.int .i64 0, .int .i64 0, .int .i64 0, .slice none 0 0, .slice none 0 0, .int .i64 kind, .int .i64 txn, .bool yes, .string ff, .string tt, .int .i64 epoch, .int .i64 shard, .int .i64 target, .int .i64 root, .int .i64 G, .int .i64 D, .slice A xs.length cap, .int .i64 0, .int .i64 0, .slice none 0 0, .slice none 0 0] 62)).heap.size := Nat.le_trans hz3 hf34.size
 generalize w3.alloc (Obj.cells #[.int .i64 0, .int .i64 0, .int .i64 0, .slice none 0 0, .slice none 0 0, .int .i64 kind, .int .i64 txn, .bool yes, .string ff, .string tt, .int .i64 epoch, .int .i64 shard, .int .i64 target, .int .i64 root, .int .i64 G, .int .i64 D, .slice A xs.length cap, .int .i64 0, .int .i64 0, .slice none 0 0, .slice none 0 0] 62) = w4 at *
 clear k0 k1 k2 k3 k4 k5 k6 k7 k8 k9 c0 c1 c2 hC3
 have k0 := hB4.cell 0
 have hf14 := hf13.then_ hf34
 have hs4 := hs1.keep hf14
 have hff4 := ((hf0.mono (fun _ _ h => h.elim)).trans hf01 (fun _ _ h => h)).then_ hf14
 have hk4 : ∀ k, v1.ownBlock = some k → v.ownBlock = some k ∨ w.heap.size ≤ k := fun k hk => (hk1 k hk).imp_right (Nat.le_trans hf0.size)
 have HT := HR.out w4 w4.heap.size A cap v1 hs4.book (fun k x hx => by obtain ⟨b, o, e, _, hc⟩ := hr4 k x hx; exact ⟨b, o, e, World.block_lt_of_cell? w4 _ hc, hc⟩) (Nat.le_refl _) hff4 hk4 (fun b o e h => by
  have h1 := hnew.out b o e
  rcases h with h | h | h
  ·have := hs1.book.blk.lt; omega
  ·obtain ⟨⟨es, cl, h3, _⟩, _⟩ := hs1.book.map; have := lt_of_heap h3; omega
  ·obtain ⟨cs, hB⟩ := own_cells hs1.book.own h; have := hB.lt; omega)
 have HT := Lib.hid HT
 clear hr4 hr3 hr2
 go_wp2_with (first
  | (refine wpList_load_row rfl 62 _ rfl _ rfl _ _ (0, 0) _ hO4 Tryz.underlying62 rfl (by kernel_rfl) ?_)
  | (go_at_call 44; refine HT.out.mono ?_; rintro e w5 ⟨tv, v5, rfl, htv, hb5, hf45, hk5⟩))
 go_ret
 refine ⟨tv, v5, rfl, htv.base_ hff4.size, hs4.bookStep hb5 hf45, hff4.trans hf45 (fun k hk e => ?_), fun k hk => ?_⟩
 ·rcases e with e | e | e
  ·exact .inl e
  ·exact .inr (.inl e)
  ·exact (hk4 k e).elim (fun e => .inr (.inr e)) (fun e => absurd hk (by omega))
 ·exact (hk5 k hk).elim (fun e => hk4 k e) (fun e => .inr (Nat.le_trans hff4.size e))
theorem who_mem {G D : Int} {L : List (Int × Int)} {x : Int} (h : x ∈ whoInts G D L) : 0 ≤ x ∧ 0 ≤ memberOf G x := by
 obtain ⟨i, hi, rfl⟩ := List.mem_map.1 h
 have := (List.mem_filter.1 hi).2
 simp only [decide_eq_true_eq] at this
 exact ⟨by omega, this.1⟩
theorem member_ge {G x : Int} (h : 0 ≤ memberOf G x) : (0 ≤ G ∧ G < 8) ∧ (0 ≤ x ∧ x < 10) := by
 unfold memberOf at h
 split at h
 ·omega
 ·omega
theorem okSay_parts {kind txn : Int} {yes : Bool} {ff tt : ByteArray} {epoch shard target root : Int} (h : OkSay ⟨kind, txn, yes, ff, tt, epoch, shard, target, root⟩) : (1 ≤ kind ∧ kind ≤ 9) ∧ (0 ≤ shard ∧ shard ≤ 3) ∧ (0 ≤ target ∧ target ≤ 3) := by
 obtain ⟨a0, a1, a2, a3, a4, a5, a6, a7, a8, a9, a10, a11, a12, a13⟩ := h
 dsimp only at a0 a1 a10 a11 a12 a13
 omega
end Go.Proofs.YtmkdhhhoodeemaaGreat
namespace Go.Proofs.YtmkdhhhoodeemaaGreat
open Go Go.RowKit
structure OrdD where
 gg : List Int
 kind : Int
 t0 : List Int
 own : List Ent
 Bs : List Int
open Classical in
noncomputable def ordF (L1 : List (List Int)) (G : Int) (s : SayD) (ss : List Int) (l : List Ent) : Option OrdD :=
 if G = 0 then
  if s.kind = 4 then some ⟨[s.shard + 1], 3, [], [], []⟩
  else if s.kind = 7 then some ⟨[s.shard + 1, s.target + 1], 5, [], [], []⟩
  else if s.kind = 3 then some ⟨ss.map fun x => wrap64 (x + 1), 2, [], [], []⟩
  else if s.kind = 1 then (if IsTxn (L1.getD s.txn.toNat []) then some ⟨[s.shard + 1], 1, L1.getD s.txn.toNat [], [], []⟩ else none)
  else none
 else if s.kind = 2 then (if G = s.shard + 1 then some ⟨[0], 7, [], [], []⟩ else none)
 else if s.kind = 6 then (if G = s.target + 1 then some ⟨[0], 10, [], [], []⟩ else none)
 else if s.kind = 5 then (if G = s.shard + 1 ∧ risesE (keepE s.from_ s.to_ l) = true then some ⟨[s.target + 1], 4, [], keepE s.from_ s.to_ l, besideOf L1 (keepE s.from_ s.to_ l)⟩ else none)
 else none
def ordG : Option OrdD → List Int
 | none => []
 | some o => o.gg
def ordBB (t1 t2 : List Int) : Option OrdD → List Int
 | none => []
 | some o => ordB o.kind o.t0 t1 t2 o.own.length 0 o.own o.Bs
def ordL (L1 : List (List Int)) : Option OrdD → List (List Int)
 | none => L1
 | some o => if o.kind = 4 then bookOf L1 o.own else L1
theorem isTxn_nil : ¬ IsTxn [] := by
 rintro ⟨c, n, R, W, h, e⟩
 have h8 : 8 ≤ (txnB c n R W).length := by
  unfold txnB
  simp only [List.length_append, num8_length]
  omega
 rw [← e] at h8
 exact absurd h8 (by decide)
theorem ordBB_zero (gg : List Int) (k : Int) (t0 t1 t2 : List Int) : ordBB t1 t2 (some ⟨gg, k, t0, [], []⟩) = orderB k t0 t1 t2 := (orderB_ordB k t0 t1 t2).symm
theorem isTxn_get {L : List (List Int)} {k : Nat} (h : IsTxn (L.getD k [])) : L[k]? = some (L.getD k []) := by
 cases e : L[k]? with
 | none =>
  rw [List.getD_eq_getElem?_getD, e] at h
  exact absurd h isTxn_nil
 | some b => rw [List.getD_eq_getElem?_getD, e]; rfl
def ordX (G D f : Int) (SL : List (Int × Int)) : List Int := (whoInts G D SL).take (2 * f + 1).toNat
open Classical in
noncomputable def ordA (L : List (List Int)) (SL : List (Int × Int)) (f G : Int) (s : SayD) (ss : List Int) (l : List Ent) : Option OrdD :=
 if OkSay s ∧ ¬ ((whoInts G (sayI L s) SL).length : Int) < 2 * f + 1 then ordF (sayL L s) G s ss l else none
theorem get_who_f {G D f : Int} {SL : List (Int × Int)} (hf : 0 ≤ f ∧ f ≤ 3) (hn : ¬ ((whoInts G D SL).length : Int) < 2 * f + 1) (hD : 0 ≤ D ∧ D < 2147483648) : (0 ≤ G ∧ G < 8) ∧ (ordX G D f SL).length ≤ 1024 ∧ getOk (num8 G ++ num8 D ++ numsB (ordX G D f SL)) := by
 unfold ordX
 have hm : ∀ y ∈ (whoInts G D SL).take (2 * f + 1).toNat, (0 ≤ G ∧ G < 8) ∧ (0 ≤ y ∧ y < 10) := fun y hy => member_ge (who_mem (List.mem_of_mem_take hy)).2
 have hG : 0 ≤ G ∧ G < 8 := by
  obtain ⟨y, hy⟩ : ∃ y, y ∈ whoInts G D SL := by
   cases h : whoInts G D SL with
   | nil => rw [h] at hn; simp at hn; omega
   | cons a l => exact ⟨a, by simp⟩
  exact (member_ge (who_mem hy).2).1
 have hl : ((whoInts G D SL).take (2 * f + 1).toNat).length ≤ 1024 := by rw [List.length_take]; omega
 refine ⟨hG, hl, ?_⟩
 exact (put_get hl ⟨by omega, by omega⟩ ⟨by omega, by omega⟩ (fun y hy => by have := (hm y hy).2; unfold Wf64; omega)).1.2 ⟨⟨by omega, by omega, by omega, by omega⟩, fun y hy => by have := (hm y hy).2; omega⟩
theorem orders_sem {w : World} {g m base : Nat} {v : Value} {L : List (List Int)} {gs ms : Nat} {SL : List (Int × Int)} (hb : BS w g m base v L gs ms SL) (hbase : base ≤ w.heap.size) (hL : L.length < 60000) (hgl : GoodL L) {f : Int} (hf : 0 ≤ f ∧ f ≤ 3) {kind txn : Int} {yes : Bool} {ff tt : ByteArray} {epoch shard target root : Int} {G : Int}
  {bS : Nat} {SA : Option Addr} {sc : Nat} {ss : List Int} (hSh : IntRow w bS SA ss) (hbS : bS ≤ w.heap.size) (hSA : ∀ b, b < bS → ¬ (b = g ∨ b = m ∨ v.ownBlock = some b)) (hsl : ss.length ≤ 1000)
  {FE : Nat → Prop} {LA : Option Addr} {lc : Nat} {l : List Ent} (hE : EntRow w FE LA l) (hFE : ∀ k, FE k → ¬ (k = g ∨ k = m ∨ v.ownBlock = some k)) (hll : l.length ≤ 60000) {O : Option OrdD} (hO : ordA L SL f G ⟨kind, txn, yes, ff, tt, epoch, shard, target, root⟩ ss l = O) :
  Calls Tryz.prog 15 #[.pointer (some ⟨g, 0, none⟩), .pointer (some ⟨gs, 0, none⟩), .int .i64 f, .agg #[.int .i64 G, .int .i64 kind, .int .i64 txn, .bool yes, .string ff, .string tt, .int .i64 epoch, .int .i64 shard, .int .i64 target, .int .i64 root], .slice SA ss.length sc, .slice LA l.length lc] w
   (OrdStep w g m base v (ordL (sayL L ⟨kind, txn, yes, ff, tt, epoch, shard, target, root⟩) O) gs ms SL (ordG O) (ordBB (sayB ⟨kind, txn, yes, ff, tt, epoch, shard, target, root⟩) (certB G (sayI L ⟨kind, txn, yes, ff, tt, epoch, shard, target, root⟩) (ordX G (sayI L ⟨kind, txn, yes, ff, tt, epoch, shard, target, root⟩) f SL)) O)) := by
 by_cases hnok : ¬ OkSay ⟨kind, txn, yes, ff, tt, epoch, shard, target, root⟩
 ·rw [ordA, if_neg (fun h => hnok h.1)] at hO
  subst hO
  have := orders_bad (G := G) (f := f) (sv := .pointer (some ⟨gs, 0, none⟩)) (sh := .slice SA ss.length sc) (lv := .slice LA l.length lc) hb hbase (by omega) hnok hf
  rw [show ordL (sayL L ⟨kind, txn, yes, ff, tt, epoch, shard, target, root⟩) none = L from if_neg hnok]
  exact this
 have hok : OkSay ⟨kind, txn, yes, ff, tt, epoch, shard, target, root⟩ := Decidable.of_not_not hnok
 clear hnok
 by_cases hfew : ((whoInts G (sayI L ⟨kind, txn, yes, ff, tt, epoch, shard, target, root⟩) SL).length : Int) < 2 * f + 1
 ·rw [ordA, if_neg (fun h => h.2 hfew)] at hO
  subst hO
  exact orders_few hb hbase (by omega) hok hf hfew
 rw [ordA, if_pos ⟨hok, hfew⟩] at hO
 have hD : 0 ≤ sayI L ⟨kind, txn, yes, ff, tt, epoch, shard, target, root⟩ ∧ sayI L ⟨kind, txn, yes, ff, tt, epoch, shard, target, root⟩ < 2147483648 := by
  unfold sayI
  rw [if_pos hok]
  have : digI L (sayB ⟨kind, txn, yes, ff, tt, epoch, shard, target, root⟩) ≤ L.length := by
   unfold digI
   split
   ·exact List.idxOf_le_length
   ·exact Nat.le_refl _
  omega
 obtain ⟨hGr, hxl, hget⟩ := get_who_f hf hfew hD
 obtain ⟨hkd, hshd, htg⟩ := okSay_parts hok
 obtain ⟨xs, hXS⟩ : ∃ xs, ordX G (sayI L ⟨kind, txn, yes, ff, tt, epoch, shard, target, root⟩) f SL = xs := ⟨_, rfl⟩
 rw [hXS] at hxl hget ⊢
 have hXS : (whoInts G (sayI L ⟨kind, txn, yes, ff, tt, epoch, shard, target, root⟩) SL).take ((2 * f + 1).toNat) = xs := hXS
 have hsl1 := sayL_len L ⟨kind, txn, yes, ff, tt, epoch, shard, target, root⟩
 have hgl1 := hgl.say ⟨kind, txn, yes, ff, tt, epoch, shard, target, root⟩
 have hw1 : wrap64 (shard + 1) = shard + 1 := by unfold wrap64; omega
 have hw2 : wrap64 (target + 1) = target + 1 := by unfold wrap64; omega
 unfold ordF at hO
 by_cases hG : G = 0
 ·subst hG
  rw [if_pos rfl] at hO
  by_cases hk4 : kind = 4
  ·subst hk4
   rw [if_pos (by rfl)] at hO
   subst hO
   rw [ordBB_zero]
   refine orders_ruled hb hbase (by omega) hok hf hfew hXS hxl hget (by rfl) (fun w4 bC A cap v1 hb4 hr4 hz4 hf4 _ hA4 => ?_)
   exact (ruled_freeze hok hr4 hz4 hxl hget).mono fun _ _ h => h.rel hb4
  rw [if_neg (by exact hk4)] at hO
  by_cases hk7 : kind = 7
  ·subst hk7
   rw [if_pos (by rfl)] at hO
   subst hO
   rw [ordBB_zero]
   refine orders_ruled hb hbase (by omega) hok hf hfew hXS hxl hget (by rfl) (fun w4 bC A cap v1 hb4 hr4 hz4 hf4 _ hA4 => ?_)
   exact (ruled_own hok hr4 hz4 hxl hget).mono fun _ _ h => h.rel hb4
  rw [if_neg (by exact hk7)] at hO
  by_cases hk3 : kind = 3
  ·subst hk3
   rw [if_pos (by rfl)] at hO
   subst hO
   rw [ordBB_zero]
   refine orders_ruled hb hbase (by omega) hok hf hfew hXS hxl hget (by rfl) (fun w4 bC A cap v1 hb4 hr4 hz4 hf4 _ hA4 => ?_)
   exact (ruled_decide hok hr4 hz4 hxl hget (hSh.fr hf4 hSA) (Nat.le_trans hbS hf4.size) hsl).mono fun _ _ h => h.rel hb4
  rw [if_neg (by exact hk3)] at hO
  by_cases hk1 : kind = 1
  ·subst hk1
   rw [if_pos (by rfl)] at hO
   by_cases hT : IsTxn ((sayL L ⟨1, txn, yes, ff, tt, epoch, shard, target, root⟩).getD txn.toNat [])
   ·rw [if_pos (by exact hT)] at hO
    subst hO
    have hgt := isTxn_get hT
    rw [ordBB_zero]
    refine orders_ruled hb hbase (by omega) hok hf hfew hXS hxl hget (by rfl) (fun w4 bC A cap v1 hb4 hr4 hz4 hf4 _ hA4 => ?_)
    refine (ruled_begin hok hr4 hz4 hxl hget hb4 (by omega) hgl1.2).mono ?_
    rintro e w' (⟨b, h1, h2, h3⟩ | ⟨h1, _⟩)
    ·rw [hgt] at h1
     cases h1
     exact h3.rel hb4
    ·exact absurd hT (h1 _ hgt)
   ·rw [if_neg (by exact hT)] at hO
    subst hO
    refine orders_ruled hb hbase (by omega) hok hf hfew hXS hxl hget (by rfl) (fun w4 bC A cap v1 hb4 hr4 hz4 hf4 _ hA4 => ?_)
    refine (ruled_begin hok hr4 hz4 hxl hget hb4 (by omega) hgl1.2).mono ?_
    rintro e w' (⟨b, h1, h2, h3⟩ | ⟨_, h1⟩)
    ·exact absurd (by rw [List.getD_eq_getElem?_getD, h1]; exact h2) hT
    ·exact h1.rel hb4
  rw [if_neg (by exact hk1)] at hO
  subst hO
  refine orders_ruled hb hbase (by omega) hok hf hfew hXS hxl hget (by rfl) (fun w4 bC A cap v1 hb4 hr4 hz4 hf4 _ hA4 => ?_)
  exact (ruled_none hok (beq_eq_false_iff_ne.2 hk1) (beq_eq_false_iff_ne.2 hk3) (beq_eq_false_iff_ne.2 hk4) (beq_eq_false_iff_ne.2 hk7)).mono fun _ _ h => h.rel hb4
 ·have hG0 : (G == 0) = false := beq_eq_false_iff_ne.2 hG
  rw [if_neg hG] at hO
  by_cases hk2 : kind = 2
  ·subst hk2
   rw [if_pos (by rfl)] at hO
   by_cases hfr : G = shard + 1
   ·rw [if_pos (by exact hfr)] at hO
    subst hO
    rw [ordBB_zero]
    refine orders_told hb hbase (by omega) hok hf hfew hXS hxl hget hG0 (fun w4 bC A cap v1 hb4 hr4 hz4 hf4 _ hA4 => ?_)
    exact (told_vote hok hr4 hz4 hxl hget hfr).mono fun _ _ h => h.rel hb4
   ·rw [if_neg (by exact hfr)] at hO
    subst hO
    refine orders_told hb hbase (by omega) hok hf hfew hXS hxl hget hG0 (fun w4 bC A cap v1 hb4 hr4 hz4 hf4 _ hA4 => ?_)
    exact (told_vote_no hok (beq_eq_false_iff_ne.2 hfr)).mono fun _ _ h => h.rel hb4
  rw [if_neg (by exact hk2)] at hO
  by_cases hk6 : kind = 6
  ·subst hk6
   rw [if_pos (by rfl)] at hO
   by_cases hfr : G = target + 1
   ·rw [if_pos (by exact hfr)] at hO
    subst hO
    rw [ordBB_zero]
    refine orders_told hb hbase (by omega) hok hf hfew hXS hxl hget hG0 (fun w4 bC A cap v1 hb4 hr4 hz4 hf4 _ hA4 => ?_)
    exact (told_imp hok hr4 hz4 hxl hget hfr).mono fun _ _ h => h.rel hb4
   ·rw [if_neg (by exact hfr)] at hO
    subst hO
    refine orders_told hb hbase (by omega) hok hf hfew hXS hxl hget hG0 (fun w4 bC A cap v1 hb4 hr4 hz4 hf4 _ hA4 => ?_)
    exact (told_imp_no hok (beq_eq_false_iff_ne.2 hfr)).mono fun _ _ h => h.rel hb4
  rw [if_neg (by exact hk6)] at hO
  by_cases hk5 : kind = 5
  ·subst hk5
   rw [if_pos (by rfl)] at hO
   by_cases hfr : G = shard + 1
   ·by_cases hri : risesE (keepE ff tt l) = true
    ·rw [if_pos (by exact ⟨hfr, hri⟩)] at hO
     subst hO
     refine orders_told hb hbase (by omega) hok hf hfew hXS hxl hget hG0 (fun w4 bC A cap v1 hb4 hr4 hz4 hf4 _ hA4 => ?_)
     exact told_fro hok (hE.fr hf4 hFE) hll hr4 hz4 hxl hget hb4 (Nat.le_trans hbase hf4.size) (by omega) hA4 hfr hri
    ·rw [if_neg (by exact fun h => hri h.2)] at hO
     subst hO
     refine orders_told hb hbase (by omega) hok hf hfew hXS hxl hget hG0 (fun w4 bC A cap v1 hb4 hr4 hz4 hf4 _ hA4 => ?_)
     exact (told_fro_bad hok (hE.fr hf4 hFE) hll hfr (by simpa using hri)).mono fun _ _ h => h.rel hb4
   ·rw [if_neg (by exact fun h => hfr h.1)] at hO
    subst hO
    refine orders_told hb hbase (by omega) hok hf hfew hXS hxl hget hG0 (fun w4 bC A cap v1 hb4 hr4 hz4 hf4 _ hA4 => ?_)
    exact (told_fro_no hok (hE.fr hf4 hFE) hll (beq_eq_false_iff_ne.2 hfr)).mono fun _ _ h => h.rel hb4
  rw [if_neg (by exact hk5)] at hO
  subst hO
  refine orders_told hb hbase (by omega) hok hf hfew hXS hxl hget hG0 (fun w4 bC A cap v1 hb4 hr4 hz4 hf4 _ hA4 => ?_)
  exact (told_none hok (beq_eq_false_iff_ne.2 hk2) (beq_eq_false_iff_ne.2 hk5) (beq_eq_false_iff_ne.2 hk6)).mono fun _ _ h => h.rel hb4
end Go.Proofs.YtmkdhhhoodeemaaGreat
namespace Go.Proofs.YtmkdhhhoodeemaaGreat
open Go Go.RowKit
theorem TasksAt.at_ {w : World} {base : Nat} {v : Value} {gs b : List Int} (h : TasksAt w base v gs b) : ∃ A c, v = .slice A gs.length c ∧ ∀ (k : Nat) g, gs[k]? = some g → ∃ t A' c', A = some ⟨t, 0, none⟩ ∧ w.cell? ⟨t, k * 2, none⟩ = some (.int .i64 g) ∧ w.cell? ⟨t, k * 2 + 1, none⟩ = some (.slice A' b.length c') ∧ ByteRow w (U8 w) A' b := by
 obtain ⟨vals, h1, h2⟩ := h
 obtain ⟨A, c, rfl, _, hat⟩ := own_form h1
 refine ⟨A, c, rfl, fun k g hg => ?_⟩
 obtain ⟨A', c', e1, e2, hr⟩ := h2 k g hg
 obtain ⟨t, rfl, _, hc0⟩ := hat _ _ e1
 obtain ⟨t', he, _, hc1⟩ := hat _ _ e2
 cases he
 exact ⟨t, A', c', rfl, hc0, hc1, hr⟩
theorem ref19_Same {w : World} {base base' : Nat} {v v' : Value} {gs b : List Int} (h : TasksAt w base v gs b) (h' : TasksAt w base' v' gs b) (hl : gs.length ≤ 1000) : Calls Tryz.prog 17 #[v, v'] w (OkB w true) := by
 obtain ⟨A, c, rfl, hat⟩ := h.at_
 obtain ⟨A', c', rfl, hat'⟩ := h'.at_
 clear h h'
 go_enter Tryz.func17, Tryz.ntmps17
 go_wp2_with fail
 go_loopw [5] (fun i wr => ∃ k : Nat, k ≤ gs.length ∧ i = .int .i64 k ∧ Fr (fun _ => False) w wr) (fun i _ => gs.length - (intOf i).toNat)
 case atStart => exact ⟨0, by omega, rfl, Fr.refl _ _⟩
 case round =>
  obtain ⟨k, hk, rfl, hf⟩ := hrel
  by_cases hlt : k < gs.length
  ·obtain ⟨x, hx⟩ : ∃ x, gs[k]? = some x := ⟨gs[k], List.getElem?_eq_getElem hlt⟩
   obtain ⟨t, A1, q1, rfl, c0, c1, r0⟩ := hat k x hx
   obtain ⟨t', A2, q2, rfl, c0', c1', r0'⟩ := hat' k x hx
   have d0 := hf.cell_some c0 id
   have d1 := hf.cell_some c1 id
   have d0' := hf.cell_some c0' id
   have d1' := hf.cell_some c1' id
   have hcv1 := fun n => conv_bytes (w := wr.drewN n) (n := b.length) (cap := q1) ((r0.fr hf (fun _ _ => id)).fr ((Fr.refl (fun _ => False) wr).drewN n) (fun _ _ => id)) rfl
   have hcv2 := fun n => conv_bytes (w := wr.drewN n) (n := b.length) (cap := q2) ((r0'.fr hf (fun _ _ => id)).fr ((Fr.refl (fun _ => False) wr).drewN n) (fun _ _ => id)) rfl
   clear hat hat' c0 c0' c1 c1' hx r0 r0'
   go_wp2_with fail
   go_quiet (fail)
   go_wp2
   go_roundw
   case rel => exact ⟨k + 1, by omega, by go_num, hf.drewN _⟩
   case measure => simp [intOf]; omega
  ·have hkl : k = gs.length := by omega
   clear hat hat'
   go_wp2
   go_ret
   exact ⟨rfl, hf⟩
theorem run_eqSay2 (k t : Int) (y : Bool) (f g : ByteArray) (e sh ta r : Int) (w : World) : (Op.equalIn 10000 23 (.agg #[.int .i64 k, .int .i64 t, .bool y, .string f, .string g, .int .i64 e, .int .i64 sh, .int .i64 ta, .int .i64 r]) (.agg #[.int .i64 k, .int .i64 t, .bool y, .string f, .string g, .int .i64 e, .int .i64 sh, .int .i64 ta, .int .i64 r])).run Tryz.prog w = .ok true w := by
 have u1 := Tryz.underlying3
 have u2 := Tryz.underlying2
 have u3 := Tryz.underlying4
 have u4 := Tryz.underlying9
 rw [show (10000 : Nat) = 9999 + 1 from rfl, run_equalIn_struct w 9999 23 _ _ say_fields say_stood]
 simp only [Program.fieldsOf, Tryz.underlying23]
 go_simp
theorem run_neqSay2 (k t : Int) (y : Bool) (f g : ByteArray) (e sh ta r : Int) (w : World) : (binOp .neq 23 (.agg #[.int .i64 k, .int .i64 t, .bool y, .string f, .string g, .int .i64 e, .int .i64 sh, .int .i64 ta, .int .i64 r]) (.agg #[.int .i64 k, .int .i64 t, .bool y, .string f, .string g, .int .i64 e, .int .i64 sh, .int .i64 ta, .int .i64 r])).run Tryz.prog w = .ok (.bool false) w := by
 rw [run_neq_struct, run_eqSay2 k t y f g e sh ta r w]
 rfl
structure OrdOk (o : OrdD) : Prop where
 k : (o.kind = 1 ∧ IsTxn o.t0) ∨ ((2 ≤ o.kind ∧ o.kind ≤ 10 ∧ ¬ o.kind = 6) ∧ o.t0 = [])
 r : risesE o.own = true
 bl : o.Bs.length ≤ 1024
 bd : ∀ d ∈ o.Bs, 0 ≤ d ∧ d ≤ 2147483647
theorem beside_ok {L : List (List Int)} (hL : L.length < 65536) (own : List Ent) : (besideOf L own).length ≤ 1024 ∧ ∀ d ∈ besideOf L own, 0 ≤ d ∧ d ≤ 2147483647 := by
 unfold besideOf
 split
 ·refine ⟨by simp, fun d hd => ?_⟩
  rw [List.mem_singleton.1 hd]
  have : digI L noneB ≤ L.length := by
   unfold digI
   split
   ·exact List.idxOf_le_length
   ·exact Nat.le_refl _
  omega
 ·exact ⟨by simp, fun d hd => by cases hd⟩
theorem rises_nil : risesE [] = true := rfl
theorem ordF_ok {L1 : List (List Int)} (hL : L1.length < 65536) {G : Int} {s : SayD} {ss : List Int} {l : List Ent} {o : OrdD} (h : ordF L1 G s ss l = some o) : OrdOk o := by
 have zero : ∀ (gg : List Int) (k : Int), (2 ≤ k ∧ k ≤ 10 ∧ ¬ k = 6) → OrdOk ⟨gg, k, [], [], []⟩ := fun gg k hk => ⟨.inr ⟨hk, rfl⟩, rises_nil, by simp, fun d hd => by cases hd⟩
 unfold ordF at h
 split at h
 ·split at h
  ·cases h; exact zero _ _ (by decide)
  ·split at h
   ·cases h; exact zero _ _ (by decide)
   ·split at h
    ·cases h; exact zero _ _ (by decide)
    ·split at h
     ·split at h
      ·rename_i hT
       cases h
       exact ⟨.inl ⟨rfl, hT⟩, rises_nil, by simp, fun d hd => by cases hd⟩
      ·cases h
     ·cases h
 ·split at h
  ·split at h
   ·cases h; exact zero _ _ (by decide)
   ·cases h
  ·split at h
   ·split at h
    ·cases h; exact zero _ _ (by decide)
    ·cases h
   ·split at h
    ·split at h
     ·rename_i hT
      cases h
      obtain ⟨h1, h2⟩ := beside_ok hL (keepE s.from_ s.to_ l)
      exact ⟨.inr ⟨⟨by dsimp only; decide, by dsimp only; decide, by dsimp only; decide⟩, rfl⟩, hT.2, h1, h2⟩
     ·cases h
    ·cases h
theorem certB_G (G D : Int) (xs : List Int) : certB G D xs = certG G D xs := by simp [certB, certG]
theorem ordBB_pos (t1 t2 : List Int) (o : OrdD) : 0 < (ordBB t1 t2 (some o)).length := by
 unfold ordBB ordB
 rw [List.length_append, num8_length]
 omega
theorem sem_task1 {w : World} {F : Nat → Prop} {o : OrdD} (ho : OrdOk o) {s : SayD} (hs : OkSay s) {G D : Int} {xs : List Int} (hG : 0 ≤ G ∧ G ≤ 2147483647) (hD : 0 ≤ D ∧ D ≤ 2147483647) (hx : xs.length ≤ 1024) (hxe : ∀ y ∈ xs, 0 ≤ y ∧ y ≤ 2147483647) {CA EA VA : Option Addr} {cc ce cv : Nat} (hS : IntF w F CA xs) (hE : EntRow w F EA o.own) (hV : IntF w F VA o.Bs) (group : Int) {c n : Int} {RA WA : Option Addr} {cr cw : Nat} {R : List (ByteArray × Int)} {W : List (ByteArray × ByteArray)} (hk : o.kind = 1) (hT : TOk c n R W) (ht : o.t0 = txnB c n R W) (hr : ReadRow w F RA R) (hw : WriteRow w F WA W) :
  Calls Tryz.prog 50 #[.int .i64 group, .agg #[.int .i64 o.kind, .int .i64 c, .int .i64 n, .slice RA R.length cr, .slice WA W.length cw, .int .i64 s.kind, .int .i64 s.txn, .bool s.yes, .string s.from_, .string s.to_, .int .i64 s.epoch, .int .i64 s.shard, .int .i64 s.target, .int .i64 s.root, .int .i64 G, .int .i64 D, .slice CA xs.length cc, .int .i64 o.own.length, .int .i64 0, .slice EA o.own.length ce, .slice VA o.Bs.length cv]] w (TasksP w [group] (ordBB (sayB s) (certB G D xs) (some o))) := by
 obtain ⟨hll, hlk⟩ := rises_fit ho.r
 have hws : wordB s = sayB s := if_pos hs
 have hsl : (sayB s).length ≤ 65536 := by have := sayB_short s; rwa [hws] at this
 have htl : o.t0.length ≤ 65536 := by rw [ht]; exact txnB_len hT
 refine task_ok (ordBB_pos _ _ _) (ordB_len htl hsl (certB_len hx) ho.r ho.bl) (fun w1 hf1 => ?_)
 have h := ref11_PutOrder_any (w := w1) (F := F) (kind := o.kind) (c := c) (n := n) (G := G) (D := D) (many := o.own.length) (first := 0) (A := RA) (B := WA) (CA := CA) (EA := EA) (VA := VA) (nr := R.length) (cr := cr) (nw := W.length) (cw := cw) (nc := xs.length) (cc := cc) (ce := ce) (cv := cv) (s := s) (t0 := o.t0) (t2 := certB G D xs) (el := o.own) (Bs := o.Bs) htl (certB_len hx) (hE.fr hf1 (fun _ _ => id)) (hV.fr hf1 (fun _ _ => id)) hll ho.bl hlk
  (fun w2 hf2 => ref11_RightOrder (hr.fr (hf1.then_ hf2) (fun _ _ => id)) (hw.fr (hf1.then_ hf2) (fun _ _ => id)) (hS.fr (hf1.then_ hf2) (fun _ _ => id)) (hE.fr (hf1.then_ hf2) (fun _ _ => id)) (hV.fr (hf1.then_ hf2) (fun _ _ => id)) (by omega) (by omega) (.inl ⟨.inl hk, hT⟩) (.inr hs) hx hG hD hxe (by omega) (by omega) (by omega) (by omega) hll hlk ho.bl ho.bd)
  (fun w2 hf2 => (ref10_Put_ok (hr.fr (hf1.then_ hf2) (fun _ _ => id)) (hw.fr (hf1.then_ hf2) (fun _ _ => id)) hT).mono fun _ _ ⟨v, h1, h2, h3⟩ => ⟨0, v, h1, by rw [ht]; exact h2, h3⟩)
  (fun w2 hf2 => (ref05_Put (hS.fr (hf1.then_ hf2) (fun _ _ => id)) hx).mono fun _ _ ⟨v, h1, h2, h3⟩ => ⟨v, h1, by rw [certB_G]; exact h2, h3⟩)
 rw [hws] at h
 exact h
theorem sem_task0 {w : World} {F : Nat → Prop} {o : OrdD} (ho : OrdOk o) {s : SayD} (hs : OkSay s) {G D : Int} {xs : List Int} (hG : 0 ≤ G ∧ G ≤ 2147483647) (hD : 0 ≤ D ∧ D ≤ 2147483647) (hx : xs.length ≤ 1024) (hxe : ∀ y ∈ xs, 0 ≤ y ∧ y ≤ 2147483647) {CA EA VA : Option Addr} {cc ce cv : Nat} (hS : IntF w F CA xs) (hE : EntRow w F EA o.own) (hV : IntF w F VA o.Bs) (group : Int) (hk : ¬ o.kind = 1) :
  Calls Tryz.prog 50 #[.int .i64 group, .agg #[.int .i64 o.kind, .int .i64 0, .int .i64 0, .slice none 0 0, .slice none 0 0, .int .i64 s.kind, .int .i64 s.txn, .bool s.yes, .string s.from_, .string s.to_, .int .i64 s.epoch, .int .i64 s.shard, .int .i64 s.target, .int .i64 s.root, .int .i64 G, .int .i64 D, .slice CA xs.length cc, .int .i64 o.own.length, .int .i64 0, .slice EA o.own.length ce, .slice VA o.Bs.length cv]] w (TasksP w [group] (ordBB (sayB s) (certB G D xs) (some o))) := by
 obtain ⟨hll, hlk⟩ := rises_fit ho.r
 obtain ⟨⟨h2, h10, h6⟩, ht⟩ : (2 ≤ o.kind ∧ o.kind ≤ 10 ∧ ¬ o.kind = 6) ∧ o.t0 = [] := ho.k.resolve_left (fun h => hk h.1)
 have hws : wordB s = sayB s := if_pos hs
 have hsl : (sayB s).length ≤ 65536 := by have := sayB_short s; rwa [hws] at this
 have htl : o.t0.length ≤ 65536 := by rw [ht]; simp
 refine task_ok (ordBB_pos _ _ _) (ordB_len htl hsl (certB_len hx) ho.r ho.bl) (fun w1 hf1 => ?_)
 have h := ref11_PutOrder_any (w := w1) (F := F) (kind := o.kind) (c := 0) (n := 0) (G := G) (D := D) (many := o.own.length) (first := 0) (A := none) (B := none) (CA := CA) (EA := EA) (VA := VA) (nr := 0) (cr := 0) (nw := 0) (cw := 0) (nc := xs.length) (cc := cc) (ce := ce) (cv := cv) (s := s) (t0 := o.t0) (t2 := certB G D xs) (el := o.own) (Bs := o.Bs) htl (certB_len hx) (hE.fr hf1 (fun _ _ => id)) (hV.fr hf1 (fun _ _ => id)) hll ho.bl hlk
  (fun w2 hf2 => ref11_RightOrder (F := F) (R := []) (W := []) (fun k x h => by simp at h) (fun k x h => by simp at h) (hS.fr (hf1.then_ hf2) (fun _ _ => id)) (hE.fr (hf1.then_ hf2) (fun _ _ => id)) (hV.fr (hf1.then_ hf2) (fun _ _ => id)) (by omega) (by omega) (.inr ⟨⟨hk, h6⟩, rfl, rfl, rfl, rfl⟩) (.inr hs) hx hG hD hxe (by omega) (by omega) (by omega) (by omega) hll hlk ho.bl ho.bd)
  (fun w2 hf2 => by rw [ht]; exact ref10_Put_zero w2)
  (fun w2 hf2 => (ref05_Put (hS.fr (hf1.then_ hf2) (fun _ _ => id)) hx).mono fun _ _ ⟨v, h1, h2, h3⟩ => ⟨v, h1, by rw [certB_G]; exact h2, h3⟩)
 rw [hws] at h
 exact h
theorem task_ex : ∃ i, (Tryz.prog).info? 68 = some i ∧ i.zero = some (.agg #[.int .i64 0, .slice none 0 0]) ∧ i.size = 2 ∧ i.bytes = 32 := by
 have h := task_info
 cases hi : (Tryz.prog).info? 68 with
 | none => rw [hi] at h; cases h
 | some i =>
  rw [hi] at h
  simp only [Option.map_some, Option.some.injEq, Prod.mk.injEq] at h
  exact ⟨i, rfl, h.1, h.2.1, h.2.2⟩
theorem step_append_task {w : World} {ops : Array Oper} {o : Oper} {a : Act} {K : Act → World → Prop} {Q : Exit → Act → World → Prop} {E : Prop} (hgd : o.guard = none) (s x : Operand)
  (ho : o.op = .call { callee := .builtin .append, args := #[s, x], argTypes := #[44, 44] }) {base bx : Nat} {tv xv : Value} {gs b : List Int} {g : Int} (hs : a.eval s = tv) (hx : a.eval x = xv)
  (ht : TasksAt w base tv gs b) (hx1 : TasksAt w bx xv [g] b) (hl : gs.length ≤ 1000) (hbase : base ≤ w.heap.size)
  (h : ∀ tv' w', TasksAt w' base tv' (gs ++ [g]) b → Fr (fun k => tv.ownBlock = some k) w w' → K (a.put o.dst tv') w') :
  if Region.wanted o (yielded ops a.tmps) = true then Oper.wp Tryz.prog o a w K Q else E := by
 obtain ⟨vals, h1, h2⟩ := ht
 obtain ⟨k, c, A, cap, rfl, d0, d1, hr⟩ := hx1.one
 obtain ⟨i, hi, hz, hsz, hby⟩ := task_ex
 refine step_append_lies w hgd s x 44 ho base 68 i _ 2 32 Tryz.underlying44 hi hz hsz hby rfl (by decide) tv gs.length vals hs h1 ⟨k, 0, none⟩ 1 c [.int .i64 g, .slice A b.length cap] hx rfl (fun j u hu => ?_) (fun u hu => ?_) (by decide) (by simp only [maxLen]; omega) (by omega) hbase _ rfl ?_
 ·rw [add_at, Nat.zero_add]
  match j, hu with
  | 0, hu => cases hu; exact d0
  | 1, hu => cases hu; exact d1
 ·simp only [List.mem_cons, List.not_mem_nil, or_false] at hu
  rcases hu with rfl | rfl <;> rfl
 ·intro g2 c2 w' hown hg _ _
  have hf : Fr (fun k => tv.ownBlock = some k) w w' := (Fr.refl (fun k => tv.ownBlock = some k) w).grown hg (fun _ _ e => e)
  have hu : ∀ q, U8 w q → ¬ tv.ownBlock = some q := fun q hq e => hq.ne_own h1 (by decide) e
  refine h _ w' (TasksAt.snoc (vals := vals) hown (fun k g hk => ?_) (hr.u8 hf hu)) hf
  obtain ⟨A', cap', e1, e2, hr'⟩ := h2 k g hk
  exact ⟨A', cap', e1, e2, hr'.u8 hf hu⟩
theorem yields_row {P : Program} {ops : Array Oper} {S : World → Prop} {oi : Oper} {a : Act} (ty : TypeId) (x : Operand) (ho : oi.op = .load ty x) (hw : Region.wanted oi (yielded ops a.tmps) = true) {g : Nat} {t : TypeId} {cs : Array Value} {fr : Nat × Nat} {d : TypeDesc}
  (hx : a.eval x = .pointer (some ⟨g, 0, none⟩)) (hu : P.underlying ty = some d) (hd : (match d with | .struct _ | .array _ _ => true | _ => false) = true) (hi : (P.info? ty).map (·.size) = some cs.size) (hS : ∀ w, S w → w.heap[g]? = some (.cells cs t fr)) : YieldsIf P ops S oi (.agg cs) a :=
 Or.inl ⟨hw, fun w hs => by
  unfold execOp
  simp only [ho, hx, Instr.loadAt, Instr.sureAddr, Sem.run_bind, Sem.run_pure, Result.andThen_ok, run_loadVar_row w g t ty cs fr d (hS w hs) hu hd hi]⟩
def NoOrd (w : World) (e : Ending) (w' : World) : Prop := e = .returned (.slice none 0 0) ∧ Fr (fun _ => False) w w'
theorem ref19_Orders_bad {w : World} {G f kind txn : Int} {yes : Bool} {ff tt : ByteArray} {epoch shard target root : Int} {bk sv sh lv : Value} (hno : (f < 0 ∨ 3 < f) ∨ ¬ OkSay ⟨kind, txn, yes, ff, tt, epoch, shard, target, root⟩) :
  Calls Tryz.prog 16 #[bk, sv, .int .i64 f, .agg #[.int .i64 G, .int .i64 kind, .int .i64 txn, .bool yes, .string ff, .string tt, .int .i64 epoch, .int .i64 shard, .int .i64 target, .int .i64 root], sh, lv] w (NoOrd w) := by
 have hB0 := Blk.new w 25 #[.int .i64 G, .int .i64 kind, .int .i64 txn, .bool yes, .string ff, .string tt, .int .i64 epoch, .int .i64 shard, .int .i64 target, .int .i64 root]
 have hf0 : Fr (fun _ => False) w (w.alloc (Obj.cells #[.int .i64 G, .int .i64 kind, .int .i64 txn, .bool yes, .string ff, .string tt, .int .i64 epoch, .int .i64 shard, .int .i64 target, .int .i64 root] 25)) := (Fr.refl _ _).alloc _
 have HR := Lib.hid (fun w => ref11_Right1 w kind txn yes ff tt epoch shard target root)
 go_enter Tryz.func16, Tryz.ntmps16
 go_upto_region 1 with fail
 generalize w.alloc (Obj.cells #[.int .i64 G, .int .i64 kind, .int .i64 txn, .bool yes, .string ff, .string tt, .int .i64 epoch, .int .i64 shard, .int .i64 target, .int .i64 root] 25) = w0 at *
 have k1 := hB0.cell 1
 have k2 := hB0.cell 2
 have k3 := hB0.cell 3
 have k4 := hB0.cell 4
 have k5 := hB0.cell 5
 have k6 := hB0.cell 6
 have k7 := hB0.cell 7
 have k8 := hB0.cell 8
 have k9 := hB0.cell 9
 go_upto_region 2 with (refine wpList_store_new rfl 23 (.tmp 13) (.tmp 30) rfl _ _ rfl rfl (by kernel_rfl) rfl (by simp [Value.oneCell']) ?_)
 have hBs := Blk.new w0 23 #[.int .i64 kind, .int .i64 txn, .bool yes, .string ff, .string tt, .int .i64 epoch, .int .i64 shard, .int .i64 target, .int .i64 root]
 have hf1 := hf0.alloc (Obj.cells #[.int .i64 kind, .int .i64 txn, .bool yes, .string ff, .string tt, .int .i64 epoch, .int .i64 shard, .int .i64 target, .int .i64 root] 23)
 generalize w0.alloc (Obj.cells #[.int .i64 kind, .int .i64 txn, .bool yes, .string ff, .string tt, .int .i64 epoch, .int .i64 shard, .int .i64 target, .int .i64 root] 23) = w1 at *
 clear k1 k2 k3 k4 k5 k6 k7 k8 k9
 by_cases h0 : f < 0
 ·clear hno
  go_wp2
  go_ret
  exact ⟨rfl, hf1⟩
 by_cases h3 : 3 < f
 ·clear hno
  go_wp2
  go_ret
  exact ⟨rfl, hf1⟩
 have hok : ¬ OkSay ⟨kind, txn, yes, ff, tt, epoch, shard, target, root⟩ := hno.resolve_left (fun h => by omega)
 rw [decide_eq_false hok] at HR
 clear hno hok
 have y0 := hBs.cell 0
 have y1 := hBs.cell 1
 have y2 := hBs.cell 2
 have y3 := hBs.cell 3
 have y4 := hBs.cell 4
 have y5 := hBs.cell 5
 have y6 := hBs.cell 6
 have y7 := hBs.cell 7
 have y8 := hBs.cell 8
 go_wp2_with (go_at_call 29; refine (HR.out _).mono ?_; rintro e w2 ⟨rfl, hf2⟩)
 go_ret
 exact ⟨rfl, hf1.then_ hf2⟩
theorem orders_badf {w : World} {G f kind txn : Int} {yes : Bool} {ff tt : ByteArray} {epoch shard target root : Int} {bk sv sh lv : Value} (hno : f < 0 ∨ 3 < f) :
  Calls Tryz.prog 15 #[bk, sv, .int .i64 f, .agg #[.int .i64 G, .int .i64 kind, .int .i64 txn, .bool yes, .string ff, .string tt, .int .i64 epoch, .int .i64 shard, .int .i64 target, .int .i64 root], sh, lv] w (NoOrd w) := by
 have hf0 : Fr (fun _ => False) w (w.alloc (Obj.cells #[.int .i64 G, .int .i64 kind, .int .i64 txn, .bool yes, .string ff, .string tt, .int .i64 epoch, .int .i64 shard, .int .i64 target, .int .i64 root] 25)) := (Fr.refl _ _).alloc _
 by_cases h0 : f < 0
 ·clear hno
  go_enter Tryz.func15, Tryz.ntmps15
  go_wp2
  go_ret
  exact ⟨rfl, hf0⟩
 ·have h3 : 3 < f := by omega
  clear hno
  go_enter Tryz.func15, Tryz.ntmps15
  go_wp2
  go_ret
  exact ⟨rfl, hf0⟩
def WSignX (w : World) (lo gw g m base : Nat) (v : Value) (L : List (List Int)) (gs ms : Nat) (SL : List (Int × Int)) (gD bD : Nat) (vD : Value) (LD : List (List Int)) (gQ bQ : Nat) (SQ : List (Int × Int)) (e : Ending) (w' : World) : Prop :=
 ∃ r vQ', e = .returned r ∧ WSAt w' lo gw g m base v L gs ms SL gD bD vD LD gQ bQ vQ' SQ ∧ St lo w w'
theorem law12_SignX {w : World} {lo gw g m base : Nat} {v : Value} {L : List (List Int)} {gs ms : Nat} {SL : List (Int × Int)} {gD bD : Nat} {vD : Value} {LD : List (List Int)} {gQ bQ : Nat} {vQ : Value} {SQ : List (Int × Int)} {nQ : Nat} (h : WSAt w lo gw g m base v L gs ms SL gD bD vD LD gQ bQ vQ SQ) (hq : SQ.length ≤ nQ) (hn : nQ < 131000) (gr mask d : Int) :
  Calls Tryz.prog 13 #[.pointer (some ⟨gw, 0, none⟩), .int .i64 gr, .int .i64 mask, .int .i64 d] w (WSignX w lo gw g m base v L gs ms (signTo gr mask d SL 10) gD bD vD LD gQ bQ (signTo gr mask d SQ 10)) := by
 have hlo : lo ≤ w.heap.size := Nat.le_trans h.lo_b h.b_le
 have HQ : Hid (SQ.length ≤ nQ) := hq
 have HN : Hid (nQ < 131000) := hn
 clear hq hn
 go_enter Tryz.func13, Tryz.ntmps13
 go_upto_region 2 with fail
 have hmx : (if d < 0 then (0 : Int) else d) = max d 0 := by split <;> omega
 try rw [hmx]
 generalize max d 0 = dm
 have hB8 : Blk ((w.alloc (Obj.cells #[.int .i64 0, .int .i64 0, .slice none 0 0] 41)).alloc (Obj.cells #[.int .i64 gr, .int .i64 dm, .slice none 0 0] 41)) w.heap.size 41 #[.int .i64 0, .int .i64 0, .slice none 0 0] := (Blk.new w _ _).alloc _
 have hB9 : Blk ((w.alloc (Obj.cells #[.int .i64 0, .int .i64 0, .slice none 0 0] 41)).alloc (Obj.cells #[.int .i64 gr, .int .i64 dm, .slice none 0 0] 41)) (w.heap.size + 1) 41 #[.int .i64 gr, .int .i64 dm, .slice none 0 0] := Blk.new_ _ _ _ (by simp)
 have hf0 : Fr (fun _ => False) w ((w.alloc (Obj.cells #[.int .i64 0, .int .i64 0, .slice none 0 0] 41)).alloc (Obj.cells #[.int .i64 gr, .int .i64 dm, .slice none 0 0] 41)) := ((Fr.refl _ _).alloc _).alloc _
 have H0 := Lib.hid (h.keep hf0)
 have HST := Lib.hid (St.of lo hf0)
 have hn0 : ((w.alloc (Obj.cells #[.int .i64 0, .int .i64 0, .slice none 0 0] 41)).alloc (Obj.cells #[.int .i64 gr, .int .i64 dm, .slice none 0 0] 41)).ownsRow w.heap.size 3 1 (.slice none 0 0) 0 [] := ⟨rfl, .inl ⟨rfl, rfl⟩⟩
 clear h hf0
 go_wp2_with fail
 go_loopw [10] (fun ix wr => ∃ (k n : Nat) (vQ va : Value) (xs : List Value), k ≤ 10 ∧ n ≤ k ∧ ix = .int .i64 k ∧ WSAt wr lo gw g m base v L gs ms (signTo gr mask d SL k) gD bD vD LD gQ bQ vQ (signTo gr mask d SQ k) ∧ Blk wr w.heap.size 41 #[.int .i64 0, .int .i64 0, .slice none 0 0] ∧ Blk wr (w.heap.size + 1) 41 #[.int .i64 gr, .int .i64 dm, va] ∧ wr.ownsRow w.heap.size 3 1 va n xs ∧ St lo w wr) (fun ix _ => 10 - (intOf ix).toNat)
 case atStart => exact ⟨0, 0, vQ, .slice none 0 0, [], by omega, by omega, rfl, H0.out, hB8, hB9, hn0, HST.out⟩
 case round =>
  clear hB8 hB9 hn0
  obtain ⟨k, n, vQ, va, xs, hk, hnk, rfl, h, hB8, hB9, hown, hst⟩ := hrel
  obtain ⟨A, cap, rfl, _, _⟩ := own_form hown
  by_cases hlt : k < 10
  ·cases hbit : bitOn mask k with
   | true =>
    have hb' : (bits .and .i64 (mask / 2 ^ k) 1 == 1) = true := hbit
    have HBI := Lib.hid hbit
    have c1 := h.blk.cell 1
    have hszq := signTo_len gr mask d SQ k
    have HSQ : Hid ((signTo gr mask d SQ k).length < 131072) := by have := HQ.out; have := HN.out; show _ < _; omega
    clear hbit hszq
    go_wp2_with (go_at_call 37; refine (ref04_Member gr k _).mono ?_; rintro e w' ⟨rfl, rfl⟩)
    refine (seals_Sign h.bs.seals (memberOf gr k) d (memberOf_le gr k)).mono ?_
    rintro e w2 ⟨rfl, hs2, hf2⟩
    obtain ⟨h2, hst2⟩ := h.step (h.bs.sealStep hs2 hf2) (hf2.mono (fun k _ e => .inr (.inr (.inr e))))
    generalize errO (signErr (memberOf gr k) d (signTo gr mask d SL k)) = rv
    have c3 := h2.blk.cell 3
    clear c1 hs2 hf2
    go_wp2_with fail
    refine (ref04_Sign h2.rq h2.bQ_le HSQ.out (memberOf gr k) d).mono ?_
    rintro e w3 ⟨v3, rfl, hr3, hf3⟩
    obtain ⟨h3, hst3⟩ := h2.stepQ hr3 hf3
    have hst13 := (hst.trans hst2).trans hst3
    have hst23 := hst2.trans hst3
    have hB83 := hst23.blk _ _ _ hB8 (by decide)
    have hB93 := hst23.blk _ _ _ hB9 (by decide)
    have hown3 := own_st hown hst23 (by decide)
    have hc2 := hB93.cell 2
    have hc2' := (hB93.alloc (Obj.cells #[.int .i64 k] 3)).cell 2
    have hle3 : w.heap.size ≤ w3.heap.size := hst13.fr.size
    clear c3 hr3 hf3 hB8 hB9 hown h h2 hst hst2 hst3 hst23
    go_wp2_with (at_builtin; go_loud (refine wpList_append1 _ rfl _ _ _ rfl w.heap.size 3 (.int .i64 0) 8 Tryz.underlying30 int_info rfl (.slice A n cap) _ _ rfl (hown3.alloc _) w3.heap.size (.int .i64 k) rfl ?_ rfl ?_ (by omega) ?_ ?_); (· simp); (· omega); (· simp; omega); intro g4 c4 w4 hown4 hf4; (have hB94 := (hB93.alloc (Obj.cells #[.int .i64 k] 3)).fr hf4 (own_ne_blk hown3 hB93 (by decide))); have d2 := hB94.cell 2; have z2 := hB94.frozen 2)
    go_roundw
    case rel =>
     have hfa : Fr (fun _ => False) w3 (w3.alloc (Obj.cells #[.int .i64 k] 3)) := (Fr.refl _ _).alloc _
     have hoa := own_fr hown3 hfa (fun _ _ => id)
     have hfs : Fr (fun j => j = w.heap.size + 1) w4 (w4.setCell ⟨w.heap.size + 1, 2, none⟩ (.slice (some ⟨g4, 0, none⟩) (n + 1) c4)) := (Fr.refl (fun j => j = w.heap.size + 1) w4).setCell (p := ⟨w.heap.size + 1, 2, none⟩) (fun _ => rfl) _
     have hB84 := (hB83.fr hfa id).fr hf4 (own_ne_blk hown3 hB83 (by decide))
     have e1 : signTo gr mask d SL (k + 1) = signL (memberOf gr k) d (signTo gr mask d SL k) := by rw [signTo, if_pos HBI.out]
     have e2 : signTo gr mask d SQ (k + 1) = signL (memberOf gr k) d (signTo gr mask d SQ k) := by rw [signTo, if_pos HBI.out]
     have hfar := ((h3.keep hfa).far hf4 (fun j hj => by
      obtain ⟨cs, hB⟩ := own_cells hoa hj
      exact ⟨cs, _, hB, by decide⟩)).far hfs (fun j hj => ⟨_, _, hj ▸ hB94, by decide⟩)
     refine ⟨k + 1, n + 1, v3, _, _, by omega, by omega, by go_num, ?_, hB84.fr hfs (fun e => by omega), hB94.set_ 2 _, own_fr hown4 hfs (fun j hj e => own_ne_blk hown4 hB94 (by decide) (e ▸ hj)), ?_⟩
     ·rw [e1, e2]
      exact hfar
     ·exact ((hst13.trans (St.of lo hfa)).far hf4 (fun j hj => own_ge hoa j hj) hlo).far hfs (fun j hj => by omega) hlo
    case measure => simp [intOf]; omega
   | false =>
    have hb' : (bits .and .i64 (mask / 2 ^ k) 1 == 1) = false := hbit
    have HBI := Lib.hid hbit
    clear hbit
    go_wp2_with fail
    go_roundw
    case rel =>
     have e1 : ∀ S, signTo gr mask d S (k + 1) = signTo gr mask d S k := fun S => by rw [signTo, if_neg (by rw [HBI.out]; decide)]
     exact ⟨k + 1, n, vQ, _, xs, by omega, by omega, by go_num, by rw [e1, e1]; exact h, hB8, hB9, hown, hst⟩
    case measure => simp [intOf]; omega
  ·obtain rfl : k = 10 := by omega
   have d0 := hB9.cell 0
   have d1 := hB9.cell 1
   have d2 := hB9.cell 2
   have f0 := hB8.cell 0
   have f1 := hB8.cell 1
   have f2 := hB8.cell 2
   have z0 := hB8.frozen 0
   have z1 := hB8.frozen 1
   have z2 := hB8.frozen 2
   go_wp2_with fail
   have hBf := ((hB8.set_ 0 (.int .i64 gr)).set_ 1 (.int .i64 dm)).set_ 2 (.slice A n cap)
   have hff : Fr (fun j => j = w.heap.size) wr (((wr.setCell ⟨w.heap.size, 0, none⟩ (.int .i64 gr)).setCell ⟨w.heap.size, 1, none⟩ (.int .i64 dm)).setCell ⟨w.heap.size, 2, none⟩ (.slice A n cap)) := (((Fr.refl (fun j => j = w.heap.size) wr).setCell (p := ⟨w.heap.size, 0, none⟩) (fun _ => rfl) _).setCell (p := ⟨w.heap.size, 1, none⟩) (fun _ => rfl) _).setCell (p := ⟨w.heap.size, 2, none⟩) (fun _ => rfl) _
   generalize ((wr.setCell ⟨w.heap.size, 0, none⟩ (.int .i64 gr)).setCell ⟨w.heap.size, 1, none⟩ (.int .i64 dm)).setCell ⟨w.heap.size, 2, none⟩ (.slice A n cap) = wf at hBf hff ⊢
   have e0 := hBf.cell 0
   have e1 := hBf.cell 1
   have e2 := hBf.cell 2
   simp at e0 e1 e2
   refine bodyPost_ret (v := .agg #[.int .i64 gr, .int .i64 dm, .slice A n cap]) (by simp [results, Tryz.results13, go_sem, e0, e1, e2]) rfl ?_
   have hlq := signTo_len gr mask d SQ 10
   have := HQ.out
   exact ⟨_, _, rfl, h.far hff (fun j hj => ⟨_, _, hj ▸ hB8, by decide⟩), hst.far hff (fun j hj => by omega) hlo⟩

theorem hfs {w wr : World} {g : Nat} (hg : ¬ g < w.heap.size) (n : Nat) (u v : Value) (h : Fr (fun _ => False) w wr) : Fr (fun _ => False) w (((wr.drewN n).setCell ⟨g, 0, none⟩ u).setCell ⟨g, 1, none⟩ v) :=
 Fr.setCell (p := ⟨g, 1, none⟩) (Fr.setCell (p := ⟨g, 0, none⟩) (h.drewN n) (fun h => absurd h hg) _) (fun h => absurd h hg) _
theorem TasksAt.form_ {w : World} {base : Nat} {v : Value} {gs b : List Int} (h : TasksAt w base v gs b) : ∃ A c, v = .slice A gs.length c := by
 obtain ⟨vals, h1, _⟩ := h
 obtain ⟨A, c, rfl, _, _⟩ := own_form h1
 exact ⟨A, c, rfl⟩
end Go.Proofs.YtmkdhhhoodeemaaGreat
namespace Go.Proofs.YtmkdhhhoodeemaaGreat
open Go Go.RowKit
def greatA (ff tt : ByteArray) (rw_ : Int) (nl ns : Nat) : Bool := decide ((1000 : Int) < (ff.size : Int)) || decide ((1000 : Int) < (tt.size : Int)) || decide ((40 : Int) < rw_) || decide ((200 : Int) < (nl : Int)) || decide ((40 : Int) < (ns : Int))
theorem law19_GreatA {w : World} {kind txn : Int} {yes : Bool} {ff tt : ByteArray} {epoch shard target root : Int} {c n : Int} {RA WA : Option Addr} {nr nw cr cw : Nat} {A SA : Option Addr} {nl cap ns sc : Nat} (lR : nr ≤ 9223372036854775807) (lW : nw ≤ 9223372036854775807) :
  Calls Tryz.prog 10 #[.agg #[.int .i64 kind, .int .i64 txn, .bool yes, .string ff, .string tt, .int .i64 epoch, .int .i64 shard, .int .i64 target, .int .i64 root], .agg #[.int .i64 c, .int .i64 n, .slice RA nr cr, .slice WA nw cw], .slice A nl cap, .slice SA ns sc] w (OkB w (greatA ff tt (wrap64 ((nr : Int) + (nw : Int))) nl ns)) := by
 have hS0 := (Blk.new w 23 #[.int .i64 kind, .int .i64 txn, .bool yes, .string ff, .string tt, .int .i64 epoch, .int .i64 shard, .int .i64 target, .int .i64 root]).alloc (Obj.cells #[.int .i64 c, .int .i64 n, .slice RA nr cr, .slice WA nw cw] 29)
 have hT0 : Blk ((w.alloc (Obj.cells #[.int .i64 kind, .int .i64 txn, .bool yes, .string ff, .string tt, .int .i64 epoch, .int .i64 shard, .int .i64 target, .int .i64 root] 23)).alloc (Obj.cells #[.int .i64 c, .int .i64 n, .slice RA nr cr, .slice WA nw cw] 29)) (w.heap.size + 1) 29 #[.int .i64 c, .int .i64 n, .slice RA nr cr, .slice WA nw cw] := Blk.new_ _ _ _ (by simp)
 have hf0 : Fr (fun _ => False) w ((w.alloc (Obj.cells #[.int .i64 kind, .int .i64 txn, .bool yes, .string ff, .string tt, .int .i64 epoch, .int .i64 shard, .int .i64 target, .int .i64 root] 23)).alloc (Obj.cells #[.int .i64 c, .int .i64 n, .slice RA nr cr, .slice WA nw cw] 29)) := ((Fr.refl _ _).alloc _).alloc _
 unfold greatA
 go_enter Tryz.func10, Tryz.ntmps10
 go_upto_region 1 with fail
 generalize ((w.alloc (Obj.cells #[.int .i64 kind, .int .i64 txn, .bool yes, .string ff, .string tt, .int .i64 epoch, .int .i64 shard, .int .i64 target, .int .i64 root] 23)).alloc (Obj.cells #[.int .i64 c, .int .i64 n, .slice RA nr cr, .slice WA nw cw] 29)) = w0 at *
 have s3 := hS0.cell 3
 have s4 := hS0.cell 4
 have t2 := hT0.cell 2
 have t3 := hT0.cell 3
 obtain ⟨sum, hsum⟩ : ∃ x, Hid (wrap64 ((nr : Int) + (nw : Int)) = x) := ⟨_, rfl⟩
 have hs1 := hsum.out
 by_cases g1 : (1000 : Int) < (ff.size : Int)
 ·go_wp2
  go_ret
  exact ⟨by simp [g1], hf0⟩
 ·by_cases g2 : (1000 : Int) < (tt.size : Int)
  ·go_wp2
   go_ret
   exact ⟨by simp [g2], hf0⟩
  ·by_cases g3 : (40 : Int) < sum
   ·go_wp2
    go_ret
    exact ⟨by simp [hs1, g3], hf0⟩
   ·by_cases g4 : (200 : Int) < (nl : Int)
    ·go_wp2
     go_ret
     exact ⟨by simp [g4], hf0⟩
    ·by_cases g5 : (40 : Int) < (ns : Int)
     ·go_wp2
      go_ret
      exact ⟨by simp [g5], hf0⟩
     ·go_wp2
      go_ret
      exact ⟨by simp [g1, g2, hs1, g3, g4, g5], hf0⟩
theorem greatA_no {ff tt : ByteArray} {nr nw nl ns : Nat} (lR : nr ≤ 9223372036854775807) (lW : nw ≤ 9223372036854775807) (h : greatA ff tt (wrap64 ((nr : Int) + (nw : Int))) nl ns = false) : nl ≤ 200 ∧ ns ≤ 40 ∧ ((nr ≤ 40 ∧ nw ≤ 40) ∨ 1000 ≤ nr ∨ 1000 ≤ nw) := by
 unfold greatA at h
 simp only [Bool.or_eq_false_iff, decide_eq_false_iff_not] at h
 obtain ⟨⟨⟨_, h3⟩, h4⟩, h5⟩ := h
 unfold wrap64 at h3
 omega
def TxnNo10 (w : World) (e : Ending) (w' : World) : Prop := e = .returned (.tuple #[.slice none 0 0, .int .i64 101]) ∧ Fr (fun _ => False) w w'
theorem ref10_Put_no {w : World} {F : Nat → Prop} {A B : Option Addr} {cr cw : Nat} {c n : Int} {R : List (ByteArray × Int)} {W : List (ByteArray × ByteArray)} (hr : ReadRow w F A R) (hw : WriteRow w F B W) (h : ¬ TOk c n R W) :
  Calls Tryz.prog 33 #[.agg #[.int .i64 c, .int .i64 n, .slice A R.length cr, .slice B W.length cw]] w (TxnNo10 w) := by
 have hf0 : Fr (fun _ => False) w (w.alloc (Obj.cells #[.int .i64 c, .int .i64 n, .slice A R.length cr, .slice B W.length cw] 29)) := (Fr.refl _ _).alloc _
 have HC := ref10_Right (cr := cr) (cw := cw) (c := c) (n := n) (hr.fr hf0 (fun _ _ => id)) (hw.fr hf0 (fun _ _ => id))
 rw [decide_eq_false h] at HC
 replace HC := Lib.hid HC
 clear hr hw h
 go_enter Tryz.func33, Tryz.ntmps33
 go_wp2_with fail
 refine HC.out.mono ?_
 rintro e w1 ⟨rfl, hf01⟩
 go_wp2_with fail
 refine bodyPost_ret (v := .tuple #[.slice none 0 0, .int .i64 101]) (by simp [results, Tryz.results33, go_sem]) rfl ?_
 exact ⟨rfl, hf0.then_ hf01⟩
open Classical in
noncomputable def txnL (c n : Int) (R : List (ByteArray × Int)) (W : List (ByteArray × ByteArray)) : List (List Int) := if TOk c n R W then [txnB c n R W] else []
open Classical in
noncomputable def txnI (c n : Int) (R : List (ByteArray × Int)) (W : List (ByteArray × ByteArray)) : Int := if TOk c n R W then 0 else -1
theorem law12_Txn0 {w : World} {lo gw : Nat} {SL : List (Int × Int)} {nQ : Nat} (h : WS w lo gw [] SL [] nQ) {F : Nat → Prop} {A B : Option Addr} {cr cw : Nat} {c n : Int} {R : List (ByteArray × Int)} {W : List (ByteArray × ByteArray)} (hr : ReadRow w F A R) (hw : WriteRow w F B W) :
  Calls Tryz.prog 11 #[.pointer (some ⟨gw, 0, none⟩), .agg #[.int .i64 c, .int .i64 n, .slice A R.length cr, .slice B W.length cw]] w (WStep w lo gw (txnL c n R W) SL (txnL c n R W) nQ (.int .i64 (txnI c n R W))) := by
 by_cases ht : TOk c n R W
 ·have := law12_Txn (cr := cr) (cw := cw) h GoodL.nil (List.prefix_refl _) (by simp) hr hw ht
  rw [digL_nil, digI_nil] at this
  rw [txnL, if_pos ht, txnI, if_pos ht]
  exact this
 ·rw [txnL, if_neg ht, txnI, if_neg ht]
  have hf0 : Fr (fun _ => False) w (w.alloc (Obj.cells #[.int .i64 c, .int .i64 n, .slice A R.length cr, .slice B W.length cw] 29)) := (Fr.refl _ _).alloc _
  have HP := Lib.hid (ref10_Put_no (cr := cr) (cw := cw) (hr.fr hf0 (fun _ _ => id)) (hw.fr hf0 (fun _ _ => id)) ht)
  clear ht hr hw
  go_enter Tryz.func11, Tryz.ntmps11
  go_wp2_with fail
  refine HP.out.mono ?_
  rintro e w1 ⟨rfl, hf1⟩
  have hf01 := hf0.then_ hf1
  have h1 := h.keep hf01
  clear HP
  go_wp2_with fail
  go_ret
  exact ⟨rfl, h1, St.of lo hf01⟩
theorem txnL_len (c n : Int) (R : List (ByteArray × Int)) (W : List (ByteArray × ByteArray)) : (txnL c n R W).length ≤ 1 := by
 unfold txnL
 split <;> simp
theorem txnL_good (c n : Int) (R : List (ByteArray × Int)) (W : List (ByteArray × ByteArray)) : GoodL (txnL c n R W) := by
 unfold txnL
 split
 ·rename_i h
  exact ⟨by simp, fun t ht => by rw [List.mem_singleton.1 ht]; exact txnB_len h⟩
 ·exact GoodL.nil
end Go.Proofs.YtmkdhhhoodeemaaGreat
namespace Go.Proofs.YtmkdhhhoodeemaaGreat
open Go Go.RowKit
theorem cert_none {G D f : Int} {SL : List (Int × Int)} (hf : 0 ≤ f ∧ f ≤ 3) (hn : ¬ ((whoInts G D SL).length : Int) < 2 * f + 1) : checkE G D SL (ordX G D f SL) (2 * f + 1) = none := by
 unfold ordX
 refine checkE_ok ((chkErr_none _ _ _).2 ⟨List.pairwise_cons.2 ⟨fun y hy => ?_, ?_⟩, fun x hx => ?_⟩) ?_
 ·have := (whoInts_mem (List.mem_of_mem_take hy)).1
  omega
 ·exact List.Pairwise.sublist (List.take_sublist _ _) whoInts_rises
 ·exact (whoInts_mem (List.mem_of_mem_take hx)).2
 ·rw [List.length_take]
  omega
theorem keepE_sub (ff tt : ByteArray) (l : List Ent) : ∀ x ∈ keepE ff tt l, x ∈ l := fun x hx => by
 unfold keepE at hx
 exact (List.mem_filter.1 hx).1
theorem ordF_own {L1 : List (List Int)} {G : Int} {s : SayD} {ss : List Int} {l : List Ent} {o : OrdD} (h : ordF L1 G s ss l = some o) : ∀ x ∈ o.own, x ∈ l := by
 unfold ordF at h
 repeat' split at h
 all_goals first
  | (cases h; done)
  | (cases h; intro x hx; first | (cases hx; done) | exact keepE_sub _ _ _ x hx)
structure OrdSome (L : List (List Int)) (SL : List (Int × Int)) (f G : Int) (s : SayD) (l : List Ent) (o : OrdD) : Prop where
 ok : OkSay s
 oo : OrdOk o
 G0 : 0 ≤ G ∧ G ≤ 2147483647
 D0 : 0 ≤ sayI L s ∧ sayI L s ≤ 2147483647
 xl : (ordX G (sayI L s) f SL).length ≤ 1024
 xe : ∀ y ∈ ordX G (sayI L s) f SL, 0 ≤ y ∧ y ≤ 2147483647
 ck : checkE G (sayI L s) SL (ordX G (sayI L s) f SL) (2 * f + 1) = none
 ow : ∀ x ∈ o.own, x ∈ l
theorem ordA_some {L : List (List Int)} (hL : L.length < 60000) {SL : List (Int × Int)} {f G : Int} (hf : 0 ≤ f ∧ f ≤ 3) {s : SayD} {ss : List Int} {l : List Ent} {o : OrdD} (h : ordA L SL f G s ss l = some o) : OrdSome L SL f G s l o := by
 unfold ordA at h
 split at h
 ·rename_i hh
  obtain ⟨hok, hfew⟩ := hh
  have hD : 0 ≤ sayI L s ∧ sayI L s < 2147483648 := by
   unfold sayI
   rw [if_pos hok]
   have : digI L (sayB s) ≤ L.length := by
    unfold digI
    split
    ·exact List.idxOf_le_length
    ·exact Nat.le_refl _
   omega
  obtain ⟨hGr, hxl, hget⟩ := get_who_f hf hfew hD
  have hsl := sayL_len L s
  refine ⟨hok, ordF_ok (by omega) h, by omega, by omega, hxl, fun y hy => ?_, cert_none hf hfew, ordF_own h⟩
  have := (member_ge (who_mem (List.mem_of_mem_take hy)).2).2
  omega
 ·cases h
def txnN (d txn : Int) : Int := if 0 ≤ d ∧ txn < 0 then d else txn
theorem TasksAt.dig {w w' : World} {base gD bD : Nat} {v vD : Value} {gs b : List Int} {L : List (List Int)} (h : TasksAt w base v gs b) (hr : RBookAt w gD bD vD L) (hf : Fr (fun k => k = gD ∨ vD.ownBlock = some k) w w') : TasksAt w' base v gs b := by
 refine h.fr hf (fun k hk => ?_) (fun k hk => ?_)
 ·obtain ⟨vals, h1, _⟩ := h
  obtain ⟨cs, hB⟩ := own_cells h1 hk
  exact rb_ne hr hB (fun _ _ _ e => tcell e (by decide) (by decide))
 ·obtain ⟨cs, f, h1⟩ := hk
  exact rb_ne hr h1 (fun _ _ _ e => tcell e (by decide) (by decide))
theorem ordF_len {L1 : List (List Int)} {G : Int} {s : SayD} {ss : List Int} {l : List Ent} {o : OrdD} (h : ordF L1 G s ss l = some o) : o.gg.length ≤ ss.length + 2 := by
 unfold ordF at h
 repeat' split at h
 all_goals first
  | (cases h; done)
  | (cases h; simp)
theorem ordA_len {L : List (List Int)} {SL : List (Int × Int)} {f G : Int} {s : SayD} {ss : List Int} {l : List Ent} {O : Option OrdD} (h : ordA L SL f G s ss l = O) : (ordG O).length ≤ ss.length + 2 := by
 cases O with
 | none => simp [ordG]
 | some o =>
  unfold ordA at h
  split at h
  ·exact ordF_len h
  ·cases h
def crtS (G mask : Int) (L : List (List Int)) (s : SayD) : List (Int × Int) := if OkSay s then signTo G mask (sayI L s) [] 10 else []
theorem crtS_len (G mask : Int) (L : List (List Int)) (s : SayD) : (crtS G mask L s).length ≤ 10 := by
 unfold crtS
 split
 ·have := signTo_len G mask (sayI L s) [] 10
  simpa using this
 ·simp
def DE (w : World) (g : Nat) : Prop := ∃ (A : Option Addr) (n cap : Nat) (pos er : Int) (s : ByteArray) (a : Int), Blk w g 131 #[.slice A n cap, .int .i64 pos, .int .i64 er, .string s, .int .i64 a] ∧ er ≠ 0
theorem DE.fr {S : Nat → Prop} {w w' : World} {g : Nat} (h : DE w g) (hf : Fr S w w') (hg : ¬ S g) : DE w' g := by
 obtain ⟨A, n, cap, pos, er, s, a, h1, h2⟩ := h
 exact ⟨A, n, cap, pos, er, s, a, h1.fr hf hg, h2⟩
def DGot (w : World) (g : Nat) (v : Value) (e : Ending) (w' : World) : Prop := e = .returned v ∧ DE w' g ∧ Fr (fun k => k = g) w w'
theorem refr_bad {w : World} {g b o cap : Nat} {bs : List Int} {pos : Nat} (h : RR w g b o cap bs pos) {er : Int} (he : er ≠ 0) (s : ByteArray) (a : Int) :
  Calls Tryz.prog 91 #[.pointer (some ⟨g, 0, none⟩), .int .i64 er, .string s, .int .i64 a] w (DGot w g (.tuple #[])) := by
 have c2 : w.cell? ⟨g, 2, none⟩ = some (.int .i64 0) := h.blk.cell 2
 have c3 : w.cell? ⟨g, 3, none⟩ = some (.string ⟨#[]⟩) := h.blk.cell 3
 have c4 : w.cell? ⟨g, 4, none⟩ = some (.int .i64 0) := h.blk.cell 4
 have z2 := h.blk.frozen 2
 have z3 := h.blk.frozen 3
 have z4 := h.blk.frozen 4
 go_enter Tryz.func91, Tryz.ntmps91
 go_wp2
 refine bodyPost_ret (v := .tuple #[]) (by simp [results, Tryz.results91, go_sem]) rfl ?_
 exact ⟨rfl, ⟨_, _, _, _, er, s, a, ((h.blk.set_ 2 (.int .i64 er)).set_ 3 (.string s)).set_ 4 (.int .i64 a), he⟩,
  (((Fr.refl (fun k => k = g) w).setCell (p := ⟨g, 2, none⟩) (fun _ => rfl) _).setCell (p := ⟨g, 3, none⟩) (fun _ => rfl) _).setCell (p := ⟨g, 4, none⟩) (fun _ => rfl) _⟩
theorem de_bytes {w : World} {g : Nat} (h : DE w g) (n : Int) (s : ByteArray) (a : Int) :
  Calls Tryz.prog 122 #[.pointer (some ⟨g, 0, none⟩), .int .i64 n, .string s, .int .i64 a] w (DGot w g (.slice none 0 0)) := by
 have H := Lib.hid h
 obtain ⟨A, m, cap, pos, er, s0, a0, h1, h2⟩ := h
 have c2 : w.cell? ⟨g, 2, none⟩ = some (.int .i64 er) := h1.cell 2
 have hne : (er == 0) = false := beq_eq_false_iff_ne.2 h2
 clear h1
 go_enter Tryz.func122, Tryz.ntmps122
 go_wp2
 go_ret
 exact ⟨rfl, H.out, Fr.refl _ _⟩
theorem refr_bytes_end {w : World} {g b o cap : Nat} {bs : List Int} {pos : Nat} (h : RR w g b o cap bs pos) (hl : bs.length ≤ 1099511627776) (n : Nat) (hn : bs.length < pos + n) (s : ByteArray) (at_ : Int) :
  Calls Tryz.prog 122 #[.pointer (some ⟨g, 0, none⟩), .int .i64 n, .string s, .int .i64 at_] w (DGot w g (.slice none 0 0)) := by
 have c0 := h.blk.cell 0
 have c1 := h.blk.cell 1
 have c2 := h.blk.cell 2
 have hle := h.le
 have hn' : (bs.length : Int) - (pos : Int) < (n : Int) := by omega
 have hsub : wrap64 ((bs.length : Int) - (pos : Int)) = (bs.length : Int) - (pos : Int) := by unfold wrap64; omega
 have HB := Lib.hid (fun (w' : World) (hf : Fr (fun _ => False) w w') => refr_bad (h.keep hf) (er := 21) (by decide) s at_)
 clear h
 go_enter Tryz.func122, Tryz.ntmps122
 go_wp2_with fail
 go_quiet (fail)
 have hf1 : Fr (fun _ => False) w (w.drewN nq) := (Fr.refl _ _).drewN nq
 generalize w.drewN nq = w1 at *
 go_wp2_with (go_at_call 91; refine (HB.out _ hf1).mono ?_; rintro e w2 ⟨rfl, h2, hf2⟩)
 go_ret
 exact ⟨rfl, h2, (hf1.mono (fun _ _ h => h.elim)).trans hf2 (fun _ _ h => h)⟩
theorem num_none {w : World} {g : Nat} (s : ByteArray) (at_ : Int) (H : Calls Tryz.prog 122 #[.pointer (some ⟨g, 0, none⟩), .int .i64 8, .string s, .int .i64 at_] w (DGot w g (.slice none 0 0))) :
  Calls Tryz.prog 89 #[.pointer (some ⟨g, 0, none⟩), .string s, .int .i64 at_] w (DGot w g (.int .i64 0)) := by
 have HB := Lib.hid H
 clear H
 go_enter Tryz.func89, Tryz.ntmps89
 go_upto_region 4 with (go_at_call 122; refine HB.out.mono ?_; rintro e w1 ⟨rfl, h1, hf1⟩)
 go_loopw [8, 9] (fun n i wr => i = .int .i64 0 ∧ n = .int .i64 0 ∧ w1 = wr) (fun _ _ _ => 0)
 case atStart => exact ⟨rfl, rfl, rfl⟩
 case round =>
  obtain ⟨rfl, rfl, rfl⟩ := hrel
  go_wp2
  go_ret
  exact ⟨rfl, h1, hf1⟩
theorem length_none {w : World} {g : Nat} (most : Int) (s : ByteArray) (at_ : Int) (H : Calls Tryz.prog 122 #[.pointer (some ⟨g, 0, none⟩), .int .i64 4, .string s, .int .i64 at_] w (DGot w g (.slice none 0 0))) :
  Calls Tryz.prog 92 #[.pointer (some ⟨g, 0, none⟩), .int .i64 most, .string s, .int .i64 at_] w (DGot w g (.int .i64 0)) := by
 have HB := Lib.hid H
 clear H
 go_enter Tryz.func92, Tryz.ntmps92
 go_upto_region 2 with (go_at_call 122; refine HB.out.mono ?_; rintro e w1 ⟨rfl, h1, hf1⟩)
 have H1 := Lib.hid h1
 obtain ⟨A, m, cap, pos, er, s0, a0, h1, h2⟩ := h1
 have c2 : w1.cell? ⟨g, 2, none⟩ = some (.int .i64 er) := h1.cell 2
 have hne : (er == 0) = false := beq_eq_false_iff_ne.2 h2
 clear h1
 go_wp2
 go_ret
 exact ⟨rfl, H1.out, hf1⟩
theorem length_more {w : World} {g b o cap : Nat} {bs : List Int} {pos : Nat} (h : RR w g b o cap bs pos) (hl : bs.length ≤ 1099511627776) {n : Nat} {t : List Int} (hd : bs.drop pos = count4 n ++ t) {most : Int} (hm : most < (n : Int)) (hn : (n : Int) < 4294967296) (h0 : 0 ≤ most) (s : ByteArray) (at_ : Int) :
  Calls Tryz.prog 92 #[.pointer (some ⟨g, 0, none⟩), .int .i64 most, .string s, .int .i64 at_] w (DGot w g (.int .i64 0)) := by
 have hlen := drop_len hd
 rw [count4_length] at hlen
 have hle := h.le
 have HB : Hid (Calls Tryz.prog 122 #[.pointer (some ⟨g, 0, none⟩), .int .i64 4, .string s, .int .i64 at_] w (fun e w' => ∃ v, e = .returned v ∧ Own8 w' w.heap.size v (count4 n) ∧ RR w' g b o cap bs (pos + 4) ∧ Fr (fun k => k = g) w w')) := by
  refine (refr_bytes h hl 4 (by omega) s at_).mono ?_
  rintro e w' ⟨v, h1, h2, h3, h4⟩
  rw [hd, List.take_left' (count4_length n)] at h2
  exact ⟨v, h1, h2, h3, h4⟩
 have hN : Hid (count4 (n : Int) = [(n : Int) / 16777216 % 256, (n : Int) / 65536 % 256, (n : Int) / 256 % 256, (n : Int) % 256]) := rfl
 rw [hN.out] at HB
 obtain ⟨x0, q0⟩ : ∃ x, Hid ((n : Int) / 16777216 % 256 = x) := ⟨_, rfl⟩
 obtain ⟨x1, q1⟩ : ∃ x, Hid ((n : Int) / 65536 % 256 = x) := ⟨_, rfl⟩
 obtain ⟨x2, q2⟩ : ∃ x, Hid ((n : Int) / 256 % 256 = x) := ⟨_, rfl⟩
 obtain ⟨x3, q3⟩ : ∃ x, Hid ((n : Int) % 256 = x) := ⟨_, rfl⟩
 rw [q0.out, q1.out, q2.out, q3.out] at HB
 have hb0 : 0 ≤ x0 ∧ x0 < 256 := by have := q0.out; omega
 have hb1 : 0 ≤ x1 ∧ x1 < 256 := by have := q1.out; omega
 have hb2 : 0 ≤ x2 ∧ x2 < 256 := by have := q2.out; omega
 have hb3 : 0 ≤ x3 ∧ x3 < 256 := by have := q3.out; omega
 have hsum : Hid (x0 * 16777216 + x1 * 65536 + x2 * 256 + x3 = (n : Int)) := by show _ = _; have := q0.out; have := q1.out; have := q2.out; have := q3.out; omega
 obtain ⟨b0l, b0h⟩ := hb0
 obtain ⟨b1l, b1h⟩ := hb1
 obtain ⟨b2l, b2h⟩ := hb2
 obtain ⟨b3l, b3h⟩ := hb3
 clear h hd hN hlen
 go_enter Tryz.func92, Tryz.ntmps92
 go_upto_region 2 with (go_at_call 122; refine HB.out.mono ?_; rintro e w1 ⟨v1, rfl, hv1, h1, hf1⟩; obtain ⟨A1, k1, rfl, _, hr1⟩ := hv1.form)
 obtain ⟨bb, oo, rfl, _, e0⟩ := hr1 0 x0 rfl
 obtain ⟨_, _, hq, _, e1⟩ := hr1 1 x1 rfl
 cases hq
 obtain ⟨_, _, hq, _, e2⟩ := hr1 2 x2 rfl
 cases hq
 obtain ⟨_, _, hq, _, e3⟩ := hr1 3 x3 rfl
 cases hq
 rw [Nat.add_zero] at e0
 have d2 := h1.blk.cell 2
 clear hr1
 go_wp2_with fail
 go_quiet (fail)
 have hor : bits BinOp.or IntKind.i64 (bits BinOp.or IntKind.i64 (bits BinOp.or IntKind.i64 (x0 * 16777216) (x1 * 65536)) (x2 * 256)) x3 = (n : Int) := by
  have a1 : bits .or .i64 (x0 * 16777216) (x1 * 65536) = x0 * 16777216 + x1 * 65536 := by rw [or_low24 _ _ (by omega) (by omega) (by omega)]; unfold wrap64; omega
  have a2 : bits .or .i64 (x0 * 16777216 + x1 * 65536) (x2 * 256) = x0 * 16777216 + x1 * 65536 + x2 * 256 := by rw [or_low16 _ _ (by omega) (by omega) (by omega)]; unfold wrap64; omega
  have a3 : bits .or .i64 (x0 * 16777216 + x1 * 65536 + x2 * 256) x3 = x0 * 16777216 + x1 * 65536 + x2 * 256 + x3 := by rw [or_low _ _ (by omega) (by omega) (by omega)]; unfold wrap64; omega
  rw [a1, a2, a3]
  exact hsum.out
 rw [hor]
 have hf2 : Fr (fun _ => False) w1 (w1.drewN nq) := (Fr.refl _ _).drewN nq
 have hR := h1.keep hf2
 have hfT := hf1.then_ hf2
 have HBD := Lib.hid (fun s a => refr_bad hR (er := 2) (by decide) s a)
 have hm' : most < (n : Int) := hm
 generalize w1.drewN nq = w2 at *
 go_wp2_with (go_at_call 91; refine (HBD.out _ _).mono ?_; rintro e w3 ⟨rfl, h3, hf3⟩)
 go_ret
 exact ⟨rfl, h3, hfT.trans hf3 (fun _ _ h => h)⟩
theorem text_none {w : World} {g : Nat} (s : ByteArray) (at_ : Int) (H : Calls Tryz.prog 92 #[.pointer (some ⟨g, 0, none⟩), .int .i64 65536, .string s, .int .i64 at_] w (DGot w g (.int .i64 0))) :
  Calls Tryz.prog 90 #[.pointer (some ⟨g, 0, none⟩), .string s, .int .i64 at_] w (DGot w g (.slice none 0 0)) := by
 have HL := Lib.hid H
 clear H
 go_enter Tryz.func90, Tryz.ntmps90
 go_upto_region 2 with (go_at_call 92; refine HL.out.mono ?_; rintro e w1 ⟨rfl, h1, hf1⟩)
 have HB := Lib.hid (de_bytes h1 0 s at_)
 go_wp2_with (go_at_call 122; refine HB.out.mono ?_; rintro e w2 ⟨rfl, h2, hf2⟩)
 go_ret
 exact ⟨rfl, h2, hf1.trans hf2 (fun _ _ h => h)⟩
theorem text_end {w : World} {g b o cap : Nat} {bs : List Int} {pos : Nat} (h : RR w g b o cap bs pos) (hl : bs.length ≤ 1099511627776) {n : Nat} {t : List Int} (hd : bs.drop pos = count4 n ++ t) (hn : (n : Int) ≤ 65536) (ht : t.length < n) (s : ByteArray) (at_ : Int) :
  Calls Tryz.prog 90 #[.pointer (some ⟨g, 0, none⟩), .string s, .int .i64 at_] w (DGot w g (.slice none 0 0)) := by
 have hlen := drop_len hd
 rw [count4_length] at hlen
 have hle := h.le
 have HL := Lib.hid (refr_length h hl hd (most := 65536) hn (by omega) s at_)
 clear h hd
 go_enter Tryz.func90, Tryz.ntmps90
 go_upto_region 2 with (go_at_call 92; refine HL.out.mono ?_; rintro e w1 ⟨rfl, h1, hf1⟩)
 have HB := Lib.hid (refr_bytes_end h1 hl n (by omega) s at_)
 go_wp2_with (go_at_call 122; refine HB.out.mono ?_; rintro e w2 ⟨rfl, h2, hf2⟩)
 go_ret
 exact ⟨rfl, h2, hf1.trans hf2 (fun _ _ h => h)⟩
theorem text_bad {w : World} {g b o cap : Nat} {bs : List Int} {pos : Nat} (h : RR w g b o cap bs pos) (hl : bs.length ≤ 1099511627776) (h8 : Bytes8 bs) (hc : textC bs pos ≠ 0) (s : ByteArray) (at_ : Int) :
  Calls Tryz.prog 90 #[.pointer (some ⟨g, 0, none⟩), .string s, .int .i64 at_] w (DGot w g (.slice none 0 0)) := by
 have hle := h.le
 by_cases h4 : bs.length - pos < 4
 ·exact text_none s at_ (length_none 65536 s at_ (refr_bytes_end h hl 4 (by omega) s at_))
 have hlen : ((bs.drop pos).take 4).length = 4 := by rw [List.length_take, List.length_drop]; omega
 obtain ⟨b0, b1⟩ := spell4_bound (h8.part pos 4) hlen
 have hcs := count4_spell (h8.part pos 4) hlen
 have hN : (textN bs pos : Int) = spell64 ((bs.drop pos).take 4) := by unfold textN; omega
 have hd : bs.drop pos = count4 (textN bs pos) ++ bs.drop (pos + 4) := by
  rw [hN, hcs, ← List.drop_drop, List.take_append_drop]
 by_cases hm : (65536 : Int) < (textN bs pos : Int)
 ·exact text_none s at_ (length_more h hl hd hm (by omega) (by omega) s at_)
 ·refine text_end h hl hd (by omega) ?_ s at_
  rw [List.length_drop]
  unfold textC countC at hc
  rw [if_neg h4, if_neg (by omega)] at hc
  simp at hc
  omega
def DR (w : World) (g : Nat) (st : Option (List Int)) : Prop :=
 match st with
 | some s => ∃ b o cap bs pos, RR w g b o cap bs pos ∧ bs.drop pos = s ∧ bs.length ≤ 1099511627776 ∧ Bytes8 bs
 | none => DE w g
theorem DR.fr {S : Nat → Prop} {w w' : World} {g : Nat} {st : Option (List Int)} (h : DR w g st) (hf : Fr S w w') (hg : ¬ S g) (h8 : ∀ k, U8 w k → ¬ S k) : DR w' g st := by
 cases st with
 | some s => obtain ⟨b, o, cap, bs, pos, h1, h2⟩ := h; exact ⟨b, o, cap, bs, pos, h1.fr hf hg h8, h2⟩
 | none => exact DE.fr h hf hg
theorem DR.keep {w w' : World} {g : Nat} {st : Option (List Int)} (h : DR w g st) (hf : Fr (fun _ => False) w w') : DR w' g st := h.fr hf id (fun _ _ => id)
theorem DR.blk {w : World} {g : Nat} {st : Option (List Int)} (h : DR w g st) : ∃ cs, Blk w g 131 cs := by
 cases st with
 | some s => obtain ⟨b, o, cap, bs, pos, h1, h2⟩ := h; exact ⟨_, h1.blk⟩
 | none => obtain ⟨A, m, cap, pos, er, s0, a0, h1, h2⟩ := h; exact ⟨_, h1⟩
theorem DR.ne {w : World} {g x : Nat} {st : Option (List Int)} {t : TypeId} {cs : Array Value} (h : DR w g st) (hB : Blk w x t cs) (ht : 131 ≠ t) : ¬ x = g := by
 obtain ⟨ds, hD⟩ := h.blk
 exact fun e => hD.ne_ hB ht e.symm
theorem DR.far {w : World} {g : Nat} {st : Option (List Int)} (h : DR w g st) {x : Nat} {t : TypeId} {cs : Array Value} (hB : Blk w x t cs) (ht : 5 ≠ t) (hr : 131 ≠ t) (i : Nat) (u : Value) : DR (w.setCell ⟨x, i, none⟩ u) g st :=
 h.fr ((Fr.refl (fun k => k = x) w).setCell (p := ⟨x, i, none⟩) (fun _ => rfl) u) (fun e => h.ne hB hr e.symm) (fun k hk e => hk.ne_blk hB ht e)
theorem DR.own {w w' : World} {g base n size : Nat} {st : Option (List Int)} {e : TypeId} {v : Value} {xs : List Value} (h : DR w g st) (ho : w.ownsRow base e size v n xs) (h8 : e ≠ 5) (hr : e ≠ 131) (hf : Fr (fun k => v.ownBlock = some k) w w') : DR w' g st := by
 obtain ⟨ds, hD⟩ := h.blk
 exact h.fr hf (own_ne_blk ho hD hr) (fun k hk => hk.ne_own ho h8)
def DNum (w : World) (g : Nat) (ok : Int → Prop) (st : Option (List Int)) (e : Ending) (w' : World) : Prop :=
 ∃ x st', e = .returned (.int .i64 x) ∧ DR w' g st' ∧ NumStep ok st x st' ∧ Fr (fun k => k = g) w w'
def DText (w : World) (g : Nat) (st : Option (List Int)) (e : Ending) (w' : World) : Prop :=
 ∃ v xs st', e = .returned v ∧ Own8 w' w.heap.size v xs ∧ Bytes8 xs ∧ DR w' g st' ∧ TextStep st xs st' ∧ Fr (fun k => k = g) w w'
theorem dr_num {w : World} {g : Nat} {st : Option (List Int)} (h : DR w g st) (s : ByteArray) (a : Int) :
  Calls Tryz.prog 89 #[.pointer (some ⟨g, 0, none⟩), .string s, .int .i64 a] w (DNum w g Wf64 st) := by
 cases st with
 | none =>
  refine (num_none s a (de_bytes h 8 s a)).mono ?_
  rintro e w' ⟨he, h2, hf⟩
  exact ⟨0, none, he, h2, ⟨rfl, rfl⟩, hf⟩
 | some t =>
  obtain ⟨b, o, cap, bs, pos, h1, hd, hl, h8⟩ := h
  have hle := h1.le
  by_cases h9 : bs.length - pos < 8
  ·refine (num_none s a (refr_bytes_end h1 hl 8 (by omega) s a)).mono ?_
   rintro e w' ⟨he, h2, hf⟩
   refine ⟨0, none, he, h2, .inr ⟨rfl, rfl, fun y t' hy e => ?_⟩, hf⟩
   have := (num_read (hd.trans e) hy.1 hy.2).1
   unfold numC at this
   rw [if_pos h9] at this
   cases this
  ·refine (refr_num h1 hl (by omega) s a).mono ?_
   rintro e w' ⟨he, h2, hf⟩
   have hk := num_kept h8 (p := pos) (by unfold numC; rw [if_neg h9])
   rw [hd] at hk
   exact ⟨numX bs pos, some (bs.drop (pos + 8)), he, ⟨b, o, cap, bs, _, h2, rfl, hl, h8⟩, .inl ⟨_, hk, numX_wf _ _, rfl⟩, hf⟩
theorem dr_Num {w : World} {g : Nat} {st : Option (List Int)} (h : DR w g st) :
  Calls Tryz.prog 54 #[.pointer (some ⟨g, 0, none⟩)] w (DNum w g Wf64 st) := by
 have HN := Lib.hid (fun s a => dr_num h s a)
 obtain ⟨A, n, cap, pos, er, sw, a0, hB⟩ : ∃ A n cap pos er sw a0, Blk w g 131 #[.slice A n cap, .int .i64 pos, .int .i64 er, .string sw, .int .i64 a0] := by
  cases st with
  | some s => obtain ⟨b, o, cap, bs, pos, h1, h2⟩ := h; exact ⟨_, _, _, _, _, _, _, h1.blk⟩
  | none => obtain ⟨A, m, cap, pos, er, s0, a0, h1, h2⟩ := h; exact ⟨_, _, _, _, _, _, _, h1⟩
 have c1 : w.cell? ⟨g, 1, none⟩ = some (.int .i64 pos) := hB.cell 1
 clear h hB
 go_enter Tryz.func54, Tryz.ntmps54
 go_wp2_with (go_at_call 89; refine (HN.out _ _).mono ?_; rintro e w1 ⟨x, st', rfl, h1, h2, hf1⟩)
 go_ret
 exact ⟨x, st', rfl, h1, h2, hf1⟩
theorem dr_text {w : World} {g : Nat} {st : Option (List Int)} (h : DR w g st) (s : ByteArray) (a : Int) :
  Calls Tryz.prog 90 #[.pointer (some ⟨g, 0, none⟩), .string s, .int .i64 a] w (DText w g st) := by
 cases st with
 | none =>
  refine (text_none s a (length_none 65536 s a (de_bytes h 4 s a))).mono ?_
  rintro e w' ⟨he, h2, hf⟩
  exact ⟨_, [], none, he, Own8.nil _ _, fun y h => by simp at h, h2, ⟨rfl, rfl⟩, hf⟩
 | some t =>
  obtain ⟨b, o, cap, bs, pos, h1, hd, hl, h8⟩ := h
  by_cases hc : textC bs pos = 0
  ·obtain ⟨hk, _, hk3⟩ := text_kept h8 hc
   refine (refr_text h1 hl hk hk3 s a).mono ?_
   rintro e w' ⟨v, he, hv, h2, hf⟩
   have hn := (text_read hk hk3).2.2
   rw [hd] at hk
   refine ⟨v, textX bs pos, some _, he, hv, ?_, ⟨b, o, cap, bs, _, h2, ?_, hl, h8⟩, .inl ⟨_, hk, hk3, rfl⟩, hf⟩
   ·intro y hy
    unfold textX at hy
    exact h8 y (List.mem_of_mem_drop (List.mem_of_mem_take hy))
   ·rw [hn.1]
  ·refine (text_bad h1 hl h8 hc s a).mono ?_
   rintro e w' ⟨he, h2, hf⟩
   exact ⟨_, [], none, he, Own8.nil _ _, fun y h => by simp at h, h2, .inr ⟨rfl, rfl, fun ys t' hy e => hc (text_read (hd.trans e) hy).1⟩, hf⟩
theorem dr_Text {w : World} {g : Nat} {st : Option (List Int)} (h : DR w g st) :
  Calls Tryz.prog 55 #[.pointer (some ⟨g, 0, none⟩)] w (DText w g st) := by
 have HN := Lib.hid (fun s a => dr_text h s a)
 obtain ⟨A, n, cap, pos, er, sw, a0, hB⟩ : ∃ A n cap pos er sw a0, Blk w g 131 #[.slice A n cap, .int .i64 pos, .int .i64 er, .string sw, .int .i64 a0] := by
  cases st with
  | some s => obtain ⟨b, o, cap, bs, pos, h1, h2⟩ := h; exact ⟨_, _, _, _, _, _, _, h1.blk⟩
  | none => obtain ⟨A, m, cap, pos, er, s0, a0, h1, h2⟩ := h; exact ⟨_, _, _, _, _, _, _, h1⟩
 have c1 : w.cell? ⟨g, 1, none⟩ = some (.int .i64 pos) := hB.cell 1
 clear h hB
 go_enter Tryz.func55, Tryz.ntmps55
 go_wp2_with (go_at_call 90; refine (HN.out _ _).mono ?_; rintro e w1 ⟨v, xs, st', rfl, h0, h1, h2, h3, hf1⟩)
 go_ret
 exact ⟨v, xs, st', rfl, h0, h1, h2, h3, hf1⟩
theorem dr_Int {w : World} {g : Nat} {st : Option (List Int)} (h : DR w g st) (most : Int) (hm0 : 0 ≤ most) (hm : most ≤ 9223372036854775807) :
  Calls Tryz.prog 56 #[.pointer (some ⟨g, 0, none⟩), .int .i64 most] w (DNum w g (fun x => 0 ≤ x ∧ x ≤ most) st) := by
 have HN := Lib.hid (fun s a => dr_num h s a)
 obtain ⟨A, n, cap, pos, er, sw, a0, hB⟩ : ∃ A n cap pos er sw a0, Blk w g 131 #[.slice A n cap, .int .i64 pos, .int .i64 er, .string sw, .int .i64 a0] := by
  cases st with
  | some s => obtain ⟨b, o, cap, bs, pos, h1, h2⟩ := h; exact ⟨_, _, _, _, _, _, _, h1.blk⟩
  | none => obtain ⟨A, m, cap, pos, er, s0, a0, h1, h2⟩ := h; exact ⟨_, _, _, _, _, _, _, h1⟩
 have c1 : w.cell? ⟨g, 1, none⟩ = some (.int .i64 pos) := hB.cell 1
 clear h hB
 go_enter Tryz.func56, Tryz.ntmps56
 go_upto_region 3 with (go_at_call 89; refine (HN.out _ _).mono ?_; rintro e w1 ⟨x, st', rfl, h1, h2, hf1⟩)
 clear c1
 cases st' with
 | none =>
  have hx : x = 0 ∧ (st = none ∨ ∃ s, st = some s ∧ ∀ y t, 0 ≤ y ∧ y ≤ most → s ≠ num8 y ++ t) := by
   cases st with
   | none => exact ⟨h2.2, .inl rfl⟩
   | some s =>
    rcases h2 with ⟨t, _, _, h⟩ | ⟨_, h, h3⟩
    ·cases h
    ·exact ⟨h, .inr ⟨s, rfl, fun y t hy => h3 y t ⟨by omega, by omega⟩⟩⟩
  obtain ⟨rfl, hs⟩ := hx
  have H1 := Lib.hid h1
  obtain ⟨A, m, cap, pos, er, s0, a0, h1, he⟩ := h1
  have c2 : w1.cell? ⟨g, 2, none⟩ = some (.int .i64 er) := h1.cell 2
  have hne : (er == 0) = false := beq_eq_false_iff_ne.2 he
  have hm1 : ¬ most < 0 := by omega
  clear h1 h2
  go_wp2
  go_ret
  refine ⟨0, none, rfl, H1.out, ?_, hf1⟩
  rcases hs with rfl | ⟨s, rfl, h3⟩
  ·exact ⟨rfl, rfl⟩
  ·exact .inr ⟨rfl, rfl, h3⟩
 | some t =>
  obtain ⟨s, rfl, rfl, hxw⟩ : ∃ s, st = some s ∧ s = num8 x ++ t ∧ Wf64 x := by
   cases st with
   | none => exact absurd h2.1 (by simp)
   | some s =>
    rcases h2 with ⟨t', h3, h4, h5⟩ | ⟨h3, _⟩
    ·cases h5; exact ⟨s, rfl, h3, h4⟩
    ·cases h3
  clear h2
  have hno : ¬ (0 ≤ x ∧ x ≤ most) → ∀ y t', (0 ≤ y ∧ y ≤ most) → num8 x ++ t ≠ num8 y ++ t' := fun hx y t' hy e => by
   have h1 := num_read (bs := num8 x ++ t) (p := 0) (n := x) (t := t) rfl hxw.1 hxw.2
   have h2 := num_read (bs := num8 x ++ t) (p := 0) (n := y) (t := t') e (by omega) (by omega)
   rw [h1.2.1] at h2
   exact hx (h2.2.1 ▸ hy)
  have HNO := Lib.hid hno
  have H1 := Lib.hid h1
  obtain ⟨b, o, cap, bs, pos, h1, _, _, _⟩ := h1
  have HBD := Lib.hid (fun s a => refr_bad h1 (er := 23) (by decide) s a)
  have HBE := Lib.hid (fun s a => refr_bad h1 (er := 2) (by decide) s a)
  have c2 : w1.cell? ⟨g, 2, none⟩ = some (.int .i64 0) := h1.blk.cell 2
  clear h1 hno
  by_cases hx0 : x < 0
  ·have hxm : ¬ most < x := by omega
   clear c2
   go_upto_region 7 with (go_at_call 91; refine (HBD.out _ _).mono ?_; rintro e w2 ⟨rfl, h3, hf3⟩)
   have H3 := Lib.hid h3
   obtain ⟨A, m, cap, pos, er, s0, a0, h3, he⟩ := h3
   have c2 : w2.cell? ⟨g, 2, none⟩ = some (.int .i64 er) := h3.cell 2
   have hne : (er == 0) = false := beq_eq_false_iff_ne.2 he
   clear h3
   go_wp2
   go_ret
   exact ⟨0, none, rfl, H3.out, .inr ⟨rfl, rfl, HNO.out (by omega)⟩, hf1.trans hf3 (fun _ _ h => h)⟩
  ·by_cases hxm : most < x
   ·clear c2
    go_upto_region 7 with (go_at_call 91; refine (HBE.out _ _).mono ?_; rintro e w2 ⟨rfl, h3, hf3⟩)
    have H3 := Lib.hid h3
    obtain ⟨A, m, cap, pos, er, s0, a0, h3, he⟩ := h3
    have c2 : w2.cell? ⟨g, 2, none⟩ = some (.int .i64 er) := h3.cell 2
    have hne : (er == 0) = false := beq_eq_false_iff_ne.2 he
    clear h3
    go_wp2
    go_ret
    exact ⟨0, none, rfl, H3.out, .inr ⟨rfl, rfl, HNO.out (by omega)⟩, hf1.trans hf3 (fun _ _ h => h)⟩
   ·go_wp2
    go_ret
    exact ⟨x, some t, rfl, H1.out, .inl ⟨t, rfl, ⟨by omega, by omega⟩, rfl⟩, hf1⟩
theorem dr_End {w : World} {g : Nat} {st : Option (List Int)} (h : DR w g st) :
  Calls Tryz.prog 58 #[.pointer (some ⟨g, 0, none⟩)] w (fun e w' => ∃ er s a, e = .returned (.tuple #[.int .i64 er, .agg #[.string s, .int .i64 a]]) ∧ (er = 0 ↔ st = some []) ∧ Fr (fun _ => False) w w') := by
 have hf0 : Fr (fun _ => False) w (w.alloc (Obj.cells #[.string ⟨#[]⟩, .int .i64 0] 70)) := (Fr.refl _ _).alloc _
 have hS0 := Blk.new w 70 #[.string ⟨#[]⟩, .int .i64 0]
 cases st with
 | none =>
  obtain ⟨A, m, cap, pos, er, s0, a0, h1, he⟩ := h
  have hg : g < w.heap.size := h1.lt
  have hB0 := h1.fr hf0 id
  have hB1 := hB0.drew
  have hS1 := hS0.drew
  have hf1 := hf0.drew
  have c2 : (w.alloc (Obj.cells #[.string ⟨#[]⟩, .int .i64 0] 70)).cell? ⟨g, 2, none⟩ = some (.int .i64 er) := hB0.cell 2
  have hne : (er == 0) = false := beq_eq_false_iff_ne.2 he
  clear h1 hB0 hf0 hS0
  go_enter Tryz.func58, Tryz.ntmps58
  go_upto_region 2 with fail
  refine wp_region_noPanic ?_
  refine wp_region_held_drew (S := (fun w' => w'.cell? ⟨g, 2, none⟩ = some (.int .i64 er) ∧ w'.cell? ⟨g, 3, none⟩ = some (.string s0) ∧ w'.cell? ⟨g, 4, none⟩ = some (.int .i64 a0))) (by kernel_rfl) (⟨hB1.cell 2, hB1.cell 3, hB1.cell 4⟩) (fun hHeld => ?_)
  generalize (w.alloc (Obj.cells #[.string ⟨#[]⟩, .int .i64 0] 70)).drew = w1 at *
  have y0 := hS1.cell 0
  have y1 := hS1.cell 1
  have z0 := hS1.frozen 0
  have z1 := hS1.frozen 1
  have hB2 := (hB1.far (p := ⟨w.heap.size, 0, none⟩) (fun e => by dsimp only at e; omega) (.string s0)).far (p := ⟨w.heap.size, 1, none⟩) (fun e => by dsimp only at e; omega) (.int .i64 a0)
  have hS2 := (hS1.set_ 0 (.string s0)).set_ 1 (.int .i64 a0)
  have hf2 := Fr.setCell (p := ⟨w.heap.size, 1, none⟩) (Fr.setCell (p := ⟨w.heap.size, 0, none⟩) hf1 (fun h => absurd h (Nat.lt_irrefl _)) (.string s0)) (fun h => absurd h (Nat.lt_irrefl _)) (.int .i64 a0)
  refine tk 0 9 ?_
  refine tk 1 10 ?_
  refine tk 2 11 ?_
  refine tk 3 12 ?_
  refine tk 4 13 ?_
  refine tk 5 14 ?_
  refine tk 6 15 ?_
  refine tk 7 16 ?_
  refine tk 8 17 ?_
  refine tk 9 18 ?_
  refine tk 10 19 ?_
  refine tk 11 20 ?_
  refine tk 12 21 ?_
  refine tk 13 2 ?_
  refine rd 14 (fun K hK => ?_)
  go_simp
  refine hK.out _ _ (⟨hB2.cell 2, hB2.cell 3, hB2.cell 4⟩) (fun hHeld => ?_)
  clear hK K
  refine wpAnyH_done (by kernel_rfl) ?_ _
  refine NoPanic.normal ?_
  have d0 := hS2.cell 0
  have d1 := hS2.cell 1
  go_wp2
  refine bodyPost_ret (v := .tuple #[.int .i64 er, .agg #[.string s0, .int .i64 a0]]) (by simp [results, Tryz.results58, go_sem, d0, d1]) rfl ?_
  exact ⟨er, s0, a0, rfl, by simp [he], hf2⟩
 | some s =>
  obtain ⟨b, o, cap, bs, pos, h1, hd, hl, h8⟩ := h
  have hle := h1.le
  by_cases hp : pos = bs.length
  ·subst hp
   refine (refr_End h1).mono ?_
   rintro e w' ⟨he, hf⟩
   rw [List.drop_length] at hd
   subst hd
   exact ⟨0, _, _, he, by simp, hf⟩
  ·have hlt : (pos : Int) < (bs.length : Int) := by omega
   have hsne : s ≠ [] := fun e => by
    have := congrArg List.length hd
    rw [List.length_drop, e] at this
    simp at this
    omega
   have hg : g < w.heap.size := h1.blk.lt
   have hB0 := (h1.blk).fr hf0 id
   have c0 := hB0.cell 0
   have c1 := hB0.cell 1
   have c2 := hB0.cell 2
   clear h1 hd h8
   go_enter Tryz.func58, Tryz.ntmps58
   go_wp2_with fail
   go_quiet (fail)
   have hB0 := hB0.drewN nq
   have hS0 := hS0.drewN nq
   have hf0 := hf0.drewN nq
   generalize (w.alloc (Obj.cells #[.string ⟨#[]⟩, .int .i64 0] 70)).drewN nq = w0 at *
   have hB1 := hB0.drew
   have hS1 := hS0.drew
   have hf1 := hf0.drew
   clear c0 c1 c2 hB0 hS0 hf0
   go_upto_region 4 with fail
   refine wp_region_noPanic ?_
   refine wp_region_held_drew (S := (fun w' => w'.cell? ⟨g, 1, none⟩ = some (.int .i64 pos))) (by kernel_rfl) (hB1.cell 1) (fun hHeld => ?_)
   generalize w0.drew = w1 at *
   have y0 := hS1.cell 0
   have y1 := hS1.cell 1
   have z0 := hS1.frozen 0
   have z1 := hS1.frozen 1
   have hB2 := (hB1.far (p := ⟨w.heap.size, 0, none⟩) (fun e => by dsimp only at e; omega) (.string ⟨#[101, 110, 100]⟩)).far (p := ⟨w.heap.size, 1, none⟩) (fun e => by dsimp only at e; omega) (.int .i64 pos)
   have hS2 := (hS1.set_ 0 (.string ⟨#[101, 110, 100]⟩)).set_ 1 (.int .i64 pos)
   have hf2 := Fr.setCell (p := ⟨w.heap.size, 1, none⟩) (Fr.setCell (p := ⟨w.heap.size, 0, none⟩) hf1 (fun h => absurd h (Nat.lt_irrefl _)) (.string ⟨#[101, 110, 100]⟩)) (fun h => absurd h (Nat.lt_irrefl _)) (.int .i64 pos)
   refine tk 0 32 ?_
   refine tk 1 33 ?_
   refine tk 2 34 ?_
   refine tk 3 35 ?_
   refine tk 4 36 ?_
   refine tk 5 2 ?_
   refine rd 6 (fun K hK => ?_)
   go_simp
   refine hK.out _ _ (hB2.cell 1) (fun hHeld => ?_)
   clear hK K
   refine wpAnyH_done (by kernel_rfl) ?_ _
   refine NoPanic.normal ?_
   have d0 := hS2.cell 0
   have d1 := hS2.cell 1
   go_wp2
   refine bodyPost_ret (v := .tuple #[.int .i64 22, .agg #[.string ⟨#[101, 110, 100]⟩, .int .i64 pos]]) (by simp [results, Tryz.results58, go_sem, d0, d1]) rfl ?_
   exact ⟨22, _, _, rfl, by simp [hsne], hf2⟩
theorem dr_New {w : World} {F : Nat → Prop} {A : Option Addr} {bs : List Int} {cap : Nat} (hr : ByteRow w F A bs) (h0 : 0 < bs.length) (hl : bs.length ≤ 1099511627776) (h8 : Bytes8 bs) :
  Calls Tryz.prog 53 #[.slice A bs.length cap] w (fun e w' => ∃ g, e = .returned (.pointer (some ⟨g, 0, none⟩)) ∧ w.heap.size ≤ g ∧ DR w' g (some bs) ∧ Fr (fun _ => False) w w') := by
 refine (refr_New hr h0 hl).mono ?_
 rintro e w' ⟨g, b, o, c, he, hg, h1, hf⟩
 exact ⟨g, he, hg, ⟨b, o, c, bs, 0, h1, rfl, hl, h8⟩, hf⟩
theorem NumStep.le8 {st st' : Option (List Int)} {x : Int} (h : NumStep (fun x => 0 ≤ x ∧ x ≤ 8) st x st') : 0 ≤ x ∧ x ≤ 8 := by
 cases st with
 | none => obtain ⟨_, rfl⟩ := h; omega
 | some s => rcases h with ⟨t, _, h, _⟩ | ⟨_, rfl, _⟩ <;> omega
def TxnBad (w : World) (e : Ending) (w' : World) : Prop := (∃ (er : Int) (v2 : Value), er ≠ 0 ∧ e = .returned (.tuple #[.agg #[.int .i64 0, .int .i64 0, .slice none 0 0, .slice none 0 0], .int .i64 er, v2])) ∧ Fr (fun _ => False) w w'
theorem ref10_Get_no {w : World} {F : Nat → Prop} {A0 : Option Addr} {cap : Nat} {bs : List Int} (hr : ByteRow w F A0 bs) (h0 : 0 < bs.length) (hl : bs.length ≤ 1099511627776) (h8 : Bytes8 bs) (hno : ∀ c n R W, TOk c n R W → bs ≠ txnB c n R W) :
  Calls Tryz.prog 49 #[.slice A0 bs.length cap] w (TxnBad w) := by
 have HNO := Lib.hid hno
 have hf0 : Fr (fun _ => False) w (w.alloc (Obj.cells #[.int .i64 0, .int .i64 0, .slice none 0 0, .slice none 0 0] 29)) := (Fr.refl _ _).alloc _
 have hA0 := Blk.new w 29 #[.int .i64 0, .int .i64 0, .slice none 0 0, .slice none 0 0]
 have HNew := Lib.hid (dr_New (cap := cap) (hr.fr hf0 (fun _ _ => id)) h0 hl h8)
 clear hr h8 hno
 go_enter Tryz.func49, Tryz.ntmps49
 go_upto_region 2 with (go_at_call 53; refine HNew.out.mono ?_; rintro e w1 ⟨g, rfl, hg, hS1, hf1⟩)
 generalize w.alloc (Obj.cells #[.int .i64 0, .int .i64 0, .slice none 0 0, .slice none 0 0] 29) = w0 at *
 have hA1 := hA0.fr hf1 id
 have hf01 := hf0.then_ hf1
 have hA2 := hA1.alloc (Obj.cells #[.int .i64 0, .int .i64 0, .slice none 0 0, .slice none 0 0] 29)
 have hT2 := Blk.new w1 29 #[.int .i64 0, .int .i64 0, .slice none 0 0, .slice none 0 0]
 have hf02 := hf01.alloc (Obj.cells #[.int .i64 0, .int .i64 0, .slice none 0 0, .slice none 0 0] 29)
 have hS2 := hS1.keep ((Fr.refl (fun _ => False) w1).alloc (Obj.cells #[.int .i64 0, .int .i64 0, .slice none 0 0, .slice none 0 0] 29))
 have hag : w.heap.size < w1.heap.size := hA1.lt
 go_upto_region 3 with fail
 have hwg : w.heap.size < g := Nat.lt_of_lt_of_le hA0.lt hg
 generalize w1.alloc (Obj.cells #[.int .i64 0, .int .i64 0, .slice none 0 0, .slice none 0 0] 29) = w2 at *
 obtain ⟨gt, hgt⟩ : ∃ cc, Hid (w1.heap.size = cc) := ⟨_, rfl⟩
 rw [hgt.out] at hT2 hag ⊢
 clear hA0 hA1 hf0 hf1 hf01 HNew hg hS1
 have H := Lib.hid (dr_Num hS2)
 go_upto_region 4 with (go_at_call 54; refine H.out.mono ?_; rintro e w3 ⟨c, s3, rfl, hS3, q3, hf3⟩)
 have Q3 := Lib.hid q3
 have hT3 := hT2.fr hf3 (hS2.ne hT2 (by decide))
 have hA3 := hA2.fr hf3 (hS2.ne hA2 (by decide))
 have hf03 : Fr (fun _ => False) w w3 := hf02.trans hf3 (fun k hk e => by omega)
 clear H hS2 hT2 hA2 hf02 hf3 hl h0 q3
 have H := Lib.hid (dr_Num hS3)
 go_upto_region 5 with (go_at_call 54; refine H.out.mono ?_; rintro e w4 ⟨n, s4, rfl, hS4, q4, hf4⟩; have hT4 := hT3.fr hf4 (hS3.ne hT3 (by decide)); have y1 := hT4.cell 1; have z1 := hT4.frozen 1)
 have Q4 := Lib.hid q4
 have hA4 := hA3.fr hf4 (hS3.ne hA3 (by decide))
 have hf04 : Fr (fun _ => False) w w4 := hf03.trans hf4 (fun k hk e => by omega)
 have hS5 := hS4.far hT4 (by decide) (by decide) 1 (.int .i64 n)
 have hT5 : Blk (w4.setCell ⟨gt, 1, none⟩ (.int .i64 n)) gt 29 #[.int .i64 0, .int .i64 n, .slice none 0 0, .slice none 0 0] := hT4.set_ 1 _
 have hA5 := hA4.far (p := ⟨gt, 1, none⟩) (fun e => by dsimp only at e; omega) (.int .i64 n)
 have hf05 : Fr (fun _ => False) w (w4.setCell ⟨gt, 1, none⟩ (.int .i64 n)) := hf04.setCell (p := ⟨gt, 1, none⟩) (fun h => absurd h (by dsimp only; omega)) _
 generalize w4.setCell ⟨gt, 1, none⟩ (.int .i64 n) = w5 at *
 clear H hS3 hT3 hA3 hf03 hf4 hS4 hT4 hA4 hf04 y1 z1 q4
 have H := Lib.hid (dr_Int hS5 8 (by omega) (by omega))
 go_upto_region 6 with (go_at_call 56; refine H.out.mono ?_; rintro e w6 ⟨m0, s5, rfl, hS6, q5, hf6⟩)
 have hm0 := q5.le8
 obtain ⟨m, rfl⟩ := Int.eq_ofNat_of_zero_le hm0.1
 have Q5 := Lib.hid q5
 have hT6 := hT5.fr hf6 (hS5.ne hT5 (by decide))
 have hA6 := hA5.fr hf6 (hS5.ne hA5 (by decide))
 have hf06 : Fr (fun _ => False) w w6 := hf05.trans hf6 (fun k hk e => by omega)
 clear H hS5 hT5 hA5 hf05 hf6 q5
 go_upto_region 7 with fail
 have hir := read_info
 have hiw := write_info
 go_loopw [9] (fun i wr => ∃ (R : List (ByteArray × Int)) (lv : Value) (st : Option (List Int)), R.length ≤ m ∧ i = .int .i64 (R.length : Int) ∧ wr.ownsRow (w.heap.size + 1) 143 2 lv R.length (readsV R) ∧ Blk wr gt 29 #[.int .i64 0, .int .i64 n, lv, .slice none 0 0] ∧ DR wr g st ∧ Hid (ReadsStep s5 R st) ∧ Blk wr w.heap.size 29 #[.int .i64 0, .int .i64 0, .slice none 0 0, .slice none 0 0] ∧ Fr (fun _ => False) w wr) (fun i _ => m - (intOf i).toNat)
 case atStart => exact ⟨[], _, s5, by simp, rfl, World.ownsRow_nil _ _ _ _, hT6, hS6, rfl, hA6, hf06⟩
 case round =>
  clear hS6 hT6 hA6 hf06
  obtain ⟨R, lv, st, hk, rfl, hown, hT, hS, hQ, hA, hf⟩ := hrel
  by_cases hlt : R.length < m
  ·have hlt' : (R.length : Int) < (m : Int) := by omega
   have hge := own_ge hown
   obtain ⟨Av, cv, hev, _, _⟩ := own_form hown
   subst hev
   have H1 := Lib.hid (dr_Text hS)
   go_upto_region 10 with (go_at_call 55; refine H1.out.mono ?_; rintro e w7 ⟨v7, x7, s7, rfl, hv7, b7, hS7, q7, hf7⟩; obtain ⟨A7, c7, rfl, _, hr7⟩ := hv7.u8row)
   have Q7 := Lib.hid q7
   have e7 : Hid (bytesOf (strOfNums x7) = x7) := bytesOf_strOf (fun y hy => by have := b7 y hy; omega)
   have hT7 := hT.fr hf7 (hS.ne hT (by decide))
   have hA7 := hA.fr hf7 (hS.ne hA (by decide))
   have hown7 := own_fr hown hf7 (fun q hq e => by obtain ⟨ds, hD⟩ := hS.blk; exact own_ne_blk hown hD (by decide) (e ▸ hq))
   have hf07 : Fr (fun _ => False) w w7 := hf.trans hf7 (fun k hk e => by omega)
   clear H1 hS hT hA hown hf hf7 hv7 q7 b7
   have H2 := Lib.hid (dr_Num hS7)
   go_upto_region 11 with (go_at_call 54; refine H2.out.mono ?_; rintro e w8 ⟨x8, s8, rfl, hS8, q8, hf8⟩)
   have Q8 := Lib.hid q8
   have hT8 := hT7.fr hf8 (hS7.ne hT7 (by decide))
   have hA8 := hA7.fr hf8 (hS7.ne hA7 (by decide))
   have hown8 := own_fr hown7 hf8 (fun q hq e => by obtain ⟨ds, hD⟩ := hS7.blk; exact own_ne_blk hown7 hD (by decide) (e ▸ hq))
   have hf08 : Fr (fun _ => False) w w8 := hf07.trans hf8 (fun k hk e => by omega)
   have hr8 := hr7.fr hf8 (fun q hq e => by obtain ⟨ds, hD⟩ := hS7.blk; exact hq.ne_blk hD (by decide) e)
   have hcv := conv_bytes (w := w8) (n := x7.length) (cap := c7) hr8 rfl
   clear H2 hS7 hT7 hA7 hown7 hf07 hf8 hr7 hr8 q8
   have y2 := hT8.cell 2
   have z2 := hT8.frozen 2
   have hz8 : w.heap.size + 1 ≤ w8.heap.size := hA8.lt
   go_wp2_with (at_builtin; refine wpList_append_el _ rfl _ _ 26 rfl (w.heap.size + 1) 143 _ 2 24 Tryz.underlying26 hir rfl (by decide) _ R.length (readsV R) rfl (own_fr hown8 ((Fr.refl (fun _ => False) w8).alloc _) (fun _ _ => id)) w8.heap.size [.string (strOfNums x7), .int .i64 x8] rfl rfl (cell_two w8 _ _ _) (by simp [Value.oneCell']) (by omega) (by decide) (by simp; omega) ?_; intro g' c' w9 hown9 hf9; have hfa := (Fr.refl (fun _ => False) w8).alloc (Obj.cells #[.string (strOfNums x7), .int .i64 x8] 143); have hown8a := own_fr hown8 hfa (fun _ _ => id); have hT9 := (hT8.fr hfa id).fr hf9 (own_ne_blk hown8a (hT8.fr hfa id) (by decide)); have y9 := hT9.cell 2; have z9 := hT9.frozen 2)
   have hA9 := (hA8.fr hfa id).fr hf9 (own_ne_blk hown8a (hA8.fr hfa id) (by decide))
   have hS9 := (hS8.keep hfa).own hown8a (by decide) (by decide) hf9
   have hf09 : Fr (fun _ => False) w w9 := (hf08.then_ hfa).trans hf9 (fun q hq e => by have := hge q e; omega)
   have hS10 := hS9.far hT9 (by decide) (by decide) 2 (.slice (some ⟨g', 0, none⟩) (R.length + 1) c')
   have hT10 : Blk (w9.setCell ⟨gt, 2, none⟩ (.slice (some ⟨g', 0, none⟩) (R.length + 1) c')) gt 29 #[.int .i64 0, .int .i64 n, .slice (some ⟨g', 0, none⟩) (R.length + 1) c', .slice none 0 0] := hT9.set_ 2 _
   have hA10 := hA9.far (p := ⟨gt, 2, none⟩) (fun e => by dsimp only at e; omega) (.slice (some ⟨g', 0, none⟩) (R.length + 1) c')
   have hown10 := own_setCell hown9 hT9 (by decide) 2 (.slice (some ⟨g', 0, none⟩) (R.length + 1) c')
   have hf010 : Fr (fun _ => False) w (w9.setCell ⟨gt, 2, none⟩ (.slice (some ⟨g', 0, none⟩) (R.length + 1) c')) := hf09.setCell (p := ⟨gt, 2, none⟩) (fun h => absurd h (by dsimp only; omega)) _
   go_roundw
   case rel =>
    refine ⟨R ++ [(strOfNums x7, x8)], _, s8, by simp; omega, by simp, ?_, hT10, hS10, hQ.out.snoc ⟨s7, by rw [show bytesOf (strOfNums x7, x8).1 = x7 from e7.out]; exact Q7.out, Q8.out⟩, hA10, hf010⟩
    rw [show readsV (R ++ [(strOfNums x7, x8)]) = readsV R ++ [.string (strOfNums x7), .int .i64 x8] by simp [readsV]]
    simpa using hown10
   case measure => simp [intOf]; omega
  ·have hkm : Hid (R.length = m) := by show _ = _; omega
   obtain ⟨AR, cr, rfl, hRR⟩ := own_reads hown
   have H := Lib.hid (dr_Int hS 8 (by omega) (by omega))
   go_upto_region 13 with (go_at_call 56; refine H.out.mono ?_; rintro e w6 ⟨m1, s6, rfl, hS6, q6, hf6⟩)
   have hm1 := q6.le8
   obtain ⟨mm, rfl⟩ := Int.eq_ofNat_of_zero_le hm1.1
   have Q6 := Lib.hid q6
   have hT6 := hT.fr hf6 (hS.ne hT (by decide))
   have hA6 := hA.fr hf6 (hS.ne hA (by decide))
   have hown6 := own_fr hown hf6 (fun q hq e => by obtain ⟨ds, hD⟩ := hS.blk; exact own_ne_blk hown hD (by decide) (e ▸ hq))
   have hf06 : Fr (fun _ => False) w w6 := hf.trans hf6 (fun k hk e => by omega)
   clear H hS hT hA hown hf hf6 hRR q6
   go_upto_region 14 with fail
   go_loopw [12] (fun i wr => ∃ (W : List (ByteArray × ByteArray)) (lv : Value) (st : Option (List Int)), W.length ≤ mm ∧ i = .int .i64 (W.length : Int) ∧ wr.ownsRow (w.heap.size + 1) 84 2 lv W.length (writesV W) ∧ wr.ownsRow (w.heap.size + 1) 143 2 (.slice AR R.length cr) R.length (readsV R) ∧ Blk wr gt 29 #[.int .i64 0, .int .i64 n, .slice AR R.length cr, lv] ∧ DR wr g st ∧ Hid (WritesStep s6 W st) ∧ Blk wr w.heap.size 29 #[.int .i64 0, .int .i64 0, .slice none 0 0, .slice none 0 0] ∧ Fr (fun _ => False) w wr) (fun i _ => mm - (intOf i).toNat)
   case atStart => exact ⟨[], _, s6, by simp, rfl, World.ownsRow_nil _ _ _ _, hown6, hT6, hS6, rfl, hA6, hf06⟩
   case round =>
    clear hS6 hT6 hA6 hf06 hown6
    obtain ⟨W, lv, st', hk', rfl, hown, hownR, hT, hS, hP, hA, hf⟩ := hrel
    by_cases hlt : W.length < mm
    ·have hlt' : (W.length : Int) < (mm : Int) := by omega
     have hge := own_ge hown
     obtain ⟨Av, cv, hev, _, _⟩ := own_form hown
     subst hev
     have H1 := Lib.hid (dr_Text hS)
     go_upto_region 17 with (go_at_call 55; refine H1.out.mono ?_; rintro e w7 ⟨v7, x7, s7, rfl, hv7, b7, hS7, q7, hf7⟩; obtain ⟨A7, c7, rfl, _, hr7⟩ := hv7.u8row)
     have Q7 := Lib.hid q7
     have e7 : Hid (bytesOf (strOfNums x7) = x7) := bytesOf_strOf (fun y hy => by have := b7 y hy; omega)
     have hT7 := hT.fr hf7 (hS.ne hT (by decide))
     have hA7 := hA.fr hf7 (hS.ne hA (by decide))
     have hown7 := own_fr hown hf7 (fun q hq e => by obtain ⟨ds, hD⟩ := hS.blk; exact own_ne_blk hown hD (by decide) (e ▸ hq))
     have hownR7 := own_fr hownR hf7 (fun q hq e => by obtain ⟨ds, hD⟩ := hS.blk; exact own_ne_blk hownR hD (by decide) (e ▸ hq))
     have hf07 : Fr (fun _ => False) w w7 := hf.trans hf7 (fun k hk e => by omega)
     clear H1 hS hT hA hown hownR hf hf7 hv7 q7 b7
     have H2 := Lib.hid (dr_Text hS7)
     go_upto_region 18 with (go_at_call 55; refine H2.out.mono ?_; rintro e w8 ⟨v8, x8, s8, rfl, hv8, b8, hS8, q8, hf8⟩; obtain ⟨A8, c8, rfl, _, hr8⟩ := hv8.u8row)
     have Q8 := Lib.hid q8
     have e8 : Hid (bytesOf (strOfNums x8) = x8) := bytesOf_strOf (fun y hy => by have := b8 y hy; omega)
     have hT8 := hT7.fr hf8 (hS7.ne hT7 (by decide))
     have hA8 := hA7.fr hf8 (hS7.ne hA7 (by decide))
     have hown8 := own_fr hown7 hf8 (fun q hq e => by obtain ⟨ds, hD⟩ := hS7.blk; exact own_ne_blk hown7 hD (by decide) (e ▸ hq))
     have hownR8 := own_fr hownR7 hf8 (fun q hq e => by obtain ⟨ds, hD⟩ := hS7.blk; exact own_ne_blk hownR7 hD (by decide) (e ▸ hq))
     have hf08 : Fr (fun _ => False) w w8 := hf07.trans hf8 (fun k hk e => by omega)
     have hr78 := hr7.fr hf8 (fun q hq e => by obtain ⟨ds, hD⟩ := hS7.blk; exact hq.ne_blk hD (by decide) e)
     have hcv := conv_bytes (w := w8) (n := x7.length) (cap := c7) hr78 rfl
     have hcv2 := conv_bytes (w := w8) (n := x8.length) (cap := c8) hr8 rfl
     clear H2 hS7 hT7 hA7 hown7 hownR7 hf07 hf8 hr7 hr8 hr78 hv8 q8 b8
     have y3 := hT8.cell 3
     have z3 := hT8.frozen 3
     have hz8 : w.heap.size + 1 ≤ w8.heap.size := hA8.lt
     go_wp2_with (at_builtin; refine wpList_append_el _ rfl _ _ 27 rfl (w.heap.size + 1) 84 _ 2 32 Tryz.underlying27 hiw rfl (by decide) _ W.length (writesV W) rfl (own_fr hown8 ((Fr.refl (fun _ => False) w8).alloc _) (fun _ _ => id)) w8.heap.size [.string (strOfNums x7), .string (strOfNums x8)] rfl rfl (cell_two w8 _ _ _) (by simp [Value.oneCell']) (by omega) (by decide) (by simp; omega) ?_; intro g' c' w9 hown9 hf9; have hfa := (Fr.refl (fun _ => False) w8).alloc (Obj.cells #[.string (strOfNums x7), .string (strOfNums x8)] 84); have hown8a := own_fr hown8 hfa (fun _ _ => id); have hT9 := (hT8.fr hfa id).fr hf9 (own_ne_blk hown8a (hT8.fr hfa id) (by decide)); have y9 := hT9.cell 3; have z9 := hT9.frozen 3)
     have hA9 := (hA8.fr hfa id).fr hf9 (own_ne_blk hown8a (hA8.fr hfa id) (by decide))
     have hownR9 := own_fr (own_fr hownR8 hfa (fun _ _ => id)) hf9 (fun q hq e => by obtain ⟨ds, hD⟩ := own_cells (own_fr hownR8 hfa (fun _ _ => id)) hq; exact own_ne_blk hown8a hD (by decide) e)
     have hS9 := (hS8.keep hfa).own hown8a (by decide) (by decide) hf9
     have hf09 : Fr (fun _ => False) w w9 := (hf08.then_ hfa).trans hf9 (fun q hq e => by have := hge q e; omega)
     have hS10 := hS9.far hT9 (by decide) (by decide) 3 (.slice (some ⟨g', 0, none⟩) (W.length + 1) c')
     have hT10 : Blk (w9.setCell ⟨gt, 3, none⟩ (.slice (some ⟨g', 0, none⟩) (W.length + 1) c')) gt 29 #[.int .i64 0, .int .i64 n, .slice AR R.length cr, .slice (some ⟨g', 0, none⟩) (W.length + 1) c'] := hT9.set_ 3 _
     have hA10 := hA9.far (p := ⟨gt, 3, none⟩) (fun e => by dsimp only at e; omega) (.slice (some ⟨g', 0, none⟩) (W.length + 1) c')
     have hown10 := own_setCell hown9 hT9 (by decide) 3 (.slice (some ⟨g', 0, none⟩) (W.length + 1) c')
     have hownR10 := own_setCell hownR9 hT9 (by decide) 3 (.slice (some ⟨g', 0, none⟩) (W.length + 1) c')
     have hf010 : Fr (fun _ => False) w (w9.setCell ⟨gt, 3, none⟩ (.slice (some ⟨g', 0, none⟩) (W.length + 1) c')) := hf09.setCell (p := ⟨gt, 3, none⟩) (fun h => absurd h (by dsimp only; omega)) _
     go_roundw
     case rel =>
      refine ⟨W ++ [(strOfNums x7, strOfNums x8)], _, s8, by simp; omega, by simp, ?_, hownR10, hT10, hS10, hP.out.snoc ⟨s7, by rw [show bytesOf (strOfNums x7, strOfNums x8).1 = x7 from e7.out]; exact Q7.out, by rw [show bytesOf (strOfNums x7, strOfNums x8).2 = x8 from e8.out]; exact Q8.out⟩, hA10, hf010⟩
      rw [show writesV (W ++ [(strOfNums x7, strOfNums x8)]) = writesV W ++ [.string (strOfNums x7), .string (strOfNums x8)] by simp [writesV]]
      simpa using hown10
     case measure => simp [intOf]; omega
    ·have hkm' : Hid (W.length = mm) := by show _ = _; omega
     obtain ⟨AW, cw, rfl, _⟩ := own_writes hown
     have H := Lib.hid (dr_End hS)
     have HTS : Hid (st' = some [] → bs = txnB c n R W) := fun e => by
      have Q5' := Q5.out
      have Q6' := Q6.out
      rw [← hkm.out] at Q5'
      rw [← hkm'.out] at Q6'
      have h1 := hP.out
      rw [e] at h1
      exact TxnSteps.keep ⟨s3, s4, s5, st, s6, Q3.out, Q4.out, Q5', hQ.out, Q6', h1⟩
     clear Q3 Q4 Q5 Q6 hP hQ
     go_upto_region 20 with (go_at_call 58; refine H.out.mono ?_; rintro e w6 ⟨er, sE, aE, rfl, hE, hf6⟩)
     have HE := Lib.hid hE
     have hfs := (Fr.refl (fun _ => False) w6).alloc (Obj.cells #[.string sE, .int .i64 aE] 70)
     have hT7 := (hT.fr hf6 id).fr hfs id
     have hA7 := (hA.fr hf6 id).fr hfs id
     have hP7 := Blk.new w6 70 #[.string sE, .int .i64 aE]
     have hownR7 := own_fr (own_fr hownR hf6 (fun _ _ => id)) hfs (fun _ _ => id)
     have hownW7 := own_fr (own_fr hown hf6 (fun _ _ => id)) hfs (fun _ _ => id)
     have hf07 := (hf.then_ hf6).then_ hfs
     generalize w6.alloc (Obj.cells #[.string sE, .int .i64 aE] 70) = w7 at *
     obtain ⟨gs, hgs⟩ : ∃ x, Hid (w6.heap.size = x) := ⟨_, rfl⟩
     rw [hgs.out] at hP7 ⊢
     have hgA : w.heap.size < gs := by rw [← hgs.out]; exact (hA.fr hf6 id).lt
     clear H hS hT hA hown hownR hf hf6 hfs hE
     have hgtA : w.heap.size < gt := by omega
     by_cases he : er = 0
     ·subst he
      have hst : bs = txnB c n R W := HTS.out (HE.out.1 rfl)
      have hnt : ¬ TOk c n R W := fun h => HNO.out c n R W h hst
      clear hst
      by_cases hc0 : c < 0
      ·clear hnt
       go_wp2_with (refine wpList_store_row rfl 29 (.tmp 2) (.tmp 83) rfl w.heap.size #[.int .i64 0, .int .i64 0, .slice none 0 0, .slice none 0 0] rfl rfl 29 _ (hA7.alloc _) (by kernel_rfl) rfl (by simp [Value.oneCell']) ?_)
       have hZ := Blk.setRow_ (ds := #[.int .i64 0, .int .i64 0, .slice none 0 0, .slice none 0 0]) (hA7.alloc (Obj.cells #[.string ⟨#[116, 120, 110]⟩, .int .i64 0] 70))
       have hfz := Fr.setRow_ (w := w7.alloc (Obj.cells #[.string ⟨#[116, 120, 110]⟩, .int .i64 0] 70)) (g := w.heap.size) (ds := #[.int .i64 0, .int .i64 0, .slice none 0 0, .slice none 0 0])
       have hfe := (hf07.alloc (Obj.cells #[.string ⟨#[116, 120, 110]⟩, .int .i64 0] 70)).trans hfz (fun k hk e => by omega)
       generalize (w7.alloc (Obj.cells #[.string ⟨#[116, 120, 110]⟩, .int .i64 0] 70)).setRow w.heap.size #[.int .i64 0, .int .i64 0, .slice none 0 0, .slice none 0 0] = wz at *
       refine bodyPost_ret (v := .tuple #[.agg #[.int .i64 0, .int .i64 0, .slice none 0 0, .slice none 0 0], .int .i64 101, .slice (some ⟨w7.heap.size, 0, none⟩) 1 1]) (results_row3 Tryz.results49 _ _ w.heap.size 29 #[.int .i64 0, .int .i64 0, .slice none 0 0, .slice none 0 0] (0, 0) _ rfl hZ Tryz.underlying29 rfl (by kernel_rfl) rfl rfl) rfl ?_
       have h101 : (101 : Int) ≠ 0 := by omega
       exact ⟨⟨101, _, h101, rfl⟩, hfe⟩
      ·by_cases hc1 : 16 ≤ c
       ·clear hnt
        go_wp2_with (refine wpList_store_row rfl 29 (.tmp 2) (.tmp 83) rfl w.heap.size #[.int .i64 0, .int .i64 0, .slice none 0 0, .slice none 0 0] rfl rfl 29 _ (hA7.alloc _) (by kernel_rfl) rfl (by simp [Value.oneCell']) ?_)
        have hZ := Blk.setRow_ (ds := #[.int .i64 0, .int .i64 0, .slice none 0 0, .slice none 0 0]) (hA7.alloc (Obj.cells #[.string ⟨#[116, 120, 110]⟩, .int .i64 0] 70))
        have hfz := Fr.setRow_ (w := w7.alloc (Obj.cells #[.string ⟨#[116, 120, 110]⟩, .int .i64 0] 70)) (g := w.heap.size) (ds := #[.int .i64 0, .int .i64 0, .slice none 0 0, .slice none 0 0])
        have hfe := (hf07.alloc (Obj.cells #[.string ⟨#[116, 120, 110]⟩, .int .i64 0] 70)).trans hfz (fun k hk e => by omega)
        generalize (w7.alloc (Obj.cells #[.string ⟨#[116, 120, 110]⟩, .int .i64 0] 70)).setRow w.heap.size #[.int .i64 0, .int .i64 0, .slice none 0 0, .slice none 0 0] = wz at *
        refine bodyPost_ret (v := .tuple #[.agg #[.int .i64 0, .int .i64 0, .slice none 0 0, .slice none 0 0], .int .i64 101, .slice (some ⟨w7.heap.size, 0, none⟩) 1 1]) (results_row3 Tryz.results49 _ _ w.heap.size 29 #[.int .i64 0, .int .i64 0, .slice none 0 0, .slice none 0 0] (0, 0) _ rfl hZ Tryz.underlying29 rfl (by kernel_rfl) rfl rfl) rfl ?_
        have h101 : (101 : Int) ≠ 0 := by omega
        exact ⟨⟨101, _, h101, rfl⟩, hfe⟩
       ·have y0 := hT7.cell 0
        have z0 := hT7.frozen 0
        have HNT := Lib.hid hnt
        clear hnt
        go_upto_region 25 with fail
        have hT8 : Blk (w7.setCell ⟨gt, 0, none⟩ (.int .i64 c)) gt 29 #[.int .i64 c, .int .i64 n, .slice AR R.length cr, .slice AW W.length cw] := hT7.set_ 0 _
        have hA8 := hA7.far (p := ⟨gt, 0, none⟩) (fun e => by dsimp only at e; omega) (.int .i64 c)
        have hownR8 := own_setCell hownR7 hT7 (by decide) 0 (.int .i64 c)
        have hownW8 := own_setCell hownW7 hT7 (by decide) 0 (.int .i64 c)
        have hf08 : Fr (fun _ => False) w (w7.setCell ⟨gt, 0, none⟩ (.int .i64 c)) := hf07.setCell (p := ⟨gt, 0, none⟩) (fun h => absurd h (by dsimp only; omega)) _
        generalize w7.setCell ⟨gt, 0, none⟩ (.int .i64 c) = w8 at *
        clear hT7 hA7 hownR7 hownW7 hf07 y0 z0 hP7
        obtain ⟨_, _, eR, hRR⟩ := own_reads hownR8
        obtain ⟨_, _, eW, hWW⟩ := own_writes hownW8
        cases eR
        cases eW
        have HQ := ref10_Right (cr := cr) (cw := cw) (c := c) (n := n) hRR hWW
        rw [decide_eq_false HNT.out] at HQ
        have HQ := Lib.hid HQ
        have y0 := hT8.cell 0
        have y1 := hT8.cell 1
        have y2 := hT8.cell 2
        have y3 := hT8.cell 3
        clear hownR8 hownW8 hRR hWW
        go_upto_region 26 with (go_at_call 30; refine HQ.out.mono ?_; rintro e w9 ⟨rfl, hf9⟩)
        have hA9 := hA8.fr hf9 id
        have hf09 := hf08.then_ hf9
        clear y0 y1 y2 y3 hT8 hA8 hf08 hf9 HQ
        go_wp2_with (refine wpList_store_row rfl 29 (.tmp 2) (.tmp 91) rfl w.heap.size #[.int .i64 0, .int .i64 0, .slice none 0 0, .slice none 0 0] rfl rfl 29 _ (hA9.alloc _) (by kernel_rfl) rfl (by simp [Value.oneCell']) ?_)
        have hZ := Blk.setRow_ (ds := #[.int .i64 0, .int .i64 0, .slice none 0 0, .slice none 0 0]) (hA9.alloc (Obj.cells #[.string ⟨#[116, 120, 110]⟩, .int .i64 0] 70))
        have hfz := Fr.setRow_ (w := w9.alloc (Obj.cells #[.string ⟨#[116, 120, 110]⟩, .int .i64 0] 70)) (g := w.heap.size) (ds := #[.int .i64 0, .int .i64 0, .slice none 0 0, .slice none 0 0])
        have hfe := (hf09.alloc (Obj.cells #[.string ⟨#[116, 120, 110]⟩, .int .i64 0] 70)).trans hfz (fun k hk e => by omega)
        generalize (w9.alloc (Obj.cells #[.string ⟨#[116, 120, 110]⟩, .int .i64 0] 70)).setRow w.heap.size #[.int .i64 0, .int .i64 0, .slice none 0 0, .slice none 0 0] = wz at *
        refine bodyPost_ret (v := .tuple #[.agg #[.int .i64 0, .int .i64 0, .slice none 0 0, .slice none 0 0], .int .i64 101, .slice (some ⟨w9.heap.size, 0, none⟩) 1 1]) (results_row3 Tryz.results49 _ _ w.heap.size 29 #[.int .i64 0, .int .i64 0, .slice none 0 0, .slice none 0 0] (0, 0) _ rfl hZ Tryz.underlying29 rfl (by kernel_rfl) rfl rfl) rfl ?_
        have h101 : (101 : Int) ≠ 0 := by omega
        exact ⟨⟨101, _, h101, rfl⟩, hfe⟩
     ·have hne : (er == 0) = false := beq_eq_false_iff_ne.2 he
      have HE := Lib.hid he
      clear he HTS HNO
      go_upto_region 21 with fail
      have hf7d := hf07.drew
      have hA7d := hA7.drew
      have hP7d := hP7.drew
      clear hownR7 hownW7 hT7 hf07 hA7 hP7
      have hPA : gs ≠ w.heap.size := by omega
      refine wp_region_noPanic ?_
      refine wp_region_held_drew (S := (fun w' => w'.cell? ⟨gs, 0, none⟩ = some (.string sE) ∧ w'.cell? ⟨gs, 1, none⟩ = some (.int .i64 aE))) (by kernel_rfl) (⟨hP7d.cell 0, hP7d.cell 1⟩) (fun hHeld => ?_)
      generalize w7.drew = w7d at *
      refine tk 0 72 ?_
      refine tk 1 73 ?_
      refine tk 2 74 ?_
      refine tk 3 75 ?_
      refine wpAnyH_ready (rs := [4, 5]) (by kernel_rfl) (by simp) ?_
      refine AllReadyH.cons rfl (fun K hK => ?_) (AllReadyH.cons rfl (fun K hK => ?_) AllReadyH.nil)
      ·skip
       go_simp
       have hA8 := hA7d.alloc (Obj.cells #[.string ⟨#[116, 120, 110]⟩, .int .i64 0, .string sE, .int .i64 aE] 70)
       have hP8 := hP7d.alloc (Obj.cells #[.string ⟨#[116, 120, 110]⟩, .int .i64 0, .string sE, .int .i64 aE] 70)
       have hf8 := hf7d.alloc (Obj.cells #[.string ⟨#[116, 120, 110]⟩, .int .i64 0, .string sE, .int .i64 aE] 70)
       obtain ⟨gz, hgz⟩ : ∃ x, Hid (w7d.heap.size = x) := ⟨_, rfl⟩
       refine hK.out _ _ (⟨hP8.cell 0, hP8.cell 1⟩) (fun hHeld => ?_)
       clear hK K
       rw [hgz.out]
       generalize w7d.alloc (Obj.cells #[.string ⟨#[116, 120, 110]⟩, .int .i64 0, .string sE, .int .i64 aE] 70) = w8 at *
       have a0 := hA8.cell 0
       have a1 := hA8.cell 1
       have a2 := hA8.cell 2
       have a3 := hA8.cell 3
       have f0 := hA8.frozen 0
       have f1 := hA8.frozen 1
       have f2 := hA8.frozen 2
       have f3 := hA8.frozen 3
       refine rd 5 (fun K hK => ?_)
       go_simp
       have hZ := (((hA8.set_ 0 (.int .i64 0)).set_ 1 (.int .i64 0)).set_ 2 (.slice none 0 0)).set_ 3 (.slice none 0 0)
       have hfz : Fr (fun k => k = w.heap.size) w8 ((((w8.setCell ⟨w.heap.size, 0, none⟩ (.int .i64 0)).setCell ⟨w.heap.size, 1, none⟩ (.int .i64 0)).setCell ⟨w.heap.size, 2, none⟩ (.slice none 0 0)).setCell ⟨w.heap.size, 3, none⟩ (.slice none 0 0)) := ((((Fr.refl (fun k => k = w.heap.size) w8).setCell (p := ⟨w.heap.size, 0, none⟩) (fun _ => rfl) _).setCell (p := ⟨w.heap.size, 1, none⟩) (fun _ => rfl) _).setCell (p := ⟨w.heap.size, 2, none⟩) (fun _ => rfl) _).setCell (p := ⟨w.heap.size, 3, none⟩) (fun _ => rfl) _
       have hP9 := hP8.fr hfz (fun e => by omega)
       have hfe := hf8.trans hfz (fun k hk e => by omega)
       refine hK.out _ _ (⟨hP9.cell 0, hP9.cell 1⟩) (fun hHeld => ?_)
       clear hK K a0 a1 a2 a3 f0 f1 f2 f3
       generalize (((w8.setCell ⟨w.heap.size, 0, none⟩ (.int .i64 0)).setCell ⟨w.heap.size, 1, none⟩ (.int .i64 0)).setCell ⟨w.heap.size, 2, none⟩ (.slice none 0 0)).setCell ⟨w.heap.size, 3, none⟩ (.slice none 0 0) = w9 at *
       refine tk 6 3 ?_
       refine tk 7 4 ?_
       refine wpAnyH_done (by kernel_rfl) ?_ _
       refine NoPanic.normal ?_
       go_wp2
       refine bodyPost_ret (v := .tuple #[.agg #[.int .i64 0, .int .i64 0, .slice none 0 0, .slice none 0 0], .int .i64 er, .slice (some ⟨gz, 0, none⟩) 2 2]) (results_row3 Tryz.results49 _ _ w.heap.size 29 #[.int .i64 0, .int .i64 0, .slice none 0 0, .slice none 0 0] (0, 0) _ rfl hZ Tryz.underlying29 rfl (by kernel_rfl) rfl rfl) rfl ?_
       exact ⟨⟨er, _, HE.out, rfl⟩, hfe⟩
      ·skip
       have a0 := hA7d.cell 0
       have a1 := hA7d.cell 1
       have a2 := hA7d.cell 2
       have a3 := hA7d.cell 3
       have f0 := hA7d.frozen 0
       have f1 := hA7d.frozen 1
       have f2 := hA7d.frozen 2
       have f3 := hA7d.frozen 3
       go_simp
       have hZ := (((hA7d.set_ 0 (.int .i64 0)).set_ 1 (.int .i64 0)).set_ 2 (.slice none 0 0)).set_ 3 (.slice none 0 0)
       have hfz : Fr (fun k => k = w.heap.size) w7d ((((w7d.setCell ⟨w.heap.size, 0, none⟩ (.int .i64 0)).setCell ⟨w.heap.size, 1, none⟩ (.int .i64 0)).setCell ⟨w.heap.size, 2, none⟩ (.slice none 0 0)).setCell ⟨w.heap.size, 3, none⟩ (.slice none 0 0)) := ((((Fr.refl (fun k => k = w.heap.size) w7d).setCell (p := ⟨w.heap.size, 0, none⟩) (fun _ => rfl) _).setCell (p := ⟨w.heap.size, 1, none⟩) (fun _ => rfl) _).setCell (p := ⟨w.heap.size, 2, none⟩) (fun _ => rfl) _).setCell (p := ⟨w.heap.size, 3, none⟩) (fun _ => rfl) _
       have hP9 := hP7d.fr hfz (fun e => by omega)
       have hfe := hf7d.trans hfz (fun k hk e => by omega)
       refine hK.out _ _ (⟨hP9.cell 0, hP9.cell 1⟩) (fun hHeld => ?_)
       clear hK K a0 a1 a2 a3 f0 f1 f2 f3
       generalize (((w7d.setCell ⟨w.heap.size, 0, none⟩ (.int .i64 0)).setCell ⟨w.heap.size, 1, none⟩ (.int .i64 0)).setCell ⟨w.heap.size, 2, none⟩ (.slice none 0 0)).setCell ⟨w.heap.size, 3, none⟩ (.slice none 0 0) = w8 at *
       refine tk 6 3 ?_
       refine rd 4 (fun K hK => ?_)
       go_simp
       have hP8 := hP9.alloc (Obj.cells #[.string ⟨#[116, 120, 110]⟩, .int .i64 0, .string sE, .int .i64 aE] 70)
       refine hK.out _ _ (⟨hP8.cell 0, hP8.cell 1⟩) (fun hHeld => ?_)
       clear hK K
       have hZ := hZ.alloc (Obj.cells #[.string ⟨#[116, 120, 110]⟩, .int .i64 0, .string sE, .int .i64 aE] 70)
       have hfe := hfe.alloc (Obj.cells #[.string ⟨#[116, 120, 110]⟩, .int .i64 0, .string sE, .int .i64 aE] 70)
       obtain ⟨gz, hgz⟩ : ∃ x, Hid (w8.heap.size = x) := ⟨_, rfl⟩
       rw [hgz.out]
       generalize w8.alloc (Obj.cells #[.string ⟨#[116, 120, 110]⟩, .int .i64 0, .string sE, .int .i64 aE] 70) = w9 at *
       refine tk 7 4 ?_
       refine wpAnyH_done (by kernel_rfl) ?_ _
       refine NoPanic.normal ?_
       go_wp2
       refine bodyPost_ret (v := .tuple #[.agg #[.int .i64 0, .int .i64 0, .slice none 0 0, .slice none 0 0], .int .i64 er, .slice (some ⟨gz, 0, none⟩) 2 2]) (results_row3 Tryz.results49 _ _ w.heap.size 29 #[.int .i64 0, .int .i64 0, .slice none 0 0, .slice none 0 0] (0, 0) _ rfl hZ Tryz.underlying29 rfl (by kernel_rfl) rfl rfl) rfl ?_
       exact ⟨⟨er, _, HE.out, rfl⟩, hfe⟩
theorem ref06_Right {w : World} {F : Nat → Prop} {A : Option Addr} {l : List (ByteArray × ByteArray × Int)} {cap : Nat} (h : EntRow w F A l) (hll : l.length ≤ 1000000) :
  Calls Tryz.prog 87 #[.slice A l.length cap] w (OkB w (risesE l)) := by
 by_cases hbig : (1024 : Int) < (l.length : Int)
 ·have hno : risesE l = false := by unfold risesE; simp; intro _; omega
  have HNO := Lib.hid hno
  clear h hno
  go_enter Tryz.func87, Tryz.ntmps87
  go_wp2
  go_ret
  rw [HNO.out]
  exact ⟨rfl, Fr.refl _ _⟩
 go_enter Tryz.func87, Tryz.ntmps87
 go_wp2_with fail
 go_loopw [3] (fun ix wr => ∃ k : Nat, k ≤ l.length ∧ ix = .int .i64 k ∧ Hid (okTo entOk l k = true) ∧ Fr (fun _ => False) w wr) (fun ix _ => l.length - (intOf ix).toNat)
 case atStart => exact ⟨0, by omega, rfl, rfl, Fr.refl _ _⟩
 case round =>
  obtain ⟨k, hk, rfl, hok, hf⟩ := hrel
  by_cases hlt : k < l.length
  ·have hlt' : (k : Int) < (l.length : Int) := by omega
   obtain ⟨x, hx⟩ : ∃ x, l[k]? = some x := ⟨l[k], List.getElem?_eq_getElem hlt⟩
   obtain ⟨b, o, rfl, hFb, hc0, hc1, hc2⟩ := (h.fr hf (fun _ _ => id)) k x hx
   have HX := Lib.hid hx
   have HR := Lib.hid h
   have d0 := hc0
   have d1 := hc1
   clear hx h hc0 hc1 hc2
   by_cases c16 : (16 : Int) < x.1.size
   ·have eo : okAt entOk l k = false := by unfold okAt; rw [HX.out]; simp [c16]
    have q16 : decide ((16 : Int) < x.1.size) = true := decide_eq_true c16
    have HNO := Lib.hid (risesE_no hlt eo)
    clear eo
    go_upto_region 6 with fail
    go_quiet (fail)
    go_wp2
    go_ret
    rw [HNO.out]
    exact ⟨rfl, hf.drewN _⟩
   ·have q16 : decide ((16 : Int) < x.1.size) = false := decide_eq_false c16
    by_cases c64 : (64 : Int) < x.2.1.size
    ·have eo : okAt entOk l k = false := by unfold okAt; rw [HX.out]; simp [entOk, c64]
     have q64 : decide ((64 : Int) < x.2.1.size) = true := decide_eq_true c64
     have HNO := Lib.hid (risesE_no hlt eo)
     clear eo
     go_upto_region 6 with fail
     go_quiet (fail)
     go_wp2
     go_ret
     rw [HNO.out]
     exact ⟨rfl, hf.drewN _⟩
    ·have q64 : decide ((64 : Int) < x.2.1.size) = false := decide_eq_false c64
     cases k with
     | zero =>
      rw [Nat.zero_mul, Nat.add_zero] at d0 d1
      have eo : okAt entOk l 0 = true := by unfold okAt; rw [HX.out]; simp [entOk, c64, c16]
      have hn := okTo_succ entOk hok.out eo
      have HN := Lib.hid hn
      clear eo hn
      go_upto_region 6 with fail
      go_quiet (fail)
      go_wp2_with fail
      go_roundw
      case rel => exact ⟨1, by omega, by go_num, HN, hf.drewN _⟩
      case measure => simp [intOf]; omega
     | succ j =>
      obtain ⟨y, hy⟩ : ∃ y, l[j]? = some y := ⟨l[j], List.getElem?_eq_getElem (by omega)⟩
      obtain ⟨b', o', hbo, _, e0, _, _⟩ := (HR.out.fr hf (fun _ _ => id)) j y hy
      cases hbo
      have eo : okAt entOk l (j + 1) = strLess y.1 x.1 := by unfold okAt; rw [HX.out]; dsimp only; rw [hy]; simp [entOk, c64, c16]
      have hj : (j : Int) < (l.length : Int) := by omega
      have hj1 : wrap64 (((j + 1 : Nat) : Int) - 1) = (j : Int) := by unfold wrap64; omega
      by_cases hs : strLess y.1 x.1 = true
      ·have hsl : Op.bytesLess y.1.toList x.1.toList = true := hs
       have hn := okTo_succ entOk hok.out (eo.trans hs)
       have HN := Lib.hid hn
       clear eo hn hs hy
       go_upto_region 6 with fail
       go_quiet (fail)
       go_wp2_with fail
       go_roundw
       case rel => exact ⟨j + 1 + 1, by omega, by go_num, HN, hf.drewN _⟩
       case measure => simp [intOf]; omega
      ·have hsl : Op.bytesLess y.1.toList x.1.toList = false := by simpa [strLess] using hs
       have HNO := Lib.hid (risesE_no hlt (eo.trans (by simpa using hs)))
       clear eo hs hy
       go_upto_region 6 with fail
       go_quiet (fail)
       go_wp2
       go_ret
       rw [HNO.out]
       exact ⟨rfl, hf.drewN _⟩
  ·obtain rfl : k = l.length := by omega
   have hyes : risesE l = true := by unfold risesE; rw [hok.out]; simp; omega
   clear h
   go_wp2
   go_ret
   rw [hyes]
   exact ⟨rfl, hf⟩
theorem ref06_half (n : Nat) (hn : 2 ≤ n) (hm : n ≤ 1000000) (w : World) : Calls Tryz.prog 121 #[.int .i64 n] w (fun e w' => ∃ k : Nat, 1 ≤ k ∧ k < n ∧ e = .returned (.int .i64 k) ∧ w = w') := by
 go_enter Tryz.func121, Tryz.ntmps121
 go_wp2_with fail
 go_loopw [3] (fun v wr => ∃ k : Nat, 1 ≤ k ∧ k < n ∧ v = .int .i64 k ∧ w = wr) (fun v _ => n - (intOf v).toNat)
 case atStart => exact ⟨1, by omega, by omega, rfl, rfl⟩
 case round =>
  obtain ⟨k, h1, hk, rfl, rfl⟩ := hrel
  have hw : wrap64 (2 * (k : Int)) = 2 * (k : Int) := by unfold wrap64; omega
  by_cases h2 : 2 * (k : Int) < (n : Int)
  ·go_wp2_with fail
   go_roundw
   case rel => exact ⟨2 * k, by omega, by omega, by simp, by trivial⟩
   case measure => simp [intOf]; omega
  ·go_wp2
   go_ret
   exact ⟨k, h1, hk, rfl, rfl⟩
theorem ref06_beside_all (t : Value) (E : Nat) (hE : E ≤ 1000000) : ∀ (N n : Nat), n ≤ N → 1 ≤ n → ∀ (w : World) (b o cap a : Nat), n ≤ cap → a + n ≤ E →
  Calls Tryz.prog 88 #[t, .slice (some ⟨b, o, none⟩) n cap, .int .i64 a, .int .i64 0, .int .i64 E] w (fun e w' => e = .returned (.slice none 0 0) ∧ Fr (fun _ => False) w w')
 | 0, n, hN, h1 => by omega
 | N + 1, n, hN, h1 => fun w b o cap a hc ha => by
  have ih := Lib.hid (ref06_beside_all t E hE N)
  have q1 : ¬ (E : Int) ≤ (a : Int) := by omega
  have q2 : wrap64 ((a : Int) + (n : Int)) = (a : Int) + (n : Int) := by unfold wrap64; omega
  have q3 : ¬ (a : Int) + (n : Int) ≤ 0 := by omega
  have q4 : ¬ (E : Int) ≤ 0 := by omega
  by_cases hn1 : n = 1
  ·subst hn1
   clear ih
   go_enter Tryz.func88, Tryz.ntmps88
   go_wp2
   go_ret
   exact ⟨rfl, Fr.refl _ _⟩
  ·have hn2 : ((n : Int) == 1) = false := beq_eq_false_iff_ne.2 (by omega)
   have HH := Lib.hid (fun w => ref06_half n (by omega) (by omega) w)
   go_enter Tryz.func88, Tryz.ntmps88
   go_upto_region 6 with (go_at_call 121; refine (HH.out _).mono ?_; rintro e w1 ⟨k, hk1, hkn, rfl, rfl⟩)
   have hkc : (k : Int) ≤ (cap : Int) := by omega
   have hck : ¬ cap = k := by omega
   have hkn' : (k : Int) ≤ (n : Int) := by omega
   have hw : wrap64 ((a : Int) + (k : Int)) = ((a + k : Nat) : Int) := by unfold wrap64; omega
   have I1 := Lib.hid (ih.out k (by omega) hk1 w b o cap a (by omega) (by omega))
   go_upto_region 7 with (go_at_call 88; refine I1.out.mono ?_; rintro e w2 ⟨rfl, hf2⟩)
   have I2 := Lib.hid (fun o' => ih.out (n - k) (by omega) (by omega) w2 b o' (cap - k) (a + k) (by omega) (by omega))
   go_wp2_with (go_at_call 88; refine (I2.out _).mono ?_; rintro e w3 ⟨rfl, hf3⟩)
   go_ret
   exact ⟨rfl, hf2.then_ hf3⟩
def TDig (w : World) (gD bD gt : Nat) (v : Value) (L : List (List Int)) (xs : List Int) (e : Ending) (w' : World) : Prop :=
 ∃ v', e = .returned (.int .i64 (digI L xs : Nat)) ∧ RBookAt w' gD bD v' (digL L xs) ∧ Blk w' gt 176 #[.pointer (some ⟨gD, 0, none⟩), .int .i64 0] ∧ Fr (fun k => k = gt ∨ k = gD ∨ v.ownBlock = some k) w w' ∧ ∀ k, v'.ownBlock = some k → v.ownBlock = some k ∨ w.heap.size ≤ k
theorem ref06_digest {w : World} {gD bD gt : Nat} {v : Value} {L : List (List Int)} (hb : RBookAt w gD bD v L) (hL8 : ∀ t ∈ L, B8 t) (hbase : bD ≤ w.heap.size) (hL : L.length < 65536) (ht : Blk w gt 176 #[.pointer (some ⟨gD, 0, none⟩), .int .i64 0]) {gw bw : Nat} {u : Value} {xs : List Int} (hw : RefW w gw bw u xs none) (h8 : B8 xs) (hx : xs.length ≤ 65536) :
  Calls Tryz.prog 174 #[.pointer (some ⟨gt, 0, none⟩), .pointer (some ⟨gw, 0, none⟩)] w (TDig w gD bD gt v L xs) := by
 have hf1 : Fr (fun _ => False) w w.drew := (Fr.refl _ _).drew
 have HBY := Lib.hid (refw_Bytes (hw.fr hf1 id (fun _ _ => id)) (by omega))
 have HBY : Hid (Calls Tryz.prog 36 #[.pointer (some ⟨gw, 0, none⟩)] w.drew (Fresh w.drew xs)) := HBY.out
 have H8 := Lib.hid h8
 have HX := Lib.hid hx
 have t1 : w.cell? ⟨gt, 1, none⟩ = some (.int .i64 0) := ht.cell 1
 have hb1 := hb.keep hf1
 have ht1 := ht.fr hf1 id
 clear hw h8 hx
 go_enter Tryz.func174, Tryz.ntmps174
 go_upto_region 3 with fail
 clear t1
 refine wp_region_noPanic ?_
 refine wp_region_held_drew (S := (fun w' => w'.cell? ⟨gt, 0, none⟩ = some (.pointer (some ⟨gD, 0, none⟩)))) (by kernel_rfl) (ht.drew.cell 0) (fun hHeld => ?_)
 refine tk 0 13 ?_
 refine tk 1 14 ?_
 refine tk 2 15 ?_
 refine tk 3 16 ?_
 refine tk 4 17 ?_
 refine rd 5 (fun K hK => ?_)
 go_simp
 go_at_call 36
 refine HBY.out.mono ?_
 rintro e w2 ⟨u2, rfl, hu2, hf2⟩
 obtain ⟨A2, c2, rfl, _, hr2⟩ := hu2.form
 have hb2 := hb1.keep hf2
 have ht2 := ht1.fr hf2 id
 have hf02 := hf1.then_ hf2
 have HD := Lib.hid (ref03_Digest (cap := c2) hb2 hL8 (Nat.le_trans hbase hf02.size) hr2 H8.out HX.out hL)
 try go_wp2_with fail
 refine hK.out _ _ (ht2.cell 0) (fun hHeld => ?_)
 clear hK K
 refine rd 6 (fun K hK => ?_)
 go_simp
 go_at_call 21
 refine HD.out.mono ?_
 rintro e w3 ⟨v3, rfl, hb3, hf3, hk3⟩
 have ht3 := ht2.fr hf3 (fun e => by
  rcases e with e | e
  ·exact hb2.blk.ne_ ht2 (by decide) e.symm
  ·obtain ⟨vals, h1, _⟩ := hb2.row; exact own_ne_blk h1 ht2 (by decide) e)
 try go_wp2_with fail
 refine hK.out _ _ (ht3.cell 0) (fun hHeld => ?_)
 clear hK K
 refine tk 7 12 ?_
 refine tk 8 20 ?_
 refine tk 9 21 ?_
 refine tk 10 5 ?_
 refine tk 11 6 ?_
 refine wpAnyH_done (by kernel_rfl) ?_ _
 refine NoPanic.normal ?_
 have t1 := ht3.cell 1
 have z1 := ht3.frozen 1
 go_wp2_with fail
 go_ret
 have hfs : Fr (fun k => k = gt) w3 (w3.setCell ⟨gt, 1, none⟩ (.int .i64 0)) := (Fr.refl (fun k => k = gt) w3).setCell (p := ⟨gt, 1, none⟩) (fun _ => rfl) _
 refine ⟨v3, rfl, hb3.fr hfs (hb3.blk.ne_ ht3 (by decide)) (fun k hk e => by obtain ⟨vals, h1, _⟩ := hb3.row; exact own_ne_blk h1 ht3 (by decide) (e ▸ hk)) (fun b hb e => hb.ne_blk ht3 (by decide) e), ht3.set_ 1 _, ?_, fun k hk => (hk3 k hk).imp_right (Nat.le_trans hf02.size)⟩
 exact ((hf02.mono (fun _ _ h => h.elim)).trans hf3 (fun k _ h => .inr h)).trans hfs (fun k _ h => .inl h)
theorem b8_noneB : B8 noneB := by unfold B8 noneB; decide
theorem ref06_none {w : World} {gD bD gt : Nat} {v : Value} {L : List (List Int)} (hb : RBookAt w gD bD v L) (hL8 : ∀ t ∈ L, B8 t) (hbase : bD ≤ w.heap.size) (hL : L.length < 65536) (ht : Blk w gt 176 #[.pointer (some ⟨gD, 0, none⟩), .int .i64 0]) :
  Calls Tryz.prog 145 #[.pointer (some ⟨gt, 0, none⟩)] w (TDig w gD bD gt v L noneB) := by
 have hW1 : RefW (w.alloc (Obj.cells #[.slice none 0 0, .int .i64 0, .int .i64 0] 94)) w.heap.size w.heap.size (.slice none 0 0) [] none := ⟨Blk.new _ _ _, Own8.nil _ _⟩
 have hf1 : Fr (fun _ => False) w (w.alloc (Obj.cells #[.slice none 0 0, .int .i64 0, .int .i64 0] 94)) := (Fr.refl _ _).alloc _
 have kc := fun (w : World) (C : Array Value) (n c : Nat) => Lib.run_convert_bytes_const (P := Tryz.prog) w 38 5 C n c Tryz.underlying38 Tryz.underlying5
 go_enter Tryz.func145, Tryz.ntmps145
 go_upto_region 2 with fail
 generalize w.alloc (Obj.cells #[.slice none 0 0, .int .i64 0, .int .i64 0] 94) = w1 at *
 have hb1 := hb.keep hf1
 have ht1 := ht.fr hf1 id
 obtain ⟨gw, hgw⟩ : ∃ x, Hid (w.heap.size = x) := ⟨_, rfl⟩
 have hgl : gw < w1.heap.size := by rw [← hgw.out]; exact hW1.blk.lt
 have hgw' : w.heap.size ≤ gw := Nat.le_of_eq hgw.out
 rw [hgw.out] at hW1 ⊢
 have hfa : Fr (fun _ => False) w1 (w1.alloc (Obj.cells #[.int .u8 110, .int .u8 111, .int .u8 110, .int .u8 101] 5 (4, 5))) := (Fr.refl _ _).alloc _
 have hrow : ByteRow (w1.alloc (Obj.cells #[.int .u8 110, .int .u8 111, .int .u8 110, .int .u8 101] 5 (4, 5))) (fun k => w1.heap.size ≤ k) (some ⟨w1.heap.size, 0, none⟩) (bytesOf noneS) := by
  intro k x hx
  refine ⟨w1.heap.size, 0, rfl, Nat.le_refl _, ?_⟩
  rw [Nat.zero_add, cell_of_row _ _ k _ _ _ (heap_alloc_new w1 _)]
  revert hx
  rw [show bytesOf noneS = [110, 111, 110, 101] by decide]
  match k with
  | 0 => intro h; cases h; rfl
  | 1 => intro h; cases h; rfl
  | 2 => intro h; cases h; rfl
  | 3 => intro h; cases h; rfl
  | k + 4 => intro h; simp at h
 have HT := refw_Text (cap := 4) (hW1.fr hfa id (fun _ _ => id)) (Nat.le_trans (Nat.le_of_lt hgl) hfa.size) hrow (fun k hk e => by cases e) (by decide) (.inl (by simp [show bytesOf noneS = [110, 111, 110, 101] by decide]))
 rw [if_pos (by decide)] at HT
 replace HT := Lib.hid HT
 clear hrow
 go_upto_region 3 with (go_at_call 35; refine HT.out.mono ?_; rintro e w2 ⟨u2, rfl, hW2, hf2, _⟩)
 have hf12 := (hfa.mono (T := fun k => k = gw) (fun _ _ h => h.elim)).trans hf2 (fun k hk h => h.elim (fun h => h) (fun h => by cases h))
 have hf02 : Fr (fun _ => False) w w2 := hf1.trans hf12 (fun k hk e => by omega)
 have hb2 := hb.keep hf02
 have ht2 := ht.fr hf02 id
 have hW2 : RefW w2 gw gw u2 noneB none := hW2
 have HD := Lib.hid (ref06_digest hb2 hL8 (Nat.le_trans hbase hf02.size) hL ht2 hW2 b8_noneB (by decide))
 clear hb ht hb1 ht1 hb2 ht2 hW1 hW2 HT hf2 hf12 hfa hf1
 go_wp2_with (go_at_call 174; refine HD.out.mono ?_; rintro e w3 ⟨v3, rfl, hb3, ht3, hf3, hk3⟩)
 go_ret
 exact ⟨v3, rfl, hb3, ht3, (hf02.mono (fun _ _ h => h.elim)).trans hf3 (fun _ _ h => h), fun k hk => (hk3 k hk).imp_right (Nat.le_trans hf02.size)⟩
theorem ref06_top0 {w : World} {gD bD gt : Nat} {v : Value} {L : List (List Int)} (hb : RBookAt w gD bD v L) (hL8 : ∀ t ∈ L, B8 t) (hbase : bD ≤ w.heap.size) (hL : L.length < 65536) (ht : Blk w gt 176 #[.pointer (some ⟨gD, 0, none⟩), .int .i64 0]) (A : Option Addr) (cap : Nat) :
  Calls Tryz.prog 120 #[.pointer (some ⟨gt, 0, none⟩), .slice A 0 cap] w (TDig w gD bD gt v L noneB) := by
 have HN := Lib.hid (ref06_none hb hL8 hbase hL ht)
 clear hb hL8 hbase hL ht
 go_enter Tryz.func120, Tryz.ntmps120
 go_wp2_with (go_at_call 145; refine HN.out.mono ?_; rintro e w1 ⟨v1, rfl, h1, h2, h3, h4⟩)
 go_ret
 exact ⟨v1, rfl, h1, h2, h3, h4⟩
def TBes (w : World) (gD bD gt : Nat) (v : Value) (L : List (List Int)) (e : Ending) (w' : World) : Prop :=
 ∃ v' A c, e = .returned (.slice A 1 c) ∧ IntF w' (fun k => w.heap.size ≤ k) A [((digI L noneB : Nat) : Int)] ∧ RBookAt w' gD bD v' (digL L noneB) ∧ Blk w' gt 176 #[.pointer (some ⟨gD, 0, none⟩), .int .i64 0] ∧ Fr (fun k => k = gt ∨ k = gD ∨ v.ownBlock = some k) w w' ∧ ∀ k, v'.ownBlock = some k → v.ownBlock = some k ∨ w.heap.size ≤ k
theorem ref06_beside0 {w : World} {gD bD gt : Nat} {v : Value} {L : List (List Int)} (hb : RBookAt w gD bD v L) (hL8 : ∀ t ∈ L, B8 t) (hbase : bD ≤ w.heap.size) (hL : L.length < 65536) (ht : Blk w gt 176 #[.pointer (some ⟨gD, 0, none⟩), .int .i64 0]) (A : Option Addr) (cap : Nat) :
  Calls Tryz.prog 88 #[.pointer (some ⟨gt, 0, none⟩), .slice A 0 cap, .int .i64 0, .int .i64 0, .int .i64 0] w (TBes w gD bD gt v L) := by
 have HN := Lib.hid (ref06_top0 hb hL8 hbase hL ht A cap)
 clear hb hL8 hbase hL ht
 unfold TBes
 obtain ⟨d, hd⟩ : ∃ d : Int, Hid (((digI L noneB : Nat) : Int) = d) := ⟨_, rfl⟩
 have HN : Hid (Calls Tryz.prog 120 #[.pointer (some ⟨gt, 0, none⟩), .slice A 0 cap] w (fun e w' => ∃ v', e = .returned (.int .i64 d) ∧ RBookAt w' gD bD v' (digL L noneB) ∧ Blk w' gt 176 #[.pointer (some ⟨gD, 0, none⟩), .int .i64 0] ∧ Fr (fun k => k = gt ∨ k = gD ∨ v.ownBlock = some k) w w' ∧ ∀ k, v'.ownBlock = some k → v.ownBlock = some k ∨ w.heap.size ≤ k)) := by
  rw [← hd.out]; exact HN.out
 rw [hd.out]
 go_enter Tryz.func88, Tryz.ntmps88
 go_wp2_with (go_at_call 120; refine HN.out.mono ?_; rintro e w1 ⟨v1, rfl, h1, h2, h3, h4⟩)
 go_ret
 have hfa : Fr (fun _ => False) w1 (w1.alloc (Obj.cells #[.int .i64 d] 3)) := (Fr.refl _ _).alloc _
 have hN := Blk.new w1 3 #[.int .i64 d]
 refine ⟨v1, _, _, rfl, ?_, h1.keep hfa, h2.fr hfa id, h3.then_ hfa, h4⟩
 intro k x hx
 refine ⟨w1.heap.size, 0, rfl, h3.size, ?_⟩
 match k, hx with
 | 0, hx => cases hx; exact hN.cell 0
end Go.Proofs.YtmkdhhhoodeemaaGreat
