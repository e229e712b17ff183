/- RelayCertsSaid: for every input the law returns true, and each argument reads behind the call as it read before. No condition. -/
import Derived.Laws.StructEq
import Derived.BigQuiet
import Derived.Deep.RegionHeld3
import Derived.Test.YtmkdhhhoodeemaaGreatCrtProofGa
import Derived.Test.YtmkdhhhoodeemaaGreatCrtProofGb
import Derived.Test.YtmkdhhhoodeemaaGreatCrtProofGc
import Derived.Test.YtmkdhhhoodeemaaGreatCrtProofGd
import Derived.Test.YtmkdhhhoodeemaaGreatCrtProofGe
import Derived.Test.YtmkdhhhoodeemaaGreatCrtProofJa
import Derived.Test.YtmkdhhhoodeemaaGreatCrtProofJb
import Derived.Test.YtmkdhhhoodeemaaGreatCrtProofJc
import Derived.Test.YtmkdhhhoodeemaaGreatCrtProofJd
set_option linter.unusedVariables false
set_option linter.unusedSimpArgs false
/- relay: ruled: a transaction is to be prepared. -/
namespace Go.Proofs.YtmkdhhhoodeemaaGreat
open Go Go.RowKit
def NoText (w : World) (e : Ending) (w' : World) : Prop := ∃ t u, e = .returned (.tuple #[.slice none 0 0, .iface t u]) ∧ Fr (fun _ => False) w w'
theorem book_wrong {w : World} {g m base : Nat} {v : Value} {L : List (List Int)} (h : BookAt w g m base v L) : Calls Tryz.prog 76 #[.pointer (some ⟨g, 0, none⟩), .int .i64 1] w fun e w' => e = .returned (errV [((⟨#[98, 111, 111, 107]⟩ : ByteArray), (L.length : Int))] 1) ∧ ∃ n, w' = w.drewN n := by
 obtain ⟨A0, cap0, rfl, _, _⟩ := own_form h.own
 have c0 : w.cell? ⟨g, 0, none⟩ = some (.slice A0 L.length cap0) := h.blk.cell 0
 have H := Lib.hid (fun w => fault_Of 1 rfl w)
 go_enter Tryz.func76, Tryz.ntmps76
 go_upto_region 1 with fail
 go_quiet (first | (go_at_call 71; exact quiet_left (H.out _)) | (go_at_call 70; exact quiet_left (fault_Wrap _ _ _ _ _)))
 go_wp2
 go_ret
 exact ⟨rfl, _, rfl⟩
theorem book_Text_no {w : World} {g m base : Nat} {v : Value} {L : List (List Int)} (h : BookAt w g m base v L) {d : Int} (h0 : 0 ≤ d) (hd : (L.length : Int) ≤ d) : Calls Tryz.prog 75 #[.pointer (some ⟨g, 0, none⟩), .int .i64 d] w (NoText w) := by
 have HW := book_wrong h
 obtain ⟨t, u, hu⟩ := errV_iface [((⟨#[98, 111, 111, 107]⟩ : ByteArray), (L.length : Int))] 1
 rw [hu] at HW
 replace HW := Lib.hid HW
 obtain ⟨A0, cap0, rfl, _, _⟩ := own_form h.own
 have c0 : w.cell? ⟨g, 0, none⟩ = some (.slice A0 L.length cap0) := h.blk.cell 0
 have h0' : ¬ d < 0 := by omega
 clear h hu
 go_enter Tryz.func75, Tryz.ntmps75
 go_wp2_with (go_at_call 76; refine HW.out.mono ?_; rintro e w' ⟨rfl, n, rfl⟩)
 refine bodyPost_ret (v := .tuple #[.slice none 0 0, .iface t u]) (by simp [results, Tryz.results75, go_sem]) rfl ?_
 exact ⟨t, u, rfl, (Fr.refl _ _).drewN n⟩
/-- Are bytes a right transaction's? -/
def IsTxn (bs : List Int) : Prop := ∃ c n R W, TOk c n R W ∧ bs = txnB c n R W
/-- What becomes of a begun transaction. -/
def PrepP (w : World) (L : List (List Int)) (txn : Int) (gg : List Int) (f : List Int → List Int) (e : Ending) (w' : World) : Prop :=
 (∃ bs, L[txn.toNat]? = some bs ∧ IsTxn bs ∧ TasksP w gg (f bs) e w') ∨ ((∀ bs, L[txn.toNat]? = some bs → ¬ IsTxn bs) ∧ TasksP w [] [] e w')
set_option maxRecDepth 100000 in
set_option maxHeartbeats 4000000 in
theorem ruled_begin {w : World} {txn : Int} {yes : Bool} {ff tt : ByteArray} {epoch shard target root : Int} (h : OkSay ⟨1, txn, yes, ff, tt, epoch, shard, target, root⟩) {G D : Int} {bC : Nat} {C : Option Addr} {cx : Nat} {xs : List Int} (hC : IntRow w bC C xs) (hbC : bC ≤ w.heap.size) (hxl : xs.length ≤ 1024) (hg : getOk (num8 G ++ num8 D ++ numsB xs)) {g m base : Nat} {v : Value} {L : List (List Int)} (hb : BookAt w g m base v L) (hL : L.length < 65536) (hLl : ∀ x ∈ L, x.length ≤ 65536) {sh : Value} :
  Calls Tryz.prog 44 #[.pointer (some ⟨g, 0, none⟩), .agg #[.int .i64 0, .int .i64 0, .int .i64 0, .slice none 0 0, .slice none 0 0, .int .i64 1, .int .i64 txn, .bool yes, .string ff, .string tt, .int .i64 epoch, .int .i64 shard, .int .i64 target, .int .i64 root, .int .i64 G, .int .i64 D, .slice C xs.length cx, .int .i64 0, .int .i64 0, .slice none 0 0, .slice none 0 0], sh] w (PrepP w L txn [shard + 1] fun bs => orderB 1 bs (sayB ⟨1, txn, yes, ff, tt, epoch, shard, target, root⟩) (certB G D xs)) := by
 have HC := Lib.hid hC
 have HG := Lib.hid hg
 have HXL := Lib.hid hxl
 clear hC hg hxl
 have HLL := Lib.hid hLl
 clear hLl
 have hsh : (0 ≤ shard ∧ shard ≤ 3) ∧ (0 ≤ target ∧ target ≤ 3) ∧ (0 ≤ txn ∧ txn ≤ 2147483647) := by
  obtain ⟨a0, a1, a2, a3, a4, a5, a6, a7, a8, a9, a10, a11, a12, a13⟩ := h
  dsimp only at a2 a3 a10 a11 a12 a13
  omega
 have hwr : wrap64 (shard + 1) = shard + 1 := by unfold wrap64; omega
 have HW := Lib.hid hwr
 have hwt : wrap64 (target + 1) = target + 1 := by unfold wrap64; omega
 have HWT := Lib.hid hwt
 clear hwr hwt
 have HOK := Lib.hid h
 clear h
 have hB0 := Blk.new w 62 #[.int .i64 0, .int .i64 0, .int .i64 0, .slice none 0 0, .slice none 0 0, .int .i64 1, .int .i64 txn, .bool yes, .string ff, .string tt, .int .i64 epoch, .int .i64 shard, .int .i64 target, .int .i64 root, .int .i64 G, .int .i64 D, .slice C xs.length cx, .int .i64 0, .int .i64 0, .slice none 0 0, .slice none 0 0]
 have hf0 : Fr (fun _ => False) w (w.alloc (Obj.cells #[.int .i64 0, .int .i64 0, .int .i64 0, .slice none 0 0, .slice none 0 0, .int .i64 1, .int .i64 txn, .bool yes, .string ff, .string tt, .int .i64 epoch, .int .i64 shard, .int .i64 target, .int .i64 root, .int .i64 G, .int .i64 D, .slice C xs.length cx, .int .i64 0, .int .i64 0, .slice none 0 0, .slice none 0 0] 62)) := (Fr.refl _ _).alloc _
 go_enter Tryz.func44, Tryz.ntmps44
 go_upto_region 1 with fail
 generalize w.alloc (Obj.cells #[.int .i64 0, .int .i64 0, .int .i64 0, .slice none 0 0, .slice none 0 0, .int .i64 1, .int .i64 txn, .bool yes, .string ff, .string tt, .int .i64 epoch, .int .i64 shard, .int .i64 target, .int .i64 root, .int .i64 G, .int .i64 D, .slice C xs.length cx, .int .i64 0, .int .i64 0, .slice none 0 0, .slice none 0 0] 62) = w0 at *
 have k5 := hB0.cell 5
 have k6 := hB0.cell 6
 have k7 := hB0.cell 7
 have k8 := hB0.cell 8
 have k9 := hB0.cell 9
 have k10 := hB0.cell 10
 have k11 := hB0.cell 11
 have k12 := hB0.cell 12
 have k13 := hB0.cell 13
 go_upto_region 2 with fail
 have hB1 := hB0.alloc (Obj.cells #[.int .i64 1, .int .i64 txn, .bool yes, .string ff, .string tt, .int .i64 epoch, .int .i64 shard, .int .i64 target, .int .i64 root] 23)
 have hS1 := Blk.new w0 23 #[.int .i64 1, .int .i64 txn, .bool yes, .string ff, .string tt, .int .i64 epoch, .int .i64 shard, .int .i64 target, .int .i64 root]
 have hww : w0.heap.size < (w0.alloc (Obj.cells #[.int .i64 1, .int .i64 txn, .bool yes, .string ff, .string tt, .int .i64 epoch, .int .i64 shard, .int .i64 target, .int .i64 root] 23)).heap.size := by simp
 have hf1 := hf0.alloc (Obj.cells #[.int .i64 1, .int .i64 txn, .bool yes, .string ff, .string tt, .int .i64 epoch, .int .i64 shard, .int .i64 target, .int .i64 root] 23)
 generalize w0.alloc (Obj.cells #[.int .i64 1, .int .i64 txn, .bool yes, .string ff, .string tt, .int .i64 epoch, .int .i64 shard, .int .i64 target, .int .i64 root] 23) = w1 at *
 have s6 := hS1.cell 6
 clear hf0 k5 k6 k7 k8 k9 k10 k11 k12 k13
 go_upto_region 3 with (go_at_call 79; refine (relay_group _ _).mono ?_; rintro e w' ⟨rfl, rfl⟩; rw [HW.out])
 have hB2 := hB1.alloc (Obj.cells #[.int .i64 (shard + 1)] 3)
 have hS2 := hS1.alloc (Obj.cells #[.int .i64 (shard + 1)] 3)
 have hg2 := group_at w1 (shard + 1)
 have ho2 := ownsRow_built1 w1 3 (.int .i64 (shard + 1))
 have hz2 : w1.heap.size < (w1.alloc (Obj.cells #[.int .i64 (shard + 1)] 3)).heap.size := by simp
 have hf2 := hf1.alloc (Obj.cells #[.int .i64 (shard + 1)] 3)
 generalize w1.alloc (Obj.cells #[.int .i64 (shard + 1)] 3) = w2 at *
 clear hB1 hS1 hf1 s6
 have s0 := hS2.cell 0
 have s1 := hS2.cell 1
 have s7 := hS2.cell 7
 have k0 := hB2.cell 0
 have f0 := hB2.frozen 0
 have hb2 := hb.keep hf2
 have hw01 : w1.heap.size ≠ w.heap.size := fun e => by have := hB0.lt; have := hww; omega
 clear hb hg2
 by_cases hin : txn < (L.length : Int)
 ·obtain ⟨k, hk⟩ : ∃ k : Nat, txn = (k : Int) := ⟨txn.toNat, by omega⟩
  obtain ⟨bs, hbs⟩ : ∃ bs, L[k]? = some bs := ⟨L[k]'(by omega), List.getElem?_eq_getElem _⟩
  have HT := book_Text hb2 hbs hL
  rw [← hk] at HT
  replace HT := Lib.hid HT
  have HBS : Hid (L[txn.toNat]? = some bs) := by show _ = _; rw [hk]; exact hbs
  have hlb : Hid (bs.length ≤ 65536) := HLL.out bs (List.mem_of_getElem? hbs)
  have h8 : Hid (Bytes8 bs) := fun x hx => by have := hb2.map.2 bs (List.mem_of_getElem? hbs) x hx; omega
  clear hbs hk hin
  go_upto_region 8 with (go_at_call 75; refine HT.out.mono ?_; rintro e w3 ⟨A3, c3, rfl, hr3, hf3⟩)
  have hB3 := hB2.fr hf3 id
  have hf03 := hf2.then_ hf3
  have ho3 := own_fr ho2 hf3 (fun _ _ => id)
  have HG3 := Lib.hid (txn_Get (cap := c3) hr3 (by have := hlb.out; omega) h8.out)
  clear hr3 HT hS2 hb2 ho2 hB2 hf2 k0 f0 s0 s1 s7
  by_cases hT : IsTxn bs
  ·have HGA : Hid (Calls Tryz.prog 80 #[.slice A3 bs.length c3] w3 (fun e w' => ∃ c n R W RA cr WA cw, TOk c n R W ∧ bs = txnB c n R W ∧ e = .returned (.tuple #[.agg #[.int .i64 c, .int .i64 n, .slice RA R.length cr, .slice WA W.length cw], .nilIface]) ∧ ReadRow w' (fun k => w3.heap.size ≤ k) RA R ∧ WriteRow w' (fun k => w3.heap.size ≤ k) WA W ∧ Fr (fun _ => False) w3 w')) := by
    refine HG3.out.mono ?_
    rintro e w' (h | ⟨hno, _⟩)
    ·exact h
    ·obtain ⟨c, n, R, W, h1, h2⟩ := hT
     exact absurd h2 (hno c n R W h1)
   clear HG3
   go_upto_region 9 with (first
    | (go_at_call 80; refine HGA.out.mono ?_; rintro e w4 ⟨c, n, R, W, RA, cr, WA, cw, hok, hbt, rfl, hR4, hW4, hf4⟩; replace hbt := Lib.hid hbt; have hB4 := hB3.fr hf4 id; have hth : w4.there w.heap.size 1 4 := hB4.there (Nat.le_of_ble_eq_true rfl))
    | (refine wpList_store_mid rfl 29 (.tmp 37) (.tmp 35) rfl w.heap.size 1 #[.int .i64 c, .int .i64 n, .slice RA R.length cr, .slice WA W.length cw] rfl rfl hth (by kernel_rfl) (by simp [Value.oneCell']) ?_))
   replace hok := Lib.hid hok
   replace hT := Lib.hid hT
   have hB4a : Blk (w4.setCell ⟨w.heap.size, 1, none⟩ (.int .i64 c)) w.heap.size 62 #[.int .i64 0, .int .i64 c, .int .i64 0, .slice none 0 0, .slice none 0 0, .int .i64 1, .int .i64 txn, .bool yes, .string ff, .string tt, .int .i64 epoch, .int .i64 shard, .int .i64 target, .int .i64 root, .int .i64 G, .int .i64 D, .slice C xs.length cx, .int .i64 0, .int .i64 0, .slice none 0 0, .slice none 0 0] := hB4.set_ 1 _
   have hB4b : Blk ((w4.setCell ⟨w.heap.size, 1, none⟩ (.int .i64 c)).setCell ⟨w.heap.size, 2, none⟩ (.int .i64 n)) w.heap.size 62 #[.int .i64 0, .int .i64 c, .int .i64 n, .slice none 0 0, .slice none 0 0, .int .i64 1, .int .i64 txn, .bool yes, .string ff, .string tt, .int .i64 epoch, .int .i64 shard, .int .i64 target, .int .i64 root, .int .i64 G, .int .i64 D, .slice C xs.length cx, .int .i64 0, .int .i64 0, .slice none 0 0, .slice none 0 0] := hB4a.set_ 2 _
   have hB4c : Blk (((w4.setCell ⟨w.heap.size, 1, none⟩ (.int .i64 c)).setCell ⟨w.heap.size, 2, none⟩ (.int .i64 n)).setCell ⟨w.heap.size, 3, none⟩ (.slice RA R.length cr)) w.heap.size 62 #[.int .i64 0, .int .i64 c, .int .i64 n, .slice RA R.length cr, .slice none 0 0, .int .i64 1, .int .i64 txn, .bool yes, .string ff, .string tt, .int .i64 epoch, .int .i64 shard, .int .i64 target, .int .i64 root, .int .i64 G, .int .i64 D, .slice C xs.length cx, .int .i64 0, .int .i64 0, .slice none 0 0, .slice none 0 0] := hB4b.set_ 3 _
   have hB4d : Blk ((((w4.setCell ⟨w.heap.size, 1, none⟩ (.int .i64 c)).setCell ⟨w.heap.size, 2, none⟩ (.int .i64 n)).setCell ⟨w.heap.size, 3, none⟩ (.slice RA R.length cr)).setCell ⟨w.heap.size, 4, none⟩ (.slice WA W.length cw)) w.heap.size 62 #[.int .i64 0, .int .i64 c, .int .i64 n, .slice RA R.length cr, .slice WA W.length cw, .int .i64 1, .int .i64 txn, .bool yes, .string ff, .string tt, .int .i64 epoch, .int .i64 shard, .int .i64 target, .int .i64 root, .int .i64 G, .int .i64 D, .slice C xs.length cx, .int .i64 0, .int .i64 0, .slice none 0 0, .slice none 0 0] := hB4c.set_ 4 _
   have hf45 : Fr (fun k => k = w.heap.size) w4 ((((w4.setCell ⟨w.heap.size, 1, none⟩ (.int .i64 c)).setCell ⟨w.heap.size, 2, none⟩ (.int .i64 n)).setCell ⟨w.heap.size, 3, none⟩ (.slice RA R.length cr)).setCell ⟨w.heap.size, 4, none⟩ (.slice WA W.length cw)) := ((((Fr.refl (fun k => k = w.heap.size) w4).setCell (p := ⟨w.heap.size, 1, none⟩) (fun _ => rfl) (.int .i64 c)).setCell (p := ⟨w.heap.size, 2, none⟩) (fun _ => rfl) (.int .i64 n)).setCell (p := ⟨w.heap.size, 3, none⟩) (fun _ => rfl) (.slice RA R.length cr)).setCell (p := ⟨w.heap.size, 4, none⟩) (fun _ => rfl) (.slice WA W.length cw)
   clear hB4a hB4b hB4c hB4
   have hR5 := hR4.fr hf45 (fun k hk e => by have := hB3.lt; omega)
   have hW5 := hW4.fr hf45 (fun k hk e => by have := hB3.lt; omega)
   have hf05 : Fr (fun _ => False) w ((((w4.setCell ⟨w.heap.size, 1, none⟩ (.int .i64 c)).setCell ⟨w.heap.size, 2, none⟩ (.int .i64 n)).setCell ⟨w.heap.size, 3, none⟩ (.slice RA R.length cr)).setCell ⟨w.heap.size, 4, none⟩ (.slice WA W.length cw)) := (hf03.then_ hf4).trans hf45 (fun k hk e => by omega)
   have ho5 := own_fr (own_fr ho3 hf4 (fun _ _ => id)) hf45 (fun k hk e => by simp [Value.ownBlock] at hk; omega)
   generalize hw5 : ((((w4.setCell ⟨w.heap.size, 1, none⟩ (.int .i64 c)).setCell ⟨w.heap.size, 2, none⟩ (.int .i64 n)).setCell ⟨w.heap.size, 3, none⟩ (.slice RA R.length cr)).setCell ⟨w.heap.size, 4, none⟩ (.slice WA W.length cw)) = w5 at *
   rw [show (w4.setCells w.heap.size 1 #[.int .i64 c, .int .i64 n, .slice RA R.length cr, .slice WA W.length cw].toList) = w5 from hw5]
   have hlt3 := hB3.lt
   clear hw5 hR4 hW4 hf45 ho3 hB3 hf03 hf4 hth
   have k0 := hB4d.cell 0
   have f0 := hB4d.frozen 0
   go_upto_region 25 with fail
   have hB6 : Blk (w5.setCell ⟨w.heap.size, 0, none⟩ (.int .i64 1)) w.heap.size 62 #[.int .i64 1, .int .i64 c, .int .i64 n, .slice RA R.length cr, .slice WA W.length cw, .int .i64 1, .int .i64 txn, .bool yes, .string ff, .string tt, .int .i64 epoch, .int .i64 shard, .int .i64 target, .int .i64 root, .int .i64 G, .int .i64 D, .slice C xs.length cx, .int .i64 0, .int .i64 0, .slice none 0 0, .slice none 0 0] := hB4d.set_ 0 _
   have hf56 : Fr (fun k => k = w.heap.size) w5 (w5.setCell ⟨w.heap.size, 0, none⟩ (.int .i64 1)) := (Fr.refl (fun k => k = w.heap.size) w5).setCell (p := ⟨w.heap.size, 0, none⟩) (fun _ => rfl) _
   have hf06 := hf05.trans hf56 (fun k hk e => by omega)
   have hR6 := hR5.fr hf56 (fun k hk e => by omega)
   have hW6 := hW5.fr hf56 (fun k hk e => by omega)
   have ho6 := own_fr ho5 hf56 (fun k hk e => by simp [Value.ownBlock] at hk; omega)
   generalize w5.setCell ⟨w.heap.size, 0, none⟩ (.int .i64 1) = w6 at *
   clear hB4d hf05 hf56 hR5 hW5 ho5 k0 f0
   obtain ⟨A6, c6, ev, hr6⟩ := own_introw (l := [shard + 1]) ho6 rfl
   cases ev
   have HTL := Lib.hid (txnB_len hok.out)
   have HT : Calls Tryz.prog 64 #[.agg #[.int .i64 1, .int .i64 c, .int .i64 n, .slice RA R.length cr, .slice WA W.length cw, .int .i64 1, .int .i64 txn, .bool yes, .string ff, .string tt, .int .i64 epoch, .int .i64 shard, .int .i64 target, .int .i64 root, .int .i64 G, .int .i64 D, .slice C xs.length cx, .int .i64 0, .int .i64 0, .slice none 0 0, .slice none 0 0], .slice (some ⟨w1.heap.size, 0, none⟩) 1 1] w6 (TasksP w6 [shard + 1] (orderB 1 (txnB c n R W) (sayB ⟨1, txn, yes, ff, tt, epoch, shard, target, root⟩) (certB G D xs))) := relay_tasks_ok (s := ⟨1, txn, yes, ff, tt, epoch, shard, target, root⟩) (cg := 1) (gs := [shard + 1]) hr6 (Nat.le_refl _) (by simp) (orderB_len HTL.out (by have := sayB_short ⟨1, txn, yes, ff, tt, epoch, shard, target, root⟩; rw [show wordB ⟨1, txn, yes, ff, tt, epoch, shard, target, root⟩ = _ from if_pos HOK.out] at this; exact this) (certB_len HXL.out)) (fun w' hf => order_prep ((hR6.fr hf (fun _ _ => id)).mono_ (F' := fun _ => True) (fun _ _ => trivial)) ((hW6.fr hf (fun _ _ => id)).mono_ (F' := fun _ => True) (fun _ _ => trivial)) hok.out HOK.out (HC.out.fr (hf06.then_ hf) (fun _ _ => id)) (Nat.le_trans hbC (hf06.then_ hf).size) HXL.out HG.out)
   replace HT := Lib.hid HT
   go_wp2_with (first
    | (refine wpList_load_row rfl 62 _ rfl _ rfl _ _ (0, 0) _ hB6 Tryz.underlying62 rfl (by kernel_rfl) ?_)
    | (go_at_call 64; refine HT.out.mono ?_; rintro e w' ⟨tv, rfl, hv, hf'⟩))
   go_ret
   exact .inl ⟨bs, HBS.out, hT.out, tv, rfl, by rw [hbt.out]; exact hv.base_ hf06.size, hf06.then_ hf'⟩
  ·have HGN : Hid (Calls Tryz.prog 80 #[.slice A3 bs.length c3] w3 (fun e w' => ∃ t u, e = .returned (.tuple #[.agg #[.int .i64 0, .int .i64 0, .slice none 0 0, .slice none 0 0], .iface t u]) ∧ Fr (fun _ => False) w3 w')) := by
    refine HG3.out.mono ?_
    rintro e w' (⟨c, n, R, W, _, _, _, _, h1, h2, _⟩ | ⟨_, ⟨l, k, rfl⟩, hf⟩)
    ·exact absurd ⟨c, n, R, W, h1, h2⟩ hT
    ·obtain ⟨t, u, hu⟩ := errV_iface l k
     exact ⟨t, u, by rw [hu], hf⟩
   have HNO : Hid (∀ b, L[txn.toNat]? = some b → ¬ IsTxn b) := fun b hb => by
    have e := HBS.out
    rw [hb] at e
    rw [Option.some.inj e]
    exact hT
   clear HG3 hT
   go_upto_region 9 with (first
    | (go_at_call 80; refine HGN.out.mono ?_; rintro e w4 ⟨t, u, rfl, hf4⟩; have hB4 := hB3.fr hf4 id; have hth : w4.there w.heap.size 1 4 := hB4.there (Nat.le_of_ble_eq_true rfl))
    | (refine wpList_store_mid rfl 29 (.tmp 37) (.tmp 35) rfl w.heap.size 1 #[.int .i64 0, .int .i64 0, .slice none 0 0, .slice none 0 0] rfl rfl hth (by kernel_rfl) (by simp [Value.oneCell']) ?_))
   have hfz : Fr (fun k => k = w.heap.size) w4 (w4.setCells w.heap.size 1 #[.int .i64 0, .int .i64 0, .slice none 0 0, .slice none 0 0].toList) := Fr.setCells_ (S := fun k => k = w.heap.size) (fun _ => rfl) _ _ (Fr.refl _ _)
   generalize w4.setCells w.heap.size 1 #[.int .i64 0, .int .i64 0, .slice none 0 0, .slice none 0 0].toList = w5 at *
   go_wp2_with fail
   go_ret
   exact .inr ⟨HNO.out, .slice none 0 0, rfl, TasksAt.nil _ _ _, (hf03.then_ hf4).trans hfz (fun k hk e => by omega)⟩
 ·have HT := Lib.hid (book_Text_no hb2 (d := txn) (by omega) (by omega))
  have HNO : Hid (∀ bs, L[txn.toNat]? = some bs → ¬ IsTxn bs) := fun bs hbs => by
   have := (List.getElem?_eq_some_iff.1 hbs).1
   omega
  go_wp2_with (go_at_call 75; refine HT.out.mono ?_; rintro e w3 ⟨t, u, rfl, hf3⟩)
  go_ret
  exact .inr ⟨HNO.out, .slice none 0 0, rfl, TasksAt.nil _ _ _, hf2.then_ hf3⟩
end Go.Proofs.YtmkdhhhoodeemaaGreat

/- cert.Make: its row is new. -/
namespace Go.Proofs.YtmkdhhhoodeemaaGreat
open Go Go.RowKit
/-- What Make gives; its row is new. -/
def MadeF (w : World) (G D : Int) (L : List (Int × Int)) (need : Int) (e : Ending) (w' : World) : Prop :=
  Fr (fun _ => False) w w' ∧
  (((need < 1 ∨ ((whoInts G D L).length : Int) < need) ∧ e = .returned (.tuple #[.agg #[.int .i64 0, .int .i64 0, .slice none 0 0], errV [((⟨#[109, 97, 107, 101]⟩ : ByteArray), ((whoInts G D L).length : Int))] 51])) ∨
   (¬ (need < 1 ∨ ((whoInts G D L).length : Int) < need) ∧ ∃ A cap, e = .returned (.tuple #[.agg #[.int .i64 G, .int .i64 D, .slice A ((whoInts G D L).take need.toNat).length cap], .nilIface]) ∧ IntRow w' w'.heap.size A ((whoInts G D L).take need.toNat) ∧ ∀ b o, A = some ⟨b, o, none⟩ → w.heap.size ≤ b))
set_option maxRecDepth 100000 in
theorem cert_MakeF {w : World} {g m : Nat} {L : List (Int × Int)} (hs : SealsAt w g m L) (G D need : Int) :
  Calls Tryz.prog 43 #[.pointer (some ⟨g, 0, none⟩), .int .i64 G, .int .i64 D, .int .i64 need] w (MadeF w G D L need) := by
 go_enter Tryz.func43, Tryz.ntmps43
 go_wp2_with fail
 have hf0 : Fr (fun _ => False) w (w.alloc (Obj.cells #[.int .i64 0, .int .i64 0, .slice none 0 0] 41)) := (Fr.refl _ _).alloc _
 refine (seals_Who (hs.fr hf0 id id) G D).mono ?_
 rintro e w1 ⟨v, rfl, hown, hf1⟩
 obtain ⟨A, cap, rfl, hcap, _⟩ := own_form hown
 have b1 : Blk w1 w.heap.size 41 #[.int .i64 0, .int .i64 0, .slice none 0 0] := (Blk.new _ _ _).fr hf1 id
 have c0 := b1.cell 0
 have c1 := b1.cell 1
 have c2 := b1.cell 2
 have z0 := b1.frozen 0
 have z1 := b1.frozen 1
 have z2 := b1.frozen 2
 have hf2 := hf0.then_ hf1
 by_cases hn : need < 1 ∨ ((whoTo G D L 10).length : Int) < need
 ·have HN := Lib.hid hn
  by_cases h1 : need < 1
  ·clear hn
   go_wp2_with (first
    | (go_at_call 71; refine (fault_Of _ rfl _).mono ?_; rintro e w' ⟨rfl, rfl⟩)
    | (go_at_call 70; refine (fault_Wrap _ _ _ _ _).mono ?_; rintro e w' ⟨rfl, rfl⟩))
   have b2 := ((b1.set_ 0 (.int .i64 0)).set_ 1 (.int .i64 0)).set_ 2 (.slice none 0 0)
   have d0 := b2.cell 0
   have d1 := b2.cell 1
   have d2 := b2.cell 2
   refine bodyPost_ret (v := .tuple #[.agg #[.int .i64 0, .int .i64 0, .slice none 0 0], errV [((⟨#[109, 97, 107, 101]⟩ : ByteArray), ((whoTo G D L 10).length : Int))] 51]) (by simp [results, Tryz.results43, go_sem, d0, d1, d2]) rfl ?_
   refine ⟨?_, .inl ⟨by rw [whoInts_length]; exact HN.out, by rw [whoInts_length]⟩⟩
   exact Fr.setCell (p := ⟨w.heap.size, 2, none⟩) (Fr.setCell (p := ⟨w.heap.size, 1, none⟩) (Fr.setCell (p := ⟨w.heap.size, 0, none⟩) hf2 (fun h => absurd h (Nat.lt_irrefl _)) _) (fun h => absurd h (Nat.lt_irrefl _)) _) (fun h => absurd h (Nat.lt_irrefl _)) _
  ·have h2 : ((whoTo G D L 10).length : Int) < need := by omega
   clear hn
   go_wp2_with (first
    | (go_at_call 71; refine (fault_Of _ rfl _).mono ?_; rintro e w' ⟨rfl, rfl⟩)
    | (go_at_call 70; refine (fault_Wrap _ _ _ _ _).mono ?_; rintro e w' ⟨rfl, rfl⟩))
   have b2 := ((b1.set_ 0 (.int .i64 0)).set_ 1 (.int .i64 0)).set_ 2 (.slice none 0 0)
   have d0 := b2.cell 0
   have d1 := b2.cell 1
   have d2 := b2.cell 2
   refine bodyPost_ret (v := .tuple #[.agg #[.int .i64 0, .int .i64 0, .slice none 0 0], errV [((⟨#[109, 97, 107, 101]⟩ : ByteArray), ((whoTo G D L 10).length : Int))] 51]) (by simp [results, Tryz.results43, go_sem, d0, d1, d2]) rfl ?_
   refine ⟨?_, .inl ⟨by rw [whoInts_length]; exact HN.out, by rw [whoInts_length]⟩⟩
   exact Fr.setCell (p := ⟨w.heap.size, 2, none⟩) (Fr.setCell (p := ⟨w.heap.size, 1, none⟩) (Fr.setCell (p := ⟨w.heap.size, 0, none⟩) hf2 (fun h => absurd h (Nat.lt_irrefl _)) _) (fun h => absurd h (Nat.lt_irrefl _)) _) (fun h => absurd h (Nat.lt_irrefl _)) _
 ·have HN := Lib.hid hn
  have h1 : ¬ need < 1 := by omega
  have h2 : ¬ ((whoTo G D L 10).length : Int) < need := by omega
  obtain ⟨n, rfl⟩ : ∃ n : Nat, need = n := ⟨need.toNat, by omega⟩
  have h3 : n ≤ (whoTo G D L 10).length := by omega
  have h4 : n ≤ cap := by omega
  have h5 : ¬ cap = 0 := by omega
  have hlen : ((whoInts G D L).take n).length = n := by rw [List.length_take, whoInts_length]; omega
  clear hn
  go_wp2_with fail
  have b2 := b1.set_ 0 (.int .i64 G)
  have b3 := b2.set_ 1 (.int .i64 D)
  have b4 := b3.set_ 2 (.slice A n cap)
  have d0 := b4.cell 0
  have d1 := b4.cell 1
  have d2 := b4.cell 2
  have o4 := own_setCell (own_setCell (own_setCell hown b1 (by decide) 0 (.int .i64 G)) b2 (by decide) 1 (.int .i64 D)) b3 (by decide) 2 (.slice A n cap)
  refine bodyPost_ret (v := .tuple #[.agg #[.int .i64 G, .int .i64 D, .slice A n cap], .nilIface]) (by simp [results, Tryz.results43, go_sem, d0, d1, d2]) rfl ?_
  refine ⟨?_, .inr ⟨by rw [whoInts_length]; exact HN.out, A, cap, ?_, ?_, ?_⟩⟩
  ·exact Fr.setCell (p := ⟨w.heap.size, 2, none⟩) (Fr.setCell (p := ⟨w.heap.size, 1, none⟩) (Fr.setCell (p := ⟨w.heap.size, 0, none⟩) hf2 (fun h => absurd h (Nat.lt_irrefl _)) _) (fun h => absurd h (Nat.lt_irrefl _)) _) (fun h => absurd h (Nat.lt_irrefl _)) _
  ·rw [Int.toNat_natCast, hlen]
  ·rw [Int.toNat_natCast]
   exact (IntRow.of_own o4).take n
  ·intro b o e
   have h5 := own_ge o4 b (by rw [e]; rfl)
   have h6 : w.heap.size ≤ (w.alloc (Obj.cells #[.int .i64 0, .int .i64 0, .slice none 0 0] 41)).heap.size := by simp
   exact Nat.le_trans h6 h5
end Go.Proofs.YtmkdhhhoodeemaaGreat

/- relay: Orders, by what is told, what is ruled. -/
namespace Go.Proofs.YtmkdhhhoodeemaaGreat
open Go Go.RowKit
set_option maxRecDepth 100000 in
set_option maxHeartbeats 1000000 in
theorem orders_bad {w : World} {g m base : Nat} {v : Value} {L : List (List Int)} {gs ms : Nat} {SL : List (Int × Int)} (hb : BS w g m base v L gs ms SL) (hbase : base ≤ w.heap.size) (hL : L.length < 65536) {kind txn : Int} {yes : Bool} {ff tt : ByteArray} {epoch shard target root : Int} (hok : ¬ OkSay ⟨kind, txn, yes, ff, tt, epoch, shard, target, root⟩) {G f : Int} (hf : 0 ≤ f ∧ f ≤ 3) {sv sh lv : Value} :
  Calls Tryz.prog 15 #[.pointer (some ⟨g, 0, none⟩), sv, .int .i64 f, .agg #[.int .i64 G, .int .i64 kind, .int .i64 txn, .bool yes, .string ff, .string tt, .int .i64 epoch, .int .i64 shard, .int .i64 target, .int .i64 root], sh, lv] w (OrdStep w g m base v L gs ms SL [] []) := by
 obtain ⟨hf1, hf2⟩ := hf
 have hd1 : ¬ f < 0 := by omega
 have hd2 : ¬ 3 < f := by omega
 have hB0 := Blk.new w 25 #[.int .i64 G, .int .i64 kind, .int .i64 txn, .bool yes, .string ff, .string tt, .int .i64 epoch, .int .i64 shard, .int .i64 target, .int .i64 root]
 have hf0 : Fr (fun _ => False) w (w.alloc (Obj.cells #[.int .i64 G, .int .i64 kind, .int .i64 txn, .bool yes, .string ff, .string tt, .int .i64 epoch, .int .i64 shard, .int .i64 target, .int .i64 root] 25)) := (Fr.refl _ _).alloc _
 have hb0 := hb.keep hf0
 have HD := say_Digest1 hb0.book (Nat.le_trans hbase hf0.size) hL kind txn yes ff tt epoch shard target root
 have hso : saidO ⟨kind, txn, yes, ff, tt, epoch, shard, target, root⟩ = some ([((⟨#[115, 97, 121]⟩ : ByteArray), kind)], 111) := if_neg hok
 have hsl : sayL L ⟨kind, txn, yes, ff, tt, epoch, shard, target, root⟩ = L := if_neg hok
 obtain ⟨t, u, hu⟩ := errV_iface [((⟨#[115, 97, 121]⟩ : ByteArray), kind)] 111
 rw [hso, hsl, show errO (some ([((⟨#[115, 97, 121]⟩ : ByteArray), kind)], 111)) = .iface t u from hu] at HD
 replace HD := Lib.hid HD
 clear hok hso hsl hu
 go_enter Tryz.func15, Tryz.ntmps15
 go_upto_region 1 with fail
 generalize w.alloc (Obj.cells #[.int .i64 G, .int .i64 kind, .int .i64 txn, .bool yes, .string ff, .string tt, .int .i64 epoch, .int .i64 shard, .int .i64 target, .int .i64 root] 25) = w0 at *
 have k0 := hB0.cell 0
 have k1 := hB0.cell 1
 have k2 := hB0.cell 2
 have k3 := hB0.cell 3
 have k4 := hB0.cell 4
 have k5 := hB0.cell 5
 have k6 := hB0.cell 6
 have k7 := hB0.cell 7
 have k8 := hB0.cell 8
 have k9 := hB0.cell 9
 go_wp2_with (go_at_call 42; refine HD.out.mono ?_; rintro e w1 ⟨v1, rfl, hb1, hf01, hk1⟩)
 have hs1 := hb0.bookStep hb1 hf01
 go_ret
 exact ⟨_, v1, rfl, TasksAt.nil _ _ _, hs1, (hf0.mono (fun _ _ h => h.elim)).trans hf01 (fun _ _ h => h), fun k hk => (hk1 k hk).imp_right (Nat.le_trans hf0.size)⟩
set_option maxRecDepth 100000 in
set_option maxHeartbeats 2000000 in
theorem orders_told {w : World} {g m base : Nat} {v : Value} {L : List (List Int)} {gs ms : Nat} {SL : List (Int × Int)} (hb : BS w g m base v L gs ms SL) (hbase : base ≤ w.heap.size) (hL : L.length < 65536) {kind txn : Int} {yes : Bool} {ff tt : ByteArray} {epoch shard target root : Int} (hok : OkSay ⟨kind, txn, yes, ff, tt, epoch, shard, target, root⟩) {G f : Int} (hf : 0 ≤ f ∧ f ≤ 3) (hmany : ¬ ((whoInts G (sayI L ⟨kind, txn, yes, ff, tt, epoch, shard, target, root⟩) SL).length : Int) < 2 * f + 1) {sh lv : Value} {xs : List Int} (hxs : (whoInts G (sayI L ⟨kind, txn, yes, ff, tt, epoch, shard, target, root⟩) SL).take (2 * f + 1).toNat = xs) (hxl : xs.length ≤ 1024) (hget : getOk (num8 G ++ num8 (sayI L ⟨kind, txn, yes, ff, tt, epoch, shard, target, root⟩) ++ numsB xs)) (hG0 : (G == 0) = false) {L2 : List (List Int)} {gg bb : List Int} (hR : ∀ (w4 : World) (bC : Nat) (A : Option Addr) (cap : Nat) (v1 : Value), BookAt w4 g m base v1 (sayL L ⟨kind, txn, yes, ff, tt, epoch, shard, target, root⟩) → IntRow w4 bC A xs → bC ≤ w4.heap.size → Fr (fun k => k = g ∨ k = m ∨ v.ownBlock = some k) w w4 → (∀ k, v1.ownBlock = some k → v.ownBlock = some k ∨ w.heap.size ≤ k) → (∀ b o, A = some ⟨b, o, none⟩ → ¬ (b = g ∨ b = m ∨ v1.ownBlock = some b)) → Calls Tryz.prog 45 #[.pointer (some ⟨g, 0, none⟩), .agg #[.int .i64 0, .int .i64 0, .int .i64 0, .slice none 0 0, .slice none 0 0, .int .i64 kind, .int .i64 txn, .bool yes, .string ff, .string tt, .int .i64 epoch, .int .i64 shard, .int .i64 target, .int .i64 root, .int .i64 G, .int .i64 (sayI L ⟨kind, txn, yes, ff, tt, epoch, shard, target, root⟩), .slice A xs.length cap, .int .i64 0, .int .i64 0, .slice none 0 0, .slice none 0 0], .int .i64 G, lv] w4 (RelStep w4 g m base v1 L2 gg bb)) :
  Calls Tryz.prog 15 #[.pointer (some ⟨g, 0, none⟩), .pointer (some ⟨gs, 0, none⟩), .int .i64 f, .agg #[.int .i64 G, .int .i64 kind, .int .i64 txn, .bool yes, .string ff, .string tt, .int .i64 epoch, .int .i64 shard, .int .i64 target, .int .i64 root], sh, lv] w (OrdStep w g m base v L2 gs ms SL gg bb) := by
 obtain ⟨hf1, hf2⟩ := hf
 have hd1 : ¬ f < 0 := by omega
 have hd2 : ¬ 3 < f := by omega
 have hB0 := Blk.new w 25 #[.int .i64 G, .int .i64 kind, .int .i64 txn, .bool yes, .string ff, .string tt, .int .i64 epoch, .int .i64 shard, .int .i64 target, .int .i64 root]
 have hf0 : Fr (fun _ => False) w (w.alloc (Obj.cells #[.int .i64 G, .int .i64 kind, .int .i64 txn, .bool yes, .string ff, .string tt, .int .i64 epoch, .int .i64 shard, .int .i64 target, .int .i64 root] 25)) := (Fr.refl _ _).alloc _
 have hb0 := hb.keep hf0
 have HD := Lib.hid (say_Digest1 hb0.book (Nat.le_trans hbase hf0.size) hL kind txn yes ff tt epoch shard target root)
 have hso : saidO ⟨kind, txn, yes, ff, tt, epoch, shard, target, root⟩ = none := if_pos hok
 rw [hso, show errO none = .nilIface from rfl] at HD
 obtain ⟨D, hD⟩ : ∃ D, Hid (sayI L ⟨kind, txn, yes, ff, tt, epoch, shard, target, root⟩ = D) := ⟨_, rfl⟩
 rw [hD.out] at HD hmany hxs hget hR
 have HR := Lib.hid hR
 clear hR
 have HF := Lib.hid hmany
 have HXS := Lib.hid hxs
 have HXL := Lib.hid hxl
 have HG := Lib.hid hget
 have HOK := Lib.hid hok
 clear hmany hok hso hxs hget hxl
 go_enter Tryz.func15, Tryz.ntmps15
 go_upto_region 1 with fail
 generalize w.alloc (Obj.cells #[.int .i64 G, .int .i64 kind, .int .i64 txn, .bool yes, .string ff, .string tt, .int .i64 epoch, .int .i64 shard, .int .i64 target, .int .i64 root] 25) = w0 at *
 have k0 := hB0.cell 0
 have k1 := hB0.cell 1
 have k2 := hB0.cell 2
 have k3 := hB0.cell 3
 have k4 := hB0.cell 4
 have k5 := hB0.cell 5
 have k6 := hB0.cell 6
 have k7 := hB0.cell 7
 have k8 := hB0.cell 8
 have k9 := hB0.cell 9
 go_upto_region 4 with (go_at_call 42; refine HD.out.mono ?_; rintro e w1 ⟨v1, rfl, hb1, hf01, hk1⟩)
 have hB1 := hb0.bookFr hB0 (by decide) (by decide) (hf01.mono (fun _ _ h => h.elim .inl (fun h => .inr (h.elim .inl (fun h => .inr (.inl h))))))
 have hs1 := hb0.bookStep hb1 hf01
 have k0 := hB1.cell 0
 have k1 := hB1.cell 1
 have k2 := hB1.cell 2
 have k3 := hB1.cell 3
 have k4 := hB1.cell 4
 have k5 := hB1.cell 5
 have k6 := hB1.cell 6
 have k7 := hB1.cell 7
 have k8 := hB1.cell 8
 have k9 := hB1.cell 9
 have HC : Hid (Calls Tryz.prog 43 #[.pointer (some ⟨gs, 0, none⟩), .int .i64 G, .int .i64 D, .int .i64 (2 * f + 1)] w1 fun e w' => ∃ A cap, e = .returned (.tuple #[.agg #[.int .i64 G, .int .i64 D, .slice A xs.length cap], .nilIface]) ∧ IntRow w' w'.heap.size A xs ∧ Fr (fun _ => False) w1 w' ∧ ∀ b o, A = some ⟨b, o, none⟩ → w1.heap.size ≤ b) := by
  refine (cert_MakeF hs1.seals G D (2 * f + 1)).mono ?_
  rintro e w2 ⟨hf12, ⟨hno, _⟩ | ⟨_, A, cap, he, hr, hnew⟩⟩
  ·exact absurd hno (by have := HF.out; omega)
  ·rw [HXS.out] at he hr
   exact ⟨A, cap, he, hr, hf12, hnew⟩
 clear hb0 hB0 HD
 go_upto_region 9 with (go_at_call 43; refine HC.out.mono ?_; rintro e w2 ⟨A, cap, rfl, hr2, hf12, hnew⟩; replace hnew := Lib.hid hnew)
 have hf13 := hf12.alloc (Obj.cells #[.int .i64 G, .int .i64 D, .slice A xs.length cap] 41)
 have hB3 := (hB1.fr hf12 id).alloc (Obj.cells #[.int .i64 G, .int .i64 D, .slice A xs.length cap] 41)
 have hC3 := Blk.new w2 41 #[.int .i64 G, .int .i64 D, .slice A xs.length cap]
 have hr3 := hr2.fr ((Fr.refl (fun _ => False) w2).alloc (Obj.cells #[.int .i64 G, .int .i64 D, .slice A xs.length cap] 41)) (fun _ _ => id)
 have hz3 : w2.heap.size ≤ (w2.alloc (Obj.cells #[.int .i64 G, .int .i64 D, .slice A xs.length cap] 41)).heap.size := by simp
 generalize w2.alloc (Obj.cells #[.int .i64 G, .int .i64 D, .slice A xs.length cap] 41) = w3 at *
 clear hB1 k0 k1 k2 k3 k4 k5 k6 k7 k8 k9
 have k0 := hB3.cell 0
 have k1 := hB3.cell 1
 have k2 := hB3.cell 2
 have k3 := hB3.cell 3
 have k4 := hB3.cell 4
 have k5 := hB3.cell 5
 have k6 := hB3.cell 6
 have k7 := hB3.cell 7
 have k8 := hB3.cell 8
 have k9 := hB3.cell 9
 have c0 := hC3.cell 0
 have c1 := hC3.cell 1
 have c2 := hC3.cell 2
 go_upto_region 10 with (refine wpList_store_new rfl 62 (.tmp 16) (.tmp 48) rfl _ _ rfl rfl (by kernel_rfl) rfl (by simp [Value.oneCell']) ?_)
 have hO4 := Blk.new w3 62 #[.int .i64 0, .int .i64 0, .int .i64 0, .slice none 0 0, .slice none 0 0, .int .i64 kind, .int .i64 txn, .bool yes, .string ff, .string tt, .int .i64 epoch, .int .i64 shard, .int .i64 target, .int .i64 root, .int .i64 G, .int .i64 D, .slice A xs.length cap, .int .i64 0, .int .i64 0, .slice none 0 0, .slice none 0 0]
 have hB4 := hB3.alloc (Obj.cells #[.int .i64 0, .int .i64 0, .int .i64 0, .slice none 0 0, .slice none 0 0, .int .i64 kind, .int .i64 txn, .bool yes, .string ff, .string tt, .int .i64 epoch, .int .i64 shard, .int .i64 target, .int .i64 root, .int .i64 G, .int .i64 D, .slice A xs.length cap, .int .i64 0, .int .i64 0, .slice none 0 0, .slice none 0 0] 62)
 have hf34 : Fr (fun _ => False) w3 (w3.alloc (Obj.cells #[.int .i64 0, .int .i64 0, .int .i64 0, .slice none 0 0, .slice none 0 0, .int .i64 kind, .int .i64 txn, .bool yes, .string ff, .string tt, .int .i64 epoch, .int .i64 shard, .int .i64 target, .int .i64 root, .int .i64 G, .int .i64 D, .slice A xs.length cap, .int .i64 0, .int .i64 0, .slice none 0 0, .slice none 0 0] 62)) := (Fr.refl _ _).alloc _
 have hr4 := hr3.fr hf34 (fun _ _ => id)
 have hz4 : w2.heap.size ≤ (w3.alloc (Obj.cells #[.int .i64 0, .int .i64 0, .int .i64 0, .slice none 0 0, .slice none 0 0, .int .i64 kind, .int .i64 txn, .bool yes, .string ff, .string tt, .int .i64 epoch, .int .i64 shard, .int .i64 target, .int .i64 root, .int .i64 G, .int .i64 D, .slice A xs.length cap, .int .i64 0, .int .i64 0, .slice none 0 0, .slice none 0 0] 62)).heap.size := Nat.le_trans hz3 hf34.size
 generalize w3.alloc (Obj.cells #[.int .i64 0, .int .i64 0, .int .i64 0, .slice none 0 0, .slice none 0 0, .int .i64 kind, .int .i64 txn, .bool yes, .string ff, .string tt, .int .i64 epoch, .int .i64 shard, .int .i64 target, .int .i64 root, .int .i64 G, .int .i64 D, .slice A xs.length cap, .int .i64 0, .int .i64 0, .slice none 0 0, .slice none 0 0] 62) = w4 at *
 clear k0 k1 k2 k3 k4 k5 k6 k7 k8 k9 c0 c1 c2 hC3
 have k0 := hB4.cell 0
 have hf14 := hf13.then_ hf34
 have hs4 := hs1.keep hf14
 have hff4 := ((hf0.mono (fun _ _ h => h.elim)).trans hf01 (fun _ _ h => h)).then_ hf14
 have hk4 : ∀ k, v1.ownBlock = some k → v.ownBlock = some k ∨ w.heap.size ≤ k := fun k hk => (hk1 k hk).imp_right (Nat.le_trans hf0.size)
 have HT := HR.out w4 w4.heap.size A cap v1 hs4.book (fun k x hx => by obtain ⟨b, o, e, _, hc⟩ := hr4 k x hx; exact ⟨b, o, e, World.block_lt_of_cell? w4 _ hc, hc⟩) (Nat.le_refl _) hff4 hk4 (fun b o e h => by
  have h1 := hnew.out b o e
  rcases h with h | h | h
  ·have := hs1.book.blk.lt; omega
  ·obtain ⟨⟨es, cl, h3, _⟩, _⟩ := hs1.book.map; have := lt_of_heap h3; omega
  ·obtain ⟨cs, hB⟩ := own_cells hs1.book.own h; have := hB.lt; omega)
 have HT := Lib.hid HT
 clear hr4 hr3 hr2
 go_wp2_with (first
  | (refine wpList_load_row rfl 62 _ rfl _ rfl _ _ (0, 0) _ hO4 Tryz.underlying62 rfl (by kernel_rfl) ?_)
  | (go_at_call 45; refine HT.out.mono ?_; rintro e w5 ⟨tv, v5, rfl, htv, hb5, hf45, hk5⟩))
 go_ret
 refine ⟨tv, v5, rfl, htv.base_ hff4.size, hs4.bookStep hb5 hf45, hff4.trans hf45 (fun k hk e => ?_), fun k hk => ?_⟩
 ·rcases e with e | e | e
  ·exact .inl e
  ·exact .inr (.inl e)
  ·exact (hk4 k e).elim (fun e => .inr (.inr e)) (fun e => absurd hk (by omega))
 ·exact (hk5 k hk).elim (fun e => hk4 k e) (fun e => .inr (Nat.le_trans hff4.size e))
set_option maxRecDepth 100000 in
set_option maxHeartbeats 2000000 in
theorem orders_ruled {w : World} {g m base : Nat} {v : Value} {L : List (List Int)} {gs ms : Nat} {SL : List (Int × Int)} (hb : BS w g m base v L gs ms SL) (hbase : base ≤ w.heap.size) (hL : L.length < 65536) {kind txn : Int} {yes : Bool} {ff tt : ByteArray} {epoch shard target root : Int} (hok : OkSay ⟨kind, txn, yes, ff, tt, epoch, shard, target, root⟩) {G f : Int} (hf : 0 ≤ f ∧ f ≤ 3) (hmany : ¬ ((whoInts G (sayI L ⟨kind, txn, yes, ff, tt, epoch, shard, target, root⟩) SL).length : Int) < 2 * f + 1) {sh lv : Value} {xs : List Int} (hxs : (whoInts G (sayI L ⟨kind, txn, yes, ff, tt, epoch, shard, target, root⟩) SL).take (2 * f + 1).toNat = xs) (hxl : xs.length ≤ 1024) (hget : getOk (num8 G ++ num8 (sayI L ⟨kind, txn, yes, ff, tt, epoch, shard, target, root⟩) ++ numsB xs)) (hG0 : (G == 0) = true) {L2 : List (List Int)} {gg bb : List Int} (hR : ∀ (w4 : World) (bC : Nat) (A : Option Addr) (cap : Nat) (v1 : Value), BookAt w4 g m base v1 (sayL L ⟨kind, txn, yes, ff, tt, epoch, shard, target, root⟩) → IntRow w4 bC A xs → bC ≤ w4.heap.size → Fr (fun k => k = g ∨ k = m ∨ v.ownBlock = some k) w w4 → (∀ k, v1.ownBlock = some k → v.ownBlock = some k ∨ w.heap.size ≤ k) → (∀ b o, A = some ⟨b, o, none⟩ → ¬ (b = g ∨ b = m ∨ v1.ownBlock = some b)) → Calls Tryz.prog 44 #[.pointer (some ⟨g, 0, none⟩), .agg #[.int .i64 0, .int .i64 0, .int .i64 0, .slice none 0 0, .slice none 0 0, .int .i64 kind, .int .i64 txn, .bool yes, .string ff, .string tt, .int .i64 epoch, .int .i64 shard, .int .i64 target, .int .i64 root, .int .i64 G, .int .i64 (sayI L ⟨kind, txn, yes, ff, tt, epoch, shard, target, root⟩), .slice A xs.length cap, .int .i64 0, .int .i64 0, .slice none 0 0, .slice none 0 0], sh] w4 (RelStep w4 g m base v1 L2 gg bb)) :
  Calls Tryz.prog 15 #[.pointer (some ⟨g, 0, none⟩), .pointer (some ⟨gs, 0, none⟩), .int .i64 f, .agg #[.int .i64 G, .int .i64 kind, .int .i64 txn, .bool yes, .string ff, .string tt, .int .i64 epoch, .int .i64 shard, .int .i64 target, .int .i64 root], sh, lv] w (OrdStep w g m base v L2 gs ms SL gg bb) := by
 obtain ⟨hf1, hf2⟩ := hf
 have hd1 : ¬ f < 0 := by omega
 have hd2 : ¬ 3 < f := by omega
 have hB0 := Blk.new w 25 #[.int .i64 G, .int .i64 kind, .int .i64 txn, .bool yes, .string ff, .string tt, .int .i64 epoch, .int .i64 shard, .int .i64 target, .int .i64 root]
 have hf0 : Fr (fun _ => False) w (w.alloc (Obj.cells #[.int .i64 G, .int .i64 kind, .int .i64 txn, .bool yes, .string ff, .string tt, .int .i64 epoch, .int .i64 shard, .int .i64 target, .int .i64 root] 25)) := (Fr.refl _ _).alloc _
 have hb0 := hb.keep hf0
 have HD := Lib.hid (say_Digest1 hb0.book (Nat.le_trans hbase hf0.size) hL kind txn yes ff tt epoch shard target root)
 have hso : saidO ⟨kind, txn, yes, ff, tt, epoch, shard, target, root⟩ = none := if_pos hok
 rw [hso, show errO none = .nilIface from rfl] at HD
 obtain ⟨D, hD⟩ : ∃ D, Hid (sayI L ⟨kind, txn, yes, ff, tt, epoch, shard, target, root⟩ = D) := ⟨_, rfl⟩
 rw [hD.out] at HD hmany hxs hget hR
 have HR := Lib.hid hR
 clear hR
 have HF := Lib.hid hmany
 have HXS := Lib.hid hxs
 have HXL := Lib.hid hxl
 have HG := Lib.hid hget
 have HOK := Lib.hid hok
 clear hmany hok hso hxs hget hxl
 go_enter Tryz.func15, Tryz.ntmps15
 go_upto_region 1 with fail
 generalize w.alloc (Obj.cells #[.int .i64 G, .int .i64 kind, .int .i64 txn, .bool yes, .string ff, .string tt, .int .i64 epoch, .int .i64 shard, .int .i64 target, .int .i64 root] 25) = w0 at *
 have k0 := hB0.cell 0
 have k1 := hB0.cell 1
 have k2 := hB0.cell 2
 have k3 := hB0.cell 3
 have k4 := hB0.cell 4
 have k5 := hB0.cell 5
 have k6 := hB0.cell 6
 have k7 := hB0.cell 7
 have k8 := hB0.cell 8
 have k9 := hB0.cell 9
 go_upto_region 4 with (go_at_call 42; refine HD.out.mono ?_; rintro e w1 ⟨v1, rfl, hb1, hf01, hk1⟩)
 have hB1 := hb0.bookFr hB0 (by decide) (by decide) (hf01.mono (fun _ _ h => h.elim .inl (fun h => .inr (h.elim .inl (fun h => .inr (.inl h))))))
 have hs1 := hb0.bookStep hb1 hf01
 have k0 := hB1.cell 0
 have k1 := hB1.cell 1
 have k2 := hB1.cell 2
 have k3 := hB1.cell 3
 have k4 := hB1.cell 4
 have k5 := hB1.cell 5
 have k6 := hB1.cell 6
 have k7 := hB1.cell 7
 have k8 := hB1.cell 8
 have k9 := hB1.cell 9
 have HC : Hid (Calls Tryz.prog 43 #[.pointer (some ⟨gs, 0, none⟩), .int .i64 G, .int .i64 D, .int .i64 (2 * f + 1)] w1 fun e w' => ∃ A cap, e = .returned (.tuple #[.agg #[.int .i64 G, .int .i64 D, .slice A xs.length cap], .nilIface]) ∧ IntRow w' w'.heap.size A xs ∧ Fr (fun _ => False) w1 w' ∧ ∀ b o, A = some ⟨b, o, none⟩ → w1.heap.size ≤ b) := by
  refine (cert_MakeF hs1.seals G D (2 * f + 1)).mono ?_
  rintro e w2 ⟨hf12, ⟨hno, _⟩ | ⟨_, A, cap, he, hr, hnew⟩⟩
  ·exact absurd hno (by have := HF.out; omega)
  ·rw [HXS.out] at he hr
   exact ⟨A, cap, he, hr, hf12, hnew⟩
 clear hb0 hB0 HD
 go_upto_region 9 with (go_at_call 43; refine HC.out.mono ?_; rintro e w2 ⟨A, cap, rfl, hr2, hf12, hnew⟩; replace hnew := Lib.hid hnew)
 have hf13 := hf12.alloc (Obj.cells #[.int .i64 G, .int .i64 D, .slice A xs.length cap] 41)
 have hB3 := (hB1.fr hf12 id).alloc (Obj.cells #[.int .i64 G, .int .i64 D, .slice A xs.length cap] 41)
 have hC3 := Blk.new w2 41 #[.int .i64 G, .int .i64 D, .slice A xs.length cap]
 have hr3 := hr2.fr ((Fr.refl (fun _ => False) w2).alloc (Obj.cells #[.int .i64 G, .int .i64 D, .slice A xs.length cap] 41)) (fun _ _ => id)
 have hz3 : w2.heap.size ≤ (w2.alloc (Obj.cells #[.int .i64 G, .int .i64 D, .slice A xs.length cap] 41)).heap.size := by simp
 generalize w2.alloc (Obj.cells #[.int .i64 G, .int .i64 D, .slice A xs.length cap] 41) = w3 at *
 clear hB1 k0 k1 k2 k3 k4 k5 k6 k7 k8 k9
 have k0 := hB3.cell 0
 have k1 := hB3.cell 1
 have k2 := hB3.cell 2
 have k3 := hB3.cell 3
 have k4 := hB3.cell 4
 have k5 := hB3.cell 5
 have k6 := hB3.cell 6
 have k7 := hB3.cell 7
 have k8 := hB3.cell 8
 have k9 := hB3.cell 9
 have c0 := hC3.cell 0
 have c1 := hC3.cell 1
 have c2 := hC3.cell 2
 go_upto_region 10 with (refine wpList_store_new rfl 62 (.tmp 16) (.tmp 48) rfl _ _ rfl rfl (by kernel_rfl) rfl (by simp [Value.oneCell']) ?_)
 have hO4 := Blk.new w3 62 #[.int .i64 0, .int .i64 0, .int .i64 0, .slice none 0 0, .slice none 0 0, .int .i64 kind, .int .i64 txn, .bool yes, .string ff, .string tt, .int .i64 epoch, .int .i64 shard, .int .i64 target, .int .i64 root, .int .i64 G, .int .i64 D, .slice A xs.length cap, .int .i64 0, .int .i64 0, .slice none 0 0, .slice none 0 0]
 have hB4 := hB3.alloc (Obj.cells #[.int .i64 0, .int .i64 0, .int .i64 0, .slice none 0 0, .slice none 0 0, .int .i64 kind, .int .i64 txn, .bool yes, .string ff, .string tt, .int .i64 epoch, .int .i64 shard, .int .i64 target, .int .i64 root, .int .i64 G, .int .i64 D, .slice A xs.length cap, .int .i64 0, .int .i64 0, .slice none 0 0, .slice none 0 0] 62)
 have hf34 : Fr (fun _ => False) w3 (w3.alloc (Obj.cells #[.int .i64 0, .int .i64 0, .int .i64 0, .slice none 0 0, .slice none 0 0, .int .i64 kind, .int .i64 txn, .bool yes, .string ff, .string tt, .int .i64 epoch, .int .i64 shard, .int .i64 target, .int .i64 root, .int .i64 G, .int .i64 D, .slice A xs.length cap, .int .i64 0, .int .i64 0, .slice none 0 0, .slice none 0 0] 62)) := (Fr.refl _ _).alloc _
 have hr4 := hr3.fr hf34 (fun _ _ => id)
 have hz4 : w2.heap.size ≤ (w3.alloc (Obj.cells #[.int .i64 0, .int .i64 0, .int .i64 0, .slice none 0 0, .slice none 0 0, .int .i64 kind, .int .i64 txn, .bool yes, .string ff, .string tt, .int .i64 epoch, .int .i64 shard, .int .i64 target, .int .i64 root, .int .i64 G, .int .i64 D, .slice A xs.length cap, .int .i64 0, .int .i64 0, .slice none 0 0, .slice none 0 0] 62)).heap.size := Nat.le_trans hz3 hf34.size
 generalize w3.alloc (Obj.cells #[.int .i64 0, .int .i64 0, .int .i64 0, .slice none 0 0, .slice none 0 0, .int .i64 kind, .int .i64 txn, .bool yes, .string ff, .string tt, .int .i64 epoch, .int .i64 shard, .int .i64 target, .int .i64 root, .int .i64 G, .int .i64 D, .slice A xs.length cap, .int .i64 0, .int .i64 0, .slice none 0 0, .slice none 0 0] 62) = w4 at *
 clear k0 k1 k2 k3 k4 k5 k6 k7 k8 k9 c0 c1 c2 hC3
 have k0 := hB4.cell 0
 have hf14 := hf13.then_ hf34
 have hs4 := hs1.keep hf14
 have hff4 := ((hf0.mono (fun _ _ h => h.elim)).trans hf01 (fun _ _ h => h)).then_ hf14
 have hk4 : ∀ k, v1.ownBlock = some k → v.ownBlock = some k ∨ w.heap.size ≤ k := fun k hk => (hk1 k hk).imp_right (Nat.le_trans hf0.size)
 have HT := HR.out w4 w4.heap.size A cap v1 hs4.book (fun k x hx => by obtain ⟨b, o, e, _, hc⟩ := hr4 k x hx; exact ⟨b, o, e, World.block_lt_of_cell? w4 _ hc, hc⟩) (Nat.le_refl _) hff4 hk4 (fun b o e h => by
  have h1 := hnew.out b o e
  rcases h with h | h | h
  ·have := hs1.book.blk.lt; omega
  ·obtain ⟨⟨es, cl, h3, _⟩, _⟩ := hs1.book.map; have := lt_of_heap h3; omega
  ·obtain ⟨cs, hB⟩ := own_cells hs1.book.own h; have := hB.lt; omega)
 have HT := Lib.hid HT
 clear hr4 hr3 hr2
 go_wp2_with (first
  | (refine wpList_load_row rfl 62 _ rfl _ rfl _ _ (0, 0) _ hO4 Tryz.underlying62 rfl (by kernel_rfl) ?_)
  | (go_at_call 44; refine HT.out.mono ?_; rintro e w5 ⟨tv, v5, rfl, htv, hb5, hf45, hk5⟩))
 go_ret
 refine ⟨tv, v5, rfl, htv.base_ hff4.size, hs4.bookStep hb5 hf45, hff4.trans hf45 (fun k hk e => ?_), fun k hk => ?_⟩
 ·rcases e with e | e | e
  ·exact .inl e
  ·exact .inr (.inl e)
  ·exact (hk4 k e).elim (fun e => .inr (.inr e)) (fun e => absurd hk (by omega))
 ·exact (hk5 k hk).elim (fun e => hk4 k e) (fun e => .inr (Nat.le_trans hff4.size e))
end Go.Proofs.YtmkdhhhoodeemaaGreat

/- relay: Orders of whatever a group said. -/
namespace Go.Proofs.YtmkdhhhoodeemaaGreat
open Go Go.RowKit
theorem who_mem {G D : Int} {L : List (Int × Int)} {x : Int} (h : x ∈ whoInts G D L) : 0 ≤ x ∧ 0 ≤ memberOf G x := by
 obtain ⟨i, hi, rfl⟩ := List.mem_map.1 h
 have := (List.mem_filter.1 hi).2
 simp only [decide_eq_true_eq] at this
 exact ⟨by omega, this.1⟩
theorem member_ge {G x : Int} (h : 0 ≤ memberOf G x) : (0 ≤ G ∧ G < 8) ∧ (0 ≤ x ∧ x < 10) := by
 unfold memberOf at h
 split at h
 ·omega
 ·omega
theorem GoodL.book {L : List (List Int)} (h : GoodL L) (l : List Ent) : GoodL (bookOf L l) := by
 unfold bookOf
 split
 ·exact h.dig (by decide)
 ·exact h
theorem okSay_parts {kind txn : Int} {yes : Bool} {ff tt : ByteArray} {epoch shard target root : Int} (h : OkSay ⟨kind, txn, yes, ff, tt, epoch, shard, target, root⟩) : (1 ≤ kind ∧ kind ≤ 9) ∧ (0 ≤ shard ∧ shard ≤ 3) ∧ (0 ≤ target ∧ target ≤ 3) := by
 obtain ⟨a0, a1, a2, a3, a4, a5, a6, a7, a8, a9, a10, a11, a12, a13⟩ := h
 dsimp only at a0 a1 a10 a11 a12 a13
 omega
end Go.Proofs.YtmkdhhhoodeemaaGreat

/- relay: Orders: what it is. -/
namespace Go.Proofs.YtmkdhhhoodeemaaGreat
open Go Go.RowKit
/-- An order for groups. -/
structure OrdD where
 gg : List Int
 kind : Int
 t0 : List Int
 own : List Ent
 Bs : List Int
open Classical in
noncomputable def ordF (L1 : List (List Int)) (G : Int) (s : SayD) (ss : List Int) (l : List Ent) : Option OrdD :=
 if G = 0 then
  if s.kind = 4 then some ⟨[s.shard + 1], 3, [], [], []⟩
  else if s.kind = 7 then some ⟨[s.shard + 1, s.target + 1], 5, [], [], []⟩
  else if s.kind = 3 then some ⟨ss.map fun x => wrap64 (x + 1), 2, [], [], []⟩
  else if s.kind = 1 then (if IsTxn (L1.getD s.txn.toNat []) then some ⟨[s.shard + 1], 1, L1.getD s.txn.toNat [], [], []⟩ else none)
  else none
 else if s.kind = 2 then (if G = s.shard + 1 then some ⟨[0], 7, [], [], []⟩ else none)
 else if s.kind = 6 then (if G = s.target + 1 then some ⟨[0], 10, [], [], []⟩ else none)
 else if s.kind = 5 then (if G = s.shard + 1 ∧ risesE (keepE s.from_ s.to_ l) = true then some ⟨[s.target + 1], 4, [], keepE s.from_ s.to_ l, besideOf L1 (keepE s.from_ s.to_ l)⟩ else none)
 else none
def ordG : Option OrdD → List Int
 | none => []
 | some o => o.gg
def ordBB (t1 t2 : List Int) : Option OrdD → List Int
 | none => []
 | some o => ordB o.kind o.t0 t1 t2 o.own.length 0 o.own o.Bs
def ordL (L1 : List (List Int)) : Option OrdD → List (List Int)
 | none => L1
 | some o => if o.kind = 4 then bookOf L1 o.own else L1
theorem isTxn_nil : ¬ IsTxn [] := by
 rintro ⟨c, n, R, W, h, e⟩
 have h8 : 8 ≤ (txnB c n R W).length := by
  unfold txnB
  simp only [List.length_append, num8_length]
  omega
 rw [← e] at h8
 exact absurd h8 (by decide)
theorem ordBB_zero (gg : List Int) (k : Int) (t0 t1 t2 : List Int) : ordBB t1 t2 (some ⟨gg, k, t0, [], []⟩) = orderB k t0 t1 t2 := (orderB_ordB k t0 t1 t2).symm
theorem isTxn_get {L : List (List Int)} {k : Nat} (h : IsTxn (L.getD k [])) : L[k]? = some (L.getD k []) := by
 cases e : L[k]? with
 | none =>
  rw [List.getD_eq_getElem?_getD, e] at h
  exact absurd h isTxn_nil
 | some b => rw [List.getD_eq_getElem?_getD, e]; rfl
/-- Who signed enough. -/
def ordX (G D f : Int) (SL : List (Int × Int)) : List Int := (whoInts G D SL).take (2 * f + 1).toNat
open Classical in
noncomputable def ordA (L : List (List Int)) (SL : List (Int × Int)) (f G : Int) (s : SayD) (ss : List Int) (l : List Ent) : Option OrdD :=
 if OkSay s ∧ ¬ ((whoInts G (sayI L s) SL).length : Int) < 2 * f + 1 then ordF (sayL L s) G s ss l else none
theorem get_who_f {G D f : Int} {SL : List (Int × Int)} (hf : 0 ≤ f ∧ f ≤ 3) (hn : ¬ ((whoInts G D SL).length : Int) < 2 * f + 1) (hD : 0 ≤ D ∧ D < 2147483648) : (0 ≤ G ∧ G < 8) ∧ (ordX G D f SL).length ≤ 1024 ∧ getOk (num8 G ++ num8 D ++ numsB (ordX G D f SL)) := by
 unfold ordX
 have hm : ∀ y ∈ (whoInts G D SL).take (2 * f + 1).toNat, (0 ≤ G ∧ G < 8) ∧ (0 ≤ y ∧ y < 10) := fun y hy => member_ge (who_mem (List.mem_of_mem_take hy)).2
 have hG : 0 ≤ G ∧ G < 8 := by
  obtain ⟨y, hy⟩ : ∃ y, y ∈ whoInts G D SL := by
   cases h : whoInts G D SL with
   | nil => rw [h] at hn; simp at hn; omega
   | cons a l => exact ⟨a, by simp⟩
  exact (member_ge (who_mem hy).2).1
 have hl : ((whoInts G D SL).take (2 * f + 1).toNat).length ≤ 1024 := by rw [List.length_take]; omega
 refine ⟨hG, hl, ?_⟩
 exact (put_get hl ⟨by omega, by omega⟩ ⟨by omega, by omega⟩ (fun y hy => by have := (hm y hy).2; unfold Wf64; omega)).1.2 ⟨⟨by omega, by omega, by omega, by omega⟩, fun y hy => by have := (hm y hy).2; omega⟩
set_option maxHeartbeats 1000000 in
theorem orders_sem {w : World} {g m base : Nat} {v : Value} {L : List (List Int)} {gs ms : Nat} {SL : List (Int × Int)} (hb : BS w g m base v L gs ms SL) (hbase : base ≤ w.heap.size) (hL : L.length < 60000) (hgl : GoodL L) {f : Int} (hf : 0 ≤ f ∧ f ≤ 3) {kind txn : Int} {yes : Bool} {ff tt : ByteArray} {epoch shard target root : Int} {G : Int}
  {bS : Nat} {SA : Option Addr} {sc : Nat} {ss : List Int} (hSh : IntRow w bS SA ss) (hbS : bS ≤ w.heap.size) (hSA : ∀ b, b < bS → ¬ (b = g ∨ b = m ∨ v.ownBlock = some b)) (hsl : ss.length ≤ 1000)
  {FE : Nat → Prop} {LA : Option Addr} {lc : Nat} {l : List Ent} (hE : EntRow w FE LA l) (hFE : ∀ k, FE k → ¬ (k = g ∨ k = m ∨ v.ownBlock = some k)) (hll : l.length ≤ 60000) {O : Option OrdD} (hO : ordA L SL f G ⟨kind, txn, yes, ff, tt, epoch, shard, target, root⟩ ss l = O) :
  Calls Tryz.prog 15 #[.pointer (some ⟨g, 0, none⟩), .pointer (some ⟨gs, 0, none⟩), .int .i64 f, .agg #[.int .i64 G, .int .i64 kind, .int .i64 txn, .bool yes, .string ff, .string tt, .int .i64 epoch, .int .i64 shard, .int .i64 target, .int .i64 root], .slice SA ss.length sc, .slice LA l.length lc] w
   (OrdStep w g m base v (ordL (sayL L ⟨kind, txn, yes, ff, tt, epoch, shard, target, root⟩) O) gs ms SL (ordG O) (ordBB (sayB ⟨kind, txn, yes, ff, tt, epoch, shard, target, root⟩) (certB G (sayI L ⟨kind, txn, yes, ff, tt, epoch, shard, target, root⟩) (ordX G (sayI L ⟨kind, txn, yes, ff, tt, epoch, shard, target, root⟩) f SL)) O)) := by
 by_cases hnok : ¬ OkSay ⟨kind, txn, yes, ff, tt, epoch, shard, target, root⟩
 ·rw [ordA, if_neg (fun h => hnok h.1)] at hO
  subst hO
  have := orders_bad (G := G) (f := f) (sv := .pointer (some ⟨gs, 0, none⟩)) (sh := .slice SA ss.length sc) (lv := .slice LA l.length lc) hb hbase (by omega) hnok hf
  rw [show ordL (sayL L ⟨kind, txn, yes, ff, tt, epoch, shard, target, root⟩) none = L from if_neg hnok]
  exact this
 have hok : OkSay ⟨kind, txn, yes, ff, tt, epoch, shard, target, root⟩ := Decidable.of_not_not hnok
 clear hnok
 by_cases hfew : ((whoInts G (sayI L ⟨kind, txn, yes, ff, tt, epoch, shard, target, root⟩) SL).length : Int) < 2 * f + 1
 ·rw [ordA, if_neg (fun h => h.2 hfew)] at hO
  subst hO
  exact orders_few hb hbase (by omega) hok hf hfew
 rw [ordA, if_pos ⟨hok, hfew⟩] at hO
 have hD : 0 ≤ sayI L ⟨kind, txn, yes, ff, tt, epoch, shard, target, root⟩ ∧ sayI L ⟨kind, txn, yes, ff, tt, epoch, shard, target, root⟩ < 2147483648 := by
  unfold sayI
  rw [if_pos hok]
  have : digI L (sayB ⟨kind, txn, yes, ff, tt, epoch, shard, target, root⟩) ≤ L.length := by
   unfold digI
   split
   ·exact List.idxOf_le_length
   ·exact Nat.le_refl _
  omega
 obtain ⟨hGr, hxl, hget⟩ := get_who_f hf hfew hD
 obtain ⟨hkd, hshd, htg⟩ := okSay_parts hok
 obtain ⟨xs, hXS⟩ : ∃ xs, ordX G (sayI L ⟨kind, txn, yes, ff, tt, epoch, shard, target, root⟩) f SL = xs := ⟨_, rfl⟩
 rw [hXS] at hxl hget ⊢
 have hXS : (whoInts G (sayI L ⟨kind, txn, yes, ff, tt, epoch, shard, target, root⟩) SL).take ((2 * f + 1).toNat) = xs := hXS
 have hsl1 := sayL_len L ⟨kind, txn, yes, ff, tt, epoch, shard, target, root⟩
 have hgl1 := hgl.say ⟨kind, txn, yes, ff, tt, epoch, shard, target, root⟩
 have hw1 : wrap64 (shard + 1) = shard + 1 := by unfold wrap64; omega
 have hw2 : wrap64 (target + 1) = target + 1 := by unfold wrap64; omega
 unfold ordF at hO
 by_cases hG : G = 0
 ·subst hG
  rw [if_pos rfl] at hO
  by_cases hk4 : kind = 4
  ·subst hk4
   rw [if_pos (by rfl)] at hO
   subst hO
   rw [ordBB_zero]
   refine orders_ruled hb hbase (by omega) hok hf hfew hXS hxl hget (by rfl) (fun w4 bC A cap v1 hb4 hr4 hz4 hf4 _ hA4 => ?_)
   exact (ruled_freeze hok hr4 hz4 hxl hget).mono fun _ _ h => h.rel hb4
  rw [if_neg (by exact hk4)] at hO
  by_cases hk7 : kind = 7
  ·subst hk7
   rw [if_pos (by rfl)] at hO
   subst hO
   rw [ordBB_zero]
   refine orders_ruled hb hbase (by omega) hok hf hfew hXS hxl hget (by rfl) (fun w4 bC A cap v1 hb4 hr4 hz4 hf4 _ hA4 => ?_)
   exact (ruled_own hok hr4 hz4 hxl hget).mono fun _ _ h => h.rel hb4
  rw [if_neg (by exact hk7)] at hO
  by_cases hk3 : kind = 3
  ·subst hk3
   rw [if_pos (by rfl)] at hO
   subst hO
   rw [ordBB_zero]
   refine orders_ruled hb hbase (by omega) hok hf hfew hXS hxl hget (by rfl) (fun w4 bC A cap v1 hb4 hr4 hz4 hf4 _ hA4 => ?_)
   exact (ruled_decide hok hr4 hz4 hxl hget (hSh.fr hf4 hSA) (Nat.le_trans hbS hf4.size) hsl).mono fun _ _ h => h.rel hb4
  rw [if_neg (by exact hk3)] at hO
  by_cases hk1 : kind = 1
  ·subst hk1
   rw [if_pos (by rfl)] at hO
   by_cases hT : IsTxn ((sayL L ⟨1, txn, yes, ff, tt, epoch, shard, target, root⟩).getD txn.toNat [])
   ·rw [if_pos (by exact hT)] at hO
    subst hO
    have hgt := isTxn_get hT
    rw [ordBB_zero]
    refine orders_ruled hb hbase (by omega) hok hf hfew hXS hxl hget (by rfl) (fun w4 bC A cap v1 hb4 hr4 hz4 hf4 _ hA4 => ?_)
    refine (ruled_begin hok hr4 hz4 hxl hget hb4 (by omega) hgl1.2).mono ?_
    rintro e w' (⟨b, h1, h2, h3⟩ | ⟨h1, _⟩)
    ·rw [hgt] at h1
     cases h1
     exact h3.rel hb4
    ·exact absurd hT (h1 _ hgt)
   ·rw [if_neg (by exact hT)] at hO
    subst hO
    refine orders_ruled hb hbase (by omega) hok hf hfew hXS hxl hget (by rfl) (fun w4 bC A cap v1 hb4 hr4 hz4 hf4 _ hA4 => ?_)
    refine (ruled_begin hok hr4 hz4 hxl hget hb4 (by omega) hgl1.2).mono ?_
    rintro e w' (⟨b, h1, h2, h3⟩ | ⟨_, h1⟩)
    ·exact absurd (by rw [List.getD_eq_getElem?_getD, h1]; exact h2) hT
    ·exact h1.rel hb4
  rw [if_neg (by exact hk1)] at hO
  subst hO
  refine orders_ruled hb hbase (by omega) hok hf hfew hXS hxl hget (by rfl) (fun w4 bC A cap v1 hb4 hr4 hz4 hf4 _ hA4 => ?_)
  exact (ruled_none hok (beq_eq_false_iff_ne.2 hk1) (beq_eq_false_iff_ne.2 hk3) (beq_eq_false_iff_ne.2 hk4) (beq_eq_false_iff_ne.2 hk7)).mono fun _ _ h => h.rel hb4
 ·have hG0 : (G == 0) = false := beq_eq_false_iff_ne.2 hG
  rw [if_neg hG] at hO
  by_cases hk2 : kind = 2
  ·subst hk2
   rw [if_pos (by rfl)] at hO
   by_cases hfr : G = shard + 1
   ·rw [if_pos (by exact hfr)] at hO
    subst hO
    rw [ordBB_zero]
    refine orders_told hb hbase (by omega) hok hf hfew hXS hxl hget hG0 (fun w4 bC A cap v1 hb4 hr4 hz4 hf4 _ hA4 => ?_)
    exact (told_vote hok hr4 hz4 hxl hget hfr).mono fun _ _ h => h.rel hb4
   ·rw [if_neg (by exact hfr)] at hO
    subst hO
    refine orders_told hb hbase (by omega) hok hf hfew hXS hxl hget hG0 (fun w4 bC A cap v1 hb4 hr4 hz4 hf4 _ hA4 => ?_)
    exact (told_vote_no hok (beq_eq_false_iff_ne.2 hfr)).mono fun _ _ h => h.rel hb4
  rw [if_neg (by exact hk2)] at hO
  by_cases hk6 : kind = 6
  ·subst hk6
   rw [if_pos (by rfl)] at hO
   by_cases hfr : G = target + 1
   ·rw [if_pos (by exact hfr)] at hO
    subst hO
    rw [ordBB_zero]
    refine orders_told hb hbase (by omega) hok hf hfew hXS hxl hget hG0 (fun w4 bC A cap v1 hb4 hr4 hz4 hf4 _ hA4 => ?_)
    exact (told_imp hok hr4 hz4 hxl hget hfr).mono fun _ _ h => h.rel hb4
   ·rw [if_neg (by exact hfr)] at hO
    subst hO
    refine orders_told hb hbase (by omega) hok hf hfew hXS hxl hget hG0 (fun w4 bC A cap v1 hb4 hr4 hz4 hf4 _ hA4 => ?_)
    exact (told_imp_no hok (beq_eq_false_iff_ne.2 hfr)).mono fun _ _ h => h.rel hb4
  rw [if_neg (by exact hk6)] at hO
  by_cases hk5 : kind = 5
  ·subst hk5
   rw [if_pos (by rfl)] at hO
   by_cases hfr : G = shard + 1
   ·by_cases hri : risesE (keepE ff tt l) = true
    ·rw [if_pos (by exact ⟨hfr, hri⟩)] at hO
     subst hO
     refine orders_told hb hbase (by omega) hok hf hfew hXS hxl hget hG0 (fun w4 bC A cap v1 hb4 hr4 hz4 hf4 _ hA4 => ?_)
     exact told_fro hok (hE.fr hf4 hFE) hll hr4 hz4 hxl hget hb4 (Nat.le_trans hbase hf4.size) (by omega) hA4 hfr hri
    ·rw [if_neg (by exact fun h => hri h.2)] at hO
     subst hO
     refine orders_told hb hbase (by omega) hok hf hfew hXS hxl hget hG0 (fun w4 bC A cap v1 hb4 hr4 hz4 hf4 _ hA4 => ?_)
     exact (told_fro_bad hok (hE.fr hf4 hFE) hll hfr (by simpa using hri)).mono fun _ _ h => h.rel hb4
   ·rw [if_neg (by exact fun h => hfr h.1)] at hO
    subst hO
    refine orders_told hb hbase (by omega) hok hf hfew hXS hxl hget hG0 (fun w4 bC A cap v1 hb4 hr4 hz4 hf4 _ hA4 => ?_)
    exact (told_fro_no hok (hE.fr hf4 hFE) hll (beq_eq_false_iff_ne.2 hfr)).mono fun _ _ h => h.rel hb4
  rw [if_neg (by exact hk5)] at hO
  subst hO
  refine orders_told hb hbase (by omega) hok hf hfew hXS hxl hget hG0 (fun w4 bC A cap v1 hb4 hr4 hz4 hf4 _ hA4 => ?_)
  exact (told_none hok (beq_eq_false_iff_ne.2 hk2) (beq_eq_false_iff_ne.2 hk5) (beq_eq_false_iff_ne.2 hk6)).mono fun _ _ h => h.rel hb4
end Go.Proofs.YtmkdhhhoodeemaaGreat

/- cohortref05: Put and Get of a zero certificate. -/
namespace Go.Proofs.YtmkdhhhoodeemaaGreat
open Go Go.RowKit
theorem RR.far {w : World} {g b o cap : Nat} {bs : List Int} {pos : Nat} (h : RR w g b o cap bs pos) {x : Nat} {t : TypeId} {cs : Array Value} (hB : Blk w x t cs) (hne : x ≠ g) (ht : 5 ≠ t) (i : Nat) (u : Value) : RR (w.setCell ⟨x, i, none⟩ u) g b o cap bs pos :=
 h.fr ((Fr.refl (fun k => k = x) w).setCell (p := ⟨x, i, none⟩) (fun _ => rfl) u) (fun e => hne e.symm) (fun k hk e => hk.ne_blk hB ht e)
end Go.Proofs.YtmkdhhhoodeemaaGreat

/- cohortref10: Same. -/
namespace Go.Proofs.YtmkdhhhoodeemaaGreat
open Go Go.RowKit
theorem bytes_inj {a b : ByteArray} (h : a.toList = b.toList) : a = b := by
 rw [ByteArray.toList_eq, ByteArray.toList_eq] at h
 exact ByteArray.ext (Array.ext' h)
theorem take_both {α : Type} {l m : List α} {k : Nat} {x y : α} (h : l.take k = m.take k) (hx : l[k]? = some x) (hy : m[k]? = some y) (hxy : x = y) : l.take (k + 1) = m.take (k + 1) := by
 obtain ⟨h1, rfl⟩ := List.getElem?_eq_some_iff.1 hx
 obtain ⟨h2, rfl⟩ := List.getElem?_eq_some_iff.1 hy
 rw [List.take_succ_eq_append_getElem h1, List.take_succ_eq_append_getElem h2, h, hxy]
theorem same10_no {w w' : World} {P : Prop} [Decidable P] {z : Bool} (hz : Hid (decide P = z)) (h : ¬ P) (hf : Fr (fun _ => False) w w') : OkB w z (.returned (.bool false)) w' := ⟨by rw [← hz.out, decide_eq_false h], hf⟩
theorem same10_yes {w w' : World} {P : Prop} [Decidable P] {z : Bool} (hz : Hid (decide P = z)) (h : P) (hf : Fr (fun _ => False) w w') : OkB w z (.returned (.bool true)) w' := ⟨by rw [← hz.out, decide_eq_true h], hf⟩
set_option maxRecDepth 100000 in
set_option maxHeartbeats 1000000 in
theorem ref10_Same {w : World} {F : Nat → Prop} {A B A' B' : Option Addr} {cr cw cr' cw' : Nat} {c n c' n' : Int} {R R' : List (ByteArray × Int)} {W W' : List (ByteArray × ByteArray)} (hr : ReadRow w F A R) (hw : WriteRow w F B W) (hr' : ReadRow w F A' R') (hw' : WriteRow w F B' W') (lR : R.length ≤ 1000) (lW : W.length ≤ 1000) :
  Calls Tryz.prog 22 #[.agg #[.int .i64 c, .int .i64 n, .slice A R.length cr, .slice B W.length cw], .agg #[.int .i64 c', .int .i64 n', .slice A' R'.length cr', .slice B' W'.length cw']] w (OkB w (decide (c = c' ∧ n = n' ∧ R = R' ∧ W = W'))) := by
 obtain ⟨m1, hm1⟩ : ∃ x, Hid (R'.length = x) := ⟨_, rfl⟩
 obtain ⟨m2, hm2⟩ : ∃ x, Hid (W'.length = x) := ⟨_, rfl⟩
 rw [hm1.out, hm2.out]
 have hf0 : Fr (fun _ => False) w ((w.alloc (Obj.cells #[.int .i64 c, .int .i64 n, .slice A R.length cr, .slice B W.length cw] 29)).alloc (Obj.cells #[.int .i64 c', .int .i64 n', .slice A' m1 cr', .slice B' m2 cw'] 29)) := ((Fr.refl _ _).alloc _).alloc _
 have hB0 : Blk ((w.alloc (Obj.cells #[.int .i64 c, .int .i64 n, .slice A R.length cr, .slice B W.length cw] 29)).alloc (Obj.cells #[.int .i64 c', .int .i64 n', .slice A' m1 cr', .slice B' m2 cw'] 29)) w.heap.size 29 #[.int .i64 c, .int .i64 n, .slice A R.length cr, .slice B W.length cw] := (Blk.new w _ _).alloc _
 have hB1 : Blk ((w.alloc (Obj.cells #[.int .i64 c, .int .i64 n, .slice A R.length cr, .slice B W.length cw] 29)).alloc (Obj.cells #[.int .i64 c', .int .i64 n', .slice A' m1 cr', .slice B' m2 cw'] 29)) (w.heap.size + 1) 29 #[.int .i64 c', .int .i64 n', .slice A' m1 cr', .slice B' m2 cw'] := Blk.new_ _ _ _ (by simp)
 obtain ⟨z, HZ⟩ : ∃ z, Hid (decide (c = c' ∧ n = n' ∧ R = R' ∧ W = W') = z) := ⟨_, rfl⟩
 rw [HZ.out]
 have HR := Lib.hid (hr.fr hf0 (fun _ _ => id))
 have HW := Lib.hid (hw.fr hf0 (fun _ _ => id))
 have HR' := Lib.hid (hr'.fr hf0 (fun _ _ => id))
 have HW' := Lib.hid (hw'.fr hf0 (fun _ _ => id))
 clear hr hw hr' hw'
 have lR' : Hid (R.length ≤ 1000) := lR
 have lW' : Hid (W.length ≤ 1000) := lW
 by_cases pc1 : c = c'
 case neg =>
  have q : (c == c') = false := by simp [pc1]
  have HNO : Hid (¬ (c = c' ∧ n = n' ∧ R = R' ∧ W = W')) := fun e => pc1 e.1
  go_enter Tryz.func22, Tryz.ntmps22
  go_wp2_with fail
  go_ret
  exact same10_no HZ HNO.out hf0
 case pos =>
 subst pc1
 by_cases pc2 : n = n'
 case neg =>
  have q : (n == n') = false := by simp [pc2]
  have HNO : Hid (¬ (c = c ∧ n = n' ∧ R = R' ∧ W = W')) := fun e => pc2 e.2.1
  go_enter Tryz.func22, Tryz.ntmps22
  go_wp2_with fail
  go_ret
  exact same10_no HZ HNO.out hf0
 case pos =>
 subst pc2
 by_cases pc3 : R.length = m1
 case neg =>
  have q : ((R.length : Int) == (m1 : Int)) = false := by simp; omega
  have qn : ¬ (R.length : Int) = (m1 : Int) := by omega
  have HNO : Hid (¬ (c = c ∧ n = n ∧ R = R' ∧ W = W')) := fun e => pc3 (by rw [← hm1.out, e.2.2.1])
  go_enter Tryz.func22, Tryz.ntmps22
  go_wp2_with fail
  go_ret
  exact same10_no HZ HNO.out hf0
 case pos =>
 subst pc3
 have pR : Hid (R.length = R'.length) := hm1.out.symm
 by_cases pc4 : W.length = m2
 case neg =>
  have q : ((W.length : Int) == (m2 : Int)) = false := by simp; omega
  have qn : ¬ (W.length : Int) = (m2 : Int) := by omega
  have HNO : Hid (¬ (c = c ∧ n = n ∧ R = R' ∧ W = W')) := fun e => pc4 (by rw [← hm2.out, e.2.2.2])
  go_enter Tryz.func22, Tryz.ntmps22
  go_wp2_with fail
  go_ret
  exact same10_no HZ HNO.out hf0
 case pos =>
 subst pc4
 have pW : Hid (W.length = W'.length) := hm2.out.symm
 go_enter Tryz.func22, Tryz.ntmps22
 go_wp2_with fail
 generalize ((w.alloc (Obj.cells #[.int .i64 c, .int .i64 n, .slice A R.length cr, .slice B W.length cw] 29)).alloc (Obj.cells #[.int .i64 c, .int .i64 n, .slice A' R.length cr', .slice B' W.length cw'] 29)) = w0 at *
 generalize w.heap.size = g0 at *
 go_loopw [5] (fun i wr => ∃ k : Nat, k ≤ R.length ∧ i = .int .i64 k ∧ R.take k = R'.take k ∧ Fr (fun _ => False) w0 wr) (fun i _ => R.length - (intOf i).toNat)
 case atStart => exact ⟨0, by omega, rfl, by simp, Fr.refl _ w0⟩
 case round =>
  obtain ⟨k, hk, rfl, heq, hf⟩ := hrel
  have hC0 := hB0.fr hf id
  have hC1 := hB1.fr hf id
  have c2 := hC0.cell 2
  have e2 := hC1.cell 2
  by_cases hlt : k < R.length
  ·have hlt1 : (k : Int) < (R.length : Int) := by omega
   have hlt2 : k < R'.length := by have := pR.out; omega
   obtain ⟨x, hx⟩ : ∃ x, R[k]? = some x := ⟨R[k], List.getElem?_eq_getElem hlt⟩
   obtain ⟨y, hy⟩ : ∃ y, R'[k]? = some y := ⟨R'[k]'hlt2, List.getElem?_eq_getElem hlt2⟩
   obtain ⟨b, o, rfl, _, a0, a1⟩ := HR.out k x hx
   obtain ⟨b', o', rfl, _, a0', a1'⟩ := HR'.out k y hy
   have d0 := hf.cell_some a0 id
   have d1 := hf.cell_some a1 id
   have d0' := hf.cell_some a0' id
   have d1' := hf.cell_some a1' id
   have HX := Lib.hid hx
   have HY := Lib.hid hy
   have HE := Lib.hid heq
   clear a0 a1 a0' a1' hx hy heq hC0 hC1
   by_cases hs : x.1 = y.1
   ·have b1 : (x.1.toList == y.1.toList) = true := by rw [hs]; simp
    by_cases hn : x.2 = y.2
    ·have b2 : (x.2 == y.2) = true := by simp [hn]
     have hxy : Hid (x = y) := by
      show x = y
      cases x; cases y; simp_all
     clear hs hn
     go_wp2_with fail
     go_quiet (fail)
     go_wp2
     go_roundw
     case rel => exact ⟨k + 1, by omega, by go_num, take_both HE.out HX.out HY.out hxy.out, hf.drewN _⟩
     case measure => simp [intOf]; omega
    ·have b2 : (x.2 == y.2) = false := by simp [hn]
     have hxy : Hid (R ≠ R') := fun h => hn (by have := HX.out; rw [h, HY.out] at this; cases this; rfl)
     clear hs hn
     go_wp2_with fail
     go_quiet (fail)
     go_wp2
     go_ret
     exact same10_no HZ (fun e => hxy.out e.2.2.1) (hf0.then_ (hf.drewN _))
   ·have b1 : (x.1.toList == y.1.toList) = false := by simpa using fun h => hs (bytes_inj h)
    have hxy : Hid (R ≠ R') := fun h => hs (by have := HX.out; rw [h, HY.out] at this; cases this; rfl)
    clear hs
    go_wp2_with fail
    go_quiet (fail)
    go_wp2
    go_ret
    exact same10_no HZ (fun e => hxy.out e.2.2.1) (hf0.then_ (hf.drewN _))
  ·have hkl : k = R.length := by omega
   have hRR : Hid (R = R') := by
    rw [hkl, List.take_of_length_le (Nat.le_refl _), pR.out, List.take_of_length_le (Nat.le_refl _)] at heq
    exact heq
   have hlt1 : ¬ (k : Int) < (R.length : Int) := by omega
   clear heq hkl hk
   go_wp2_with fail
   go_loopw [6] (fun i wr => ∃ k : Nat, k ≤ W.length ∧ i = .int .i64 k ∧ W.take k = W'.take k ∧ Fr (fun _ => False) w0 wr) (fun i _ => W.length - (intOf i).toNat)
   case atStart => exact ⟨0, by omega, rfl, by simp, hf⟩
   case round =>
    obtain ⟨k, hk, rfl, heq, hf⟩ := hrel
    have hC0 := hB0.fr hf id
    have hC1 := hB1.fr hf id
    have c2 := hC0.cell 3
    have e2 := hC1.cell 3
    by_cases hlt : k < W.length
    ·have hlt1 : (k : Int) < (W.length : Int) := by omega
     have hlt2 : k < W'.length := by have := pW.out; omega
     obtain ⟨x, hx⟩ : ∃ x, W[k]? = some x := ⟨W[k], List.getElem?_eq_getElem hlt⟩
     obtain ⟨y, hy⟩ : ∃ y, W'[k]? = some y := ⟨W'[k]'hlt2, List.getElem?_eq_getElem hlt2⟩
     obtain ⟨b, o, rfl, _, a0, a1⟩ := HW.out k x hx
     obtain ⟨b', o', rfl, _, a0', a1'⟩ := HW'.out k y hy
     have d0 := hf.cell_some a0 id
     have d1 := hf.cell_some a1 id
     have d0' := hf.cell_some a0' id
     have d1' := hf.cell_some a1' id
     have HX := Lib.hid hx
     have HY := Lib.hid hy
     have HE := Lib.hid heq
     clear a0 a1 a0' a1' hx hy heq hC0 hC1
     by_cases hs : x.1 = y.1
     ·have b1 : (x.1.toList == y.1.toList) = true := by rw [hs]; simp
      by_cases hn : x.2 = y.2
      ·have b2 : (x.2.toList == y.2.toList) = true := by rw [hn]; simp
       have hxy : Hid (x = y) := by
        show x = y
        cases x; cases y; simp_all
       clear hs hn
       go_wp2_with fail
       go_quiet (fail)
       go_wp2
       go_roundw
       case rel => exact ⟨k + 1, by omega, by go_num, take_both HE.out HX.out HY.out hxy.out, hf.drewN _⟩
       case measure => simp [intOf]; omega
      ·have b2 : (x.2.toList == y.2.toList) = false := by simpa using fun h => hn (bytes_inj h)
       have hxy : Hid (W ≠ W') := fun h => hn (by have := HX.out; rw [h, HY.out] at this; cases this; rfl)
       clear hs hn
       go_wp2_with fail
       go_quiet (fail)
       go_wp2
       go_ret
       exact same10_no HZ (fun e => hxy.out e.2.2.2) (hf0.then_ (hf.drewN _))
     ·have b1 : (x.1.toList == y.1.toList) = false := by simpa using fun h => hs (bytes_inj h)
      have hxy : Hid (W ≠ W') := fun h => hs (by have := HX.out; rw [h, HY.out] at this; cases this; rfl)
      clear hs
      go_wp2_with fail
      go_quiet (fail)
      go_wp2
      go_ret
      exact same10_no HZ (fun e => hxy.out e.2.2.2) (hf0.then_ (hf.drewN _))
    ·have hkl : k = W.length := by omega
     have hWW : Hid (W = W') := by
      rw [hkl, List.take_of_length_le (Nat.le_refl _), pW.out, List.take_of_length_le (Nat.le_refl _)] at heq
      exact heq
     have hlt1 : ¬ (k : Int) < (W.length : Int) := by omega
     clear heq hkl hk
     go_wp2_with fail
     go_ret
     exact same10_yes HZ ⟨by trivial, by trivial, hRR.out, hWW.out⟩ (hf0.then_ hf)
end Go.Proofs.YtmkdhhhoodeemaaGreat

/- cohortref11: RightOrder of a client's order. -/
namespace Go.Proofs.YtmkdhhhoodeemaaGreat
open Go Go.RowKit
attribute [local go_sem ↓] run_neqSay run_eqlSay
end Go.Proofs.YtmkdhhhoodeemaaGreat

/- cohortref11: PutOrder of a client's order. -/
namespace Go.Proofs.YtmkdhhhoodeemaaGreat
open Go Go.RowKit
end Go.Proofs.YtmkdhhhoodeemaaGreat

/- cohortref19: task, Begin, Cancel, Move. -/
namespace Go.Proofs.YtmkdhhhoodeemaaGreat
open Go Go.RowKit
end Go.Proofs.YtmkdhhhoodeemaaGreat

/- cohortref19.Same of alike tasks; cohortlaw19.Great. -/
namespace Go.Proofs.YtmkdhhhoodeemaaGreat
open Go Go.RowKit
theorem TasksAt.at_ {w : World} {base : Nat} {v : Value} {gs b : List Int} (h : TasksAt w base v gs b) : ∃ A c, v = .slice A gs.length c ∧ ∀ (k : Nat) g, gs[k]? = some g → ∃ t A' c', A = some ⟨t, 0, none⟩ ∧ w.cell? ⟨t, k * 2, none⟩ = some (.int .i64 g) ∧ w.cell? ⟨t, k * 2 + 1, none⟩ = some (.slice A' b.length c') ∧ ByteRow w (U8 w) A' b := by
 obtain ⟨vals, h1, h2⟩ := h
 obtain ⟨A, c, rfl, _, hat⟩ := own_form h1
 refine ⟨A, c, rfl, fun k g hg => ?_⟩
 obtain ⟨A', c', e1, e2, hr⟩ := h2 k g hg
 obtain ⟨t, rfl, _, hc0⟩ := hat _ _ e1
 obtain ⟨t', he, _, hc1⟩ := hat _ _ e2
 cases he
 exact ⟨t, A', c', rfl, hc0, hc1, hr⟩
end Go.Proofs.YtmkdhhhoodeemaaGreat

/- cohortlaw19: Great, RelayWords. -/
namespace Go.Proofs.YtmkdhhhoodeemaaGreat
open Go Go.RowKit
end Go.Proofs.YtmkdhhhoodeemaaGreat

/- cohortref05: Put, Get of any certificate; cohortref11: rightProof. -/
namespace Go.Proofs.YtmkdhhhoodeemaaGreat
open Go Go.RowKit
/-- A certificate's bytes. -/
def certG (G D : Int) (S : List Int) : List Int := num8 G ++ (num8 D ++ numsB S)
theorem certG_length (G D : Int) (S : List Int) : (certG G D S).length = 20 + 8 * S.length := by
 simp only [certG, numsB, List.length_append, num8_length, count4_length, flat_num8]
 omega
set_option maxRecDepth 100000 in
set_option maxHeartbeats 2000000 in
theorem ref05_Put {w : World} {F : Nat → Prop} {A : Option Addr} {cc : Nat} {G D : Int} {S : List Int} (hS : IntF w F A S) (lS : S.length ≤ 1024) :
  Calls Tryz.prog 93 #[.agg #[.int .i64 G, .int .i64 D, .slice A S.length cc]] w (fun e w' => ∃ v, e = .returned (.tuple #[v, .int .i64 0, .slice none 0 0]) ∧ Own8 w' w.heap.size v (certG G D S) ∧ Fr (fun _ => False) w w') := by
 have hB0 := (Blk.new w 41 #[.int .i64 G, .int .i64 D, .slice A S.length cc]).alloc (Obj.cells #[.slice none 0 0, .int .i64 0, .int .i64 0] 94)
 have hf0 : Fr (fun _ => False) w ((w.alloc (Obj.cells #[.int .i64 G, .int .i64 D, .slice A S.length cc] 41)).alloc (Obj.cells #[.slice none 0 0, .int .i64 0, .int .i64 0] 94)) := ((Fr.refl _ _).alloc _).alloc _
 have hW0 : RefW ((w.alloc (Obj.cells #[.int .i64 G, .int .i64 D, .slice A S.length cc] 41)).alloc (Obj.cells #[.slice none 0 0, .int .i64 0, .int .i64 0] 94)) (w.heap.size + 1) (w.heap.size + 1) (.slice none 0 0) [] none := ⟨Blk.new_ _ _ _ (by simp), Own8.nil _ _⟩
 have hz0 : w.heap.size + 1 ≤ ((w.alloc (Obj.cells #[.int .i64 G, .int .i64 D, .slice A S.length cc] 41)).alloc (Obj.cells #[.slice none 0 0, .int .i64 0, .int .i64 0] 94)).heap.size := by simp
 have HS := Lib.hid hS
 clear hS
 go_enter Tryz.func93, Tryz.ntmps93
 go_upto_region 2 with fail
 generalize ((w.alloc (Obj.cells #[.int .i64 G, .int .i64 D, .slice A S.length cc] 41)).alloc (Obj.cells #[.slice none 0 0, .int .i64 0, .int .i64 0] 94)) = w0 at *
 have hsg : w.heap.size ≤ w.heap.size + 1 := by omega
 obtain ⟨g, hg⟩ : ∃ g, Hid (w.heap.size + 1 = g) := ⟨_, rfl⟩
 rw [hg.out] at hW0 hz0 hsg ⊢
 have k0 := hB0.cell 0
 go_wp2_with fail
 refine (refw_Num hW0 hz0 (by simp) G).mono ?_
 rintro e w1 ⟨v1, rfl, hW1, hq1, _⟩
 have hW1 : RefW w1 g g v1 ([] ++ num8 G) none := hW1
 obtain ⟨b1, hb1⟩ : ∃ b, Hid (([] : List Int) ++ num8 G = b) := ⟨_, rfl⟩
 rw [hb1.out] at hW1
 have hl1 : b1.length = 8 := by rw [← hb1.out]; simp [num8_length]
 have hB1 := wrote_blk hB0 hW0.blk hW0.own hq1 (by decide) (by decide)
 have hf1 := wrote_fr hf0 hW0.own hsg hsg hq1
 have hz1 : g ≤ w1.heap.size := Nat.le_of_lt hW1.blk.lt
 clear hq1 hW0 hB0 hf0 hz0 k0
 have k1 := hB1.cell 1
 go_wp2_with fail
 refine (refw_Num hW1 hz1 (by omega) D).mono ?_
 rintro e w2 ⟨v2, rfl, hW2, hq2, _⟩
 have hW2 : RefW w2 g g v2 (b1 ++ num8 D) none := hW2
 obtain ⟨b2, hb2⟩ : ∃ b, Hid (b1 ++ num8 D = b) := ⟨_, rfl⟩
 rw [hb2.out] at hW2
 have hl2 : b2.length = 16 := by rw [← hb2.out, List.length_append, hl1]; simp [num8_length]
 have hB2 := wrote_blk hB1 hW1.blk hW1.own hq2 (by decide) (by decide)
 have hf2 := wrote_fr hf1 hW1.own hsg hsg hq2
 have hz2 : g ≤ w2.heap.size := Nat.le_of_lt hW2.blk.lt
 clear hq2 hW1 hB1 hf1 hz1 k1
 have hi := int64_info
 go_upto_region 6 with fail
 go_loopw [6, 7] (fun lv i wr => ∃ k : Nat, k ≤ S.length ∧ i = .int .i64 k ∧ wr.ownsRow w2.heap.size 2 1 lv k (num64V (S.take k)) ∧ Fr (fun _ => False) w2 wr) (fun _ i _ => S.length - (intOf i).toNat)
 case atStart => exact ⟨0, by omega, rfl, World.ownsRow_nil _ _ _ _, Fr.refl _ _⟩
 case round =>
  obtain ⟨k, hk, rfl, hown, hf⟩ := hrel
  have hBr := hB2.fr hf id
  have k2 := hBr.cell 2
  by_cases hlt : k < S.length
  ·have hlt' : (k : Int) < (S.length : Int) := by omega
   obtain ⟨x, hx⟩ : ∃ x, S[k]? = some x := ⟨S[k], List.getElem?_eq_getElem hlt⟩
   obtain ⟨b, o', rfl, _, hc⟩ := (HS.out.fr (hf2.then_ hf) (fun _ _ => id)) k x hx
   have HX := Lib.hid hx
   have hge := own_ge hown
   have hsz := hf.size
   clear hx
   go_wp2_with (at_builtin; refine wpList_append1 _ rfl _ _ _ rfl w2.heap.size 2 (.int .i64 0) 8 Tryz.underlying132 hi rfl u6 k (num64V (S.take k)) rfl (own_fr hown ((Fr.refl (fun _ => False) wr).alloc _) (fun _ _ => id)) wr.heap.size (.int .i64 x) rfl ?_ rfl (by omega) (by omega) ?_ ?_; (· simp); (· simp; omega); intro g3 c3 w3 hown3 hf3)
   go_roundw
   case rel =>
    refine ⟨k + 1, by omega, by go_num, ?_, (hf.then_ ((Fr.refl (fun _ => False) wr).alloc (Obj.cells #[.int .i64 x] 2))).trans hf3 (fun q hq e => by have := hge q e; omega)⟩
    rw [take_mem HX.out, num64V, List.map_append]
    exact hown3
   case measure => simp [intOf]; omega
  ·obtain rfl : k = S.length := by omega
   rw [List.take_length] at hown
   obtain ⟨LA, lc, rfl, hLr⟩ := own_ints hown
   have hWr := hW2.fr hf id (fun _ _ => id)
   have hzr : g ≤ wr.heap.size := Nat.le_trans hz2 hf.size
   have hw2g : g < w2.heap.size := hW2.blk.lt
   have h := refw_Nums (cap := lc) hWr hzr (F := fun k => w2.heap.size ≤ k) hLr (fun k hk e => by have := hW2.own.lt k e; omega) (fun h => by omega) (by omega) (.inl (by rw [hl2]; simp only [numsB, List.length_append, count4_length, flat_num8]; omega))
   rw [if_pos lS] at h
   have HN : Calls Tryz.prog 119 #[.pointer (some ⟨g, 0, none⟩), .slice LA S.length lc] wr (RWrote wr g g v2 (b2 ++ numsB S) none) := h
   have HN := Lib.hid HN
   obtain ⟨b4, hb4⟩ : ∃ b, Hid (b2 ++ numsB S = b) := ⟨_, rfl⟩
   rw [hb4.out] at HN
   have he : certG G D S = b4 := by rw [← hb4.out, ← hb2.out, ← hb1.out, certG]; simp
   have hl4 : b4.length = 20 + 8 * S.length := by rw [← he, certG_length]
   have hf2r := hf2.then_ hf
   clear h hown hLr
   go_upto_region 10 with (go_at_call 119; refine HN.out.mono ?_; rintro e w4 ⟨v4, rfl, hW4, hq4, _⟩)
   have hf4 := wrote_fr hf2r hWr.own hsg hsg hq4
   have y1 := hW4.blk.cell 1
   have e1 : badC none = 0 := rfl
   rw [e1] at y1
   have HY := Lib.hid (refw_Bytes hW4 (by omega))
   go_wp2_with (go_at_call 36; refine HY.out.mono ?_; rintro e w5 ⟨v5, rfl, hv5, hf5⟩)
   refine bodyPost_ret (v := .tuple #[v5, .int .i64 0, .slice none 0 0]) (by simp [results, Tryz.results93, go_sem]) rfl ?_
   have hv5 : Own8 w5 w4.heap.size v5 b4 := hv5
   rw [he]
   exact ⟨v5, rfl, hv5.base_ hf4.size, hf4.then_ hf5⟩
set_option maxRecDepth 100000 in
set_option maxHeartbeats 2000000 in
theorem ref05_Get {w : World} {F : Nat → Prop} {A : Option Addr} {cap : Nat} {G D : Int} {S : List Int} (hr : ByteRow w F A (certG G D S)) (lS : S.length ≤ 1024) (hG : 0 ≤ G ∧ G ≤ 2147483647) (hD : 0 ≤ D ∧ D ≤ 2147483647) (hS : ∀ y ∈ S, 0 ≤ y ∧ y ≤ 2147483647) :
    Calls Tryz.prog 61 #[.slice A (certG G D S).length cap] w (CertGot w G D S) := by
  obtain ⟨bs, hbs⟩ : ∃ bs, Hid (certG G D S = bs) := ⟨_, rfl⟩
  have hl : bs.length ≤ 65536 := by rw [← hbs.out, certG_length]; omega
  have h0 : 0 < bs.length := by rw [← hbs.out, certG_length]; omega
  have hbs2 : Hid (bs = num8 G ++ (num8 D ++ (numsB S ++ []))) := by show _ = _; rw [← hbs.out, certG, List.append_nil]
  have HS := Lib.hid hS
  rw [hbs.out] at hr ⊢
  clear hbs hS
  have hf0 : Fr (fun _ => False) w (w.alloc (Obj.cells #[.int .i64 0, .int .i64 0, .slice none 0 0] 41)) := (Fr.refl _ _).alloc _
  have hA0 := Blk.new w 41 #[.int .i64 0, .int .i64 0, .slice none 0 0]
  have HNew := Lib.hid (rs_New (cap := cap) (hr.fr hf0 (fun _ _ => id)) h0 (by omega))
  go_enter Tryz.func61, Tryz.ntmps61
  go_upto_region 2 with (go_at_call 53; refine HNew.out.mono ?_; rintro e w1 ⟨g, rfl, hg, hS1, hf1⟩)
  generalize w.alloc (Obj.cells #[.int .i64 0, .int .i64 0, .slice none 0 0] 41) = w0 at *
  have hA1 := hA0.fr hf1 id
  have hf01 := hf0.then_ hf1
  have hA2 := hA1.alloc (Obj.cells #[.int .i64 0, .int .i64 0, .slice none 0 0] 41)
  have hT2 := Blk.new w1 41 #[.int .i64 0, .int .i64 0, .slice none 0 0]
  have hf2 := hf01.alloc (Obj.cells #[.int .i64 0, .int .i64 0, .slice none 0 0] 41)
  have hS2 := hS1.keep ((Fr.refl (fun _ => False) w1).alloc (Obj.cells #[.int .i64 0, .int .i64 0, .slice none 0 0] 41))
  have hag : w.heap.size < w1.heap.size := hA1.lt
  go_upto_region 3 with fail
  have hwg : w.heap.size < g := Nat.lt_of_lt_of_le hA0.lt hg
  generalize w1.alloc (Obj.cells #[.int .i64 0, .int .i64 0, .slice none 0 0] 41) = w2 at *
  obtain ⟨gt, hgt⟩ : ∃ cc, Hid (w1.heap.size = cc) := ⟨_, rfl⟩
  rw [hgt.out] at hT2 hag ⊢
  clear hA0 hA1 hf0 hf1 hf01 HNew hg hS1 hr
  rw [hbs2.out] at hS2
  clear hbs2 hl h0
  have H := Lib.hid (rs_Int (most := 2147483647) hS2 (by omega) (by omega) (by omega))
  go_upto_region 4 with (go_at_call 56; refine H.out.mono ?_; rintro e w3 ⟨rfl, hS3, hf3t⟩; have hT3 := hT2.fr hf3t (hS2.ne hT2 (by decide)); have y := hT3.cell 0; have z := hT3.frozen 0)
  have hA3 := hA2.fr hf3t (hS2.ne hA2 (by decide))
  have hf3 : Fr (fun _ => False) w w3 := hf2.trans hf3t (fun k hk e => by omega)
  have hS4 := hS3.far hT3 (by decide) (by decide) 0 (.int .i64 G)
  have hT4 : Blk (w3.setCell ⟨gt, 0, none⟩ (.int .i64 G)) gt 41 #[.int .i64 G, .int .i64 0, .slice none 0 0] := hT3.set_ 0 _
  have hA4 := hA3.far (p := ⟨gt, 0, none⟩) (fun e => by dsimp only at e; omega) (.int .i64 G)
  have hf4 : Fr (fun _ => False) w (w3.setCell ⟨gt, 0, none⟩ (.int .i64 G)) := hf3.setCell (p := ⟨gt, 0, none⟩) (fun h => absurd h (by dsimp only; omega)) _
  generalize w3.setCell ⟨gt, 0, none⟩ (.int .i64 G) = w4 at *
  clear H hS2 hT2 hA2 hf2 hf3t hS3 hT3 hA3 hf3 y z
  have H := Lib.hid (rs_Int (most := 2147483647) hS4 (by omega) (by omega) (by omega))
  go_upto_region 5 with (go_at_call 56; refine H.out.mono ?_; rintro e w5 ⟨rfl, hS5, hf5t⟩; have hT5 := hT4.fr hf5t (hS4.ne hT4 (by decide)); have y := hT5.cell 1; have z := hT5.frozen 1)
  have hA5 := hA4.fr hf5t (hS4.ne hA4 (by decide))
  have hf5 : Fr (fun _ => False) w w5 := hf4.trans hf5t (fun k hk e => by omega)
  have hS6 := hS5.far hT5 (by decide) (by decide) 1 (.int .i64 D)
  have hT6 : Blk (w5.setCell ⟨gt, 1, none⟩ (.int .i64 D)) gt 41 #[.int .i64 G, .int .i64 D, .slice none 0 0] := hT5.set_ 1 _
  have hA6 := hA5.far (p := ⟨gt, 1, none⟩) (fun e => by dsimp only at e; omega) (.int .i64 D)
  have hf6 : Fr (fun _ => False) w (w5.setCell ⟨gt, 1, none⟩ (.int .i64 D)) := hf5.setCell (p := ⟨gt, 1, none⟩) (fun h => absurd h (by dsimp only; omega)) _
  generalize w5.setCell ⟨gt, 1, none⟩ (.int .i64 D) = w6 at *
  clear H hS4 hT4 hA4 hf4 hf5t hS5 hT5 hA5 hf5 y z
  have H := Lib.hid (rs_Nums hS6 lS (fun y hy => by have := HS.out y hy; omega))
  go_upto_region 6 with (go_at_call 57; refine H.out.mono ?_; rintro e w7 ⟨v7, rfl, hv7, hS7, hf7t⟩)
  have hT7 := hT6.fr hf7t (hS6.ne hT6 (by decide))
  have hA7 := hA6.fr hf7t (hS6.ne hA6 (by decide))
  have hf7 : Fr (fun _ => False) w w7 := hf6.trans hf7t (fun k hk e => by omega)
  have hgt6 := hT6.lt
  have hv7 := own_base hv7 (base' := gt + 1) (by omega)
  obtain ⟨NA, cn, rfl, _⟩ := own_ints hv7
  clear H hS6 hT6 hA6 hf6 hf7t hgt6
  have H := Lib.hid (rs_End hS7)
  go_upto_region 10 with (go_at_call 58; refine H.out.mono ?_; rintro e w8 ⟨rfl, hf8⟩)
  have hfs := (Fr.refl (fun _ => False) w8).alloc (Obj.cells #[.string ⟨#[]⟩, .int .i64 0] 70)
  have hT9 := (hT7.fr hf8 id).fr hfs id
  have hA9 := (hA7.fr hf8 id).fr hfs id
  have hv9 := own_fr (own_fr hv7 hf8 (fun _ _ => id)) hfs (fun _ _ => id)
  have hf9 := (hf7.then_ hf8).then_ hfs
  generalize w8.alloc (Obj.cells #[.string ⟨#[]⟩, .int .i64 0] 70) = w9 at *
  clear H hS7 hT7 hA7 hv7 hf7 hf8 hfs
  have hii := int_info
  go_loopw [8, 10] (fun eo i wr => ∃ (k : Nat) (lv : Value), k ≤ S.length ∧ i = .int .i64 k ∧ eo = .int .i64 0 ∧ wr.ownsRow (gt + 1) 3 1 lv k (num64V (S.take k)) ∧ wr.ownsRow (gt + 1) 2 1 (.slice NA S.length cn) S.length (num64V S) ∧ Blk wr gt 41 #[.int .i64 G, .int .i64 D, lv] ∧ Blk wr w.heap.size 41 #[.int .i64 0, .int .i64 0, .slice none 0 0] ∧ Fr (fun _ => False) w wr) (fun _ i _ => S.length - (intOf i).toNat)
  case atStart => exact ⟨0, _, by omega, rfl, rfl, World.ownsRow_nil _ _ _ _, hv9, hT9, hA9, hf9⟩
  case round =>
    clear hT9 hA9 hv9 hf9
    obtain ⟨k, lv, hk, rfl, rfl, hown, hnum, hT, hA, hf⟩ := hrel
    by_cases hlt : k < S.length
    · have hlt' : (k : Int) < (S.length : Int) := by omega
      obtain ⟨x, hx⟩ : ∃ x, S[k]? = some x := ⟨S[k], List.getElem?_eq_getElem hlt⟩
      have hx0 := HS.out x (List.mem_of_getElem? hx)
      obtain ⟨_, _, eN, hN⟩ := own_ints hnum
      cases eN
      obtain ⟨b, o, rfl, hb, hcb⟩ := hN k x hx
      have HX := Lib.hid hx
      have Hnum := Lib.hid hnum
      obtain ⟨Av, cv, hev, _, _⟩ := own_form hown
      subst hev
      clear hx hN hnum
      have q1 : ¬ x < 0 := by omega
      have q2 : ¬ 2147483647 < x := by omega
      have hfa : Fr (fun _ => False) wr (wr.alloc (Obj.cells #[.int .i64 x] 3)).drew := ((Fr.refl (fun _ => False) wr).alloc _).drew
      have hT3 := hT.fr hfa id
      have hA3 := hA.fr hfa id
      have ho3 := own_fr hown hfa (fun _ _ => id)
      have hz3 : gt < (wr.alloc (Obj.cells #[.int .i64 x] 3)).drew.heap.size := hT3.lt
      have y0 := hT.cell 2
      have y3 := hT3.cell 2
      have y2 : (wr.alloc (Obj.cells #[.int .i64 x] 3)).cell? ⟨gt, 2, none⟩ = some (.slice Av k cv) := y3
      have hone : ∀ (j : Nat) u', ([.int .i64 x] : List Value)[j]? = some u' → (wr.alloc (Obj.cells #[.int .i64 x] 3)).drew.cell? ((⟨wr.heap.size, 0, none⟩ : Addr).add j) = some u' := new_one wr 3 (.int .i64 x)
      go_upto_region 19 with fail
      go_region_law (refine step_append_gen rfl (.tmp 58) (.tmp 63) 30 3 rfl Tryz.underlying30 hii rfl (gt + 1) (.slice Av k cv) k (num64V (S.take k)) (by rfl) ho3 ⟨wr.heap.size, 0, none⟩ 1 1 [.int .i64 x] (by rfl) rfl hone (fun u hu => by rw [List.mem_singleton.1 hu]; rfl) (by omega) (by decide) (by omega) ?_; intro v4 w4 h4 hf4 hk4; obtain ⟨A4, cap4, rfl, _, _⟩ := own_form h4; have hT4 := hT3.fr hf4 (own_ne_blk ho3 hT3 (by decide)); have d0 := hT4.cell 2; have z0 := hT4.frozen 2)
      all_goals go_wp2_with fail
      all_goals go_roundw
      all_goals first
        | (refine ⟨k + 1, _, by omega, by go_num, rfl, ?_, own_setCell (own_fr (own_fr Hnum.out hfa (fun _ _ => id)) hf4 (fun q hq e => by obtain ⟨ds, hD⟩ := own_cells (own_fr Hnum.out hfa (fun _ _ => id)) hq; exact own_ne_blk ho3 hD (by decide) e)) hT4 (by decide) 2 _, hT4.set_ 2 _, (hA3.fr hf4 (own_ne_blk ho3 hA3 (by decide))).far (p := ⟨gt, 2, none⟩) (fun e => by dsimp only at e; omega) _, ((hf.then_ hfa).trans hf4 (fun q hq e => by have := own_ge ho3 q e; omega)).setCell (p := ⟨gt, 2, none⟩) (fun h => absurd h (by dsimp only; omega)) _⟩
           rw [take_mem HX.out, num64V, List.map_append]
           exact own_setCell h4 hT4 (by decide) 2 _)
        | (simp [intOf]; omega)
    · obtain rfl : k = S.length := by omega
      rw [List.take_length] at hown
      obtain ⟨CA, cc, rfl, hCr⟩ := own_ints hown
      clear hnum
      go_wp2_with (first
        | (refine wpList_load_row rfl 41 _ rfl _ rfl _ _ (0, 0) _ hT Tryz.underlying41 rfl (by kernel_rfl) ?_)
        | (refine wpList_store_row rfl 41 _ _ rfl w.heap.size #[.int .i64 G, .int .i64 D, .slice CA S.length cc] rfl rfl 41 _ hA (by kernel_rfl) rfl (by simp [Value.oneCell']) ?_))
      have hA13 := Blk.setRow_ (ds := #[.int .i64 G, .int .i64 D, .slice CA S.length cc]) hA
      have hfz := Fr.setRow_ (w := wr) (g := w.heap.size) (ds := #[.int .i64 G, .int .i64 D, .slice CA S.length cc])
      have hfe : Fr (fun _ => False) w _ := hf.trans hfz (fun k hk e => by omega)
      generalize wr.setRow w.heap.size #[.int .i64 G, .int .i64 D, .slice CA S.length cc] = wz at *
      refine bodyPost_ret (v := .tuple #[.agg #[.int .i64 G, .int .i64 D, .slice CA S.length cc], .int .i64 0, .slice none 0 0]) (results_row3 Tryz.results61 _ wz w.heap.size 41 #[.int .i64 G, .int .i64 D, .slice CA S.length cc] (0, 0) _ rfl hA13 Tryz.underlying41 rfl (by kernel_rfl) rfl rfl) rfl ?_
      exact ⟨CA, cc, rfl, (hCr.fr hfz (fun k hk e => by omega)).mono_ (fun k hk => by omega), hfe⟩
end Go.Proofs.YtmkdhhhoodeemaaGreat

/- cohortref11: rightProof, RightOrder, where an order is one. -/
namespace Go.Proofs.YtmkdhhhoodeemaaGreat
open Go Go.RowKit
attribute [local go_sem ↓] run_neqSay run_eqlSay
set_option maxRecDepth 100000 in
set_option maxHeartbeats 1000000 in
theorem ref11_rightProof {w : World} {F : Nat → Prop} {many first : Int} {EA VA : Option Addr} {ce cv : Nat} {L : List (ByteArray × ByteArray × Int)} {Bs : List Int} (hE : EntRow w F EA L) (hV : IntF w F VA Bs)
  (m0 : 0 ≤ many) (m1 : many ≤ 1024) (f0 : 0 ≤ first) (f1 : first ≤ 1024) (lL : L.length ≤ 1024) (eL : ∀ x ∈ L, x.1.size ≤ 16 ∧ x.2.1.size ≤ 64) (lB : Bs.length ≤ 1024) (eB : ∀ y ∈ Bs, 0 ≤ y ∧ y ≤ 2147483647) :
  Calls Tryz.prog 94 #[.agg #[.int .i64 many, .int .i64 first, .slice EA L.length ce, .slice VA Bs.length cv]] w (OkB w true) := by
 have hB0 := Blk.new w 60 #[.int .i64 many, .int .i64 first, .slice EA L.length ce, .slice VA Bs.length cv]
 have hf0 : Fr (fun _ => False) w (w.alloc (Obj.cells #[.int .i64 many, .int .i64 first, .slice EA L.length ce, .slice VA Bs.length cv] 60)) := (Fr.refl _ _).alloc _
 have HE := Lib.hid hE
 have HV := Lib.hid hV
 have EL := Lib.hid eL
 have EB := Lib.hid eB
 clear hE hV eL eB
 have p1 : ¬ many < 0 := by omega
 have p2 : ¬ 1024 < many := by omega
 have p3 : ¬ first < 0 := by omega
 have p4 : ¬ 1024 < first := by omega
 have p5 : ¬ (1024 : Int) < (Bs.length : Int) := by omega
 have p6 : ¬ (1024 : Int) < (L.length : Int) := by omega
 go_enter Tryz.func94, Tryz.ntmps94
 go_upto_region 1 with fail
 generalize w.alloc (Obj.cells #[.int .i64 many, .int .i64 first, .slice EA L.length ce, .slice VA Bs.length cv] 60) = w0 at *
 have k0 := hB0.cell 0
 have k1 := hB0.cell 1
 have k2 := hB0.cell 2
 have k3 := hB0.cell 3
 go_upto_region 4 with fail
 clear k0 k1
 go_loopw [3] (fun i wr => ∃ k : Nat, k ≤ Bs.length ∧ i = .int .i64 k ∧ Fr (fun _ => False) w0 wr) (fun i _ => Bs.length - (intOf i).toNat)
 case atStart => exact ⟨0, by omega, rfl, Fr.refl _ _⟩
 case round =>
  obtain ⟨k, hk, rfl, hf⟩ := hrel
  have hBr := hB0.fr hf id
  clear k2 k3
  have k3 := hBr.cell 3
  by_cases hlt : k < Bs.length
  ·have hlt' : (k : Int) < (Bs.length : Int) := by omega
   obtain ⟨x, hx⟩ : ∃ x, Bs[k]? = some x := ⟨Bs[k], List.getElem?_eq_getElem hlt⟩
   have hx0 := EB.out x (List.mem_of_getElem? hx)
   obtain ⟨b, o, rfl, _, hc⟩ := (HV.out.fr (hf0.then_ hf) (fun _ _ => id)) k x hx
   have q1 : ¬ x < 0 := by omega
   have q2 : ¬ 2147483647 < x := by omega
   clear hx
   go_wp2_with fail
   go_roundw
   case rel => exact ⟨k + 1, by omega, by go_num, hf⟩
   case measure => simp [intOf]; omega
  ·obtain rfl : k = Bs.length := by omega
   go_upto_region 9 with fail
   go_loopw [4] (fun i w2 => ∃ k : Nat, k ≤ L.length ∧ i = .int .i64 k ∧ Fr (fun _ => False) wr w2) (fun i _ => L.length - (intOf i).toNat)
   case atStart => exact ⟨0, by omega, rfl, Fr.refl _ _⟩
   case round =>
    obtain ⟨k, hk, rfl, hf2⟩ := hrel
    have hBs := hBr.fr hf2 id
    clear k3
    have k2 := hBs.cell 2
    by_cases hlt : k < L.length
    ·have hlt' : (k : Int) < (L.length : Int) := by omega
     obtain ⟨x, hx⟩ : ∃ x, L[k]? = some x := ⟨L[k], List.getElem?_eq_getElem hlt⟩
     have hx0 := EL.out x (List.mem_of_getElem? hx)
     obtain ⟨b, o, rfl, _, hc1, hc2, _⟩ := (HE.out.fr ((hf0.then_ hf).then_ hf2) (fun _ _ => id)) k x hx
     have q1 : ¬ (16 : Int) < (x.1.size : Int) := by omega
     have q2 : ¬ (64 : Int) < (x.2.1.size : Int) := by omega
     clear hx
     go_wp2_with fail
     go_roundw
     case rel => exact ⟨k + 1, by omega, by go_num, hf2⟩
     case measure => simp [intOf]; omega
    ·obtain rfl : k = L.length := by omega
     go_wp2
     go_ret
     exact ⟨rfl, (hf0.then_ hf).then_ hf2⟩
set_option maxRecDepth 100000 in
set_option maxHeartbeats 2000000 in
theorem ref11_RightOrder {w : World} {F : Nat → Prop} {kind c n G D many first : Int} {RA WA CA EA VA : Option Addr} {cr cw cc ce cv : Nat} {R : List (ByteArray × Int)} {W : List (ByteArray × ByteArray)} {s : SayD} {S Bs : List Int} {L : List (ByteArray × ByteArray × Int)}
  (hr : ReadRow w F RA R) (hw : WriteRow w F WA W) (hS : IntF w F CA S) (hE : EntRow w F EA L) (hV : IntF w F VA Bs)
  (hk1 : 1 ≤ kind) (hk2 : kind ≤ 10) (hT : ((kind = 1 ∨ kind = 6) ∧ TOk c n R W) ∨ ((¬ kind = 1 ∧ ¬ kind = 6) ∧ c = 0 ∧ n = 0 ∧ R = [] ∧ W = [])) (hSay : ZSay s ∨ OkSay s)
  (lS : S.length ≤ 1024) (hG : 0 ≤ G ∧ G ≤ 2147483647) (hD : 0 ≤ D ∧ D ≤ 2147483647) (eS : ∀ y ∈ S, 0 ≤ y ∧ y ≤ 2147483647)
  (m0 : 0 ≤ many) (m1 : many ≤ 1024) (f0 : 0 ≤ first) (f1 : first ≤ 1024) (lL : L.length ≤ 1024) (eL : ∀ x ∈ L, x.1.size ≤ 16 ∧ x.2.1.size ≤ 64) (lB : Bs.length ≤ 1024) (eB : ∀ y ∈ Bs, 0 ≤ y ∧ y ≤ 2147483647) :
  Calls Tryz.prog 62 #[.agg #[.int .i64 kind, .int .i64 c, .int .i64 n, .slice RA R.length cr, .slice WA W.length cw, .int .i64 s.kind, .int .i64 s.txn, .bool s.yes, .string s.from_, .string s.to_, .int .i64 s.epoch, .int .i64 s.shard, .int .i64 s.target, .int .i64 s.root, .int .i64 G, .int .i64 D, .slice CA S.length cc, .int .i64 many, .int .i64 first, .slice EA L.length ce, .slice VA Bs.length cv]] w (OkB w true) := by
 have HPf := Lib.hid (fun w' (hf : Fr (fun _ => False) w w') => ref11_rightProof (w := w') (ce := ce) (cv := cv) (hE.fr hf (fun _ _ => id)) (hV.fr hf (fun _ _ => id)) m0 m1 f0 f1 lL eL lB eB)
 have HPut := Lib.hid (fun w' (hf : Fr (fun _ => False) w w') => ref05_Put (w := w') (cc := cc) (G := G) (D := D) (hS.fr hf (fun _ _ => id)) lS)
 have HGet := Lib.hid (fun w' A cap (hr : ByteRow w' (U8 w') A (certG G D S)) => ref05_Get (cap := cap) hr lS hG hD eS)
 obtain ⟨cb, hcb⟩ : ∃ b, Hid (certG G D S = b) := ⟨_, rfl⟩
 rw [hcb.out] at HPut HGet
 have HPut : Hid (∀ w' (hf : Fr (fun _ => False) w w'), Calls Tryz.prog 93 #[.agg #[.int .i64 G, .int .i64 D, .slice CA S.length cc]] w' (fun e w'' => ∃ v, e = .returned (.tuple #[v, .int .i64 0, .slice none 0 0]) ∧ Own8 w'' w'.heap.size v cb ∧ Fr (fun _ => False) w' w'')) := HPut
 have HGet : Hid (∀ w' A cap (hr : ByteRow w' (U8 w') A cb), Calls Tryz.prog 61 #[.slice A cb.length cap] w' (CertGot w' G D S)) := HGet
 have HRt := fun w' (hf : Fr (fun _ => False) w w') => ref10_Right (w := w') (cr := cr) (cw := cw) (c := c) (n := n) (hr.fr hf (fun _ _ => id)) (hw.fr hf (fun _ _ => id))
 have HSm := fun w' (hf : Fr (fun _ => False) w w') (lR : R.length ≤ 1000) (lW : W.length ≤ 1000) => ref10_Same (w := w') (F := F) (A' := none) (B' := none) (cr := cr) (cw := cw) (cr' := 0) (cw' := 0) (c := c) (n := n) (c' := 0) (n' := 0) (R' := []) (W' := []) (hr.fr hf (fun _ _ => id)) (hw.fr hf (fun _ _ => id)) (fun k x h => by simp at h) (fun k x h => by simp at h) lR lW
 have HRs := fun w => ref11_Right1 w s.kind s.txn s.yes s.from_ s.to_ s.epoch s.shard s.target s.root
 have HRs : ∀ w, Calls Tryz.prog 29 #[.agg #[.int .i64 s.kind, .int .i64 s.txn, .bool s.yes, .string s.from_, .string s.to_, .int .i64 s.epoch, .int .i64 s.shard, .int .i64 s.target, .int .i64 s.root]] w (Bool1 w (decide (OkSay s))) := HRs
 have hB0 := Blk.new w 62 #[.int .i64 kind, .int .i64 c, .int .i64 n, .slice RA R.length cr, .slice WA W.length cw, .int .i64 s.kind, .int .i64 s.txn, .bool s.yes, .string s.from_, .string s.to_, .int .i64 s.epoch, .int .i64 s.shard, .int .i64 s.target, .int .i64 s.root, .int .i64 G, .int .i64 D, .slice CA S.length cc, .int .i64 many, .int .i64 first, .slice EA L.length ce, .slice VA Bs.length cv]
 have hf0 : Fr (fun _ => False) w (w.alloc (Obj.cells #[.int .i64 kind, .int .i64 c, .int .i64 n, .slice RA R.length cr, .slice WA W.length cw, .int .i64 s.kind, .int .i64 s.txn, .bool s.yes, .string s.from_, .string s.to_, .int .i64 s.epoch, .int .i64 s.shard, .int .i64 s.target, .int .i64 s.root, .int .i64 G, .int .i64 D, .slice CA S.length cc, .int .i64 many, .int .i64 first, .slice EA L.length ce, .slice VA Bs.length cv] 62)) := (Fr.refl _ _).alloc _
 have hd1 : ¬ kind < 1 := by omega
 have hd2 : ¬ 10 < kind := by omega
 clear hr hw hS hE hV lS hG hD eS m0 m1 f0 f1 lL eL lB eB hk1 hk2
 rcases hT with ⟨rfl | rfl, hok⟩ | ⟨⟨q1, q6⟩, rfl, rfl, rfl, rfl⟩
 ·rcases hSay with hzs | hos
  ·rw [decide_eq_true hok] at HRt
   have HRt := Lib.hid HRt
   clear HSm hok
   have hz : zeroSay ⟨s.kind, s.txn, s.yes, s.from_, s.to_, s.epoch, s.shard, s.target, s.root⟩ = true := (zeroSay_iff s).2 hzs
   clear hzs HRs
   go_enter Tryz.func62, Tryz.ntmps62
   go_upto_region 1 with fail
   have hB0 : Blk (w.alloc (Obj.cells #[.int .i64 1, .int .i64 c, .int .i64 n, .slice RA R.length cr, .slice WA W.length cw, .int .i64 s.kind, .int .i64 s.txn, .bool s.yes, .string s.from_, .string s.to_, .int .i64 s.epoch, .int .i64 s.shard, .int .i64 s.target, .int .i64 s.root, .int .i64 G, .int .i64 D, .slice CA S.length cc, .int .i64 many, .int .i64 first, .slice EA L.length ce, .slice VA Bs.length cv] 62)) w.heap.size 62 #[.int .i64 1, .int .i64 c, .int .i64 n, .slice RA R.length cr, .slice WA W.length cw, .int .i64 s.kind, .int .i64 s.txn, .bool s.yes, .string s.from_, .string s.to_, .int .i64 s.epoch, .int .i64 s.shard, .int .i64 s.target, .int .i64 s.root, .int .i64 G, .int .i64 D, .slice CA S.length cc, .int .i64 many, .int .i64 first, .slice EA L.length ce, .slice VA Bs.length cv] := hB0
   have hf0 : Fr (fun _ => False) w (w.alloc (Obj.cells #[.int .i64 1, .int .i64 c, .int .i64 n, .slice RA R.length cr, .slice WA W.length cw, .int .i64 s.kind, .int .i64 s.txn, .bool s.yes, .string s.from_, .string s.to_, .int .i64 s.epoch, .int .i64 s.shard, .int .i64 s.target, .int .i64 s.root, .int .i64 G, .int .i64 D, .slice CA S.length cc, .int .i64 many, .int .i64 first, .slice EA L.length ce, .slice VA Bs.length cv] 62)) := hf0
   generalize w.alloc (Obj.cells #[.int .i64 1, .int .i64 c, .int .i64 n, .slice RA R.length cr, .slice WA W.length cw, .int .i64 s.kind, .int .i64 s.txn, .bool s.yes, .string s.from_, .string s.to_, .int .i64 s.epoch, .int .i64 s.shard, .int .i64 s.target, .int .i64 s.root, .int .i64 G, .int .i64 D, .slice CA S.length cc, .int .i64 many, .int .i64 first, .slice EA L.length ce, .slice VA Bs.length cv] 62) = w0 at *
   have k0 := hB0.cell 0
   have k1 := hB0.cell 1
   have k2 := hB0.cell 2
   have k3 := hB0.cell 3
   have k4 := hB0.cell 4
   have k5 := hB0.cell 5
   have k6 := hB0.cell 6
   have k7 := hB0.cell 7
   have k8 := hB0.cell 8
   have k9 := hB0.cell 9
   have k10 := hB0.cell 10
   have k11 := hB0.cell 11
   have k12 := hB0.cell 12
   have k13 := hB0.cell 13
   go_upto_region 8 with (go_at_call 30; refine (HRt.out _ hf0).mono ?_; rintro e w1 ⟨rfl, hf01⟩)
   have hB1 := hB0.fr hf01 id
   have hf1 := hf0.then_ hf01
   clear hB0 hf0 hf01 k0 k1 k2 k3 k4 k5 k6 k7 k8 k9 k10 k11 k12 k13
   have k5 := hB1.cell 5
   have k6 := hB1.cell 6
   have k7 := hB1.cell 7
   have k8 := hB1.cell 8
   have k9 := hB1.cell 9
   have k10 := hB1.cell 10
   have k11 := hB1.cell 11
   have k12 := hB1.cell 12
   have k13 := hB1.cell 13
   go_upto_region 10 with fail
   have hB2 := hB1
   have hf2 := hf1
   generalize w1 = w2 at *
   clear hB1 hf1 k5 k6 k7 k8 k9 k10 k11 k12 k13
   have k14 := hB2.cell 14
   have k15 := hB2.cell 15
   have k16 := hB2.cell 16
   go_upto_region 11 with (go_at_call 93; refine (HPut.out _ hf2).mono ?_; rintro e w3 ⟨v3, rfl, hv3, hf3⟩; obtain ⟨A3, c3, rfl, _, hr3⟩ := hv3.u8row)
   have HG := Lib.hid (HGet.out _ _ c3 hr3)
   clear hr3
   go_upto_region 16 with (go_at_call 61; refine HG.out.mono ?_; rintro e w4 ⟨CX, cx, rfl, _, hf4⟩)
   have hB4 := (hB2.fr hf3 id).fr hf4 id
   have hf04 := (hf2.then_ hf3).then_ hf4
   clear k14 k15 k16
   have k17 := hB4.cell 17
   have k18 := hB4.cell 18
   have k19 := hB4.cell 19
   have k20 := hB4.cell 20
   go_wp2_with (go_at_call 94; refine (HPf.out _ hf04).mono ?_; rintro e w5 ⟨rfl, hf5⟩)
   go_ret
   exact ⟨rfl, hf04.then_ hf5⟩
  ·rw [decide_eq_true hok] at HRt
   have HRt := Lib.hid HRt
   clear HSm hok
   have hz : zeroSay ⟨s.kind, s.txn, s.yes, s.from_, s.to_, s.epoch, s.shard, s.target, s.root⟩ = false := by
    have : ¬ zeroSay s = true := fun e => by have e := (zeroSay_iff s).1 e; rw [e] at hos; exact hos.1 (by decide)
    simpa using this
   simp only [hos, decide_true] at HRs
   have HRs := Lib.hid HRs
   clear hos
   go_enter Tryz.func62, Tryz.ntmps62
   go_upto_region 1 with fail
   have hB0 : Blk (w.alloc (Obj.cells #[.int .i64 1, .int .i64 c, .int .i64 n, .slice RA R.length cr, .slice WA W.length cw, .int .i64 s.kind, .int .i64 s.txn, .bool s.yes, .string s.from_, .string s.to_, .int .i64 s.epoch, .int .i64 s.shard, .int .i64 s.target, .int .i64 s.root, .int .i64 G, .int .i64 D, .slice CA S.length cc, .int .i64 many, .int .i64 first, .slice EA L.length ce, .slice VA Bs.length cv] 62)) w.heap.size 62 #[.int .i64 1, .int .i64 c, .int .i64 n, .slice RA R.length cr, .slice WA W.length cw, .int .i64 s.kind, .int .i64 s.txn, .bool s.yes, .string s.from_, .string s.to_, .int .i64 s.epoch, .int .i64 s.shard, .int .i64 s.target, .int .i64 s.root, .int .i64 G, .int .i64 D, .slice CA S.length cc, .int .i64 many, .int .i64 first, .slice EA L.length ce, .slice VA Bs.length cv] := hB0
   have hf0 : Fr (fun _ => False) w (w.alloc (Obj.cells #[.int .i64 1, .int .i64 c, .int .i64 n, .slice RA R.length cr, .slice WA W.length cw, .int .i64 s.kind, .int .i64 s.txn, .bool s.yes, .string s.from_, .string s.to_, .int .i64 s.epoch, .int .i64 s.shard, .int .i64 s.target, .int .i64 s.root, .int .i64 G, .int .i64 D, .slice CA S.length cc, .int .i64 many, .int .i64 first, .slice EA L.length ce, .slice VA Bs.length cv] 62)) := hf0
   generalize w.alloc (Obj.cells #[.int .i64 1, .int .i64 c, .int .i64 n, .slice RA R.length cr, .slice WA W.length cw, .int .i64 s.kind, .int .i64 s.txn, .bool s.yes, .string s.from_, .string s.to_, .int .i64 s.epoch, .int .i64 s.shard, .int .i64 s.target, .int .i64 s.root, .int .i64 G, .int .i64 D, .slice CA S.length cc, .int .i64 many, .int .i64 first, .slice EA L.length ce, .slice VA Bs.length cv] 62) = w0 at *
   have k0 := hB0.cell 0
   have k1 := hB0.cell 1
   have k2 := hB0.cell 2
   have k3 := hB0.cell 3
   have k4 := hB0.cell 4
   have k5 := hB0.cell 5
   have k6 := hB0.cell 6
   have k7 := hB0.cell 7
   have k8 := hB0.cell 8
   have k9 := hB0.cell 9
   have k10 := hB0.cell 10
   have k11 := hB0.cell 11
   have k12 := hB0.cell 12
   have k13 := hB0.cell 13
   go_upto_region 8 with (go_at_call 30; refine (HRt.out _ hf0).mono ?_; rintro e w1 ⟨rfl, hf01⟩)
   have hB1 := hB0.fr hf01 id
   have hf1 := hf0.then_ hf01
   clear hB0 hf0 hf01 k0 k1 k2 k3 k4 k5 k6 k7 k8 k9 k10 k11 k12 k13
   have k5 := hB1.cell 5
   have k6 := hB1.cell 6
   have k7 := hB1.cell 7
   have k8 := hB1.cell 8
   have k9 := hB1.cell 9
   have k10 := hB1.cell 10
   have k11 := hB1.cell 11
   have k12 := hB1.cell 12
   have k13 := hB1.cell 13
   go_upto_region 10 with (go_at_call 29; refine (HRs.out _).mono ?_; rintro e w2 ⟨rfl, hf12⟩)
   have hB2 := hB1.fr hf12 id
   have hf2 := hf1.then_ hf12
   clear hB1 hf1 k5 k6 k7 k8 k9 k10 k11 k12 k13
   have k14 := hB2.cell 14
   have k15 := hB2.cell 15
   have k16 := hB2.cell 16
   go_upto_region 11 with (go_at_call 93; refine (HPut.out _ hf2).mono ?_; rintro e w3 ⟨v3, rfl, hv3, hf3⟩; obtain ⟨A3, c3, rfl, _, hr3⟩ := hv3.u8row)
   have HG := Lib.hid (HGet.out _ _ c3 hr3)
   clear hr3
   go_upto_region 16 with (go_at_call 61; refine HG.out.mono ?_; rintro e w4 ⟨CX, cx, rfl, _, hf4⟩)
   have hB4 := (hB2.fr hf3 id).fr hf4 id
   have hf04 := (hf2.then_ hf3).then_ hf4
   clear k14 k15 k16
   have k17 := hB4.cell 17
   have k18 := hB4.cell 18
   have k19 := hB4.cell 19
   have k20 := hB4.cell 20
   go_wp2_with (go_at_call 94; refine (HPf.out _ hf04).mono ?_; rintro e w5 ⟨rfl, hf5⟩)
   go_ret
   exact ⟨rfl, hf04.then_ hf5⟩
 ·rcases hSay with hzs | hos
  ·rw [decide_eq_true hok] at HRt
   have HRt := Lib.hid HRt
   clear HSm hok
   have hz : zeroSay ⟨s.kind, s.txn, s.yes, s.from_, s.to_, s.epoch, s.shard, s.target, s.root⟩ = true := (zeroSay_iff s).2 hzs
   clear hzs HRs
   go_enter Tryz.func62, Tryz.ntmps62
   go_upto_region 1 with fail
   have hB0 : Blk (w.alloc (Obj.cells #[.int .i64 6, .int .i64 c, .int .i64 n, .slice RA R.length cr, .slice WA W.length cw, .int .i64 s.kind, .int .i64 s.txn, .bool s.yes, .string s.from_, .string s.to_, .int .i64 s.epoch, .int .i64 s.shard, .int .i64 s.target, .int .i64 s.root, .int .i64 G, .int .i64 D, .slice CA S.length cc, .int .i64 many, .int .i64 first, .slice EA L.length ce, .slice VA Bs.length cv] 62)) w.heap.size 62 #[.int .i64 6, .int .i64 c, .int .i64 n, .slice RA R.length cr, .slice WA W.length cw, .int .i64 s.kind, .int .i64 s.txn, .bool s.yes, .string s.from_, .string s.to_, .int .i64 s.epoch, .int .i64 s.shard, .int .i64 s.target, .int .i64 s.root, .int .i64 G, .int .i64 D, .slice CA S.length cc, .int .i64 many, .int .i64 first, .slice EA L.length ce, .slice VA Bs.length cv] := hB0
   have hf0 : Fr (fun _ => False) w (w.alloc (Obj.cells #[.int .i64 6, .int .i64 c, .int .i64 n, .slice RA R.length cr, .slice WA W.length cw, .int .i64 s.kind, .int .i64 s.txn, .bool s.yes, .string s.from_, .string s.to_, .int .i64 s.epoch, .int .i64 s.shard, .int .i64 s.target, .int .i64 s.root, .int .i64 G, .int .i64 D, .slice CA S.length cc, .int .i64 many, .int .i64 first, .slice EA L.length ce, .slice VA Bs.length cv] 62)) := hf0
   generalize w.alloc (Obj.cells #[.int .i64 6, .int .i64 c, .int .i64 n, .slice RA R.length cr, .slice WA W.length cw, .int .i64 s.kind, .int .i64 s.txn, .bool s.yes, .string s.from_, .string s.to_, .int .i64 s.epoch, .int .i64 s.shard, .int .i64 s.target, .int .i64 s.root, .int .i64 G, .int .i64 D, .slice CA S.length cc, .int .i64 many, .int .i64 first, .slice EA L.length ce, .slice VA Bs.length cv] 62) = w0 at *
   have k0 := hB0.cell 0
   have k1 := hB0.cell 1
   have k2 := hB0.cell 2
   have k3 := hB0.cell 3
   have k4 := hB0.cell 4
   have k5 := hB0.cell 5
   have k6 := hB0.cell 6
   have k7 := hB0.cell 7
   have k8 := hB0.cell 8
   have k9 := hB0.cell 9
   have k10 := hB0.cell 10
   have k11 := hB0.cell 11
   have k12 := hB0.cell 12
   have k13 := hB0.cell 13
   go_upto_region 8 with (go_at_call 30; refine (HRt.out _ hf0).mono ?_; rintro e w1 ⟨rfl, hf01⟩)
   have hB1 := hB0.fr hf01 id
   have hf1 := hf0.then_ hf01
   clear hB0 hf0 hf01 k0 k1 k2 k3 k4 k5 k6 k7 k8 k9 k10 k11 k12 k13
   have k5 := hB1.cell 5
   have k6 := hB1.cell 6
   have k7 := hB1.cell 7
   have k8 := hB1.cell 8
   have k9 := hB1.cell 9
   have k10 := hB1.cell 10
   have k11 := hB1.cell 11
   have k12 := hB1.cell 12
   have k13 := hB1.cell 13
   go_upto_region 10 with fail
   have hB2 := hB1
   have hf2 := hf1
   generalize w1 = w2 at *
   clear hB1 hf1 k5 k6 k7 k8 k9 k10 k11 k12 k13
   have k14 := hB2.cell 14
   have k15 := hB2.cell 15
   have k16 := hB2.cell 16
   go_upto_region 11 with (go_at_call 93; refine (HPut.out _ hf2).mono ?_; rintro e w3 ⟨v3, rfl, hv3, hf3⟩; obtain ⟨A3, c3, rfl, _, hr3⟩ := hv3.u8row)
   have HG := Lib.hid (HGet.out _ _ c3 hr3)
   clear hr3
   go_upto_region 16 with (go_at_call 61; refine HG.out.mono ?_; rintro e w4 ⟨CX, cx, rfl, _, hf4⟩)
   have hB4 := (hB2.fr hf3 id).fr hf4 id
   have hf04 := (hf2.then_ hf3).then_ hf4
   clear k14 k15 k16
   have k17 := hB4.cell 17
   have k18 := hB4.cell 18
   have k19 := hB4.cell 19
   have k20 := hB4.cell 20
   go_wp2_with (go_at_call 94; refine (HPf.out _ hf04).mono ?_; rintro e w5 ⟨rfl, hf5⟩)
   go_ret
   exact ⟨rfl, hf04.then_ hf5⟩
  ·rw [decide_eq_true hok] at HRt
   have HRt := Lib.hid HRt
   clear HSm hok
   have hz : zeroSay ⟨s.kind, s.txn, s.yes, s.from_, s.to_, s.epoch, s.shard, s.target, s.root⟩ = false := by
    have : ¬ zeroSay s = true := fun e => by have e := (zeroSay_iff s).1 e; rw [e] at hos; exact hos.1 (by decide)
    simpa using this
   simp only [hos, decide_true] at HRs
   have HRs := Lib.hid HRs
   clear hos
   go_enter Tryz.func62, Tryz.ntmps62
   go_upto_region 1 with fail
   have hB0 : Blk (w.alloc (Obj.cells #[.int .i64 6, .int .i64 c, .int .i64 n, .slice RA R.length cr, .slice WA W.length cw, .int .i64 s.kind, .int .i64 s.txn, .bool s.yes, .string s.from_, .string s.to_, .int .i64 s.epoch, .int .i64 s.shard, .int .i64 s.target, .int .i64 s.root, .int .i64 G, .int .i64 D, .slice CA S.length cc, .int .i64 many, .int .i64 first, .slice EA L.length ce, .slice VA Bs.length cv] 62)) w.heap.size 62 #[.int .i64 6, .int .i64 c, .int .i64 n, .slice RA R.length cr, .slice WA W.length cw, .int .i64 s.kind, .int .i64 s.txn, .bool s.yes, .string s.from_, .string s.to_, .int .i64 s.epoch, .int .i64 s.shard, .int .i64 s.target, .int .i64 s.root, .int .i64 G, .int .i64 D, .slice CA S.length cc, .int .i64 many, .int .i64 first, .slice EA L.length ce, .slice VA Bs.length cv] := hB0
   have hf0 : Fr (fun _ => False) w (w.alloc (Obj.cells #[.int .i64 6, .int .i64 c, .int .i64 n, .slice RA R.length cr, .slice WA W.length cw, .int .i64 s.kind, .int .i64 s.txn, .bool s.yes, .string s.from_, .string s.to_, .int .i64 s.epoch, .int .i64 s.shard, .int .i64 s.target, .int .i64 s.root, .int .i64 G, .int .i64 D, .slice CA S.length cc, .int .i64 many, .int .i64 first, .slice EA L.length ce, .slice VA Bs.length cv] 62)) := hf0
   generalize w.alloc (Obj.cells #[.int .i64 6, .int .i64 c, .int .i64 n, .slice RA R.length cr, .slice WA W.length cw, .int .i64 s.kind, .int .i64 s.txn, .bool s.yes, .string s.from_, .string s.to_, .int .i64 s.epoch, .int .i64 s.shard, .int .i64 s.target, .int .i64 s.root, .int .i64 G, .int .i64 D, .slice CA S.length cc, .int .i64 many, .int .i64 first, .slice EA L.length ce, .slice VA Bs.length cv] 62) = w0 at *
   have k0 := hB0.cell 0
   have k1 := hB0.cell 1
   have k2 := hB0.cell 2
   have k3 := hB0.cell 3
   have k4 := hB0.cell 4
   have k5 := hB0.cell 5
   have k6 := hB0.cell 6
   have k7 := hB0.cell 7
   have k8 := hB0.cell 8
   have k9 := hB0.cell 9
   have k10 := hB0.cell 10
   have k11 := hB0.cell 11
   have k12 := hB0.cell 12
   have k13 := hB0.cell 13
   go_upto_region 8 with (go_at_call 30; refine (HRt.out _ hf0).mono ?_; rintro e w1 ⟨rfl, hf01⟩)
   have hB1 := hB0.fr hf01 id
   have hf1 := hf0.then_ hf01
   clear hB0 hf0 hf01 k0 k1 k2 k3 k4 k5 k6 k7 k8 k9 k10 k11 k12 k13
   have k5 := hB1.cell 5
   have k6 := hB1.cell 6
   have k7 := hB1.cell 7
   have k8 := hB1.cell 8
   have k9 := hB1.cell 9
   have k10 := hB1.cell 10
   have k11 := hB1.cell 11
   have k12 := hB1.cell 12
   have k13 := hB1.cell 13
   go_upto_region 10 with (go_at_call 29; refine (HRs.out _).mono ?_; rintro e w2 ⟨rfl, hf12⟩)
   have hB2 := hB1.fr hf12 id
   have hf2 := hf1.then_ hf12
   clear hB1 hf1 k5 k6 k7 k8 k9 k10 k11 k12 k13
   have k14 := hB2.cell 14
   have k15 := hB2.cell 15
   have k16 := hB2.cell 16
   go_upto_region 11 with (go_at_call 93; refine (HPut.out _ hf2).mono ?_; rintro e w3 ⟨v3, rfl, hv3, hf3⟩; obtain ⟨A3, c3, rfl, _, hr3⟩ := hv3.u8row)
   have HG := Lib.hid (HGet.out _ _ c3 hr3)
   clear hr3
   go_upto_region 16 with (go_at_call 61; refine HG.out.mono ?_; rintro e w4 ⟨CX, cx, rfl, _, hf4⟩)
   have hB4 := (hB2.fr hf3 id).fr hf4 id
   have hf04 := (hf2.then_ hf3).then_ hf4
   clear k14 k15 k16
   have k17 := hB4.cell 17
   have k18 := hB4.cell 18
   have k19 := hB4.cell 19
   have k20 := hB4.cell 20
   go_wp2_with (go_at_call 94; refine (HPf.out _ hf04).mono ?_; rintro e w5 ⟨rfl, hf5⟩)
   go_ret
   exact ⟨rfl, hf04.then_ hf5⟩
 ·rcases hSay with hzs | hos
  ·have HSm := fun w' hf => HSm w' hf (by simp) (by simp)
   rw [decide_eq_true (p := (0 : Int) = 0 ∧ (0 : Int) = 0 ∧ ([] : List (ByteArray × Int)) = [] ∧ ([] : List (ByteArray × ByteArray)) = []) ⟨rfl, rfl, rfl, rfl⟩] at HSm
   have HSm : Hid (∀ w' (hf : Fr (fun _ => False) w w'), Calls Tryz.prog 22 #[.agg #[.int .i64 0, .int .i64 0, .slice RA 0 cr, .slice WA 0 cw], .agg #[.int .i64 0, .int .i64 0, .slice none 0 0, .slice none 0 0]] w' (OkB w' true)) := HSm
   clear HRt
   have q1' : (kind == 1) = false := by simp [q1]
   have q6' : (kind == 6) = false := by simp [q6]
   have hz : zeroSay ⟨s.kind, s.txn, s.yes, s.from_, s.to_, s.epoch, s.shard, s.target, s.root⟩ = true := (zeroSay_iff s).2 hzs
   clear hzs HRs
   go_enter Tryz.func62, Tryz.ntmps62
   go_upto_region 1 with fail
   have hB0 : Blk (w.alloc (Obj.cells #[.int .i64 kind, .int .i64 0, .int .i64 0, .slice RA 0 cr, .slice WA 0 cw, .int .i64 s.kind, .int .i64 s.txn, .bool s.yes, .string s.from_, .string s.to_, .int .i64 s.epoch, .int .i64 s.shard, .int .i64 s.target, .int .i64 s.root, .int .i64 G, .int .i64 D, .slice CA S.length cc, .int .i64 many, .int .i64 first, .slice EA L.length ce, .slice VA Bs.length cv] 62)) w.heap.size 62 #[.int .i64 kind, .int .i64 0, .int .i64 0, .slice RA 0 cr, .slice WA 0 cw, .int .i64 s.kind, .int .i64 s.txn, .bool s.yes, .string s.from_, .string s.to_, .int .i64 s.epoch, .int .i64 s.shard, .int .i64 s.target, .int .i64 s.root, .int .i64 G, .int .i64 D, .slice CA S.length cc, .int .i64 many, .int .i64 first, .slice EA L.length ce, .slice VA Bs.length cv] := hB0
   have hf0 : Fr (fun _ => False) w (w.alloc (Obj.cells #[.int .i64 kind, .int .i64 0, .int .i64 0, .slice RA 0 cr, .slice WA 0 cw, .int .i64 s.kind, .int .i64 s.txn, .bool s.yes, .string s.from_, .string s.to_, .int .i64 s.epoch, .int .i64 s.shard, .int .i64 s.target, .int .i64 s.root, .int .i64 G, .int .i64 D, .slice CA S.length cc, .int .i64 many, .int .i64 first, .slice EA L.length ce, .slice VA Bs.length cv] 62)) := hf0
   generalize w.alloc (Obj.cells #[.int .i64 kind, .int .i64 0, .int .i64 0, .slice RA 0 cr, .slice WA 0 cw, .int .i64 s.kind, .int .i64 s.txn, .bool s.yes, .string s.from_, .string s.to_, .int .i64 s.epoch, .int .i64 s.shard, .int .i64 s.target, .int .i64 s.root, .int .i64 G, .int .i64 D, .slice CA S.length cc, .int .i64 many, .int .i64 first, .slice EA L.length ce, .slice VA Bs.length cv] 62) = w0 at *
   have k0 := hB0.cell 0
   have k1 := hB0.cell 1
   have k2 := hB0.cell 2
   have k3 := hB0.cell 3
   have k4 := hB0.cell 4
   have k5 := hB0.cell 5
   have k6 := hB0.cell 6
   have k7 := hB0.cell 7
   have k8 := hB0.cell 8
   have k9 := hB0.cell 9
   have k10 := hB0.cell 10
   have k11 := hB0.cell 11
   have k12 := hB0.cell 12
   have k13 := hB0.cell 13
   go_upto_region 8 with (go_at_call 22; refine (HSm.out _ hf0).mono ?_; rintro e w1 ⟨rfl, hf01⟩)
   have hB1 := hB0.fr hf01 id
   have hf1 := hf0.then_ hf01
   clear hB0 hf0 hf01 k0 k1 k2 k3 k4 k5 k6 k7 k8 k9 k10 k11 k12 k13
   have k5 := hB1.cell 5
   have k6 := hB1.cell 6
   have k7 := hB1.cell 7
   have k8 := hB1.cell 8
   have k9 := hB1.cell 9
   have k10 := hB1.cell 10
   have k11 := hB1.cell 11
   have k12 := hB1.cell 12
   have k13 := hB1.cell 13
   go_upto_region 10 with fail
   have hB2 := hB1
   have hf2 := hf1
   generalize w1 = w2 at *
   clear hB1 hf1 k5 k6 k7 k8 k9 k10 k11 k12 k13
   have k14 := hB2.cell 14
   have k15 := hB2.cell 15
   have k16 := hB2.cell 16
   go_upto_region 11 with (go_at_call 93; refine (HPut.out _ hf2).mono ?_; rintro e w3 ⟨v3, rfl, hv3, hf3⟩; obtain ⟨A3, c3, rfl, _, hr3⟩ := hv3.u8row)
   have HG := Lib.hid (HGet.out _ _ c3 hr3)
   clear hr3
   go_upto_region 16 with (go_at_call 61; refine HG.out.mono ?_; rintro e w4 ⟨CX, cx, rfl, _, hf4⟩)
   have hB4 := (hB2.fr hf3 id).fr hf4 id
   have hf04 := (hf2.then_ hf3).then_ hf4
   clear k14 k15 k16
   have k17 := hB4.cell 17
   have k18 := hB4.cell 18
   have k19 := hB4.cell 19
   have k20 := hB4.cell 20
   go_wp2_with (go_at_call 94; refine (HPf.out _ hf04).mono ?_; rintro e w5 ⟨rfl, hf5⟩)
   go_ret
   exact ⟨rfl, hf04.then_ hf5⟩
  ·have HSm := fun w' hf => HSm w' hf (by simp) (by simp)
   rw [decide_eq_true (p := (0 : Int) = 0 ∧ (0 : Int) = 0 ∧ ([] : List (ByteArray × Int)) = [] ∧ ([] : List (ByteArray × ByteArray)) = []) ⟨rfl, rfl, rfl, rfl⟩] at HSm
   have HSm : Hid (∀ w' (hf : Fr (fun _ => False) w w'), Calls Tryz.prog 22 #[.agg #[.int .i64 0, .int .i64 0, .slice RA 0 cr, .slice WA 0 cw], .agg #[.int .i64 0, .int .i64 0, .slice none 0 0, .slice none 0 0]] w' (OkB w' true)) := HSm
   clear HRt
   have q1' : (kind == 1) = false := by simp [q1]
   have q6' : (kind == 6) = false := by simp [q6]
   have hz : zeroSay ⟨s.kind, s.txn, s.yes, s.from_, s.to_, s.epoch, s.shard, s.target, s.root⟩ = false := by
    have : ¬ zeroSay s = true := fun e => by have e := (zeroSay_iff s).1 e; rw [e] at hos; exact hos.1 (by decide)
    simpa using this
   simp only [hos, decide_true] at HRs
   have HRs := Lib.hid HRs
   clear hos
   go_enter Tryz.func62, Tryz.ntmps62
   go_upto_region 1 with fail
   have hB0 : Blk (w.alloc (Obj.cells #[.int .i64 kind, .int .i64 0, .int .i64 0, .slice RA 0 cr, .slice WA 0 cw, .int .i64 s.kind, .int .i64 s.txn, .bool s.yes, .string s.from_, .string s.to_, .int .i64 s.epoch, .int .i64 s.shard, .int .i64 s.target, .int .i64 s.root, .int .i64 G, .int .i64 D, .slice CA S.length cc, .int .i64 many, .int .i64 first, .slice EA L.length ce, .slice VA Bs.length cv] 62)) w.heap.size 62 #[.int .i64 kind, .int .i64 0, .int .i64 0, .slice RA 0 cr, .slice WA 0 cw, .int .i64 s.kind, .int .i64 s.txn, .bool s.yes, .string s.from_, .string s.to_, .int .i64 s.epoch, .int .i64 s.shard, .int .i64 s.target, .int .i64 s.root, .int .i64 G, .int .i64 D, .slice CA S.length cc, .int .i64 many, .int .i64 first, .slice EA L.length ce, .slice VA Bs.length cv] := hB0
   have hf0 : Fr (fun _ => False) w (w.alloc (Obj.cells #[.int .i64 kind, .int .i64 0, .int .i64 0, .slice RA 0 cr, .slice WA 0 cw, .int .i64 s.kind, .int .i64 s.txn, .bool s.yes, .string s.from_, .string s.to_, .int .i64 s.epoch, .int .i64 s.shard, .int .i64 s.target, .int .i64 s.root, .int .i64 G, .int .i64 D, .slice CA S.length cc, .int .i64 many, .int .i64 first, .slice EA L.length ce, .slice VA Bs.length cv] 62)) := hf0
   generalize w.alloc (Obj.cells #[.int .i64 kind, .int .i64 0, .int .i64 0, .slice RA 0 cr, .slice WA 0 cw, .int .i64 s.kind, .int .i64 s.txn, .bool s.yes, .string s.from_, .string s.to_, .int .i64 s.epoch, .int .i64 s.shard, .int .i64 s.target, .int .i64 s.root, .int .i64 G, .int .i64 D, .slice CA S.length cc, .int .i64 many, .int .i64 first, .slice EA L.length ce, .slice VA Bs.length cv] 62) = w0 at *
   have k0 := hB0.cell 0
   have k1 := hB0.cell 1
   have k2 := hB0.cell 2
   have k3 := hB0.cell 3
   have k4 := hB0.cell 4
   have k5 := hB0.cell 5
   have k6 := hB0.cell 6
   have k7 := hB0.cell 7
   have k8 := hB0.cell 8
   have k9 := hB0.cell 9
   have k10 := hB0.cell 10
   have k11 := hB0.cell 11
   have k12 := hB0.cell 12
   have k13 := hB0.cell 13
   go_upto_region 8 with (go_at_call 22; refine (HSm.out _ hf0).mono ?_; rintro e w1 ⟨rfl, hf01⟩)
   have hB1 := hB0.fr hf01 id
   have hf1 := hf0.then_ hf01
   clear hB0 hf0 hf01 k0 k1 k2 k3 k4 k5 k6 k7 k8 k9 k10 k11 k12 k13
   have k5 := hB1.cell 5
   have k6 := hB1.cell 6
   have k7 := hB1.cell 7
   have k8 := hB1.cell 8
   have k9 := hB1.cell 9
   have k10 := hB1.cell 10
   have k11 := hB1.cell 11
   have k12 := hB1.cell 12
   have k13 := hB1.cell 13
   go_upto_region 10 with (go_at_call 29; refine (HRs.out _).mono ?_; rintro e w2 ⟨rfl, hf12⟩)
   have hB2 := hB1.fr hf12 id
   have hf2 := hf1.then_ hf12
   clear hB1 hf1 k5 k6 k7 k8 k9 k10 k11 k12 k13
   have k14 := hB2.cell 14
   have k15 := hB2.cell 15
   have k16 := hB2.cell 16
   go_upto_region 11 with (go_at_call 93; refine (HPut.out _ hf2).mono ?_; rintro e w3 ⟨v3, rfl, hv3, hf3⟩; obtain ⟨A3, c3, rfl, _, hr3⟩ := hv3.u8row)
   have HG := Lib.hid (HGet.out _ _ c3 hr3)
   clear hr3
   go_upto_region 16 with (go_at_call 61; refine HG.out.mono ?_; rintro e w4 ⟨CX, cx, rfl, _, hf4⟩)
   have hB4 := (hB2.fr hf3 id).fr hf4 id
   have hf04 := (hf2.then_ hf3).then_ hf4
   clear k14 k15 k16
   have k17 := hB4.cell 17
   have k18 := hB4.cell 18
   have k19 := hB4.cell 19
   have k20 := hB4.cell 20
   go_wp2_with (go_at_call 94; refine (HPf.out _ hf04).mono ?_; rintro e w5 ⟨rfl, hf5⟩)
   go_ret
   exact ⟨rfl, hf04.then_ hf5⟩
end Go.Proofs.YtmkdhhhoodeemaaGreat

/- cohortlaw19: RelayBack. -/
namespace Go.Proofs.YtmkdhhhoodeemaaGreat
open Go Go.RowKit
theorem run_eqSay2 (k t : Int) (y : Bool) (f g : ByteArray) (e sh ta r : Int) (w : World) : (Op.equalIn 10000 23 (.agg #[.int .i64 k, .int .i64 t, .bool y, .string f, .string g, .int .i64 e, .int .i64 sh, .int .i64 ta, .int .i64 r]) (.agg #[.int .i64 k, .int .i64 t, .bool y, .string f, .string g, .int .i64 e, .int .i64 sh, .int .i64 ta, .int .i64 r])).run Tryz.prog w = .ok true w := by
 have u1 := Tryz.underlying3
 have u2 := Tryz.underlying2
 have u3 := Tryz.underlying4
 have u4 := Tryz.underlying9
 rw [show (10000 : Nat) = 9999 + 1 from rfl, run_equalIn_struct w 9999 23 _ _ say_fields say_stood]
 simp only [Program.fieldsOf, Tryz.underlying23]
 go_simp
theorem run_neqSay2 (k t : Int) (y : Bool) (f g : ByteArray) (e sh ta r : Int) (w : World) : (binOp .neq 23 (.agg #[.int .i64 k, .int .i64 t, .bool y, .string f, .string g, .int .i64 e, .int .i64 sh, .int .i64 ta, .int .i64 r]) (.agg #[.int .i64 k, .int .i64 t, .bool y, .string f, .string g, .int .i64 e, .int .i64 sh, .int .i64 ta, .int .i64 r])).run Tryz.prog w = .ok (.bool false) w := by
 rw [run_neq_struct, run_eqSay2 k t y f g e sh ta r w]
 rfl
end Go.Proofs.YtmkdhhhoodeemaaGreat

/- cohortref11: GetOrder of what relay.Orders gives. -/
namespace Go.Proofs.YtmkdhhhoodeemaaGreat
open Go Go.RowKit
/-- An order that may be. -/
structure OrdOk (o : OrdD) : Prop where
 k : (o.kind = 1 ∧ IsTxn o.t0) ∨ ((2 ≤ o.kind ∧ o.kind ≤ 10 ∧ ¬ o.kind = 6) ∧ o.t0 = [])
 r : risesE o.own = true
 bl : o.Bs.length ≤ 1024
 bd : ∀ d ∈ o.Bs, 0 ≤ d ∧ d ≤ 2147483647
theorem beside_ok {L : List (List Int)} (hL : L.length < 65536) (own : List Ent) : (besideOf L own).length ≤ 1024 ∧ ∀ d ∈ besideOf L own, 0 ≤ d ∧ d ≤ 2147483647 := by
 unfold besideOf
 split
 ·refine ⟨by simp, fun d hd => ?_⟩
  rw [List.mem_singleton.1 hd]
  have : digI L noneB ≤ L.length := by
   unfold digI
   split
   ·exact List.idxOf_le_length
   ·exact Nat.le_refl _
  omega
 ·exact ⟨by simp, fun d hd => by cases hd⟩
theorem rises_nil : risesE [] = true := rfl
theorem ordF_ok {L1 : List (List Int)} (hL : L1.length < 65536) {G : Int} {s : SayD} {ss : List Int} {l : List Ent} {o : OrdD} (h : ordF L1 G s ss l = some o) : OrdOk o := by
 have zero : ∀ (gg : List Int) (k : Int), (2 ≤ k ∧ k ≤ 10 ∧ ¬ k = 6) → OrdOk ⟨gg, k, [], [], []⟩ := fun gg k hk => ⟨.inr ⟨hk, rfl⟩, rises_nil, by simp, fun d hd => by cases hd⟩
 unfold ordF at h
 split at h
 ·split at h
  ·cases h; exact zero _ _ (by decide)
  ·split at h
   ·cases h; exact zero _ _ (by decide)
   ·split at h
    ·cases h; exact zero _ _ (by decide)
    ·split at h
     ·split at h
      ·rename_i hT
       cases h
       exact ⟨.inl ⟨rfl, hT⟩, rises_nil, by simp, fun d hd => by cases hd⟩
      ·cases h
     ·cases h
 ·split at h
  ·split at h
   ·cases h; exact zero _ _ (by decide)
   ·cases h
  ·split at h
   ·split at h
    ·cases h; exact zero _ _ (by decide)
    ·cases h
   ·split at h
    ·split at h
     ·rename_i hT
      cases h
      obtain ⟨h1, h2⟩ := beside_ok hL (keepE s.from_ s.to_ l)
      exact ⟨.inr ⟨⟨by dsimp only; decide, by dsimp only; decide, by dsimp only; decide⟩, rfl⟩, hT.2, h1, h2⟩
     ·cases h
    ·cases h
/-- The order read. -/
def SemGot (w : World) (o : OrdD) (s : SayD) (G D : Int) (xs : List Int) (e : Ending) (w' : World) : Prop :=
 ∃ c n R W, ((o.kind = 1 ∧ TOk c n R W ∧ o.t0 = txnB c n R W) ∨ ¬ o.kind = 1) ∧ FewT R W ∧ OrdGot w o.kind c n R W s G D xs o.own.length 0 o.own o.Bs e w'
theorem certB_G (G D : Int) (xs : List Int) : certB G D xs = certG G D xs := by simp [certB, certG]
theorem getOrder_sem {w : World} {F : Nat → Prop} {A : Option Addr} {cap : Nat} {o : OrdD} (ho : OrdOk o) {s : SayD} (hs : OkSay s) {G D : Int} {xs : List Int} (hG : 0 ≤ G ∧ G ≤ 2147483647) (hD : 0 ≤ D ∧ D ≤ 2147483647) (hx : xs.length ≤ 1024) (hxe : ∀ y ∈ xs, 0 ≤ y ∧ y ≤ 2147483647) (hv : ∀ x ∈ o.own, -9223372036854775808 ≤ x.2.2 ∧ x.2.2 ≤ 9223372036854775807)
  (hr : ByteRow w F A (ordBB (sayB s) (certB G D xs) (some o))) :
  Calls Tryz.prog 19 #[.slice A (ordBB (sayB s) (certB G D xs) (some o)).length cap] w (SemGot w o s G D xs) := by
 obtain ⟨hll, hlk⟩ := rises_fit ho.r
 have hws : wordB s = sayB s := if_pos hs
 have hsl : (sayB s).length ≤ 65536 := by have := sayB_short s; rwa [hws] at this
 have hcl := certB_len (G := G) (D := D) hx
 have hsp : 0 < (sayB s).length := by have := (sayB_length hs).1; omega
 have hfew : ∀ {c n : Int} {R : List (ByteArray × Int)} {W : List (ByteArray × ByteArray)}, TOk c n R W → FewT R W := fun h => ⟨by have := rises_len h.2.2.2.2.2.1; omega, by have := rises_len h.2.2.2.2.2.2; omega, by have := rises_len h.2.2.2.2.2.1; have := rises_len h.2.2.2.2.2.2; omega⟩
 rcases ho.k with ⟨hk, c, n, R, W, hT, ht0⟩ | ⟨⟨h2, h10, h6⟩, ht0⟩
 ·have hlen := ordB_len (kind := o.kind) (many := o.own.length) (first := 0) (a := o.t0) (b := sayB s) (c := certB G D xs) (l := o.own) (Bs := o.Bs) (by rw [ht0]; exact txnB_len hT) hsl hcl ho.r ho.bl
  refine (ref11_GetOrder (c := c) (n := n) (R := R) (W := W) (s := s) (G := G) (D := D) (S := xs) hr (Nat.le_trans hlen (by decide)) (by omega) (by omega) (by rw [ht0]; exact txnB_len hT) hsl hcl (by omega) (by omega) (by omega) (by omega) hll (fun x h => by have := hlk x h; have := hv x h; omega) ho.bl (fun y h => by have := ho.bd y h; omega) (.inr ⟨by rw [ht0]; simp [txnB, num8_length]; omega, fun w' F' A' cap' h => by rw [ht0] at h ⊢; exact ref10_Get h hT⟩) (.inr ⟨hsp, fun w' F' A' cap' h => ref11_Get h hs⟩) (fun w' F' A' cap' h => ?_) (fun w' RA cr WA cw CA cc EA ce VA cv h1 h2 h3 h4 h5 => ?_)).mono ?_
  ·rw [certB_G] at h ⊢
   exact ref05_Get h hx hG hD hxe
  ·exact ref11_RightOrder h1 h2 h3 h4 h5 (by omega) (by omega) (.inl ⟨.inl hk, hT⟩) (.inr hs) hx hG hD hxe (by omega) (by omega) (by omega) (by omega) hll hlk ho.bl ho.bd
  ·exact fun e w' h => ⟨c, n, R, W, .inl ⟨hk, hT, ht0⟩, hfew hT, h⟩
 ·have hlen := ordB_len (kind := o.kind) (many := o.own.length) (first := 0) (a := o.t0) (b := sayB s) (c := certB G D xs) (l := o.own) (Bs := o.Bs) (by rw [ht0]; simp) hsl hcl ho.r ho.bl
  refine (ref11_GetOrder (c := 0) (n := 0) (R := []) (W := []) (s := s) (G := G) (D := D) (S := xs) hr (Nat.le_trans hlen (by decide)) (by omega) (by omega) (by rw [ht0]; simp) hsl hcl (by omega) (by omega) (by omega) (by omega) hll (fun x h => by have := hlk x h; have := hv x h; omega) ho.bl (fun y h => by have := ho.bd y h; omega) (.inl ⟨by rw [ht0]; rfl, rfl, rfl, rfl, rfl⟩) (.inr ⟨hsp, fun w' F' A' cap' h => ref11_Get h hs⟩) (fun w' F' A' cap' h => ?_) (fun w' RA cr WA cw CA cc EA ce VA cv h1 h2 h3 h4 h5 => ?_)).mono ?_
  ·rw [certB_G] at h ⊢
   exact ref05_Get h hx hG hD hxe
  ·exact ref11_RightOrder h1 h2 h3 h4 h5 (by omega) (by omega) (.inr ⟨⟨by omega, by omega⟩, rfl, rfl, rfl, rfl⟩) (.inr hs) hx hG hD hxe (by omega) (by omega) (by omega) (by omega) hll hlk ho.bl ho.bd
  ·exact fun e w' h => ⟨0, 0, [], [], .inr (by omega), ⟨by simp, by simp, .inl (by simp)⟩, h⟩
end Go.Proofs.YtmkdhhhoodeemaaGreat

/- World.Sign: the document's seals too. -/
namespace Go.Proofs.YtmkdhhhoodeemaaGreat
open Go Go.RowKit
def WSignX (w : World) (lo gw g m base : Nat) (v : Value) (L : List (List Int)) (gs ms : Nat) (SL : List (Int × Int)) (gD bD : Nat) (vD : Value) (LD : List (List Int)) (gQ bQ : Nat) (SQ : List (Int × Int)) (e : Ending) (w' : World) : Prop :=
 ∃ r vQ', e = .returned r ∧ WSAt w' lo gw g m base v L gs ms SL gD bD vD LD gQ bQ vQ' SQ ∧ St lo w w'
set_option maxRecDepth 100000 in
set_option maxHeartbeats 1000000 in
theorem law12_SignX {w : World} {lo gw g m base : Nat} {v : Value} {L : List (List Int)} {gs ms : Nat} {SL : List (Int × Int)} {gD bD : Nat} {vD : Value} {LD : List (List Int)} {gQ bQ : Nat} {vQ : Value} {SQ : List (Int × Int)} {nQ : Nat} (h : WSAt w lo gw g m base v L gs ms SL gD bD vD LD gQ bQ vQ SQ) (hq : SQ.length ≤ nQ) (hn : nQ < 131000) (gr mask d : Int) :
  Calls Tryz.prog 13 #[.pointer (some ⟨gw, 0, none⟩), .int .i64 gr, .int .i64 mask, .int .i64 d] w (WSignX w lo gw g m base v L gs ms (signTo gr mask d SL 10) gD bD vD LD gQ bQ (signTo gr mask d SQ 10)) := by
 have hlo : lo ≤ w.heap.size := Nat.le_trans h.lo_b h.b_le
 have HQ : Hid (SQ.length ≤ nQ) := hq
 have HN : Hid (nQ < 131000) := hn
 clear hq hn
 go_enter Tryz.func13, Tryz.ntmps13
 go_upto_region 2 with fail
 have hmx : (if d < 0 then (0 : Int) else d) = max d 0 := by split <;> omega
 try rw [hmx]
 generalize max d 0 = dm
 have hB8 : Blk ((w.alloc (Obj.cells #[.int .i64 0, .int .i64 0, .slice none 0 0] 41)).alloc (Obj.cells #[.int .i64 gr, .int .i64 dm, .slice none 0 0] 41)) w.heap.size 41 #[.int .i64 0, .int .i64 0, .slice none 0 0] := (Blk.new w _ _).alloc _
 have hB9 : Blk ((w.alloc (Obj.cells #[.int .i64 0, .int .i64 0, .slice none 0 0] 41)).alloc (Obj.cells #[.int .i64 gr, .int .i64 dm, .slice none 0 0] 41)) (w.heap.size + 1) 41 #[.int .i64 gr, .int .i64 dm, .slice none 0 0] := Blk.new_ _ _ _ (by simp)
 have hf0 : Fr (fun _ => False) w ((w.alloc (Obj.cells #[.int .i64 0, .int .i64 0, .slice none 0 0] 41)).alloc (Obj.cells #[.int .i64 gr, .int .i64 dm, .slice none 0 0] 41)) := ((Fr.refl _ _).alloc _).alloc _
 have H0 := Lib.hid (h.keep hf0)
 have HST := Lib.hid (St.of lo hf0)
 have hn0 : ((w.alloc (Obj.cells #[.int .i64 0, .int .i64 0, .slice none 0 0] 41)).alloc (Obj.cells #[.int .i64 gr, .int .i64 dm, .slice none 0 0] 41)).ownsRow w.heap.size 3 1 (.slice none 0 0) 0 [] := ⟨rfl, .inl ⟨rfl, rfl⟩⟩
 clear h hf0
 go_wp2_with fail
 go_loopw [10] (fun ix wr => ∃ (k n : Nat) (vQ va : Value) (xs : List Value), k ≤ 10 ∧ n ≤ k ∧ ix = .int .i64 k ∧ WSAt wr lo gw g m base v L gs ms (signTo gr mask d SL k) gD bD vD LD gQ bQ vQ (signTo gr mask d SQ k) ∧ Blk wr w.heap.size 41 #[.int .i64 0, .int .i64 0, .slice none 0 0] ∧ Blk wr (w.heap.size + 1) 41 #[.int .i64 gr, .int .i64 dm, va] ∧ wr.ownsRow w.heap.size 3 1 va n xs ∧ St lo w wr) (fun ix _ => 10 - (intOf ix).toNat)
 case atStart => exact ⟨0, 0, vQ, .slice none 0 0, [], by omega, by omega, rfl, H0.out, hB8, hB9, hn0, HST.out⟩
 case round =>
  clear hB8 hB9 hn0
  obtain ⟨k, n, vQ, va, xs, hk, hnk, rfl, h, hB8, hB9, hown, hst⟩ := hrel
  obtain ⟨A, cap, rfl, _, _⟩ := own_form hown
  by_cases hlt : k < 10
  ·cases hbit : bitOn mask k with
   | true =>
    have hb' : (bits .and .i64 (mask / 2 ^ k) 1 == 1) = true := hbit
    have HBI := Lib.hid hbit
    have c1 := h.blk.cell 1
    have hszq := signTo_len gr mask d SQ k
    have HSQ : Hid ((signTo gr mask d SQ k).length < 131072) := by have := HQ.out; have := HN.out; show _ < _; omega
    clear hbit hszq
    go_wp2_with (go_at_call 37; refine (ref04_Member gr k _).mono ?_; rintro e w' ⟨rfl, rfl⟩)
    refine (seals_Sign h.bs.seals (memberOf gr k) d (memberOf_le gr k)).mono ?_
    rintro e w2 ⟨rfl, hs2, hf2⟩
    obtain ⟨h2, hst2⟩ := h.step (h.bs.sealStep hs2 hf2) (hf2.mono (fun k _ e => .inr (.inr (.inr e))))
    generalize errO (signErr (memberOf gr k) d (signTo gr mask d SL k)) = rv
    have c3 := h2.blk.cell 3
    clear c1 hs2 hf2
    go_wp2_with fail
    refine (ref04_Sign h2.rq h2.bQ_le HSQ.out (memberOf gr k) d).mono ?_
    rintro e w3 ⟨v3, rfl, hr3, hf3⟩
    obtain ⟨h3, hst3⟩ := h2.stepQ hr3 hf3
    have hst13 := (hst.trans hst2).trans hst3
    have hst23 := hst2.trans hst3
    have hB83 := hst23.blk _ _ _ hB8 (by decide)
    have hB93 := hst23.blk _ _ _ hB9 (by decide)
    have hown3 := own_st hown hst23 (by decide)
    have hc2 := hB93.cell 2
    have hc2' := (hB93.alloc (Obj.cells #[.int .i64 k] 3)).cell 2
    have hle3 : w.heap.size ≤ w3.heap.size := hst13.fr.size
    clear c3 hr3 hf3 hB8 hB9 hown h h2 hst hst2 hst3 hst23
    go_wp2_with (at_builtin; go_loud (refine wpList_append1 _ rfl _ _ _ rfl w.heap.size 3 (.int .i64 0) 8 Tryz.underlying30 int_info rfl (.slice A n cap) _ _ rfl (hown3.alloc _) w3.heap.size (.int .i64 k) rfl ?_ rfl ?_ (by omega) ?_ ?_); (· simp); (· omega); (· simp; omega); intro g4 c4 w4 hown4 hf4; (have hB94 := (hB93.alloc (Obj.cells #[.int .i64 k] 3)).fr hf4 (own_ne_blk hown3 hB93 (by decide))); have d2 := hB94.cell 2; have z2 := hB94.frozen 2)
    go_roundw
    case rel =>
     have hfa : Fr (fun _ => False) w3 (w3.alloc (Obj.cells #[.int .i64 k] 3)) := (Fr.refl _ _).alloc _
     have hoa := own_fr hown3 hfa (fun _ _ => id)
     have hfs : Fr (fun j => j = w.heap.size + 1) w4 (w4.setCell ⟨w.heap.size + 1, 2, none⟩ (.slice (some ⟨g4, 0, none⟩) (n + 1) c4)) := (Fr.refl (fun j => j = w.heap.size + 1) w4).setCell (p := ⟨w.heap.size + 1, 2, none⟩) (fun _ => rfl) _
     have hB84 := (hB83.fr hfa id).fr hf4 (own_ne_blk hown3 hB83 (by decide))
     have e1 : signTo gr mask d SL (k + 1) = signL (memberOf gr k) d (signTo gr mask d SL k) := by rw [signTo, if_pos HBI.out]
     have e2 : signTo gr mask d SQ (k + 1) = signL (memberOf gr k) d (signTo gr mask d SQ k) := by rw [signTo, if_pos HBI.out]
     have hfar := ((h3.keep hfa).far hf4 (fun j hj => by
      obtain ⟨cs, hB⟩ := own_cells hoa hj
      exact ⟨cs, _, hB, by decide⟩)).far hfs (fun j hj => ⟨_, _, hj ▸ hB94, by decide⟩)
     refine ⟨k + 1, n + 1, v3, _, _, by omega, by omega, by go_num, ?_, hB84.fr hfs (fun e => by omega), hB94.set_ 2 _, own_fr hown4 hfs (fun j hj e => own_ne_blk hown4 hB94 (by decide) (e ▸ hj)), ?_⟩
     ·rw [e1, e2]
      exact hfar
     ·exact ((hst13.trans (St.of lo hfa)).far hf4 (fun j hj => own_ge hoa j hj) hlo).far hfs (fun j hj => by omega) hlo
    case measure => simp [intOf]; omega
   | false =>
    have hb' : (bits .and .i64 (mask / 2 ^ k) 1 == 1) = false := hbit
    have HBI := Lib.hid hbit
    clear hbit
    go_wp2_with fail
    go_roundw
    case rel =>
     have e1 : ∀ S, signTo gr mask d S (k + 1) = signTo gr mask d S k := fun S => by rw [signTo, if_neg (by rw [HBI.out]; decide)]
     exact ⟨k + 1, n, vQ, _, xs, by omega, by omega, by go_num, by rw [e1, e1]; exact h, hB8, hB9, hown, hst⟩
    case measure => simp [intOf]; omega
  ·obtain rfl : k = 10 := by omega
   have d0 := hB9.cell 0
   have d1 := hB9.cell 1
   have d2 := hB9.cell 2
   have f0 := hB8.cell 0
   have f1 := hB8.cell 1
   have f2 := hB8.cell 2
   have z0 := hB8.frozen 0
   have z1 := hB8.frozen 1
   have z2 := hB8.frozen 2
   go_wp2_with fail
   have hBf := ((hB8.set_ 0 (.int .i64 gr)).set_ 1 (.int .i64 dm)).set_ 2 (.slice A n cap)
   have hff : Fr (fun j => j = w.heap.size) wr (((wr.setCell ⟨w.heap.size, 0, none⟩ (.int .i64 gr)).setCell ⟨w.heap.size, 1, none⟩ (.int .i64 dm)).setCell ⟨w.heap.size, 2, none⟩ (.slice A n cap)) := (((Fr.refl (fun j => j = w.heap.size) wr).setCell (p := ⟨w.heap.size, 0, none⟩) (fun _ => rfl) _).setCell (p := ⟨w.heap.size, 1, none⟩) (fun _ => rfl) _).setCell (p := ⟨w.heap.size, 2, none⟩) (fun _ => rfl) _
   generalize ((wr.setCell ⟨w.heap.size, 0, none⟩ (.int .i64 gr)).setCell ⟨w.heap.size, 1, none⟩ (.int .i64 dm)).setCell ⟨w.heap.size, 2, none⟩ (.slice A n cap) = wf at hBf hff ⊢
   have e0 := hBf.cell 0
   have e1 := hBf.cell 1
   have e2 := hBf.cell 2
   simp at e0 e1 e2
   refine bodyPost_ret (v := .agg #[.int .i64 gr, .int .i64 dm, .slice A n cap]) (by simp [results, Tryz.results13, go_sem, e0, e1, e2]) rfl ?_
   have hlq := signTo_len gr mask d SQ 10
   have := HQ.out
   exact ⟨_, _, rfl, h.far hff (fun j hj => ⟨_, _, hj ▸ hB8, by decide⟩), hst.far hff (fun j hj => by omega) hlo⟩

end Go.Proofs.YtmkdhhhoodeemaaGreat

/- Plain law: when is a certificate right; what Make hands out is. -/
namespace Go.Proofs.YtmkdhhhoodeemaaGreat
open Go Go.RowKit
section
variable {G D : Int} {L : List (Int × Int)}
theorem chk1_zero {last x : Int} : chk1 G D L last x = 0 ↔ (last < x ∧ 0 ≤ memberOf G x ∧ (memberOf G x, D) ∈ L) := by
 unfold chk1
 split
 ·rename_i h
  constructor
  ·intro h1; simp at h1
  ·intro h1; omega
 ·rename_i h
  split
  ·rename_i h2
   exact ⟨fun _ => ⟨by omega, by omega, h2⟩, fun _ => rfl⟩
  ·rename_i h2
   exact ⟨fun h1 => by simp at h1, fun h1 => absurd h1.2.2 h2⟩
theorem chkErr_none : ∀ (xs : List Int) (last : Int) (i : Nat), chkErr G D L last i xs = none ↔ (List.Pairwise (· < ·) (last :: xs) ∧ ∀ x ∈ xs, 0 ≤ memberOf G x ∧ (memberOf G x, D) ∈ L)
 | [], last, i => by simp [chkErr]
 | x :: r, last, i => by
  unfold chkErr
  by_cases h : chk1 G D L last x = 0
  ·rw [if_pos h, chkErr_none r x (i + 1)]
   have h1 := chk1_zero.1 h
   constructor
   ·rintro ⟨hp, hm⟩
    refine ⟨List.pairwise_cons.2 ⟨?_, hp⟩, ?_⟩
    ·intro y hy
     rcases List.mem_cons.1 hy with rfl | hy
     ·exact h1.1
     ·have := (List.pairwise_cons.1 hp).1 y hy
      omega
    ·intro y hy
     rcases List.mem_cons.1 hy with rfl | hy
     ·exact h1.2
     ·exact hm y hy
   ·rintro ⟨hp, hm⟩
    exact ⟨(List.pairwise_cons.1 hp).2, fun y hy => hm y (List.mem_cons_of_mem _ hy)⟩
  ·rw [if_neg h]
   constructor
   ·intro h1; cases h1
   ·rintro ⟨hp, hm⟩
    exact absurd (chk1_zero.2 ⟨(List.pairwise_cons.1 hp).1 x List.mem_cons_self, hm x List.mem_cons_self⟩) h
theorem whoInts_mem {x : Int} (h : x ∈ whoInts G D L) : 0 ≤ x ∧ 0 ≤ memberOf G x ∧ (memberOf G x, D) ∈ L := by
 obtain ⟨i, hi, rfl⟩ := List.mem_map.1 h
 have := (List.mem_filter.1 hi).2
 simp only [decide_eq_true_eq] at this
 exact ⟨by omega, this⟩
theorem whoInts_rises : List.Pairwise (· < ·) (whoInts G D L) := by
 unfold whoInts whoTo
 rw [List.pairwise_map]
 exact (List.Pairwise.filter _ List.pairwise_lt_range).imp (fun h => by omega)
end
end Go.Proofs.YtmkdhhhoodeemaaGreat

/- cohortref05: Check, of any certificate. -/
namespace Go.Proofs.YtmkdhhhoodeemaaGreat
open Go Go.RowKit
/-- What the document answers of an error: its number, and the one step. -/
def ansC (o : Option (List (ByteArray × Int) × Int)) : Int := match o with | none => 0 | some p => p.2
def ansS (o : Option (List (ByteArray × Int) × Int)) : ByteArray × Int := match o with | none => (⟨#[]⟩, 0) | some p => p.1.headD (⟨#[]⟩, 0)
def RefChecked (w : World) (o : Option (List (ByteArray × Int) × Int)) (e : Ending) (w' : World) : Prop :=
 e = .returned (.tuple #[.int .i64 (ansC o), .agg #[.string (ansS o).1, .int .i64 (ansS o).2]]) ∧ Fr (fun _ => False) w w'
theorem refChecked_of {w w' : World} {o : Option (List (ByteArray × Int) × Int)} {c : Int} {s : ByteArray} {k : Int} (h : o = some ([(s, k)], c)) (hf : Fr (fun _ => False) w w') :
  RefChecked w o (.returned (.tuple #[.int .i64 c, .agg #[.string s, .int .i64 k]])) w' := by
 subst h
 exact ⟨rfl, hf⟩
theorem refChecked_none {w w' : World} {o : Option (List (ByteArray × Int) × Int)} (h : o = none) (hf : Fr (fun _ => False) w w') :
  RefChecked w o (.returned (.tuple #[.int .i64 0, .agg #[.string ⟨#[]⟩, .int .i64 0]])) w' := by
 subst h
 exact ⟨rfl, hf⟩
theorem hfs {w wr : World} {g : Nat} (hg : ¬ g < w.heap.size) (n : Nat) (u v : Value) (h : Fr (fun _ => False) w wr) : Fr (fun _ => False) w (((wr.drewN n).setCell ⟨g, 0, none⟩ u).setCell ⟨g, 1, none⟩ v) :=
 Fr.setCell (p := ⟨g, 1, none⟩) (Fr.setCell (p := ⟨g, 0, none⟩) (h.drewN n) (fun h => absurd h hg) _) (fun h => absurd h hg) _
theorem hfs' {w wr : World} {g : Nat} (hg : ¬ g < w.heap.size) (u v : Value) (h : Fr (fun _ => False) w wr) : Fr (fun _ => False) w ((wr.setCell ⟨g, 0, none⟩ u).setCell ⟨g, 1, none⟩ v) :=
 Fr.setCell (p := ⟨g, 1, none⟩) (Fr.setCell (p := ⟨g, 0, none⟩) h (fun h => absurd h hg) _) (fun h => absurd h hg) _
set_option maxRecDepth 100000 in
set_option maxHeartbeats 2000000 in
theorem ref05_Check {w : World} {g base : Nat} {v : Value} {L : List (Int × Int)} (hs : RefAt w g base v L) (hL : L.length ≤ 1099511627776) {A : Option Addr} {cap : Nat} {xs : List Int} (hr : IntRow w w.heap.size A xs) (hlen : xs.length ≤ 9223372036854775807) (G D need : Int) :
  Calls Tryz.prog 20 #[.pointer (some ⟨g, 0, none⟩), .agg #[.int .i64 G, .int .i64 D, .slice A xs.length cap], .int .i64 need] w (RefChecked w (checkE G D L xs need)) := by
 have hf0 : Fr (fun _ => False) w ((w.alloc (Obj.cells #[.int .i64 G, .int .i64 D, .slice A xs.length cap] 41)).alloc (Obj.cells #[.string ⟨#[]⟩, .int .i64 0] 70)) := ((Fr.refl _ _).alloc _).alloc _
 have b0 := (Blk.new w 41 #[.int .i64 G, .int .i64 D, .slice A xs.length cap]).alloc (Obj.cells #[.string ⟨#[]⟩, .int .i64 0] 70)
 have s0 := Blk.new_ (w.alloc (Obj.cells #[.int .i64 G, .int .i64 D, .slice A xs.length cap] 41)) 70 #[.string ⟨#[]⟩, .int .i64 0] (n := w.heap.size + 1) (by simp)
 have hs0 := hs.fr hf0 id (fun _ _ => id)
 have hr0 := hr.fr hf0 (fun _ _ => id)
 clear hs hr
 go_enter Tryz.func20, Tryz.ntmps20
 go_wp2_with fail
 go_loopw [8] (fun i wr => ∃ k : Nat, k ≤ xs.length ∧ i = .int .i64 k ∧ chkErr G D L (-1) 0 xs = chkErr G D L (lastAt xs k) k (xs.drop k) ∧ Fr (fun _ => False) ((w.alloc (Obj.cells #[.int .i64 G, .int .i64 D, .slice A xs.length cap] 41)).alloc (Obj.cells #[.string ⟨#[]⟩, .int .i64 0] 70)) wr) (fun i _ => xs.length - (intOf i).toNat)
 case atStart => exact ⟨0, by omega, rfl, rfl, Fr.refl _ _⟩
 case round =>
  obtain ⟨k, hk, rfl, he, hf⟩ := hrel
  have hs1 := hs0.fr hf id (fun _ _ => id)
  have b1 := b0.fr hf id
  have s1 := s0.fr hf id
  have hf1 := hf0.then_ hf
  have e0 := b1.cell 0
  have e1 := b1.cell 1
  have e2 := b1.cell 2
  have e3 := s1.cell 0
  have e4 := s1.cell 1
  have z0 := s1.frozen 0
  have z1 := s1.frozen 1
  have y2 := fun u v => ((s1.set_ 0 u).set_ 1 v).cell 0
  have y3 := fun u v => ((s1.set_ 0 u).set_ 1 v).cell 1
  have y0 := fun (n : Nat) u v => (((s1.drewN n).set_ 0 u).set_ 1 v).cell 0
  have y1 := fun (n : Nat) u v => (((s1.drewN n).set_ 0 u).set_ 1 v).cell 1
  by_cases hlt : k < xs.length
  ·obtain ⟨x, hx⟩ : ∃ x, xs[k]? = some x := ⟨xs[k], List.getElem?_eq_getElem hlt⟩
   obtain ⟨b, o, rfl, hb, c0⟩ := hr0 k x hx
   have d0 := hf.cell_some c0 id
   have HX := Lib.hid hx
   have HE := Lib.hid he
   have HR := Lib.hid hr0
   clear c0 hx he hr0 b0 s0
   by_cases hm : memberOf G x < 0
   ·have H52 : Hid (chk1 G D L (lastAt xs k) x = 52) := chk1_who (.inl hm)
    go_wp2_with fail
    go_big_quiet ((go_at_call 37; exact quiet_left (ref04_Member G x _)))
    go_wp2_with fail
    go_big_quiet (fail)
    go_wp2
    refine bodyPost_ret (v := .tuple #[.int .i64 52, .agg #[.string (⟨#[115, 105, 103, 110, 101, 114]⟩ : ByteArray), .int .i64 k]]) (by simp [results, Tryz.results20, go_sem, y0, y1]) rfl ?_
    exact refChecked_of (by rw [checkE_some (by rw [HE.out, chkErr_stop HX.out (by rw [H52.out]; decide), H52.out])]) (hfs (by simp) _ _ _ hf1)
   ·have hmd : decide (memberOf G x < 0) = false := decide_eq_false hm
    by_cases hk0 : k = 0
    ·have HK : Hid (¬ (memberOf G x < 0 ∨ x ≤ lastAt xs k)) := by
      have h1 : 0 ≤ x := by
       by_cases h : x < 0
       ·exact absurd (by simp [memberOf, h]) hm
       ·omega
      show ¬ _
      rw [hk0]
      simp only [lastAt, if_pos]
      omega
     subst hk0
     rw [Nat.add_zero] at d0
     by_cases hL2 : (memberOf G x, D) ∈ L
     ·have H0 : Hid (chk1 G D L (lastAt xs 0) x = 0) := chk1_ok HK.out (by simpa using hL2)
      go_wp2_with fail
      go_big_quiet ((go_at_call 37; exact quiet_left (ref04_Member G x _)))
      go_wp2_with fail
      go_big_quiet (fail)
      go_wp2_with (go_at_call 63; refine (ref04_Signed (hs1.drewN _) hL _ D).mono ?_; rintro e w1 ⟨rfl, rfl⟩)
      go_roundw
      case rel => exact ⟨1, by omega, by go_num, by rw [HE.out, chkErr_step HX.out H0.out], hf.drewN _⟩
      case measure => simp [intOf]; omega
     ·have H53 : Hid (chk1 G D L (lastAt xs 0) x = 53) := chk1_seal HK.out (by simpa using hL2)
      go_wp2_with fail
      go_big_quiet ((go_at_call 37; exact quiet_left (ref04_Member G x _)))
      go_wp2_with fail
      go_big_quiet (fail)
      go_wp2_with (go_at_call 63; refine (ref04_Signed (hs1.drewN _) hL _ D).mono ?_; rintro e w1 ⟨rfl, rfl⟩)
      refine bodyPost_ret (v := .tuple #[.int .i64 53, .agg #[.string (⟨#[115, 105, 103, 110, 101, 114]⟩ : ByteArray), .int .i64 0]]) (by simp [results, Tryz.results20, go_sem, y0, y1]) rfl ?_
      exact refChecked_of (by rw [checkE_some (by rw [HE.out, chkErr_stop HX.out (by rw [H53.out]; decide), H53.out])]; rfl) (hfs (by simp) _ _ _ hf1)
    ·have hk1 : 1 ≤ k := by omega
     have hk2 : decide (0 < k) = true := decide_eq_true (by omega)
     obtain ⟨y, hy⟩ : ∃ y, xs[k - 1]? = some y := ⟨xs[k - 1], List.getElem?_eq_getElem (by omega)⟩
     have hly : lastAt xs k = y := by simp [lastAt, hk0, List.getD_eq_getElem?_getD, hy]
     obtain ⟨b', o', hbb, _, c1⟩ := HR.out (k - 1) y hy
     cases hbb
     have d1 := hf.cell_some c1 id
     clear c1
     by_cases hxy : x ≤ y
     ·have H52 : Hid (chk1 G D L (lastAt xs k) x = 52) := chk1_who (.inr (by rw [hly]; exact hxy))
      clear hy hly
      go_wp2_with fail
      go_big_quiet ((go_at_call 37; exact quiet_left (ref04_Member G x _)))
      go_wp2_with fail
      go_big_quiet (fail)
      go_wp2
      refine bodyPost_ret (v := .tuple #[.int .i64 52, .agg #[.string (⟨#[115, 105, 103, 110, 101, 114]⟩ : ByteArray), .int .i64 k]]) (by simp [results, Tryz.results20, go_sem, y0, y1]) rfl ?_
      exact refChecked_of (by rw [checkE_some (by rw [HE.out, chkErr_stop HX.out (by rw [H52.out]; decide), H52.out])]) (hfs (by simp) _ _ _ hf1)
     ·have HK : Hid (¬ (memberOf G x < 0 ∨ x ≤ lastAt xs k)) := by
       show ¬ _
       rw [hly]
       omega
      clear hy hly
      by_cases hL2 : (memberOf G x, D) ∈ L
      ·have H0 : Hid (chk1 G D L (lastAt xs k) x = 0) := chk1_ok HK.out (by simpa using hL2)
       go_wp2_with fail
       go_big_quiet ((go_at_call 37; exact quiet_left (ref04_Member G x _)))
       go_wp2_with fail
       go_big_quiet (fail)
       go_wp2_with (go_at_call 63; refine (ref04_Signed (hs1.drewN _) hL _ D).mono ?_; rintro e w1 ⟨rfl, rfl⟩)
       go_roundw
       case rel => exact ⟨k + 1, by omega, by go_num, by rw [HE.out, chkErr_step HX.out H0.out], hf.drewN _⟩
       case measure => simp [intOf]; omega
      ·have H53 : Hid (chk1 G D L (lastAt xs k) x = 53) := chk1_seal HK.out (by simpa using hL2)
       go_wp2_with fail
       go_big_quiet ((go_at_call 37; exact quiet_left (ref04_Member G x _)))
       go_wp2_with fail
       go_big_quiet (fail)
       go_wp2_with (go_at_call 63; refine (ref04_Signed (hs1.drewN _) hL _ D).mono ?_; rintro e w1 ⟨rfl, rfl⟩)
       refine bodyPost_ret (v := .tuple #[.int .i64 53, .agg #[.string (⟨#[115, 105, 103, 110, 101, 114]⟩ : ByteArray), .int .i64 k]]) (by simp [results, Tryz.results20, go_sem, y0, y1]) rfl ?_
       exact refChecked_of (by rw [checkE_some (by rw [HE.out, chkErr_stop HX.out (by rw [H53.out]; decide), H53.out])]) (hfs (by simp) _ _ _ hf1)
  ·obtain rfl : k = xs.length := by omega
   have HE : Hid (chkErr G D L (-1) 0 xs = none) := by rw [he, List.drop_length]; rfl
   clear he hr0 b0 s0
   by_cases hn : need < 1 ∨ (xs.length : Int) < need
   ·have HN := Lib.hid hn
    by_cases h1 : need < 1
    ·clear hn
     go_wp2_with fail
     go_region
     go_wp2
     refine bodyPost_ret (v := .tuple #[.int .i64 51, .agg #[.string (⟨#[99, 104, 101, 99, 107]⟩ : ByteArray), .int .i64 xs.length]]) (by simp [results, Tryz.results20, go_sem, y2, y3]) rfl ?_
     exact refChecked_of (checkE_few HE.out HN.out) (hfs' (by simp) _ _ hf1).drew
    ·have h2 : (xs.length : Int) < need := by omega
     clear hn
     go_wp2_with fail
     go_region
     go_wp2
     refine bodyPost_ret (v := .tuple #[.int .i64 51, .agg #[.string (⟨#[99, 104, 101, 99, 107]⟩ : ByteArray), .int .i64 xs.length]]) (by simp [results, Tryz.results20, go_sem, y2, y3]) rfl ?_
     exact refChecked_of (checkE_few HE.out HN.out) (hfs' (by simp) _ _ hf1).drew
   ·have HN := Lib.hid hn
    have h1 : ¬ need < 1 := by omega
    have h2 : ¬ (xs.length : Int) < need := by omega
    clear hn
    go_wp2
    refine bodyPost_ret (v := .tuple #[.int .i64 0, .agg #[.string ⟨#[]⟩, .int .i64 0]]) (by simp [results, Tryz.results20, go_sem, y2, y3]) rfl ?_
    exact refChecked_none (checkE_ok HE.out HN.out) (hfs' (by simp) _ _ hf1)
end Go.Proofs.YtmkdhhhoodeemaaGreat

/- cohortlaw19: RelayFew. -/
namespace Go.Proofs.YtmkdhhhoodeemaaGreat
open Go Go.RowKit
theorem TasksAt.form_ {w : World} {base : Nat} {v : Value} {gs b : List Int} (h : TasksAt w base v gs b) : ∃ A c, v = .slice A gs.length c := by
 obtain ⟨vals, h1, _⟩ := h
 obtain ⟨A, c, rfl, _, _⟩ := own_form h1
 exact ⟨A, c, rfl⟩
end Go.Proofs.YtmkdhhhoodeemaaGreat
