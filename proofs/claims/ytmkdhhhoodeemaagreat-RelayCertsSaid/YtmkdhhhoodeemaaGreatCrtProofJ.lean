/- RelayCertsSaid: for every input the law returns true, and each argument reads behind the call as it read before. No condition. -/
import Derived.ProofKit
import Derived.OpenShut
import Derived.ChangeOld
import Derived.Deep.Slices
import Derived.Deep.Fields
import Derived.Lib.SmallJoins
import Derived.Test.YtmkdhhhoodeemaaGreatRows
import Derived.WalkKit
import Derived.Below
import Derived.Carry
import Derived.Test.YtmkdhhhoodeemaaGreatCrtProofGa
import Derived.Test.YtmkdhhhoodeemaaGreatCrtProofGb
import Derived.Test.YtmkdhhhoodeemaaGreatCrtProofGc
import Derived.Test.YtmkdhhhoodeemaaGreatCrtProofGd
import Derived.Test.YtmkdhhhoodeemaaGreatCrtProofGe
import Derived.Test.YtmkdhhhoodeemaaGreatCrtProofJa
import Derived.Test.YtmkdhhhoodeemaaGreatCrtProofJb
import Derived.Test.YtmkdhhhoodeemaaGreatCrtProofJc
import Derived.Test.YtmkdhhhoodeemaaGreatCrtProofJd
import Derived.Test.YtmkdhhhoodeemaaGreatCrtProofJe
set_option linter.unusedVariables false
set_option linter.unusedSimpArgs false
/- cohortlaw19: RelayCerts: parts. -/
namespace Go.Proofs.YtmkdhhhoodeemaaGreat
open Go Go.RowKit
def greatA (ff tt : ByteArray) (rw_ : Int) (nl ns : Nat) : Bool := decide ((1000 : Int) < (ff.size : Int)) || decide ((1000 : Int) < (tt.size : Int)) || decide ((40 : Int) < rw_) || decide ((200 : Int) < (nl : Int)) || decide ((40 : Int) < (ns : Int))
set_option maxRecDepth 100000 in
set_option maxHeartbeats 1000000 in
theorem law19_GreatA {w : World} {kind txn : Int} {yes : Bool} {ff tt : ByteArray} {epoch shard target root : Int} {c n : Int} {RA WA : Option Addr} {nr nw cr cw : Nat} {A SA : Option Addr} {nl cap ns sc : Nat} (lR : nr ≤ 9223372036854775807) (lW : nw ≤ 9223372036854775807) :
  Calls Tryz.prog 10 #[.agg #[.int .i64 kind, .int .i64 txn, .bool yes, .string ff, .string tt, .int .i64 epoch, .int .i64 shard, .int .i64 target, .int .i64 root], .agg #[.int .i64 c, .int .i64 n, .slice RA nr cr, .slice WA nw cw], .slice A nl cap, .slice SA ns sc] w (OkB w (greatA ff tt (wrap64 ((nr : Int) + (nw : Int))) nl ns)) := by
 have hS0 := (Blk.new w 23 #[.int .i64 kind, .int .i64 txn, .bool yes, .string ff, .string tt, .int .i64 epoch, .int .i64 shard, .int .i64 target, .int .i64 root]).alloc (Obj.cells #[.int .i64 c, .int .i64 n, .slice RA nr cr, .slice WA nw cw] 29)
 have hT0 : Blk ((w.alloc (Obj.cells #[.int .i64 kind, .int .i64 txn, .bool yes, .string ff, .string tt, .int .i64 epoch, .int .i64 shard, .int .i64 target, .int .i64 root] 23)).alloc (Obj.cells #[.int .i64 c, .int .i64 n, .slice RA nr cr, .slice WA nw cw] 29)) (w.heap.size + 1) 29 #[.int .i64 c, .int .i64 n, .slice RA nr cr, .slice WA nw cw] := Blk.new_ _ _ _ (by simp)
 have hf0 : Fr (fun _ => False) w ((w.alloc (Obj.cells #[.int .i64 kind, .int .i64 txn, .bool yes, .string ff, .string tt, .int .i64 epoch, .int .i64 shard, .int .i64 target, .int .i64 root] 23)).alloc (Obj.cells #[.int .i64 c, .int .i64 n, .slice RA nr cr, .slice WA nw cw] 29)) := ((Fr.refl _ _).alloc _).alloc _
 unfold greatA
 go_enter Tryz.func10, Tryz.ntmps10
 go_upto_region 1 with fail
 generalize ((w.alloc (Obj.cells #[.int .i64 kind, .int .i64 txn, .bool yes, .string ff, .string tt, .int .i64 epoch, .int .i64 shard, .int .i64 target, .int .i64 root] 23)).alloc (Obj.cells #[.int .i64 c, .int .i64 n, .slice RA nr cr, .slice WA nw cw] 29)) = w0 at *
 have s3 := hS0.cell 3
 have s4 := hS0.cell 4
 have t2 := hT0.cell 2
 have t3 := hT0.cell 3
 obtain ⟨sum, hsum⟩ : ∃ x, Hid (wrap64 ((nr : Int) + (nw : Int)) = x) := ⟨_, rfl⟩
 have hs1 := hsum.out
 by_cases g1 : (1000 : Int) < (ff.size : Int)
 ·go_wp2
  go_ret
  exact ⟨by simp [g1], hf0⟩
 ·by_cases g2 : (1000 : Int) < (tt.size : Int)
  ·go_wp2
   go_ret
   exact ⟨by simp [g2], hf0⟩
  ·by_cases g3 : (40 : Int) < sum
   ·go_wp2
    go_ret
    exact ⟨by simp [hs1, g3], hf0⟩
   ·by_cases g4 : (200 : Int) < (nl : Int)
    ·go_wp2
     go_ret
     exact ⟨by simp [g4], hf0⟩
    ·by_cases g5 : (40 : Int) < (ns : Int)
     ·go_wp2
      go_ret
      exact ⟨by simp [g5], hf0⟩
     ·go_wp2
      go_ret
      exact ⟨by simp [g1, g2, hs1, g3, g4, g5], hf0⟩
theorem greatA_no {ff tt : ByteArray} {nr nw nl ns : Nat} (lR : nr ≤ 9223372036854775807) (lW : nw ≤ 9223372036854775807) (h : greatA ff tt (wrap64 ((nr : Int) + (nw : Int))) nl ns = false) : nl ≤ 200 ∧ ns ≤ 40 ∧ ((nr ≤ 40 ∧ nw ≤ 40) ∨ 1000 ≤ nr ∨ 1000 ≤ nw) := by
 unfold greatA at h
 simp only [Bool.or_eq_false_iff, decide_eq_false_iff_not] at h
 obtain ⟨⟨⟨_, h3⟩, h4⟩, h5⟩ := h
 unfold wrap64 at h3
 omega
def TxnNo10 (w : World) (e : Ending) (w' : World) : Prop := e = .returned (.tuple #[.slice none 0 0, .int .i64 101]) ∧ Fr (fun _ => False) w w'
set_option maxRecDepth 100000 in
set_option maxHeartbeats 1000000 in
theorem ref10_Put_no {w : World} {F : Nat → Prop} {A B : Option Addr} {cr cw : Nat} {c n : Int} {R : List (ByteArray × Int)} {W : List (ByteArray × ByteArray)} (hr : ReadRow w F A R) (hw : WriteRow w F B W) (h : ¬ TOk c n R W) :
  Calls Tryz.prog 33 #[.agg #[.int .i64 c, .int .i64 n, .slice A R.length cr, .slice B W.length cw]] w (TxnNo10 w) := by
 have hf0 : Fr (fun _ => False) w (w.alloc (Obj.cells #[.int .i64 c, .int .i64 n, .slice A R.length cr, .slice B W.length cw] 29)) := (Fr.refl _ _).alloc _
 have HC := ref10_Right (cr := cr) (cw := cw) (c := c) (n := n) (hr.fr hf0 (fun _ _ => id)) (hw.fr hf0 (fun _ _ => id))
 rw [decide_eq_false h] at HC
 replace HC := Lib.hid HC
 clear hr hw h
 go_enter Tryz.func33, Tryz.ntmps33
 go_wp2_with fail
 refine HC.out.mono ?_
 rintro e w1 ⟨rfl, hf01⟩
 go_wp2_with fail
 refine bodyPost_ret (v := .tuple #[.slice none 0 0, .int .i64 101]) (by simp [results, Tryz.results33, go_sem]) rfl ?_
 exact ⟨rfl, hf0.then_ hf01⟩
open Classical in
noncomputable def txnL (c n : Int) (R : List (ByteArray × Int)) (W : List (ByteArray × ByteArray)) : List (List Int) := if TOk c n R W then [txnB c n R W] else []
open Classical in
noncomputable def txnI (c n : Int) (R : List (ByteArray × Int)) (W : List (ByteArray × ByteArray)) : Int := if TOk c n R W then 0 else -1
set_option maxRecDepth 100000 in
set_option maxHeartbeats 1000000 in
theorem law12_Txn0 {w : World} {lo gw : Nat} {SL : List (Int × Int)} {nQ : Nat} (h : WS w lo gw [] SL [] nQ) {F : Nat → Prop} {A B : Option Addr} {cr cw : Nat} {c n : Int} {R : List (ByteArray × Int)} {W : List (ByteArray × ByteArray)} (hr : ReadRow w F A R) (hw : WriteRow w F B W) :
  Calls Tryz.prog 11 #[.pointer (some ⟨gw, 0, none⟩), .agg #[.int .i64 c, .int .i64 n, .slice A R.length cr, .slice B W.length cw]] w (WStep w lo gw (txnL c n R W) SL (txnL c n R W) nQ (.int .i64 (txnI c n R W))) := by
 by_cases ht : TOk c n R W
 ·have := law12_Txn (cr := cr) (cw := cw) h GoodL.nil (List.prefix_refl _) (by simp) hr hw ht
  rw [digL_nil, digI_nil] at this
  rw [txnL, if_pos ht, txnI, if_pos ht]
  exact this
 ·rw [txnL, if_neg ht, txnI, if_neg ht]
  have hf0 : Fr (fun _ => False) w (w.alloc (Obj.cells #[.int .i64 c, .int .i64 n, .slice A R.length cr, .slice B W.length cw] 29)) := (Fr.refl _ _).alloc _
  have HP := Lib.hid (ref10_Put_no (cr := cr) (cw := cw) (hr.fr hf0 (fun _ _ => id)) (hw.fr hf0 (fun _ _ => id)) ht)
  clear ht hr hw
  go_enter Tryz.func11, Tryz.ntmps11
  go_wp2_with fail
  refine HP.out.mono ?_
  rintro e w1 ⟨rfl, hf1⟩
  have hf01 := hf0.then_ hf1
  have h1 := h.keep hf01
  clear HP
  go_wp2_with fail
  go_ret
  exact ⟨rfl, h1, St.of lo hf01⟩
theorem txnL_len (c n : Int) (R : List (ByteArray × Int)) (W : List (ByteArray × ByteArray)) : (txnL c n R W).length ≤ 1 := by
 unfold txnL
 split <;> simp
theorem txnL_good (c n : Int) (R : List (ByteArray × Int)) (W : List (ByteArray × ByteArray)) : GoodL (txnL c n R W) := by
 unfold txnL
 split
 ·rename_i h
  exact ⟨by simp, fun t ht => by rw [List.mem_singleton.1 ht]; exact txnB_len h⟩
 ·exact GoodL.nil
theorem digL_mem_of {L : List (List Int)} {xs : List Int} (h : xs ∈ L) : digL L xs = L := by rw [digL, if_pos h]
theorem digL_twice (L : List (List Int)) (xs : List Int) : digL (digL L xs) xs = digL L xs := digL_mem_of (digL_mem L xs)
theorem sayL_twice (L : List (List Int)) (s : SayD) : sayL (sayL L s) s = sayL L s := by
 unfold sayL
 split
 ·exact digL_twice _ _
 ·rfl
end Go.Proofs.YtmkdhhhoodeemaaGreat

/- cohortlaw19: RelayCerts: the plain law. -/
namespace Go.Proofs.YtmkdhhhoodeemaaGreat
open Go Go.RowKit
theorem cert_none {G D f : Int} {SL : List (Int × Int)} (hf : 0 ≤ f ∧ f ≤ 3) (hn : ¬ ((whoInts G D SL).length : Int) < 2 * f + 1) : checkE G D SL (ordX G D f SL) (2 * f + 1) = none := by
 unfold ordX
 refine checkE_ok ((chkErr_none _ _ _).2 ⟨List.pairwise_cons.2 ⟨fun y hy => ?_, ?_⟩, fun x hx => ?_⟩) ?_
 ·have := (whoInts_mem (List.mem_of_mem_take hy)).1
  omega
 ·exact List.Pairwise.sublist (List.take_sublist _ _) whoInts_rises
 ·exact (whoInts_mem (List.mem_of_mem_take hx)).2
 ·rw [List.length_take]
  omega
theorem keepE_sub (ff tt : ByteArray) (l : List Ent) : ∀ x ∈ keepE ff tt l, x ∈ l := fun x hx => by
 unfold keepE at hx
 exact (List.mem_filter.1 hx).1
theorem ordF_own {L1 : List (List Int)} {G : Int} {s : SayD} {ss : List Int} {l : List Ent} {o : OrdD} (h : ordF L1 G s ss l = some o) : ∀ x ∈ o.own, x ∈ l := by
 unfold ordF at h
 repeat' split at h
 all_goals first
  | (cases h; done)
  | (cases h; intro x hx; first | (cases hx; done) | exact keepE_sub _ _ _ x hx)
theorem ordF_one {L1 : List (List Int)} {G : Int} {s : SayD} {ss : List Int} {l : List Ent} {o : OrdD} (h : ordF L1 G s ss l = some o) (hk : o.kind = 1) : o.t0 = L1.getD s.txn.toNat [] := by
 unfold ordF at h
 repeat' split at h
 all_goals first
  | (cases h; done)
  | (cases h; first | rfl | (exfalso; revert hk; dsimp only; decide))
structure OrdSome (L : List (List Int)) (SL : List (Int × Int)) (f G : Int) (s : SayD) (l : List Ent) (o : OrdD) : Prop where
 ok : OkSay s
 oo : OrdOk o
 G0 : 0 ≤ G ∧ G ≤ 2147483647
 D0 : 0 ≤ sayI L s ∧ sayI L s ≤ 2147483647
 xl : (ordX G (sayI L s) f SL).length ≤ 1024
 xe : ∀ y ∈ ordX G (sayI L s) f SL, 0 ≤ y ∧ y ≤ 2147483647
 ck : checkE G (sayI L s) SL (ordX G (sayI L s) f SL) (2 * f + 1) = none
 ow : ∀ x ∈ o.own, x ∈ l
theorem ordA_some {L : List (List Int)} (hL : L.length < 60000) {SL : List (Int × Int)} {f G : Int} (hf : 0 ≤ f ∧ f ≤ 3) {s : SayD} {ss : List Int} {l : List Ent} {o : OrdD} (h : ordA L SL f G s ss l = some o) : OrdSome L SL f G s l o := by
 unfold ordA at h
 split at h
 ·rename_i hh
  obtain ⟨hok, hfew⟩ := hh
  have hD : 0 ≤ sayI L s ∧ sayI L s < 2147483648 := by
   unfold sayI
   rw [if_pos hok]
   have : digI L (sayB s) ≤ L.length := by
    unfold digI
    split
    ·exact List.idxOf_le_length
    ·exact Nat.le_refl _
   omega
  obtain ⟨hGr, hxl, hget⟩ := get_who_f hf hfew hD
  have hsl := sayL_len L s
  refine ⟨hok, ordF_ok (by omega) h, by omega, by omega, hxl, fun y hy => ?_, cert_none hf hfew, ordF_own h⟩
  have := (member_ge (who_mem (List.mem_of_mem_take hy)).2).2
  omega
 ·cases h
theorem ordA_txn {c n : Int} {R : List (ByteArray × Int)} {W : List (ByteArray × ByteArray)} {SL : List (Int × Int)} {f G : Int} {s : SayD} {ss : List Int} {l : List Ent} {o : OrdD} (h : ordA (sayL (txnL c n R W) s) SL f G s ss l = some o) (hk : o.kind = 1) {c' n' : Int} {R' : List (ByteArray × Int)} {W' : List (ByteArray × ByteArray)} (hT : TOk c' n' R' W') (ht : o.t0 = txnB c' n' R' W') (hd : s.txn = txnI c n R W) : c' = c ∧ n' = n ∧ R' = R ∧ W' = W := by
 unfold ordA at h
 split at h
 ·rename_i hh
  obtain ⟨hok, _⟩ := hh
  have h1 := ordF_one h hk
  rw [sayL_twice] at h1
  by_cases ht0 : TOk c n R W
  ·rw [txnI, if_pos ht0] at hd
   rw [hd, show ((0 : Int)).toNat = 0 from rfl] at h1
   have hp : txnL c n R W <+: sayL (txnL c n R W) s := sayL_prefix _ _
   rw [txnL, if_pos ht0] at hp h1
   obtain ⟨r, hr⟩ := hp
   rw [← hr] at h1
   have h2 : o.t0 = txnB c n R W := h1
   exact txnB_inj hT ht0 (ht.symm.trans h2)
  ·rw [txnI, if_neg ht0] at hd
   have := hok.2.2.1
   omega
 ·cases h
def txnN (d txn : Int) : Int := if 0 ≤ d ∧ txn < 0 then d else txn
theorem TasksAt.dig {w w' : World} {base gD bD : Nat} {v vD : Value} {gs b : List Int} {L : List (List Int)} (h : TasksAt w base v gs b) (hr : RBookAt w gD bD vD L) (hf : Fr (fun k => k = gD ∨ vD.ownBlock = some k) w w') : TasksAt w' base v gs b := by
 refine h.fr hf (fun k hk => ?_) (fun k hk => ?_)
 ·obtain ⟨vals, h1, _⟩ := h
  obtain ⟨cs, hB⟩ := own_cells h1 hk
  exact rb_ne hr hB (fun _ _ _ e => tcell e (by decide) (by decide))
 ·obtain ⟨cs, f, h1⟩ := hk
  exact rb_ne hr h1 (fun _ _ _ e => tcell e (by decide) (by decide))
theorem TasksAt.nth {w : World} {base : Nat} {A : Option Addr} {n c : Nat} {gs b : List Int} (h : TasksAt w base (.slice A n c) gs b) {k : Nat} (hk : k < gs.length) : ∃ b0 A' c', A = some ⟨b0, 0, none⟩ ∧ w.cell? ⟨b0, k * 2 + 1, none⟩ = some (.slice A' b.length c') ∧ ByteRow w (U8 w) A' b := by
 obtain ⟨vals, h1, h2⟩ := h
 obtain ⟨A', c', e1, e2, hr⟩ := h2 k _ (List.getElem?_eq_getElem hk)
 obtain ⟨A0, c0, e, _, hat⟩ := own_form h1
 cases e
 obtain ⟨b0, rfl, _, hc⟩ := hat _ _ e2
 exact ⟨b0, A', c', rfl, by simpa using hc, hr⟩
theorem ordF_len {L1 : List (List Int)} {G : Int} {s : SayD} {ss : List Int} {l : List Ent} {o : OrdD} (h : ordF L1 G s ss l = some o) : o.gg.length ≤ ss.length + 2 := by
 unfold ordF at h
 repeat' split at h
 all_goals first
  | (cases h; done)
  | (cases h; simp)
theorem ordA_len {L : List (List Int)} {SL : List (Int × Int)} {f G : Int} {s : SayD} {ss : List Int} {l : List Ent} {O : Option OrdD} (h : ordA L SL f G s ss l = O) : (ordG O).length ≤ ss.length + 2 := by
 cases O with
 | none => simp [ordG]
 | some o =>
  unfold ordA at h
  split at h
  ·exact ordF_len h
  ·cases h
def CkOk (w : World) (e : Ending) (w' : World) : Prop := e = .returned (.tuple #[.int .i64 0, .agg #[.string ⟨#[]⟩, .int .i64 0]]) ∧ Fr (fun _ => False) w w'
theorem ref05_Check_ok {w : World} {g base : Nat} {v : Value} {L : List (Int × Int)} (hs : RefAt w g base v L) (hL : L.length ≤ 1099511627776) {A : Option Addr} {cap : Nat} {xs : List Int} (hr : IntRow w w.heap.size A xs) (hlen : xs.length ≤ 9223372036854775807) {G D need : Int} (hc : checkE G D L xs need = none) :
  Calls Tryz.prog 20 #[.pointer (some ⟨g, 0, none⟩), .agg #[.int .i64 G, .int .i64 D, .slice A xs.length cap], .int .i64 need] w (CkOk w) :=
 (ref05_Check hs hL hr hlen G D need).mono fun e w' h => by
  unfold RefChecked at h
  rw [hc] at h
  exact h
theorem IntF.row {w : World} {F : Nat → Prop} {A : Option Addr} {xs : List Int} (h : IntF w F A xs) : IntRow w w.heap.size A xs := fun k x hx => by
 obtain ⟨b, o, e, _, h2⟩ := h k x hx
 exact ⟨b, o, e, World.block_lt_of_cell? w _ h2, h2⟩
/-- Who signed it. -/
def crtS (G mask : Int) (L : List (List Int)) (s : SayD) : List (Int × Int) := if OkSay s then signTo G mask (sayI L s) [] 10 else []
theorem crtS_len (G mask : Int) (L : List (List Int)) (s : SayD) : (crtS G mask L s).length ≤ 10 := by
 unfold crtS
 split
 ·have := signTo_len G mask (sayI L s) [] 10
  simpa using this
 ·simp
end Go.Proofs.YtmkdhhhoodeemaaGreat

/- cohortlaw19: RelayCerts. -/
namespace Go.Proofs.YtmkdhhhoodeemaaGreat
open Go Go.RowKit
attribute [local go_sem ↓] run_neqSay2
/-- Behind the transaction. -/
structure CrtT (w : World) (lo gw : Nat) (G kind txn : Int) (yes : Bool) (ff tt : ByteArray) (epoch shard target root : Int) (c n : Int) (RA : Option Addr) (nr cr : Nat) (WA : Option Addr) (nw cw : Nat) (L : List (List Int)) (SL : List (Int × Int)) (w' : World) : Prop where
 hH : Blk w' w.heap.size 25 #[.int .i64 G, .int .i64 kind, .int .i64 txn, .bool yes, .string ff, .string tt, .int .i64 epoch, .int .i64 shard, .int .i64 target, .int .i64 root]
 hT : Blk w' (w.heap.size + 1) 29 #[.int .i64 c, .int .i64 n, .slice RA nr cr, .slice WA nw cw]
 ws : ∃ g m base v gs ms gD bD vD gQ bQ vQ, WSAt w' lo gw g m base v L gs ms SL gD bD vD L gQ bQ vQ SL
 fr : Fr (fun k => w.heap.size ≤ k) w w'
theorem WS.zero {w : World} {lo gw : Nat} {L LD : List (List Int)} {SL : List (Int × Int)} (h : WS w lo gw L SL LD 0) : ∃ g m base v gs ms gD bD vD gQ bQ vQ, WSAt w lo gw g m base v L gs ms SL gD bD vD LD gQ bQ vQ [] := by
 obtain ⟨g, m, base, v, gs, ms, gD, bD, vD, gQ, bQ, vQ, SQ, h, hq⟩ := h
 obtain rfl : SQ = [] := List.eq_nil_of_length_eq_zero (by omega)
 exact ⟨g, m, base, v, gs, ms, gD, bD, vD, gQ, bQ, vQ, h⟩
set_option maxRecDepth 100000 in
set_option maxHeartbeats 4000000 in
theorem relayCerts_walk {w : World} {f G mask kind txn : Int} {yes : Bool} {ff tt : ByteArray} {epoch shard target root : Int} {c n : Int} {RA WA : Option Addr} {cr cw : Nat} {R : List (ByteArray × Int)} {W : List (ByteArray × ByteArray)} {SA LA : Option Addr} {sc lc : Nat} {ss : List Int} {l : List Ent}
    (hf : 0 ≤ f ∧ f < 256) (hr : ReadRow w (fun k => k < w.heap.size) RA R) (hw : WriteRow w (fun k => k < w.heap.size) WA W) (lR : R.length ≤ 9223372036854775807) (lW : W.length ≤ 9223372036854775807) (hSh : IntRow w w.heap.size SA ss) (hE : EntRow w (fun k => k < w.heap.size) LA l) (hv : ∀ x ∈ l, -9223372036854775808 ≤ x.2.2 ∧ x.2.2 ≤ 9223372036854775807) :
    Calls Tryz.prog 4 #[.int .u8 f, .agg #[.int .i64 G, .int .i64 kind, .int .i64 txn, .bool yes, .string ff, .string tt, .int .i64 epoch, .int .i64 shard, .int .i64 target, .int .i64 root], .int .i64 mask, .agg #[.int .i64 c, .int .i64 n, .slice RA R.length cr, .slice WA W.length cw], .slice SA ss.length sc, .slice LA l.length lc] w (Bool1 w true) := by
  have hH0 := (Blk.new w 25 #[.int .i64 G, .int .i64 kind, .int .i64 txn, .bool yes, .string ff, .string tt, .int .i64 epoch, .int .i64 shard, .int .i64 target, .int .i64 root]).alloc (Obj.cells #[.int .i64 c, .int .i64 n, .slice RA R.length cr, .slice WA W.length cw] 29)
  have hT0 : Blk ((w.alloc (Obj.cells #[.int .i64 G, .int .i64 kind, .int .i64 txn, .bool yes, .string ff, .string tt, .int .i64 epoch, .int .i64 shard, .int .i64 target, .int .i64 root] 25)).alloc (Obj.cells #[.int .i64 c, .int .i64 n, .slice RA R.length cr, .slice WA W.length cw] 29)) (w.heap.size + 1) 29 #[.int .i64 c, .int .i64 n, .slice RA R.length cr, .slice WA W.length cw] := Blk.new_ _ _ _ (by simp)
  have hf0 : Fr (fun _ => False) w ((w.alloc (Obj.cells #[.int .i64 G, .int .i64 kind, .int .i64 txn, .bool yes, .string ff, .string tt, .int .i64 epoch, .int .i64 shard, .int .i64 target, .int .i64 root] 25)).alloc (Obj.cells #[.int .i64 c, .int .i64 n, .slice RA R.length cr, .slice WA W.length cw] 29)) := ((Fr.refl _ _).alloc _).alloc _
  have HR := Lib.hid hr
  have HW := Lib.hid hw
  have HSH := Lib.hid hSh
  have HEN := Lib.hid hE
  have HV := Lib.hid hv
  clear hr hw hSh hE hv
  go_enter Tryz.func4, Tryz.ntmps4
  go_upto_region 1 with fail
  generalize ((w.alloc (Obj.cells #[.int .i64 G, .int .i64 kind, .int .i64 txn, .bool yes, .string ff, .string tt, .int .i64 epoch, .int .i64 shard, .int .i64 target, .int .i64 root] 25)).alloc (Obj.cells #[.int .i64 c, .int .i64 n, .slice RA R.length cr, .slice WA W.length cw] 29)) = w0 at *
  go_upto_region 2 with (go_at_call 8; refine (law19_head _).mono ?_; rintro e w1 ⟨rfl, hf1⟩)
  have hH1 := hH0.fr hf1 id
  have hT1 := hT0.fr hf1 id
  have hf01 := hf0.then_ hf1
  clear hH0 hT0 hf0 hf1
  go_upto_region 3 with (go_at_call 9; refine (law12_Start _).mono ?_; rintro e w2 ⟨gw, rfl, hgw, h2, hf2⟩)
  have hH2 := hH1.fr hf2 id
  have hT2 := hT1.fr hf2 id
  have hst2 : St w1.heap.size w1 w2 := St.of _ hf2
  have hH1lt := hH1.lt
  clear hf2
  go_upto_region 4 with fail
  obtain ⟨k, hk⟩ : ∃ k, f % 3 = k := ⟨_, rfl⟩
  rw [hk]
  have hkb : 0 ≤ k ∧ k ≤ 2 := by omega
  have HK := Lib.hid hkb
  clear hk hkb
  have k1 := hH2.cell 1
  have k2 := hH2.cell 2
  have k3 := hH2.cell 3
  have k4 := hH2.cell 4
  have k5 := hH2.cell 5
  have k6 := hH2.cell 6
  have k7 := hH2.cell 7
  have k8 := hH2.cell 8
  have k9 := hH2.cell 9
  have t0 := hT2.cell 0
  have t1 := hT2.cell 1
  have t2 := hT2.cell 2
  have t3 := hT2.cell 3
  have HGr := Lib.hid (fun w => law19_GreatA (w := w) (kind := kind) (txn := txn) (yes := yes) (ff := ff) (tt := tt) (epoch := epoch) (shard := shard) (target := target) (root := root) (c := c) (n := n) (RA := RA) (WA := WA) (nr := R.length) (nw := W.length) (cr := cr) (cw := cw) (A := LA) (SA := SA) (nl := l.length) (cap := lc) (ns := ss.length) (sc := sc) lR lW)
  cases hgr : greatA ff tt (wrap64 ((R.length : Int) + (W.length : Int))) l.length ss.length with
  | true =>
    rw [hgr] at HGr
    clear hgr lR lW
    go_wp2_with (go_at_call 10; refine (HGr.out _).mono ?_; rintro e w3 ⟨rfl, hf3⟩)
    go_ret
    exact ⟨rfl, hf01.trans ((hst2.trans (St.of _ hf3)).fr) (fun k hk e => by have := hf01.size; omega)⟩
  | false =>
    rw [hgr] at HGr
    have HLL := Lib.hid (greatA_no lR lW hgr)
    clear hgr lR lW
    go_upto_region 6 with (go_at_call 10; refine (HGr.out _).mono ?_; rintro e w3 ⟨rfl, hf3⟩)
    have hH3 := hH2.fr hf3 id
    have hT3 := hT2.fr hf3 id
    have h3 := h2.keep hf3
    have hst3 := hst2.trans (St.of _ hf3)
    clear HGr hH2 hT2 h2 hst2 hf3 k1 k2 k3 k4 k5 k6 k7 k8 k9 t0 t1 t2 t3
    have hfw3 : Fr (fun k => w.heap.size ≤ k) w w3 := (hf01.mono (T := fun k => w.heap.size ≤ k) (fun _ _ h => h.elim)).trans hst3.fr (fun k _ e => by have := hf01.size; omega)
    have t0 := hT3.cell 0
    have t1 := hT3.cell 1
    have t2 := hT3.cell 2
    have t3 := hT3.cell 3
    have HTX := Lib.hid (law12_Txn0 (cr := cr) (cw := cw) (c := c) (n := n) h3 (HR.out.fr hfw3 (fun k hk e => by omega)) (HW.out.fr hfw3 (fun k hk e => by omega)))
    obtain ⟨d, hd⟩ : ∃ d, Hid (txnI c n R W = d) := ⟨_, rfl⟩
    rw [hd.out] at HTX
    clear h3
    go_upto_region 7 with (go_at_call 11; refine HTX.out.mono ?_; rintro e w4 ⟨rfl, h4, hst4⟩)
    have hH4 := hst4.blk _ _ _ hH3 (by decide)
    have hT4 := hst4.blk _ _ _ hT3 (by decide)
    have hfw4 := hfw3.trans hst4.fr (fun k hk e => by have := hf01.size; omega)
    have hlo : w.heap.size ≤ w1.heap.size := hf01.size
    obtain ⟨LT, hLT⟩ : ∃ LT, Hid (txnL c n R W = LT) := ⟨_, rfl⟩
    rw [hLT.out] at h4
    clear HTX hH3 hT3 hst3 hst4 hfw3 t0 t1 t2 t3
    have k2 := hH4.cell 2
    have z2 := hH4.frozen 2
    go_cut [60] from 53 to 60 (fun b wx => (∃ z : Bool, b = .bool z ∧ ((z = true ∧ 0 ≤ d ∧ txn < 0) ∨ (z = false ∧ ¬ (0 ≤ d ∧ txn < 0)))) ∧ wx = w4)
    case first =>
      by_cases a1 : 0 ≤ d
      · by_cases a2 : txn < 0
        · clear hd
          go_wp2_with fail
          go_meet
          exact ⟨⟨_, rfl, .inl ⟨rfl, a1, a2⟩⟩, rfl⟩
        · clear hd
          go_wp2_with fail
          go_meet
          exact ⟨⟨_, rfl, .inr ⟨rfl, by omega⟩⟩, rfl⟩
      · clear hd
        go_wp2_with fail
        go_meet
        exact ⟨⟨_, rfl, .inr ⟨rfl, by omega⟩⟩, rfl⟩
    case rest =>
     obtain ⟨⟨z, rfl, hz⟩, hwc⟩ := hcut
     rw [hwc]
     clear hwc
     replace hz := Lib.hid hz
     go_upto_if 60 with fail
     go_cut [60] from 61 to 63 (fun _ wx => CrtT w w1.heap.size gw G kind (txnN d txn) yes ff tt epoch shard target root c n RA R.length cr WA W.length cw LT [] wx)
     case first =>
      cases z with
      | true =>
        have hN : Hid (txnN d txn = d) := by
          rcases hz.out with h | h
          · exact if_pos h.2
          · exact absurd h.1 (by decide)
        go_wp2_with fail
        go_meet
        obtain ⟨g, m, base, v, gs, ms, gD, bD, vD, gQ, bQ, vQ, h4⟩ := h4.zero
        have hfs : Fr (fun j => j = w.heap.size) w4 (w4.setCell ⟨w.heap.size, 2, none⟩ (.int .i64 d)) := (Fr.refl (fun j => j = w.heap.size) w4).setCell (p := ⟨w.heap.size, 2, none⟩) (fun _ => rfl) _
        have hHs := hH4.set_ 2 (.int .i64 d)
        rw [hN.out]
        exact ⟨hHs, hT4.fr hfs (fun e => by omega), ⟨g, m, base, v, gs, ms, gD, bD, vD, gQ, bQ, vQ, h4.far hfs (fun j hj => ⟨_, _, hj ▸ hH4, by decide⟩)⟩, hfw4.trans hfs (fun k hk e => by omega)⟩
      | false =>
        have hN : Hid (txnN d txn = txn) := by
          rcases hz.out with h | h
          · exact absurd h.1 (by decide)
          · exact if_neg h.2
        go_wp2_with fail
        go_meet
        rw [hN.out]
        exact ⟨hH4, hT4, h4.zero, hfw4⟩
     case rest =>
      obtain ⟨hH5, hT5, ⟨g, m, base, v, gs, ms, gD, bD, vD, gQ, bQ, vQ, h5⟩, hfw5⟩ := hcut
      clear hH4 hT4 h4 hfw4 k2 z2
      generalize wc = w5 at *
      obtain ⟨tn, htn⟩ : ∃ tn, Hid (txnN d txn = tn) := ⟨_, rfl⟩
      rw [htn.out] at hH5
      have k1 := hH5.cell 1
      have k2 := hH5.cell 2
      have k3 := hH5.cell 3
      have k4 := hH5.cell 4
      have k5 := hH5.cell 5
      have k6 := hH5.cell 6
      have k7 := hH5.cell 7
      have k8 := hH5.cell 8
      have k9 := hH5.cell 9
      have HP := ref11_Put1 w5 kind tn yes ff tt epoch shard target root
      obtain ⟨bs, hbs⟩ : ∃ bs, Hid ((if OkSay ⟨kind, tn, yes, ff, tt, epoch, shard, target, root⟩ then sayB ⟨kind, tn, yes, ff, tt, epoch, shard, target, root⟩ else []) = bs) := ⟨_, rfl⟩
      rw [hbs.out] at HP
      have hbz : Hid (bs.length = 0 ↔ ¬ OkSay ⟨kind, tn, yes, ff, tt, epoch, shard, target, root⟩) := by
        show _ ↔ _
        rw [← hbs.out]
        by_cases hok : OkSay ⟨kind, tn, yes, ff, tt, epoch, shard, target, root⟩
        · rw [if_pos hok]
          have := (sayB_length hok).1
          exact ⟨fun h => by omega, fun h => absurd hok h⟩
        · rw [if_neg hok]
          simp [hok]
      replace HP := Lib.hid HP
      go_upto_if 69 with (go_at_call 12; refine HP.out.mono ?_; rintro e w6 ⟨v6, rfl, hv6, hf6⟩; obtain ⟨A6, cap6, rfl, _, _⟩ := hv6.form)
      have hH6 := hH5.fr hf6 id
      have hT6 := hT5.fr hf6 id
      have h6 := h5.keep hf6
      have hfw6 := hfw5.then_ hf6
      clear hH5 hT5 h5 hfw5 hf6 HP k1 k2 k3 k4 k5 k6 k7 k8 k9
      go_cut [69] from 70 to 77 (fun _ wx => CrtT w w1.heap.size gw G kind tn yes ff tt epoch shard target root c n RA R.length cr WA W.length cw (sayL LT ⟨kind, tn, yes, ff, tt, epoch, shard, target, root⟩) (crtS G mask LT ⟨kind, tn, yes, ff, tt, epoch, shard, target, root⟩) wx ∧ Own8 wx w5.heap.size (.slice A6 bs.length cap6) bs)
      case first =>
        by_cases hok : OkSay ⟨kind, tn, yes, ff, tt, epoch, shard, target, root⟩
        · have hbs1 : sayB ⟨kind, tn, yes, ff, tt, epoch, shard, target, root⟩ = bs := by have := hbs.out; rw [if_pos hok] at this; exact this
          have hyl : Hid (bs.length ≤ 65536) := by
            obtain ⟨q1, q2, q3⟩ := sayB_length hok
            show _ ≤ _
            rw [← hbs1]
            dsimp only at q1 q2 q3
            omega
          have hy8 : Hid (B8 bs) := by show B8 bs; rw [← hbs1]; exact b8_sayB _
          have hpos : (0 : Int) < (bs.length : Int) := by
            have := hbz.out
            rcases Nat.eq_zero_or_pos bs.length with h | h
            · exact absurd hok (this.1 h)
            · omega
          have hG0 : GoodL LT := by rw [← hLT.out]; exact txnL_good _ _ _ _
          have hL0 : LT.length ≤ 1 := by rw [← hLT.out]; exact txnL_len _ _ _ _
          have HD := law12_Digest (nQ := 0) ⟨g, m, base, v, gs, ms, gD, bD, vD, gQ, bQ, vQ, [], h6.keep ((Fr.refl (fun _ => False) w6).drew), Nat.le_refl _⟩ hG0 (List.prefix_refl _) (by omega) (hv6.fr ((Fr.refl (fun _ => False) w6).drew) (fun _ _ => id)) hy8.out hyl.out
          replace HD := Lib.hid HD
          have HSL : Hid (sayL LT ⟨kind, tn, yes, ff, tt, epoch, shard, target, root⟩ = digL LT bs) := by show _ = _; rw [sayL, if_pos hok, hbs1]
          have HSI : Hid (sayI LT ⟨kind, tn, yes, ff, tt, epoch, shard, target, root⟩ = (digI LT bs : Nat)) := by show _ = _; rw [sayI, if_pos hok, hbs1]
          have HSS : Hid (crtS G mask LT ⟨kind, tn, yes, ff, tt, epoch, shard, target, root⟩ = signTo G mask (digI LT bs : Nat) [] 10) := by show _ = _; rw [crtS, if_pos hok, HSI.out]
          have hH6d := hH6.drew
          have hT6d := hT6.drew
          have hv6d := own_fr hv6 ((Fr.refl (fun _ => False) w6).drew) (fun _ _ => id)
          have hfw6d := hfw6.then_ ((Fr.refl (fun _ => False) w6).drew)
          have c0 := hH6.cell 0
          clear hv6 h6 hbs1 hok hG0 hL0 hH6 hT6 hfw6
          go_upto_region 11 with fail
          refine wp_region_noPanic ?_
          refine wp_region_held_drew (S := (fun w' => w'.cell? ⟨w.heap.size, 0, none⟩ = some (.int .i64 G))) (by kernel_rfl) (c0) (fun hHeld => ?_)
          refine tk 0 70 ?_
          refine tk 1 71 ?_
          refine tk 2 72 ?_
          refine tk 3 73 ?_
          refine tk 4 74 ?_
          refine tk 5 75 ?_
          refine wpAnyH_ready (rs := [6]) (by kernel_rfl) (by simp) ?_
          refine AllReadyH.cons rfl (fun K hK => ?_) AllReadyH.nil
          go_simp
          go_at_call 14
          refine HD.out.mono ?_
          rintro e w7 ⟨rfl, h7, hst7⟩
          have hH7 := hst7.blk _ _ _ hH6d (by decide)
          have hT7 := hst7.blk _ _ _ hT6d (by decide)
          have hv7 := own_st hv6d hst7 (by decide)
          have hfw7 := hfw6d.trans hst7.fr (fun k hk e => by omega)
          obtain ⟨g, m, base, v, gs, ms, gD, bD, vD, gQ, bQ, vQ, h7⟩ := h7.zero
          have HSg := Lib.hid (law12_SignX h7 (Nat.zero_le 0) (by decide) G mask (digI LT bs : Nat))
          try go_wp2_with fail
          refine hK.out _ _ (hH7.cell 0) (fun hHeld => ?_)
          clear hK K
          refine wpAnyH_ready (rs := [7]) (by kernel_rfl) (by simp) ?_
          refine AllReadyH.cons rfl (fun K hK => ?_) AllReadyH.nil
          go_simp
          go_at_call 13
          refine HSg.out.mono ?_
          rintro e w8 ⟨r8, vQ8, rfl, h8, hst8⟩
          have hH8 := hst8.blk _ _ _ hH7 (by decide)
          have hT8 := hst8.blk _ _ _ hT7 (by decide)
          have hv8 := own_st hv7 hst8 (by decide)
          have hfw8 := hfw7.trans hst8.fr (fun k hk e => by omega)
          try go_wp2_with fail
          refine hK.out _ _ (hH8.cell 0) (fun hHeld => ?_)
          clear hK K
          refine wpAnyH_done (by kernel_rfl) ?_ _
          refine NoPanic.normal ?_
          go_wp2_with fail
          go_meet
          rw [HSL.out, HSS.out]
          exact ⟨⟨hH8, hT8, ⟨_, _, _, _, _, _, _, _, _, _, _, _, h8⟩, hfw8⟩, hv8⟩
        · have hpos : ¬ (0 : Int) < (bs.length : Int) := by have := hbz.out.2 hok; omega
          have HSL : Hid (sayL LT ⟨kind, tn, yes, ff, tt, epoch, shard, target, root⟩ = LT) := by show _ = _; rw [sayL, if_neg hok]
          have HSS : Hid (crtS G mask LT ⟨kind, tn, yes, ff, tt, epoch, shard, target, root⟩ = []) := by show _ = _; rw [crtS, if_neg hok]
          clear hok
          go_wp2_with fail
          go_meet
          rw [HSL.out, HSS.out]
          exact ⟨⟨hH6, hT6, ⟨_, _, _, _, _, _, _, _, _, _, _, _, h6⟩, hfw6⟩, hv6⟩
      case rest =>
        obtain ⟨⟨hH9, hT9, ⟨g, m, base, v, gs, ms, gD, bD, vD, gQ, bQ, vQ, h9⟩, hfw9⟩, hv9⟩ := hcut
        clear hH6 hT6 h6 hfw6 hv6
        generalize wc = w9 at *
        go_upto_region 12 with fail
        obtain ⟨L, hL⟩ : ∃ L, Hid (sayL LT ⟨kind, tn, yes, ff, tt, epoch, shard, target, root⟩ = L) := ⟨_, rfl⟩
        obtain ⟨SL, hSL⟩ : ∃ SL, Hid (crtS G mask LT ⟨kind, tn, yes, ff, tt, epoch, shard, target, root⟩ = SL) := ⟨_, rfl⟩
        rw [hL.out, hSL.out] at h9
        have HGL : Hid (GoodL L) := by show GoodL L; rw [← hL.out, ← hLT.out]; exact (txnL_good _ _ _ _).say _
        have HLN : Hid (L.length ≤ 2) := by
          have h1 := sayL_len LT ⟨kind, tn, yes, ff, tt, epoch, shard, target, root⟩
          have h2 := txnL_len c n R W
          rw [hLT.out] at h2
          rw [hL.out] at h1
          show _ ≤ _
          omega
        have HL8 : Hid (∀ t ∈ L, B8 t) := h9.bs.book.map.2
        have hB : B8 bs ∧ bs.length ≤ 65536 ∧ (OkSay ⟨kind, tn, yes, ff, tt, epoch, shard, target, root⟩ → digL L bs = L ∧ ((digI L bs : Nat) : Int) = sayI L ⟨kind, tn, yes, ff, tt, epoch, shard, target, root⟩) := by
          rw [← hbs.out, ← hL.out]
          by_cases hok : OkSay ⟨kind, tn, yes, ff, tt, epoch, shard, target, root⟩
          · rw [if_pos hok]
            obtain ⟨q1, q2, q3⟩ := sayB_length hok
            dsimp only at q1 q2 q3
            refine ⟨b8_sayB _, by omega, fun _ => ⟨?_, ?_⟩⟩
            · rw [sayL, if_pos hok]; exact digL_twice _ _
            · rw [sayI, if_pos hok]
          · rw [if_neg hok]
            exact ⟨fun y h => (by cases h), by simp, fun h => absurd h hok⟩
        have HB := Lib.hid hB
        obtain ⟨O, hO⟩ : ∃ O, Hid (ordA L SL k G ⟨kind, tn, yes, ff, tt, epoch, shard, target, root⟩ ss l = O) := ⟨_, rfl⟩
        have hkb := HK.out
        have hfd : Fr (fun _ => False) w9 w9.drew := (Fr.refl _ _).drew
        have h9d := h9.keep hfd
        have hH9d := hH9.drew
        have hT9d := hT9.drew
        have hv9d := own_fr hv9 hfd (fun _ _ => id)
        have hfw9d := hfw9.then_ hfd
        have hno : ∀ b, b < w.heap.size → ¬ (b = g ∨ b = m ∨ v.ownBlock = some b) := fun b hb e => by
          rcases e with e | e | e
          · have := h9.lo_g; omega
          · have := h9.lo_m; omega
          · have := own_ge h9.bs.book.own b e; have := h9.lo_b; omega
        have HORD := Lib.hid (orders_sem (kind := kind) (txn := tn) (yes := yes) (ff := ff) (tt := tt) (epoch := epoch) (shard := shard) (target := target) (root := root) (G := G) (sc := sc) (lc := lc) h9d.bs h9d.b_le (by have := HLN.out; omega) HGL.out (f := k) (by omega) (HSH.out.fr hfw9d (fun b hb e => by omega)) (bS := w.heap.size) (by have := hfw9d.size; omega) hno (by have := HLL.out; omega) (HEN.out.fr hfw9d (fun b hb e => by omega)) hno (by have := HLL.out; omega) hO.out)
        have HSM : Hid (∀ o, O = some o → OrdSome L SL k G ⟨kind, tn, yes, ff, tt, epoch, shard, target, root⟩ l o) := fun o h => ordA_some (by have := HLN.out; omega) ⟨by omega, by omega⟩ (hO.out.trans h)
        have HTX : Hid (∀ o, O = some o → o.kind = 1 → ∀ c' n' R' W', TOk c' n' R' W' → o.t0 = txnB c' n' R' W' → tn = d → c' = c ∧ n' = n ∧ R' = R ∧ W' = W) := fun o h hk1 c' n' R' W' hT' ht0 he => by
          have h1 := hO.out
          rw [← hL.out, ← hLT.out] at h1
          exact ordA_txn (h1.trans h) hk1 hT' ht0 (by rw [hd.out]; exact he)
        obtain ⟨D, hD⟩ : ∃ D, sayI L ⟨kind, tn, yes, ff, tt, epoch, shard, target, root⟩ = D := ⟨_, rfl⟩
        obtain ⟨xs, hxs⟩ : ∃ xs, ordX G D k SL = xs := ⟨_, rfl⟩
        have HDX : Hid (sayI L ⟨kind, tn, yes, ff, tt, epoch, shard, target, root⟩ = D ∧ ordX G (sayI L ⟨kind, tn, yes, ff, tt, epoch, shard, target, root⟩) k SL = xs) := ⟨hD, by rw [hD]; exact hxs⟩
        rw [hD, hxs] at HORD
        obtain ⟨bb, hbb⟩ : ∃ bb, Hid (ordBB (sayB ⟨kind, tn, yes, ff, tt, epoch, shard, target, root⟩) (certB G D xs) O = bb) := ⟨_, rfl⟩
        obtain ⟨gg, hgg⟩ : ∃ gg, Hid (ordG O = gg) := ⟨_, rfl⟩
        rw [hbb.out, hgg.out] at HORD
        have hgl : gg.length ≤ 42 := by rw [← hgg.out]; have := ordA_len hO.out; have := HLL.out; omega
        clear hB hD hxs hkb hno hfd hfw9 hv9
        refine wp_region_noPanic ?_
        refine wp_region_held_drew (S := (fun w' => w'.cell? ⟨gw, 0, none⟩ = some (.pointer (some ⟨g, 0, none⟩)) ∧ w'.cell? ⟨gw, 1, none⟩ = some (.pointer (some ⟨gs, 0, none⟩)) ∧ w'.cell? ⟨w.heap.size, 0, none⟩ = some (.int .i64 G) ∧ w'.cell? ⟨w.heap.size, 1, none⟩ = some (.int .i64 kind) ∧ w'.cell? ⟨w.heap.size, 2, none⟩ = some (.int .i64 tn) ∧ w'.cell? ⟨w.heap.size, 3, none⟩ = some (.bool yes) ∧ w'.cell? ⟨w.heap.size, 4, none⟩ = some (.string ff) ∧ w'.cell? ⟨w.heap.size, 5, none⟩ = some (.string tt) ∧ w'.cell? ⟨w.heap.size, 6, none⟩ = some (.int .i64 epoch) ∧ w'.cell? ⟨w.heap.size, 7, none⟩ = some (.int .i64 shard) ∧ w'.cell? ⟨w.heap.size, 8, none⟩ = some (.int .i64 target) ∧ w'.cell? ⟨w.heap.size, 9, none⟩ = some (.int .i64 root))) (by kernel_rfl) (⟨h9.blk.cell 0, h9.blk.cell 1, hH9.cell 0, hH9.cell 1, hH9.cell 2, hH9.cell 3, hH9.cell 4, hH9.cell 5, hH9.cell 6, hH9.cell 7, hH9.cell 8, hH9.cell 9⟩) (fun hHeld => ?_)
        refine tk 0 78 ?_
        refine tk 1 79 ?_
        refine tk 2 80 ?_
        refine tk 3 81 ?_
        refine tk 4 82 ?_
        refine tk 5 83 ?_
        refine tk 6 84 ?_
        refine tk 7 85 ?_
        refine tk 8 86 ?_
        refine tk 9 87 ?_
        refine tk 10 88 ?_
        refine tk 11 89 ?_
        refine wpAnyH_ready (rs := [12]) (by kernel_rfl) (by simp) ?_
        refine AllReadyH.cons rfl (fun K hK => ?_) AllReadyH.nil
        go_simp
        go_at_call 15
        refine HORD.out.mono ?_
        rintro e w10 ⟨tv, v10, rfl, htv, hb10, hf10, hk10⟩
        obtain ⟨A10, c10, rfl⟩ := htv.form_
        obtain ⟨h10, hst10⟩ := h9d.step hb10 (hf10.mono (fun k _ h => by rcases h with h | h | h <;> simp [h]))
        have hH10 := hst10.blk _ _ _ hH9d (by decide)
        have hT10 := hst10.blk _ _ _ hT9d (by decide)
        have hv10 := own_st hv9d hst10 (by decide)
        have hfw10 := hfw9d.trans hst10.fr (fun k hk e => by omega)
        try go_wp2_with fail
        refine hK.out _ _ (⟨h10.blk.cell 0, h10.blk.cell 1, hH10.cell 0, hH10.cell 1, hH10.cell 2, hH10.cell 3, hH10.cell 4, hH10.cell 5, hH10.cell 6, hH10.cell 7, hH10.cell 8, hH10.cell 9⟩) (fun hHeld => ?_)
        clear hK K
        refine tk 13 19 ?_
        refine wpAnyH_done (by kernel_rfl) ?_ _
        refine NoPanic.normal ?_
        clear HORD h9 h9d hH9 hH9d hT9 hT9d hv9d hfw9d hb10 hf10 hk10 hst10
        go_upto_region 14 with fail
        go_loopw [20] (fun ix wr => ∃ (j : Nat) (vD' : Value), j ≤ gg.length ∧ ix = .int .i64 j ∧ WSAt wr w1.heap.size gw g m base v10 (ordL (sayL L ⟨kind, tn, yes, ff, tt, epoch, shard, target, root⟩) O) gs ms SL gD bD vD' L gQ bQ vQ SL ∧ Blk wr w.heap.size 25 #[.int .i64 G, .int .i64 kind, .int .i64 tn, .bool yes, .string ff, .string tt, .int .i64 epoch, .int .i64 shard, .int .i64 target, .int .i64 root] ∧ Blk wr (w.heap.size + 1) 29 #[.int .i64 c, .int .i64 n, .slice RA R.length cr, .slice WA W.length cw] ∧ TasksAt wr w9.drew.heap.size (.slice A10 gg.length c10) gg bb ∧ Own8 wr w5.heap.size (.slice A6 bs.length cap6) bs ∧ Fr (fun k => w.heap.size ≤ k) w wr) (fun ix _ => gg.length - (intOf ix).toNat)
        case atStart => exact ⟨0, vD, by omega, rfl, h10, hH10, hT10, htv, hv10, hfw10⟩
        case round =>
          clear htv h10 hH10 hT10 hv10 hfw10
          obtain ⟨j, vD', hj, rfl, hWr, hHr, hTr, htr, hvr, hfr⟩ := hrel
          by_cases hlt : j < gg.length
          · obtain ⟨o, rfl⟩ : ∃ o, O = some o := by
              cases O with
              | none => rw [← hgg.out] at hlt; exact absurd hlt (by simp [ordG])
              | some o => exact ⟨o, rfl⟩
            have HLT := Lib.hid hlt
            have hS := HSM.out o rfl
            have hSx := hS.xl
            have hSe := hS.xe
            have hSc := hS.ck
            have hSD := hS.D0
            rw [HDX.out.2] at hSx hSe hSc
            rw [HDX.out.1] at hSc hSD
            obtain ⟨b0, A', c', hA, hc, hrow⟩ := htr.nth hlt
            cases hA
            have HG := getOrder_sem (cap := c') hS.oo hS.ok hS.G0 hSD hSx hSe (fun x hx => HV.out x (hS.ow x hx)) (by rw [hbb.out]; exact hrow)
            rw [hbb.out] at HG
            replace HG := Lib.hid HG
            have HOK := Lib.hid hS.ok
            have HCN := Lib.hid hSc
            have HXL := Lib.hid hSx
            clear hS hSx hSe hSc hSD hrow
            go_upto_region 17 with (first | (refine wpList_store_new rfl 62 (.tmp 21) (.tmp 104) rfl _ _ rfl rfl (by kernel_rfl) rfl (by simp [Value.oneCell']) ?_) | (go_at_call 19; refine HG.out.mono ?_; rintro e w11 ⟨c1, n1, R1, W1, hkT, hfT, RA1, cr1, WA1, cw1, CA1, cc1, EA1, ce1, VA1, cv1, rfl, hR1, hW1, hC1, _, _, hf11⟩; obtain ⟨kd, hkd⟩ : ∃ kd, Hid (o.kind = kd) := ⟨_, rfl⟩; obtain ⟨mn, hmn⟩ : ∃ mn, Hid ((o.own.length : Int) = mn) := ⟨_, rfl⟩; obtain ⟨el, hel⟩ : ∃ el, Hid (o.own.length = el) := ⟨_, rfl⟩; obtain ⟨bl, hbl⟩ : ∃ bl, Hid (o.Bs.length = bl) := ⟨_, rfl⟩; rw [hmn.out, hel.out, hbl.out, hkd.out]))
            obtain ⟨gO, hgO⟩ : ∃ x, Hid (w11.heap.size = x) := ⟨_, rfl⟩
            have hX12 := Blk.new w11 62 #[.int .i64 kd, .int .i64 c1, .int .i64 n1, .slice RA1 R1.length cr1, .slice WA1 W1.length cw1, .int .i64 kind, .int .i64 tn, .bool yes, .string ff, .string tt, .int .i64 epoch, .int .i64 shard, .int .i64 target, .int .i64 root, .int .i64 G, .int .i64 D, .slice CA1 xs.length cc1, .int .i64 mn, .int .i64 0, .slice EA1 el ce1, .slice VA1 bl cv1]
            have hf12 := (Fr.refl (fun _ => False) w11).alloc (Obj.cells #[.int .i64 kd, .int .i64 c1, .int .i64 n1, .slice RA1 R1.length cr1, .slice WA1 W1.length cw1, .int .i64 kind, .int .i64 tn, .bool yes, .string ff, .string tt, .int .i64 epoch, .int .i64 shard, .int .i64 target, .int .i64 root, .int .i64 G, .int .i64 D, .slice CA1 xs.length cc1, .int .i64 mn, .int .i64 0, .slice EA1 el ce1, .slice VA1 bl cv1] 62)
            generalize w11.alloc (Obj.cells #[.int .i64 kd, .int .i64 c1, .int .i64 n1, .slice RA1 R1.length cr1, .slice WA1 W1.length cw1, .int .i64 kind, .int .i64 tn, .bool yes, .string ff, .string tt, .int .i64 epoch, .int .i64 shard, .int .i64 target, .int .i64 root, .int .i64 G, .int .i64 D, .slice CA1 xs.length cc1, .int .i64 mn, .int .i64 0, .slice EA1 el ce1, .slice VA1 bl cv1] 62) = w12 at *
            have hfr2 := hf11.then_ hf12
            have hW12 := hWr.keep hfr2
            have hH12 := hHr.fr hfr2 id
            have hT12 := hTr.fr hfr2 id
            have htr2 := htr.fr hfr2 (fun _ _ => id) (fun _ _ => id)
            have hvr2 := own_fr hvr hfr2 (fun _ _ => id)
            have hfrw2 := hfr.then_ hfr2
            have HC12 := Lib.hid ((hC1.fr hf12 (fun _ _ => id)).row)
            have HR12 := Lib.hid (hR1.fr hf12 (fun _ _ => id))
            have HW12 := Lib.hid (hW1.fr hf12 (fun _ _ => id))
            have hkT' := Lib.hid hkT
            have hFar : Hid (∀ k, wr.heap.size ≤ k → ¬ (k = gD ∨ vD'.ownBlock = some k)) := fun k hk e => by
              rcases e with e | e
              · have := hWr.rb.blk.lt; omega
              · obtain ⟨vals, h1, _⟩ := hWr.rb.row
                obtain ⟨cs, hB⟩ := own_cells h1 e
                have := hB.lt
                omega
            clear hWr hHr hTr htr hvr hfr hC1 hR1 hW1 hkT hfT hf11 hf12 HG hc
            rw [hgO.out] at hX12 ⊢
            have x5 := hX12.cell 5
            have x6 := hX12.cell 6
            have x7 := hX12.cell 7
            have x8 := hX12.cell 8
            have x9 := hX12.cell 9
            have x10 := hX12.cell 10
            have x11 := hX12.cell 11
            have x12 := hX12.cell 12
            have x13 := hX12.cell 13
            have x14 := hX12.cell 14
            have k0 := hH12.cell 0
            have k1 := hH12.cell 1
            have k2 := hH12.cell 2
            have k3 := hH12.cell 3
            have k4 := hH12.cell 4
            have k5 := hH12.cell 5
            have k6 := hH12.cell 6
            have k7 := hH12.cell 7
            have k8 := hH12.cell 8
            have k9 := hH12.cell 9
            go_upto_region 19 with fail
            clear x5 x6 x7 x8 x9 x10 x11 x12 x13 x14 k0 k1 k2 k3 k4 k5 k6 k7 k8 k9
            have HCK := Lib.hid (fun w' (hf : Fr (fun _ => False) w12 w') => ref05_Check_ok (cap := cc1) (hW12.rq.fr hf id (fun _ _ => id)) (by have h1 := crtS_len G mask LT ⟨kind, tn, yes, ff, tt, epoch, shard, target, root⟩; rw [hSL.out] at h1; omega) (show IntRow w' w'.heap.size CA1 xs from fun i x hx => by obtain ⟨b, o, e, hb, h2⟩ := HC12.out i x hx; exact ⟨b, o, e, by have := hf.size; omega, hf.cell_some h2 id⟩) (by have := HXL.out; omega) HCN.out)
            have hk0 := HK.out.1
            have hk2 := HK.out.2
            have hw2 : IntKind.i64.wrap (2 * k) = 2 * k := by unfold IntKind.wrap; simp [IntKind.bits, IntKind.signed]; omega
            have hw21 : IntKind.i64.wrap (2 * k + 1) = 2 * k + 1 := by unfold IntKind.wrap; simp [IntKind.bits, IntKind.signed]; omega
            go_cut [24, 25] from 124 to 136 (fun b _ wx => b = .int .i64 0 ∧ Fr (fun _ => False) w12 wx)
            case first =>
              refine wp_region_noPanic ?_
              refine wp_region_held_drew (S := (fun w' => w'.cell? ⟨gw, 3, none⟩ = some (.pointer (some ⟨gQ, 0, none⟩)) ∧ w'.cell? ⟨gO, 14, none⟩ = some (.int .i64 G) ∧ w'.cell? ⟨gO, 15, none⟩ = some (.int .i64 D) ∧ w'.cell? ⟨gO, 16, none⟩ = some (.slice CA1 xs.length cc1))) (by kernel_rfl) (⟨(hW12.blk).cell 3, (hX12).cell 14, (hX12).cell 15, (hX12).cell 16⟩) (fun hHeld => ?_)
              refine tk 0 125 ?_
              refine tk 1 126 ?_
              refine tk 2 127 ?_
              refine tk 3 128 ?_
              refine tk 4 129 ?_
              refine tk 5 130 ?_
              refine tk 6 131 ?_
              refine tk 7 132 ?_
              refine tk 8 133 ?_
              refine wpAnyH_ready (rs := [9, 13]) (by kernel_rfl) (by simp) ?_
              refine AllReadyH.cons rfl (fun K hK => ?_) (AllReadyH.cons rfl (fun K hK => ?_) AllReadyH.nil)
              · skip
                go_simp
                go_at_call 20
                refine (HCK.out _ ((Fr.refl (fun _ => False) w12).drew)).mono ?_
                rintro e w13 ⟨rfl, hf13⟩
                have hff13 := ((Fr.refl (fun _ => False) w12).drew).then_ hf13
                have hW13 := hW12.blk.fr hff13 id
                have hX13 := hX12.fr hff13 id
                try go_wp2_with fail
                refine hK.out _ _ (⟨(hW13).cell 3, (hX13).cell 14, (hX13).cell 15, (hX13).cell 16⟩) (fun hHeld => ?_)
                clear hK K
                refine tk 10 124 ?_
                refine tk 11 135 ?_
                refine tk 12 136 ?_
                refine wpAnyH_ready (rs := [13]) (by kernel_rfl) (by simp) ?_
                refine AllReadyH.cons rfl (fun K hK => ?_) AllReadyH.nil
                go_simp
                refine hK.out _ _ (⟨(hW13.alloc (Obj.cells #[.string ⟨#[]⟩, .int .i64 0] 70)).cell 3, (hX13.alloc (Obj.cells #[.string ⟨#[]⟩, .int .i64 0] 70)).cell 14, (hX13.alloc (Obj.cells #[.string ⟨#[]⟩, .int .i64 0] 70)).cell 15, (hX13.alloc (Obj.cells #[.string ⟨#[]⟩, .int .i64 0] 70)).cell 16⟩) (fun hHeld => ?_)
                clear hK K
                have hP := Blk.new w13 70 #[.string ⟨#[]⟩, .int .i64 0]
                have hff14 := hff13.alloc (Obj.cells #[.string ⟨#[]⟩, .int .i64 0] 70)
                have hW14 := hW13.alloc (Obj.cells #[.string ⟨#[]⟩, .int .i64 0] 70)
                have hX14 := hX13.alloc (Obj.cells #[.string ⟨#[]⟩, .int .i64 0] 70)
                have hgP : ¬ w13.heap.size < w12.heap.size := by have := hff13.size; omega
                generalize w13.alloc (Obj.cells #[.string ⟨#[]⟩, .int .i64 0] 70) = w14 at *
                generalize w13.heap.size = gP at *
                have p0 := hP.cell 0
                have f0 := hP.frozen 0
                have p1 := hP.cell 1
                have f1 := hP.frozen 1
                refine tk 14 24 ?_
                refine wpAnyH_ready (rs := [15]) (by kernel_rfl) (by simp) ?_
                refine AllReadyH.cons rfl (fun K hK => ?_) AllReadyH.nil
                go_simp
                have hfS : Fr (fun k => k = gP) w14 ((w14.setCell ⟨gP, 0, none⟩ (.string ⟨#[]⟩)).setCell ⟨gP, 1, none⟩ (.int .i64 0)) := ((Fr.refl (fun k => k = gP) w14).setCell (p := ⟨gP, 0, none⟩) (fun _ => rfl) _).setCell (p := ⟨gP, 1, none⟩) (fun _ => rfl) _
                have hW15 := hW14.fr hfS (hW14.ne_ hP (by decide))
                have hX15 := hX14.fr hfS (hX14.ne_ hP (by decide))
                refine hK.out _ _ (⟨(hW15).cell 3, (hX15).cell 14, (hX15).cell 15, (hX15).cell 16⟩) (fun hHeld => ?_)
                clear hK K
                refine wpAnyH_done (by kernel_rfl) ?_ _
                refine NoPanic.normal ?_
                go_wp2_with fail
                go_meet
                exact ⟨rfl, hfs' hgP _ _ hff14⟩
              · skip
                go_simp
                refine hK.out _ _ (⟨((hW12.blk.alloc (Obj.cells #[.string ⟨#[]⟩, .int .i64 0] 70)).drew).cell 3, ((hX12.alloc (Obj.cells #[.string ⟨#[]⟩, .int .i64 0] 70)).drew).cell 14, ((hX12.alloc (Obj.cells #[.string ⟨#[]⟩, .int .i64 0] 70)).drew).cell 15, ((hX12.alloc (Obj.cells #[.string ⟨#[]⟩, .int .i64 0] 70)).drew).cell 16⟩) (fun hHeld => ?_)
                clear hK K
                have hff0 := ((Fr.refl (fun _ => False) w12).alloc (Obj.cells #[.string ⟨#[]⟩, .int .i64 0] 70)).drew
                refine wpAnyH_ready (rs := [9]) (by kernel_rfl) (by simp) ?_
                refine AllReadyH.cons rfl (fun K hK => ?_) AllReadyH.nil
                go_simp
                go_at_call 20
                refine (HCK.out _ hff0).mono ?_
                rintro e w14 ⟨rfl, hf14⟩
                have hff14 := hff0.then_ hf14
                have hW14 := hW12.blk.fr hff14 id
                have hX14 := hX12.fr hff14 id
                have hP := ((Blk.new w12 70 #[.string ⟨#[]⟩, .int .i64 0]).drew).fr hf14 id
                have hgP : ¬ w12.heap.size < w12.heap.size := by omega
                try go_wp2_with fail
                refine hK.out _ _ (⟨(hW14).cell 3, (hX14).cell 14, (hX14).cell 15, (hX14).cell 16⟩) (fun hHeld => ?_)
                clear hK K
                refine tk 10 124 ?_
                refine tk 11 135 ?_
                refine tk 12 136 ?_
                refine tk 14 24 ?_
                have p0 := hP.cell 0
                have f0 := hP.frozen 0
                have p1 := hP.cell 1
                have f1 := hP.frozen 1
                refine wpAnyH_ready (rs := [15]) (by kernel_rfl) (by simp) ?_
                refine AllReadyH.cons rfl (fun K hK => ?_) AllReadyH.nil
                go_simp
                have hfS : Fr (fun k => k = w12.heap.size) w14 ((w14.setCell ⟨w12.heap.size, 0, none⟩ (.string ⟨#[]⟩)).setCell ⟨w12.heap.size, 1, none⟩ (.int .i64 0)) := ((Fr.refl (fun k => k = w12.heap.size) w14).setCell (p := ⟨w12.heap.size, 0, none⟩) (fun _ => rfl) _).setCell (p := ⟨w12.heap.size, 1, none⟩) (fun _ => rfl) _
                have hW15 := hW14.fr hfS (hW14.ne_ hP (by decide))
                have hX15 := hX14.fr hfS (hX14.ne_ hP (by decide))
                refine hK.out _ _ (⟨(hW15).cell 3, (hX15).cell 14, (hX15).cell 15, (hX15).cell 16⟩) (fun hHeld => ?_)
                clear hK K
                refine wpAnyH_done (by kernel_rfl) ?_ _
                refine NoPanic.normal ?_
                go_wp2_with fail
                go_meet
                exact ⟨rfl, hfs' hgP _ _ hff14⟩
            case rest =>
              obtain ⟨rfl, hf16⟩ := hcut
              clear hk0 hk2 hw2 hw21 HCK HC12
              generalize wc = w16 at *
              have hW16 := hW12.keep hf16
              have hH16 := hH12.fr hf16 id
              have hT16 := hT12.fr hf16 id
              have hX16 := hX12.fr hf16 id
              have htr16 := htr2.fr hf16 (fun _ _ => id) (fun _ _ => id)
              have hv16 := own_fr hvr2 hf16 (fun _ _ => id)
              have hfw16 := hfrw2.then_ hf16
              have HR16 := Lib.hid (HR12.out.fr hf16 (fun _ _ => id))
              have HW16 := Lib.hid (HW12.out.fr hf16 (fun _ _ => id))
              clear hW12 hH12 hT12 hX12 htr2 hvr2 hfrw2 HR12 HW12 hf16
              have HDG : Calls Tryz.prog 21 #[.pointer (some ⟨gD, 0, none⟩), .slice A6 bs.length cap6] w16 (RDigOut w16 gD bD vD' L bs) := by
                obtain ⟨A0, c0, e0, _, hr0⟩ := (show Own8 w16 w5.heap.size (.slice A6 bs.length cap6) bs from hv16).form
                cases e0
                exact ref03_Digest hW16.rb HL8.out hW16.bD_le hr0 HB.out.1 HB.out.2.1 (by have := HLN.out; omega)
              unfold RDigOut at HDG
              rw [(HB.out.2.2 HOK.out).1, (HB.out.2.2 HOK.out).2, HDX.out.1] at HDG
              replace HDG := Lib.hid HDG
              have q2 := hW16.blk.cell 2
              go_upto_region 21 with (go_at_call 21; refine HDG.out.mono ?_; rintro e w17 ⟨v17, rfl, hb17, hf17, _⟩)
              clear q2 HDG
              obtain ⟨hW17, hst17⟩ := hW16.stepD hb17 hf17
              have hH17 := hst17.blk _ _ _ hH16 (by decide)
              have hT17 := hst17.blk _ _ _ hT16 (by decide)
              have hX17 := hst17.blk _ _ _ hX16 (by decide)
              have htr17 := htr16.dig hW16.rb hf17
              have hv17 := own_st hv16 hst17 (by decide)
              have hfw17 := hfw16.trans hst17.fr (fun k hk e => by omega)
              have HR17 := Lib.hid ((HR16.out.fr hf17 hFar.out).mono_ (F' := fun _ => True) (fun _ _ => trivial))
              have HW17 := Lib.hid ((HW16.out.fr hf17 hFar.out).mono_ (F' := fun _ => True) (fun _ _ => trivial))
              clear hW16 hH16 hT16 hX16 htr16 hv16 hfw16 HR16 HW16 hb17 hf17 hst17
              have x15 := hX17.cell 15
              have x0 := hX17.cell 0
              by_cases hk1 : kd = 1
              · have ek1 : (kd == 1) = true := by rw [hk1]; rfl
                have hTT : TOk c1 n1 R1 W1 ∧ o.t0 = txnB c1 n1 R1 W1 := by
                  rcases hkT'.out with h | h
                  · exact h.2
                  · exact absurd (hkd.out.trans hk1) h
                have HSME : Hid (tn = d → c1 = c ∧ n1 = n ∧ R1 = R ∧ W1 = W) := fun he => HTX.out o rfl (hkd.out.trans hk1) c1 n1 R1 W1 hTT.1 hTT.2 he
                have hl1 : R1.length ≤ 8 := rises_len hTT.1.2.2.2.2.2.1
                have hl2 : W1.length ≤ 8 := rises_len hTT.1.2.2.2.2.2.2
                have HSA : Calls Tryz.prog 22 #[.agg #[.int .i64 c1, .int .i64 n1, .slice RA1 R1.length cr1, .slice WA1 W1.length cw1], .agg #[.int .i64 c, .int .i64 n, .slice RA R.length cr, .slice WA W.length cw]] w17 (OkB w17 (decide (c1 = c ∧ n1 = n ∧ R1 = R ∧ W1 = W))) := ref10_Same HR17.out HW17.out ((HR.out.fr hfw17 (fun b hb e => by omega)).mono_ (F' := fun _ => True) (fun _ _ => trivial)) ((HW.out.fr hfw17 (fun b hb e => by omega)).mono_ (F' := fun _ => True) (fun _ _ => trivial)) (by omega) (by omega)
                clear hTT hl1 hl2 hk1
                have x1 := hX17.cell 1
                have x2 := hX17.cell 2
                have x3 := hX17.cell 3
                have x4 := hX17.cell 4
                have t0 := hT17.cell 0
                have t1 := hT17.cell 1
                have t2 := hT17.cell 2
                have t3 := hT17.cell 3
                by_cases hsame : c1 = c ∧ n1 = n ∧ R1 = R ∧ W1 = W
                · rw [decide_eq_true hsame] at HSA
                  replace HSA := Lib.hid HSA
                  clear hsame
                  go_wp2_with (go_at_call 22; refine HSA.out.mono ?_; rintro e w18 ⟨rfl, hf18⟩)
                  go_roundw
                  case rel => exact ⟨j + 1, v17, by have := HLT.out; omega, by go_num, hW17.keep hf18, hH17.fr hf18 id, hT17.fr hf18 id, htr17.fr hf18 (fun _ _ => id) (fun _ _ => id), own_fr hv17 hf18 (fun _ _ => id), hfw17.then_ hf18⟩
                  case measure => have := HLT.out; simp [intOf]; omega
                · rw [decide_eq_false hsame] at HSA
                  replace HSA := Lib.hid HSA
                  have hnd : (tn == d) = false := beq_eq_false_iff_ne.2 (fun e => hsame (HSME.out e))
                  clear hsame
                  have k2 := fun w' (hf : Fr (fun _ => False) w17 w') => (hH17.fr hf id).cell 2
                  go_wp2_with (go_at_call 22; refine HSA.out.mono ?_; rintro e w18 ⟨rfl, hf18⟩; have k2' := k2 _ hf18)
                  go_roundw
                  case rel => exact ⟨j + 1, v17, by have := HLT.out; omega, by go_num, hW17.keep hf18, hH17.fr hf18 id, hT17.fr hf18 id, htr17.fr hf18 (fun _ _ => id) (fun _ _ => id), own_fr hv17 hf18 (fun _ _ => id), hfw17.then_ hf18⟩
                  case measure => have := HLT.out; simp [intOf]; omega
              · have ek1 : (kd == 1) = false := beq_eq_false_iff_ne.2 hk1
                clear hk1
                go_wp2_with fail
                go_roundw
                case rel => exact ⟨j + 1, v17, by have := HLT.out; omega, by go_num, hW17, hH17, hT17, htr17, hv17, hfw17⟩
                case measure => have := HLT.out; simp [intOf]; omega
          · clear hWr hHr hTr htr hvr
            go_wp2_with fail
            go_ret
            exact ⟨rfl, (Fr.refl (fun _ => False) w).trans hfr (fun k hk e => by omega)⟩
end Go.Proofs.YtmkdhhhoodeemaaGreat

/- Arguments opened: rows of entries, what is heard. -/
namespace Go.Proofs.YtmkdhhhoodeemaaGreat
open Go Go.RowKit Go.ChangeShapes Go.WideShapes Go.Deep Go.Joins
section
variable {H : Type} {enc : TypeId × Value → H} {w : World} {base : Nat} {spare : Nat → Bool} {held : Bool}
set_option maxRecDepth 100000 in
theorem open_heard {fuel : Nat} {cs : List Value} {x : DataW H × List MemPlace} (h : DataW.trod enc Tryz.prog w base spare held fuel 25 cs = some x) :
  ∃ (G : Int) (s : SayD), cs = [.int .i64 G, .int .i64 s.kind, .int .i64 s.txn, .bool s.yes, .string s.from_, .string s.to_, .int .i64 s.epoch, .int .i64 s.shard, .int .i64 s.target, .int .i64 s.root] := by
 obtain ⟨xs, n, _, _, hlen, hxl, hf⟩ := DataW.trod_struct Tryz.underlying25 h
 have hc : (Tryz.prog).cellsOf 25 = 10 := by kernel_rfl
 rw [hc] at hlen
 match cs, hlen, xs, hxl with
 | [a0, a1, a2, a3, a4, a5, a6, a7, a8, a9], _, [x0, x1], _ =>
  have c1 : (Tryz.prog).cellsOf 3 = 1 := by kernel_rfl
  have c9 : (Tryz.prog).cellsOf 23 = 9 := by kernel_rfl
  have t0 : DataW.trod enc Tryz.prog w base spare held n 3 (([a0, a1, a2, a3, a4, a5, a6, a7, a8, a9].drop 0).take ((Tryz.prog).cellsOf 3)) = some x0 := hf 0 _ rfl
  rw [c1] at t0
  have t1 : DataW.trod enc Tryz.prog w base spare held n 23 (([a0, a1, a2, a3, a4, a5, a6, a7, a8, a9].drop 1).take ((Tryz.prog).cellsOf 23)) = some x1 := hf 1 _ rfl
  rw [c9] at t1
  obtain ⟨n0, e0, _, _⟩ := DataW.trod_int Tryz.underlying3 t0
  obtain ⟨s, e1, _⟩ := open_say t1
  cases e0
  cases e1
  exact ⟨n0, s, rfl⟩
end
end Go.Proofs.YtmkdhhhoodeemaaGreat

/- Arguments opened: rows of entries, with the versions' bounds. -/
namespace Go.Proofs.YtmkdhhhoodeemaaGreat
open Go Go.RowKit Go.ChangeShapes Go.WideShapes Go.Deep Go.Joins
section
variable {H : Type} {enc : TypeId × Value → H} {w : World} {base : Nat} {spare : Nat → Bool} {held : Bool}
set_option maxRecDepth 100000 in
theorem open_entriesV {fuel : Nat} {v : Value} {x : DataW H × List MemPlace} (h : DataW.trod enc Tryz.prog w base spare held fuel 31 [v] = some x) :
  ∃ (A : Option Addr) (cap : Nat) (l : List (ByteArray × ByteArray × Int)), v = .slice A l.length cap ∧ EntRow w (fun k => k < w.heap.size) A l ∧ l.length ≤ 9223372036854775807 ∧ ∀ x ∈ l, -9223372036854775808 ≤ x.2.2 ∧ x.2.2 ≤ 9223372036854775807 := by
 rcases open_slice_rows Tryz.underlying31 Tryz.underlying119 (by kernel_rfl) (by kernel_rfl) h with ⟨hv, _⟩ | ⟨a, len, cap, m, hv, hml, hm', hat⟩
 ·cases hv
  exact ⟨none, 0, [], rfl, fun k s hs => by simp at hs, by simp, fun x hx => by simp at hx⟩
 ·cases hv
  obtain ⟨l, hl, hr⟩ := open_rows (w := w) (a := a) (len := len) (k := 3) (α := ByteArray × ByteArray × Int) (R := fun c s => c 0 = some (.string s.1) ∧ c 1 = some (.string s.2.1) ∧ c 2 = some (.int .i64 s.2.2) ∧ -9223372036854775808 ≤ s.2.2 ∧ s.2.2 ≤ 9223372036854775807) (fun i hi => by
   obtain ⟨ys, n, hf⟩ := hat i (by omega)
   obtain ⟨v0, y0, c0, _, t0⟩ := hf 0 _ rfl
   obtain ⟨v1, y1, c1, _, t1⟩ := hf 1 _ rfl
   obtain ⟨s, e0, _, _⟩ := DataW.trod_string Tryz.underlying9 t0
   obtain ⟨z, e1, _, _⟩ := DataW.trod_string Tryz.underlying9 t1
   obtain ⟨v2, y2, c2, _, t2⟩ := hf 2 _ rfl
   obtain ⟨u, e2, _, w2⟩ := DataW.trod_int Tryz.underlying2 t2
   cases e0
   cases e1
   cases e2
   exact ⟨(s, z, u), c0, c1, c2, by simpa [Lit.wf, IntKind.min, IntKind.max, IntKind.signed, IntKind.bits] using w2⟩)
  subst hl
  refine ⟨some a, cap, l, rfl, fun k s hs => ?_, by unfold maxLen at hm'; omega, fun x hx => ?_⟩
  case refine_2 =>
   obtain ⟨i, hi, he⟩ := List.mem_iff_getElem.1 hx
   exact (hr i x (he ▸ List.getElem?_eq_getElem hi)).2.2.2
  obtain ⟨c0, c1, c2, _⟩ := hr k s hs
  obtain ⟨b, off, spot⟩ := a
  dsimp only at c0 c1 c2
  have hpos : 0 < l.length := by have := (List.getElem?_eq_some_iff.1 hs).1; omega
  have q0 := (hr 0 _ (List.getElem?_eq_getElem hpos)).1
  have hspot : spot = none := World.cell?_spot (a := ⟨b, off, spot⟩) q0
  subst hspot
  rw [add_in] at c0 c1 c2
  rw [Nat.add_zero] at c0
  rw [← Nat.add_assoc] at c1 c2
  exact ⟨b, off, rfl, World.block_lt_of_cell? w _ c0, c0, c1, c2⟩
variable {P : Program}
theorem open_int_row {t e : TypeId} {fuel : Nat} {v : Value} {x : DataW H × List MemPlace} (ht : P.underlying t = some (.slice e)) (he : P.underlying e = some (.int .i64)) (hc : P.cellsOf e = 1)
  (h : DataW.trod enc P w base spare held fuel t [v] = some x) : ∃ (A : Option Addr) (cap : Nat) (xs : List Int), v = .slice A xs.length cap ∧ IntRow w w.heap.size A xs ∧ xs.length ≤ 9223372036854775807 ∧ ∀ y ∈ xs, (Lit.int .i64 y).wf = true := by
 rcases open_ints ht he hc h with ⟨hv, _⟩ | ⟨a, len, cap, zs, hv, _, hl, hm, hz, _, hcell, hwf⟩
 ·cases hv
  exact ⟨none, 0, [], rfl, fun k x hx => by simp at hx, by simp, by simp⟩
 ·cases hv
  have hzl : len ≤ zs.length := by rw [hz]; split <;> omega
  have hlen : (zs.take len).length = len := by rw [List.length_take]; omega
  refine ⟨some a, cap, zs.take len, by rw [hlen], ?_, by rw [hlen]; unfold maxLen at hm; omega, fun y hy => hwf y (List.mem_of_mem_take hy)⟩
  intro k x hx
  obtain ⟨hk, hx⟩ := List.getElem?_eq_some_iff.1 hx
  have hk' : k < len := by rw [hlen] at hk; exact hk
  have hc := hcell k (by omega)
  rw [List.getD_eq_getElem?_getD, List.getElem?_eq_getElem (by omega)] at hc
  rw [List.getElem_take] at hx
  obtain ⟨b, off, spot⟩ := a
  have hspot : spot = none := World.cell?_spot (hcell 0 (by omega))
  subst hspot
  have hadd : (⟨b, off, none⟩ : Addr).add k = ⟨b, off + k, none⟩ := by unfold Addr.add; split <;> simp_all
  rw [hadd] at hc
  refine ⟨b, off, rfl, World.block_lt_of_cell? w _ hc, ?_⟩
  rw [hc]
  simp [hx]
end
end Go.Proofs.YtmkdhhhoodeemaaGreat

/- RelayCertsSaid: for every input the law returns true, and each argument reads behind the call as it read before. No condition. -/
namespace Go.Proofs.YtmkdhhhoodeemaaGreat
open Go Go.RowKit Go.ChangeShapes Go.WideShapes Go.ChangeAt Go.Deep Go.Joins
theorem own_relayCerts : ownKnob Tryz.prog.godebug = none := by kernel_rfl
theorem laidOut_relayCerts : laidOutB Tryz.prog = true := by kernel_rfl
set_option maxRecDepth 100000 in
theorem lifted_relayCerts (os : Os) (started : os.Started) (H : Type) (enc : TypeId × Value → H) :
  ReturnsInHanded {} Tryz.checked os 4 .any (Rows.relayCertsSpec.pre6 enc Tryz.prog Tryz.f4 Rows.relayCertsRow.domain false) (Rows.relayCertsSpec.post enc Tryz.prog Tryz.f4 false true false false) := by
 refine returnsInHanded_of_change (C := Tryz.checked) own_relayCerts started (by kernel_rfl) Tryz.func4
  (ChangeSpec.witness6 (enc := enc) (C := Tryz.checked) false ⟨#[], #[.int .u8 0, .agg #[.int .i64 0, .int .i64 0, .int .i64 0, .bool false, .string ⟨#[]⟩, .string ⟨#[]⟩, .int .i64 0, .int .i64 0, .int .i64 0, .int .i64 0], .int .i64 0, .agg #[.int .i64 0, .int .i64 0, .slice none 0 0, .slice none 0 0], .slice none 0 0, .slice none 0 0], []⟩ 8 (by kernel_rfl) (by kernel_rfl) (by kernel_rfl) (by kernel_rfl)) ?_
 intro W base args ds gs before hval0 hW hcnd _
 have hval : ∀ (j : Nat) t v, Tryz.f4.params[j]? = some t → args[j]? = some v → Value.okWide Tryz.prog W .any base t v := hval0
 have hW' := hW
 obtain ⟨p, q, hA0, hV, rfl, hfz, hnd⟩ := hW
 have hA : DataW.TrodAll enc Tryz.prog W 0 (fun _ => true) true Tryz.f4.params.toList args.toList ds p := hA0
 rw [Tryz.params4] at hA hval
 obtain ⟨v0, vs0, d0, ds0, p0, q0, hargs, rfl, rfl, h0, r0⟩ := trodAll_cons hA
 obtain ⟨v1, vs1, d1, ds1, p1, q1, rfl, rfl, rfl, h1, r1⟩ := trodAll_cons r0
 obtain ⟨v2, vs2, d2, ds2, p2, q2, rfl, rfl, rfl, h2, r2⟩ := trodAll_cons r1
 obtain ⟨v3, vs3, d3, ds3, p3, q3, rfl, rfl, rfl, h3, r3⟩ := trodAll_cons r2
 obtain ⟨v4, vs4, d4, ds4, p4, q4, rfl, rfl, rfl, h4, r4⟩ := trodAll_cons r3
 obtain ⟨v5, vs5, d5, ds5, p5, q5, rfl, rfl, rfl, h5, r5⟩ := trodAll_cons r4
 obtain ⟨rfl, rfl, rfl⟩ := trodAll_nil r5
 obtain rfl : args = #[v0, v1, v2, v3, v4, v5] := by cases args; simp_all
 obtain ⟨rfl, rfl⟩ := trodVars_none hV
 have k0 := h0
 have lt0 : ∀ x ∈ p0, x.block < W.heap.size := by obtain ⟨m, hm⟩ := k0; exact DataW.trod_lt m _ _ _ hm
 have k1 := h1
 have lt1 : ∀ x ∈ p1, x.block < W.heap.size := by obtain ⟨m, hm⟩ := k1; exact DataW.trod_lt m _ _ _ hm
 have k2 := h2
 have lt2 : ∀ x ∈ p2, x.block < W.heap.size := by obtain ⟨m, hm⟩ := k2; exact DataW.trod_lt m _ _ _ hm
 have k3 := h3
 have lt3 : ∀ x ∈ p3, x.block < W.heap.size := by obtain ⟨m, hm⟩ := k3; exact DataW.trod_lt m _ _ _ hm
 have k4 := h4
 have lt4 : ∀ x ∈ p4, x.block < W.heap.size := by obtain ⟨m, hm⟩ := k4; exact DataW.trod_lt m _ _ _ hm
 have k5 := h5
 have lt5 : ∀ x ∈ p5, x.block < W.heap.size := by obtain ⟨m, hm⟩ := k5; exact DataW.trod_lt m _ _ _ hm
 obtain ⟨a0, rfl, rfl, rfl, w0⟩ := open_int Tryz.underlying5 (hval 0 5 v0 rfl rfl) h0
 have y0 : 0 ≤ a0 ∧ a0 < 256 := by have := w0; simp [Lit.wf, IntKind.min, IntKind.max, IntKind.signed, IntKind.bits] at this; omega
 obtain ⟨cs1, rfl, _⟩ := okWide_struct Tryz.underlying25 (hval 1 25 v1 rfl rfl)
 obtain ⟨fuel1, hf1⟩ := h1
 obtain ⟨G1, s1, hcs1⟩ := open_heard hf1
 obtain rfl : cs1 = #[.int .i64 G1, .int .i64 s1.kind, .int .i64 s1.txn, .bool s1.yes, .string s1.from_, .string s1.to_, .int .i64 s1.epoch, .int .i64 s1.shard, .int .i64 s1.target, .int .i64 s1.root] := Array.ext' hcs1
 obtain ⟨a2, rfl, rfl, rfl, w2⟩ := open_int Tryz.underlying3 (hval 2 3 v2 rfl rfl) h2
 have y2 : -9223372036854775808 ≤ a2 ∧ a2 ≤ 9223372036854775807 := by simpa [Lit.wf, IntKind.min, IntKind.max, IntKind.signed, IntKind.bits] using w2
 obtain ⟨cs3, rfl, _⟩ := okWide_struct Tryz.underlying29 (hval 3 29 v3 rfl rfl)
 obtain ⟨fuel3, hf3⟩ := h3
 obtain ⟨c3, n3, A3, cr3, R3, B3, cw3, W3, hcs3, hR3, hW3, lR3, lW3, _, _⟩ := open_txn hf3
 obtain rfl : cs3 = #[.int .i64 c3, .int .i64 n3, .slice A3 R3.length cr3, .slice B3 W3.length cw3] := Array.ext' hcs3
 obtain ⟨a4, len4, cp4, rfl⟩ := okWide_slice Tryz.underlying30 (hval 4 30 v4 rfl rfl)
 obtain ⟨fuel4, hf4⟩ := h4
 obtain ⟨A4, cap4, ss4, hl4, hI4, lI4, bI4⟩ := open_int_row Tryz.underlying30 Tryz.underlying3 (by kernel_rfl) hf4
 cases hl4
 obtain ⟨a5, len5, cp5, rfl⟩ := okWide_slice Tryz.underlying31 (hval 5 31 v5 rfl rfl)
 obtain ⟨fuel5, hf5⟩ := h5
 obtain ⟨A5, cap5, l5, hl5, hE5, lE5, bE5⟩ := open_entriesV hf5
 cases hl5
 clear hA0 hval0
 refine (relayCerts_walk y0 hR3 hW3 lR3 lW3 hI4 hE5 bE5).mono fun e W' ⟨he, hfr⟩ => ?_
 subst he
 have bel : Below W.heap.size W W' := hfr.below (Nat.le_refl _) (fun _ _ => id)
 exact ⟨_, rfl, _, _, _, [], _, [], hW', trodAll_mk1 (shut_bool Tryz.underlying4 _), (trodAll_cons_mk (Below.trod laidOut_relayCerts (by kernel_rfl) (of_decide_eq_true (by kernel_rfl)) k0 bel lt0) (trodAll_cons_mk (Below.trod laidOut_relayCerts (by kernel_rfl) (of_decide_eq_true (by kernel_rfl)) k1 bel lt1) (trodAll_cons_mk (Below.trod laidOut_relayCerts (by kernel_rfl) (of_decide_eq_true (by kernel_rfl)) k2 bel lt2) (trodAll_cons_mk (Below.trod laidOut_relayCerts (by kernel_rfl) (of_decide_eq_true (by kernel_rfl)) k3 bel lt3) (trodAll_cons_mk (Below.trod laidOut_relayCerts (by kernel_rfl) (of_decide_eq_true (by kernel_rfl)) k4 bel lt4) (trodAll_cons_mk (Below.trod laidOut_relayCerts (by kernel_rfl) (of_decide_eq_true (by kernel_rfl)) k5 bel lt5) trodAll_mk0)))))), rfl, bel.frame _, fun h => by cases h⟩
theorem over_relayCerts : Rows.relayCertsRow.holds Tryz.pinned (OpenSpec.ofChange Rows.relayCertsSpec) :=
 OpenClaim.holds_of_wide 4 Tryz.f4 rfl rfl rfl rfl rfl rfl rfl ⟨rfl, rfl, rfl, rfl, rfl⟩ rfl rfl rfl rfl rfl (by kernel_rfl) Tryz.func4 (by kernel_rfl)
  (of_decide_eq_true (by kernel_rfl)) (by unfold Func.isWrapper; first | (rw [if_pos (by decide +kernel)]; kernel_rfl) | (rw [if_neg (by decide +kernel)]; exact ⟨rfl, rfl⟩))
  (fun os started H enc _ => lifted_relayCerts os started H enc)
theorem relayCerts_holds : Rows.RelayCertsSaid := over_relayCerts
end Go.Proofs.YtmkdhhhoodeemaaGreat
