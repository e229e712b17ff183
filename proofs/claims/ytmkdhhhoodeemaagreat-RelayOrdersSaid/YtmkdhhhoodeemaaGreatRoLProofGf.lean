/- Parts of the proof, joined. -/
import Derived.Deep.WholeRow
import Derived.ProofKit
import Derived.OpenShut
import Derived.ChangeOld
import Derived.Deep.Slices
import Derived.Deep.Fields
import Derived.Lib.SmallJoins
import Derived.Test.YtmkdhhhoodeemaaGreatRoLProofGa
import Derived.Test.YtmkdhhhoodeemaaGreatRoLProofGb
import Derived.Test.YtmkdhhhoodeemaaGreatRoLProofGc
import Derived.Test.YtmkdhhhoodeemaaGreatRoLProofGd
import Derived.Test.YtmkdhhhoodeemaaGreatRoLProofGe
set_option linter.unusedVariables false
set_option linter.unusedSimpArgs false
set_option maxRecDepth 100000
set_option maxHeartbeats 16000000
namespace Go.Proofs.YtmkdhhhoodeemaaGreat
open Go Go.RowKit
def certB (G D : Int) (xs : List Int) : List Int := num8 G ++ num8 D ++ numsB xs
theorem certB_len {G D : Int} {xs : List Int} (h : xs.length ≤ 1024) : (certB G D xs).length ≤ 65536 := by have := cert_len (G := G) (D := D) h; unfold certB; omega
theorem order_cert {w : World} {kind : Int} (hk1 : 1 ≤ kind) (hk2 : kind ≤ 10) (hk : ¬ kind = 1 ∧ ¬ kind = 6) {s : SayD} (h : OkSay s) {G D : Int} {bC : Nat} {C : Option Addr} {cx : Nat} {xs : List Int} (hC : IntRow w bC C xs) (hbC : bC ≤ w.heap.size) (hxl : xs.length ≤ 1024) (hg : getOk (num8 G ++ num8 D ++ numsB xs)) :
  Calls Tryz.prog 95 #[.agg #[.int .i64 kind, .int .i64 0, .int .i64 0, .slice none 0 0, .slice none 0 0, .int .i64 s.kind, .int .i64 s.txn, .bool s.yes, .string s.from_, .string s.to_, .int .i64 s.epoch, .int .i64 s.shard, .int .i64 s.target, .int .i64 s.root, .int .i64 G, .int .i64 D, .slice C xs.length cx, .int .i64 0, .int .i64 0, .slice none 0 0, .slice none 0 0]] w (PutP w (orderB kind [] (sayB s) (certB G D xs)) .nilIface) := by
 have hws : wordB s = sayB s := if_pos h
 refine say_PutOrder_ok (by simp) (by have := sayB_short s; rw [hws] at this; exact this) (certB_len hxl) (fun w' hf => ?_)
 have hz : zeroSay s = !true := by
  have : ¬ zeroSay s = true := fun e => by
   rw [zeroSay_iff] at e
   rw [e] at h
   exact absurd h.1 (by decide)
  simpa using this
 refine say_texts_ok (hC.fr hf (fun _ _ => id)) (Nat.le_trans hbC hf.size) hxl hg (bs := certB G D xs) rfl (nm := false) (sz := true) (b0 := []) (b1 := sayB s) (r0 := .nilIface) (r1 := .nilIface) hz ?_ ?_ rfl rfl hk1 hk2 rfl hk ?_
 ·intro w2 hf2
  exact (say_optTxn_none _ _).mono fun _ _ h => h.put
 ·intro w2 hf2
  refine say_optSay_put (fun w3 _ => (say_Put1 w3 s.kind s.txn s.yes s.from_ s.to_ s.epoch s.shard s.target s.root).mono ?_)
  rintro e w4 ⟨v, h1, h2, h3⟩
  rw [if_pos h] at h2
  refine ⟨v, ?_, h2, h3⟩
  rw [h1, show saidO s = none from if_pos h]
  rfl
 ·intro w2 _
  exact say_none_zero _
theorem wpList_store_new {P : Program} {ops : Array Oper} {rest : List Oper} {op : Oper} {a : Act} {w : World} {Q : Exit → Act → World → Prop} (hgd : op.guard = none) (ty : TypeId) (x y : Operand) (ho : op.op = .store ty x y) (c c' : Array Value)
  (hx : a.eval x = .pointer (some ⟨w.heap.size, 0, none⟩)) (hy : a.eval y = .agg c') (hi : (P.info? ty).map (·.size) = some c'.size) (hs : c.size = c'.size) (h1 : c'.all (·.oneCell') = true)
  (h : wpList P ops Q rest (a.put op.dst undef) (w.alloc (.cells c' ty))) : wpList P ops Q (op :: rest) a (w.alloc (.cells c ty)) :=
 wpList_plain hgd fun _ hK => by
  unfold Oper.wp execOp
  simp only [ho, hx, hy, Instr.storeAt, Instr.sureAddr, Sem.run_bind, Sem.run_pure, Result.andThen_ok, run_storeVar_new w ty c c' hi hs h1]
  exact hK _ _ h
theorem relay_group (n : Int) (w : World) : Calls Tryz.prog 79 #[.int .i64 n] w fun e w' => e = .returned (.int .i64 (wrap64 (n + 1))) ∧ w = w' := by
 go_enter Tryz.func79, Tryz.ntmps79
 go_wp2
 go_ret
 exact ⟨rfl, rfl⟩
theorem told_vote {w : World} {txn : Int} {yes : Bool} {ff tt : ByteArray} {epoch shard target root : Int} (h : OkSay ⟨2, txn, yes, ff, tt, epoch, shard, target, root⟩) {G D fr : Int} {bC : Nat} {C : Option Addr} {cx : Nat} {xs : List Int} (hC : IntRow w bC C xs) (hbC : bC ≤ w.heap.size) (hxl : xs.length ≤ 1024) (hg : getOk (num8 G ++ num8 D ++ numsB xs)) (hfr : fr = shard + 1) {bk lv : Value} :
  Calls Tryz.prog 45 #[bk, .agg #[.int .i64 0, .int .i64 0, .int .i64 0, .slice none 0 0, .slice none 0 0, .int .i64 2, .int .i64 txn, .bool yes, .string ff, .string tt, .int .i64 epoch, .int .i64 shard, .int .i64 target, .int .i64 root, .int .i64 G, .int .i64 D, .slice C xs.length cx, .int .i64 0, .int .i64 0, .slice none 0 0, .slice none 0 0], .int .i64 fr, lv] w (TasksP w [0] (orderB 7 [] (sayB ⟨2, txn, yes, ff, tt, epoch, shard, target, root⟩) (certB G D xs))) := by
 subst hfr
 have hsh : 0 ≤ shard ∧ shard ≤ 3 := by
  obtain ⟨a0, a1, a2, a3, a4, a5, a6, a7, a8, a9, a10, a11, a12, a13⟩ := h
  dsimp only at a10 a11
  omega
 have hwr : wrap64 (shard + 1) = shard + 1 := by unfold wrap64; omega
 have HW := Lib.hid hwr
 have hB0 := Blk.new w 62 #[.int .i64 0, .int .i64 0, .int .i64 0, .slice none 0 0, .slice none 0 0, .int .i64 2, .int .i64 txn, .bool yes, .string ff, .string tt, .int .i64 epoch, .int .i64 shard, .int .i64 target, .int .i64 root, .int .i64 G, .int .i64 D, .slice C xs.length cx, .int .i64 0, .int .i64 0, .slice none 0 0, .slice none 0 0]
 have hf0 : Fr (fun _ => False) w (w.alloc (Obj.cells #[.int .i64 0, .int .i64 0, .int .i64 0, .slice none 0 0, .slice none 0 0, .int .i64 2, .int .i64 txn, .bool yes, .string ff, .string tt, .int .i64 epoch, .int .i64 shard, .int .i64 target, .int .i64 root, .int .i64 G, .int .i64 D, .slice C xs.length cx, .int .i64 0, .int .i64 0, .slice none 0 0, .slice none 0 0] 62)) := (Fr.refl _ _).alloc _
 go_enter Tryz.func45, Tryz.ntmps45
 go_upto_region 1 with fail
 generalize w.alloc (Obj.cells #[.int .i64 0, .int .i64 0, .int .i64 0, .slice none 0 0, .slice none 0 0, .int .i64 2, .int .i64 txn, .bool yes, .string ff, .string tt, .int .i64 epoch, .int .i64 shard, .int .i64 target, .int .i64 root, .int .i64 G, .int .i64 D, .slice C xs.length cx, .int .i64 0, .int .i64 0, .slice none 0 0, .slice none 0 0] 62) = w0 at *
 have k5 := hB0.cell 5
 have k6 := hB0.cell 6
 have k7 := hB0.cell 7
 have k8 := hB0.cell 8
 have k9 := hB0.cell 9
 have k10 := hB0.cell 10
 have k11 := hB0.cell 11
 have k12 := hB0.cell 12
 have k13 := hB0.cell 13
 go_upto_region 2 with fail
 have hB1 := hB0.alloc (Obj.cells #[.int .i64 2, .int .i64 txn, .bool yes, .string ff, .string tt, .int .i64 epoch, .int .i64 shard, .int .i64 target, .int .i64 root] 23)
 have hS1 := Blk.new w0 23 #[.int .i64 2, .int .i64 txn, .bool yes, .string ff, .string tt, .int .i64 epoch, .int .i64 shard, .int .i64 target, .int .i64 root]
 have hf1 := hf0.alloc (Obj.cells #[.int .i64 2, .int .i64 txn, .bool yes, .string ff, .string tt, .int .i64 epoch, .int .i64 shard, .int .i64 target, .int .i64 root] 23)
 go_upto_region 2 with fail
 generalize w0.alloc (Obj.cells #[.int .i64 2, .int .i64 txn, .bool yes, .string ff, .string tt, .int .i64 epoch, .int .i64 shard, .int .i64 target, .int .i64 root] 23) = w1 at *
 clear hB0 hf0
 have s0 := hS1.cell 0
 have s6 := hS1.cell 6
 go_upto_region 4 with (go_at_call 79; refine (relay_group _ _).mono ?_; rintro e w' ⟨rfl, rfl⟩; rw [HW.out])
 have kf := hB1.frozen 0
 have k0 := hB1.cell 0
 go_upto_region 19 with fail
 have hB2 : Blk (w1.setCell ⟨w.heap.size, 0, none⟩ (.int .i64 7)) w.heap.size 62 #[.int .i64 7, .int .i64 0, .int .i64 0, .slice none 0 0, .slice none 0 0, .int .i64 2, .int .i64 txn, .bool yes, .string ff, .string tt, .int .i64 epoch, .int .i64 shard, .int .i64 target, .int .i64 root, .int .i64 G, .int .i64 D, .slice C xs.length cx, .int .i64 0, .int .i64 0, .slice none 0 0, .slice none 0 0] := hB1.set_ 0 _
 have hf2 : Fr (fun _ => False) w (w1.setCell ⟨w.heap.size, 0, none⟩ (.int .i64 7)) := hf1.setCell (p := ⟨w.heap.size, 0, none⟩) (fun h => absurd h (Nat.lt_irrefl _)) _
 generalize w1.setCell ⟨w.heap.size, 0, none⟩ (.int .i64 7) = w2 at *
 clear hB1 hf1 hS1 s0 s6 kf k0
 have k0 := hB2.cell 0
 go_upto_region 21 with fail
 have hg1 := group0 w2
 have hf3 : Fr (fun _ => False) w2 (w2.alloc (Obj.cells #[.int .i64 0] 3)) := (Fr.refl _ _).alloc _
 have hf03 := hf2.then_ hf3
 have HT : Calls Tryz.prog 64 #[.agg #[.int .i64 7, .int .i64 0, .int .i64 0, .slice none 0 0, .slice none 0 0, .int .i64 2, .int .i64 txn, .bool yes, .string ff, .string tt, .int .i64 epoch, .int .i64 shard, .int .i64 target, .int .i64 root, .int .i64 G, .int .i64 D, .slice C xs.length cx, .int .i64 0, .int .i64 0, .slice none 0 0, .slice none 0 0], .slice (some ⟨w2.heap.size, 0, none⟩) 1 1] (w2.alloc (Obj.cells #[.int .i64 0] 3)) (TasksP (w2.alloc (Obj.cells #[.int .i64 0] 3)) [0] (orderB 7 [] (sayB ⟨2, txn, yes, ff, tt, epoch, shard, target, root⟩) (certB G D xs))) := relay_tasks_ok (s := ⟨2, txn, yes, ff, tt, epoch, shard, target, root⟩) (cg := 1) hg1 (by simp) (by simp) (orderB_len (by simp) (by have := sayB_short ⟨2, txn, yes, ff, tt, epoch, shard, target, root⟩; rw [show wordB ⟨2, txn, yes, ff, tt, epoch, shard, target, root⟩ = _ from if_pos h] at this; exact this) (certB_len hxl)) (fun w' hf => order_cert (by omega) (by omega) ⟨by omega, by omega⟩ h (hC.fr (hf03.then_ hf) (fun _ _ => id)) (Nat.le_trans hbC (hf03.then_ hf).size) hxl hg)
 have HT := Lib.hid HT
 clear hg1 h hC hg hxl
 go_wp2_with (first
  | (refine wpList_load_row rfl 62 _ rfl _ rfl _ _ (0, 0) _ hB2 Tryz.underlying62 rfl (by kernel_rfl) ?_)
  | (go_at_call 64; refine HT.out.mono ?_; rintro e w' ⟨v, rfl, hv, hf'⟩))
 go_ret
 exact ⟨v, rfl, hv.base_ hf03.size, hf03.then_ hf'⟩
def OrdStep (w : World) (g m base : Nat) (v : Value) (L' : List (List Int)) (gs ms : Nat) (SL : List (Int × Int)) (gg b : List Int) (e : Ending) (w' : World) : Prop :=
 ∃ tv v', e = .returned tv ∧ TasksAt w' w.heap.size tv gg b ∧ BS w' g m base v' L' gs ms SL ∧ Fr (fun k => k = g ∨ k = m ∨ v.ownBlock = some k) w w' ∧ ∀ k, v'.ownBlock = some k → v.ownBlock = some k ∨ w.heap.size ≤ k
theorem orders_few {w : World} {g m base : Nat} {v : Value} {L : List (List Int)} {gs ms : Nat} {SL : List (Int × Int)} (hb : BS w g m base v L gs ms SL) (hbase : base ≤ w.heap.size) (hL : L.length < 65536) {kind txn : Int} {yes : Bool} {ff tt : ByteArray} {epoch shard target root : Int} (hok : OkSay ⟨kind, txn, yes, ff, tt, epoch, shard, target, root⟩) {G f : Int} (hf : 0 ≤ f ∧ f ≤ 3) (hfew : ((whoInts G (sayI L ⟨kind, txn, yes, ff, tt, epoch, shard, target, root⟩) SL).length : Int) < 2 * f + 1) {sh lv : Value} :
  Calls Tryz.prog 15 #[.pointer (some ⟨g, 0, none⟩), .pointer (some ⟨gs, 0, none⟩), .int .i64 f, .agg #[.int .i64 G, .int .i64 kind, .int .i64 txn, .bool yes, .string ff, .string tt, .int .i64 epoch, .int .i64 shard, .int .i64 target, .int .i64 root], sh, lv] w (OrdStep w g m base v (sayL L ⟨kind, txn, yes, ff, tt, epoch, shard, target, root⟩) gs ms SL [] []) := by
 obtain ⟨hf1, hf2⟩ := hf
 have hd1 : ¬ f < 0 := by omega
 have hd2 : ¬ 3 < f := by omega
 have hB0 := Blk.new w 25 #[.int .i64 G, .int .i64 kind, .int .i64 txn, .bool yes, .string ff, .string tt, .int .i64 epoch, .int .i64 shard, .int .i64 target, .int .i64 root]
 have hf0 : Fr (fun _ => False) w (w.alloc (Obj.cells #[.int .i64 G, .int .i64 kind, .int .i64 txn, .bool yes, .string ff, .string tt, .int .i64 epoch, .int .i64 shard, .int .i64 target, .int .i64 root] 25)) := (Fr.refl _ _).alloc _
 have hb0 := hb.keep hf0
 have HD := Lib.hid (say_Digest1 hb0.book (Nat.le_trans hbase hf0.size) hL kind txn yes ff tt epoch shard target root)
 have hso : saidO ⟨kind, txn, yes, ff, tt, epoch, shard, target, root⟩ = none := if_pos hok
 rw [hso, show errO none = .nilIface from rfl] at HD
 have HF := Lib.hid hfew
 clear hfew hok hso
 go_enter Tryz.func15, Tryz.ntmps15
 go_upto_region 1 with fail
 generalize w.alloc (Obj.cells #[.int .i64 G, .int .i64 kind, .int .i64 txn, .bool yes, .string ff, .string tt, .int .i64 epoch, .int .i64 shard, .int .i64 target, .int .i64 root] 25) = w0 at *
 have k0 := hB0.cell 0
 have k1 := hB0.cell 1
 have k2 := hB0.cell 2
 have k3 := hB0.cell 3
 have k4 := hB0.cell 4
 have k5 := hB0.cell 5
 have k6 := hB0.cell 6
 have k7 := hB0.cell 7
 have k8 := hB0.cell 8
 have k9 := hB0.cell 9
 go_upto_region 4 with (go_at_call 42; refine HD.out.mono ?_; rintro e w1 ⟨v1, rfl, hb1, hf01, hk1⟩)
 have hB1 := hb0.bookFr hB0 (by decide) (by decide) (hf01.mono (fun _ _ h => h.elim .inl (fun h => .inr (h.elim .inl (fun h => .inr (.inl h))))))
 have hs1 := hb0.bookStep hb1 hf01
 have k0 := hB1.cell 0
 obtain ⟨t, u, hu⟩ := errV_iface [((⟨#[109, 97, 107, 101]⟩ : ByteArray), ((whoInts G (sayI L ⟨kind, txn, yes, ff, tt, epoch, shard, target, root⟩) SL).length : Int))] 51
 have HC : Hid (Calls Tryz.prog 43 #[.pointer (some ⟨gs, 0, none⟩), .int .i64 G, .int .i64 (sayI L ⟨kind, txn, yes, ff, tt, epoch, shard, target, root⟩), .int .i64 (2 * f + 1)] w1 fun e w' => e = .returned (.tuple #[.agg #[.int .i64 0, .int .i64 0, .slice none 0 0], .iface t u]) ∧ Fr (fun _ => False) w1 w') := by
  refine (cert_Make hs1.seals G (sayI L ⟨kind, txn, yes, ff, tt, epoch, shard, target, root⟩) (2 * f + 1)).mono ?_
  rintro e w2 ⟨hf12, ⟨_, rfl⟩ | ⟨hno, _⟩⟩
  ·exact ⟨by rw [hu], hf12⟩
  ·exact absurd (.inr HF.out) hno
 clear hu hb0 hB0 HD
 go_wp2_with (go_at_call 43; refine HC.out.mono ?_; rintro e w2 ⟨rfl, hf12⟩)
 go_ret
 exact ⟨_, v1, rfl, TasksAt.nil _ _ _, hs1.keep (hf12.alloc _), ((hf0.mono (fun _ _ h => h.elim)).trans hf01 (fun _ _ h => h)).then_ (hf12.alloc _), fun k hk => (hk1 k hk).imp_right (Nat.le_trans hf0.size)⟩
theorem orders_vote {w : World} {g m base : Nat} {v : Value} {L : List (List Int)} {gs ms : Nat} {SL : List (Int × Int)} (hb : BS w g m base v L gs ms SL) (hbase : base ≤ w.heap.size) (hL : L.length < 65536) {txn : Int} {yes : Bool} {ff tt : ByteArray} {epoch shard target root : Int} (hok : OkSay ⟨2, txn, yes, ff, tt, epoch, shard, target, root⟩) {G f : Int} (hG : G = shard + 1) (hf : 0 ≤ f ∧ f ≤ 3) (hmany : ¬ ((whoInts G (sayI L ⟨2, txn, yes, ff, tt, epoch, shard, target, root⟩) SL).length : Int) < 2 * f + 1) {sh lv : Value} {xs : List Int} (hxs : (whoInts G (sayI L ⟨2, txn, yes, ff, tt, epoch, shard, target, root⟩) SL).take (2 * f + 1).toNat = xs) (hxl : xs.length ≤ 1024) (hget : getOk (num8 G ++ num8 (sayI L ⟨2, txn, yes, ff, tt, epoch, shard, target, root⟩) ++ numsB xs)) :
  Calls Tryz.prog 15 #[.pointer (some ⟨g, 0, none⟩), .pointer (some ⟨gs, 0, none⟩), .int .i64 f, .agg #[.int .i64 G, .int .i64 2, .int .i64 txn, .bool yes, .string ff, .string tt, .int .i64 epoch, .int .i64 shard, .int .i64 target, .int .i64 root], sh, lv] w (OrdStep w g m base v (sayL L ⟨2, txn, yes, ff, tt, epoch, shard, target, root⟩) gs ms SL [0] (orderB 7 [] (sayB ⟨2, txn, yes, ff, tt, epoch, shard, target, root⟩) (certB G (sayI L ⟨2, txn, yes, ff, tt, epoch, shard, target, root⟩) xs))) := by
 obtain ⟨hf1, hf2⟩ := hf
 have hd1 : ¬ f < 0 := by omega
 have hd2 : ¬ 3 < f := by omega
 have hg0 : ¬ G = 0 := by
  obtain ⟨a0, a1, a2, a3, a4, a5, a6, a7, a8, a9, a10, a11, a12, a13⟩ := hok
  dsimp only at a10
  omega
 have hg0' : (G == 0) = false := by simp [hg0]
 have hB0 := Blk.new w 25 #[.int .i64 G, .int .i64 2, .int .i64 txn, .bool yes, .string ff, .string tt, .int .i64 epoch, .int .i64 shard, .int .i64 target, .int .i64 root]
 have hf0 : Fr (fun _ => False) w (w.alloc (Obj.cells #[.int .i64 G, .int .i64 2, .int .i64 txn, .bool yes, .string ff, .string tt, .int .i64 epoch, .int .i64 shard, .int .i64 target, .int .i64 root] 25)) := (Fr.refl _ _).alloc _
 have hb0 := hb.keep hf0
 have HD := Lib.hid (say_Digest1 hb0.book (Nat.le_trans hbase hf0.size) hL 2 txn yes ff tt epoch shard target root)
 have hso : saidO ⟨2, txn, yes, ff, tt, epoch, shard, target, root⟩ = none := if_pos hok
 rw [hso, show errO none = .nilIface from rfl] at HD
 obtain ⟨D, hD⟩ : ∃ D, Hid (sayI L ⟨2, txn, yes, ff, tt, epoch, shard, target, root⟩ = D) := ⟨_, rfl⟩
 rw [hD.out] at HD hmany hxs hget ⊢
 have HF := Lib.hid hmany
 have HXS := Lib.hid hxs
 have HXL := Lib.hid hxl
 have HG := Lib.hid hget
 have HGS := Lib.hid hG
 have HOK := Lib.hid hok
 clear hmany hok hso hxs hget hG hxl
 go_enter Tryz.func15, Tryz.ntmps15
 go_upto_region 1 with fail
 generalize w.alloc (Obj.cells #[.int .i64 G, .int .i64 2, .int .i64 txn, .bool yes, .string ff, .string tt, .int .i64 epoch, .int .i64 shard, .int .i64 target, .int .i64 root] 25) = w0 at *
 have k0 := hB0.cell 0
 have k1 := hB0.cell 1
 have k2 := hB0.cell 2
 have k3 := hB0.cell 3
 have k4 := hB0.cell 4
 have k5 := hB0.cell 5
 have k6 := hB0.cell 6
 have k7 := hB0.cell 7
 have k8 := hB0.cell 8
 have k9 := hB0.cell 9
 go_upto_region 4 with (go_at_call 42; refine HD.out.mono ?_; rintro e w1 ⟨v1, rfl, hb1, hf01, hk1⟩)
 have hB1 := hb0.bookFr hB0 (by decide) (by decide) (hf01.mono (fun _ _ h => h.elim .inl (fun h => .inr (h.elim .inl (fun h => .inr (.inl h))))))
 have hs1 := hb0.bookStep hb1 hf01
 have k0 := hB1.cell 0
 have k1 := hB1.cell 1
 have k2 := hB1.cell 2
 have k3 := hB1.cell 3
 have k4 := hB1.cell 4
 have k5 := hB1.cell 5
 have k6 := hB1.cell 6
 have k7 := hB1.cell 7
 have k8 := hB1.cell 8
 have k9 := hB1.cell 9
 have HC : Hid (Calls Tryz.prog 43 #[.pointer (some ⟨gs, 0, none⟩), .int .i64 G, .int .i64 D, .int .i64 (2 * f + 1)] w1 fun e w' => ∃ A cap, e = .returned (.tuple #[.agg #[.int .i64 G, .int .i64 D, .slice A xs.length cap], .nilIface]) ∧ IntRow w' w'.heap.size A xs ∧ Fr (fun _ => False) w1 w') := by
  refine (cert_Make hs1.seals G D (2 * f + 1)).mono ?_
  rintro e w2 ⟨hf12, ⟨hno, _⟩ | ⟨_, A, cap, he, hr⟩⟩
  ·exact absurd hno (by have := HF.out; omega)
  ·rw [HXS.out] at he hr
   exact ⟨A, cap, he, hr, hf12⟩
 clear hb0 hB0 HD
 go_upto_region 9 with (go_at_call 43; refine HC.out.mono ?_; rintro e w2 ⟨A, cap, rfl, hr2, hf12⟩)
 have hf13 := hf12.alloc (Obj.cells #[.int .i64 G, .int .i64 D, .slice A xs.length cap] 41)
 have hB3 := (hB1.fr hf12 id).alloc (Obj.cells #[.int .i64 G, .int .i64 D, .slice A xs.length cap] 41)
 have hC3 := Blk.new w2 41 #[.int .i64 G, .int .i64 D, .slice A xs.length cap]
 have hr3 := hr2.fr ((Fr.refl (fun _ => False) w2).alloc (Obj.cells #[.int .i64 G, .int .i64 D, .slice A xs.length cap] 41)) (fun _ _ => id)
 have hz3 : w2.heap.size ≤ (w2.alloc (Obj.cells #[.int .i64 G, .int .i64 D, .slice A xs.length cap] 41)).heap.size := by simp
 generalize w2.alloc (Obj.cells #[.int .i64 G, .int .i64 D, .slice A xs.length cap] 41) = w3 at *
 clear hB1 k0 k1 k2 k3 k4 k5 k6 k7 k8 k9
 have k0 := hB3.cell 0
 have k1 := hB3.cell 1
 have k2 := hB3.cell 2
 have k3 := hB3.cell 3
 have k4 := hB3.cell 4
 have k5 := hB3.cell 5
 have k6 := hB3.cell 6
 have k7 := hB3.cell 7
 have k8 := hB3.cell 8
 have k9 := hB3.cell 9
 have c0 := hC3.cell 0
 have c1 := hC3.cell 1
 have c2 := hC3.cell 2
 go_upto_region 10 with (refine wpList_store_new rfl 62 (.tmp 16) (.tmp 48) rfl _ _ rfl rfl (by kernel_rfl) rfl (by simp [Value.oneCell']) ?_)
 have hO4 := Blk.new w3 62 #[.int .i64 0, .int .i64 0, .int .i64 0, .slice none 0 0, .slice none 0 0, .int .i64 2, .int .i64 txn, .bool yes, .string ff, .string tt, .int .i64 epoch, .int .i64 shard, .int .i64 target, .int .i64 root, .int .i64 G, .int .i64 D, .slice A xs.length cap, .int .i64 0, .int .i64 0, .slice none 0 0, .slice none 0 0]
 have hB4 := hB3.alloc (Obj.cells #[.int .i64 0, .int .i64 0, .int .i64 0, .slice none 0 0, .slice none 0 0, .int .i64 2, .int .i64 txn, .bool yes, .string ff, .string tt, .int .i64 epoch, .int .i64 shard, .int .i64 target, .int .i64 root, .int .i64 G, .int .i64 D, .slice A xs.length cap, .int .i64 0, .int .i64 0, .slice none 0 0, .slice none 0 0] 62)
 have hf34 : Fr (fun _ => False) w3 (w3.alloc (Obj.cells #[.int .i64 0, .int .i64 0, .int .i64 0, .slice none 0 0, .slice none 0 0, .int .i64 2, .int .i64 txn, .bool yes, .string ff, .string tt, .int .i64 epoch, .int .i64 shard, .int .i64 target, .int .i64 root, .int .i64 G, .int .i64 D, .slice A xs.length cap, .int .i64 0, .int .i64 0, .slice none 0 0, .slice none 0 0] 62)) := (Fr.refl _ _).alloc _
 have hr4 := hr3.fr hf34 (fun _ _ => id)
 have hz4 : w2.heap.size ≤ (w3.alloc (Obj.cells #[.int .i64 0, .int .i64 0, .int .i64 0, .slice none 0 0, .slice none 0 0, .int .i64 2, .int .i64 txn, .bool yes, .string ff, .string tt, .int .i64 epoch, .int .i64 shard, .int .i64 target, .int .i64 root, .int .i64 G, .int .i64 D, .slice A xs.length cap, .int .i64 0, .int .i64 0, .slice none 0 0, .slice none 0 0] 62)).heap.size := Nat.le_trans hz3 hf34.size
 generalize w3.alloc (Obj.cells #[.int .i64 0, .int .i64 0, .int .i64 0, .slice none 0 0, .slice none 0 0, .int .i64 2, .int .i64 txn, .bool yes, .string ff, .string tt, .int .i64 epoch, .int .i64 shard, .int .i64 target, .int .i64 root, .int .i64 G, .int .i64 D, .slice A xs.length cap, .int .i64 0, .int .i64 0, .slice none 0 0, .slice none 0 0] 62) = w4 at *
 clear k0 k1 k2 k3 k4 k5 k6 k7 k8 k9 c0 c1 c2 hC3
 have k0 := hB4.cell 0
 have HT : Calls Tryz.prog 45 #[.pointer (some ⟨g, 0, none⟩), .agg #[.int .i64 0, .int .i64 0, .int .i64 0, .slice none 0 0, .slice none 0 0, .int .i64 2, .int .i64 txn, .bool yes, .string ff, .string tt, .int .i64 epoch, .int .i64 shard, .int .i64 target, .int .i64 root, .int .i64 G, .int .i64 D, .slice A xs.length cap, .int .i64 0, .int .i64 0, .slice none 0 0, .slice none 0 0], .int .i64 G, lv] w4 (TasksP w4 [0] (orderB 7 [] (sayB ⟨2, txn, yes, ff, tt, epoch, shard, target, root⟩) (certB G D xs))) := told_vote HOK.out hr4 hz4 HXL.out HG.out HGS.out
 have HT := Lib.hid HT
 clear hr4 hr3 hr2
 go_wp2_with (first
  | (refine wpList_load_row rfl 62 _ rfl _ rfl _ _ (0, 0) _ hO4 Tryz.underlying62 rfl (by kernel_rfl) ?_)
  | (go_at_call 45; refine HT.out.mono ?_; rintro e w5 ⟨tv, rfl, htv, hf45⟩))
 go_ret
 have hf15 := (hf13.then_ hf34).then_ hf45
 have hff := (hf0.mono (fun _ _ h => h.elim)).trans hf01 (fun _ _ h => h)
 exact ⟨tv, v1, rfl, htv.base_ (Nat.le_trans hff.size (hf13.then_ hf34).size), hs1.keep hf15, hff.then_ hf15, fun k hk => (hk1 k hk).imp_right (Nat.le_trans hf0.size)⟩
def Started (w : World) (e : Ending) (w' : World) : Prop :=
 ∃ gw, e = .returned (.tuple #[.pointer (some ⟨gw, 0, none⟩), .bool true]) ∧ w.heap.size ≤ gw ∧ WS w' w.heap.size gw [] [] [] 0 ∧ Fr (fun _ => False) w w'
theorem law12_Start (w : World) : Calls Tryz.prog 9 #[] w (Started w) := by
 go_enter Tryz.func9, Tryz.ntmps9
 go_wp2_with fail
 refine (book_New _).mono ?_
 rintro e w1 ⟨g, m, rfl, hg, hm, hb1, hf1⟩
 go_wp2_with fail
 refine (seals_New _).mono ?_
 rintro e w2 ⟨gs, ms, rfl, hgs, hms, hs2, hf2⟩
 have hb2 := hb1.keep hf2
 have hmm : m ≠ ms := by
  obtain ⟨⟨es, cl, h3, _⟩, _⟩ := hb1.map
  have := lt_of_heap h3
  omega
 have hf02 := hf1.then_ hf2
 have hs1 := hf1.size
 have hrD := RBookAt.keep (g := w2.heap.size) (base := w2.heap.size) (v := .slice none 0 0) (L := []) ⟨Blk.new w2 _ _, [], ⟨rfl, .inl ⟨rfl, rfl⟩⟩, fun k s hs => by simp at hs⟩ ((Fr.refl (fun _ => False) _).alloc (Obj.cells #[.slice none 0 0] 89))
 have hrQ : RefAt ((w2.alloc (Obj.cells #[.slice none 0 0] 57)).alloc (Obj.cells #[.slice none 0 0] 89)) (w2.heap.size + 1) w2.heap.size (.slice none 0 0) [] := ⟨Blk.new_ _ _ _ (by simp), ⟨rfl, .inl ⟨rfl, rfl⟩⟩⟩
 have hbs : BS w2 g m w.heap.size (.slice none 0 0) [] gs ms [] := ⟨hb2, hs2, hmm⟩
 have hbs3 := hbs.keep (((Fr.refl (fun _ => False) _).alloc (Obj.cells #[.slice none 0 0] 57)).alloc (Obj.cells #[.slice none 0 0] 89))
 have hf03 := (hf02.alloc (Obj.cells #[.slice none 0 0] 57)).alloc (Obj.cells #[.slice none 0 0] 89)
 generalize hw3 : (w2.alloc (Obj.cells #[.slice none 0 0] 57)).alloc (Obj.cells #[.slice none 0 0] 89) = w3 at hrD hrQ hbs3 hf03
 have hz3 : w3.heap.size = w2.heap.size + 1 + 1 := by rw [← hw3]; simp
 have HZ3 := Lib.hid hz3
 have HW3 := Lib.hid hw3
 clear hw3 hz3
 have hWB := Blk.new w3 51 #[.pointer (some ⟨g, 0, none⟩), .pointer (some ⟨gs, 0, none⟩), .pointer (some ⟨w2.heap.size, 0, none⟩), .pointer (some ⟨w2.heap.size + 1, 0, none⟩)]
 rw [HZ3.out] at hWB
 have hW0 := hWB.cell 0
 have hW1 := hWB.cell 1
 go_upto_region 2 with fail
 rw [HW3.out]
 have HWB := Lib.hid hWB
 clear hWB hb1 hf1 hs2 hb2 hbs
 go_big_quiet (fail)
 go_wp2_with fail
 refine bodyPost_ret (v := .tuple #[.pointer (some ⟨w2.heap.size + 1 + 1, 0, none⟩), .bool true]) (by simp [results, Tryz.results9, go_sem]) rfl ?_
 have hfz : Fr (fun _ => False) w3 ((w3.alloc (Obj.cells #[.pointer (some ⟨g, 0, none⟩), .pointer (some ⟨gs, 0, none⟩), .pointer (some ⟨w2.heap.size, 0, none⟩), .pointer (some ⟨w2.heap.size + 1, 0, none⟩)] 51)).drewN nq) := ((Fr.refl _ _).alloc _).drewN _
 have hle := hf02.size
 have h3s := hfz.size
 have hz := HZ3.out
 have h4 := hf2.size
 refine ⟨w2.heap.size + 1 + 1, rfl, by omega, ⟨g, m, w.heap.size, .slice none 0 0, gs, ms, w2.heap.size, w2.heap.size, .slice none 0 0, w2.heap.size + 1, w2.heap.size, .slice none 0 0, [], ⟨HWB.out.drewN _, hbs3.keep hfz, hrD.keep hfz, hrQ.fr hfz id (fun _ _ => id), hg, hm, Nat.le_refl _, by omega, hle, hle, by omega, hle, by omega, by omega, by omega⟩, Nat.le_refl _⟩, hf03.then_ hfz⟩
theorem ref10_Put_ok {w : World} {F : Nat → Prop} {A B : Option Addr} {cr cw : Nat} {c n : Int} {R : List (ByteArray × Int)} {W : List (ByteArray × ByteArray)} (hr : ReadRow w F A R) (hw : WriteRow w F B W) (h : TOk c n R W) :
  Calls Tryz.prog 33 #[.agg #[.int .i64 c, .int .i64 n, .slice A R.length cr, .slice B W.length cw]] w (PutT w c n R W (.int .i64 0)) := by
 have hlR : R.length ≤ 8 := rises_len h.2.2.2.2.2.1
 have hlW : W.length ≤ 8 := rises_len h.2.2.2.2.2.2
 have HKR := Lib.hid (read_sizes h.2.2.2.2.2.1)
 have HKW := Lib.hid (write_sizes h.2.2.2.2.2.2)
 have HBR := Lib.hid (readB_le HKR.out)
 have HBW := Lib.hid (writeB_le HKW.out)
 have HRr := Lib.hid hr
 have HWr := Lib.hid hw
 have hB0 := Blk.new w 29 #[.int .i64 c, .int .i64 n, .slice A R.length cr, .slice B W.length cw]
 have hf0 : Fr (fun _ => False) w (w.alloc (Obj.cells #[.int .i64 c, .int .i64 n, .slice A R.length cr, .slice B W.length cw] 29)) := (Fr.refl _ _).alloc _
 have HC := Lib.hid (ref10_Right_ok (cr := cr) (cw := cw) (hr.fr hf0 (fun _ _ => id)) (hw.fr hf0 (fun _ _ => id)) h)
 clear hr hw h
 go_enter Tryz.func33, Tryz.ntmps33
 go_wp2_with fail
 refine HC.out.mono ?_
 rintro e w1 ⟨rfl, hf01⟩
 have hB1 := hB0.fr hf01 id
 have hf1 := hf0.then_ hf01
 obtain ⟨gB, hgB⟩ : ∃ g, Hid (w.heap.size = g) := ⟨_, rfl⟩
 rw [hgB.out] at hB1
 obtain ⟨g, hg⟩ : ∃ g, Hid (w1.heap.size = g) := ⟨_, rfl⟩
 have hsg : w.heap.size ≤ g := by rw [← hg.out]; exact hf1.size
 obtain ⟨b0, hb0⟩ : ∃ b : List Int, Hid (([] : List Int) = b) := ⟨_, rfl⟩
 have hl0 : b0.length = 0 := by rw [← hb0.out]; rfl
 have hW2 : RefW (w1.alloc (Obj.cells #[.slice none 0 0, .int .i64 0, .int .i64 0] 94)) w1.heap.size w1.heap.size (.slice none 0 0) [] none := ⟨Blk.new _ _ _, Own8.nil _ _⟩
 have hf2 : Fr (fun _ => False) w (w1.alloc (Obj.cells #[.slice none 0 0, .int .i64 0, .int .i64 0] 94)) := hf1.alloc _
 have hB2 := hB1.alloc (Obj.cells #[.slice none 0 0, .int .i64 0, .int .i64 0] 94)
 have hz2 : w1.heap.size ≤ (w1.alloc (Obj.cells #[.slice none 0 0, .int .i64 0, .int .i64 0] 94)).heap.size := by simp
 have hc2 := hB2.cell 0
 rw [← hgB.out] at hc2
 clear hB0 hf0 HC hf01 hB1 hf1
 rw [hb0.out] at hW2
 go_wp2_with fail
 rw [hg.out] at hW2 hz2 ⊢
 rw [hgB.out] at hc2 ⊢
 generalize w1.alloc (Obj.cells #[.slice none 0 0, .int .i64 0, .int .i64 0] 94) = w2 at *
 refine (refw_Num hW2 hz2 (by omega) (c)).mono ?_
 rintro e w3 ⟨v3, rfl, hW3, hq3, _⟩
 have hW3 : RefW w3 g g v3 (b0 ++ num8 (c)) none := hW3
 obtain ⟨b1, hb1⟩ : ∃ b, Hid (b0 ++ num8 (c) = b) := ⟨_, rfl⟩
 rw [hb1.out] at hW3
 have hl1 : b1.length = b0.length + 8 := by rw [← hb1.out, List.length_append, num8_length]
 have hB3 := wrote_blk hB2 hW2.blk hW2.own hq3 (by decide) (by decide)
 have hf3 := wrote_fr hf2 hW2.own hsg hsg hq3
 have hz3 : g ≤ w3.heap.size := Nat.le_of_lt hW3.blk.lt
 clear hq3 hW2 hB2 hf2 hz2
 have hc3_1 := hB3.cell 1
 go_wp2_with fail
 refine (refw_Num hW3 hz3 (by omega) (n)).mono ?_
 rintro e w4 ⟨v4, rfl, hW4, hq4, _⟩
 have hW4 : RefW w4 g g v4 (b1 ++ num8 (n)) none := hW4
 obtain ⟨b2, hb2⟩ : ∃ b, Hid (b1 ++ num8 (n) = b) := ⟨_, rfl⟩
 rw [hb2.out] at hW4
 have hl2 : b2.length = b1.length + 8 := by rw [← hb2.out, List.length_append, num8_length]
 have hB4 := wrote_blk hB3 hW3.blk hW3.own hq4 (by decide) (by decide)
 have hf4 := wrote_fr hf3 hW3.own hsg hsg hq4
 have hz4 : g ≤ w4.heap.size := Nat.le_of_lt hW4.blk.lt
 clear hq4 hW3 hB3 hf3 hz3
 have hc4_2 := hB4.cell 2
 go_wp2_with fail
 refine (refw_Num hW4 hz4 (by omega) ((R.length : Int))).mono ?_
 rintro e w5 ⟨v5, rfl, hW5, hq5, _⟩
 have hW5 : RefW w5 g g v5 (b2 ++ num8 ((R.length : Int))) none := hW5
 obtain ⟨b3, hb3⟩ : ∃ b, Hid (b2 ++ num8 ((R.length : Int)) = b) := ⟨_, rfl⟩
 rw [hb3.out] at hW5
 have hl3 : b3.length = b2.length + 8 := by rw [← hb3.out, List.length_append, num8_length]
 have hB5 := wrote_blk hB4 hW4.blk hW4.own hq5 (by decide) (by decide)
 have hf5 := wrote_fr hf4 hW4.own hsg hsg hq5
 have hz5 : g ≤ w5.heap.size := Nat.le_of_lt hW5.blk.lt
 clear hq5 hW4 hB4 hf4 hz4
 have hc5_2 := hB5.cell 2
 go_wp2_with fail
 go_loopw [5] (fun ix wr => ∃ (q : Nat) (v : Value), q ≤ R.length ∧ ix = .int .i64 q ∧ RefW wr g g v (b3 ++ (R.take q).flatMap readB) none ∧ Blk wr gB 29 #[.int .i64 c, .int .i64 n, .slice A R.length cr, .slice B W.length cw] ∧ Fr (fun _ => False) w wr) (fun ix _ => R.length - (intOf ix).toNat)
 case atStart => exact ⟨0, _, by omega, rfl, by rw [List.take_zero, List.flatMap_nil, List.append_nil]; exact hW5, hB5, hf5⟩
 case round =>
  clear hW5 hB5 hf5 hz5
  obtain ⟨q, v5, hq, rfl, hW5, hB5, hf5⟩ := hrel
  have hz5 : g ≤ wr.heap.size := Nat.le_of_lt hW5.blk.lt
  have hcl := hB5.cell 2
  have hlf := flat_take_le HBR.out hlR q
  have hlf : (b3 ++ (R.take q).flatMap readB).length ≤ 6000 := by rw [List.length_append]; omega
  by_cases hlt : q < R.length
  ·obtain ⟨x, hx⟩ : ∃ x, R[q]? = some x := ⟨R[q], List.getElem?_eq_getElem hlt⟩
   obtain ⟨b, o, rfl, _, e0, e1⟩ := HRr.out q x hx
   have d0 := hf5.cell_some e0 id
   have d1 := hf5.cell_some e1 id
   have HX := Lib.hid hx
   have hx16 := HKR.out x (List.mem_of_getElem? hx)
   have E0 := Lib.hid e0
   have E1 := Lib.hid e1
   clear hx e0 e1
   obtain ⟨bq, hbq⟩ : ∃ b, Hid (b3 ++ (R.take q).flatMap readB = b) := ⟨_, rfl⟩
   rw [hbq.out] at hW5 hlf
   have hcs5 := run_str wr x.1
   have hws5 := hW5.fr (strW_fr wr x.1) id (fun _ _ => id)
   have hbs5 := hB5.fr (strW_fr wr x.1) id
   have hfs5 := hf5.then_ (strW_fr wr x.1)
   have hzs5 : g ≤ (strW wr x.1).heap.size := Nat.le_trans hz5 (strW_fr wr x.1).size
   have HT5 := refw_Text (cap := grownCap wr x.1.size 0 5) hws5 hzs5 (strW_row wr x.1) (fun k e1 e2 => own8_new hW5.own (e1 ▸ e2)) (by rw [bytesOf_length]; omega) (.inl (by rw [bytesOf_length]; omega))
   rw [bytesOf_length, if_pos (by omega)] at HT5
   have HT5 := Lib.hid HT5
   go_wp2_with fail
   clear hcs5
   refine HT5.out.mono ?_
   rintro e w6 ⟨v6, rfl, hW6, hq6, _⟩
   have hW6 : RefW w6 g g v6 (bq ++ textB (bytesOf x.1)) none := hW6
   have hB6 := wrote_blk hbs5 hws5.blk hws5.own hq6 (by decide) (by decide)
   have hf6 := wrote_fr hfs5 hws5.own hsg hsg hq6
   have hz6 : g ≤ w6.heap.size := Nat.le_of_lt hW6.blk.lt
   clear hq6 hW5 hB5 hf5 hws5 hbs5 hfs5 HT5 hzs5 hz5
   have hcl := hB6.cell 2
   have d1 := hf6.cell_some E1.out id
   have hlb : (bq ++ textB (bytesOf x.1)).length ≤ 7000 := by rw [List.length_append, textB_len]; omega
   go_wp2_with (go_at_call 34; refine (refw_Num hW6 hz6 (by omega) x.2).mono ?_; rintro e wn ⟨vn, rfl, hWn, hqn, _⟩)
   have hWn : RefW wn g g vn ((bq ++ textB (bytesOf x.1)) ++ num8 x.2) none := hWn
   have hBn := wrote_blk hB6 hW6.blk hW6.own hqn (by decide) (by decide)
   have hfn := wrote_fr hf6 hW6.own hsg hsg hqn
   go_roundw
   case rel => exact ⟨q + 1, _, by omega, by go_num, by rw [flat_take readB HX.out, readB, ← List.append_assoc, ← List.append_assoc, hbq.out]; exact hWn, hBn, hfn⟩
   case measure => simp [intOf]; omega
  ·obtain rfl : q = R.length := by omega
   rw [List.take_length] at hW5 hlf
   obtain ⟨b4, hb4⟩ : ∃ b, Hid (b3 ++ R.flatMap readB = b) := ⟨_, rfl⟩
   rw [hb4.out] at hW5 hlf
   generalize wr = w5 at *
   clear hlt
   have hc5_3 := hB5.cell 3
   have hl4 : b4.length ≤ 300 := by rw [← hb4.out, List.length_append]; have := fl_le R HBR.out; have := Nat.mul_le_mul (Nat.le_refl 28) hlR; omega
   clear hlf
   go_wp2_with fail
   refine (refw_Num hW5 hz5 (by omega) ((W.length : Int))).mono ?_
   rintro e w6 ⟨v6, rfl, hW6, hq6, _⟩
   have hW6 : RefW w6 g g v6 (b4 ++ num8 ((W.length : Int))) none := hW6
   obtain ⟨b5, hb5⟩ : ∃ b, Hid (b4 ++ num8 ((W.length : Int)) = b) := ⟨_, rfl⟩
   rw [hb5.out] at hW6
   have hl5 : b5.length = b4.length + 8 := by rw [← hb5.out, List.length_append, num8_length]
   have hB6 := wrote_blk hB5 hW5.blk hW5.own hq6 (by decide) (by decide)
   have hf6 := wrote_fr hf5 hW5.own hsg hsg hq6
   have hz6 : g ≤ w6.heap.size := Nat.le_of_lt hW6.blk.lt
   clear hq6 hW5 hB5 hf5 hz5
   have hc6_3 := hB6.cell 3
   have hl5 : b5.length ≤ 308 := by omega
   go_wp2_with fail
   go_loopw [6] (fun ix wr => ∃ (q : Nat) (v : Value), q ≤ W.length ∧ ix = .int .i64 q ∧ RefW wr g g v (b5 ++ (W.take q).flatMap writeB) none ∧ Blk wr gB 29 #[.int .i64 c, .int .i64 n, .slice A R.length cr, .slice B W.length cw] ∧ Fr (fun _ => False) w wr) (fun ix _ => W.length - (intOf ix).toNat)
   case atStart => exact ⟨0, _, by omega, rfl, by rw [List.take_zero, List.flatMap_nil, List.append_nil]; exact hW6, hB6, hf6⟩
   case round =>
    clear hW6 hB6 hf6 hz6
    obtain ⟨q, v6, hq, rfl, hW6, hB6, hf6⟩ := hrel
    have hz6 : g ≤ wr.heap.size := Nat.le_of_lt hW6.blk.lt
    have hcl := hB6.cell 3
    have hlf := flat_take_le HBW.out hlW q
    have hlf : (b5 ++ (W.take q).flatMap writeB).length ≤ 6000 := by rw [List.length_append]; omega
    by_cases hlt : q < W.length
    ·obtain ⟨x, hx⟩ : ∃ x, W[q]? = some x := ⟨W[q], List.getElem?_eq_getElem hlt⟩
     obtain ⟨b, o, rfl, _, e0, e1⟩ := HWr.out q x hx
     have d0 := hf6.cell_some e0 id
     have d1 := hf6.cell_some e1 id
     have HX := Lib.hid hx
     have hx16 := HKW.out x (List.mem_of_getElem? hx)
     have hx64 := hx16.2
     have hx16 := hx16.1
     have E0 := Lib.hid e0
     have E1 := Lib.hid e1
     clear hx e0 e1
     obtain ⟨bq, hbq⟩ : ∃ b, Hid (b5 ++ (W.take q).flatMap writeB = b) := ⟨_, rfl⟩
     rw [hbq.out] at hW6 hlf
     have hcs6 := run_str wr x.1
     have hws6 := hW6.fr (strW_fr wr x.1) id (fun _ _ => id)
     have hbs6 := hB6.fr (strW_fr wr x.1) id
     have hfs6 := hf6.then_ (strW_fr wr x.1)
     have hzs6 : g ≤ (strW wr x.1).heap.size := Nat.le_trans hz6 (strW_fr wr x.1).size
     have HT6 := refw_Text (cap := grownCap wr x.1.size 0 5) hws6 hzs6 (strW_row wr x.1) (fun k e1 e2 => own8_new hW6.own (e1 ▸ e2)) (by rw [bytesOf_length]; omega) (.inl (by rw [bytesOf_length]; omega))
     rw [bytesOf_length, if_pos (by omega)] at HT6
     have HT6 := Lib.hid HT6
     go_wp2_with fail
     clear hcs6
     refine HT6.out.mono ?_
     rintro e w7 ⟨v7, rfl, hW7, hq7, _⟩
     have hW7 : RefW w7 g g v7 (bq ++ textB (bytesOf x.1)) none := hW7
     have hB7 := wrote_blk hbs6 hws6.blk hws6.own hq7 (by decide) (by decide)
     have hf7 := wrote_fr hfs6 hws6.own hsg hsg hq7
     have hz7 : g ≤ w7.heap.size := Nat.le_of_lt hW7.blk.lt
     clear hq7 hW6 hB6 hf6 hws6 hbs6 hfs6 HT6 hzs6 hz6
     have hcl := hB7.cell 3
     have d1 := hf7.cell_some E1.out id
     have hlb : (bq ++ textB (bytesOf x.1)).length ≤ 7000 := by rw [List.length_append, textB_len]; omega
     obtain ⟨bt, hbt⟩ : ∃ b, Hid ((bq ++ textB (bytesOf x.1)) = b) := ⟨_, rfl⟩
     rw [hbt.out] at hW7 hlb
     have hcs7 := run_str w7 x.2
     have hws7 := hW7.fr (strW_fr w7 x.2) id (fun _ _ => id)
     have hbs7 := hB7.fr (strW_fr w7 x.2) id
     have hfs7 := hf7.then_ (strW_fr w7 x.2)
     have hzs7 : g ≤ (strW w7 x.2).heap.size := Nat.le_trans hz7 (strW_fr w7 x.2).size
     have HT7 := refw_Text (cap := grownCap w7 x.2.size 0 5) hws7 hzs7 (strW_row w7 x.2) (fun k e1 e2 => own8_new hW7.own (e1 ▸ e2)) (by rw [bytesOf_length]; omega) (.inl (by rw [bytesOf_length]; omega))
     rw [bytesOf_length, if_pos (by omega)] at HT7
     have HT7 := Lib.hid HT7
     go_wp2_with (go_at_call 35; refine HT7.out.mono ?_; rintro e w8 ⟨v8, rfl, hW8, hq8, _⟩)
     have hW8 : RefW w8 g g v8 (bt ++ textB (bytesOf x.2)) none := hW8
     have hB8 := wrote_blk hbs7 hws7.blk hws7.own hq8 (by decide) (by decide)
     have hf8 := wrote_fr hfs7 hws7.own hsg hsg hq8
     have hz8 : g ≤ w8.heap.size := Nat.le_of_lt hW8.blk.lt
     clear hq8 hW7 hB7 hf7 hws7 hbs7 hfs7 HT7 hzs7 hz7
     have hWn := hW8
     have hBn := hB8
     have hfn := hf8
     go_roundw
     case rel => exact ⟨q + 1, _, by omega, by go_num, by rw [flat_take writeB HX.out, writeB, ← List.append_assoc, ← List.append_assoc, hbq.out, hbt.out]; exact hWn, hBn, hfn⟩
     case measure => simp [intOf]; omega
    ·obtain rfl : q = W.length := by omega
     rw [List.take_length] at hW6 hlf
     obtain ⟨b6, hb6⟩ : ∃ b, Hid (b5 ++ W.flatMap writeB = b) := ⟨_, rfl⟩
     rw [hb6.out] at hW6 hlf
     generalize wr = w6 at *
     clear hlt
     have he : txnB c n R W = b6 := by
      unfold txnB
      have e0 : num8 c = b1 := by rw [← hb1.out, ← hb0.out]; rfl
      rw [e0, hb2.out, hb3.out, hb4.out, hb5.out, hb6.out]
     have HE := Lib.hid he
     clear he
     go_wp2_with fail
     refine (refw_Bytes hW6 (by omega)).mono ?_
     rintro e wz ⟨vz, rfl, hvz, hfz⟩
     go_wp2_with fail
     refine bodyPost_ret (v := .tuple #[vz, .int .i64 0]) (by simp [results, Tryz.results33, go_sem]) rfl ?_
     unfold PutT
     rw [HE.out]
     exact ⟨vz, rfl, own_base hvz (hf6.size), hf6.then_ hfz⟩
def GoodL (L : List (List Int)) : Prop := L.Nodup ∧ ∀ t ∈ L, t.length ≤ 65536
theorem GoodL.nil : GoodL [] := ⟨List.nodup_nil, by simp⟩
theorem GoodL.dig {L : List (List Int)} (h : GoodL L) {xs : List Int} (hx : xs.length ≤ 65536) : GoodL (digL L xs) := by
 unfold digL
 split
 ·exact h
 ·rename_i hn
  refine ⟨List.nodup_append.2 ⟨h.1, by simp, fun a ha b hb e => hn ?_⟩, fun t ht => ?_⟩
  ·rw [List.mem_singleton.1 hb] at e
   exact e ▸ ha
  ·rcases List.mem_append.1 ht with ht | ht
   ·exact h.2 t ht
   ·rw [List.mem_singleton.1 ht]; exact hx
theorem digL_take {L : List (List Int)} {k : Nat} {xs : List Int} (h : L.Nodup) (hk : L[k]? = some xs) : digL (L.take k) xs = L.take (k + 1) := by
 obtain ⟨hlt, rfl⟩ := List.getElem?_eq_some_iff.1 hk
 have hn : L[k] ∉ L.take k := by
  intro hm
  obtain ⟨j, hj, he⟩ := List.getElem_of_mem hm
  rw [List.length_take] at hj
  rw [List.getElem_take] at he
  have := (List.getElem_inj h).1 he
  omega
 rw [digL, if_neg hn, List.take_succ_eq_append_getElem hlt]
def WStep (w : World) (lo gw : Nat) (L : List (List Int)) (SL : List (Int × Int)) (LD : List (List Int)) (nQ : Nat) (r : Value) (e : Ending) (w' : World) : Prop :=
 e = .returned r ∧ WS w' lo gw L SL LD nQ ∧ St lo w w'
theorem law12_sync {w : World} {lo gw : Nat} {L : List (List Int)} {SL : List (Int × Int)} {LD : List (List Int)} {nQ : Nat} (h : WS w lo gw L SL LD nQ) (hg : GoodL L) (hp : LD <+: L) (hL : L.length < 5000) :
  Calls Tryz.prog 40 #[.pointer (some ⟨gw, 0, none⟩)] w (WStep w lo gw L SL L nQ (.tuple #[])) := by
 obtain ⟨g, m, base, v, gs, ms, gD, bD, vD, gQ, bQ, vQ, SQ, h, hq⟩ := h
 have e0 : LD = L.take LD.length := (List.prefix_iff_eq_take.1 hp)
 have hle : LD.length ≤ L.length := hp.length_le
 obtain ⟨vals, hown, _⟩ := h.rb.row
 obtain ⟨A0, cap0, hv0, _, _⟩ := own_form hown
 have c0 := h.blk.cell 0
 have c2 := h.blk.cell 2
 have d0 : w.cell? ⟨gD, 0, none⟩ = some (.slice A0 LD.length cap0) := by rw [← hv0]; exact h.rb.blk.cell 0
 have HG := Lib.hid hg
 have H0 : Hid (WSAt w lo gw g m base v L gs ms SL gD bD vD (L.take LD.length) gQ bQ vQ SQ) := by
  show WSAt _ _ _ _ _ _ _ _ _ _ _ _ _ _ _ _ _ _ _
  rw [← e0]; exact h
 have HL := Lib.hid hL
 have HQ := Lib.hid hq
 clear hown hv0 hg hp hq e0 h
 go_enter Tryz.func40, Tryz.ntmps40
 go_wp2_with fail
 clear c0 c2 d0
 go_loopw [2] (fun ix wr => ∃ (k : Nat) (vD : Value), k ≤ L.length ∧ ix = .int .i64 k ∧ WSAt wr lo gw g m base v L gs ms SL gD bD vD (L.take k) gQ bQ vQ SQ ∧ St lo w wr) (fun ix _ => L.length - (intOf ix).toNat)
 case atStart => exact ⟨LD.length, vD, hle, rfl, H0.out, St.of lo (Fr.refl _ _)⟩
 case round =>
  obtain ⟨k, vD, hk, rfl, h, hst⟩ := hrel
  have c0 := h.blk.cell 0
  have c2 := h.blk.cell 2
  have hLi : L.length < 65536 := by have := HL.out; omega
  by_cases hlt : k < L.length
  ·have hk5 : (k : Int) < 5000 := by have := HL.out; omega
   obtain ⟨xs, hx⟩ : ∃ x, L[k]? = some x := ⟨L[k], List.getElem?_eq_getElem hlt⟩
   have hxl := HG.out.2 xs (List.mem_of_getElem? hx)
   have h8 : B8 xs := h.bs.book.map.2 xs (List.mem_of_getElem? hx)
   have HT := Lib.hid (book_Text h.bs.book hx hLi)
   have HX := Lib.hid hx
   have H8 := Lib.hid h8
   have HXL := Lib.hid hxl
   have hL8 : Hid (∀ t ∈ L.take k, B8 t) := fun t ht => h.bs.book.map.2 t (List.mem_of_mem_take ht)
   clear hx h8 hxl
   go_wp2_with (first
    | (go_at_call 18; refine (book_Many h.bs.book).mono ?_; rintro e w' ⟨rfl, rfl⟩)
    | (go_at_call 75; refine HT.out.mono ?_; rintro e w1 ⟨A1, cap1, rfl, hr1, hf1⟩; have h1 := h.keep hf1; have c21 := h1.blk.cell 2)
    | (go_at_call 21; refine (ref03_Digest h1.rb hL8.out h1.bD_le hr1 H8.out HXL.out (by rw [List.length_take]; omega)).mono ?_; rintro e w2 ⟨v2, rfl, hb2, hf2, _⟩; rw [digL_take HG.out.1 HX.out] at hb2; obtain ⟨h2, hst2⟩ := h1.stepD hb2 hf2))
   go_roundw
   case rel => exact ⟨k + 1, v2, by omega, by go_num, h2, (hst.trans (St.of lo hf1)).trans hst2⟩
   case measure => simp [intOf]; omega
  ·obtain rfl : k = L.length := by omega
   rw [List.take_length] at h
   go_wp2_with (go_at_call 18; refine (book_Many h.bs.book).mono ?_; rintro e w' ⟨rfl, rfl⟩)
   refine bodyPost_end (v := .tuple #[]) (by simp [results, go_sem]) rfl ?_
   exact ⟨rfl, ⟨g, m, base, v, gs, ms, gD, bD, vD, gQ, bQ, vQ, SQ, h, HQ.out⟩, hst⟩
theorem WSAt.book {w w' : World} {lo gw g m base : Nat} {v v' : Value} {L L' : List (List Int)} {gs ms : Nat} {SL : List (Int × Int)} {gD bD : Nat} {vD : Value} {LD : List (List Int)} {gQ bQ : Nat} {vQ : Value} {SQ : List (Int × Int)} (h : WSAt w lo gw g m base v L gs ms SL gD bD vD LD gQ bQ vQ SQ) (hb : BookAt w' g m base v' L') (hf : Fr (fun k => k = g ∨ k = m ∨ v.ownBlock = some k) w w') :
  WSAt w' lo gw g m base v' L' gs ms SL gD bD vD LD gQ bQ vQ SQ ∧ St lo w w' :=
 h.step (h.bs.bookStep hb hf) (hf.mono (fun k _ e => by rcases e with e | e | e; (· exact .inl e); (· exact .inr (.inl e)); exact .inr (.inr (.inl e))))
theorem law12_Digest {w : World} {lo gw : Nat} {L : List (List Int)} {SL : List (Int × Int)} {LD : List (List Int)} {nQ : Nat} (h : WS w lo gw L SL LD nQ) (hg : GoodL L) (hp : LD <+: L) (hL : L.length < 5000) {b : Nat} {A : Option Addr} {cap : Nat} {xs : List Int} (hv : Own8 w b (.slice A xs.length cap) xs) (h8 : B8 xs) (hx : xs.length ≤ 65536) :
  Calls Tryz.prog 14 #[.pointer (some ⟨gw, 0, none⟩), .slice A xs.length cap] w (WStep w lo gw (digL L xs) SL (digL L xs) nQ (.int .i64 (digI L xs : Nat))) := by
 have HS := Lib.hid (law12_sync h hg hp hL)
 have HL := Lib.hid hL
 have H8 := Lib.hid h8
 have HX := Lib.hid hx
 clear h hg hp h8 hx
 go_enter Tryz.func14, Tryz.ntmps14
 go_wp2_with fail
 refine HS.out.mono ?_
 rintro e w1 ⟨rfl, ⟨g, m, base, v, gs, ms, gD, bD, vD, gQ, bQ, vQ, SQ, h1, hq⟩, hst1⟩
 have hv1 : Own8 w1 b (.slice A xs.length cap) xs := own_st hv hst1 (by decide)
 have hr1 : ByteRow w1 (fun k => (Value.slice A xs.length cap).ownBlock = some k) A xs := by
  obtain ⟨A', c', e, _, hr⟩ := hv1.form
  cases e
  exact hr
 have hL8 : Hid (∀ t ∈ L, B8 t) := h1.bs.book.map.2
 have c0 := h1.blk.cell 0
 have HQ := Lib.hid hq
 clear hq
 go_wp2_with fail
 refine (book_Digest h1.bs.book h1.b_le hr1 H8.out HX.out (by have := HL.out; omega)).mono ?_
 rintro e w2 ⟨v2, rfl, hb2, hf2, _⟩
 obtain ⟨h2, hst2⟩ := h1.book hb2 hf2
 have hr2 : ByteRow w2 (fun k => (Value.slice A xs.length cap).ownBlock = some k) A xs := by
  have hv2 : Own8 w2 b (.slice A xs.length cap) xs := own_st hv1 hst2 (by decide)
  obtain ⟨A', c', e, _, hr⟩ := hv2.form
  cases e
  exact hr
 have c2 := h2.blk.cell 2
 clear c0 HS
 go_wp2_with (go_at_call 21; refine (ref03_Digest h2.rb hL8.out h2.bD_le hr2 H8.out HX.out (by have := HL.out; omega)).mono ?_; rintro e w3 ⟨v3, rfl, hb3, hf3, _⟩)
 go_ret
 obtain ⟨h3, hst3⟩ := h2.stepD hb3 hf3
 exact ⟨rfl, ⟨g, m, base, v2, gs, ms, gD, bD, v3, gQ, bQ, vQ, SQ, h3, HQ.out⟩, (hst1.trans hst2).trans hst3⟩
theorem law12_Txn {w : World} {lo gw : Nat} {L : List (List Int)} {SL : List (Int × Int)} {LD : List (List Int)} {nQ : Nat} (h : WS w lo gw L SL LD nQ) (hg : GoodL L) (hp : LD <+: L) (hL : L.length < 5000) {F : Nat → Prop} {A B : Option Addr} {cr cw : Nat} {c n : Int} {R : List (ByteArray × Int)} {W : List (ByteArray × ByteArray)} (hr : ReadRow w F A R) (hw : WriteRow w F B W) (ht : TOk c n R W) :
  Calls Tryz.prog 11 #[.pointer (some ⟨gw, 0, none⟩), .agg #[.int .i64 c, .int .i64 n, .slice A R.length cr, .slice B W.length cw]] w (WStep w lo gw (digL L (txnB c n R W)) SL (digL L (txnB c n R W)) nQ (.int .i64 (digI L (txnB c n R W) : Nat))) := by
 have hf0 : Fr (fun _ => False) w (w.alloc (Obj.cells #[.int .i64 c, .int .i64 n, .slice A R.length cr, .slice B W.length cw] 29)) := (Fr.refl _ _).alloc _
 have HP := ref10_Put_ok (cr := cr) (cw := cw) (hr.fr hf0 (fun _ _ => id)) (hw.fr hf0 (fun _ _ => id)) ht
 have HX := Lib.hid (txnB_len ht)
 have H8 := Lib.hid (b8_txnB c n R W)
 have HG := Lib.hid hg
 have HPP := Lib.hid hp
 unfold PutT at HP
 clear ht hr hw hg hp
 generalize txnB c n R W = xs at HP HX H8 ⊢
 have HP := Lib.hid HP
 go_enter Tryz.func11, Tryz.ntmps11
 go_wp2_with fail
 refine HP.out.mono ?_
 rintro e w1 ⟨v1, rfl, hv1, hf1⟩
 have hf01 := hf0.then_ hf1
 obtain ⟨A1, cap1, rfl, _, _⟩ := hv1.form
 have h1 := h.keep hf01
 clear HP
 go_wp2_with (go_at_call 14; refine (law12_Digest h1 HG.out HPP.out hL hv1 H8.out HX.out).mono ?_; rintro e w2 ⟨rfl, h2, hst2⟩)
 go_ret
 exact ⟨rfl, h2, (St.of lo hf01).trans hst2⟩
def Loc (t : TypeId) : Prop := Other t ∧ t ≠ 51 ∧ t ≠ 147 ∧ t ≠ 5
instance (t : TypeId) : Decidable (Loc t) := by unfold Loc; infer_instance
theorem WSAt.far {S : Nat → Prop} {w w' : World} {lo gw g m base : Nat} {v : Value} {L : List (List Int)} {gs ms : Nat} {SL : List (Int × Int)} {gD bD : Nat} {vD : Value} {LD : List (List Int)} {gQ bQ : Nat} {vQ : Value} {SQ : List (Int × Int)} (h : WSAt w lo gw g m base v L gs ms SL gD bD vD LD gQ bQ vQ SQ) (hf : Fr S w w') (hS : ∀ k, S k → ∃ cs t, Blk w k t cs ∧ Loc t) :
  WSAt w' lo gw g m base v L gs ms SL gD bD vD LD gQ bQ vQ SQ := by
 have hc : ∀ {k : Nat} {cs : Array Value} {t : TypeId} {f : Nat × Nat}, w.heap[k]? = some (.cells cs t f) → ¬ Loc t → ¬ S k := fun {k cs t f} hk hn hs => by
  obtain ⟨cs', t', hB, hl⟩ := hS k hs
  have := cells_inj hk hB
  subst this
  exact hn hl
 have hm : ∀ {k : Nat} {es : Array MapEntry} {cl : Nat}, w.heap[k]? = some (.map es cl) → ¬ S k := fun {k es cl} hk hs => by
  obtain ⟨cs', t', hB, hl⟩ := hS k hs
  unfold Blk at hB
  rw [hB] at hk
  cases hk
 obtain ⟨⟨es, cl, h1, _⟩, _⟩ := h.bs.book.map
 obtain ⟨es2, cl2, h2, _⟩ := h.bs.seals.map
 obtain ⟨vals, hown, _⟩ := h.rb.row
 refine ⟨h.blk.fr hf (hc h.blk (by decide)), ⟨h.bs.book.fr hf (hc h.bs.book.blk (by decide)) (hm h1) ?_, h.bs.seals.fr hf (hc h.bs.seals.blk (by decide)) (hm h2), h.bs.ne⟩, h.rb.fr hf (hc h.rb.blk (by decide)) ?_ ?_, h.rq.fr hf (hc h.rq.blk (by decide)) ?_, h.lo_g, h.lo_m, h.lo_b, h.lo_s, h.lo_D, h.lo_bD, h.lo_Q, h.lo_bQ, Nat.le_trans h.b_le hf.size, Nat.le_trans h.bD_le hf.size, Nat.le_trans h.bQ_le hf.size⟩
 ·intro k hk
  obtain ⟨cs, hB⟩ := own_cells h.bs.book.own hk
  exact hc hB (by decide)
 ·intro k hk
  obtain ⟨cs, hB⟩ := own_cells hown hk
  exact hc hB (by decide)
 ·intro k ⟨cs, f, h3⟩
  exact hc h3 (by decide)
 ·intro k hk
  obtain ⟨cs, hB⟩ := own_cells h.rq.own hk
  exact hc hB (by decide)
theorem St.far {S : Nat → Prop} {lo : Nat} {w wr w' : World} (h : St lo w wr) (hf : Fr S wr w') (hS : ∀ k, S k → w.heap.size ≤ k) (hlo : lo ≤ w.heap.size) : St lo w w' :=
 ⟨h.fr.trans hf (fun k _ hk => Nat.le_trans hlo (hS k hk)), fun k t cs hB ho => (h.blk k t cs hB ho).fr hf (fun hs => by have := hS k hs; have := hB.lt; omega)⟩
def bitOn (m : Int) (k : Nat) : Bool := bits .and .i64 (m / 2 ^ k) 1 == 1
def signTo (gr mask d : Int) (SL : List (Int × Int)) : Nat → List (Int × Int)
 | 0 => SL
 | k + 1 => if bitOn mask k = true then signL (memberOf gr k) d (signTo gr mask d SL k) else signTo gr mask d SL k
theorem signL_len (who d : Int) (L : List (Int × Int)) : (signL who d L).length ≤ L.length + 1 := by
 unfold signL
 repeat' split
 all_goals simp
theorem signTo_len (gr mask d : Int) (SL : List (Int × Int)) : ∀ k, (signTo gr mask d SL k).length ≤ SL.length + k
 | 0 => Nat.le_refl _
 | k + 1 => by
  have h1 := signTo_len gr mask d SL k
  unfold signTo
  split
  ·have := signL_len (memberOf gr k) d (signTo gr mask d SL k)
   omega
  ·omega
theorem memberOf_le (g : Int) (k : Nat) : memberOf g k ≤ 9223372036854775807 := by
 unfold memberOf
 split <;> omega
def WSigned (w : World) (lo gw : Nat) (L : List (List Int)) (SL : List (Int × Int)) (LD : List (List Int)) (nQ : Nat) (e : Ending) (w' : World) : Prop :=
 ∃ r, e = .returned r ∧ WS w' lo gw L SL LD nQ ∧ St lo w w'
theorem law12_Sign {w : World} {lo gw : Nat} {L : List (List Int)} {SL : List (Int × Int)} {LD : List (List Int)} {nQ : Nat} (h : WS w lo gw L SL LD nQ) (hn : nQ < 131000) (gr mask d : Int) :
  Calls Tryz.prog 13 #[.pointer (some ⟨gw, 0, none⟩), .int .i64 gr, .int .i64 mask, .int .i64 d] w (WSigned w lo gw L (signTo gr mask d SL 10) LD (nQ + 10)) := by
 obtain ⟨g, m, base, v, gs, ms, gD, bD, vD, gQ, bQ, vQ, SQ, h, hq⟩ := h
 have hlo : lo ≤ w.heap.size := Nat.le_trans h.lo_b h.b_le
 have HQ : Hid (SQ.length ≤ nQ) := hq
 have HN : Hid (nQ < 131000) := hn
 clear hq hn
 go_enter Tryz.func13, Tryz.ntmps13
 go_upto_region 2 with fail
 generalize (if d < 0 then (0 : Int) else d) = dm
 have hB8 : Blk ((w.alloc (Obj.cells #[.int .i64 0, .int .i64 0, .slice none 0 0] 41)).alloc (Obj.cells #[.int .i64 gr, .int .i64 dm, .slice none 0 0] 41)) w.heap.size 41 #[.int .i64 0, .int .i64 0, .slice none 0 0] := (Blk.new w _ _).alloc _
 have hB9 : Blk ((w.alloc (Obj.cells #[.int .i64 0, .int .i64 0, .slice none 0 0] 41)).alloc (Obj.cells #[.int .i64 gr, .int .i64 dm, .slice none 0 0] 41)) (w.heap.size + 1) 41 #[.int .i64 gr, .int .i64 dm, .slice none 0 0] := Blk.new_ _ _ _ (by simp)
 have hf0 : Fr (fun _ => False) w ((w.alloc (Obj.cells #[.int .i64 0, .int .i64 0, .slice none 0 0] 41)).alloc (Obj.cells #[.int .i64 gr, .int .i64 dm, .slice none 0 0] 41)) := ((Fr.refl _ _).alloc _).alloc _
 have H0 := Lib.hid (h.keep hf0)
 have HST := Lib.hid (St.of lo hf0)
 have hn0 : ((w.alloc (Obj.cells #[.int .i64 0, .int .i64 0, .slice none 0 0] 41)).alloc (Obj.cells #[.int .i64 gr, .int .i64 dm, .slice none 0 0] 41)).ownsRow w.heap.size 3 1 (.slice none 0 0) 0 [] := ⟨rfl, .inl ⟨rfl, rfl⟩⟩
 clear h hf0
 go_wp2_with fail
 go_loopw [10] (fun ix wr => ∃ (k n : Nat) (vQ va : Value) (xs : List Value), k ≤ 10 ∧ n ≤ k ∧ ix = .int .i64 k ∧ WSAt wr lo gw g m base v L gs ms (signTo gr mask d SL k) gD bD vD LD gQ bQ vQ (signTo gr mask d SQ k) ∧ Blk wr w.heap.size 41 #[.int .i64 0, .int .i64 0, .slice none 0 0] ∧ Blk wr (w.heap.size + 1) 41 #[.int .i64 gr, .int .i64 dm, va] ∧ wr.ownsRow w.heap.size 3 1 va n xs ∧ St lo w wr) (fun ix _ => 10 - (intOf ix).toNat)
 case atStart => exact ⟨0, 0, vQ, .slice none 0 0, [], by omega, by omega, rfl, H0.out, hB8, hB9, hn0, HST.out⟩
 case round =>
  clear hB8 hB9 hn0
  obtain ⟨k, n, vQ, va, xs, hk, hnk, rfl, h, hB8, hB9, hown, hst⟩ := hrel
  obtain ⟨A, cap, rfl, _, _⟩ := own_form hown
  by_cases hlt : k < 10
  ·cases hbit : bitOn mask k with
   | true =>
    have hb' : (bits .and .i64 (mask / 2 ^ k) 1 == 1) = true := hbit
    have HBI := Lib.hid hbit
    have c1 := h.blk.cell 1
    have hszq := signTo_len gr mask d SQ k
    have HSQ : Hid ((signTo gr mask d SQ k).length < 131072) := by have := HQ.out; have := HN.out; show _ < _; omega
    clear hbit hszq
    go_wp2_with (go_at_call 37; refine (ref04_Member gr k _).mono ?_; rintro e w' ⟨rfl, rfl⟩)
    refine (seals_Sign h.bs.seals (memberOf gr k) d (memberOf_le gr k)).mono ?_
    rintro e w2 ⟨rfl, hs2, hf2⟩
    obtain ⟨h2, hst2⟩ := h.step (h.bs.sealStep hs2 hf2) (hf2.mono (fun k _ e => .inr (.inr (.inr e))))
    generalize errO (signErr (memberOf gr k) d (signTo gr mask d SL k)) = rv
    have c3 := h2.blk.cell 3
    clear c1 hs2 hf2
    go_wp2_with fail
    refine (ref04_Sign h2.rq h2.bQ_le HSQ.out (memberOf gr k) d).mono ?_
    rintro e w3 ⟨v3, rfl, hr3, hf3⟩
    obtain ⟨h3, hst3⟩ := h2.stepQ hr3 hf3
    have hst13 := (hst.trans hst2).trans hst3
    have hst23 := hst2.trans hst3
    have hB83 := hst23.blk _ _ _ hB8 (by decide)
    have hB93 := hst23.blk _ _ _ hB9 (by decide)
    have hown3 := own_st hown hst23 (by decide)
    have hc2 := hB93.cell 2
    have hc2' := (hB93.alloc (Obj.cells #[.int .i64 k] 3)).cell 2
    have hle3 : w.heap.size ≤ w3.heap.size := hst13.fr.size
    clear c3 hr3 hf3 hB8 hB9 hown h h2 hst hst2 hst3 hst23
    go_wp2_with (at_builtin; go_loud (refine wpList_append1 _ rfl _ _ _ rfl w.heap.size 3 (.int .i64 0) 8 Tryz.underlying30 int_info rfl (.slice A n cap) _ _ rfl (hown3.alloc _) w3.heap.size (.int .i64 k) rfl ?_ rfl ?_ (by omega) ?_ ?_); (· simp); (· omega); (· simp; omega); intro g4 c4 w4 hown4 hf4; (have hB94 := (hB93.alloc (Obj.cells #[.int .i64 k] 3)).fr hf4 (own_ne_blk hown3 hB93 (by decide))); have d2 := hB94.cell 2; have z2 := hB94.frozen 2)
    go_roundw
    case rel =>
     have hfa : Fr (fun _ => False) w3 (w3.alloc (Obj.cells #[.int .i64 k] 3)) := (Fr.refl _ _).alloc _
     have hoa := own_fr hown3 hfa (fun _ _ => id)
     have hfs : Fr (fun j => j = w.heap.size + 1) w4 (w4.setCell ⟨w.heap.size + 1, 2, none⟩ (.slice (some ⟨g4, 0, none⟩) (n + 1) c4)) := (Fr.refl (fun j => j = w.heap.size + 1) w4).setCell (p := ⟨w.heap.size + 1, 2, none⟩) (fun _ => rfl) _
     have hB84 := (hB83.fr hfa id).fr hf4 (own_ne_blk hown3 hB83 (by decide))
     have e1 : signTo gr mask d SL (k + 1) = signL (memberOf gr k) d (signTo gr mask d SL k) := by rw [signTo, if_pos HBI.out]
     have e2 : signTo gr mask d SQ (k + 1) = signL (memberOf gr k) d (signTo gr mask d SQ k) := by rw [signTo, if_pos HBI.out]
     have hfar := ((h3.keep hfa).far hf4 (fun j hj => by
      obtain ⟨cs, hB⟩ := own_cells hoa hj
      exact ⟨cs, _, hB, by decide⟩)).far hfs (fun j hj => ⟨_, _, hj ▸ hB94, by decide⟩)
     refine ⟨k + 1, n + 1, v3, _, _, by omega, by omega, by go_num, ?_, hB84.fr hfs (fun e => by omega), hB94.set_ 2 _, own_fr hown4 hfs (fun j hj e => own_ne_blk hown4 hB94 (by decide) (e ▸ hj)), ?_⟩
     ·rw [e1, e2]
      exact hfar
     ·exact ((hst13.trans (St.of lo hfa)).far hf4 (fun j hj => own_ge hoa j hj) hlo).far hfs (fun j hj => by omega) hlo
    case measure => simp [intOf]; omega
   | false =>
    have hb' : (bits .and .i64 (mask / 2 ^ k) 1 == 1) = false := hbit
    have HBI := Lib.hid hbit
    clear hbit
    go_wp2_with fail
    go_roundw
    case rel =>
     have e1 : ∀ S, signTo gr mask d S (k + 1) = signTo gr mask d S k := fun S => by rw [signTo, if_neg (by rw [HBI.out]; decide)]
     exact ⟨k + 1, n, vQ, _, xs, by omega, by omega, by go_num, by rw [e1, e1]; exact h, hB8, hB9, hown, hst⟩
    case measure => simp [intOf]; omega
  ·obtain rfl : k = 10 := by omega
   have d0 := hB9.cell 0
   have d1 := hB9.cell 1
   have d2 := hB9.cell 2
   have f0 := hB8.cell 0
   have f1 := hB8.cell 1
   have f2 := hB8.cell 2
   have z0 := hB8.frozen 0
   have z1 := hB8.frozen 1
   have z2 := hB8.frozen 2
   go_wp2_with fail
   have hBf := ((hB8.set_ 0 (.int .i64 gr)).set_ 1 (.int .i64 dm)).set_ 2 (.slice A n cap)
   have hff : Fr (fun j => j = w.heap.size) wr (((wr.setCell ⟨w.heap.size, 0, none⟩ (.int .i64 gr)).setCell ⟨w.heap.size, 1, none⟩ (.int .i64 dm)).setCell ⟨w.heap.size, 2, none⟩ (.slice A n cap)) := (((Fr.refl (fun j => j = w.heap.size) wr).setCell (p := ⟨w.heap.size, 0, none⟩) (fun _ => rfl) _).setCell (p := ⟨w.heap.size, 1, none⟩) (fun _ => rfl) _).setCell (p := ⟨w.heap.size, 2, none⟩) (fun _ => rfl) _
   generalize ((wr.setCell ⟨w.heap.size, 0, none⟩ (.int .i64 gr)).setCell ⟨w.heap.size, 1, none⟩ (.int .i64 dm)).setCell ⟨w.heap.size, 2, none⟩ (.slice A n cap) = wf at hBf hff ⊢
   have e0 := hBf.cell 0
   have e1 := hBf.cell 1
   have e2 := hBf.cell 2
   simp at e0 e1 e2
   refine bodyPost_ret (v := .agg #[.int .i64 gr, .int .i64 dm, .slice A n cap]) (by simp [results, Tryz.results13, go_sem, e0, e1, e2]) rfl ?_
   have hlq := signTo_len gr mask d SQ 10
   have := HQ.out
   exact ⟨_, rfl, ⟨g, m, base, v, gs, ms, gD, bD, vD, gQ, bQ, vQ, _, h.far hff (fun j hj => ⟨_, _, hj ▸ hB8, by decide⟩), by omega⟩, hst.far hff (fun j hj => by omega) hlo⟩
def WP (w : World) (lo gw : Nat) (L : List (List Int)) (SL : List (Int × Int)) (nQ : Nat) : Prop := GoodL L ∧ ∃ LD, LD <+: L ∧ WS w lo gw L SL LD nQ
theorem WP.keep {w w' : World} {lo gw : Nat} {L : List (List Int)} {SL : List (Int × Int)} {nQ : Nat} (h : WP w lo gw L SL nQ) (hf : Fr (fun _ => False) w w') : WP w' lo gw L SL nQ := by
 obtain ⟨hg, LD, hp, h⟩ := h
 exact ⟨hg, LD, hp, h.keep hf⟩
end Go.Proofs.YtmkdhhhoodeemaaGreat
namespace Go.Proofs.YtmkdhhhoodeemaaGreat
open Go Go.RowKit Go.ChangeShapes Go.WideShapes Go.Deep Go.Joins
section
variable {H : Type} {enc : TypeId × Value → H} {P : Program} {w : World} {base : Nat} {spare : Nat → Bool} {held : Bool}
theorem open_slice_rows {t e : TypeId} {fs : Array Field} {fuel : Nat} {cs : List Value} {x : DataW H × List MemPlace} (ht : P.underlying t = some (.slice e)) (he : P.underlying e = some (.struct fs))
  (hone : oneCellFields P fs = true) (hC : P.cellsOf e = fs.size) (h : DataW.trod enc P w base spare held fuel t cs = some x) :
  (cs = [.slice none 0 0] ∧ x = (.nil, [])) ∨
  ∃ (a : Addr) (len cap m : Nat), cs = [.slice (some a) len cap] ∧ len ≤ m ∧ len ≤ maxLen ∧
   ∀ i, i < m → ∃ (ys : List (DataW H × List MemPlace)) (n : Nat),
    ∀ (j : Nat) (f : Field), fs[j]? = some f → ∃ (v : Value) (y : DataW H × List MemPlace), w.cell? (a.add (i * fs.size + j)) = some v ∧ ys[j]? = some y ∧ DataW.trod enc P w base spare held n f.type [v] = some y := by
 rcases open_slice ht h with h0 | ⟨a, len, cap, m, n, D, Pl, hcs, hb, hl, hm, hmm, hx, hi⟩
 ·exact .inl h0
 ·refine .inr ⟨a, len, cap, m, hcs, by rw [hmm]; split <;> omega, by omega, fun i him => ?_⟩
  obtain ⟨cs', hc, ht'⟩ := hi i him
  rw [hC] at hc
  obtain ⟨ys, n', hn', hy, hlen, hyl, hf⟩ := DataW.trod_struct he ht'
  obtain ⟨_, hcl, hat⟩ := World.cells?_some hc
  refine ⟨ys, n', fun j f hj => ?_⟩
  obtain ⟨ho, hk⟩ := hone_of hone j f hj
  have hjl : j < fs.size := (Array.getElem?_eq_some_iff.1 hj).1
  have hcell := hat j hjl
  have hv : cs'[j]? = some (cs'[j]'(by omega)) := List.getElem?_eq_getElem (by omega)
  have h1 := hf j f hj
  rw [ho, hk] at h1
  have hone' : (cs'.drop j).take 1 = [cs'[j]'(by omega)] := by
   rw [List.drop_eq_getElem_cons (by omega)]
   rfl
  rw [hone'] at h1
  have hys : ys[j]? = some (ys[j]'(by omega)) := List.getElem?_eq_getElem (by omega)
  refine ⟨_, _, ?_, hys, h1.trans hys⟩
  rw [← Go.Deep.add_add, hcell, hv]
theorem open_rows {α : Type} [Inhabited α] {R : (Nat → Option Value) → α → Prop} {a : Addr} {len k : Nat} (h : ∀ i, i < len → ∃ s : α, R (fun j => w.cell? (a.add (i * k + j))) s) :
  ∃ l : List α, l.length = len ∧ ∀ (i : Nat) s, l[i]? = some s → R (fun j => w.cell? (a.add (i * k + j))) s := by
 obtain ⟨s, hs⟩ : ∃ s : Nat → α, ∀ i, i < len → R (fun j => w.cell? (a.add (i * k + j))) (s i) :=
  ⟨fun i => if h' : i < len then (h i h').choose else default, fun i h' => by simp only [dif_pos h']; exact (h i h').choose_spec⟩
 refine ⟨(List.range len).map s, by simp, fun i x hx => ?_⟩
 rw [List.getElem?_map] at hx
 obtain ⟨q, hq, rfl⟩ := Option.map_eq_some_iff.1 hx
 obtain ⟨hk, rfl⟩ := List.getElem?_eq_some_iff.1 hq
 simp only [List.length_range] at hk
 simp only [List.getElem_range]
 exact hs i hk
theorem add_in (b o j : Nat) : (⟨b, o, none⟩ : Addr).add j = ⟨b, o + j, none⟩ := by unfold Addr.add; split <;> simp_all
end
section
variable {H : Type} {enc : TypeId × Value → H} {w : World} {base : Nat} {spare : Nat → Bool} {held : Bool}
theorem open_reads {fuel : Nat} {v : Value} {x : DataW H × List MemPlace} (h : DataW.trod enc Tryz.prog w base spare held fuel 26 [v] = some x) :
  ∃ (A : Option Addr) (cap : Nat) (l : List (ByteArray × Int)), v = .slice A l.length cap ∧ ReadRow w (fun k => k < w.heap.size) A l ∧ l.length ≤ 9223372036854775807 := by
 rcases open_slice_rows Tryz.underlying26 Tryz.underlying143 (by kernel_rfl) (by kernel_rfl) h with ⟨hv, _⟩ | ⟨a, len, cap, m, hv, hml, hm', hat⟩
 ·cases hv
  exact ⟨none, 0, [], rfl, fun k s hs => by simp at hs, by simp⟩
 ·cases hv
  obtain ⟨l, hl, hr⟩ := open_rows (w := w) (a := a) (len := len) (k := 2) (α := ByteArray × Int) (R := fun c s => c 0 = some (.string s.1) ∧ c 1 = some (.int .i64 s.2)) (fun i hi => by
   obtain ⟨ys, n, hf⟩ := hat i (by omega)
   obtain ⟨v0, y0, c0, _, t0⟩ := hf 0 _ rfl
   obtain ⟨v1, y1, c1, _, t1⟩ := hf 1 _ rfl
   obtain ⟨s, e0, _, _⟩ := DataW.trod_string Tryz.underlying9 t0
   obtain ⟨z, e1, _, _⟩ := DataW.trod_int Tryz.underlying2 t1
   cases e0
   cases e1
   exact ⟨(s, z), c0, c1⟩)
  subst hl
  refine ⟨some a, cap, l, rfl, fun k s hs => ?_, by unfold maxLen at hm'; omega⟩
  obtain ⟨c0, c1⟩ := hr k s hs
  obtain ⟨b, off, spot⟩ := a
  dsimp only at c0 c1
  have hpos : 0 < l.length := by have := (List.getElem?_eq_some_iff.1 hs).1; omega
  have q0 := (hr 0 _ (List.getElem?_eq_getElem hpos)).1
  have hspot : spot = none := World.cell?_spot (a := ⟨b, off, spot⟩) q0
  subst hspot
  rw [add_in] at c0 c1
  rw [Nat.add_zero] at c0
  rw [← Nat.add_assoc] at c1
  exact ⟨b, off, rfl, World.block_lt_of_cell? w _ c0, c0, c1⟩
theorem open_writes {fuel : Nat} {v : Value} {x : DataW H × List MemPlace} (h : DataW.trod enc Tryz.prog w base spare held fuel 27 [v] = some x) :
  ∃ (A : Option Addr) (cap : Nat) (l : List (ByteArray × ByteArray)), v = .slice A l.length cap ∧ WriteRow w (fun k => k < w.heap.size) A l ∧ l.length ≤ 9223372036854775807 := by
 rcases open_slice_rows Tryz.underlying27 Tryz.underlying84 (by kernel_rfl) (by kernel_rfl) h with ⟨hv, _⟩ | ⟨a, len, cap, m, hv, hml, hm', hat⟩
 ·cases hv
  exact ⟨none, 0, [], rfl, fun k s hs => by simp at hs, by simp⟩
 ·cases hv
  obtain ⟨l, hl, hr⟩ := open_rows (w := w) (a := a) (len := len) (k := 2) (α := ByteArray × ByteArray) (R := fun c s => c 0 = some (.string s.1) ∧ c 1 = some (.string s.2)) (fun i hi => by
   obtain ⟨ys, n, hf⟩ := hat i (by omega)
   obtain ⟨v0, y0, c0, _, t0⟩ := hf 0 _ rfl
   obtain ⟨v1, y1, c1, _, t1⟩ := hf 1 _ rfl
   obtain ⟨s, e0, _, _⟩ := DataW.trod_string Tryz.underlying9 t0
   obtain ⟨z, e1, _, _⟩ := DataW.trod_string Tryz.underlying9 t1
   cases e0
   cases e1
   exact ⟨(s, z), c0, c1⟩)
  subst hl
  refine ⟨some a, cap, l, rfl, fun k s hs => ?_, by unfold maxLen at hm'; omega⟩
  obtain ⟨c0, c1⟩ := hr k s hs
  obtain ⟨b, off, spot⟩ := a
  dsimp only at c0 c1
  have hpos : 0 < l.length := by have := (List.getElem?_eq_some_iff.1 hs).1; omega
  have q0 := (hr 0 _ (List.getElem?_eq_getElem hpos)).1
  have hspot : spot = none := World.cell?_spot (a := ⟨b, off, spot⟩) q0
  subst hspot
  rw [add_in] at c0 c1
  rw [Nat.add_zero] at c0
  rw [← Nat.add_assoc] at c1
  exact ⟨b, off, rfl, World.block_lt_of_cell? w _ c0, c0, c1⟩
theorem open_txn {fuel : Nat} {cs : List Value} {x : DataW H × List MemPlace} (h : DataW.trod enc Tryz.prog w base spare held fuel 29 cs = some x) :
  ∃ (c n : Int) (A : Option Addr) (cr : Nat) (R : List (ByteArray × Int)) (B : Option Addr) (cw : Nat) (W : List (ByteArray × ByteArray)), cs = [.int .i64 c, .int .i64 n, .slice A R.length cr, .slice B W.length cw] ∧
   ReadRow w (fun k => k < w.heap.size) A R ∧ WriteRow w (fun k => k < w.heap.size) B W ∧ R.length ≤ 9223372036854775807 ∧ W.length ≤ 9223372036854775807 ∧ (-9223372036854775808 ≤ c ∧ c ≤ 9223372036854775807) ∧ (-9223372036854775808 ≤ n ∧ n ≤ 9223372036854775807) := by
 obtain ⟨xs, n, _, _, hlen, hxl, hf⟩ := DataW.trod_struct Tryz.underlying29 h
 have hc : (Tryz.prog).cellsOf 29 = 4 := by kernel_rfl
 rw [hc] at hlen
 match cs, hlen, xs, hxl with
 | [a, b, c, d], _, [x0, x1, x2, x3], _ =>
  have c1 : (Tryz.prog).cellsOf 3 = 1 := by kernel_rfl
  have c2 : (Tryz.prog).cellsOf 2 = 1 := by kernel_rfl
  have c3 : (Tryz.prog).cellsOf 26 = 1 := by kernel_rfl
  have c4 : (Tryz.prog).cellsOf 27 = 1 := by kernel_rfl
  have t0 : DataW.trod enc Tryz.prog w base spare held n 3 (([a, b, c, d].drop 0).take ((Tryz.prog).cellsOf 3)) = some x0 := hf 0 _ rfl
  have t1 : DataW.trod enc Tryz.prog w base spare held n 2 (([a, b, c, d].drop 1).take ((Tryz.prog).cellsOf 2)) = some x1 := hf 1 _ rfl
  have t2 : DataW.trod enc Tryz.prog w base spare held n 26 (([a, b, c, d].drop 2).take ((Tryz.prog).cellsOf 26)) = some x2 := hf 2 _ rfl
  have t3 : DataW.trod enc Tryz.prog w base spare held n 27 (([a, b, c, d].drop 3).take ((Tryz.prog).cellsOf 27)) = some x3 := hf 3 _ rfl
  rw [c1] at t0
  rw [c2] at t1
  rw [c3] at t2
  rw [c4] at t3
  obtain ⟨n0, e0, _, w0⟩ := DataW.trod_int Tryz.underlying3 t0
  obtain ⟨n1, e1, _, w1⟩ := DataW.trod_int Tryz.underlying2 t1
  cases e0
  cases e1
  obtain ⟨A, cr, R, rfl, hR, lR⟩ := open_reads t2
  obtain ⟨B, cw, W, rfl, hW, lW⟩ := open_writes t3
  refine ⟨n0, n1, A, cr, R, B, cw, W, rfl, hR, hW, lR, lW, ?_, ?_⟩
  ·simpa [Lit.wf, IntKind.min, IntKind.max, IntKind.signed, IntKind.bits] using w0
  ·simpa [Lit.wf, IntKind.min, IntKind.max, IntKind.signed, IntKind.bits] using w1
end
end Go.Proofs.YtmkdhhhoodeemaaGreat
namespace Go.Proofs.YtmkdhhhoodeemaaGreat
open Go Go.RowKit
/-! Bits. -/
/-! What is signed. -/
def Bd (L : List (List Int)) (SL : List (Int × Int)) : Prop := ∀ p ∈ SL, p.2 < (L.length : Int)
def Sg (L : List (List Int)) (SL : List (Int × Int)) (who : Int) (xs : List Int) : Prop := xs ∈ L ∧ (who, (L.idxOf xs : Int)) ∈ SL
/-! Texts of decisions. -/
structure VoteD where
 gr : Int
 mask : Int
 yes : Bool
 kind : Int
def hit (v : VoteD) (yes : Bool) (i : Nat) : Bool := decide (v.gr = 0) && decide (v.kind = 3) && (v.yes == yes) && bitOn v.mask i
structure Pl (L : List (List Int)) (SL : List (Int × Int)) (xs : List Int) (d : Int) (vs : List VoteD) : Prop where
 bd : Bd L SL
 mem : xs ∈ L
 idx : (L.idxOf xs : Int) = d
 lo : 0 ≤ d
 hi : d ≤ 2147483647
 sg : ∀ (yes : Bool) (i : Nat), i < 10 → (Sg L SL (100 + (i : Int)) (sayB (decS d yes)) ↔ vs.any (fun v => hit v yes i) = true)
 other : ∀ e, 0 ≤ e → e ≤ 2147483647 → e ≠ d → ∀ (yes : Bool) (i : Nat), i < 10 → ¬ Sg L SL (100 + (i : Int)) (sayB (decS e yes))
section
variable {L : List (List Int)} {SL : List (Int × Int)} {xs : List Int} {d : Int} {vs : List VoteD}
end
/-! The masks of the votes, joined. -/
/-! Transactions alike have one text. -/
theorem bytesOf_inj {s t : ByteArray} (h : bytesOf s = bytesOf t) : s = t := by
 have := congrArg strOfNums h
 rwa [strOf_bytesOf, strOf_bytesOf] at this
theorem textB_inj {s t : List Int} {a b : List Int} (h : textB s ++ a = textB t ++ b) (hs : s.length < 4294967296) (ht : t.length < 4294967296) : s = t ∧ a = b := by
 unfold textB at h
 rw [List.append_assoc, List.append_assoc] at h
 obtain ⟨h1, h2⟩ := List.append_inj h (by simp [count4])
 have hl : s.length = t.length := by
  simp only [count4, List.cons.injEq, and_true] at h1
  omega
 exact List.append_inj h2 hl
end Go.Proofs.YtmkdhhhoodeemaaGreat
namespace Go.Proofs.YtmkdhhhoodeemaaGreat
open Go Go.RowKit Go.ChangeShapes Go.WideShapes Go.Deep Go.Joins
instance : Inhabited VoteD := ⟨⟨0, 0, false, 0⟩⟩
section
variable {H : Type} {enc : TypeId × Value → H} {w : World} {base : Nat} {spare : Nat → Bool} {held : Bool}
theorem open_say {fuel : Nat} {cs : List Value} {x : DataW H × List MemPlace} (h : DataW.trod enc Tryz.prog w base spare held fuel 23 cs = some x) :
  ∃ s : SayD, cs = [.int .i64 s.kind, .int .i64 s.txn, .bool s.yes, .string s.from_, .string s.to_, .int .i64 s.epoch, .int .i64 s.shard, .int .i64 s.target, .int .i64 s.root] ∧ s.from_.size ≤ 9223372036854775807 ∧ s.to_.size ≤ 9223372036854775807 ∧
   ∀ z, z = s.kind ∨ z = s.txn ∨ z = s.epoch ∨ z = s.shard ∨ z = s.target ∨ z = s.root → -9223372036854775808 ≤ z ∧ z ≤ 9223372036854775807 := by
 obtain ⟨xs, n, _, _, hlen, hxl, hf⟩ := DataW.trod_struct Tryz.underlying23 h
 have hc : (Tryz.prog).cellsOf 23 = 9 := by kernel_rfl
 rw [hc] at hlen
 match cs, hlen, xs, hxl with
 | [a0, a1, a2, a3, a4, a5, a6, a7, a8], _, [x0, x1, x2, x3, x4, x5, x6, x7, x8], _ =>
  have c1 : (Tryz.prog).cellsOf 3 = 1 := by kernel_rfl
  have c2 : (Tryz.prog).cellsOf 2 = 1 := by kernel_rfl
  have c3 : (Tryz.prog).cellsOf 4 = 1 := by kernel_rfl
  have c4 : (Tryz.prog).cellsOf 9 = 1 := by kernel_rfl
  have t0 : DataW.trod enc Tryz.prog w base spare held n 3 (([a0, a1, a2, a3, a4, a5, a6, a7, a8].drop 0).take ((Tryz.prog).cellsOf 3)) = some x0 := hf 0 _ rfl
  rw [c1] at t0
  have t1 : DataW.trod enc Tryz.prog w base spare held n 3 (([a0, a1, a2, a3, a4, a5, a6, a7, a8].drop 1).take ((Tryz.prog).cellsOf 3)) = some x1 := hf 1 _ rfl
  rw [c1] at t1
  have t2 : DataW.trod enc Tryz.prog w base spare held n 4 (([a0, a1, a2, a3, a4, a5, a6, a7, a8].drop 2).take ((Tryz.prog).cellsOf 4)) = some x2 := hf 2 _ rfl
  rw [c3] at t2
  have t3 : DataW.trod enc Tryz.prog w base spare held n 9 (([a0, a1, a2, a3, a4, a5, a6, a7, a8].drop 3).take ((Tryz.prog).cellsOf 9)) = some x3 := hf 3 _ rfl
  rw [c4] at t3
  have t4 : DataW.trod enc Tryz.prog w base spare held n 9 (([a0, a1, a2, a3, a4, a5, a6, a7, a8].drop 4).take ((Tryz.prog).cellsOf 9)) = some x4 := hf 4 _ rfl
  rw [c4] at t4
  have t5 : DataW.trod enc Tryz.prog w base spare held n 2 (([a0, a1, a2, a3, a4, a5, a6, a7, a8].drop 5).take ((Tryz.prog).cellsOf 2)) = some x5 := hf 5 _ rfl
  rw [c2] at t5
  have t6 : DataW.trod enc Tryz.prog w base spare held n 3 (([a0, a1, a2, a3, a4, a5, a6, a7, a8].drop 6).take ((Tryz.prog).cellsOf 3)) = some x6 := hf 6 _ rfl
  rw [c1] at t6
  have t7 : DataW.trod enc Tryz.prog w base spare held n 3 (([a0, a1, a2, a3, a4, a5, a6, a7, a8].drop 7).take ((Tryz.prog).cellsOf 3)) = some x7 := hf 7 _ rfl
  rw [c1] at t7
  have t8 : DataW.trod enc Tryz.prog w base spare held n 3 (([a0, a1, a2, a3, a4, a5, a6, a7, a8].drop 8).take ((Tryz.prog).cellsOf 3)) = some x8 := hf 8 _ rfl
  rw [c1] at t8
  obtain ⟨n0, e0, _, w0⟩ := DataW.trod_int Tryz.underlying3 t0
  obtain ⟨n1, e1, _, w1⟩ := DataW.trod_int Tryz.underlying3 t1
  obtain ⟨n2, e2, _⟩ := DataW.trod_bool Tryz.underlying4 t2
  obtain ⟨n3, e3, _, w3⟩ := DataW.trod_string Tryz.underlying9 t3
  obtain ⟨n4, e4, _, w4⟩ := DataW.trod_string Tryz.underlying9 t4
  obtain ⟨n5, e5, _, w5⟩ := DataW.trod_int Tryz.underlying2 t5
  obtain ⟨n6, e6, _, w6⟩ := DataW.trod_int Tryz.underlying3 t6
  obtain ⟨n7, e7, _, w7⟩ := DataW.trod_int Tryz.underlying3 t7
  obtain ⟨n8, e8, _, w8⟩ := DataW.trod_int Tryz.underlying3 t8
  cases e0
  cases e1
  cases e2
  cases e3
  cases e4
  cases e5
  cases e6
  cases e7
  cases e8
  have q : ∀ z : Int, (Lit.int .i64 z).wf = true → -9223372036854775808 ≤ z ∧ z ≤ 9223372036854775807 := fun z hz => by
   simpa [Lit.wf, IntKind.min, IntKind.max, IntKind.signed, IntKind.bits] using hz
  refine ⟨⟨n0, n1, n2, n3, n4, n5, n6, n7, n8⟩, rfl, by unfold maxLen at w3; dsimp only; omega, by unfold maxLen at w4; dsimp only; omega, ?_⟩
  rintro z (rfl | rfl | rfl | rfl | rfl | rfl)
  ·exact q _ w0
  ·exact q _ w1
  ·exact q _ w5
  ·exact q _ w6
  ·exact q _ w7
  ·exact q _ w8
end
end Go.Proofs.YtmkdhhhoodeemaaGreat
namespace Go.Proofs.YtmkdhhhoodeemaaGreat
open Go Go.RowKit
theorem GoodL.say {L : List (List Int)} (h : GoodL L) (s : SayD) : GoodL (sayL L s) := by
 unfold sayL
 split
 ·rename_i hok
  obtain ⟨h1, h2, h3⟩ := sayB_length hok
  exact h.dig (by omega)
 ·exact h
structure Lens (w : World) (lo gw : Nat) (L : List (List Int)) (SL : List (Int × Int)) (nQ : Nat) (g m base : Nat) (v : Value) (gs ms gD gQ : Nat) : Prop where
 blk : Blk w gw 51 #[.pointer (some ⟨g, 0, none⟩), .pointer (some ⟨gs, 0, none⟩), .pointer (some ⟨gD, 0, none⟩), .pointer (some ⟨gQ, 0, none⟩)]
 bs : BS w g m base v L gs ms SL
 base_le : base ≤ w.heap.size
 b : w.cell? ⟨gw, 0, none⟩ = some (.pointer (some ⟨g, 0, none⟩))
 s : w.cell? ⟨gw, 1, none⟩ = some (.pointer (some ⟨gs, 0, none⟩))
 back : ∀ (w' : World) (v' : Value) (L' : List (List Int)) (SL' : List (Int × Int)), BS w' g m base v' L' gs ms SL' → Fr (fun k => k = g ∨ k = m ∨ v.ownBlock = some k ∨ k = ms) w w' → GoodL L' → L <+: L' → WP w' lo gw L' SL' nQ ∧ St lo w w'
theorem WP.open {w : World} {lo gw : Nat} {L : List (List Int)} {SL : List (Int × Int)} {nQ : Nat} (h : WP w lo gw L SL nQ) : ∃ g m base v gs ms gD gQ, Lens w lo gw L SL nQ g m base v gs ms gD gQ := by
 obtain ⟨hg, LD, hp, g, m, base, v, gs, ms, gD, bD, vD, gQ, bQ, vQ, SQ, h, hq⟩ := h
 refine ⟨g, m, base, v, gs, ms, gD, gQ, h.blk, h.bs, h.b_le, h.blk.cell 0, h.blk.cell 1, fun w' v' L' SL' hb hf hg' hp' => ?_⟩
 obtain ⟨h1, h2⟩ := h.step hb hf
 exact ⟨⟨hg', LD, hp.trans hp', g, m, base, v', gs, ms, gD, bD, vD, gQ, bQ, vQ, SQ, h1, hq⟩, h2⟩
theorem Lens.step {w w' : World} {lo gw : Nat} {L L' : List (List Int)} {SL SL' : List (Int × Int)} {nQ : Nat} {g m base : Nat} {v : Value} {gs ms gD gQ : Nat} {r : Value} {e : Ending} (h : Lens w lo gw L SL nQ g m base v gs ms gD gQ) (hb : BSStep w g m base v L' gs ms SL' r e w') (hg : GoodL L') (hp : L <+: L') :
  e = .returned r ∧ WP w' lo gw L' SL' nQ ∧ St lo w w' := by
 obtain ⟨v', he, hb, hf, _⟩ := hb
 exact ⟨he, h.back w' v' L' SL' hb hf hg hp⟩
theorem WP.good {w : World} {lo gw : Nat} {L : List (List Int)} {SL : List (Int × Int)} {nQ : Nat} (h : WP w lo gw L SL nQ) : GoodL L := h.1
theorem WP.of_step {w w' : World} {lo gw : Nat} {L : List (List Int)} {SL : List (Int × Int)} {nQ : Nat} {r : Value} {e : Ending} (hg : GoodL L) (h : WStep w lo gw L SL L nQ r e w') : e = .returned r ∧ WP w' lo gw L SL nQ ∧ St lo w w' :=
 ⟨h.1, ⟨hg, L, List.prefix_rfl, h.2.1⟩, h.2.2⟩
theorem wp_Digest {w : World} {lo gw : Nat} {L : List (List Int)} {SL : List (Int × Int)} {nQ : Nat} (h : WP w lo gw L SL nQ) (hL : L.length < 5000) {b : Nat} {A : Option Addr} {cap : Nat} {xs : List Int} (hv : Own8 w b (.slice A xs.length cap) xs) (h8 : B8 xs) (hx : xs.length ≤ 65536) :
  Calls Tryz.prog 14 #[.pointer (some ⟨gw, 0, none⟩), .slice A xs.length cap] w (fun e w' => e = .returned (.int .i64 (digI L xs : Nat)) ∧ WP w' lo gw (digL L xs) SL nQ ∧ St lo w w') := by
 obtain ⟨hg, LD, hp, h⟩ := h
 exact (law12_Digest h hg hp hL hv h8 hx).mono fun _ _ hs => WP.of_step (hg.dig hx) hs
theorem wp_Sign {w : World} {lo gw : Nat} {L : List (List Int)} {SL : List (Int × Int)} {nQ : Nat} (h : WP w lo gw L SL nQ) (hn : nQ < 131000) (gr mask d : Int) :
  Calls Tryz.prog 13 #[.pointer (some ⟨gw, 0, none⟩), .int .i64 gr, .int .i64 mask, .int .i64 d] w (fun e w' => ∃ r, e = .returned r ∧ WP w' lo gw L (signTo gr mask d SL 10) (nQ + 10) ∧ St lo w w') := by
 obtain ⟨hg, LD, hp, h⟩ := h
 exact (law12_Sign h hn gr mask d).mono fun _ _ ⟨r, h1, h2, h3⟩ => ⟨r, h1, ⟨hg, LD, hp, h2⟩, h3⟩
theorem wp_Start (w : World) : Calls Tryz.prog 9 #[] w (fun e w' => ∃ gw, e = .returned (.tuple #[.pointer (some ⟨gw, 0, none⟩), .bool true]) ∧ w.heap.size ≤ gw ∧ WP w' w.heap.size gw [] [] 0 ∧ Fr (fun _ => False) w w') :=
 (law12_Start w).mono fun _ _ ⟨gw, h1, h2, h3, h4⟩ => ⟨gw, h1, h2, ⟨GoodL.nil, [], List.prefix_rfl, h3⟩, h4⟩
theorem tok_one : TOk 1 1 [] [((⟨#[97]⟩ : ByteArray), (⟨#[]⟩ : ByteArray))] := by decide
theorem tok_zero : ¬ TOk 0 0 [] [] := by decide
theorem WriteRow.one {w : World} {g : Nat} {t : TypeId} {a b : ByteArray} (h : Blk w g t #[.string a, .string b]) : WriteRow w (fun k => k = g) (some ⟨g, 0, none⟩) [(a, b)] := fun k x hx => by
 cases k with
 | zero => simp only [List.getElem?_cons_zero, Option.some.injEq] at hx; subst hx; exact ⟨g, 0, rfl, rfl, h.cell 0, h.cell 1⟩
 | succ k => simp at hx
theorem WriteRow.none (w : World) (F : Nat → Prop) (A : Option Addr) : WriteRow w F A [] := fun k x hx => by simp at hx
theorem ReadRow.none (w : World) (F : Nat → Prop) (A : Option Addr) : ReadRow w F A [] := fun k x hx => by simp at hx
theorem lens_keep {w w' : World} {lo gw : Nat} {L : List (List Int)} {SL : List (Int × Int)} {nQ : Nat} {g m base : Nat} {v : Value} {gs ms gD gQ : Nat} (h : Lens w lo gw L SL nQ g m base v gs ms gD gQ) (hs : St lo w w') :
  w'.cell? ⟨gw, 0, none⟩ = some (.pointer (some ⟨g, 0, none⟩)) ∧ w'.cell? ⟨gw, 1, none⟩ = some (.pointer (some ⟨gs, 0, none⟩)) := by
 have hB := hs.blk _ _ _ h.blk (by decide)
 exact ⟨hB.cell 0, hB.cell 1⟩
theorem Lens.ord {w w' : World} {lo gw : Nat} {L L' : List (List Int)} {SL : List (Int × Int)} {nQ : Nat} {g m base : Nat} {v : Value} {gs ms gD gQ : Nat} {gg b : List Int} {e : Ending} (h : Lens w lo gw L SL nQ g m base v gs ms gD gQ) (hb : OrdStep w g m base v L' gs ms SL gg b e w') (hg : GoodL L') (hp : L <+: L') :
  ∃ tv, e = .returned tv ∧ TasksAt w' w.heap.size tv gg b ∧ WP w' lo gw L' SL nQ ∧ St lo w w' := by
 obtain ⟨tv, v', rfl, ht, hbs, hf, hk⟩ := hb
 obtain ⟨_, h1, h2⟩ := h.step (r := tv) ⟨v', rfl, hbs, hf.mono (fun _ _ h => h.elim .inl (fun h => .inr (h.elim .inl (fun h => .inr (.inl h))))), hk⟩ hg hp
 exact ⟨tv, rfl, ht, h1, h2⟩
theorem digL_nil (xs : List Int) : digL [] xs = [xs] := by simp [digL]
theorem digI_nil (xs : List Int) : digI [] xs = 0 := by simp [digI]
theorem digL_one (xs : List Int) : digL [xs] xs = [xs] := by simp [digL]
theorem digI_one (xs : List Int) : digI [xs] xs = 0 := by simp [digI]
theorem ok_vote : OkSay ⟨2, 3, true, ⟨#[]⟩, ⟨#[]⟩, 0, 1, 0, 0⟩ := by
 refine ⟨?_, ?_, ?_, ?_, ?_, ?_, ?_, ?_, ?_, ?_, ?_, ?_, ?_, ?_⟩ <;> decide
theorem signs_vote : signTo 2 7 ((0 : Nat) : Int) [] 10 = [(132, 0), (133, 0), (134, 0)] := by decide
theorem who_vote : whoInts 2 ((0 : Nat) : Int) [(132, 0), (133, 0), (134, 0)] = [0, 1, 2] := by decide
theorem who_none : whoInts 2 ((0 : Nat) : Int) [] = [] := by decide
theorem get_vote : getOk (num8 2 ++ num8 ((0 : Nat) : Int) ++ numsB [0, 1, 2]) := (put_get (xs := [0, 1, 2]) (by simp) ⟨by omega, by omega⟩ ⟨by omega, by omega⟩ (fun y h => by simp at h; unfold Wf64; omega)).1.2 ⟨by omega, fun y h => by simp at h; omega⟩
theorem TasksAt.one {w : World} {base : Nat} {v : Value} {g : Int} {b : List Int} (h : TasksAt w base v [g] b) : ∃ k c A cap, v = .slice (some ⟨k, 0, none⟩) 1 c ∧ w.cell? ⟨k, 0, none⟩ = some (.int .i64 g) ∧ w.cell? ⟨k, 1, none⟩ = some (.slice A b.length cap) ∧ ByteRow w (U8 w) A b := by
 obtain ⟨vals, h1, h2⟩ := h
 obtain ⟨A, cap, e1, e2, hr⟩ := h2 0 g rfl
 obtain ⟨A', c, rfl, _, hat⟩ := own_form h1
 obtain ⟨k, rfl, _, hc0⟩ := hat 0 _ (by simpa using e1)
 obtain ⟨k', he, _, hc1⟩ := hat 1 _ (by simpa using e2)
 cases he
 exact ⟨k, c, A, cap, rfl, hc0, hc1, hr⟩
theorem TasksAt.zero {w : World} {base : Nat} {v : Value} {b : List Int} (h : TasksAt w base v [] b) : ∃ A c, v = .slice A 0 c := by
 obtain ⟨vals, h1, h2⟩ := h
 obtain ⟨A', c, rfl, _, hat⟩ := own_form h1
 exact ⟨A', c, rfl⟩
theorem law19_head (w : World) : Calls Tryz.prog 8 #[] w (Bool1 w true) := by
 go_enter Tryz.func8, Tryz.ntmps8
 go_wp2_with fail
 refine (wp_Start _).mono ?_
 rintro e w1 ⟨gw, rfl, hgw, h1, hf1⟩
 go_upto_region 6 with fail
 have hS2 : Blk ((w1.alloc (Obj.cells #[.int .i64 2, .int .i64 3, .bool true, .string ⟨#[]⟩, .string ⟨#[]⟩, .int .i64 0, .int .i64 1, .int .i64 0, .int .i64 0] 23)).alloc (Obj.cells #[.int .i64 2, .int .i64 2, .int .i64 3, .bool true, .string ⟨#[]⟩, .string ⟨#[]⟩, .int .i64 0, .int .i64 1, .int .i64 0, .int .i64 0] 25)) w1.heap.size 23 #[.int .i64 2, .int .i64 3, .bool true, .string ⟨#[]⟩, .string ⟨#[]⟩, .int .i64 0, .int .i64 1, .int .i64 0, .int .i64 0] := (Blk.new w1 _ _).alloc _
 have hH2 : Blk ((w1.alloc (Obj.cells #[.int .i64 2, .int .i64 3, .bool true, .string ⟨#[]⟩, .string ⟨#[]⟩, .int .i64 0, .int .i64 1, .int .i64 0, .int .i64 0] 23)).alloc (Obj.cells #[.int .i64 2, .int .i64 2, .int .i64 3, .bool true, .string ⟨#[]⟩, .string ⟨#[]⟩, .int .i64 0, .int .i64 1, .int .i64 0, .int .i64 0] 25)) (w1.heap.size + 1) 25 #[.int .i64 2, .int .i64 2, .int .i64 3, .bool true, .string ⟨#[]⟩, .string ⟨#[]⟩, .int .i64 0, .int .i64 1, .int .i64 0, .int .i64 0] := Blk.new_ _ _ _ (by simp)
 have hf2 : Fr (fun _ => False) w1 ((w1.alloc (Obj.cells #[.int .i64 2, .int .i64 3, .bool true, .string ⟨#[]⟩, .string ⟨#[]⟩, .int .i64 0, .int .i64 1, .int .i64 0, .int .i64 0] 23)).alloc (Obj.cells #[.int .i64 2, .int .i64 2, .int .i64 3, .bool true, .string ⟨#[]⟩, .string ⟨#[]⟩, .int .i64 0, .int .i64 1, .int .i64 0, .int .i64 0] 25)) := ((Fr.refl _ _).alloc _).alloc _
 generalize ((w1.alloc (Obj.cells #[.int .i64 2, .int .i64 3, .bool true, .string ⟨#[]⟩, .string ⟨#[]⟩, .int .i64 0, .int .i64 1, .int .i64 0, .int .i64 0] 23)).alloc (Obj.cells #[.int .i64 2, .int .i64 2, .int .i64 3, .bool true, .string ⟨#[]⟩, .string ⟨#[]⟩, .int .i64 0, .int .i64 1, .int .i64 0, .int .i64 0] 25)) = w2 at *
 generalize w1.heap.size = x at *
 have h2 : WP w2.drew w.heap.size gw [] [] 0 := h1.keep hf2.drew
 have hS2 : Blk w2.drew x 23 #[.int .i64 2, .int .i64 3, .bool true, .string ⟨#[]⟩, .string ⟨#[]⟩, .int .i64 0, .int .i64 1, .int .i64 0, .int .i64 0] := hS2
 have hH2 : Blk w2.drew (x + 1) 25 #[.int .i64 2, .int .i64 2, .int .i64 3, .bool true, .string ⟨#[]⟩, .string ⟨#[]⟩, .int .i64 0, .int .i64 1, .int .i64 0, .int .i64 0] := hH2
 have hst2 : St w.heap.size w w2.drew := St.of _ (hf1.then_ hf2.drew)
 clear h1 hf1 hf2
 obtain ⟨ys, hys⟩ : ∃ ys, Hid (sayB ⟨2, 3, true, ⟨#[]⟩, ⟨#[]⟩, 0, 1, 0, 0⟩ = ys) := ⟨_, rfl⟩
 have hyl : Hid (ys.length ≤ 65536) := by
  obtain ⟨q1, q2, q3⟩ := sayB_length ok_vote
  show _ ≤ _
  rw [← hys.out]
  dsimp only at q1 q2 q3
  omega
 have hy8 : Hid (B8 ys) := by show B8 ys; rw [← hys.out]; exact b8_sayB _
 obtain ⟨g, m, base, v, gs, ms, gD, gQ, hN2⟩ := h2.open
 have hO := fun sh lv => orders_few (sh := sh) (lv := lv) (G := 2) (f := 1) hN2.bs hN2.base_le (by decide) ok_vote (by omega) (by rw [show sayI [] ⟨2, 3, true, ⟨#[]⟩, ⟨#[]⟩, 0, 1, 0, 0⟩ = ((0 : Nat) : Int) by rw [sayI, if_pos ok_vote, digI_nil], who_none]; decide)
 rw [show sayL [] ⟨2, 3, true, ⟨#[]⟩, ⟨#[]⟩, 0, 1, 0, 0⟩ = [ys] by rw [sayL, if_pos ok_vote, digL_nil, hys.out]] at hO
 have hO := Lib.hid hO
 have hG : Hid (GoodL [ys]) := by have := h2.good.dig hyl.out; rw [digL_nil] at this; exact this
 clear h2
 go_region_held3 (fun w' => w'.cell? ⟨gw, 0, none⟩ = some (.pointer (some ⟨g, 0, none⟩)) ∧ w'.cell? ⟨gw, 1, none⟩ = some (.pointer (some ⟨gs, 0, none⟩)) ∧ w'.cell? ⟨x + 1, 0, none⟩ = some (.int .i64 2) ∧ w'.cell? ⟨x + 1, 1, none⟩ = some (.int .i64 2) ∧ w'.cell? ⟨x + 1, 2, none⟩ = some (.int .i64 3) ∧ w'.cell? ⟨x + 1, 3, none⟩ = some (.bool true) ∧ w'.cell? ⟨x + 1, 4, none⟩ = some (.string ⟨#[]⟩) ∧ w'.cell? ⟨x + 1, 5, none⟩ = some (.string ⟨#[]⟩) ∧ w'.cell? ⟨x + 1, 6, none⟩ = some (.int .i64 0) ∧ w'.cell? ⟨x + 1, 7, none⟩ = some (.int .i64 1) ∧ w'.cell? ⟨x + 1, 8, none⟩ = some (.int .i64 0) ∧ w'.cell? ⟨x + 1, 9, none⟩ = some (.int .i64 0)) (first | exact ⟨(lens_keep hN2 hst3).1, (lens_keep hN2 hst3).2, hH3.cell 0, hH3.cell 1, hH3.cell 2, hH3.cell 3, hH3.cell 4, hH3.cell 5, hH3.cell 6, hH3.cell 7, hH3.cell 8, hH3.cell 9⟩ | exact ⟨hN2.b, hN2.s, hH2.cell 0, hH2.cell 1, hH2.cell 2, hH2.cell 3, hH2.cell 4, hH2.cell 5, hH2.cell 6, hH2.cell 7, hH2.cell 8, hH2.cell 9⟩) (first | (go_at_call 15; refine (hO.out _ _).mono ?_; rintro e w3 hs3; obtain ⟨tv3, rfl, ht3, h3, hst3⟩ := hN2.ord hs3 hG.out (List.nil_prefix); obtain ⟨A3, c3, rfl⟩ := ht3.zero; have hH3 := hst3.blk _ _ _ hH2 (by decide); have hS3 := hst3.blk _ _ _ hS2 (by decide)))
 have hst03 := hst2.trans hst3
 clear hO hG hN2 hS2 hH2 hst2 hst3 ht3
 have HP := ref11_Put1 w3 2 3 true ⟨#[]⟩ ⟨#[]⟩ 0 1 0 0
 rw [if_pos ok_vote, hys.out] at HP
 have HP := Lib.hid HP
 have y0 := hS3.cell 0
 have y1 := hS3.cell 1
 have y2 := hS3.cell 2
 have y3 := hS3.cell 3
 have y4 := hS3.cell 4
 have y5 := hS3.cell 5
 have y6 := hS3.cell 6
 have y7 := hS3.cell 7
 have y8 := hS3.cell 8
 go_wp2_with fail
 refine HP.out.mono ?_
 rintro e w4 ⟨v4, rfl, hv4, hf4⟩
 obtain ⟨A4, cap4, rfl, _, _⟩ := hv4.form
 have h4 := h3.keep hf4
 have HD := wp_Digest h4 (by simp) hv4 hy8.out hyl.out
 rw [digI_one, digL_one] at HD
 have HD := Lib.hid HD
 have hS4 := hS3.fr hf4 id
 have hH4 := hH3.fr hf4 id
 have hst04 := hst03.trans (St.of _ hf4)
 clear HP h3 h4 hS3 hH3 hst03 hv4 hf4
 go_wp2_with fail
 refine HD.out.mono ?_
 rintro e w5 ⟨rfl, h5, hst5⟩
 have hH5 := hst5.blk _ _ _ hH4 (by decide); have hS5 := hst5.blk _ _ _ hS4 (by decide)
 have hst05 := hst04.trans hst5
 clear HD hS4 hH4 hst04 hst5
 have HSg := wp_Sign h5 (by decide) 2 7 ((0 : Nat) : Int)
 rw [signs_vote] at HSg
 have HSg := Lib.hid HSg
 go_wp2_with fail
 refine HSg.out.mono ?_
 rintro e w6 ⟨r6, rfl, h6, hst6⟩
 have hH6 := hst6.blk _ _ _ hH5 (by decide); have hS6 := hst6.blk _ _ _ hS5 (by decide)
 have hst06 := hst05.trans hst6
 clear HSg h5 hS5 hH5 hst05 hst6
 go_upto_region 8 with fail
 have h6 : WP w6.drew w.heap.size gw [ys] [(132, 0), (133, 0), (134, 0)] (0 + 10) := h6.keep ((Fr.refl (fun _ => False) w6).drew)
 have hS6 : Blk w6.drew x 23 #[.int .i64 2, .int .i64 3, .bool true, .string ⟨#[]⟩, .string ⟨#[]⟩, .int .i64 0, .int .i64 1, .int .i64 0, .int .i64 0] := hS6
 have hH6 : Blk w6.drew (x + 1) 25 #[.int .i64 2, .int .i64 2, .int .i64 3, .bool true, .string ⟨#[]⟩, .string ⟨#[]⟩, .int .i64 0, .int .i64 1, .int .i64 0, .int .i64 0] := hH6
 have hst06 : St w.heap.size w w6.drew := hst06.trans (St.of _ ((Fr.refl (fun _ => False) w6).drew))
 obtain ⟨g, m, base, v, gs, ms, gD, gQ, hN6⟩ := h6.open
 have hI : sayI [ys] ⟨2, 3, true, ⟨#[]⟩, ⟨#[]⟩, 0, 1, 0, 0⟩ = ((0 : Nat) : Int) := by rw [sayI, if_pos ok_vote, hys.out, digI_one]
 have hO := fun sh lv => orders_vote (sh := sh) (lv := lv) (G := 2) (f := 1) (xs := [0, 1, 2]) hN6.bs hN6.base_le (by simp) ok_vote (by decide) (by omega) (by rw [hI, who_vote]; decide) (by rw [hI, who_vote]; decide) (by decide) (by rw [hI]; exact get_vote)
 rw [show sayL [ys] ⟨2, 3, true, ⟨#[]⟩, ⟨#[]⟩, 0, 1, 0, 0⟩ = [ys] by rw [sayL, if_pos ok_vote, hys.out, digL_one]] at hO
 have hO := Lib.hid hO
 have hG := Lib.hid h6.good
 clear h6 hI
 go_region_held3 (fun w' => w'.cell? ⟨gw, 0, none⟩ = some (.pointer (some ⟨g, 0, none⟩)) ∧ w'.cell? ⟨gw, 1, none⟩ = some (.pointer (some ⟨gs, 0, none⟩)) ∧ w'.cell? ⟨x + 1, 0, none⟩ = some (.int .i64 2) ∧ w'.cell? ⟨x + 1, 1, none⟩ = some (.int .i64 2) ∧ w'.cell? ⟨x + 1, 2, none⟩ = some (.int .i64 3) ∧ w'.cell? ⟨x + 1, 3, none⟩ = some (.bool true) ∧ w'.cell? ⟨x + 1, 4, none⟩ = some (.string ⟨#[]⟩) ∧ w'.cell? ⟨x + 1, 5, none⟩ = some (.string ⟨#[]⟩) ∧ w'.cell? ⟨x + 1, 6, none⟩ = some (.int .i64 0) ∧ w'.cell? ⟨x + 1, 7, none⟩ = some (.int .i64 1) ∧ w'.cell? ⟨x + 1, 8, none⟩ = some (.int .i64 0) ∧ w'.cell? ⟨x + 1, 9, none⟩ = some (.int .i64 0)) (first | exact ⟨(lens_keep hN6 hst7).1, (lens_keep hN6 hst7).2, hH7.cell 0, hH7.cell 1, hH7.cell 2, hH7.cell 3, hH7.cell 4, hH7.cell 5, hH7.cell 6, hH7.cell 7, hH7.cell 8, hH7.cell 9⟩ | exact ⟨hN6.b, hN6.s, hH6.cell 0, hH6.cell 1, hH6.cell 2, hH6.cell 3, hH6.cell 4, hH6.cell 5, hH6.cell 6, hH6.cell 7, hH6.cell 8, hH6.cell 9⟩) (first | (go_at_call 15; refine (hO.out _ _).mono ?_; rintro e w7 hs7; obtain ⟨tv7, rfl, ht7, h7, hst7⟩ := hN6.ord hs7 hG.out (List.prefix_rfl); obtain ⟨k7, c7, A7, cap7, rfl, q0, _, _⟩ := ht7.one; have hH7 := hst7.blk _ _ _ hH6 (by decide); have hS7 := hst7.blk _ _ _ hS6 (by decide)))
 have hst07 := hst06.trans hst7
 have hfr7 : Fr (fun _ => False) w w7 := hst07.fr.mono (fun k hk e => by omega)
 clear hO hG hN6 hS6 hH6 hS7 hH7 hst06 hst7 ht7 h7 hys hyl hy8
 go_upto_region 9 with fail
 have hWr : Blk (w7.alloc (Obj.cells #[.string ⟨#[97]⟩, .string ⟨#[]⟩] 84)) w7.heap.size 84 #[.string ⟨#[97]⟩, .string ⟨#[]⟩] := Blk.new _ _ _
 have hf78 : Fr (fun _ => False) w7 (w7.alloc (Obj.cells #[.string ⟨#[97]⟩, .string ⟨#[]⟩] 84)) := (Fr.refl _ _).alloc _
 have HB := relay_Begin (cr := 0) (cw := 1) (c := 1) (n := 1) (ReadRow.none _ (fun k => k = w7.heap.size) .none) (WriteRow.one hWr) ⟨by simp, by simp, .inl (by simp)⟩
 rw [if_pos tok_one, if_pos tok_one] at HB
 have HB := Lib.hid HB
 have HZ := fun w => relay_Begin (w := w) (cr := 0) (cw := 0) (c := 0) (n := 0) (ReadRow.none _ (fun _ => False) .none) (WriteRow.none _ _ .none) ⟨by simp, by simp, .inl (by simp)⟩
 simp only [if_neg tok_zero] at HZ
 have HZ := Lib.hid HZ
 go_upto_region 10 with (go_at_call 23; refine HB.out.mono ?_; rintro e w8 ⟨tv8, rfl, ht8, hf8⟩; obtain ⟨k8, c8, A8, cap8, rfl, _, _, _⟩ := ht8.one)
 have q0 := hf8.cell_some (hf78.cell_some q0 id) id
 have hfr8 := (hfr7.then_ hf78).then_ hf8
 clear HB hWr hf78 hf8 ht8 hfr7 hst07
 go_wp2_with (go_at_call 23; refine (HZ.out _).mono ?_; rintro e w9 ⟨tv9, rfl, ht9, hf9⟩; obtain ⟨A9, c9, rfl⟩ := ht9.zero)
 go_ret
 exact ⟨rfl, hfr8.then_ hf9⟩
end Go.Proofs.YtmkdhhhoodeemaaGreat
