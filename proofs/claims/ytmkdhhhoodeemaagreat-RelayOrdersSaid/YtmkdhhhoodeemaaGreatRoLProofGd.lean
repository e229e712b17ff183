/- Parts of the proof, joined. -/
import Derived.Deep.RegionHeldLaw
import Derived.BigQuiet
import Derived.Deep.MidRow
import Derived.Laws.Tables
import Derived.Lib.SlKept
import Derived.Lib.SmallJoins
import Derived.Test.YtmkdhhhoodeemaaGreatRoLProofGa
import Derived.Test.YtmkdhhhoodeemaaGreatRoLProofGb
import Derived.Test.YtmkdhhhoodeemaaGreatRoLProofGc
set_option linter.unusedVariables false
set_option linter.unusedSimpArgs false
set_option maxRecDepth 100000
set_option maxHeartbeats 16000000
namespace Go.Proofs.YtmkdhhhoodeemaaGreat
open Go Go.RowKit
structure RR (w : World) (g b o cap : Nat) (bs : List Int) (pos : Nat) : Prop where
 blk : Blk w g 131 #[.slice (some ⟨b, o, none⟩) bs.length cap, .int .i64 pos, .int .i64 0, .string ⟨#[]⟩, .int .i64 0]
 row : ByteRow w (U8 w) (some ⟨b, o, none⟩) bs
 cap_ : bs.length ≤ cap
 le : pos ≤ bs.length
theorem RR.fr {S : Nat → Prop} {w w' : World} {g b o cap : Nat} {bs : List Int} {pos : Nat} (h : RR w g b o cap bs pos) (hf : Fr S w w') (hg : ¬ S g) (h8 : ∀ k, U8 w k → ¬ S k) : RR w' g b o cap bs pos :=
 ⟨h.blk.fr hf hg, h.row.u8 hf h8, h.cap_, h.le⟩
theorem RR.keep {w w' : World} {g b o cap : Nat} {bs : List Int} {pos : Nat} (h : RR w g b o cap bs pos) (hf : Fr (fun _ => False) w w') : RR w' g b o cap bs pos := h.fr hf id (fun _ _ => id)
def RBytes (w : World) (g b o cap : Nat) (bs : List Int) (pos n : Nat) (e : Ending) (w' : World) : Prop :=
 ∃ v, e = .returned v ∧ Own8 w' w.heap.size v ((bs.drop pos).take n) ∧ RR w' g b o cap bs (pos + n) ∧ Fr (fun k => k = g) w w'
theorem RR.part {w : World} {g b o cap : Nat} {bs : List Int} {pos : Nat} (h : RR w g b o cap bs pos) (n : Nat) : ByteRow w (U8 w) (some ⟨b, o + pos, none⟩) ((bs.drop pos).take n) := by
 intro k x hx
 rw [List.getElem?_take] at hx
 split at hx
 ·rw [List.getElem?_drop] at hx
  obtain ⟨b', o', e, h1, h2⟩ := h.row (pos + k) x hx
  cases e
  exact ⟨b, o + pos, rfl, h1, by rw [Nat.add_assoc]; exact h2⟩
 ·cases hx
theorem RR.set {w : World} {g b o cap : Nat} {bs : List Int} {pos : Nat} (h : RR w g b o cap bs pos) {p : Nat} (hp : p ≤ bs.length) : RR (w.setCell ⟨g, 1, none⟩ (.int .i64 (p : Int))) g b o cap bs p ∧ Fr (fun k => k = g) w (w.setCell ⟨g, 1, none⟩ (.int .i64 (p : Int))) := by
 have hf : Fr (fun k => k = g) w (w.setCell ⟨g, 1, none⟩ (.int .i64 (p : Int))) := (Fr.refl (fun k => k = g) w).setCell (p := ⟨g, 1, none⟩) (fun _ => rfl) _
 exact ⟨⟨h.blk.set_ 1 _, h.row.u8 hf (fun k hk e => hk.ne_blk h.blk (by decide) e), h.cap_, hp⟩, hf⟩
theorem slice_row {w : World} {b f p n cap : Nat} {xs : List Int} (h : ByteRow w (U8 w) (some ⟨b, f + p, none⟩) xs) (hl : xs.length = n) (hc : p + n ≤ cap) : ByteRow w (U8 w) (if cap = p then some ⟨b, f, none⟩ else some ⟨b, f + p, none⟩) xs := by
 split
 ·have : xs = [] := List.eq_nil_of_length_eq_zero (by omega)
  subst this
  intro k x hx
  simp at hx
 ·exact h
theorem refr_bytes {w : World} {g b o cap : Nat} {bs : List Int} {pos : Nat} (h : RR w g b o cap bs pos) (hl : bs.length ≤ 1099511627776) (n : Nat) (hn : pos + n ≤ bs.length) (s : ByteArray) (at_ : Int) :
  Calls Tryz.prog 122 #[.pointer (some ⟨g, 0, none⟩), .int .i64 n, .string s, .int .i64 at_] w (RBytes w g b o cap bs pos n) := by
 have c0 := h.blk.cell 0
 have c1 := h.blk.cell 1
 have c2 := h.blk.cell 2
 have hcap := h.cap_
 have hn' : ¬ (bs.length : Int) - (pos : Int) < (n : Int) := by omega
 have hsub : wrap64 ((bs.length : Int) - (pos : Int)) = (bs.length : Int) - (pos : Int) := by unfold wrap64; omega
 have H := Lib.hid h
 have HL := Lib.hid hl
 clear h
 go_enter Tryz.func122, Tryz.ntmps122
 go_wp2_with fail
 go_quiet (fail)
 go_wp2_with fail
 have hf1 : Fr (fun _ => False) w (w.drewN nq) := (Fr.refl _ _).drewN nq
 have H1 := H.out.keep hf1
 generalize w.drewN nq = w1 at *
 have hf2 : Fr (fun _ => False) w1 (w1.drew.alloc (Obj.cells #[] 5)) := ((Fr.refl _ _).drew).alloc _
 have H2 := H1.keep hf2
 have ho2 : Own8 (w1.drew.alloc (Obj.cells #[] 5)) w1.heap.size (.slice (some ⟨w1.heap.size, 0, none⟩) 0 0) [] := Own8.built w1.drew (Nat.le_refl _) [] (by simp) 0 rfl
 have hy2 := H2.part n
 have hxl : ((bs.drop pos).take n).length = n := by rw [List.length_take, List.length_drop]; omega
 have hz2 : w1.heap.size ≤ (w1.drew.alloc (Obj.cells #[] 5)).heap.size := by simp
 have d0 := H1.blk.drew.cell 0
 have d1 := H1.blk.drew.cell 1
 have e0 := H2.blk.cell 0
 have e1 := H2.blk.cell 1
 have HXL := Lib.hid hxl
 have hg2 := H2.blk
 generalize hxs : (bs.drop pos).take n = xs at hy2 HXL hxl ⊢
 clear c0 c1 c2 H1 hn' hsub
 have hn3 : pos + n ≤ cap := by omega
 have hy3 := slice_row hy2 hxl hn3
 have h1 : (pos : Int) + (n : Int) ≤ (cap : Int) := by omega
 have h5 : (0 : Int) ≤ (pos : Int) + (n : Int) := by omega
 have h6 : pos ≤ ((pos : Int) + (n : Int)).toNat := by omega
 have h7 : ((pos : Int) + (n : Int)).toNat - pos = n := by omega
 have h8 : (pos : Int) + (n : Int) ≤ 1099511627776 := by omega
 have h9 : IntKind.i64.wrap ((pos : Int) + (n : Int)) = (pos : Int) + (n : Int) := by unfold IntKind.wrap; simp [IntKind.bits, IntKind.signed]; omega
 refine wp_region_noPanic ?_
 refine wp_region_held_drew (S := (fun w' => w'.cell? ⟨g, 0, none⟩ = some (.slice (some ⟨b, o, none⟩) bs.length cap) ∧ w'.cell? ⟨g, 1, none⟩ = some (.int .i64 pos))) (by kernel_rfl) (⟨d0, d1⟩) (fun hHeld => ?_)
 refine tk 1 32 ?_
 refine tk 2 33 ?_
 refine tk 3 34 ?_
 refine tk 4 35 ?_
 refine tk 5 36 ?_
 refine tk 6 37 ?_
 refine tk 7 38 ?_
 refine tk 8 39 ?_
 refine tk 9 40 ?_
 refine tk 10 41 ?_
 refine tk 11 42 ?_
 refine tk 12 43 ?_
 refine tk 13 44 ?_
 refine tk 14 45 ?_
 refine tk 15 46 ?_
 refine rd 0 (fun K hK => ?_)
 go_simp
 refine hK.out _ _ (⟨e0, e1⟩) (fun hHeld => ?_)
 clear hK K
 refine rd 16 (fun K hK => ?_)
 refine step_append_text rfl (.tmp 31) (.tmp 46) rfl w1.heap.size (.slice (some ⟨w1.heap.size, 0, none⟩) 0 0) [] (by simp [Act.eval]) ho2 (U8 (w1.drew.alloc (Obj.cells #[] 5))) (if cap = pos then some ⟨b, o, none⟩ else some ⟨b, o + pos, none⟩) n (cap - pos) xs (by simp [Act.eval]) hxl.symm hy3 (by have := HL.out; have := HXL.out; simp; omega) hz2 ?_
 intro v5 w5 h5 hf5 hk5
 have hg5 := hg2.fr hf5 (ho2.ne_blk hg2 (by decide))
 have hf25 : Fr (fun _ => False) w w5 := (hf1.then_ hf2).trans hf5 (fun k hk e => by have := own_ge ho2 k e; have := hf1.size; omega)
 refine hK.out _ _ ⟨hg5.cell 0, hg5.cell 1⟩ (fun hHeld => ?_)
 clear hK K
 simp only [List.getElem_toArray, List.getElem_cons_succ, List.getElem_cons_zero]
 simp only [Act.put, List.setIfInBounds_toArray, List.set_cons_zero, List.set_cons_succ]
 refine tk 17 9 ?_
 refine wpAnyH_done (by kernel_rfl) ?_ _
 refine NoPanic.normal ?_
 have hr0 : Fr (fun _ => False) w w5 := hf25
 have HR := H.out.keep hr0
 have hv5 : Own8 w5 w1.heap.size v5 xs := h5
 obtain ⟨A5, k5, rfl, _, _⟩ := hv5.form
 have g1 := HR.blk.cell 1
 have z1 := HR.blk.frozen 1
 obtain ⟨hR, hfR⟩ := HR.set hn
 have hq : (((pos + n : Nat) : Int)) = (pos : Int) + (n : Int) := by omega
 have hv6 : Own8 w5 w1.heap.size (.slice A5 n k5) xs := hv5.len hxl
 rw [hq] at hR hfR
 by_cases hcp : cap = pos
 ·subst hcp
  go_wp2
  refine bodyPost_ret (v := .slice A5 n k5) (by simp [results, Tryz.results122, go_sem]) rfl ?_
  unfold RBytes
  rw [hxs]
  exact ⟨_, rfl, (hv6.setCell HR.blk (by decide) _).base_ hf1.size, hR, (hr0.mono (fun _ _ h => h.elim)).trans hfR (fun _ _ h => h)⟩
 ·skip
  go_wp2
  refine bodyPost_ret (v := .slice A5 n k5) (by simp [results, Tryz.results122, go_sem]) rfl ?_
  unfold RBytes
  rw [hxs]
  exact ⟨_, rfl, (hv6.setCell HR.blk (by decide) _).base_ hf1.size, hR, (hr0.mono (fun _ _ h => h.elim)).trans hfR (fun _ _ h => h)⟩
def TextsP (w : World) (b0 b1 b2 : List Int) (e : Ending) (w' : World) : Prop :=
 ∃ v0 v1 v2, e = .returned (.tuple #[.agg #[v0, v1, v2], .bool true]) ∧ Own8 w' w.heap.size v0 b0 ∧ Own8 w' w.heap.size v1 b1 ∧ Own8 w' w.heap.size v2 b2 ∧ Fr (fun _ => False) w w'
def orderB (kind : Int) (b0 b1 b2 : List Int) : List Int := num8 kind ++ textB b0 ++ textB b1 ++ textB b2 ++ num8 0 ++ num8 0 ++ num8 0 ++ numsB []
theorem wrote_row {wi wj : World} {g : Nat} {v : Value} {bs xs : List Int} {A : Option Addr} (hr : ByteRow wi (fun k => k < g) A xs) (ho : Own8 wi g v bs) (h : Fr (fun k => k = g ∨ v.ownBlock = some k) wi wj) : ByteRow wj (fun k => k < g) A xs :=
 hr.fr h (fun k hk e => e.elim (fun e => by omega) (fun e => by have := own_ge ho k e; omega))
theorem wrote_hA {wi : World} {g : Nat} {v : Value} {bs : List Int} (ho : Own8 wi g v bs) : ∀ k, k < g → v.ownBlock ≠ some k := fun k hk e => by have := own_ge ho k e; omega
theorem say_PutOrder_bad {w : World} {kind c n : Int} {A B : Option Addr} {nr cr nw cw : Nat} {s : SayD} {G D : Int} {C : Option Addr} {nx cx : Nat}
  (hT : ∀ w', Fr (fun _ => False) w w' → Calls Tryz.prog 123 #[.agg #[.int .i64 kind, .int .i64 c, .int .i64 n, .slice A nr cr, .slice B nw cw, .int .i64 s.kind, .int .i64 s.txn, .bool s.yes, .string s.from_, .string s.to_, .int .i64 s.epoch, .int .i64 s.shard, .int .i64 s.target, .int .i64 s.root, .int .i64 G, .int .i64 D, .slice C nx cx, .int .i64 0, .int .i64 0, .slice none 0 0, .slice none 0 0]] w' (fun e w'' => ∃ A0 n0 c0 A1 n1 c1 A2 n2 c2, e = .returned (.tuple #[.agg #[.slice A0 n0 c0, .slice A1 n1 c1, .slice A2 n2 c2], .bool false]) ∧ Fr (fun _ => False) w' w'')) :
  Calls Tryz.prog 95 #[.agg #[.int .i64 kind, .int .i64 c, .int .i64 n, .slice A nr cr, .slice B nw cw, .int .i64 s.kind, .int .i64 s.txn, .bool s.yes, .string s.from_, .string s.to_, .int .i64 s.epoch, .int .i64 s.shard, .int .i64 s.target, .int .i64 s.root, .int .i64 G, .int .i64 D, .slice C nx cx, .int .i64 0, .int .i64 0, .slice none 0 0, .slice none 0 0]] w (fun e w' => ∃ t u, e = .returned (.tuple #[.slice none 0 0, .iface t u]) ∧ Fr (fun _ => False) w w') := by
 have HT := Lib.hid hT
 clear hT
 have hB0 := Blk.new w 62 #[.int .i64 kind, .int .i64 c, .int .i64 n, .slice A nr cr, .slice B nw cw, .int .i64 s.kind, .int .i64 s.txn, .bool s.yes, .string s.from_, .string s.to_, .int .i64 s.epoch, .int .i64 s.shard, .int .i64 s.target, .int .i64 s.root, .int .i64 G, .int .i64 D, .slice C nx cx, .int .i64 0, .int .i64 0, .slice none 0 0, .slice none 0 0]
 have hf0 : Fr (fun _ => False) w (w.alloc (Obj.cells #[.int .i64 kind, .int .i64 c, .int .i64 n, .slice A nr cr, .slice B nw cw, .int .i64 s.kind, .int .i64 s.txn, .bool s.yes, .string s.from_, .string s.to_, .int .i64 s.epoch, .int .i64 s.shard, .int .i64 s.target, .int .i64 s.root, .int .i64 G, .int .i64 D, .slice C nx cx, .int .i64 0, .int .i64 0, .slice none 0 0, .slice none 0 0] 62)) := (Fr.refl _ _).alloc _
 go_enter Tryz.func95, Tryz.ntmps95
 go_upto_region 1 with fail
 generalize w.alloc (Obj.cells #[.int .i64 kind, .int .i64 c, .int .i64 n, .slice A nr cr, .slice B nw cw, .int .i64 s.kind, .int .i64 s.txn, .bool s.yes, .string s.from_, .string s.to_, .int .i64 s.epoch, .int .i64 s.shard, .int .i64 s.target, .int .i64 s.root, .int .i64 G, .int .i64 D, .slice C nx cx, .int .i64 0, .int .i64 0, .slice none 0 0, .slice none 0 0] 62) = w0 at *
 go_wp2_with (refine wpList_load_row rfl 62 _ rfl _ rfl _ _ (0, 0) _ hB0 Tryz.underlying62 rfl (by kernel_rfl) ?_)
 refine (HT.out _ hf0).mono ?_
 rintro e w1 ⟨A0, n0, c0, A1, n1, c1, A2, n2, c2, rfl, hf01⟩
 have hB1 := hB0.fr hf01 id
 have hf1 := hf0.then_ hf01
 have hB2 := hB1.alloc (Obj.cells #[.slice A0 n0 c0, .slice A1 n1 c1, .slice A2 n2 c2] 214)
 have hf2 := hf1.alloc (Obj.cells #[.slice A0 n0 c0, .slice A1 n1 c1, .slice A2 n2 c2] 214)
 obtain ⟨t, u, hu⟩ := errV_iface [((⟨#[111, 114, 100, 101, 114]⟩ : ByteArray), kind)] 112
 have HU := Lib.hid hu
 clear hB0 hf0 hf01 HT hu hB1 hf1
 go_upto_region 3 with fail
 generalize w1.alloc (Obj.cells #[.slice A0 n0 c0, .slice A1 n1 c1, .slice A2 n2 c2] 214) = w2 at *
 have k0 := hB2.cell 0
 go_quiet ((first | (go_at_call 71; exact quiet_left (fault_Of 112 rfl _)) | (go_at_call 70; exact quiet_left (fault_Wrap _ _ _ _ _))))
 go_wp2
 refine bodyPost_ret (v := .tuple #[.slice none 0 0, errV [((⟨#[111, 114, 100, 101, 114]⟩ : ByteArray), kind)] 112]) (by simp [results, Tryz.results95, go_sem]) rfl ?_
 refine ⟨t, u, by rw [HU.out], ?_⟩
 repeat first | exact hf2 | refine Fr.alloc ?_ _ | refine Fr.drewN ?_ _ | refine Fr.drew ?_
theorem slices_Clone8 {w : World} {B : Nat → Prop} {A : Option Addr} {xs : List Int} {n cap : Nat} (h : ByteRow w B A xs) (hn : n = xs.length) (hl : xs.length ≤ 1099511627776) :
  Calls Tryz.prog 96 #[.slice A n cap] w (Fresh w xs) := by
 subst hn
 have hq := fun w' A n => @Lib.run_eql_slice_nil Tryz.prog w' 38 5 A n cap 0 0 Tryz.underlying38
 cases xs with
 | nil =>
  cases A with
  | none =>
   go_enter Tryz.func96, Tryz.ntmps96
   go_wp2
   go_ret
   exact ⟨.slice none 0 0, rfl, Own8.nil _ _, Fr.refl _ _⟩
  | some a =>
   go_enter Tryz.func96, Tryz.ntmps96
   go_wp2
   go_ret
   exact ⟨.slice (some ⟨w.heap.size, 0, none⟩) 0 0, rfl, Own8.built w (Nat.le_refl _) [] (by simp) 0 rfl, (Fr.refl (fun _ => False) w).alloc _⟩
 | cons x r =>
  obtain ⟨b, o, rfl, hb, hat⟩ := h.at (by simp)
  go_enter Tryz.func96, Tryz.ntmps96
  go_wp2_with (at_builtin; refine wpList_append_bytes rfl (.tmp 5) (.tmp 6) rfl w.heap.size _ [] rfl (Own8.built w (Nat.le_refl _) [] (by simp) 0 rfl) b o (x :: r).length cap (x :: r) rfl rfl (hat.fr ((Fr.refl (fun _ => False) w).alloc _) id) (by simp) (by simpa using hl) (by simp) ?_; intro g2 c2 w2 hown2 hf2 hg2)
  go_ret
  refine ⟨.slice (some ⟨g2, 0, none⟩) ([] ++ (x :: r)).length c2, rfl, hown2, ((Fr.refl (fun _ => False) w).alloc (Obj.cells #[] 5)).trans hf2 ?_⟩
  intro k hk e1
  cases e1
  simp at hk

def TasksAt (w : World) (base : Nat) (v : Value) (gs : List Int) (b : List Int) : Prop :=
 ∃ vals, w.ownsRow base 68 2 v gs.length vals ∧ ∀ (k : Nat) g, gs[k]? = some g → ∃ A cap, vals[k * 2]? = some (.int .i64 g) ∧ vals[k * 2 + 1]? = some (.slice A b.length cap) ∧ ByteRow w (U8 w) A b
def TasksP (w : World) (gs b : List Int) (e : Ending) (w' : World) : Prop := ∃ v, e = .returned v ∧ TasksAt w' w.heap.size v gs b ∧ Fr (fun _ => False) w w'
theorem task_info : (Tryz.prog.info? 68).map (fun i => (i.zero, i.size, i.bytes)) = some (some (.agg #[.int .i64 0, .slice none 0 0]), 2, 32) := by kernel_rfl
theorem TasksAt.nil (w : World) (base : Nat) (b : List Int) : TasksAt w base (.slice none 0 0) [] b := ⟨[], World.ownsRow_nil _ _ _ _, fun k g h => by cases h⟩
theorem TasksAt.fr {w w' : World} {S : Nat → Prop} {base : Nat} {v : Value} {gs b : List Int} (h : TasksAt w base v gs b) (hf : Fr S w w') (hv : ∀ k, v.ownBlock = some k → ¬ S k) (h8 : ∀ k, U8 w k → ¬ S k) : TasksAt w' base v gs b := by
 obtain ⟨vals, h1, h2⟩ := h
 refine ⟨vals, own_fr h1 hf hv, fun k g hg => ?_⟩
 obtain ⟨A, cap, e1, e2, hr⟩ := h2 k g hg
 exact ⟨A, cap, e1, e2, hr.u8 hf h8⟩
theorem TasksAt.base_ {w : World} {base base' : Nat} {v : Value} {gs b : List Int} (h : TasksAt w base v gs b) (hb : base' ≤ base) : TasksAt w base' v gs b := by
 obtain ⟨vals, h1, h2⟩ := h
 exact ⟨vals, own_base h1 hb, h2⟩
theorem Own8.u8row {w : World} {base : Nat} {v : Value} {xs : List Int} (h : Own8 w base v xs) : ∃ A cap, v = .slice A xs.length cap ∧ xs.length ≤ cap ∧ ByteRow w (U8 w) A xs := by
 obtain ⟨A, cap, e, h1, h2⟩ := h.form
 refine ⟨A, cap, e, h1, h2.mono (fun k hk => ?_)⟩
 obtain ⟨cs, hB⟩ := own_cells h hk
 exact ⟨cs, (0, 0), hB⟩
theorem TasksAt.snoc {w : World} {base : Nat} {v : Value} {gs b : List Int} {g : Int} {A : Option Addr} {cap : Nat} {vals : List Value} (h : w.ownsRow base 68 2 v (gs.length + 1) (vals ++ [.int .i64 g, .slice A b.length cap]))
  (h2 : ∀ (k : Nat) g, gs[k]? = some g → ∃ A cap, vals[k * 2]? = some (.int .i64 g) ∧ vals[k * 2 + 1]? = some (.slice A b.length cap) ∧ ByteRow w (U8 w) A b) (hr : ByteRow w (U8 w) A b) : TasksAt w base v (gs ++ [g]) b := by
 have hl : vals.length = gs.length * 2 := by
  have := h.1
  simp only [List.length_append, List.length_cons, List.length_nil] at this
  omega
 refine ⟨_, by simpa using h, ?_⟩
 intro k x hx
 rcases Nat.lt_or_ge k gs.length with hk | hk
 ·rw [List.getElem?_append_left hk] at hx
  obtain ⟨A', cap', h1, h3, h4⟩ := h2 k x hx
  exact ⟨A', cap', by rw [List.getElem?_append_left (by omega)]; exact h1, by rw [List.getElem?_append_left (by omega)]; exact h3, h4⟩
 ·rw [List.getElem?_append_right hk] at hx
  have hk0 : k - gs.length = 0 := by
   cases hd : k - gs.length with
   | zero => rfl
   | succ n => rw [hd] at hx; simp at hx
  rw [hk0] at hx
  simp only [List.getElem?_cons_zero, Option.some.injEq] at hx
  subst hx
  exact ⟨A, cap, by rw [List.getElem?_append_right (by omega), show k * 2 - vals.length = 0 by omega]; rfl, by rw [List.getElem?_append_right (by omega), show k * 2 + 1 - vals.length = 1 by omega]; rfl, hr⟩
theorem relay_tasks_ok {w : World} {kind c n : Int} {A B : Option Addr} {nr cr nw cw : Nat} {s : SayD} {G D : Int} {C : Option Addr} {nx cx : Nat} {bG : Nat} {GA : Option Addr} {cg : Nat} {gs : List Int} (hgs : IntRow w bG GA gs) (hbG : bG ≤ w.heap.size) (hgl : gs.length ≤ 1000) {bs : List Int} (hbl : bs.length ≤ 1000000)
  (hP : ∀ w', Fr (fun _ => False) w w' → Calls Tryz.prog 95 #[.agg #[.int .i64 kind, .int .i64 c, .int .i64 n, .slice A nr cr, .slice B nw cw, .int .i64 s.kind, .int .i64 s.txn, .bool s.yes, .string s.from_, .string s.to_, .int .i64 s.epoch, .int .i64 s.shard, .int .i64 s.target, .int .i64 s.root, .int .i64 G, .int .i64 D, .slice C nx cx, .int .i64 0, .int .i64 0, .slice none 0 0, .slice none 0 0]] w' (PutP w' bs .nilIface)) :
  Calls Tryz.prog 64 #[.agg #[.int .i64 kind, .int .i64 c, .int .i64 n, .slice A nr cr, .slice B nw cw, .int .i64 s.kind, .int .i64 s.txn, .bool s.yes, .string s.from_, .string s.to_, .int .i64 s.epoch, .int .i64 s.shard, .int .i64 s.target, .int .i64 s.root, .int .i64 G, .int .i64 D, .slice C nx cx, .int .i64 0, .int .i64 0, .slice none 0 0, .slice none 0 0], .slice GA gs.length cg] w (TasksP w gs bs) := by
 have HP := Lib.hid hP
 have HBL := Lib.hid hbl
 clear hP hbl
 have hB0 := Blk.new w 62 #[.int .i64 kind, .int .i64 c, .int .i64 n, .slice A nr cr, .slice B nw cw, .int .i64 s.kind, .int .i64 s.txn, .bool s.yes, .string s.from_, .string s.to_, .int .i64 s.epoch, .int .i64 s.shard, .int .i64 s.target, .int .i64 s.root, .int .i64 G, .int .i64 D, .slice C nx cx, .int .i64 0, .int .i64 0, .slice none 0 0, .slice none 0 0]
 have hf0 : Fr (fun _ => False) w (w.alloc (Obj.cells #[.int .i64 kind, .int .i64 c, .int .i64 n, .slice A nr cr, .slice B nw cw, .int .i64 s.kind, .int .i64 s.txn, .bool s.yes, .string s.from_, .string s.to_, .int .i64 s.epoch, .int .i64 s.shard, .int .i64 s.target, .int .i64 s.root, .int .i64 G, .int .i64 D, .slice C nx cx, .int .i64 0, .int .i64 0, .slice none 0 0, .slice none 0 0] 62)) := (Fr.refl _ _).alloc _
 go_enter Tryz.func64, Tryz.ntmps64
 go_upto_region 1 with fail
 generalize w.alloc (Obj.cells #[.int .i64 kind, .int .i64 c, .int .i64 n, .slice A nr cr, .slice B nw cw, .int .i64 s.kind, .int .i64 s.txn, .bool s.yes, .string s.from_, .string s.to_, .int .i64 s.epoch, .int .i64 s.shard, .int .i64 s.target, .int .i64 s.root, .int .i64 G, .int .i64 D, .slice C nx cx, .int .i64 0, .int .i64 0, .slice none 0 0, .slice none 0 0] 62) = w0 at *
 go_upto_region 5 with (first
  | (refine wpList_load_row rfl 62 _ rfl _ rfl _ _ (0, 0) _ hB0 Tryz.underlying62 rfl (by kernel_rfl) ?_)
  | (go_at_call 95; refine (HP.out _ hf0).mono ?_; rintro e w1 ⟨v1, rfl, hv1, hf01⟩; obtain ⟨A1, c1, rfl, _, hr1⟩ := hv1.u8row))
 have hgs1 : IntRow w1 bG GA gs := (hgs.fr hf0 (fun _ _ => id)).fr hf01 (fun _ _ => id)
 have hf1 := hf0.then_ hf01
 have hz1 : bG ≤ w1.heap.size := Nat.le_trans hbG hf1.size
 clear hB0 hf0 hf01 hv1 hgs HP
 have hinf := task_info
 go_upto_region 6 with fail
 go_loopw [7, 19] (fun ov i wr => ∃ (k : Nat), k ≤ gs.length ∧ i = .int .i64 k ∧ TasksAt wr w1.heap.size ov (gs.take k) bs ∧ IntRow wr bG GA gs ∧ ByteRow wr (U8 wr) A1 bs ∧ Fr (fun _ => False) w1 wr) (fun _ i _ => gs.length - (intOf i).toNat)
 case atStart => exact ⟨0, by omega, rfl, TasksAt.nil _ _ _, hgs1, hr1, Fr.refl _ _⟩
 case round =>
  clear hgs1 hr1
  obtain ⟨k, hk, rfl, ⟨vals, hown, hvs⟩, hgs1, hr1, hf2⟩ := hrel
  have HV := Lib.hid hvs
  clear hvs
  by_cases hlt : k < gs.length
  ·have hlt' : (k : Int) < (gs.length : Int) := by omega
   obtain ⟨x, hx⟩ : ∃ x, gs[k]? = some x := ⟨gs[k], List.getElem?_eq_getElem hlt⟩
   obtain ⟨b, o, rfl, hbb, hc⟩ := hgs1 k x hx
   have HX := Lib.hid hx
   have hl1 : (gs.take k).length = k := by rw [List.length_take]; omega
   rw [hl1] at hown
   clear hx
   obtain ⟨Av, cv, hev, _, _⟩ := own_form hown
   cases hev
   go_upto_region 8 with fail
   go_wp2_with (first
    | (go_at_call 96; refine (slices_Clone8 hr1 rfl (by have := HBL.out; omega)).mono ?_; rintro e w3 ⟨v3, rfl, hv3, hf3⟩; obtain ⟨A3, c3, rfl, _, hr3⟩ := hv3.u8row; have hown3 := own_fr hown hf3 (fun _ _ => id); have hz3 : w1.heap.size ≤ w3.heap.size := (hf2.then_ hf3).size)
    | (at_builtin; refine wpList_append_el _ rfl _ _ 44 rfl w1.heap.size 68 _ 2 32 Tryz.underlying44 hinf rfl (by decide) _ k vals rfl (own_fr hown3 ((Fr.refl (fun _ => False) w3).alloc _) (fun _ _ => id)) w3.heap.size [.int .i64 x, .slice A3 bs.length c3] rfl rfl (cell_two w3 _ _ _) (by simp [Value.oneCell']) (by omega) (by decide) (by simp; omega) ?_; intro g' c' w4 hown4 hf4))
   have hf34 : Fr (fun _ => False) w3 (w3.alloc (Obj.cells #[.int .i64 x, .slice A3 bs.length c3] 68)) := (Fr.refl _ _).alloc _
   have hu8 : ∀ q, U8 (w3.alloc (Obj.cells #[.int .i64 x, .slice A3 bs.length c3] 68)) q → ¬ (Value.slice Av k cv).ownBlock = some q := fun q hq => hq.ne_own (own_fr hown3 hf34 (fun _ _ => id)) (by decide)
   have hr14 := ((hr1.u8 hf3 (fun _ _ => id)).u8 hf34 (fun _ _ => id)).u8 hf4 hu8
   have hr34 := (hr3.u8 hf34 (fun _ _ => id)).u8 hf4 hu8
   have hlow : ∀ q, q < bG → ¬ (Value.slice Av k cv).ownBlock = some q := fun q hq e => by have := own_ge hown q e; omega
   have hgs4 := ((hgs1.fr hf3 (fun _ _ => id)).fr hf34 (fun _ _ => id)).fr hf4 hlow
   have hf4' : Fr (fun _ => False) w1 w4 := ((hf2.then_ hf3).then_ hf34).trans hf4 (fun q hq e => by have := own_ge hown q e; omega)
   go_roundw
   case rel =>
    refine ⟨k + 1, by omega, by go_num, ?_, hgs4, hr14, hf4'⟩
    rw [take_mem HX.out]
    refine TasksAt.snoc (vals := vals) (by rw [hl1]; exact hown4) ?_ hr34
    intro k g hg
    obtain ⟨A', cap', e1, e2, hr⟩ := HV.out k g hg
    exact ⟨A', cap', e1, e2, ((hr.u8 hf3 (fun _ _ => id)).u8 hf34 (fun _ _ => id)).u8 hf4 hu8⟩
   case measure => simp [intOf]; omega
  ·obtain rfl : k = gs.length := by omega
   rw [List.take_length] at hown
   have hT : TasksAt wr w1.heap.size u7 gs bs := ⟨vals, hown, fun k g hg => HV.out k g (by rw [List.take_length]; exact hg)⟩
   go_wp2
   go_ret
   exact ⟨_, rfl, hT.base_ hf1.size, hf1.then_ hf2⟩
theorem relay_tasks_bad {w : World} {kind c n : Int} {A B : Option Addr} {nr cr nw cw : Nat} {s : SayD} {G D : Int} {C : Option Addr} {nx cx : Nat} {V : Value}
  (hP : ∀ w', Fr (fun _ => False) w w' → Calls Tryz.prog 95 #[.agg #[.int .i64 kind, .int .i64 c, .int .i64 n, .slice A nr cr, .slice B nw cw, .int .i64 s.kind, .int .i64 s.txn, .bool s.yes, .string s.from_, .string s.to_, .int .i64 s.epoch, .int .i64 s.shard, .int .i64 s.target, .int .i64 s.root, .int .i64 G, .int .i64 D, .slice C nx cx, .int .i64 0, .int .i64 0, .slice none 0 0, .slice none 0 0]] w' (fun e w'' => ∃ t u, e = .returned (.tuple #[.slice none 0 0, .iface t u]) ∧ Fr (fun _ => False) w' w'')) :
  Calls Tryz.prog 64 #[.agg #[.int .i64 kind, .int .i64 c, .int .i64 n, .slice A nr cr, .slice B nw cw, .int .i64 s.kind, .int .i64 s.txn, .bool s.yes, .string s.from_, .string s.to_, .int .i64 s.epoch, .int .i64 s.shard, .int .i64 s.target, .int .i64 s.root, .int .i64 G, .int .i64 D, .slice C nx cx, .int .i64 0, .int .i64 0, .slice none 0 0, .slice none 0 0], V] w (TasksP w [] []) := by
 have HP := Lib.hid hP
 clear hP
 have hB0 := Blk.new w 62 #[.int .i64 kind, .int .i64 c, .int .i64 n, .slice A nr cr, .slice B nw cw, .int .i64 s.kind, .int .i64 s.txn, .bool s.yes, .string s.from_, .string s.to_, .int .i64 s.epoch, .int .i64 s.shard, .int .i64 s.target, .int .i64 s.root, .int .i64 G, .int .i64 D, .slice C nx cx, .int .i64 0, .int .i64 0, .slice none 0 0, .slice none 0 0]
 have hf0 : Fr (fun _ => False) w (w.alloc (Obj.cells #[.int .i64 kind, .int .i64 c, .int .i64 n, .slice A nr cr, .slice B nw cw, .int .i64 s.kind, .int .i64 s.txn, .bool s.yes, .string s.from_, .string s.to_, .int .i64 s.epoch, .int .i64 s.shard, .int .i64 s.target, .int .i64 s.root, .int .i64 G, .int .i64 D, .slice C nx cx, .int .i64 0, .int .i64 0, .slice none 0 0, .slice none 0 0] 62)) := (Fr.refl _ _).alloc _
 go_enter Tryz.func64, Tryz.ntmps64
 go_upto_region 1 with fail
 generalize w.alloc (Obj.cells #[.int .i64 kind, .int .i64 c, .int .i64 n, .slice A nr cr, .slice B nw cw, .int .i64 s.kind, .int .i64 s.txn, .bool s.yes, .string s.from_, .string s.to_, .int .i64 s.epoch, .int .i64 s.shard, .int .i64 s.target, .int .i64 s.root, .int .i64 G, .int .i64 D, .slice C nx cx, .int .i64 0, .int .i64 0, .slice none 0 0, .slice none 0 0] 62) = w0 at *
 go_wp2_with (first
  | (refine wpList_load_row rfl 62 _ rfl _ rfl _ _ (0, 0) _ hB0 Tryz.underlying62 rfl (by kernel_rfl) ?_)
  | (go_at_call 95; refine (HP.out _ hf0).mono ?_; rintro e w1 ⟨t, u, rfl, hf01⟩))
 go_ret
 exact ⟨_, rfl, TasksAt.nil _ _ _, hf0.then_ hf01⟩
def RGot (w : World) (g b o cap : Nat) (bs : List Int) (v : Value) (p : Nat) (e : Ending) (w' : World) : Prop :=
 e = .returned v ∧ RR w' g b o cap bs p ∧ Fr (fun k => k = g) w w'
theorem or_low16 (a c : Int) (ha : a % 65536 = 0) (h0 : 0 ≤ c) (h1 : c < 65536) : bits .or .i64 a c = wrap64 (a + c) := by
 have e : bits .or .i64 a c = IntKind.i64.wrap (((BitVec.ofInt 64 a) ||| (BitVec.ofInt 64 c)).toNat : Int) := rfl
 rw [e]
 obtain ⟨c', rfl⟩ := Int.eq_ofNat_of_zero_le h0
 have hc : c' < 65536 := by omega
 have h2 : ((BitVec.ofInt 64 a) ||| (BitVec.ofInt 64 (c' : Int))).toNat = (a % 18446744073709551616).toNat + c' := by
  rw [BitVec.toNat_or, BitVec.toNat_ofInt, BitVec.toNat_ofInt]
  have e1 : ((c' : Int) % ((2 ^ 64 : Nat) : Int)).toNat = c' := by omega
  have e2 : (a % ((2 ^ 64 : Nat) : Int)).toNat = 2 ^ 16 * ((a % 18446744073709551616).toNat / 65536) := by
   have : (a % 18446744073709551616) % 65536 = 0 := by omega
   omega
  rw [e1, e2, ← Nat.two_pow_add_eq_or_of_lt (by omega)]
  omega
 rw [h2]
 have h3 : IntKind.i64.wrap (((a % 18446744073709551616).toNat + c' : Nat) : Int) = wrap64 (((a % 18446744073709551616).toNat + c' : Nat) : Int) := by
  rw [IntKind.wrap_i64, wrap64]
 rw [h3]
 unfold wrap64
 omega
theorem or_low24 (a c : Int) (ha : a % 16777216 = 0) (h0 : 0 ≤ c) (h1 : c < 16777216) : bits .or .i64 a c = wrap64 (a + c) := by
 have e : bits .or .i64 a c = IntKind.i64.wrap (((BitVec.ofInt 64 a) ||| (BitVec.ofInt 64 c)).toNat : Int) := rfl
 rw [e]
 obtain ⟨c', rfl⟩ := Int.eq_ofNat_of_zero_le h0
 have hc : c' < 16777216 := by omega
 have h2 : ((BitVec.ofInt 64 a) ||| (BitVec.ofInt 64 (c' : Int))).toNat = (a % 18446744073709551616).toNat + c' := by
  rw [BitVec.toNat_or, BitVec.toNat_ofInt, BitVec.toNat_ofInt]
  have e1 : ((c' : Int) % ((2 ^ 64 : Nat) : Int)).toNat = c' := by omega
  have e2 : (a % ((2 ^ 64 : Nat) : Int)).toNat = 2 ^ 24 * ((a % 18446744073709551616).toNat / 16777216) := by
   have : (a % 18446744073709551616) % 16777216 = 0 := by omega
   omega
  rw [e1, e2, ← Nat.two_pow_add_eq_or_of_lt (by omega)]
  omega
 rw [h2]
 have h3 : IntKind.i64.wrap (((a % 18446744073709551616).toNat + c' : Nat) : Int) = wrap64 (((a % 18446744073709551616).toNat + c' : Nat) : Int) := by
  rw [IntKind.wrap_i64, wrap64]
 rw [h3]
 unfold wrap64
 omega
theorem refr_num {w : World} {g b o cap : Nat} {bs : List Int} {pos : Nat} (h : RR w g b o cap bs pos) (hl : bs.length ≤ 1099511627776) (h8 : pos + 8 ≤ bs.length) (s : ByteArray) (at_ : Int) :
  Calls Tryz.prog 89 #[.pointer (some ⟨g, 0, none⟩), .string s, .int .i64 at_] w (RGot w g b o cap bs (.int .i64 (numX bs pos)) (pos + 8)) := by
 have HB := Lib.hid (refr_bytes h hl 8 h8 s at_)
 have hx8 : ((bs.drop pos).take 8).length = 8 := by rw [List.length_take, List.length_drop]; omega
 have HX8 := Lib.hid hx8
 clear h hx8
 unfold numX
 go_enter Tryz.func89, Tryz.ntmps89
 go_upto_region 4 with (go_at_call 122; refine HB.out.mono ?_; rintro e w1 ⟨v1, rfl, hv1, h1, hf1⟩; obtain ⟨A1, k1, rfl, _, hr1⟩ := hv1.form)
 generalize hxs : (bs.drop pos).take 8 = xs at hr1 HX8
 have hlen := HX8.out
 go_loopw [8, 9] (fun n i wr => ∃ k : Nat, k ≤ 8 ∧ i = .int .i64 k ∧ n = .int .i64 (spell64 (xs.take k)) ∧ w1 = wr) (fun _ i _ => 8 - (intOf i).toNat)
 case atStart => exact ⟨0, by omega, rfl, rfl, rfl⟩
 case round =>
  obtain ⟨k, hk, rfl, rfl, rfl⟩ := hrel
  by_cases hlt : k < 8
  ·obtain ⟨x, hx⟩ : ∃ x, xs[k]? = some x := ⟨xs[k]'(by omega), List.getElem?_eq_getElem (by omega)⟩
   obtain ⟨b', o', rfl, _, hc⟩ := hr1 k x hx
   have HX := Lib.hid hx
   clear hr1 hx
   go_wp2_with fail
   go_roundw
   case rel => exact ⟨k + 1, by omega, by go_num, by rw [spell_take HX.out]; rfl, by trivial⟩
   case measure => simp [intOf]; omega
  ·obtain rfl : k = 8 := by omega
   rw [List.take_of_length_le (by omega)]
   go_wp2
   refine bodyPost_ret (v := .int .i64 (spell64 xs)) (by simp [results, Tryz.results89, go_sem]) rfl ?_
   exact ⟨by rw [hxs], h1, hf1⟩
theorem refr_length {w : World} {g b o cap : Nat} {bs : List Int} {pos : Nat} (h : RR w g b o cap bs pos) (hl : bs.length ≤ 1099511627776) {n : Nat} {t : List Int} (hd : bs.drop pos = count4 n ++ t) {most : Int} (hm : (n : Int) ≤ most) (hm2 : most ≤ 65536) (s : ByteArray) (at_ : Int) :
  Calls Tryz.prog 92 #[.pointer (some ⟨g, 0, none⟩), .int .i64 most, .string s, .int .i64 at_] w (RGot w g b o cap bs (.int .i64 n) (pos + 4)) := by
 have hlen := drop_len hd
 rw [count4_length] at hlen
 have hle := h.le
 have HB : Hid (Calls Tryz.prog 122 #[.pointer (some ⟨g, 0, none⟩), .int .i64 4, .string s, .int .i64 at_] w (fun e w' => ∃ v, e = .returned v ∧ Own8 w' w.heap.size v (count4 n) ∧ RR w' g b o cap bs (pos + 4) ∧ Fr (fun k => k = g) w w')) := by
  refine (refr_bytes h hl 4 (by omega) s at_).mono ?_
  rintro e w' ⟨v, h1, h2, h3, h4⟩
  rw [hd, List.take_left' (count4_length n)] at h2
  exact ⟨v, h1, h2, h3, h4⟩
 have hN : Hid (count4 (n : Int) = [(n : Int) / 16777216 % 256, (n : Int) / 65536 % 256, (n : Int) / 256 % 256, (n : Int) % 256]) := rfl
 rw [hN.out] at HB
 obtain ⟨x0, q0⟩ : ∃ x, Hid ((n : Int) / 16777216 % 256 = x) := ⟨_, rfl⟩
 obtain ⟨x1, q1⟩ : ∃ x, Hid ((n : Int) / 65536 % 256 = x) := ⟨_, rfl⟩
 obtain ⟨x2, q2⟩ : ∃ x, Hid ((n : Int) / 256 % 256 = x) := ⟨_, rfl⟩
 obtain ⟨x3, q3⟩ : ∃ x, Hid ((n : Int) % 256 = x) := ⟨_, rfl⟩
 rw [q0.out, q1.out, q2.out, q3.out] at HB
 have hb0 : 0 ≤ x0 ∧ x0 < 256 := by have := q0.out; omega
 have hb1 : 0 ≤ x1 ∧ x1 < 256 := by have := q1.out; omega
 have hb2 : 0 ≤ x2 ∧ x2 < 256 := by have := q2.out; omega
 have hb3 : 0 ≤ x3 ∧ x3 < 256 := by have := q3.out; omega
 have hsum : Hid (x0 * 16777216 + x1 * 65536 + x2 * 256 + x3 = (n : Int)) := by show _ = _; have := q0.out; have := q1.out; have := q2.out; have := q3.out; omega
 obtain ⟨b0l, b0h⟩ := hb0
 obtain ⟨b1l, b1h⟩ := hb1
 obtain ⟨b2l, b2h⟩ := hb2
 obtain ⟨b3l, b3h⟩ := hb3
 clear h hd hN hlen
 go_enter Tryz.func92, Tryz.ntmps92
 go_upto_region 2 with (go_at_call 122; refine HB.out.mono ?_; rintro e w1 ⟨v1, rfl, hv1, h1, hf1⟩; obtain ⟨A1, k1, rfl, _, hr1⟩ := hv1.form)
 obtain ⟨bb, oo, rfl, _, e0⟩ := hr1 0 x0 rfl
 obtain ⟨_, _, hq, _, e1⟩ := hr1 1 x1 rfl
 cases hq
 obtain ⟨_, _, hq, _, e2⟩ := hr1 2 x2 rfl
 cases hq
 obtain ⟨_, _, hq, _, e3⟩ := hr1 3 x3 rfl
 cases hq
 rw [Nat.add_zero] at e0
 have d2 := h1.blk.cell 2
 clear hr1
 go_wp2_with fail
 go_quiet (fail)
 have hor : bits BinOp.or IntKind.i64 (bits BinOp.or IntKind.i64 (bits BinOp.or IntKind.i64 (x0 * 16777216) (x1 * 65536)) (x2 * 256)) x3 = (n : Int) := by
  have a1 : bits .or .i64 (x0 * 16777216) (x1 * 65536) = x0 * 16777216 + x1 * 65536 := by rw [or_low24 _ _ (by omega) (by omega) (by omega)]; unfold wrap64; omega
  have a2 : bits .or .i64 (x0 * 16777216 + x1 * 65536) (x2 * 256) = x0 * 16777216 + x1 * 65536 + x2 * 256 := by rw [or_low16 _ _ (by omega) (by omega) (by omega)]; unfold wrap64; omega
  have a3 : bits .or .i64 (x0 * 16777216 + x1 * 65536 + x2 * 256) x3 = x0 * 16777216 + x1 * 65536 + x2 * 256 + x3 := by rw [or_low _ _ (by omega) (by omega) (by omega)]; unfold wrap64; omega
  rw [a1, a2, a3]
  exact hsum.out
 rw [hor]
 have hf2 : Fr (fun _ => False) w1 (w1.drewN nq) := (Fr.refl _ _).drewN nq
 have hR := h1.keep hf2
 have hfT := hf1.then_ hf2
 have hm' : ¬ most < (n : Int) := by omega
 generalize w1.drewN nq = w2 at *
 go_wp2
 go_ret
 exact ⟨rfl, hR, hfT⟩
theorem refr_Num {w : World} {g b o cap : Nat} {bs : List Int} {pos : Nat} (h : RR w g b o cap bs pos) (hl : bs.length ≤ 1099511627776) (h8 : pos + 8 ≤ bs.length) :
  Calls Tryz.prog 54 #[.pointer (some ⟨g, 0, none⟩)] w (RGot w g b o cap bs (.int .i64 (numX bs pos)) (pos + 8)) := by
 have c1 := h.blk.cell 1
 have HN := Lib.hid (fun s a => refr_num h hl h8 s a)
 clear h
 go_enter Tryz.func54, Tryz.ntmps54
 go_wp2_with (go_at_call 89; refine (HN.out _ _).mono ?_; rintro e w1 ⟨rfl, h1, hf1⟩)
 go_ret
 exact ⟨rfl, h1, hf1⟩
theorem refr_Int {w : World} {g b o cap : Nat} {bs : List Int} {pos : Nat} (h : RR w g b o cap bs pos) (hl : bs.length ≤ 1099511627776) (h8 : pos + 8 ≤ bs.length) {n most : Int} (hn : numX bs pos = n) (h0 : 0 ≤ n) (hm : n ≤ most) :
  Calls Tryz.prog 56 #[.pointer (some ⟨g, 0, none⟩), .int .i64 most] w (RGot w g b o cap bs (.int .i64 n) (pos + 8)) := by
 have c1 := h.blk.cell 1
 have HN := fun s a => refr_num h hl h8 s a
 rw [hn] at HN
 have HN := Lib.hid HN
 have h0' : ¬ n < 0 := by omega
 have hm' : ¬ most < n := by omega
 clear h
 go_enter Tryz.func56, Tryz.ntmps56
 go_wp2_with (go_at_call 89; refine (HN.out _ _).mono ?_; rintro e w1 ⟨rfl, h1, hf1⟩; have d2 := h1.blk.cell 2)
 go_ret
 exact ⟨rfl, h1, hf1⟩
def RText (w : World) (g b o cap : Nat) (bs s : List Int) (p : Nat) (e : Ending) (w' : World) : Prop :=
 ∃ v, e = .returned v ∧ Own8 w' w.heap.size v s ∧ RR w' g b o cap bs p ∧ Fr (fun k => k = g) w w'
theorem refr_text {w : World} {g b o cap : Nat} {bs : List Int} {pos : Nat} (h : RR w g b o cap bs pos) (hl : bs.length ≤ 1099511627776) {xs t : List Int} (hd : bs.drop pos = textB xs ++ t) (hx : xs.length ≤ 65536) (s : ByteArray) (at_ : Int) :
  Calls Tryz.prog 90 #[.pointer (some ⟨g, 0, none⟩), .string s, .int .i64 at_] w (RText w g b o cap bs xs (pos + 4 + xs.length)) := by
 rw [textB, List.append_assoc] at hd
 have hd2 : bs.drop (pos + 4) = xs ++ t := by have := drop_add hd; rw [count4_length] at this; exact this
 have hlen := drop_len hd2
 have hlen1 := drop_len hd
 rw [count4_length] at hlen1
 have hle := h.le
 have HL := Lib.hid (refr_length h hl hd (most := 65536) (by omega) (by omega) s at_)
 have htk : ((bs.drop (pos + 4)).take xs.length) = xs := by rw [hd2, List.take_left' rfl]
 have HK := Lib.hid htk
 have hle2 : pos + 4 + xs.length ≤ bs.length := by omega
 clear h hd hd2 htk
 go_enter Tryz.func90, Tryz.ntmps90
 go_upto_region 2 with (go_at_call 92; refine HL.out.mono ?_; rintro e w1 ⟨rfl, h1, hf1⟩)
 have HB := Lib.hid (refr_bytes h1 hl xs.length hle2 s at_)
 go_wp2_with (go_at_call 122; refine HB.out.mono ?_; rintro e w2 ⟨v2, rfl, hv2, h2, hf2⟩)
 go_ret
 rw [HK.out] at hv2
 exact ⟨v2, rfl, hv2.base_ hf1.size, h2, hf1.trans hf2 (fun _ _ h => h)⟩
theorem refr_Text {w : World} {g b o cap : Nat} {bs : List Int} {pos : Nat} (h : RR w g b o cap bs pos) (hl : bs.length ≤ 1099511627776) {xs t : List Int} (hd : bs.drop pos = textB xs ++ t) (hx : xs.length ≤ 65536) :
  Calls Tryz.prog 55 #[.pointer (some ⟨g, 0, none⟩)] w (RText w g b o cap bs xs (pos + 4 + xs.length)) := by
 have c1 := h.blk.cell 1
 have HT := Lib.hid (fun s a => refr_text h hl hd hx s a)
 clear h hd
 go_enter Tryz.func55, Tryz.ntmps55
 go_wp2_with (go_at_call 90; refine (HT.out _ _).mono ?_; rintro e w1 ⟨v1, rfl, hv1, h1, hf1⟩)
 go_ret
 exact ⟨v1, rfl, hv1, h1, hf1⟩
theorem refr_End {w : World} {g b o cap : Nat} {bs : List Int} (h : RR w g b o cap bs bs.length) :
  Calls Tryz.prog 58 #[.pointer (some ⟨g, 0, none⟩)] w (fun e w' => e = .returned (.tuple #[.int .i64 0, .agg #[.string ⟨#[]⟩, .int .i64 0]]) ∧ Fr (fun _ => False) w w') := by
 have hf0 : Fr (fun _ => False) w (w.alloc (Obj.cells #[.string ⟨#[]⟩, .int .i64 0] 70)) := (Fr.refl _ _).alloc _
 have h1 := h.keep hf0
 have c0 := h1.blk.cell 0
 have c1 := h1.blk.cell 1
 have c2 := h1.blk.cell 2
 have hS0 := Blk.new w 70 #[.string ⟨#[]⟩, .int .i64 0]
 go_enter Tryz.func58, Tryz.ntmps58
 go_wp2_with fail
 go_quiet (fail)
 have hS1 : Blk ((w.alloc (Obj.cells #[.string ⟨#[]⟩, .int .i64 0] 70)).drewN nq) w.heap.size 70 #[.string ⟨#[]⟩, .int .i64 0] := hS0.drewN nq
 have hf1 : Fr (fun _ => False) w ((w.alloc (Obj.cells #[.string ⟨#[]⟩, .int .i64 0] 70)).drewN nq) := hf0.drewN nq
 generalize (w.alloc (Obj.cells #[.string ⟨#[]⟩, .int .i64 0] 70)).drewN nq = w1 at *
 have y0 := hS1.cell 0
 have y1 := hS1.cell 1
 have z0 := hS1.frozen 0
 have z1 := hS1.frozen 1
 go_wp2
 have hS2 := (hS1.set_ 0 (.string ⟨#[]⟩)).set_ 1 (.int .i64 0)
 have d0 := hS2.cell 0
 have d1 := hS2.cell 1
 refine bodyPost_ret (v := .tuple #[.int .i64 0, .agg #[.string ⟨#[]⟩, .int .i64 0]]) (by simp [results, Tryz.results58, go_sem, d0, d1]) rfl ?_
 exact ⟨rfl, Fr.setCell (p := ⟨w.heap.size, 1, none⟩) (Fr.setCell (p := ⟨w.heap.size, 0, none⟩) hf1 (fun h => absurd h (Nat.lt_irrefl _)) _) (fun h => absurd h (Nat.lt_irrefl _)) _⟩
theorem drop_flat {bs t : List Int} {l : List Int} : ∀ {p k : Nat}, bs.drop p = l.flatMap num8 ++ t → k ≤ l.length → bs.drop (p + 8 * k) = (l.drop k).flatMap num8 ++ t := by
 intro p k h hk
 have e : l.flatMap num8 = (l.take k).flatMap num8 ++ (l.drop k).flatMap num8 := by rw [← List.flatMap_append, List.take_append_drop]
 rw [e, List.append_assoc] at h
 have := drop_add h
 rw [flat_num8, List.length_take, Nat.min_eq_left hk] at this
 exact this
def RNums (w : World) (g b o cap : Nat) (bs l : List Int) (p : Nat) (e : Ending) (w' : World) : Prop :=
 ∃ v, e = .returned v ∧ w'.ownsRow w.heap.size 2 1 v l.length (num64V l) ∧ RR w' g b o cap bs p ∧ Fr (fun k => k = g) w w'
theorem refr_Nums {w : World} {g b o cap : Nat} {bs : List Int} {pos : Nat} (h : RR w g b o cap bs pos) (hl : bs.length ≤ 1099511627776) {l t : List Int} (hd : bs.drop pos = numsB l ++ t) (hx : l.length ≤ 1024) (hw : ∀ y ∈ l, -9223372036854775808 ≤ y ∧ y ≤ 9223372036854775807) :
  Calls Tryz.prog 57 #[.pointer (some ⟨g, 0, none⟩)] w (RNums w g b o cap bs l (pos + 4 + 8 * l.length)) := by
 have c1 := h.blk.cell 1
 rw [numsB, List.append_assoc] at hd
 have hd2 : bs.drop (pos + 4) = l.flatMap num8 ++ t := by have := drop_add hd; rw [count4_length] at this; exact this
 have hlen := drop_len hd2
 rw [flat_num8] at hlen
 have hlen1 := drop_len hd
 rw [count4_length, List.length_append, flat_num8] at hlen1
 have hle := h.le
 have HL := Lib.hid (fun s a => refr_length h hl hd (most := 1024) (by omega) (by omega) s a)
 have HD := Lib.hid hd2
 have HW := Lib.hid hw
 have hle2 : pos + 4 + 8 * l.length ≤ bs.length := by omega
 have HLE := Lib.hid hle2
 have hgs : g < w.heap.size := h.blk.lt
 clear h hd hd2 hw hlen hlen1 hle hle2
 go_enter Tryz.func57, Tryz.ntmps57
 go_upto_region 5 with (go_at_call 92; refine (HL.out _ _).mono ?_; rintro e w1 ⟨rfl, h1, hf1⟩)
 go_loopw [5, 6] (fun lv i wr => ∃ k : Nat, k ≤ l.length ∧ i = .int .i64 k ∧ wr.ownsRow w1.heap.size 2 1 lv k (num64V (l.take k)) ∧ RR wr g b o cap bs (pos + 4 + 8 * k) ∧ Fr (fun k => k = g) w1 wr) (fun _ i _ => l.length - (intOf i).toNat)
 case atStart => exact ⟨0, by omega, rfl, World.ownsRow_nil _ _ _ _, h1, Fr.refl _ _⟩
 case round =>
  obtain ⟨k, hk, rfl, hown, hR, hf⟩ := hrel
  have d2 := hR.blk.cell 2
  by_cases hlt : k < l.length
  ·obtain ⟨x, hxx⟩ : ∃ x, l[k]? = some x := ⟨l[k], List.getElem?_eq_getElem hlt⟩
   have hdk := drop_flat HD.out hk
   have hlk : l.drop k = x :: l.drop (k + 1) := by
    obtain ⟨h1, h2⟩ := List.getElem?_eq_some_iff.1 hxx
    rw [List.drop_eq_getElem_cons h1, h2]
   rw [hlk, List.flatMap_cons, List.append_assoc] at hdk
   have hwx := HW.out x (List.mem_of_getElem? hxx)
   obtain ⟨_, hnx, _⟩ := num_read hdk hwx.1 hwx.2
   have HN := fun s a => refr_num hR hl (by have := HLE.out; omega) s a
   rw [hnx] at HN
   have HN := Lib.hid HN
   have HX := Lib.hid hxx
   have hgb := own_ge hown
   clear hdk hlk hxx hnx hwx
   go_wp2_with (first
    | (go_at_call 89; refine (HN.out _ _).mono ?_; rintro e w2 ⟨rfl, h2, hf2⟩; have hown2 := own_fr hown hf2 (fun q hq e => own_ne_blk hown hR.blk (by decide) (e ▸ hq)); have hz2 : w1.heap.size ≤ w2.heap.size := (hf.trans hf2 (fun _ _ h => h)).size)
    | (at_builtin; refine wpList_append1 _ rfl _ _ _ rfl w1.heap.size 2 (.int .i64 0) 8 Tryz.underlying132 int64_info rfl u5 k (num64V (l.take k)) rfl (own_fr hown2 ((Fr.refl (fun _ => False) w2).alloc _) (fun _ _ => id)) w2.heap.size (.int .i64 x) rfl ?_ rfl (by omega) (by omega) ?_ ?_; (· simp); (· simp; omega); intro g3 c3 w3 hown3 hf3))
   have hfa : Fr (fun _ => False) w2 (w2.alloc (Obj.cells #[.int .i64 x] 2)) := (Fr.refl _ _).alloc _
   have hown2a := own_fr hown2 hfa (fun _ _ => id)
   have h3 := (h2.keep hfa).fr hf3 (own_ne_blk hown2a (h2.keep hfa).blk (by decide)) (fun q hq e => hq.ne_own hown2a (by decide) e)
   have hf13 : Fr (fun k => k = g) w1 w3 := ((hf.trans hf2 (fun _ _ h => h)).then_ hfa).trans hf3 (fun q hq e => by have := hgb q e; omega)
   go_roundw
   case rel =>
    have e1 : num64V (l.take (k + 1)) = num64V (l.take k) ++ [.int .i64 x] := by
     obtain ⟨h1, h2⟩ := List.getElem?_eq_some_iff.1 HX.out
     rw [List.take_succ_eq_append_getElem h1, h2, num64V, num64V, List.map_append]
     rfl
    exact ⟨k + 1, by omega, by go_num, by rw [e1]; exact hown3, by rw [show pos + 4 + 8 * (k + 1) = pos + 4 + 8 * k + 8 by omega]; exact h3, hf13⟩
   case measure => simp [intOf]; omega
  ·obtain rfl : k = l.length := by omega
   rw [List.take_length] at hown
   go_wp2
   go_ret
   exact ⟨_, rfl, own_base hown hf1.size, hR, hf1.trans hf (fun _ _ h => h)⟩
theorem refr_New {w : World} {F : Nat → Prop} {A : Option Addr} {cap : Nat} {bs : List Int} (hr : ByteRow w F A bs) (h0 : 0 < bs.length) (hl : bs.length ≤ 1099511627776) :
  Calls Tryz.prog 53 #[.slice A bs.length cap] w (fun e w' => ∃ g b o c, e = .returned (.pointer (some ⟨g, 0, none⟩)) ∧ w.heap.size ≤ g ∧ RR w' g b o c bs 0 ∧ Fr (fun _ => False) w w') := by
 have hf1 : Fr (fun _ => False) w (w.alloc (Obj.cells #[] 5)) := (Fr.refl _ _).alloc _
 have ho : Own8 (w.alloc (Obj.cells #[] 5)) w.heap.size (.slice (some ⟨w.heap.size, 0, none⟩) 0 0) [] := Own8.built w (Nat.le_refl _) [] (by simp) 0 rfl
 have hr1 := hr.fr hf1 (fun _ _ => id)
 go_enter Tryz.func53, Tryz.ntmps53
 go_wp2_with (at_builtin; refine wpList_append_text rfl (.tmp 3) (.tmp 4) rfl w.heap.size _ [] rfl ho F A bs.length cap bs rfl rfl hr1 (by simp; omega) (by simp) ?_; intro v2 w2 h2 hf2 hk2; obtain ⟨A2, c2, rfl, hc2, hr2⟩ := Own8.u8row h2)
 have hgR := fun (o : Obj) => (Fr.refl (fun _ => False) w2).alloc o
 have hf12 : Fr (fun _ => False) w w2 := hf1.trans hf2 (fun q hq e => by have := own_ge ho q e; omega)
 go_ret
 obtain ⟨b2, o2, rfl, _, _⟩ := hr2 0 bs[0] (List.getElem?_eq_getElem h0)
 exact ⟨w2.heap.size, b2, o2, c2, rfl, hf12.size, ⟨Blk.new _ _ _, hr2.u8 (hgR _) (fun _ _ => id), hc2, Nat.zero_le _⟩, hf12.then_ (hgR _)⟩
def RS (w : World) (g : Nat) (s : List Int) : Prop := ∃ b o cap bs pos, RR w g b o cap bs pos ∧ bs.drop pos = s ∧ bs.length ≤ 1099511627776
theorem RS.fr {S : Nat → Prop} {w w' : World} {g : Nat} {s : List Int} (h : RS w g s) (hf : Fr S w w') (hg : ¬ S g) (h8 : ∀ k, U8 w k → ¬ S k) : RS w' g s := by
 obtain ⟨b, o, cap, bs, pos, h1, h2, h3⟩ := h
 exact ⟨b, o, cap, bs, pos, h1.fr hf hg h8, h2, h3⟩
theorem RS.keep {w w' : World} {g : Nat} {s : List Int} (h : RS w g s) (hf : Fr (fun _ => False) w w') : RS w' g s := h.fr hf id (fun _ _ => id)
theorem RS.blk {w : World} {g : Nat} {s : List Int} (h : RS w g s) : ∃ cs, Blk w g 131 cs := by
 obtain ⟨b, o, cap, bs, pos, h1, h2, h3⟩ := h
 exact ⟨_, h1.blk⟩
theorem RS.ne {w : World} {g x : Nat} {s : List Int} {t : TypeId} {cs : Array Value} (h : RS w g s) (hB : Blk w x t cs) (ht : 131 ≠ t) : ¬ x = g := by
 obtain ⟨ds, hD⟩ := h.blk
 exact fun e => hD.ne_ hB ht e.symm
theorem RS.far {w : World} {g : Nat} {s : List Int} (h : RS w g s) {x : Nat} {t : TypeId} {cs : Array Value} (hB : Blk w x t cs) (ht : 5 ≠ t) (hr : 131 ≠ t) (i : Nat) (u : Value) : RS (w.setCell ⟨x, i, none⟩ u) g s :=
 h.fr ((Fr.refl (fun k => k = x) w).setCell (p := ⟨x, i, none⟩) (fun _ => rfl) u) (fun e => h.ne hB hr e.symm) (fun k hk e => hk.ne_blk hB ht e)
theorem RS.own {w w' : World} {g base n size : Nat} {s : List Int} {e : TypeId} {v : Value} {xs : List Value} (h : RS w g s) (ho : w.ownsRow base e size v n xs) (h8 : e ≠ 5) (hr : e ≠ 131) (hf : Fr (fun k => v.ownBlock = some k) w w') : RS w' g s := by
 obtain ⟨ds, hD⟩ := h.blk
 exact h.fr hf (own_ne_blk ho hD hr) (fun k hk => hk.ne_own ho h8)
def RSNum (w : World) (g : Nat) (x : Int) (s : List Int) (e : Ending) (w' : World) : Prop := e = .returned (.int .i64 x) ∧ RS w' g s ∧ Fr (fun k => k = g) w w'
def RSText (w : World) (g : Nat) (xs s : List Int) (e : Ending) (w' : World) : Prop := ∃ v, e = .returned v ∧ Own8 w' w.heap.size v xs ∧ RS w' g s ∧ Fr (fun k => k = g) w w'
def RSNums (w : World) (g : Nat) (l s : List Int) (e : Ending) (w' : World) : Prop := ∃ v, e = .returned v ∧ w'.ownsRow w.heap.size 2 1 v l.length (num64V l) ∧ RS w' g s ∧ Fr (fun k => k = g) w w'
theorem rs_New {w : World} {F : Nat → Prop} {A : Option Addr} {cap : Nat} {bs : List Int} (hr : ByteRow w F A bs) (h0 : 0 < bs.length) (hl : bs.length ≤ 1099511627776) :
  Calls Tryz.prog 53 #[.slice A bs.length cap] w (fun e w' => ∃ g, e = .returned (.pointer (some ⟨g, 0, none⟩)) ∧ w.heap.size ≤ g ∧ RS w' g bs ∧ Fr (fun _ => False) w w') := by
 refine (refr_New hr h0 hl).mono ?_
 rintro e w' ⟨g, b, o, c, he, hg, hR, hf⟩
 exact ⟨g, he, hg, ⟨b, o, c, bs, 0, hR, rfl, hl⟩, hf⟩
theorem rs_Num {w : World} {g : Nat} {x : Int} {s : List Int} (h : RS w g (num8 x ++ s)) (h0 : -9223372036854775808 ≤ x) (h1 : x ≤ 9223372036854775807) :
  Calls Tryz.prog 54 #[.pointer (some ⟨g, 0, none⟩)] w (RSNum w g x s) := by
 obtain ⟨b, o, cap, bs, pos, hR, hd, hl⟩ := h
 obtain ⟨_, hn, ht⟩ := num_read hd h0 h1
 have hlen := drop_len hd
 have hle := hR.le
 rw [num8_length] at hlen
 refine (refr_Num hR hl (by omega)).mono ?_
 rintro e w' ⟨he, h2, hf⟩
 exact ⟨by rw [he, hn], ⟨b, o, cap, bs, pos + 8, h2, ht, hl⟩, hf⟩
theorem rs_Int {w : World} {g : Nat} {x most : Int} {s : List Int} (h : RS w g (num8 x ++ s)) (h0 : 0 ≤ x) (hm : x ≤ most) (h1 : x ≤ 9223372036854775807) :
  Calls Tryz.prog 56 #[.pointer (some ⟨g, 0, none⟩), .int .i64 most] w (RSNum w g x s) := by
 obtain ⟨b, o, cap, bs, pos, hR, hd, hl⟩ := h
 obtain ⟨_, hn, ht⟩ := num_read hd (by omega) h1
 have hlen := drop_len hd
 have hle := hR.le
 rw [num8_length] at hlen
 refine (refr_Int hR hl (by omega) hn h0 hm).mono ?_
 rintro e w' ⟨he, h2, hf⟩
 exact ⟨he, ⟨b, o, cap, bs, pos + 8, h2, ht, hl⟩, hf⟩
theorem rs_Text {w : World} {g : Nat} {xs s : List Int} (h : RS w g (textB xs ++ s)) (hx : xs.length ≤ 65536) :
  Calls Tryz.prog 55 #[.pointer (some ⟨g, 0, none⟩)] w (RSText w g xs s) := by
 obtain ⟨b, o, cap, bs, pos, hR, hd, hl⟩ := h
 obtain ⟨_, _, hn, ht⟩ := text_read hd hx
 rw [hn] at ht
 refine (refr_Text hR hl hd hx).mono ?_
 rintro e w' ⟨v, he, hv, h2, hf⟩
 exact ⟨v, he, hv, ⟨b, o, cap, bs, _, h2, ht, hl⟩, hf⟩
theorem rs_Nums {w : World} {g : Nat} {l s : List Int} (h : RS w g (numsB l ++ s)) (hx : l.length ≤ 1024) (hw : ∀ y ∈ l, -9223372036854775808 ≤ y ∧ y ≤ 9223372036854775807) :
  Calls Tryz.prog 57 #[.pointer (some ⟨g, 0, none⟩)] w (RSNums w g l s) := by
 obtain ⟨b, o, cap, bs, pos, hR, hd, hl⟩ := h
 have ht : bs.drop (pos + 4 + 8 * l.length) = s := by
  rw [numsB, List.append_assoc] at hd
  have h1 := drop_add hd
  rw [count4_length] at h1
  have h2 := drop_add h1
  rw [flat_num8] at h2
  exact h2
 refine (refr_Nums hR hl hd hx hw).mono ?_
 rintro e w' ⟨v, he, hv, h2, hf⟩
 exact ⟨v, he, hv, ⟨b, o, cap, bs, _, h2, ht, hl⟩, hf⟩
theorem rs_End {w : World} {g : Nat} (h : RS w g []) :
  Calls Tryz.prog 58 #[.pointer (some ⟨g, 0, none⟩)] w (fun e w' => e = .returned (.tuple #[.int .i64 0, .agg #[.string ⟨#[]⟩, .int .i64 0]]) ∧ Fr (fun _ => False) w w') := by
 obtain ⟨b, o, cap, bs, pos, hR, hd, hl⟩ := h
 have hp : pos = bs.length := by
  have h1 : bs.length - pos = 0 := by have := congrArg List.length hd; simpa using this
  have h2 := hR.le
  omega
 subst hp
 exact refr_End hR
theorem ref10_Right {w : World} {F : Nat → Prop} {A B : Option Addr} {cr cw : Nat} {c n : Int} {R : List (ByteArray × Int)} {W : List (ByteArray × ByteArray)} (hr : ReadRow w F A R) (hw : WriteRow w F B W) :
  Calls Tryz.prog 30 #[.agg #[.int .i64 c, .int .i64 n, .slice A R.length cr, .slice B W.length cw]] w (OkB w (decide (TOk c n R W))) := by
 by_cases t0 : c < 0
 ·rw [decide_eq_false (p := TOk c n R W) (fun h => by have := h.1; omega)]
  clear hr hw
  go_enter Tryz.func30, Tryz.ntmps30
  go_wp2_with fail
  go_ret
  exact ⟨rfl, (Fr.refl _ _).alloc _⟩
 by_cases t1 : 16 ≤ c
 ·rw [decide_eq_false (p := TOk c n R W) (fun h => by have := h.2.1; omega)]
  clear hr hw
  go_enter Tryz.func30, Tryz.ntmps30
  go_wp2_with fail
  go_ret
  exact ⟨rfl, (Fr.refl _ _).alloc _⟩
 by_cases t2 : n < 1
 ·rw [decide_eq_false (p := TOk c n R W) (fun h => by have := h.2.2.1; omega)]
  clear hr hw
  go_enter Tryz.func30, Tryz.ntmps30
  go_wp2_with fail
  go_ret
  exact ⟨rfl, (Fr.refl _ _).alloc _⟩
 by_cases t3 : 1099511627776 < n
 ·rw [decide_eq_false (p := TOk c n R W) (fun h => by have := h.2.2.2.1; omega)]
  clear hr hw
  go_enter Tryz.func30, Tryz.ntmps30
  go_wp2_with fail
  go_ret
  exact ⟨rfl, (Fr.refl _ _).alloc _⟩
 by_cases t4 : (8 : Int) < (R.length : Int)
 ·rw [decide_eq_false (p := TOk c n R W) (fun h => by have := rises_len h.2.2.2.2.2.1; omega)]
  clear hr hw
  go_enter Tryz.func30, Tryz.ntmps30
  go_wp2_with fail
  go_ret
  exact ⟨rfl, (Fr.refl _ _).alloc _⟩
 by_cases t5 : (8 : Int) < (W.length : Int)
 ·rw [decide_eq_false (p := TOk c n R W) (fun h => by have := rises_len h.2.2.2.2.2.2; omega)]
  clear hr hw
  go_enter Tryz.func30, Tryz.ntmps30
  go_wp2_with fail
  go_ret
  exact ⟨rfl, (Fr.refl _ _).alloc _⟩
 by_cases t6 : R.length = 0 ∧ W.length = 0
 ·rw [decide_eq_false (p := TOk c n R W) (fun h => by have := h.2.2.2.2.1; omega)]
  have q1 : ((R.length : Int) == 0) = true := by simpa using List.length_eq_zero_iff.1 t6.1
  have q2 : ((W.length : Int) == 0) = true := by simpa using List.length_eq_zero_iff.1 t6.2
  clear hr hw t6
  go_enter Tryz.func30, Tryz.ntmps30
  go_wp2_with fail
  go_ret
  exact ⟨rfl, (Fr.refl _ _).alloc _⟩
 have T6 := Lib.hid t6
 have hq : (((R.length : Int) == 0) = false) ∨ (((R.length : Int) == 0) = true ∧ ((W.length : Int) == 0) = false) := by
  by_cases hr0 : R.length = 0
  ·exact .inr ⟨by simpa using List.length_eq_zero_iff.1 hr0, beq_eq_false_iff_ne.2 (fun e => t6 ⟨hr0, by omega⟩)⟩
  ·exact .inl (beq_eq_false_iff_ne.2 (fun e => hr0 (by omega)))
 clear t6
 have hB0 := Blk.new w 29 #[.int .i64 c, .int .i64 n, .slice A R.length cr, .slice B W.length cw]
 have hf0 : Fr (fun _ => False) w (w.alloc (Obj.cells #[.int .i64 c, .int .i64 n, .slice A R.length cr, .slice B W.length cw] 29)) := (Fr.refl _ _).alloc _
 obtain ⟨gB, hgB⟩ : ∃ g, Hid (w.heap.size = g) := ⟨_, rfl⟩
 have HRr := Lib.hid hr
 have HWr := Lib.hid hw
 clear hr hw
 rcases hq with hq | ⟨hq, hq2⟩
 ·go_enter Tryz.func30, Tryz.ntmps30
  go_wp2_with fail
  rw [hgB.out] at hB0 ⊢
  generalize w.alloc (Obj.cells #[.int .i64 c, .int .i64 n, .slice A R.length cr, .slice B W.length cw] 29) = w0 at *
  go_loopw [3] (fun ix wr => ∃ k : Nat, k ≤ R.length ∧ ix = .int .i64 k ∧ Hid (okTo readOk R k = true) ∧ Blk wr gB 29 #[.int .i64 c, .int .i64 n, .slice A R.length cr, .slice B W.length cw] ∧ Fr (fun _ => False) w wr) (fun ix _ => R.length - (intOf ix).toNat)
  case atStart => exact ⟨0, by omega, rfl, rfl, hB0, hf0⟩
  case round =>
   clear hB0 hf0
   obtain ⟨k, hk, rfl, hok, hB0, hf0⟩ := hrel
   have hcl := hB0.cell 2
   by_cases hlt : k < R.length
   ·obtain ⟨x, hx⟩ : ∃ x, R[k]? = some x := ⟨R[k], List.getElem?_eq_getElem hlt⟩
    obtain ⟨b, o, rfl, hFb, e0, e1⟩ := HRr.out k x hx
    have d0 := hf0.cell_some e0 id
    have d1 := hf0.cell_some e1 id
    have HX := Lib.hid hx
    have hBn := hB0.alloc (Obj.cells #[.string x.1, .int .i64 x.2] 143)
    have hfn := hf0.alloc (Obj.cells #[.string x.1, .int .i64 x.2] 143)
    have hcn := hBn.cell 2
    have x0 := (Blk.new wr 143 #[.string x.1, .int .i64 x.2]).cell 0
    have x1 := (Blk.new wr 143 #[.string x.1, .int .i64 x.2]).cell 1
    clear hx e0 e1
    by_cases c16 : (16 : Int) < x.1.size
    ·have c16' : decide ((16 : Int) < x.1.size) = true := decide_eq_true c16
     have eo : okAt readOk R k = false := by unfold okAt; rw [HX.out]; simp [c16]
     have hno := rises_no _ hlt eo
     have HNO := Lib.hid (show decide (TOk c n R W) = false from decide_eq_false (fun h => by rw [h.2.2.2.2.2.1] at hno; cases hno))
     clear eo hno
     clear c16
     go_wp2_with fail
     go_big_quiet (fail)
     go_wp2_with fail
     go_ret
     exact ⟨by rw [HNO.out]; rfl, hfn.drewN _⟩
    ·have c16' : decide ((16 : Int) < x.1.size) = false := decide_eq_false c16
     by_cases v0 : x.2 < 0
     ·have v0' : decide (x.2 < 0) = true := decide_eq_true v0
      have hrf : readOk x = false := by unfold readOk; rw [decide_eq_false (p := 0 ≤ x.2) (by omega)]; rfl
      have eo : okAt readOk R k = false := by unfold okAt; rw [HX.out]; simp [hrf]
      have hno := rises_no _ hlt eo
      have HNO := Lib.hid (show decide (TOk c n R W) = false from decide_eq_false (fun h => by rw [h.2.2.2.2.2.1] at hno; cases hno))
      clear eo hno
      clear c16 v0 hrf
      go_wp2_with fail
      go_big_quiet (fail)
      go_wp2_with fail
      go_ret
      exact ⟨by rw [HNO.out]; rfl, hfn.drewN _⟩
     ·have v0' : decide (x.2 < 0) = false := decide_eq_false v0
      by_cases v1 : 1099511627776 < x.2
      ·have v1' : decide (1099511627776 < x.2) = true := decide_eq_true v1
       have hrf : readOk x = false := by unfold readOk; rw [decide_eq_false (p := x.2 ≤ 1099511627776) (by omega), Bool.and_false]
       have eo : okAt readOk R k = false := by unfold okAt; rw [HX.out]; simp [hrf]
       have hno := rises_no _ hlt eo
       have HNO := Lib.hid (show decide (TOk c n R W) = false from decide_eq_false (fun h => by rw [h.2.2.2.2.2.1] at hno; cases hno))
       clear eo hno
       clear c16 v0 v1 hrf
       go_wp2_with fail
       go_big_quiet (fail)
       go_wp2_with fail
       go_ret
       exact ⟨by rw [HNO.out]; rfl, hfn.drewN _⟩
      ·have v1' : decide (1099511627776 < x.2) = false := decide_eq_false v1
       have hro : readOk x = true := by unfold readOk; rw [decide_eq_true (p := 0 ≤ x.2) (by omega), decide_eq_true (p := x.2 ≤ 1099511627776) (by omega)]; rfl
       rcases k with _ | j
       ·have HEO := Lib.hid (show okAt readOk R 0 = true by unfold okAt; rw [HX.out]; simp [hro, c16])
        clear hro c16 v0 v1
        simp only [Nat.zero_mul, Nat.add_zero] at d0 d1
        go_wp2_with fail
        go_big_quiet (fail)
        go_wp2_with fail
        go_roundw
        case rel => exact ⟨1, by omega, by go_num, okTo_succ _ hok.out HEO.out, hBn.drewN _, hfn.drewN _⟩
        case measure => simp [intOf]; omega
       ·obtain ⟨y, hy⟩ : ∃ y, R[j]? = some y := ⟨R[j]'(by omega), List.getElem?_eq_getElem (by omega)⟩
        obtain ⟨b', o', e1, _, g0, _⟩ := HRr.out j y hy
        cases e1
        have y0 := hfn.cell_some g0 id
        have hroS : okAt readOk R (j + 1) = strLess y.1 x.1 := by unfold okAt; rw [HX.out]; dsimp only; rw [hy]; simp [hro, c16]
        have qk : decide ((0 : Int) < ((j + 1 : Nat) : Int)) = true := decide_eq_true (by omega)
        have qj : ((j + 1 : Nat) : Int) - 1 = (j : Int) := by omega
        have qj0 : (0 : Int) ≤ (j : Int) := by omega
        have qjw : IntKind.i64.wrap (j : Int) = (j : Int) := wrap_i64 j (by omega)
        have qj1 : (j : Int) < (R.length : Int) := by omega
        cases hsl : Op.bytesLess y.1.toList x.1.toList with
        | false =>
         have hno := rises_no _ hlt (hroS.trans hsl)
         have HNO := Lib.hid (show decide (TOk c n R W) = false from decide_eq_false (fun h => by rw [h.2.2.2.2.2.1] at hno; cases hno))
         clear hro hroS hno hy g0 c16 v0 v1
         go_wp2_with fail
         go_big_quiet (fail)
         go_wp2_with fail
         go_ret
         exact ⟨by rw [HNO.out]; rfl, hfn.drewN _⟩
        | true =>
         have HEO := Lib.hid (hroS.trans hsl)
         clear hro hroS hy g0 c16 v0 v1
         go_wp2_with fail
         go_big_quiet (fail)
         go_wp2_with fail
         go_roundw
         case rel => exact ⟨j + 1 + 1, by omega, by go_num, okTo_succ _ hok.out HEO.out, hBn.drewN _, hfn.drewN _⟩
         case measure => simp [intOf]; omega
   ·obtain rfl : k = R.length := by omega
    have hri : rises readOk R = true := by unfold rises; rw [hok.out, decide_eq_true (by omega)]; rfl
    have HRIR := Lib.hid hri
    clear hri hlt hok
    go_wp2_with fail
    go_loopw [5] (fun ix wr => ∃ k : Nat, k ≤ W.length ∧ ix = .int .i64 k ∧ Hid (okTo writeOk W k = true) ∧ Blk wr gB 29 #[.int .i64 c, .int .i64 n, .slice A R.length cr, .slice B W.length cw] ∧ Fr (fun _ => False) w wr) (fun ix _ => W.length - (intOf ix).toNat)
    case atStart => exact ⟨0, by omega, rfl, rfl, hB0, hf0⟩
    case round =>
     clear hB0 hf0
     obtain ⟨k, hk, rfl, hok, hB0, hf0⟩ := hrel
     have hcl := hB0.cell 3
     by_cases hlt : k < W.length
     ·obtain ⟨x, hx⟩ : ∃ x, W[k]? = some x := ⟨W[k], List.getElem?_eq_getElem hlt⟩
      obtain ⟨b, o, rfl, hFb, e0, e1⟩ := HWr.out k x hx
      have d0 := hf0.cell_some e0 id
      have d1 := hf0.cell_some e1 id
      have HX := Lib.hid hx
      have hBn := hB0.alloc (Obj.cells #[.string x.1, .string x.2] 84)
      have hfn := hf0.alloc (Obj.cells #[.string x.1, .string x.2] 84)
      have hcn := hBn.cell 3
      have x0 := (Blk.new wr 84 #[.string x.1, .string x.2]).cell 0
      have x1 := (Blk.new wr 84 #[.string x.1, .string x.2]).cell 1
      clear hx e0 e1
      by_cases c16 : (16 : Int) < x.1.size
      ·have c16' : decide ((16 : Int) < x.1.size) = true := decide_eq_true c16
       have eo : okAt writeOk W k = false := by unfold okAt; rw [HX.out]; simp [c16]
       have hno := rises_no _ hlt eo
       have HNO := Lib.hid (show decide (TOk c n R W) = false from decide_eq_false (fun h => by rw [h.2.2.2.2.2.2] at hno; cases hno))
       clear eo hno
       clear c16
       go_wp2_with fail
       go_big_quiet (fail)
       go_wp2_with fail
       go_ret
       exact ⟨by rw [HNO.out]; rfl, hfn.drewN _⟩
      ·have c16' : decide ((16 : Int) < x.1.size) = false := decide_eq_false c16
       by_cases v0 : (64 : Int) < x.2.size
       ·have v0' : decide ((64 : Int) < x.2.size) = true := decide_eq_true v0
        have hrf : writeOk x = false := decide_eq_false (by omega)
        have eo : okAt writeOk W k = false := by unfold okAt; rw [HX.out]; simp [hrf]
        have hno := rises_no _ hlt eo
        have HNO := Lib.hid (show decide (TOk c n R W) = false from decide_eq_false (fun h => by rw [h.2.2.2.2.2.2] at hno; cases hno))
        clear eo hno
        clear c16 v0 hrf
        go_wp2_with fail
        go_big_quiet (fail)
        go_wp2_with fail
        go_ret
        exact ⟨by rw [HNO.out]; rfl, hfn.drewN _⟩
       ·have v0' : decide ((64 : Int) < x.2.size) = false := decide_eq_false v0
        have hro : writeOk x = true := decide_eq_true (by omega)
        rcases k with _ | j
        ·have HEO := Lib.hid (show okAt writeOk W 0 = true by unfold okAt; rw [HX.out]; simp [hro, c16])
         clear hro c16 v0
         simp only [Nat.zero_mul, Nat.add_zero] at d0 d1
         go_wp2_with fail
         go_big_quiet (fail)
         go_wp2_with fail
         go_roundw
         case rel => exact ⟨1, by omega, by go_num, okTo_succ _ hok.out HEO.out, hBn.drewN _, hfn.drewN _⟩
         case measure => simp [intOf]; omega
        ·obtain ⟨y, hy⟩ : ∃ y, W[j]? = some y := ⟨W[j]'(by omega), List.getElem?_eq_getElem (by omega)⟩
         obtain ⟨b', o', e1, _, g0, _⟩ := HWr.out j y hy
         cases e1
         have y0 := hfn.cell_some g0 id
         have hroS : okAt writeOk W (j + 1) = strLess y.1 x.1 := by unfold okAt; rw [HX.out]; dsimp only; rw [hy]; simp [hro, c16]
         have qk : decide ((0 : Int) < ((j + 1 : Nat) : Int)) = true := decide_eq_true (by omega)
         have qj : ((j + 1 : Nat) : Int) - 1 = (j : Int) := by omega
         have qj0 : (0 : Int) ≤ (j : Int) := by omega
         have qjw : IntKind.i64.wrap (j : Int) = (j : Int) := wrap_i64 j (by omega)
         have qj1 : (j : Int) < (W.length : Int) := by omega
         cases hsl : Op.bytesLess y.1.toList x.1.toList with
         | false =>
          have hno := rises_no _ hlt (hroS.trans hsl)
          have HNO := Lib.hid (show decide (TOk c n R W) = false from decide_eq_false (fun h => by rw [h.2.2.2.2.2.2] at hno; cases hno))
          clear hro hroS hno hy g0 c16 v0
          go_wp2_with fail
          go_big_quiet (fail)
          go_wp2_with fail
          go_ret
          exact ⟨by rw [HNO.out]; rfl, hfn.drewN _⟩
         | true =>
          have HEO := Lib.hid (hroS.trans hsl)
          clear hro hroS hy g0 c16 v0
          go_wp2_with fail
          go_big_quiet (fail)
          go_wp2_with fail
          go_roundw
          case rel => exact ⟨j + 1 + 1, by omega, by go_num, okTo_succ _ hok.out HEO.out, hBn.drewN _, hfn.drewN _⟩
          case measure => simp [intOf]; omega
     ·obtain rfl : k = W.length := by omega
      have hri : rises writeOk W = true := by unfold rises; rw [hok.out, decide_eq_true (by omega)]; rfl
      have HRIW := Lib.hid hri
      clear hri hlt hok
      have HOK := Lib.hid (show decide (TOk c n R W) = true from decide_eq_true ⟨by omega, by omega, by omega, by omega, by have := T6.out; omega, HRIR.out, HRIW.out⟩)
      go_wp2_with fail
      go_ret
      exact ⟨by rw [HOK.out]; rfl, hf0⟩
 ·go_enter Tryz.func30, Tryz.ntmps30
  go_wp2_with fail
  rw [hgB.out] at hB0 ⊢
  generalize w.alloc (Obj.cells #[.int .i64 c, .int .i64 n, .slice A R.length cr, .slice B W.length cw] 29) = w0 at *
  go_loopw [3] (fun ix wr => ∃ k : Nat, k ≤ R.length ∧ ix = .int .i64 k ∧ Hid (okTo readOk R k = true) ∧ Blk wr gB 29 #[.int .i64 c, .int .i64 n, .slice A R.length cr, .slice B W.length cw] ∧ Fr (fun _ => False) w wr) (fun ix _ => R.length - (intOf ix).toNat)
  case atStart => exact ⟨0, by omega, rfl, rfl, hB0, hf0⟩
  case round =>
   clear hB0 hf0
   obtain ⟨k, hk, rfl, hok, hB0, hf0⟩ := hrel
   have hcl := hB0.cell 2
   by_cases hlt : k < R.length
   ·obtain ⟨x, hx⟩ : ∃ x, R[k]? = some x := ⟨R[k], List.getElem?_eq_getElem hlt⟩
    obtain ⟨b, o, rfl, hFb, e0, e1⟩ := HRr.out k x hx
    have d0 := hf0.cell_some e0 id
    have d1 := hf0.cell_some e1 id
    have HX := Lib.hid hx
    have hBn := hB0.alloc (Obj.cells #[.string x.1, .int .i64 x.2] 143)
    have hfn := hf0.alloc (Obj.cells #[.string x.1, .int .i64 x.2] 143)
    have hcn := hBn.cell 2
    have x0 := (Blk.new wr 143 #[.string x.1, .int .i64 x.2]).cell 0
    have x1 := (Blk.new wr 143 #[.string x.1, .int .i64 x.2]).cell 1
    clear hx e0 e1
    by_cases c16 : (16 : Int) < x.1.size
    ·have c16' : decide ((16 : Int) < x.1.size) = true := decide_eq_true c16
     have eo : okAt readOk R k = false := by unfold okAt; rw [HX.out]; simp [c16]
     have hno := rises_no _ hlt eo
     have HNO := Lib.hid (show decide (TOk c n R W) = false from decide_eq_false (fun h => by rw [h.2.2.2.2.2.1] at hno; cases hno))
     clear eo hno
     clear c16
     go_wp2_with fail
     go_big_quiet (fail)
     go_wp2_with fail
     go_ret
     exact ⟨by rw [HNO.out]; rfl, hfn.drewN _⟩
    ·have c16' : decide ((16 : Int) < x.1.size) = false := decide_eq_false c16
     by_cases v0 : x.2 < 0
     ·have v0' : decide (x.2 < 0) = true := decide_eq_true v0
      have hrf : readOk x = false := by unfold readOk; rw [decide_eq_false (p := 0 ≤ x.2) (by omega)]; rfl
      have eo : okAt readOk R k = false := by unfold okAt; rw [HX.out]; simp [hrf]
      have hno := rises_no _ hlt eo
      have HNO := Lib.hid (show decide (TOk c n R W) = false from decide_eq_false (fun h => by rw [h.2.2.2.2.2.1] at hno; cases hno))
      clear eo hno
      clear c16 v0 hrf
      go_wp2_with fail
      go_big_quiet (fail)
      go_wp2_with fail
      go_ret
      exact ⟨by rw [HNO.out]; rfl, hfn.drewN _⟩
     ·have v0' : decide (x.2 < 0) = false := decide_eq_false v0
      by_cases v1 : 1099511627776 < x.2
      ·have v1' : decide (1099511627776 < x.2) = true := decide_eq_true v1
       have hrf : readOk x = false := by unfold readOk; rw [decide_eq_false (p := x.2 ≤ 1099511627776) (by omega), Bool.and_false]
       have eo : okAt readOk R k = false := by unfold okAt; rw [HX.out]; simp [hrf]
       have hno := rises_no _ hlt eo
       have HNO := Lib.hid (show decide (TOk c n R W) = false from decide_eq_false (fun h => by rw [h.2.2.2.2.2.1] at hno; cases hno))
       clear eo hno
       clear c16 v0 v1 hrf
       go_wp2_with fail
       go_big_quiet (fail)
       go_wp2_with fail
       go_ret
       exact ⟨by rw [HNO.out]; rfl, hfn.drewN _⟩
      ·have v1' : decide (1099511627776 < x.2) = false := decide_eq_false v1
       have hro : readOk x = true := by unfold readOk; rw [decide_eq_true (p := 0 ≤ x.2) (by omega), decide_eq_true (p := x.2 ≤ 1099511627776) (by omega)]; rfl
       rcases k with _ | j
       ·have HEO := Lib.hid (show okAt readOk R 0 = true by unfold okAt; rw [HX.out]; simp [hro, c16])
        clear hro c16 v0 v1
        simp only [Nat.zero_mul, Nat.add_zero] at d0 d1
        go_wp2_with fail
        go_big_quiet (fail)
        go_wp2_with fail
        go_roundw
        case rel => exact ⟨1, by omega, by go_num, okTo_succ _ hok.out HEO.out, hBn.drewN _, hfn.drewN _⟩
        case measure => simp [intOf]; omega
       ·obtain ⟨y, hy⟩ : ∃ y, R[j]? = some y := ⟨R[j]'(by omega), List.getElem?_eq_getElem (by omega)⟩
        obtain ⟨b', o', e1, _, g0, _⟩ := HRr.out j y hy
        cases e1
        have y0 := hfn.cell_some g0 id
        have hroS : okAt readOk R (j + 1) = strLess y.1 x.1 := by unfold okAt; rw [HX.out]; dsimp only; rw [hy]; simp [hro, c16]
        have qk : decide ((0 : Int) < ((j + 1 : Nat) : Int)) = true := decide_eq_true (by omega)
        have qj : ((j + 1 : Nat) : Int) - 1 = (j : Int) := by omega
        have qj0 : (0 : Int) ≤ (j : Int) := by omega
        have qjw : IntKind.i64.wrap (j : Int) = (j : Int) := wrap_i64 j (by omega)
        have qj1 : (j : Int) < (R.length : Int) := by omega
        cases hsl : Op.bytesLess y.1.toList x.1.toList with
        | false =>
         have hno := rises_no _ hlt (hroS.trans hsl)
         have HNO := Lib.hid (show decide (TOk c n R W) = false from decide_eq_false (fun h => by rw [h.2.2.2.2.2.1] at hno; cases hno))
         clear hro hroS hno hy g0 c16 v0 v1
         go_wp2_with fail
         go_big_quiet (fail)
         go_wp2_with fail
         go_ret
         exact ⟨by rw [HNO.out]; rfl, hfn.drewN _⟩
        | true =>
         have HEO := Lib.hid (hroS.trans hsl)
         clear hro hroS hy g0 c16 v0 v1
         go_wp2_with fail
         go_big_quiet (fail)
         go_wp2_with fail
         go_roundw
         case rel => exact ⟨j + 1 + 1, by omega, by go_num, okTo_succ _ hok.out HEO.out, hBn.drewN _, hfn.drewN _⟩
         case measure => simp [intOf]; omega
   ·obtain rfl : k = R.length := by omega
    have hri : rises readOk R = true := by unfold rises; rw [hok.out, decide_eq_true (by omega)]; rfl
    have HRIR := Lib.hid hri
    clear hri hlt hok
    go_wp2_with fail
    go_loopw [5] (fun ix wr => ∃ k : Nat, k ≤ W.length ∧ ix = .int .i64 k ∧ Hid (okTo writeOk W k = true) ∧ Blk wr gB 29 #[.int .i64 c, .int .i64 n, .slice A R.length cr, .slice B W.length cw] ∧ Fr (fun _ => False) w wr) (fun ix _ => W.length - (intOf ix).toNat)
    case atStart => exact ⟨0, by omega, rfl, rfl, hB0, hf0⟩
    case round =>
     clear hB0 hf0
     obtain ⟨k, hk, rfl, hok, hB0, hf0⟩ := hrel
     have hcl := hB0.cell 3
     by_cases hlt : k < W.length
     ·obtain ⟨x, hx⟩ : ∃ x, W[k]? = some x := ⟨W[k], List.getElem?_eq_getElem hlt⟩
      obtain ⟨b, o, rfl, hFb, e0, e1⟩ := HWr.out k x hx
      have d0 := hf0.cell_some e0 id
      have d1 := hf0.cell_some e1 id
      have HX := Lib.hid hx
      have hBn := hB0.alloc (Obj.cells #[.string x.1, .string x.2] 84)
      have hfn := hf0.alloc (Obj.cells #[.string x.1, .string x.2] 84)
      have hcn := hBn.cell 3
      have x0 := (Blk.new wr 84 #[.string x.1, .string x.2]).cell 0
      have x1 := (Blk.new wr 84 #[.string x.1, .string x.2]).cell 1
      clear hx e0 e1
      by_cases c16 : (16 : Int) < x.1.size
      ·have c16' : decide ((16 : Int) < x.1.size) = true := decide_eq_true c16
       have eo : okAt writeOk W k = false := by unfold okAt; rw [HX.out]; simp [c16]
       have hno := rises_no _ hlt eo
       have HNO := Lib.hid (show decide (TOk c n R W) = false from decide_eq_false (fun h => by rw [h.2.2.2.2.2.2] at hno; cases hno))
       clear eo hno
       clear c16
       go_wp2_with fail
       go_big_quiet (fail)
       go_wp2_with fail
       go_ret
       exact ⟨by rw [HNO.out]; rfl, hfn.drewN _⟩
      ·have c16' : decide ((16 : Int) < x.1.size) = false := decide_eq_false c16
       by_cases v0 : (64 : Int) < x.2.size
       ·have v0' : decide ((64 : Int) < x.2.size) = true := decide_eq_true v0
        have hrf : writeOk x = false := decide_eq_false (by omega)
        have eo : okAt writeOk W k = false := by unfold okAt; rw [HX.out]; simp [hrf]
        have hno := rises_no _ hlt eo
        have HNO := Lib.hid (show decide (TOk c n R W) = false from decide_eq_false (fun h => by rw [h.2.2.2.2.2.2] at hno; cases hno))
        clear eo hno
        clear c16 v0 hrf
        go_wp2_with fail
        go_big_quiet (fail)
        go_wp2_with fail
        go_ret
        exact ⟨by rw [HNO.out]; rfl, hfn.drewN _⟩
       ·have v0' : decide ((64 : Int) < x.2.size) = false := decide_eq_false v0
        have hro : writeOk x = true := decide_eq_true (by omega)
        rcases k with _ | j
        ·have HEO := Lib.hid (show okAt writeOk W 0 = true by unfold okAt; rw [HX.out]; simp [hro, c16])
         clear hro c16 v0
         simp only [Nat.zero_mul, Nat.add_zero] at d0 d1
         go_wp2_with fail
         go_big_quiet (fail)
         go_wp2_with fail
         go_roundw
         case rel => exact ⟨1, by omega, by go_num, okTo_succ _ hok.out HEO.out, hBn.drewN _, hfn.drewN _⟩
         case measure => simp [intOf]; omega
        ·obtain ⟨y, hy⟩ : ∃ y, W[j]? = some y := ⟨W[j]'(by omega), List.getElem?_eq_getElem (by omega)⟩
         obtain ⟨b', o', e1, _, g0, _⟩ := HWr.out j y hy
         cases e1
         have y0 := hfn.cell_some g0 id
         have hroS : okAt writeOk W (j + 1) = strLess y.1 x.1 := by unfold okAt; rw [HX.out]; dsimp only; rw [hy]; simp [hro, c16]
         have qk : decide ((0 : Int) < ((j + 1 : Nat) : Int)) = true := decide_eq_true (by omega)
         have qj : ((j + 1 : Nat) : Int) - 1 = (j : Int) := by omega
         have qj0 : (0 : Int) ≤ (j : Int) := by omega
         have qjw : IntKind.i64.wrap (j : Int) = (j : Int) := wrap_i64 j (by omega)
         have qj1 : (j : Int) < (W.length : Int) := by omega
         cases hsl : Op.bytesLess y.1.toList x.1.toList with
         | false =>
          have hno := rises_no _ hlt (hroS.trans hsl)
          have HNO := Lib.hid (show decide (TOk c n R W) = false from decide_eq_false (fun h => by rw [h.2.2.2.2.2.2] at hno; cases hno))
          clear hro hroS hno hy g0 c16 v0
          go_wp2_with fail
          go_big_quiet (fail)
          go_wp2_with fail
          go_ret
          exact ⟨by rw [HNO.out]; rfl, hfn.drewN _⟩
         | true =>
          have HEO := Lib.hid (hroS.trans hsl)
          clear hro hroS hy g0 c16 v0
          go_wp2_with fail
          go_big_quiet (fail)
          go_wp2_with fail
          go_roundw
          case rel => exact ⟨j + 1 + 1, by omega, by go_num, okTo_succ _ hok.out HEO.out, hBn.drewN _, hfn.drewN _⟩
          case measure => simp [intOf]; omega
     ·obtain rfl : k = W.length := by omega
      have hri : rises writeOk W = true := by unfold rises; rw [hok.out, decide_eq_true (by omega)]; rfl
      have HRIW := Lib.hid hri
      clear hri hlt hok
      have HOK := Lib.hid (show decide (TOk c n R W) = true from decide_eq_true ⟨by omega, by omega, by omega, by omega, by have := T6.out; omega, HRIR.out, HRIW.out⟩)
      go_wp2_with fail
      go_ret
      exact ⟨by rw [HOK.out]; rfl, hf0⟩
theorem ref10_Right_ok {w : World} {F : Nat → Prop} {A B : Option Addr} {cr cw : Nat} {c n : Int} {R : List (ByteArray × Int)} {W : List (ByteArray × ByteArray)} (hr : ReadRow w F A R) (hw : WriteRow w F B W) (h : TOk c n R W) :
  Calls Tryz.prog 30 #[.agg #[.int .i64 c, .int .i64 n, .slice A R.length cr, .slice B W.length cw]] w (OkB w true) := by
 have := ref10_Right (cr := cr) (cw := cw) (c := c) (n := n) hr hw
 rw [decide_eq_true h] at this
 exact this
theorem read_info : (Tryz.prog.info? 143).map (fun i => (i.zero, i.size, i.bytes)) = some (some (.agg #[.string ⟨#[]⟩, .int .i64 0]), 2, 24) := by kernel_rfl
theorem write_info : (Tryz.prog.info? 84).map (fun i => (i.zero, i.size, i.bytes)) = some (some (.agg #[.string ⟨#[]⟩, .string ⟨#[]⟩]), 2, 32) := by kernel_rfl
def readsV (R : List (ByteArray × Int)) : List Value := R.flatMap fun x => [.string x.1, .int .i64 x.2]
def writesV (W : List (ByteArray × ByteArray)) : List Value := W.flatMap fun x => [.string x.1, .string x.2]
theorem pairs_at {α : Type} {f g : α → Value} : ∀ {l : List α} {k : Nat} {x : α}, l[k]? = some x → (l.flatMap fun x => [f x, g x])[k * 2]? = some (f x) ∧ (l.flatMap fun x => [f x, g x])[k * 2 + 1]? = some (g x)
 | [], k, x, h => by simp at h
 | y :: l, 0, x, h => by simp at h; subst h; exact ⟨rfl, rfl⟩
 | y :: l, k + 1, x, h => by
  have h' : l[k]? = some x := by simpa using h
  obtain ⟨h1, h2⟩ := pairs_at (f := f) (g := g) h'
  rw [List.flatMap_cons]
  refine ⟨?_, ?_⟩
  ·rw [show (k + 1) * 2 = k * 2 + 2 by omega]; simpa using h1
  ·rw [show (k + 1) * 2 + 1 = (k * 2 + 1) + 2 by omega]; simpa using h2
theorem own_reads {w : World} {base : Nat} {v : Value} {R : List (ByteArray × Int)} (h : w.ownsRow base 143 2 v R.length (readsV R)) : ∃ A c, v = .slice A R.length c ∧ ReadRow w (fun k => base ≤ k) A R := by
 obtain ⟨A, c, rfl, _, hat⟩ := own_form h
 refine ⟨A, c, rfl, fun k x hx => ?_⟩
 obtain ⟨h1, h2⟩ := pairs_at (f := fun x => .string x.1) (g := fun x => .int .i64 x.2) hx
 obtain ⟨b, rfl, hb, c1⟩ := hat _ _ h1
 obtain ⟨b', he, _, c2⟩ := hat _ _ h2
 cases he
 exact ⟨b, 0, rfl, hb, by rw [Nat.zero_add]; exact c1, by rw [Nat.zero_add]; exact c2⟩
theorem own_writes {w : World} {base : Nat} {v : Value} {W : List (ByteArray × ByteArray)} (h : w.ownsRow base 84 2 v W.length (writesV W)) : ∃ A c, v = .slice A W.length c ∧ WriteRow w (fun k => base ≤ k) A W := by
 obtain ⟨A, c, rfl, _, hat⟩ := own_form h
 refine ⟨A, c, rfl, fun k x hx => ?_⟩
 obtain ⟨h1, h2⟩ := pairs_at (f := fun x => .string x.1) (g := fun x => .string x.2) hx
 obtain ⟨b, rfl, hb, c1⟩ := hat _ _ h1
 obtain ⟨b', he, _, c2⟩ := hat _ _ h2
 cases he
 exact ⟨b, 0, rfl, hb, by rw [Nat.zero_add]; exact c1, by rw [Nat.zero_add]; exact c2⟩
theorem ReadRow.mono_ {w : World} {F F' : Nat → Prop} {A : Option Addr} {l : List (ByteArray × Int)} (h : ReadRow w F A l) (hF : ∀ k, F k → F' k) : ReadRow w F' A l := fun k x hx => by
 obtain ⟨b, o, e, h1, h2⟩ := h k x hx
 exact ⟨b, o, e, hF _ h1, h2⟩
theorem WriteRow.mono_ {w : World} {F F' : Nat → Prop} {A : Option Addr} {l : List (ByteArray × ByteArray)} (h : WriteRow w F A l) (hF : ∀ k, F k → F' k) : WriteRow w F' A l := fun k x hx => by
 obtain ⟨b, o, e, h1, h2⟩ := h k x hx
 exact ⟨b, o, e, hF _ h1, h2⟩
def TxnGot (w : World) (c n : Int) (R : List (ByteArray × Int)) (W : List (ByteArray × ByteArray)) (e : Ending) (w' : World) : Prop :=
 ∃ A cr B cw, e = .returned (.tuple #[.agg #[.int .i64 c, .int .i64 n, .slice A R.length cr, .slice B W.length cw], .int .i64 0, .slice none 0 0]) ∧ ReadRow w' (fun k => w.heap.size ≤ k) A R ∧ WriteRow w' (fun k => w.heap.size ≤ k) B W ∧ Fr (fun _ => False) w w'
theorem drop_mem {α : Type} {l : List α} {k : Nat} {x : α} (h : l[k]? = some x) : l.drop k = x :: l.drop (k + 1) := by
 obtain ⟨h1, h2⟩ := List.getElem?_eq_some_iff.1 h
 rw [List.drop_eq_getElem_cons h1, h2]
theorem read_vers {R : List (ByteArray × Int)} (h : rises readOk R = true) : ∀ x ∈ R, 0 ≤ x.2 ∧ x.2 ≤ 1099511627776 := fun x hx => by
 have := (rises_at h x hx).2
 unfold readOk at this
 simpa using this
theorem ref10_Get {w : World} {F : Nat → Prop} {A : Option Addr} {cap : Nat} {c n : Int} {R : List (ByteArray × Int)} {W : List (ByteArray × ByteArray)} (hr : ByteRow w F A (txnB c n R W)) (h : TOk c n R W) :
  Calls Tryz.prog 49 #[.slice A (txnB c n R W).length cap] w (TxnGot w c n R W) := by
 obtain ⟨bs, hbs⟩ : ∃ bs, Hid (txnB c n R W = bs) := ⟨_, rfl⟩
 have hl : bs.length ≤ 65536 := by rw [← hbs.out]; exact txnB_len h
 have h0 : 0 < bs.length := by rw [← hbs.out]; simp [txnB, num8_length]; omega
 have hbs2 : Hid (bs = num8 c ++ (num8 n ++ (num8 (R.length : Int) ++ (R.flatMap readB ++ (num8 (W.length : Int) ++ (W.flatMap writeB ++ [])))))) := by show _ = _; rw [← hbs.out, txnB]; simp only [List.append_assoc, List.append_nil]
 have hR1 := Lib.hid (read_sizes h.2.2.2.2.2.1)
 have hR2 := Lib.hid (read_vers h.2.2.2.2.2.1)
 have hW1 := Lib.hid (write_sizes h.2.2.2.2.2.2)
 have lR := rises_len h.2.2.2.2.2.1
 have lW := rises_len h.2.2.2.2.2.2
 have hc0 := h.1
 have hc1 := h.2.1
 have hn0 := h.2.2.1
 have hn1 := h.2.2.2.1
 have HT : Hid (decide (TOk c n R W) = true) := by show _ = _; simpa using h
 obtain ⟨wl, hwl⟩ : ∃ x, Hid (W.flatMap writeB = x) := ⟨_, rfl⟩
 rw [hbs.out] at hr ⊢
 clear h hbs
 have hf0 : Fr (fun _ => False) w (w.alloc (Obj.cells #[.int .i64 0, .int .i64 0, .slice none 0 0, .slice none 0 0] 29)) := (Fr.refl _ _).alloc _
 have hA0 := Blk.new w 29 #[.int .i64 0, .int .i64 0, .slice none 0 0, .slice none 0 0]
 have HNew := Lib.hid (rs_New (cap := cap) (hr.fr hf0 (fun _ _ => id)) h0 (by omega))
 go_enter Tryz.func49, Tryz.ntmps49
 go_upto_region 2 with (go_at_call 53; refine HNew.out.mono ?_; rintro e w1 ⟨g, rfl, hg, hS1, hf1⟩)
 generalize w.alloc (Obj.cells #[.int .i64 0, .int .i64 0, .slice none 0 0, .slice none 0 0] 29) = w0 at *
 have hA1 := hA0.fr hf1 id
 have hf01 := hf0.then_ hf1
 have hA2 := hA1.alloc (Obj.cells #[.int .i64 0, .int .i64 0, .slice none 0 0, .slice none 0 0] 29)
 have hT2 := Blk.new w1 29 #[.int .i64 0, .int .i64 0, .slice none 0 0, .slice none 0 0]
 have hf02 := hf01.alloc (Obj.cells #[.int .i64 0, .int .i64 0, .slice none 0 0, .slice none 0 0] 29)
 have hS2 := hS1.keep ((Fr.refl (fun _ => False) w1).alloc (Obj.cells #[.int .i64 0, .int .i64 0, .slice none 0 0, .slice none 0 0] 29))
 have hag : w.heap.size < w1.heap.size := hA1.lt
 go_upto_region 3 with fail
 have hwg : w.heap.size < g := Nat.lt_of_lt_of_le hA0.lt hg
 generalize w1.alloc (Obj.cells #[.int .i64 0, .int .i64 0, .slice none 0 0, .slice none 0 0] 29) = w2 at *
 obtain ⟨gt, hgt⟩ : ∃ cc, Hid (w1.heap.size = cc) := ⟨_, rfl⟩
 rw [hgt.out] at hT2 hag ⊢
 clear hA0 hA1 hf0 hf1 hf01 HNew hg hS1 hr
 rw [hbs2.out] at hS2
 have H := Lib.hid (rs_Num hS2 (by omega) (by omega))
 go_upto_region 4 with (go_at_call 54; refine H.out.mono ?_; rintro e w3 ⟨rfl, hS3, hf3⟩)
 have hT3 := hT2.fr hf3 (hS2.ne hT2 (by decide))
 have hA3 := hA2.fr hf3 (hS2.ne hA2 (by decide))
 have hf03 : Fr (fun _ => False) w w3 := hf02.trans hf3 (fun k hk e => by omega)
 clear H hS2 hT2 hA2 hf02 hf3 hbs2 hl h0
 have H := Lib.hid (rs_Num hS3 (by omega) (by omega))
 go_upto_region 5 with (go_at_call 54; refine H.out.mono ?_; rintro e w4 ⟨rfl, hS4, hf4⟩; have hT4 := hT3.fr hf4 (hS3.ne hT3 (by decide)); have y1 := hT4.cell 1; have z1 := hT4.frozen 1)
 have hA4 := hA3.fr hf4 (hS3.ne hA3 (by decide))
 have hf04 : Fr (fun _ => False) w w4 := hf03.trans hf4 (fun k hk e => by omega)
 have hS5 := hS4.far hT4 (by decide) (by decide) 1 (.int .i64 n)
 have hT5 : Blk (w4.setCell ⟨gt, 1, none⟩ (.int .i64 n)) gt 29 #[.int .i64 0, .int .i64 n, .slice none 0 0, .slice none 0 0] := hT4.set_ 1 _
 have hA5 := hA4.far (p := ⟨gt, 1, none⟩) (fun e => by dsimp only at e; omega) (.int .i64 n)
 have hf05 : Fr (fun _ => False) w (w4.setCell ⟨gt, 1, none⟩ (.int .i64 n)) := hf04.setCell (p := ⟨gt, 1, none⟩) (fun h => absurd h (by dsimp only; omega)) _
 generalize w4.setCell ⟨gt, 1, none⟩ (.int .i64 n) = w5 at *
 clear H hS3 hT3 hA3 hf03 hf4 hS4 hT4 hA4 hf04 y1 z1
 have H := Lib.hid (rs_Int (most := 8) hS5 (by omega) (by omega) (by omega))
 go_upto_region 6 with (go_at_call 56; refine H.out.mono ?_; rintro e w6 ⟨rfl, hS6, hf6⟩)
 have hT6 := hT5.fr hf6 (hS5.ne hT5 (by decide))
 have hA6 := hA5.fr hf6 (hS5.ne hA5 (by decide))
 have hf06 : Fr (fun _ => False) w w6 := hf05.trans hf6 (fun k hk e => by omega)
 clear H hS5 hT5 hA5 hf05 hf6
 go_upto_region 7 with fail
 have hir := read_info
 have hiw := write_info
 go_loopw [9] (fun i wr => ∃ (k : Nat) (lv : Value), k ≤ R.length ∧ i = .int .i64 k ∧ wr.ownsRow (w.heap.size + 1) 143 2 lv k (readsV (R.take k)) ∧ Blk wr gt 29 #[.int .i64 0, .int .i64 n, lv, .slice none 0 0] ∧ RS wr g ((R.drop k).flatMap readB ++ (num8 (W.length : Int) ++ (W.flatMap writeB ++ []))) ∧ Blk wr w.heap.size 29 #[.int .i64 0, .int .i64 0, .slice none 0 0, .slice none 0 0] ∧ Fr (fun _ => False) w wr) (fun i _ => R.length - (intOf i).toNat)
 case atStart => exact ⟨0, _, by omega, rfl, World.ownsRow_nil _ _ _ _, hT6, hS6, hA6, hf06⟩
 case round =>
  clear hS6 hT6 hA6 hf06
  obtain ⟨k, lv, hk, rfl, hown, hT, hS, hA, hf⟩ := hrel
  by_cases hlt : k < R.length
  ·have hlt' : (k : Int) < (R.length : Int) := by omega
   obtain ⟨x, hx⟩ : ∃ x, R[k]? = some x := ⟨R[k], List.getElem?_eq_getElem hlt⟩
   rw [drop_mem hx, List.flatMap_cons, readB, List.append_assoc, List.append_assoc] at hS
   have hx1 := hR1.out x (List.mem_of_getElem? hx)
   have hx2 := hR2.out x (List.mem_of_getElem? hx)
   have HX := Lib.hid hx
   have hge := own_ge hown
   obtain ⟨Av, cv, hev, _, _⟩ := own_form hown
   subst hev
   clear hx
   have H1 := Lib.hid (rs_Text hS (by rw [bytesOf_length]; omega))
   go_upto_region 10 with (go_at_call 55; refine H1.out.mono ?_; rintro e w7 ⟨v7, rfl, hv7, hS7, hf7⟩)
   obtain ⟨A7, c7, rfl, _, hr7⟩ := hv7.u8row
   rw [bytesOf_length] at *
   have hT7 := hT.fr hf7 (hS.ne hT (by decide))
   have hA7 := hA.fr hf7 (hS.ne hA (by decide))
   have hown7 := own_fr hown hf7 (fun q hq e => by obtain ⟨ds, hD⟩ := hS.blk; exact own_ne_blk hown hD (by decide) (e ▸ hq))
   have hf07 : Fr (fun _ => False) w w7 := hf.trans hf7 (fun k hk e => by omega)
   clear H1 hS hT hA hown hf hf7 hv7
   have H2 := Lib.hid (rs_Num hS7 (by omega) (by omega))
   go_upto_region 11 with (go_at_call 54; refine H2.out.mono ?_; rintro e w8 ⟨rfl, hS8, hf8⟩)
   have hT8 := hT7.fr hf8 (hS7.ne hT7 (by decide))
   have hA8 := hA7.fr hf8 (hS7.ne hA7 (by decide))
   have hown8 := own_fr hown7 hf8 (fun q hq e => by obtain ⟨ds, hD⟩ := hS7.blk; exact own_ne_blk hown7 hD (by decide) (e ▸ hq))
   have hf08 : Fr (fun _ => False) w w8 := hf07.trans hf8 (fun k hk e => by omega)
   have hr8 := hr7.fr hf8 (fun q hq e => by obtain ⟨ds, hD⟩ := hS7.blk; exact hq.ne_blk hD (by decide) e)
   have hcv := conv_bytes (w := w8) (n := x.1.size) (cap := c7) hr8 (by rw [bytesOf_length])
   rw [strOf_bytesOf] at hcv
   clear H2 hS7 hT7 hA7 hown7 hf07 hf8 hr7 hr8
   have y2 := hT8.cell 2
   have z2 := hT8.frozen 2
   have hz8 : w.heap.size + 1 ≤ w8.heap.size := hA8.lt
   go_wp2_with (at_builtin; refine wpList_append_el _ rfl _ _ 26 rfl (w.heap.size + 1) 143 _ 2 24 Tryz.underlying26 hir rfl (by decide) _ k (readsV (R.take k)) rfl (own_fr hown8 ((Fr.refl (fun _ => False) w8).alloc _) (fun _ _ => id)) w8.heap.size [.string x.1, .int .i64 x.2] rfl rfl (cell_two w8 _ _ _) (by simp [Value.oneCell']) (by omega) (by decide) (by simp; omega) ?_; intro g' c' w9 hown9 hf9; have hfa := (Fr.refl (fun _ => False) w8).alloc (Obj.cells #[.string x.1, .int .i64 x.2] 143); have hown8a := own_fr hown8 hfa (fun _ _ => id); have hT9 := (hT8.fr hfa id).fr hf9 (own_ne_blk hown8a (hT8.fr hfa id) (by decide)); have y9 := hT9.cell 2; have z9 := hT9.frozen 2)
   have hA9 := (hA8.fr hfa id).fr hf9 (own_ne_blk hown8a (hA8.fr hfa id) (by decide))
   have hS9 := (hS8.keep hfa).own hown8a (by decide) (by decide) hf9
   have hf09 : Fr (fun _ => False) w w9 := (hf08.then_ hfa).trans hf9 (fun q hq e => by have := hge q e; omega)
   have hS10 := hS9.far hT9 (by decide) (by decide) 2 (.slice (some ⟨g', 0, none⟩) (k + 1) c')
   have hT10 : Blk (w9.setCell ⟨gt, 2, none⟩ (.slice (some ⟨g', 0, none⟩) (k + 1) c')) gt 29 #[.int .i64 0, .int .i64 n, .slice (some ⟨g', 0, none⟩) (k + 1) c', .slice none 0 0] := hT9.set_ 2 _
   have hA10 := hA9.far (p := ⟨gt, 2, none⟩) (fun e => by dsimp only at e; omega) (.slice (some ⟨g', 0, none⟩) (k + 1) c')
   have hown10 := own_setCell hown9 hT9 (by decide) 2 (.slice (some ⟨g', 0, none⟩) (k + 1) c')
   have hf010 : Fr (fun _ => False) w (w9.setCell ⟨gt, 2, none⟩ (.slice (some ⟨g', 0, none⟩) (k + 1) c')) := hf09.setCell (p := ⟨gt, 2, none⟩) (fun h => absurd h (by dsimp only; omega)) _
   go_roundw
   case rel =>
    refine ⟨k + 1, _, by omega, by go_num, ?_, hT10, hS10, hA10, hf010⟩
    rw [take_mem HX.out, readsV, List.flatMap_append]
    exact hown10
   case measure => simp [intOf]; omega
  ·obtain rfl : k = R.length := by omega
   rw [List.take_length] at hown
   rw [List.drop_length, List.flatMap_nil, List.nil_append] at hS
   obtain ⟨AR, cr, rfl, hRR⟩ := own_reads hown
   have H := Lib.hid (rs_Int (most := 8) hS (by omega) (by omega) (by omega))
   go_upto_region 13 with (go_at_call 56; refine H.out.mono ?_; rintro e w6 ⟨rfl, hS6, hf6⟩)
   have hT6 := hT.fr hf6 (hS.ne hT (by decide))
   have hA6 := hA.fr hf6 (hS.ne hA (by decide))
   have hown6 := own_fr hown hf6 (fun q hq e => by obtain ⟨ds, hD⟩ := hS.blk; exact own_ne_blk hown hD (by decide) (e ▸ hq))
   have hf06 : Fr (fun _ => False) w w6 := hf.trans hf6 (fun k hk e => by omega)
   clear H hS hT hA hown hf hf6 hRR
   go_upto_region 14 with fail
   go_loopw [12] (fun i wr => ∃ (k : Nat) (lv : Value), k ≤ W.length ∧ i = .int .i64 k ∧ wr.ownsRow (w.heap.size + 1) 84 2 lv k (writesV (W.take k)) ∧ wr.ownsRow (w.heap.size + 1) 143 2 (.slice AR R.length cr) R.length (readsV R) ∧ Blk wr gt 29 #[.int .i64 0, .int .i64 n, .slice AR R.length cr, lv] ∧ RS wr g ((W.drop k).flatMap writeB ++ []) ∧ Blk wr w.heap.size 29 #[.int .i64 0, .int .i64 0, .slice none 0 0, .slice none 0 0] ∧ Fr (fun _ => False) w wr) (fun i _ => W.length - (intOf i).toNat)
   case atStart => exact ⟨0, _, by omega, rfl, World.ownsRow_nil _ _ _ _, hown6, hT6, hS6, hA6, hf06⟩
   case round =>
    clear hS6 hT6 hA6 hf06 hown6
    obtain ⟨k, lv, hk, rfl, hown, hownR, hT, hS, hA, hf⟩ := hrel
    by_cases hlt : k < W.length
    ·have hlt' : (k : Int) < (W.length : Int) := by omega
     obtain ⟨x, hx⟩ : ∃ x, W[k]? = some x := ⟨W[k], List.getElem?_eq_getElem hlt⟩
     rw [drop_mem hx, List.flatMap_cons, writeB, List.append_assoc, List.append_assoc] at hS
     have hx1 := hW1.out x (List.mem_of_getElem? hx)
     have HX := Lib.hid hx
     have hge := own_ge hown
     obtain ⟨Av, cv, hev, _, _⟩ := own_form hown
     subst hev
     clear hx
     have H1 := Lib.hid (rs_Text hS (by rw [bytesOf_length]; omega))
     go_upto_region 17 with (go_at_call 55; refine H1.out.mono ?_; rintro e w7 ⟨v7, rfl, hv7, hS7, hf7⟩)
     obtain ⟨A7, c7, rfl, _, hr7⟩ := hv7.u8row
     rw [bytesOf_length] at *
     have hT7 := hT.fr hf7 (hS.ne hT (by decide))
     have hA7 := hA.fr hf7 (hS.ne hA (by decide))
     have hown7 := own_fr hown hf7 (fun q hq e => by obtain ⟨ds, hD⟩ := hS.blk; exact own_ne_blk hown hD (by decide) (e ▸ hq))
     have hownR7 := own_fr hownR hf7 (fun q hq e => by obtain ⟨ds, hD⟩ := hS.blk; exact own_ne_blk hownR hD (by decide) (e ▸ hq))
     have hf07 : Fr (fun _ => False) w w7 := hf.trans hf7 (fun k hk e => by omega)
     clear H1 hS hT hA hown hownR hf hf7 hv7
     have H2 := Lib.hid (rs_Text hS7 (by rw [bytesOf_length]; omega))
     go_upto_region 18 with (go_at_call 55; refine H2.out.mono ?_; rintro e w8 ⟨v8, rfl, hv8, hS8, hf8⟩)
     obtain ⟨A8, c8, rfl, _, hr8⟩ := hv8.u8row
     rw [bytesOf_length] at *
     have hT8 := hT7.fr hf8 (hS7.ne hT7 (by decide))
     have hA8 := hA7.fr hf8 (hS7.ne hA7 (by decide))
     have hown8 := own_fr hown7 hf8 (fun q hq e => by obtain ⟨ds, hD⟩ := hS7.blk; exact own_ne_blk hown7 hD (by decide) (e ▸ hq))
     have hownR8 := own_fr hownR7 hf8 (fun q hq e => by obtain ⟨ds, hD⟩ := hS7.blk; exact own_ne_blk hownR7 hD (by decide) (e ▸ hq))
     have hf08 : Fr (fun _ => False) w w8 := hf07.trans hf8 (fun k hk e => by omega)
     have hr78 := hr7.fr hf8 (fun q hq e => by obtain ⟨ds, hD⟩ := hS7.blk; exact hq.ne_blk hD (by decide) e)
     have hcv := conv_bytes (w := w8) (n := x.1.size) (cap := c7) hr78 (by rw [bytesOf_length])
     have hcv2 := conv_bytes (w := w8) (n := x.2.size) (cap := c8) hr8 (by rw [bytesOf_length])
     rw [strOf_bytesOf] at hcv hcv2
     clear H2 hS7 hT7 hA7 hown7 hownR7 hf07 hf8 hr7 hr8 hr78 hv8
     have y3 := hT8.cell 3
     have z3 := hT8.frozen 3
     have hz8 : w.heap.size + 1 ≤ w8.heap.size := hA8.lt
     go_wp2_with (at_builtin; refine wpList_append_el _ rfl _ _ 27 rfl (w.heap.size + 1) 84 _ 2 32 Tryz.underlying27 hiw rfl (by decide) _ k (writesV (W.take k)) rfl (own_fr hown8 ((Fr.refl (fun _ => False) w8).alloc _) (fun _ _ => id)) w8.heap.size [.string x.1, .string x.2] rfl rfl (cell_two w8 _ _ _) (by simp [Value.oneCell']) (by omega) (by decide) (by simp; omega) ?_; intro g' c' w9 hown9 hf9; have hfa := (Fr.refl (fun _ => False) w8).alloc (Obj.cells #[.string x.1, .string x.2] 84); have hown8a := own_fr hown8 hfa (fun _ _ => id); have hT9 := (hT8.fr hfa id).fr hf9 (own_ne_blk hown8a (hT8.fr hfa id) (by decide)); have y9 := hT9.cell 3; have z9 := hT9.frozen 3)
     have hA9 := (hA8.fr hfa id).fr hf9 (own_ne_blk hown8a (hA8.fr hfa id) (by decide))
     have hownR9 := own_fr (own_fr hownR8 hfa (fun _ _ => id)) hf9 (fun q hq e => by obtain ⟨ds, hD⟩ := own_cells (own_fr hownR8 hfa (fun _ _ => id)) hq; exact own_ne_blk hown8a hD (by decide) e)
     have hS9 := (hS8.keep hfa).own hown8a (by decide) (by decide) hf9
     have hf09 : Fr (fun _ => False) w w9 := (hf08.then_ hfa).trans hf9 (fun q hq e => by have := hge q e; omega)
     have hS10 := hS9.far hT9 (by decide) (by decide) 3 (.slice (some ⟨g', 0, none⟩) (k + 1) c')
     have hT10 : Blk (w9.setCell ⟨gt, 3, none⟩ (.slice (some ⟨g', 0, none⟩) (k + 1) c')) gt 29 #[.int .i64 0, .int .i64 n, .slice AR R.length cr, .slice (some ⟨g', 0, none⟩) (k + 1) c'] := hT9.set_ 3 _
     have hA10 := hA9.far (p := ⟨gt, 3, none⟩) (fun e => by dsimp only at e; omega) (.slice (some ⟨g', 0, none⟩) (k + 1) c')
     have hown10 := own_setCell hown9 hT9 (by decide) 3 (.slice (some ⟨g', 0, none⟩) (k + 1) c')
     have hownR10 := own_setCell hownR9 hT9 (by decide) 3 (.slice (some ⟨g', 0, none⟩) (k + 1) c')
     have hf010 : Fr (fun _ => False) w (w9.setCell ⟨gt, 3, none⟩ (.slice (some ⟨g', 0, none⟩) (k + 1) c')) := hf09.setCell (p := ⟨gt, 3, none⟩) (fun h => absurd h (by dsimp only; omega)) _
     go_roundw
     case rel =>
      refine ⟨k + 1, _, by omega, by go_num, ?_, hownR10, hT10, hS10, hA10, hf010⟩
      rw [take_mem HX.out, writesV, List.flatMap_append]
      exact hown10
     case measure => simp [intOf]; omega
    ·obtain rfl : k = W.length := by omega
     rw [List.take_length] at hown
     rw [List.drop_length, List.flatMap_nil, List.nil_append] at hS
     obtain ⟨AW, cw, rfl, _⟩ := own_writes hown
     have H := Lib.hid (rs_End hS)
     go_upto_region 20 with (go_at_call 58; refine H.out.mono ?_; rintro e w6 ⟨rfl, hf6⟩)
     have hfs := (Fr.refl (fun _ => False) w6).alloc (Obj.cells #[.string ⟨#[]⟩, .int .i64 0] 70)
     have hT7 := (hT.fr hf6 id).fr hfs id
     have hA7 := (hA.fr hf6 id).fr hfs id
     have hownR7 := own_fr (own_fr hownR hf6 (fun _ _ => id)) hfs (fun _ _ => id)
     have hownW7 := own_fr (own_fr hown hf6 (fun _ _ => id)) hfs (fun _ _ => id)
     have hf07 := (hf.then_ hf6).then_ hfs
     generalize w6.alloc (Obj.cells #[.string ⟨#[]⟩, .int .i64 0] 70) = w7 at *
     clear H hS hT hA hown hownR hf hf6 hfs
     have q0 : ¬ c < 0 := by omega
     have q1 : ¬ 16 ≤ c := by omega
     have y0 := hT7.cell 0
     have z0 := hT7.frozen 0
     go_upto_region 25 with fail
     have hT8 : Blk (w7.setCell ⟨gt, 0, none⟩ (.int .i64 c)) gt 29 #[.int .i64 c, .int .i64 n, .slice AR R.length cr, .slice AW W.length cw] := hT7.set_ 0 _
     have hA8 := hA7.far (p := ⟨gt, 0, none⟩) (fun e => by dsimp only at e; omega) (.int .i64 c)
     have hownR8 := own_setCell hownR7 hT7 (by decide) 0 (.int .i64 c)
     have hownW8 := own_setCell hownW7 hT7 (by decide) 0 (.int .i64 c)
     have hf08 : Fr (fun _ => False) w (w7.setCell ⟨gt, 0, none⟩ (.int .i64 c)) := hf07.setCell (p := ⟨gt, 0, none⟩) (fun h => absurd h (by dsimp only; omega)) _
     generalize w7.setCell ⟨gt, 0, none⟩ (.int .i64 c) = w8 at *
     clear hT7 hA7 hownR7 hownW7 hf07 y0 z0
     obtain ⟨_, _, eR, hRR⟩ := own_reads hownR8
     obtain ⟨_, _, eW, hWW⟩ := own_writes hownW8
     cases eR
     cases eW
     have HQ := ref10_Right (cr := cr) (cw := cw) (c := c) (n := n) hRR hWW
     rw [HT.out] at HQ
     have HQ := Lib.hid HQ
     have y0 := hT8.cell 0
     have y1 := hT8.cell 1
     have y2 := hT8.cell 2
     have y3 := hT8.cell 3
     have hgtA : w.heap.size < gt := by omega
     go_upto_region 27 with (go_at_call 30; refine HQ.out.mono ?_; rintro e w9 ⟨rfl, hf9⟩)
     have hT9 := hT8.fr hf9 id
     have hA9 := hA8.fr hf9 id
     have hRR9 := hRR.fr hf9 (fun _ _ => id)
     have hWW9 := hWW.fr hf9 (fun _ _ => id)
     have hf09 := hf08.then_ hf9
     clear y0 y1 y2 y3 hT8 hA8 hf08 hf9 HQ hownR8 hownW8 hRR hWW
     have y0 := hT9.cell 0
     have y1 := hT9.cell 1
     have y2 := hT9.cell 2
     have y3 := hT9.cell 3
     have a0 := hA9.cell 0
     have a1 := hA9.cell 1
     have a2 := hA9.cell 2
     have a3 := hA9.cell 3
     have z0 := hA9.frozen 0
     have z1 := hA9.frozen 1
     have z2 := hA9.frozen 2
     have z3 := hA9.frozen 3
     go_wp2
     have hA10 := (((hA9.set_ 0 (.int .i64 c)).set_ 1 (.int .i64 n)).set_ 2 (.slice AR R.length cr)).set_ 3 (.slice AW W.length cw)
     have hfz : Fr (fun k => k = w.heap.size) w9 ((((w9.setCell ⟨w.heap.size, 0, none⟩ (.int .i64 c)).setCell ⟨w.heap.size, 1, none⟩ (.int .i64 n)).setCell ⟨w.heap.size, 2, none⟩ (.slice AR R.length cr)).setCell ⟨w.heap.size, 3, none⟩ (.slice AW W.length cw)) := (((((Fr.refl (fun k => k = w.heap.size) w9).setCell (p := ⟨w.heap.size, 0, none⟩) (fun _ => rfl) _).setCell (p := ⟨w.heap.size, 1, none⟩) (fun _ => rfl) _).setCell (p := ⟨w.heap.size, 2, none⟩) (fun _ => rfl) _).setCell (p := ⟨w.heap.size, 3, none⟩) (fun _ => rfl) _)
     have hfe : Fr (fun _ => False) w _ := hf09.trans hfz (fun k hk e => by omega)
     have d0 := hA10.cell 0
     have d1 := hA10.cell 1
     have d2 := hA10.cell 2
     have d3 := hA10.cell 3
     generalize (((w9.setCell ⟨w.heap.size, 0, none⟩ (.int .i64 c)).setCell ⟨w.heap.size, 1, none⟩ (.int .i64 n)).setCell ⟨w.heap.size, 2, none⟩ (.slice AR R.length cr)).setCell ⟨w.heap.size, 3, none⟩ (.slice AW W.length cw) = wz at *
     refine bodyPost_ret (v := .tuple #[.agg #[.int .i64 c, .int .i64 n, .slice AR R.length cr, .slice AW W.length cw], .int .i64 0, .slice none 0 0]) (by simp [results, Tryz.results49, go_sem, d0, d1, d2, d3]) rfl ?_
     have hR10 := hRR9.fr hfz (fun k hk e => by omega)
     have hW10 := hWW9.fr hfz (fun k hk e => by omega)
     exact ⟨_, _, _, _, rfl, hR10.mono_ (fun k hk => by omega), hW10.mono_ (fun k hk => by omega), hfe⟩
def IntF (w : World) (F : Nat → Prop) (A : Option Addr) (l : List Int) : Prop := ∀ k x, l[k]? = some x → ∃ b o, A = some ⟨b, o, none⟩ ∧ F b ∧ w.cell? ⟨b, o + k, none⟩ = some (.int .i64 x)
theorem IntF.fr {S F : Nat → Prop} {w w' : World} {A : Option Addr} {l : List Int} (h : IntF w F A l) (hf : Fr S w w') (hS : ∀ k, F k → ¬ S k) : IntF w' F A l := fun k x hx => by
 obtain ⟨b, o, e, h1, h2⟩ := h k x hx
 exact ⟨b, o, e, h1, hf.cell_some h2 (hS b h1)⟩
theorem IntF.mono_ {w : World} {F F' : Nat → Prop} {A : Option Addr} {l : List Int} (h : IntF w F A l) (hF : ∀ k, F k → F' k) : IntF w F' A l := fun k x hx => by
 obtain ⟨b, o, e, h1, h2⟩ := h k x hx
 exact ⟨b, o, e, hF _ h1, h2⟩
def EntRow (w : World) (F : Nat → Prop) (A : Option Addr) (l : List (ByteArray × ByteArray × Int)) : Prop :=
 ∀ k x, l[k]? = some x → ∃ b o, A = some ⟨b, o, none⟩ ∧ F b ∧ w.cell? ⟨b, o + k * 3, none⟩ = some (.string x.1) ∧ w.cell? ⟨b, o + k * 3 + 1, none⟩ = some (.string x.2.1) ∧ w.cell? ⟨b, o + k * 3 + 2, none⟩ = some (.int .i64 x.2.2)
theorem EntRow.fr {S F : Nat → Prop} {w w' : World} {A : Option Addr} {l : List (ByteArray × ByteArray × Int)} (h : EntRow w F A l) (hf : Fr S w w') (hS : ∀ k, F k → ¬ S k) : EntRow w' F A l := fun k x hx => by
 obtain ⟨b, o, e, h1, h2, h3, h4⟩ := h k x hx
 exact ⟨b, o, e, h1, hf.cell_some h2 (hS b h1), hf.cell_some h3 (hS b h1), hf.cell_some h4 (hS b h1)⟩
theorem EntRow.mono_ {w : World} {F F' : Nat → Prop} {A : Option Addr} {l : List (ByteArray × ByteArray × Int)} (h : EntRow w F A l) (hF : ∀ k, F k → F' k) : EntRow w F' A l := fun k x hx => by
 obtain ⟨b, o, e, h1, h2⟩ := h k x hx
 exact ⟨b, o, e, hF _ h1, h2⟩
theorem entry_info : (Tryz.prog.info? 119).map (fun i => (i.zero, i.size, i.bytes)) = some (some (.agg #[.string ⟨#[]⟩, .string ⟨#[]⟩, .int .i64 0]), 3, 40) := by kernel_rfl
def entB (x : ByteArray × ByteArray × Int) : List Int := textB (bytesOf x.1) ++ textB (bytesOf x.2.1) ++ num8 x.2.2
def entsV (L : List (ByteArray × ByteArray × Int)) : List Value := L.flatMap fun x => [.string x.1, .string x.2.1, .int .i64 x.2.2]
theorem triples_at {α : Type} {f g h : α → Value} : ∀ {l : List α} {k : Nat} {x : α}, l[k]? = some x → (l.flatMap fun x => [f x, g x, h x])[k * 3]? = some (f x) ∧ (l.flatMap fun x => [f x, g x, h x])[k * 3 + 1]? = some (g x) ∧ (l.flatMap fun x => [f x, g x, h x])[k * 3 + 2]? = some (h x)
 | [], k, x, e => by simp at e
 | y :: l, 0, x, e => by simp at e; subst e; exact ⟨rfl, rfl, rfl⟩
 | y :: l, k + 1, x, e => by
  have e' : l[k]? = some x := by simpa using e
  obtain ⟨h1, h2, h3⟩ := triples_at (f := f) (g := g) (h := h) e'
  rw [List.flatMap_cons]
  refine ⟨?_, ?_, ?_⟩
  ·rw [show (k + 1) * 3 = k * 3 + 3 by omega]; simpa using h1
  ·rw [show (k + 1) * 3 + 1 = (k * 3 + 1) + 3 by omega]; simpa using h2
  ·rw [show (k + 1) * 3 + 2 = (k * 3 + 2) + 3 by omega]; simpa using h3
theorem own_ents {w : World} {base : Nat} {v : Value} {L : List (ByteArray × ByteArray × Int)} (h : w.ownsRow base 119 3 v L.length (entsV L)) : ∃ A c, v = .slice A L.length c ∧ EntRow w (fun k => base ≤ k) A L := by
 obtain ⟨A, c, rfl, _, hat⟩ := own_form h
 refine ⟨A, c, rfl, fun k x hx => ?_⟩
 obtain ⟨h1, h2, h3⟩ := triples_at (f := fun x => .string x.1) (g := fun x => .string x.2.1) (h := fun x => .int .i64 x.2.2) hx
 obtain ⟨b, rfl, hb, c1⟩ := hat _ _ h1
 obtain ⟨b', he, _, c2⟩ := hat _ _ h2
 cases he
 obtain ⟨b', he, _, c3⟩ := hat _ _ h3
 cases he
 exact ⟨b, 0, rfl, hb, by rw [Nat.zero_add]; exact c1, by rw [Nat.zero_add]; exact c2, by rw [Nat.zero_add]; exact c3⟩
theorem own_ints {w : World} {base : Nat} {e : TypeId} {v : Value} {l : List Int} (h : w.ownsRow base e 1 v l.length (num64V l)) : ∃ A c, v = .slice A l.length c ∧ IntF w (fun k => base ≤ k) A l := by
 obtain ⟨A, c, rfl, _, hat⟩ := own_form h
 refine ⟨A, c, rfl, fun k x hx => ?_⟩
 obtain ⟨b, rfl, hb, c1⟩ := hat k (.int .i64 x) (by rw [num64V, List.getElem?_map, hx]; rfl)
 exact ⟨b, 0, rfl, hb, by rw [Nat.zero_add]; exact c1⟩
theorem cell_three (w : World) (a b d : Value) (t : TypeId) : ∀ j u, [a, b, d][j]? = some u → (w.alloc (.cells #[a, b, d] t)).cell? ⟨w.heap.size, j, none⟩ = some u := by
 intro j u hu
 have := (Blk.new w t #[a, b, d]).cell j
 rw [this]
 simpa using hu
def ordB (kind : Int) (t0 t1 t2 : List Int) (many first : Int) (L : List (ByteArray × ByteArray × Int)) (Bs : List Int) : List Int :=
 num8 kind ++ (textB t0 ++ (textB t1 ++ (textB t2 ++ (num8 many ++ (num8 first ++ (num8 (L.length : Int) ++ (L.flatMap entB ++ numsB Bs)))))))
theorem orderB_ordB (kind : Int) (t0 t1 t2 : List Int) : orderB kind t0 t1 t2 = ordB kind t0 t1 t2 0 0 [] [] := by
 simp [orderB, ordB]
def CertGot (w : World) (G D : Int) (S : List Int) (e : Ending) (w' : World) : Prop :=
 ∃ CA cc, e = .returned (.tuple #[.agg #[.int .i64 G, .int .i64 D, .slice CA S.length cc], .int .i64 0, .slice none 0 0]) ∧ IntF w' (fun k => w.heap.size ≤ k) CA S ∧ Fr (fun _ => False) w w'
structure GO (w0 w : World) (a gt g : Nat) (cs : Array Value) (s : List Int) (rows : List (Option Addr × List Int)) : Prop where
 res : Blk w a 62 #[.int .i64 0, .int .i64 0, .int .i64 0, .slice none 0 0, .slice none 0 0, .int .i64 0, .int .i64 0, .bool false, .string ⟨#[]⟩, .string ⟨#[]⟩, .int .i64 0, .int .i64 0, .int .i64 0, .int .i64 0, .int .i64 0, .int .i64 0, .slice none 0 0, .int .i64 0, .int .i64 0, .slice none 0 0, .slice none 0 0]
 t : Blk w gt 62 cs
 r : RS w g s
 rows : ∀ p ∈ rows, ByteRow w (U8 w) p.1 p.2
 f : Fr (fun _ => False) w0 w
 ha : w0.heap.size = a
 hag : a < gt
 hg : a < g
theorem Blk.setRow_ {w : World} {g : Nat} {t : TypeId} {cs ds : Array Value} (h : Blk w g t cs) : Blk (w.setRow g ds) g t ds := by
 have hlt := h.lt
 have e := h
 simp only [Blk, World.setRow] at e ⊢
 simp [Array.getElem?_modify, e]
theorem Fr.setRow_ {w : World} {g : Nat} {ds : Array Value} : Fr (fun k => k = g) w (w.setRow g ds) := by
 refine ⟨rfl, rfl, rfl, by simp [World.setRow], fun k _ hk => ?_⟩
 have : g ≠ k := fun e => hk e.symm
 simp [World.setRow, Array.getElem?_modify, this]
theorem results_row3 {P : Program} {fn : Func} {p i j : Tmp} {ty : TypeId} (h : fn.results = #[.cell p ty, .tmp i, .tmp j]) (tmps : Array Value) (w : World) (g : Nat) (t : TypeId) (cs : Array Value) (fr : Nat × Nat) (d : TypeDesc)
  (hp : tmps.getD p undef = .pointer (some ⟨g, 0, none⟩)) (hg : w.heap[g]? = some (.cells cs t fr))
  (hu : P.underlying ty = some d) (hd : (match d with | .struct _ | .array _ _ => true | _ => false) = true) (hi : (P.info? ty).map (·.size) = some cs.size) {vi vj : Value} (h1 : tmps.getD i undef = vi) (h2 : tmps.getD j undef = vj) :
  (results fn tmps).run P w = .ok (.tuple #[.agg cs, vi, vj]) w := by
 have hp' : tmps[p]?.getD undef = .pointer (some ⟨g, 0, none⟩) := by simpa using hp
 have h1' : tmps[i]?.getD undef = vi := by simpa using h1
 have h2' : tmps[j]?.getD undef = vj := by simpa using h2
 simp [results, h, hp', h1', h2', asAddr, run_loadVar_row w g t ty cs fr d hg hu hd hi]
theorem Blk.there {w : World} {g : Nat} {t : TypeId} {cs : Array Value} (h : Blk w g t cs) {o n : Nat} (hn : o + n ≤ cs.size) : w.there g o n := fun j hj => by
 rw [h.cell, h.frozen]
 have : o + j < cs.size := by omega
 simp [this]
def entOk (x : ByteArray × ByteArray × Int) : Bool := !decide ((64 : Int) < (x.2.1.size : Int))
def risesE (L : List (ByteArray × ByteArray × Int)) : Bool := okTo entOk L L.length && decide ((L.length : Int) ≤ 1024)
theorem risesE_no {l : List (ByteArray × ByteArray × Int)} {k : Nat} (hk : k < l.length) (h1 : okAt entOk l k = false) : risesE l = false := by
 unfold risesE
 have : okTo entOk l l.length = false := by
  unfold okTo
  rw [List.all_eq_false]
  exact ⟨k, List.mem_range.2 hk, by simp [h1]⟩
 rw [this]
 rfl
theorem less_or : ∀ x y : List UInt8, (Op.bytesLess x y || x == y) = !Op.bytesLess y x
 | [], [] => rfl
 | [], _ :: _ => rfl
 | _ :: _, [] => rfl
 | a :: x, b :: y => by
  have ih := less_or x y
  unfold Op.bytesLess
  by_cases h : a < b
  ·have h2 : ¬ b < a := fun h' => absurd (UInt8.lt_trans h h') (UInt8.lt_irrefl _)
   have h3 : ¬ b = a := fun e => by rw [e] at h; exact UInt8.lt_irrefl _ h
   simp [h, h2, h3]
  ·by_cases h2 : b < a
   ·have h3 : ¬ a = b := fun e => by rw [e] at h2; exact UInt8.lt_irrefl _ h2
    simp [h, h2, h3]
   ·have h3 : a = b := UInt8.le_antisymm (UInt8.not_lt.1 h2) (UInt8.not_lt.1 h)
    subst h3
    simpa [h] using ih
theorem merkle_right {w : World} {F : Nat → Prop} {A : Option Addr} {l : List (ByteArray × ByteArray × Int)} {cap : Nat} (h : EntRow w F A l) (hll : l.length ≤ 1000000) :
  Calls Tryz.prog 113 #[.slice A l.length cap] w (OkB w (risesE l)) := by
 go_enter Tryz.func113, Tryz.ntmps113
 go_wp2_with fail
 go_loopw [7] (fun ix wr => ∃ k : Nat, k ≤ l.length ∧ ix = .int .i64 k ∧ Hid (okTo entOk l k = true) ∧ Fr (fun _ => False) w wr) (fun ix _ => l.length - (intOf ix).toNat)
 case atStart => exact ⟨0, by omega, rfl, rfl, Fr.refl _ _⟩
 case round =>
  obtain ⟨k, hk, rfl, hok, hf⟩ := hrel
  by_cases hlt : k < l.length
  ·have hlt' : (k : Int) < (l.length : Int) := by omega
   obtain ⟨x, hx⟩ : ∃ x, l[k]? = some x := ⟨l[k], List.getElem?_eq_getElem hlt⟩
   obtain ⟨b, o, rfl, hFb, hc0, hc1, hc2⟩ := (h.fr hf (fun _ _ => id)) k x hx
   have HX := Lib.hid hx
   have HR := Lib.hid h
   have d0 := hc0
   have d1 := hc1
   have d2 := hc2
   clear hx h hc0 hc1 hc2
   go_upto_region 4 with fail
   generalize hgx : wr.heap.size = gx
   have hb0 : Blk (wr.alloc (Obj.cells #[.string x.1, .string x.2.1, .int .i64 x.2.2] 119)) gx 119 #[.string x.1, .string x.2.1, .int .i64 x.2.2] := Blk.new_ _ _ _ hgx.symm
   have hfa : Fr (fun _ => False) wr (wr.alloc (Obj.cells #[.string x.1, .string x.2.1, .int .i64 x.2.2] 119)) := (Fr.refl _ _).alloc _
   generalize wr.alloc (Obj.cells #[.string x.1, .string x.2.1, .int .i64 x.2.2] 119) = wa at hb0 hfa ⊢
   have HGX := Lib.hid hgx
   have hfw := hf.then_ hfa
   clear d0 d1 d2 hgx
   have y0 := hb0.cell 0
   have y1 := hb0.cell 1
   by_cases c16 : (16 : Int) < x.1.size
   ·have eo : okAt entOk l k = false := by unfold okAt; rw [HX.out]; simp [c16]
    have q16 : decide ((16 : Int) < x.1.size) = true := decide_eq_true c16
    have HNO := Lib.hid (risesE_no hlt eo)
    clear eo
    go_quiet (fail)
    go_wp2
    go_ret
    rw [HNO.out]
    exact ⟨rfl, hfw.drewN _⟩
   ·have q16 : decide ((16 : Int) < x.1.size) = false := decide_eq_false c16
    by_cases c64 : (64 : Int) < x.2.1.size
    ·have eo : okAt entOk l k = false := by unfold okAt; rw [HX.out]; simp [entOk, c64]
     have q64 : decide ((64 : Int) < x.2.1.size) = true := decide_eq_true c64
     have HNO := Lib.hid (risesE_no hlt eo)
     clear eo
     go_quiet (fail)
     go_wp2
     go_ret
     rw [HNO.out]
     exact ⟨rfl, hfw.drewN _⟩
    ·have q64 : decide ((64 : Int) < x.2.1.size) = false := decide_eq_false c64
     cases k with
     | zero =>
      have eo : okAt entOk l 0 = true := by unfold okAt; rw [HX.out]; simp [entOk, c64, c16]
      have hn := okTo_succ entOk hok.out eo
      have HN := Lib.hid hn
      clear eo hn
      go_quiet (fail)
      go_wp2_with fail
      go_roundw
      case rel => exact ⟨1, by omega, by go_num, HN, hfw.drewN _⟩
      case measure => simp [intOf]; omega
     | succ j =>
      obtain ⟨y, hy⟩ : ∃ y, l[j]? = some y := ⟨l[j], List.getElem?_eq_getElem (by omega)⟩
      obtain ⟨b', o', hbo, _, e0, _, _⟩ := (HR.out.fr hfw (fun _ _ => id)) j y hy
      cases hbo
      have eo : okAt entOk l (j + 1) = strLess y.1 x.1 := by unfold okAt; rw [HX.out]; dsimp only; rw [hy]; simp [entOk, c64, c16]
      have hj : (j : Int) < (l.length : Int) := by omega
      by_cases hs : strLess y.1 x.1 = true
      ·have hsl : (Op.bytesLess x.1.toList y.1.toList || x.1.toList == y.1.toList) = false := by rw [less_or, show Op.bytesLess y.1.toList x.1.toList = true from hs]; rfl
       rw [Bool.or_eq_false_iff] at hsl
       obtain ⟨hs1, hs2⟩ := hsl
       have hn := okTo_succ entOk hok.out (eo.trans hs)
       have HN := Lib.hid hn
       clear eo hn hs hy
       go_quiet (fail)
       go_wp2_with fail
       go_roundw
       case rel => exact ⟨j + 1 + 1, by omega, by go_num, HN, hfw.drewN _⟩
       case measure => simp [intOf]; omega
      ·have hsl : (Op.bytesLess x.1.toList y.1.toList || x.1.toList == y.1.toList) = true := by rw [less_or, show Op.bytesLess y.1.toList x.1.toList = false by simpa [strLess] using hs]; rfl
       have HNO := Lib.hid (risesE_no hlt (eo.trans (by simpa using hs)))
       clear eo hs hy
       go_quiet (fail)
       go_wp2
       go_ret
       rw [HNO.out]
       exact ⟨rfl, hfw.drewN _⟩
  ·obtain rfl : k = l.length := by omega
   have he : risesE l = decide ((l.length : Int) ≤ 1024) := by unfold risesE; rw [hok.out]; rfl
   have HE := Lib.hid he
   clear he
   by_cases q : (l.length : Int) ≤ 1024
   ·go_wp2
    go_ret
    rw [HE.out, decide_eq_true q]
    exact ⟨rfl, hf⟩
   ·go_wp2
    go_ret
    rw [HE.out, decide_eq_false (by omega)]
    exact ⟨rfl, hf⟩
abbrev Ent : Type := ByteArray × ByteArray × Int
theorem run_clear_big {P : Program} (w : World) (t e ty : TypeId) (z : Value) (ht : P.underlying t = some (.slice e)) (hv : ∀ w, (zeroValue e).run P w = .ok z w) (b o n c : Nat) (hn : 0 < n) (h1 : ∀ v ∈ (Builtin.zeroCells z.cells n).toList, v.oneCell' = true)
  (hc : ∀ j, j < n * z.cells.size → (w.cell? ⟨b, o + j, none⟩).isSome = true) (hf : ∀ j, j < n * z.cells.size → w.frozen? ⟨b, o + j, none⟩ = false) :
  (Builtin.clear_ #[t] ty #[.slice (some ⟨b, o, none⟩) n c]).run P w = .ok (.tuple #[]) (w.setCells b o (Builtin.zeroCells z.cells n).toList) := by
 have hl : (Builtin.zeroCells z.cells n).toList.length = n * z.cells.size := by simp [Builtin.zeroCells]
 have hst := run_storeCells_cells (P := P) b o (Builtin.zeroCells z.cells n).toList 0 w (by rw [hl]; simpa using hc) (by rw [hl]; simpa using hf) h1
 simp only [Nat.add_zero] at hst
 obtain ⟨m, rfl⟩ : ∃ m, n = m + 1 := ⟨n - 1, by omega⟩
 simp [Builtin.clear_, run_underlying ht, hv, hst]
theorem Fr.setCells_ {S : Nat → Prop} {a : World} {b : Nat} (hb : b < a.heap.size → S b) : ∀ (vs : List Value) (o : Nat) {w : World}, Fr S a w → Fr S a (w.setCells b o vs)
 | [], _, _, h => h
 | v :: r, o, _, h => Fr.setCells_ hb r (o + 1) (h.setCell (p := ⟨b, o, none⟩) hb v)
def EntA (cs : Array Value) (d : Array Ent) : Prop :=
 ∀ k x, d[k]? = some x → cs[k * 3]? = some (.string x.1) ∧ cs[k * 3 + 1]? = some (.string x.2.1) ∧ cs[k * 3 + 2]? = some (.int .i64 x.2.2)
theorem EntA.lt {cs : Array Value} {d : Array Ent} (h : EntA cs d) {k : Nat} (hk : k < d.size) : k * 3 + 2 < cs.size := by
 obtain ⟨_, _, h3⟩ := h k _ (Array.getElem?_eq_getElem hk)
 exact (Array.getElem?_eq_some_iff.1 h3).1
theorem EntA.set_ {cs : Array Value} {d : Array Ent} (h : EntA cs d) {i : Nat} (hi : i < d.size) (x : Ent) :
  EntA (((cs.setIfInBounds (i * 3) (.string x.1)).setIfInBounds (i * 3 + 1) (.string x.2.1)).setIfInBounds (i * 3 + 1 + 1) (.int .i64 x.2.2)) (d.setIfInBounds i x) := by
 have hz := h.lt hi
 intro k y hy
 by_cases e : k = i
 ·subst e
  have : y = x := by
   rw [Array.getElem?_setIfInBounds, if_pos rfl, if_pos hi] at hy
   exact (Option.some.inj hy).symm
  subst this
  simp only [Array.getElem?_setIfInBounds, Array.size_setIfInBounds]
  refine ⟨?_, ?_, ?_⟩
  ·rw [if_neg (by omega), if_neg (by omega), if_pos trivial, if_pos (by omega)]
  ·rw [if_neg (by omega), if_pos trivial, if_pos (by omega)]
  ·rw [if_pos trivial, if_pos (by omega)]
 ·rw [Array.getElem?_setIfInBounds, if_neg (fun h => e h.symm)] at hy
  obtain ⟨h1, h2, h3⟩ := h k y hy
  simp only [Array.getElem?_setIfInBounds, Array.size_setIfInBounds]
  refine ⟨?_, ?_, ?_⟩
  ·rw [if_neg (by omega), if_neg (by omega), if_neg (by omega)]; exact h1
  ·rw [if_neg (by omega), if_neg (by omega), if_neg (by omega)]; exact h2
  ·rw [if_neg (by omega), if_neg (by omega), if_neg (by omega)]; exact h3
def dropE (ff tt : ByteArray) (x : Ent) : Bool := Op.bytesLess x.1.toList ff.toList || (!tt.toList.isEmpty && !Op.bytesLess x.1.toList tt.toList)
def IdxP (w : World) (p : Ent → Bool) (l : List Ent) (e : Ending) (w' : World) : Prop :=
 (∃ i : Int, e = .returned (.int .i64 i) ∧ ((i = -1 ∧ ∀ (k : Nat) x, l[k]? = some x → p x = false) ∨ ∃ k : Nat, i = (k : Int) ∧ k < l.length ∧ (∀ (j : Nat) x, j < k → l[j]? = some x → p x = false) ∧ ∀ x, l[k]? = some x → p x = true)) ∧ Fr (fun _ => False) w w'
theorem indexEntT {w : World} {F : Nat → Prop} {A : Option Addr} {l : List Ent} {cap : Nat} {p : Ent → Bool} {sb : Nat} (h : EntRow w F A l) (hll : l.length ≤ 1000000) (hP : ∀ w' x, Fr (fun _ => False) w w' → Calls Tryz.prog 83 #[.agg #[.string x.1, .string x.2.1, .int .i64 x.2.2], .pointer (some ⟨sb, 0, none⟩)] w' (OkB w' (p x))) :
  Calls Tryz.prog 112 #[.slice A l.length cap, .func (.func 83) #[] #[.pointer (some ⟨sb, 0, none⟩)]] w (IdxP w p l) := by
 have HP := Lib.hid hP
 clear hP
 go_enter Tryz.func112, Tryz.ntmps112
 go_wp2_with fail
 go_loopw [8] (fun i wr => ∃ k : Nat, k ≤ l.length ∧ i = .int .i64 k ∧ Hid (∀ (j : Nat) x, j < k → l[j]? = some x → p x = false) ∧ Fr (fun _ => False) w wr) (fun i _ => l.length - (intOf i).toNat)
 case atStart => exact ⟨0, by omega, rfl, fun j s h _ => by omega, Fr.refl _ _⟩
 case round =>
  obtain ⟨k, hk, rfl, hsh, hf⟩ := hrel
  by_cases hlt : k < l.length
  ·obtain ⟨x, hx0⟩ : ∃ x, l[k]? = some x := ⟨l[k], List.getElem?_eq_getElem hlt⟩
   obtain ⟨b, o, rfl, hFb, hc0, hc1, hc2⟩ := (h.fr hf (fun _ _ => id)) k x hx0
   have hlt' : (k : Int) < (l.length : Int) := by omega
   have HX := Lib.hid hx0
   have HK := Lib.hid (HP.out wr x hf)
   clear h hx0
   cases hp : p x with
   | false =>
    rw [hp] at HK
    have HPX := Lib.hid hp
    clear hp
    go_wp2_with (first
     | (go_at_call 83; refine HK.out.mono ?_; rintro e w1 ⟨rfl, hf1⟩))
    go_roundw
    case rel =>
     refine ⟨k + 1, by omega, by go_num, ?_, hf.then_ hf1⟩
     intro j v hj hs
     by_cases hjk : j = k
     ·subst hjk
      have e := HX.out
      rw [hs] at e
      rw [Option.some.inj e]
      exact HPX.out
     ·exact hsh.out j v (by omega) hs
    case measure => simp [intOf]; omega
   | true =>
    rw [hp] at HK
    have HPX := Lib.hid hp
    clear hp
    go_wp2_with (first
     | (go_at_call 83; refine HK.out.mono ?_; rintro e w1 ⟨rfl, hf1⟩))
    go_ret
    have hhit : ∀ y, l[k]? = some y → p y = true := fun y hy => by
     have e := HX.out
     rw [hy] at e
     rw [Option.some.inj e]
     exact HPX.out
    exact ⟨⟨_, rfl, .inr ⟨k, rfl, hlt, hsh.out, hhit⟩⟩, hf.then_ hf1⟩
  ·obtain rfl : k = l.length := by omega
   clear h
   go_wp2
   go_ret
   have hno : ∀ (j : Nat) x, l[j]? = some x → p x = false := fun j x hj => hsh.out j x (List.getElem?_eq_some_iff.1 hj).1 hj
   exact ⟨⟨_, rfl, .inl ⟨rfl, hno⟩⟩, hf⟩
theorem indexEntF {w : World} {F : Nat → Prop} {A : Option Addr} {l : List Ent} {cap : Nat} {p : Ent → Bool} (h : EntRow w F A l) (hll : l.length ≤ 1000000) (hP : ∀ w' x, Fr (fun _ => False) w w' → Calls Tryz.prog 179 #[.agg #[.string x.1, .string x.2.1, .int .i64 x.2.2]] w' (OkB w' (p x))) :
  Calls Tryz.prog 112 #[.slice A l.length cap, .func (.func 179) #[] #[]] w (IdxP w p l) := by
 have HP := Lib.hid hP
 clear hP
 go_enter Tryz.func112, Tryz.ntmps112
 go_wp2_with fail
 go_loopw [8] (fun i wr => ∃ k : Nat, k ≤ l.length ∧ i = .int .i64 k ∧ Hid (∀ (j : Nat) x, j < k → l[j]? = some x → p x = false) ∧ Fr (fun _ => False) w wr) (fun i _ => l.length - (intOf i).toNat)
 case atStart => exact ⟨0, by omega, rfl, fun j s h _ => by omega, Fr.refl _ _⟩
 case round =>
  obtain ⟨k, hk, rfl, hsh, hf⟩ := hrel
  by_cases hlt : k < l.length
  ·obtain ⟨x, hx0⟩ : ∃ x, l[k]? = some x := ⟨l[k], List.getElem?_eq_getElem hlt⟩
   obtain ⟨b, o, rfl, hFb, hc0, hc1, hc2⟩ := (h.fr hf (fun _ _ => id)) k x hx0
   have hlt' : (k : Int) < (l.length : Int) := by omega
   have HX := Lib.hid hx0
   have HK := Lib.hid (HP.out wr x hf)
   clear h hx0
   cases hp : p x with
   | false =>
    rw [hp] at HK
    have HPX := Lib.hid hp
    clear hp
    go_wp2_with (first
     | (go_at_call 179; refine HK.out.mono ?_; rintro e w1 ⟨rfl, hf1⟩))
    go_roundw
    case rel =>
     refine ⟨k + 1, by omega, by go_num, ?_, hf.then_ hf1⟩
     intro j v hj hs
     by_cases hjk : j = k
     ·subst hjk
      have e := HX.out
      rw [hs] at e
      rw [Option.some.inj e]
      exact HPX.out
     ·exact hsh.out j v (by omega) hs
    case measure => simp [intOf]; omega
   | true =>
    rw [hp] at HK
    have HPX := Lib.hid hp
    clear hp
    go_wp2_with (first
     | (go_at_call 179; refine HK.out.mono ?_; rintro e w1 ⟨rfl, hf1⟩))
    go_ret
    have hhit : ∀ y, l[k]? = some y → p y = true := fun y hy => by
     have e := HX.out
     rw [hy] at e
     rw [Option.some.inj e]
     exact HPX.out
    exact ⟨⟨_, rfl, .inr ⟨k, rfl, hlt, hsh.out, hhit⟩⟩, hf.then_ hf1⟩
  ·obtain rfl : k = l.length := by omega
   clear h
   go_wp2
   go_ret
   have hno : ∀ (j : Nat) x, l[j]? = some x → p x = false := fun j x hj => hsh.out j x (List.getElem?_eq_some_iff.1 hj).1 hj
   exact ⟨⟨_, rfl, .inl ⟨rfl, hno⟩⟩, hf⟩
theorem told1 {w : World} {sb : Nat} {ff tt : ByteArray} (k3 : w.cell? ⟨sb, 3, none⟩ = some (.string ff)) (k4 : w.cell? ⟨sb, 4, none⟩ = some (.string tt)) (x : Ent) :
  Calls Tryz.prog 83 #[.agg #[.string x.1, .string x.2.1, .int .i64 x.2.2], .pointer (some ⟨sb, 0, none⟩)] w (OkB w (dropE ff tt x)) := by
 have hB := Blk.new w 119 #[.string x.1, .string x.2.1, .int .i64 x.2.2]
 have hf : Fr (fun _ => False) w (w.alloc (Obj.cells #[.string x.1, .string x.2.1, .int .i64 x.2.2] 119)) := (Fr.refl _ _).alloc _
 have k3 := hf.cell_some k3 id
 have k4 := hf.cell_some k4 id
 go_enter Tryz.func83, Tryz.ntmps83
 go_upto_region 1 with fail
 generalize w.alloc (Obj.cells #[.string x.1, .string x.2.1, .int .i64 x.2.2] 119) = w1 at *
 have y0 := hB.cell 0
 clear hB
 have HF := Lib.hid hf
 clear hf
 have he : dropE ff tt x = (Op.bytesLess x.1.toList ff.toList || (!tt.toList.isEmpty && !Op.bytesLess x.1.toList tt.toList)) := rfl
 have HE := Lib.hid he
 clear he
 cases h1 : Op.bytesLess x.1.toList ff.toList with
 | true =>
  go_wp2_with fail
  go_ret
  exact ⟨by rw [HE.out, h1]; rfl, HF.out⟩
 | false =>
  cases h2 : tt.toList.isEmpty with
  | true =>
   go_wp2_with fail
   go_ret
   exact ⟨by rw [HE.out, h1, h2]; rfl, HF.out⟩
  | false =>
   go_wp2_with fail
   go_ret
   exact ⟨by rw [HE.out, h1, h2]; rfl, HF.out⟩
def longE (x : Ent) : Bool := decide ((16 : Int) < (x.1.size : Int)) || decide ((64 : Int) < (x.2.1.size : Int))
theorem fits1 (w : World) (x : Ent) : Calls Tryz.prog 179 #[.agg #[.string x.1, .string x.2.1, .int .i64 x.2.2]] w (OkB w (longE x)) := by
 have hB := Blk.new w 119 #[.string x.1, .string x.2.1, .int .i64 x.2.2]
 have hf : Fr (fun _ => False) w (w.alloc (Obj.cells #[.string x.1, .string x.2.1, .int .i64 x.2.2] 119)) := (Fr.refl _ _).alloc _
 have he : longE x = (decide ((16 : Int) < (x.1.size : Int)) || decide ((64 : Int) < (x.2.1.size : Int))) := rfl
 have HE := Lib.hid he
 clear he
 go_enter Tryz.func179, Tryz.ntmps179
 go_upto_region 1 with fail
 generalize w.alloc (Obj.cells #[.string x.1, .string x.2.1, .int .i64 x.2.2] 119) = w1 at *
 have y0 := hB.cell 0
 have y1 := hB.cell 1
 clear hB
 have HF := Lib.hid hf
 clear hf
 by_cases c16 : (16 : Int) < (x.1.size : Int)
 ·have q16 : decide ((16 : Int) < (x.1.size : Int)) = true := decide_eq_true c16
  go_wp2_with fail
  go_ret
  exact ⟨by rw [HE.out, q16]; rfl, HF.out⟩
 ·have q16 : decide ((16 : Int) < (x.1.size : Int)) = false := decide_eq_false c16
  by_cases c64 : (64 : Int) < (x.2.1.size : Int)
  ·have q64 : decide ((64 : Int) < (x.2.1.size : Int)) = true := decide_eq_true c64
   go_wp2_with fail
   go_ret
   exact ⟨by rw [HE.out, q16, q64]; rfl, HF.out⟩
  ·have q64 : decide ((64 : Int) < (x.2.1.size : Int)) = false := decide_eq_false c64
   go_wp2_with fail
   go_ret
   exact ⟨by rw [HE.out, q16, q64]; rfl, HF.out⟩
theorem containsEnt {w : World} {F : Nat → Prop} {A : Option Addr} {l : List Ent} {cap : Nat} (h : EntRow w F A l) (hll : l.length ≤ 1000000) (hno : ∀ x ∈ l, longE x = false) :
  Calls Tryz.prog 181 #[.slice A l.length cap, .func (.func 179) #[] #[]] w (OkB w false) := by
 have HI := Lib.hid (indexEntF (cap := cap) h hll (fun w' x _ => fits1 w' x))
 have HNO := Lib.hid hno
 clear h hll hno
 go_enter Tryz.func181, Tryz.ntmps181
 go_upto_region 1 with fail
 go_wp2_with (go_at_call 112; refine HI.out.mono ?_; rintro e w1 ⟨⟨i, rfl, hi⟩, hf1⟩; obtain rfl : i = -1 := (by
  rcases hi with ⟨rfl, _⟩ | ⟨k, rfl, hk, _, hh⟩
  ·rfl
  ·have h1 := hh _ (List.getElem?_eq_getElem hk)
   rw [HNO.out _ (List.getElem_mem hk)] at h1
   cases h1); clear hi)
 go_ret
 exact ⟨rfl, hf1⟩
theorem intRow_blk {w : World} {g : Nat} {t : TypeId} {l : List Int} (h : Blk w g t (intsA l)) : IntRow w w.heap.size (some ⟨g, 0, none⟩) l := by
 intro k x hx
 refine ⟨g, 0, rfl, h.lt, ?_⟩
 rw [Nat.zero_add, h.cell, intsA_at hx]
theorem fits2 (w : World) (d : Int) (h : 0 ≤ d ∧ d ≤ 2147483647) : Calls Tryz.prog 180 #[.int .i64 d] w (OkB w false) := by
 have hB : Blk (w.alloc (Obj.cells #[.int .i64 d] 3)) w.heap.size 3 (intsA [d]) := Blk.new _ _ _
 have hf : Fr (fun _ => False) w (w.alloc (Obj.cells #[.int .i64 d] 3)) := (Fr.refl _ _).alloc _
 have HB := say_betweenAll (cap := 1) (intRow_blk hB) (by simp) (by simp) 2147483647
 rw [show Betw 2147483647 [d] = true by simp [Betw, h.1, h.2]] at HB
 replace HB := Lib.hid HB
 clear hB h
 go_enter Tryz.func180, Tryz.ntmps180
 go_wp2_with (go_at_call 125; refine HB.out.mono ?_; rintro e w1 ⟨rfl, rfl⟩)
 go_ret
 exact ⟨rfl, hf⟩
theorem indexInt {w : World} {F : Nat → Prop} {A : Option Addr} {l : List Int} {cap : Nat} (h : IntF w F A l) (hll : l.length ≤ 1000000) (hok : ∀ d ∈ l, 0 ≤ d ∧ d ≤ 2147483647) :
  Calls Tryz.prog 186 #[.slice A l.length cap, .func (.func 180) #[] #[]] w fun e w' => e = .returned (.int .i64 (-1)) ∧ Fr (fun _ => False) w w' := by
 have HOK := Lib.hid hok
 clear hok
 go_enter Tryz.func186, Tryz.ntmps186
 go_wp2_with fail
 go_loopw [8] (fun i wr => ∃ k : Nat, k ≤ l.length ∧ i = .int .i64 k ∧ Fr (fun _ => False) w wr) (fun i _ => l.length - (intOf i).toNat)
 case atStart => exact ⟨0, by omega, rfl, Fr.refl _ _⟩
 case round =>
  obtain ⟨k, hk, rfl, hf⟩ := hrel
  by_cases hlt : k < l.length
  ·obtain ⟨x, hx0⟩ : ∃ x, l[k]? = some x := ⟨l[k], List.getElem?_eq_getElem hlt⟩
   obtain ⟨b, o, rfl, hFb, hc0⟩ := (h.fr hf (fun _ _ => id)) k x hx0
   have hlt' : (k : Int) < (l.length : Int) := by omega
   have HK := Lib.hid (fits2 wr x (HOK.out x (List.mem_of_getElem? hx0)))
   clear h hx0
   go_wp2_with (first
    | (go_at_call 180; refine HK.out.mono ?_; rintro e w1 ⟨rfl, hf1⟩))
   go_roundw
   case rel => exact ⟨k + 1, by omega, by go_num, hf.then_ hf1⟩
   case measure => simp [intOf]; omega
  ·obtain rfl : k = l.length := by omega
   clear h
   go_wp2
   go_ret
   exact ⟨rfl, hf⟩
theorem containsInt {w : World} {F : Nat → Prop} {A : Option Addr} {l : List Int} {cap : Nat} (h : IntF w F A l) (hll : l.length ≤ 1000000) (hok : ∀ d ∈ l, 0 ≤ d ∧ d ≤ 2147483647) :
  Calls Tryz.prog 182 #[.slice A l.length cap, .func (.func 180) #[] #[]] w (OkB w false) := by
 have HI := Lib.hid (indexInt (cap := cap) h hll hok)
 clear h hll hok
 go_enter Tryz.func182, Tryz.ntmps182
 go_wp2_with (go_at_call 186; refine HI.out.mono ?_; rintro e w1 ⟨rfl, hf1⟩)
 go_ret
 exact ⟨rfl, hf1⟩
structure FitP (l : List Ent) (Bs : List Int) : Prop where
 ll : l.length ≤ 1024
 long : ∀ x ∈ l, longE x = false
 bl : Bs.length ≤ 1024
 d : ∀ d ∈ Bs, 0 ≤ d ∧ d ≤ 2147483647
theorem fits_ok {w : World} {F : Nat → Prop} {LA BA : Option Addr} {lc bc : Nat} {l : List Ent} {Bs : List Int} (hE : EntRow w F LA l) (hV : IntF w F BA Bs) (hfit : FitP l Bs) :
  Calls Tryz.prog 156 #[.agg #[.int .i64 l.length, .int .i64 0, .slice LA l.length lc, .slice BA Bs.length bc]] w (OkB w true) := by
 have hb : Betw 1024 [(l.length : Int), 0, l.length, Bs.length] = true := by
  have := hfit.ll; have := hfit.bl
  simp [Betw]
  omega
 have hP0 : Blk (w.alloc (Obj.cells #[.int .i64 l.length, .int .i64 0, .slice LA l.length lc, .slice BA Bs.length bc] 60)) w.heap.size 60 #[.int .i64 l.length, .int .i64 0, .slice LA l.length lc, .slice BA Bs.length bc] := Blk.new _ _ _
 have hf0 : Fr (fun _ => False) w (w.alloc (Obj.cells #[.int .i64 l.length, .int .i64 0, .slice LA l.length lc, .slice BA Bs.length bc] 60)) := (Fr.refl _ _).alloc _
 go_enter Tryz.func156, Tryz.ntmps156
 go_upto_region 1 with fail
 generalize w.alloc (Obj.cells #[.int .i64 l.length, .int .i64 0, .slice LA l.length lc, .slice BA Bs.length bc] 60) = w0 at *
 have c0 := hP0.cell 0
 have c1 := hP0.cell 1
 have c2 := hP0.cell 2
 have c3 := hP0.cell 3
 have hI : Blk (w0.alloc (Obj.cells #[.int .i64 l.length, .int .i64 0, .int .i64 l.length, .int .i64 Bs.length] 3)) w0.heap.size 3 (intsA [(l.length : Int), 0, l.length, Bs.length]) := Blk.new _ _ _
 have hf1 : Fr (fun _ => False) w0 (w0.alloc (Obj.cells #[.int .i64 l.length, .int .i64 0, .int .i64 l.length, .int .i64 Bs.length] 3)) := (Fr.refl _ _).alloc _
 have HB : Hid (Calls Tryz.prog 125 #[.int .i64 1024, .slice (some ⟨w0.heap.size, 0, none⟩) 4 4] (w0.alloc (Obj.cells #[.int .i64 l.length, .int .i64 0, .int .i64 l.length, .int .i64 Bs.length] 3)) fun e w' => e = .returned (.bool true) ∧ (w0.alloc (Obj.cells #[.int .i64 l.length, .int .i64 0, .int .i64 l.length, .int .i64 Bs.length] 3)) = w') := by
  have := say_betweenAll (cap := 4) (intRow_blk hI) (by simp) (by simp) 1024
  rw [hb] at this
  exact this
 have hP1 := hP0.fr hf1 id
 have d2 := hP1.cell 2
 have hf01 := hf0.then_ hf1
 have HE1 := Lib.hid (containsEnt (cap := lc) (hE.fr hf01 (fun _ _ => id)) (by have := hfit.ll; omega) hfit.long)
 have HV1 := Lib.hid (fun w' (hf : Fr (fun _ => False) w w') => containsInt (cap := bc) (hV.fr hf (fun _ _ => id)) (by have := hfit.bl; omega) hfit.d)
 clear hI hb hE hV hfit hP0
 go_wp2_with (first
  | (go_at_call 125; refine HB.out.mono ?_; rintro e w1 ⟨rfl, rfl⟩)
  | (go_at_call 181; refine HE1.out.mono ?_; rintro e w2 ⟨rfl, hf2⟩; have d3 := (hP1.fr hf2 id).cell 3; have hf02 := hf01.then_ hf2)
  | (go_at_call 182; refine (HV1.out _ hf02).mono ?_; rintro e w3 ⟨rfl, hf3⟩))
 go_ret
 exact ⟨rfl, hf02.then_ hf3⟩
end Go.Proofs.YtmkdhhhoodeemaaGreat
