/- Parts of the proof, joined. -/
import Derived.Deep.AppendLies
import Derived.Deep.RegionLaw
import Derived.Test.YtmkdhhhoodeemaaGreatCrtProofGa
import Derived.Test.YtmkdhhhoodeemaaGreatCrtProofGb
import Derived.Test.YtmkdhhhoodeemaaGreatCrtProofGc
set_option linter.unusedVariables false
set_option linter.unusedSimpArgs false
/- cert.Put. -/
namespace Go.Proofs.YtmkdhhhoodeemaaGreat
open Go Go.RowKit
theorem own_ne_own {w : World} {b b' : Nat} {e e' : TypeId} {z z' : Nat} {v v' : Value} {n n' : Nat} {xs xs' : List Value} (h : w.ownsRow b e z v n xs) (h' : w.ownsRow b' e' z' v' n' xs') (hne : e ≠ e') : ∀ k, v.ownBlock = some k → v'.ownBlock ≠ some k := by
 intro k hk hk'
 rcases h.2 with ⟨rfl, _⟩ | ⟨g, cap, cur, rfl, _, hg, _⟩
 ·cases hk
 rcases h'.2 with ⟨rfl, _⟩ | ⟨g', cap', cur', rfl, _, hg', _⟩
 ·cases hk'
 cases hk
 cases hk'
 rw [hg] at hg'
 injection hg' with hg'
 injection hg' with _ ht
 exact hne ht
def putErr (xs : List Int) : Option (List (ByteArray × Int) × Int) := if xs.length ≤ 1024 then none else some ([((⟨#[99, 101, 114, 116]⟩ : ByteArray), 0), ((⟨#[119, 114, 105, 116, 101]⟩ : ByteArray), 16)], 2)
def putB (G D : Int) (xs : List Int) : List Int := if xs.length ≤ 1024 then num8 G ++ num8 D ++ numsB xs else []
def PutOut (w : World) (G D : Int) (xs : List Int) (e : Ending) (w' : World) : Prop :=
 ∃ v, e = .returned (.tuple #[v, errO (putErr xs)]) ∧ Own8 w' w.heap.size v (putB G D xs) ∧ Fr (fun _ => False) w w'
set_option maxRecDepth 100000 in
theorem cert_Put {w : World} {B : Nat} {A : Option Addr} {cap : Nat} {xs : List Int} (hr : IntRow w B A xs) (hB : B ≤ w.heap.size) (hlen : xs.length ≤ 100000) (G D : Int) :
  Calls Tryz.prog 151 #[.agg #[.int .i64 G, .int .i64 D, .slice A xs.length cap]] w (PutOut w G D xs) := by
 have b0 := (Blk.new w 41 #[.int .i64 G, .int .i64 D, .slice A xs.length cap]).alloc (Obj.cells #[.slice none 0 0, .nilIface] 194)
 have hf0 : Fr (fun _ => False) w ((w.alloc (Obj.cells #[.int .i64 G, .int .i64 D, .slice A xs.length cap] 41)).alloc (Obj.cells #[.slice none 0 0, .nilIface] 194)) := ((Fr.refl _ _).alloc _).alloc _
 have hW : WriterAt ((w.alloc (Obj.cells #[.int .i64 G, .int .i64 D, .slice A xs.length cap] 41)).alloc (Obj.cells #[.slice none 0 0, .nilIface] 194)) (w.heap.size + 1) w.heap.size (.slice none 0 0) [] none := ⟨Blk.new_ _ _ _ (by simp), Own8.nil _ _⟩
 go_enter Tryz.func151, Tryz.ntmps151
 go_wp2_with fail
 refine (writer_Num hW (by simp; omega) (by simp) G).mono ?_
 rintro e w1 ⟨v1, rfl, hW1, hf1, hk1⟩
 have hW1 : WriterAt w1 (w.heap.size + 1) w.heap.size v1 (num8 G) none := hW1
 have hne0 : ∀ {v : Value} {ys : List Int} {w' : World}, Own8 w' w.heap.size v ys → Blk w' w.heap.size 41 #[.int .i64 G, .int .i64 D, .slice A xs.length cap] → ¬ (w.heap.size = w.heap.size + 1 ∨ v.ownBlock = some w.heap.size) := fun h1 h2 h => h.elim (fun h => by omega) (fun h => h1.ne_blk h2 (by decide) h)
 have b1 := b0.fr hf1 (hne0 (Own8.nil _ _) b0)
 have hf1' : Fr (fun _ => False) w w1 := hf0.trans hf1 (fun k hk h => by rcases h with h | h; (· omega); (· cases h))
 have c1 := b1.cell 1
 have hsz1 := hf1'.size
 clear hW hf0 hf1 hk1 b0
 go_wp2_with fail
 refine (writer_Num hW1 hsz1 (by rw [num8_length]; omega) D).mono ?_
 rintro e w2 ⟨v2, rfl, hW2, hf2, hk2⟩
 have hW2 : WriterAt w2 (w.heap.size + 1) w.heap.size v2 (num8 G ++ num8 D) none := hW2
 have b2 := b1.fr hf2 (hne0 hW1.own b1)
 have hf2' : Fr (fun _ => False) w w2 := hf1'.trans hf2 (fun k hk h => by rcases h with h | h; (· omega); (· have := own_ge hW1.own k h; omega))
 have c2 := b2.cell 2
 have hr2 := hr.fr hf2' (fun _ _ => id)
 clear hW1 hf1' hf2 hk2 b1 c1 hr
 go_wp2_with fail
 go_loopw [5, 23] (fun lv i wr => ∃ k : Nat, k ≤ xs.length ∧ i = .int .i64 k ∧ wr.ownsRow w2.heap.size 2 1 lv k (num64V (xs.take k)) ∧ Fr (fun _ => False) w2 wr) (fun _ i _ => xs.length - (intOf i).toNat)
 case atStart => exact ⟨0, by omega, rfl, World.ownsRow_nil _ _ _ _, Fr.refl _ _⟩
 case round =>
  obtain ⟨k, hk, rfl, hown, hf⟩ := hrel
  by_cases hlt : k < xs.length
  ·obtain ⟨x, hx⟩ : ∃ x, xs[k]? = some x := ⟨xs[k], List.getElem?_eq_getElem hlt⟩
   obtain ⟨b, o, rfl, hb, hc⟩ := hr2 k x hx
   have d0 := hf.cell_some hc id
   have HX := Lib.hid hx
   clear hr2 hc hx
   go_wp2_with (at_builtin; refine wpList_append1 _ rfl _ _ _ rfl w2.heap.size 2 (.int .i64 0) 8 Tryz.underlying132 int64_info rfl u5 k (num64V (xs.take k)) rfl (hown.alloc _) wr.heap.size (.int .i64 x) rfl ?_ rfl (by omega) (by omega) ?_ ?_; (· simp); (· have := hf.size; simp; omega); intro g3 c3 w3 hown3 hf3)
   go_roundw
   case rel =>
    have hfb : Fr (fun k => u5.ownBlock = some k) wr w3 := ((Fr.refl (fun k => u5.ownBlock = some k) wr).alloc _).trans hf3 (fun _ _ h => h)
    have e1 : num64V (xs.take (k + 1)) = num64V (xs.take k) ++ [.int .i64 x] := by
     obtain ⟨h1, h2⟩ := List.getElem?_eq_some_iff.1 HX.out
     rw [List.take_succ_eq_append_getElem h1, h2, num64V, num64V, List.map_append]
     rfl
    exact ⟨k + 1, by omega, by go_num, by rw [e1]; exact hown3, hf.own hown hfb (Nat.le_refl _)⟩
   case measure => simp [intOf]; omega
  ·obtain rfl : k = xs.length := by omega
   rw [List.take_length] at hown
   obtain ⟨A5, cap5, rfl, hr5⟩ := NumRow.of_own hown
   have hW3 := hW2.fr hf id (fun _ _ => id)
   have hA := own_ne_own hown hW3.own (by decide)
   have hf3 := hf2'.then_ hf
   have HT := writer_Nums (cap := cap5) hW3 hf3.size hr5 hA (by omega) (by
    rcases Nat.lt_or_ge 1024 xs.length with h | h
    ·exact .inr h
    ·exact .inl (by rw [numsB, List.length_append, List.length_append, num8_length, num8_length, count4_length, flat_num8]; omega))
   have hbs : (num8 G ++ num8 D).length = 16 := rfl
   clear hr2 c2 hr5 hA hW2 hf2' b2
   by_cases hl : xs.length ≤ 1024
   ·rw [if_pos hl] at HT
    have hE : Hid (errO (putErr xs) = .nilIface) := by show _ = _; rw [putErr, if_pos hl]; rfl
    have hP : Hid (putB G D xs = num8 G ++ num8 D ++ numsB xs) := by show _ = _; rw [putB, if_pos hl]
    clear hl
    go_wp2_with (first
     | (go_at_call 124; refine HT.mono ?_; rintro e w4 ⟨v4, rfl, hW4, hf4, hk4⟩))
    clear HT
    have hW4 : WriterAt w4 (w.heap.size + 1) w.heap.size v4 (num8 G ++ num8 D ++ numsB xs) none := hW4
    have hf4' : Fr (fun _ => False) w w4 := hf3.trans hf4 (fun k hk h => by rcases h with h | h; (· omega); (· have := own_ge hW3.own k h; omega))
    refine (writer_Bytes hW4 (by rw [List.length_append, List.length_append, num8_length, num8_length, numsB, List.length_append, count4_length, flat_num8]; omega)).mono ?_
    rintro e w6 ⟨v6, rfl, hv6, hf6⟩
    have hnil : errW none = .nilIface := rfl
    rw [hnil]
    go_wp2_with (go_at_call 70; refine (fault_Wrap_nil _ _ _).mono ?_; rintro e w' ⟨rfl, rfl⟩)
    refine bodyPost_ret (v := .tuple #[v6, .nilIface]) (by simp [results, Tryz.results151, go_sem]) rfl ?_
    exact ⟨v6, by rw [hE.out], by rw [hP.out]; exact Own8.base_ hv6 hf4'.size, hf4'.then_ hf6⟩
   ·rw [if_neg hl] at HT
    have hE : Hid (errO (putErr xs) = errV [((⟨#[99, 101, 114, 116]⟩ : ByteArray), 0), ((⟨#[119, 114, 105, 116, 101]⟩ : ByteArray), 16)] 2) := by show _ = _; rw [putErr, if_neg hl]; rfl
    have hP : Hid (putB G D xs = []) := by show _ = _; rw [putB, if_neg hl]
    clear hl
    go_wp2_with (first
     | (go_at_call 124; refine HT.mono ?_; rintro e w4 ⟨v4, rfl, hW4, hf4, hk4⟩))
    clear HT
    have hW4 : WriterAt w4 (w.heap.size + 1) w.heap.size v4 (num8 G ++ num8 D) (some 16) := hW4
    have hf4' : Fr (fun _ => False) w w4 := hf3.trans hf4 (fun k hk h => by rcases h with h | h; (· omega); (· have := own_ge hW3.own k h; omega))
    refine (writer_Bytes hW4 (by rw [hbs]; decide)).mono ?_
    rintro e w6 ⟨v6, rfl, hv6, hf6⟩
    have hnil : errW (some 16) = errV [((⟨#[119, 114, 105, 116, 101]⟩ : ByteArray), 16)] 2 := rfl
    rw [hnil]
    go_wp2_with (go_at_call 70; refine (fault_Wrap _ _ _ _ _).mono ?_; rintro e w' ⟨rfl, rfl⟩)
    refine bodyPost_ret (v := .tuple #[v6, errV [((⟨#[99, 101, 114, 116]⟩ : ByteArray), 0), ((⟨#[119, 114, 105, 116, 101]⟩ : ByteArray), 16)] 2]) (by simp [results, Tryz.results151, go_sem]) rfl ?_
    exact ⟨v6, by rw [hE.out], by rw [hP.out]; exact Own8.base_ hv6 hf4'.size, hf4'.then_ hf6⟩
end Go.Proofs.YtmkdhhhoodeemaaGreat

/- Appending a row of integers. -/
namespace Go.Proofs.YtmkdhhhoodeemaaGreat
open Go Go.RowKit
theorem IntRow.of_own' {w : World} {base : Nat} {A : Option Addr} {n cap : Nat} {xs : List Int} (h : w.ownsRow base 3 1 (.slice A n cap) n (ints xs)) : IntRow w w.heap.size A xs := by
 obtain ⟨A', cap', hv, _, hat⟩ := own_form h
 cases hv
 intro k x hx
 obtain ⟨b, hb, _, hc⟩ := hat k (.int .i64 x) (by simp [ints, hx])
 exact ⟨b, 0, hb, World.block_lt_of_cell? w _ hc, by rw [Nat.zero_add]; exact hc⟩
theorem IntAt.new (w : World) (xs : List Int) : IntAt (w.alloc (.cells (ints xs).toArray 3)) w.heap.size 0 xs := by
 intro k x hx
 rw [Nat.zero_add, (Blk.new w 3 (ints xs).toArray).cell k]
 simp [ints, hx]
end Go.Proofs.YtmkdhhhoodeemaaGreat

/- Plain law: what is written is read as it was, and what is read is written as it stood. -/
namespace Go.Proofs.YtmkdhhhoodeemaaGreat
open Go Go.RowKit
section
variable {bs t : List Int} {p : Nat}
theorem drop_add {a b : List Int} (h : bs.drop p = a ++ b) : bs.drop (p + a.length) = b := by
 rw [← List.drop_drop, h, List.drop_left]
theorem drop_len {a b : List Int} (h : bs.drop p = a ++ b) : bs.length - p = a.length + b.length := by
 have := congrArg List.length h
 rw [List.length_drop, List.length_append] at this
 exact this
theorem num_read {n : Int} (h : bs.drop p = num8 n ++ t) (h0 : -9223372036854775808 ≤ n) (h1 : n ≤ 9223372036854775807) : numC bs p = 0 ∧ numX bs p = n ∧ bs.drop (p + 8) = t := by
 have hl := drop_len h
 rw [num8_length] at hl
 refine ⟨by rw [numC, if_neg (by omega)], ?_, by have := drop_add h; rw [num8_length] at this; exact this⟩
 rw [numX, h, List.take_left' (num8_length n)]
 exact spell_num8 h0 h1
theorem count_read {n : Nat} {most : Int} (h : bs.drop p = count4 n ++ t) (h1 : (n : Int) < 4294967296) : textN bs p = n ∧ countC bs p most = (if (n : Int) > most then 2 else 0) ∧ bs.drop (p + 4) = t := by
 have hl := drop_len h
 rw [count4_length] at hl
 have e : spell64 ((bs.drop p).take 4) = n := by
  rw [h, List.take_left' (count4_length n)]
  exact spell_count4 (by omega) h1
 refine ⟨by rw [textN, e]; exact Int.toNat_natCast n, ?_, by have := drop_add h; rw [count4_length] at this; exact this⟩
 rw [countC, if_neg (by omega), e]
theorem text_read {s : List Int} (h : bs.drop p = textB s ++ t) (hs : s.length ≤ 65536) : textC bs p = 0 ∧ textX bs p = s ∧ textN bs p = s.length ∧ bs.drop (p + 4 + textN bs p) = t := by
 rw [textB, List.append_assoc] at h
 obtain ⟨h1, h2, h3⟩ := count_read (most := 65536) h (by omega)
 rw [if_neg (by omega)] at h2
 have hl := drop_len h3
 refine ⟨?_, ?_, h1, ?_⟩
 ·rw [textC, if_neg (by simp [h2]), if_neg (by rw [h1]; omega)]
 ·rw [textX, h1, h3, List.take_left' rfl]
 ·have := drop_add h3
  rw [h1]
  exact this
theorem nums_run {l : List Int} : ∀ {p : Nat}, bs.drop p = l.flatMap num8 ++ t → (∀ y ∈ l, -9223372036854775808 ≤ y ∧ y ≤ 9223372036854775807) → ∃ q, numsRun bs l.length p = (l, q, 0) ∧ bs.drop q = t := by
 induction l with
 | nil => intro p h _; exact ⟨p, rfl, by simpa using h⟩
 | cons x r ih =>
  intro p h hw
  rw [List.flatMap_cons, List.append_assoc] at h
  obtain ⟨h1, h2, h3⟩ := num_read h (hw x List.mem_cons_self).1 (hw x List.mem_cons_self).2
  obtain ⟨q, hq, hd⟩ := ih h3 (fun y hy => hw y (List.mem_cons_of_mem _ hy))
  refine ⟨q, ?_, hd⟩
  rw [List.length_cons, numsRun, rowRun_on h1]
  rw [numsRun] at hq
  rw [hq, h2]
theorem nums_read {l : List Int} (h : bs.drop p = numsB l ++ t) (hl : l.length ≤ 1024) (hw : ∀ y ∈ l, -9223372036854775808 ≤ y ∧ y ≤ 9223372036854775807) : numsC bs p = 0 ∧ numsX bs p = l ∧ bs.drop (numsP bs p) = t := by
 rw [numsB, List.append_assoc] at h
 obtain ⟨h1, h2, h3⟩ := count_read (most := 1024) h (by omega)
 rw [if_neg (by omega)] at h2
 obtain ⟨q, hq, hd⟩ := nums_run h3 hw
 refine ⟨?_, ?_, ?_⟩
 ·rw [numsC, if_neg (by simp [h2]), h1, hq]
 ·rw [numsX, h1, hq]
 ·rw [numsP, h1, hq]; exact hd
/-! Back. -/
theorem num_kept (h8 : Bytes8 bs) (h : numC bs p = 0) : bs.drop p = num8 (numX bs p) ++ bs.drop (p + 8) := by
 have hl : ¬ bs.length - p < 8 := fun hl => by rw [numC, if_pos hl] at h; cases h
 rw [numX, num8_spell (h8.part p 8) (by rw [List.length_take, List.length_drop]; omega), ← List.drop_drop, List.take_append_drop]
theorem count_kept {most : Int} (h8 : Bytes8 bs) (h : countC bs p most = 0) : bs.drop p = count4 (textN bs p) ++ bs.drop (p + 4) ∧ (textN bs p : Int) ≤ most := by
 obtain ⟨h4, hm⟩ := countC_ok h
 have hlen : ((bs.drop p).take 4).length = 4 := by rw [List.length_take, List.length_drop]; omega
 have hb4 := spell4_bound (h8.part p 4) hlen
 have hn : spell64 ((bs.drop p).take 4) = (textN bs p : Int) := by unfold textN; omega
 rw [← hn]
 refine ⟨?_, hm⟩
 rw [count4_spell (h8.part p 4) hlen, ← List.drop_drop, List.take_append_drop]
theorem text_kept (h8 : Bytes8 bs) (h : textC bs p = 0) : bs.drop p = textB (textX bs p) ++ bs.drop (p + 4 + textN bs p) ∧ (textX bs p).length = textN bs p ∧ (textX bs p).length ≤ 65536 := by
 unfold textC at h
 split at h
 ·rename_i h1; exact absurd h h1
 ·rename_i h1
  split at h
  ·cases h
  ·rename_i h2
   have hc : countC bs p 65536 = 0 := by simpa using h1
   obtain ⟨h3, h4⟩ := count_kept h8 hc
   have hlen : (textX bs p).length = textN bs p := by rw [textX, List.length_take, List.length_drop]; omega
   refine ⟨?_, hlen, by omega⟩
   rw [textB, hlen, List.append_assoc]
   have e : bs.drop (p + 4 + textN bs p) = (bs.drop (p + 4)).drop (textN bs p) := by rw [List.drop_drop]
   rw [e, textX, List.take_append_drop]
   exact h3
theorem nums_kept1 (h8 : Bytes8 bs) : ∀ (n p : Nat), (numsRun bs n p).2.2 = 0 → (numsRun bs n p).1.length = n ∧ bs.drop p = (numsRun bs n p).1.flatMap num8 ++ bs.drop (numsRun bs n p).2.1
 | 0, p, _ => ⟨rfl, rfl⟩
 | n + 1, p, h => by
  by_cases hc : numC bs p = 0
  ·rw [numsRun, rowRun_on hc] at h ⊢
   obtain ⟨h1, h2⟩ := nums_kept1 h8 n (p + 8) h
   rw [numsRun] at h1 h2
   refine ⟨by simp only [List.length_cons, h1], ?_⟩
   rw [List.flatMap_cons, List.append_assoc, ← h2]
   exact num_kept h8 hc
  ·rw [numsRun, rowRun_stop hc] at h
   exact absurd h hc
theorem nums_kept (h8 : Bytes8 bs) (h : numsC bs p = 0) : bs.drop p = numsB (numsX bs p) ++ bs.drop (numsP bs p) ∧ (numsX bs p).length ≤ 1024 := by
 unfold numsC at h
 split at h
 ·rename_i h1; exact absurd h h1
 ·rename_i h1
  have hc : countC bs p 1024 = 0 := by simpa using h1
  obtain ⟨h3, h4⟩ := count_kept h8 hc
  obtain ⟨k1, k2⟩ := nums_kept1 h8 _ _ h
  refine ⟨?_, by rw [numsX, k1]; omega⟩
  rw [numsB, numsX, k1, List.append_assoc, numsP, ← k2]
  exact h3
end
end Go.Proofs.YtmkdhhhoodeemaaGreat

/- cert.Get. -/
namespace Go.Proofs.YtmkdhhhoodeemaaGreat
open Go Go.RowKit
def getE1 (x : Int) : Int := if x < 0 then 23 else if x > 2147483647 then 2 else 0
/-- The certificate that is being read, in its box. -/
structure CertAt (w : World) (bc base : Nat) (G D : Int) (v : Value) (done : List Int) : Prop where
 blk : Blk w bc 41 #[.int .i64 G, .int .i64 D, v]
 own : w.ownsRow base 3 1 v done.length (ints done)
theorem CertAt.fr {S : Nat → Prop} {w w' : World} {bc base : Nat} {G D : Int} {v : Value} {done : List Int} (h : CertAt w bc base G D v done) (hf : Fr S w w') (hS : ¬ S bc) (hv : ∀ k, v.ownBlock = some k → ¬ S k) : CertAt w' bc base G D v done := ⟨h.blk.fr hf hS, own_fr h.own hf hv⟩
def Get1 (w : World) (bc base : Nat) (G D : Int) (v : Value) (done : List Int) (x : Int) (e : Ending) (w' : World) : Prop :=
 e = .returned (.int .i64 (getE1 x)) ∧ (getE1 x = 0 → ∃ v', CertAt w' bc base G D v' (done ++ [x])) ∧ Fr (fun k => k = bc ∨ v.ownBlock = some k) w w'
theorem int_info' : (Tryz.prog.info? 3).map (fun i => (i.zero, i.size, i.bytes)) = some (some (.int .i64 0), 1, 8) := by kernel_rfl
set_option maxRecDepth 100000 in
theorem cert_Get1 {w : World} {bc base : Nat} {G D : Int} {v : Value} {done : List Int} (h : CertAt w bc base G D v done) (hb : base ≤ w.heap.size) (hl : done.length ≤ 100000) (x : Int) :
  Calls Tryz.prog 177 #[.int .i64 x, .pointer (some ⟨bc, 0, none⟩)] w (Get1 w bc base G D v done x) := by
 obtain ⟨A, cap, rfl, _, _⟩ := own_form h.own
 have c2 : w.cell? ⟨bc, 2, none⟩ = some (.slice A done.length cap) := h.blk.cell 2
 by_cases h0 : x < 0
 ·have hE : Hid (getE1 x = 23) := by show _ = _; rw [getE1, if_pos h0]
  go_enter Tryz.func177, Tryz.ntmps177
  go_wp2
  go_ret
  exact ⟨by rw [hE.out]; rfl, (fun h => by rw [hE.out] at h; cases h), Fr.refl _ _⟩
 ·by_cases h1 : x > 2147483647
  ·have hE : Hid (getE1 x = 2) := by show _ = _; rw [getE1, if_neg h0, if_pos h1]
   go_enter Tryz.func177, Tryz.ntmps177
   go_wp2
   go_ret
   exact ⟨by rw [hE.out]; rfl, (fun h => by rw [hE.out] at h; cases h), Fr.refl _ _⟩
  ·have hE : Hid (getE1 x = 0) := by show _ = _; rw [getE1, if_neg h0, if_neg h1]
   have hlt := h.blk.lt
   go_enter Tryz.func177, Tryz.ntmps177
   go_wp2_with (at_builtin; refine wpList_append1 _ rfl _ _ _ rfl base 3 (.int .i64 0) 8 Tryz.underlying30 int_info' rfl (.slice A done.length cap) done.length (ints done) rfl (h.own.alloc _) w.heap.size (.int .i64 x) rfl ?_ rfl (by omega) (by omega) ?_ ?_; (· simp); (· simp; omega); intro g3 c3 w3 hown3 hf3; have hb3 := (h.blk.alloc (Obj.cells #[.int .i64 x] 3)).fr hf3 (own_ne_blk h.own h.blk (by decide)); have z2 := hb3.frozen 2; have d2 := hb3.cell 2)
   go_ret
   have hf4 : Fr (fun k => k = bc ∨ (Value.slice A done.length cap).ownBlock = some k) w w3 := ((Fr.refl _ w).alloc (Obj.cells #[.int .i64 x] 3)).trans hf3 (fun k _ h => .inr h)
   refine ⟨by rw [hE.out]; rfl, fun _ => ⟨.slice (some ⟨g3, 0, none⟩) (done.length + 1) c3, hb3.set_ 2 _, ?_⟩, hf4.setCell (p := ⟨bc, 2, none⟩) (fun _ => .inl rfl) _⟩
   rw [List.length_append, ints, List.map_append]
   exact own_setCell hown3 hb3 (by decide) 2 _
def GotEach (w : World) (bc base : Nat) (G D : Int) (xs : List Int) (e : Ending) (w' : World) : Prop :=
 (((∀ x ∈ xs, getE1 x = 0) ∧ e = .returned .nilIface ∧ ∃ v, CertAt w' bc base G D v xs) ∨ (¬ (∀ x ∈ xs, getE1 x = 0) ∧ ∃ l c, e = .returned (errV l c))) ∧ Fr (fun k => k = bc) w w'
set_option maxRecDepth 100000 in
theorem each_Get {w : World} {bc : Nat} {G D : Int} (h : Blk w bc 41 #[.int .i64 G, .int .i64 D, .slice none 0 0]) {F : Nat → Prop} {A : Option Addr} {cap : Nat} {xs : List Int} (hr : NumRow w F A xs) (hF : ∀ k, F k → k ≠ bc ∧ k < w.heap.size) (hl : xs.length ≤ 1024) :
  Calls Tryz.prog 176 #[.slice A xs.length cap, .func (.func 177) #[] #[.pointer (some ⟨bc, 0, none⟩)]] w (GotEach w bc w.heap.size G D xs) := by
 go_enter Tryz.func176, Tryz.ntmps176
 go_wp2_with fail
 go_loopw [10] (fun i wr => ∃ (k : Nat) (v : Value), k ≤ xs.length ∧ i = .int .i64 k ∧ (∀ x ∈ xs.take k, getE1 x = 0) ∧ CertAt wr bc w.heap.size G D v (xs.take k) ∧ Fr (fun k => k = bc) w wr) (fun i _ => xs.length - (intOf i).toNat)
 case atStart => exact ⟨0, _, by omega, rfl, fun x hx => by simp at hx, ⟨h, World.ownsRow_nil _ _ _ _⟩, Fr.refl _ _⟩
 case round =>
  obtain ⟨k, v, hk, rfl, hok, hC, hf⟩ := hrel
  by_cases hlt : k < xs.length
  ·obtain ⟨x, hx⟩ : ∃ x, xs[k]? = some x := ⟨xs[k], List.getElem?_eq_getElem hlt⟩
   obtain ⟨b, o, rfl, hFb, hc⟩ := hr k x hx
   have d0 := hf.cell_some hc (hF b hFb).1
   have HX := Lib.hid hx
   have HOK := Lib.hid hok
   have htk : Hid (xs.take (k + 1) = xs.take k ++ [x]) := by
    obtain ⟨h1, h2⟩ := List.getElem?_eq_some_iff.1 hx
    show _ = _
    rw [List.take_succ_eq_append_getElem h1, h2]
   have HG := cert_Get1 hC hf.size (by simp; omega) x
   clear hr hc hx hok
   by_cases h0 : getE1 x = 0
   ·have H0 := Lib.hid h0
    have t0 : (getE1 x != 0) = false := by simp [h0]
    clear h0
    go_wp2_with (go_at_call 177; refine HG.mono ?_; rintro e w1 ⟨rfl, hC1, hf1⟩)
    obtain ⟨v1, hC1⟩ := hC1 H0.out
    go_roundw
    case rel =>
     refine ⟨k + 1, v1, by omega, by go_num, ?_, by rw [htk.out]; exact hC1, hf.trans hf1 (fun j hj h => h.elim id (fun h => by have := own_ge hC.own j h; omega))⟩
     intro y hy
     rw [htk.out] at hy
     rcases List.mem_append.1 hy with hy | hy
     ·exact HOK.out y hy
     ·rw [List.mem_singleton.1 hy]; exact H0.out
    case measure => simp [intOf]; omega
   ·have H0 := Lib.hid h0
    have t0 : (getE1 x != 0) = true := by simpa using h0
    have t1 : (getE1 x == 0) = false := by simpa using h0
    clear h0
    go_wp2_with (first
     | (go_at_call 177; refine HG.mono ?_; rintro e w1 ⟨rfl, hC1, hf1⟩)
     | (go_at_call 71; refine (fault_Of _ t1 _).mono ?_; rintro e w' ⟨rfl, rfl⟩)
     | (go_at_call 70; refine (fault_Wrap _ _ _ _ _).mono ?_; rintro e w' ⟨rfl, rfl⟩))
    go_ret
    exact ⟨.inr ⟨fun h => H0.out (h x (List.mem_of_getElem? HX.out)), _, _, rfl⟩, hf.trans hf1 (fun j hj h => h.elim id (fun h => by have := own_ge hC.own j h; omega))⟩
  ·obtain rfl : k = xs.length := by omega
   rw [List.take_length] at hok hC
   have HOK := Lib.hid hok
   clear hok hr
   go_wp2
   go_ret
   exact ⟨.inl ⟨HOK.out, rfl, v, hC⟩, hf⟩
theorem rd_int {w w' : World} {g : Nat} {A : Option Addr} {bs : List Int} {n : Int} {pos' : Nat} {s : ByteArray} {pos : Nat} {c : Int} {err : Option (List (ByteArray × Int) × Int)} {e : Ending} (h : Rd w g A bs (IsInt n) pos' (.int .i64 0) s pos c err e w') :
  ∃ x err' p, e = .returned (.int .i64 x) ∧ ReaderAt w' g A bs p err' ∧ Fr (fun k => k = g) w w' ∧ (err = none → c = 0 → x = n ∧ p = pos' ∧ err' = none) ∧ (¬ (err = none ∧ c = 0) → ∃ er, err' = some er) := by
 cases err with
 | some er =>
  obtain ⟨rfl, h1, h2⟩ := h
  exact ⟨0, some er, pos, rfl, h1, h2.mono (fun _ _ h => h.elim), (fun h => by cases h), fun _ => ⟨er, rfl⟩⟩
 | none =>
  rcases h with ⟨h0, v, rfl, rfl, h1, h2⟩ | ⟨h0, rfl, ⟨p, h1⟩, h2⟩
  ·exact ⟨n, none, pos', rfl, h1, h2, fun _ _ => ⟨rfl, rfl, rfl⟩, fun h => absurd ⟨rfl, h0⟩ h⟩
  ·exact ⟨0, _, p, rfl, h1, h2, fun _ h => absurd h h0, fun _ => ⟨_, rfl⟩⟩
theorem rd_row {w w' : World} {g : Nat} {A : Option Addr} {bs : List Int} {V : Value → World → Prop} {pos' : Nat} {s : ByteArray} {pos : Nat} {c : Int} {err : Option (List (ByteArray × Int) × Int)} {e : Ending} (h : Rd w g A bs V pos' (.slice none 0 0) s pos c err e w') :
  ∃ v err' p, e = .returned v ∧ ReaderAt w' g A bs p err' ∧ Fr (fun k => k = g) w w' ∧ (err = none → c = 0 → V v w' ∧ p = pos' ∧ err' = none) ∧ (¬ (err = none ∧ c = 0) → ∃ er, err' = some er) := by
 cases err with
 | some er =>
  obtain ⟨rfl, h1, h2⟩ := h
  exact ⟨_, some er, pos, rfl, h1, h2.mono (fun _ _ h => h.elim), (fun h => by cases h), fun _ => ⟨er, rfl⟩⟩
 | none =>
  rcases h with ⟨h0, v, rfl, hv, h1, h2⟩ | ⟨h0, rfl, ⟨p, h1⟩, h2⟩
  ·exact ⟨v, none, pos', rfl, h1, h2, fun _ _ => ⟨hv, rfl, rfl⟩, fun h => absurd ⟨rfl, h0⟩ h⟩
  ·exact ⟨_, _, p, rfl, h1, h2, fun _ h => absurd h h0, fun _ => ⟨_, rfl⟩⟩
def getOk (bs : List Int) : Prop := intC bs 0 2147483647 = 0 ∧ intC bs 8 2147483647 = 0 ∧ numsC bs 16 = 0 ∧ ¬ numsP bs 16 < bs.length ∧ ∀ x ∈ numsX bs 16, getE1 x = 0
def GetOut (w : World) (bs : List Int) (e : Ending) (w' : World) : Prop :=
  ((getOk bs ∧ ∃ A cap, e = .returned (.tuple #[.agg #[.int .i64 (numX bs 0), .int .i64 (numX bs 8), .slice A (numsX bs 16).length cap], .nilIface]) ∧ IntRow w' w'.heap.size A (numsX bs 16)) ∨
   (¬ getOk bs ∧ ∃ l c, e = .returned (.tuple #[.agg #[.int .i64 0, .int .i64 0, .slice none 0 0], errV l c]))) ∧ Fr (fun _ => False) w w'
theorem get_fr {w w' : World} {a b c : Value} (h : Fr (fun _ => False) w w') : Fr (fun _ => False) w (((w'.setCell ⟨w.heap.size, 0, none⟩ a).setCell ⟨w.heap.size, 1, none⟩ b).setCell ⟨w.heap.size, 2, none⟩ c) :=
 Fr.setCell (p := ⟨w.heap.size, 2, none⟩) (Fr.setCell (p := ⟨w.heap.size, 1, none⟩) (Fr.setCell (p := ⟨w.heap.size, 0, none⟩) h (fun h => absurd h (Nat.lt_irrefl _)) _) (fun h => absurd h (Nat.lt_irrefl _)) _) (fun h => absurd h (Nat.lt_irrefl _)) _
set_option maxRecDepth 100000 in
theorem cert_Get {w : World} {F : Nat → Prop} {A : Option Addr} {cap : Nat} {bs : List Int} (hr : ByteRow w F A bs) (hl : bs.length ≤ 1000000) (h8 : Bytes8 bs) :
  Calls Tryz.prog 152 #[.slice A bs.length cap] w (GetOut w bs) := by
 have hf0 : Fr (fun _ => False) w (w.alloc (Obj.cells #[.int .i64 0, .int .i64 0, .slice none 0 0] 41)) := (Fr.refl _ _).alloc _
 have rb0 := Blk.new w 41 #[.int .i64 0, .int .i64 0, .slice none 0 0]
 go_enter Tryz.func152, Tryz.ntmps152
 go_wp2_with fail
 refine (wire_New (hr.fr hf0 (fun _ _ => id)) (by omega)).mono ?_
 rintro e w2 ⟨g, A2, rfl, hR2, hg2, hA2, hf02⟩
 have rb2 := rb0.fr hf02 id
 have hf2 := hf0.then_ hf02
 have hgn : w.heap.size ≠ g := by have := rb0.lt; omega
 have hgw : w.heap.size ≤ g := by have := rb0.lt; omega
 clear rb0 hf0 hf02 hr hg2
 go_wp2_with fail
 refine (reader_Int hR2 (by omega) 2147483647).mono ?_
 intro e w3 h3
 obtain ⟨x1, err1, p1, rfl, hR3, hf23, hok1, hbad1⟩ := rd_int h3
 have rb3 := rb2.fr hf23 hgn
 have hf3 : Fr (fun _ => False) w w3 := hf2.trans hf23 (fun k hk e => by omega)
 clear h3 hf23 rb2 hf2 hR2
 go_wp2_with fail
 have hf34 : Fr (fun _ => False) w3 (w3.alloc (Obj.cells #[.int .i64 x1, .int .i64 0, .slice none 0 0] 41)) := (Fr.refl _ _).alloc _
 have cb4 := Blk.new w3 41 #[.int .i64 x1, .int .i64 0, .slice none 0 0]
 have hlt3 := rb3.lt
 have halt3 := hR3.alt
 have hbg : w3.heap.size ≠ g := by obtain ⟨_, _, _, _, hb⟩ := hR3.blk; have := hb.lt; omega
 refine (reader_Int (hR3.fr hf34 id (fun _ _ _ => id)) (by omega) 2147483647).mono ?_
 intro e w5 h5
 obtain ⟨x2, err2, p2, rfl, hR5, hf45, hok2, hbad2⟩ := rd_int h5
 have cb5 := cb4.fr hf45 hbg
 have rb5 := (rb3.fr hf34 id).fr hf45 hgn
 have hf5 : Fr (fun _ => False) w w5 := (hf3.then_ hf34).trans hf45 (fun k hk e => by omega)
 have z1 := cb5.frozen 1
 have c51 := cb5.cell 1
 have hsz3 := hf3.size
 have hsz5 : w3.heap.size < w5.heap.size := cb5.lt
 clear h5 hf45 rb3 hf34 hR3 cb4
 go_wp2_with fail
 have hf56 : Fr (fun k => k = w3.heap.size) w5 (w5.setCell ⟨w3.heap.size, 1, none⟩ (.int .i64 x2)) := Fr.setCell (S := fun k => k = w3.heap.size) (p := ⟨w3.heap.size, 1, none⟩) (Fr.refl _ _) (fun _ => rfl) _
 have cb6 := cb5.set_ 1 (.int .i64 x2)
 have rb6 := rb5.fr hf56 (by omega)
 have hA2' : ∀ k o, A2 = some ⟨k, o, none⟩ → k ≠ w3.heap.size := fun k o e => by have := halt3 k o e; omega
 have hR6 := hR5.fr hf56 (fun e => hbg e.symm) hA2'
 have hf6 : Fr (fun _ => False) w (w5.setCell ⟨w3.heap.size, 1, none⟩ (.int .i64 x2)) := hf5.trans hf56 (fun k hk e => by omega)
 generalize hW6 : w5.setCell ⟨w3.heap.size, 1, none⟩ (.int .i64 x2) = w6 at hf56 cb6 rb6 hR6 hf6 ⊢
 have hsz6 : w3.heap.size < w6.heap.size := cb6.lt
 clear hW6 hf56 cb5 rb5 hR5 hf5 z1 c51
 refine (reader_Nums hR6 (by omega) h8).mono ?_
 intro e w7 h7
 obtain ⟨v7, err3, p3, rfl, hR7, hf67, hok3, hbad3⟩ := rd_row h7
 have cb7 := cb6.fr hf67 hbg
 have rb7 := rb6.fr hf67 hgn
 have hf7 : Fr (fun _ => False) w w7 := hf6.trans hf67 (fun k hk e => by omega)
 clear h7 hf67 cb6 rb6 hR6 hf6
 go_wp2_with fail
 refine (reader_End hR7 (by omega)).mono ?_
 rintro e w8 ⟨rfl, hf78⟩
 have cb8 := cb7.fr hf78 id
 have rb8 := rb7.fr hf78 id
 have hf8 := hf7.then_ hf78
 have hok : getOk bs → endE bs p3 err3 = none := fun ⟨g1, g2, g3, g4, _⟩ => by
  obtain ⟨_, rfl, rfl⟩ := hok1 (by trivial) g1
  obtain ⟨_, rfl, rfl⟩ := hok2 (by trivial) g2
  obtain ⟨_, rfl, rfl⟩ := hok3 (by trivial) g3
  rw [endE, if_neg g4]
 have y0 := rb8.frozen 0
 have y1 := rb8.frozen 1
 have y2 := rb8.frozen 2
 have e0 := rb8.cell 0
 have e1 := rb8.cell 1
 have e2 := rb8.cell 2
 cases hE : endE bs p3 err3 with
 | some er =>
  have hno : Hid (¬ getOk bs) := fun h => by rw [hok h] at hE; cases hE
  obtain ⟨t, u, hu⟩ := errO_some er
  have HWr := fault_Wrap er.1 er.2 (⟨#[99, 101, 114, 116]⟩ : ByteArray) 0
  rw [show errV er.1 er.2 = .iface t u from hu] at HWr
  rw [hu]
  clear hok hok1 hok2 hok3 hbad1 hbad2 hbad3 hE hu hR7 cb7 rb7 hf7 hf78 cb8
  go_wp2_with (go_at_call 70; refine (HWr _).mono ?_; rintro e w' ⟨rfl, rfl⟩)
  have rb9 := ((rb8.set_ 0 (.int .i64 0)).set_ 1 (.int .i64 0)).set_ 2 (.slice none 0 0)
  have d0 := rb9.cell 0
  have d1 := rb9.cell 1
  have d2 := rb9.cell 2
  refine bodyPost_ret (v := .tuple #[.agg #[.int .i64 0, .int .i64 0, .slice none 0 0], errV (((⟨#[99, 101, 114, 116]⟩ : ByteArray), 0) :: er.1) er.2]) (by simp [results, Tryz.results152, go_sem, d0, d1, d2]) rfl ?_
  exact ⟨.inr ⟨hno.out, _, _, rfl⟩, get_fr hf8⟩
 | none =>
  have he3 : err3 = none := by
   cases err3 with
   | none => rfl
   | some er => cases hE
  subst he3
  have hc3 : err2 = none ∧ numsC bs p2 = 0 := by
   apply Classical.byContradiction
   intro h
   obtain ⟨er, h⟩ := hbad3 h
   cases h
  obtain ⟨rfl, hc3⟩ := hc3
  have hc2 : err1 = none ∧ intC bs p1 2147483647 = 0 := by
   apply Classical.byContradiction
   intro h
   obtain ⟨er, h⟩ := hbad2 h
   cases h
  obtain ⟨rfl, hc2⟩ := hc2
  have hc1 : intC bs 0 2147483647 = 0 := by
   apply Classical.byContradiction
   intro h
   obtain ⟨er, h⟩ := hbad1 (fun hh => h hh.2)
   cases h
  obtain ⟨rfl, rfl, _⟩ := hok1 (by trivial) hc1
  obtain ⟨rfl, rfl, _⟩ := hok2 (by trivial) hc2
  obtain ⟨hv7, rfl, _⟩ := hok3 (by trivial) hc3
  have hlast : ¬ numsP bs 16 < bs.length := by
   intro h
   rw [endE, if_pos h] at hE
   cases hE
  have hleft : Hid ((∀ x ∈ numsX bs 16, getE1 x = 0) → getOk bs) := fun h => ⟨hc1, hc2, hc3, hlast, h⟩
  have hright : Hid (getOk bs → ∀ x ∈ numsX bs 16, getE1 x = 0) := fun h => h.2.2.2.2
  have hx1 : (numsX bs 16).length ≤ 1024 := (nums_kept h8 hc3).2
  obtain ⟨A7, cap7, rfl, hr7⟩ := NumRow.of_own hv7
  have hr8 := hr7.fr hf78 (fun _ _ => id)
  have hF8 : ∀ k, (Value.slice A7 (numsX bs 16).length cap7).ownBlock = some k → k ≠ w3.heap.size ∧ k < w8.heap.size := fun k hk => by
   refine ⟨fun e => own_ne_blk hv7 cb7 (by decide) (e ▸ hk), ?_⟩
   rcases hv7.2 with ⟨h, _⟩ | ⟨g', cap', cur, h, _, hg', _⟩
   ·rw [h] at hk; cases hk
   ·rw [h] at hk; cases hk
    exact Nat.lt_of_lt_of_le (lt_of_heap hg') hf78.size
  have HEa := each_Get (cap := cap7) cb8 hr8 hF8 hx1
  have hen : errO none = .nilIface := rfl
  clear hok hok1 hok2 hok3 hbad1 hbad2 hbad3 hE hR7 cb7 rb7 hf7 hf78 hc1 hc2 hc3 hlast hr7 hr8 hF8 hv7
  have hw3 : ¬ w.heap.size = w3.heap.size := by omega
  go_wp2_with fail
  refine HEa.mono ?_
  rintro e w9 ⟨h9, hf89⟩
  have rb9 := rb8.fr hf89 hw3
  have hf9 : Fr (fun _ => False) w w9 := hf8.trans hf89 (fun k hk e => by omega)
  have y0' := rb9.frozen 0
  have y1' := rb9.frozen 1
  have y2' := rb9.frozen 2
  have e0' := rb9.cell 0
  have e1' := rb9.cell 1
  have e2' := rb9.cell 2
  clear y0 y1 y2 e0 e1 e2 HEa
  rcases h9 with ⟨hall, rfl, v9, hC9⟩ | ⟨hnot, l9, c9, rfl⟩
  ·have hgo : Hid (getOk bs) := hleft.out hall
   obtain ⟨A9, cap9, rfl, _, _⟩ := own_form hC9.own
   have q0 := hC9.blk.cell 0
   have q1 := hC9.blk.cell 1
   have q2 := hC9.blk.cell 2
   clear hall
   go_wp2_with fail
   have rb10 := ((rb9.set_ 0 (.int .i64 (numX bs 0))).set_ 1 (.int .i64 (numX bs 8))).set_ 2 (.slice A9 (numsX bs 16).length cap9)
   have d0 := rb10.cell 0
   have d1 := rb10.cell 1
   have d2 := rb10.cell 2
   have o10 := own_setCell (own_setCell (own_setCell hC9.own rb9 (by decide) 0 (.int .i64 (numX bs 0))) (rb9.set_ 0 (.int .i64 (numX bs 0))) (by decide) 1 (.int .i64 (numX bs 8))) ((rb9.set_ 0 (.int .i64 (numX bs 0))).set_ 1 (.int .i64 (numX bs 8))) (by decide) 2 (.slice A9 (numsX bs 16).length cap9)
   refine bodyPost_ret (v := .tuple #[.agg #[.int .i64 (numX bs 0), .int .i64 (numX bs 8), .slice A9 (numsX bs 16).length cap9], .nilIface]) (by simp [results, Tryz.results152, go_sem, d0, d1, d2]) rfl ?_
   exact ⟨.inl ⟨hgo.out, A9, cap9, rfl, IntRow.of_own' o10⟩, get_fr hf9⟩
  ·have hno : Hid (¬ getOk bs) := fun h => hnot (hright.out h)
   obtain ⟨t, u, hu⟩ := errV_iface l9 c9
   have HWr := fault_Wrap l9 c9 (⟨#[99, 101, 114, 116]⟩ : ByteArray) 0
   rw [hu] at HWr
   rw [hu]
   clear hnot hu
   go_wp2_with (go_at_call 70; refine (HWr _).mono ?_; rintro e w' ⟨rfl, rfl⟩)
   have rb10 := ((rb9.set_ 0 (.int .i64 0)).set_ 1 (.int .i64 0)).set_ 2 (.slice none 0 0)
   have d0 := rb10.cell 0
   have d1 := rb10.cell 1
   have d2 := rb10.cell 2
   refine bodyPost_ret (v := .tuple #[.agg #[.int .i64 0, .int .i64 0, .slice none 0 0], errV (((⟨#[99, 101, 114, 116]⟩ : ByteArray), 0) :: l9) c9]) (by simp [results, Tryz.results152, go_sem, d0, d1, d2]) rfl ?_
   exact ⟨.inr ⟨hno.out, _, _, rfl⟩, get_fr hf9⟩
end Go.Proofs.YtmkdhhhoodeemaaGreat

/- Is what is said nothing? (a struct compared with a zero one) -/
namespace Go.Proofs.YtmkdhhhoodeemaaGreat
open Go Go.RowKit
def ZSay (s : SayD) : Prop := s = ⟨0, 0, false, ⟨#[]⟩, ⟨#[]⟩, 0, 0, 0, 0⟩
def zeroSay (s : SayD) : Bool := (s.kind == 0) && (s.txn == 0) && (s.yes == false) && (s.from_.toList == (⟨#[]⟩ : ByteArray).toList) && (s.to_.toList == (⟨#[]⟩ : ByteArray).toList) && (s.epoch == 0) && (s.shard == 0) && (s.target == 0) && (s.root == 0)
theorem empty_bytes (a : ByteArray) : (a.toList == (⟨#[]⟩ : ByteArray).toList) = true ↔ a = ⟨#[]⟩ := by
 rw [beq_iff_eq]
 constructor
 ·intro h
  rw [ByteArray.toList_eq, ByteArray.toList_eq] at h
  exact ByteArray.ext (Array.ext' h)
 ·rintro rfl
  rfl
theorem zeroSay_iff (s : SayD) : zeroSay s = true ↔ ZSay s := by
 obtain ⟨k, t, y, f, g, e, sh, ta, r⟩ := s
 unfold zeroSay ZSay
 simp only [Bool.and_eq_true]
 rw [empty_bytes, empty_bytes]
 simp only [beq_iff_eq, SayD.mk.injEq]
 constructor
 ·rintro ⟨⟨⟨⟨⟨⟨⟨⟨a, b⟩, c⟩, d⟩, e⟩, f⟩, g⟩, h⟩, i⟩
  exact ⟨a, b, c, d, e, f, g, h, i⟩
 ·rintro ⟨a, b, c, d, e, f, g, h, i⟩
  exact ⟨⟨⟨⟨⟨⟨⟨⟨a, b⟩, c⟩, d⟩, e⟩, f⟩, g⟩, h⟩, i⟩
theorem say_fields : (Tryz.prog).underlying 23 = some (.struct ((Tryz.prog).fieldsOf 23)) := by kernel_rfl
theorem say_stood : (Tryz.prog).stoodInHeld 23 = false := by kernel_rfl
theorem run_eqSay (s : SayD) (w : World) : (Op.equalIn 10000 23 (.agg #[.int .i64 s.kind, .int .i64 s.txn, .bool s.yes, .string s.from_, .string s.to_, .int .i64 s.epoch, .int .i64 s.shard, .int .i64 s.target, .int .i64 s.root]) (.agg #[.int .i64 0, .int .i64 0, .bool false, .string ⟨#[]⟩, .string ⟨#[]⟩, .int .i64 0, .int .i64 0, .int .i64 0, .int .i64 0])).run Tryz.prog w = .ok (zeroSay s) w := by
 obtain ⟨k, t, y, f, g, e, sh, ta, r⟩ := s
 have u1 := Tryz.underlying3
 have u2 := Tryz.underlying2
 have u3 := Tryz.underlying4
 have u4 := Tryz.underlying9
 rw [show (10000 : Nat) = 9999 + 1 from rfl, run_equalIn_struct w 9999 23 _ _ say_fields say_stood]
 simp only [Program.fieldsOf, Tryz.underlying23]
 go_simp
 unfold zeroSay
 repeat' split
 all_goals simp_all
theorem run_neqSay (k t : Int) (y : Bool) (f g : ByteArray) (e sh ta r : Int) (w : World) : (binOp .neq 23 (.agg #[.int .i64 k, .int .i64 t, .bool y, .string f, .string g, .int .i64 e, .int .i64 sh, .int .i64 ta, .int .i64 r]) (.agg #[.int .i64 0, .int .i64 0, .bool false, .string ⟨#[]⟩, .string ⟨#[]⟩, .int .i64 0, .int .i64 0, .int .i64 0, .int .i64 0])).run Tryz.prog w = .ok (.bool (!zeroSay ⟨k, t, y, f, g, e, sh, ta, r⟩)) w := by
 rw [run_neq_struct, run_eqSay ⟨k, t, y, f, g, e, sh, ta, r⟩ w]
 rfl
theorem run_eqlSay (k t : Int) (y : Bool) (f g : ByteArray) (e sh ta r : Int) (w : World) : (binOp .eql 23 (.agg #[.int .i64 k, .int .i64 t, .bool y, .string f, .string g, .int .i64 e, .int .i64 sh, .int .i64 ta, .int .i64 r]) (.agg #[.int .i64 0, .int .i64 0, .bool false, .string ⟨#[]⟩, .string ⟨#[]⟩, .int .i64 0, .int .i64 0, .int .i64 0, .int .i64 0])).run Tryz.prog w = .ok (.bool (zeroSay ⟨k, t, y, f, g, e, sh, ta, r⟩)) w := by
 rw [run_eql_struct, run_eqSay ⟨k, t, y, f, g, e, sh, ta, r⟩ w]
 rfl
end Go.Proofs.YtmkdhhhoodeemaaGreat

/- say: an order's texts, where its proof is zero. -/
namespace Go.Proofs.YtmkdhhhoodeemaaGreat
open Go Go.RowKit
attribute [local go_sem ↓] run_neqSay run_eqlSay
theorem putP_of {w : World} {G D : Int} {xs : List Int} (hx : xs.length ≤ 1024) {e : Ending} {w' : World} (h : PutOut w G D xs e w') : PutP w (num8 G ++ num8 D ++ numsB xs) .nilIface e w' := by
 unfold PutOut putErr putB at h
 rw [if_pos hx, if_pos hx] at h
 exact h
theorem err_row {w : World} {g : Nat} {t : TypeId} {a b c d : Value} (h : Blk w g t #[a, b, c, d]) (ha : NilOr a) (hb : NilOr b) (hc : NilOr c) (hd : NilOr d) : ErrRow w g [a, b, c, d] := by
 intro k x hx
 match k, hx with
 | 0, hx => cases hx; exact ⟨h.cell 0, ha⟩
 | 1, hx => cases hx; exact ⟨h.cell 1, hb⟩
 | 2, hx => cases hx; exact ⟨h.cell 2, hc⟩
 | 3, hx => cases hx; exact ⟨h.cell 3, hd⟩
theorem get_fine {w : World} {bs : List Int} (h : getOk bs) {e : Ending} {w' : World} (hg : GetOut w bs e w') : ∃ x, e = .returned (.tuple #[x, .nilIface]) ∧ Fr (fun _ => False) w w' := by
 obtain ⟨⟨_, A, cap, he, _⟩ | ⟨hno, _⟩, hf⟩ := hg
 ·exact ⟨_, he, hf⟩
 ·exact absurd h hno
theorem bytes8_app {a b : List Int} (ha : Bytes8 a) (hb : Bytes8 b) : Bytes8 (a ++ b) := fun x hx => (List.mem_append.1 hx).elim (ha x) (hb x)
theorem cert_bytes (G D : Int) (xs : List Int) : Bytes8 (num8 G ++ num8 D ++ numsB xs) :=
 bytes8_app (bytes8_app (num8_bytes G) (num8_bytes D)) (bytes8_app (count4_bytes _) (fun x hx => by
  obtain ⟨y, _, h⟩ := List.mem_flatMap.1 hx
  exact num8_bytes y x h))
theorem cert_len {G D : Int} {xs : List Int} (h : xs.length ≤ 1024) : (num8 G ++ num8 D ++ numsB xs).length ≤ 9000 := by
 have := flat_num8 xs
 have e1 : (num8 G).length = 8 := by simp [num8]
 have e2 : (num8 D).length = 8 := by simp [num8]
 have e3 : (count4 (xs.length : Int)).length = 4 := rfl
 rw [List.length_append, List.length_append, numsB, List.length_append, e1, e2, e3, this]
 omega
set_option maxRecDepth 100000 in
set_option maxHeartbeats 2000000 in
theorem say_texts_ok {w : World} {A B : Option Addr} {nr nw cr cw : Nat} {c n : Int} {s : SayD} {bC : Nat} {C : Option Addr} {cx : Nat} {xs : List Int} {G D : Int} (hC : IntRow w bC C xs) (hbC : bC ≤ w.heap.size) (hxl : xs.length ≤ 1024) (hgetok : getOk (num8 G ++ num8 D ++ numsB xs)) {bs : List Int} (hbs : num8 G ++ num8 D ++ numsB xs = bs) {kind : Int} {nm sz : Bool} {b0 b1 : List Int} {r0 r1 : Value}
  (hsz : zeroSay s = !sz)
  (h0 : ∀ w', Fr (fun _ => False) w w' → Calls Tryz.prog 148 #[.bool nm, .agg #[.int .i64 c, .int .i64 n, .slice A nr cr, .slice B nw cw], .func (.func 149) #[] #[]] w' (PutP w' b0 r0))
  (h1 : ∀ w', Fr (fun _ => False) w w' → Calls Tryz.prog 150 #[.bool sz, .agg #[.int .i64 s.kind, .int .i64 s.txn, .bool s.yes, .string s.from_, .string s.to_, .int .i64 s.epoch, .int .i64 s.shard, .int .i64 s.target, .int .i64 s.root], .func (.func 77) #[] #[]] w' (PutP w' b1 r1))
  (hr0 : r0 = .nilIface) (hr1 : r1 = .nilIface) (hk1 : 1 ≤ kind) (hk2 : kind ≤ 10) (hnm : nm = false) (hk : ¬ kind = 1 ∧ ¬ kind = 6) (hno : ∀ w', Fr (fun _ => False) w w' → Calls Tryz.prog 155 #[.agg #[.int .i64 c, .int .i64 n, .slice A nr cr, .slice B nw cw]] w' (OkB w' true)) :
  Calls Tryz.prog 123 #[.agg #[.int .i64 kind, .int .i64 c, .int .i64 n, .slice A nr cr, .slice B nw cw, .int .i64 s.kind, .int .i64 s.txn, .bool s.yes, .string s.from_, .string s.to_, .int .i64 s.epoch, .int .i64 s.shard, .int .i64 s.target, .int .i64 s.root, .int .i64 G, .int .i64 D, .slice C xs.length cx, .int .i64 0, .int .i64 0, .slice none 0 0, .slice none 0 0]] w (fun e w' => ∃ v0 v1 v2, e = .returned (.tuple #[.agg #[v0, v1, v2], .bool true]) ∧ Own8 w' w.heap.size v0 b0 ∧ Own8 w' w.heap.size v1 b1 ∧ Own8 w' w.heap.size v2 bs ∧ Fr (fun _ => False) w w') := by
 have H0 := Lib.hid h0
 have H1 := Lib.hid h1
 have HC := Lib.hid hC
 have HG := hgetok
 rw [hbs] at HG
 have HG := Lib.hid HG
 have HBS := Lib.hid hbs
 have H8 : Hid (Bytes8 bs) := by show Bytes8 bs; rw [← hbs]; exact cert_bytes G D xs
 have HBL : Hid (bs.length ≤ 9000) := by show _ ≤ _; rw [← hbs]; exact cert_len hxl
 have HXL := Lib.hid hxl
 have HBC := Lib.hid hbC
 clear h0 h1 hC hgetok hxl hbC hbs
 have hf0 : Fr (fun _ => False) w ((((w.alloc (Obj.cells #[.int .i64 kind, .int .i64 c, .int .i64 n, .slice A nr cr, .slice B nw cw, .int .i64 s.kind, .int .i64 s.txn, .bool s.yes, .string s.from_, .string s.to_, .int .i64 s.epoch, .int .i64 s.shard, .int .i64 s.target, .int .i64 s.root, .int .i64 G, .int .i64 D, .slice C xs.length cx, .int .i64 0, .int .i64 0, .slice none 0 0, .slice none 0 0] 62)).alloc (Obj.cells #[.slice none 0 0, .slice none 0 0, .slice none 0 0] 214)).alloc (Obj.cells #[.slice none 0 0, .slice none 0 0, .slice none 0 0] 214)).alloc (Obj.cells #[.nilIface, .nilIface, .nilIface, .nilIface] 233)) := ((((Fr.refl _ _).alloc _).alloc _).alloc _).alloc _
 have hO0 : Blk ((((w.alloc (Obj.cells #[.int .i64 kind, .int .i64 c, .int .i64 n, .slice A nr cr, .slice B nw cw, .int .i64 s.kind, .int .i64 s.txn, .bool s.yes, .string s.from_, .string s.to_, .int .i64 s.epoch, .int .i64 s.shard, .int .i64 s.target, .int .i64 s.root, .int .i64 G, .int .i64 D, .slice C xs.length cx, .int .i64 0, .int .i64 0, .slice none 0 0, .slice none 0 0] 62)).alloc (Obj.cells #[.slice none 0 0, .slice none 0 0, .slice none 0 0] 214)).alloc (Obj.cells #[.slice none 0 0, .slice none 0 0, .slice none 0 0] 214)).alloc (Obj.cells #[.nilIface, .nilIface, .nilIface, .nilIface] 233)) w.heap.size 62 #[.int .i64 kind, .int .i64 c, .int .i64 n, .slice A nr cr, .slice B nw cw, .int .i64 s.kind, .int .i64 s.txn, .bool s.yes, .string s.from_, .string s.to_, .int .i64 s.epoch, .int .i64 s.shard, .int .i64 s.target, .int .i64 s.root, .int .i64 G, .int .i64 D, .slice C xs.length cx, .int .i64 0, .int .i64 0, .slice none 0 0, .slice none 0 0] := (((Blk.new w _ _).alloc _).alloc _).alloc _
 have hR0 : Blk ((((w.alloc (Obj.cells #[.int .i64 kind, .int .i64 c, .int .i64 n, .slice A nr cr, .slice B nw cw, .int .i64 s.kind, .int .i64 s.txn, .bool s.yes, .string s.from_, .string s.to_, .int .i64 s.epoch, .int .i64 s.shard, .int .i64 s.target, .int .i64 s.root, .int .i64 G, .int .i64 D, .slice C xs.length cx, .int .i64 0, .int .i64 0, .slice none 0 0, .slice none 0 0] 62)).alloc (Obj.cells #[.slice none 0 0, .slice none 0 0, .slice none 0 0] 214)).alloc (Obj.cells #[.slice none 0 0, .slice none 0 0, .slice none 0 0] 214)).alloc (Obj.cells #[.nilIface, .nilIface, .nilIface, .nilIface] 233)) (w.heap.size + 1) 214 #[.slice none 0 0, .slice none 0 0, .slice none 0 0] := ((Blk.new_ _ _ _ (by simp)).alloc _).alloc _
 have hL0 : Blk ((((w.alloc (Obj.cells #[.int .i64 kind, .int .i64 c, .int .i64 n, .slice A nr cr, .slice B nw cw, .int .i64 s.kind, .int .i64 s.txn, .bool s.yes, .string s.from_, .string s.to_, .int .i64 s.epoch, .int .i64 s.shard, .int .i64 s.target, .int .i64 s.root, .int .i64 G, .int .i64 D, .slice C xs.length cx, .int .i64 0, .int .i64 0, .slice none 0 0, .slice none 0 0] 62)).alloc (Obj.cells #[.slice none 0 0, .slice none 0 0, .slice none 0 0] 214)).alloc (Obj.cells #[.slice none 0 0, .slice none 0 0, .slice none 0 0] 214)).alloc (Obj.cells #[.nilIface, .nilIface, .nilIface, .nilIface] 233)) (w.heap.size + 1 + 1) 214 #[.slice none 0 0, .slice none 0 0, .slice none 0 0] := (Blk.new_ _ _ _ (by simp)).alloc _
 have hE0 : Blk ((((w.alloc (Obj.cells #[.int .i64 kind, .int .i64 c, .int .i64 n, .slice A nr cr, .slice B nw cw, .int .i64 s.kind, .int .i64 s.txn, .bool s.yes, .string s.from_, .string s.to_, .int .i64 s.epoch, .int .i64 s.shard, .int .i64 s.target, .int .i64 s.root, .int .i64 G, .int .i64 D, .slice C xs.length cx, .int .i64 0, .int .i64 0, .slice none 0 0, .slice none 0 0] 62)).alloc (Obj.cells #[.slice none 0 0, .slice none 0 0, .slice none 0 0] 214)).alloc (Obj.cells #[.slice none 0 0, .slice none 0 0, .slice none 0 0] 214)).alloc (Obj.cells #[.nilIface, .nilIface, .nilIface, .nilIface] 233)) (w.heap.size + 1 + 1 + 1) 233 #[.nilIface, .nilIface, .nilIface, .nilIface] := Blk.new_ _ _ _ (by simp)
 have hz0 : w.heap.size + 4 ≤ ((((w.alloc (Obj.cells #[.int .i64 kind, .int .i64 c, .int .i64 n, .slice A nr cr, .slice B nw cw, .int .i64 s.kind, .int .i64 s.txn, .bool s.yes, .string s.from_, .string s.to_, .int .i64 s.epoch, .int .i64 s.shard, .int .i64 s.target, .int .i64 s.root, .int .i64 G, .int .i64 D, .slice C xs.length cx, .int .i64 0, .int .i64 0, .slice none 0 0, .slice none 0 0] 62)).alloc (Obj.cells #[.slice none 0 0, .slice none 0 0, .slice none 0 0] 214)).alloc (Obj.cells #[.slice none 0 0, .slice none 0 0, .slice none 0 0] 214)).alloc (Obj.cells #[.nilIface, .nilIface, .nilIface, .nilIface] 233)).heap.size := by simp
 subst hr0 hr1 hnm
 have HN := Lib.hid hno
 clear hno
 obtain ⟨q1, q6⟩ := hk
 have q1' : (kind == 1) = false := by simp [q1]
 have q6' : (kind == 6) = false := by simp [q6]
 go_enter Tryz.func123, Tryz.ntmps123
 go_upto_region 4 with fail
 generalize ((((w.alloc (Obj.cells #[.int .i64 kind, .int .i64 c, .int .i64 n, .slice A nr cr, .slice B nw cw, .int .i64 s.kind, .int .i64 s.txn, .bool s.yes, .string s.from_, .string s.to_, .int .i64 s.epoch, .int .i64 s.shard, .int .i64 s.target, .int .i64 s.root, .int .i64 G, .int .i64 D, .slice C xs.length cx, .int .i64 0, .int .i64 0, .slice none 0 0, .slice none 0 0] 62)).alloc (Obj.cells #[.slice none 0 0, .slice none 0 0, .slice none 0 0] 214)).alloc (Obj.cells #[.slice none 0 0, .slice none 0 0, .slice none 0 0] 214)).alloc (Obj.cells #[.nilIface, .nilIface, .nilIface, .nilIface] 233)) = w0 at *
 have k1 := hO0.cell 1
 have k2 := hO0.cell 2
 have k3 := hO0.cell 3
 have k4 := hO0.cell 4
 go_upto_region 5 with (first | (go_at_call 148; refine (H0.out _ hf0).mono ?_; rintro e w1 ⟨v0, rfl, hv01, hf1⟩; obtain ⟨A0, c0, rfl, _, _⟩ := hv01.form; have hf01 := hf0.then_ hf1; have hL1 := hL0.fr hf1 id; have hE1 := hE0.fr hf1 id; have hO1 := hO0.fr hf1 id; have hR1 := hR0.fr hf1 id; have l0 := hL1.cell 0; have lf := hL1.frozen 0; have e0 := hE1.cell 0; have ef := hE1.frozen 0))
 have hO2 : Blk ((w1.setCell ⟨w.heap.size + 1 + 1, 0, none⟩ (Value.slice A0 b0.length c0)).setCell ⟨w.heap.size + 1 + 1 + 1, 0, none⟩ .nilIface) _ _ _ := ((hO1.far (fun h => by (try dsimp only at h); omega) _).far (fun h => by (try dsimp only at h); omega) _)
 have hR2 : Blk ((w1.setCell ⟨w.heap.size + 1 + 1, 0, none⟩ (Value.slice A0 b0.length c0)).setCell ⟨w.heap.size + 1 + 1 + 1, 0, none⟩ .nilIface) _ _ _ := ((hR1.far (fun h => by (try dsimp only at h); omega) _).far (fun h => by (try dsimp only at h); omega) _)
 have hL2 : Blk ((w1.setCell ⟨w.heap.size + 1 + 1, 0, none⟩ (Value.slice A0 b0.length c0)).setCell ⟨w.heap.size + 1 + 1 + 1, 0, none⟩ .nilIface) _ _ _ := ((hL1.set_ 0 _).far (fun h => by (try dsimp only at h); omega) _)
 have hE2 : Blk ((w1.setCell ⟨w.heap.size + 1 + 1, 0, none⟩ (Value.slice A0 b0.length c0)).setCell ⟨w.heap.size + 1 + 1 + 1, 0, none⟩ .nilIface) _ _ _ := ((hE1.far (fun h => by (try dsimp only at h); omega) _).set_ 0 _)
 have hf02 : Fr (fun _ => False) w ((w1.setCell ⟨w.heap.size + 1 + 1, 0, none⟩ (Value.slice A0 b0.length c0)).setCell ⟨w.heap.size + 1 + 1 + 1, 0, none⟩ .nilIface) := ((hf01.setCell (p := ⟨w.heap.size + 1 + 1, 0, none⟩) (fun h => absurd h (by dsimp only; omega)) _).setCell (p := ⟨w.heap.size + 1 + 1 + 1, 0, none⟩) (fun h => absurd h (by dsimp only; omega)) _)
 have hv02 : Own8 ((w1.setCell ⟨w.heap.size + 1 + 1, 0, none⟩ (Value.slice A0 b0.length c0)).setCell ⟨w.heap.size + 1 + 1 + 1, 0, none⟩ .nilIface) _ _ _ := hv01.fr (((Fr.refl (fun k => k = (w.heap.size + 1 + 1 + 1) ∨ k = (w.heap.size + 1 + 1)) w1).setCell (p := ⟨w.heap.size + 1 + 1, 0, none⟩) (fun _ => Or.inr rfl) _).setCell (p := ⟨w.heap.size + 1 + 1 + 1, 0, none⟩) (fun _ => Or.inl rfl) _) (fun k hk h => h.elim (fun h => hv01.ne_blk hE1 (by decide) (by rw [← h]; exact hk)) (fun h => hv01.ne_blk hL1 (by decide) (by rw [← h]; exact hk)))
 generalize ((w1.setCell ⟨w.heap.size + 1 + 1, 0, none⟩ (Value.slice A0 b0.length c0)).setCell ⟨w.heap.size + 1 + 1 + 1, 0, none⟩ .nilIface) = w2 at *
 have k5 := hO2.cell 5
 have k6 := hO2.cell 6
 have k7 := hO2.cell 7
 have k8 := hO2.cell 8
 have k9 := hO2.cell 9
 have k10 := hO2.cell 10
 have k11 := hO2.cell 11
 have k12 := hO2.cell 12
 have k13 := hO2.cell 13
 have hf02d : Fr (fun _ => False) w w2.drew := hf02.drew
 refine wp_region_noPanic ?_
 refine wp_region_held_drew (S := (fun w' => w'.cell? ⟨w.heap.size, 5, none⟩ = some (.int .i64 s.kind) ∧ w'.cell? ⟨w.heap.size, 6, none⟩ = some (.int .i64 s.txn) ∧ w'.cell? ⟨w.heap.size, 7, none⟩ = some (.bool s.yes) ∧ w'.cell? ⟨w.heap.size, 8, none⟩ = some (.string s.from_) ∧ w'.cell? ⟨w.heap.size, 9, none⟩ = some (.string s.to_) ∧ w'.cell? ⟨w.heap.size, 10, none⟩ = some (.int .i64 s.epoch) ∧ w'.cell? ⟨w.heap.size, 11, none⟩ = some (.int .i64 s.shard) ∧ w'.cell? ⟨w.heap.size, 12, none⟩ = some (.int .i64 s.target) ∧ w'.cell? ⟨w.heap.size, 13, none⟩ = some (.int .i64 s.root))) (by kernel_rfl) (⟨k5, k6, k7, k8, k9, k10, k11, k12, k13⟩) (fun hHeld => ?_)
 refine tk 0 26 ?_
 refine tk 1 27 ?_
 refine tk 2 28 ?_
 refine tk 3 29 ?_
 refine tk 4 30 ?_
 refine tk 5 31 ?_
 refine wpAnyH_ready (rs := [6]) (by kernel_rfl) (by simp) ?_
 refine AllReadyH.cons rfl (fun K hK => ?_) AllReadyH.nil
 go_simp
 go_at_call 150
 refine (H1.out _ hf02d).mono ?_
 rintro e w3 ⟨v1, rfl, hv13, hf3⟩
 obtain ⟨A1, c1, rfl, _, _⟩ := hv13.form
 have hf3 : Fr (fun _ => False) w2 w3 := ((Fr.refl (fun _ => False) w2).drew).trans hf3 (fun _ _ h => h)
 have hO3 := hO2.fr hf3 id
 have hR3 := hR2.fr hf3 id
 have hL3 := hL2.fr hf3 id
 have hE3 := hE2.fr hf3 id
 have hv03 := hv02.fr hf3 (fun _ _ => id)
 have hf03 := hf02.then_ hf3
 have lc1 := hL3.cell 1
 have ec1 := hE3.cell 1
 have lf := hL3.frozen 1
 have ef := hE3.frozen 1
 try go_wp2_with fail
 refine hK.out _ _ (⟨hO3.cell 5, hO3.cell 6, hO3.cell 7, hO3.cell 8, hO3.cell 9, hO3.cell 10, hO3.cell 11, hO3.cell 12, hO3.cell 13⟩) (fun hHeld => ?_)
 clear hK K
 refine tk 7 25 ?_
 refine tk 8 33 ?_
 refine tk 9 34 ?_
 refine tk 10 35 ?_
 refine wpAnyH_ready (rs := [11]) (by kernel_rfl) (by simp) ?_
 refine AllReadyH.cons rfl (fun K hK => ?_) AllReadyH.nil
 go_simp
 refine hK.out _ _ (⟨(hO3.far (fun h => by (try dsimp only at h); omega) _).cell 5, (hO3.far (fun h => by (try dsimp only at h); omega) _).cell 6, (hO3.far (fun h => by (try dsimp only at h); omega) _).cell 7, (hO3.far (fun h => by (try dsimp only at h); omega) _).cell 8, (hO3.far (fun h => by (try dsimp only at h); omega) _).cell 9, (hO3.far (fun h => by (try dsimp only at h); omega) _).cell 10, (hO3.far (fun h => by (try dsimp only at h); omega) _).cell 11, (hO3.far (fun h => by (try dsimp only at h); omega) _).cell 12, (hO3.far (fun h => by (try dsimp only at h); omega) _).cell 13⟩) (fun hHeld => ?_)
 clear hK K
 refine tk 12 36 ?_
 refine wpAnyH_ready (rs := [13]) (by kernel_rfl) (by simp) ?_
 refine AllReadyH.cons rfl (fun K hK => ?_) AllReadyH.nil
 go_simp
 refine hK.out _ _ (⟨((hO3.far (fun h => by (try dsimp only at h); omega) _).far (fun h => by (try dsimp only at h); omega) _).cell 5, ((hO3.far (fun h => by (try dsimp only at h); omega) _).far (fun h => by (try dsimp only at h); omega) _).cell 6, ((hO3.far (fun h => by (try dsimp only at h); omega) _).far (fun h => by (try dsimp only at h); omega) _).cell 7, ((hO3.far (fun h => by (try dsimp only at h); omega) _).far (fun h => by (try dsimp only at h); omega) _).cell 8, ((hO3.far (fun h => by (try dsimp only at h); omega) _).far (fun h => by (try dsimp only at h); omega) _).cell 9, ((hO3.far (fun h => by (try dsimp only at h); omega) _).far (fun h => by (try dsimp only at h); omega) _).cell 10, ((hO3.far (fun h => by (try dsimp only at h); omega) _).far (fun h => by (try dsimp only at h); omega) _).cell 11, ((hO3.far (fun h => by (try dsimp only at h); omega) _).far (fun h => by (try dsimp only at h); omega) _).cell 12, ((hO3.far (fun h => by (try dsimp only at h); omega) _).far (fun h => by (try dsimp only at h); omega) _).cell 13⟩) (fun hHeld => ?_)
 clear hK K
 refine wpAnyH_done (by kernel_rfl) ?_ _
 refine NoPanic.normal ?_
 have hO4 : Blk ((w3.setCell ⟨w.heap.size + 1 + 1, 1, none⟩ (Value.slice A1 b1.length c1)).setCell ⟨w.heap.size + 1 + 1 + 1, 1, none⟩ .nilIface) _ _ _ := ((hO3.far (fun h => by (try dsimp only at h); omega) _).far (fun h => by (try dsimp only at h); omega) _)
 have hR4 : Blk ((w3.setCell ⟨w.heap.size + 1 + 1, 1, none⟩ (Value.slice A1 b1.length c1)).setCell ⟨w.heap.size + 1 + 1 + 1, 1, none⟩ .nilIface) _ _ _ := ((hR3.far (fun h => by (try dsimp only at h); omega) _).far (fun h => by (try dsimp only at h); omega) _)
 have hL4 : Blk ((w3.setCell ⟨w.heap.size + 1 + 1, 1, none⟩ (Value.slice A1 b1.length c1)).setCell ⟨w.heap.size + 1 + 1 + 1, 1, none⟩ .nilIface) _ _ _ := ((hL3.set_ 1 _).far (fun h => by (try dsimp only at h); omega) _)
 have hE4 : Blk ((w3.setCell ⟨w.heap.size + 1 + 1, 1, none⟩ (Value.slice A1 b1.length c1)).setCell ⟨w.heap.size + 1 + 1 + 1, 1, none⟩ .nilIface) _ _ _ := ((hE3.far (fun h => by (try dsimp only at h); omega) _).set_ 1 _)
 have hf04 : Fr (fun _ => False) w ((w3.setCell ⟨w.heap.size + 1 + 1, 1, none⟩ (Value.slice A1 b1.length c1)).setCell ⟨w.heap.size + 1 + 1 + 1, 1, none⟩ .nilIface) := ((hf03.setCell (p := ⟨w.heap.size + 1 + 1, 1, none⟩) (fun h => absurd h (by dsimp only; omega)) _).setCell (p := ⟨w.heap.size + 1 + 1 + 1, 1, none⟩) (fun h => absurd h (by dsimp only; omega)) _)
 have hv04 : Own8 ((w3.setCell ⟨w.heap.size + 1 + 1, 1, none⟩ (Value.slice A1 b1.length c1)).setCell ⟨w.heap.size + 1 + 1 + 1, 1, none⟩ .nilIface) _ _ _ := hv03.fr (((Fr.refl (fun k => k = (w.heap.size + 1 + 1 + 1) ∨ k = (w.heap.size + 1 + 1)) w3).setCell (p := ⟨w.heap.size + 1 + 1, 1, none⟩) (fun _ => Or.inr rfl) _).setCell (p := ⟨w.heap.size + 1 + 1 + 1, 1, none⟩) (fun _ => Or.inl rfl) _) (fun k hk h => h.elim (fun h => hv03.ne_blk hE3 (by decide) (by rw [← h]; exact hk)) (fun h => hv03.ne_blk hL3 (by decide) (by rw [← h]; exact hk)))
 have hv14 : Own8 ((w3.setCell ⟨w.heap.size + 1 + 1, 1, none⟩ (Value.slice A1 b1.length c1)).setCell ⟨w.heap.size + 1 + 1 + 1, 1, none⟩ .nilIface) _ _ _ := hv13.fr (((Fr.refl (fun k => k = (w.heap.size + 1 + 1 + 1) ∨ k = (w.heap.size + 1 + 1)) w3).setCell (p := ⟨w.heap.size + 1 + 1, 1, none⟩) (fun _ => Or.inr rfl) _).setCell (p := ⟨w.heap.size + 1 + 1 + 1, 1, none⟩) (fun _ => Or.inl rfl) _) (fun k hk h => h.elim (fun h => hv13.ne_blk hE3 (by decide) (by rw [← h]; exact hk)) (fun h => hv13.ne_blk hL3 (by decide) (by rw [← h]; exact hk)))
 generalize ((w3.setCell ⟨w.heap.size + 1 + 1, 1, none⟩ (Value.slice A1 b1.length c1)).setCell ⟨w.heap.size + 1 + 1 + 1, 1, none⟩ .nilIface) = w4 at *
 have k14 := hO4.cell 14
 have k15 := hO4.cell 15
 have k16 := hO4.cell 16
 have HP : Hid (Calls Tryz.prog 151 #[.agg #[.int .i64 G, .int .i64 D, .slice C xs.length cx]] w4 (PutP w4 bs .nilIface)) := (cert_Put (cap := cx) (HC.out.fr hf04 (fun _ _ => id)) (Nat.le_trans HBC.out hf04.size) (by have := HXL.out; omega) G D).mono fun _ _ h => HBS.out ▸ putP_of HXL.out h
 go_upto_region 7 with (first | (go_at_call 151; refine HP.out.mono ?_; rintro e w5 ⟨v2, rfl, hv25, hf5⟩; obtain ⟨A2, c2, rfl, _, _⟩ := hv25.form; have hO5 := hO4.fr hf5 id; have hR5 := hR4.fr hf5 id; have hL5 := hL4.fr hf5 id; have hE5 := hE4.fr hf5 id; have hv05 := hv04.fr hf5 (fun _ _ => id); have hv15 := hv14.fr hf5 (fun _ _ => id); have hf05 := hf04.then_ hf5; have lc := hL5.cell 2; have lf := hL5.frozen 2; have ec := hE5.cell 2; have ef := hE5.frozen 2))
 have hO6 : Blk ((w5.setCell ⟨w.heap.size + 1 + 1, 2, none⟩ (Value.slice A2 bs.length c2)).setCell ⟨w.heap.size + 1 + 1 + 1, 2, none⟩ Value.nilIface) _ _ _ := ((hO5.far (fun h => by (try dsimp only at h); omega) _).far (fun h => by (try dsimp only at h); omega) _)
 have hR6 : Blk ((w5.setCell ⟨w.heap.size + 1 + 1, 2, none⟩ (Value.slice A2 bs.length c2)).setCell ⟨w.heap.size + 1 + 1 + 1, 2, none⟩ Value.nilIface) _ _ _ := ((hR5.far (fun h => by (try dsimp only at h); omega) _).far (fun h => by (try dsimp only at h); omega) _)
 have hL6 : Blk ((w5.setCell ⟨w.heap.size + 1 + 1, 2, none⟩ (Value.slice A2 bs.length c2)).setCell ⟨w.heap.size + 1 + 1 + 1, 2, none⟩ Value.nilIface) _ _ _ := ((hL5.set_ 2 _).far (fun h => by (try dsimp only at h); omega) _)
 have hE6 : Blk ((w5.setCell ⟨w.heap.size + 1 + 1, 2, none⟩ (Value.slice A2 bs.length c2)).setCell ⟨w.heap.size + 1 + 1 + 1, 2, none⟩ Value.nilIface) _ _ _ := ((hE5.far (fun h => by (try dsimp only at h); omega) _).set_ 2 _)
 have hf06 : Fr (fun _ => False) w ((w5.setCell ⟨w.heap.size + 1 + 1, 2, none⟩ (Value.slice A2 bs.length c2)).setCell ⟨w.heap.size + 1 + 1 + 1, 2, none⟩ Value.nilIface) := ((hf05.setCell (p := ⟨w.heap.size + 1 + 1, 2, none⟩) (fun h => absurd h (by dsimp only; omega)) _).setCell (p := ⟨w.heap.size + 1 + 1 + 1, 2, none⟩) (fun h => absurd h (by dsimp only; omega)) _)
 have hv06 : Own8 ((w5.setCell ⟨w.heap.size + 1 + 1, 2, none⟩ (Value.slice A2 bs.length c2)).setCell ⟨w.heap.size + 1 + 1 + 1, 2, none⟩ Value.nilIface) _ _ _ := hv05.fr (((Fr.refl (fun k => k = (w.heap.size + 1 + 1 + 1) ∨ k = (w.heap.size + 1 + 1)) w5).setCell (p := ⟨w.heap.size + 1 + 1, 2, none⟩) (fun _ => Or.inr rfl) _).setCell (p := ⟨w.heap.size + 1 + 1 + 1, 2, none⟩) (fun _ => Or.inl rfl) _) (fun k hk h => h.elim (fun h => hv05.ne_blk hE5 (by decide) (by rw [← h]; exact hk)) (fun h => hv05.ne_blk hL5 (by decide) (by rw [← h]; exact hk)))
 have hv16 : Own8 ((w5.setCell ⟨w.heap.size + 1 + 1, 2, none⟩ (Value.slice A2 bs.length c2)).setCell ⟨w.heap.size + 1 + 1 + 1, 2, none⟩ Value.nilIface) _ _ _ := hv15.fr (((Fr.refl (fun k => k = (w.heap.size + 1 + 1 + 1) ∨ k = (w.heap.size + 1 + 1)) w5).setCell (p := ⟨w.heap.size + 1 + 1, 2, none⟩) (fun _ => Or.inr rfl) _).setCell (p := ⟨w.heap.size + 1 + 1 + 1, 2, none⟩) (fun _ => Or.inl rfl) _) (fun k hk h => h.elim (fun h => hv15.ne_blk hE5 (by decide) (by rw [← h]; exact hk)) (fun h => hv15.ne_blk hL5 (by decide) (by rw [← h]; exact hk)))
 have hv26 : Own8 ((w5.setCell ⟨w.heap.size + 1 + 1, 2, none⟩ (Value.slice A2 bs.length c2)).setCell ⟨w.heap.size + 1 + 1 + 1, 2, none⟩ Value.nilIface) _ _ _ := hv25.fr (((Fr.refl (fun k => k = (w.heap.size + 1 + 1 + 1) ∨ k = (w.heap.size + 1 + 1)) w5).setCell (p := ⟨w.heap.size + 1 + 1, 2, none⟩) (fun _ => Or.inr rfl) _).setCell (p := ⟨w.heap.size + 1 + 1 + 1, 2, none⟩) (fun _ => Or.inl rfl) _) (fun k hk h => h.elim (fun h => hv25.ne_blk hE5 (by decide) (by rw [← h]; exact hk)) (fun h => hv25.ne_blk hL5 (by decide) (by rw [← h]; exact hk)))
 generalize ((w5.setCell ⟨w.heap.size + 1 + 1, 2, none⟩ (Value.slice A2 bs.length c2)).setCell ⟨w.heap.size + 1 + 1 + 1, 2, none⟩ Value.nilIface) = w6 at *
 have ec := hE6.cell 2
 have lc := hL6.cell 2
 obtain ⟨_, _, hve, _, hrow⟩ := hv26.form
 cases hve
 have HGET := Lib.hid (cert_Get (cap := c2) hrow (by have := HBL.out; omega) H8.out)
 clear hrow
 go_upto_region 9 with (first | (go_at_call 152; refine HGET.out.mono ?_; rintro e w7 hg7; obtain ⟨x3, rfl, hf7⟩ := get_fine HG.out hg7; have hO7 := hO6.fr hf7 id; have hR7 := hR6.fr hf7 id; have hL7 := hL6.fr hf7 id; have hE7 := hE6.fr hf7 id; have hv07 := hv06.fr hf7 (fun _ _ => id); have hv17 := hv16.fr hf7 (fun _ _ => id); have hv27 := hv26.fr hf7 (fun _ _ => id); have hf07 := hf06.then_ hf7; have ec := hE7.cell 3; have ef := hE7.frozen 3))
 have hO8 : Blk (w7.setCell ⟨w.heap.size + 1 + 1 + 1, 3, none⟩ Value.nilIface) _ _ _ := (hO7.far (fun h => by (try dsimp only at h); omega) _)
 have hR8 : Blk (w7.setCell ⟨w.heap.size + 1 + 1 + 1, 3, none⟩ Value.nilIface) _ _ _ := (hR7.far (fun h => by (try dsimp only at h); omega) _)
 have hL8 : Blk (w7.setCell ⟨w.heap.size + 1 + 1 + 1, 3, none⟩ Value.nilIface) _ _ _ := (hL7.far (fun h => by (try dsimp only at h); omega) _)
 have hE8 : Blk (w7.setCell ⟨w.heap.size + 1 + 1 + 1, 3, none⟩ Value.nilIface) _ _ _ := (hE7.set_ 3 _)
 have hf08 : Fr (fun _ => False) w (w7.setCell ⟨w.heap.size + 1 + 1 + 1, 3, none⟩ Value.nilIface) := (hf07.setCell (p := ⟨w.heap.size + 1 + 1 + 1, 3, none⟩) (fun h => absurd h (by dsimp only; omega)) _)
 have hv08 : Own8 (w7.setCell ⟨w.heap.size + 1 + 1 + 1, 3, none⟩ Value.nilIface) _ _ _ := hv07.fr ((Fr.refl (fun k => k = (w.heap.size + 1 + 1 + 1)) w7).setCell (p := ⟨w.heap.size + 1 + 1 + 1, 3, none⟩) (fun _ => rfl) _) (fun k hk h => hv07.ne_blk hE7 (by decide) (by rw [← h]; exact hk))
 have hv18 : Own8 (w7.setCell ⟨w.heap.size + 1 + 1 + 1, 3, none⟩ Value.nilIface) _ _ _ := hv17.fr ((Fr.refl (fun k => k = (w.heap.size + 1 + 1 + 1)) w7).setCell (p := ⟨w.heap.size + 1 + 1 + 1, 3, none⟩) (fun _ => rfl) _) (fun k hk h => hv17.ne_blk hE7 (by decide) (by rw [← h]; exact hk))
 have hv28 : Own8 (w7.setCell ⟨w.heap.size + 1 + 1 + 1, 3, none⟩ Value.nilIface) _ _ _ := hv27.fr ((Fr.refl (fun k => k = (w.heap.size + 1 + 1 + 1)) w7).setCell (p := ⟨w.heap.size + 1 + 1 + 1, 3, none⟩) (fun _ => rfl) _) (fun k hk h => hv27.ne_blk hE7 (by decide) (by rw [← h]; exact hk))
 generalize (w7.setCell ⟨w.heap.size + 1 + 1 + 1, 3, none⟩ Value.nilIface) = w8 at *
 have HER : Hid (ErrRow w8 (w.heap.size + 1 + 1 + 1) [.nilIface, .nilIface, .nilIface, .nilIface]) := err_row hE8 (.inl rfl) (.inl rfl) (.inl rfl) (.inl rfl)
 go_upto_region 10 with (first | (go_at_call 153; refine (containsErr (cap := 4) (z := false) rfl HER.out (by simp)).mono ?_; rintro e w9 ⟨rfl, rfl⟩))
 have hf08d : Fr (fun _ => False) w w8.drew := hf08.drew
 refine wp_region_noPanic ?_
 refine wp_region_held_drew (S := (fun w' => w'.cell? ⟨w.heap.size, 0, none⟩ = some (.int .i64 kind) ∧ w'.cell? ⟨w.heap.size, 1, none⟩ = some (.int .i64 c) ∧ w'.cell? ⟨w.heap.size, 2, none⟩ = some (.int .i64 n) ∧ w'.cell? ⟨w.heap.size, 3, none⟩ = some (.slice A nr cr) ∧ w'.cell? ⟨w.heap.size, 4, none⟩ = some (.slice B nw cw) ∧ w'.cell? ⟨w.heap.size, 17, none⟩ = some (.int .i64 0) ∧ w'.cell? ⟨w.heap.size, 18, none⟩ = some (.int .i64 0) ∧ w'.cell? ⟨w.heap.size, 19, none⟩ = some (.slice none 0 0) ∧ w'.cell? ⟨w.heap.size, 20, none⟩ = some (.slice none 0 0) ∧ w'.cell? ⟨w.heap.size + 1 + 1, 0, none⟩ = some ((Value.slice A0 b0.length c0)) ∧ w'.cell? ⟨w.heap.size + 1 + 1, 1, none⟩ = some ((Value.slice A1 b1.length c1)) ∧ w'.cell? ⟨w.heap.size + 1 + 1, 2, none⟩ = some ((Value.slice A2 bs.length c2)))) (by kernel_rfl) (⟨hO8.cell 0, hO8.cell 1, hO8.cell 2, hO8.cell 3, hO8.cell 4, hO8.cell 17, hO8.cell 18, hO8.cell 19, hO8.cell 20, hL8.cell 0, hL8.cell 1, hL8.cell 2⟩) (fun hHeld => ?_)
 refine tk 0 57 ?_
 refine tk 1 58 ?_
 refine tk 2 59 ?_
 refine tk 3 60 ?_
 refine tk 4 61 ?_
 refine tk 5 62 ?_
 refine tk 6 63 ?_
 refine tk 7 64 ?_
 refine tk 8 65 ?_
 refine tk 9 66 ?_
 refine tk 10 67 ?_
 refine tk 11 68 ?_
 refine tk 12 69 ?_
 refine tk 13 70 ?_
 refine tk 14 71 ?_
 refine tk 15 72 ?_
 refine tk 16 73 ?_
 refine wpAnyH_ready (rs := [17]) (by kernel_rfl) (by simp) ?_
 refine AllReadyH.cons rfl (fun K hK => ?_) AllReadyH.nil
 go_simp
 go_at_call 155
 refine (HN.out _ hf08d).mono ?_
 rintro e w10 ⟨rfl, hf10⟩
 have hf10 : Fr (fun _ => False) w8 w10 := ((Fr.refl (fun _ => False) w8).drew).trans hf10 (fun _ _ h => h)
 have hO10 := hO8.fr hf10 id
 have hR10 := hR8.fr hf10 id
 have hL10 := hL8.fr hf10 id
 have hE10 := hE8.fr hf10 id
 have hv010 := hv08.fr hf10 (fun _ _ => id)
 have hv110 := hv18.fr hf10 (fun _ _ => id)
 have hv210 := hv28.fr hf10 (fun _ _ => id)
 have hf010 := hf08.then_ hf10
 try go_wp2_with fail
 refine hK.out _ _ (⟨hO10.cell 0, hO10.cell 1, hO10.cell 2, hO10.cell 3, hO10.cell 4, hO10.cell 17, hO10.cell 18, hO10.cell 19, hO10.cell 20, hL10.cell 0, hL10.cell 1, hL10.cell 2⟩) (fun hHeld => ?_)
 clear hK K
 refine tk 18 75 ?_
 refine tk 19 76 ?_
 refine tk 20 77 ?_
 refine tk 21 78 ?_
 refine tk 22 79 ?_
 refine wpAnyH_ready (rs := [23]) (by kernel_rfl) (by simp) ?_
 refine AllReadyH.cons rfl (fun K hK => ?_) AllReadyH.nil
 go_simp
 go_at_call 156
 refine (fits_zero _).mono ?_
 rintro e w11 ⟨rfl, hf11⟩
 have hO11 := hO10.fr hf11 id
 have hR11 := hR10.fr hf11 id
 have hL11 := hL10.fr hf11 id
 have hE11 := hE10.fr hf11 id
 have hv011 := hv010.fr hf11 (fun _ _ => id)
 have hv111 := hv110.fr hf11 (fun _ _ => id)
 have hv211 := hv210.fr hf11 (fun _ _ => id)
 have hf011 := hf010.then_ hf11
 have rc0 := hR11.cell 0
 have rc1 := hR11.cell 1
 have rc2 := hR11.cell 2
 have rf0 := hR11.frozen 0
 have rf1 := hR11.frozen 1
 have rf2 := hR11.frozen 2
 try go_wp2_with fail
 refine hK.out _ _ (⟨hO11.cell 0, hO11.cell 1, hO11.cell 2, hO11.cell 3, hO11.cell 4, hO11.cell 17, hO11.cell 18, hO11.cell 19, hO11.cell 20, hL11.cell 0, hL11.cell 1, hL11.cell 2⟩) (fun hHeld => ?_)
 clear hK K
 refine tk 24 81 ?_
 refine wpAnyH_ready (rs := [25]) (by kernel_rfl) (by simp) ?_
 refine AllReadyH.cons rfl (fun K hK => ?_) AllReadyH.nil
 go_simp
 refine hK.out _ _ (⟨(((hO11.far (fun h => by (try dsimp only at h); omega) _).far (fun h => by (try dsimp only at h); omega) _).far (fun h => by (try dsimp only at h); omega) _).cell 0, (((hO11.far (fun h => by (try dsimp only at h); omega) _).far (fun h => by (try dsimp only at h); omega) _).far (fun h => by (try dsimp only at h); omega) _).cell 1, (((hO11.far (fun h => by (try dsimp only at h); omega) _).far (fun h => by (try dsimp only at h); omega) _).far (fun h => by (try dsimp only at h); omega) _).cell 2, (((hO11.far (fun h => by (try dsimp only at h); omega) _).far (fun h => by (try dsimp only at h); omega) _).far (fun h => by (try dsimp only at h); omega) _).cell 3, (((hO11.far (fun h => by (try dsimp only at h); omega) _).far (fun h => by (try dsimp only at h); omega) _).far (fun h => by (try dsimp only at h); omega) _).cell 4, (((hO11.far (fun h => by (try dsimp only at h); omega) _).far (fun h => by (try dsimp only at h); omega) _).far (fun h => by (try dsimp only at h); omega) _).cell 17, (((hO11.far (fun h => by (try dsimp only at h); omega) _).far (fun h => by (try dsimp only at h); omega) _).far (fun h => by (try dsimp only at h); omega) _).cell 18, (((hO11.far (fun h => by (try dsimp only at h); omega) _).far (fun h => by (try dsimp only at h); omega) _).far (fun h => by (try dsimp only at h); omega) _).cell 19, (((hO11.far (fun h => by (try dsimp only at h); omega) _).far (fun h => by (try dsimp only at h); omega) _).far (fun h => by (try dsimp only at h); omega) _).cell 20, (((hL11.far (fun h => by (try dsimp only at h); omega) _).far (fun h => by (try dsimp only at h); omega) _).far (fun h => by (try dsimp only at h); omega) _).cell 0, (((hL11.far (fun h => by (try dsimp only at h); omega) _).far (fun h => by (try dsimp only at h); omega) _).far (fun h => by (try dsimp only at h); omega) _).cell 1, (((hL11.far (fun h => by (try dsimp only at h); omega) _).far (fun h => by (try dsimp only at h); omega) _).far (fun h => by (try dsimp only at h); omega) _).cell 2⟩) (fun hHeld => ?_)
 clear hK K
 refine tk 26 3 ?_
 refine wpAnyH_done (by kernel_rfl) ?_ _
 refine NoPanic.normal ?_
 have hO12 : Blk (((w11.setCell ⟨w.heap.size + 1, 0, none⟩ (Value.slice A0 b0.length c0)).setCell ⟨w.heap.size + 1, 1, none⟩ (Value.slice A1 b1.length c1)).setCell ⟨w.heap.size + 1, 2, none⟩ (Value.slice A2 bs.length c2)) _ _ _ := (((hO11.far (fun h => by (try dsimp only at h); omega) _).far (fun h => by (try dsimp only at h); omega) _).far (fun h => by (try dsimp only at h); omega) _)
 have hR12 : Blk (((w11.setCell ⟨w.heap.size + 1, 0, none⟩ (Value.slice A0 b0.length c0)).setCell ⟨w.heap.size + 1, 1, none⟩ (Value.slice A1 b1.length c1)).setCell ⟨w.heap.size + 1, 2, none⟩ (Value.slice A2 bs.length c2)) _ _ _ := (((hR11.set_ 0 _).set_ 1 _).set_ 2 _)
 have hL12 : Blk (((w11.setCell ⟨w.heap.size + 1, 0, none⟩ (Value.slice A0 b0.length c0)).setCell ⟨w.heap.size + 1, 1, none⟩ (Value.slice A1 b1.length c1)).setCell ⟨w.heap.size + 1, 2, none⟩ (Value.slice A2 bs.length c2)) _ _ _ := (((hL11.far (fun h => by (try dsimp only at h); omega) _).far (fun h => by (try dsimp only at h); omega) _).far (fun h => by (try dsimp only at h); omega) _)
 have hE12 : Blk (((w11.setCell ⟨w.heap.size + 1, 0, none⟩ (Value.slice A0 b0.length c0)).setCell ⟨w.heap.size + 1, 1, none⟩ (Value.slice A1 b1.length c1)).setCell ⟨w.heap.size + 1, 2, none⟩ (Value.slice A2 bs.length c2)) _ _ _ := (((hE11.far (fun h => by (try dsimp only at h); omega) _).far (fun h => by (try dsimp only at h); omega) _).far (fun h => by (try dsimp only at h); omega) _)
 have hf012 : Fr (fun _ => False) w (((w11.setCell ⟨w.heap.size + 1, 0, none⟩ (Value.slice A0 b0.length c0)).setCell ⟨w.heap.size + 1, 1, none⟩ (Value.slice A1 b1.length c1)).setCell ⟨w.heap.size + 1, 2, none⟩ (Value.slice A2 bs.length c2)) := (((hf011.setCell (p := ⟨w.heap.size + 1, 0, none⟩) (fun h => absurd h (by dsimp only; omega)) _).setCell (p := ⟨w.heap.size + 1, 1, none⟩) (fun h => absurd h (by dsimp only; omega)) _).setCell (p := ⟨w.heap.size + 1, 2, none⟩) (fun h => absurd h (by dsimp only; omega)) _)
 have hv012 : Own8 (((w11.setCell ⟨w.heap.size + 1, 0, none⟩ (Value.slice A0 b0.length c0)).setCell ⟨w.heap.size + 1, 1, none⟩ (Value.slice A1 b1.length c1)).setCell ⟨w.heap.size + 1, 2, none⟩ (Value.slice A2 bs.length c2)) _ _ _ := hv011.fr ((((Fr.refl (fun k => k = (w.heap.size + 1)) w11).setCell (p := ⟨w.heap.size + 1, 0, none⟩) (fun _ => rfl) _).setCell (p := ⟨w.heap.size + 1, 1, none⟩) (fun _ => rfl) _).setCell (p := ⟨w.heap.size + 1, 2, none⟩) (fun _ => rfl) _) (fun k hk h => hv011.ne_blk hR11 (by decide) (by rw [← h]; exact hk))
 have hv112 : Own8 (((w11.setCell ⟨w.heap.size + 1, 0, none⟩ (Value.slice A0 b0.length c0)).setCell ⟨w.heap.size + 1, 1, none⟩ (Value.slice A1 b1.length c1)).setCell ⟨w.heap.size + 1, 2, none⟩ (Value.slice A2 bs.length c2)) _ _ _ := hv111.fr ((((Fr.refl (fun k => k = (w.heap.size + 1)) w11).setCell (p := ⟨w.heap.size + 1, 0, none⟩) (fun _ => rfl) _).setCell (p := ⟨w.heap.size + 1, 1, none⟩) (fun _ => rfl) _).setCell (p := ⟨w.heap.size + 1, 2, none⟩) (fun _ => rfl) _) (fun k hk h => hv111.ne_blk hR11 (by decide) (by rw [← h]; exact hk))
 have hv212 : Own8 (((w11.setCell ⟨w.heap.size + 1, 0, none⟩ (Value.slice A0 b0.length c0)).setCell ⟨w.heap.size + 1, 1, none⟩ (Value.slice A1 b1.length c1)).setCell ⟨w.heap.size + 1, 2, none⟩ (Value.slice A2 bs.length c2)) _ _ _ := hv211.fr ((((Fr.refl (fun k => k = (w.heap.size + 1)) w11).setCell (p := ⟨w.heap.size + 1, 0, none⟩) (fun _ => rfl) _).setCell (p := ⟨w.heap.size + 1, 1, none⟩) (fun _ => rfl) _).setCell (p := ⟨w.heap.size + 1, 2, none⟩) (fun _ => rfl) _) (fun k hk h => hv211.ne_blk hR11 (by decide) (by rw [← h]; exact hk))
 generalize (((w11.setCell ⟨w.heap.size + 1, 0, none⟩ (Value.slice A0 b0.length c0)).setCell ⟨w.heap.size + 1, 1, none⟩ (Value.slice A1 b1.length c1)).setCell ⟨w.heap.size + 1, 2, none⟩ (Value.slice A2 bs.length c2)) = w12 at *
 have y0 := hR12.cell 0
 have y1 := hR12.cell 1
 have y2 := hR12.cell 2
 simp at y0 y1 y2
 try go_wp2_with fail
 refine bodyPost_ret (v := .tuple #[.agg #[(Value.slice A0 b0.length c0), (Value.slice A1 b1.length c1), (Value.slice A2 bs.length c2)], .bool true]) (by simp [results, Tryz.results123, go_sem, y0, y1, y2]) rfl ?_
 exact ⟨_, _, _, rfl, hv012.base_ (by omega), hv112.base_ (Nat.le_trans hf02.size (Nat.le_refl _)), hv212.base_ hf04.size, hf012⟩

end Go.Proofs.YtmkdhhhoodeemaaGreat

/- say: the texts of a client's order. -/
namespace Go.Proofs.YtmkdhhhoodeemaaGreat
open Go Go.RowKit
attribute [local go_sem ↓] run_neqSay run_eqlSay
set_option maxRecDepth 100000 in
set_option maxHeartbeats 2000000 in
theorem say_texts_begin {w : World} {A B : Option Addr} {nr nw cr cw : Nat} {c n : Int} {s : SayD} {bC : Nat} {C : Option Addr} {cx : Nat} {xs : List Int} {G D : Int} (hC : IntRow w bC C xs) (hbC : bC ≤ w.heap.size) (hxl : xs.length ≤ 1024) (hgetok : getOk (num8 G ++ num8 D ++ numsB xs)) {bs : List Int} (hbs : num8 G ++ num8 D ++ numsB xs = bs) {nm sz : Bool} {b0 b1 : List Int} {r0 r1 : Value}
  (hsz : zeroSay s = !sz)
  (h0 : ∀ w', Fr (fun _ => False) w w' → Calls Tryz.prog 148 #[.bool nm, .agg #[.int .i64 c, .int .i64 n, .slice A nr cr, .slice B nw cw], .func (.func 149) #[] #[]] w' (PutP w' b0 r0))
  (h1 : ∀ w', Fr (fun _ => False) w w' → Calls Tryz.prog 150 #[.bool sz, .agg #[.int .i64 s.kind, .int .i64 s.txn, .bool s.yes, .string s.from_, .string s.to_, .int .i64 s.epoch, .int .i64 s.shard, .int .i64 s.target, .int .i64 s.root], .func (.func 77) #[] #[]] w' (PutP w' b1 r1))
  (hr0 : r0 = .nilIface) (hr1 : r1 = .nilIface) (hnm : nm = true) (hno : ∀ w', Fr (fun _ => False) w w' → Calls Tryz.prog 155 #[.agg #[.int .i64 c, .int .i64 n, .slice A nr cr, .slice B nw cw]] w' (OkB w' false)) :
  Calls Tryz.prog 123 #[.agg #[.int .i64 6, .int .i64 c, .int .i64 n, .slice A nr cr, .slice B nw cw, .int .i64 s.kind, .int .i64 s.txn, .bool s.yes, .string s.from_, .string s.to_, .int .i64 s.epoch, .int .i64 s.shard, .int .i64 s.target, .int .i64 s.root, .int .i64 G, .int .i64 D, .slice C xs.length cx, .int .i64 0, .int .i64 0, .slice none 0 0, .slice none 0 0]] w (fun e w' => ∃ v0 v1 v2, e = .returned (.tuple #[.agg #[v0, v1, v2], .bool true]) ∧ Own8 w' w.heap.size v0 b0 ∧ Own8 w' w.heap.size v1 b1 ∧ Own8 w' w.heap.size v2 bs ∧ Fr (fun _ => False) w w') := by
 have H0 := Lib.hid h0
 have H1 := Lib.hid h1
 have HC := Lib.hid hC
 have HG := hgetok
 rw [hbs] at HG
 have HG := Lib.hid HG
 have HBS := Lib.hid hbs
 have H8 : Hid (Bytes8 bs) := by show Bytes8 bs; rw [← hbs]; exact cert_bytes G D xs
 have HBL : Hid (bs.length ≤ 9000) := by show _ ≤ _; rw [← hbs]; exact cert_len hxl
 have HXL := Lib.hid hxl
 have HBC := Lib.hid hbC
 clear h0 h1 hC hgetok hxl hbC hbs
 have hf0 : Fr (fun _ => False) w ((((w.alloc (Obj.cells #[.int .i64 6, .int .i64 c, .int .i64 n, .slice A nr cr, .slice B nw cw, .int .i64 s.kind, .int .i64 s.txn, .bool s.yes, .string s.from_, .string s.to_, .int .i64 s.epoch, .int .i64 s.shard, .int .i64 s.target, .int .i64 s.root, .int .i64 G, .int .i64 D, .slice C xs.length cx, .int .i64 0, .int .i64 0, .slice none 0 0, .slice none 0 0] 62)).alloc (Obj.cells #[.slice none 0 0, .slice none 0 0, .slice none 0 0] 214)).alloc (Obj.cells #[.slice none 0 0, .slice none 0 0, .slice none 0 0] 214)).alloc (Obj.cells #[.nilIface, .nilIface, .nilIface, .nilIface] 233)) := ((((Fr.refl _ _).alloc _).alloc _).alloc _).alloc _
 have hO0 : Blk ((((w.alloc (Obj.cells #[.int .i64 6, .int .i64 c, .int .i64 n, .slice A nr cr, .slice B nw cw, .int .i64 s.kind, .int .i64 s.txn, .bool s.yes, .string s.from_, .string s.to_, .int .i64 s.epoch, .int .i64 s.shard, .int .i64 s.target, .int .i64 s.root, .int .i64 G, .int .i64 D, .slice C xs.length cx, .int .i64 0, .int .i64 0, .slice none 0 0, .slice none 0 0] 62)).alloc (Obj.cells #[.slice none 0 0, .slice none 0 0, .slice none 0 0] 214)).alloc (Obj.cells #[.slice none 0 0, .slice none 0 0, .slice none 0 0] 214)).alloc (Obj.cells #[.nilIface, .nilIface, .nilIface, .nilIface] 233)) w.heap.size 62 #[.int .i64 6, .int .i64 c, .int .i64 n, .slice A nr cr, .slice B nw cw, .int .i64 s.kind, .int .i64 s.txn, .bool s.yes, .string s.from_, .string s.to_, .int .i64 s.epoch, .int .i64 s.shard, .int .i64 s.target, .int .i64 s.root, .int .i64 G, .int .i64 D, .slice C xs.length cx, .int .i64 0, .int .i64 0, .slice none 0 0, .slice none 0 0] := (((Blk.new w _ _).alloc _).alloc _).alloc _
 have hR0 : Blk ((((w.alloc (Obj.cells #[.int .i64 6, .int .i64 c, .int .i64 n, .slice A nr cr, .slice B nw cw, .int .i64 s.kind, .int .i64 s.txn, .bool s.yes, .string s.from_, .string s.to_, .int .i64 s.epoch, .int .i64 s.shard, .int .i64 s.target, .int .i64 s.root, .int .i64 G, .int .i64 D, .slice C xs.length cx, .int .i64 0, .int .i64 0, .slice none 0 0, .slice none 0 0] 62)).alloc (Obj.cells #[.slice none 0 0, .slice none 0 0, .slice none 0 0] 214)).alloc (Obj.cells #[.slice none 0 0, .slice none 0 0, .slice none 0 0] 214)).alloc (Obj.cells #[.nilIface, .nilIface, .nilIface, .nilIface] 233)) (w.heap.size + 1) 214 #[.slice none 0 0, .slice none 0 0, .slice none 0 0] := ((Blk.new_ _ _ _ (by simp)).alloc _).alloc _
 have hL0 : Blk ((((w.alloc (Obj.cells #[.int .i64 6, .int .i64 c, .int .i64 n, .slice A nr cr, .slice B nw cw, .int .i64 s.kind, .int .i64 s.txn, .bool s.yes, .string s.from_, .string s.to_, .int .i64 s.epoch, .int .i64 s.shard, .int .i64 s.target, .int .i64 s.root, .int .i64 G, .int .i64 D, .slice C xs.length cx, .int .i64 0, .int .i64 0, .slice none 0 0, .slice none 0 0] 62)).alloc (Obj.cells #[.slice none 0 0, .slice none 0 0, .slice none 0 0] 214)).alloc (Obj.cells #[.slice none 0 0, .slice none 0 0, .slice none 0 0] 214)).alloc (Obj.cells #[.nilIface, .nilIface, .nilIface, .nilIface] 233)) (w.heap.size + 1 + 1) 214 #[.slice none 0 0, .slice none 0 0, .slice none 0 0] := (Blk.new_ _ _ _ (by simp)).alloc _
 have hE0 : Blk ((((w.alloc (Obj.cells #[.int .i64 6, .int .i64 c, .int .i64 n, .slice A nr cr, .slice B nw cw, .int .i64 s.kind, .int .i64 s.txn, .bool s.yes, .string s.from_, .string s.to_, .int .i64 s.epoch, .int .i64 s.shard, .int .i64 s.target, .int .i64 s.root, .int .i64 G, .int .i64 D, .slice C xs.length cx, .int .i64 0, .int .i64 0, .slice none 0 0, .slice none 0 0] 62)).alloc (Obj.cells #[.slice none 0 0, .slice none 0 0, .slice none 0 0] 214)).alloc (Obj.cells #[.slice none 0 0, .slice none 0 0, .slice none 0 0] 214)).alloc (Obj.cells #[.nilIface, .nilIface, .nilIface, .nilIface] 233)) (w.heap.size + 1 + 1 + 1) 233 #[.nilIface, .nilIface, .nilIface, .nilIface] := Blk.new_ _ _ _ (by simp)
 have hz0 : w.heap.size + 4 ≤ ((((w.alloc (Obj.cells #[.int .i64 6, .int .i64 c, .int .i64 n, .slice A nr cr, .slice B nw cw, .int .i64 s.kind, .int .i64 s.txn, .bool s.yes, .string s.from_, .string s.to_, .int .i64 s.epoch, .int .i64 s.shard, .int .i64 s.target, .int .i64 s.root, .int .i64 G, .int .i64 D, .slice C xs.length cx, .int .i64 0, .int .i64 0, .slice none 0 0, .slice none 0 0] 62)).alloc (Obj.cells #[.slice none 0 0, .slice none 0 0, .slice none 0 0] 214)).alloc (Obj.cells #[.slice none 0 0, .slice none 0 0, .slice none 0 0] 214)).alloc (Obj.cells #[.nilIface, .nilIface, .nilIface, .nilIface] 233)).heap.size := by simp
 subst hr0 hr1 hnm
 have HN := Lib.hid hno
 clear hno
 go_enter Tryz.func123, Tryz.ntmps123
 go_upto_region 4 with fail
 generalize ((((w.alloc (Obj.cells #[.int .i64 6, .int .i64 c, .int .i64 n, .slice A nr cr, .slice B nw cw, .int .i64 s.kind, .int .i64 s.txn, .bool s.yes, .string s.from_, .string s.to_, .int .i64 s.epoch, .int .i64 s.shard, .int .i64 s.target, .int .i64 s.root, .int .i64 G, .int .i64 D, .slice C xs.length cx, .int .i64 0, .int .i64 0, .slice none 0 0, .slice none 0 0] 62)).alloc (Obj.cells #[.slice none 0 0, .slice none 0 0, .slice none 0 0] 214)).alloc (Obj.cells #[.slice none 0 0, .slice none 0 0, .slice none 0 0] 214)).alloc (Obj.cells #[.nilIface, .nilIface, .nilIface, .nilIface] 233)) = w0 at *
 have k1 := hO0.cell 1
 have k2 := hO0.cell 2
 have k3 := hO0.cell 3
 have k4 := hO0.cell 4
 go_upto_region 5 with (first | (go_at_call 148; refine (H0.out _ hf0).mono ?_; rintro e w1 ⟨v0, rfl, hv01, hf1⟩; obtain ⟨A0, c0, rfl, _, _⟩ := hv01.form; have hf01 := hf0.then_ hf1; have hL1 := hL0.fr hf1 id; have hE1 := hE0.fr hf1 id; have hO1 := hO0.fr hf1 id; have hR1 := hR0.fr hf1 id; have l0 := hL1.cell 0; have lf := hL1.frozen 0; have e0 := hE1.cell 0; have ef := hE1.frozen 0))
 have hO2 : Blk ((w1.setCell ⟨w.heap.size + 1 + 1, 0, none⟩ (Value.slice A0 b0.length c0)).setCell ⟨w.heap.size + 1 + 1 + 1, 0, none⟩ .nilIface) _ _ _ := ((hO1.far (fun h => by (try dsimp only at h); omega) _).far (fun h => by (try dsimp only at h); omega) _)
 have hR2 : Blk ((w1.setCell ⟨w.heap.size + 1 + 1, 0, none⟩ (Value.slice A0 b0.length c0)).setCell ⟨w.heap.size + 1 + 1 + 1, 0, none⟩ .nilIface) _ _ _ := ((hR1.far (fun h => by (try dsimp only at h); omega) _).far (fun h => by (try dsimp only at h); omega) _)
 have hL2 : Blk ((w1.setCell ⟨w.heap.size + 1 + 1, 0, none⟩ (Value.slice A0 b0.length c0)).setCell ⟨w.heap.size + 1 + 1 + 1, 0, none⟩ .nilIface) _ _ _ := ((hL1.set_ 0 _).far (fun h => by (try dsimp only at h); omega) _)
 have hE2 : Blk ((w1.setCell ⟨w.heap.size + 1 + 1, 0, none⟩ (Value.slice A0 b0.length c0)).setCell ⟨w.heap.size + 1 + 1 + 1, 0, none⟩ .nilIface) _ _ _ := ((hE1.far (fun h => by (try dsimp only at h); omega) _).set_ 0 _)
 have hf02 : Fr (fun _ => False) w ((w1.setCell ⟨w.heap.size + 1 + 1, 0, none⟩ (Value.slice A0 b0.length c0)).setCell ⟨w.heap.size + 1 + 1 + 1, 0, none⟩ .nilIface) := ((hf01.setCell (p := ⟨w.heap.size + 1 + 1, 0, none⟩) (fun h => absurd h (by dsimp only; omega)) _).setCell (p := ⟨w.heap.size + 1 + 1 + 1, 0, none⟩) (fun h => absurd h (by dsimp only; omega)) _)
 have hv02 : Own8 ((w1.setCell ⟨w.heap.size + 1 + 1, 0, none⟩ (Value.slice A0 b0.length c0)).setCell ⟨w.heap.size + 1 + 1 + 1, 0, none⟩ .nilIface) _ _ _ := hv01.fr (((Fr.refl (fun k => k = (w.heap.size + 1 + 1 + 1) ∨ k = (w.heap.size + 1 + 1)) w1).setCell (p := ⟨w.heap.size + 1 + 1, 0, none⟩) (fun _ => Or.inr rfl) _).setCell (p := ⟨w.heap.size + 1 + 1 + 1, 0, none⟩) (fun _ => Or.inl rfl) _) (fun k hk h => h.elim (fun h => hv01.ne_blk hE1 (by decide) (by rw [← h]; exact hk)) (fun h => hv01.ne_blk hL1 (by decide) (by rw [← h]; exact hk)))
 generalize ((w1.setCell ⟨w.heap.size + 1 + 1, 0, none⟩ (Value.slice A0 b0.length c0)).setCell ⟨w.heap.size + 1 + 1 + 1, 0, none⟩ .nilIface) = w2 at *
 have k5 := hO2.cell 5
 have k6 := hO2.cell 6
 have k7 := hO2.cell 7
 have k8 := hO2.cell 8
 have k9 := hO2.cell 9
 have k10 := hO2.cell 10
 have k11 := hO2.cell 11
 have k12 := hO2.cell 12
 have k13 := hO2.cell 13
 have hf02d : Fr (fun _ => False) w w2.drew := hf02.drew
 refine wp_region_noPanic ?_
 refine wp_region_held_drew (S := (fun w' => w'.cell? ⟨w.heap.size, 5, none⟩ = some (.int .i64 s.kind) ∧ w'.cell? ⟨w.heap.size, 6, none⟩ = some (.int .i64 s.txn) ∧ w'.cell? ⟨w.heap.size, 7, none⟩ = some (.bool s.yes) ∧ w'.cell? ⟨w.heap.size, 8, none⟩ = some (.string s.from_) ∧ w'.cell? ⟨w.heap.size, 9, none⟩ = some (.string s.to_) ∧ w'.cell? ⟨w.heap.size, 10, none⟩ = some (.int .i64 s.epoch) ∧ w'.cell? ⟨w.heap.size, 11, none⟩ = some (.int .i64 s.shard) ∧ w'.cell? ⟨w.heap.size, 12, none⟩ = some (.int .i64 s.target) ∧ w'.cell? ⟨w.heap.size, 13, none⟩ = some (.int .i64 s.root))) (by kernel_rfl) (⟨k5, k6, k7, k8, k9, k10, k11, k12, k13⟩) (fun hHeld => ?_)
 refine tk 0 26 ?_
 refine tk 1 27 ?_
 refine tk 2 28 ?_
 refine tk 3 29 ?_
 refine tk 4 30 ?_
 refine tk 5 31 ?_
 refine wpAnyH_ready (rs := [6]) (by kernel_rfl) (by simp) ?_
 refine AllReadyH.cons rfl (fun K hK => ?_) AllReadyH.nil
 go_simp
 go_at_call 150
 refine (H1.out _ hf02d).mono ?_
 rintro e w3 ⟨v1, rfl, hv13, hf3⟩
 obtain ⟨A1, c1, rfl, _, _⟩ := hv13.form
 have hf3 : Fr (fun _ => False) w2 w3 := ((Fr.refl (fun _ => False) w2).drew).trans hf3 (fun _ _ h => h)
 have hO3 := hO2.fr hf3 id
 have hR3 := hR2.fr hf3 id
 have hL3 := hL2.fr hf3 id
 have hE3 := hE2.fr hf3 id
 have hv03 := hv02.fr hf3 (fun _ _ => id)
 have hf03 := hf02.then_ hf3
 have lc1 := hL3.cell 1
 have ec1 := hE3.cell 1
 have lf := hL3.frozen 1
 have ef := hE3.frozen 1
 try go_wp2_with fail
 refine hK.out _ _ (⟨hO3.cell 5, hO3.cell 6, hO3.cell 7, hO3.cell 8, hO3.cell 9, hO3.cell 10, hO3.cell 11, hO3.cell 12, hO3.cell 13⟩) (fun hHeld => ?_)
 clear hK K
 refine tk 7 25 ?_
 refine tk 8 33 ?_
 refine tk 9 34 ?_
 refine tk 10 35 ?_
 refine wpAnyH_ready (rs := [11]) (by kernel_rfl) (by simp) ?_
 refine AllReadyH.cons rfl (fun K hK => ?_) AllReadyH.nil
 go_simp
 refine hK.out _ _ (⟨(hO3.far (fun h => by (try dsimp only at h); omega) _).cell 5, (hO3.far (fun h => by (try dsimp only at h); omega) _).cell 6, (hO3.far (fun h => by (try dsimp only at h); omega) _).cell 7, (hO3.far (fun h => by (try dsimp only at h); omega) _).cell 8, (hO3.far (fun h => by (try dsimp only at h); omega) _).cell 9, (hO3.far (fun h => by (try dsimp only at h); omega) _).cell 10, (hO3.far (fun h => by (try dsimp only at h); omega) _).cell 11, (hO3.far (fun h => by (try dsimp only at h); omega) _).cell 12, (hO3.far (fun h => by (try dsimp only at h); omega) _).cell 13⟩) (fun hHeld => ?_)
 clear hK K
 refine tk 12 36 ?_
 refine wpAnyH_ready (rs := [13]) (by kernel_rfl) (by simp) ?_
 refine AllReadyH.cons rfl (fun K hK => ?_) AllReadyH.nil
 go_simp
 refine hK.out _ _ (⟨((hO3.far (fun h => by (try dsimp only at h); omega) _).far (fun h => by (try dsimp only at h); omega) _).cell 5, ((hO3.far (fun h => by (try dsimp only at h); omega) _).far (fun h => by (try dsimp only at h); omega) _).cell 6, ((hO3.far (fun h => by (try dsimp only at h); omega) _).far (fun h => by (try dsimp only at h); omega) _).cell 7, ((hO3.far (fun h => by (try dsimp only at h); omega) _).far (fun h => by (try dsimp only at h); omega) _).cell 8, ((hO3.far (fun h => by (try dsimp only at h); omega) _).far (fun h => by (try dsimp only at h); omega) _).cell 9, ((hO3.far (fun h => by (try dsimp only at h); omega) _).far (fun h => by (try dsimp only at h); omega) _).cell 10, ((hO3.far (fun h => by (try dsimp only at h); omega) _).far (fun h => by (try dsimp only at h); omega) _).cell 11, ((hO3.far (fun h => by (try dsimp only at h); omega) _).far (fun h => by (try dsimp only at h); omega) _).cell 12, ((hO3.far (fun h => by (try dsimp only at h); omega) _).far (fun h => by (try dsimp only at h); omega) _).cell 13⟩) (fun hHeld => ?_)
 clear hK K
 refine wpAnyH_done (by kernel_rfl) ?_ _
 refine NoPanic.normal ?_
 have hO4 : Blk ((w3.setCell ⟨w.heap.size + 1 + 1, 1, none⟩ (Value.slice A1 b1.length c1)).setCell ⟨w.heap.size + 1 + 1 + 1, 1, none⟩ .nilIface) _ _ _ := ((hO3.far (fun h => by (try dsimp only at h); omega) _).far (fun h => by (try dsimp only at h); omega) _)
 have hR4 : Blk ((w3.setCell ⟨w.heap.size + 1 + 1, 1, none⟩ (Value.slice A1 b1.length c1)).setCell ⟨w.heap.size + 1 + 1 + 1, 1, none⟩ .nilIface) _ _ _ := ((hR3.far (fun h => by (try dsimp only at h); omega) _).far (fun h => by (try dsimp only at h); omega) _)
 have hL4 : Blk ((w3.setCell ⟨w.heap.size + 1 + 1, 1, none⟩ (Value.slice A1 b1.length c1)).setCell ⟨w.heap.size + 1 + 1 + 1, 1, none⟩ .nilIface) _ _ _ := ((hL3.set_ 1 _).far (fun h => by (try dsimp only at h); omega) _)
 have hE4 : Blk ((w3.setCell ⟨w.heap.size + 1 + 1, 1, none⟩ (Value.slice A1 b1.length c1)).setCell ⟨w.heap.size + 1 + 1 + 1, 1, none⟩ .nilIface) _ _ _ := ((hE3.far (fun h => by (try dsimp only at h); omega) _).set_ 1 _)
 have hf04 : Fr (fun _ => False) w ((w3.setCell ⟨w.heap.size + 1 + 1, 1, none⟩ (Value.slice A1 b1.length c1)).setCell ⟨w.heap.size + 1 + 1 + 1, 1, none⟩ .nilIface) := ((hf03.setCell (p := ⟨w.heap.size + 1 + 1, 1, none⟩) (fun h => absurd h (by dsimp only; omega)) _).setCell (p := ⟨w.heap.size + 1 + 1 + 1, 1, none⟩) (fun h => absurd h (by dsimp only; omega)) _)
 have hv04 : Own8 ((w3.setCell ⟨w.heap.size + 1 + 1, 1, none⟩ (Value.slice A1 b1.length c1)).setCell ⟨w.heap.size + 1 + 1 + 1, 1, none⟩ .nilIface) _ _ _ := hv03.fr (((Fr.refl (fun k => k = (w.heap.size + 1 + 1 + 1) ∨ k = (w.heap.size + 1 + 1)) w3).setCell (p := ⟨w.heap.size + 1 + 1, 1, none⟩) (fun _ => Or.inr rfl) _).setCell (p := ⟨w.heap.size + 1 + 1 + 1, 1, none⟩) (fun _ => Or.inl rfl) _) (fun k hk h => h.elim (fun h => hv03.ne_blk hE3 (by decide) (by rw [← h]; exact hk)) (fun h => hv03.ne_blk hL3 (by decide) (by rw [← h]; exact hk)))
 have hv14 : Own8 ((w3.setCell ⟨w.heap.size + 1 + 1, 1, none⟩ (Value.slice A1 b1.length c1)).setCell ⟨w.heap.size + 1 + 1 + 1, 1, none⟩ .nilIface) _ _ _ := hv13.fr (((Fr.refl (fun k => k = (w.heap.size + 1 + 1 + 1) ∨ k = (w.heap.size + 1 + 1)) w3).setCell (p := ⟨w.heap.size + 1 + 1, 1, none⟩) (fun _ => Or.inr rfl) _).setCell (p := ⟨w.heap.size + 1 + 1 + 1, 1, none⟩) (fun _ => Or.inl rfl) _) (fun k hk h => h.elim (fun h => hv13.ne_blk hE3 (by decide) (by rw [← h]; exact hk)) (fun h => hv13.ne_blk hL3 (by decide) (by rw [← h]; exact hk)))
 generalize ((w3.setCell ⟨w.heap.size + 1 + 1, 1, none⟩ (Value.slice A1 b1.length c1)).setCell ⟨w.heap.size + 1 + 1 + 1, 1, none⟩ .nilIface) = w4 at *
 have k14 := hO4.cell 14
 have k15 := hO4.cell 15
 have k16 := hO4.cell 16
 have HP : Hid (Calls Tryz.prog 151 #[.agg #[.int .i64 G, .int .i64 D, .slice C xs.length cx]] w4 (PutP w4 bs .nilIface)) := (cert_Put (cap := cx) (HC.out.fr hf04 (fun _ _ => id)) (Nat.le_trans HBC.out hf04.size) (by have := HXL.out; omega) G D).mono fun _ _ h => HBS.out ▸ putP_of HXL.out h
 go_upto_region 7 with (first | (go_at_call 151; refine HP.out.mono ?_; rintro e w5 ⟨v2, rfl, hv25, hf5⟩; obtain ⟨A2, c2, rfl, _, _⟩ := hv25.form; have hO5 := hO4.fr hf5 id; have hR5 := hR4.fr hf5 id; have hL5 := hL4.fr hf5 id; have hE5 := hE4.fr hf5 id; have hv05 := hv04.fr hf5 (fun _ _ => id); have hv15 := hv14.fr hf5 (fun _ _ => id); have hf05 := hf04.then_ hf5; have lc := hL5.cell 2; have lf := hL5.frozen 2; have ec := hE5.cell 2; have ef := hE5.frozen 2))
 have hO6 : Blk ((w5.setCell ⟨w.heap.size + 1 + 1, 2, none⟩ (Value.slice A2 bs.length c2)).setCell ⟨w.heap.size + 1 + 1 + 1, 2, none⟩ Value.nilIface) _ _ _ := ((hO5.far (fun h => by (try dsimp only at h); omega) _).far (fun h => by (try dsimp only at h); omega) _)
 have hR6 : Blk ((w5.setCell ⟨w.heap.size + 1 + 1, 2, none⟩ (Value.slice A2 bs.length c2)).setCell ⟨w.heap.size + 1 + 1 + 1, 2, none⟩ Value.nilIface) _ _ _ := ((hR5.far (fun h => by (try dsimp only at h); omega) _).far (fun h => by (try dsimp only at h); omega) _)
 have hL6 : Blk ((w5.setCell ⟨w.heap.size + 1 + 1, 2, none⟩ (Value.slice A2 bs.length c2)).setCell ⟨w.heap.size + 1 + 1 + 1, 2, none⟩ Value.nilIface) _ _ _ := ((hL5.set_ 2 _).far (fun h => by (try dsimp only at h); omega) _)
 have hE6 : Blk ((w5.setCell ⟨w.heap.size + 1 + 1, 2, none⟩ (Value.slice A2 bs.length c2)).setCell ⟨w.heap.size + 1 + 1 + 1, 2, none⟩ Value.nilIface) _ _ _ := ((hE5.far (fun h => by (try dsimp only at h); omega) _).set_ 2 _)
 have hf06 : Fr (fun _ => False) w ((w5.setCell ⟨w.heap.size + 1 + 1, 2, none⟩ (Value.slice A2 bs.length c2)).setCell ⟨w.heap.size + 1 + 1 + 1, 2, none⟩ Value.nilIface) := ((hf05.setCell (p := ⟨w.heap.size + 1 + 1, 2, none⟩) (fun h => absurd h (by dsimp only; omega)) _).setCell (p := ⟨w.heap.size + 1 + 1 + 1, 2, none⟩) (fun h => absurd h (by dsimp only; omega)) _)
 have hv06 : Own8 ((w5.setCell ⟨w.heap.size + 1 + 1, 2, none⟩ (Value.slice A2 bs.length c2)).setCell ⟨w.heap.size + 1 + 1 + 1, 2, none⟩ Value.nilIface) _ _ _ := hv05.fr (((Fr.refl (fun k => k = (w.heap.size + 1 + 1 + 1) ∨ k = (w.heap.size + 1 + 1)) w5).setCell (p := ⟨w.heap.size + 1 + 1, 2, none⟩) (fun _ => Or.inr rfl) _).setCell (p := ⟨w.heap.size + 1 + 1 + 1, 2, none⟩) (fun _ => Or.inl rfl) _) (fun k hk h => h.elim (fun h => hv05.ne_blk hE5 (by decide) (by rw [← h]; exact hk)) (fun h => hv05.ne_blk hL5 (by decide) (by rw [← h]; exact hk)))
 have hv16 : Own8 ((w5.setCell ⟨w.heap.size + 1 + 1, 2, none⟩ (Value.slice A2 bs.length c2)).setCell ⟨w.heap.size + 1 + 1 + 1, 2, none⟩ Value.nilIface) _ _ _ := hv15.fr (((Fr.refl (fun k => k = (w.heap.size + 1 + 1 + 1) ∨ k = (w.heap.size + 1 + 1)) w5).setCell (p := ⟨w.heap.size + 1 + 1, 2, none⟩) (fun _ => Or.inr rfl) _).setCell (p := ⟨w.heap.size + 1 + 1 + 1, 2, none⟩) (fun _ => Or.inl rfl) _) (fun k hk h => h.elim (fun h => hv15.ne_blk hE5 (by decide) (by rw [← h]; exact hk)) (fun h => hv15.ne_blk hL5 (by decide) (by rw [← h]; exact hk)))
 have hv26 : Own8 ((w5.setCell ⟨w.heap.size + 1 + 1, 2, none⟩ (Value.slice A2 bs.length c2)).setCell ⟨w.heap.size + 1 + 1 + 1, 2, none⟩ Value.nilIface) _ _ _ := hv25.fr (((Fr.refl (fun k => k = (w.heap.size + 1 + 1 + 1) ∨ k = (w.heap.size + 1 + 1)) w5).setCell (p := ⟨w.heap.size + 1 + 1, 2, none⟩) (fun _ => Or.inr rfl) _).setCell (p := ⟨w.heap.size + 1 + 1 + 1, 2, none⟩) (fun _ => Or.inl rfl) _) (fun k hk h => h.elim (fun h => hv25.ne_blk hE5 (by decide) (by rw [← h]; exact hk)) (fun h => hv25.ne_blk hL5 (by decide) (by rw [← h]; exact hk)))
 generalize ((w5.setCell ⟨w.heap.size + 1 + 1, 2, none⟩ (Value.slice A2 bs.length c2)).setCell ⟨w.heap.size + 1 + 1 + 1, 2, none⟩ Value.nilIface) = w6 at *
 have ec := hE6.cell 2
 have lc := hL6.cell 2
 obtain ⟨_, _, hve, _, hrow⟩ := hv26.form
 cases hve
 have HGET := Lib.hid (cert_Get (cap := c2) hrow (by have := HBL.out; omega) H8.out)
 clear hrow
 go_upto_region 9 with (first | (go_at_call 152; refine HGET.out.mono ?_; rintro e w7 hg7; obtain ⟨x3, rfl, hf7⟩ := get_fine HG.out hg7; have hO7 := hO6.fr hf7 id; have hR7 := hR6.fr hf7 id; have hL7 := hL6.fr hf7 id; have hE7 := hE6.fr hf7 id; have hv07 := hv06.fr hf7 (fun _ _ => id); have hv17 := hv16.fr hf7 (fun _ _ => id); have hv27 := hv26.fr hf7 (fun _ _ => id); have hf07 := hf06.then_ hf7; have ec := hE7.cell 3; have ef := hE7.frozen 3))
 have hO8 : Blk (w7.setCell ⟨w.heap.size + 1 + 1 + 1, 3, none⟩ Value.nilIface) _ _ _ := (hO7.far (fun h => by (try dsimp only at h); omega) _)
 have hR8 : Blk (w7.setCell ⟨w.heap.size + 1 + 1 + 1, 3, none⟩ Value.nilIface) _ _ _ := (hR7.far (fun h => by (try dsimp only at h); omega) _)
 have hL8 : Blk (w7.setCell ⟨w.heap.size + 1 + 1 + 1, 3, none⟩ Value.nilIface) _ _ _ := (hL7.far (fun h => by (try dsimp only at h); omega) _)
 have hE8 : Blk (w7.setCell ⟨w.heap.size + 1 + 1 + 1, 3, none⟩ Value.nilIface) _ _ _ := (hE7.set_ 3 _)
 have hf08 : Fr (fun _ => False) w (w7.setCell ⟨w.heap.size + 1 + 1 + 1, 3, none⟩ Value.nilIface) := (hf07.setCell (p := ⟨w.heap.size + 1 + 1 + 1, 3, none⟩) (fun h => absurd h (by dsimp only; omega)) _)
 have hv08 : Own8 (w7.setCell ⟨w.heap.size + 1 + 1 + 1, 3, none⟩ Value.nilIface) _ _ _ := hv07.fr ((Fr.refl (fun k => k = (w.heap.size + 1 + 1 + 1)) w7).setCell (p := ⟨w.heap.size + 1 + 1 + 1, 3, none⟩) (fun _ => rfl) _) (fun k hk h => hv07.ne_blk hE7 (by decide) (by rw [← h]; exact hk))
 have hv18 : Own8 (w7.setCell ⟨w.heap.size + 1 + 1 + 1, 3, none⟩ Value.nilIface) _ _ _ := hv17.fr ((Fr.refl (fun k => k = (w.heap.size + 1 + 1 + 1)) w7).setCell (p := ⟨w.heap.size + 1 + 1 + 1, 3, none⟩) (fun _ => rfl) _) (fun k hk h => hv17.ne_blk hE7 (by decide) (by rw [← h]; exact hk))
 have hv28 : Own8 (w7.setCell ⟨w.heap.size + 1 + 1 + 1, 3, none⟩ Value.nilIface) _ _ _ := hv27.fr ((Fr.refl (fun k => k = (w.heap.size + 1 + 1 + 1)) w7).setCell (p := ⟨w.heap.size + 1 + 1 + 1, 3, none⟩) (fun _ => rfl) _) (fun k hk h => hv27.ne_blk hE7 (by decide) (by rw [← h]; exact hk))
 generalize (w7.setCell ⟨w.heap.size + 1 + 1 + 1, 3, none⟩ Value.nilIface) = w8 at *
 have HER : Hid (ErrRow w8 (w.heap.size + 1 + 1 + 1) [.nilIface, .nilIface, .nilIface, .nilIface]) := err_row hE8 (.inl rfl) (.inl rfl) (.inl rfl) (.inl rfl)
 go_upto_region 10 with (first | (go_at_call 153; refine (containsErr (cap := 4) (z := false) rfl HER.out (by simp)).mono ?_; rintro e w9 ⟨rfl, rfl⟩))
 have hf08d : Fr (fun _ => False) w w8.drew := hf08.drew
 refine wp_region_noPanic ?_
 refine wp_region_held_drew (S := (fun w' => w'.cell? ⟨w.heap.size, 0, none⟩ = some (.int .i64 6) ∧ w'.cell? ⟨w.heap.size, 1, none⟩ = some (.int .i64 c) ∧ w'.cell? ⟨w.heap.size, 2, none⟩ = some (.int .i64 n) ∧ w'.cell? ⟨w.heap.size, 3, none⟩ = some (.slice A nr cr) ∧ w'.cell? ⟨w.heap.size, 4, none⟩ = some (.slice B nw cw) ∧ w'.cell? ⟨w.heap.size, 17, none⟩ = some (.int .i64 0) ∧ w'.cell? ⟨w.heap.size, 18, none⟩ = some (.int .i64 0) ∧ w'.cell? ⟨w.heap.size, 19, none⟩ = some (.slice none 0 0) ∧ w'.cell? ⟨w.heap.size, 20, none⟩ = some (.slice none 0 0) ∧ w'.cell? ⟨w.heap.size + 1 + 1, 0, none⟩ = some ((Value.slice A0 b0.length c0)) ∧ w'.cell? ⟨w.heap.size + 1 + 1, 1, none⟩ = some ((Value.slice A1 b1.length c1)) ∧ w'.cell? ⟨w.heap.size + 1 + 1, 2, none⟩ = some ((Value.slice A2 bs.length c2)))) (by kernel_rfl) (⟨hO8.cell 0, hO8.cell 1, hO8.cell 2, hO8.cell 3, hO8.cell 4, hO8.cell 17, hO8.cell 18, hO8.cell 19, hO8.cell 20, hL8.cell 0, hL8.cell 1, hL8.cell 2⟩) (fun hHeld => ?_)
 refine tk 0 57 ?_
 refine tk 1 58 ?_
 refine tk 2 59 ?_
 refine tk 3 60 ?_
 refine tk 4 61 ?_
 refine tk 5 62 ?_
 refine tk 6 63 ?_
 refine tk 7 64 ?_
 refine tk 8 65 ?_
 refine tk 9 66 ?_
 refine tk 10 67 ?_
 refine tk 11 68 ?_
 refine tk 12 69 ?_
 refine tk 13 70 ?_
 refine tk 14 71 ?_
 refine tk 15 72 ?_
 refine tk 16 73 ?_
 refine wpAnyH_ready (rs := [17]) (by kernel_rfl) (by simp) ?_
 refine AllReadyH.cons rfl (fun K hK => ?_) AllReadyH.nil
 go_simp
 go_at_call 155
 refine (HN.out _ hf08d).mono ?_
 rintro e w10 ⟨rfl, hf10⟩
 have hf10 : Fr (fun _ => False) w8 w10 := ((Fr.refl (fun _ => False) w8).drew).trans hf10 (fun _ _ h => h)
 have hO10 := hO8.fr hf10 id
 have hR10 := hR8.fr hf10 id
 have hL10 := hL8.fr hf10 id
 have hE10 := hE8.fr hf10 id
 have hv010 := hv08.fr hf10 (fun _ _ => id)
 have hv110 := hv18.fr hf10 (fun _ _ => id)
 have hv210 := hv28.fr hf10 (fun _ _ => id)
 have hf010 := hf08.then_ hf10
 try go_wp2_with fail
 refine hK.out _ _ (⟨hO10.cell 0, hO10.cell 1, hO10.cell 2, hO10.cell 3, hO10.cell 4, hO10.cell 17, hO10.cell 18, hO10.cell 19, hO10.cell 20, hL10.cell 0, hL10.cell 1, hL10.cell 2⟩) (fun hHeld => ?_)
 clear hK K
 refine tk 18 75 ?_
 refine tk 19 76 ?_
 refine tk 20 77 ?_
 refine tk 21 78 ?_
 refine tk 22 79 ?_
 refine wpAnyH_ready (rs := [23]) (by kernel_rfl) (by simp) ?_
 refine AllReadyH.cons rfl (fun K hK => ?_) AllReadyH.nil
 go_simp
 go_at_call 156
 refine (fits_zero _).mono ?_
 rintro e w11 ⟨rfl, hf11⟩
 have hO11 := hO10.fr hf11 id
 have hR11 := hR10.fr hf11 id
 have hL11 := hL10.fr hf11 id
 have hE11 := hE10.fr hf11 id
 have hv011 := hv010.fr hf11 (fun _ _ => id)
 have hv111 := hv110.fr hf11 (fun _ _ => id)
 have hv211 := hv210.fr hf11 (fun _ _ => id)
 have hf011 := hf010.then_ hf11
 have rc0 := hR11.cell 0
 have rc1 := hR11.cell 1
 have rc2 := hR11.cell 2
 have rf0 := hR11.frozen 0
 have rf1 := hR11.frozen 1
 have rf2 := hR11.frozen 2
 try go_wp2_with fail
 refine hK.out _ _ (⟨hO11.cell 0, hO11.cell 1, hO11.cell 2, hO11.cell 3, hO11.cell 4, hO11.cell 17, hO11.cell 18, hO11.cell 19, hO11.cell 20, hL11.cell 0, hL11.cell 1, hL11.cell 2⟩) (fun hHeld => ?_)
 clear hK K
 refine tk 24 81 ?_
 refine wpAnyH_ready (rs := [25]) (by kernel_rfl) (by simp) ?_
 refine AllReadyH.cons rfl (fun K hK => ?_) AllReadyH.nil
 go_simp
 refine hK.out _ _ (⟨(((hO11.far (fun h => by (try dsimp only at h); omega) _).far (fun h => by (try dsimp only at h); omega) _).far (fun h => by (try dsimp only at h); omega) _).cell 0, (((hO11.far (fun h => by (try dsimp only at h); omega) _).far (fun h => by (try dsimp only at h); omega) _).far (fun h => by (try dsimp only at h); omega) _).cell 1, (((hO11.far (fun h => by (try dsimp only at h); omega) _).far (fun h => by (try dsimp only at h); omega) _).far (fun h => by (try dsimp only at h); omega) _).cell 2, (((hO11.far (fun h => by (try dsimp only at h); omega) _).far (fun h => by (try dsimp only at h); omega) _).far (fun h => by (try dsimp only at h); omega) _).cell 3, (((hO11.far (fun h => by (try dsimp only at h); omega) _).far (fun h => by (try dsimp only at h); omega) _).far (fun h => by (try dsimp only at h); omega) _).cell 4, (((hO11.far (fun h => by (try dsimp only at h); omega) _).far (fun h => by (try dsimp only at h); omega) _).far (fun h => by (try dsimp only at h); omega) _).cell 17, (((hO11.far (fun h => by (try dsimp only at h); omega) _).far (fun h => by (try dsimp only at h); omega) _).far (fun h => by (try dsimp only at h); omega) _).cell 18, (((hO11.far (fun h => by (try dsimp only at h); omega) _).far (fun h => by (try dsimp only at h); omega) _).far (fun h => by (try dsimp only at h); omega) _).cell 19, (((hO11.far (fun h => by (try dsimp only at h); omega) _).far (fun h => by (try dsimp only at h); omega) _).far (fun h => by (try dsimp only at h); omega) _).cell 20, (((hL11.far (fun h => by (try dsimp only at h); omega) _).far (fun h => by (try dsimp only at h); omega) _).far (fun h => by (try dsimp only at h); omega) _).cell 0, (((hL11.far (fun h => by (try dsimp only at h); omega) _).far (fun h => by (try dsimp only at h); omega) _).far (fun h => by (try dsimp only at h); omega) _).cell 1, (((hL11.far (fun h => by (try dsimp only at h); omega) _).far (fun h => by (try dsimp only at h); omega) _).far (fun h => by (try dsimp only at h); omega) _).cell 2⟩) (fun hHeld => ?_)
 clear hK K
 refine tk 26 3 ?_
 refine wpAnyH_done (by kernel_rfl) ?_ _
 refine NoPanic.normal ?_
 have hO12 : Blk (((w11.setCell ⟨w.heap.size + 1, 0, none⟩ (Value.slice A0 b0.length c0)).setCell ⟨w.heap.size + 1, 1, none⟩ (Value.slice A1 b1.length c1)).setCell ⟨w.heap.size + 1, 2, none⟩ (Value.slice A2 bs.length c2)) _ _ _ := (((hO11.far (fun h => by (try dsimp only at h); omega) _).far (fun h => by (try dsimp only at h); omega) _).far (fun h => by (try dsimp only at h); omega) _)
 have hR12 : Blk (((w11.setCell ⟨w.heap.size + 1, 0, none⟩ (Value.slice A0 b0.length c0)).setCell ⟨w.heap.size + 1, 1, none⟩ (Value.slice A1 b1.length c1)).setCell ⟨w.heap.size + 1, 2, none⟩ (Value.slice A2 bs.length c2)) _ _ _ := (((hR11.set_ 0 _).set_ 1 _).set_ 2 _)
 have hL12 : Blk (((w11.setCell ⟨w.heap.size + 1, 0, none⟩ (Value.slice A0 b0.length c0)).setCell ⟨w.heap.size + 1, 1, none⟩ (Value.slice A1 b1.length c1)).setCell ⟨w.heap.size + 1, 2, none⟩ (Value.slice A2 bs.length c2)) _ _ _ := (((hL11.far (fun h => by (try dsimp only at h); omega) _).far (fun h => by (try dsimp only at h); omega) _).far (fun h => by (try dsimp only at h); omega) _)
 have hE12 : Blk (((w11.setCell ⟨w.heap.size + 1, 0, none⟩ (Value.slice A0 b0.length c0)).setCell ⟨w.heap.size + 1, 1, none⟩ (Value.slice A1 b1.length c1)).setCell ⟨w.heap.size + 1, 2, none⟩ (Value.slice A2 bs.length c2)) _ _ _ := (((hE11.far (fun h => by (try dsimp only at h); omega) _).far (fun h => by (try dsimp only at h); omega) _).far (fun h => by (try dsimp only at h); omega) _)
 have hf012 : Fr (fun _ => False) w (((w11.setCell ⟨w.heap.size + 1, 0, none⟩ (Value.slice A0 b0.length c0)).setCell ⟨w.heap.size + 1, 1, none⟩ (Value.slice A1 b1.length c1)).setCell ⟨w.heap.size + 1, 2, none⟩ (Value.slice A2 bs.length c2)) := (((hf011.setCell (p := ⟨w.heap.size + 1, 0, none⟩) (fun h => absurd h (by dsimp only; omega)) _).setCell (p := ⟨w.heap.size + 1, 1, none⟩) (fun h => absurd h (by dsimp only; omega)) _).setCell (p := ⟨w.heap.size + 1, 2, none⟩) (fun h => absurd h (by dsimp only; omega)) _)
 have hv012 : Own8 (((w11.setCell ⟨w.heap.size + 1, 0, none⟩ (Value.slice A0 b0.length c0)).setCell ⟨w.heap.size + 1, 1, none⟩ (Value.slice A1 b1.length c1)).setCell ⟨w.heap.size + 1, 2, none⟩ (Value.slice A2 bs.length c2)) _ _ _ := hv011.fr ((((Fr.refl (fun k => k = (w.heap.size + 1)) w11).setCell (p := ⟨w.heap.size + 1, 0, none⟩) (fun _ => rfl) _).setCell (p := ⟨w.heap.size + 1, 1, none⟩) (fun _ => rfl) _).setCell (p := ⟨w.heap.size + 1, 2, none⟩) (fun _ => rfl) _) (fun k hk h => hv011.ne_blk hR11 (by decide) (by rw [← h]; exact hk))
 have hv112 : Own8 (((w11.setCell ⟨w.heap.size + 1, 0, none⟩ (Value.slice A0 b0.length c0)).setCell ⟨w.heap.size + 1, 1, none⟩ (Value.slice A1 b1.length c1)).setCell ⟨w.heap.size + 1, 2, none⟩ (Value.slice A2 bs.length c2)) _ _ _ := hv111.fr ((((Fr.refl (fun k => k = (w.heap.size + 1)) w11).setCell (p := ⟨w.heap.size + 1, 0, none⟩) (fun _ => rfl) _).setCell (p := ⟨w.heap.size + 1, 1, none⟩) (fun _ => rfl) _).setCell (p := ⟨w.heap.size + 1, 2, none⟩) (fun _ => rfl) _) (fun k hk h => hv111.ne_blk hR11 (by decide) (by rw [← h]; exact hk))
 have hv212 : Own8 (((w11.setCell ⟨w.heap.size + 1, 0, none⟩ (Value.slice A0 b0.length c0)).setCell ⟨w.heap.size + 1, 1, none⟩ (Value.slice A1 b1.length c1)).setCell ⟨w.heap.size + 1, 2, none⟩ (Value.slice A2 bs.length c2)) _ _ _ := hv211.fr ((((Fr.refl (fun k => k = (w.heap.size + 1)) w11).setCell (p := ⟨w.heap.size + 1, 0, none⟩) (fun _ => rfl) _).setCell (p := ⟨w.heap.size + 1, 1, none⟩) (fun _ => rfl) _).setCell (p := ⟨w.heap.size + 1, 2, none⟩) (fun _ => rfl) _) (fun k hk h => hv211.ne_blk hR11 (by decide) (by rw [← h]; exact hk))
 generalize (((w11.setCell ⟨w.heap.size + 1, 0, none⟩ (Value.slice A0 b0.length c0)).setCell ⟨w.heap.size + 1, 1, none⟩ (Value.slice A1 b1.length c1)).setCell ⟨w.heap.size + 1, 2, none⟩ (Value.slice A2 bs.length c2)) = w12 at *
 have y0 := hR12.cell 0
 have y1 := hR12.cell 1
 have y2 := hR12.cell 2
 simp at y0 y1 y2
 try go_wp2_with fail
 refine bodyPost_ret (v := .tuple #[.agg #[(Value.slice A0 b0.length c0), (Value.slice A1 b1.length c1), (Value.slice A2 bs.length c2)], .bool true]) (by simp [results, Tryz.results123, go_sem, y0, y1, y2]) rfl ?_
 exact ⟨_, _, _, rfl, hv012.base_ (by omega), hv112.base_ (Nat.le_trans hf02.size (Nat.le_refl _)), hv212.base_ hf04.size, hf012⟩
end Go.Proofs.YtmkdhhhoodeemaaGreat

/- say: the texts of what is no order. -/
namespace Go.Proofs.YtmkdhhhoodeemaaGreat
open Go Go.RowKit
attribute [local go_sem ↓] run_neqSay run_eqlSay
set_option maxRecDepth 100000 in
set_option maxHeartbeats 2000000 in
theorem say_texts_badT {w : World} {A B : Option Addr} {nr nw cr cw : Nat} {c n : Int} {s : SayD} {bC : Nat} {C : Option Addr} {cx : Nat} {xs : List Int} {G D : Int} (hC : IntRow w bC C xs) (hbC : bC ≤ w.heap.size) (hxl : xs.length ≤ 1024) (hgetok : getOk (num8 G ++ num8 D ++ numsB xs)) {bs : List Int} (hbs : num8 G ++ num8 D ++ numsB xs = bs) {nm sz : Bool} {b0 b1 : List Int} {r0 r1 : Value}
  (hsz : zeroSay s = !sz)
  (h0 : ∀ w', Fr (fun _ => False) w w' → Calls Tryz.prog 148 #[.bool nm, .agg #[.int .i64 c, .int .i64 n, .slice A nr cr, .slice B nw cw], .func (.func 149) #[] #[]] w' (PutP w' b0 r0))
  (h1 : ∀ w', Fr (fun _ => False) w w' → Calls Tryz.prog 150 #[.bool sz, .agg #[.int .i64 s.kind, .int .i64 s.txn, .bool s.yes, .string s.from_, .string s.to_, .int .i64 s.epoch, .int .i64 s.shard, .int .i64 s.target, .int .i64 s.root], .func (.func 77) #[] #[]] w' (PutP w' b1 r1))
  (hr1 : r1 = .nilIface) (hnm : nm = true) {t0 : TypeId} {u0 : Value} (hr0 : r0 = .iface t0 u0) :
  Calls Tryz.prog 123 #[.agg #[.int .i64 6, .int .i64 c, .int .i64 n, .slice A nr cr, .slice B nw cw, .int .i64 s.kind, .int .i64 s.txn, .bool s.yes, .string s.from_, .string s.to_, .int .i64 s.epoch, .int .i64 s.shard, .int .i64 s.target, .int .i64 s.root, .int .i64 G, .int .i64 D, .slice C xs.length cx, .int .i64 0, .int .i64 0, .slice none 0 0, .slice none 0 0]] w (fun e w' => ∃ A0 n0 c0 A1 n1 c1 A2 n2 c2, e = .returned (.tuple #[.agg #[.slice A0 n0 c0, .slice A1 n1 c1, .slice A2 n2 c2], .bool false]) ∧ Fr (fun _ => False) w w') := by
 have H0 := Lib.hid h0
 have H1 := Lib.hid h1
 have HC := Lib.hid hC
 have HG := hgetok
 rw [hbs] at HG
 have HG := Lib.hid HG
 have HBS := Lib.hid hbs
 have H8 : Hid (Bytes8 bs) := by show Bytes8 bs; rw [← hbs]; exact cert_bytes G D xs
 have HBL : Hid (bs.length ≤ 9000) := by show _ ≤ _; rw [← hbs]; exact cert_len hxl
 have HXL := Lib.hid hxl
 have HBC := Lib.hid hbC
 clear h0 h1 hC hgetok hxl hbC hbs
 have hf0 : Fr (fun _ => False) w ((((w.alloc (Obj.cells #[.int .i64 6, .int .i64 c, .int .i64 n, .slice A nr cr, .slice B nw cw, .int .i64 s.kind, .int .i64 s.txn, .bool s.yes, .string s.from_, .string s.to_, .int .i64 s.epoch, .int .i64 s.shard, .int .i64 s.target, .int .i64 s.root, .int .i64 G, .int .i64 D, .slice C xs.length cx, .int .i64 0, .int .i64 0, .slice none 0 0, .slice none 0 0] 62)).alloc (Obj.cells #[.slice none 0 0, .slice none 0 0, .slice none 0 0] 214)).alloc (Obj.cells #[.slice none 0 0, .slice none 0 0, .slice none 0 0] 214)).alloc (Obj.cells #[.nilIface, .nilIface, .nilIface, .nilIface] 233)) := ((((Fr.refl _ _).alloc _).alloc _).alloc _).alloc _
 have hO0 : Blk ((((w.alloc (Obj.cells #[.int .i64 6, .int .i64 c, .int .i64 n, .slice A nr cr, .slice B nw cw, .int .i64 s.kind, .int .i64 s.txn, .bool s.yes, .string s.from_, .string s.to_, .int .i64 s.epoch, .int .i64 s.shard, .int .i64 s.target, .int .i64 s.root, .int .i64 G, .int .i64 D, .slice C xs.length cx, .int .i64 0, .int .i64 0, .slice none 0 0, .slice none 0 0] 62)).alloc (Obj.cells #[.slice none 0 0, .slice none 0 0, .slice none 0 0] 214)).alloc (Obj.cells #[.slice none 0 0, .slice none 0 0, .slice none 0 0] 214)).alloc (Obj.cells #[.nilIface, .nilIface, .nilIface, .nilIface] 233)) w.heap.size 62 #[.int .i64 6, .int .i64 c, .int .i64 n, .slice A nr cr, .slice B nw cw, .int .i64 s.kind, .int .i64 s.txn, .bool s.yes, .string s.from_, .string s.to_, .int .i64 s.epoch, .int .i64 s.shard, .int .i64 s.target, .int .i64 s.root, .int .i64 G, .int .i64 D, .slice C xs.length cx, .int .i64 0, .int .i64 0, .slice none 0 0, .slice none 0 0] := (((Blk.new w _ _).alloc _).alloc _).alloc _
 have hR0 : Blk ((((w.alloc (Obj.cells #[.int .i64 6, .int .i64 c, .int .i64 n, .slice A nr cr, .slice B nw cw, .int .i64 s.kind, .int .i64 s.txn, .bool s.yes, .string s.from_, .string s.to_, .int .i64 s.epoch, .int .i64 s.shard, .int .i64 s.target, .int .i64 s.root, .int .i64 G, .int .i64 D, .slice C xs.length cx, .int .i64 0, .int .i64 0, .slice none 0 0, .slice none 0 0] 62)).alloc (Obj.cells #[.slice none 0 0, .slice none 0 0, .slice none 0 0] 214)).alloc (Obj.cells #[.slice none 0 0, .slice none 0 0, .slice none 0 0] 214)).alloc (Obj.cells #[.nilIface, .nilIface, .nilIface, .nilIface] 233)) (w.heap.size + 1) 214 #[.slice none 0 0, .slice none 0 0, .slice none 0 0] := ((Blk.new_ _ _ _ (by simp)).alloc _).alloc _
 have hL0 : Blk ((((w.alloc (Obj.cells #[.int .i64 6, .int .i64 c, .int .i64 n, .slice A nr cr, .slice B nw cw, .int .i64 s.kind, .int .i64 s.txn, .bool s.yes, .string s.from_, .string s.to_, .int .i64 s.epoch, .int .i64 s.shard, .int .i64 s.target, .int .i64 s.root, .int .i64 G, .int .i64 D, .slice C xs.length cx, .int .i64 0, .int .i64 0, .slice none 0 0, .slice none 0 0] 62)).alloc (Obj.cells #[.slice none 0 0, .slice none 0 0, .slice none 0 0] 214)).alloc (Obj.cells #[.slice none 0 0, .slice none 0 0, .slice none 0 0] 214)).alloc (Obj.cells #[.nilIface, .nilIface, .nilIface, .nilIface] 233)) (w.heap.size + 1 + 1) 214 #[.slice none 0 0, .slice none 0 0, .slice none 0 0] := (Blk.new_ _ _ _ (by simp)).alloc _
 have hE0 : Blk ((((w.alloc (Obj.cells #[.int .i64 6, .int .i64 c, .int .i64 n, .slice A nr cr, .slice B nw cw, .int .i64 s.kind, .int .i64 s.txn, .bool s.yes, .string s.from_, .string s.to_, .int .i64 s.epoch, .int .i64 s.shard, .int .i64 s.target, .int .i64 s.root, .int .i64 G, .int .i64 D, .slice C xs.length cx, .int .i64 0, .int .i64 0, .slice none 0 0, .slice none 0 0] 62)).alloc (Obj.cells #[.slice none 0 0, .slice none 0 0, .slice none 0 0] 214)).alloc (Obj.cells #[.slice none 0 0, .slice none 0 0, .slice none 0 0] 214)).alloc (Obj.cells #[.nilIface, .nilIface, .nilIface, .nilIface] 233)) (w.heap.size + 1 + 1 + 1) 233 #[.nilIface, .nilIface, .nilIface, .nilIface] := Blk.new_ _ _ _ (by simp)
 have hz0 : w.heap.size + 4 ≤ ((((w.alloc (Obj.cells #[.int .i64 6, .int .i64 c, .int .i64 n, .slice A nr cr, .slice B nw cw, .int .i64 s.kind, .int .i64 s.txn, .bool s.yes, .string s.from_, .string s.to_, .int .i64 s.epoch, .int .i64 s.shard, .int .i64 s.target, .int .i64 s.root, .int .i64 G, .int .i64 D, .slice C xs.length cx, .int .i64 0, .int .i64 0, .slice none 0 0, .slice none 0 0] 62)).alloc (Obj.cells #[.slice none 0 0, .slice none 0 0, .slice none 0 0] 214)).alloc (Obj.cells #[.slice none 0 0, .slice none 0 0, .slice none 0 0] 214)).alloc (Obj.cells #[.nilIface, .nilIface, .nilIface, .nilIface] 233)).heap.size := by simp
 subst hr0 hr1 hnm
 go_enter Tryz.func123, Tryz.ntmps123
 go_upto_region 4 with fail
 generalize ((((w.alloc (Obj.cells #[.int .i64 6, .int .i64 c, .int .i64 n, .slice A nr cr, .slice B nw cw, .int .i64 s.kind, .int .i64 s.txn, .bool s.yes, .string s.from_, .string s.to_, .int .i64 s.epoch, .int .i64 s.shard, .int .i64 s.target, .int .i64 s.root, .int .i64 G, .int .i64 D, .slice C xs.length cx, .int .i64 0, .int .i64 0, .slice none 0 0, .slice none 0 0] 62)).alloc (Obj.cells #[.slice none 0 0, .slice none 0 0, .slice none 0 0] 214)).alloc (Obj.cells #[.slice none 0 0, .slice none 0 0, .slice none 0 0] 214)).alloc (Obj.cells #[.nilIface, .nilIface, .nilIface, .nilIface] 233)) = w0 at *
 have k1 := hO0.cell 1
 have k2 := hO0.cell 2
 have k3 := hO0.cell 3
 have k4 := hO0.cell 4
 go_upto_region 5 with (first | (go_at_call 148; refine (H0.out _ hf0).mono ?_; rintro e w1 ⟨v0, rfl, hv01, hf1⟩; obtain ⟨A0, c0, rfl, _, _⟩ := hv01.form; have hf01 := hf0.then_ hf1; have hL1 := hL0.fr hf1 id; have hE1 := hE0.fr hf1 id; have hO1 := hO0.fr hf1 id; have hR1 := hR0.fr hf1 id; have l0 := hL1.cell 0; have lf := hL1.frozen 0; have e0 := hE1.cell 0; have ef := hE1.frozen 0))
 have hO2 : Blk ((w1.setCell ⟨w.heap.size + 1 + 1, 0, none⟩ (Value.slice A0 b0.length c0)).setCell ⟨w.heap.size + 1 + 1 + 1, 0, none⟩ (Value.iface t0 u0)) _ _ _ := ((hO1.far (fun h => by (try dsimp only at h); omega) _).far (fun h => by (try dsimp only at h); omega) _)
 have hR2 : Blk ((w1.setCell ⟨w.heap.size + 1 + 1, 0, none⟩ (Value.slice A0 b0.length c0)).setCell ⟨w.heap.size + 1 + 1 + 1, 0, none⟩ (Value.iface t0 u0)) _ _ _ := ((hR1.far (fun h => by (try dsimp only at h); omega) _).far (fun h => by (try dsimp only at h); omega) _)
 have hL2 : Blk ((w1.setCell ⟨w.heap.size + 1 + 1, 0, none⟩ (Value.slice A0 b0.length c0)).setCell ⟨w.heap.size + 1 + 1 + 1, 0, none⟩ (Value.iface t0 u0)) _ _ _ := ((hL1.set_ 0 _).far (fun h => by (try dsimp only at h); omega) _)
 have hE2 : Blk ((w1.setCell ⟨w.heap.size + 1 + 1, 0, none⟩ (Value.slice A0 b0.length c0)).setCell ⟨w.heap.size + 1 + 1 + 1, 0, none⟩ (Value.iface t0 u0)) _ _ _ := ((hE1.far (fun h => by (try dsimp only at h); omega) _).set_ 0 _)
 have hf02 : Fr (fun _ => False) w ((w1.setCell ⟨w.heap.size + 1 + 1, 0, none⟩ (Value.slice A0 b0.length c0)).setCell ⟨w.heap.size + 1 + 1 + 1, 0, none⟩ (Value.iface t0 u0)) := ((hf01.setCell (p := ⟨w.heap.size + 1 + 1, 0, none⟩) (fun h => absurd h (by dsimp only; omega)) _).setCell (p := ⟨w.heap.size + 1 + 1 + 1, 0, none⟩) (fun h => absurd h (by dsimp only; omega)) _)
 have hv02 : Own8 ((w1.setCell ⟨w.heap.size + 1 + 1, 0, none⟩ (Value.slice A0 b0.length c0)).setCell ⟨w.heap.size + 1 + 1 + 1, 0, none⟩ (Value.iface t0 u0)) _ _ _ := hv01.fr (((Fr.refl (fun k => k = (w.heap.size + 1 + 1 + 1) ∨ k = (w.heap.size + 1 + 1)) w1).setCell (p := ⟨w.heap.size + 1 + 1, 0, none⟩) (fun _ => Or.inr rfl) _).setCell (p := ⟨w.heap.size + 1 + 1 + 1, 0, none⟩) (fun _ => Or.inl rfl) _) (fun k hk h => h.elim (fun h => hv01.ne_blk hE1 (by decide) (by rw [← h]; exact hk)) (fun h => hv01.ne_blk hL1 (by decide) (by rw [← h]; exact hk)))
 generalize ((w1.setCell ⟨w.heap.size + 1 + 1, 0, none⟩ (Value.slice A0 b0.length c0)).setCell ⟨w.heap.size + 1 + 1 + 1, 0, none⟩ (Value.iface t0 u0)) = w2 at *
 have k5 := hO2.cell 5
 have k6 := hO2.cell 6
 have k7 := hO2.cell 7
 have k8 := hO2.cell 8
 have k9 := hO2.cell 9
 have k10 := hO2.cell 10
 have k11 := hO2.cell 11
 have k12 := hO2.cell 12
 have k13 := hO2.cell 13
 have hf02d : Fr (fun _ => False) w w2.drew := hf02.drew
 refine wp_region_noPanic ?_
 refine wp_region_held_drew (S := (fun w' => w'.cell? ⟨w.heap.size, 5, none⟩ = some (.int .i64 s.kind) ∧ w'.cell? ⟨w.heap.size, 6, none⟩ = some (.int .i64 s.txn) ∧ w'.cell? ⟨w.heap.size, 7, none⟩ = some (.bool s.yes) ∧ w'.cell? ⟨w.heap.size, 8, none⟩ = some (.string s.from_) ∧ w'.cell? ⟨w.heap.size, 9, none⟩ = some (.string s.to_) ∧ w'.cell? ⟨w.heap.size, 10, none⟩ = some (.int .i64 s.epoch) ∧ w'.cell? ⟨w.heap.size, 11, none⟩ = some (.int .i64 s.shard) ∧ w'.cell? ⟨w.heap.size, 12, none⟩ = some (.int .i64 s.target) ∧ w'.cell? ⟨w.heap.size, 13, none⟩ = some (.int .i64 s.root))) (by kernel_rfl) (⟨k5, k6, k7, k8, k9, k10, k11, k12, k13⟩) (fun hHeld => ?_)
 refine tk 0 26 ?_
 refine tk 1 27 ?_
 refine tk 2 28 ?_
 refine tk 3 29 ?_
 refine tk 4 30 ?_
 refine tk 5 31 ?_
 refine wpAnyH_ready (rs := [6]) (by kernel_rfl) (by simp) ?_
 refine AllReadyH.cons rfl (fun K hK => ?_) AllReadyH.nil
 go_simp
 go_at_call 150
 refine (H1.out _ hf02d).mono ?_
 rintro e w3 ⟨v1, rfl, hv13, hf3⟩
 obtain ⟨A1, c1, rfl, _, _⟩ := hv13.form
 have hf3 : Fr (fun _ => False) w2 w3 := ((Fr.refl (fun _ => False) w2).drew).trans hf3 (fun _ _ h => h)
 have hO3 := hO2.fr hf3 id
 have hR3 := hR2.fr hf3 id
 have hL3 := hL2.fr hf3 id
 have hE3 := hE2.fr hf3 id
 have hv03 := hv02.fr hf3 (fun _ _ => id)
 have hf03 := hf02.then_ hf3
 have lc1 := hL3.cell 1
 have ec1 := hE3.cell 1
 have lf := hL3.frozen 1
 have ef := hE3.frozen 1
 try go_wp2_with fail
 refine hK.out _ _ (⟨hO3.cell 5, hO3.cell 6, hO3.cell 7, hO3.cell 8, hO3.cell 9, hO3.cell 10, hO3.cell 11, hO3.cell 12, hO3.cell 13⟩) (fun hHeld => ?_)
 clear hK K
 refine tk 7 25 ?_
 refine tk 8 33 ?_
 refine tk 9 34 ?_
 refine tk 10 35 ?_
 refine wpAnyH_ready (rs := [11]) (by kernel_rfl) (by simp) ?_
 refine AllReadyH.cons rfl (fun K hK => ?_) AllReadyH.nil
 go_simp
 refine hK.out _ _ (⟨(hO3.far (fun h => by (try dsimp only at h); omega) _).cell 5, (hO3.far (fun h => by (try dsimp only at h); omega) _).cell 6, (hO3.far (fun h => by (try dsimp only at h); omega) _).cell 7, (hO3.far (fun h => by (try dsimp only at h); omega) _).cell 8, (hO3.far (fun h => by (try dsimp only at h); omega) _).cell 9, (hO3.far (fun h => by (try dsimp only at h); omega) _).cell 10, (hO3.far (fun h => by (try dsimp only at h); omega) _).cell 11, (hO3.far (fun h => by (try dsimp only at h); omega) _).cell 12, (hO3.far (fun h => by (try dsimp only at h); omega) _).cell 13⟩) (fun hHeld => ?_)
 clear hK K
 refine tk 12 36 ?_
 refine wpAnyH_ready (rs := [13]) (by kernel_rfl) (by simp) ?_
 refine AllReadyH.cons rfl (fun K hK => ?_) AllReadyH.nil
 go_simp
 refine hK.out _ _ (⟨((hO3.far (fun h => by (try dsimp only at h); omega) _).far (fun h => by (try dsimp only at h); omega) _).cell 5, ((hO3.far (fun h => by (try dsimp only at h); omega) _).far (fun h => by (try dsimp only at h); omega) _).cell 6, ((hO3.far (fun h => by (try dsimp only at h); omega) _).far (fun h => by (try dsimp only at h); omega) _).cell 7, ((hO3.far (fun h => by (try dsimp only at h); omega) _).far (fun h => by (try dsimp only at h); omega) _).cell 8, ((hO3.far (fun h => by (try dsimp only at h); omega) _).far (fun h => by (try dsimp only at h); omega) _).cell 9, ((hO3.far (fun h => by (try dsimp only at h); omega) _).far (fun h => by (try dsimp only at h); omega) _).cell 10, ((hO3.far (fun h => by (try dsimp only at h); omega) _).far (fun h => by (try dsimp only at h); omega) _).cell 11, ((hO3.far (fun h => by (try dsimp only at h); omega) _).far (fun h => by (try dsimp only at h); omega) _).cell 12, ((hO3.far (fun h => by (try dsimp only at h); omega) _).far (fun h => by (try dsimp only at h); omega) _).cell 13⟩) (fun hHeld => ?_)
 clear hK K
 refine wpAnyH_done (by kernel_rfl) ?_ _
 refine NoPanic.normal ?_
 have hO4 : Blk ((w3.setCell ⟨w.heap.size + 1 + 1, 1, none⟩ (Value.slice A1 b1.length c1)).setCell ⟨w.heap.size + 1 + 1 + 1, 1, none⟩ .nilIface) _ _ _ := ((hO3.far (fun h => by (try dsimp only at h); omega) _).far (fun h => by (try dsimp only at h); omega) _)
 have hR4 : Blk ((w3.setCell ⟨w.heap.size + 1 + 1, 1, none⟩ (Value.slice A1 b1.length c1)).setCell ⟨w.heap.size + 1 + 1 + 1, 1, none⟩ .nilIface) _ _ _ := ((hR3.far (fun h => by (try dsimp only at h); omega) _).far (fun h => by (try dsimp only at h); omega) _)
 have hL4 : Blk ((w3.setCell ⟨w.heap.size + 1 + 1, 1, none⟩ (Value.slice A1 b1.length c1)).setCell ⟨w.heap.size + 1 + 1 + 1, 1, none⟩ .nilIface) _ _ _ := ((hL3.set_ 1 _).far (fun h => by (try dsimp only at h); omega) _)
 have hE4 : Blk ((w3.setCell ⟨w.heap.size + 1 + 1, 1, none⟩ (Value.slice A1 b1.length c1)).setCell ⟨w.heap.size + 1 + 1 + 1, 1, none⟩ .nilIface) _ _ _ := ((hE3.far (fun h => by (try dsimp only at h); omega) _).set_ 1 _)
 have hf04 : Fr (fun _ => False) w ((w3.setCell ⟨w.heap.size + 1 + 1, 1, none⟩ (Value.slice A1 b1.length c1)).setCell ⟨w.heap.size + 1 + 1 + 1, 1, none⟩ .nilIface) := ((hf03.setCell (p := ⟨w.heap.size + 1 + 1, 1, none⟩) (fun h => absurd h (by dsimp only; omega)) _).setCell (p := ⟨w.heap.size + 1 + 1 + 1, 1, none⟩) (fun h => absurd h (by dsimp only; omega)) _)
 have hv04 : Own8 ((w3.setCell ⟨w.heap.size + 1 + 1, 1, none⟩ (Value.slice A1 b1.length c1)).setCell ⟨w.heap.size + 1 + 1 + 1, 1, none⟩ .nilIface) _ _ _ := hv03.fr (((Fr.refl (fun k => k = (w.heap.size + 1 + 1 + 1) ∨ k = (w.heap.size + 1 + 1)) w3).setCell (p := ⟨w.heap.size + 1 + 1, 1, none⟩) (fun _ => Or.inr rfl) _).setCell (p := ⟨w.heap.size + 1 + 1 + 1, 1, none⟩) (fun _ => Or.inl rfl) _) (fun k hk h => h.elim (fun h => hv03.ne_blk hE3 (by decide) (by rw [← h]; exact hk)) (fun h => hv03.ne_blk hL3 (by decide) (by rw [← h]; exact hk)))
 have hv14 : Own8 ((w3.setCell ⟨w.heap.size + 1 + 1, 1, none⟩ (Value.slice A1 b1.length c1)).setCell ⟨w.heap.size + 1 + 1 + 1, 1, none⟩ .nilIface) _ _ _ := hv13.fr (((Fr.refl (fun k => k = (w.heap.size + 1 + 1 + 1) ∨ k = (w.heap.size + 1 + 1)) w3).setCell (p := ⟨w.heap.size + 1 + 1, 1, none⟩) (fun _ => Or.inr rfl) _).setCell (p := ⟨w.heap.size + 1 + 1 + 1, 1, none⟩) (fun _ => Or.inl rfl) _) (fun k hk h => h.elim (fun h => hv13.ne_blk hE3 (by decide) (by rw [← h]; exact hk)) (fun h => hv13.ne_blk hL3 (by decide) (by rw [← h]; exact hk)))
 generalize ((w3.setCell ⟨w.heap.size + 1 + 1, 1, none⟩ (Value.slice A1 b1.length c1)).setCell ⟨w.heap.size + 1 + 1 + 1, 1, none⟩ .nilIface) = w4 at *
 have k14 := hO4.cell 14
 have k15 := hO4.cell 15
 have k16 := hO4.cell 16
 have HP : Hid (Calls Tryz.prog 151 #[.agg #[.int .i64 G, .int .i64 D, .slice C xs.length cx]] w4 (PutP w4 bs .nilIface)) := (cert_Put (cap := cx) (HC.out.fr hf04 (fun _ _ => id)) (Nat.le_trans HBC.out hf04.size) (by have := HXL.out; omega) G D).mono fun _ _ h => HBS.out ▸ putP_of HXL.out h
 go_upto_region 7 with (first | (go_at_call 151; refine HP.out.mono ?_; rintro e w5 ⟨v2, rfl, hv25, hf5⟩; obtain ⟨A2, c2, rfl, _, _⟩ := hv25.form; have hO5 := hO4.fr hf5 id; have hR5 := hR4.fr hf5 id; have hL5 := hL4.fr hf5 id; have hE5 := hE4.fr hf5 id; have hv05 := hv04.fr hf5 (fun _ _ => id); have hv15 := hv14.fr hf5 (fun _ _ => id); have hf05 := hf04.then_ hf5; have lc := hL5.cell 2; have lf := hL5.frozen 2; have ec := hE5.cell 2; have ef := hE5.frozen 2))
 have hO6 : Blk ((w5.setCell ⟨w.heap.size + 1 + 1, 2, none⟩ (Value.slice A2 bs.length c2)).setCell ⟨w.heap.size + 1 + 1 + 1, 2, none⟩ Value.nilIface) _ _ _ := ((hO5.far (fun h => by (try dsimp only at h); omega) _).far (fun h => by (try dsimp only at h); omega) _)
 have hR6 : Blk ((w5.setCell ⟨w.heap.size + 1 + 1, 2, none⟩ (Value.slice A2 bs.length c2)).setCell ⟨w.heap.size + 1 + 1 + 1, 2, none⟩ Value.nilIface) _ _ _ := ((hR5.far (fun h => by (try dsimp only at h); omega) _).far (fun h => by (try dsimp only at h); omega) _)
 have hL6 : Blk ((w5.setCell ⟨w.heap.size + 1 + 1, 2, none⟩ (Value.slice A2 bs.length c2)).setCell ⟨w.heap.size + 1 + 1 + 1, 2, none⟩ Value.nilIface) _ _ _ := ((hL5.set_ 2 _).far (fun h => by (try dsimp only at h); omega) _)
 have hE6 : Blk ((w5.setCell ⟨w.heap.size + 1 + 1, 2, none⟩ (Value.slice A2 bs.length c2)).setCell ⟨w.heap.size + 1 + 1 + 1, 2, none⟩ Value.nilIface) _ _ _ := ((hE5.far (fun h => by (try dsimp only at h); omega) _).set_ 2 _)
 have hf06 : Fr (fun _ => False) w ((w5.setCell ⟨w.heap.size + 1 + 1, 2, none⟩ (Value.slice A2 bs.length c2)).setCell ⟨w.heap.size + 1 + 1 + 1, 2, none⟩ Value.nilIface) := ((hf05.setCell (p := ⟨w.heap.size + 1 + 1, 2, none⟩) (fun h => absurd h (by dsimp only; omega)) _).setCell (p := ⟨w.heap.size + 1 + 1 + 1, 2, none⟩) (fun h => absurd h (by dsimp only; omega)) _)
 have hv06 : Own8 ((w5.setCell ⟨w.heap.size + 1 + 1, 2, none⟩ (Value.slice A2 bs.length c2)).setCell ⟨w.heap.size + 1 + 1 + 1, 2, none⟩ Value.nilIface) _ _ _ := hv05.fr (((Fr.refl (fun k => k = (w.heap.size + 1 + 1 + 1) ∨ k = (w.heap.size + 1 + 1)) w5).setCell (p := ⟨w.heap.size + 1 + 1, 2, none⟩) (fun _ => Or.inr rfl) _).setCell (p := ⟨w.heap.size + 1 + 1 + 1, 2, none⟩) (fun _ => Or.inl rfl) _) (fun k hk h => h.elim (fun h => hv05.ne_blk hE5 (by decide) (by rw [← h]; exact hk)) (fun h => hv05.ne_blk hL5 (by decide) (by rw [← h]; exact hk)))
 have hv16 : Own8 ((w5.setCell ⟨w.heap.size + 1 + 1, 2, none⟩ (Value.slice A2 bs.length c2)).setCell ⟨w.heap.size + 1 + 1 + 1, 2, none⟩ Value.nilIface) _ _ _ := hv15.fr (((Fr.refl (fun k => k = (w.heap.size + 1 + 1 + 1) ∨ k = (w.heap.size + 1 + 1)) w5).setCell (p := ⟨w.heap.size + 1 + 1, 2, none⟩) (fun _ => Or.inr rfl) _).setCell (p := ⟨w.heap.size + 1 + 1 + 1, 2, none⟩) (fun _ => Or.inl rfl) _) (fun k hk h => h.elim (fun h => hv15.ne_blk hE5 (by decide) (by rw [← h]; exact hk)) (fun h => hv15.ne_blk hL5 (by decide) (by rw [← h]; exact hk)))
 have hv26 : Own8 ((w5.setCell ⟨w.heap.size + 1 + 1, 2, none⟩ (Value.slice A2 bs.length c2)).setCell ⟨w.heap.size + 1 + 1 + 1, 2, none⟩ Value.nilIface) _ _ _ := hv25.fr (((Fr.refl (fun k => k = (w.heap.size + 1 + 1 + 1) ∨ k = (w.heap.size + 1 + 1)) w5).setCell (p := ⟨w.heap.size + 1 + 1, 2, none⟩) (fun _ => Or.inr rfl) _).setCell (p := ⟨w.heap.size + 1 + 1 + 1, 2, none⟩) (fun _ => Or.inl rfl) _) (fun k hk h => h.elim (fun h => hv25.ne_blk hE5 (by decide) (by rw [← h]; exact hk)) (fun h => hv25.ne_blk hL5 (by decide) (by rw [← h]; exact hk)))
 generalize ((w5.setCell ⟨w.heap.size + 1 + 1, 2, none⟩ (Value.slice A2 bs.length c2)).setCell ⟨w.heap.size + 1 + 1 + 1, 2, none⟩ Value.nilIface) = w6 at *
 have ec := hE6.cell 2
 have lc := hL6.cell 2
 obtain ⟨_, _, hve, _, hrow⟩ := hv26.form
 cases hve
 have HGET := Lib.hid (cert_Get (cap := c2) hrow (by have := HBL.out; omega) H8.out)
 clear hrow
 go_upto_region 9 with (first | (go_at_call 152; refine HGET.out.mono ?_; rintro e w7 hg7; obtain ⟨x3, rfl, hf7⟩ := get_fine HG.out hg7; have hO7 := hO6.fr hf7 id; have hR7 := hR6.fr hf7 id; have hL7 := hL6.fr hf7 id; have hE7 := hE6.fr hf7 id; have hv07 := hv06.fr hf7 (fun _ _ => id); have hv17 := hv16.fr hf7 (fun _ _ => id); have hv27 := hv26.fr hf7 (fun _ _ => id); have hf07 := hf06.then_ hf7; have ec := hE7.cell 3; have ef := hE7.frozen 3))
 have hO8 : Blk (w7.setCell ⟨w.heap.size + 1 + 1 + 1, 3, none⟩ Value.nilIface) _ _ _ := (hO7.far (fun h => by (try dsimp only at h); omega) _)
 have hR8 : Blk (w7.setCell ⟨w.heap.size + 1 + 1 + 1, 3, none⟩ Value.nilIface) _ _ _ := (hR7.far (fun h => by (try dsimp only at h); omega) _)
 have hL8 : Blk (w7.setCell ⟨w.heap.size + 1 + 1 + 1, 3, none⟩ Value.nilIface) _ _ _ := (hL7.far (fun h => by (try dsimp only at h); omega) _)
 have hE8 : Blk (w7.setCell ⟨w.heap.size + 1 + 1 + 1, 3, none⟩ Value.nilIface) _ _ _ := (hE7.set_ 3 _)
 have hf08 : Fr (fun _ => False) w (w7.setCell ⟨w.heap.size + 1 + 1 + 1, 3, none⟩ Value.nilIface) := (hf07.setCell (p := ⟨w.heap.size + 1 + 1 + 1, 3, none⟩) (fun h => absurd h (by dsimp only; omega)) _)
 have hv08 : Own8 (w7.setCell ⟨w.heap.size + 1 + 1 + 1, 3, none⟩ Value.nilIface) _ _ _ := hv07.fr ((Fr.refl (fun k => k = (w.heap.size + 1 + 1 + 1)) w7).setCell (p := ⟨w.heap.size + 1 + 1 + 1, 3, none⟩) (fun _ => rfl) _) (fun k hk h => hv07.ne_blk hE7 (by decide) (by rw [← h]; exact hk))
 have hv18 : Own8 (w7.setCell ⟨w.heap.size + 1 + 1 + 1, 3, none⟩ Value.nilIface) _ _ _ := hv17.fr ((Fr.refl (fun k => k = (w.heap.size + 1 + 1 + 1)) w7).setCell (p := ⟨w.heap.size + 1 + 1 + 1, 3, none⟩) (fun _ => rfl) _) (fun k hk h => hv17.ne_blk hE7 (by decide) (by rw [← h]; exact hk))
 have hv28 : Own8 (w7.setCell ⟨w.heap.size + 1 + 1 + 1, 3, none⟩ Value.nilIface) _ _ _ := hv27.fr ((Fr.refl (fun k => k = (w.heap.size + 1 + 1 + 1)) w7).setCell (p := ⟨w.heap.size + 1 + 1 + 1, 3, none⟩) (fun _ => rfl) _) (fun k hk h => hv27.ne_blk hE7 (by decide) (by rw [← h]; exact hk))
 generalize (w7.setCell ⟨w.heap.size + 1 + 1 + 1, 3, none⟩ Value.nilIface) = w8 at *
 have HER : Hid (ErrRow w8 (w.heap.size + 1 + 1 + 1) [(Value.iface t0 u0), .nilIface, .nilIface, .nilIface]) := err_row hE8 (.inr ⟨_, _, rfl⟩) (.inl rfl) (.inl rfl) (.inl rfl)
 go_upto_region 10 with (first | (go_at_call 153; refine (containsErr (cap := 4) (z := true) rfl HER.out (by simp)).mono ?_; rintro e w9 ⟨rfl, rfl⟩))
 have hf08d : Fr (fun _ => False) w w8.drew := hf08.drew
 have hO8d := hO8.drew
 have hL8d := hL8.drew
 have hR8d := hR8.drew
 have rc0 := hR8d.cell 0
 have rc1 := hR8d.cell 1
 have rc2 := hR8d.cell 2
 have rf0 := hR8d.frozen 0
 have rf1 := hR8d.frozen 1
 have rf2 := hR8d.frozen 2
 refine wp_region_noPanic ?_
 refine wp_region_held_drew (S := (fun w' => w'.cell? ⟨w.heap.size, 0, none⟩ = some (.int .i64 6) ∧ w'.cell? ⟨w.heap.size, 1, none⟩ = some (.int .i64 c) ∧ w'.cell? ⟨w.heap.size, 2, none⟩ = some (.int .i64 n) ∧ w'.cell? ⟨w.heap.size, 3, none⟩ = some (.slice A nr cr) ∧ w'.cell? ⟨w.heap.size, 4, none⟩ = some (.slice B nw cw) ∧ w'.cell? ⟨w.heap.size, 17, none⟩ = some (.int .i64 0) ∧ w'.cell? ⟨w.heap.size, 18, none⟩ = some (.int .i64 0) ∧ w'.cell? ⟨w.heap.size, 19, none⟩ = some (.slice none 0 0) ∧ w'.cell? ⟨w.heap.size, 20, none⟩ = some (.slice none 0 0) ∧ w'.cell? ⟨w.heap.size + 1 + 1, 0, none⟩ = some ((Value.slice A0 b0.length c0)) ∧ w'.cell? ⟨w.heap.size + 1 + 1, 1, none⟩ = some ((Value.slice A1 b1.length c1)) ∧ w'.cell? ⟨w.heap.size + 1 + 1, 2, none⟩ = some ((Value.slice A2 bs.length c2)))) (by kernel_rfl) (⟨hO8.cell 0, hO8.cell 1, hO8.cell 2, hO8.cell 3, hO8.cell 4, hO8.cell 17, hO8.cell 18, hO8.cell 19, hO8.cell 20, hL8.cell 0, hL8.cell 1, hL8.cell 2⟩) (fun hHeld => ?_)
 have hE8d := hE8.drew
 generalize w8.drew = w9 at *
 refine tk 0 57 ?_
 refine tk 1 58 ?_
 refine tk 2 59 ?_
 refine tk 3 60 ?_
 refine tkU 4 61 ?_
 refine tkU 5 62 ?_
 refine tkU 6 63 ?_
 refine tk 7 64 ?_
 refine tk 8 65 ?_
 refine tkU 9 66 ?_
 refine tkU 10 67 ?_
 refine tkU 11 68 ?_
 refine tk 12 69 ?_
 refine tk 13 70 ?_
 refine tkU 14 71 ?_
 refine tkU 15 72 ?_
 refine tkU 16 73 ?_
 refine tkU 17 74 ?_
 refine tkU 18 75 ?_
 refine tk 19 76 ?_
 refine tk 20 77 ?_
 refine tkU 21 78 ?_
 refine tkU 22 79 ?_
 refine tkU 23 80 ?_
 refine tk 24 81 ?_
 refine wpAnyH_ready (rs := [25]) (by kernel_rfl) (by simp) ?_
 refine AllReadyH.cons rfl (fun K hK => ?_) AllReadyH.nil
 go_simp
 refine hK.out _ _ (⟨(((hO8d.far (fun h => by (try dsimp only at h); omega) _).far (fun h => by (try dsimp only at h); omega) _).far (fun h => by (try dsimp only at h); omega) _).cell 0, (((hO8d.far (fun h => by (try dsimp only at h); omega) _).far (fun h => by (try dsimp only at h); omega) _).far (fun h => by (try dsimp only at h); omega) _).cell 1, (((hO8d.far (fun h => by (try dsimp only at h); omega) _).far (fun h => by (try dsimp only at h); omega) _).far (fun h => by (try dsimp only at h); omega) _).cell 2, (((hO8d.far (fun h => by (try dsimp only at h); omega) _).far (fun h => by (try dsimp only at h); omega) _).far (fun h => by (try dsimp only at h); omega) _).cell 3, (((hO8d.far (fun h => by (try dsimp only at h); omega) _).far (fun h => by (try dsimp only at h); omega) _).far (fun h => by (try dsimp only at h); omega) _).cell 4, (((hO8d.far (fun h => by (try dsimp only at h); omega) _).far (fun h => by (try dsimp only at h); omega) _).far (fun h => by (try dsimp only at h); omega) _).cell 17, (((hO8d.far (fun h => by (try dsimp only at h); omega) _).far (fun h => by (try dsimp only at h); omega) _).far (fun h => by (try dsimp only at h); omega) _).cell 18, (((hO8d.far (fun h => by (try dsimp only at h); omega) _).far (fun h => by (try dsimp only at h); omega) _).far (fun h => by (try dsimp only at h); omega) _).cell 19, (((hO8d.far (fun h => by (try dsimp only at h); omega) _).far (fun h => by (try dsimp only at h); omega) _).far (fun h => by (try dsimp only at h); omega) _).cell 20, (((hL8d.far (fun h => by (try dsimp only at h); omega) _).far (fun h => by (try dsimp only at h); omega) _).far (fun h => by (try dsimp only at h); omega) _).cell 0, (((hL8d.far (fun h => by (try dsimp only at h); omega) _).far (fun h => by (try dsimp only at h); omega) _).far (fun h => by (try dsimp only at h); omega) _).cell 1, (((hL8d.far (fun h => by (try dsimp only at h); omega) _).far (fun h => by (try dsimp only at h); omega) _).far (fun h => by (try dsimp only at h); omega) _).cell 2⟩) (fun hHeld => ?_)
 clear hK K
 refine tk 26 3 ?_
 refine wpAnyH_done (by kernel_rfl) ?_ _
 refine NoPanic.normal ?_
 have hO12 : Blk (((w9.setCell ⟨w.heap.size + 1, 0, none⟩ (Value.slice A0 b0.length c0)).setCell ⟨w.heap.size + 1, 1, none⟩ (Value.slice A1 b1.length c1)).setCell ⟨w.heap.size + 1, 2, none⟩ (Value.slice A2 bs.length c2)) _ _ _ := (((hO8d.far (fun h => by (try dsimp only at h); omega) _).far (fun h => by (try dsimp only at h); omega) _).far (fun h => by (try dsimp only at h); omega) _)
 have hR12 : Blk (((w9.setCell ⟨w.heap.size + 1, 0, none⟩ (Value.slice A0 b0.length c0)).setCell ⟨w.heap.size + 1, 1, none⟩ (Value.slice A1 b1.length c1)).setCell ⟨w.heap.size + 1, 2, none⟩ (Value.slice A2 bs.length c2)) _ _ _ := (((hR8d.set_ 0 _).set_ 1 _).set_ 2 _)
 have hL12 : Blk (((w9.setCell ⟨w.heap.size + 1, 0, none⟩ (Value.slice A0 b0.length c0)).setCell ⟨w.heap.size + 1, 1, none⟩ (Value.slice A1 b1.length c1)).setCell ⟨w.heap.size + 1, 2, none⟩ (Value.slice A2 bs.length c2)) _ _ _ := (((hL8d.far (fun h => by (try dsimp only at h); omega) _).far (fun h => by (try dsimp only at h); omega) _).far (fun h => by (try dsimp only at h); omega) _)
 have hE12 : Blk (((w9.setCell ⟨w.heap.size + 1, 0, none⟩ (Value.slice A0 b0.length c0)).setCell ⟨w.heap.size + 1, 1, none⟩ (Value.slice A1 b1.length c1)).setCell ⟨w.heap.size + 1, 2, none⟩ (Value.slice A2 bs.length c2)) _ _ _ := (((hE8d.far (fun h => by (try dsimp only at h); omega) _).far (fun h => by (try dsimp only at h); omega) _).far (fun h => by (try dsimp only at h); omega) _)
 have hf012 : Fr (fun _ => False) w (((w9.setCell ⟨w.heap.size + 1, 0, none⟩ (Value.slice A0 b0.length c0)).setCell ⟨w.heap.size + 1, 1, none⟩ (Value.slice A1 b1.length c1)).setCell ⟨w.heap.size + 1, 2, none⟩ (Value.slice A2 bs.length c2)) := (((hf08d.setCell (p := ⟨w.heap.size + 1, 0, none⟩) (fun h => absurd h (by dsimp only; omega)) _).setCell (p := ⟨w.heap.size + 1, 1, none⟩) (fun h => absurd h (by dsimp only; omega)) _).setCell (p := ⟨w.heap.size + 1, 2, none⟩) (fun h => absurd h (by dsimp only; omega)) _)
 generalize (((w9.setCell ⟨w.heap.size + 1, 0, none⟩ (Value.slice A0 b0.length c0)).setCell ⟨w.heap.size + 1, 1, none⟩ (Value.slice A1 b1.length c1)).setCell ⟨w.heap.size + 1, 2, none⟩ (Value.slice A2 bs.length c2)) = w12 at *
 have y0 := hR12.cell 0
 have y1 := hR12.cell 1
 have y2 := hR12.cell 2
 simp at y0 y1 y2
 try go_wp2_with fail
 refine bodyPost_ret (v := .tuple #[.agg #[(Value.slice A0 b0.length c0), (Value.slice A1 b1.length c1), (Value.slice A2 bs.length c2)], .bool false]) (by simp [results, Tryz.results123, go_sem, y0, y1, y2]) rfl ?_
 exact ⟨A0, _, c0, A1, _, c1, A2, _, c2, rfl, hf012⟩
end Go.Proofs.YtmkdhhhoodeemaaGreat

/- A certificate's bytes are read as it. -/
namespace Go.Proofs.YtmkdhhhoodeemaaGreat
open Go Go.RowKit
theorem intC_zero {bs : List Int} {p : Nat} {most : Int} : intC bs p most = 0 ↔ numC bs p = 0 ∧ 0 ≤ numX bs p ∧ numX bs p ≤ most := by
 unfold intC
 split
 ·rename_i h
  constructor
  ·intro h1; exact absurd h1 h
  ·intro h1; exact absurd h1.1 h
 ·rename_i h
  have h : numC bs p = 0 := by simpa using h
  split
  ·constructor
   ·intro h1; cases h1
   ·intro h1; omega
  ·split
   ·constructor
    ·intro h1; cases h1
    ·intro h1; omega
   ·exact ⟨fun _ => ⟨h, by omega, by omega⟩, fun _ => rfl⟩
theorem getE1_zero {x : Int} : getE1 x = 0 ↔ 0 ≤ x ∧ x ≤ 2147483647 := by
 unfold getE1
 split
 ·constructor
  ·intro h; cases h
  ·intro h; omega
 ·split
  ·constructor
   ·intro h; cases h
   ·intro h; omega
  ·exact ⟨fun _ => by omega, fun _ => rfl⟩
def May (G D : Int) (xs : List Int) : Prop := (0 ≤ G ∧ G < 2147483648 ∧ 0 ≤ D ∧ D < 2147483648) ∧ ∀ y ∈ xs, 0 ≤ y ∧ y < 2147483648
def Wf64 (n : Int) : Prop := -9223372036854775808 ≤ n ∧ n ≤ 9223372036854775807
theorem put_get {G D : Int} {xs : List Int} (hl : xs.length ≤ 1024) (hG : Wf64 G) (hD : Wf64 D) (hx : ∀ y ∈ xs, Wf64 y) :
  (getOk (num8 G ++ num8 D ++ numsB xs) ↔ May G D xs) ∧ numX (num8 G ++ num8 D ++ numsB xs) 0 = G ∧ numX (num8 G ++ num8 D ++ numsB xs) 8 = D ∧ numsX (num8 G ++ num8 D ++ numsB xs) 16 = xs := by
 generalize hb : num8 G ++ num8 D ++ numsB xs = b
 have h0 : b.drop 0 = num8 G ++ (num8 D ++ numsB xs) := by rw [List.drop_zero, ← hb, List.append_assoc]
 obtain ⟨a1, a2, a3⟩ := num_read h0 hG.1 hG.2
 obtain ⟨b1, b2, b3⟩ := num_read a3 hD.1 hD.2
 have b3' : b.drop 16 = numsB xs ++ [] := by rw [List.append_nil]; exact b3
 obtain ⟨c1, c2, c3⟩ := nums_read b3' hl hx
 have c4 : ¬ numsP b 16 < b.length := fun h => by
  have := congrArg List.length c3
  rw [List.length_drop, List.length_nil] at this
  omega
 have b1' : numC b 8 = 0 := b1
 have b2' : numX b 8 = D := b2
 refine ⟨?_, a2, b2', c2⟩
 unfold getOk May
 rw [intC_zero, intC_zero, a2, b2', c2]
 constructor
 ·rintro ⟨⟨_, g1, g2⟩, ⟨_, g3, g4⟩, _, _, g5⟩
  exact ⟨by omega, fun y hy => by have := getE1_zero.1 (g5 y hy); omega⟩
 ·rintro ⟨g1, g2⟩
  exact ⟨⟨a1, by omega⟩, ⟨b1', by omega⟩, c1, c4, fun y hy => getE1_zero.2 (by have := g2 y hy; omega)⟩
end Go.Proofs.YtmkdhhhoodeemaaGreat

/- relay: Begin, Cancel, Move. -/
namespace Go.Proofs.YtmkdhhhoodeemaaGreat
open Go Go.RowKit
def certZ : List Int := num8 0 ++ num8 0 ++ numsB []
theorem getOk_zero : getOk (num8 0 ++ num8 0 ++ numsB []) := (put_get (xs := []) (by simp) ⟨by omega, by omega⟩ ⟨by omega, by omega⟩ (fun y h => by cases h)).1.2 ⟨by omega, fun y h => by cases h⟩
theorem certZ_len : certZ.length ≤ 65536 := by simp [certZ, num8_length, numsB, count4_length]
instance (s : SayD) : Decidable (ZSay s) := decidable_of_iff (zeroSay s = true) (zeroSay_iff s)
theorem orderB_len {kind : Int} {a b c : List Int} (ha : a.length ≤ 65536) (hb : b.length ≤ 65536) (hc : c.length ≤ 65536) : (orderB kind a b c).length ≤ 1000000 := by
 simp [orderB, num8_length, textB, count4_length, numsB]
 omega
def wordB (s : SayD) : List Int := if OkSay s then sayB s else []
theorem sayB_short (s : SayD) : (wordB s).length ≤ 65536 := by
 unfold wordB
 split
 ·rename_i h1
  obtain ⟨_, _, h3⟩ := sayB_length h1
  omega
 ·simp
def zeroS : SayD := ⟨0, 0, false, ⟨#[]⟩, ⟨#[]⟩, 0, 0, 0, 0⟩
theorem intRow_nil (w : World) (B : Nat) : IntRow w B none [] := fun k x h => by cases h
theorem PutNo.put {w : World} {r : Value} {e : Ending} {w' : World} (h : PutNo w r e w') : PutP w [] r e w' := by
 obtain ⟨x, h1, rfl, h3⟩ := h
 exact ⟨_, h1, Own8.nil _ _, h3⟩
theorem NonePair.put {w : World} {e : Ending} {w' : World} (h : NonePair w e w') : PutP w [] .nilIface e w' := ⟨_, h.1, Own8.nil _ _, h.2⟩
/-- The order of a right transaction. -/
theorem order_begin {w : World} {F : Nat → Prop} {A B : Option Addr} {cr cw : Nat} {c n : Int} {R : List (ByteArray × Int)} {W : List (ByteArray × ByteArray)} (hr : ReadRow w F A R) (hw : WriteRow w F B W) (h : TOk c n R W) :
  Calls Tryz.prog 95 #[.agg #[.int .i64 6, .int .i64 c, .int .i64 n, .slice A R.length cr, .slice B W.length cw, .int .i64 zeroS.kind, .int .i64 zeroS.txn, .bool zeroS.yes, .string zeroS.from_, .string zeroS.to_, .int .i64 zeroS.epoch, .int .i64 zeroS.shard, .int .i64 zeroS.target, .int .i64 zeroS.root, .int .i64 0, .int .i64 0, .slice none 0 0, .int .i64 0, .int .i64 0, .slice none 0 0, .slice none 0 0]] w (PutP w (orderB 6 (txnB c n R W) [] certZ) .nilIface) := by
 refine say_PutOrder_ok (txnB_len h) (by simp) certZ_len (fun w' hf => ?_)
 have hr1 := hr.fr hf (fun _ _ => id)
 have hw1 := hw.fr hf (fun _ _ => id)
 refine say_texts_begin (xs := []) (intRow_nil w' 0) (Nat.zero_le _) (by simp) getOk_zero (bs := certZ) rfl (nm := true) (sz := false) (b0 := txnB c n R W) (b1 := []) (r0 := .nilIface) (r1 := .nilIface) ((zeroSay_iff _).2 rfl) ?_ ?_ rfl rfl rfl ?_
 ·intro w2 hf2
  exact say_optTxn_put (fun w3 hf3 => txn_Put_ok ((hr1.fr hf2 (fun _ _ => id)).fr hf3 (fun _ _ => id)) ((hw1.fr hf2 (fun _ _ => id)).fr hf3 (fun _ _ => id)) h)
 ·intro w2 hf2
  exact (say_optSay_none _ _ _ _ _ _ _ _ _ _ _).mono fun _ _ h => h.put
 ·intro w2 _
  exact say_none_not _ (by have := h.2.2.1; omega)
theorem order_begin_no {w : World} {F : Nat → Prop} {A B : Option Addr} {cr cw : Nat} {c n : Int} {R : List (ByteArray × Int)} {W : List (ByteArray × ByteArray)} (hr : ReadRow w F A R) (hw : WriteRow w F B W) (hs : FewT R W) (h : ¬ TOk c n R W) :
  Calls Tryz.prog 95 #[.agg #[.int .i64 6, .int .i64 c, .int .i64 n, .slice A R.length cr, .slice B W.length cw, .int .i64 zeroS.kind, .int .i64 zeroS.txn, .bool zeroS.yes, .string zeroS.from_, .string zeroS.to_, .int .i64 zeroS.epoch, .int .i64 zeroS.shard, .int .i64 zeroS.target, .int .i64 zeroS.root, .int .i64 0, .int .i64 0, .slice none 0 0, .int .i64 0, .int .i64 0, .slice none 0 0, .slice none 0 0]] w (fun e w' => ∃ t u, e = .returned (.tuple #[.slice none 0 0, .iface t u]) ∧ Fr (fun _ => False) w w') := by
 refine say_PutOrder_bad (fun w' hf => ?_)
 have hr1 := hr.fr hf (fun _ _ => id)
 have hw1 := hw.fr hf (fun _ _ => id)
 obtain ⟨t, u, hu⟩ := errV_iface [((⟨#[116, 120, 110]⟩ : ByteArray), 0)] 101
 refine say_texts_badT (xs := []) (intRow_nil w' 0) (Nat.zero_le _) (by simp) getOk_zero (bs := certZ) rfl (nm := true) (sz := false) (b0 := []) (b1 := []) (r0 := errV [((⟨#[116, 120, 110]⟩ : ByteArray), 0)] 101) (r1 := .nilIface) ((zeroSay_iff _).2 rfl) ?_ ?_ rfl rfl hu
 ·intro w2 hf2
  exact say_optTxn_put (fun w3 hf3 => (txn_Put_bad ((hr1.fr hf2 (fun _ _ => id)).fr hf3 (fun _ _ => id)) ((hw1.fr hf2 (fun _ _ => id)).fr hf3 (fun _ _ => id)) hs h).mono fun _ _ h => h.put)
 ·intro w2 hf2
  exact (say_optSay_none _ _ _ _ _ _ _ _ _ _ _).mono fun _ _ h => h.put
theorem group0 (w : World) : IntRow (w.alloc (Obj.cells #[.int .i64 0] 3)) (w.heap.size + 1) (some ⟨w.heap.size, 0, none⟩) [0] := by
 intro k x h
 match k, h with
 | 0, h => cases h; exact ⟨_, 0, rfl, by omega, (Blk.new w 3 #[.int .i64 0]).cell 0⟩
set_option maxRecDepth 100000 in
set_option maxHeartbeats 1000000 in
theorem relay_Begin {w : World} {F : Nat → Prop} {A B : Option Addr} {cr cw : Nat} {c n : Int} {R : List (ByteArray × Int)} {W : List (ByteArray × ByteArray)} (hr : ReadRow w F A R) (hw : WriteRow w F B W) (hs : FewT R W) :
  Calls Tryz.prog 23 #[.agg #[.int .i64 c, .int .i64 n, .slice A R.length cr, .slice B W.length cw]] w (TasksP w (if TOk c n R W then [0] else []) (if TOk c n R W then orderB 6 (txnB c n R W) [] certZ else [])) := by
 have hf2 : Fr (fun _ => False) w ((w.alloc (Obj.cells #[.int .i64 c, .int .i64 n, .slice A R.length cr, .slice B W.length cw] 29)).alloc (Obj.cells #[.int .i64 0] 3)) := ((Fr.refl _ _).alloc _).alloc _
 have hg : IntRow ((w.alloc (Obj.cells #[.int .i64 c, .int .i64 n, .slice A R.length cr, .slice B W.length cw] 29)).alloc (Obj.cells #[.int .i64 0] 3)) (w.heap.size + 1 + 1) (some ⟨w.heap.size + 1, 0, none⟩) [0] := by
  have := group0 (w.alloc (Obj.cells #[.int .i64 c, .int .i64 n, .slice A R.length cr, .slice B W.length cw] 29))
  simpa using this
 have hz : w.heap.size + 1 + 1 ≤ ((w.alloc (Obj.cells #[.int .i64 c, .int .i64 n, .slice A R.length cr, .slice B W.length cw] 29)).alloc (Obj.cells #[.int .i64 0] 3)).heap.size := by simp
 by_cases hok : TOk c n R W
 ·rw [if_pos hok, if_pos hok]
  have HT : Calls Tryz.prog 64 #[.agg #[.int .i64 6, .int .i64 c, .int .i64 n, .slice A R.length cr, .slice B W.length cw, .int .i64 0, .int .i64 0, .bool false, .string ⟨#[]⟩, .string ⟨#[]⟩, .int .i64 0, .int .i64 0, .int .i64 0, .int .i64 0, .int .i64 0, .int .i64 0, .slice none 0 0, .int .i64 0, .int .i64 0, .slice none 0 0, .slice none 0 0], .slice (some ⟨w.heap.size + 1, 0, none⟩) 1 1] ((w.alloc (Obj.cells #[.int .i64 c, .int .i64 n, .slice A R.length cr, .slice B W.length cw] 29)).alloc (Obj.cells #[.int .i64 0] 3)) (TasksP ((w.alloc (Obj.cells #[.int .i64 c, .int .i64 n, .slice A R.length cr, .slice B W.length cw] 29)).alloc (Obj.cells #[.int .i64 0] 3)) [0] (orderB 6 (txnB c n R W) [] certZ)) := relay_tasks_ok (s := zeroS) (cg := 1) hg hz (by simp) (bs := orderB 6 (txnB c n R W) [] certZ) (orderB_len (txnB_len hok) (by simp) certZ_len) (fun w' hf => order_begin (hr.fr (hf2.then_ hf) (fun _ _ => id)) (hw.fr (hf2.then_ hf) (fun _ _ => id)) hok)
  have HT := Lib.hid HT
  clear hg hz
  go_enter Tryz.func23, Tryz.ntmps23
  go_upto_region 1 with fail
  go_wp2_with (go_at_call 64; refine HT.out.mono ?_; rintro e w' ⟨v, rfl, hv, hf'⟩)
  go_ret
  exact ⟨v, rfl, hv.base_ hf2.size, hf2.then_ hf'⟩
 ·rw [if_neg hok, if_neg hok]
  have HT : ∀ V, Calls Tryz.prog 64 #[.agg #[.int .i64 6, .int .i64 c, .int .i64 n, .slice A R.length cr, .slice B W.length cw, .int .i64 0, .int .i64 0, .bool false, .string ⟨#[]⟩, .string ⟨#[]⟩, .int .i64 0, .int .i64 0, .int .i64 0, .int .i64 0, .int .i64 0, .int .i64 0, .slice none 0 0, .int .i64 0, .int .i64 0, .slice none 0 0, .slice none 0 0], V] ((w.alloc (Obj.cells #[.int .i64 c, .int .i64 n, .slice A R.length cr, .slice B W.length cw] 29)).alloc (Obj.cells #[.int .i64 0] 3)) (TasksP ((w.alloc (Obj.cells #[.int .i64 c, .int .i64 n, .slice A R.length cr, .slice B W.length cw] 29)).alloc (Obj.cells #[.int .i64 0] 3)) [] []) := fun V => relay_tasks_bad (s := zeroS) (fun w' hf => order_begin_no (hr.fr (hf2.then_ hf) (fun _ _ => id)) (hw.fr (hf2.then_ hf) (fun _ _ => id)) hs hok)
  have HT := Lib.hid HT
  clear hg hz
  go_enter Tryz.func23, Tryz.ntmps23
  go_upto_region 1 with fail
  go_wp2_with (go_at_call 64; refine (HT.out _).mono ?_; rintro e w' ⟨v, rfl, hv, hf'⟩)
  go_ret
  exact ⟨v, rfl, hv.base_ hf2.size, hf2.then_ hf'⟩
end Go.Proofs.YtmkdhhhoodeemaaGreat
