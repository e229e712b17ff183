/- cert.Check, with its closure, and cert.each at int. -/
import Derived.Test.YtjnmfaaegbkmhaaSeals
import Derived.Test.YtjnmfaaegbkmhaaOwn
import Derived.Lib.Hide
namespace Go.Proofs.Ytjnmfaaegbkmhaa
open Go Go.RowKit
def chk1 (G D : Int) (L : List (Int × Int)) (last x : Int) : Int := if memberOf G x < 0 ∨ x ≤ last then 52 else if (memberOf G x, D) ∈ L then 0 else 53
section
variable {G D last x : Int} {L : List (Int × Int)}
theorem chk1_who (h : memberOf G x < 0 ∨ x ≤ last) : chk1 G D L last x = 52 := by simp [chk1, h]
theorem chk1_seal (h : ¬ (memberOf G x < 0 ∨ x ≤ last)) (hm : (!decide ((memberOf G x, D) ∈ L)) = true) : chk1 G D L last x = 53 := by
  have : (memberOf G x, D) ∉ L := by simpa using hm
  simp [chk1, h, this]
theorem chk1_ok (h : ¬ (memberOf G x < 0 ∨ x ≤ last)) (hm : (!decide ((memberOf G x, D) ∈ L)) = false) : chk1 G D L last x = 0 := by
  have : (memberOf G x, D) ∈ L := by simpa using hm
  simp [chk1, h, this]
end
/-- What the closure has captured: the certificate's box bc, the last signer's box bl, the seals' pointer's box bs. -/
structure Caught (w : World) (bc bl bs g m : Nat) (G D last : Int) (sl : Value) (L : List (Int × Int)) : Prop where
  c : Blk w bc 25 #[.int .i64 G, .int .i64 D, sl]
  l : Blk w bl 3 #[.int .i64 last]
  s : Blk w bs 27 #[.pointer (some ⟨g, 0, none⟩)]
  a : SealsAt w g m L
def Chk1 (w : World) (bc bl bs g m : Nat) (G D last x : Int) (sl : Value) (L : List (Int × Int)) (e : Ending) (w' : World) : Prop :=
  e = .returned (.int .i64 (chk1 G D L last x)) ∧ Caught w' bc bl bs g m G D (if chk1 G D L last x = 0 then x else last) sl L ∧ Fr (fun k => k = bl) w w'
theorem Caught.fr {S : Nat → Prop} {w w' : World} {bc bl bs g m : Nat} {G D last : Int} {sl : Value} {L : List (Int × Int)} (h : Caught w bc bl bs g m G D last sl L) (hf : Fr S w w') (h1 : ¬ S bc) (h2 : ¬ S bl) (h3 : ¬ S bs) (h4 : ¬ S g) (h5 : ¬ S m) : Caught w' bc bl bs g m G D last sl L :=
  ⟨h.c.fr hf h1, h.l.fr hf h2, h.s.fr hf h3, h.a.fr hf h4 h5⟩
theorem Caught.setLast {w : World} {bc bl bs g m : Nat} {G D last : Int} {sl : Value} {L : List (Int × Int)} (h : Caught w bc bl bs g m G D last sl L) (x : Int) : Caught (w.setCell ⟨bl, 0, none⟩ (.int .i64 x)) bc bl bs g m G D x sl L := by
  have h1 : bc ≠ bl := h.c.ne_ h.l (by decide)
  have h2 : bs ≠ bl := h.s.ne_ h.l (by decide)
  have h3 : g ≠ bl := h.a.blk.ne_ h.l (by decide)
  have h4 : m ≠ bl := by
    obtain ⟨es, cl, e1, _⟩ := h.a.map
    exact fun e2 => h.l.ne_map e1 e2.symm
  exact ⟨h.c.far h1 _, h.l.set_ 0 _, h.s.far h2 _, h.a.fr ((Fr.refl (fun k => k = bl) w).setCell (fun _ => rfl) _) h3 h4⟩
set_option maxRecDepth 100000 in
theorem cert_Check1 {w : World} {bc bl bs g m : Nat} {G D last : Int} {sl : Value} {L : List (Int × Int)} (h : Caught w bc bl bs g m G D last sl L) (x : Int) :
    Calls Try.prog 24 #[.int .i64 x, .pointer (some ⟨bc, 0, none⟩), .pointer (some ⟨bl, 0, none⟩), .pointer (some ⟨bs, 0, none⟩)] w (Chk1 w bc bl bs g m G D last x sl L) := by
  have c0 := h.c.cell 0
  have c1 := h.c.cell 1
  have c2 := h.l.cell 0
  have c3 := h.s.cell 0
  have z2 := h.l.frozen 0
  go_enter Try.func24, Try.ntmps24
  go_wp2_with (first
    | (go_at_call 12; refine (seals_Member G x _).mono ?_; rintro e w' ⟨rfl, rfl⟩)
    | (go_at_call 11; refine (seals_Signed h.a _ _).mono ?_; rintro e w1 ⟨rfl, hf1⟩; have h1 := h.fr hf1 id id id id id; have z3 := h1.l.frozen 0; have c4 := h1.l.cell 0))
  all_goals go_ret
  all_goals unfold Chk1
  all_goals first
    | (rw [chk1_who (show memberOf G x < 0 ∨ x ≤ last by omega)]; exact ⟨rfl, h, Fr.refl _ _⟩)
    | (rw [chk1_seal (show ¬ (memberOf G x < 0 ∨ x ≤ last) by omega) ‹_›]; exact ⟨rfl, h1, hf1.mono (fun _ _ hx => hx.elim)⟩)
    | (rw [chk1_ok (show ¬ (memberOf G x < 0 ∨ x ≤ last) by omega) ‹_›]; exact ⟨rfl, h1.setLast x, Fr.setCell (S := fun k => k = bl) (p := ⟨bl, 0, none⟩) (hf1.mono (fun _ _ hx => hx.elim)) (fun _ => rfl) _⟩)
def chkErr (G D : Int) (L : List (Int × Int)) : Int → Nat → List Int → Option (List (ByteArray × Int) × Int)
  | _, _, [] => none
  | last, i, x :: r => if chk1 G D L last x = 0 then chkErr G D L x (i + 1) r else some ([((⟨#[115, 105, 103, 110, 101, 114]⟩ : ByteArray), (i : Int))], chk1 G D L last x)
def lastAt (xs : List Int) (k : Nat) : Int := if k = 0 then -1 else xs.getD (k - 1) 0
theorem lastAt_succ {xs : List Int} {k : Nat} {x : Int} (h : xs[k]? = some x) : lastAt xs (k + 1) = x := by
  obtain ⟨hlt, rfl⟩ := List.getElem?_eq_some_iff.1 h
  simp [lastAt, hlt]
section
variable {G D last : Int} {L : List (Int × Int)} {xs : List Int} {k : Nat} {x : Int}
theorem chkErr_step (h : xs[k]? = some x) (h0 : chk1 G D L (lastAt xs k) x = 0) : chkErr G D L (lastAt xs k) k (xs.drop k) = chkErr G D L (lastAt xs (k + 1)) (k + 1) (xs.drop (k + 1)) := by
  rw [lastAt_succ h]
  obtain ⟨hlt, rfl⟩ := List.getElem?_eq_some_iff.1 h
  rw [List.drop_eq_getElem_cons hlt, chkErr, if_pos h0]
theorem chkErr_stop (h : xs[k]? = some x) (h0 : ¬ chk1 G D L (lastAt xs k) x = 0) : chkErr G D L (lastAt xs k) k (xs.drop k) = some ([((⟨#[115, 105, 103, 110, 101, 114]⟩ : ByteArray), (k : Int))], chk1 G D L (lastAt xs k) x) := by
  obtain ⟨hlt, rfl⟩ := List.getElem?_eq_some_iff.1 h
  rw [List.drop_eq_getElem_cons hlt, chkErr, if_neg h0]
end
def Each1 (w : World) (bc bl bs g m : Nat) (G D : Int) (sl : Value) (L : List (Int × Int)) (xs : List Int) (e : Ending) (w' : World) : Prop :=
  ∃ last, e = .returned (errO (chkErr G D L (-1) 0 xs)) ∧ Caught w' bc bl bs g m G D last sl L ∧ Fr (fun k => k = bl) w w'
set_option maxRecDepth 100000 in
theorem each_Check {w : World} {bc bl bs g m B : Nat} {G D : Int} {sl : Value} {L : List (Int × Int)} (h : Caught w bc bl bs g m G D (-1) sl L) {A : Option Addr} {cap : Nat} {xs : List Int} (hr : IntRow w B A xs) (hB : B ≤ bl) (hlen : xs.length ≤ 9223372036854775807) :
    Calls Try.prog 23 #[.slice A xs.length cap, .func (.func 24) #[] #[.pointer (some ⟨bc, 0, none⟩), .pointer (some ⟨bl, 0, none⟩), .pointer (some ⟨bs, 0, none⟩)]] w (Each1 w bc bl bs g m G D sl L xs) := by
  go_enter Try.func23, Try.ntmps23
  go_wp2_with fail
  go_loopw [10] (fun i wr => ∃ k : Nat, k ≤ xs.length ∧ i = .int .i64 k ∧ chkErr G D L (-1) 0 xs = chkErr G D L (lastAt xs k) k (xs.drop k) ∧ Caught wr bc bl bs g m G D (lastAt xs k) sl L ∧ Fr (fun k => k = bl) w wr) (fun i _ => xs.length - (intOf i).toNat)
  case atStart => exact ⟨0, by omega, rfl, rfl, h, Fr.refl _ _⟩
  case round =>
    obtain ⟨k, hk, rfl, he, hc, hf⟩ := hrel
    by_cases hlt : k < xs.length
    · obtain ⟨x, hx⟩ : ∃ x, xs[k]? = some x := ⟨xs[k], List.getElem?_eq_getElem hlt⟩
      obtain ⟨b, o, rfl, hb, c0⟩ := hr k x hx
      have d0 := hf.cell_some c0 (by simp; omega)
      clear hr c0
      have HX := Lib.hid hx
      have HE := Lib.hid he
      clear hx he
      by_cases h0 : chk1 G D L (lastAt xs k) x = 0
      · have H0 := Lib.hid h0
        have t0 : (chk1 G D L (lastAt xs k) x != 0) = false := by simp [h0]
        clear h0
        go_wp2_with (go_at_call 24; refine (cert_Check1 hc x).mono ?_; rintro e w1 ⟨rfl, hc1, hf1⟩)
        rw [if_pos H0.out] at hc1
        go_roundw
        case rel =>
          refine ⟨k + 1, by omega, by go_num, ?_, ?_, hf.trans hf1 (fun _ _ hx => hx)⟩
          · rw [HE.out, chkErr_step HX.out H0.out]
          · rw [lastAt_succ HX.out]; exact hc1
        case measure => simp [intOf]; omega
      · have H0 := Lib.hid h0
        have t0 : (chk1 G D L (lastAt xs k) x != 0) = true := by simpa using h0
        have t1 : (chk1 G D L (lastAt xs k) x == 0) = false := by simpa using h0
        clear h0
        go_wp2_with (first
          | (go_at_call 24; refine (cert_Check1 hc x).mono ?_; rintro e w1 ⟨rfl, hc1, hf1⟩)
          | (go_at_call 22; refine (fault_Of _ t1 _).mono ?_; rintro e w' ⟨rfl, rfl⟩)
          | (go_at_call 21; refine (fault_Wrap _ _ _ _ _).mono ?_; rintro e w' ⟨rfl, rfl⟩))
        go_ret
        exact ⟨_, by rw [HE.out, chkErr_stop HX.out H0.out]; rfl, hc1, hf.trans hf1 (fun _ _ hx => hx)⟩
    · obtain rfl : k = xs.length := by omega
      have HE : Hid (chkErr G D L (-1) 0 xs = none) := by rw [he, List.drop_length]; rfl
      clear he
      go_wp2
      go_ret
      exact ⟨_, by rw [HE.out]; rfl, hc, hf⟩
def checkE (G D : Int) (L : List (Int × Int)) (xs : List Int) (need : Int) : Option (List (ByteArray × Int) × Int) :=
  match chkErr G D L (-1) 0 xs with
  | some e => some e
  | none => if need < 1 ∨ (xs.length : Int) < need then some ([((⟨#[99, 104, 101, 99, 107]⟩ : ByteArray), (xs.length : Int))], 51) else none
section
variable {G D need : Int} {L : List (Int × Int)} {xs : List Int}
theorem checkE_few (hE : chkErr G D L (-1) 0 xs = none) (h : need < 1 ∨ (xs.length : Int) < need) : checkE G D L xs need = some ([((⟨#[99, 104, 101, 99, 107]⟩ : ByteArray), (xs.length : Int))], 51) := by
  simp only [checkE, hE, if_pos h]
theorem checkE_ok (hE : chkErr G D L (-1) 0 xs = none) (h : ¬ (need < 1 ∨ (xs.length : Int) < need)) : checkE G D L xs need = none := by
  simp only [checkE, hE, if_neg h]
theorem checkE_some {p : List (ByteArray × Int) × Int} (hE : chkErr G D L (-1) 0 xs = some p) : checkE G D L xs need = some p := by
  simp only [checkE, hE]
end
def Checked (w : World) (G D : Int) (L : List (Int × Int)) (xs : List Int) (need : Int) (e : Ending) (w' : World) : Prop :=
  e = .returned (errO (checkE G D L xs need)) ∧ Fr (fun _ => False) w w'
set_option maxRecDepth 100000 in
theorem cert_Check {w : World} {g m : Nat} {L : List (Int × Int)} (hs : SealsAt w g m L) {A : Option Addr} {cap : Nat} {xs : List Int} (hr : IntRow w w.heap.size A xs) (hlen : xs.length ≤ 9223372036854775807) (G D need : Int) :
    Calls Try.prog 9 #[.pointer (some ⟨g, 0, none⟩), .agg #[.int .i64 G, .int .i64 D, .slice A xs.length cap], .int .i64 need] w (Checked w G D L xs need) := by
  go_enter Try.func9, Try.ntmps9
  go_wp2_with fail
  have b1 : Blk (w.alloc (Obj.cells #[.pointer (some ⟨g, 0, none⟩)] 27)) w.heap.size 27 #[.pointer (some ⟨g, 0, none⟩)] := Blk.new _ _ _
  have b2 := Blk.new_ (w.alloc (Obj.cells #[.pointer (some ⟨g, 0, none⟩)] 27)) 25 #[.int .i64 G, .int .i64 D, .slice A xs.length cap] (n := w.heap.size + 1) (by simp)
  have b3 := Blk.new_ ((w.alloc (Obj.cells #[.pointer (some ⟨g, 0, none⟩)] 27)).alloc (Obj.cells #[.int .i64 G, .int .i64 D, .slice A xs.length cap] 25)) 3 #[.int .i64 (-1)] (n := w.heap.size + 1 + 1) (by simp)
  have hf3 : Fr (fun _ => False) w (((w.alloc (Obj.cells #[.pointer (some ⟨g, 0, none⟩)] 27)).alloc (Obj.cells #[.int .i64 G, .int .i64 D, .slice A xs.length cap] 25)).alloc (Obj.cells #[.int .i64 (-1)] 3)) := (((Fr.refl _ _).alloc _).alloc _).alloc _
  have hc : Caught _ (w.heap.size + 1) (w.heap.size + 1 + 1) w.heap.size g m G D (-1) (.slice A xs.length cap) L := ⟨b2.alloc _, b3, (b1.alloc _).alloc _, hs.fr hf3 id id⟩
  refine (each_Check hc (hr.fr hf3 (fun _ _ => id)) (by omega) hlen).mono ?_
  rintro e w4 ⟨last, rfl, hc4, hf4⟩
  have hf5 : Fr (fun _ => False) w w4 := hf3.trans hf4 (fun _ hx e => by omega)
  have c2 := hc4.c.cell 2
  clear b1 b2 b3 hf3 hc hf4 hc4 hs hr
  rcases hE : chkErr G D L (-1) 0 xs with _ | p
  · have he : errO none = .nilIface := rfl
    have HE := Lib.hid hE
    clear hE
    by_cases hn : need < 1 ∨ (xs.length : Int) < need
    · have HN := Lib.hid hn
      rcases hn with hn | hn
      · go_wp2_with fail
        go_quiet ((first | (go_at_call 22; exact quiet_left (fault_Of 51 rfl _)) | (go_at_call 21; exact quiet_left (fault_Wrap _ _ _ _ _))))
        go_wp2
        go_ret
        exact ⟨by rw [checkE_few HE.out HN.out]; rfl, hf5.drewN _⟩
      · by_cases h1 : need < 1
        all_goals
          go_wp2_with fail
          go_quiet ((first | (go_at_call 22; exact quiet_left (fault_Of 51 rfl _)) | (go_at_call 21; exact quiet_left (fault_Wrap _ _ _ _ _))))
          go_wp2
          go_ret
          exact ⟨by rw [checkE_few HE.out HN.out]; rfl, hf5.drewN _⟩
    · have HN := Lib.hid hn
      have h1 : ¬ need < 1 := by omega
      have h2 : ¬ (xs.length : Int) < need := by omega
      clear hn
      go_wp2
      go_ret
      exact ⟨by rw [checkE_ok HE.out HN.out]; rfl, hf5⟩
  · obtain ⟨t, v, hv⟩ := errO_some p
    have HV := Lib.hid hv
    have HE := Lib.hid hE
    clear hE
    go_wp2
    go_ret
    exact ⟨by rw [checkE_some HE.out, HV.out]; rfl, hf5⟩
theorem cert_Check_n {w : World} {g m n : Nat} {L : List (Int × Int)} (hs : SealsAt w g m L) {A : Option Addr} {cap : Nat} {xs : List Int} (hr : IntRow w w.heap.size A xs) (hn : xs.length = n) (hlen : n ≤ 9223372036854775807) (G D need : Int) :
    Calls Try.prog 9 #[.pointer (some ⟨g, 0, none⟩), .agg #[.int .i64 G, .int .i64 D, .slice A n cap], .int .i64 need] w (Checked w G D L xs need) := by
  subst hn
  exact cert_Check hs hr hlen G D need
end Go.Proofs.Ytjnmfaaegbkmhaa
