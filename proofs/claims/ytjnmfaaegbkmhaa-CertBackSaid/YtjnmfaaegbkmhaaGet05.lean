/- cert.Get. -/
import Derived.Test.YtjnmfaaegbkmhaaPut05
import Derived.Test.YtjnmfaaegbkmhaaGrow
import Derived.Test.YtjnmfaaegbkmhaaBack
namespace Go.Proofs.Ytjnmfaaegbkmhaa
open Go Go.RowKit
def getE1 (x : Int) : Int := if x < 0 then 23 else if x > 2147483647 then 2 else 0
/-- The certificate that is being read, in its box. -/
structure CertAt (w : World) (bc base : Nat) (G D : Int) (v : Value) (done : List Int) : Prop where
  blk : Blk w bc 25 #[.int .i64 G, .int .i64 D, v]
  own : w.ownsRow base 3 1 v done.length (ints done)
theorem CertAt.fr {S : Nat → Prop} {w w' : World} {bc base : Nat} {G D : Int} {v : Value} {done : List Int} (h : CertAt w bc base G D v done) (hf : Fr S w w') (hS : ¬ S bc) (hv : ∀ k, v.ownBlock = some k → ¬ S k) : CertAt w' bc base G D v done := ⟨h.blk.fr hf hS, own_fr h.own hf hv⟩
def Get1 (w : World) (bc base : Nat) (G D : Int) (v : Value) (done : List Int) (x : Int) (e : Ending) (w' : World) : Prop :=
  e = .returned (.int .i64 (getE1 x)) ∧ (getE1 x = 0 → ∃ v', CertAt w' bc base G D v' (done ++ [x])) ∧ Fr (fun k => k = bc ∨ v.ownBlock = some k) w w'
theorem int_info' : (Try.prog.info? 3).map (fun i => (i.zero, i.size, i.bytes)) = some (some (.int .i64 0), 1, 8) := by kernel_rfl
set_option maxRecDepth 100000 in
theorem cert_Get1 {w : World} {bc base : Nat} {G D : Int} {v : Value} {done : List Int} (h : CertAt w bc base G D v done) (hb : base ≤ w.heap.size) (hl : done.length ≤ 100000) (x : Int) :
    Calls Try.prog 35 #[.int .i64 x, .pointer (some ⟨bc, 0, none⟩)] w (Get1 w bc base G D v done x) := by
  obtain ⟨A, cap, rfl, _, _⟩ := own_form h.own
  have c2 : w.cell? ⟨bc, 2, none⟩ = some (.slice A done.length cap) := h.blk.cell 2
  by_cases h0 : x < 0
  · have hE : Hid (getE1 x = 23) := by show _ = _; rw [getE1, if_pos h0]
    go_enter Try.func35, Try.ntmps35
    go_wp2
    go_ret
    exact ⟨by rw [hE.out]; rfl, (fun h => by rw [hE.out] at h; cases h), Fr.refl _ _⟩
  · by_cases h1 : x > 2147483647
    · have hE : Hid (getE1 x = 2) := by show _ = _; rw [getE1, if_neg h0, if_pos h1]
      go_enter Try.func35, Try.ntmps35
      go_wp2
      go_ret
      exact ⟨by rw [hE.out]; rfl, (fun h => by rw [hE.out] at h; cases h), Fr.refl _ _⟩
    · have hE : Hid (getE1 x = 0) := by show _ = _; rw [getE1, if_neg h0, if_neg h1]
      have hlt := h.blk.lt
      go_enter Try.func35, Try.ntmps35
      go_wp2_with (at_builtin; refine wpList_append1 _ rfl _ _ _ rfl base 3 (.int .i64 0) 8 Try.underlying23 int_info' rfl (.slice A done.length cap) done.length (ints done) rfl (h.own.alloc _) w.heap.size (.int .i64 x) rfl ?_ rfl (by omega) (by omega) ?_ ?_; (· simp); (· simp; omega); intro g3 c3 w3 hown3 hf3; have hb3 := (h.blk.alloc (Obj.cells #[.int .i64 x] 3)).fr hf3 (own_ne_blk h.own h.blk (by decide)); have z2 := hb3.frozen 2; have d2 := hb3.cell 2)
      go_ret
      have hf4 : Fr (fun k => k = bc ∨ (Value.slice A done.length cap).ownBlock = some k) w w3 := ((Fr.refl _ w).alloc (Obj.cells #[.int .i64 x] 3)).trans hf3 (fun k _ h => .inr h)
      refine ⟨by rw [hE.out]; rfl, fun _ => ⟨.slice (some ⟨g3, 0, none⟩) (done.length + 1) c3, hb3.set_ 2 _, ?_⟩, hf4.setCell (p := ⟨bc, 2, none⟩) (fun _ => .inl rfl) _⟩
      rw [List.length_append, ints, List.map_append]
      exact own_setCell hown3 hb3 (by decide) 2 _
def GotEach (w : World) (bc base : Nat) (G D : Int) (xs : List Int) (e : Ending) (w' : World) : Prop :=
  (((∀ x ∈ xs, getE1 x = 0) ∧ e = .returned .nilIface ∧ ∃ v, CertAt w' bc base G D v xs) ∨ (¬ (∀ x ∈ xs, getE1 x = 0) ∧ ∃ l c, e = .returned (errV l c))) ∧ Fr (fun k => k = bc) w w'
set_option maxRecDepth 100000 in
theorem each_Get {w : World} {bc : Nat} {G D : Int} (h : Blk w bc 25 #[.int .i64 G, .int .i64 D, .slice none 0 0]) {F : Nat → Prop} {A : Option Addr} {cap : Nat} {xs : List Int} (hr : NumRow w F A xs) (hF : ∀ k, F k → k ≠ bc ∧ k < w.heap.size) (hl : xs.length ≤ 1024) :
    Calls Try.prog 34 #[.slice A xs.length cap, .func (.func 35) #[] #[.pointer (some ⟨bc, 0, none⟩)]] w (GotEach w bc w.heap.size G D xs) := by
  go_enter Try.func34, Try.ntmps34
  go_wp2_with fail
  go_loopw [10] (fun i wr => ∃ (k : Nat) (v : Value), k ≤ xs.length ∧ i = .int .i64 k ∧ (∀ x ∈ xs.take k, getE1 x = 0) ∧ CertAt wr bc w.heap.size G D v (xs.take k) ∧ Fr (fun k => k = bc) w wr) (fun i _ => xs.length - (intOf i).toNat)
  case atStart => exact ⟨0, _, by omega, rfl, fun x hx => by simp at hx, ⟨h, World.ownsRow_nil _ _ _ _⟩, Fr.refl _ _⟩
  case round =>
    obtain ⟨k, v, hk, rfl, hok, hC, hf⟩ := hrel
    by_cases hlt : k < xs.length
    · obtain ⟨x, hx⟩ : ∃ x, xs[k]? = some x := ⟨xs[k], List.getElem?_eq_getElem hlt⟩
      obtain ⟨b, o, rfl, hFb, hc⟩ := hr k x hx
      have d0 := hf.cell_some hc (hF b hFb).1
      have HX := Lib.hid hx
      have HOK := Lib.hid hok
      have htk : Hid (xs.take (k + 1) = xs.take k ++ [x]) := by
        obtain ⟨h1, h2⟩ := List.getElem?_eq_some_iff.1 hx
        show _ = _
        rw [List.take_succ_eq_append_getElem h1, h2]
      have HG := cert_Get1 hC hf.size (by simp; omega) x
      clear hr hc hx hok
      by_cases h0 : getE1 x = 0
      · have H0 := Lib.hid h0
        have t0 : (getE1 x != 0) = false := by simp [h0]
        clear h0
        go_wp2_with (go_at_call 35; refine HG.mono ?_; rintro e w1 ⟨rfl, hC1, hf1⟩)
        obtain ⟨v1, hC1⟩ := hC1 H0.out
        go_roundw
        case rel =>
          refine ⟨k + 1, v1, by omega, by go_num, ?_, by rw [htk.out]; exact hC1, hf.trans hf1 (fun j hj h => h.elim id (fun h => by have := own_ge hC.own j h; omega))⟩
          intro y hy
          rw [htk.out] at hy
          rcases List.mem_append.1 hy with hy | hy
          · exact HOK.out y hy
          · rw [List.mem_singleton.1 hy]; exact H0.out
        case measure => simp [intOf]; omega
      · have H0 := Lib.hid h0
        have t0 : (getE1 x != 0) = true := by simpa using h0
        have t1 : (getE1 x == 0) = false := by simpa using h0
        clear h0
        go_wp2_with (first
          | (go_at_call 35; refine HG.mono ?_; rintro e w1 ⟨rfl, hC1, hf1⟩)
          | (go_at_call 22; refine (fault_Of _ t1 _).mono ?_; rintro e w' ⟨rfl, rfl⟩)
          | (go_at_call 21; refine (fault_Wrap _ _ _ _ _).mono ?_; rintro e w' ⟨rfl, rfl⟩))
        go_ret
        exact ⟨.inr ⟨fun h => H0.out (h x (List.mem_of_getElem? HX.out)), _, _, rfl⟩, hf.trans hf1 (fun j hj h => h.elim id (fun h => by have := own_ge hC.own j h; omega))⟩
    · obtain rfl : k = xs.length := by omega
      rw [List.take_length] at hok hC
      have HOK := Lib.hid hok
      clear hok hr
      go_wp2
      go_ret
      exact ⟨.inl ⟨HOK.out, rfl, v, hC⟩, hf⟩
theorem rd_int {w w' : World} {g : Nat} {A : Option Addr} {bs : List Int} {n : Int} {pos' : Nat} {s : ByteArray} {pos : Nat} {c : Int} {err : Option (List (ByteArray × Int) × Int)} {e : Ending} (h : Rd w g A bs (IsInt n) pos' (.int .i64 0) s pos c err e w') :
    ∃ x err' p, e = .returned (.int .i64 x) ∧ ReaderAt w' g A bs p err' ∧ Fr (fun k => k = g) w w' ∧ (err = none → c = 0 → x = n ∧ p = pos' ∧ err' = none) ∧ (¬ (err = none ∧ c = 0) → ∃ er, err' = some er) := by
  cases err with
  | some er =>
    obtain ⟨rfl, h1, h2⟩ := h
    exact ⟨0, some er, pos, rfl, h1, h2.mono (fun _ _ h => h.elim), (fun h => by cases h), fun _ => ⟨er, rfl⟩⟩
  | none =>
    rcases h with ⟨h0, v, rfl, rfl, h1, h2⟩ | ⟨h0, rfl, ⟨p, h1⟩, h2⟩
    · exact ⟨n, none, pos', rfl, h1, h2, fun _ _ => ⟨rfl, rfl, rfl⟩, fun h => absurd ⟨rfl, h0⟩ h⟩
    · exact ⟨0, _, p, rfl, h1, h2, fun _ h => absurd h h0, fun _ => ⟨_, rfl⟩⟩
theorem rd_row {w w' : World} {g : Nat} {A : Option Addr} {bs : List Int} {V : Value → World → Prop} {pos' : Nat} {s : ByteArray} {pos : Nat} {c : Int} {err : Option (List (ByteArray × Int) × Int)} {e : Ending} (h : Rd w g A bs V pos' (.slice none 0 0) s pos c err e w') :
    ∃ v err' p, e = .returned v ∧ ReaderAt w' g A bs p err' ∧ Fr (fun k => k = g) w w' ∧ (err = none → c = 0 → V v w' ∧ p = pos' ∧ err' = none) ∧ (¬ (err = none ∧ c = 0) → ∃ er, err' = some er) := by
  cases err with
  | some er =>
    obtain ⟨rfl, h1, h2⟩ := h
    exact ⟨_, some er, pos, rfl, h1, h2.mono (fun _ _ h => h.elim), (fun h => by cases h), fun _ => ⟨er, rfl⟩⟩
  | none =>
    rcases h with ⟨h0, v, rfl, hv, h1, h2⟩ | ⟨h0, rfl, ⟨p, h1⟩, h2⟩
    · exact ⟨v, none, pos', rfl, h1, h2, fun _ _ => ⟨hv, rfl, rfl⟩, fun h => absurd ⟨rfl, h0⟩ h⟩
    · exact ⟨_, _, p, rfl, h1, h2, fun _ h => absurd h h0, fun _ => ⟨_, rfl⟩⟩
def getOk (bs : List Int) : Prop := intC bs 0 2147483647 = 0 ∧ intC bs 8 2147483647 = 0 ∧ numsC bs 16 = 0 ∧ ¬ numsP bs 16 < bs.length ∧ ∀ x ∈ numsX bs 16, getE1 x = 0
def GetOut (w : World) (bs : List Int) (e : Ending) (w' : World) : Prop :=
  ((getOk bs ∧ ∃ A cap, e = .returned (.tuple #[.agg #[.int .i64 (numX bs 0), .int .i64 (numX bs 8), .slice A (numsX bs 16).length cap], .nilIface]) ∧ IntRow w' w'.heap.size A (numsX bs 16)) ∨
   (¬ getOk bs ∧ ∃ l c, e = .returned (.tuple #[.agg #[.int .i64 0, .int .i64 0, .slice none 0 0], errV l c]))) ∧ Fr (fun _ => False) w w'
theorem get_fr {w w' : World} {a b c : Value} (h : Fr (fun _ => False) w w') : Fr (fun _ => False) w (((w'.setCell ⟨w.heap.size, 0, none⟩ a).setCell ⟨w.heap.size, 1, none⟩ b).setCell ⟨w.heap.size, 2, none⟩ c) :=
  Fr.setCell (p := ⟨w.heap.size, 2, none⟩) (Fr.setCell (p := ⟨w.heap.size, 1, none⟩) (Fr.setCell (p := ⟨w.heap.size, 0, none⟩) h (fun h => absurd h (Nat.lt_irrefl _)) _) (fun h => absurd h (Nat.lt_irrefl _)) _) (fun h => absurd h (Nat.lt_irrefl _)) _
set_option maxRecDepth 100000 in
theorem cert_Get {w : World} {F : Nat → Prop} {A : Option Addr} {cap : Nat} {bs : List Int} (hr : ByteRow w F A bs) (hl : bs.length ≤ 1000000) (h8 : Bytes8 bs) :
    Calls Try.prog 16 #[.slice A bs.length cap] w (GetOut w bs) := by
  have hf0 : Fr (fun _ => False) w (w.alloc (Obj.cells #[.int .i64 0, .int .i64 0, .slice none 0 0] 25)) := (Fr.refl _ _).alloc _
  have rb0 := Blk.new w 25 #[.int .i64 0, .int .i64 0, .slice none 0 0]
  go_enter Try.func16, Try.ntmps16
  go_wp2_with fail
  refine (wire_New (hr.fr hf0 (fun _ _ => id)) (by omega)).mono ?_
  rintro e w2 ⟨g, A2, rfl, hR2, hg2, hA2, hf02⟩
  have rb2 := rb0.fr hf02 id
  have hf2 := hf0.then_ hf02
  have hgn : w.heap.size ≠ g := by have := rb0.lt; omega
  have hgw : w.heap.size ≤ g := by have := rb0.lt; omega
  clear rb0 hf0 hf02 hr hg2
  go_wp2_with fail
  refine (reader_Int hR2 (by omega) 2147483647).mono ?_
  intro e w3 h3
  obtain ⟨x1, err1, p1, rfl, hR3, hf23, hok1, hbad1⟩ := rd_int h3
  have rb3 := rb2.fr hf23 hgn
  have hf3 : Fr (fun _ => False) w w3 := hf2.trans hf23 (fun k hk e => by omega)
  clear h3 hf23 rb2 hf2 hR2
  go_wp2_with fail
  have hf34 : Fr (fun _ => False) w3 (w3.alloc (Obj.cells #[.int .i64 x1, .int .i64 0, .slice none 0 0] 25)) := (Fr.refl _ _).alloc _
  have cb4 := Blk.new w3 25 #[.int .i64 x1, .int .i64 0, .slice none 0 0]
  have hlt3 := rb3.lt
  have halt3 := hR3.alt
  have hbg : w3.heap.size ≠ g := by obtain ⟨_, _, _, _, hb⟩ := hR3.blk; have := hb.lt; omega
  refine (reader_Int (hR3.fr hf34 id (fun _ _ _ => id)) (by omega) 2147483647).mono ?_
  intro e w5 h5
  obtain ⟨x2, err2, p2, rfl, hR5, hf45, hok2, hbad2⟩ := rd_int h5
  have cb5 := cb4.fr hf45 hbg
  have rb5 := (rb3.fr hf34 id).fr hf45 hgn
  have hf5 : Fr (fun _ => False) w w5 := (hf3.then_ hf34).trans hf45 (fun k hk e => by omega)
  have z1 := cb5.frozen 1
  have c51 := cb5.cell 1
  have hsz3 := hf3.size
  have hsz5 : w3.heap.size < w5.heap.size := cb5.lt
  clear h5 hf45 rb3 hf34 hR3 cb4
  go_wp2_with fail
  have hf56 : Fr (fun k => k = w3.heap.size) w5 (w5.setCell ⟨w3.heap.size, 1, none⟩ (.int .i64 x2)) := Fr.setCell (S := fun k => k = w3.heap.size) (p := ⟨w3.heap.size, 1, none⟩) (Fr.refl _ _) (fun _ => rfl) _
  have cb6 := cb5.set_ 1 (.int .i64 x2)
  have rb6 := rb5.fr hf56 (by omega)
  have hA2' : ∀ k o, A2 = some ⟨k, o, none⟩ → k ≠ w3.heap.size := fun k o e => by have := halt3 k o e; omega
  have hR6 := hR5.fr hf56 (fun e => hbg e.symm) hA2'
  have hf6 : Fr (fun _ => False) w (w5.setCell ⟨w3.heap.size, 1, none⟩ (.int .i64 x2)) := hf5.trans hf56 (fun k hk e => by omega)
  generalize hW6 : w5.setCell ⟨w3.heap.size, 1, none⟩ (.int .i64 x2) = w6 at hf56 cb6 rb6 hR6 hf6 ⊢
  have hsz6 : w3.heap.size < w6.heap.size := cb6.lt
  clear hW6 hf56 cb5 rb5 hR5 hf5 z1 c51
  refine (reader_Nums hR6 (by omega) h8).mono ?_
  intro e w7 h7
  obtain ⟨v7, err3, p3, rfl, hR7, hf67, hok3, hbad3⟩ := rd_row h7
  have cb7 := cb6.fr hf67 hbg
  have rb7 := rb6.fr hf67 hgn
  have hf7 : Fr (fun _ => False) w w7 := hf6.trans hf67 (fun k hk e => by omega)
  clear h7 hf67 cb6 rb6 hR6 hf6
  go_wp2_with fail
  refine (reader_End hR7 (by omega)).mono ?_
  rintro e w8 ⟨rfl, hf78⟩
  have cb8 := cb7.fr hf78 id
  have rb8 := rb7.fr hf78 id
  have hf8 := hf7.then_ hf78
  have hok : getOk bs → endE bs p3 err3 = none := fun ⟨g1, g2, g3, g4, _⟩ => by
    obtain ⟨_, rfl, rfl⟩ := hok1 (by trivial) g1
    obtain ⟨_, rfl, rfl⟩ := hok2 (by trivial) g2
    obtain ⟨_, rfl, rfl⟩ := hok3 (by trivial) g3
    rw [endE, if_neg g4]
  have y0 := rb8.frozen 0
  have y1 := rb8.frozen 1
  have y2 := rb8.frozen 2
  have e0 := rb8.cell 0
  have e1 := rb8.cell 1
  have e2 := rb8.cell 2
  cases hE : endE bs p3 err3 with
  | some er =>
    have hno : Hid (¬ getOk bs) := fun h => by rw [hok h] at hE; cases hE
    obtain ⟨t, u, hu⟩ := errO_some er
    have HWr := fault_Wrap er.1 er.2 (⟨#[99, 101, 114, 116]⟩ : ByteArray) 0
    rw [show errV er.1 er.2 = .iface t u from hu] at HWr
    rw [hu]
    clear hok hok1 hok2 hok3 hbad1 hbad2 hbad3 hE hu hR7 cb7 rb7 hf7 hf78 cb8
    go_wp2_with (go_at_call 21; refine (HWr _).mono ?_; rintro e w' ⟨rfl, rfl⟩)
    have rb9 := ((rb8.set_ 0 (.int .i64 0)).set_ 1 (.int .i64 0)).set_ 2 (.slice none 0 0)
    have d0 := rb9.cell 0
    have d1 := rb9.cell 1
    have d2 := rb9.cell 2
    refine bodyPost_ret (v := .tuple #[.agg #[.int .i64 0, .int .i64 0, .slice none 0 0], errV (((⟨#[99, 101, 114, 116]⟩ : ByteArray), 0) :: er.1) er.2]) (by simp [results, Try.results16, go_sem, d0, d1, d2]) rfl ?_
    exact ⟨.inr ⟨hno.out, _, _, rfl⟩, get_fr hf8⟩
  | none =>
    have he3 : err3 = none := by
      cases err3 with
      | none => rfl
      | some er => cases hE
    subst he3
    have hc3 : err2 = none ∧ numsC bs p2 = 0 := by
      apply Classical.byContradiction
      intro h
      obtain ⟨er, h⟩ := hbad3 h
      cases h
    obtain ⟨rfl, hc3⟩ := hc3
    have hc2 : err1 = none ∧ intC bs p1 2147483647 = 0 := by
      apply Classical.byContradiction
      intro h
      obtain ⟨er, h⟩ := hbad2 h
      cases h
    obtain ⟨rfl, hc2⟩ := hc2
    have hc1 : intC bs 0 2147483647 = 0 := by
      apply Classical.byContradiction
      intro h
      obtain ⟨er, h⟩ := hbad1 (fun hh => h hh.2)
      cases h
    obtain ⟨rfl, rfl, _⟩ := hok1 (by trivial) hc1
    obtain ⟨rfl, rfl, _⟩ := hok2 (by trivial) hc2
    obtain ⟨hv7, rfl, _⟩ := hok3 (by trivial) hc3
    have hlast : ¬ numsP bs 16 < bs.length := by
      intro h
      rw [endE, if_pos h] at hE
      cases hE
    have hleft : Hid ((∀ x ∈ numsX bs 16, getE1 x = 0) → getOk bs) := fun h => ⟨hc1, hc2, hc3, hlast, h⟩
    have hright : Hid (getOk bs → ∀ x ∈ numsX bs 16, getE1 x = 0) := fun h => h.2.2.2.2
    have hx1 : (numsX bs 16).length ≤ 1024 := (nums_kept h8 hc3).2
    obtain ⟨A7, cap7, rfl, hr7⟩ := NumRow.of_own hv7
    have hr8 := hr7.fr hf78 (fun _ _ => id)
    have hF8 : ∀ k, (Value.slice A7 (numsX bs 16).length cap7).ownBlock = some k → k ≠ w3.heap.size ∧ k < w8.heap.size := fun k hk => by
      refine ⟨fun e => own_ne_blk hv7 cb7 (by decide) (e ▸ hk), ?_⟩
      rcases hv7.2 with ⟨h, _⟩ | ⟨g', cap', cur, h, _, hg', _⟩
      · rw [h] at hk; cases hk
      · rw [h] at hk; cases hk
        exact Nat.lt_of_lt_of_le (lt_of_heap hg') hf78.size
    have HEa := each_Get (cap := cap7) cb8 hr8 hF8 hx1
    have hen : errO none = .nilIface := rfl
    clear hok hok1 hok2 hok3 hbad1 hbad2 hbad3 hE hR7 cb7 rb7 hf7 hf78 hc1 hc2 hc3 hlast hr7 hr8 hF8 hv7
    have hw3 : ¬ w.heap.size = w3.heap.size := by omega
    go_wp2_with fail
    refine HEa.mono ?_
    rintro e w9 ⟨h9, hf89⟩
    have rb9 := rb8.fr hf89 hw3
    have hf9 : Fr (fun _ => False) w w9 := hf8.trans hf89 (fun k hk e => by omega)
    have y0' := rb9.frozen 0
    have y1' := rb9.frozen 1
    have y2' := rb9.frozen 2
    have e0' := rb9.cell 0
    have e1' := rb9.cell 1
    have e2' := rb9.cell 2
    clear y0 y1 y2 e0 e1 e2 HEa
    rcases h9 with ⟨hall, rfl, v9, hC9⟩ | ⟨hnot, l9, c9, rfl⟩
    · have hgo : Hid (getOk bs) := hleft.out hall
      obtain ⟨A9, cap9, rfl, _, _⟩ := own_form hC9.own
      have q0 := hC9.blk.cell 0
      have q1 := hC9.blk.cell 1
      have q2 := hC9.blk.cell 2
      clear hall
      go_wp2_with fail
      have rb10 := ((rb9.set_ 0 (.int .i64 (numX bs 0))).set_ 1 (.int .i64 (numX bs 8))).set_ 2 (.slice A9 (numsX bs 16).length cap9)
      have d0 := rb10.cell 0
      have d1 := rb10.cell 1
      have d2 := rb10.cell 2
      have o10 := own_setCell (own_setCell (own_setCell hC9.own rb9 (by decide) 0 (.int .i64 (numX bs 0))) (rb9.set_ 0 (.int .i64 (numX bs 0))) (by decide) 1 (.int .i64 (numX bs 8))) ((rb9.set_ 0 (.int .i64 (numX bs 0))).set_ 1 (.int .i64 (numX bs 8))) (by decide) 2 (.slice A9 (numsX bs 16).length cap9)
      refine bodyPost_ret (v := .tuple #[.agg #[.int .i64 (numX bs 0), .int .i64 (numX bs 8), .slice A9 (numsX bs 16).length cap9], .nilIface]) (by simp [results, Try.results16, go_sem, d0, d1, d2]) rfl ?_
      exact ⟨.inl ⟨hgo.out, A9, cap9, rfl, IntRow.of_own' o10⟩, get_fr hf9⟩
    · have hno : Hid (¬ getOk bs) := fun h => hnot (hright.out h)
      obtain ⟨t, u, hu⟩ := errV_iface l9 c9
      have HWr := fault_Wrap l9 c9 (⟨#[99, 101, 114, 116]⟩ : ByteArray) 0
      rw [hu] at HWr
      rw [hu]
      clear hnot hu
      go_wp2_with (go_at_call 21; refine (HWr _).mono ?_; rintro e w' ⟨rfl, rfl⟩)
      have rb10 := ((rb9.set_ 0 (.int .i64 0)).set_ 1 (.int .i64 0)).set_ 2 (.slice none 0 0)
      have d0 := rb10.cell 0
      have d1 := rb10.cell 1
      have d2 := rb10.cell 2
      refine bodyPost_ret (v := .tuple #[.agg #[.int .i64 0, .int .i64 0, .slice none 0 0], errV (((⟨#[99, 101, 114, 116]⟩ : ByteArray), 0) :: l9) c9]) (by simp [results, Try.results16, go_sem, d0, d1, d2]) rfl ?_
      exact ⟨.inr ⟨hno.out, _, _, rfl⟩, get_fr hf9⟩
end Go.Proofs.Ytjnmfaaegbkmhaa
