/- client: digest, Submit. -/
import Derived.Test.YtcfanacfjcgnbaaGreatDoorTxnP
import Derived.Test.YtcfanacfjcgnbaaGreatDoorWord
namespace Go.Proofs.YtcfanacfjcgnbaaGreatDoor
open Go Go.RowKit
theorem b8_flat {α : Type} {f : α → List Int} (h : ∀ x, B8 (f x)) (l : List α) : B8 (l.flatMap f) := fun y hy => by
  obtain ⟨x, _, hx⟩ := List.mem_flatMap.1 hy
  exact h x y hx
theorem b8_txnB (c n : Int) (R : List (ByteArray × Int)) (W : List (ByteArray × ByteArray)) : B8 (txnB c n R W) :=
  b8_append (b8_append (b8_append (b8_append (b8_append (b8_num8 _) (b8_num8 _)) (b8_num8 _)) (b8_flat (fun _ => b8_append (b8_textB _) (b8_num8 _)) R)) (b8_num8 _)) (b8_flat (fun _ => b8_append (b8_textB _) (b8_textB _)) W)
theorem txnB_len {c n : Int} {R : List (ByteArray × Int)} {W : List (ByteArray × ByteArray)} (h : TOk c n R W) : (txnB c n R W).length ≤ 65536 := by
  have h1 := fl_le R (readB_le (read_sizes h.2.2.2.2.2.1))
  have h2 := fl_le W (writeB_le (write_sizes h.2.2.2.2.2.2))
  have h3 := rises_len h.2.2.2.2.2.1
  have h4 := rises_len h.2.2.2.2.2.2
  simp only [txnB, List.length_append, num8_length]
  omega
theorem BS.bookFr {w w' : World} {g m base : Nat} {v : Value} {L : List (List Int)} {gs ms : Nat} {SL : List (Int × Int)} {t : TypeId} {x : Nat} {cs : Array Value} (h : BS w g m base v L gs ms SL) (hB : Blk w x t cs) (h1 : t ≠ 107) (h2 : 9 ≠ t) (hf : Fr (fun k => k = g ∨ k = m ∨ v.ownBlock = some k ∨ k = ms) w w') : Blk w' x t cs :=
  hB.fr hf (fun e => by
    rcases e with e | e | e | e
    · exact hB.ne_ h.book.blk h1 e
    · obtain ⟨⟨es, cl, h3, _⟩, _⟩ := h.book.map
      exact hB.ne_map h3 e
    · exact own_ne_blk h.book.own hB h2 e
    · obtain ⟨es, cl, h3, _⟩ := h.seals.map
      exact hB.ne_map h3 e)
set_option maxRecDepth 100000 in
theorem client_digest_ok {w : World} {g m base : Nat} {v : Value} {L : List (List Int)} (h : BookAt w g m base v L) (hbase : base ≤ w.heap.size) (hL : L.length < 65536) {F : Nat → Prop} {A B : Option Addr} {cr cw : Nat} {c n : Int} {R : List (ByteArray × Int)} {W : List (ByteArray × ByteArray)} (hr : ReadRow w F A R) (hw : WriteRow w F B W) (ht : TOk c n R W) :
    Calls Tryz.prog 23 #[.pointer (some ⟨g, 0, none⟩), .agg #[.int .i64 c, .int .i64 n, .slice A R.length cr, .slice B W.length cw]] w (BookStep w g m base v (digL L (txnB c n R W)) (.tuple #[.int .i64 (digI L (txnB c n R W) : Nat), .nilIface])) := by
  have hf0 : Fr (fun _ => False) w (w.alloc (Obj.cells #[.int .i64 c, .int .i64 n, .slice A R.length cr, .slice B W.length cw] 25)) := (Fr.refl _ _).alloc _
  have HP := txn_Put_ok (cr := cr) (cw := cw) (hr.fr hf0 (fun _ _ => id)) (hw.fr hf0 (fun _ _ => id)) ht
  have HL1 := Lib.hid (txnB_len ht)
  have HB8 := Lib.hid (b8_txnB c n R W)
  unfold PutT at HP
  clear ht hr hw
  generalize txnB c n R W = xs at HP HL1 HB8 ⊢
  have HP := Lib.hid HP
  go_enter Tryz.func23, Tryz.ntmps23
  go_wp2_with fail
  refine HP.out.mono ?_
  rintro e w1 ⟨v1, rfl, hv1, hf1⟩
  have hf01 := hf0.then_ hf1
  obtain ⟨A1, cap1, rfl, _, hr1⟩ := hv1.form
  have hb1 := h.keep hf01
  clear hf0 hf1 hv1 HP
  go_wp2_with (go_at_call 31; refine (book_Digest hb1 (Nat.le_trans hbase hf01.size) hr1 HB8.out HL1.out hL).mono ?_; rintro e w2 ⟨v2, rfl, hb2, hf2, hk2⟩)
  refine bodyPost_ret (v := .tuple #[.int .i64 (digI L xs : Nat), .nilIface]) (by simp [results, Tryz.results23, go_sem]) rfl ?_
  exact BookStep.before ⟨v2, rfl, hb2, hf2, hk2⟩ hf01
def PutNo (w : World) (r : Value) (e : Ending) (w' : World) : Prop := ∃ x, e = .returned (.tuple #[x, r]) ∧ x = .slice none 0 0 ∧ Fr (fun _ => False) w w'
theorem txn_Put_no (w : World) {A B : Option Addr} {nr nw cr cw : Nat} {c n : Int} (h0 : 0 ≤ c) (h1 : c < 16) (h2 : ¬ 1 ≤ n) :
    Calls Tryz.prog 38 #[.agg #[.int .i64 c, .int .i64 n, .slice A nr cr, .slice B nw cw]] w (PutNo w (errV [((⟨#[116, 120, 110]⟩ : ByteArray), 0)] 101)) := by
  have hf0 : Fr (fun _ => False) w (w.alloc (Obj.cells #[.int .i64 c, .int .i64 n, .slice A nr cr, .slice B nw cw] 25)) := (Fr.refl _ _).alloc _
  obtain ⟨t, u, hu⟩ := errV_iface [((⟨#[116, 120, 110]⟩ : ByteArray), 0)] 101
  have HC := fun w => txn_Check_no (A := A) (B := B) (nr := nr) (nw := nw) (cr := cr) (cw := cw) w h0 h1 h2
  unfold TxnErr at HC
  rw [hu] at HC ⊢
  have HC := Lib.hid HC
  clear h0 h1 h2 hu
  go_enter Tryz.func38, Tryz.ntmps38
  go_wp2_with (go_at_call 58; refine (HC.out _).mono ?_; rintro e w1 ⟨rfl, hf1⟩)
  refine bodyPost_ret (v := .tuple #[.slice none 0 0, .iface t u]) (by simp [results, Tryz.results38, go_sem]) rfl ?_
  exact ⟨_, rfl, rfl, hf0.then_ hf1⟩
def IntErr (w : World) (d : Int) (r : Value) (e : Ending) (w' : World) : Prop := e = .returned (.tuple #[.int .i64 d, r]) ∧ Fr (fun _ => False) w w'
theorem client_digest_no (w : World) (p : Value) {A B : Option Addr} {nr nw cr cw : Nat} {c n : Int} (h0 : 0 ≤ c) (h1 : c < 16) (h2 : ¬ 1 ≤ n) :
    Calls Tryz.prog 23 #[p, .agg #[.int .i64 c, .int .i64 n, .slice A nr cr, .slice B nw cw]] w (IntErr w (-1) (errV [((⟨#[116, 120, 110]⟩ : ByteArray), 0)] 101)) := by
  have hf0 : Fr (fun _ => False) w (w.alloc (Obj.cells #[.int .i64 c, .int .i64 n, .slice A nr cr, .slice B nw cw] 25)) := (Fr.refl _ _).alloc _
  obtain ⟨t, u, hu⟩ := errV_iface [((⟨#[116, 120, 110]⟩ : ByteArray), 0)] 101
  have HC := fun w => txn_Put_no (A := A) (B := B) (nr := nr) (nw := nw) (cr := cr) (cw := cw) w h0 h1 h2
  rw [hu] at HC ⊢
  have HC := Lib.hid HC
  clear h0 h1 h2 hu
  go_enter Tryz.func23, Tryz.ntmps23
  go_wp2_with (go_at_call 38; refine (HC.out _).mono ?_; rintro e w1 ⟨x1, rfl, rfl, hf1⟩)
  refine bodyPost_ret (v := .tuple #[.int .i64 (-1), .iface t u]) (by simp [results, Tryz.results23, go_sem]) rfl ?_
  exact ⟨rfl, hf0.then_ hf1⟩
theorem client_Submit_no (w : World) (p : Value) (gs : Nat) {A B : Option Addr} {nr nw cr cw : Nat} {c n : Int} (h0 : 0 ≤ c) (h1 : c < 16) (h2 : ¬ 1 ≤ n) :
    Calls Tryz.prog 14 #[p, .pointer (some ⟨gs, 0, none⟩), .agg #[.int .i64 c, .int .i64 n, .slice A nr cr, .slice B nw cw]] w (IntErr w (-1) (errV [((⟨#[99, 108, 105, 101, 110, 116]⟩ : ByteArray), c), ((⟨#[116, 120, 110]⟩ : ByteArray), 0)] 101)) := by
  have hf0 : Fr (fun _ => False) w (w.alloc (Obj.cells #[.int .i64 c, .int .i64 n, .slice A nr cr, .slice B nw cw] 25)) := (Fr.refl _ _).alloc _
  have hB0 := Blk.new w 25 #[.int .i64 c, .int .i64 n, .slice A nr cr, .slice B nw cw]
  obtain ⟨t, u, hu⟩ := errV_iface [((⟨#[116, 120, 110]⟩ : ByteArray), 0)] 101
  obtain ⟨t2, u2, hu2⟩ := errV_iface [((⟨#[99, 108, 105, 101, 110, 116]⟩ : ByteArray), c), ((⟨#[116, 120, 110]⟩ : ByteArray), 0)] 101
  have HC := fun w => client_digest_no (A := A) (B := B) (nr := nr) (nw := nw) (cr := cr) (cw := cw) w p h0 h1 h2
  have HS := fun (w : World) d => client_signed_err w gs c d [((⟨#[116, 120, 110]⟩ : ByteArray), 0)] 101
  rw [hu] at HC
  rw [hu, hu2] at HS
  rw [hu2]
  have HC := Lib.hid HC
  have HS := Lib.hid HS
  clear h0 h1 h2 hu hu2
  go_enter Tryz.func14, Tryz.ntmps14
  go_wp2_with (first | (go_at_call 23; refine (HC.out _).mono ?_; rintro e w1 ⟨rfl, hf1⟩; have hc1 := (hB0.fr hf1 id).cell 0) | (go_at_call 26; refine (HS.out _ _).mono ?_; rintro e w2 ⟨rfl, rfl⟩))
  refine bodyPost_ret (v := .tuple #[.int .i64 (-1), .iface t2 u2]) (by simp [results, Tryz.results14, go_sem]) rfl ?_
  exact ⟨rfl, hf0.then_ hf1⟩
set_option maxRecDepth 100000 in
theorem client_Submit_ok {w : World} {g m base : Nat} {v : Value} {L : List (List Int)} {gs ms : Nat} {SL : List (Int × Int)} (h : BS w g m base v L gs ms SL) (hbase : base ≤ w.heap.size) (hL : L.length < 65536) {F : Nat → Prop} {A B : Option Addr} {cr cw : Nat} {c n : Int} {R : List (ByteArray × Int)} {W : List (ByteArray × ByteArray)} (hr : ReadRow w F A R) (hw : WriteRow w F B W) (ht : TOk c n R W) (hs0 : signErr (clientOf c) (digI L (txnB c n R W) : Nat) SL = none) :
    Calls Tryz.prog 14 #[.pointer (some ⟨g, 0, none⟩), .pointer (some ⟨gs, 0, none⟩), .agg #[.int .i64 c, .int .i64 n, .slice A R.length cr, .slice B W.length cw]] w (BSStep w g m base v (digL L (txnB c n R W)) gs ms (signL (clientOf c) (digI L (txnB c n R W) : Nat) SL) (.tuple #[.int .i64 (digI L (txnB c n R W) : Nat), .nilIface])) := by
  have hf0 : Fr (fun _ => False) w (w.alloc (Obj.cells #[.int .i64 c, .int .i64 n, .slice A R.length cr, .slice B W.length cw] 25)) := (Fr.refl _ _).alloc _
  have hB0 := Blk.new w 25 #[.int .i64 c, .int .i64 n, .slice A R.length cr, .slice B W.length cw]
  have h0 := h.keep hf0
  have HD := Lib.hid (client_digest_ok (cr := cr) (cw := cw) h0.book (Nat.le_trans hbase hf0.size) hL (hr.fr hf0 (fun _ _ => id)) (hw.fr hf0 (fun _ _ => id)) ht)
  have hc16 : c ≤ 9223372036854775807 := by have := ht.2.1; omega
  clear ht hr hw
  generalize txnB c n R W = xs at HD hs0 ⊢
  have HS0 := Lib.hid hs0
  clear hs0
  go_enter Tryz.func14, Tryz.ntmps14
  go_wp2_with fail
  refine HD.out.mono ?_
  rintro e w1 ⟨v1, rfl, hb1, hf1, hk1⟩
  have h1 := h0.bookStep hb1 hf1
  have hB1 := h0.bookFr hB0 (by decide) (by decide) (hf1.mono (fun k _ e => by rcases e with e | e | e; (· exact .inl e); (· exact .inr (.inl e)); exact .inr (.inr (.inl e))))
  have hc1 := hB1.cell 0
  clear HD hB0
  go_wp2_with fail
  refine (client_signed h1.seals c (digI L xs : Nat) hc16).mono ?_
  rintro e w2 ⟨rfl, hs2, hf2⟩
  have e1 : sgnI (clientOf c) (digI L xs : Nat) SL = (digI L xs : Nat) := by unfold sgnI; rw [HS0.out]; rfl
  have e2 : errO (wrapO (⟨#[99, 108, 105, 101, 110, 116]⟩ : ByteArray) c (signErr (clientOf c) (digI L xs : Nat) SL)) = .nilIface := by rw [HS0.out]; rfl
  rw [e1, e2]
  clear e1 e2
  have h2 := h1.sealStep hs2 hf2
  go_wp2_with fail
  refine bodyPost_ret (v := .tuple #[.int .i64 (digI L xs : Nat), .nilIface]) (by simp [results, Tryz.results14, go_sem]) rfl ?_
  refine ⟨v1, rfl, h2, ?_, fun k hk => (hk1 k hk).imp_right (Nat.le_trans hf0.size)⟩
  refine ((hf0.mono (fun _ _ h => h.elim)).trans hf1 (fun k _ e => ?_)).trans hf2 (fun k _ e => .inr (.inr (.inr e)))
  rcases e with e | e | e
  · exact .inl e
  · exact .inr (.inl e)
  · exact .inr (.inr (.inl e))
end Go.Proofs.YtcfanacfjcgnbaaGreatDoor
