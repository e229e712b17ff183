/- txn: right, wrap, Check. -/
import Derived.Test.YtcfanacfjcgnbaaGreatDoorTxnR
namespace Go.Proofs.YtcfanacfjcgnbaaGreatDoor
open Go Go.RowKit
def TOk (c n : Int) (R : List (ByteArray × Int)) (W : List (ByteArray × ByteArray)) : Prop :=
  0 ≤ c ∧ c < 16 ∧ 1 ≤ n ∧ n ≤ 1099511627776 ∧ (0 : Int) < (R.length : Int) + W.length ∧ rises readOk R = true ∧ rises writeOk W = true
instance (c n : Int) (R : List (ByteArray × Int)) (W : List (ByteArray × ByteArray)) : Decidable (TOk c n R W) := by unfold TOk; infer_instance
section
variable {α : Type} {ok : ByteArray × α → Bool}
theorem rises_len {l : List (ByteArray × α)} (h : rises ok l = true) : l.length ≤ 8 := by
  unfold rises at h
  rw [Bool.and_eq_true, decide_eq_true_eq] at h
  omega
theorem rises_at {l : List (ByteArray × α)} (h : rises ok l = true) : ∀ x ∈ l, x.1.size ≤ 16 ∧ ok x = true := by
  intro x hx
  obtain ⟨k, hk⟩ := List.getElem?_of_mem hx
  have hlt : k < l.length := (List.getElem?_eq_some_iff.1 hk).1
  unfold rises okTo at h
  rw [Bool.and_eq_true, List.all_eq_true] at h
  have h1 := h.1 k (List.mem_range.2 hlt)
  unfold okAt at h1
  rw [hk] at h1
  simp only [Bool.and_eq_true, Bool.not_eq_true', decide_eq_false_iff_not] at h1
  exact ⟨by omega, h1.1.2⟩
end
theorem read_sizes {R : List (ByteArray × Int)} (h : rises readOk R = true) : ∀ x ∈ R, x.1.size ≤ 16 := fun x hx => (rises_at h x hx).1
theorem write_sizes {W : List (ByteArray × ByteArray)} (h : rises writeOk W = true) : ∀ x ∈ W, x.1.size ≤ 16 ∧ x.2.size ≤ 64 := fun x hx => by
  obtain ⟨h1, h2⟩ := rises_at h x hx
  unfold writeOk at h2
  rw [decide_eq_true_eq] at h2
  exact ⟨h1, by omega⟩
set_option maxRecDepth 100000 in
theorem txn_right_ok {w : World} {F : Nat → Prop} {A B : Option Addr} {cr cw : Nat} {c n : Int} {R : List (ByteArray × Int)} {W : List (ByteArray × ByteArray)} (hr : ReadRow w F A R) (hw : WriteRow w F B W) (h : TOk c n R W) :
    Calls Tryz.prog 68 #[.agg #[.int .i64 c, .int .i64 n, .slice A R.length cr, .slice B W.length cw]] w (OkB w true) := by
  obtain ⟨h0, h1, h2, h3, h4, h5, h6⟩ := h
  have hf0 : Fr (fun _ => False) w (w.alloc (Obj.cells #[.int .i64 c, .int .i64 n, .slice A R.length cr, .slice B W.length cw] 25)) := (Fr.refl _ _).alloc _
  have hl1 := rises_len h5
  have hl2 := rises_len h6
  have hsum : IntKind.i64.wrap ((R.length : Int) + (W.length : Int)) = (R.length : Int) + (W.length : Int) := by
    have := wrap_i64 (R.length + W.length) (by omega)
    rw [Int.natCast_add] at this
    exact this
  have HR := Lib.hid (txn_rises_read (cap := cr) (hr.fr hf0 (fun _ _ => id)) (by omega))
  have hB0 := Blk.new w 25 #[.int .i64 c, .int .i64 n, .slice A R.length cr, .slice B W.length cw]
  have HW : Hid (∀ w', Fr (fun _ => False) w w' → Calls Tryz.prog 80 #[.slice B W.length cw, .func (.func 81) #[] #[], .func (.func 82) #[] #[]] w' (OkB w' true)) := fun w' hf => by
    have := txn_rises_write (cap := cw) (hw.fr hf (fun _ _ => id)) (by omega)
    rw [h6] at this
    exact this
  rw [h5] at HR
  clear hr hw h5 h6 hl1 hl2
  go_enter Tryz.func68, Tryz.ntmps68
  go_wp2_with (first | (go_at_call 77; refine HR.out.mono ?_; rintro e w1 ⟨rfl, hf1⟩; have hf01 := hf0.then_ hf1; have hc3 := (hB0.fr hf1 id).cell 3) | (go_at_call 80; refine (HW.out _ hf01).mono ?_; rintro e w2 ⟨rfl, hf2⟩))
  go_ret
  exact ⟨rfl, hf01.then_ hf2⟩
theorem txn_right_no (w : World) {A B : Option Addr} {nr nw cr cw : Nat} {c n : Int} (h0 : 0 ≤ c) (h1 : c < 16) (h2 : ¬ 1 ≤ n) :
    Calls Tryz.prog 68 #[.agg #[.int .i64 c, .int .i64 n, .slice A nr cr, .slice B nw cw]] w (OkB w false) := by
  go_enter Tryz.func68, Tryz.ntmps68
  go_wp2_with fail
  go_ret
  exact ⟨rfl, (Fr.refl _ _).alloc _⟩
theorem txn_wrap_nil (w : World) : Calls Tryz.prog 62 #[.nilIface] w fun e w' => e = .returned .nilIface ∧ w = w' := by
  go_enter Tryz.func62, Tryz.ntmps62
  go_wp2_with (go_at_call 42; refine (fault_Wrap_nil _ _ _).mono ?_; rintro e w' ⟨rfl, rfl⟩)
  go_ret
  exact ⟨rfl, rfl⟩
theorem txn_wrap_err (l : List (ByteArray × Int)) (k : Int) (w : World) : Calls Tryz.prog 62 #[errV l k] w fun e w' => e = .returned (errV (((⟨#[116, 120, 110]⟩ : ByteArray), 0) :: l) k) ∧ w = w' := by
  obtain ⟨t, u, hu⟩ := errV_iface l k
  have HW := Lib.hid (fun w => fault_Wrap l k (⟨#[116, 120, 110]⟩ : ByteArray) 0 w)
  obtain ⟨t2, u2, hu2⟩ := errV_iface (((⟨#[116, 120, 110]⟩ : ByteArray), 0) :: l) k
  rw [hu, hu2] at HW
  rw [hu, hu2]
  clear hu hu2
  go_enter Tryz.func62, Tryz.ntmps62
  go_wp2_with (go_at_call 42; refine (HW.out _).mono ?_; rintro e w' ⟨rfl, rfl⟩)
  go_ret
  exact ⟨rfl, rfl⟩
def NilOk (w : World) (e : Ending) (w' : World) : Prop := e = .returned .nilIface ∧ Fr (fun _ => False) w w'
theorem txn_Check_ok {w : World} {F : Nat → Prop} {A B : Option Addr} {cr cw : Nat} {c n : Int} {R : List (ByteArray × Int)} {W : List (ByteArray × ByteArray)} (hr : ReadRow w F A R) (hw : WriteRow w F B W) (h : TOk c n R W) :
    Calls Tryz.prog 58 #[.agg #[.int .i64 c, .int .i64 n, .slice A R.length cr, .slice B W.length cw]] w (NilOk w) := by
  have hf0 : Fr (fun _ => False) w (w.alloc (Obj.cells #[.int .i64 c, .int .i64 n, .slice A R.length cr, .slice B W.length cw] 25)) := (Fr.refl _ _).alloc _
  have HR := Lib.hid (txn_right_ok (cr := cr) (cw := cw) (hr.fr hf0 (fun _ _ => id)) (hw.fr hf0 (fun _ _ => id)) h)
  clear hr hw h
  go_enter Tryz.func58, Tryz.ntmps58
  go_wp2_with (go_at_call 68; refine HR.out.mono ?_; rintro e w1 ⟨rfl, hf1⟩)
  go_ret
  exact ⟨rfl, hf0.then_ hf1⟩
def TxnErr (w : World) (e : Ending) (w' : World) : Prop := e = .returned (errV [((⟨#[116, 120, 110]⟩ : ByteArray), 0)] 101) ∧ Fr (fun _ => False) w w'
theorem txn_Check_no (w : World) {A B : Option Addr} {nr nw cr cw : Nat} {c n : Int} (h0 : 0 ≤ c) (h1 : c < 16) (h2 : ¬ 1 ≤ n) :
    Calls Tryz.prog 58 #[.agg #[.int .i64 c, .int .i64 n, .slice A nr cr, .slice B nw cw]] w (TxnErr w) := by
  have hf0 : Fr (fun _ => False) w (w.alloc (Obj.cells #[.int .i64 c, .int .i64 n, .slice A nr cr, .slice B nw cw] 25)) := (Fr.refl _ _).alloc _
  have HR := Lib.hid (fun w => txn_right_no (A := A) (B := B) (nr := nr) (nw := nw) (cr := cr) (cw := cw) w h0 h1 h2)
  have HW := Lib.hid (fun w => txn_wrap_err [] 101 w)
  obtain ⟨t, u, hu⟩ := errV_iface [] 101
  obtain ⟨t2, u2, hu2⟩ := errV_iface [((⟨#[116, 120, 110]⟩ : ByteArray), 0)] 101
  have HO := Lib.hid (fun w => fault_Of 101 rfl w)
  rw [hu, hu2] at HW
  rw [hu] at HO
  unfold TxnErr
  rw [hu2]
  clear h0 h1 h2 hu hu2
  go_enter Tryz.func58, Tryz.ntmps58
  go_wp2_with (first | (go_at_call 68; refine (HR.out _).mono ?_; rintro e w1 ⟨rfl, hf1⟩) | (go_at_call 44; refine (HO.out _).mono ?_; rintro e w' ⟨rfl, rfl⟩) | (go_at_call 62; refine (HW.out _).mono ?_; rintro e w' ⟨rfl, rfl⟩))
  go_ret
  exact ⟨rfl, hf0.then_ hf1⟩
end Go.Proofs.YtcfanacfjcgnbaaGreatDoor
