/- cohortlaw12: sync, Digest, Txn. -/
import Derived.Test.YtcfanacfjcgnbaaGreatDoorStart
import Derived.Test.YtcfanacfjcgnbaaGreatDoorRef10
namespace Go.Proofs.YtcfanacfjcgnbaaGreatDoor
open Go Go.RowKit
/-- A book's texts: none twice, none too long. -/
def GoodL (L : List (List Int)) : Prop := L.Nodup ∧ ∀ t ∈ L, t.length ≤ 65536
theorem GoodL.nil : GoodL [] := ⟨List.nodup_nil, by simp⟩
theorem GoodL.dig {L : List (List Int)} (h : GoodL L) {xs : List Int} (hx : xs.length ≤ 65536) : GoodL (digL L xs) := by
  unfold digL
  split
  · exact h
  · rename_i hn
    refine ⟨List.nodup_append.2 ⟨h.1, by simp, fun a ha b hb e => hn ?_⟩, fun t ht => ?_⟩
    · rw [List.mem_singleton.1 hb] at e
      exact e ▸ ha
    · rcases List.mem_append.1 ht with ht | ht
      · exact h.2 t ht
      · rw [List.mem_singleton.1 ht]; exact hx
theorem digL_take {L : List (List Int)} {k : Nat} {xs : List Int} (h : L.Nodup) (hk : L[k]? = some xs) : digL (L.take k) xs = L.take (k + 1) := by
  obtain ⟨hlt, rfl⟩ := List.getElem?_eq_some_iff.1 hk
  have hn : L[k] ∉ L.take k := by
    intro hm
    obtain ⟨j, hj, he⟩ := List.getElem_of_mem hm
    rw [List.length_take] at hj
    rw [List.getElem_take] at he
    have := (List.getElem_inj h).1 he
    omega
  rw [digL, if_neg hn, List.take_succ_eq_append_getElem hlt]
def WStep (w : World) (lo gw : Nat) (L : List (List Int)) (SL : List (Int × Int)) (LD : List (List Int)) (nQ : Nat) (r : Value) (e : Ending) (w' : World) : Prop :=
  e = .returned r ∧ WS w' lo gw L SL LD nQ ∧ St lo w w'
set_option maxRecDepth 100000 in
theorem law12_sync {w : World} {lo gw : Nat} {L : List (List Int)} {SL : List (Int × Int)} {LD : List (List Int)} {nQ : Nat} (h : WS w lo gw L SL LD nQ) (hg : GoodL L) (hp : LD <+: L) (hL : L.length < 5000) :
    Calls Tryz.prog 30 #[.pointer (some ⟨gw, 0, none⟩)] w (WStep w lo gw L SL L nQ (.tuple #[])) := by
  obtain ⟨g, m, base, v, gs, ms, gD, bD, vD, gQ, bQ, vQ, SQ, h, hq⟩ := h
  have e0 : LD = L.take LD.length := (List.prefix_iff_eq_take.1 hp)
  have hle : LD.length ≤ L.length := hp.length_le
  obtain ⟨vals, hown, _⟩ := h.rb.row
  obtain ⟨A0, cap0, hv0, _, _⟩ := own_form hown
  have c0 := h.blk.cell 0
  have c2 := h.blk.cell 2
  have d0 : w.cell? ⟨gD, 0, none⟩ = some (.slice A0 LD.length cap0) := by rw [← hv0]; exact h.rb.blk.cell 0
  have HG := Lib.hid hg
  have H0 : Hid (WSAt w lo gw g m base v L gs ms SL gD bD vD (L.take LD.length) gQ bQ vQ SQ) := by
    show WSAt _ _ _ _ _ _ _ _ _ _ _ _ _ _ _ _ _ _ _
    rw [← e0]; exact h
  have HL := Lib.hid hL
  have HQ := Lib.hid hq
  clear hown hv0 hg hp hq e0 h
  go_enter Tryz.func30, Tryz.ntmps30
  go_wp2_with fail
  clear c0 c2 d0
  go_loopw [2] (fun ix wr => ∃ (k : Nat) (vD : Value), k ≤ L.length ∧ ix = .int .i64 k ∧ WSAt wr lo gw g m base v L gs ms SL gD bD vD (L.take k) gQ bQ vQ SQ ∧ St lo w wr) (fun ix _ => L.length - (intOf ix).toNat)
  case atStart => exact ⟨LD.length, vD, hle, rfl, H0.out, St.of lo (Fr.refl _ _)⟩
  case round =>
    obtain ⟨k, vD, hk, rfl, h, hst⟩ := hrel
    have c0 := h.blk.cell 0
    have c2 := h.blk.cell 2
    have hLi : L.length < 65536 := by have := HL.out; omega
    by_cases hlt : k < L.length
    · have hk5 : (k : Int) < 5000 := by have := HL.out; omega
      obtain ⟨xs, hx⟩ : ∃ x, L[k]? = some x := ⟨L[k], List.getElem?_eq_getElem hlt⟩
      have hxl := HG.out.2 xs (List.mem_of_getElem? hx)
      have h8 : B8 xs := h.bs.book.map.2 xs (List.mem_of_getElem? hx)
      have HT := Lib.hid (book_Text h.bs.book hx hLi)
      have HX := Lib.hid hx
      have H8 := Lib.hid h8
      have HXL := Lib.hid hxl
      have hL8 : Hid (∀ t ∈ L.take k, B8 t) := fun t ht => h.bs.book.map.2 t (List.mem_of_mem_take ht)
      clear hx h8 hxl
      go_wp2_with (first
        | (go_at_call 48; refine (book_Many h.bs.book).mono ?_; rintro e w' ⟨rfl, rfl⟩)
        | (go_at_call 49; refine HT.out.mono ?_; rintro e w1 ⟨A1, cap1, rfl, hr1, hf1⟩; have h1 := h.keep hf1; have c21 := h1.blk.cell 2)
        | (go_at_call 32; refine (ref03_Digest h1.rb hL8.out h1.bD_le hr1 H8.out HXL.out (by rw [List.length_take]; omega)).mono ?_; rintro e w2 ⟨v2, rfl, hb2, hf2, _⟩; rw [digL_take HG.out.1 HX.out] at hb2; obtain ⟨h2, hst2⟩ := h1.stepD hb2 hf2))
      go_roundw
      case rel => exact ⟨k + 1, v2, by omega, by go_num, h2, (hst.trans (St.of lo hf1)).trans hst2⟩
      case measure => simp [intOf]; omega
    · obtain rfl : k = L.length := by omega
      rw [List.take_length] at h
      go_wp2_with (go_at_call 48; refine (book_Many h.bs.book).mono ?_; rintro e w' ⟨rfl, rfl⟩)
      refine bodyPost_end (v := .tuple #[]) (by simp [results, go_sem]) rfl ?_
      exact ⟨rfl, ⟨g, m, base, v, gs, ms, gD, bD, vD, gQ, bQ, vQ, SQ, h, HQ.out⟩, hst⟩
theorem WSAt.book {w w' : World} {lo gw g m base : Nat} {v v' : Value} {L L' : List (List Int)} {gs ms : Nat} {SL : List (Int × Int)} {gD bD : Nat} {vD : Value} {LD : List (List Int)} {gQ bQ : Nat} {vQ : Value} {SQ : List (Int × Int)} (h : WSAt w lo gw g m base v L gs ms SL gD bD vD LD gQ bQ vQ SQ) (hb : BookAt w' g m base v' L') (hf : Fr (fun k => k = g ∨ k = m ∨ v.ownBlock = some k) w w') :
    WSAt w' lo gw g m base v' L' gs ms SL gD bD vD LD gQ bQ vQ SQ ∧ St lo w w' :=
  h.step (h.bs.bookStep hb hf) (hf.mono (fun k _ e => by rcases e with e | e | e; (· exact .inl e); (· exact .inr (.inl e)); exact .inr (.inr (.inl e))))
set_option maxRecDepth 100000 in
theorem law12_Digest {w : World} {lo gw : Nat} {L : List (List Int)} {SL : List (Int × Int)} {LD : List (List Int)} {nQ : Nat} (h : WS w lo gw L SL LD nQ) (hg : GoodL L) (hp : LD <+: L) (hL : L.length < 5000) {b : Nat} {A : Option Addr} {cap : Nat} {xs : List Int} (hv : Own8 w b (.slice A xs.length cap) xs) (h8 : B8 xs) (hx : xs.length ≤ 65536) :
    Calls Tryz.prog 16 #[.pointer (some ⟨gw, 0, none⟩), .slice A xs.length cap] w (WStep w lo gw (digL L xs) SL (digL L xs) nQ (.int .i64 (digI L xs : Nat))) := by
  have HS := Lib.hid (law12_sync h hg hp hL)
  have HL := Lib.hid hL
  have H8 := Lib.hid h8
  have HX := Lib.hid hx
  clear h hg hp h8 hx
  go_enter Tryz.func16, Tryz.ntmps16
  go_wp2_with fail
  refine HS.out.mono ?_
  rintro e w1 ⟨rfl, ⟨g, m, base, v, gs, ms, gD, bD, vD, gQ, bQ, vQ, SQ, h1, hq⟩, hst1⟩
  have hv1 : Own8 w1 b (.slice A xs.length cap) xs := own_st hv hst1 (by decide)
  have hr1 : ByteRow w1 (fun k => (Value.slice A xs.length cap).ownBlock = some k) A xs := by
    obtain ⟨A', c', e, _, hr⟩ := hv1.form
    cases e
    exact hr
  have hL8 : Hid (∀ t ∈ L, B8 t) := h1.bs.book.map.2
  have c0 := h1.blk.cell 0
  have HQ := Lib.hid hq
  clear hq
  go_wp2_with fail
  refine (book_Digest h1.bs.book h1.b_le hr1 H8.out HX.out (by have := HL.out; omega)).mono ?_
  rintro e w2 ⟨v2, rfl, hb2, hf2, _⟩
  obtain ⟨h2, hst2⟩ := h1.book hb2 hf2
  have hr2 : ByteRow w2 (fun k => (Value.slice A xs.length cap).ownBlock = some k) A xs := by
    have hv2 : Own8 w2 b (.slice A xs.length cap) xs := own_st hv1 hst2 (by decide)
    obtain ⟨A', c', e, _, hr⟩ := hv2.form
    cases e
    exact hr
  have c2 := h2.blk.cell 2
  clear c0 HS
  go_wp2_with (go_at_call 32; refine (ref03_Digest h2.rb hL8.out h2.bD_le hr2 H8.out HX.out (by have := HL.out; omega)).mono ?_; rintro e w3 ⟨v3, rfl, hb3, hf3, _⟩)
  go_ret
  obtain ⟨h3, hst3⟩ := h2.stepD hb3 hf3
  exact ⟨rfl, ⟨g, m, base, v2, gs, ms, gD, bD, v3, gQ, bQ, vQ, SQ, h3, HQ.out⟩, (hst1.trans hst2).trans hst3⟩
set_option maxRecDepth 100000 in
theorem law12_Txn {w : World} {lo gw : Nat} {L : List (List Int)} {SL : List (Int × Int)} {LD : List (List Int)} {nQ : Nat} (h : WS w lo gw L SL LD nQ) (hg : GoodL L) (hp : LD <+: L) (hL : L.length < 5000) {F : Nat → Prop} {A B : Option Addr} {cr cw : Nat} {c n : Int} {R : List (ByteArray × Int)} {W : List (ByteArray × ByteArray)} (hr : ReadRow w F A R) (hw : WriteRow w F B W) (ht : TOk c n R W) :
    Calls Tryz.prog 9 #[.pointer (some ⟨gw, 0, none⟩), .agg #[.int .i64 c, .int .i64 n, .slice A R.length cr, .slice B W.length cw]] w (WStep w lo gw (digL L (txnB c n R W)) SL (digL L (txnB c n R W)) nQ (.int .i64 (digI L (txnB c n R W) : Nat))) := by
  have hf0 : Fr (fun _ => False) w (w.alloc (Obj.cells #[.int .i64 c, .int .i64 n, .slice A R.length cr, .slice B W.length cw] 25)) := (Fr.refl _ _).alloc _
  have HP := ref10_Put_ok (cr := cr) (cw := cw) (hr.fr hf0 (fun _ _ => id)) (hw.fr hf0 (fun _ _ => id)) ht
  have HX := Lib.hid (txnB_len ht)
  have H8 := Lib.hid (b8_txnB c n R W)
  have HG := Lib.hid hg
  have HPP := Lib.hid hp
  unfold PutT at HP
  clear ht hr hw hg hp
  generalize txnB c n R W = xs at HP HX H8 ⊢
  have HP := Lib.hid HP
  go_enter Tryz.func9, Tryz.ntmps9
  go_wp2_with fail
  refine HP.out.mono ?_
  rintro e w1 ⟨v1, rfl, hv1, hf1⟩
  have hf01 := hf0.then_ hf1
  obtain ⟨A1, cap1, rfl, _, _⟩ := hv1.form
  have h1 := h.keep hf01
  clear HP
  go_wp2_with (go_at_call 16; refine (law12_Digest h1 HG.out HPP.out hL hv1 H8.out HX.out).mono ?_; rintro e w2 ⟨rfl, h2, hst2⟩)
  go_ret
  exact ⟨rfl, h2, (St.of lo hf01).trans hst2⟩
end Go.Proofs.YtcfanacfjcgnbaaGreatDoor
