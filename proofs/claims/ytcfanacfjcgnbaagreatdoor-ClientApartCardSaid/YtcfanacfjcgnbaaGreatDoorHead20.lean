/- cohortlaw20: head. -/
import Derived.Test.YtcfanacfjcgnbaaGreatDoorLens
import Derived.Test.YtcfanacfjcgnbaaGreatDoorCode
namespace Go.Proofs.YtcfanacfjcgnbaaGreatDoor
open Go Go.RowKit
theorem tok_one : TOk 1 1 [] [((⟨#[97]⟩ : ByteArray), (⟨#[]⟩ : ByteArray))] := by decide
theorem WriteRow.one {w : World} {g : Nat} {t : TypeId} {a b : ByteArray} (h : Blk w g t #[.string a, .string b]) : WriteRow w (fun k => k = g) (some ⟨g, 0, none⟩) [(a, b)] := fun k x hx => by
  cases k with
  | zero => simp only [List.getElem?_cons_zero, Option.some.injEq] at hx; subst hx; exact ⟨g, 0, rfl, rfl, h.cell 0, h.cell 1⟩
  | succ k => simp at hx
theorem ReadRow.none (w : World) (F : Nat → Prop) (A : Option Addr) : ReadRow w F A [] := fun k x hx => by simp at hx
theorem lens_keep {w w' : World} {lo gw : Nat} {L : List (List Int)} {SL : List (Int × Int)} {nQ : Nat} {g m base : Nat} {v : Value} {gs ms gD gQ : Nat} (h : Lens w lo gw L SL nQ g m base v gs ms gD gQ) (hs : St lo w w') :
    w'.cell? ⟨gw, 0, none⟩ = some (.pointer (some ⟨g, 0, none⟩)) ∧ w'.cell? ⟨gw, 1, none⟩ = some (.pointer (some ⟨gs, 0, none⟩)) := by
  have hB := hs.blk _ _ _ h.blk (by decide)
  exact ⟨hB.cell 0, hB.cell 1⟩
theorem digL_nil (xs : List Int) : digL [] xs = [xs] := by simp [digL]
theorem digI_nil (xs : List Int) : digI [] xs = 0 := by simp [digI]
theorem pl_head (xs : List Int) : Pl [xs] [(1, 0)] xs 0 [] where
  bd := fun p hp => by simp only [List.mem_singleton] at hp; subst hp; simp
  mem := List.mem_singleton.2 rfl
  idx := by simp
  lo := by decide
  hi := by decide
  sg := fun yes i _ => ⟨fun h => by have := h.2; simp at this; omega, fun h => by simp at h⟩
  other := fun e _ _ _ yes i _ h => by have := h.2; simp at this; omega
def vote0 : VoteD := ⟨0, 3, true, 3⟩
theorem outP_vote0 : outP 1 [vote0] = 3 := by decide
theorem CallsCast {f : FuncId} {args : Array Value} {w : World} {Q Q' : Ending → World → Prop} (h : Calls Tryz.prog f args w Q) (e : Q = Q') : Calls Tryz.prog f args w Q' := e ▸ h
def TxnHeld (w : World) (gw g gs x : Nat) : Prop := w.cell? ⟨gw, 0, none⟩ = some (.pointer (some ⟨g, 0, none⟩)) ∧ w.cell? ⟨gw, 1, none⟩ = some (.pointer (some ⟨gs, 0, none⟩)) ∧ w.cell? ⟨x + 1, 0, none⟩ = some (.int .i64 1) ∧ w.cell? ⟨x + 1, 1, none⟩ = some (.int .i64 1) ∧ w.cell? ⟨x + 1, 2, none⟩ = some (.slice none 0 0) ∧ w.cell? ⟨x + 1, 3, none⟩ = some (.slice (some ⟨x, 0, none⟩) 1 1)
set_option maxRecDepth 100000 in
set_option maxHeartbeats 1000000 in
theorem law20_head {w : World} (hL : Laid w) : Calls Tryz.prog 5 #[] w (Bool1 w true) := by
  go_enter Tryz.func5, Tryz.ntmps5
  go_wp2_with fail
  refine (wp_Start _).mono ?_
  rintro e w1 ⟨gw, rfl, hgw, h1, hf1⟩
  go_upto_region 5 with fail
  have hW2 : Blk ((w1.alloc (Obj.cells #[.string ⟨#[97]⟩, .string ⟨#[]⟩] 50)).alloc (Obj.cells #[.int .i64 1, .int .i64 1, .slice none 0 0, .slice (some ⟨w1.heap.size, 0, none⟩) 1 1] 25)) w1.heap.size 50 #[.string ⟨#[97]⟩, .string ⟨#[]⟩] := (Blk.new w1 _ _).alloc _
  have hT2 : Blk ((w1.alloc (Obj.cells #[.string ⟨#[97]⟩, .string ⟨#[]⟩] 50)).alloc (Obj.cells #[.int .i64 1, .int .i64 1, .slice none 0 0, .slice (some ⟨w1.heap.size, 0, none⟩) 1 1] 25)) (w1.heap.size + 1) 25 #[.int .i64 1, .int .i64 1, .slice none 0 0, .slice (some ⟨w1.heap.size, 0, none⟩) 1 1] := Blk.new_ _ _ _ (by simp)
  have hf2 : Fr (fun _ => False) w1 ((w1.alloc (Obj.cells #[.string ⟨#[97]⟩, .string ⟨#[]⟩] 50)).alloc (Obj.cells #[.int .i64 1, .int .i64 1, .slice none 0 0, .slice (some ⟨w1.heap.size, 0, none⟩) 1 1] 25)) := ((Fr.refl _ _).alloc _).alloc _
  generalize ((w1.alloc (Obj.cells #[.string ⟨#[97]⟩, .string ⟨#[]⟩] 50)).alloc (Obj.cells #[.int .i64 1, .int .i64 1, .slice none 0 0, .slice (some ⟨w1.heap.size, 0, none⟩) 1 1] 25)) = w2 at *
  generalize w1.heap.size = x at *
  have h2 : WP w2.drew w.heap.size gw [] [] 0 := h1.keep hf2.drew
  have hW2 : Blk w2.drew x 50 #[.string ⟨#[97]⟩, .string ⟨#[]⟩] := hW2
  have hT2 : Blk w2.drew (x + 1) 25 #[.int .i64 1, .int .i64 1, .slice none 0 0, .slice (some ⟨x, 0, none⟩) 1 1] := hT2
  have hst2 : St w.heap.size w w2.drew := St.of _ (hf1.then_ hf2.drew)
  clear h1 hf1 hf2
  obtain ⟨xs, hxs⟩ : ∃ xs, Hid (txnB 1 1 [] [((⟨#[97]⟩ : ByteArray), (⟨#[]⟩ : ByteArray))] = xs) := ⟨_, rfl⟩
  have hxl : Hid (xs.length ≤ 65536) := by have := txnB_len tok_one; rw [hxs.out] at this; exact this
  have hxs' := hxs.out
  obtain ⟨g, m, base, v, gs, ms, gD, gQ, hN2⟩ := h2.open
  have hS := client_Submit_ok (cr := 0) (cw := 1) hN2.bs hN2.base_le (by decide) (ReadRow.none w2.drew (fun k => k = x) .none) (WriteRow.one hW2) tok_one (by rw [digI_nil]; decide)
  rw [hxs', digL_nil, digI_nil, show signL (clientOf 1) ((0 : Nat) : Int) [] = [(1, 0)] by decide] at hS
  have hS := Lib.hid hS
  have hG := Lib.hid (h2.good.dig hxl.out)
  rw [digL_nil] at hG
  clear h2
  go_region_held3 (fun w' => w'.cell? ⟨gw, 0, none⟩ = some (.pointer (some ⟨g, 0, none⟩)) ∧ w'.cell? ⟨gw, 1, none⟩ = some (.pointer (some ⟨gs, 0, none⟩)) ∧ w'.cell? ⟨x + 1, 0, none⟩ = some (.int .i64 1) ∧ w'.cell? ⟨x + 1, 1, none⟩ = some (.int .i64 1) ∧ w'.cell? ⟨x + 1, 2, none⟩ = some (.slice none 0 0) ∧ w'.cell? ⟨x + 1, 3, none⟩ = some (.slice (some ⟨x, 0, none⟩) 1 1)) (first | exact ⟨(lens_keep hN2 hst3).1, (lens_keep hN2 hst3).2, hT3.cell 0, hT3.cell 1, hT3.cell 2, hT3.cell 3⟩ | exact ⟨hN2.b, hN2.s, hT2.cell 0, hT2.cell 1, hT2.cell 2, hT2.cell 3⟩) (first | (go_at_call 14; refine hS.out.mono ?_; rintro e w3 hs3; obtain ⟨rfl, h3, hst3⟩ := hN2.step hs3 hG.out (List.nil_prefix); have hT3 := hst3.blk _ _ _ hT2 (by decide); have hW3 := hst3.blk _ _ _ hW2 (by decide)))
  have hst03 := hst2.trans hst3
  have p3 := Lib.hid (pl_head xs)
  have l3 : Hid (([xs] : List (List Int)).length ≤ 1) := Nat.le_refl _
  generalize ([xs] : List (List Int)) = L3 at *
  clear hS hG hN2 hT2 hW2 hst2 hst3
  go_upto_region 6 with fail
  have hT3 : Blk w3.drew (x + 1) 25 #[.int .i64 1, .int .i64 1, .slice none 0 0, .slice (some ⟨x, 0, none⟩) 1 1] := hT3
  have hW3 : Blk w3.drew x 50 #[.string ⟨#[97]⟩, .string ⟨#[]⟩] := hW3
  have h3 := h3.keep ((Fr.refl (fun _ => False) w3).drew)
  obtain ⟨g, m, base, v, gs, ms, gD, gQ, hN3⟩ := h3.open
  have hO := client_Outcome_ok (cr := 0) (cw := 1) hN3.bs hN3.base_le (by have := l3.out; omega) 1 (by decide) (ReadRow.none w3.drew (fun k => k = x) .none) (WriteRow.one hW3) tok_one
  rw [hxs', p3.out.out, outP_nil (by decide)] at hO
  have hO := Lib.hid hO
  have hG := Lib.hid (h3.good.outStep (SL := [(1, 0)]) 1 hxl.out)
  clear h3
  go_region_held3 (fun w' => w'.cell? ⟨gw, 0, none⟩ = some (.pointer (some ⟨g, 0, none⟩)) ∧ w'.cell? ⟨gw, 1, none⟩ = some (.pointer (some ⟨gs, 0, none⟩)) ∧ w'.cell? ⟨x + 1, 0, none⟩ = some (.int .i64 1) ∧ w'.cell? ⟨x + 1, 1, none⟩ = some (.int .i64 1) ∧ w'.cell? ⟨x + 1, 2, none⟩ = some (.slice none 0 0) ∧ w'.cell? ⟨x + 1, 3, none⟩ = some (.slice (some ⟨x, 0, none⟩) 1 1)) (first | exact ⟨(lens_keep hN3 hst4).1, (lens_keep hN3 hst4).2, hT4.cell 0, hT4.cell 1, hT4.cell 2, hT4.cell 3⟩ | exact ⟨hN3.b, hN3.s, hT3.cell 0, hT3.cell 1, hT3.cell 2, hT3.cell 3⟩) (first | (go_at_call 10; refine hO.out.mono ?_; rintro e w4 hs4; obtain ⟨rfl, h4, hst4⟩ := hN3.step hs4 hG.out (outL_prefix _ _ _ _); have hT4 := hst4.blk _ _ _ hT3 (by decide); have hW4 := hst4.blk _ _ _ hW3 (by decide)))
  have hst04 := (hst03.trans (St.of _ ((Fr.refl (fun _ => False) w3).drew))).trans hst4
  have p4 := Lib.hid (p3.out.outStep 1 xs)
  have l4 : Hid ((outL 1 L3 [(1, 0)] xs).length ≤ 4) := by have := outL_len 1 L3 [(1, 0)] xs; have := l3.out; show _ ≤ _; omega
  generalize outL 1 L3 [(1, 0)] xs = L4 at *
  clear hO hG hN3 hT3 hW3 hst03 hst4 p3 l3
  have c40 := hT4.cell 0
  have c41 := hT4.cell 1
  have c42 := hT4.cell 2
  have c43 := hT4.cell 3
  go_upto_region 8 with (go_at_call 9; refine (wp_Txn (cr := 0) (cw := 1) h4 (by have := l4.out; omega) (ReadRow.none w4 (fun k => k = x) .none) (WriteRow.one hW4) tok_one).mono ?_; rintro e w5 ⟨rfl, h5, hst5⟩)
  rw [hxs', p4.out.dig_self.1] at h5
  have hT5 := hst5.blk _ _ _ hT4 (by decide); have hW5 := hst5.blk _ _ _ hW4 (by decide)
  have hst05 := hst04.trans hst5
  clear h4 hT4 hW4 hst04 hst5 c40 c41 c42 c43
  have HP := ref11_Put1 w5 3 0 true ⟨#[]⟩ ⟨#[]⟩ 0 0 0 0
  have hok' : OkSay ⟨3, 0, true, ⟨#[]⟩, ⟨#[]⟩, 0, 0, 0, 0⟩ := okDec (d := 0) (by decide) (by decide) true
  rw [if_pos hok'] at HP
  have HP : Calls Tryz.prog 17 #[.agg #[.int .i64 3, .int .i64 0, .bool true, .string ⟨#[]⟩, .string ⟨#[]⟩, .int .i64 0, .int .i64 0, .int .i64 0, .int .i64 0]] w5 (Fresh w5 (sayB (kindS 3 0 true))) := HP
  have p6 := p4.out.vote (by decide) vote0
  unfold sayL voteS at p6
  have hok2 : OkSay (kindS vote0.kind 0 vote0.yes) := hok'
  rw [if_pos hok2, if_pos hok2] at p6
  clear hok' hok2
  have p6 : Pl (digL L4 (sayB (kindS 3 0 true))) (signTo 0 3 (digI L4 (sayB (kindS 3 0 true)) : Nat) [(1, 0)] 10) xs 0 [vote0] := p6
  obtain ⟨hl1, hl2, hl3⟩ := sayB_length (okDec (d := 0) (by decide) (by decide) true)
  have hb8 := b8_sayB (kindS 3 0 true)
  have hbl : (sayB (kindS 3 0 true)).length ≤ 65536 := by
    have e : sayB (kindS 3 0 true) = sayB (decS 0 true) := rfl
    rw [e]; omega
  have l6 : (digL L4 (sayB (kindS 3 0 true))).length ≤ 5 := by have := digL_len L4 (sayB (kindS 3 0 true)); have := l4.out; omega
  have hin : ((1 : Int), (0 : Int)) ∈ signTo 0 3 (digI L4 (sayB (kindS 3 0 true)) : Nat) [(1, 0)] 10 := (mem_signTo 10 (by decide)).2 (.inl (List.mem_singleton.2 rfl))
  generalize sayB (kindS 3 0 true) = ys at HP p6 hb8 hbl l6 hin
  have HP := Lib.hid HP
  have hb8 := Lib.hid hb8
  have hbl := Lib.hid hbl
  have P6 := Lib.hid p6
  have L6 := Lib.hid l6
  have HIN := Lib.hid hin
  clear p6 l6 hin hl1 hl2 hl3
  go_wp2_with fail
  refine HP.out.mono ?_
  rintro e w6 ⟨v6, rfl, hv6, hf6⟩
  obtain ⟨A6, cap6, rfl, _, _⟩ := hv6.form
  have h6 := h5.keep hf6
  have HD := Lib.hid (wp_Digest h6 (by have := l4.out; omega) hv6 hb8.out hbl.out)
  have hT6 := hT5.fr hf6 id
  have hW6 := hW5.fr hf6 id
  have hst06 := hst05.trans (St.of _ hf6)
  clear HP h5 h6 hT5 hW5 hst05 hv6 hf6
  go_wp2_with fail
  refine HD.out.mono ?_
  rintro e w7 ⟨rfl, h7, hst7⟩
  have hT7 := hst7.blk _ _ _ hT6 (by decide); have hW7 := hst7.blk _ _ _ hW6 (by decide)
  have hst07 := hst06.trans hst7
  clear HD hT6 hW6 hst06 hst7
  go_wp2_with fail
  refine (wp_Sign h7 (by decide) 0 3 _).mono ?_
  rintro e w8 ⟨r8, rfl, h8, hst8⟩
  have hT8 := hst8.blk _ _ _ hT7 (by decide); have hW8 := hst8.blk _ _ _ hW7 (by decide)
  have hst08 := hst07.trans hst8
  clear h7 hT7 hW7 hst07 hst8
  generalize signTo 0 3 (digI L4 ys : Nat) [(1, 0)] 10 = SL8 at *
  generalize digL L4 ys = L8 at *
  go_upto_region 9 with fail
  have hT8 : Blk w8.drew (x + 1) 25 #[.int .i64 1, .int .i64 1, .slice none 0 0, .slice (some ⟨x, 0, none⟩) 1 1] := hT8
  have hW8 : Blk w8.drew x 50 #[.string ⟨#[97]⟩, .string ⟨#[]⟩] := hW8
  have h8 := h8.keep ((Fr.refl (fun _ => False) w8).drew)
  obtain ⟨g, m, base, v, gs, ms, gD, gQ, hN8⟩ := h8.open
  have hO := client_Outcome_ok (cr := 0) (cw := 1) hN8.bs hN8.base_le (by have := L6.out; omega) 1 (by decide) (ReadRow.none w8.drew (fun k => k = x) .none) (WriteRow.one hW8) tok_one
  rw [hxs', P6.out.out, outP_vote0] at hO
  have hO := Lib.hid hO
  have hG := Lib.hid (h8.good.outStep (SL := SL8) 1 hxl.out)
  clear h8
  go_region_held3 (fun w' => w'.cell? ⟨gw, 0, none⟩ = some (.pointer (some ⟨g, 0, none⟩)) ∧ w'.cell? ⟨gw, 1, none⟩ = some (.pointer (some ⟨gs, 0, none⟩)) ∧ w'.cell? ⟨x + 1, 0, none⟩ = some (.int .i64 1) ∧ w'.cell? ⟨x + 1, 1, none⟩ = some (.int .i64 1) ∧ w'.cell? ⟨x + 1, 2, none⟩ = some (.slice none 0 0) ∧ w'.cell? ⟨x + 1, 3, none⟩ = some (.slice (some ⟨x, 0, none⟩) 1 1)) (first | exact ⟨(lens_keep hN8 hst9).1, (lens_keep hN8 hst9).2, hT9.cell 0, hT9.cell 1, hT9.cell 2, hT9.cell 3⟩ | exact ⟨hN8.b, hN8.s, hT8.cell 0, hT8.cell 1, hT8.cell 2, hT8.cell 3⟩) (first | (go_at_call 10; refine hO.out.mono ?_; rintro e w9 hs9; obtain ⟨rfl, h9, hst9⟩ := hN8.step hs9 hG.out (outL_prefix _ _ _ _); have hT9 := hst9.blk _ _ _ hT8 (by decide); have hW9 := hst9.blk _ _ _ hW8 (by decide)))
  have hst09 := (hst08.trans (St.of _ ((Fr.refl (fun _ => False) w8).drew))).trans hst9
  generalize outL 1 L8 SL8 xs = L9 at *
  clear hO hG hN8 hT8 hW8 hst08 hst9
  go_upto_region 10 with fail
  have hT9 : Blk w9.drew (x + 1) 25 #[.int .i64 1, .int .i64 1, .slice none 0 0, .slice (some ⟨x, 0, none⟩) 1 1] := hT9
  have hW9 : Blk w9.drew x 50 #[.string ⟨#[97]⟩, .string ⟨#[]⟩] := hW9
  have h9 := h9.keep ((Fr.refl (fun _ => False) w9).drew)
  obtain ⟨g, m, base, v, gs, ms, gD, gQ, hN9⟩ := h9.open
  have hNo := Lib.hid (fun (w : World) => client_Submit_no (A := none) (B := none) (nr := 0) (nw := 0) (cr := 0) (cw := 0) (c := 7) (n := 0) w (.pointer (some ⟨g, 0, none⟩)) gs (by decide) (by decide) (by decide))
  go_region_held3 (fun w' => w'.cell? ⟨gw, 0, none⟩ = some (.pointer (some ⟨g, 0, none⟩)) ∧ w'.cell? ⟨gw, 1, none⟩ = some (.pointer (some ⟨gs, 0, none⟩)) ∧ w'.cell? ⟨x + 1, 0, none⟩ = some (.int .i64 1) ∧ w'.cell? ⟨x + 1, 1, none⟩ = some (.int .i64 1) ∧ w'.cell? ⟨x + 1, 2, none⟩ = some (.slice none 0 0) ∧ w'.cell? ⟨x + 1, 3, none⟩ = some (.slice (some ⟨x, 0, none⟩) 1 1)) (first | exact ⟨(lens_keep hN9 hst10).1, (lens_keep hN9 hst10).2, hT10.cell 0, hT10.cell 1, hT10.cell 2, hT10.cell 3⟩ | exact ⟨hN9.b, hN9.s, hT9.cell 0, hT9.cell 1, hT9.cell 2, hT9.cell 3⟩) (first | (go_at_call 14; refine (hNo.out _).mono ?_; rintro e w10 ⟨rfl, hf10⟩; have hst10 := St.of w.heap.size hf10; have hT10 := hst10.blk _ _ _ hT9 (by decide); have hW10 := hst10.blk _ _ _ hW9 (by decide)))
  rename_i hH
  clear hH
  have hst010 := (hst09.trans (St.of _ ((Fr.refl (fun _ => False) w9).drew))).trans hst10
  have h10 := h9.keep hf10
  clear hN9 hNo hT9 hW9 hst09 hst10 h9
  obtain ⟨g, m, base, v, gs, ms, gD, gQ, hN10⟩ := h10.open
  have c1 := hN10.s
  have hl10 : Laid w10 := hL.fr hst010.fr (fun e => by have := World.block_lt_of_cell? w _ hL; omega)
  have hf010 : Fr (fun _ => False) w w10 := hst010.fr.mono (fun k hk e => by omega)
  have hs10 := Lib.hid hN10.bs.seals
  clear hst010 hL h10 hN10
  go_wp2_with (first
    | (go_at_call 18; refine (seals_Signed hs10.out 1 0).mono ?_; rintro e w11 ⟨rfl, hf11⟩; rw [decide_eq_true HIN.out])
    | (go_at_call 19; refine (fault_Code (hl10.fr hf11 id) _ _).mono ?_; rintro e w12 ⟨rfl, hf12⟩))
  go_ret
  exact ⟨rfl, (hf010.then_ hf11).then_ hf12⟩
end Go.Proofs.YtcfanacfjcgnbaaGreatDoor
