/- cohortlaw20: vote. -/
import Derived.Test.YtcfanacfjcgnbaaGreatDoorSign12
import Derived.Test.YtcfanacfjcgnbaaGreatDoorHeld
namespace Go.Proofs.YtcfanacfjcgnbaaGreatDoor
open Go Go.RowKit
/-- A World that is in order: its texts are the book's, the document's book has the first of them. -/
def WP (w : World) (lo gw : Nat) (L : List (List Int)) (SL : List (Int × Int)) (nQ : Nat) : Prop := GoodL L ∧ ∃ LD, LD <+: L ∧ WS w lo gw L SL LD nQ
theorem WP.keep {w w' : World} {lo gw : Nat} {L : List (List Int)} {SL : List (Int × Int)} {nQ : Nat} (h : WP w lo gw L SL nQ) (hf : Fr (fun _ => False) w w') : WP w' lo gw L SL nQ := by
  obtain ⟨hg, LD, hp, h⟩ := h
  exact ⟨hg, LD, hp, h.keep hf⟩
theorem WP.lo_le {w : World} {lo gw : Nat} {L : List (List Int)} {SL : List (Int × Int)} {nQ : Nat} (h : WP w lo gw L SL nQ) : lo ≤ w.heap.size := by
  obtain ⟨hg, LD, hp, g, m, base, v, gs, ms, gD, bD, vD, gQ, bQ, vQ, SQ, h, hq⟩ := h
  exact Nat.le_trans h.lo_b h.b_le
theorem WP.far {S : Nat → Prop} {w w' : World} {lo gw : Nat} {L : List (List Int)} {SL : List (Int × Int)} {nQ : Nat} (h : WP w lo gw L SL nQ) (hf : Fr S w w') (hS : ∀ k, S k → ∃ cs t, Blk w k t cs ∧ Loc t) : WP w' lo gw L SL nQ := by
  obtain ⟨hg, LD, hp, g, m, base, v, gs, ms, gD, bD, vD, gQ, bQ, vQ, SQ, h, hq⟩ := h
  exact ⟨hg, LD, hp, g, m, base, v, gs, ms, gD, bD, vD, gQ, bQ, vQ, SQ, h.far hf hS, hq⟩
def kindS (kind d : Int) (yes : Bool) : SayD := ⟨kind, d, yes, ⟨#[]⟩, ⟨#[]⟩, 0, 0, 0, 0⟩
def voteS (kind d : Int) (yes : Bool) (gr mask : Int) (L : List (List Int)) (SL : List (Int × Int)) : List (Int × Int) :=
  if OkSay (kindS kind d yes) then signTo gr mask (digI L (sayB (kindS kind d yes)) : Nat) SL 10 else SL
def Voted (w : World) (lo gw : Nat) (L : List (List Int)) (SL : List (Int × Int)) (nQ : Nat) (e : Ending) (w' : World) : Prop :=
  ∃ r, e = .returned r ∧ WP w' lo gw L SL nQ ∧ St lo w w'
set_option maxRecDepth 100000 in
set_option maxHeartbeats 1000000 in
theorem law20_vote {w : World} {lo gw : Nat} {L : List (List Int)} {SL : List (Int × Int)} {nQ : Nat} (h : WP w lo gw L SL nQ) (hL : L.length < 4000) (hn : nQ < 131000) (d : Int) (hd : 0 ≤ d) (gr mask : Int) (yes : Bool) (kind : Int) :
    Calls Tryz.prog 12 #[.pointer (some ⟨gw, 0, none⟩), .int .i64 d, .agg #[.int .i64 gr, .int .i64 mask, .bool yes, .int .i64 kind]] w (Voted w lo gw (sayL L (kindS kind d yes)) (voteS kind d yes gr mask L SL) (nQ + 10)) := by
  have hlo := h.lo_le
  have hV : Blk (((w.alloc (Obj.cells #[.int .i64 gr, .int .i64 mask, .bool yes, .int .i64 kind] 45)).alloc (Obj.cells #[.int .i64 0, .int .i64 0, .bool false, .string ⟨#[]⟩, .string ⟨#[]⟩, .int .i64 0, .int .i64 0, .int .i64 0, .int .i64 0] 42)).alloc (Obj.cells #[.int .i64 kind, .int .i64 d, .bool yes, .string ⟨#[]⟩, .string ⟨#[]⟩, .int .i64 0, .int .i64 0, .int .i64 0, .int .i64 0] 42)) w.heap.size 45 #[.int .i64 gr, .int .i64 mask, .bool yes, .int .i64 kind] := ((Blk.new w _ _).alloc _).alloc _
  have hR : Blk (((w.alloc (Obj.cells #[.int .i64 gr, .int .i64 mask, .bool yes, .int .i64 kind] 45)).alloc (Obj.cells #[.int .i64 0, .int .i64 0, .bool false, .string ⟨#[]⟩, .string ⟨#[]⟩, .int .i64 0, .int .i64 0, .int .i64 0, .int .i64 0] 42)).alloc (Obj.cells #[.int .i64 kind, .int .i64 d, .bool yes, .string ⟨#[]⟩, .string ⟨#[]⟩, .int .i64 0, .int .i64 0, .int .i64 0, .int .i64 0] 42)) (w.heap.size + 1) 42 #[.int .i64 0, .int .i64 0, .bool false, .string ⟨#[]⟩, .string ⟨#[]⟩, .int .i64 0, .int .i64 0, .int .i64 0, .int .i64 0] := (Blk.new_ (w.alloc (Obj.cells #[.int .i64 gr, .int .i64 mask, .bool yes, .int .i64 kind] 45)) _ _ (by simp)).alloc _
  have hS : Blk (((w.alloc (Obj.cells #[.int .i64 gr, .int .i64 mask, .bool yes, .int .i64 kind] 45)).alloc (Obj.cells #[.int .i64 0, .int .i64 0, .bool false, .string ⟨#[]⟩, .string ⟨#[]⟩, .int .i64 0, .int .i64 0, .int .i64 0, .int .i64 0] 42)).alloc (Obj.cells #[.int .i64 kind, .int .i64 d, .bool yes, .string ⟨#[]⟩, .string ⟨#[]⟩, .int .i64 0, .int .i64 0, .int .i64 0, .int .i64 0] 42)) (w.heap.size + 1 + 1) 42 #[.int .i64 kind, .int .i64 d, .bool yes, .string ⟨#[]⟩, .string ⟨#[]⟩, .int .i64 0, .int .i64 0, .int .i64 0, .int .i64 0] := Blk.new_ _ _ _ (by simp)
  have hf0 : Fr (fun _ => False) w (((w.alloc (Obj.cells #[.int .i64 gr, .int .i64 mask, .bool yes, .int .i64 kind] 45)).alloc (Obj.cells #[.int .i64 0, .int .i64 0, .bool false, .string ⟨#[]⟩, .string ⟨#[]⟩, .int .i64 0, .int .i64 0, .int .i64 0, .int .i64 0] 42)).alloc (Obj.cells #[.int .i64 kind, .int .i64 d, .bool yes, .string ⟨#[]⟩, .string ⟨#[]⟩, .int .i64 0, .int .i64 0, .int .i64 0, .int .i64 0] 42)) := (((Fr.refl _ _).alloc _).alloc _).alloc _
  have hdm : (if d < 0 then (0 : Int) else d) = d := if_neg (by omega)
  have HN := Lib.hid hn
  have HL := Lib.hid hL
  have HLO := Lib.hid hlo
  have HW := Lib.hid h
  clear hn hL hlo h hd
  go_enter Tryz.func12, Tryz.ntmps12
  go_upto_region 2 with fail
  generalize ((w.alloc (Obj.cells #[.int .i64 gr, .int .i64 mask, .bool yes, .int .i64 kind] 45)).alloc (Obj.cells #[.int .i64 0, .int .i64 0, .bool false, .string ⟨#[]⟩, .string ⟨#[]⟩, .int .i64 0, .int .i64 0, .int .i64 0, .int .i64 0] 42)).alloc (Obj.cells #[.int .i64 kind, .int .i64 d, .bool yes, .string ⟨#[]⟩, .string ⟨#[]⟩, .int .i64 0, .int .i64 0, .int .i64 0, .int .i64 0] 42) = w0 at *
  obtain ⟨hg, LD, hp, hws⟩ := HW.out.keep hf0
  have HP := ref11_Put1 w0 kind d yes ⟨#[]⟩ ⟨#[]⟩ 0 0 0 0
  have s0 := hS.cell 0
  have s1 := hS.cell 1
  have s2 := hS.cell 2
  have s3 := hS.cell 3
  have s4 := hS.cell 4
  have s5 := hS.cell 5
  have s6 := hS.cell 6
  have s7 := hS.cell 7
  have s8 := hS.cell 8
  by_cases hok : OkSay (kindS kind d yes)
  · have e1 : sayL L (kindS kind d yes) = digL L (sayB (kindS kind d yes)) := if_pos hok
    have e2 : voteS kind d yes gr mask L SL = signTo gr mask (digI L (sayB (kindS kind d yes)) : Nat) SL 10 := if_pos hok
    have E1 := Lib.hid e1
    have E2 := Lib.hid e2
    obtain ⟨hl1, hl2, hl3⟩ := sayB_length hok
    have hb8 := b8_sayB (kindS kind d yes)
    have hok' : OkSay ⟨kind, d, yes, ⟨#[]⟩, ⟨#[]⟩, 0, 0, 0, 0⟩ := hok
    rw [if_pos hok'] at HP
    have HP : Calls Tryz.prog 17 #[.agg #[.int .i64 kind, .int .i64 d, .bool yes, .string ⟨#[]⟩, .string ⟨#[]⟩, .int .i64 0, .int .i64 0, .int .i64 0, .int .i64 0]] w0 (Fresh w0 (sayB (kindS kind d yes))) := HP
    clear e1 e2
    generalize sayB (kindS kind d yes) = xs at HP hl1 hb8 E1 E2 ⊢
    have hx : xs.length ≤ 65536 := by dsimp only [kindS] at hl1 hl2 hl3; omega
    have hpos : (0 : Int) < (xs.length : Int) := by omega
    have HX := Lib.hid hx
    have H8 := Lib.hid hb8
    have HP := Lib.hid HP
    clear hok hok' hl1 hl2 hl3 hb8 hx
    go_wp2_with fail
    refine HP.out.mono ?_
    rintro e w5 ⟨v5, rfl, hv5, hf5⟩
    have hfd : Fr (fun _ => False) w0 w5.drew := hf5.drew
    have hV5 : Blk w5.drew w.heap.size 45 #[.int .i64 gr, .int .i64 mask, .bool yes, .int .i64 kind] := hV.fr hfd id
    have hR5 : Blk w5.drew (w.heap.size + 1) 42 #[.int .i64 0, .int .i64 0, .bool false, .string ⟨#[]⟩, .string ⟨#[]⟩, .int .i64 0, .int .i64 0, .int .i64 0, .int .i64 0] := hR.fr hfd id
    have hS5 : Blk w5.drew (w.heap.size + 1 + 1) 42 #[.int .i64 kind, .int .i64 d, .bool yes, .string ⟨#[]⟩, .string ⟨#[]⟩, .int .i64 0, .int .i64 0, .int .i64 0, .int .i64 0] := hS.fr hfd id
    have hst05 : St lo w w5.drew := St.of lo (hf0.then_ hfd)
    obtain ⟨A5, cap5, rfl, _, _⟩ := hv5.form
    have HD := Lib.hid (law12_Digest (hws.keep hfd) hg hp (by have := HL.out; omega) (own_fr hv5 ((Fr.refl (fun _ => False) w5).drew) (fun _ _ => id)) H8.out HX.out)
    have HG := Lib.hid (hg.dig HX.out)
    clear HP s0 s1 s2 s3 s4 s5 s6 s7 s8 hV hR hS hf0 hws hg hp hfd hv5 hf5
    go_wp2_with fail
    refine wp_region_noPanic ?_
    refine wp_region_held_drew (S := (fun w' => w'.cell? ⟨w.heap.size, 0, none⟩ = some (.int .i64 gr) ∧ w'.cell? ⟨w.heap.size, 1, none⟩ = some (.int .i64 mask))) (by kernel_rfl) (⟨hV5.cell 0, hV5.cell 1⟩) (fun hHeld => ?_)
    refine wpAnyH_takeAt (i := 0) (v := ?va0) (some 21) rfl rfl (by kernel_rfl) (by kernel_rfl) (by kernel_rfl) (fun _ _ _ h => h) (Or.inl ⟨by rfl, ?hya0⟩) (by assumption) ?resta0
    case hya0 => (intro w hSw; (try dsimp only at hSw); go_simp; all_goals with_reducible rfl)
    simp only [Act.put, List.setIfInBounds_toArray, List.set_cons_zero, List.set_cons_succ]
    refine wpAnyH_takeAt (i := 1) (v := ?va1) (some 22) rfl rfl (by kernel_rfl) (by kernel_rfl) (by kernel_rfl) (fun _ _ _ h => h) (Or.inl ⟨by rfl, ?hya1⟩) (by assumption) ?resta1
    case hya1 => (intro w hSw; (try dsimp only at hSw); go_simp; all_goals with_reducible rfl)
    simp only [Act.put, List.setIfInBounds_toArray, List.set_cons_zero, List.set_cons_succ]
    refine wpAnyH_takeAt (i := 2) (v := ?va2) (some 23) rfl rfl (by kernel_rfl) (by kernel_rfl) (by kernel_rfl) (fun _ _ _ h => h) (Or.inl ⟨by rfl, ?hya2⟩) (by assumption) ?resta2
    case hya2 => (intro w hSw; (try dsimp only at hSw); go_simp; all_goals with_reducible rfl)
    simp only [Act.put, List.setIfInBounds_toArray, List.set_cons_zero, List.set_cons_succ]
    refine wpAnyH_takeAt (i := 3) (v := ?va3) (some 24) rfl rfl (by kernel_rfl) (by kernel_rfl) (by kernel_rfl) (fun _ _ _ h => h) (Or.inl ⟨by rfl, ?hya3⟩) (by assumption) ?resta3
    case hya3 => (intro w hSw; (try dsimp only at hSw); go_simp; all_goals with_reducible rfl)
    simp only [Act.put, List.setIfInBounds_toArray, List.set_cons_zero, List.set_cons_succ]
    refine wpAnyH_takeAt (i := 4) (v := ?va4) (some 25) rfl rfl (by kernel_rfl) (by kernel_rfl) (by kernel_rfl) (fun _ _ _ h => h) (Or.inl ⟨by rfl, ?hya4⟩) (by assumption) ?resta4
    case hya4 => (intro w hSw; (try dsimp only at hSw); go_simp; all_goals with_reducible rfl)
    simp only [Act.put, List.setIfInBounds_toArray, List.set_cons_zero, List.set_cons_succ]
    refine wpAnyH_takeAt (i := 5) (v := ?va5) (some 26) rfl rfl (by kernel_rfl) (by kernel_rfl) (by kernel_rfl) (fun _ _ _ h => h) (Or.inl ⟨by rfl, ?hya5⟩) (by assumption) ?resta5
    case hya5 => (intro w hSw; (try dsimp only at hSw); go_simp; all_goals with_reducible rfl)
    simp only [Act.put, List.setIfInBounds_toArray, List.set_cons_zero, List.set_cons_succ]
    refine wpAnyH_takeAt (i := 6) (v := ?va6) (some 27) rfl rfl (by kernel_rfl) (by kernel_rfl) (by kernel_rfl) (fun _ _ _ h => h) (Or.inl ⟨by rfl, ?hya6⟩) (by assumption) ?resta6
    case hya6 => (intro w hSw; (try dsimp only at hSw); go_simp; all_goals with_reducible rfl)
    simp only [Act.put, List.setIfInBounds_toArray, List.set_cons_zero, List.set_cons_succ]
    refine wpAnyH_ready (rs := [7]) (by kernel_rfl) (by simp) ?_
    refine AllReadyH.cons rfl (fun K hK => ?_) AllReadyH.nil
    go_simp
    go_at_call 16
    refine HD.out.mono ?_; rintro e w6 ⟨rfl, h6, hst6⟩; have hV6 := hst6.blk _ _ _ hV5 (by decide)
    try go_wp2_with fail
    refine hK.out _ _ (⟨hV6.cell 0, hV6.cell 1⟩) (fun hHeld => ?_)
    clear hK K
    refine wpAnyH_ready (rs := [8]) (by kernel_rfl) (by simp) ?_
    refine AllReadyH.cons rfl (fun K hK => ?_) AllReadyH.nil
    go_simp
    go_at_call 15
    refine (law12_Sign h6 HN.out gr mask _).mono ?_; rintro e w7 ⟨r7, rfl, h7, hst7⟩; have hV7 := hst7.blk _ _ _ hV6 (by decide)
    try go_wp2_with fail
    refine hK.out _ _ (⟨hV7.cell 0, hV7.cell 1⟩) (fun hHeld => ?_)
    clear hK K
    refine wpAnyH_done (by kernel_rfl) ?_ _
    refine NoPanic.normal ?_
    all_goals
      have hR7 := hst7.blk _ _ _ (hst6.blk _ _ _ hR5 (by decide)) (by decide)
      have hS7 := hst7.blk _ _ _ (hst6.blk _ _ _ hS5 (by decide)) (by decide)
      have hst07 := (hst05.trans hst6).trans hst7
      have c0 := hS7.cell 0
      have z0 := hR7.frozen 0
      have f0 := hR7.cell 0
      have c1 := hS7.cell 1
      have z1 := hR7.frozen 1
      have f1 := hR7.cell 1
      have c2 := hS7.cell 2
      have z2 := hR7.frozen 2
      have f2 := hR7.cell 2
      have c3 := hS7.cell 3
      have z3 := hR7.frozen 3
      have f3 := hR7.cell 3
      have c4 := hS7.cell 4
      have z4 := hR7.frozen 4
      have f4 := hR7.cell 4
      have c5 := hS7.cell 5
      have z5 := hR7.frozen 5
      have f5 := hR7.cell 5
      have c6 := hS7.cell 6
      have z6 := hR7.frozen 6
      have f6 := hR7.cell 6
      have c7 := hS7.cell 7
      have z7 := hR7.frozen 7
      have f7 := hR7.cell 7
      have c8 := hS7.cell 8
      have z8 := hR7.frozen 8
      have f8 := hR7.cell 8
      go_wp2_with fail
      have hBf := (((((((((hR7.set_ 0 (.int .i64 kind)).set_ 1 (.int .i64 d)).set_ 2 (.bool yes)).set_ 3 (.string ⟨#[]⟩)).set_ 4 (.string ⟨#[]⟩)).set_ 5 (.int .i64 0)).set_ 6 (.int .i64 0)).set_ 7 (.int .i64 0)).set_ 8 (.int .i64 0))
      have hff : Fr (fun j => j = w.heap.size + 1) w7 (((((((((w7.setCell ⟨w.heap.size + 1, 0, none⟩ (.int .i64 kind)).setCell ⟨w.heap.size + 1, 1, none⟩ (.int .i64 d)).setCell ⟨w.heap.size + 1, 2, none⟩ (.bool yes)).setCell ⟨w.heap.size + 1, 3, none⟩ (.string ⟨#[]⟩)).setCell ⟨w.heap.size + 1, 4, none⟩ (.string ⟨#[]⟩)).setCell ⟨w.heap.size + 1, 5, none⟩ (.int .i64 0)).setCell ⟨w.heap.size + 1, 6, none⟩ (.int .i64 0)).setCell ⟨w.heap.size + 1, 7, none⟩ (.int .i64 0)).setCell ⟨w.heap.size + 1, 8, none⟩ (.int .i64 0)) := ((((((((((Fr.refl (fun j => j = w.heap.size + 1) w7).setCell (p := ⟨w.heap.size + 1, 0, none⟩) (fun _ => rfl) (.int .i64 kind)).setCell (p := ⟨w.heap.size + 1, 1, none⟩) (fun _ => rfl) (.int .i64 d)).setCell (p := ⟨w.heap.size + 1, 2, none⟩) (fun _ => rfl) (.bool yes)).setCell (p := ⟨w.heap.size + 1, 3, none⟩) (fun _ => rfl) (.string ⟨#[]⟩)).setCell (p := ⟨w.heap.size + 1, 4, none⟩) (fun _ => rfl) (.string ⟨#[]⟩)).setCell (p := ⟨w.heap.size + 1, 5, none⟩) (fun _ => rfl) (.int .i64 0)).setCell (p := ⟨w.heap.size + 1, 6, none⟩) (fun _ => rfl) (.int .i64 0)).setCell (p := ⟨w.heap.size + 1, 7, none⟩) (fun _ => rfl) (.int .i64 0)).setCell (p := ⟨w.heap.size + 1, 8, none⟩) (fun _ => rfl) (.int .i64 0))
      generalize (((((((((w7.setCell ⟨w.heap.size + 1, 0, none⟩ (.int .i64 kind)).setCell ⟨w.heap.size + 1, 1, none⟩ (.int .i64 d)).setCell ⟨w.heap.size + 1, 2, none⟩ (.bool yes)).setCell ⟨w.heap.size + 1, 3, none⟩ (.string ⟨#[]⟩)).setCell ⟨w.heap.size + 1, 4, none⟩ (.string ⟨#[]⟩)).setCell ⟨w.heap.size + 1, 5, none⟩ (.int .i64 0)).setCell ⟨w.heap.size + 1, 6, none⟩ (.int .i64 0)).setCell ⟨w.heap.size + 1, 7, none⟩ (.int .i64 0)).setCell ⟨w.heap.size + 1, 8, none⟩ (.int .i64 0)) = wf at hBf hff ⊢
      have e0 := hBf.cell 0
      have e1 := hBf.cell 1
      have e2 := hBf.cell 2
      have e3 := hBf.cell 3
      have e4 := hBf.cell 4
      have e5 := hBf.cell 5
      have e6 := hBf.cell 6
      have e7 := hBf.cell 7
      have e8 := hBf.cell 8
      simp at e0 e1 e2 e3 e4 e5 e6 e7 e8
      refine bodyPost_ret (v := .agg #[.int .i64 kind, .int .i64 d, .bool yes, .string ⟨#[]⟩, .string ⟨#[]⟩, .int .i64 0, .int .i64 0, .int .i64 0, .int .i64 0]) (by simp [results, Tryz.results12, go_sem, e0, e1, e2, e3, e4, e5, e6, e7, e8]) rfl ?_
      unfold Voted
      rw [E1.out, E2.out]
      exact ⟨_, rfl, WP.far ⟨HG.out, _, List.prefix_rfl, h7⟩ hff (fun j hj => ⟨_, _, hj ▸ hR7, by decide⟩), hst07.far hff (fun j hj => by omega) HLO.out⟩
  · have e1 : sayL L (kindS kind d yes) = L := if_neg hok
    have e2 : voteS kind d yes gr mask L SL = SL := if_neg hok
    have E1 := Lib.hid e1
    have E2 := Lib.hid e2
    have hok' : ¬ OkSay ⟨kind, d, yes, ⟨#[]⟩, ⟨#[]⟩, 0, 0, 0, 0⟩ := hok
    rw [if_neg hok'] at HP
    have HP := Lib.hid HP
    clear hok hok' e1 e2
    go_wp2_with fail
    refine HP.out.mono ?_
    rintro e w7 ⟨v5, rfl, hv5, hf5⟩
    have hR7 : Blk w7 (w.heap.size + 1) 42 #[.int .i64 0, .int .i64 0, .bool false, .string ⟨#[]⟩, .string ⟨#[]⟩, .int .i64 0, .int .i64 0, .int .i64 0, .int .i64 0] := hR.fr hf5 id
    have hS7 : Blk w7 (w.heap.size + 1 + 1) 42 #[.int .i64 kind, .int .i64 d, .bool yes, .string ⟨#[]⟩, .string ⟨#[]⟩, .int .i64 0, .int .i64 0, .int .i64 0, .int .i64 0] := hS.fr hf5 id
    have hst07 : St lo w w7 := St.of lo (hf0.then_ hf5)
    obtain ⟨A5, cap5, rfl, _, _⟩ := hv5.form
    rw [List.length_nil]
    have h7 := hws.keep hf5
    obtain ⟨g, m, base, v, gs, ms, gD, bD, vD, gQ, bQ, vQ, SQ, h7, hq⟩ := h7
    have HG := Lib.hid hg
    have HPP := Lib.hid hp
    clear HP s0 s1 s2 s3 s4 s5 s6 s7 s8 hV hR hS hf0 hws hg hp hv5 hf5
    have c0 := hS7.cell 0
    have z0 := hR7.frozen 0
    have f0 := hR7.cell 0
    have c1 := hS7.cell 1
    have z1 := hR7.frozen 1
    have f1 := hR7.cell 1
    have c2 := hS7.cell 2
    have z2 := hR7.frozen 2
    have f2 := hR7.cell 2
    have c3 := hS7.cell 3
    have z3 := hR7.frozen 3
    have f3 := hR7.cell 3
    have c4 := hS7.cell 4
    have z4 := hR7.frozen 4
    have f4 := hR7.cell 4
    have c5 := hS7.cell 5
    have z5 := hR7.frozen 5
    have f5 := hR7.cell 5
    have c6 := hS7.cell 6
    have z6 := hR7.frozen 6
    have f6 := hR7.cell 6
    have c7 := hS7.cell 7
    have z7 := hR7.frozen 7
    have f7 := hR7.cell 7
    have c8 := hS7.cell 8
    have z8 := hR7.frozen 8
    have f8 := hR7.cell 8
    go_wp2_with fail
    have hBf := (((((((((hR7.set_ 0 (.int .i64 kind)).set_ 1 (.int .i64 d)).set_ 2 (.bool yes)).set_ 3 (.string ⟨#[]⟩)).set_ 4 (.string ⟨#[]⟩)).set_ 5 (.int .i64 0)).set_ 6 (.int .i64 0)).set_ 7 (.int .i64 0)).set_ 8 (.int .i64 0))
    have hff : Fr (fun j => j = w.heap.size + 1) w7 (((((((((w7.setCell ⟨w.heap.size + 1, 0, none⟩ (.int .i64 kind)).setCell ⟨w.heap.size + 1, 1, none⟩ (.int .i64 d)).setCell ⟨w.heap.size + 1, 2, none⟩ (.bool yes)).setCell ⟨w.heap.size + 1, 3, none⟩ (.string ⟨#[]⟩)).setCell ⟨w.heap.size + 1, 4, none⟩ (.string ⟨#[]⟩)).setCell ⟨w.heap.size + 1, 5, none⟩ (.int .i64 0)).setCell ⟨w.heap.size + 1, 6, none⟩ (.int .i64 0)).setCell ⟨w.heap.size + 1, 7, none⟩ (.int .i64 0)).setCell ⟨w.heap.size + 1, 8, none⟩ (.int .i64 0)) := ((((((((((Fr.refl (fun j => j = w.heap.size + 1) w7).setCell (p := ⟨w.heap.size + 1, 0, none⟩) (fun _ => rfl) (.int .i64 kind)).setCell (p := ⟨w.heap.size + 1, 1, none⟩) (fun _ => rfl) (.int .i64 d)).setCell (p := ⟨w.heap.size + 1, 2, none⟩) (fun _ => rfl) (.bool yes)).setCell (p := ⟨w.heap.size + 1, 3, none⟩) (fun _ => rfl) (.string ⟨#[]⟩)).setCell (p := ⟨w.heap.size + 1, 4, none⟩) (fun _ => rfl) (.string ⟨#[]⟩)).setCell (p := ⟨w.heap.size + 1, 5, none⟩) (fun _ => rfl) (.int .i64 0)).setCell (p := ⟨w.heap.size + 1, 6, none⟩) (fun _ => rfl) (.int .i64 0)).setCell (p := ⟨w.heap.size + 1, 7, none⟩) (fun _ => rfl) (.int .i64 0)).setCell (p := ⟨w.heap.size + 1, 8, none⟩) (fun _ => rfl) (.int .i64 0))
    generalize (((((((((w7.setCell ⟨w.heap.size + 1, 0, none⟩ (.int .i64 kind)).setCell ⟨w.heap.size + 1, 1, none⟩ (.int .i64 d)).setCell ⟨w.heap.size + 1, 2, none⟩ (.bool yes)).setCell ⟨w.heap.size + 1, 3, none⟩ (.string ⟨#[]⟩)).setCell ⟨w.heap.size + 1, 4, none⟩ (.string ⟨#[]⟩)).setCell ⟨w.heap.size + 1, 5, none⟩ (.int .i64 0)).setCell ⟨w.heap.size + 1, 6, none⟩ (.int .i64 0)).setCell ⟨w.heap.size + 1, 7, none⟩ (.int .i64 0)).setCell ⟨w.heap.size + 1, 8, none⟩ (.int .i64 0)) = wf at hBf hff ⊢
    have e0 := hBf.cell 0
    have e1 := hBf.cell 1
    have e2 := hBf.cell 2
    have e3 := hBf.cell 3
    have e4 := hBf.cell 4
    have e5 := hBf.cell 5
    have e6 := hBf.cell 6
    have e7 := hBf.cell 7
    have e8 := hBf.cell 8
    simp at e0 e1 e2 e3 e4 e5 e6 e7 e8
    refine bodyPost_ret (v := .agg #[.int .i64 kind, .int .i64 d, .bool yes, .string ⟨#[]⟩, .string ⟨#[]⟩, .int .i64 0, .int .i64 0, .int .i64 0, .int .i64 0]) (by simp [results, Tryz.results12, go_sem, e0, e1, e2, e3, e4, e5, e6, e7, e8]) rfl ?_
    unfold Voted
    rw [E1.out, E2.out]
    exact ⟨_, rfl, WP.far ⟨HG.out, LD, HPP.out, g, m, base, v, gs, ms, gD, bD, vD, gQ, bQ, vQ, SQ, h7, by omega⟩ hff (fun j hj => ⟨_, _, hj ▸ hR7, by decide⟩), hst07.far hff (fun j hj => by omega) HLO.out⟩
end Go.Proofs.YtcfanacfjcgnbaaGreatDoor
