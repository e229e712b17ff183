/- client: Outcome$1. -/
import Derived.Test.YtcfanacfjcgnbaaGreatDoorSubmit
import Derived.Test.YtcfanacfjcgnbaaGreatDoorHeld
namespace Go.Proofs.YtcfanacfjcgnbaaGreatDoor
open Go Go.RowKit
def decS (d : Int) (yes : Bool) : SayD := ⟨3, d, yes, ⟨#[]⟩, ⟨#[]⟩, 0, 0, 0, 0⟩
set_option maxRecDepth 100000 in
theorem client_Outcome1 {w : World} {g m base : Nat} {v : Value} {L : List (List Int)} {gs ms : Nat} {SL : List (Int × Int)} (h : BS w g m base v L gs ms SL) (hbase : base ≤ w.heap.size) (hL : L.length < 65536) {x1 x2 x3 x4 : Nat} {d f : Int} (b1 : Blk w x1 34 #[.pointer (some ⟨g, 0, none⟩)]) (b2 : Blk w x2 35 #[.pointer (some ⟨gs, 0, none⟩)]) (b3 : Blk w x3 3 #[.int .i64 d]) (b4 : Blk w x4 3 #[.int .i64 f]) (yes : Bool) :
    Calls Tryz.prog 24 #[.bool yes, .pointer (some ⟨x1, 0, none⟩), .pointer (some ⟨x2, 0, none⟩), .pointer (some ⟨x3, 0, none⟩), .pointer (some ⟨x4, 0, none⟩)] w (BSStep w g m base v (sayL L (decS d yes)) gs ms SL (.bool (decide (f < (saidN 0 L SL (decS d yes) : Nat))))) := by
  have hf0 : Fr (fun _ => False) w w.drew := (Fr.refl _ _).drew
  have h0 := h.keep hf0
  have HS := Lib.hid (client_Said h0 hbase hL 0 3 d yes ⟨#[]⟩ ⟨#[]⟩ 0 0 0 0)
  unfold decS
  generalize sayL L ⟨3, d, yes, ⟨#[]⟩, ⟨#[]⟩, 0, 0, 0, 0⟩ = L' at HS ⊢
  generalize saidN 0 L SL ⟨3, d, yes, ⟨#[]⟩, ⟨#[]⟩, 0, 0, 0, 0⟩ = N at HS ⊢
  go_enter Tryz.func24, Tryz.ntmps24
  go_wp2_with fail
  refine wp_region_noPanic ?_
  refine wp_region_held_drew (S := (fun w' => w'.cell? ⟨x1, 0, none⟩ = some (.pointer (some ⟨g, 0, none⟩)) ∧ w'.cell? ⟨x2, 0, none⟩ = some (.pointer (some ⟨gs, 0, none⟩)) ∧ w'.cell? ⟨x3, 0, none⟩ = some (.int .i64 d) ∧ w'.cell? ⟨x4, 0, none⟩ = some (.int .i64 f))) (by kernel_rfl) (⟨b1.cell 0, b2.cell 0, b3.cell 0, b4.cell 0⟩) (fun hHeld => ?_)
  refine wpAnyH_takeAt (i := 0) (v := ?va0) (some 7) rfl rfl (by kernel_rfl) (by kernel_rfl) (by kernel_rfl) (fun _ _ _ h => h) (Or.inl ⟨by rfl, ?hya0⟩) (by assumption) ?resta0
  case hya0 => (intro w hSw; (try dsimp only at hSw); go_simp; all_goals with_reducible rfl)
  simp only [Act.put, List.setIfInBounds_toArray, List.set_cons_zero, List.set_cons_succ]
  refine wpAnyH_takeAt (i := 1) (v := ?va1) (some 8) rfl rfl (by kernel_rfl) (by kernel_rfl) (by kernel_rfl) (fun _ _ _ h => h) (Or.inl ⟨by rfl, ?hya1⟩) (by assumption) ?resta1
  case hya1 => (intro w hSw; (try dsimp only at hSw); go_simp; all_goals with_reducible rfl)
  simp only [Act.put, List.setIfInBounds_toArray, List.set_cons_zero, List.set_cons_succ]
  refine wpAnyH_takeAt (i := 2) (v := ?va2) (some 9) rfl rfl (by kernel_rfl) (by kernel_rfl) (by kernel_rfl) (fun _ _ _ h => h) (Or.inl ⟨by rfl, ?hya2⟩) (by assumption) ?resta2
  case hya2 => (intro w hSw; (try dsimp only at hSw); go_simp; all_goals with_reducible rfl)
  simp only [Act.put, List.setIfInBounds_toArray, List.set_cons_zero, List.set_cons_succ]
  refine wpAnyH_takeAt (i := 3) (v := ?va3) (some 10) rfl rfl (by kernel_rfl) (by kernel_rfl) (by kernel_rfl) (fun _ _ _ h => h) (Or.inl ⟨by rfl, ?hya3⟩) (by assumption) ?resta3
  case hya3 => (intro w hSw; (try dsimp only at hSw); go_simp; all_goals with_reducible rfl)
  simp only [Act.put, List.setIfInBounds_toArray, List.set_cons_zero, List.set_cons_succ]
  refine wpAnyH_takeAt (i := 4) (v := ?va4) (some 11) rfl rfl (by kernel_rfl) (by kernel_rfl) (by kernel_rfl) (fun _ _ _ h => h) (Or.inl ⟨by rfl, ?hya4⟩) (by assumption) ?resta4
  case hya4 => (intro w hSw; (try dsimp only at hSw); go_simp; all_goals with_reducible rfl)
  simp only [Act.put, List.setIfInBounds_toArray, List.set_cons_zero, List.set_cons_succ]
  refine wpAnyH_takeAt (i := 6) (v := ?va6) (some 13) rfl rfl (by kernel_rfl) (by kernel_rfl) (by kernel_rfl) (fun _ _ _ h => h) (Or.inl ⟨by rfl, ?hya6⟩) (by assumption) ?resta6
  case hya6 => (intro w hSw; (try dsimp only at hSw); go_simp; all_goals with_reducible rfl)
  simp only [Act.put, List.setIfInBounds_toArray, List.set_cons_zero, List.set_cons_succ]
  refine wpAnyH_ready (rs := [5]) (by kernel_rfl) (by simp) ?_
  refine AllReadyH.cons rfl (fun K hK => ?_) AllReadyH.nil
  go_simp
  go_at_call 25
  refine HS.out.mono ?_; rintro e w1 ⟨v1, rfl, h1, hf1, hk1⟩
  try go_wp2_with fail
  refine hK.out _ _ (⟨(h0.bookFr b1 (by decide) (by decide) hf1).cell 0, (h0.bookFr b2 (by decide) (by decide) hf1).cell 0, (h0.bookFr b3 (by decide) (by decide) hf1).cell 0, (h0.bookFr b4 (by decide) (by decide) hf1).cell 0⟩) (fun hHeld => ?_)
  clear hK K
  refine wpAnyH_takeAt (i := 7) (v := ?va7) (some 14) rfl rfl (by kernel_rfl) (by kernel_rfl) (by kernel_rfl) (fun _ _ _ h => h) (Or.inl ⟨by rfl, ?hya7⟩) (by assumption) ?resta7
  case hya7 => (intro w hSw; (try dsimp only at hSw); go_simp; all_goals with_reducible rfl)
  simp only [Act.put, List.setIfInBounds_toArray, List.set_cons_zero, List.set_cons_succ]
  refine wpAnyH_takeAt (i := 8) (v := ?va8) (some 6) rfl rfl (by kernel_rfl) (by kernel_rfl) (by kernel_rfl) (fun _ _ _ h => h) (Or.inl ⟨by rfl, ?hya8⟩) (by assumption) ?resta8
  case hya8 => (intro w hSw; (try dsimp only at hSw); go_simp; all_goals with_reducible rfl)
  simp only [Act.put, List.setIfInBounds_toArray, List.set_cons_zero, List.set_cons_succ]
  refine wpAnyH_done (by kernel_rfl) ?_ _
  refine NoPanic.normal ?_
  all_goals go_wp2_with fail
  all_goals go_ret
  all_goals exact ⟨v1, rfl, h1, (hf0.mono (fun _ _ h => h.elim)).trans hf1 (fun _ _ e => e), hk1⟩
end Go.Proofs.YtcfanacfjcgnbaaGreatDoor
