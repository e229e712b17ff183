/- Parts of the proof, joined. -/
import Derived.Deep.CutRange
import Derived.Test.YtmkdhhhoodeemaaGreatFewProofGa
set_option linter.unusedVariables false
set_option linter.unusedSimpArgs false
/- txn: read, written, rises. -/
namespace Go.Proofs.YtmkdhhhoodeemaaGreat
open Go Go.RowKit
def strLess (a b : ByteArray) : Bool := Op.bytesLess a.toList b.toList
def ReadRow (w : World) (F : Nat → Prop) (A : Option Addr) (l : List (ByteArray × Int)) : Prop :=
  ∀ k x, l[k]? = some x → ∃ b o, A = some ⟨b, o, none⟩ ∧ F b ∧ w.cell? ⟨b, o + k * 2, none⟩ = some (.string x.1) ∧ w.cell? ⟨b, o + k * 2 + 1, none⟩ = some (.int .i64 x.2)
def WriteRow (w : World) (F : Nat → Prop) (A : Option Addr) (l : List (ByteArray × ByteArray)) : Prop :=
  ∀ k x, l[k]? = some x → ∃ b o, A = some ⟨b, o, none⟩ ∧ F b ∧ w.cell? ⟨b, o + k * 2, none⟩ = some (.string x.1) ∧ w.cell? ⟨b, o + k * 2 + 1, none⟩ = some (.string x.2)
theorem ReadRow.fr {S F : Nat → Prop} {w w' : World} {A : Option Addr} {l : List (ByteArray × Int)} (h : ReadRow w F A l) (hf : Fr S w w') (hS : ∀ k, F k → ¬ S k) : ReadRow w' F A l := fun k x hx => by
  obtain ⟨b, o, e, h1, h2, h3⟩ := h k x hx
  exact ⟨b, o, e, h1, hf.cell_some h2 (hS b h1), hf.cell_some h3 (hS b h1)⟩
theorem WriteRow.fr {S F : Nat → Prop} {w w' : World} {A : Option Addr} {l : List (ByteArray × ByteArray)} (h : WriteRow w F A l) (hf : Fr S w w') (hS : ∀ k, F k → ¬ S k) : WriteRow w' F A l := fun k x hx => by
  obtain ⟨b, o, e, h1, h2, h3⟩ := h k x hx
  exact ⟨b, o, e, h1, hf.cell_some h2 (hS b h1), hf.cell_some h3 (hS b h1)⟩
def readOk (x : ByteArray × Int) : Bool := decide (0 ≤ x.2) && decide (x.2 ≤ 1099511627776)
def writeOk (x : ByteArray × ByteArray) : Bool := decide ((x.2.size : Int) ≤ 64)
section
variable {α : Type} (ok : ByteArray × α → Bool)
/-- Is the k-th as it must be? -/
def okAt (l : List (ByteArray × α)) (k : Nat) : Bool :=
  match l[k]? with
  | none => true
  | some x => !decide ((16 : Int) < x.1.size) && ok x && (match k with | 0 => true | j + 1 => match l[j]? with | none => true | some y => strLess y.1 x.1)
def okTo (l : List (ByteArray × α)) (k : Nat) : Bool := (List.range k).all (okAt ok l)
def rises (l : List (ByteArray × α)) : Bool := okTo ok l l.length && decide ((l.length : Int) ≤ 8)
theorem okTo_succ {l : List (ByteArray × α)} {k : Nat} (h : okTo ok l k = true) (h1 : okAt ok l k = true) : okTo ok l (k + 1) = true := by
  unfold okTo at h ⊢
  rw [List.range_succ, List.all_append, h]
  simp [h1]
theorem rises_no {l : List (ByteArray × α)} {k : Nat} (hk : k < l.length) (h1 : okAt ok l k = false) : rises ok l = false := by
  unfold rises
  have : okTo ok l l.length = false := by
    unfold okTo
    rw [List.all_eq_false]
    exact ⟨k, List.mem_range.2 hk, by simp [h1]⟩
  rw [this]
  rfl
end
theorem wrap_i64 (j : Nat) (h : j ≤ 1000000) : IntKind.i64.wrap (j : Int) = (j : Int) := by
  unfold IntKind.wrap
  simp [IntKind.signed, IntKind.bits]
  omega
def OkB (w : World) (b : Bool) (e : Ending) (w' : World) : Prop := e = .returned (.bool b) ∧ Fr (fun _ => False) w w'
theorem txn_read (w : World) (s : ByteArray) (n : Int) : Calls Tryz.prog 166 #[.agg #[.string s, .int .i64 n]] w fun e w' => e = .returned (.string s) ∧ Fr (fun _ => False) w w' := by
  go_enter Tryz.func166, Tryz.ntmps166
  go_wp2
  go_ret
  exact ⟨rfl, (Fr.refl _ _).alloc _⟩
theorem txn_written (w : World) (s t : ByteArray) : Calls Tryz.prog 169 #[.agg #[.string s, .string t]] w fun e w' => e = .returned (.string s) ∧ Fr (fun _ => False) w w' := by
  go_enter Tryz.func169, Tryz.ntmps169
  go_wp2
  go_ret
  exact ⟨rfl, (Fr.refl _ _).alloc _⟩
theorem txn_right1 (w : World) (x : ByteArray × Int) : Calls Tryz.prog 167 #[.agg #[.string x.1, .int .i64 x.2]] w (OkB w (readOk x)) := by
  obtain ⟨s, n⟩ := x
  unfold readOk
  by_cases h0 : 0 ≤ n
  · go_enter Tryz.func167, Tryz.ntmps167
    go_wp2
    go_ret
    exact ⟨by simp [h0], (Fr.refl _ _).alloc _⟩
  · go_enter Tryz.func167, Tryz.ntmps167
    go_wp2
    go_ret
    exact ⟨by rw [decide_eq_false (p := 0 ≤ n) (by omega)]; rfl, (Fr.refl _ _).alloc _⟩
theorem txn_right2 (w : World) (x : ByteArray × ByteArray) : Calls Tryz.prog 170 #[.agg #[.string x.1, .string x.2]] w (OkB w (writeOk x)) := by
  obtain ⟨s, t⟩ := x
  go_enter Tryz.func170, Tryz.ntmps170
  go_wp2
  go_ret
  exact ⟨rfl, (Fr.refl _ _).alloc _⟩
set_option maxRecDepth 100000 in
set_option maxHeartbeats 4000000 in
theorem txn_rises_read {w : World} {F : Nat → Prop} {A : Option Addr} {l : List (ByteArray × Int)} {cap : Nat} (h : ReadRow w F A l) (hll : l.length ≤ 1000000) :
    Calls Tryz.prog 165 #[.slice A l.length cap, .func (.func 166) #[] #[], .func (.func 167) #[] #[]] w (OkB w (rises readOk l)) := by
  go_enter Tryz.func165, Tryz.ntmps165
  go_wp2_with fail
  go_loopw [11] (fun ix wr => ∃ k : Nat, k ≤ l.length ∧ ix = .int .i64 k ∧ Hid (okTo readOk l k = true) ∧ Fr (fun _ => False) w wr) (fun ix _ => l.length - (intOf ix).toNat)
  case atStart => exact ⟨0, by omega, rfl, rfl, Fr.refl _ _⟩
  case round =>
    obtain ⟨k, hk, rfl, hok, hf⟩ := hrel
    by_cases hlt : k < l.length
    · obtain ⟨x, hx⟩ : ∃ x, l[k]? = some x := ⟨l[k], List.getElem?_eq_getElem hlt⟩
      obtain ⟨b, o, rfl, hFb, hc0, hc1⟩ := h k x hx
      have d0 := hf.cell_some hc0 id
      have d1 := hf.cell_some hc1 id
      have HX := Lib.hid hx
      have HR := Lib.hid h
      clear hx h hc0 hc1
      go_upto_region 4 with fail
      generalize hgx : wr.heap.size = gx
      have hb0 : Blk (wr.alloc (Obj.cells #[.string x.1, .int .i64 x.2] 143)) gx 143 #[.string x.1, .int .i64 x.2] := Blk.new_ _ _ _ hgx.symm
      have hfa : Fr (fun _ => False) wr (wr.alloc (Obj.cells #[.string x.1, .int .i64 x.2] 143)) := (Fr.refl _ _).alloc _
      generalize wr.alloc (Obj.cells #[.string x.1, .int .i64 x.2] 143) = wa at hb0 hfa ⊢
      have HGX := Lib.hid hgx
      clear d0 d1 hgx
      go_cut [43] from 16 to 43 (fun c wx => c = .bool (!(okAt readOk l k)) ∧ Fr (fun _ => False) wa wx)
      case first =>
        have f0 : Fr (fun _ => False) wa wa.drew := (Fr.refl _ _).drew
        by_cases c16 : (16 : Int) < x.1.size
        · have eo : okAt readOk l k = false := by unfold okAt; rw [HX.out]; simp [c16]
          have HEO := Lib.hid eo
          have q16 : decide ((16 : Int) < x.1.size) = true := decide_eq_true c16
          have five : ∀ w', Fr (fun _ => False) wa w' → w'.cell? ⟨gx, 0, none⟩ = some (.string x.1) ∧ w'.cell? ⟨gx, 1, none⟩ = some (.int .i64 x.2) := fun w' h => ⟨(hb0.fr h id).cell 0, (hb0.fr h id).cell 1⟩
          clear eo hlt
          refine wp_region_noPanic ?_
          refine wp_region_held_drew (S := (fun w' => w'.cell? ⟨gx, 0, none⟩ = some (.string x.1) ∧ w'.cell? ⟨gx, 1, none⟩ = some (.int .i64 x.2))) (by kernel_rfl) (five _ f0) (fun hHeld => ?_)
          refine wpAnyH_takeAt (i := 0) (v := ?va0) (some 16) rfl rfl (by kernel_rfl) (by kernel_rfl) (by kernel_rfl) (fun _ _ _ h => h) (Or.inl ⟨by rfl, ?hya0⟩) (by assumption) ?resta0
          case hya0 => (intro w hSw; (try dsimp only at hSw); go_simp; all_goals with_reducible rfl)
          simp only [Act.put, List.setIfInBounds_toArray, List.set_cons_zero, List.set_cons_succ]
          refine wpAnyH_takeAt (i := 1) (v := ?va1) (some 17) rfl rfl (by kernel_rfl) (by kernel_rfl) (by kernel_rfl) (fun _ _ _ h => h) (Or.inl ⟨by rfl, ?hya1⟩) (by assumption) ?resta1
          case hya1 => (intro w hSw; (try dsimp only at hSw); go_simp; all_goals with_reducible rfl)
          simp only [Act.put, List.setIfInBounds_toArray, List.set_cons_zero, List.set_cons_succ]
          refine wpAnyH_ready (rs := [2]) (by kernel_rfl) (by simp) ?_
          refine AllReadyH.cons rfl (fun K hK => ?_) AllReadyH.nil
          go_simp
          go_at_call 166
          refine (txn_read _ _ _).mono ?_; rintro e w1 ⟨rfl, hf1⟩; have f1 := f0.then_ hf1
          try go_wp2_with fail
          refine hK.out _ _ (five _ f1) (fun hHeld => ?_)
          clear hK K
          refine wpAnyH_takeAt (i := 3) (v := ?va3) (some 19) rfl rfl (by kernel_rfl) (by kernel_rfl) (by kernel_rfl) (fun _ _ _ h => h) (Or.inl ⟨by rfl, ?hya3⟩) (by assumption) ?resta3
          case hya3 => (intro w hSw; (try dsimp only at hSw); go_simp; all_goals with_reducible rfl)
          simp only [Act.put, List.setIfInBounds_toArray, List.set_cons_zero, List.set_cons_succ]
          refine wpAnyH_takeAt (i := 4) (v := ?va4) (some 20) rfl rfl (by kernel_rfl) (by kernel_rfl) (by kernel_rfl) (fun _ _ _ h => h) (Or.inl ⟨by rfl, ?hya4⟩) (by assumption) ?resta4
          case hya4 => (intro w hSw; (try dsimp only at hSw); go_simp; all_goals with_reducible rfl)
          simp only [Act.put, List.setIfInBounds_toArray, List.set_cons_zero, List.set_cons_succ]
          refine wpAnyH_takeAt (i := 5) (v := ?va5) (some 21) rfl rfl (by kernel_rfl) (by kernel_rfl) (by kernel_rfl) (fun _ _ _ h => h) (Or.inl ⟨by rfl, ?hya5⟩) (by assumption) ?resta5
          case hya5 => (intro w hSw; (try dsimp only at hSw); go_simp; all_goals with_reducible rfl)
          simp only [Act.put, List.setIfInBounds_toArray, List.set_cons_zero, List.set_cons_succ]
          refine wpAnyH_takeAt (i := 6) (some 22) rfl rfl (by kernel_rfl) (by kernel_rfl) (by kernel_rfl) (fun _ _ _ h => h) (Or.inr ⟨by rfl, rfl⟩) (by assumption) ?_
          simp only [Act.put, List.setIfInBounds_toArray, List.set_cons_zero, List.set_cons_succ]
          refine wpAnyH_takeAt (i := 7) (some 23) rfl rfl (by kernel_rfl) (by kernel_rfl) (by kernel_rfl) (fun _ _ _ h => h) (Or.inr ⟨by rfl, rfl⟩) (by assumption) ?_
          simp only [Act.put, List.setIfInBounds_toArray, List.set_cons_zero, List.set_cons_succ]
          refine wpAnyH_takeAt (i := 8) (some 24) rfl rfl (by kernel_rfl) (by kernel_rfl) (by kernel_rfl) (fun _ _ _ h => h) (Or.inr ⟨by rfl, rfl⟩) (by assumption) ?_
          simp only [Act.put, List.setIfInBounds_toArray, List.set_cons_zero, List.set_cons_succ]
          refine wpAnyH_takeAt (i := 9) (some 25) rfl rfl (by kernel_rfl) (by kernel_rfl) (by kernel_rfl) (fun _ _ _ h => h) (Or.inr ⟨by rfl, rfl⟩) (by assumption) ?_
          simp only [Act.put, List.setIfInBounds_toArray, List.set_cons_zero, List.set_cons_succ]
          refine wpAnyH_takeAt (i := 10) (v := ?va10) (some 26) rfl rfl (by kernel_rfl) (by kernel_rfl) (by kernel_rfl) (fun _ _ _ h => h) (Or.inl ⟨by rfl, ?hya10⟩) (by assumption) ?resta10
          case hya10 => (intro w hSw; (try dsimp only at hSw); go_simp; all_goals with_reducible rfl)
          simp only [Act.put, List.setIfInBounds_toArray, List.set_cons_zero, List.set_cons_succ]
          refine wpAnyH_takeAt (i := 11) (v := ?va11) (some 27) rfl rfl (by kernel_rfl) (by kernel_rfl) (by kernel_rfl) (fun _ _ _ h => h) (Or.inl ⟨by rfl, ?hya11⟩) (by assumption) ?resta11
          case hya11 => (intro w hSw; (try dsimp only at hSw); go_simp; all_goals with_reducible rfl)
          simp only [Act.put, List.setIfInBounds_toArray, List.set_cons_zero, List.set_cons_succ]
          refine wpAnyH_takeAt (i := 12) (some 28) rfl rfl (by kernel_rfl) (by kernel_rfl) (by kernel_rfl) (fun _ _ _ h => h) (Or.inr ⟨by rfl, rfl⟩) (by assumption) ?_
          simp only [Act.put, List.setIfInBounds_toArray, List.set_cons_zero, List.set_cons_succ]
          refine wpAnyH_takeAt (i := 13) (some 29) rfl rfl (by kernel_rfl) (by kernel_rfl) (by kernel_rfl) (fun _ _ _ h => h) (Or.inr ⟨by rfl, rfl⟩) (by assumption) ?_
          simp only [Act.put, List.setIfInBounds_toArray, List.set_cons_zero, List.set_cons_succ]
          refine wpAnyH_takeAt (i := 14) (some 30) rfl rfl (by kernel_rfl) (by kernel_rfl) (by kernel_rfl) (fun _ _ _ h => h) (Or.inr ⟨by rfl, rfl⟩) (by assumption) ?_
          simp only [Act.put, List.setIfInBounds_toArray, List.set_cons_zero, List.set_cons_succ]
          refine wpAnyH_takeAt (i := 15) (some 31) rfl rfl (by kernel_rfl) (by kernel_rfl) (by kernel_rfl) (fun _ _ _ h => h) (Or.inr ⟨by rfl, rfl⟩) (by assumption) ?_
          simp only [Act.put, List.setIfInBounds_toArray, List.set_cons_zero, List.set_cons_succ]
          refine wpAnyH_takeAt (i := 16) (some 32) rfl rfl (by kernel_rfl) (by kernel_rfl) (by kernel_rfl) (fun _ _ _ h => h) (Or.inr ⟨by rfl, rfl⟩) (by assumption) ?_
          simp only [Act.put, List.setIfInBounds_toArray, List.set_cons_zero, List.set_cons_succ]
          refine wpAnyH_takeAt (i := 17) (some 33) rfl rfl (by kernel_rfl) (by kernel_rfl) (by kernel_rfl) (fun _ _ _ h => h) (Or.inr ⟨by rfl, rfl⟩) (by assumption) ?_
          simp only [Act.put, List.setIfInBounds_toArray, List.set_cons_zero, List.set_cons_succ]
          refine wpAnyH_takeAt (i := 18) (some 34) rfl rfl (by kernel_rfl) (by kernel_rfl) (by kernel_rfl) (fun _ _ _ h => h) (Or.inr ⟨by rfl, rfl⟩) (by assumption) ?_
          simp only [Act.put, List.setIfInBounds_toArray, List.set_cons_zero, List.set_cons_succ]
          refine wpAnyH_takeAt (i := 19) (some 35) rfl rfl (by kernel_rfl) (by kernel_rfl) (by kernel_rfl) (fun _ _ _ h => h) (Or.inr ⟨by rfl, rfl⟩) (by assumption) ?_
          simp only [Act.put, List.setIfInBounds_toArray, List.set_cons_zero, List.set_cons_succ]
          refine wpAnyH_takeAt (i := 20) (some 36) rfl rfl (by kernel_rfl) (by kernel_rfl) (by kernel_rfl) (fun _ _ _ h => h) (Or.inr ⟨by rfl, rfl⟩) (by assumption) ?_
          simp only [Act.put, List.setIfInBounds_toArray, List.set_cons_zero, List.set_cons_succ]
          refine wpAnyH_takeAt (i := 21) (some 37) rfl rfl (by kernel_rfl) (by kernel_rfl) (by kernel_rfl) (fun _ _ _ h => h) (Or.inr ⟨by rfl, rfl⟩) (by assumption) ?_
          simp only [Act.put, List.setIfInBounds_toArray, List.set_cons_zero, List.set_cons_succ]
          refine wpAnyH_takeAt (i := 22) (some 38) rfl rfl (by kernel_rfl) (by kernel_rfl) (by kernel_rfl) (fun _ _ _ h => h) (Or.inr ⟨by rfl, rfl⟩) (by assumption) ?_
          simp only [Act.put, List.setIfInBounds_toArray, List.set_cons_zero, List.set_cons_succ]
          refine wpAnyH_takeAt (i := 23) (some 39) rfl rfl (by kernel_rfl) (by kernel_rfl) (by kernel_rfl) (fun _ _ _ h => h) (Or.inr ⟨by rfl, rfl⟩) (by assumption) ?_
          simp only [Act.put, List.setIfInBounds_toArray, List.set_cons_zero, List.set_cons_succ]
          refine wpAnyH_takeAt (i := 24) (some 40) rfl rfl (by kernel_rfl) (by kernel_rfl) (by kernel_rfl) (fun _ _ _ h => h) (Or.inr ⟨by rfl, rfl⟩) (by assumption) ?_
          simp only [Act.put, List.setIfInBounds_toArray, List.set_cons_zero, List.set_cons_succ]
          refine wpAnyH_takeAt (i := 25) (some 41) rfl rfl (by kernel_rfl) (by kernel_rfl) (by kernel_rfl) (fun _ _ _ h => h) (Or.inr ⟨by rfl, rfl⟩) (by assumption) ?_
          simp only [Act.put, List.setIfInBounds_toArray, List.set_cons_zero, List.set_cons_succ]
          refine wpAnyH_takeAt (i := 26) (some 42) rfl rfl (by kernel_rfl) (by kernel_rfl) (by kernel_rfl) (fun _ _ _ h => h) (Or.inr ⟨by rfl, rfl⟩) (by assumption) ?_
          simp only [Act.put, List.setIfInBounds_toArray, List.set_cons_zero, List.set_cons_succ]
          refine wpAnyH_takeAt (i := 27) (v := ?va27) (some 43) rfl rfl (by kernel_rfl) (by kernel_rfl) (by kernel_rfl) (fun _ _ _ h => h) (Or.inl ⟨by rfl, ?hya27⟩) (by assumption) ?resta27
          case hya27 => (intro w hSw; (try dsimp only at hSw); go_simp; all_goals with_reducible rfl)
          simp only [Act.put, List.setIfInBounds_toArray, List.set_cons_zero, List.set_cons_succ]
          refine wpAnyH_done (by kernel_rfl) ?_ _
          refine NoPanic.normal ?_
          all_goals go_wp2_with fail
          all_goals go_meet
          all_goals exact ⟨by rw [HEO.out]; rfl, f1⟩
        · have q16 : decide ((16 : Int) < x.1.size) = false := decide_eq_false c16
          cases hro : readOk x with
          | false =>
            have eo : okAt readOk l k = false := by unfold okAt; rw [HX.out]; simp [hro]
            have HEO := Lib.hid eo
            have five : ∀ w', Fr (fun _ => False) wa w' → w'.cell? ⟨gx, 0, none⟩ = some (.string x.1) ∧ w'.cell? ⟨gx, 1, none⟩ = some (.int .i64 x.2) := fun w' h => ⟨(hb0.fr h id).cell 0, (hb0.fr h id).cell 1⟩
            have HRO := Lib.hid hro
            clear eo hlt hro
            refine wp_region_noPanic ?_
            refine wp_region_held_drew (S := (fun w' => w'.cell? ⟨gx, 0, none⟩ = some (.string x.1) ∧ w'.cell? ⟨gx, 1, none⟩ = some (.int .i64 x.2))) (by kernel_rfl) (five _ f0) (fun hHeld => ?_)
            refine wpAnyH_takeAt (i := 0) (v := ?vb0) (some 16) rfl rfl (by kernel_rfl) (by kernel_rfl) (by kernel_rfl) (fun _ _ _ h => h) (Or.inl ⟨by rfl, ?hyb0⟩) (by assumption) ?restb0
            case hyb0 => (intro w hSw; (try dsimp only at hSw); go_simp; all_goals with_reducible rfl)
            simp only [Act.put, List.setIfInBounds_toArray, List.set_cons_zero, List.set_cons_succ]
            refine wpAnyH_takeAt (i := 1) (v := ?vb1) (some 17) rfl rfl (by kernel_rfl) (by kernel_rfl) (by kernel_rfl) (fun _ _ _ h => h) (Or.inl ⟨by rfl, ?hyb1⟩) (by assumption) ?restb1
            case hyb1 => (intro w hSw; (try dsimp only at hSw); go_simp; all_goals with_reducible rfl)
            simp only [Act.put, List.setIfInBounds_toArray, List.set_cons_zero, List.set_cons_succ]
            refine wpAnyH_ready (rs := [2]) (by kernel_rfl) (by simp) ?_
            refine AllReadyH.cons rfl (fun K hK => ?_) AllReadyH.nil
            go_simp
            go_at_call 166
            refine (txn_read _ _ _).mono ?_; rintro e w1 ⟨rfl, hf1⟩; have f1 := f0.then_ hf1
            try go_wp2_with fail
            refine hK.out _ _ (five _ f1) (fun hHeld => ?_)
            clear hK K
            refine wpAnyH_takeAt (i := 3) (v := ?vb3) (some 19) rfl rfl (by kernel_rfl) (by kernel_rfl) (by kernel_rfl) (fun _ _ _ h => h) (Or.inl ⟨by rfl, ?hyb3⟩) (by assumption) ?restb3
            case hyb3 => (intro w hSw; (try dsimp only at hSw); go_simp; all_goals with_reducible rfl)
            simp only [Act.put, List.setIfInBounds_toArray, List.set_cons_zero, List.set_cons_succ]
            refine wpAnyH_takeAt (i := 4) (v := ?vb4) (some 20) rfl rfl (by kernel_rfl) (by kernel_rfl) (by kernel_rfl) (fun _ _ _ h => h) (Or.inl ⟨by rfl, ?hyb4⟩) (by assumption) ?restb4
            case hyb4 => (intro w hSw; (try dsimp only at hSw); go_simp; all_goals with_reducible rfl)
            simp only [Act.put, List.setIfInBounds_toArray, List.set_cons_zero, List.set_cons_succ]
            refine wpAnyH_takeAt (i := 5) (v := ?vb5) (some 21) rfl rfl (by kernel_rfl) (by kernel_rfl) (by kernel_rfl) (fun _ _ _ h => h) (Or.inl ⟨by rfl, ?hyb5⟩) (by assumption) ?restb5
            case hyb5 => (intro w hSw; (try dsimp only at hSw); go_simp; all_goals with_reducible rfl)
            simp only [Act.put, List.setIfInBounds_toArray, List.set_cons_zero, List.set_cons_succ]
            refine wpAnyH_takeAt (i := 6) (v := ?vb6) (some 22) rfl rfl (by kernel_rfl) (by kernel_rfl) (by kernel_rfl) (fun _ _ _ h => h) (Or.inl ⟨by rfl, ?hyb6⟩) (by assumption) ?restb6
            case hyb6 => (intro w hSw; (try dsimp only at hSw); go_simp; all_goals with_reducible rfl)
            simp only [Act.put, List.setIfInBounds_toArray, List.set_cons_zero, List.set_cons_succ]
            refine wpAnyH_takeAt (i := 7) (v := ?vb7) (some 23) rfl rfl (by kernel_rfl) (by kernel_rfl) (by kernel_rfl) (fun _ _ _ h => h) (Or.inl ⟨by rfl, ?hyb7⟩) (by assumption) ?restb7
            case hyb7 => (intro w hSw; (try dsimp only at hSw); go_simp; all_goals with_reducible rfl)
            simp only [Act.put, List.setIfInBounds_toArray, List.set_cons_zero, List.set_cons_succ]
            refine wpAnyH_ready (rs := [8]) (by kernel_rfl) (by simp) ?_
            refine AllReadyH.cons rfl (fun K hK => ?_) AllReadyH.nil
            go_simp
            go_at_call 167
            refine (txn_right1 _ x).mono ?_; rintro e w2 ⟨rfl, hf2⟩; rw [HRO.out]; have f2 := f1.then_ hf2
            try go_wp2_with fail
            refine hK.out _ _ (five _ f2) (fun hHeld => ?_)
            clear hK K
            refine wpAnyH_takeAt (i := 9) (v := ?vb9) (some 25) rfl rfl (by kernel_rfl) (by kernel_rfl) (by kernel_rfl) (fun _ _ _ h => h) (Or.inl ⟨by rfl, ?hyb9⟩) (by assumption) ?restb9
            case hyb9 => (intro w hSw; (try dsimp only at hSw); go_simp; all_goals with_reducible rfl)
            simp only [Act.put, List.setIfInBounds_toArray, List.set_cons_zero, List.set_cons_succ]
            refine wpAnyH_takeAt (i := 10) (v := ?vb10) (some 26) rfl rfl (by kernel_rfl) (by kernel_rfl) (by kernel_rfl) (fun _ _ _ h => h) (Or.inl ⟨by rfl, ?hyb10⟩) (by assumption) ?restb10
            case hyb10 => (intro w hSw; (try dsimp only at hSw); go_simp; all_goals with_reducible rfl)
            simp only [Act.put, List.setIfInBounds_toArray, List.set_cons_zero, List.set_cons_succ]
            refine wpAnyH_takeAt (i := 11) (v := ?vb11) (some 27) rfl rfl (by kernel_rfl) (by kernel_rfl) (by kernel_rfl) (fun _ _ _ h => h) (Or.inl ⟨by rfl, ?hyb11⟩) (by assumption) ?restb11
            case hyb11 => (intro w hSw; (try dsimp only at hSw); go_simp; all_goals with_reducible rfl)
            simp only [Act.put, List.setIfInBounds_toArray, List.set_cons_zero, List.set_cons_succ]
            refine wpAnyH_takeAt (i := 12) (some 28) rfl rfl (by kernel_rfl) (by kernel_rfl) (by kernel_rfl) (fun _ _ _ h => h) (Or.inr ⟨by rfl, rfl⟩) (by assumption) ?_
            simp only [Act.put, List.setIfInBounds_toArray, List.set_cons_zero, List.set_cons_succ]
            refine wpAnyH_takeAt (i := 13) (some 29) rfl rfl (by kernel_rfl) (by kernel_rfl) (by kernel_rfl) (fun _ _ _ h => h) (Or.inr ⟨by rfl, rfl⟩) (by assumption) ?_
            simp only [Act.put, List.setIfInBounds_toArray, List.set_cons_zero, List.set_cons_succ]
            refine wpAnyH_takeAt (i := 14) (some 30) rfl rfl (by kernel_rfl) (by kernel_rfl) (by kernel_rfl) (fun _ _ _ h => h) (Or.inr ⟨by rfl, rfl⟩) (by assumption) ?_
            simp only [Act.put, List.setIfInBounds_toArray, List.set_cons_zero, List.set_cons_succ]
            refine wpAnyH_takeAt (i := 15) (some 31) rfl rfl (by kernel_rfl) (by kernel_rfl) (by kernel_rfl) (fun _ _ _ h => h) (Or.inr ⟨by rfl, rfl⟩) (by assumption) ?_
            simp only [Act.put, List.setIfInBounds_toArray, List.set_cons_zero, List.set_cons_succ]
            refine wpAnyH_takeAt (i := 16) (some 32) rfl rfl (by kernel_rfl) (by kernel_rfl) (by kernel_rfl) (fun _ _ _ h => h) (Or.inr ⟨by rfl, rfl⟩) (by assumption) ?_
            simp only [Act.put, List.setIfInBounds_toArray, List.set_cons_zero, List.set_cons_succ]
            refine wpAnyH_takeAt (i := 17) (some 33) rfl rfl (by kernel_rfl) (by kernel_rfl) (by kernel_rfl) (fun _ _ _ h => h) (Or.inr ⟨by rfl, rfl⟩) (by assumption) ?_
            simp only [Act.put, List.setIfInBounds_toArray, List.set_cons_zero, List.set_cons_succ]
            refine wpAnyH_takeAt (i := 18) (some 34) rfl rfl (by kernel_rfl) (by kernel_rfl) (by kernel_rfl) (fun _ _ _ h => h) (Or.inr ⟨by rfl, rfl⟩) (by assumption) ?_
            simp only [Act.put, List.setIfInBounds_toArray, List.set_cons_zero, List.set_cons_succ]
            refine wpAnyH_takeAt (i := 19) (some 35) rfl rfl (by kernel_rfl) (by kernel_rfl) (by kernel_rfl) (fun _ _ _ h => h) (Or.inr ⟨by rfl, rfl⟩) (by assumption) ?_
            simp only [Act.put, List.setIfInBounds_toArray, List.set_cons_zero, List.set_cons_succ]
            refine wpAnyH_takeAt (i := 20) (some 36) rfl rfl (by kernel_rfl) (by kernel_rfl) (by kernel_rfl) (fun _ _ _ h => h) (Or.inr ⟨by rfl, rfl⟩) (by assumption) ?_
            simp only [Act.put, List.setIfInBounds_toArray, List.set_cons_zero, List.set_cons_succ]
            refine wpAnyH_takeAt (i := 21) (some 37) rfl rfl (by kernel_rfl) (by kernel_rfl) (by kernel_rfl) (fun _ _ _ h => h) (Or.inr ⟨by rfl, rfl⟩) (by assumption) ?_
            simp only [Act.put, List.setIfInBounds_toArray, List.set_cons_zero, List.set_cons_succ]
            refine wpAnyH_takeAt (i := 22) (some 38) rfl rfl (by kernel_rfl) (by kernel_rfl) (by kernel_rfl) (fun _ _ _ h => h) (Or.inr ⟨by rfl, rfl⟩) (by assumption) ?_
            simp only [Act.put, List.setIfInBounds_toArray, List.set_cons_zero, List.set_cons_succ]
            refine wpAnyH_takeAt (i := 23) (some 39) rfl rfl (by kernel_rfl) (by kernel_rfl) (by kernel_rfl) (fun _ _ _ h => h) (Or.inr ⟨by rfl, rfl⟩) (by assumption) ?_
            simp only [Act.put, List.setIfInBounds_toArray, List.set_cons_zero, List.set_cons_succ]
            refine wpAnyH_takeAt (i := 24) (some 40) rfl rfl (by kernel_rfl) (by kernel_rfl) (by kernel_rfl) (fun _ _ _ h => h) (Or.inr ⟨by rfl, rfl⟩) (by assumption) ?_
            simp only [Act.put, List.setIfInBounds_toArray, List.set_cons_zero, List.set_cons_succ]
            refine wpAnyH_takeAt (i := 25) (some 41) rfl rfl (by kernel_rfl) (by kernel_rfl) (by kernel_rfl) (fun _ _ _ h => h) (Or.inr ⟨by rfl, rfl⟩) (by assumption) ?_
            simp only [Act.put, List.setIfInBounds_toArray, List.set_cons_zero, List.set_cons_succ]
            refine wpAnyH_takeAt (i := 26) (some 42) rfl rfl (by kernel_rfl) (by kernel_rfl) (by kernel_rfl) (fun _ _ _ h => h) (Or.inr ⟨by rfl, rfl⟩) (by assumption) ?_
            simp only [Act.put, List.setIfInBounds_toArray, List.set_cons_zero, List.set_cons_succ]
            refine wpAnyH_takeAt (i := 27) (v := ?vb27) (some 43) rfl rfl (by kernel_rfl) (by kernel_rfl) (by kernel_rfl) (fun _ _ _ h => h) (Or.inl ⟨by rfl, ?hyb27⟩) (by assumption) ?restb27
            case hyb27 => (intro w hSw; (try dsimp only at hSw); go_simp; all_goals with_reducible rfl)
            simp only [Act.put, List.setIfInBounds_toArray, List.set_cons_zero, List.set_cons_succ]
            refine wpAnyH_done (by kernel_rfl) ?_ _
            refine NoPanic.normal ?_
            all_goals go_wp2_with fail
            all_goals go_meet
            all_goals exact ⟨by rw [HEO.out]; rfl, f2⟩
          | true =>
            have HRO := Lib.hid hro
            cases k with
            | zero =>
              have eo : okAt readOk l 0 = true := by unfold okAt; rw [HX.out]; simp [hro, c16]
              have HEO := Lib.hid eo
              have five : ∀ w', Fr (fun _ => False) wa w' → w'.cell? ⟨gx, 0, none⟩ = some (.string x.1) ∧ w'.cell? ⟨gx, 1, none⟩ = some (.int .i64 x.2) := fun w' h => ⟨(hb0.fr h id).cell 0, (hb0.fr h id).cell 1⟩
              clear eo hlt hro
              refine wp_region_noPanic ?_
              refine wp_region_held_drew (S := (fun w' => w'.cell? ⟨gx, 0, none⟩ = some (.string x.1) ∧ w'.cell? ⟨gx, 1, none⟩ = some (.int .i64 x.2))) (by kernel_rfl) (five _ f0) (fun hHeld => ?_)
              refine wpAnyH_takeAt (i := 0) (v := ?vc0) (some 16) rfl rfl (by kernel_rfl) (by kernel_rfl) (by kernel_rfl) (fun _ _ _ h => h) (Or.inl ⟨by rfl, ?hyc0⟩) (by assumption) ?restc0
              case hyc0 => (intro w hSw; (try dsimp only at hSw); go_simp; all_goals with_reducible rfl)
              simp only [Act.put, List.setIfInBounds_toArray, List.set_cons_zero, List.set_cons_succ]
              refine wpAnyH_takeAt (i := 1) (v := ?vc1) (some 17) rfl rfl (by kernel_rfl) (by kernel_rfl) (by kernel_rfl) (fun _ _ _ h => h) (Or.inl ⟨by rfl, ?hyc1⟩) (by assumption) ?restc1
              case hyc1 => (intro w hSw; (try dsimp only at hSw); go_simp; all_goals with_reducible rfl)
              simp only [Act.put, List.setIfInBounds_toArray, List.set_cons_zero, List.set_cons_succ]
              refine wpAnyH_ready (rs := [2]) (by kernel_rfl) (by simp) ?_
              refine AllReadyH.cons rfl (fun K hK => ?_) AllReadyH.nil
              go_simp
              go_at_call 166
              refine (txn_read _ _ _).mono ?_; rintro e w1 ⟨rfl, hf1⟩; have f1 := f0.then_ hf1
              try go_wp2_with fail
              refine hK.out _ _ (five _ f1) (fun hHeld => ?_)
              clear hK K
              refine wpAnyH_takeAt (i := 3) (v := ?vc3) (some 19) rfl rfl (by kernel_rfl) (by kernel_rfl) (by kernel_rfl) (fun _ _ _ h => h) (Or.inl ⟨by rfl, ?hyc3⟩) (by assumption) ?restc3
              case hyc3 => (intro w hSw; (try dsimp only at hSw); go_simp; all_goals with_reducible rfl)
              simp only [Act.put, List.setIfInBounds_toArray, List.set_cons_zero, List.set_cons_succ]
              refine wpAnyH_takeAt (i := 4) (v := ?vc4) (some 20) rfl rfl (by kernel_rfl) (by kernel_rfl) (by kernel_rfl) (fun _ _ _ h => h) (Or.inl ⟨by rfl, ?hyc4⟩) (by assumption) ?restc4
              case hyc4 => (intro w hSw; (try dsimp only at hSw); go_simp; all_goals with_reducible rfl)
              simp only [Act.put, List.setIfInBounds_toArray, List.set_cons_zero, List.set_cons_succ]
              refine wpAnyH_takeAt (i := 5) (v := ?vc5) (some 21) rfl rfl (by kernel_rfl) (by kernel_rfl) (by kernel_rfl) (fun _ _ _ h => h) (Or.inl ⟨by rfl, ?hyc5⟩) (by assumption) ?restc5
              case hyc5 => (intro w hSw; (try dsimp only at hSw); go_simp; all_goals with_reducible rfl)
              simp only [Act.put, List.setIfInBounds_toArray, List.set_cons_zero, List.set_cons_succ]
              refine wpAnyH_takeAt (i := 6) (v := ?vc6) (some 22) rfl rfl (by kernel_rfl) (by kernel_rfl) (by kernel_rfl) (fun _ _ _ h => h) (Or.inl ⟨by rfl, ?hyc6⟩) (by assumption) ?restc6
              case hyc6 => (intro w hSw; (try dsimp only at hSw); go_simp; all_goals with_reducible rfl)
              simp only [Act.put, List.setIfInBounds_toArray, List.set_cons_zero, List.set_cons_succ]
              refine wpAnyH_takeAt (i := 7) (v := ?vc7) (some 23) rfl rfl (by kernel_rfl) (by kernel_rfl) (by kernel_rfl) (fun _ _ _ h => h) (Or.inl ⟨by rfl, ?hyc7⟩) (by assumption) ?restc7
              case hyc7 => (intro w hSw; (try dsimp only at hSw); go_simp; all_goals with_reducible rfl)
              simp only [Act.put, List.setIfInBounds_toArray, List.set_cons_zero, List.set_cons_succ]
              refine wpAnyH_ready (rs := [8]) (by kernel_rfl) (by simp) ?_
              refine AllReadyH.cons rfl (fun K hK => ?_) AllReadyH.nil
              go_simp
              go_at_call 167
              refine (txn_right1 _ x).mono ?_; rintro e w2 ⟨rfl, hf2⟩; rw [HRO.out]; have f2 := f1.then_ hf2
              try go_wp2_with fail
              refine hK.out _ _ (five _ f2) (fun hHeld => ?_)
              clear hK K
              refine wpAnyH_takeAt (i := 9) (v := ?vc9) (some 25) rfl rfl (by kernel_rfl) (by kernel_rfl) (by kernel_rfl) (fun _ _ _ h => h) (Or.inl ⟨by rfl, ?hyc9⟩) (by assumption) ?restc9
              case hyc9 => (intro w hSw; (try dsimp only at hSw); go_simp; all_goals with_reducible rfl)
              simp only [Act.put, List.setIfInBounds_toArray, List.set_cons_zero, List.set_cons_succ]
              refine wpAnyH_takeAt (i := 10) (v := ?vc10) (some 26) rfl rfl (by kernel_rfl) (by kernel_rfl) (by kernel_rfl) (fun _ _ _ h => h) (Or.inl ⟨by rfl, ?hyc10⟩) (by assumption) ?restc10
              case hyc10 => (intro w hSw; (try dsimp only at hSw); go_simp; all_goals with_reducible rfl)
              simp only [Act.put, List.setIfInBounds_toArray, List.set_cons_zero, List.set_cons_succ]
              refine wpAnyH_takeAt (i := 11) (v := ?vc11) (some 27) rfl rfl (by kernel_rfl) (by kernel_rfl) (by kernel_rfl) (fun _ _ _ h => h) (Or.inl ⟨by rfl, ?hyc11⟩) (by assumption) ?restc11
              case hyc11 => (intro w hSw; (try dsimp only at hSw); go_simp; all_goals with_reducible rfl)
              simp only [Act.put, List.setIfInBounds_toArray, List.set_cons_zero, List.set_cons_succ]
              refine wpAnyH_takeAt (i := 12) (v := ?vc12) (some 28) rfl rfl (by kernel_rfl) (by kernel_rfl) (by kernel_rfl) (fun _ _ _ h => h) (Or.inl ⟨by rfl, ?hyc12⟩) (by assumption) ?restc12
              case hyc12 => (intro w hSw; (try dsimp only at hSw); go_simp; all_goals with_reducible rfl)
              simp only [Act.put, List.setIfInBounds_toArray, List.set_cons_zero, List.set_cons_succ]
              refine wpAnyH_takeAt (i := 13) (v := ?vc13) (some 29) rfl rfl (by kernel_rfl) (by kernel_rfl) (by kernel_rfl) (fun _ _ _ h => h) (Or.inl ⟨by rfl, ?hyc13⟩) (by assumption) ?restc13
              case hyc13 => (intro w hSw; (try dsimp only at hSw); go_simp; all_goals with_reducible rfl)
              simp only [Act.put, List.setIfInBounds_toArray, List.set_cons_zero, List.set_cons_succ]
              refine wpAnyH_takeAt (i := 14) (v := ?vc14) (some 30) rfl rfl (by kernel_rfl) (by kernel_rfl) (by kernel_rfl) (fun _ _ _ h => h) (Or.inl ⟨by rfl, ?hyc14⟩) (by assumption) ?restc14
              case hyc14 => (intro w hSw; (try dsimp only at hSw); go_simp; all_goals with_reducible rfl)
              simp only [Act.put, List.setIfInBounds_toArray, List.set_cons_zero, List.set_cons_succ]
              refine wpAnyH_takeAt (i := 15) (some 31) rfl rfl (by kernel_rfl) (by kernel_rfl) (by kernel_rfl) (fun _ _ _ h => h) (Or.inr ⟨by rfl, rfl⟩) (by assumption) ?_
              simp only [Act.put, List.setIfInBounds_toArray, List.set_cons_zero, List.set_cons_succ]
              refine wpAnyH_takeAt (i := 16) (some 32) rfl rfl (by kernel_rfl) (by kernel_rfl) (by kernel_rfl) (fun _ _ _ h => h) (Or.inr ⟨by rfl, rfl⟩) (by assumption) ?_
              simp only [Act.put, List.setIfInBounds_toArray, List.set_cons_zero, List.set_cons_succ]
              refine wpAnyH_takeAt (i := 17) (some 33) rfl rfl (by kernel_rfl) (by kernel_rfl) (by kernel_rfl) (fun _ _ _ h => h) (Or.inr ⟨by rfl, rfl⟩) (by assumption) ?_
              simp only [Act.put, List.setIfInBounds_toArray, List.set_cons_zero, List.set_cons_succ]
              refine wpAnyH_takeAt (i := 18) (some 34) rfl rfl (by kernel_rfl) (by kernel_rfl) (by kernel_rfl) (fun _ _ _ h => h) (Or.inr ⟨by rfl, rfl⟩) (by assumption) ?_
              simp only [Act.put, List.setIfInBounds_toArray, List.set_cons_zero, List.set_cons_succ]
              refine wpAnyH_takeAt (i := 19) (some 35) rfl rfl (by kernel_rfl) (by kernel_rfl) (by kernel_rfl) (fun _ _ _ h => h) (Or.inr ⟨by rfl, rfl⟩) (by assumption) ?_
              simp only [Act.put, List.setIfInBounds_toArray, List.set_cons_zero, List.set_cons_succ]
              refine wpAnyH_takeAt (i := 20) (some 36) rfl rfl (by kernel_rfl) (by kernel_rfl) (by kernel_rfl) (fun _ _ _ h => h) (Or.inr ⟨by rfl, rfl⟩) (by assumption) ?_
              simp only [Act.put, List.setIfInBounds_toArray, List.set_cons_zero, List.set_cons_succ]
              refine wpAnyH_takeAt (i := 21) (some 37) rfl rfl (by kernel_rfl) (by kernel_rfl) (by kernel_rfl) (fun _ _ _ h => h) (Or.inr ⟨by rfl, rfl⟩) (by assumption) ?_
              simp only [Act.put, List.setIfInBounds_toArray, List.set_cons_zero, List.set_cons_succ]
              refine wpAnyH_takeAt (i := 22) (some 38) rfl rfl (by kernel_rfl) (by kernel_rfl) (by kernel_rfl) (fun _ _ _ h => h) (Or.inr ⟨by rfl, rfl⟩) (by assumption) ?_
              simp only [Act.put, List.setIfInBounds_toArray, List.set_cons_zero, List.set_cons_succ]
              refine wpAnyH_takeAt (i := 23) (some 39) rfl rfl (by kernel_rfl) (by kernel_rfl) (by kernel_rfl) (fun _ _ _ h => h) (Or.inr ⟨by rfl, rfl⟩) (by assumption) ?_
              simp only [Act.put, List.setIfInBounds_toArray, List.set_cons_zero, List.set_cons_succ]
              refine wpAnyH_takeAt (i := 24) (some 40) rfl rfl (by kernel_rfl) (by kernel_rfl) (by kernel_rfl) (fun _ _ _ h => h) (Or.inr ⟨by rfl, rfl⟩) (by assumption) ?_
              simp only [Act.put, List.setIfInBounds_toArray, List.set_cons_zero, List.set_cons_succ]
              refine wpAnyH_takeAt (i := 25) (some 41) rfl rfl (by kernel_rfl) (by kernel_rfl) (by kernel_rfl) (fun _ _ _ h => h) (Or.inr ⟨by rfl, rfl⟩) (by assumption) ?_
              simp only [Act.put, List.setIfInBounds_toArray, List.set_cons_zero, List.set_cons_succ]
              refine wpAnyH_takeAt (i := 26) (v := ?vc26) (some 42) rfl rfl (by kernel_rfl) (by kernel_rfl) (by kernel_rfl) (fun _ _ _ h => h) (Or.inl ⟨by rfl, ?hyc26⟩) (by assumption) ?restc26
              case hyc26 => (intro w hSw; (try dsimp only at hSw); go_simp; all_goals with_reducible rfl)
              simp only [Act.put, List.setIfInBounds_toArray, List.set_cons_zero, List.set_cons_succ]
              refine wpAnyH_takeAt (i := 27) (v := ?vc27) (some 43) rfl rfl (by kernel_rfl) (by kernel_rfl) (by kernel_rfl) (fun _ _ _ h => h) (Or.inl ⟨by rfl, ?hyc27⟩) (by assumption) ?restc27
              case hyc27 => (intro w hSw; (try dsimp only at hSw); go_simp; all_goals with_reducible rfl)
              simp only [Act.put, List.setIfInBounds_toArray, List.set_cons_zero, List.set_cons_succ]
              refine wpAnyH_done (by kernel_rfl) ?_ _
              refine NoPanic.normal ?_
              all_goals go_wp2_with fail
              all_goals go_meet
              all_goals exact ⟨by rw [HEO.out]; rfl, f2⟩
            | succ j =>
              obtain ⟨y, hy⟩ : ∃ y, l[j]? = some y := ⟨l[j]'(by omega), List.getElem?_eq_getElem (by omega)⟩
              obtain ⟨b', o', e1, _, g0, g1⟩ := HR.out j y hy
              cases e1
              have eo : okAt readOk l (j + 1) = strLess y.1 x.1 := by unfold okAt; rw [HX.out]; dsimp only; rw [hy]; simp [hro, c16]
              have hfr : Fr (fun _ => False) w wa := hf.then_ hfa
              have G0 := Lib.hid g0
              have G1 := Lib.hid g1
              have five : ∀ w', Fr (fun _ => False) wa w' → w'.cell? ⟨gx, 0, none⟩ = some (.string x.1) ∧ w'.cell? ⟨gx, 1, none⟩ = some (.int .i64 x.2) ∧ w'.cell? ⟨b, o + j * 2, none⟩ = some (.string y.1) ∧ w'.cell? ⟨b, o + j * 2 + 1, none⟩ = some (.int .i64 y.2) := fun w' h => ⟨(hb0.fr h id).cell 0, (hb0.fr h id).cell 1, (hfr.then_ h).cell_some G0.out id, (hfr.then_ h).cell_some G1.out id⟩
              have qk : decide ((0 : Int) < ((j + 1 : Nat) : Int)) = true := decide_eq_true (by omega)
              have qj : ((j + 1 : Nat) : Int) - 1 = (j : Int) := by omega
              have qj0 : (0 : Int) ≤ (j : Int) := by omega
              have qjw : IntKind.i64.wrap (j : Int) = (j : Int) := wrap_i64 j (by omega)
              have qj1 : (j : Int) < (l.length : Int) := by omega
              cases hsl : Op.bytesLess y.1.toList x.1.toList with
              | false =>
                have HEO := Lib.hid (eo.trans hsl)
                clear eo hro g0 g1 hy
                refine wp_region_noPanic ?_
                refine wp_region_held_drew (S := (fun w' => w'.cell? ⟨gx, 0, none⟩ = some (.string x.1) ∧ w'.cell? ⟨gx, 1, none⟩ = some (.int .i64 x.2) ∧ w'.cell? ⟨b, o + j * 2, none⟩ = some (.string y.1) ∧ w'.cell? ⟨b, o + j * 2 + 1, none⟩ = some (.int .i64 y.2))) (by kernel_rfl) (five _ f0) (fun hHeld => ?_)
                refine wpAnyH_takeAt (i := 0) (v := ?vd0) (some 16) rfl rfl (by kernel_rfl) (by kernel_rfl) (by kernel_rfl) (fun _ _ _ h => h) (Or.inl ⟨by rfl, ?hyd0⟩) (by assumption) ?restd0
                case hyd0 => (intro w hSw; (try dsimp only at hSw); go_simp; all_goals with_reducible rfl)
                simp only [Act.put, List.setIfInBounds_toArray, List.set_cons_zero, List.set_cons_succ]
                refine wpAnyH_takeAt (i := 1) (v := ?vd1) (some 17) rfl rfl (by kernel_rfl) (by kernel_rfl) (by kernel_rfl) (fun _ _ _ h => h) (Or.inl ⟨by rfl, ?hyd1⟩) (by assumption) ?restd1
                case hyd1 => (intro w hSw; (try dsimp only at hSw); go_simp; all_goals with_reducible rfl)
                simp only [Act.put, List.setIfInBounds_toArray, List.set_cons_zero, List.set_cons_succ]
                refine wpAnyH_ready (rs := [2]) (by kernel_rfl) (by simp) ?_
                refine AllReadyH.cons rfl (fun K hK => ?_) AllReadyH.nil
                go_simp
                go_at_call 166
                refine (txn_read _ _ _).mono ?_; rintro e w1 ⟨rfl, hf1⟩; have f1 := f0.then_ hf1
                try go_wp2_with fail
                refine hK.out _ _ (five _ f1) (fun hHeld => ?_)
                clear hK K
                refine wpAnyH_takeAt (i := 3) (v := ?vd3) (some 19) rfl rfl (by kernel_rfl) (by kernel_rfl) (by kernel_rfl) (fun _ _ _ h => h) (Or.inl ⟨by rfl, ?hyd3⟩) (by assumption) ?restd3
                case hyd3 => (intro w hSw; (try dsimp only at hSw); go_simp; all_goals with_reducible rfl)
                simp only [Act.put, List.setIfInBounds_toArray, List.set_cons_zero, List.set_cons_succ]
                refine wpAnyH_takeAt (i := 4) (v := ?vd4) (some 20) rfl rfl (by kernel_rfl) (by kernel_rfl) (by kernel_rfl) (fun _ _ _ h => h) (Or.inl ⟨by rfl, ?hyd4⟩) (by assumption) ?restd4
                case hyd4 => (intro w hSw; (try dsimp only at hSw); go_simp; all_goals with_reducible rfl)
                simp only [Act.put, List.setIfInBounds_toArray, List.set_cons_zero, List.set_cons_succ]
                refine wpAnyH_takeAt (i := 5) (v := ?vd5) (some 21) rfl rfl (by kernel_rfl) (by kernel_rfl) (by kernel_rfl) (fun _ _ _ h => h) (Or.inl ⟨by rfl, ?hyd5⟩) (by assumption) ?restd5
                case hyd5 => (intro w hSw; (try dsimp only at hSw); go_simp; all_goals with_reducible rfl)
                simp only [Act.put, List.setIfInBounds_toArray, List.set_cons_zero, List.set_cons_succ]
                refine wpAnyH_takeAt (i := 6) (v := ?vd6) (some 22) rfl rfl (by kernel_rfl) (by kernel_rfl) (by kernel_rfl) (fun _ _ _ h => h) (Or.inl ⟨by rfl, ?hyd6⟩) (by assumption) ?restd6
                case hyd6 => (intro w hSw; (try dsimp only at hSw); go_simp; all_goals with_reducible rfl)
                simp only [Act.put, List.setIfInBounds_toArray, List.set_cons_zero, List.set_cons_succ]
                refine wpAnyH_takeAt (i := 7) (v := ?vd7) (some 23) rfl rfl (by kernel_rfl) (by kernel_rfl) (by kernel_rfl) (fun _ _ _ h => h) (Or.inl ⟨by rfl, ?hyd7⟩) (by assumption) ?restd7
                case hyd7 => (intro w hSw; (try dsimp only at hSw); go_simp; all_goals with_reducible rfl)
                simp only [Act.put, List.setIfInBounds_toArray, List.set_cons_zero, List.set_cons_succ]
                refine wpAnyH_ready (rs := [8]) (by kernel_rfl) (by simp) ?_
                refine AllReadyH.cons rfl (fun K hK => ?_) AllReadyH.nil
                go_simp
                go_at_call 167
                refine (txn_right1 _ x).mono ?_; rintro e w2 ⟨rfl, hf2⟩; rw [HRO.out]; have f2 := f1.then_ hf2
                try go_wp2_with fail
                refine hK.out _ _ (five _ f2) (fun hHeld => ?_)
                clear hK K
                refine wpAnyH_takeAt (i := 9) (v := ?vd9) (some 25) rfl rfl (by kernel_rfl) (by kernel_rfl) (by kernel_rfl) (fun _ _ _ h => h) (Or.inl ⟨by rfl, ?hyd9⟩) (by assumption) ?restd9
                case hyd9 => (intro w hSw; (try dsimp only at hSw); go_simp; all_goals with_reducible rfl)
                simp only [Act.put, List.setIfInBounds_toArray, List.set_cons_zero, List.set_cons_succ]
                refine wpAnyH_takeAt (i := 10) (v := ?vd10) (some 26) rfl rfl (by kernel_rfl) (by kernel_rfl) (by kernel_rfl) (fun _ _ _ h => h) (Or.inl ⟨by rfl, ?hyd10⟩) (by assumption) ?restd10
                case hyd10 => (intro w hSw; (try dsimp only at hSw); go_simp; all_goals with_reducible rfl)
                simp only [Act.put, List.setIfInBounds_toArray, List.set_cons_zero, List.set_cons_succ]
                refine wpAnyH_takeAt (i := 11) (v := ?vd11) (some 27) rfl rfl (by kernel_rfl) (by kernel_rfl) (by kernel_rfl) (fun _ _ _ h => h) (Or.inl ⟨by rfl, ?hyd11⟩) (by assumption) ?restd11
                case hyd11 => (intro w hSw; (try dsimp only at hSw); go_simp; all_goals with_reducible rfl)
                simp only [Act.put, List.setIfInBounds_toArray, List.set_cons_zero, List.set_cons_succ]
                refine wpAnyH_takeAt (i := 12) (v := ?vd12) (some 28) rfl rfl (by kernel_rfl) (by kernel_rfl) (by kernel_rfl) (fun _ _ _ h => h) (Or.inl ⟨by rfl, ?hyd12⟩) (by assumption) ?restd12
                case hyd12 => (intro w hSw; (try dsimp only at hSw); go_simp; all_goals with_reducible rfl)
                simp only [Act.put, List.setIfInBounds_toArray, List.set_cons_zero, List.set_cons_succ]
                refine wpAnyH_takeAt (i := 13) (v := ?vd13) (some 29) rfl rfl (by kernel_rfl) (by kernel_rfl) (by kernel_rfl) (fun _ _ _ h => h) (Or.inl ⟨by rfl, ?hyd13⟩) (by assumption) ?restd13
                case hyd13 => (intro w hSw; (try dsimp only at hSw); go_simp; all_goals with_reducible rfl)
                simp only [Act.put, List.setIfInBounds_toArray, List.set_cons_zero, List.set_cons_succ]
                refine wpAnyH_takeAt (i := 14) (v := ?vd14) (some 30) rfl rfl (by kernel_rfl) (by kernel_rfl) (by kernel_rfl) (fun _ _ _ h => h) (Or.inl ⟨by rfl, ?hyd14⟩) (by assumption) ?restd14
                case hyd14 => (intro w hSw; (try dsimp only at hSw); go_simp; all_goals with_reducible rfl)
                simp only [Act.put, List.setIfInBounds_toArray, List.set_cons_zero, List.set_cons_succ]
                refine wpAnyH_takeAt (i := 15) (v := ?vd15) (some 31) rfl rfl (by kernel_rfl) (by kernel_rfl) (by kernel_rfl) (fun _ _ _ h => h) (Or.inl ⟨by rfl, ?hyd15⟩) (by assumption) ?restd15
                case hyd15 => (intro w hSw; (try dsimp only at hSw); go_simp; all_goals with_reducible rfl)
                simp only [Act.put, List.setIfInBounds_toArray, List.set_cons_zero, List.set_cons_succ]
                refine wpAnyH_takeAt (i := 16) (v := ?vd16) (some 32) rfl rfl (by kernel_rfl) (by kernel_rfl) (by kernel_rfl) (fun _ _ _ h => h) (Or.inl ⟨by rfl, ?hyd16⟩) (by assumption) ?restd16
                case hyd16 => (intro w hSw; (try dsimp only at hSw); go_simp; all_goals with_reducible rfl)
                simp only [Act.put, List.setIfInBounds_toArray, List.set_cons_zero, List.set_cons_succ]
                refine wpAnyH_takeAt (i := 17) (v := ?vd17) (some 33) rfl rfl (by kernel_rfl) (by kernel_rfl) (by kernel_rfl) (fun _ _ _ h => h) (Or.inl ⟨by rfl, ?hyd17⟩) (by assumption) ?restd17
                case hyd17 => (intro w hSw; (try dsimp only at hSw); go_simp; all_goals with_reducible rfl)
                simp only [Act.put, List.setIfInBounds_toArray, List.set_cons_zero, List.set_cons_succ]
                refine wpAnyH_takeAt (i := 18) (v := ?vd18) (some 34) rfl rfl (by kernel_rfl) (by kernel_rfl) (by kernel_rfl) (fun _ _ _ h => h) (Or.inl ⟨by rfl, ?hyd18⟩) (by assumption) ?restd18
                case hyd18 => (intro w hSw; (try dsimp only at hSw); go_simp; all_goals with_reducible rfl)
                simp only [Act.put, List.setIfInBounds_toArray, List.set_cons_zero, List.set_cons_succ]
                refine wpAnyH_takeAt (i := 19) (v := ?vd19) (some 35) rfl rfl (by kernel_rfl) (by kernel_rfl) (by kernel_rfl) (fun _ _ _ h => h) (Or.inl ⟨by rfl, ?hyd19⟩) (by assumption) ?restd19
                case hyd19 => (intro w hSw; (try dsimp only at hSw); go_simp; all_goals with_reducible rfl)
                simp only [Act.put, List.setIfInBounds_toArray, List.set_cons_zero, List.set_cons_succ]
                refine wpAnyH_takeAt (i := 20) (v := ?vd20) (some 36) rfl rfl (by kernel_rfl) (by kernel_rfl) (by kernel_rfl) (fun _ _ _ h => h) (Or.inl ⟨by rfl, ?hyd20⟩) (by assumption) ?restd20
                case hyd20 => (intro w hSw; (try dsimp only at hSw); go_simp; all_goals with_reducible rfl)
                simp only [Act.put, List.setIfInBounds_toArray, List.set_cons_zero, List.set_cons_succ]
                refine wpAnyH_takeAt (i := 22) (v := ?vd22) (some 38) rfl rfl (by kernel_rfl) (by kernel_rfl) (by kernel_rfl) (fun _ _ _ h => h) (Or.inl ⟨by rfl, ?hyd22⟩) (by assumption) ?restd22
                case hyd22 => (intro w hSw; (try dsimp only at hSw); go_simp; all_goals with_reducible rfl)
                simp only [Act.put, List.setIfInBounds_toArray, List.set_cons_zero, List.set_cons_succ]
                refine wpAnyH_takeAt (i := 23) (v := ?vd23) (some 39) rfl rfl (by kernel_rfl) (by kernel_rfl) (by kernel_rfl) (fun _ _ _ h => h) (Or.inl ⟨by rfl, ?hyd23⟩) (by assumption) ?restd23
                case hyd23 => (intro w hSw; (try dsimp only at hSw); go_simp; all_goals with_reducible rfl)
                simp only [Act.put, List.setIfInBounds_toArray, List.set_cons_zero, List.set_cons_succ]
                refine wpAnyH_ready (rs := [21]) (by kernel_rfl) (by simp) ?_
                refine AllReadyH.cons rfl (fun K hK => ?_) AllReadyH.nil
                go_simp
                go_at_call 166
                refine (txn_read _ _ _).mono ?_; rintro e w3 ⟨rfl, hf3⟩; have f3 := f2.then_ hf3
                try go_wp2_with fail
                refine hK.out _ _ (five _ f3) (fun hHeld => ?_)
                clear hK K
                refine wpAnyH_ready (rs := [24]) (by kernel_rfl) (by simp) ?_
                refine AllReadyH.cons rfl (fun K hK => ?_) AllReadyH.nil
                go_simp
                go_at_call 166
                refine (txn_read _ _ _).mono ?_; rintro e w4 ⟨rfl, hf4⟩; have f4 := f3.then_ hf4
                try go_wp2_with fail
                refine hK.out _ _ (five _ f4) (fun hHeld => ?_)
                clear hK K
                refine wpAnyH_takeAt (i := 25) (v := ?vd25) (some 41) rfl rfl (by kernel_rfl) (by kernel_rfl) (by kernel_rfl) (fun _ _ _ h => h) (Or.inl ⟨by rfl, ?hyd25⟩) (by assumption) ?restd25
                case hyd25 => (intro w hSw; (try dsimp only at hSw); go_simp; all_goals with_reducible rfl)
                simp only [Act.put, List.setIfInBounds_toArray, List.set_cons_zero, List.set_cons_succ]
                refine wpAnyH_takeAt (i := 26) (v := ?vd26) (some 42) rfl rfl (by kernel_rfl) (by kernel_rfl) (by kernel_rfl) (fun _ _ _ h => h) (Or.inl ⟨by rfl, ?hyd26⟩) (by assumption) ?restd26
                case hyd26 => (intro w hSw; (try dsimp only at hSw); go_simp; all_goals with_reducible rfl)
                simp only [Act.put, List.setIfInBounds_toArray, List.set_cons_zero, List.set_cons_succ]
                refine wpAnyH_takeAt (i := 27) (v := ?vd27) (some 43) rfl rfl (by kernel_rfl) (by kernel_rfl) (by kernel_rfl) (fun _ _ _ h => h) (Or.inl ⟨by rfl, ?hyd27⟩) (by assumption) ?restd27
                case hyd27 => (intro w hSw; (try dsimp only at hSw); go_simp; all_goals with_reducible rfl)
                simp only [Act.put, List.setIfInBounds_toArray, List.set_cons_zero, List.set_cons_succ]
                refine wpAnyH_done (by kernel_rfl) ?_ _
                refine NoPanic.normal ?_
                all_goals go_wp2_with fail
                all_goals go_meet
                all_goals exact ⟨by rw [HEO.out]; rfl, f4⟩
              | true =>
                have HEO := Lib.hid (eo.trans hsl)
                clear eo hro g0 g1 hy
                refine wp_region_noPanic ?_
                refine wp_region_held_drew (S := (fun w' => w'.cell? ⟨gx, 0, none⟩ = some (.string x.1) ∧ w'.cell? ⟨gx, 1, none⟩ = some (.int .i64 x.2) ∧ w'.cell? ⟨b, o + j * 2, none⟩ = some (.string y.1) ∧ w'.cell? ⟨b, o + j * 2 + 1, none⟩ = some (.int .i64 y.2))) (by kernel_rfl) (five _ f0) (fun hHeld => ?_)
                refine wpAnyH_takeAt (i := 0) (v := ?ve0) (some 16) rfl rfl (by kernel_rfl) (by kernel_rfl) (by kernel_rfl) (fun _ _ _ h => h) (Or.inl ⟨by rfl, ?hye0⟩) (by assumption) ?reste0
                case hye0 => (intro w hSw; (try dsimp only at hSw); go_simp; all_goals with_reducible rfl)
                simp only [Act.put, List.setIfInBounds_toArray, List.set_cons_zero, List.set_cons_succ]
                refine wpAnyH_takeAt (i := 1) (v := ?ve1) (some 17) rfl rfl (by kernel_rfl) (by kernel_rfl) (by kernel_rfl) (fun _ _ _ h => h) (Or.inl ⟨by rfl, ?hye1⟩) (by assumption) ?reste1
                case hye1 => (intro w hSw; (try dsimp only at hSw); go_simp; all_goals with_reducible rfl)
                simp only [Act.put, List.setIfInBounds_toArray, List.set_cons_zero, List.set_cons_succ]
                refine wpAnyH_ready (rs := [2]) (by kernel_rfl) (by simp) ?_
                refine AllReadyH.cons rfl (fun K hK => ?_) AllReadyH.nil
                go_simp
                go_at_call 166
                refine (txn_read _ _ _).mono ?_; rintro e w1 ⟨rfl, hf1⟩; have f1 := f0.then_ hf1
                try go_wp2_with fail
                refine hK.out _ _ (five _ f1) (fun hHeld => ?_)
                clear hK K
                refine wpAnyH_takeAt (i := 3) (v := ?ve3) (some 19) rfl rfl (by kernel_rfl) (by kernel_rfl) (by kernel_rfl) (fun _ _ _ h => h) (Or.inl ⟨by rfl, ?hye3⟩) (by assumption) ?reste3
                case hye3 => (intro w hSw; (try dsimp only at hSw); go_simp; all_goals with_reducible rfl)
                simp only [Act.put, List.setIfInBounds_toArray, List.set_cons_zero, List.set_cons_succ]
                refine wpAnyH_takeAt (i := 4) (v := ?ve4) (some 20) rfl rfl (by kernel_rfl) (by kernel_rfl) (by kernel_rfl) (fun _ _ _ h => h) (Or.inl ⟨by rfl, ?hye4⟩) (by assumption) ?reste4
                case hye4 => (intro w hSw; (try dsimp only at hSw); go_simp; all_goals with_reducible rfl)
                simp only [Act.put, List.setIfInBounds_toArray, List.set_cons_zero, List.set_cons_succ]
                refine wpAnyH_takeAt (i := 5) (v := ?ve5) (some 21) rfl rfl (by kernel_rfl) (by kernel_rfl) (by kernel_rfl) (fun _ _ _ h => h) (Or.inl ⟨by rfl, ?hye5⟩) (by assumption) ?reste5
                case hye5 => (intro w hSw; (try dsimp only at hSw); go_simp; all_goals with_reducible rfl)
                simp only [Act.put, List.setIfInBounds_toArray, List.set_cons_zero, List.set_cons_succ]
                refine wpAnyH_takeAt (i := 6) (v := ?ve6) (some 22) rfl rfl (by kernel_rfl) (by kernel_rfl) (by kernel_rfl) (fun _ _ _ h => h) (Or.inl ⟨by rfl, ?hye6⟩) (by assumption) ?reste6
                case hye6 => (intro w hSw; (try dsimp only at hSw); go_simp; all_goals with_reducible rfl)
                simp only [Act.put, List.setIfInBounds_toArray, List.set_cons_zero, List.set_cons_succ]
                refine wpAnyH_takeAt (i := 7) (v := ?ve7) (some 23) rfl rfl (by kernel_rfl) (by kernel_rfl) (by kernel_rfl) (fun _ _ _ h => h) (Or.inl ⟨by rfl, ?hye7⟩) (by assumption) ?reste7
                case hye7 => (intro w hSw; (try dsimp only at hSw); go_simp; all_goals with_reducible rfl)
                simp only [Act.put, List.setIfInBounds_toArray, List.set_cons_zero, List.set_cons_succ]
                refine wpAnyH_ready (rs := [8]) (by kernel_rfl) (by simp) ?_
                refine AllReadyH.cons rfl (fun K hK => ?_) AllReadyH.nil
                go_simp
                go_at_call 167
                refine (txn_right1 _ x).mono ?_; rintro e w2 ⟨rfl, hf2⟩; rw [HRO.out]; have f2 := f1.then_ hf2
                try go_wp2_with fail
                refine hK.out _ _ (five _ f2) (fun hHeld => ?_)
                clear hK K
                refine wpAnyH_takeAt (i := 9) (v := ?ve9) (some 25) rfl rfl (by kernel_rfl) (by kernel_rfl) (by kernel_rfl) (fun _ _ _ h => h) (Or.inl ⟨by rfl, ?hye9⟩) (by assumption) ?reste9
                case hye9 => (intro w hSw; (try dsimp only at hSw); go_simp; all_goals with_reducible rfl)
                simp only [Act.put, List.setIfInBounds_toArray, List.set_cons_zero, List.set_cons_succ]
                refine wpAnyH_takeAt (i := 10) (v := ?ve10) (some 26) rfl rfl (by kernel_rfl) (by kernel_rfl) (by kernel_rfl) (fun _ _ _ h => h) (Or.inl ⟨by rfl, ?hye10⟩) (by assumption) ?reste10
                case hye10 => (intro w hSw; (try dsimp only at hSw); go_simp; all_goals with_reducible rfl)
                simp only [Act.put, List.setIfInBounds_toArray, List.set_cons_zero, List.set_cons_succ]
                refine wpAnyH_takeAt (i := 11) (v := ?ve11) (some 27) rfl rfl (by kernel_rfl) (by kernel_rfl) (by kernel_rfl) (fun _ _ _ h => h) (Or.inl ⟨by rfl, ?hye11⟩) (by assumption) ?reste11
                case hye11 => (intro w hSw; (try dsimp only at hSw); go_simp; all_goals with_reducible rfl)
                simp only [Act.put, List.setIfInBounds_toArray, List.set_cons_zero, List.set_cons_succ]
                refine wpAnyH_takeAt (i := 12) (v := ?ve12) (some 28) rfl rfl (by kernel_rfl) (by kernel_rfl) (by kernel_rfl) (fun _ _ _ h => h) (Or.inl ⟨by rfl, ?hye12⟩) (by assumption) ?reste12
                case hye12 => (intro w hSw; (try dsimp only at hSw); go_simp; all_goals with_reducible rfl)
                simp only [Act.put, List.setIfInBounds_toArray, List.set_cons_zero, List.set_cons_succ]
                refine wpAnyH_takeAt (i := 13) (v := ?ve13) (some 29) rfl rfl (by kernel_rfl) (by kernel_rfl) (by kernel_rfl) (fun _ _ _ h => h) (Or.inl ⟨by rfl, ?hye13⟩) (by assumption) ?reste13
                case hye13 => (intro w hSw; (try dsimp only at hSw); go_simp; all_goals with_reducible rfl)
                simp only [Act.put, List.setIfInBounds_toArray, List.set_cons_zero, List.set_cons_succ]
                refine wpAnyH_takeAt (i := 14) (v := ?ve14) (some 30) rfl rfl (by kernel_rfl) (by kernel_rfl) (by kernel_rfl) (fun _ _ _ h => h) (Or.inl ⟨by rfl, ?hye14⟩) (by assumption) ?reste14
                case hye14 => (intro w hSw; (try dsimp only at hSw); go_simp; all_goals with_reducible rfl)
                simp only [Act.put, List.setIfInBounds_toArray, List.set_cons_zero, List.set_cons_succ]
                refine wpAnyH_takeAt (i := 15) (v := ?ve15) (some 31) rfl rfl (by kernel_rfl) (by kernel_rfl) (by kernel_rfl) (fun _ _ _ h => h) (Or.inl ⟨by rfl, ?hye15⟩) (by assumption) ?reste15
                case hye15 => (intro w hSw; (try dsimp only at hSw); go_simp; all_goals with_reducible rfl)
                simp only [Act.put, List.setIfInBounds_toArray, List.set_cons_zero, List.set_cons_succ]
                refine wpAnyH_takeAt (i := 16) (v := ?ve16) (some 32) rfl rfl (by kernel_rfl) (by kernel_rfl) (by kernel_rfl) (fun _ _ _ h => h) (Or.inl ⟨by rfl, ?hye16⟩) (by assumption) ?reste16
                case hye16 => (intro w hSw; (try dsimp only at hSw); go_simp; all_goals with_reducible rfl)
                simp only [Act.put, List.setIfInBounds_toArray, List.set_cons_zero, List.set_cons_succ]
                refine wpAnyH_takeAt (i := 17) (v := ?ve17) (some 33) rfl rfl (by kernel_rfl) (by kernel_rfl) (by kernel_rfl) (fun _ _ _ h => h) (Or.inl ⟨by rfl, ?hye17⟩) (by assumption) ?reste17
                case hye17 => (intro w hSw; (try dsimp only at hSw); go_simp; all_goals with_reducible rfl)
                simp only [Act.put, List.setIfInBounds_toArray, List.set_cons_zero, List.set_cons_succ]
                refine wpAnyH_takeAt (i := 18) (v := ?ve18) (some 34) rfl rfl (by kernel_rfl) (by kernel_rfl) (by kernel_rfl) (fun _ _ _ h => h) (Or.inl ⟨by rfl, ?hye18⟩) (by assumption) ?reste18
                case hye18 => (intro w hSw; (try dsimp only at hSw); go_simp; all_goals with_reducible rfl)
                simp only [Act.put, List.setIfInBounds_toArray, List.set_cons_zero, List.set_cons_succ]
                refine wpAnyH_takeAt (i := 19) (v := ?ve19) (some 35) rfl rfl (by kernel_rfl) (by kernel_rfl) (by kernel_rfl) (fun _ _ _ h => h) (Or.inl ⟨by rfl, ?hye19⟩) (by assumption) ?reste19
                case hye19 => (intro w hSw; (try dsimp only at hSw); go_simp; all_goals with_reducible rfl)
                simp only [Act.put, List.setIfInBounds_toArray, List.set_cons_zero, List.set_cons_succ]
                refine wpAnyH_takeAt (i := 20) (v := ?ve20) (some 36) rfl rfl (by kernel_rfl) (by kernel_rfl) (by kernel_rfl) (fun _ _ _ h => h) (Or.inl ⟨by rfl, ?hye20⟩) (by assumption) ?reste20
                case hye20 => (intro w hSw; (try dsimp only at hSw); go_simp; all_goals with_reducible rfl)
                simp only [Act.put, List.setIfInBounds_toArray, List.set_cons_zero, List.set_cons_succ]
                refine wpAnyH_takeAt (i := 22) (v := ?ve22) (some 38) rfl rfl (by kernel_rfl) (by kernel_rfl) (by kernel_rfl) (fun _ _ _ h => h) (Or.inl ⟨by rfl, ?hye22⟩) (by assumption) ?reste22
                case hye22 => (intro w hSw; (try dsimp only at hSw); go_simp; all_goals with_reducible rfl)
                simp only [Act.put, List.setIfInBounds_toArray, List.set_cons_zero, List.set_cons_succ]
                refine wpAnyH_takeAt (i := 23) (v := ?ve23) (some 39) rfl rfl (by kernel_rfl) (by kernel_rfl) (by kernel_rfl) (fun _ _ _ h => h) (Or.inl ⟨by rfl, ?hye23⟩) (by assumption) ?reste23
                case hye23 => (intro w hSw; (try dsimp only at hSw); go_simp; all_goals with_reducible rfl)
                simp only [Act.put, List.setIfInBounds_toArray, List.set_cons_zero, List.set_cons_succ]
                refine wpAnyH_ready (rs := [21]) (by kernel_rfl) (by simp) ?_
                refine AllReadyH.cons rfl (fun K hK => ?_) AllReadyH.nil
                go_simp
                go_at_call 166
                refine (txn_read _ _ _).mono ?_; rintro e w3 ⟨rfl, hf3⟩; have f3 := f2.then_ hf3
                try go_wp2_with fail
                refine hK.out _ _ (five _ f3) (fun hHeld => ?_)
                clear hK K
                refine wpAnyH_ready (rs := [24]) (by kernel_rfl) (by simp) ?_
                refine AllReadyH.cons rfl (fun K hK => ?_) AllReadyH.nil
                go_simp
                go_at_call 166
                refine (txn_read _ _ _).mono ?_; rintro e w4 ⟨rfl, hf4⟩; have f4 := f3.then_ hf4
                try go_wp2_with fail
                refine hK.out _ _ (five _ f4) (fun hHeld => ?_)
                clear hK K
                refine wpAnyH_takeAt (i := 25) (v := ?ve25) (some 41) rfl rfl (by kernel_rfl) (by kernel_rfl) (by kernel_rfl) (fun _ _ _ h => h) (Or.inl ⟨by rfl, ?hye25⟩) (by assumption) ?reste25
                case hye25 => (intro w hSw; (try dsimp only at hSw); go_simp; all_goals with_reducible rfl)
                simp only [Act.put, List.setIfInBounds_toArray, List.set_cons_zero, List.set_cons_succ]
                refine wpAnyH_takeAt (i := 26) (v := ?ve26) (some 42) rfl rfl (by kernel_rfl) (by kernel_rfl) (by kernel_rfl) (fun _ _ _ h => h) (Or.inl ⟨by rfl, ?hye26⟩) (by assumption) ?reste26
                case hye26 => (intro w hSw; (try dsimp only at hSw); go_simp; all_goals with_reducible rfl)
                simp only [Act.put, List.setIfInBounds_toArray, List.set_cons_zero, List.set_cons_succ]
                refine wpAnyH_takeAt (i := 27) (v := ?ve27) (some 43) rfl rfl (by kernel_rfl) (by kernel_rfl) (by kernel_rfl) (fun _ _ _ h => h) (Or.inl ⟨by rfl, ?hye27⟩) (by assumption) ?reste27
                case hye27 => (intro w hSw; (try dsimp only at hSw); go_simp; all_goals with_reducible rfl)
                simp only [Act.put, List.setIfInBounds_toArray, List.set_cons_zero, List.set_cons_succ]
                refine wpAnyH_done (by kernel_rfl) ?_ _
                refine NoPanic.normal ?_
                all_goals go_wp2_with fail
                all_goals go_meet
                all_goals exact ⟨by rw [HEO.out]; rfl, f4⟩
      case rest =>
        obtain ⟨rfl, hfc⟩ := hcut
        have hfw := hf.then_ (hfa.then_ hfc)
        cases hoa : okAt readOk l k with
        | true =>
          have HOA := Lib.hid hoa
          clear hoa
          go_wp2_with fail
          go_roundw
          case rel => exact ⟨k + 1, by omega, by go_num, okTo_succ _ hok.out HOA.out, hfw⟩
          case measure => simp [intOf]; omega
        | false =>
          have hno := rises_no _ hlt hoa
          clear hoa
          go_wp2_with fail
          go_ret
          exact ⟨by rw [hno]; rfl, hfw⟩
    · obtain rfl : k = l.length := by omega
      have hri : rises readOk l = decide ((l.length : Int) ≤ 8) := by unfold rises; rw [hok.out]; rfl
      have HRI := Lib.hid hri
      clear hri h
      go_wp2_with fail
      go_ret
      exact ⟨by rw [HRI.out]; rfl, hf⟩
set_option maxRecDepth 100000 in
set_option maxHeartbeats 4000000 in
theorem txn_rises_write {w : World} {F : Nat → Prop} {A : Option Addr} {l : List (ByteArray × ByteArray)} {cap : Nat} (h : WriteRow w F A l) (hll : l.length ≤ 1000000) :
    Calls Tryz.prog 168 #[.slice A l.length cap, .func (.func 169) #[] #[], .func (.func 170) #[] #[]] w (OkB w (rises writeOk l)) := by
  go_enter Tryz.func168, Tryz.ntmps168
  go_wp2_with fail
  go_loopw [11] (fun ix wr => ∃ k : Nat, k ≤ l.length ∧ ix = .int .i64 k ∧ Hid (okTo writeOk l k = true) ∧ Fr (fun _ => False) w wr) (fun ix _ => l.length - (intOf ix).toNat)
  case atStart => exact ⟨0, by omega, rfl, rfl, Fr.refl _ _⟩
  case round =>
    obtain ⟨k, hk, rfl, hok, hf⟩ := hrel
    by_cases hlt : k < l.length
    · obtain ⟨x, hx⟩ : ∃ x, l[k]? = some x := ⟨l[k], List.getElem?_eq_getElem hlt⟩
      obtain ⟨b, o, rfl, hFb, hc0, hc1⟩ := h k x hx
      have d0 := hf.cell_some hc0 id
      have d1 := hf.cell_some hc1 id
      have HX := Lib.hid hx
      have HR := Lib.hid h
      clear hx h hc0 hc1
      go_upto_region 4 with fail
      generalize hgx : wr.heap.size = gx
      have hb0 : Blk (wr.alloc (Obj.cells #[.string x.1, .string x.2] 84)) gx 84 #[.string x.1, .string x.2] := Blk.new_ _ _ _ hgx.symm
      have hfa : Fr (fun _ => False) wr (wr.alloc (Obj.cells #[.string x.1, .string x.2] 84)) := (Fr.refl _ _).alloc _
      generalize wr.alloc (Obj.cells #[.string x.1, .string x.2] 84) = wa at hb0 hfa ⊢
      have HGX := Lib.hid hgx
      clear d0 d1 hgx
      go_cut [43] from 16 to 43 (fun c wx => c = .bool (!(okAt writeOk l k)) ∧ Fr (fun _ => False) wa wx)
      case first =>
        have f0 : Fr (fun _ => False) wa wa.drew := (Fr.refl _ _).drew
        by_cases c16 : (16 : Int) < x.1.size
        · have eo : okAt writeOk l k = false := by unfold okAt; rw [HX.out]; simp [c16]
          have HEO := Lib.hid eo
          have q16 : decide ((16 : Int) < x.1.size) = true := decide_eq_true c16
          have five : ∀ w', Fr (fun _ => False) wa w' → w'.cell? ⟨gx, 0, none⟩ = some (.string x.1) ∧ w'.cell? ⟨gx, 1, none⟩ = some (.string x.2) := fun w' h => ⟨(hb0.fr h id).cell 0, (hb0.fr h id).cell 1⟩
          clear eo hlt
          refine wp_region_noPanic ?_
          refine wp_region_held_drew (S := (fun w' => w'.cell? ⟨gx, 0, none⟩ = some (.string x.1) ∧ w'.cell? ⟨gx, 1, none⟩ = some (.string x.2))) (by kernel_rfl) (five _ f0) (fun hHeld => ?_)
          refine wpAnyH_takeAt (i := 0) (v := ?va0) (some 16) rfl rfl (by kernel_rfl) (by kernel_rfl) (by kernel_rfl) (fun _ _ _ h => h) (Or.inl ⟨by rfl, ?hya0⟩) (by assumption) ?resta0
          case hya0 => (intro w hSw; (try dsimp only at hSw); go_simp; all_goals with_reducible rfl)
          simp only [Act.put, List.setIfInBounds_toArray, List.set_cons_zero, List.set_cons_succ]
          refine wpAnyH_takeAt (i := 1) (v := ?va1) (some 17) rfl rfl (by kernel_rfl) (by kernel_rfl) (by kernel_rfl) (fun _ _ _ h => h) (Or.inl ⟨by rfl, ?hya1⟩) (by assumption) ?resta1
          case hya1 => (intro w hSw; (try dsimp only at hSw); go_simp; all_goals with_reducible rfl)
          simp only [Act.put, List.setIfInBounds_toArray, List.set_cons_zero, List.set_cons_succ]
          refine wpAnyH_ready (rs := [2]) (by kernel_rfl) (by simp) ?_
          refine AllReadyH.cons rfl (fun K hK => ?_) AllReadyH.nil
          go_simp
          go_at_call 169
          refine (txn_written _ _ _).mono ?_; rintro e w1 ⟨rfl, hf1⟩; have f1 := f0.then_ hf1
          try go_wp2_with fail
          refine hK.out _ _ (five _ f1) (fun hHeld => ?_)
          clear hK K
          refine wpAnyH_takeAt (i := 3) (v := ?va3) (some 19) rfl rfl (by kernel_rfl) (by kernel_rfl) (by kernel_rfl) (fun _ _ _ h => h) (Or.inl ⟨by rfl, ?hya3⟩) (by assumption) ?resta3
          case hya3 => (intro w hSw; (try dsimp only at hSw); go_simp; all_goals with_reducible rfl)
          simp only [Act.put, List.setIfInBounds_toArray, List.set_cons_zero, List.set_cons_succ]
          refine wpAnyH_takeAt (i := 4) (v := ?va4) (some 20) rfl rfl (by kernel_rfl) (by kernel_rfl) (by kernel_rfl) (fun _ _ _ h => h) (Or.inl ⟨by rfl, ?hya4⟩) (by assumption) ?resta4
          case hya4 => (intro w hSw; (try dsimp only at hSw); go_simp; all_goals with_reducible rfl)
          simp only [Act.put, List.setIfInBounds_toArray, List.set_cons_zero, List.set_cons_succ]
          refine wpAnyH_takeAt (i := 5) (v := ?va5) (some 21) rfl rfl (by kernel_rfl) (by kernel_rfl) (by kernel_rfl) (fun _ _ _ h => h) (Or.inl ⟨by rfl, ?hya5⟩) (by assumption) ?resta5
          case hya5 => (intro w hSw; (try dsimp only at hSw); go_simp; all_goals with_reducible rfl)
          simp only [Act.put, List.setIfInBounds_toArray, List.set_cons_zero, List.set_cons_succ]
          refine wpAnyH_takeAt (i := 6) (some 22) rfl rfl (by kernel_rfl) (by kernel_rfl) (by kernel_rfl) (fun _ _ _ h => h) (Or.inr ⟨by rfl, rfl⟩) (by assumption) ?_
          simp only [Act.put, List.setIfInBounds_toArray, List.set_cons_zero, List.set_cons_succ]
          refine wpAnyH_takeAt (i := 7) (some 23) rfl rfl (by kernel_rfl) (by kernel_rfl) (by kernel_rfl) (fun _ _ _ h => h) (Or.inr ⟨by rfl, rfl⟩) (by assumption) ?_
          simp only [Act.put, List.setIfInBounds_toArray, List.set_cons_zero, List.set_cons_succ]
          refine wpAnyH_takeAt (i := 8) (some 24) rfl rfl (by kernel_rfl) (by kernel_rfl) (by kernel_rfl) (fun _ _ _ h => h) (Or.inr ⟨by rfl, rfl⟩) (by assumption) ?_
          simp only [Act.put, List.setIfInBounds_toArray, List.set_cons_zero, List.set_cons_succ]
          refine wpAnyH_takeAt (i := 9) (some 25) rfl rfl (by kernel_rfl) (by kernel_rfl) (by kernel_rfl) (fun _ _ _ h => h) (Or.inr ⟨by rfl, rfl⟩) (by assumption) ?_
          simp only [Act.put, List.setIfInBounds_toArray, List.set_cons_zero, List.set_cons_succ]
          refine wpAnyH_takeAt (i := 10) (v := ?va10) (some 26) rfl rfl (by kernel_rfl) (by kernel_rfl) (by kernel_rfl) (fun _ _ _ h => h) (Or.inl ⟨by rfl, ?hya10⟩) (by assumption) ?resta10
          case hya10 => (intro w hSw; (try dsimp only at hSw); go_simp; all_goals with_reducible rfl)
          simp only [Act.put, List.setIfInBounds_toArray, List.set_cons_zero, List.set_cons_succ]
          refine wpAnyH_takeAt (i := 11) (v := ?va11) (some 27) rfl rfl (by kernel_rfl) (by kernel_rfl) (by kernel_rfl) (fun _ _ _ h => h) (Or.inl ⟨by rfl, ?hya11⟩) (by assumption) ?resta11
          case hya11 => (intro w hSw; (try dsimp only at hSw); go_simp; all_goals with_reducible rfl)
          simp only [Act.put, List.setIfInBounds_toArray, List.set_cons_zero, List.set_cons_succ]
          refine wpAnyH_takeAt (i := 12) (some 28) rfl rfl (by kernel_rfl) (by kernel_rfl) (by kernel_rfl) (fun _ _ _ h => h) (Or.inr ⟨by rfl, rfl⟩) (by assumption) ?_
          simp only [Act.put, List.setIfInBounds_toArray, List.set_cons_zero, List.set_cons_succ]
          refine wpAnyH_takeAt (i := 13) (some 29) rfl rfl (by kernel_rfl) (by kernel_rfl) (by kernel_rfl) (fun _ _ _ h => h) (Or.inr ⟨by rfl, rfl⟩) (by assumption) ?_
          simp only [Act.put, List.setIfInBounds_toArray, List.set_cons_zero, List.set_cons_succ]
          refine wpAnyH_takeAt (i := 14) (some 30) rfl rfl (by kernel_rfl) (by kernel_rfl) (by kernel_rfl) (fun _ _ _ h => h) (Or.inr ⟨by rfl, rfl⟩) (by assumption) ?_
          simp only [Act.put, List.setIfInBounds_toArray, List.set_cons_zero, List.set_cons_succ]
          refine wpAnyH_takeAt (i := 15) (some 31) rfl rfl (by kernel_rfl) (by kernel_rfl) (by kernel_rfl) (fun _ _ _ h => h) (Or.inr ⟨by rfl, rfl⟩) (by assumption) ?_
          simp only [Act.put, List.setIfInBounds_toArray, List.set_cons_zero, List.set_cons_succ]
          refine wpAnyH_takeAt (i := 16) (some 32) rfl rfl (by kernel_rfl) (by kernel_rfl) (by kernel_rfl) (fun _ _ _ h => h) (Or.inr ⟨by rfl, rfl⟩) (by assumption) ?_
          simp only [Act.put, List.setIfInBounds_toArray, List.set_cons_zero, List.set_cons_succ]
          refine wpAnyH_takeAt (i := 17) (some 33) rfl rfl (by kernel_rfl) (by kernel_rfl) (by kernel_rfl) (fun _ _ _ h => h) (Or.inr ⟨by rfl, rfl⟩) (by assumption) ?_
          simp only [Act.put, List.setIfInBounds_toArray, List.set_cons_zero, List.set_cons_succ]
          refine wpAnyH_takeAt (i := 18) (some 34) rfl rfl (by kernel_rfl) (by kernel_rfl) (by kernel_rfl) (fun _ _ _ h => h) (Or.inr ⟨by rfl, rfl⟩) (by assumption) ?_
          simp only [Act.put, List.setIfInBounds_toArray, List.set_cons_zero, List.set_cons_succ]
          refine wpAnyH_takeAt (i := 19) (some 35) rfl rfl (by kernel_rfl) (by kernel_rfl) (by kernel_rfl) (fun _ _ _ h => h) (Or.inr ⟨by rfl, rfl⟩) (by assumption) ?_
          simp only [Act.put, List.setIfInBounds_toArray, List.set_cons_zero, List.set_cons_succ]
          refine wpAnyH_takeAt (i := 20) (some 36) rfl rfl (by kernel_rfl) (by kernel_rfl) (by kernel_rfl) (fun _ _ _ h => h) (Or.inr ⟨by rfl, rfl⟩) (by assumption) ?_
          simp only [Act.put, List.setIfInBounds_toArray, List.set_cons_zero, List.set_cons_succ]
          refine wpAnyH_takeAt (i := 21) (some 37) rfl rfl (by kernel_rfl) (by kernel_rfl) (by kernel_rfl) (fun _ _ _ h => h) (Or.inr ⟨by rfl, rfl⟩) (by assumption) ?_
          simp only [Act.put, List.setIfInBounds_toArray, List.set_cons_zero, List.set_cons_succ]
          refine wpAnyH_takeAt (i := 22) (some 38) rfl rfl (by kernel_rfl) (by kernel_rfl) (by kernel_rfl) (fun _ _ _ h => h) (Or.inr ⟨by rfl, rfl⟩) (by assumption) ?_
          simp only [Act.put, List.setIfInBounds_toArray, List.set_cons_zero, List.set_cons_succ]
          refine wpAnyH_takeAt (i := 23) (some 39) rfl rfl (by kernel_rfl) (by kernel_rfl) (by kernel_rfl) (fun _ _ _ h => h) (Or.inr ⟨by rfl, rfl⟩) (by assumption) ?_
          simp only [Act.put, List.setIfInBounds_toArray, List.set_cons_zero, List.set_cons_succ]
          refine wpAnyH_takeAt (i := 24) (some 40) rfl rfl (by kernel_rfl) (by kernel_rfl) (by kernel_rfl) (fun _ _ _ h => h) (Or.inr ⟨by rfl, rfl⟩) (by assumption) ?_
          simp only [Act.put, List.setIfInBounds_toArray, List.set_cons_zero, List.set_cons_succ]
          refine wpAnyH_takeAt (i := 25) (some 41) rfl rfl (by kernel_rfl) (by kernel_rfl) (by kernel_rfl) (fun _ _ _ h => h) (Or.inr ⟨by rfl, rfl⟩) (by assumption) ?_
          simp only [Act.put, List.setIfInBounds_toArray, List.set_cons_zero, List.set_cons_succ]
          refine wpAnyH_takeAt (i := 26) (some 42) rfl rfl (by kernel_rfl) (by kernel_rfl) (by kernel_rfl) (fun _ _ _ h => h) (Or.inr ⟨by rfl, rfl⟩) (by assumption) ?_
          simp only [Act.put, List.setIfInBounds_toArray, List.set_cons_zero, List.set_cons_succ]
          refine wpAnyH_takeAt (i := 27) (v := ?va27) (some 43) rfl rfl (by kernel_rfl) (by kernel_rfl) (by kernel_rfl) (fun _ _ _ h => h) (Or.inl ⟨by rfl, ?hya27⟩) (by assumption) ?resta27
          case hya27 => (intro w hSw; (try dsimp only at hSw); go_simp; all_goals with_reducible rfl)
          simp only [Act.put, List.setIfInBounds_toArray, List.set_cons_zero, List.set_cons_succ]
          refine wpAnyH_done (by kernel_rfl) ?_ _
          refine NoPanic.normal ?_
          all_goals go_wp2_with fail
          all_goals go_meet
          all_goals exact ⟨by rw [HEO.out]; rfl, f1⟩
        · have q16 : decide ((16 : Int) < x.1.size) = false := decide_eq_false c16
          cases hro : writeOk x with
          | false =>
            have eo : okAt writeOk l k = false := by unfold okAt; rw [HX.out]; simp [hro]
            have HEO := Lib.hid eo
            have five : ∀ w', Fr (fun _ => False) wa w' → w'.cell? ⟨gx, 0, none⟩ = some (.string x.1) ∧ w'.cell? ⟨gx, 1, none⟩ = some (.string x.2) := fun w' h => ⟨(hb0.fr h id).cell 0, (hb0.fr h id).cell 1⟩
            have HRO := Lib.hid hro
            clear eo hlt hro
            refine wp_region_noPanic ?_
            refine wp_region_held_drew (S := (fun w' => w'.cell? ⟨gx, 0, none⟩ = some (.string x.1) ∧ w'.cell? ⟨gx, 1, none⟩ = some (.string x.2))) (by kernel_rfl) (five _ f0) (fun hHeld => ?_)
            refine wpAnyH_takeAt (i := 0) (v := ?vb0) (some 16) rfl rfl (by kernel_rfl) (by kernel_rfl) (by kernel_rfl) (fun _ _ _ h => h) (Or.inl ⟨by rfl, ?hyb0⟩) (by assumption) ?restb0
            case hyb0 => (intro w hSw; (try dsimp only at hSw); go_simp; all_goals with_reducible rfl)
            simp only [Act.put, List.setIfInBounds_toArray, List.set_cons_zero, List.set_cons_succ]
            refine wpAnyH_takeAt (i := 1) (v := ?vb1) (some 17) rfl rfl (by kernel_rfl) (by kernel_rfl) (by kernel_rfl) (fun _ _ _ h => h) (Or.inl ⟨by rfl, ?hyb1⟩) (by assumption) ?restb1
            case hyb1 => (intro w hSw; (try dsimp only at hSw); go_simp; all_goals with_reducible rfl)
            simp only [Act.put, List.setIfInBounds_toArray, List.set_cons_zero, List.set_cons_succ]
            refine wpAnyH_ready (rs := [2]) (by kernel_rfl) (by simp) ?_
            refine AllReadyH.cons rfl (fun K hK => ?_) AllReadyH.nil
            go_simp
            go_at_call 169
            refine (txn_written _ _ _).mono ?_; rintro e w1 ⟨rfl, hf1⟩; have f1 := f0.then_ hf1
            try go_wp2_with fail
            refine hK.out _ _ (five _ f1) (fun hHeld => ?_)
            clear hK K
            refine wpAnyH_takeAt (i := 3) (v := ?vb3) (some 19) rfl rfl (by kernel_rfl) (by kernel_rfl) (by kernel_rfl) (fun _ _ _ h => h) (Or.inl ⟨by rfl, ?hyb3⟩) (by assumption) ?restb3
            case hyb3 => (intro w hSw; (try dsimp only at hSw); go_simp; all_goals with_reducible rfl)
            simp only [Act.put, List.setIfInBounds_toArray, List.set_cons_zero, List.set_cons_succ]
            refine wpAnyH_takeAt (i := 4) (v := ?vb4) (some 20) rfl rfl (by kernel_rfl) (by kernel_rfl) (by kernel_rfl) (fun _ _ _ h => h) (Or.inl ⟨by rfl, ?hyb4⟩) (by assumption) ?restb4
            case hyb4 => (intro w hSw; (try dsimp only at hSw); go_simp; all_goals with_reducible rfl)
            simp only [Act.put, List.setIfInBounds_toArray, List.set_cons_zero, List.set_cons_succ]
            refine wpAnyH_takeAt (i := 5) (v := ?vb5) (some 21) rfl rfl (by kernel_rfl) (by kernel_rfl) (by kernel_rfl) (fun _ _ _ h => h) (Or.inl ⟨by rfl, ?hyb5⟩) (by assumption) ?restb5
            case hyb5 => (intro w hSw; (try dsimp only at hSw); go_simp; all_goals with_reducible rfl)
            simp only [Act.put, List.setIfInBounds_toArray, List.set_cons_zero, List.set_cons_succ]
            refine wpAnyH_takeAt (i := 6) (v := ?vb6) (some 22) rfl rfl (by kernel_rfl) (by kernel_rfl) (by kernel_rfl) (fun _ _ _ h => h) (Or.inl ⟨by rfl, ?hyb6⟩) (by assumption) ?restb6
            case hyb6 => (intro w hSw; (try dsimp only at hSw); go_simp; all_goals with_reducible rfl)
            simp only [Act.put, List.setIfInBounds_toArray, List.set_cons_zero, List.set_cons_succ]
            refine wpAnyH_takeAt (i := 7) (v := ?vb7) (some 23) rfl rfl (by kernel_rfl) (by kernel_rfl) (by kernel_rfl) (fun _ _ _ h => h) (Or.inl ⟨by rfl, ?hyb7⟩) (by assumption) ?restb7
            case hyb7 => (intro w hSw; (try dsimp only at hSw); go_simp; all_goals with_reducible rfl)
            simp only [Act.put, List.setIfInBounds_toArray, List.set_cons_zero, List.set_cons_succ]
            refine wpAnyH_ready (rs := [8]) (by kernel_rfl) (by simp) ?_
            refine AllReadyH.cons rfl (fun K hK => ?_) AllReadyH.nil
            go_simp
            go_at_call 170
            refine (txn_right2 _ x).mono ?_; rintro e w2 ⟨rfl, hf2⟩; rw [HRO.out]; have f2 := f1.then_ hf2
            try go_wp2_with fail
            refine hK.out _ _ (five _ f2) (fun hHeld => ?_)
            clear hK K
            refine wpAnyH_takeAt (i := 9) (v := ?vb9) (some 25) rfl rfl (by kernel_rfl) (by kernel_rfl) (by kernel_rfl) (fun _ _ _ h => h) (Or.inl ⟨by rfl, ?hyb9⟩) (by assumption) ?restb9
            case hyb9 => (intro w hSw; (try dsimp only at hSw); go_simp; all_goals with_reducible rfl)
            simp only [Act.put, List.setIfInBounds_toArray, List.set_cons_zero, List.set_cons_succ]
            refine wpAnyH_takeAt (i := 10) (v := ?vb10) (some 26) rfl rfl (by kernel_rfl) (by kernel_rfl) (by kernel_rfl) (fun _ _ _ h => h) (Or.inl ⟨by rfl, ?hyb10⟩) (by assumption) ?restb10
            case hyb10 => (intro w hSw; (try dsimp only at hSw); go_simp; all_goals with_reducible rfl)
            simp only [Act.put, List.setIfInBounds_toArray, List.set_cons_zero, List.set_cons_succ]
            refine wpAnyH_takeAt (i := 11) (v := ?vb11) (some 27) rfl rfl (by kernel_rfl) (by kernel_rfl) (by kernel_rfl) (fun _ _ _ h => h) (Or.inl ⟨by rfl, ?hyb11⟩) (by assumption) ?restb11
            case hyb11 => (intro w hSw; (try dsimp only at hSw); go_simp; all_goals with_reducible rfl)
            simp only [Act.put, List.setIfInBounds_toArray, List.set_cons_zero, List.set_cons_succ]
            refine wpAnyH_takeAt (i := 12) (some 28) rfl rfl (by kernel_rfl) (by kernel_rfl) (by kernel_rfl) (fun _ _ _ h => h) (Or.inr ⟨by rfl, rfl⟩) (by assumption) ?_
            simp only [Act.put, List.setIfInBounds_toArray, List.set_cons_zero, List.set_cons_succ]
            refine wpAnyH_takeAt (i := 13) (some 29) rfl rfl (by kernel_rfl) (by kernel_rfl) (by kernel_rfl) (fun _ _ _ h => h) (Or.inr ⟨by rfl, rfl⟩) (by assumption) ?_
            simp only [Act.put, List.setIfInBounds_toArray, List.set_cons_zero, List.set_cons_succ]
            refine wpAnyH_takeAt (i := 14) (some 30) rfl rfl (by kernel_rfl) (by kernel_rfl) (by kernel_rfl) (fun _ _ _ h => h) (Or.inr ⟨by rfl, rfl⟩) (by assumption) ?_
            simp only [Act.put, List.setIfInBounds_toArray, List.set_cons_zero, List.set_cons_succ]
            refine wpAnyH_takeAt (i := 15) (some 31) rfl rfl (by kernel_rfl) (by kernel_rfl) (by kernel_rfl) (fun _ _ _ h => h) (Or.inr ⟨by rfl, rfl⟩) (by assumption) ?_
            simp only [Act.put, List.setIfInBounds_toArray, List.set_cons_zero, List.set_cons_succ]
            refine wpAnyH_takeAt (i := 16) (some 32) rfl rfl (by kernel_rfl) (by kernel_rfl) (by kernel_rfl) (fun _ _ _ h => h) (Or.inr ⟨by rfl, rfl⟩) (by assumption) ?_
            simp only [Act.put, List.setIfInBounds_toArray, List.set_cons_zero, List.set_cons_succ]
            refine wpAnyH_takeAt (i := 17) (some 33) rfl rfl (by kernel_rfl) (by kernel_rfl) (by kernel_rfl) (fun _ _ _ h => h) (Or.inr ⟨by rfl, rfl⟩) (by assumption) ?_
            simp only [Act.put, List.setIfInBounds_toArray, List.set_cons_zero, List.set_cons_succ]
            refine wpAnyH_takeAt (i := 18) (some 34) rfl rfl (by kernel_rfl) (by kernel_rfl) (by kernel_rfl) (fun _ _ _ h => h) (Or.inr ⟨by rfl, rfl⟩) (by assumption) ?_
            simp only [Act.put, List.setIfInBounds_toArray, List.set_cons_zero, List.set_cons_succ]
            refine wpAnyH_takeAt (i := 19) (some 35) rfl rfl (by kernel_rfl) (by kernel_rfl) (by kernel_rfl) (fun _ _ _ h => h) (Or.inr ⟨by rfl, rfl⟩) (by assumption) ?_
            simp only [Act.put, List.setIfInBounds_toArray, List.set_cons_zero, List.set_cons_succ]
            refine wpAnyH_takeAt (i := 20) (some 36) rfl rfl (by kernel_rfl) (by kernel_rfl) (by kernel_rfl) (fun _ _ _ h => h) (Or.inr ⟨by rfl, rfl⟩) (by assumption) ?_
            simp only [Act.put, List.setIfInBounds_toArray, List.set_cons_zero, List.set_cons_succ]
            refine wpAnyH_takeAt (i := 21) (some 37) rfl rfl (by kernel_rfl) (by kernel_rfl) (by kernel_rfl) (fun _ _ _ h => h) (Or.inr ⟨by rfl, rfl⟩) (by assumption) ?_
            simp only [Act.put, List.setIfInBounds_toArray, List.set_cons_zero, List.set_cons_succ]
            refine wpAnyH_takeAt (i := 22) (some 38) rfl rfl (by kernel_rfl) (by kernel_rfl) (by kernel_rfl) (fun _ _ _ h => h) (Or.inr ⟨by rfl, rfl⟩) (by assumption) ?_
            simp only [Act.put, List.setIfInBounds_toArray, List.set_cons_zero, List.set_cons_succ]
            refine wpAnyH_takeAt (i := 23) (some 39) rfl rfl (by kernel_rfl) (by kernel_rfl) (by kernel_rfl) (fun _ _ _ h => h) (Or.inr ⟨by rfl, rfl⟩) (by assumption) ?_
            simp only [Act.put, List.setIfInBounds_toArray, List.set_cons_zero, List.set_cons_succ]
            refine wpAnyH_takeAt (i := 24) (some 40) rfl rfl (by kernel_rfl) (by kernel_rfl) (by kernel_rfl) (fun _ _ _ h => h) (Or.inr ⟨by rfl, rfl⟩) (by assumption) ?_
            simp only [Act.put, List.setIfInBounds_toArray, List.set_cons_zero, List.set_cons_succ]
            refine wpAnyH_takeAt (i := 25) (some 41) rfl rfl (by kernel_rfl) (by kernel_rfl) (by kernel_rfl) (fun _ _ _ h => h) (Or.inr ⟨by rfl, rfl⟩) (by assumption) ?_
            simp only [Act.put, List.setIfInBounds_toArray, List.set_cons_zero, List.set_cons_succ]
            refine wpAnyH_takeAt (i := 26) (some 42) rfl rfl (by kernel_rfl) (by kernel_rfl) (by kernel_rfl) (fun _ _ _ h => h) (Or.inr ⟨by rfl, rfl⟩) (by assumption) ?_
            simp only [Act.put, List.setIfInBounds_toArray, List.set_cons_zero, List.set_cons_succ]
            refine wpAnyH_takeAt (i := 27) (v := ?vb27) (some 43) rfl rfl (by kernel_rfl) (by kernel_rfl) (by kernel_rfl) (fun _ _ _ h => h) (Or.inl ⟨by rfl, ?hyb27⟩) (by assumption) ?restb27
            case hyb27 => (intro w hSw; (try dsimp only at hSw); go_simp; all_goals with_reducible rfl)
            simp only [Act.put, List.setIfInBounds_toArray, List.set_cons_zero, List.set_cons_succ]
            refine wpAnyH_done (by kernel_rfl) ?_ _
            refine NoPanic.normal ?_
            all_goals go_wp2_with fail
            all_goals go_meet
            all_goals exact ⟨by rw [HEO.out]; rfl, f2⟩
          | true =>
            have HRO := Lib.hid hro
            cases k with
            | zero =>
              have eo : okAt writeOk l 0 = true := by unfold okAt; rw [HX.out]; simp [hro, c16]
              have HEO := Lib.hid eo
              have five : ∀ w', Fr (fun _ => False) wa w' → w'.cell? ⟨gx, 0, none⟩ = some (.string x.1) ∧ w'.cell? ⟨gx, 1, none⟩ = some (.string x.2) := fun w' h => ⟨(hb0.fr h id).cell 0, (hb0.fr h id).cell 1⟩
              clear eo hlt hro
              refine wp_region_noPanic ?_
              refine wp_region_held_drew (S := (fun w' => w'.cell? ⟨gx, 0, none⟩ = some (.string x.1) ∧ w'.cell? ⟨gx, 1, none⟩ = some (.string x.2))) (by kernel_rfl) (five _ f0) (fun hHeld => ?_)
              refine wpAnyH_takeAt (i := 0) (v := ?vc0) (some 16) rfl rfl (by kernel_rfl) (by kernel_rfl) (by kernel_rfl) (fun _ _ _ h => h) (Or.inl ⟨by rfl, ?hyc0⟩) (by assumption) ?restc0
              case hyc0 => (intro w hSw; (try dsimp only at hSw); go_simp; all_goals with_reducible rfl)
              simp only [Act.put, List.setIfInBounds_toArray, List.set_cons_zero, List.set_cons_succ]
              refine wpAnyH_takeAt (i := 1) (v := ?vc1) (some 17) rfl rfl (by kernel_rfl) (by kernel_rfl) (by kernel_rfl) (fun _ _ _ h => h) (Or.inl ⟨by rfl, ?hyc1⟩) (by assumption) ?restc1
              case hyc1 => (intro w hSw; (try dsimp only at hSw); go_simp; all_goals with_reducible rfl)
              simp only [Act.put, List.setIfInBounds_toArray, List.set_cons_zero, List.set_cons_succ]
              refine wpAnyH_ready (rs := [2]) (by kernel_rfl) (by simp) ?_
              refine AllReadyH.cons rfl (fun K hK => ?_) AllReadyH.nil
              go_simp
              go_at_call 169
              refine (txn_written _ _ _).mono ?_; rintro e w1 ⟨rfl, hf1⟩; have f1 := f0.then_ hf1
              try go_wp2_with fail
              refine hK.out _ _ (five _ f1) (fun hHeld => ?_)
              clear hK K
              refine wpAnyH_takeAt (i := 3) (v := ?vc3) (some 19) rfl rfl (by kernel_rfl) (by kernel_rfl) (by kernel_rfl) (fun _ _ _ h => h) (Or.inl ⟨by rfl, ?hyc3⟩) (by assumption) ?restc3
              case hyc3 => (intro w hSw; (try dsimp only at hSw); go_simp; all_goals with_reducible rfl)
              simp only [Act.put, List.setIfInBounds_toArray, List.set_cons_zero, List.set_cons_succ]
              refine wpAnyH_takeAt (i := 4) (v := ?vc4) (some 20) rfl rfl (by kernel_rfl) (by kernel_rfl) (by kernel_rfl) (fun _ _ _ h => h) (Or.inl ⟨by rfl, ?hyc4⟩) (by assumption) ?restc4
              case hyc4 => (intro w hSw; (try dsimp only at hSw); go_simp; all_goals with_reducible rfl)
              simp only [Act.put, List.setIfInBounds_toArray, List.set_cons_zero, List.set_cons_succ]
              refine wpAnyH_takeAt (i := 5) (v := ?vc5) (some 21) rfl rfl (by kernel_rfl) (by kernel_rfl) (by kernel_rfl) (fun _ _ _ h => h) (Or.inl ⟨by rfl, ?hyc5⟩) (by assumption) ?restc5
              case hyc5 => (intro w hSw; (try dsimp only at hSw); go_simp; all_goals with_reducible rfl)
              simp only [Act.put, List.setIfInBounds_toArray, List.set_cons_zero, List.set_cons_succ]
              refine wpAnyH_takeAt (i := 6) (v := ?vc6) (some 22) rfl rfl (by kernel_rfl) (by kernel_rfl) (by kernel_rfl) (fun _ _ _ h => h) (Or.inl ⟨by rfl, ?hyc6⟩) (by assumption) ?restc6
              case hyc6 => (intro w hSw; (try dsimp only at hSw); go_simp; all_goals with_reducible rfl)
              simp only [Act.put, List.setIfInBounds_toArray, List.set_cons_zero, List.set_cons_succ]
              refine wpAnyH_takeAt (i := 7) (v := ?vc7) (some 23) rfl rfl (by kernel_rfl) (by kernel_rfl) (by kernel_rfl) (fun _ _ _ h => h) (Or.inl ⟨by rfl, ?hyc7⟩) (by assumption) ?restc7
              case hyc7 => (intro w hSw; (try dsimp only at hSw); go_simp; all_goals with_reducible rfl)
              simp only [Act.put, List.setIfInBounds_toArray, List.set_cons_zero, List.set_cons_succ]
              refine wpAnyH_ready (rs := [8]) (by kernel_rfl) (by simp) ?_
              refine AllReadyH.cons rfl (fun K hK => ?_) AllReadyH.nil
              go_simp
              go_at_call 170
              refine (txn_right2 _ x).mono ?_; rintro e w2 ⟨rfl, hf2⟩; rw [HRO.out]; have f2 := f1.then_ hf2
              try go_wp2_with fail
              refine hK.out _ _ (five _ f2) (fun hHeld => ?_)
              clear hK K
              refine wpAnyH_takeAt (i := 9) (v := ?vc9) (some 25) rfl rfl (by kernel_rfl) (by kernel_rfl) (by kernel_rfl) (fun _ _ _ h => h) (Or.inl ⟨by rfl, ?hyc9⟩) (by assumption) ?restc9
              case hyc9 => (intro w hSw; (try dsimp only at hSw); go_simp; all_goals with_reducible rfl)
              simp only [Act.put, List.setIfInBounds_toArray, List.set_cons_zero, List.set_cons_succ]
              refine wpAnyH_takeAt (i := 10) (v := ?vc10) (some 26) rfl rfl (by kernel_rfl) (by kernel_rfl) (by kernel_rfl) (fun _ _ _ h => h) (Or.inl ⟨by rfl, ?hyc10⟩) (by assumption) ?restc10
              case hyc10 => (intro w hSw; (try dsimp only at hSw); go_simp; all_goals with_reducible rfl)
              simp only [Act.put, List.setIfInBounds_toArray, List.set_cons_zero, List.set_cons_succ]
              refine wpAnyH_takeAt (i := 11) (v := ?vc11) (some 27) rfl rfl (by kernel_rfl) (by kernel_rfl) (by kernel_rfl) (fun _ _ _ h => h) (Or.inl ⟨by rfl, ?hyc11⟩) (by assumption) ?restc11
              case hyc11 => (intro w hSw; (try dsimp only at hSw); go_simp; all_goals with_reducible rfl)
              simp only [Act.put, List.setIfInBounds_toArray, List.set_cons_zero, List.set_cons_succ]
              refine wpAnyH_takeAt (i := 12) (v := ?vc12) (some 28) rfl rfl (by kernel_rfl) (by kernel_rfl) (by kernel_rfl) (fun _ _ _ h => h) (Or.inl ⟨by rfl, ?hyc12⟩) (by assumption) ?restc12
              case hyc12 => (intro w hSw; (try dsimp only at hSw); go_simp; all_goals with_reducible rfl)
              simp only [Act.put, List.setIfInBounds_toArray, List.set_cons_zero, List.set_cons_succ]
              refine wpAnyH_takeAt (i := 13) (v := ?vc13) (some 29) rfl rfl (by kernel_rfl) (by kernel_rfl) (by kernel_rfl) (fun _ _ _ h => h) (Or.inl ⟨by rfl, ?hyc13⟩) (by assumption) ?restc13
              case hyc13 => (intro w hSw; (try dsimp only at hSw); go_simp; all_goals with_reducible rfl)
              simp only [Act.put, List.setIfInBounds_toArray, List.set_cons_zero, List.set_cons_succ]
              refine wpAnyH_takeAt (i := 14) (v := ?vc14) (some 30) rfl rfl (by kernel_rfl) (by kernel_rfl) (by kernel_rfl) (fun _ _ _ h => h) (Or.inl ⟨by rfl, ?hyc14⟩) (by assumption) ?restc14
              case hyc14 => (intro w hSw; (try dsimp only at hSw); go_simp; all_goals with_reducible rfl)
              simp only [Act.put, List.setIfInBounds_toArray, List.set_cons_zero, List.set_cons_succ]
              refine wpAnyH_takeAt (i := 15) (some 31) rfl rfl (by kernel_rfl) (by kernel_rfl) (by kernel_rfl) (fun _ _ _ h => h) (Or.inr ⟨by rfl, rfl⟩) (by assumption) ?_
              simp only [Act.put, List.setIfInBounds_toArray, List.set_cons_zero, List.set_cons_succ]
              refine wpAnyH_takeAt (i := 16) (some 32) rfl rfl (by kernel_rfl) (by kernel_rfl) (by kernel_rfl) (fun _ _ _ h => h) (Or.inr ⟨by rfl, rfl⟩) (by assumption) ?_
              simp only [Act.put, List.setIfInBounds_toArray, List.set_cons_zero, List.set_cons_succ]
              refine wpAnyH_takeAt (i := 17) (some 33) rfl rfl (by kernel_rfl) (by kernel_rfl) (by kernel_rfl) (fun _ _ _ h => h) (Or.inr ⟨by rfl, rfl⟩) (by assumption) ?_
              simp only [Act.put, List.setIfInBounds_toArray, List.set_cons_zero, List.set_cons_succ]
              refine wpAnyH_takeAt (i := 18) (some 34) rfl rfl (by kernel_rfl) (by kernel_rfl) (by kernel_rfl) (fun _ _ _ h => h) (Or.inr ⟨by rfl, rfl⟩) (by assumption) ?_
              simp only [Act.put, List.setIfInBounds_toArray, List.set_cons_zero, List.set_cons_succ]
              refine wpAnyH_takeAt (i := 19) (some 35) rfl rfl (by kernel_rfl) (by kernel_rfl) (by kernel_rfl) (fun _ _ _ h => h) (Or.inr ⟨by rfl, rfl⟩) (by assumption) ?_
              simp only [Act.put, List.setIfInBounds_toArray, List.set_cons_zero, List.set_cons_succ]
              refine wpAnyH_takeAt (i := 20) (some 36) rfl rfl (by kernel_rfl) (by kernel_rfl) (by kernel_rfl) (fun _ _ _ h => h) (Or.inr ⟨by rfl, rfl⟩) (by assumption) ?_
              simp only [Act.put, List.setIfInBounds_toArray, List.set_cons_zero, List.set_cons_succ]
              refine wpAnyH_takeAt (i := 21) (some 37) rfl rfl (by kernel_rfl) (by kernel_rfl) (by kernel_rfl) (fun _ _ _ h => h) (Or.inr ⟨by rfl, rfl⟩) (by assumption) ?_
              simp only [Act.put, List.setIfInBounds_toArray, List.set_cons_zero, List.set_cons_succ]
              refine wpAnyH_takeAt (i := 22) (some 38) rfl rfl (by kernel_rfl) (by kernel_rfl) (by kernel_rfl) (fun _ _ _ h => h) (Or.inr ⟨by rfl, rfl⟩) (by assumption) ?_
              simp only [Act.put, List.setIfInBounds_toArray, List.set_cons_zero, List.set_cons_succ]
              refine wpAnyH_takeAt (i := 23) (some 39) rfl rfl (by kernel_rfl) (by kernel_rfl) (by kernel_rfl) (fun _ _ _ h => h) (Or.inr ⟨by rfl, rfl⟩) (by assumption) ?_
              simp only [Act.put, List.setIfInBounds_toArray, List.set_cons_zero, List.set_cons_succ]
              refine wpAnyH_takeAt (i := 24) (some 40) rfl rfl (by kernel_rfl) (by kernel_rfl) (by kernel_rfl) (fun _ _ _ h => h) (Or.inr ⟨by rfl, rfl⟩) (by assumption) ?_
              simp only [Act.put, List.setIfInBounds_toArray, List.set_cons_zero, List.set_cons_succ]
              refine wpAnyH_takeAt (i := 25) (some 41) rfl rfl (by kernel_rfl) (by kernel_rfl) (by kernel_rfl) (fun _ _ _ h => h) (Or.inr ⟨by rfl, rfl⟩) (by assumption) ?_
              simp only [Act.put, List.setIfInBounds_toArray, List.set_cons_zero, List.set_cons_succ]
              refine wpAnyH_takeAt (i := 26) (v := ?vc26) (some 42) rfl rfl (by kernel_rfl) (by kernel_rfl) (by kernel_rfl) (fun _ _ _ h => h) (Or.inl ⟨by rfl, ?hyc26⟩) (by assumption) ?restc26
              case hyc26 => (intro w hSw; (try dsimp only at hSw); go_simp; all_goals with_reducible rfl)
              simp only [Act.put, List.setIfInBounds_toArray, List.set_cons_zero, List.set_cons_succ]
              refine wpAnyH_takeAt (i := 27) (v := ?vc27) (some 43) rfl rfl (by kernel_rfl) (by kernel_rfl) (by kernel_rfl) (fun _ _ _ h => h) (Or.inl ⟨by rfl, ?hyc27⟩) (by assumption) ?restc27
              case hyc27 => (intro w hSw; (try dsimp only at hSw); go_simp; all_goals with_reducible rfl)
              simp only [Act.put, List.setIfInBounds_toArray, List.set_cons_zero, List.set_cons_succ]
              refine wpAnyH_done (by kernel_rfl) ?_ _
              refine NoPanic.normal ?_
              all_goals go_wp2_with fail
              all_goals go_meet
              all_goals exact ⟨by rw [HEO.out]; rfl, f2⟩
            | succ j =>
              obtain ⟨y, hy⟩ : ∃ y, l[j]? = some y := ⟨l[j]'(by omega), List.getElem?_eq_getElem (by omega)⟩
              obtain ⟨b', o', e1, _, g0, g1⟩ := HR.out j y hy
              cases e1
              have eo : okAt writeOk l (j + 1) = strLess y.1 x.1 := by unfold okAt; rw [HX.out]; dsimp only; rw [hy]; simp [hro, c16]
              have hfr : Fr (fun _ => False) w wa := hf.then_ hfa
              have G0 := Lib.hid g0
              have G1 := Lib.hid g1
              have five : ∀ w', Fr (fun _ => False) wa w' → w'.cell? ⟨gx, 0, none⟩ = some (.string x.1) ∧ w'.cell? ⟨gx, 1, none⟩ = some (.string x.2) ∧ w'.cell? ⟨b, o + j * 2, none⟩ = some (.string y.1) ∧ w'.cell? ⟨b, o + j * 2 + 1, none⟩ = some (.string y.2) := fun w' h => ⟨(hb0.fr h id).cell 0, (hb0.fr h id).cell 1, (hfr.then_ h).cell_some G0.out id, (hfr.then_ h).cell_some G1.out id⟩
              have qk : decide ((0 : Int) < ((j + 1 : Nat) : Int)) = true := decide_eq_true (by omega)
              have qj : ((j + 1 : Nat) : Int) - 1 = (j : Int) := by omega
              have qj0 : (0 : Int) ≤ (j : Int) := by omega
              have qjw : IntKind.i64.wrap (j : Int) = (j : Int) := wrap_i64 j (by omega)
              have qj1 : (j : Int) < (l.length : Int) := by omega
              cases hsl : Op.bytesLess y.1.toList x.1.toList with
              | false =>
                have HEO := Lib.hid (eo.trans hsl)
                clear eo hro g0 g1 hy
                refine wp_region_noPanic ?_
                refine wp_region_held_drew (S := (fun w' => w'.cell? ⟨gx, 0, none⟩ = some (.string x.1) ∧ w'.cell? ⟨gx, 1, none⟩ = some (.string x.2) ∧ w'.cell? ⟨b, o + j * 2, none⟩ = some (.string y.1) ∧ w'.cell? ⟨b, o + j * 2 + 1, none⟩ = some (.string y.2))) (by kernel_rfl) (five _ f0) (fun hHeld => ?_)
                refine wpAnyH_takeAt (i := 0) (v := ?vd0) (some 16) rfl rfl (by kernel_rfl) (by kernel_rfl) (by kernel_rfl) (fun _ _ _ h => h) (Or.inl ⟨by rfl, ?hyd0⟩) (by assumption) ?restd0
                case hyd0 => (intro w hSw; (try dsimp only at hSw); go_simp; all_goals with_reducible rfl)
                simp only [Act.put, List.setIfInBounds_toArray, List.set_cons_zero, List.set_cons_succ]
                refine wpAnyH_takeAt (i := 1) (v := ?vd1) (some 17) rfl rfl (by kernel_rfl) (by kernel_rfl) (by kernel_rfl) (fun _ _ _ h => h) (Or.inl ⟨by rfl, ?hyd1⟩) (by assumption) ?restd1
                case hyd1 => (intro w hSw; (try dsimp only at hSw); go_simp; all_goals with_reducible rfl)
                simp only [Act.put, List.setIfInBounds_toArray, List.set_cons_zero, List.set_cons_succ]
                refine wpAnyH_ready (rs := [2]) (by kernel_rfl) (by simp) ?_
                refine AllReadyH.cons rfl (fun K hK => ?_) AllReadyH.nil
                go_simp
                go_at_call 169
                refine (txn_written _ _ _).mono ?_; rintro e w1 ⟨rfl, hf1⟩; have f1 := f0.then_ hf1
                try go_wp2_with fail
                refine hK.out _ _ (five _ f1) (fun hHeld => ?_)
                clear hK K
                refine wpAnyH_takeAt (i := 3) (v := ?vd3) (some 19) rfl rfl (by kernel_rfl) (by kernel_rfl) (by kernel_rfl) (fun _ _ _ h => h) (Or.inl ⟨by rfl, ?hyd3⟩) (by assumption) ?restd3
                case hyd3 => (intro w hSw; (try dsimp only at hSw); go_simp; all_goals with_reducible rfl)
                simp only [Act.put, List.setIfInBounds_toArray, List.set_cons_zero, List.set_cons_succ]
                refine wpAnyH_takeAt (i := 4) (v := ?vd4) (some 20) rfl rfl (by kernel_rfl) (by kernel_rfl) (by kernel_rfl) (fun _ _ _ h => h) (Or.inl ⟨by rfl, ?hyd4⟩) (by assumption) ?restd4
                case hyd4 => (intro w hSw; (try dsimp only at hSw); go_simp; all_goals with_reducible rfl)
                simp only [Act.put, List.setIfInBounds_toArray, List.set_cons_zero, List.set_cons_succ]
                refine wpAnyH_takeAt (i := 5) (v := ?vd5) (some 21) rfl rfl (by kernel_rfl) (by kernel_rfl) (by kernel_rfl) (fun _ _ _ h => h) (Or.inl ⟨by rfl, ?hyd5⟩) (by assumption) ?restd5
                case hyd5 => (intro w hSw; (try dsimp only at hSw); go_simp; all_goals with_reducible rfl)
                simp only [Act.put, List.setIfInBounds_toArray, List.set_cons_zero, List.set_cons_succ]
                refine wpAnyH_takeAt (i := 6) (v := ?vd6) (some 22) rfl rfl (by kernel_rfl) (by kernel_rfl) (by kernel_rfl) (fun _ _ _ h => h) (Or.inl ⟨by rfl, ?hyd6⟩) (by assumption) ?restd6
                case hyd6 => (intro w hSw; (try dsimp only at hSw); go_simp; all_goals with_reducible rfl)
                simp only [Act.put, List.setIfInBounds_toArray, List.set_cons_zero, List.set_cons_succ]
                refine wpAnyH_takeAt (i := 7) (v := ?vd7) (some 23) rfl rfl (by kernel_rfl) (by kernel_rfl) (by kernel_rfl) (fun _ _ _ h => h) (Or.inl ⟨by rfl, ?hyd7⟩) (by assumption) ?restd7
                case hyd7 => (intro w hSw; (try dsimp only at hSw); go_simp; all_goals with_reducible rfl)
                simp only [Act.put, List.setIfInBounds_toArray, List.set_cons_zero, List.set_cons_succ]
                refine wpAnyH_ready (rs := [8]) (by kernel_rfl) (by simp) ?_
                refine AllReadyH.cons rfl (fun K hK => ?_) AllReadyH.nil
                go_simp
                go_at_call 170
                refine (txn_right2 _ x).mono ?_; rintro e w2 ⟨rfl, hf2⟩; rw [HRO.out]; have f2 := f1.then_ hf2
                try go_wp2_with fail
                refine hK.out _ _ (five _ f2) (fun hHeld => ?_)
                clear hK K
                refine wpAnyH_takeAt (i := 9) (v := ?vd9) (some 25) rfl rfl (by kernel_rfl) (by kernel_rfl) (by kernel_rfl) (fun _ _ _ h => h) (Or.inl ⟨by rfl, ?hyd9⟩) (by assumption) ?restd9
                case hyd9 => (intro w hSw; (try dsimp only at hSw); go_simp; all_goals with_reducible rfl)
                simp only [Act.put, List.setIfInBounds_toArray, List.set_cons_zero, List.set_cons_succ]
                refine wpAnyH_takeAt (i := 10) (v := ?vd10) (some 26) rfl rfl (by kernel_rfl) (by kernel_rfl) (by kernel_rfl) (fun _ _ _ h => h) (Or.inl ⟨by rfl, ?hyd10⟩) (by assumption) ?restd10
                case hyd10 => (intro w hSw; (try dsimp only at hSw); go_simp; all_goals with_reducible rfl)
                simp only [Act.put, List.setIfInBounds_toArray, List.set_cons_zero, List.set_cons_succ]
                refine wpAnyH_takeAt (i := 11) (v := ?vd11) (some 27) rfl rfl (by kernel_rfl) (by kernel_rfl) (by kernel_rfl) (fun _ _ _ h => h) (Or.inl ⟨by rfl, ?hyd11⟩) (by assumption) ?restd11
                case hyd11 => (intro w hSw; (try dsimp only at hSw); go_simp; all_goals with_reducible rfl)
                simp only [Act.put, List.setIfInBounds_toArray, List.set_cons_zero, List.set_cons_succ]
                refine wpAnyH_takeAt (i := 12) (v := ?vd12) (some 28) rfl rfl (by kernel_rfl) (by kernel_rfl) (by kernel_rfl) (fun _ _ _ h => h) (Or.inl ⟨by rfl, ?hyd12⟩) (by assumption) ?restd12
                case hyd12 => (intro w hSw; (try dsimp only at hSw); go_simp; all_goals with_reducible rfl)
                simp only [Act.put, List.setIfInBounds_toArray, List.set_cons_zero, List.set_cons_succ]
                refine wpAnyH_takeAt (i := 13) (v := ?vd13) (some 29) rfl rfl (by kernel_rfl) (by kernel_rfl) (by kernel_rfl) (fun _ _ _ h => h) (Or.inl ⟨by rfl, ?hyd13⟩) (by assumption) ?restd13
                case hyd13 => (intro w hSw; (try dsimp only at hSw); go_simp; all_goals with_reducible rfl)
                simp only [Act.put, List.setIfInBounds_toArray, List.set_cons_zero, List.set_cons_succ]
                refine wpAnyH_takeAt (i := 14) (v := ?vd14) (some 30) rfl rfl (by kernel_rfl) (by kernel_rfl) (by kernel_rfl) (fun _ _ _ h => h) (Or.inl ⟨by rfl, ?hyd14⟩) (by assumption) ?restd14
                case hyd14 => (intro w hSw; (try dsimp only at hSw); go_simp; all_goals with_reducible rfl)
                simp only [Act.put, List.setIfInBounds_toArray, List.set_cons_zero, List.set_cons_succ]
                refine wpAnyH_takeAt (i := 15) (v := ?vd15) (some 31) rfl rfl (by kernel_rfl) (by kernel_rfl) (by kernel_rfl) (fun _ _ _ h => h) (Or.inl ⟨by rfl, ?hyd15⟩) (by assumption) ?restd15
                case hyd15 => (intro w hSw; (try dsimp only at hSw); go_simp; all_goals with_reducible rfl)
                simp only [Act.put, List.setIfInBounds_toArray, List.set_cons_zero, List.set_cons_succ]
                refine wpAnyH_takeAt (i := 16) (v := ?vd16) (some 32) rfl rfl (by kernel_rfl) (by kernel_rfl) (by kernel_rfl) (fun _ _ _ h => h) (Or.inl ⟨by rfl, ?hyd16⟩) (by assumption) ?restd16
                case hyd16 => (intro w hSw; (try dsimp only at hSw); go_simp; all_goals with_reducible rfl)
                simp only [Act.put, List.setIfInBounds_toArray, List.set_cons_zero, List.set_cons_succ]
                refine wpAnyH_takeAt (i := 17) (v := ?vd17) (some 33) rfl rfl (by kernel_rfl) (by kernel_rfl) (by kernel_rfl) (fun _ _ _ h => h) (Or.inl ⟨by rfl, ?hyd17⟩) (by assumption) ?restd17
                case hyd17 => (intro w hSw; (try dsimp only at hSw); go_simp; all_goals with_reducible rfl)
                simp only [Act.put, List.setIfInBounds_toArray, List.set_cons_zero, List.set_cons_succ]
                refine wpAnyH_takeAt (i := 18) (v := ?vd18) (some 34) rfl rfl (by kernel_rfl) (by kernel_rfl) (by kernel_rfl) (fun _ _ _ h => h) (Or.inl ⟨by rfl, ?hyd18⟩) (by assumption) ?restd18
                case hyd18 => (intro w hSw; (try dsimp only at hSw); go_simp; all_goals with_reducible rfl)
                simp only [Act.put, List.setIfInBounds_toArray, List.set_cons_zero, List.set_cons_succ]
                refine wpAnyH_takeAt (i := 19) (v := ?vd19) (some 35) rfl rfl (by kernel_rfl) (by kernel_rfl) (by kernel_rfl) (fun _ _ _ h => h) (Or.inl ⟨by rfl, ?hyd19⟩) (by assumption) ?restd19
                case hyd19 => (intro w hSw; (try dsimp only at hSw); go_simp; all_goals with_reducible rfl)
                simp only [Act.put, List.setIfInBounds_toArray, List.set_cons_zero, List.set_cons_succ]
                refine wpAnyH_takeAt (i := 20) (v := ?vd20) (some 36) rfl rfl (by kernel_rfl) (by kernel_rfl) (by kernel_rfl) (fun _ _ _ h => h) (Or.inl ⟨by rfl, ?hyd20⟩) (by assumption) ?restd20
                case hyd20 => (intro w hSw; (try dsimp only at hSw); go_simp; all_goals with_reducible rfl)
                simp only [Act.put, List.setIfInBounds_toArray, List.set_cons_zero, List.set_cons_succ]
                refine wpAnyH_takeAt (i := 22) (v := ?vd22) (some 38) rfl rfl (by kernel_rfl) (by kernel_rfl) (by kernel_rfl) (fun _ _ _ h => h) (Or.inl ⟨by rfl, ?hyd22⟩) (by assumption) ?restd22
                case hyd22 => (intro w hSw; (try dsimp only at hSw); go_simp; all_goals with_reducible rfl)
                simp only [Act.put, List.setIfInBounds_toArray, List.set_cons_zero, List.set_cons_succ]
                refine wpAnyH_takeAt (i := 23) (v := ?vd23) (some 39) rfl rfl (by kernel_rfl) (by kernel_rfl) (by kernel_rfl) (fun _ _ _ h => h) (Or.inl ⟨by rfl, ?hyd23⟩) (by assumption) ?restd23
                case hyd23 => (intro w hSw; (try dsimp only at hSw); go_simp; all_goals with_reducible rfl)
                simp only [Act.put, List.setIfInBounds_toArray, List.set_cons_zero, List.set_cons_succ]
                refine wpAnyH_ready (rs := [21]) (by kernel_rfl) (by simp) ?_
                refine AllReadyH.cons rfl (fun K hK => ?_) AllReadyH.nil
                go_simp
                go_at_call 169
                refine (txn_written _ _ _).mono ?_; rintro e w3 ⟨rfl, hf3⟩; have f3 := f2.then_ hf3
                try go_wp2_with fail
                refine hK.out _ _ (five _ f3) (fun hHeld => ?_)
                clear hK K
                refine wpAnyH_ready (rs := [24]) (by kernel_rfl) (by simp) ?_
                refine AllReadyH.cons rfl (fun K hK => ?_) AllReadyH.nil
                go_simp
                go_at_call 169
                refine (txn_written _ _ _).mono ?_; rintro e w4 ⟨rfl, hf4⟩; have f4 := f3.then_ hf4
                try go_wp2_with fail
                refine hK.out _ _ (five _ f4) (fun hHeld => ?_)
                clear hK K
                refine wpAnyH_takeAt (i := 25) (v := ?vd25) (some 41) rfl rfl (by kernel_rfl) (by kernel_rfl) (by kernel_rfl) (fun _ _ _ h => h) (Or.inl ⟨by rfl, ?hyd25⟩) (by assumption) ?restd25
                case hyd25 => (intro w hSw; (try dsimp only at hSw); go_simp; all_goals with_reducible rfl)
                simp only [Act.put, List.setIfInBounds_toArray, List.set_cons_zero, List.set_cons_succ]
                refine wpAnyH_takeAt (i := 26) (v := ?vd26) (some 42) rfl rfl (by kernel_rfl) (by kernel_rfl) (by kernel_rfl) (fun _ _ _ h => h) (Or.inl ⟨by rfl, ?hyd26⟩) (by assumption) ?restd26
                case hyd26 => (intro w hSw; (try dsimp only at hSw); go_simp; all_goals with_reducible rfl)
                simp only [Act.put, List.setIfInBounds_toArray, List.set_cons_zero, List.set_cons_succ]
                refine wpAnyH_takeAt (i := 27) (v := ?vd27) (some 43) rfl rfl (by kernel_rfl) (by kernel_rfl) (by kernel_rfl) (fun _ _ _ h => h) (Or.inl ⟨by rfl, ?hyd27⟩) (by assumption) ?restd27
                case hyd27 => (intro w hSw; (try dsimp only at hSw); go_simp; all_goals with_reducible rfl)
                simp only [Act.put, List.setIfInBounds_toArray, List.set_cons_zero, List.set_cons_succ]
                refine wpAnyH_done (by kernel_rfl) ?_ _
                refine NoPanic.normal ?_
                all_goals go_wp2_with fail
                all_goals go_meet
                all_goals exact ⟨by rw [HEO.out]; rfl, f4⟩
              | true =>
                have HEO := Lib.hid (eo.trans hsl)
                clear eo hro g0 g1 hy
                refine wp_region_noPanic ?_
                refine wp_region_held_drew (S := (fun w' => w'.cell? ⟨gx, 0, none⟩ = some (.string x.1) ∧ w'.cell? ⟨gx, 1, none⟩ = some (.string x.2) ∧ w'.cell? ⟨b, o + j * 2, none⟩ = some (.string y.1) ∧ w'.cell? ⟨b, o + j * 2 + 1, none⟩ = some (.string y.2))) (by kernel_rfl) (five _ f0) (fun hHeld => ?_)
                refine wpAnyH_takeAt (i := 0) (v := ?ve0) (some 16) rfl rfl (by kernel_rfl) (by kernel_rfl) (by kernel_rfl) (fun _ _ _ h => h) (Or.inl ⟨by rfl, ?hye0⟩) (by assumption) ?reste0
                case hye0 => (intro w hSw; (try dsimp only at hSw); go_simp; all_goals with_reducible rfl)
                simp only [Act.put, List.setIfInBounds_toArray, List.set_cons_zero, List.set_cons_succ]
                refine wpAnyH_takeAt (i := 1) (v := ?ve1) (some 17) rfl rfl (by kernel_rfl) (by kernel_rfl) (by kernel_rfl) (fun _ _ _ h => h) (Or.inl ⟨by rfl, ?hye1⟩) (by assumption) ?reste1
                case hye1 => (intro w hSw; (try dsimp only at hSw); go_simp; all_goals with_reducible rfl)
                simp only [Act.put, List.setIfInBounds_toArray, List.set_cons_zero, List.set_cons_succ]
                refine wpAnyH_ready (rs := [2]) (by kernel_rfl) (by simp) ?_
                refine AllReadyH.cons rfl (fun K hK => ?_) AllReadyH.nil
                go_simp
                go_at_call 169
                refine (txn_written _ _ _).mono ?_; rintro e w1 ⟨rfl, hf1⟩; have f1 := f0.then_ hf1
                try go_wp2_with fail
                refine hK.out _ _ (five _ f1) (fun hHeld => ?_)
                clear hK K
                refine wpAnyH_takeAt (i := 3) (v := ?ve3) (some 19) rfl rfl (by kernel_rfl) (by kernel_rfl) (by kernel_rfl) (fun _ _ _ h => h) (Or.inl ⟨by rfl, ?hye3⟩) (by assumption) ?reste3
                case hye3 => (intro w hSw; (try dsimp only at hSw); go_simp; all_goals with_reducible rfl)
                simp only [Act.put, List.setIfInBounds_toArray, List.set_cons_zero, List.set_cons_succ]
                refine wpAnyH_takeAt (i := 4) (v := ?ve4) (some 20) rfl rfl (by kernel_rfl) (by kernel_rfl) (by kernel_rfl) (fun _ _ _ h => h) (Or.inl ⟨by rfl, ?hye4⟩) (by assumption) ?reste4
                case hye4 => (intro w hSw; (try dsimp only at hSw); go_simp; all_goals with_reducible rfl)
                simp only [Act.put, List.setIfInBounds_toArray, List.set_cons_zero, List.set_cons_succ]
                refine wpAnyH_takeAt (i := 5) (v := ?ve5) (some 21) rfl rfl (by kernel_rfl) (by kernel_rfl) (by kernel_rfl) (fun _ _ _ h => h) (Or.inl ⟨by rfl, ?hye5⟩) (by assumption) ?reste5
                case hye5 => (intro w hSw; (try dsimp only at hSw); go_simp; all_goals with_reducible rfl)
                simp only [Act.put, List.setIfInBounds_toArray, List.set_cons_zero, List.set_cons_succ]
                refine wpAnyH_takeAt (i := 6) (v := ?ve6) (some 22) rfl rfl (by kernel_rfl) (by kernel_rfl) (by kernel_rfl) (fun _ _ _ h => h) (Or.inl ⟨by rfl, ?hye6⟩) (by assumption) ?reste6
                case hye6 => (intro w hSw; (try dsimp only at hSw); go_simp; all_goals with_reducible rfl)
                simp only [Act.put, List.setIfInBounds_toArray, List.set_cons_zero, List.set_cons_succ]
                refine wpAnyH_takeAt (i := 7) (v := ?ve7) (some 23) rfl rfl (by kernel_rfl) (by kernel_rfl) (by kernel_rfl) (fun _ _ _ h => h) (Or.inl ⟨by rfl, ?hye7⟩) (by assumption) ?reste7
                case hye7 => (intro w hSw; (try dsimp only at hSw); go_simp; all_goals with_reducible rfl)
                simp only [Act.put, List.setIfInBounds_toArray, List.set_cons_zero, List.set_cons_succ]
                refine wpAnyH_ready (rs := [8]) (by kernel_rfl) (by simp) ?_
                refine AllReadyH.cons rfl (fun K hK => ?_) AllReadyH.nil
                go_simp
                go_at_call 170
                refine (txn_right2 _ x).mono ?_; rintro e w2 ⟨rfl, hf2⟩; rw [HRO.out]; have f2 := f1.then_ hf2
                try go_wp2_with fail
                refine hK.out _ _ (five _ f2) (fun hHeld => ?_)
                clear hK K
                refine wpAnyH_takeAt (i := 9) (v := ?ve9) (some 25) rfl rfl (by kernel_rfl) (by kernel_rfl) (by kernel_rfl) (fun _ _ _ h => h) (Or.inl ⟨by rfl, ?hye9⟩) (by assumption) ?reste9
                case hye9 => (intro w hSw; (try dsimp only at hSw); go_simp; all_goals with_reducible rfl)
                simp only [Act.put, List.setIfInBounds_toArray, List.set_cons_zero, List.set_cons_succ]
                refine wpAnyH_takeAt (i := 10) (v := ?ve10) (some 26) rfl rfl (by kernel_rfl) (by kernel_rfl) (by kernel_rfl) (fun _ _ _ h => h) (Or.inl ⟨by rfl, ?hye10⟩) (by assumption) ?reste10
                case hye10 => (intro w hSw; (try dsimp only at hSw); go_simp; all_goals with_reducible rfl)
                simp only [Act.put, List.setIfInBounds_toArray, List.set_cons_zero, List.set_cons_succ]
                refine wpAnyH_takeAt (i := 11) (v := ?ve11) (some 27) rfl rfl (by kernel_rfl) (by kernel_rfl) (by kernel_rfl) (fun _ _ _ h => h) (Or.inl ⟨by rfl, ?hye11⟩) (by assumption) ?reste11
                case hye11 => (intro w hSw; (try dsimp only at hSw); go_simp; all_goals with_reducible rfl)
                simp only [Act.put, List.setIfInBounds_toArray, List.set_cons_zero, List.set_cons_succ]
                refine wpAnyH_takeAt (i := 12) (v := ?ve12) (some 28) rfl rfl (by kernel_rfl) (by kernel_rfl) (by kernel_rfl) (fun _ _ _ h => h) (Or.inl ⟨by rfl, ?hye12⟩) (by assumption) ?reste12
                case hye12 => (intro w hSw; (try dsimp only at hSw); go_simp; all_goals with_reducible rfl)
                simp only [Act.put, List.setIfInBounds_toArray, List.set_cons_zero, List.set_cons_succ]
                refine wpAnyH_takeAt (i := 13) (v := ?ve13) (some 29) rfl rfl (by kernel_rfl) (by kernel_rfl) (by kernel_rfl) (fun _ _ _ h => h) (Or.inl ⟨by rfl, ?hye13⟩) (by assumption) ?reste13
                case hye13 => (intro w hSw; (try dsimp only at hSw); go_simp; all_goals with_reducible rfl)
                simp only [Act.put, List.setIfInBounds_toArray, List.set_cons_zero, List.set_cons_succ]
                refine wpAnyH_takeAt (i := 14) (v := ?ve14) (some 30) rfl rfl (by kernel_rfl) (by kernel_rfl) (by kernel_rfl) (fun _ _ _ h => h) (Or.inl ⟨by rfl, ?hye14⟩) (by assumption) ?reste14
                case hye14 => (intro w hSw; (try dsimp only at hSw); go_simp; all_goals with_reducible rfl)
                simp only [Act.put, List.setIfInBounds_toArray, List.set_cons_zero, List.set_cons_succ]
                refine wpAnyH_takeAt (i := 15) (v := ?ve15) (some 31) rfl rfl (by kernel_rfl) (by kernel_rfl) (by kernel_rfl) (fun _ _ _ h => h) (Or.inl ⟨by rfl, ?hye15⟩) (by assumption) ?reste15
                case hye15 => (intro w hSw; (try dsimp only at hSw); go_simp; all_goals with_reducible rfl)
                simp only [Act.put, List.setIfInBounds_toArray, List.set_cons_zero, List.set_cons_succ]
                refine wpAnyH_takeAt (i := 16) (v := ?ve16) (some 32) rfl rfl (by kernel_rfl) (by kernel_rfl) (by kernel_rfl) (fun _ _ _ h => h) (Or.inl ⟨by rfl, ?hye16⟩) (by assumption) ?reste16
                case hye16 => (intro w hSw; (try dsimp only at hSw); go_simp; all_goals with_reducible rfl)
                simp only [Act.put, List.setIfInBounds_toArray, List.set_cons_zero, List.set_cons_succ]
                refine wpAnyH_takeAt (i := 17) (v := ?ve17) (some 33) rfl rfl (by kernel_rfl) (by kernel_rfl) (by kernel_rfl) (fun _ _ _ h => h) (Or.inl ⟨by rfl, ?hye17⟩) (by assumption) ?reste17
                case hye17 => (intro w hSw; (try dsimp only at hSw); go_simp; all_goals with_reducible rfl)
                simp only [Act.put, List.setIfInBounds_toArray, List.set_cons_zero, List.set_cons_succ]
                refine wpAnyH_takeAt (i := 18) (v := ?ve18) (some 34) rfl rfl (by kernel_rfl) (by kernel_rfl) (by kernel_rfl) (fun _ _ _ h => h) (Or.inl ⟨by rfl, ?hye18⟩) (by assumption) ?reste18
                case hye18 => (intro w hSw; (try dsimp only at hSw); go_simp; all_goals with_reducible rfl)
                simp only [Act.put, List.setIfInBounds_toArray, List.set_cons_zero, List.set_cons_succ]
                refine wpAnyH_takeAt (i := 19) (v := ?ve19) (some 35) rfl rfl (by kernel_rfl) (by kernel_rfl) (by kernel_rfl) (fun _ _ _ h => h) (Or.inl ⟨by rfl, ?hye19⟩) (by assumption) ?reste19
                case hye19 => (intro w hSw; (try dsimp only at hSw); go_simp; all_goals with_reducible rfl)
                simp only [Act.put, List.setIfInBounds_toArray, List.set_cons_zero, List.set_cons_succ]
                refine wpAnyH_takeAt (i := 20) (v := ?ve20) (some 36) rfl rfl (by kernel_rfl) (by kernel_rfl) (by kernel_rfl) (fun _ _ _ h => h) (Or.inl ⟨by rfl, ?hye20⟩) (by assumption) ?reste20
                case hye20 => (intro w hSw; (try dsimp only at hSw); go_simp; all_goals with_reducible rfl)
                simp only [Act.put, List.setIfInBounds_toArray, List.set_cons_zero, List.set_cons_succ]
                refine wpAnyH_takeAt (i := 22) (v := ?ve22) (some 38) rfl rfl (by kernel_rfl) (by kernel_rfl) (by kernel_rfl) (fun _ _ _ h => h) (Or.inl ⟨by rfl, ?hye22⟩) (by assumption) ?reste22
                case hye22 => (intro w hSw; (try dsimp only at hSw); go_simp; all_goals with_reducible rfl)
                simp only [Act.put, List.setIfInBounds_toArray, List.set_cons_zero, List.set_cons_succ]
                refine wpAnyH_takeAt (i := 23) (v := ?ve23) (some 39) rfl rfl (by kernel_rfl) (by kernel_rfl) (by kernel_rfl) (fun _ _ _ h => h) (Or.inl ⟨by rfl, ?hye23⟩) (by assumption) ?reste23
                case hye23 => (intro w hSw; (try dsimp only at hSw); go_simp; all_goals with_reducible rfl)
                simp only [Act.put, List.setIfInBounds_toArray, List.set_cons_zero, List.set_cons_succ]
                refine wpAnyH_ready (rs := [21]) (by kernel_rfl) (by simp) ?_
                refine AllReadyH.cons rfl (fun K hK => ?_) AllReadyH.nil
                go_simp
                go_at_call 169
                refine (txn_written _ _ _).mono ?_; rintro e w3 ⟨rfl, hf3⟩; have f3 := f2.then_ hf3
                try go_wp2_with fail
                refine hK.out _ _ (five _ f3) (fun hHeld => ?_)
                clear hK K
                refine wpAnyH_ready (rs := [24]) (by kernel_rfl) (by simp) ?_
                refine AllReadyH.cons rfl (fun K hK => ?_) AllReadyH.nil
                go_simp
                go_at_call 169
                refine (txn_written _ _ _).mono ?_; rintro e w4 ⟨rfl, hf4⟩; have f4 := f3.then_ hf4
                try go_wp2_with fail
                refine hK.out _ _ (five _ f4) (fun hHeld => ?_)
                clear hK K
                refine wpAnyH_takeAt (i := 25) (v := ?ve25) (some 41) rfl rfl (by kernel_rfl) (by kernel_rfl) (by kernel_rfl) (fun _ _ _ h => h) (Or.inl ⟨by rfl, ?hye25⟩) (by assumption) ?reste25
                case hye25 => (intro w hSw; (try dsimp only at hSw); go_simp; all_goals with_reducible rfl)
                simp only [Act.put, List.setIfInBounds_toArray, List.set_cons_zero, List.set_cons_succ]
                refine wpAnyH_takeAt (i := 26) (v := ?ve26) (some 42) rfl rfl (by kernel_rfl) (by kernel_rfl) (by kernel_rfl) (fun _ _ _ h => h) (Or.inl ⟨by rfl, ?hye26⟩) (by assumption) ?reste26
                case hye26 => (intro w hSw; (try dsimp only at hSw); go_simp; all_goals with_reducible rfl)
                simp only [Act.put, List.setIfInBounds_toArray, List.set_cons_zero, List.set_cons_succ]
                refine wpAnyH_takeAt (i := 27) (v := ?ve27) (some 43) rfl rfl (by kernel_rfl) (by kernel_rfl) (by kernel_rfl) (fun _ _ _ h => h) (Or.inl ⟨by rfl, ?hye27⟩) (by assumption) ?reste27
                case hye27 => (intro w hSw; (try dsimp only at hSw); go_simp; all_goals with_reducible rfl)
                simp only [Act.put, List.setIfInBounds_toArray, List.set_cons_zero, List.set_cons_succ]
                refine wpAnyH_done (by kernel_rfl) ?_ _
                refine NoPanic.normal ?_
                all_goals go_wp2_with fail
                all_goals go_meet
                all_goals exact ⟨by rw [HEO.out]; rfl, f4⟩
      case rest =>
        obtain ⟨rfl, hfc⟩ := hcut
        have hfw := hf.then_ (hfa.then_ hfc)
        cases hoa : okAt writeOk l k with
        | true =>
          have HOA := Lib.hid hoa
          clear hoa
          go_wp2_with fail
          go_roundw
          case rel => exact ⟨k + 1, by omega, by go_num, okTo_succ _ hok.out HOA.out, hfw⟩
          case measure => simp [intOf]; omega
        | false =>
          have hno := rises_no _ hlt hoa
          clear hoa
          go_wp2_with fail
          go_ret
          exact ⟨by rw [hno]; rfl, hfw⟩
    · obtain rfl : k = l.length := by omega
      have hri : rises writeOk l = decide ((l.length : Int) ≤ 8) := by unfold rises; rw [hok.out]; rfl
      have HRI := Lib.hid hri
      clear hri h
      go_wp2_with fail
      go_ret
      exact ⟨by rw [HRI.out]; rfl, hf⟩
end Go.Proofs.YtmkdhhhoodeemaaGreat

/- txn: right, wrap, Check. -/
namespace Go.Proofs.YtmkdhhhoodeemaaGreat
open Go Go.RowKit
def TOk (c n : Int) (R : List (ByteArray × Int)) (W : List (ByteArray × ByteArray)) : Prop :=
  0 ≤ c ∧ c < 16 ∧ 1 ≤ n ∧ n ≤ 1099511627776 ∧ (0 : Int) < (R.length : Int) + W.length ∧ rises readOk R = true ∧ rises writeOk W = true
instance (c n : Int) (R : List (ByteArray × Int)) (W : List (ByteArray × ByteArray)) : Decidable (TOk c n R W) := by unfold TOk; infer_instance
section
variable {α : Type} {ok : ByteArray × α → Bool}
theorem rises_len {l : List (ByteArray × α)} (h : rises ok l = true) : l.length ≤ 8 := by
  unfold rises at h
  rw [Bool.and_eq_true, decide_eq_true_eq] at h
  omega
theorem rises_at {l : List (ByteArray × α)} (h : rises ok l = true) : ∀ x ∈ l, x.1.size ≤ 16 ∧ ok x = true := by
  intro x hx
  obtain ⟨k, hk⟩ := List.getElem?_of_mem hx
  have hlt : k < l.length := (List.getElem?_eq_some_iff.1 hk).1
  unfold rises okTo at h
  rw [Bool.and_eq_true, List.all_eq_true] at h
  have h1 := h.1 k (List.mem_range.2 hlt)
  unfold okAt at h1
  rw [hk] at h1
  simp only [Bool.and_eq_true, Bool.not_eq_true', decide_eq_false_iff_not] at h1
  exact ⟨by omega, h1.1.2⟩
end
theorem read_sizes {R : List (ByteArray × Int)} (h : rises readOk R = true) : ∀ x ∈ R, x.1.size ≤ 16 := fun x hx => (rises_at h x hx).1
theorem write_sizes {W : List (ByteArray × ByteArray)} (h : rises writeOk W = true) : ∀ x ∈ W, x.1.size ≤ 16 ∧ x.2.size ≤ 64 := fun x hx => by
  obtain ⟨h1, h2⟩ := rises_at h x hx
  unfold writeOk at h2
  rw [decide_eq_true_eq] at h2
  exact ⟨h1, by omega⟩
set_option maxRecDepth 100000 in
theorem txn_right_ok {w : World} {F : Nat → Prop} {A B : Option Addr} {cr cw : Nat} {c n : Int} {R : List (ByteArray × Int)} {W : List (ByteArray × ByteArray)} (hr : ReadRow w F A R) (hw : WriteRow w F B W) (h : TOk c n R W) :
    Calls Tryz.prog 138 #[.agg #[.int .i64 c, .int .i64 n, .slice A R.length cr, .slice B W.length cw]] w (OkB w true) := by
  obtain ⟨h0, h1, h2, h3, h4, h5, h6⟩ := h
  have hf0 : Fr (fun _ => False) w (w.alloc (Obj.cells #[.int .i64 c, .int .i64 n, .slice A R.length cr, .slice B W.length cw] 29)) := (Fr.refl _ _).alloc _
  have hl1 := rises_len h5
  have hl2 := rises_len h6
  have hsum : IntKind.i64.wrap ((R.length : Int) + (W.length : Int)) = (R.length : Int) + (W.length : Int) := by
    have := wrap_i64 (R.length + W.length) (by omega)
    rw [Int.natCast_add] at this
    exact this
  have HR := Lib.hid (txn_rises_read (cap := cr) (hr.fr hf0 (fun _ _ => id)) (by omega))
  have hB0 := Blk.new w 29 #[.int .i64 c, .int .i64 n, .slice A R.length cr, .slice B W.length cw]
  have HW : Hid (∀ w', Fr (fun _ => False) w w' → Calls Tryz.prog 168 #[.slice B W.length cw, .func (.func 169) #[] #[], .func (.func 170) #[] #[]] w' (OkB w' true)) := fun w' hf => by
    have := txn_rises_write (cap := cw) (hw.fr hf (fun _ _ => id)) (by omega)
    rw [h6] at this
    exact this
  rw [h5] at HR
  clear hr hw h5 h6 hl1 hl2
  go_enter Tryz.func138, Tryz.ntmps138
  go_wp2_with (first | (go_at_call 165; refine HR.out.mono ?_; rintro e w1 ⟨rfl, hf1⟩; have hf01 := hf0.then_ hf1; have hc3 := (hB0.fr hf1 id).cell 3) | (go_at_call 168; refine (HW.out _ hf01).mono ?_; rintro e w2 ⟨rfl, hf2⟩))
  go_ret
  exact ⟨rfl, hf01.then_ hf2⟩
theorem txn_wrap_nil (w : World) : Calls Tryz.prog 109 #[.nilIface] w fun e w' => e = .returned .nilIface ∧ w = w' := by
  go_enter Tryz.func109, Tryz.ntmps109
  go_wp2_with (go_at_call 70; refine (fault_Wrap_nil _ _ _).mono ?_; rintro e w' ⟨rfl, rfl⟩)
  go_ret
  exact ⟨rfl, rfl⟩
theorem txn_wrap_err (l : List (ByteArray × Int)) (k : Int) (w : World) : Calls Tryz.prog 109 #[errV l k] w fun e w' => e = .returned (errV (((⟨#[116, 120, 110]⟩ : ByteArray), 0) :: l) k) ∧ w = w' := by
  obtain ⟨t, u, hu⟩ := errV_iface l k
  have HW := Lib.hid (fun w => fault_Wrap l k (⟨#[116, 120, 110]⟩ : ByteArray) 0 w)
  obtain ⟨t2, u2, hu2⟩ := errV_iface (((⟨#[116, 120, 110]⟩ : ByteArray), 0) :: l) k
  rw [hu, hu2] at HW
  rw [hu, hu2]
  clear hu hu2
  go_enter Tryz.func109, Tryz.ntmps109
  go_wp2_with (go_at_call 70; refine (HW.out _).mono ?_; rintro e w' ⟨rfl, rfl⟩)
  go_ret
  exact ⟨rfl, rfl⟩
def NilOk (w : World) (e : Ending) (w' : World) : Prop := e = .returned .nilIface ∧ Fr (fun _ => False) w w'
theorem txn_Check_ok {w : World} {F : Nat → Prop} {A B : Option Addr} {cr cw : Nat} {c n : Int} {R : List (ByteArray × Int)} {W : List (ByteArray × ByteArray)} (hr : ReadRow w F A R) (hw : WriteRow w F B W) (h : TOk c n R W) :
    Calls Tryz.prog 111 #[.agg #[.int .i64 c, .int .i64 n, .slice A R.length cr, .slice B W.length cw]] w (NilOk w) := by
  have hf0 : Fr (fun _ => False) w (w.alloc (Obj.cells #[.int .i64 c, .int .i64 n, .slice A R.length cr, .slice B W.length cw] 29)) := (Fr.refl _ _).alloc _
  have HR := Lib.hid (txn_right_ok (cr := cr) (cw := cw) (hr.fr hf0 (fun _ _ => id)) (hw.fr hf0 (fun _ _ => id)) h)
  clear hr hw h
  go_enter Tryz.func111, Tryz.ntmps111
  go_wp2_with (go_at_call 138; refine HR.out.mono ?_; rintro e w1 ⟨rfl, hf1⟩)
  go_ret
  exact ⟨rfl, hf0.then_ hf1⟩
def TxnErr (w : World) (e : Ending) (w' : World) : Prop := e = .returned (errV [((⟨#[116, 120, 110]⟩ : ByteArray), 0)] 101) ∧ Fr (fun _ => False) w w'
end Go.Proofs.YtmkdhhhoodeemaaGreat

/- say: between, Check; cohortref11: Right. -/
namespace Go.Proofs.YtmkdhhhoodeemaaGreat
open Go Go.RowKit
structure SayD where
  kind : Int
  txn : Int
  yes : Bool
  from_ : ByteArray
  to_ : ByteArray
  epoch : Int
  shard : Int
  target : Int
  root : Int
def OkSay (s : SayD) : Prop := ¬ s.kind < 1 ∧ ¬ 9 < s.kind ∧ ¬ s.txn < 0 ∧ ¬ 2147483647 < s.txn ∧ ¬ s.root < 0 ∧ ¬ 2147483647 < s.root ∧ ¬ (16 : Int) < s.from_.size ∧ ¬ (16 : Int) < s.to_.size ∧ ¬ s.epoch < 0 ∧ ¬ 1099511627776 < s.epoch ∧ ¬ s.shard < 0 ∧ ¬ 3 < s.shard ∧ ¬ s.target < 0 ∧ ¬ 3 < s.target
instance (s : SayD) : Decidable (OkSay s) := by unfold OkSay; infer_instance
def Bool1 (w : World) (b : Bool) (e : Ending) (w' : World) : Prop := e = .returned (.bool b) ∧ Fr (fun _ => False) w w'
/-- Two numbers in a row. -/
def TwoAt (w : World) (g : Nat) (a b : Int) : Prop := w.cell? ⟨g, 0, none⟩ = some (.int .i64 a) ∧ w.cell? ⟨g, 1, none⟩ = some (.int .i64 b)
theorem two_new (w : World) (e : TypeId) (a b : Int) {n : Nat} (hn : n = w.heap.size) : TwoAt (w.alloc (.cells #[.int .i64 a, .int .i64 b] e)) n a b :=
  ⟨(Blk.new_ w e #[.int .i64 a, .int .i64 b] hn).cell 0, (Blk.new_ w e #[.int .i64 a, .int .i64 b] hn).cell 1⟩
theorem slices_Min2 {w : World} {g : Nat} {a b : Int} (h : TwoAt w g a b) : Calls Tryz.prog 158 #[.slice (some ⟨g, 0, none⟩) 2 2] w fun e w' => e = .returned (.int .i64 (min a b)) ∧ w = w' := by
  obtain ⟨h0, h1⟩ := h
  go_enter Tryz.func158, Tryz.ntmps158
  go_wp2_with fail
  go_loopw [3, 4] (fun m i wr => ((i = .int .i64 1 ∧ m = .int .i64 a) ∨ (i = .int .i64 2 ∧ m = .int .i64 (min a b))) ∧ w = wr) (fun _ i _ => 2 - (intOf i).toNat)
  case atStart => exact ⟨.inl ⟨rfl, rfl⟩, rfl⟩
  case round =>
    obtain ⟨⟨rfl, rfl⟩ | ⟨rfl, rfl⟩, rfl⟩ := hrel
    · by_cases hab : a ≤ b
      · have hmin : min a b = a := by omega
        go_wp2_with fail
        go_roundw
        case rel => exact ⟨.inr ⟨rfl, by first | (rw [hmin]; done) | (rw [hmin]; congr 1; split <;> omega)⟩, by trivial⟩
        case measure => simp [intOf]
      · have hmin : min a b = b := by omega
        go_wp2_with fail
        go_roundw
        case rel => exact ⟨.inr ⟨rfl, by first | (rw [hmin]; done) | (rw [hmin]; congr 1; split <;> omega)⟩, by trivial⟩
        case measure => simp [intOf]
    · go_wp2
      go_ret
      exact ⟨rfl, rfl⟩
theorem slices_Max2 {w : World} {g : Nat} {a b : Int} (h : TwoAt w g a b) : Calls Tryz.prog 159 #[.slice (some ⟨g, 0, none⟩) 2 2] w fun e w' => e = .returned (.int .i64 (max a b)) ∧ w = w' := by
  obtain ⟨h0, h1⟩ := h
  go_enter Tryz.func159, Tryz.ntmps159
  go_wp2_with fail
  go_loopw [3, 4] (fun m i wr => ((i = .int .i64 1 ∧ m = .int .i64 a) ∨ (i = .int .i64 2 ∧ m = .int .i64 (max a b))) ∧ w = wr) (fun _ i _ => 2 - (intOf i).toNat)
  case atStart => exact ⟨.inl ⟨rfl, rfl⟩, rfl⟩
  case round =>
    obtain ⟨⟨rfl, rfl⟩ | ⟨rfl, rfl⟩, rfl⟩ := hrel
    · by_cases hab : a ≤ b
      · have hmax : max a b = b := by omega
        go_wp2_with fail
        go_roundw
        case rel => exact ⟨.inr ⟨rfl, by first | (rw [hmax]; done) | (rw [hmax]; congr 1; split <;> omega)⟩, by trivial⟩
        case measure => simp [intOf]
      · have hmax : max a b = a := by omega
        go_wp2_with fail
        go_roundw
        case rel => exact ⟨.inr ⟨rfl, by first | (rw [hmax]; done) | (rw [hmax]; congr 1; split <;> omega)⟩, by trivial⟩
        case measure => simp [intOf]
    · go_wp2
      go_ret
      exact ⟨rfl, rfl⟩
def In2 (top a b : Int) : Bool := decide (0 ≤ min a b) && decide (max a b ≤ top)
theorem in2_iff (top a b : Int) : In2 top a b = true ↔ ¬ a < 0 ∧ ¬ b < 0 ∧ ¬ top < a ∧ ¬ top < b := by
  unfold In2
  simp only [Bool.and_eq_true, decide_eq_true_eq]
  omega
theorem say_between {w : World} {g : Nat} {a b : Int} (top : Int) (h : TwoAt w g a b) : Calls Tryz.prog 125 #[.int .i64 top, .slice (some ⟨g, 0, none⟩) 2 2] w fun e w' => e = .returned (.bool (In2 top a b)) ∧ w = w' := by
  have HT := Lib.hid h
  clear h
  unfold In2
  obtain ⟨x, hx⟩ : ∃ x, Hid (min a b = x) := ⟨_, rfl⟩
  obtain ⟨y, hy⟩ : ∃ y, Hid (max a b = y) := ⟨_, rfl⟩
  have H1 := Lib.hid (slices_Min2 HT.out)
  have H2 := Lib.hid (slices_Max2 HT.out)
  rw [hx.out] at H1
  rw [hy.out] at H2
  rw [hx.out, hy.out]
  by_cases h0 : 0 ≤ x
  · go_enter Tryz.func125, Tryz.ntmps125
    go_wp2_with (first | (go_at_call 158; refine H1.out.mono ?_; rintro e w' ⟨rfl, rfl⟩) | (go_at_call 159; refine H2.out.mono ?_; rintro e w' ⟨rfl, rfl⟩))
    go_ret
    exact ⟨by simp [h0], rfl⟩
  · go_enter Tryz.func125, Tryz.ntmps125
    go_wp2_with (first | (go_at_call 158; refine H1.out.mono ?_; rintro e w' ⟨rfl, rfl⟩) | (go_at_call 159; refine H2.out.mono ?_; rintro e w' ⟨rfl, rfl⟩))
    go_ret
    exact ⟨by rw [decide_eq_false (p := 0 ≤ x) (by omega)]; rfl, rfl⟩
set_option maxRecDepth 100000 in
set_option maxHeartbeats 2000000 in
theorem ref11_Right1 (w : World) (kind txn : Int) (yes : Bool) (fr to2 : ByteArray) (epoch shard target root : Int) :
    Calls Tryz.prog 29 #[.agg #[.int .i64 kind, .int .i64 txn, .bool yes, .string fr, .string to2, .int .i64 epoch, .int .i64 shard, .int .i64 target, .int .i64 root]] w (Bool1 w (decide (OkSay ⟨kind, txn, yes, fr, to2, epoch, shard, target, root⟩))) := by
  by_cases b0 : kind < 1
  · rw [decide_eq_false (show ¬ OkSay ⟨kind, txn, yes, fr, to2, epoch, shard, target, root⟩ from fun h => by unfold OkSay at h; exact absurd b0 (by first | exact h.1 | exact (by obtain ⟨a0, a1, a2, a3, a4, a5, a6, a7, a8, a9, a10, a11, a12, a13⟩ := h; exact a0)))]
    go_enter Tryz.func29, Tryz.ntmps29
    go_wp2
    go_ret
    exact ⟨by first | rfl | (simp; omega), (Fr.refl _ _).alloc _⟩
  ·
    by_cases b1 : 9 < kind
    · rw [decide_eq_false (show ¬ OkSay ⟨kind, txn, yes, fr, to2, epoch, shard, target, root⟩ from fun h => by unfold OkSay at h; exact absurd b1 (by first | exact h.1 | exact (by obtain ⟨a0, a1, a2, a3, a4, a5, a6, a7, a8, a9, a10, a11, a12, a13⟩ := h; exact a1)))]
      go_enter Tryz.func29, Tryz.ntmps29
      go_wp2
      go_ret
      exact ⟨by first | rfl | (simp; omega), (Fr.refl _ _).alloc _⟩
    ·
      by_cases b2 : txn < 0
      · rw [decide_eq_false (show ¬ OkSay ⟨kind, txn, yes, fr, to2, epoch, shard, target, root⟩ from fun h => by unfold OkSay at h; exact absurd b2 (by first | exact h.1 | exact (by obtain ⟨a0, a1, a2, a3, a4, a5, a6, a7, a8, a9, a10, a11, a12, a13⟩ := h; exact a2)))]
        go_enter Tryz.func29, Tryz.ntmps29
        go_wp2
        go_ret
        exact ⟨by first | rfl | (simp; omega), (Fr.refl _ _).alloc _⟩
      ·
        by_cases b3 : 2147483647 < txn
        · rw [decide_eq_false (show ¬ OkSay ⟨kind, txn, yes, fr, to2, epoch, shard, target, root⟩ from fun h => by unfold OkSay at h; exact absurd b3 (by first | exact h.1 | exact (by obtain ⟨a0, a1, a2, a3, a4, a5, a6, a7, a8, a9, a10, a11, a12, a13⟩ := h; exact a3)))]
          go_enter Tryz.func29, Tryz.ntmps29
          go_wp2
          go_ret
          exact ⟨by first | rfl | (simp; omega), (Fr.refl _ _).alloc _⟩
        ·
          by_cases b4 : root < 0
          · rw [decide_eq_false (show ¬ OkSay ⟨kind, txn, yes, fr, to2, epoch, shard, target, root⟩ from fun h => by unfold OkSay at h; exact absurd b4 (by first | exact h.1 | exact (by obtain ⟨a0, a1, a2, a3, a4, a5, a6, a7, a8, a9, a10, a11, a12, a13⟩ := h; exact a4)))]
            go_enter Tryz.func29, Tryz.ntmps29
            go_wp2
            go_ret
            exact ⟨by first | rfl | (simp; omega), (Fr.refl _ _).alloc _⟩
          ·
            by_cases b5 : 2147483647 < root
            · rw [decide_eq_false (show ¬ OkSay ⟨kind, txn, yes, fr, to2, epoch, shard, target, root⟩ from fun h => by unfold OkSay at h; exact absurd b5 (by first | exact h.1 | exact (by obtain ⟨a0, a1, a2, a3, a4, a5, a6, a7, a8, a9, a10, a11, a12, a13⟩ := h; exact a5)))]
              go_enter Tryz.func29, Tryz.ntmps29
              go_wp2
              go_ret
              exact ⟨by first | rfl | (simp; omega), (Fr.refl _ _).alloc _⟩
            ·
              by_cases b6 : (16 : Int) < fr.size
              · rw [decide_eq_false (show ¬ OkSay ⟨kind, txn, yes, fr, to2, epoch, shard, target, root⟩ from fun h => by unfold OkSay at h; exact absurd b6 (by first | exact h.1 | exact (by obtain ⟨a0, a1, a2, a3, a4, a5, a6, a7, a8, a9, a10, a11, a12, a13⟩ := h; exact a6)))]
                go_enter Tryz.func29, Tryz.ntmps29
                go_wp2
                go_ret
                exact ⟨by first | rfl | (simp; omega), (Fr.refl _ _).alloc _⟩
              ·
                by_cases b7 : (16 : Int) < to2.size
                · rw [decide_eq_false (show ¬ OkSay ⟨kind, txn, yes, fr, to2, epoch, shard, target, root⟩ from fun h => by unfold OkSay at h; exact absurd b7 (by first | exact h.1 | exact (by obtain ⟨a0, a1, a2, a3, a4, a5, a6, a7, a8, a9, a10, a11, a12, a13⟩ := h; exact a7)))]
                  go_enter Tryz.func29, Tryz.ntmps29
                  go_wp2
                  go_ret
                  exact ⟨by first | rfl | (simp; omega), (Fr.refl _ _).alloc _⟩
                ·
                  by_cases b8 : epoch < 0
                  · rw [decide_eq_false (show ¬ OkSay ⟨kind, txn, yes, fr, to2, epoch, shard, target, root⟩ from fun h => by unfold OkSay at h; exact absurd b8 (by first | exact h.1 | exact (by obtain ⟨a0, a1, a2, a3, a4, a5, a6, a7, a8, a9, a10, a11, a12, a13⟩ := h; exact a8)))]
                    go_enter Tryz.func29, Tryz.ntmps29
                    go_wp2
                    go_ret
                    exact ⟨by first | rfl | (simp; omega), (Fr.refl _ _).alloc _⟩
                  ·
                    by_cases b9 : 1099511627776 < epoch
                    · rw [decide_eq_false (show ¬ OkSay ⟨kind, txn, yes, fr, to2, epoch, shard, target, root⟩ from fun h => by unfold OkSay at h; exact absurd b9 (by first | exact h.1 | exact (by obtain ⟨a0, a1, a2, a3, a4, a5, a6, a7, a8, a9, a10, a11, a12, a13⟩ := h; exact a9)))]
                      go_enter Tryz.func29, Tryz.ntmps29
                      go_wp2
                      go_ret
                      exact ⟨by first | rfl | (simp; omega), (Fr.refl _ _).alloc _⟩
                    ·
                      by_cases b10 : shard < 0
                      · rw [decide_eq_false (show ¬ OkSay ⟨kind, txn, yes, fr, to2, epoch, shard, target, root⟩ from fun h => by unfold OkSay at h; exact absurd b10 (by first | exact h.1 | exact (by obtain ⟨a0, a1, a2, a3, a4, a5, a6, a7, a8, a9, a10, a11, a12, a13⟩ := h; exact a10)))]
                        go_enter Tryz.func29, Tryz.ntmps29
                        go_wp2
                        go_ret
                        exact ⟨by first | rfl | (simp; omega), (Fr.refl _ _).alloc _⟩
                      ·
                        by_cases b11 : 3 < shard
                        · rw [decide_eq_false (show ¬ OkSay ⟨kind, txn, yes, fr, to2, epoch, shard, target, root⟩ from fun h => by unfold OkSay at h; exact absurd b11 (by first | exact h.1 | exact (by obtain ⟨a0, a1, a2, a3, a4, a5, a6, a7, a8, a9, a10, a11, a12, a13⟩ := h; exact a11)))]
                          go_enter Tryz.func29, Tryz.ntmps29
                          go_wp2
                          go_ret
                          exact ⟨by first | rfl | (simp; omega), (Fr.refl _ _).alloc _⟩
                        ·
                          by_cases b12 : target < 0
                          · rw [decide_eq_false (show ¬ OkSay ⟨kind, txn, yes, fr, to2, epoch, shard, target, root⟩ from fun h => by unfold OkSay at h; exact absurd b12 (by first | exact h.1 | exact (by obtain ⟨a0, a1, a2, a3, a4, a5, a6, a7, a8, a9, a10, a11, a12, a13⟩ := h; exact a12)))]
                            go_enter Tryz.func29, Tryz.ntmps29
                            go_wp2
                            go_ret
                            exact ⟨by first | rfl | (simp; omega), (Fr.refl _ _).alloc _⟩
                          ·
                            by_cases b13 : 3 < target
                            · rw [decide_eq_false (show ¬ OkSay ⟨kind, txn, yes, fr, to2, epoch, shard, target, root⟩ from fun h => by unfold OkSay at h; exact absurd b13 (by first | exact h.1 | exact (by obtain ⟨a0, a1, a2, a3, a4, a5, a6, a7, a8, a9, a10, a11, a12, a13⟩ := h; exact a13)))]
                              go_enter Tryz.func29, Tryz.ntmps29
                              go_wp2
                              go_ret
                              exact ⟨by first | rfl | (simp; omega), (Fr.refl _ _).alloc _⟩
                            ·
                              rw [decide_eq_true (show OkSay ⟨kind, txn, yes, fr, to2, epoch, shard, target, root⟩ from ⟨b0, b1, b2, b3, b4, b5, b6, b7, b8, b9, b10, b11, b12, b13⟩)]
                              go_enter Tryz.func29, Tryz.ntmps29
                              go_wp2
                              go_ret
                              exact ⟨by first | rfl | (simp; omega), (Fr.refl _ _).alloc _⟩
end Go.Proofs.YtmkdhhhoodeemaaGreat
