/- cohortlaw05.CertMore: the walk. -/
import Derived.Test.YtjnmfaaegbkmhaaDoorHead05
import Derived.Test.YtjnmfaaegbkmhaaDoorPlain05
import Derived.Test.YtjnmfaaegbkmhaaDoorCode
import Derived.Test.YtjnmfaaegbkmhaaDoorGrow
import Derived.Deep.RegionHeldLaw
namespace Go.Proofs.YtjnmfaaegbkmhaaDoor
open Go Go.RowKit
set_option maxRecDepth 100000 in
set_option maxHeartbeats 1000000 in
theorem certMore_walk {w : World} (hG0 : Laid w) {A : Option Addr} {l : List (Int × Int × Int)} {cap : Nat} (hl : SealRow w A l) (hll : l.length ≤ 9223372036854775807)
    {B : Option Addr} {xs : List Int} {cap2 : Nat} (hr : IntRow w w.heap.size B xs) (hxl : xs.length ≤ 9223372036854775807) (need mo G D : Int) :
    Calls Tryd.prog 3 #[.slice A l.length cap, .agg #[.int .i64 G, .int .i64 D, .slice B xs.length cap2], .int .i64 need, .int .i64 mo] w (Fine w true) := by
  have hGb : 0 < w.heap.size := World.block_lt_of_cell? w _ hG0
  go_enter Tryd.func3, Tryd.ntmps3
  go_wp2_with fail
  have hb0 := Blk.new w 25 #[.int .i64 G, .int .i64 D, .slice B xs.length cap2]
  have hf0 : Fr (fun _ => False) w (w.alloc (Obj.cells #[.int .i64 G, .int .i64 D, .slice B xs.length cap2] 25)) := (Fr.refl _ _).alloc _
  refine (law05_head _).mono ?_
  rintro e w1 ⟨rfl, hf1⟩
  have hb1 := hb0.fr hf1 id
  have hf1' := hf0.then_ hf1
  clear hb0 hf0 hf1
  go_wp2_with fail
  refine (law05_signed (hl.fr hf1' (fun _ _ => id)) hll).mono ?_
  rintro e w2 ⟨g, m, gr, v, rfl, hg, hm, _, hs2, _, hf2⟩
  have hb2 := hb1.fr hf2 id
  have hf2' := hf1'.then_ hf2
  have c0 := hb2.cell 0
  have c1 := hb2.cell 1
  have c2 := hb2.cell 2
  clear hb1 hf1' hf2 hl hg hm
  generalize signTo l 200 = L at hs2
  by_cases h200 : xs.length ≤ 200
  · have h200' : ¬ (200 : Int) < (xs.length : Int) := by omega
    go_wp2_with fail
    clear h200'
    refine (cert_Check hs2 ((hr.fr hf2' (fun _ _ => id)).mono hf2'.size) hxl G D need).mono ?_
    rintro e w3 ⟨rfl, hf3⟩
    have hs3 := hs2.fr hf3 id id
    have hb3 := hb2.fr hf3 id
    have hf3' := hf2'.then_ hf3
    have hG3 := hG0.fr hf3' id
    clear hf3 hf2' hb2 hs2 c0 c1 c2
    rcases hE : checkE G D L xs need with _ | p
    · have HE := Lib.hid hE
      have hn1 : 1 ≤ need := (checkE_none.1 hE).2.2.1
      have hn2 : need ≤ (xs.length : Int) := (checkE_none.1 hE).2.2.2
      have hx0 : 0 < xs.length := by omega
      simp only [errO]
      clear hE
      obtain ⟨b, o, rfl, hbw, hat⟩ := hr.at hx0
      have c0 := hb3.cell 0
      have c1 := hb3.cell 1
      have c2 := hb3.cell 2
      have hlt3 := hb3.lt
      have hlt4 : w.heap.size < w3.heap.size + 1 := by omega
      have hlt5 : w.heap.size < w3.heap.size + 1 + 1 := by omega
      have hne1 : ¬ w.heap.size = w3.heap.size := by omega
      have hne2 : ¬ w3.heap.size = w.heap.size := by omega
      have hx0' : ¬ (xs.length : Int) = 0 := by omega
      have own1 : ((w3.alloc (Obj.cells #[.int .i64 G, .int .i64 D, .slice (some ⟨b, o, none⟩) xs.length cap2] 25)).alloc (Obj.cells #[] 3)).ownsRow w3.heap.size 3 1 (.slice (some ⟨w3.heap.size + 1, 0, none⟩) 0 0) 0 (ints []) := by
        have := own_built (w3.alloc (Obj.cells #[.int .i64 G, .int .i64 D, .slice (some ⟨b, o, none⟩) xs.length cap2] 25)) (base := w3.heap.size) (by simp) [] (by simp) 0 rfl
        simpa [ints] using this
      have hf4 : Fr (fun _ => False) w ((w3.alloc (Obj.cells #[.int .i64 G, .int .i64 D, .slice (some ⟨b, o, none⟩) xs.length cap2] 25)).alloc (Obj.cells #[] 3)) := (hf3'.alloc _).alloc _
      have hf34 : Fr (fun _ => False) w3 ((w3.alloc (Obj.cells #[.int .i64 G, .int .i64 D, .slice (some ⟨b, o, none⟩) xs.length cap2] 25)).alloc (Obj.cells #[] 3)) := ((Fr.refl _ _).alloc _).alloc _
      have hat4 := hat.fr hf4 id
      have hbc4 := hb3.fr hf34 id
      have hbx4 := (Blk.new w3 25 #[.int .i64 G, .int .i64 D, .slice (some ⟨b, o, none⟩) xs.length cap2]).alloc (Obj.cells #[] 3)
      have hsz3 : w.heap.size ≤ w3.heap.size := hf3'.size
      go_wp2_with (first
        | (at_builtin
           refine wpList_append_ints rfl (.tmp 46) (.tmp 48) rfl w3.heap.size _ 0 [] rfl own1 b o xs.length cap2 xs rfl rfl hat4 hx0 (by omega) (by simp; omega) ?_
           intro g5 k5 w5 own5 gr5 h5
           simp only [Nat.zero_add, List.nil_append] at own5
           have hbc5 := hbc4.grown_own own1 gr5 (by decide)
           have hbx5 := hbx4.grown_own own1 gr5 (by decide)
           have hf35 := hf34.grown_own own1 gr5 (Nat.le_refl _)
           have hb5 := hf35.size)
        | (at_builtin
           refine wpList_append_ints rfl (.tmp 49) (.tmp 51) rfl w3.heap.size _ xs.length xs rfl (own5.alloc _) w5.heap.size 0 1 1 [mo] rfl rfl (IntAt.new _ [mo]) (by decide) (by omega) (by simp; omega) ?_
           intro g6 k6 w6 own6 gr6 h6
           have hbc6 := (hbc5.alloc _).grown_own (own5.alloc _) gr6 (by decide)
           have hbx6 := (hbx5.alloc _).grown_own (own5.alloc _) gr6 (by decide)
           have hf36 := (hf35.alloc _).grown_own (own5.alloc _) gr6 (Nat.le_refl _)
           have e2 := hbx6.frozen 2
           have x2 := hbx6.cell 2
           have hsz6 := hf36.size
           have d0 := hbc6.cell 0
           have d1 := hbc6.cell 1
           have d2 := hbc6.cell 2))
      have hc8 := (hbc6.far (p := ⟨w3.heap.size, 2, none⟩) hne1 (.slice (some ⟨g6, 0, none⟩) (xs.length + 1) k6)).alloc (Obj.cells #[.int .i64 G, .int .i64 D, .slice (some ⟨b, o, none⟩) xs.length cap2] 25)
      have hx8 := (hbx6.set_ 2 (.slice (some ⟨g6, 0, none⟩) (xs.length + 1) k6)).alloc (Obj.cells #[.int .i64 G, .int .i64 D, .slice (some ⟨b, o, none⟩) xs.length cap2] 25)
      have hy8 := Blk.new_ (w6.setCell ⟨w3.heap.size, 2, none⟩ (.slice (some ⟨g6, 0, none⟩) (xs.length + 1) k6)) 25 #[.int .i64 G, .int .i64 D, .slice (some ⟨b, o, none⟩) xs.length cap2] (n := w6.heap.size) (by simp)
      have hf38 := (hf36.setCell (p := ⟨w3.heap.size, 2, none⟩) (fun h => by simp at h) (.slice (some ⟨g6, 0, none⟩) (xs.length + 1) k6)).alloc (Obj.cells #[.int .i64 G, .int .i64 D, .slice (some ⟨b, o, none⟩) xs.length cap2] 25)
      have own8 := (own_setCell own6 hbx6 (by decide) 2 (.slice (some ⟨g6, 0, none⟩) (xs.length + 1) k6)).alloc (Obj.cells #[.int .i64 G, .int .i64 D, .slice (some ⟨b, o, none⟩) xs.length cap2] 25)
      generalize hW : (w6.setCell ⟨w3.heap.size, 2, none⟩ (.slice (some ⟨g6, 0, none⟩) (xs.length + 1) k6)).alloc (Obj.cells #[.int .i64 G, .int .i64 D, .slice (some ⟨b, o, none⟩) xs.length cap2] 25) = w8 at hc8 hx8 hy8 hf38 own8 ⊢
      have hge6 : w3.heap.size ≤ w6.heap.size := hf36.size
      have hne3 : ¬ w6.heap.size = w.heap.size := by have := hf36.size; omega
      have hne4 : ¬ w6.heap.size = w3.heap.size := by have := hbx6.lt; omega
      have hf8 := hf3'.then_ hf38
      have hat8 := hat.fr hf8 id
      clear c0 c1 c2 hlt3 hlt4 hlt5 hb3 own1 hat4 hf4 hbc4 hbx4 hbc5 hbx5 hf35 hb5 hbc6 hbx6 e2 x2 d0 d1 d2 hsz6 own5 gr5 own6 gr6 h5 h6 hW hf36 hf34
      obtain ⟨x0, hx0e⟩ : ∃ x, xs[0]? = some x := ⟨xs[0], List.getElem?_eq_getElem hx0⟩
      have d2 : w8.cell? ⟨w.heap.size, 2, none⟩ = some (.slice (some ⟨b, o, none⟩) xs.length cap2) := hc8.cell 2
      have e0 : w8.cell? ⟨b, o, none⟩ = some (.int .i64 x0) := hat8 0 x0 hx0e
      have hx1 : 1 ≤ xs.length := hx0
      have hne5 : ¬ w.heap.size = w6.heap.size := fun h => hne3 h.symm
      have hge7 : ∀ (p : Prop), w6.heap.size < w.heap.size → p := fun p h => by omega
      have hf10 := hf8.drew.alloc (Obj.cells #[.int .i64 x0] 3)
      have own10 : (w8.drew.alloc (Obj.cells #[.int .i64 x0] 3)).ownsRow w8.heap.size 3 1 (.slice (some ⟨w8.heap.size, 0, none⟩) 1 1) 1 (ints [x0]) := own_built w8.drew (Nat.le_refl _) [x0] (by simp) 1 rfl
      have hat10 := hat.fr hf10 id
      have hc10 := hc8.drew.alloc (Obj.cells #[.int .i64 x0] 3)
      have hx10 := hx8.drew.alloc (Obj.cells #[.int .i64 x0] 3)
      have hy10 := hy8.drew.alloc (Obj.cells #[.int .i64 x0] 3)
      have d10 : (w8.drew.alloc (Obj.cells #[.int .i64 x0] 3)).cell? ⟨w.heap.size, 2, none⟩ = some (.slice (some ⟨b, o, none⟩) xs.length cap2) := hc10.cell 2
      have e10 : (w8.drew.alloc (Obj.cells #[.int .i64 x0] 3)).cell? ⟨b, o, none⟩ = some (.int .i64 x0) := hat10 0 x0 hx0e
      go_region_held_law (fun w' => w'.cell? ⟨w.heap.size, 2, none⟩ = some (.slice (some ⟨b, o, none⟩) xs.length cap2) ∧ w'.cell? ⟨b, o, none⟩ = some (.int .i64 x0)) (first | exact ⟨d2, e0⟩ | exact ⟨d10, e10⟩ | exact ⟨d11, e11⟩ | exact ⟨d12 _, e12 _⟩) (first | (refine step_append_ints rfl (.tmp 59) (.tmp 61) rfl w8.heap.size (.slice (some ⟨w8.heap.size, 0, none⟩) 1 1) 1 [x0] (by simp [Act.eval, Act.put]) own10 b o xs.length cap2 xs (by simp [Act.eval, Act.put]) rfl hat10 hx0 (by omega) (by simp) ?_; intro g9 k9 w9 own9 gr9 h9; have hc9 := hc10.grown_own own10 gr9 (by decide); have hx9 := hx10.grown_own own10 gr9 (by decide); have hy9 := hy10.grown_own own10 gr9 (by decide); have d11 : w9.cell? ⟨w.heap.size, 2, none⟩ = some (.slice (some ⟨b, o, none⟩) xs.length cap2) := hc9.cell 2; have hf9 := hf10.grown_own own10 gr9 (Nat.le_of_lt_succ (Nat.lt_succ_of_le hf8.size)); have e11 : w9.cell? ⟨b, o, none⟩ = some (.int .i64 x0) := (hat.fr hf9 id) 0 x0 hx0e; have d12 := fun u => (hc9.far (p := ⟨w6.heap.size, 2, none⟩) hne5 u).cell 2; have hf12 := fun u => hf9.setCell (p := ⟨w6.heap.size, 2, none⟩) (hge7 _) u; have e12 : ∀ u, (w9.setCell ⟨w6.heap.size, 2, none⟩ u).cell? ⟨b, o, none⟩ = some (.int .i64 x0) := fun u => (hat.fr (hf12 u) id) 0 x0 hx0e; have hf89 := (((Fr.refl (fun k => k = w6.heap.size) w8).drew).alloc (Obj.cells #[.int .i64 x0] 3)).grown_own own10 gr9 (Nat.le_refl _); have y2 := hy9.cell 2; have z2 := hy9.frozen 2))
      have hc13 := hc9.far (p := ⟨w6.heap.size, 2, none⟩) hne5 (.slice (some ⟨g9, 0, none⟩) (1 + xs.length) k9)
      have hx13 := hx9.far (p := ⟨w6.heap.size, 2, none⟩) (fun h => hne4 h.symm) (.slice (some ⟨g9, 0, none⟩) (1 + xs.length) k9)
      have hy13 := hy9.set_ 2 (.slice (some ⟨g9, 0, none⟩) (1 + xs.length) k9)
      have hf13 := hf12 (.slice (some ⟨g9, 0, none⟩) (1 + xs.length) k9)
      have hf813 := hf89.setCell (p := ⟨w6.heap.size, 2, none⟩) (fun _ => rfl) (.slice (some ⟨g9, 0, none⟩) (1 + xs.length) k9)
      have hf313 : Fr (fun _ => False) w3 _ := hf38.trans hf813 (fun k hk e => by omega)
      have rx13 := IntRow.of_own' (own_fr own8 hf813 (fun k hk e => own_ne_blk own8 hy8 (by decide) (e ▸ hk)))
      have ry13 := IntRow.of_own' (own_setCell own9 hy9 (by decide) 2 (.slice (some ⟨g9, 0, none⟩) (1 + xs.length) k9))
      have hs13 := hs3.fr hf313 id id
      have hr13 := hr.fr hf13 (fun _ _ => id)
      have hat13 := hat.fr hf13 id
      have hG13 := hG0.fr hf13 id
      simp only [List.singleton_append] at ry13
      generalize hW : w9.setCell ⟨w6.heap.size, 2, none⟩ (.slice (some ⟨g9, 0, none⟩) (1 + xs.length) k9) = w13 at *
      clear hW
      have c0 := hc13.cell 0
      have c1 := hc13.cell 1
      have c2 := hc13.cell 2
      obtain ⟨last, hlast⟩ : ∃ x, xs[xs.length - 1]? = some x := ⟨xs[xs.length - 1], List.getElem?_eq_getElem (by omega)⟩
      have e1 := hat13 _ _ hlast
      have hsn := check_snoc HE.out (x := mo) hlast hn1 hn2
      have hEy : Hid (checkE G D L (x0 :: xs) need = some ([((⟨#[115, 105, 103, 110, 101, 114]⟩ : ByteArray), 1)], 52)) := check_twice HE.out hx0e
      clear hc13 hf38 hc8 hx8 hy8 own8 hf8 hat8 hf10 own10 hat10 hc10 hx10 hy10 d10 e10 own9 gr9 h9 hc9 hx9 hy9 d11 hf9 e11 hf89 y2 z2 hf313 hf813 hr13 hat13 d2 e0
      by_cases h1 : 0 ≤ memberOf G mo
      · by_cases h2 : last < mo
        · go_wp2_with (first | (go_at_call 9; refine (seals_Member G mo _).mono ?_; rintro e w' ⟨rfl, rfl⟩))
          refine (seals_Signed hs13 _ _).mono ?_
          rintro e w14 ⟨rfl, hf14⟩
          have hs14 := hs13.fr hf14 id id
          have hx14 := hx13.fr hf14 id
          have hy14 := hy13.fr hf14 id
          have hf14' := hf13.then_ hf14
          have a0 : w14.cell? ⟨w3.heap.size, 0, none⟩ = some (.int .i64 G) := hx14.cell 0
          have a1 : w14.cell? ⟨w3.heap.size, 1, none⟩ = some (.int .i64 D) := hx14.cell 1
          have a2 : w14.cell? ⟨w3.heap.size, 2, none⟩ = some (.slice (some ⟨g6, 0, none⟩) (xs.length + 1) k6) := hx14.cell 2
          clear c0 c1 c2 e1
          by_cases h3 : (memberOf G mo, D) ∈ L
          · have h3' : decide ((memberOf G mo, D) ∈ L) = true := decide_eq_true h3
            have hEx : Hid (checkE G D L (xs ++ [mo]) need = none) := hsn.2 ⟨h2, h1, h3⟩
            rw [h3']
            clear hsn h3 h3'
            go_wp2_with fail
            refine (cert_Check_n hs14 ((rx13.fr hf14 (fun _ _ => id) |>.mono hf14.size).mono (Nat.le_refl _)) (by simp) (by omega) G D need).mono ?_
            rintro e w15 ⟨rfl, hf15⟩
            rw [hEx.out]
            simp only [errO]
            have hs15 := hs14.fr hf15 id id
            have hy15 := hy14.fr hf15 id
            have hf16 := hf14'.then_ hf15
            have hG15 := hG0.fr hf16 id
            have ry15 := (ry13.fr hf14 (fun _ _ => id) |>.mono hf14.size).fr hf15 (fun _ _ => id)
            have b0 : w15.cell? ⟨w6.heap.size, 0, none⟩ = some (.int .i64 G) := hy15.cell 0
            have b1 : w15.cell? ⟨w6.heap.size, 1, none⟩ = some (.int .i64 D) := hy15.cell 1
            have b2 : w15.cell? ⟨w6.heap.size, 2, none⟩ = some (.slice (some ⟨g9, 0, none⟩) (1 + xs.length) k9) := hy15.cell 2
            clear a0 a1 a2
            go_wp2_with fail
            refine (cert_Check_n hs15 (ry15.mono hf15.size) (by simp; omega) (by omega) G D need).mono ?_
            rintro e w17 ⟨rfl, hf17⟩
            rw [hEy.out]
            have hf18 := hf16.then_ hf17
            have hG17 := hG0.fr hf18 id
            simp only [errO]
            clear b0 b1 b2
            go_wp2_with fail
            refine (fault_Code hG17 _ _).mono ?_
            rintro e w19 ⟨rfl, hf19⟩
            go_wp2
            go_ret
            exact ⟨rfl, hf18.then_ hf19⟩
          · have h3' : decide ((memberOf G mo, D) ∈ L) = false := decide_eq_false h3
            have hEx : Hid (∃ p, checkE G D L (xs ++ [mo]) need = some p) := by
              cases hE : checkE G D L (xs ++ [mo]) need with
              | some p => exact ⟨p, rfl⟩
              | none => exact absurd (hsn.1 hE).2.2 h3
            rw [h3']
            clear hsn h3 h3'
            go_wp2_with fail
            refine (cert_Check_n hs14 ((rx13.fr hf14 (fun _ _ => id) |>.mono hf14.size).mono (Nat.le_refl _)) (by simp) (by omega) G D need).mono ?_
            rintro e w15 ⟨rfl, hf15⟩
            obtain ⟨p, hp⟩ := hEx.out
            obtain ⟨t, v, hv⟩ := errO_some p
            rw [hp, hv]
            clear hp hv
            have hs15 := hs14.fr hf15 id id
            have hy15 := hy14.fr hf15 id
            have hf16 := hf14'.then_ hf15
            have hG15 := hG0.fr hf16 id
            have ry15 := (ry13.fr hf14 (fun _ _ => id) |>.mono hf14.size).fr hf15 (fun _ _ => id)
            have b0 : w15.cell? ⟨w6.heap.size, 0, none⟩ = some (.int .i64 G) := hy15.cell 0
            have b1 : w15.cell? ⟨w6.heap.size, 1, none⟩ = some (.int .i64 D) := hy15.cell 1
            have b2 : w15.cell? ⟨w6.heap.size, 2, none⟩ = some (.slice (some ⟨g9, 0, none⟩) (1 + xs.length) k9) := hy15.cell 2
            clear a0 a1 a2
            go_wp2_with fail
            refine (cert_Check_n hs15 (ry15.mono hf15.size) (by simp; omega) (by omega) G D need).mono ?_
            rintro e w17 ⟨rfl, hf17⟩
            rw [hEy.out]
            have hf18 := hf16.then_ hf17
            have hG17 := hG0.fr hf18 id
            simp only [errO]
            clear b0 b1 b2
            go_wp2_with fail
            refine (fault_Code hG17 _ _).mono ?_
            rintro e w19 ⟨rfl, hf19⟩
            go_wp2
            go_ret
            exact ⟨rfl, hf18.then_ hf19⟩
        · have hEx : Hid (∃ p, checkE G D L (xs ++ [mo]) need = some p) := by
            cases hE : checkE G D L (xs ++ [mo]) need with
            | some p => exact ⟨p, rfl⟩
            | none => exact absurd (hsn.1 hE).1 h2
          clear hsn
          have a0 : w13.cell? ⟨w3.heap.size, 0, none⟩ = some (.int .i64 G) := hx13.cell 0
          have a1 : w13.cell? ⟨w3.heap.size, 1, none⟩ = some (.int .i64 D) := hx13.cell 1
          have a2 : w13.cell? ⟨w3.heap.size, 2, none⟩ = some (.slice (some ⟨g6, 0, none⟩) (xs.length + 1) k6) := hx13.cell 2
          go_wp2_with (first | (go_at_call 9; refine (seals_Member G mo _).mono ?_; rintro e w' ⟨rfl, rfl⟩))
          refine (cert_Check_n hs13 (rx13.mono (Nat.le_refl _)) (by simp) (by omega) G D need).mono ?_
          rintro e w15 ⟨rfl, hf15⟩
          obtain ⟨p, hp⟩ := hEx.out
          obtain ⟨t, v, hv⟩ := errO_some p
          rw [hp, hv]
          clear hp hv
          have hs15 := hs13.fr hf15 id id
          have hy15 := hy13.fr hf15 id
          have hf16 := hf13.then_ hf15
          have hG15 := hG0.fr hf16 id
          have ry15 := ry13.fr hf15 (fun _ _ => id)
          have b0 : w15.cell? ⟨w6.heap.size, 0, none⟩ = some (.int .i64 G) := hy15.cell 0
          have b1 : w15.cell? ⟨w6.heap.size, 1, none⟩ = some (.int .i64 D) := hy15.cell 1
          have b2 : w15.cell? ⟨w6.heap.size, 2, none⟩ = some (.slice (some ⟨g9, 0, none⟩) (1 + xs.length) k9) := hy15.cell 2
          clear a0 a1 a2
          go_wp2_with fail
          refine (cert_Check_n hs15 (ry15.mono hf15.size) (by simp; omega) (by omega) G D need).mono ?_
          rintro e w17 ⟨rfl, hf17⟩
          rw [hEy.out]
          have hf18 := hf16.then_ hf17
          have hG17 := hG0.fr hf18 id
          simp only [errO]
          clear b0 b1 b2
          go_wp2_with fail
          refine (fault_Code hG17 _ _).mono ?_
          rintro e w19 ⟨rfl, hf19⟩
          go_wp2
          go_ret
          exact ⟨rfl, hf18.then_ hf19⟩
      · have hEx : Hid (∃ p, checkE G D L (xs ++ [mo]) need = some p) := by
          cases hE : checkE G D L (xs ++ [mo]) need with
          | some p => exact ⟨p, rfl⟩
          | none => exact absurd (hsn.1 hE).2.1 h1
        clear hsn
        have a0 : w13.cell? ⟨w3.heap.size, 0, none⟩ = some (.int .i64 G) := hx13.cell 0
        have a1 : w13.cell? ⟨w3.heap.size, 1, none⟩ = some (.int .i64 D) := hx13.cell 1
        have a2 : w13.cell? ⟨w3.heap.size, 2, none⟩ = some (.slice (some ⟨g6, 0, none⟩) (xs.length + 1) k6) := hx13.cell 2
        go_wp2_with (first | (go_at_call 9; refine (seals_Member G mo _).mono ?_; rintro e w' ⟨rfl, rfl⟩))
        refine (cert_Check_n hs13 (rx13.mono (Nat.le_refl _)) (by simp) (by omega) G D need).mono ?_
        rintro e w15 ⟨rfl, hf15⟩
        obtain ⟨p, hp⟩ := hEx.out
        obtain ⟨t, v, hv⟩ := errO_some p
        rw [hp, hv]
        clear hp hv
        have hs15 := hs13.fr hf15 id id
        have hy15 := hy13.fr hf15 id
        have hf16 := hf13.then_ hf15
        have hG15 := hG0.fr hf16 id
        have ry15 := ry13.fr hf15 (fun _ _ => id)
        have b0 : w15.cell? ⟨w6.heap.size, 0, none⟩ = some (.int .i64 G) := hy15.cell 0
        have b1 : w15.cell? ⟨w6.heap.size, 1, none⟩ = some (.int .i64 D) := hy15.cell 1
        have b2 : w15.cell? ⟨w6.heap.size, 2, none⟩ = some (.slice (some ⟨g9, 0, none⟩) (1 + xs.length) k9) := hy15.cell 2
        clear a0 a1 a2
        go_wp2_with fail
        refine (cert_Check_n hs15 (ry15.mono hf15.size) (by simp; omega) (by omega) G D need).mono ?_
        rintro e w17 ⟨rfl, hf17⟩
        rw [hEy.out]
        have hf18 := hf16.then_ hf17
        have hG17 := hG0.fr hf18 id
        simp only [errO]
        clear b0 b1 b2
        go_wp2_with fail
        refine (fault_Code hG17 _ _).mono ?_
        rintro e w19 ⟨rfl, hf19⟩
        go_wp2
        go_ret
        exact ⟨rfl, hf18.then_ hf19⟩
    · obtain ⟨t, v, hv⟩ := errO_some p
      rw [hv]
      clear hE hv
      go_wp2
      go_ret
      exact ⟨rfl, hf3'⟩
  · have h200' : (200 : Int) < (xs.length : Int) := by omega
    go_wp2
    go_ret
    exact ⟨rfl, hf2'⟩
end Go.Proofs.YtjnmfaaegbkmhaaDoor
