/- cohortref03: Digest. -/
import Derived.Test.YtcfanacfjcgnbaaGreatDoorBookT
namespace Go.Proofs.YtcfanacfjcgnbaaGreatDoor
open Go Go.RowKit
def RDigOut (w : World) (g base : Nat) (v : Value) (L : List (List Int)) (xs : List Int) (e : Ending) (w' : World) : Prop :=
  ∃ v', e = .returned (.tuple #[.int .i64 (digI L xs : Nat), .int .i64 0]) ∧ RBookAt w' g base v' (digL L xs) ∧ Fr (fun k => k = g ∨ v.ownBlock = some k) w w' ∧ ∀ k, v'.ownBlock = some k → v.ownBlock = some k ∨ w.heap.size ≤ k
theorem bytes_info8 : (Tryz.prog.info? 60).map (fun i => (i.zero, i.size, i.bytes)) = some (some (.slice none 0 0), 1, 24) := by kernel_rfl
theorem idx_found {L : List (List Int)} {xs : List Int} {k : Nat} (hn : xs ∉ L.take k) (hk : L[k]? = some xs) : digI L xs = k ∧ digL L xs = L := by
  obtain ⟨hlt, he⟩ := List.getElem?_eq_some_iff.1 hk
  have hin : xs ∈ L := he ▸ List.getElem_mem hlt
  refine ⟨?_, if_pos hin⟩
  rw [digI, if_pos hin]
  have h1 : L = L.take k ++ L.drop k := (List.take_append_drop k L).symm
  have h2 : L.drop k = xs :: L.drop (k + 1) := by rw [List.drop_eq_getElem_cons hlt, he]
  rw [h1, List.idxOf_append, if_neg hn, h2, List.idxOf_cons_self, List.length_take]
  omega
theorem notin_step {L : List (List Int)} {xs y : List Int} {k : Nat} (hn : xs ∉ L.take k) (hk : L[k]? = some y) (hxy : xs ≠ y) : xs ∉ L.take (k + 1) := by
  obtain ⟨hlt, rfl⟩ := List.getElem?_eq_some_iff.1 hk
  rw [List.take_succ_eq_append_getElem hlt]
  intro h
  rcases List.mem_append.1 h with h | h
  · exact hn h
  · exact hxy (List.mem_singleton.1 h)
theorem own_U8 {w : World} {base : Nat} {v : Value} {xs : List Int} (h : Own8 w base v xs) : ∀ k, v.ownBlock = some k → U8 w k := by
  intro k hk
  rcases h.2 with ⟨rfl, _⟩ | ⟨g', cap, cur, rfl, _, hh, _⟩
  · cases hk
  · cases hk
    exact ⟨_, _, hh⟩
set_option maxRecDepth 100000 in
set_option maxHeartbeats 2000000 in
theorem ref03_Digest {w : World} {g base : Nat} {v : Value} {L : List (List Int)} (h : RBookAt w g base v L) (hL8 : ∀ t ∈ L, B8 t) (hbase : base ≤ w.heap.size) {F : Nat → Prop} {A : Option Addr} {cap : Nat} {xs : List Int} (hr : ByteRow w F A xs) (h8 : B8 xs) (hx : xs.length ≤ 65536) (hL : L.length < 65536) :
    Calls Tryz.prog 32 #[.pointer (some ⟨g, 0, none⟩), .slice A xs.length cap] w (RDigOut w g base v L xs) := by
  obtain ⟨vals, hown, hin⟩ := h.row
  obtain ⟨A0, cap0, rfl, _, hat⟩ := own_form hown
  have c0 : w.cell? ⟨g, 0, none⟩ = some (.slice A0 L.length cap0) := h.blk.cell 0
  have hx' : ¬ (65536 : Int) < (xs.length : Int) := by omega
  have HX := Lib.hid hx
  have HL := Lib.hid hL
  have HL8 := Lib.hid hL8
  have H8 := Lib.hid h8
  have hL3 : (L.length : Int) < 65536 := by omega
  have hL4 : decide ((65536 : Int) ≤ (L.length : Int)) = false := decide_eq_false (by omega)
  clear hx hL hL8 h8
  go_enter Tryz.func32, Tryz.ntmps32
  go_wp2_with fail
  clear hx'
  go_loopw [6] (fun i wr => ∃ k : Nat, k ≤ L.length ∧ i = .int .i64 k ∧ Hid (xs ∉ L.take k) ∧ Fr (fun _ => False) w wr) (fun i _ => L.length - (intOf i).toNat)
  case atStart => exact ⟨0, by omega, rfl, (by show _ ∉ _; simp), Fr.refl _ _⟩
  case round =>
    obtain ⟨k, hk, rfl, hn, hf⟩ := hrel
    have d0 := hf.cell_some c0 id
    by_cases hlt : k < L.length
    · obtain ⟨y, hy⟩ : ∃ y, L[k]? = some y := ⟨L[k], List.getElem?_eq_getElem hlt⟩
      obtain ⟨A1, cap1, hv1, hr1⟩ := hin k y hy
      obtain ⟨b, rfl, _, hc⟩ := hat k _ hv1
      have d1 := hf.cell_some hc id
      have hcv1 := fun n => conv_bytes (w := wr.drewN n) (n := y.length) (cap := cap1) ((hr1.fr hf (fun _ _ => id)).fr ((Fr.refl (fun _ => False) wr).drewN n) (fun _ _ => id)) rfl
      have hcv2 := fun n => conv_bytes (w := wr.drewN n) (n := xs.length) (cap := cap) ((hr.fr hf (fun _ _ => id)).fr ((Fr.refl (fun _ => False) wr).drewN n) (fun _ _ => id)) rfl
      have HY := Lib.hid hy
      clear hat hin hr hc c0 hr1 hv1 hy
      by_cases hxy : xs = y
      · subst hxy
        obtain ⟨e1, e2⟩ := idx_found hn.out HY.out
        unfold RDigOut
        rw [e1, e2]
        clear e1 e2
        go_wp2_with fail
        go_big_quiet (fail)
        go_wp2_with fail
        refine bodyPost_ret (v := .tuple #[.int .i64 k, .int .i64 0]) (by simp [results, Tryz.results32, go_sem]) rfl ?_
        have hfw := hf.drewN nq
        exact ⟨_, rfl, h.keep hfw, hfw.mono (fun _ _ h => h.elim), fun k hk => .inl hk⟩
      · have hs : strOfNums y ≠ strOfNums xs := fun e => hxy (strOf_inj (HL8.out y (List.mem_of_getElem? HY.out)) H8.out e).symm
        have b1 : ((strOfNums y).toList == (strOfNums xs).toList) = false := by
          apply Bool.eq_false_iff.2
          intro hh
          exact hs (ByteArray.ext (Array.ext' (by have := eq_of_beq hh; rwa [ByteArray.toList_eq, ByteArray.toList_eq] at this)))
        have HXY := Lib.hid hxy
        clear hs hxy
        go_wp2_with fail
        go_big_quiet (fail)
        go_wp2_with fail
        go_roundw
        case rel => exact ⟨k + 1, by omega, by go_num, notin_step hn.out HY.out HXY.out, hf.drewN _⟩
        case measure => simp [intOf]; omega
    · obtain rfl : k = L.length := by omega
      have hnin : Hid (xs ∉ L) := by have := hn.out; rwa [List.take_length] at this
      have HE1 : Hid (digI L xs = L.length) := if_neg hnin.out
      have HE2 : Hid (digL L xs = L ++ [xs]) := if_neg hnin.out
      have hb1 := h.blk.fr hf id
      have ho1 := own_fr hown hf (fun _ _ => id)
      have hr1 := hr.fr hf (fun _ _ => id)
      have HIN : Hid (∀ (k : Nat) s, L[k]? = some s → ∃ A cap, vals[k]? = some (.slice A s.length cap) ∧ ByteRow wr (U8 wr) A s) := fun k s hs => by
        obtain ⟨A1, q1, h1, h2⟩ := hin k s hs
        exact ⟨A1, q1, h1, h2.u8 hf (fun _ _ => id)⟩
      -- the new text
      have hc2 : (wr.alloc (Obj.cells #[] 5)).cell? ⟨g, 0, none⟩ = some (.slice A0 L.length cap0) := (hb1.alloc _).cell 0
      have hr2 := hr1.fr (((Fr.refl (fun _ => False) wr).alloc (Obj.cells #[] 5)).drew) (fun _ _ => id)
      have hb2 := (hb1.alloc (Obj.cells #[] 5)).drew
      have hbs2 : wr.heap.size ≤ (wr.alloc (Obj.cells #[] 5)).drew.heap.size := by simp
      have hbw : base ≤ wr.heap.size := Nat.le_trans hbase hf.size
      have hsx : (xs.length : Int) ≤ 65536 := by have := HX.out; omega
      clear hat hin hr hn hlt c0
      go_upto_region 10 with fail
      have hnew : Own8 (wr.alloc (Obj.cells #[] 5)).drew wr.heap.size (.slice (some ⟨wr.heap.size, 0, none⟩) 0 0) [] := (Own8.built wr (Nat.le_refl _) [] (by simp) 0 rfl).drew
      have hlg := hb1.lt
      go_region_law (first | (refine step_append_gen rfl (.tmp 41) (.tmp 45) 67 60 rfl Tryz.underlying67 bytes_info8 rfl base (.slice A0 L.length cap0) L.length vals (by rfl) ho6 ⟨w5.heap.size, 0, none⟩ 1 1 [.slice A5 xs.length p5] (by rfl) rfl hone6 (fun u hu => by rw [List.mem_singleton.1 hu]; rfl) (by have := HL.out; omega) (by decide) hbs6 ?_; intro v7 w7 h7 hf7 hk7; obtain ⟨A7, p7, rfl, _, _⟩ := own_form h7; have hb7 := hb6.fr hf7 (own_ne_blk ho6 hb6 (by decide)); have d7 := hb7.cell 0; have z7 := hb7.frozen 0) | (refine step_append_text rfl (.tmp 42) (.tmp 43) rfl wr.heap.size (.slice (some ⟨wr.heap.size, 0, none⟩) 0 0) [] (by rfl) hnew F A xs.length cap xs (by rfl) rfl hr2 (by have := HX.out; simp; omega) hbs2 ?_; intro v5 w5 h5 hf5 hk5; have h5 : Own8 w5 wr.heap.size v5 xs := h5; obtain ⟨A5, p5, rfl, _, hr5⟩ := h5.form; have hf15 : Fr (fun _ => False) wr w5 := (((Fr.refl (fun _ => False) wr).alloc (Obj.cells #[] 5)).drew).trans hf5 (fun k hk e => by cases e; exact absurd hk (Nat.lt_irrefl _)); have hf16 := hf15.alloc (Obj.cells #[Value.slice A5 xs.length p5] 60); have hb5 := hb1.fr hf15 id; have hb6 := hb1.fr hf16 id; have c5 : w5.cell? ⟨g, 0, none⟩ = some (.slice A0 L.length cap0) := hb5.cell 0; have c6 : (w5.alloc (Obj.cells #[Value.slice A5 xs.length p5] 60)).cell? ⟨g, 0, none⟩ = some (.slice A0 L.length cap0) := hb6.cell 0; have ho6 := own_fr ho1 hf16 (fun _ _ => id); have hone6 := new_one w5 60 (Value.slice A5 xs.length p5); have hbs6 := Nat.le_trans hbw hf16.size))
      all_goals go_wp2_with fail
      all_goals refine bodyPost_ret (v := .tuple #[.int .i64 L.length, .int .i64 0]) (by simp [results, Tryz.results32, go_sem]) rfl ?_
      all_goals
        have hf78 : Fr (fun k => k = g) w7 (w7.setCell ⟨g, 0, none⟩ (.slice A7 (L.length + 1) p7)) := (Fr.refl (fun k => k = g) w7).setCell (p := ⟨g, 0, none⟩) (fun _ => rfl) _
        have hu6 : ∀ b, U8 (w5.alloc (Obj.cells #[Value.slice A5 xs.length p5] 60)) b → ¬ ((Value.slice A0 L.length cap0).ownBlock = some b) := fun b hb => hb.ne_own ho6 (by decide)
        have hu7 : ∀ b, U8 w7 b → ¬ b = g := fun b hb => hb.ne_blk hb7 (by decide)
        have hx5 : ByteRow w5 (U8 w5) A5 xs := fun k x hx => by
          obtain ⟨b, o, e, h1, hc⟩ := hr5 k x hx
          exact ⟨b, o, e, own_U8 h5 b h1, hc⟩
        have hx6 : ByteRow (w5.alloc (Obj.cells #[Value.slice A5 xs.length p5] 60)) (U8 (w5.alloc (Obj.cells #[Value.slice A5 xs.length p5] 60))) A5 xs := hx5.u8 ((Fr.refl (fun _ => False) w5).alloc _) (fun _ _ => id)
        have hx8 := (hx6.u8 hf7 hu6).u8 hf78 hu7
        have hlv : vals.length = L.length := by have := hown.1; omega
        unfold RDigOut
        rw [HE1.out, HE2.out]
        refine ⟨_, rfl, ⟨hb7.set_ 0 _, vals ++ [.slice A5 xs.length p5], ?_, ?_⟩, ?_, ?_⟩
        · rw [List.length_append]
          exact own_fr h7 hf78 (fun k hk e => own_ne_blk h7 hb7 (by decide) (e ▸ hk))
        · intro k s hs
          by_cases hk : k < L.length
          · rw [List.getElem?_append_left hk] at hs
            obtain ⟨A1, q1, h1, h2⟩ := HIN.out k s hs
            exact ⟨A1, q1, by rw [List.getElem?_append_left (by omega)]; exact h1, ((h2.u8 hf16 (fun _ _ => id)).u8 hf7 hu6).u8 hf78 hu7⟩
          · rw [List.getElem?_append_right (Nat.not_lt.1 hk)] at hs
            rcases hkk : k - L.length with _ | q
            · rw [hkk] at hs
              obtain rfl := Option.some.inj hs
              exact ⟨A5, p5, by rw [List.getElem?_append_right (by omega), hlv, hkk]; rfl, hx8⟩
            · rw [hkk] at hs
              simp at hs
        · exact (((hf.mono (fun _ _ h => h.elim)).then_ hf16).trans hf7 (fun k _ e => .inr e)).trans hf78 (fun k _ e => .inl e)
        · intro k hk
          rcases hk7 with e | e
          · exact .inl (e.symm.trans hk)
          · rw [hk] at e
            cases e
            refine .inr ?_
            have h1 := hf.size
            have h2 := hf16.size
            omega
end Go.Proofs.YtcfanacfjcgnbaaGreatDoor
