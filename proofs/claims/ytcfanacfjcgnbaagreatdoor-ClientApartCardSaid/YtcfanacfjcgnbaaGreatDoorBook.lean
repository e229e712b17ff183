/- book: New, Many, Digest, Text. -/
import Derived.Test.YtcfanacfjcgnbaaGreatDoorStrMap
import Derived.Test.YtcfanacfjcgnbaaGreatDoorAppend
import Derived.Deep.CutRange
namespace Go.Proofs.YtcfanacfjcgnbaaGreatDoor
open Go Go.RowKit
theorem bookMap : (Tryz.prog).underlying 104 = some (.map 9 3) := Tryz.underlying104
/-- The book at g: its map, its row, its texts. -/
structure BookAt (w : World) (g m base : Nat) (v : Value) (L : List (List Int)) : Prop where
  blk : Blk w g 107 #[v, .map (some m)]
  map : StrMap w m L
  own : w.ownsRow base 9 1 v L.length (L.map strV)
theorem BookAt.fr {S : Nat → Prop} {w w' : World} {g m base : Nat} {v : Value} {L : List (List Int)} (h : BookAt w g m base v L) (hf : Fr S w w') (hg : ¬ S g) (hm : ¬ S m) (hv : ∀ k, v.ownBlock = some k → ¬ S k) : BookAt w' g m base v L :=
  ⟨h.blk.fr hf hg, h.map.fr hf hm, own_fr h.own hf hv⟩
theorem BookAt.keep {w w' : World} {g m base : Nat} {v : Value} {L : List (List Int)} (h : BookAt w g m base v L) (hf : Fr (fun _ => False) w w') : BookAt w' g m base v L := h.fr hf id id (fun _ _ => id)
theorem BookAt.ne {w : World} {g m base : Nat} {v : Value} {L : List (List Int)} (h : BookAt w g m base v L) : g ≠ m := by
  obtain ⟨⟨es, cl, h1, _⟩, _⟩ := h.map
  exact h.blk.ne_map h1
theorem book_New (w : World) : Calls Tryz.prog 20 #[] w fun e w' => ∃ g m, e = .returned (.pointer (some ⟨g, 0, none⟩)) ∧ w.heap.size ≤ g ∧ w.heap.size ≤ m ∧ BookAt w' g m w.heap.size (.slice none 0 0) [] ∧ Fr (fun _ => False) w w' := by
  have hmm := @run_makeMap Tryz.prog
  go_enter Tryz.func20, Tryz.ntmps20
  go_wp2
  go_ret
  exact ⟨w.heap.size + 1, w.heap.size, rfl, by omega, by omega, ⟨Blk.new_ _ _ _ (by simp), ⟨⟨#[], 0, (Below.heap_alloc _ _ _ (by simp)).trans (heap_alloc_new _ _), rfl, by simp⟩, by simp⟩, ⟨rfl, .inl ⟨rfl, rfl⟩⟩⟩, ((Fr.refl _ _).alloc _).alloc _⟩
theorem book_Many {w : World} {g m base : Nat} {v : Value} {L : List (List Int)} (h : BookAt w g m base v L) : Calls Tryz.prog 48 #[.pointer (some ⟨g, 0, none⟩)] w fun e w' => e = .returned (.int .i64 L.length) ∧ w = w' := by
  obtain ⟨A, cap, rfl, _, _⟩ := own_form h.own
  have c0 : w.cell? ⟨g, 0, none⟩ = some (.slice A L.length cap) := h.blk.cell 0
  go_enter Tryz.func48, Tryz.ntmps48
  go_wp2
  go_ret
  exact ⟨rfl, rfl⟩
def digI (L : List (List Int)) (xs : List Int) : Nat := if xs ∈ L then L.idxOf xs else L.length
def digL (L : List (List Int)) (xs : List Int) : List (List Int) := if xs ∈ L then L else L ++ [xs]
def DigOut (w : World) (g m base : Nat) (v : Value) (L : List (List Int)) (xs : List Int) (e : Ending) (w' : World) : Prop :=
  ∃ v', e = .returned (.tuple #[.int .i64 (digI L xs : Nat), .nilIface]) ∧ BookAt w' g m base v' (digL L xs) ∧ Fr (fun k => k = g ∨ k = m ∨ v.ownBlock = some k) w w' ∧ ∀ k, v'.ownBlock = some k → v.ownBlock = some k ∨ w.heap.size ≤ k
theorem string_info : (Tryz.prog.info? 9).map (fun i => (i.zero, i.size, i.bytes)) = some (some (.string ⟨#[]⟩), 1, 16) := by kernel_rfl
theorem own_ne_strmap {w : World} {base : Nat} {e : TypeId} {size n m : Nat} {v : Value} {xs : List Value} {L : List (List Int)} (h : w.ownsRow base e size v n xs) (hm : StrMap w m L) : v.ownBlock ≠ some m := by
  obtain ⟨⟨es, cl, h1, _⟩, _⟩ := hm
  rcases h.2 with ⟨rfl, _⟩ | ⟨g', cap, cur, rfl, _, hh, _⟩
  · simp [Value.ownBlock]
  · intro he
    cases he
    rw [hh] at h1
    cases h1
set_option maxRecDepth 100000 in
set_option maxHeartbeats 1000000 in
theorem book_Digest {w : World} {g m base : Nat} {v : Value} {L : List (List Int)} (h : BookAt w g m base v L) (hbase : base ≤ w.heap.size) {F : Nat → Prop} {A : Option Addr} {cap : Nat} {xs : List Int} (hr : ByteRow w F A xs) (h8 : B8 xs) (hx : xs.length ≤ 65536) (hL : L.length < 65536) :
    Calls Tryz.prog 31 #[.pointer (some ⟨g, 0, none⟩), .slice A xs.length cap] w (DigOut w g m base v L xs) := by
  have hm := h.blk.cell 1
  obtain ⟨A0, cap0, rfl, _, _⟩ := own_form h.own
  have c0 : w.cell? ⟨g, 0, none⟩ = some (.slice A0 L.length cap0) := h.blk.cell 0
  have c1 : w.cell? ⟨g, 1, none⟩ = some (.map (some m)) := h.blk.cell 1
  have hx' : ¬ (65536 : Int) < (xs.length : Int) := by omega
  have hcv := fun n => conv_bytes (w := w.drewN n) (n := xs.length) (cap := cap) (hr.fr ((Fr.refl (fun _ => False) w).drewN n) (fun _ _ => id)) rfl
  have hmd : ∀ n, StrMap (w.drewN n) m L := fun n => h.map.fr ((Fr.refl (fun _ => False) w).drewN n) id
  by_cases hin : xs ∈ L
  · have hlk := fun n => run_lookup_in (w := w.drewN n) bookMap Tryz.underlying9 (hmd n) h8 hin
    have HIN := Lib.hid hin
    have e1 : digI L xs = L.idxOf xs := if_pos hin
    have e2 : digL L xs = L := if_pos hin
    unfold DigOut
    rw [e1, e2]
    clear hx hL hr hmd hin e1 e2
    go_enter Tryz.func31, Tryz.ntmps31
    go_wp2_with fail
    go_big_quiet (fail)
    go_wp2_with fail
    refine bodyPost_ret (v := .tuple #[.int .i64 (L.idxOf xs : Nat), .nilIface]) (by simp [results, Tryz.results31, go_sem]) rfl ?_
    exact ⟨_, rfl, h.keep ((Fr.refl _ _).drewN _), (Fr.refl _ _).drewN _, fun k hk => .inl hk⟩
  · have hlk := fun n => run_lookup_out (w := w.drewN n) bookMap Tryz.underlying9 (fun w => Tryz.zeroValue3 w) (hmd n) h8 hin
    have HIN := Lib.hid hin
    have HX := Lib.hid hx
    have HL := Lib.hid hL
    have e1 : digI L xs = L.length := if_neg hin
    have e2 : digL L xs = L ++ [xs] := if_neg hin
    unfold DigOut
    rw [e1, e2]
    have hL1 : ((L.length : Int) == 65536) = false := by simp; omega
    have hL3 : (L.length : Int) < 65536 := by omega
    clear hx hL hmd hin e1 e2
    go_enter Tryz.func31, Tryz.ntmps31
    go_wp2_with fail
    go_big_quiet (fail)
    have hf1 : Fr (fun _ => False) w (w.drewN (nq + 1)) := (Fr.refl (fun _ => False) w).drewN (nq + 1)
    have hcv1 := conv_bytes (w := w.drewN (nq + 1)) (n := xs.length) (cap := cap) (hr.fr hf1 (fun _ _ => id)) rfl
    obtain ⟨w2, hu, hf2, hm2⟩ := run_update_str (w := w.drewN (nq + 1)) bookMap Tryz.underlying9 (h.map.fr hf1 id) h8 HIN.out (L.length : Int) rfl
    have hgm := h.ne
    have hvm := own_ne_strmap h.own h.map
    have hb2 := (h.blk.fr hf1 id).fr hf2 hgm
    have ho2 := own_fr (own_fr h.own hf1 (fun _ _ => id)) hf2 (fun k hk e => hvm (e ▸ hk))
    have hr2 : ByteRow w2 F A xs := by
      intro k x hx
      obtain ⟨b, o, e, hF, hc⟩ := hr k x hx
      refine ⟨b, o, e, hF, (hf1.cell_some hc id) |> fun hc => hf2.cell_some hc ?_⟩
      intro hbm
      obtain ⟨⟨es, cl, h1, _⟩, _⟩ := h.map
      have hbm : b = m := hbm
      subst hbm
      simp [World.cell?, h1] at hc
    have hf02 : Fr (fun k => k = g ∨ k = m ∨ (Value.slice A0 L.length cap0).ownBlock = some k) w w2 := (hf1.mono (fun _ _ h => h.elim)).trans hf2 (fun k _ e => .inr (.inl e))
    have hc21 : w2.cell? ⟨g, 0, none⟩ = some (.slice A0 L.length cap0) := hb2.cell 0
    have hc22 : (w2.alloc (Obj.cells #[strV xs] 9)).cell? ⟨g, 0, none⟩ = some (.slice A0 L.length cap0) := (hb2.alloc _).cell 0
    have hcv2 := conv_bytes (w := w2.drew) (n := xs.length) (cap := cap) (hr2.fr ((Fr.refl (fun _ => False) w2).drew) (fun _ _ => id)) rfl
    have ho3 := own_fr ho2 (((Fr.refl (fun _ => False) w2).alloc (Obj.cells #[strV xs] 9)).drew) (fun _ _ => id)
    have hb3 := (hb2.alloc (Obj.cells #[strV xs] 9)).drew
    have hbs : base ≤ (w2.alloc (Obj.cells #[strV xs] 9)).drew.heap.size := by have h1 := hf02.size; simp; omega
    have hone : ∀ (j : Nat) u', ([strV xs] : List Value)[j]? = some u' → (w2.alloc (Obj.cells #[strV xs] 9)).drew.cell? ((⟨w2.heap.size, 0, none⟩ : Addr).add j) = some u' := new_one w2 9 (strV xs)
    unfold strV at hc22 ho3 hb3 hone
    clear hcv hlk hr
    go_wp2_with fail
    go_region
    go_wp2_with fail
    clear hcv1 hu
    go_region_law (refine step_append_gen rfl (.tmp 48) (.tmp 51) 105 9 rfl Tryz.underlying105 string_info rfl base (.slice A0 L.length cap0) L.length (L.map strV) (by rfl) ho3 ⟨w2.heap.size, 0, none⟩ 1 1 [strV xs] (by rfl) rfl hone (fun u hu => by rw [List.mem_singleton.1 hu]; rfl) (by have := HL.out; omega) (by decide) hbs ?_; intro v4 w4 h4 hf4 hk4; obtain ⟨A4, cap4, rfl, _, _⟩ := own_form h4; have hb4 := hb3.fr hf4 (own_ne_blk ho3 hb3 (by decide)); have d0 := hb4.cell 0; have z0 := hb4.frozen 0)
    all_goals go_wp2_with fail
    all_goals refine bodyPost_ret (v := .tuple #[.int .i64 L.length, .nilIface]) (by simp [results, Tryz.results31, go_sem]) rfl ?_
    all_goals
      have hf23 : Fr (fun _ => False) w2 (w2.alloc (Obj.cells #[Value.string (strOfNums xs)] 9)).drew := ((Fr.refl (fun _ => False) w2).alloc _).drew
      have hm4 := (hm2.fr hf23 id).fr hf4 hvm
      have hf34 : Fr (fun k => k = g) w4 (w4.setCell ⟨g, 0, none⟩ (.slice A4 (L.length + 1) cap4)) := (Fr.refl (fun k => k = g) w4).setCell (p := ⟨g, 0, none⟩) (fun _ => rfl) _
      refine ⟨_, rfl, ⟨hb4.set_ 0 _, hm4.fr hf34 (fun e => hgm e.symm), ?_⟩, ?_, ?_⟩
      · have h5 := own_fr h4 hf34 (fun k hk e => own_ne_blk h4 hb4 (by decide) (e ▸ hk))
        rw [List.length_append, List.map_append]
        exact h5
      · exact ((hf02.then_ hf23).trans hf4 (fun k _ e => .inr (.inr e))).trans hf34 (fun k _ e => .inl e)
      · intro k hk
        rcases hk4 with e | e
        · exact .inl (e.symm.trans hk)
        · rw [hk] at e
          cases e
          refine .inr ?_
          have h1 := hf02.size
          simp
          omega
end Go.Proofs.YtcfanacfjcgnbaaGreatDoor
