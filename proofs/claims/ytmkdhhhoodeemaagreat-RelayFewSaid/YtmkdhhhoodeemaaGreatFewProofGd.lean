/- Parts of the proof, joined. -/
import Derived.Deep.CutRange
import Derived.Laws.StructEq
import Derived.Lib.Hide
import Derived.Test.YtmkdhhhoodeemaaGreatFewProofGa
import Derived.Test.YtmkdhhhoodeemaaGreatFewProofGb
import Derived.Test.YtmkdhhhoodeemaaGreatFewProofGc
set_option linter.unusedVariables false
set_option linter.unusedSimpArgs false
/- book: New, Many, Digest, Text. -/
namespace Go.Proofs.YtmkdhhhoodeemaaGreat
open Go Go.RowKit
theorem bookMap : (Tryz.prog).underlying 123 = some (.map 9 3) := Tryz.underlying123
/-- The book at g: its map, its row, its texts. -/
structure BookAt (w : World) (g m base : Nat) (v : Value) (L : List (List Int)) : Prop where
  blk : Blk w g 125 #[v, .map (some m)]
  map : StrMap w m L
  own : w.ownsRow base 9 1 v L.length (L.map strV)
theorem BookAt.fr {S : Nat → Prop} {w w' : World} {g m base : Nat} {v : Value} {L : List (List Int)} (h : BookAt w g m base v L) (hf : Fr S w w') (hg : ¬ S g) (hm : ¬ S m) (hv : ∀ k, v.ownBlock = some k → ¬ S k) : BookAt w' g m base v L :=
  ⟨h.blk.fr hf hg, h.map.fr hf hm, own_fr h.own hf hv⟩
theorem BookAt.keep {w w' : World} {g m base : Nat} {v : Value} {L : List (List Int)} (h : BookAt w g m base v L) (hf : Fr (fun _ => False) w w') : BookAt w' g m base v L := h.fr hf id id (fun _ _ => id)
theorem BookAt.ne {w : World} {g m base : Nat} {v : Value} {L : List (List Int)} (h : BookAt w g m base v L) : g ≠ m := by
  obtain ⟨⟨es, cl, h1, _⟩, _⟩ := h.map
  exact h.blk.ne_map h1
theorem book_New (w : World) : Calls Tryz.prog 31 #[] w fun e w' => ∃ g m, e = .returned (.pointer (some ⟨g, 0, none⟩)) ∧ w.heap.size ≤ g ∧ w.heap.size ≤ m ∧ BookAt w' g m w.heap.size (.slice none 0 0) [] ∧ Fr (fun _ => False) w w' := by
  have hmm := @run_makeMap Tryz.prog
  go_enter Tryz.func31, Tryz.ntmps31
  go_wp2
  go_ret
  exact ⟨w.heap.size + 1, w.heap.size, rfl, by omega, by omega, ⟨Blk.new_ _ _ _ (by simp), ⟨⟨#[], 0, (Below.heap_alloc _ _ _ (by simp)).trans (heap_alloc_new _ _), rfl, by simp⟩, by simp⟩, ⟨rfl, .inl ⟨rfl, rfl⟩⟩⟩, ((Fr.refl _ _).alloc _).alloc _⟩
theorem book_Many {w : World} {g m base : Nat} {v : Value} {L : List (List Int)} (h : BookAt w g m base v L) : Calls Tryz.prog 18 #[.pointer (some ⟨g, 0, none⟩)] w fun e w' => e = .returned (.int .i64 L.length) ∧ w = w' := by
  obtain ⟨A, cap, rfl, _, _⟩ := own_form h.own
  have c0 : w.cell? ⟨g, 0, none⟩ = some (.slice A L.length cap) := h.blk.cell 0
  go_enter Tryz.func18, Tryz.ntmps18
  go_wp2
  go_ret
  exact ⟨rfl, rfl⟩
def digI (L : List (List Int)) (xs : List Int) : Nat := if xs ∈ L then L.idxOf xs else L.length
def digL (L : List (List Int)) (xs : List Int) : List (List Int) := if xs ∈ L then L else L ++ [xs]
def DigOut (w : World) (g m base : Nat) (v : Value) (L : List (List Int)) (xs : List Int) (e : Ending) (w' : World) : Prop :=
  ∃ v', e = .returned (.tuple #[.int .i64 (digI L xs : Nat), .nilIface]) ∧ BookAt w' g m base v' (digL L xs) ∧ Fr (fun k => k = g ∨ k = m ∨ v.ownBlock = some k) w w' ∧ ∀ k, v'.ownBlock = some k → v.ownBlock = some k ∨ w.heap.size ≤ k
theorem string_info : (Tryz.prog.info? 9).map (fun i => (i.zero, i.size, i.bytes)) = some (some (.string ⟨#[]⟩), 1, 16) := by kernel_rfl
theorem own_ne_strmap {w : World} {base : Nat} {e : TypeId} {size n m : Nat} {v : Value} {xs : List Value} {L : List (List Int)} (h : w.ownsRow base e size v n xs) (hm : StrMap w m L) : v.ownBlock ≠ some m := by
  obtain ⟨⟨es, cl, h1, _⟩, _⟩ := hm
  rcases h.2 with ⟨rfl, _⟩ | ⟨g', cap, cur, rfl, _, hh, _⟩
  · simp [Value.ownBlock]
  · intro he
    cases he
    rw [hh] at h1
    cases h1
set_option maxRecDepth 100000 in
set_option maxHeartbeats 1000000 in
theorem book_Digest {w : World} {g m base : Nat} {v : Value} {L : List (List Int)} (h : BookAt w g m base v L) (hbase : base ≤ w.heap.size) {F : Nat → Prop} {A : Option Addr} {cap : Nat} {xs : List Int} (hr : ByteRow w F A xs) (h8 : B8 xs) (hx : xs.length ≤ 65536) (hL : L.length < 65536) :
    Calls Tryz.prog 41 #[.pointer (some ⟨g, 0, none⟩), .slice A xs.length cap] w (DigOut w g m base v L xs) := by
  have hm := h.blk.cell 1
  obtain ⟨A0, cap0, rfl, _, _⟩ := own_form h.own
  have c0 : w.cell? ⟨g, 0, none⟩ = some (.slice A0 L.length cap0) := h.blk.cell 0
  have c1 : w.cell? ⟨g, 1, none⟩ = some (.map (some m)) := h.blk.cell 1
  have hx' : ¬ (65536 : Int) < (xs.length : Int) := by omega
  have hcv := fun n => conv_bytes (w := w.drewN n) (n := xs.length) (cap := cap) (hr.fr ((Fr.refl (fun _ => False) w).drewN n) (fun _ _ => id)) rfl
  have hmd : ∀ n, StrMap (w.drewN n) m L := fun n => h.map.fr ((Fr.refl (fun _ => False) w).drewN n) id
  by_cases hin : xs ∈ L
  · have hlk := fun n => run_lookup_in (w := w.drewN n) bookMap Tryz.underlying9 (hmd n) h8 hin
    have HIN := Lib.hid hin
    have e1 : digI L xs = L.idxOf xs := if_pos hin
    have e2 : digL L xs = L := if_pos hin
    unfold DigOut
    rw [e1, e2]
    clear hx hL hr hmd hin e1 e2
    go_enter Tryz.func41, Tryz.ntmps41
    go_wp2_with fail
    go_big_quiet (fail)
    go_wp2_with fail
    refine bodyPost_ret (v := .tuple #[.int .i64 (L.idxOf xs : Nat), .nilIface]) (by simp [results, Tryz.results41, go_sem]) rfl ?_
    exact ⟨_, rfl, h.keep ((Fr.refl _ _).drewN _), (Fr.refl _ _).drewN _, fun k hk => .inl hk⟩
  · have hlk := fun n => run_lookup_out (w := w.drewN n) bookMap Tryz.underlying9 (fun w => Tryz.zeroValue3 w) (hmd n) h8 hin
    have HIN := Lib.hid hin
    have HX := Lib.hid hx
    have HL := Lib.hid hL
    have e1 : digI L xs = L.length := if_neg hin
    have e2 : digL L xs = L ++ [xs] := if_neg hin
    unfold DigOut
    rw [e1, e2]
    have hL1 : ((L.length : Int) == 65536) = false := by simp; omega
    have hL3 : (L.length : Int) < 65536 := by omega
    clear hx hL hmd hin e1 e2
    go_enter Tryz.func41, Tryz.ntmps41
    go_wp2_with fail
    go_big_quiet (fail)
    have hf1 : Fr (fun _ => False) w (w.drewN (nq + 1)) := (Fr.refl (fun _ => False) w).drewN (nq + 1)
    have hcv1 := conv_bytes (w := w.drewN (nq + 1)) (n := xs.length) (cap := cap) (hr.fr hf1 (fun _ _ => id)) rfl
    obtain ⟨w2, hu, hf2, hm2⟩ := run_update_str (w := w.drewN (nq + 1)) bookMap Tryz.underlying9 (h.map.fr hf1 id) h8 HIN.out (L.length : Int) rfl
    have hgm := h.ne
    have hvm := own_ne_strmap h.own h.map
    have hb2 := (h.blk.fr hf1 id).fr hf2 hgm
    have ho2 := own_fr (own_fr h.own hf1 (fun _ _ => id)) hf2 (fun k hk e => hvm (e ▸ hk))
    have hr2 : ByteRow w2 F A xs := by
      intro k x hx
      obtain ⟨b, o, e, hF, hc⟩ := hr k x hx
      refine ⟨b, o, e, hF, (hf1.cell_some hc id) |> fun hc => hf2.cell_some hc ?_⟩
      intro hbm
      obtain ⟨⟨es, cl, h1, _⟩, _⟩ := h.map
      have hbm : b = m := hbm
      subst hbm
      simp [World.cell?, h1] at hc
    have hf02 : Fr (fun k => k = g ∨ k = m ∨ (Value.slice A0 L.length cap0).ownBlock = some k) w w2 := (hf1.mono (fun _ _ h => h.elim)).trans hf2 (fun k _ e => .inr (.inl e))
    have hc21 : w2.cell? ⟨g, 0, none⟩ = some (.slice A0 L.length cap0) := hb2.cell 0
    have hc22 : (w2.alloc (Obj.cells #[strV xs] 9)).cell? ⟨g, 0, none⟩ = some (.slice A0 L.length cap0) := (hb2.alloc _).cell 0
    have hcv2 := conv_bytes (w := w2.drew) (n := xs.length) (cap := cap) (hr2.fr ((Fr.refl (fun _ => False) w2).drew) (fun _ _ => id)) rfl
    have ho3 := own_fr ho2 (((Fr.refl (fun _ => False) w2).alloc (Obj.cells #[strV xs] 9)).drew) (fun _ _ => id)
    have hb3 := (hb2.alloc (Obj.cells #[strV xs] 9)).drew
    have hbs : base ≤ (w2.alloc (Obj.cells #[strV xs] 9)).drew.heap.size := by have h1 := hf02.size; simp; omega
    have hone : ∀ (j : Nat) u', ([strV xs] : List Value)[j]? = some u' → (w2.alloc (Obj.cells #[strV xs] 9)).drew.cell? ((⟨w2.heap.size, 0, none⟩ : Addr).add j) = some u' := new_one w2 9 (strV xs)
    unfold strV at hc22 ho3 hb3 hone
    clear hcv hlk hr
    go_wp2_with fail
    go_region
    go_wp2_with fail
    clear hcv1 hu
    go_region_law (refine step_append_gen rfl (.tmp 48) (.tmp 51) 122 9 rfl Tryz.underlying122 string_info rfl base (.slice A0 L.length cap0) L.length (L.map strV) (by rfl) ho3 ⟨w2.heap.size, 0, none⟩ 1 1 [strV xs] (by rfl) rfl hone (fun u hu => by rw [List.mem_singleton.1 hu]; rfl) (by have := HL.out; omega) (by decide) hbs ?_; intro v4 w4 h4 hf4 hk4; obtain ⟨A4, cap4, rfl, _, _⟩ := own_form h4; have hb4 := hb3.fr hf4 (own_ne_blk ho3 hb3 (by decide)); have d0 := hb4.cell 0; have z0 := hb4.frozen 0)
    all_goals go_wp2_with fail
    all_goals refine bodyPost_ret (v := .tuple #[.int .i64 L.length, .nilIface]) (by simp [results, Tryz.results41, go_sem]) rfl ?_
    all_goals
      have hf23 : Fr (fun _ => False) w2 (w2.alloc (Obj.cells #[Value.string (strOfNums xs)] 9)).drew := ((Fr.refl (fun _ => False) w2).alloc _).drew
      have hm4 := (hm2.fr hf23 id).fr hf4 hvm
      have hf34 : Fr (fun k => k = g) w4 (w4.setCell ⟨g, 0, none⟩ (.slice A4 (L.length + 1) cap4)) := (Fr.refl (fun k => k = g) w4).setCell (p := ⟨g, 0, none⟩) (fun _ => rfl) _
      refine ⟨_, rfl, ⟨hb4.set_ 0 _, hm4.fr hf34 (fun e => hgm e.symm), ?_⟩, ?_, ?_⟩
      · have h5 := own_fr h4 hf34 (fun k hk e => own_ne_blk h4 hb4 (by decide) (e ▸ hk))
        rw [List.length_append, List.map_append]
        exact h5
      · exact ((hf02.then_ hf23).trans hf4 (fun k _ e => .inr (.inr e))).trans hf34 (fun k _ e => .inl e)
      · intro k hk
        rcases hk4 with e | e
        · exact .inl (e.symm.trans hk)
        · rw [hk] at e
          cases e
          refine .inr ?_
          have h1 := hf02.size
          simp
          omega
end Go.Proofs.YtmkdhhhoodeemaaGreat

/- book: Text. cohortref03: Digest. -/
namespace Go.Proofs.YtmkdhhhoodeemaaGreat
open Go Go.RowKit
def TextOut (w : World) (xs : List Int) (e : Ending) (w' : World) : Prop :=
  ∃ A cap, e = .returned (.tuple #[.slice A xs.length cap, .nilIface]) ∧ ByteRow w' (fun k => w.heap.size ≤ k) A xs ∧ Fr (fun _ => False) w w'
theorem strV_cell {w : World} {base : Nat} {A : Option Addr} {n cap : Nat} {L : List (List Int)} (h : w.ownsRow base 9 1 (.slice A n cap) n (L.map strV)) {k : Nat} {xs : List Int} (hk : L[k]? = some xs) : ∃ b, A = some ⟨b, 0, none⟩ ∧ w.cell? ⟨b, k, none⟩ = some (.string (strOfNums xs)) := by
  obtain ⟨A', cap', hv, _, hat⟩ := own_form h
  cases hv
  obtain ⟨b, hb, _, hc⟩ := hat k (strV xs) (by rw [List.getElem?_map, hk]; rfl)
  exact ⟨b, hb, hc⟩
set_option maxRecDepth 100000 in
theorem book_Text {w : World} {g m base : Nat} {v : Value} {L : List (List Int)} (h : BookAt w g m base v L) {k : Nat} {xs : List Int} (hk : L[k]? = some xs) (_hL : L.length < 65536) :
    Calls Tryz.prog 75 #[.pointer (some ⟨g, 0, none⟩), .int .i64 k] w (TextOut w xs) := by
  obtain ⟨hlt, hxs⟩ := List.getElem?_eq_some_iff.1 hk
  have h8 : B8 xs := h.map.2 xs (List.mem_of_getElem? hk)
  obtain ⟨A0, cap0, rfl, _, _⟩ := own_form h.own
  have c0 : w.cell? ⟨g, 0, none⟩ = some (.slice A0 L.length cap0) := h.blk.cell 0
  obtain ⟨b, rfl, hc⟩ := strV_cell h.own hk
  have hcs := run_str w (strOfNums xs)
  have hsz : (strOfNums xs).size = xs.length := strOfNums_size xs
  rw [hsz] at hcs
  have hrow := strW_row w (strOfNums xs)
  rw [bytesOf_strOf h8] at hrow
  have HR := Lib.hid hrow
  have HF := Lib.hid (strW_fr w (strOfNums xs))
  clear hxs hk hsz hrow h8
  go_enter Tryz.func75, Tryz.ntmps75
  go_wp2
  refine bodyPost_ret (v := .tuple #[.slice (some ⟨w.heap.size, 0, none⟩) xs.length (grownCap w xs.length 0 5), .nilIface]) (by simp [results, Tryz.results75, go_sem]) rfl ?_
  exact ⟨_, _, rfl, HR.out.mono (fun k e => by omega), HF.out⟩
/-- A block of bytes. -/
def U8 (w : World) (b : Nat) : Prop := ∃ cs fr, w.heap[b]? = some (.cells cs 5 fr)
theorem U8.fr {S : Nat → Prop} {w w' : World} {b : Nat} (h : U8 w b) (hf : Fr S w w') (hS : ¬ S b) : U8 w' b := by
  obtain ⟨cs, fr, h1⟩ := h
  exact ⟨cs, fr, hf.at_ h1 hS⟩
theorem U8.ne_blk {w : World} {b g : Nat} {t : TypeId} {cs : Array Value} (h : U8 w b) (hg : Blk w g t cs) (hne : 5 ≠ t) : b ≠ g := by
  obtain ⟨c, fr, h1⟩ := h
  rintro rfl
  unfold Blk at hg
  rw [hg] at h1
  injection h1 with h1
  injection h1 with _ h2
  exact hne h2.symm
theorem U8.ne_map {w : World} {b m : Nat} {L : List (List Int)} (h : U8 w b) (hm : StrMap w m L) : b ≠ m := by
  obtain ⟨c, fr, h1⟩ := h
  obtain ⟨⟨es, cl, h2, _⟩, _⟩ := hm
  rintro rfl
  rw [h2] at h1
  cases h1
theorem U8.ne_own {w : World} {b base : Nat} {e : TypeId} {size n : Nat} {v : Value} {xs : List Value} (h : U8 w b) (ho : w.ownsRow base e size v n xs) (hne : e ≠ 5) : v.ownBlock ≠ some b := by
  obtain ⟨c, fr, h1⟩ := h
  rcases ho.2 with ⟨rfl, _⟩ | ⟨g', cap, cur, rfl, _, hh, _⟩
  · simp [Value.ownBlock]
  · intro he
    cases he
    rw [hh] at h1
    injection h1 with h1
    injection h1 with _ h2
    exact hne h2
/-- The document's book at g: its row, its texts. -/
structure RBookAt (w : World) (g base : Nat) (v : Value) (L : List (List Int)) : Prop where
  blk : Blk w g 57 #[v]
  row : ∃ vals, w.ownsRow base 38 1 v L.length vals ∧ ∀ (k : Nat) s, L[k]? = some s → ∃ A cap, vals[k]? = some (.slice A s.length cap) ∧ ByteRow w (U8 w) A s
theorem ByteRow.u8 {w w' : World} {S : Nat → Prop} {A : Option Addr} {s : List Int} (h : ByteRow w (U8 w) A s) (hf : Fr S w w') (hS : ∀ b, U8 w b → ¬ S b) : ByteRow w' (U8 w') A s := fun k x hx => by
  obtain ⟨b, o, e, h1, hc⟩ := h k x hx
  exact ⟨b, o, e, h1.fr hf (hS b h1), hf.cell_some hc (hS b h1)⟩
theorem RBookAt.fr {S : Nat → Prop} {w w' : World} {g base : Nat} {v : Value} {L : List (List Int)} (h : RBookAt w g base v L) (hf : Fr S w w') (hg : ¬ S g) (hv : ∀ k, v.ownBlock = some k → ¬ S k) (hS : ∀ b, U8 w b → ¬ S b) : RBookAt w' g base v L := by
  obtain ⟨vals, h1, h2⟩ := h.row
  refine ⟨h.blk.fr hf hg, vals, own_fr h1 hf hv, fun k s hs => ?_⟩
  obtain ⟨A, cap, h3, h4⟩ := h2 k s hs
  exact ⟨A, cap, h3, h4.u8 hf hS⟩
theorem RBookAt.keep {w w' : World} {g base : Nat} {v : Value} {L : List (List Int)} (h : RBookAt w g base v L) (hf : Fr (fun _ => False) w w') : RBookAt w' g base v L := h.fr hf id (fun _ _ => id) (fun _ _ => id)
end Go.Proofs.YtmkdhhhoodeemaaGreat

/- seals: New, Signed, Sign, Who. -/
namespace Go.Proofs.YtmkdhhhoodeemaaGreat
open Go Go.RowKit
theorem sealType : PairType Tryz.prog 145 157 3 155 where
  map := by kernel_rfl
  int := by kernel_rfl
  stood := by kernel_rfl
  desc := ⟨_, _, Tryz.underlying157, rfl, rfl, rfl, rfl, by decide, by decide⟩
  elem := fun _ => by kernel_rfl
/-- The seals behind the pointer to block g: block m is their map, with these pairs. -/
structure SealsAt (w : World) (g m : Nat) (L : List (Int × Int)) : Prop where
  blk : Blk w g 147 #[.map (some m)]
  map : PairMap w m L
theorem SealsAt.fr {S : Nat → Prop} {w w' : World} {g m : Nat} {L : List (Int × Int)} (h : SealsAt w g m L) (hf : Fr S w w') (hg : ¬ S g) (hm : ¬ S m) : SealsAt w' g m L :=
  ⟨h.blk.fr hf hg, h.map.fr hf hm⟩
theorem SealsAt.drew {w : World} {g m : Nat} {L : List (Int × Int)} (h : SealsAt w g m L) : SealsAt w.drew g m L := ⟨h.blk, h.map⟩
theorem SealsAt.drewN {w : World} {g m : Nat} {L : List (Int × Int)} (h : SealsAt w g m L) (n : Nat) : SealsAt (w.drewN n) g m L := ⟨h.blk, h.map⟩
theorem SealsAt.ne {w : World} {g m : Nat} {L : List (Int × Int)} (h : SealsAt w g m L) : g ≠ m := by
  obtain ⟨es, cl, h1, _⟩ := h.map
  exact h.blk.ne_map h1
theorem seals_New (w : World) : Calls Tryz.prog 32 #[] w fun e w' => ∃ g m, e = .returned (.pointer (some ⟨g, 0, none⟩)) ∧ w.heap.size ≤ g ∧ w.heap.size ≤ m ∧ SealsAt w' g m [] ∧ Fr (fun _ => False) w w' := by
  have hmm := @run_makeMap Tryz.prog
  go_enter Tryz.func32, Tryz.ntmps32
  go_wp2
  go_ret
  exact ⟨w.heap.size + 1, w.heap.size, rfl, by omega, by omega, ⟨Blk.new_ _ _ _ (by simp), ⟨#[], 0, (Below.heap_alloc _ _ _ (by simp)).trans (heap_alloc_new _ _), rfl, by simp⟩⟩, ((Fr.refl _ _).alloc _).alloc _⟩
theorem seals_Signed {w : World} {g m : Nat} {L : List (Int × Int)} (h : SealsAt w g m L) (who d : Int) :
    Calls Tryz.prog 72 #[.pointer (some ⟨g, 0, none⟩), .int .i64 who, .int .i64 d] w fun e w' => e = .returned (.bool (decide ((who, d) ∈ L))) ∧ Fr (fun _ => False) w w' := by
  have hc := h.blk.cell 0
  have hl := run_lookup_pair (w := w) sealType h.map who d
  go_enter Tryz.func72, Tryz.ntmps72
  go_wp2
  go_ret
  exact ⟨rfl, (Fr.refl _ _).alloc _⟩
set_option maxRecDepth 100000 in
theorem seals_Sign {w : World} {g m : Nat} {L : List (Int × Int)} (h : SealsAt w g m L) (who d : Int) (hi : who ≤ 9223372036854775807) :
    Calls Tryz.prog 38 #[.pointer (some ⟨g, 0, none⟩), .int .i64 who, .int .i64 d] w fun e w' => e = .returned (errO (signErr who d L)) ∧ SealsAt w' g m (signL who d L) ∧ Fr (fun x => x = m) w w' := by
  by_cases hm : (who, d) ∈ L
  · go_enter Tryz.func38, Tryz.ntmps38
    go_wp2_with (first
      | (go_at_call 68; refine (seals_Group who hi _).mono ?_; rintro e w' ⟨rfl, rfl⟩)
      | (go_at_call 69; refine (seals_Client who _).mono ?_; rintro e w' ⟨rfl, rfl⟩)
      | (go_at_call 71; refine (fault_Of _ rfl _).mono ?_; rintro e w' ⟨rfl, rfl⟩)
      | (go_at_call 70; refine (fault_Wrap _ _ _ _ _).mono ?_; rintro e w' ⟨rfl, rfl⟩)
      | (go_at_call 72; refine (seals_Signed h who d).mono ?_; rintro e w1 ⟨rfl, hf1⟩; have h1 := h.fr hf1 id id; have hc1 := h1.blk.cell 0; have hlen := run_len_pair (P := Tryz.prog) (ty := 3) sealType.map h1.map))
    all_goals go_ret
    all_goals first
      | (obtain ⟨q1, q2⟩ := sign_bad (L := L) (show (clientOf who < 0 ∧ groupOf who < 0) ∨ d < 0 by omega); rw [q1, q2]; exact ⟨rfl, h, Fr.refl _ _⟩)
      | (obtain ⟨q1, q2⟩ := sign_in (L := L) (show ¬ ((clientOf who < 0 ∧ groupOf who < 0) ∨ d < 0) by omega) hm; rw [q1, q2]; exact ⟨rfl, h1, hf1.mono (fun _ _ hx => hx.elim)⟩)
  · go_enter Tryz.func38, Tryz.ntmps38
    go_wp2_with (first
      | (go_at_call 68; refine (seals_Group who hi _).mono ?_; rintro e w' ⟨rfl, rfl⟩)
      | (go_at_call 69; refine (seals_Client who _).mono ?_; rintro e w' ⟨rfl, rfl⟩)
      | (go_at_call 71; refine (fault_Of _ rfl _).mono ?_; rintro e w' ⟨rfl, rfl⟩)
      | (go_at_call 70; refine (fault_Wrap _ _ _ _ _).mono ?_; rintro e w' ⟨rfl, rfl⟩)
      | (go_at_call 72; refine (seals_Signed h who d).mono ?_; rintro e w1 ⟨rfl, hf1⟩; have h1 := h.fr hf1 id id; have hc1 := h1.blk.cell 0; have hlen := run_len_pair (P := Tryz.prog) (ty := 3) sealType.map h1.map; obtain ⟨w2, hu, hf2, hm2⟩ := run_update_pair sealType h1.map who d hm))
    all_goals go_ret
    all_goals first
      | (obtain ⟨q1, q2⟩ := sign_bad (L := L) (show (clientOf who < 0 ∧ groupOf who < 0) ∨ d < 0 by omega); rw [q1, q2]; exact ⟨rfl, h, Fr.refl _ _⟩)
      | (obtain ⟨q1, q2⟩ := sign_full (L := L) (show ¬ ((clientOf who < 0 ∧ groupOf who < 0) ∨ d < 0) by omega) hm ‹_›; rw [q1, q2]; exact ⟨rfl, h1, hf1.mono (fun _ _ hx => hx.elim)⟩)
      | (obtain ⟨q1, q2⟩ := sign_new (L := L) (show ¬ ((clientOf who < 0 ∧ groupOf who < 0) ∨ d < 0) by omega) hm ‹_›; rw [q1, q2]; exact ⟨rfl, ⟨h1.blk.fr hf2 h1.ne, hm2⟩, (hf1.mono (fun _ _ hx => hx.elim)).trans hf2 (fun _ _ hx => hx)⟩)
/-- Who of a group signed: of the first n places. -/
def whoTo (g d : Int) (L : List (Int × Int)) (n : Nat) : List Nat := (List.range n).filter fun (i : Nat) => decide (0 ≤ memberOf g i ∧ (memberOf g i, d) ∈ L)
theorem whoTo_succ_yes {g d : Int} {L : List (Int × Int)} {n : Nat} (h0 : 0 ≤ memberOf g n) (h1 : (memberOf g n, d) ∈ L) : whoTo g d L (n + 1) = whoTo g d L n ++ [n] := by
  simp [whoTo, List.range_succ, h0, h1]
theorem whoTo_succ_no {g d : Int} {L : List (Int × Int)} {n : Nat} (h : ¬ (0 ≤ memberOf g n ∧ (memberOf g n, d) ∈ L)) : whoTo g d L (n + 1) = whoTo g d L n := by
  simp only [whoTo, List.range_succ, List.filter_append, List.filter_cons, List.filter_nil, decide_eq_true_eq, h]
  simp
theorem whoTo_le (g d : Int) (L : List (Int × Int)) (n : Nat) : (whoTo g d L n).length ≤ n := by
  have := List.length_filter_le (fun (i : Nat) => decide (0 ≤ memberOf g i ∧ (memberOf g i, d) ∈ L)) (List.range n)
  simpa [whoTo] using this
theorem int_info : (Tryz.prog.info? 3).map (fun i => (i.zero, i.size, i.bytes)) = some (some (.int .i64 0), 1, 8) := by kernel_rfl
def intVals (l : List Nat) : List Value := l.map fun (i : Nat) => Value.int .i64 i
set_option maxRecDepth 100000 in
theorem seals_Who {w : World} {g m : Nat} {L : List (Int × Int)} (h : SealsAt w g m L) (gr d : Int) :
    Calls Tryz.prog 78 #[.pointer (some ⟨g, 0, none⟩), .int .i64 gr, .int .i64 d] w fun e w' => ∃ v, e = .returned v ∧ w'.ownsRow w.heap.size 3 1 v (whoTo gr d L 10).length (intVals (whoTo gr d L 10)) ∧ Fr (fun _ => False) w w' := by
  obtain ⟨i0, hi, hz0, hz1, hz2⟩ := info_parts int_info
  go_enter Tryz.func78, Tryz.ntmps78
  go_wp2_with fail
  go_loopw [7, 10] (fun v i wr => ∃ k : Nat, k ≤ 10 ∧ i = .int .i64 k ∧ wr.ownsRow w.heap.size 3 1 v (whoTo gr d L k).length (intVals (whoTo gr d L k)) ∧ Fr (fun _ => False) w wr) (fun _ i _ => 10 - (intOf i).toNat)
  case atStart => exact ⟨0, by omega, rfl, ⟨rfl, .inl ⟨rfl, rfl⟩⟩, Fr.refl _ _⟩
  case round =>
    obtain ⟨k, hk, rfl, hown, hf⟩ := hrel
    have hr := h.fr hf id id
    by_cases hlt : k < 10
    · by_cases h0 : 0 ≤ memberOf gr k
      · by_cases hm : (memberOf gr k, d) ∈ L
        · go_wp2_with (first
            | (go_at_call 101; refine (seals_Member gr k _).mono ?_; rintro e w' ⟨rfl, rfl⟩)
            | (go_at_call 72; refine (seals_Signed hr _ d).mono ?_; rintro e w1 ⟨rfl, hf1⟩; have hown1 := own_fr hown hf1 (fun _ _ => id); have hsz1 := hf1.size)
            | (at_builtin; go_loud (refine wpList_append1 _ rfl _ _ _ rfl w.heap.size 3 (.int .i64 0) 8 Tryz.underlying30 int_info rfl u7 _ _ rfl (hown1.alloc _) w1.heap.size (.int .i64 k) rfl ?_ rfl ?_ (by omega) ?_ ?_); (· simp); (· have := whoTo_le gr d L k; omega); (· have := hf.size; simp; omega); intro g2 c2 w2 hown2 hf2))
          go_roundw
          case rel =>
            have hfw : Fr (fun _ => False) w (w1.alloc (Obj.cells #[Value.int IntKind.i64 k] 3)) := (hf.then_ hf1).alloc _
            exact ⟨k + 1, by omega, by go_num, by rw [whoTo_succ_yes h0 hm]; simpa [intVals] using hown2, hfw.own hown1 hf2 (Nat.le_refl _)⟩
          case measure => simp [intOf]; omega
        · go_wp2_with (first
            | (go_at_call 101; refine (seals_Member gr k _).mono ?_; rintro e w' ⟨rfl, rfl⟩)
            | (go_at_call 72; refine (seals_Signed hr _ d).mono ?_; rintro e w1 ⟨rfl, hf1⟩))
          go_roundw
          case rel => exact ⟨k + 1, by omega, by go_num, by rw [whoTo_succ_no (fun h => hm h.2)]; exact own_fr hown hf1 (fun _ _ => id), hf.then_ hf1⟩
          case measure => simp [intOf]; omega
      · go_wp2_with (first
          | (go_at_call 101; refine (seals_Member gr k _).mono ?_; rintro e w' ⟨rfl, rfl⟩))
        go_roundw
        case rel => exact ⟨k + 1, by omega, by go_num, by rw [whoTo_succ_no (fun h => by have := h.1; omega)]; exact hown, hf⟩
        case measure => simp [intOf]; omega
    · obtain rfl : k = 10 := by omega
      go_wp2
      go_ret
      exact ⟨_, rfl, hown, hf⟩
end Go.Proofs.YtmkdhhhoodeemaaGreat

/- say.Digest; client.Said, signed, Word. -/
namespace Go.Proofs.YtmkdhhhoodeemaaGreat
open Go Go.RowKit
theorem b8_append {a b : List Int} (ha : B8 a) (hb : B8 b) : B8 (a ++ b) := fun x hx => (List.mem_append.1 hx).elim (ha x) (hb x)
theorem b8_num8 (n : Int) : B8 (num8 n) := by
  intro x hx
  obtain ⟨k, _, rfl⟩ : ∃ k : Nat, k < 8 ∧ x = n / 2 ^ (56 - 8 * k) % 256 := by
    simp only [num8, List.mem_map, List.mem_range] at hx
    obtain ⟨k, h1, h2⟩ := hx
    exact ⟨k, h1, h2.symm⟩
  omega
theorem b8_count4 (n : Int) : B8 (count4 n) := by
  intro x hx
  simp only [count4, List.mem_cons, List.not_mem_nil, or_false] at hx
  omega
theorem b8_textB (s : ByteArray) : B8 (textB (bytesOf s)) := b8_append (b8_count4 _) (bytesOf_8 s)
theorem b8_sayB (s : SayD) : B8 (sayB s) := by
  unfold sayB
  repeat first | exact b8_num8 _ | exact b8_textB _ | refine b8_append ?_ ?_
theorem sayB_length {s : SayD} (h : OkSay s) : (sayB s).length = 64 + s.from_.size + s.to_.size ∧ s.from_.size ≤ 16 ∧ s.to_.size ≤ 16 := by
  obtain ⟨a0, a1, a2, a3, a4, a5, a6, a7, a8, a9, a10, a11, a12, a13⟩ := h
  refine ⟨?_, by omega, by omega⟩
  simp [sayB, num8_length, textB, count4_length, bytesOf_length]
  omega
def sayI (L : List (List Int)) (s : SayD) : Int := if OkSay s then (digI L (sayB s) : Nat) else -1
def sayL (L : List (List Int)) (s : SayD) : List (List Int) := if OkSay s then digL L (sayB s) else L
def BookStep (w : World) (g m base : Nat) (v : Value) (L' : List (List Int)) (r : Value) (e : Ending) (w' : World) : Prop :=
  ∃ v', e = .returned r ∧ BookAt w' g m base v' L' ∧ Fr (fun k => k = g ∨ k = m ∨ v.ownBlock = some k) w w' ∧ ∀ k, v'.ownBlock = some k → v.ownBlock = some k ∨ w.heap.size ≤ k
theorem BookStep.before {w w1 w' : World} {g m base : Nat} {v : Value} {L' : List (List Int)} {r : Value} {e : Ending} (h : BookStep w1 g m base v L' r e w') (hf : Fr (fun _ => False) w w1) : BookStep w g m base v L' r e w' := by
  obtain ⟨v', h1, h2, h3, h4⟩ := h
  exact ⟨v', h1, h2, (hf.mono (fun _ _ h => h.elim)).trans h3 (fun _ _ h => h), fun k hk => (h4 k hk).imp_right (Nat.le_trans hf.size)⟩
set_option maxRecDepth 100000 in
theorem say_Digest1 {w : World} {g m base : Nat} {v : Value} {L : List (List Int)} (h : BookAt w g m base v L) (hbase : base ≤ w.heap.size) (hL : L.length < 65536) (kind txn : Int) (yes : Bool) (ff tt : ByteArray) (epoch shard target root : Int) :
    Calls Tryz.prog 42 #[.pointer (some ⟨g, 0, none⟩), .agg #[.int .i64 kind, .int .i64 txn, .bool yes, .string ff, .string tt, .int .i64 epoch, .int .i64 shard, .int .i64 target, .int .i64 root]] w (BookStep w g m base v (sayL L ⟨kind, txn, yes, ff, tt, epoch, shard, target, root⟩) (.tuple #[.int .i64 (sayI L ⟨kind, txn, yes, ff, tt, epoch, shard, target, root⟩), errO (saidO ⟨kind, txn, yes, ff, tt, epoch, shard, target, root⟩)])) := by
  have HP := Lib.hid (fun w => say_Put1 w kind txn yes ff tt epoch shard target root)
  have hB0 := Blk.new w 23 #[.int .i64 kind, .int .i64 txn, .bool yes, .string ff, .string tt, .int .i64 epoch, .int .i64 shard, .int .i64 target, .int .i64 root]
  have hf0 : Fr (fun _ => False) w (w.alloc (Obj.cells #[.int .i64 kind, .int .i64 txn, .bool yes, .string ff, .string tt, .int .i64 epoch, .int .i64 shard, .int .i64 target, .int .i64 root] 23)) := (Fr.refl _ _).alloc _
  by_cases hok : OkSay ⟨kind, txn, yes, ff, tt, epoch, shard, target, root⟩
  · obtain ⟨hl1, hl2, hl3⟩ := sayB_length hok
    have hb8 := b8_sayB ⟨kind, txn, yes, ff, tt, epoch, shard, target, root⟩
    unfold sayI sayL saidO
    rw [if_pos hok, if_pos hok, if_pos hok]
    have HP : Hid (∀ w, Calls Tryz.prog 77 #[.agg #[.int .i64 kind, .int .i64 txn, .bool yes, .string ff, .string tt, .int .i64 epoch, .int .i64 shard, .int .i64 target, .int .i64 root]] w fun e w' => ∃ v, e = .returned (.tuple #[v, .nilIface]) ∧ Own8 w' w.heap.size v (sayB ⟨kind, txn, yes, ff, tt, epoch, shard, target, root⟩) ∧ Fr (fun _ => False) w w') := fun w => (HP.out w).mono fun e w' ⟨v, h1, h2, h3⟩ => by
      unfold saidO at h1
      rw [if_pos hok] at h1 h2
      exact ⟨v, h1, h2, h3⟩
    clear hok
    generalize sayB ⟨kind, txn, yes, ff, tt, epoch, shard, target, root⟩ = xs at hl1 hb8 HP ⊢
    have HL1 : Hid (xs.length ≤ 65536) := by show _ ≤ _; dsimp only at hl1 hl2 hl3; omega
    have HB8 := Lib.hid hb8
    clear hl1 hl2 hl3 hb8
    go_enter Tryz.func42, Tryz.ntmps42
    go_wp2_with fail
    refine (HP.out _).mono ?_
    rintro e w1 ⟨v1, rfl, hv1, hf1⟩
    have hf01 := hf0.then_ hf1
    have hB1 := hB0.fr hf1 id
    obtain ⟨A1, cap1, rfl, _, hr1⟩ := hv1.form
    have hb1 := h.keep hf01
    clear hB0 hf0 hf1 hv1 HP
    go_wp2_with fail
    refine (book_Digest hb1 (Nat.le_trans hbase hf01.size) hr1 HB8.out HL1.out hL).mono ?_
    rintro e w2 ⟨v2, rfl, hb2, hf2, hk2⟩
    have hB2 := hB1.fr hf2 (fun e => by
      rcases e with e | e | e
      · exact hB1.ne_ hb1.blk (by decide) e
      · obtain ⟨⟨es, cl, h1, _⟩, _⟩ := hb1.map
        exact hB1.ne_map h1 e
      · exact own_ne_blk hb1.own hB1 (by decide) e)
    have hc2 := hB2.cell 0
    go_wp2_with (go_at_call 70; refine (fault_Wrap_nil _ _ _).mono ?_; rintro e w' ⟨rfl, rfl⟩)
    refine bodyPost_ret (v := .tuple #[.int .i64 (digI L xs : Nat), .nilIface]) (by simp [results, Tryz.results42, go_sem]) rfl ?_
    exact BookStep.before ⟨v2, rfl, hb2, hf2, hk2⟩ hf01
  · have hso : saidO ⟨kind, txn, yes, ff, tt, epoch, shard, target, root⟩ = some ([((⟨#[115, 97, 121]⟩ : ByteArray), kind)], 111) := if_neg hok
    unfold sayI sayL
    rw [if_neg hok, if_neg hok, hso]
    obtain ⟨t, u, hu⟩ := errO_some ([((⟨#[115, 97, 121]⟩ : ByteArray), kind)], 111)
    have HP : Hid (∀ w, Calls Tryz.prog 77 #[.agg #[.int .i64 kind, .int .i64 txn, .bool yes, .string ff, .string tt, .int .i64 epoch, .int .i64 shard, .int .i64 target, .int .i64 root]] w fun e w' => ∃ A n cap, e = .returned (.tuple #[.slice A n cap, .iface t u]) ∧ Fr (fun _ => False) w w') := fun w => (HP.out w).mono fun e w' ⟨v, h1, h2, h3⟩ => by
      rw [hso, hu] at h1
      obtain ⟨A, cap, rfl, _, _⟩ := h2.form
      exact ⟨_, _, _, h1, h3⟩
    rw [hu]
    clear hok hso hu
    go_enter Tryz.func42, Tryz.ntmps42
    go_wp2_with (go_at_call 77; refine (HP.out _).mono ?_; rintro e w1 ⟨A1, n1, cap1, rfl, hf1⟩)
    have hf01 := hf0.then_ hf1
    refine bodyPost_ret (v := .tuple #[.int .i64 (-1), .iface t u]) (by simp [results, Tryz.results42, go_sem]) rfl ?_
    exact BookStep.before ⟨v, rfl, h.keep hf01, Fr.refl _ _, fun k hk => .inl hk⟩ hf01
end Go.Proofs.YtmkdhhhoodeemaaGreat

/- seals.Many; client: signed, Said, Word. -/
namespace Go.Proofs.YtmkdhhhoodeemaaGreat
open Go Go.RowKit
/-- The program's book and seals, apart from one another. -/
structure BS (w : World) (g m base : Nat) (v : Value) (L : List (List Int)) (gs ms : Nat) (SL : List (Int × Int)) : Prop where
  book : BookAt w g m base v L
  seals : SealsAt w gs ms SL
  ne : m ≠ ms
theorem BS.keep {w w' : World} {g m base : Nat} {v : Value} {L : List (List Int)} {gs ms : Nat} {SL : List (Int × Int)} (h : BS w g m base v L gs ms SL) (hf : Fr (fun _ => False) w w') : BS w' g m base v L gs ms SL := ⟨h.book.keep hf, h.seals.fr hf id id, h.ne⟩
theorem BS.apart {w : World} {g m base : Nat} {v : Value} {L : List (List Int)} {gs ms : Nat} {SL : List (Int × Int)} (h : BS w g m base v L gs ms SL) : (∀ k, k = gs ∨ k = ms → ¬ (k = g ∨ k = m ∨ v.ownBlock = some k)) := by
  obtain ⟨es, cl, h1, _⟩ := h.seals.map
  obtain ⟨⟨es2, cl2, h2, _⟩, _⟩ := h.book.map
  intro k hk e
  rcases hk with rfl | rfl
  · rcases e with e | e | e
    · exact h.seals.blk.ne_ h.book.blk (by decide) e
    · exact h.seals.blk.ne_map h2 e
    · exact own_ne_blk h.book.own h.seals.blk (by decide) e
  · rcases e with e | e | e
    · exact h.book.blk.ne_map h1 e.symm
    · exact h.ne e.symm
    · exact own_ne_map h.book.own h.seals.map e
theorem BS.bookStep {w w' : World} {g m base : Nat} {v v' : Value} {L L' : List (List Int)} {gs ms : Nat} {SL : List (Int × Int)} (h : BS w g m base v L gs ms SL) (hb : BookAt w' g m base v' L') (hf : Fr (fun k => k = g ∨ k = m ∨ v.ownBlock = some k) w w') : BS w' g m base v' L' gs ms SL :=
  ⟨hb, h.seals.fr hf (h.apart gs (.inl rfl)) (h.apart ms (.inr rfl)), h.ne⟩
theorem BS.sealStep {w w' : World} {g m base : Nat} {v : Value} {L : List (List Int)} {gs ms : Nat} {SL SL' : List (Int × Int)} (h : BS w g m base v L gs ms SL) (hs : SealsAt w' gs ms SL') (hf : Fr (fun k => k = ms) w w') : BS w' g m base v L gs ms SL' := by
  have ha := h.apart ms (.inr rfl)
  exact ⟨h.book.fr hf (fun e => ha (.inl e.symm)) (fun e => ha (.inr (.inl e.symm))) (fun k hk e => ha (.inr (.inr (e ▸ hk)))), hs, h.ne⟩
end Go.Proofs.YtmkdhhhoodeemaaGreat

/- client: Said, Word. -/
namespace Go.Proofs.YtmkdhhhoodeemaaGreat
open Go Go.RowKit
/-- A step of the book and the seals that answers r. -/
def BSStep (w : World) (g m base : Nat) (v : Value) (L' : List (List Int)) (gs ms : Nat) (SL' : List (Int × Int)) (r : Value) (e : Ending) (w' : World) : Prop :=
  ∃ v', e = .returned r ∧ BS w' g m base v' L' gs ms SL' ∧ Fr (fun k => k = g ∨ k = m ∨ v.ownBlock = some k ∨ k = ms) w w' ∧ ∀ k, v'.ownBlock = some k → v.ownBlock = some k ∨ w.heap.size ≤ k
def saidN (gr : Int) (L : List (List Int)) (SL : List (Int × Int)) (s : SayD) : Nat := if OkSay s then (whoTo gr (sayI L s) SL 10).length else 0
end Go.Proofs.YtmkdhhhoodeemaaGreat

/- client: digest, Submit. -/
namespace Go.Proofs.YtmkdhhhoodeemaaGreat
open Go Go.RowKit
theorem txnB_len {c n : Int} {R : List (ByteArray × Int)} {W : List (ByteArray × ByteArray)} (h : TOk c n R W) : (txnB c n R W).length ≤ 65536 := by
  have h1 := fl_le R (readB_le (read_sizes h.2.2.2.2.2.1))
  have h2 := fl_le W (writeB_le (write_sizes h.2.2.2.2.2.2))
  have h3 := rises_len h.2.2.2.2.2.1
  have h4 := rises_len h.2.2.2.2.2.2
  simp only [txnB, List.length_append, num8_length]
  omega
theorem BS.bookFr {w w' : World} {g m base : Nat} {v : Value} {L : List (List Int)} {gs ms : Nat} {SL : List (Int × Int)} {t : TypeId} {x : Nat} {cs : Array Value} (h : BS w g m base v L gs ms SL) (hB : Blk w x t cs) (h1 : t ≠ 125) (h2 : 9 ≠ t) (hf : Fr (fun k => k = g ∨ k = m ∨ v.ownBlock = some k ∨ k = ms) w w') : Blk w' x t cs :=
  hB.fr hf (fun e => by
    rcases e with e | e | e | e
    · exact hB.ne_ h.book.blk h1 e
    · obtain ⟨⟨es, cl, h3, _⟩, _⟩ := h.book.map
      exact hB.ne_map h3 e
    · exact own_ne_blk h.book.own hB h2 e
    · obtain ⟨es, cl, h3, _⟩ := h.seals.map
      exact hB.ne_map h3 e)
def PutNo (w : World) (r : Value) (e : Ending) (w' : World) : Prop := ∃ x, e = .returned (.tuple #[x, r]) ∧ x = .slice none 0 0 ∧ Fr (fun _ => False) w w'
end Go.Proofs.YtmkdhhhoodeemaaGreat

/- txn: right, Check, Put of any transaction that is not great. -/
namespace Go.Proofs.YtmkdhhhoodeemaaGreat
open Go Go.RowKit
/-- Few, or so many that their sum is below nothing. -/
def FewT (R : List (ByteArray × Int)) (W : List (ByteArray × ByteArray)) : Prop := R.length ≤ 9223372036854775807 ∧ W.length ≤ 9223372036854775807 ∧ (R.length + W.length ≤ 40 ∨ 9223372036854775807 < R.length + W.length)
theorem wrap_big {a b : Nat} (ha : a ≤ 9223372036854775807) (hb : b ≤ 9223372036854775807) (h : 9223372036854775807 < a + b) : ¬ (0 : Int) < IntKind.i64.wrap ((a : Int) + (b : Int)) := by
  unfold IntKind.wrap
  simp [IntKind.bits, IntKind.signed]
  omega
theorem tok_no {c n : Int} {R : List (ByteArray × Int)} {W : List (ByteArray × ByteArray)} {z : Bool} (hz : Hid (decide (TOk c n R W) = z)) (h : ¬ TOk c n R W) {w w' : World} (hf : Fr (fun _ => False) w w') : OkB w z (.returned (.bool false)) w' := ⟨by rw [← hz.out, decide_eq_false h], hf⟩
set_option maxRecDepth 100000 in
set_option maxHeartbeats 1000000 in
theorem txn_right_any {w : World} {F : Nat → Prop} {A B : Option Addr} {cr cw : Nat} {c n : Int} {R : List (ByteArray × Int)} {W : List (ByteArray × ByteArray)} (hr : ReadRow w F A R) (hw : WriteRow w F B W) (hs : FewT R W) :
    Calls Tryz.prog 138 #[.agg #[.int .i64 c, .int .i64 n, .slice A R.length cr, .slice B W.length cw]] w (OkB w (decide (TOk c n R W))) := by
  have hf0 : Fr (fun _ => False) w (w.alloc (Obj.cells #[.int .i64 c, .int .i64 n, .slice A R.length cr, .slice B W.length cw] 29)) := (Fr.refl _ _).alloc _
  obtain ⟨z, HZ⟩ : ∃ z, Hid (decide (TOk c n R W) = z) := ⟨_, rfl⟩
  rw [HZ.out]
  have HS := Lib.hid hs
  have HR0 := Lib.hid hr
  have HW0 := Lib.hid hw
  clear hs hr hw
  by_cases h0 : 0 ≤ c
  case neg =>
    go_enter Tryz.func138, Tryz.ntmps138
    go_wp2_with fail
    go_ret
    exact tok_no HZ (fun e => absurd e.1 (by omega)) hf0
  case pos =>
  by_cases h1 : c < 16
  case neg =>
    go_enter Tryz.func138, Tryz.ntmps138
    go_wp2_with fail
    go_ret
    exact tok_no HZ (fun e => absurd e.2.1 (by omega)) hf0
  case pos =>
  by_cases h2 : 1 ≤ n
  case neg =>
    go_enter Tryz.func138, Tryz.ntmps138
    go_wp2_with fail
    go_ret
    exact tok_no HZ (fun e => absurd e.2.2.1 (by omega)) hf0
  case pos =>
  by_cases h3 : n ≤ 1099511627776
  case neg =>
    go_enter Tryz.func138, Tryz.ntmps138
    go_wp2_with fail
    go_ret
    exact tok_no HZ (fun e => absurd e.2.2.2.1 (by omega)) hf0
  case pos =>
  obtain ⟨sm, HSM⟩ : ∃ sm, Hid (IntKind.i64.wrap ((R.length : Int) + (W.length : Int)) = sm) := ⟨_, rfl⟩
  have hsum := HSM.out
  by_cases h4 : 0 < sm
  case neg =>
    have HNO : Hid (¬ TOk c n R W) := fun e => by
      have l1 := rises_len e.2.2.2.2.2.1
      have l2 := rises_len e.2.2.2.2.2.2
      have l3 := e.2.2.2.2.1
      have := wrap_i64 (R.length + W.length) (by omega)
      rw [Int.natCast_add, HSM.out] at this
      omega
    go_enter Tryz.func138, Tryz.ntmps138
    go_wp2_with fail
    go_ret
    exact tok_no HZ HNO.out hf0
  case pos =>
  have HFEW : Hid (R.length + W.length ≤ 40 ∧ (0 : Int) < (R.length : Int) + W.length) := by
    obtain ⟨b1, b2, b3⟩ := HS.out
    rcases b3 with b3 | b3
    · refine ⟨b3, ?_⟩
      have := wrap_i64 (R.length + W.length) (by omega)
      rw [Int.natCast_add, HSM.out] at this
      omega
    · exact absurd (by rw [HSM.out]; exact h4) (wrap_big b1 b2 b3)
  have hB0 := Blk.new w 29 #[.int .i64 c, .int .i64 n, .slice A R.length cr, .slice B W.length cw]
  have HT : Hid (TOk c n R W ↔ rises readOk R = true ∧ rises writeOk W = true) := ⟨fun e => ⟨e.2.2.2.2.2.1, e.2.2.2.2.2.2⟩, fun e => ⟨h0, h1, h2, h3, HFEW.out.2, e.1, e.2⟩⟩
  have HR := txn_rises_read (cap := cr) (HR0.out.fr hf0 (fun _ _ => id)) (by have := HFEW.out.1; omega)
  have HW : Hid (∀ w', Fr (fun _ => False) w w' → Calls Tryz.prog 168 #[.slice B W.length cw, .func (.func 169) #[] #[], .func (.func 170) #[] #[]] w' (OkB w' (rises writeOk W))) := fun w' hf =>
    txn_rises_write (cap := cw) (HW0.out.fr hf (fun _ _ => id)) (by have := HFEW.out.1; omega)
  generalize hb1 : rises readOk R = b1 at *
  generalize hb2 : rises writeOk W = b2 at *
  have HR := Lib.hid HR
  clear hb1 hb2
  have HZ2 : Hid (z = (b1 && b2)) := HZ.out.symm.trans (by rw [Bool.eq_iff_iff, decide_eq_true_eq, Bool.and_eq_true]; exact HT.out)
  clear HZ HT
  cases b1
  case false =>
    go_enter Tryz.func138, Tryz.ntmps138
    go_wp2_with (first | (go_at_call 165; refine HR.out.mono ?_; rintro e w1 ⟨rfl, hf1⟩; have hf01 := hf0.then_ hf1))
    go_ret
    exact ⟨by rw [HZ2.out]; rfl, hf01⟩
  case true =>
    cases b2
    case false =>
      go_enter Tryz.func138, Tryz.ntmps138
      go_wp2_with (first | (go_at_call 165; refine HR.out.mono ?_; rintro e w1 ⟨rfl, hf1⟩; have hf01 := hf0.then_ hf1; have hc3 := (hB0.fr hf1 id).cell 3) | (go_at_call 168; refine (HW.out _ hf01).mono ?_; rintro e w2 ⟨rfl, hf2⟩))
      go_ret
      exact ⟨by rw [HZ2.out]; rfl, hf01.then_ hf2⟩
    case true =>
      go_enter Tryz.func138, Tryz.ntmps138
      go_wp2_with (first | (go_at_call 165; refine HR.out.mono ?_; rintro e w1 ⟨rfl, hf1⟩; have hf01 := hf0.then_ hf1; have hc3 := (hB0.fr hf1 id).cell 3) | (go_at_call 168; refine (HW.out _ hf01).mono ?_; rintro e w2 ⟨rfl, hf2⟩))
      go_ret
      exact ⟨by rw [HZ2.out]; rfl, hf01.then_ hf2⟩
theorem txn_Check_bad {w : World} {F : Nat → Prop} {A B : Option Addr} {cr cw : Nat} {c n : Int} {R : List (ByteArray × Int)} {W : List (ByteArray × ByteArray)} (hr : ReadRow w F A R) (hw : WriteRow w F B W) (hs : FewT R W) (hno : ¬ TOk c n R W) :
    Calls Tryz.prog 111 #[.agg #[.int .i64 c, .int .i64 n, .slice A R.length cr, .slice B W.length cw]] w (TxnErr w) := by
  have hf0 : Fr (fun _ => False) w (w.alloc (Obj.cells #[.int .i64 c, .int .i64 n, .slice A R.length cr, .slice B W.length cw] 29)) := (Fr.refl _ _).alloc _
  have HR := txn_right_any (cr := cr) (cw := cw) (c := c) (n := n) (hr.fr hf0 (fun _ _ => id)) (hw.fr hf0 (fun _ _ => id)) hs
  rw [decide_eq_false hno] at HR
  have HR := Lib.hid HR
  have HW := fun w => txn_wrap_err [] 101 w
  obtain ⟨t, u, hu⟩ := errV_iface [] 101
  obtain ⟨t2, u2, hu2⟩ := errV_iface [((⟨#[116, 120, 110]⟩ : ByteArray), 0)] 101
  have HO := fun w => fault_Of 101 rfl w
  rw [hu, hu2] at HW
  rw [hu] at HO
  have HW := Lib.hid HW
  have HO := Lib.hid HO
  unfold TxnErr
  rw [hu2]
  clear hr hw hs hno hu hu2
  go_enter Tryz.func111, Tryz.ntmps111
  go_wp2_with (first | (go_at_call 138; refine HR.out.mono ?_; rintro e w1 ⟨rfl, hf1⟩) | (go_at_call 71; refine (HO.out _).mono ?_; rintro e w2 ⟨rfl, rfl⟩) | (go_at_call 109; refine (HW.out _).mono ?_; rintro e w2 ⟨rfl, rfl⟩))
  go_ret
  exact ⟨rfl, hf0.then_ hf1⟩
theorem txn_Put_bad {w : World} {F : Nat → Prop} {A B : Option Addr} {cr cw : Nat} {c n : Int} {R : List (ByteArray × Int)} {W : List (ByteArray × ByteArray)} (hr : ReadRow w F A R) (hw : WriteRow w F B W) (hs : FewT R W) (hno : ¬ TOk c n R W) :
    Calls Tryz.prog 149 #[.agg #[.int .i64 c, .int .i64 n, .slice A R.length cr, .slice B W.length cw]] w (PutNo w (errV [((⟨#[116, 120, 110]⟩ : ByteArray), 0)] 101)) := by
  have hf0 : Fr (fun _ => False) w (w.alloc (Obj.cells #[.int .i64 c, .int .i64 n, .slice A R.length cr, .slice B W.length cw] 29)) := (Fr.refl _ _).alloc _
  obtain ⟨t, u, hu⟩ := errV_iface [((⟨#[116, 120, 110]⟩ : ByteArray), 0)] 101
  have HC := txn_Check_bad (cr := cr) (cw := cw) (c := c) (n := n) (hr.fr hf0 (fun _ _ => id)) (hw.fr hf0 (fun _ _ => id)) hs hno
  unfold TxnErr at HC
  rw [hu] at HC ⊢
  have HC := Lib.hid HC
  clear hr hw hs hno hu
  go_enter Tryz.func149, Tryz.ntmps149
  go_wp2_with (go_at_call 111; refine HC.out.mono ?_; rintro e w1 ⟨rfl, hf1⟩)
  refine bodyPost_ret (v := .tuple #[.slice none 0 0, .iface t u]) (by simp [results, Tryz.results149, go_sem]) rfl ?_
  exact ⟨_, rfl, rfl, hf0.then_ hf1⟩
end Go.Proofs.YtmkdhhhoodeemaaGreat

/- say: parts of an order: is a transaction a zero one, what may be left out, numbers within bounds, errors in a row. -/
namespace Go.Proofs.YtmkdhhhoodeemaaGreat
open Go Go.RowKit
theorem IntRow.at_ {w : World} {B : Nat} {A : Option Addr} {l : List Int} (h : IntRow w B A l) {k : Nat} {x : Int} (hx : l[k]? = some x) : ∃ b o, A = some ⟨b, o, none⟩ ∧ w.cell? ⟨b, o + k, none⟩ = some (.int .i64 x) := by
  obtain ⟨b, o, h1, _, h2⟩ := h k x hx
  exact ⟨b, o, h1, h2⟩
def MinOf (l : List Int) (m : Int) : Prop := m ∈ l ∧ ∀ x ∈ l, m ≤ x
def MaxOf (l : List Int) (m : Int) : Prop := m ∈ l ∧ ∀ x ∈ l, x ≤ m
theorem take_mem {α : Type} {l : List α} {k : Nat} {x : α} (h : l[k]? = some x) : l.take (k + 1) = l.take k ++ [x] := by
  obtain ⟨hlt, rfl⟩ := List.getElem?_eq_some_iff.1 h
  exact List.take_succ_eq_append_getElem hlt
theorem MinOf.keep {l : List Int} {k : Nat} {m x : Int} (h : MinOf (l.take k) m) (hx : l[k]? = some x) (hm : ¬ x < m) : MinOf (l.take (k + 1)) m := by
  rw [take_mem hx]
  exact ⟨List.mem_append_left _ h.1, fun y hy => (List.mem_append.1 hy).elim (h.2 y) (fun e => by rw [List.mem_singleton.1 e]; omega)⟩
theorem MinOf.step {l : List Int} {k : Nat} {m x : Int} (h : MinOf (l.take k) m) (hx : l[k]? = some x) (hm : x < m) : MinOf (l.take (k + 1)) x := by
  rw [take_mem hx]
  exact ⟨List.mem_append_right _ (List.mem_singleton.2 rfl), fun y hy => (List.mem_append.1 hy).elim (fun e => by have := h.2 y e; omega) (fun e => by rw [List.mem_singleton.1 e]; exact Int.le_refl _)⟩
theorem MaxOf.keep {l : List Int} {k : Nat} {m x : Int} (h : MaxOf (l.take k) m) (hx : l[k]? = some x) (hm : ¬ m < x) : MaxOf (l.take (k + 1)) m := by
  rw [take_mem hx]
  exact ⟨List.mem_append_left _ h.1, fun y hy => (List.mem_append.1 hy).elim (h.2 y) (fun e => by rw [List.mem_singleton.1 e]; omega)⟩
theorem MaxOf.step {l : List Int} {k : Nat} {m x : Int} (h : MaxOf (l.take k) m) (hx : l[k]? = some x) (hm : m < x) : MaxOf (l.take (k + 1)) x := by
  rw [take_mem hx]
  exact ⟨List.mem_append_right _ (List.mem_singleton.2 rfl), fun y hy => (List.mem_append.1 hy).elim (fun e => by have := h.2 y e; omega) (fun e => by rw [List.mem_singleton.1 e]; exact Int.le_refl _)⟩
theorem slices_MinAll {w : World} {B : Nat} {A : Option Addr} {cap : Nat} {l : List Int} (hr : IntRow w B A l) (hl : 1 ≤ l.length) (hll : l.length ≤ 1000000) :
    Calls Tryz.prog 158 #[.slice A l.length cap] w fun e w' => (∃ m, e = .returned (.int .i64 m) ∧ MinOf l m) ∧ w = w' := by
  obtain ⟨x0, hx0⟩ : ∃ x, l[0]? = some x := ⟨l[0], List.getElem?_eq_getElem (by omega)⟩
  obtain ⟨b, o, rfl, hc⟩ := hr.at_ hx0
  rw [Nat.add_zero] at hc
  have HR := Lib.hid hr
  have hl1 : ¬ (l.length : Int) < 1 := by omega
  have h0 : Hid (MinOf (l.take 1) x0) := by
    show MinOf _ _
    rw [take_mem hx0]
    exact ⟨by simp, fun y hy => by simp at hy; omega⟩
  clear hr hx0
  go_enter Tryz.func158, Tryz.ntmps158
  go_wp2_with fail
  clear hc
  go_loopw [3, 4] (fun mv i wr => ∃ (k : Nat) (m : Int), 1 ≤ k ∧ k ≤ l.length ∧ mv = .int .i64 m ∧ i = .int .i64 k ∧ MinOf (l.take k) m ∧ w = wr) (fun _ i _ => l.length - (intOf i).toNat)
  case atStart => exact ⟨1, x0, Nat.le_refl _, hl, rfl, rfl, h0.out, rfl⟩
  case round =>
    obtain ⟨k, m, hk1, hk, rfl, rfl, hm, rfl⟩ := hrel
    have HM := Lib.hid hm
    clear hm h0
    by_cases hlt : k < l.length
    · have hlt' : (k : Int) < (l.length : Int) := by omega
      obtain ⟨x, hx⟩ : ∃ x, l[k]? = some x := ⟨l[k], List.getElem?_eq_getElem hlt⟩
      obtain ⟨b', o', he, hc⟩ := HR.out.at_ hx
      cases he
      have HX := Lib.hid hx
      clear hx
      by_cases hmx : x < m
      · go_wp2_with fail
        go_roundw
        case rel => exact ⟨k + 1, _, by omega, by omega, rfl, by go_num, HM.out.step HX.out hmx, by trivial⟩
        case measure => simp [intOf]; omega
      · go_wp2_with fail
        go_roundw
        case rel => exact ⟨k + 1, _, by omega, by omega, rfl, by go_num, HM.out.keep HX.out hmx, by trivial⟩
        case measure => simp [intOf]; omega
    · obtain rfl : k = l.length := by omega
      rw [List.take_length] at HM
      clear hlt
      go_wp2_with fail
      go_ret
      exact ⟨⟨m, rfl, HM.out⟩, by trivial⟩
theorem slices_MaxAll {w : World} {B : Nat} {A : Option Addr} {cap : Nat} {l : List Int} (hr : IntRow w B A l) (hl : 1 ≤ l.length) (hll : l.length ≤ 1000000) :
    Calls Tryz.prog 159 #[.slice A l.length cap] w fun e w' => (∃ m, e = .returned (.int .i64 m) ∧ MaxOf l m) ∧ w = w' := by
  obtain ⟨x0, hx0⟩ : ∃ x, l[0]? = some x := ⟨l[0], List.getElem?_eq_getElem (by omega)⟩
  obtain ⟨b, o, rfl, hc⟩ := hr.at_ hx0
  rw [Nat.add_zero] at hc
  have HR := Lib.hid hr
  have hl1 : ¬ (l.length : Int) < 1 := by omega
  have h0 : Hid (MaxOf (l.take 1) x0) := by
    show MaxOf _ _
    rw [take_mem hx0]
    exact ⟨by simp, fun y hy => by simp at hy; omega⟩
  clear hr hx0
  go_enter Tryz.func159, Tryz.ntmps159
  go_wp2_with fail
  clear hc
  go_loopw [3, 4] (fun mv i wr => ∃ (k : Nat) (m : Int), 1 ≤ k ∧ k ≤ l.length ∧ mv = .int .i64 m ∧ i = .int .i64 k ∧ MaxOf (l.take k) m ∧ w = wr) (fun _ i _ => l.length - (intOf i).toNat)
  case atStart => exact ⟨1, x0, Nat.le_refl _, hl, rfl, rfl, h0.out, rfl⟩
  case round =>
    obtain ⟨k, m, hk1, hk, rfl, rfl, hm, rfl⟩ := hrel
    have HM := Lib.hid hm
    clear hm h0
    by_cases hlt : k < l.length
    · have hlt' : (k : Int) < (l.length : Int) := by omega
      obtain ⟨x, hx⟩ : ∃ x, l[k]? = some x := ⟨l[k], List.getElem?_eq_getElem hlt⟩
      obtain ⟨b', o', he, hc⟩ := HR.out.at_ hx
      cases he
      have HX := Lib.hid hx
      clear hx
      by_cases hmx : m < x
      · go_wp2_with fail
        go_roundw
        case rel => exact ⟨k + 1, _, by omega, by omega, rfl, by go_num, HM.out.step HX.out hmx, by trivial⟩
        case measure => simp [intOf]; omega
      · go_wp2_with fail
        go_roundw
        case rel => exact ⟨k + 1, _, by omega, by omega, rfl, by go_num, HM.out.keep HX.out hmx, by trivial⟩
        case measure => simp [intOf]; omega
    · obtain rfl : k = l.length := by omega
      rw [List.take_length] at HM
      clear hlt
      go_wp2_with fail
      go_ret
      exact ⟨⟨m, rfl, HM.out⟩, by trivial⟩
def Betw (top : Int) (l : List Int) : Bool := l.all fun x => decide (0 ≤ x ∧ x ≤ top)
theorem betw_eq {top : Int} {l : List Int} {m n : Int} (h1 : MinOf l m) (h2 : MaxOf l n) : Betw top l = (decide (0 ≤ m) && decide (n ≤ top)) := by
  rw [Bool.eq_iff_iff, Bool.and_eq_true, decide_eq_true_eq, decide_eq_true_eq, Betw, List.all_eq_true]
  constructor
  · intro h
    have a := h m h1.1
    have b := h n h2.1
    rw [decide_eq_true_eq] at a b
    exact ⟨a.1, b.2⟩
  · rintro ⟨a, b⟩ x hx
    have := h1.2 x hx
    have := h2.2 x hx
    rw [decide_eq_true_eq]
    omega
theorem MinOf.uniq {l : List Int} {m n : Int} (h : MinOf l m) (k : MinOf l n) : m = n := Int.le_antisymm (h.2 _ k.1) (k.2 _ h.1)
theorem MaxOf.uniq {l : List Int} {m n : Int} (h : MaxOf l m) (k : MaxOf l n) : m = n := Int.le_antisymm (k.2 _ h.1) (h.2 _ k.1)
theorem min_max : ∀ (l : List Int), 1 ≤ l.length → (∃ m, MinOf l m) ∧ ∃ m, MaxOf l m
  | [x], _ => ⟨⟨x, by simp [MinOf]⟩, ⟨x, by simp [MaxOf]⟩⟩
  | x :: y :: l, _ => by
    obtain ⟨⟨m, h1, h2⟩, ⟨n, h3, h4⟩⟩ := min_max (y :: l) (by simp)
    refine ⟨?_, ?_⟩
    · by_cases h : x ≤ m
      · exact ⟨x, by simp, fun z hz => by rcases List.mem_cons.1 hz with rfl | hz; exact Int.le_refl _; have := h2 z hz; omega⟩
      · exact ⟨m, List.mem_cons_of_mem _ h1, fun z hz => by rcases List.mem_cons.1 hz with rfl | hz; omega; exact h2 z hz⟩
    · by_cases h : n ≤ x
      · exact ⟨x, by simp, fun z hz => by rcases List.mem_cons.1 hz with rfl | hz; exact Int.le_refl _; have := h4 z hz; omega⟩
      · exact ⟨n, List.mem_cons_of_mem _ h3, fun z hz => by rcases List.mem_cons.1 hz with rfl | hz; omega; exact h4 z hz⟩
theorem say_betweenAll {w : World} {B : Nat} {A : Option Addr} {cap : Nat} {l : List Int} (hr : IntRow w B A l) (hl : 1 ≤ l.length) (hll : l.length ≤ 1000000) (top : Int) :
    Calls Tryz.prog 125 #[.int .i64 top, .slice A l.length cap] w fun e w' => e = .returned (.bool (Betw top l)) ∧ w = w' := by
  obtain ⟨⟨m, hm⟩, ⟨n, hn⟩⟩ := min_max l hl
  have H1 : Hid (Calls Tryz.prog 158 #[.slice A l.length cap] w fun e w' => e = .returned (.int .i64 m) ∧ w = w') := (slices_MinAll (cap := cap) hr hl hll).mono fun e w' ⟨⟨x, h1, h2⟩, h3⟩ => ⟨by rw [h1, h2.uniq hm], h3⟩
  have H2 : Hid (Calls Tryz.prog 159 #[.slice A l.length cap] w fun e w' => e = .returned (.int .i64 n) ∧ w = w') := (slices_MaxAll (cap := cap) hr hl hll).mono fun e w' ⟨⟨x, h1, h2⟩, h3⟩ => ⟨by rw [h1, h2.uniq hn], h3⟩
  rw [betw_eq hm hn]
  clear hr hl hll hm hn
  by_cases h0 : 0 ≤ m
  · go_enter Tryz.func125, Tryz.ntmps125
    go_wp2_with (first | (go_at_call 158; refine H1.out.mono ?_; rintro e w' ⟨rfl, rfl⟩) | (go_at_call 159; refine H2.out.mono ?_; rintro e w' ⟨rfl, rfl⟩))
    go_ret
    exact ⟨by simp [h0], rfl⟩
  · go_enter Tryz.func125, Tryz.ntmps125
    go_wp2_with (first | (go_at_call 158; refine H1.out.mono ?_; rintro e w' ⟨rfl, rfl⟩) | (go_at_call 159; refine H2.out.mono ?_; rintro e w' ⟨rfl, rfl⟩))
    go_ret
    exact ⟨by rw [decide_eq_false (p := 0 ≤ m) (by omega)]; rfl, rfl⟩
set_option maxRecDepth 100000 in
theorem say_none_zero (w : World) {cr cw : Nat} : Calls Tryz.prog 155 #[.agg #[.int .i64 0, .int .i64 0, .slice none 0 cr, .slice none 0 cw]] w (OkB w true) := by
  go_enter Tryz.func155, Tryz.ntmps155
  go_wp2_with fail
  go_ret
  exact ⟨rfl, (Fr.refl _ _).alloc _⟩
set_option maxRecDepth 100000 in
theorem say_none_not (w : World) {A B : Option Addr} {nr nw cr cw : Nat} {c n : Int} (hn : n ≠ 0) : Calls Tryz.prog 155 #[.agg #[.int .i64 c, .int .i64 n, .slice A nr cr, .slice B nw cw]] w (OkB w false) := by
  by_cases hc : c = 0
  · have q : (n == 0) = false := by simp [hn]
    subst hc
    go_enter Tryz.func155, Tryz.ntmps155
    go_wp2_with fail
    go_ret
    exact ⟨rfl, (Fr.refl _ _).alloc _⟩
  · have q : (c == 0) = false := by simp [hc]
    go_enter Tryz.func155, Tryz.ntmps155
    go_wp2_with fail
    go_ret
    exact ⟨rfl, (Fr.refl _ _).alloc _⟩
def NonePair (w : World) (e : Ending) (w' : World) : Prop := e = .returned (.tuple #[.slice none 0 0, .nilIface]) ∧ Fr (fun _ => False) w w'
theorem say_optTxn_none (w : World) (f : Value) {A B : Option Addr} {nr nw cr cw : Nat} {c n : Int} : Calls Tryz.prog 148 #[.bool false, .agg #[.int .i64 c, .int .i64 n, .slice A nr cr, .slice B nw cw], f] w (NonePair w) := by
  go_enter Tryz.func148, Tryz.ntmps148
  go_wp2_with fail
  refine bodyPost_ret (v := .tuple #[.slice none 0 0, .nilIface]) (by simp [results, Tryz.results148, go_sem]) rfl ?_
  exact ⟨rfl, (Fr.refl _ _).alloc _⟩
theorem say_optSay_none (w : World) (f : Value) (kind txn : Int) (yes : Bool) (ff tt : ByteArray) (epoch shard target root : Int) : Calls Tryz.prog 150 #[.bool false, .agg #[.int .i64 kind, .int .i64 txn, .bool yes, .string ff, .string tt, .int .i64 epoch, .int .i64 shard, .int .i64 target, .int .i64 root], f] w (NonePair w) := by
  go_enter Tryz.func150, Tryz.ntmps150
  go_wp2_with fail
  refine bodyPost_ret (v := .tuple #[.slice none 0 0, .nilIface]) (by simp [results, Tryz.results150, go_sem]) rfl ?_
  exact ⟨rfl, (Fr.refl _ _).alloc _⟩
/-- A text, or an error: what an optional part gives. -/
def PutP (w : World) (bs : List Int) (r : Value) (e : Ending) (w' : World) : Prop :=
  ∃ v, e = .returned (.tuple #[v, r]) ∧ Own8 w' w.heap.size v bs ∧ Fr (fun _ => False) w w'
theorem PutP.before {w w1 w' : World} {bs : List Int} {r : Value} {e : Ending} (h : PutP w1 bs r e w') (hf : Fr (fun _ => False) w w1) : PutP w bs r e w' := by
  obtain ⟨v, h1, h2, h3⟩ := h
  exact ⟨v, h1, h2.base_ hf.size, hf.then_ h3⟩
end Go.Proofs.YtmkdhhhoodeemaaGreat

/- say: PutOrder of an order whose proof is zero. -/
namespace Go.Proofs.YtmkdhhhoodeemaaGreat
open Go Go.RowKit
def TextsP (w : World) (b0 b1 b2 : List Int) (e : Ending) (w' : World) : Prop :=
  ∃ v0 v1 v2, e = .returned (.tuple #[.agg #[v0, v1, v2], .bool true]) ∧ Own8 w' w.heap.size v0 b0 ∧ Own8 w' w.heap.size v1 b1 ∧ Own8 w' w.heap.size v2 b2 ∧ Fr (fun _ => False) w w'
def orderB (kind : Int) (b0 b1 b2 : List Int) : List Int := num8 kind ++ textB b0 ++ textB b1 ++ textB b2 ++ num8 0 ++ num8 0 ++ num8 0 ++ numsB []
theorem wrote_row {wi wj : World} {g : Nat} {v : Value} {bs xs : List Int} {A : Option Addr} (hr : ByteRow wi (fun k => k < g) A xs) (ho : Own8 wi g v bs) (h : Fr (fun k => k = g ∨ v.ownBlock = some k) wi wj) : ByteRow wj (fun k => k < g) A xs :=
  hr.fr h (fun k hk e => e.elim (fun e => by omega) (fun e => by have := own_ge ho k e; omega))
theorem wrote_hA {wi : World} {g : Nat} {v : Value} {bs : List Int} (ho : Own8 wi g v bs) : ∀ k, k < g → v.ownBlock ≠ some k := fun k hk e => by have := own_ge ho k e; omega
set_option maxRecDepth 100000 in
set_option maxHeartbeats 4000000 in
theorem say_PutOrder_ok {w : World} {kind c n : Int} {A B : Option Addr} {nr cr nw cw : Nat} {s : SayD} {G D : Int} {C : Option Addr} {nx cx : Nat} {t0 t1 t2 : List Int} (hl0 : t0.length ≤ 65536) (hl1 : t1.length ≤ 65536) (hl2 : t2.length ≤ 65536)
    (hT : ∀ w', Fr (fun _ => False) w w' → Calls Tryz.prog 123 #[.agg #[.int .i64 kind, .int .i64 c, .int .i64 n, .slice A nr cr, .slice B nw cw, .int .i64 s.kind, .int .i64 s.txn, .bool s.yes, .string s.from_, .string s.to_, .int .i64 s.epoch, .int .i64 s.shard, .int .i64 s.target, .int .i64 s.root, .int .i64 G, .int .i64 D, .slice C nx cx, .int .i64 0, .int .i64 0, .slice none 0 0, .slice none 0 0]] w' (TextsP w' t0 t1 t2)) :
    Calls Tryz.prog 95 #[.agg #[.int .i64 kind, .int .i64 c, .int .i64 n, .slice A nr cr, .slice B nw cw, .int .i64 s.kind, .int .i64 s.txn, .bool s.yes, .string s.from_, .string s.to_, .int .i64 s.epoch, .int .i64 s.shard, .int .i64 s.target, .int .i64 s.root, .int .i64 G, .int .i64 D, .slice C nx cx, .int .i64 0, .int .i64 0, .slice none 0 0, .slice none 0 0]] w (PutP w (orderB kind t0 t1 t2) .nilIface) := by
  have HT := Lib.hid hT
  clear hT
  have hB0 := Blk.new w 62 #[.int .i64 kind, .int .i64 c, .int .i64 n, .slice A nr cr, .slice B nw cw, .int .i64 s.kind, .int .i64 s.txn, .bool s.yes, .string s.from_, .string s.to_, .int .i64 s.epoch, .int .i64 s.shard, .int .i64 s.target, .int .i64 s.root, .int .i64 G, .int .i64 D, .slice C nx cx, .int .i64 0, .int .i64 0, .slice none 0 0, .slice none 0 0]
  have hf0 : Fr (fun _ => False) w (w.alloc (Obj.cells #[.int .i64 kind, .int .i64 c, .int .i64 n, .slice A nr cr, .slice B nw cw, .int .i64 s.kind, .int .i64 s.txn, .bool s.yes, .string s.from_, .string s.to_, .int .i64 s.epoch, .int .i64 s.shard, .int .i64 s.target, .int .i64 s.root, .int .i64 G, .int .i64 D, .slice C nx cx, .int .i64 0, .int .i64 0, .slice none 0 0, .slice none 0 0] 62)) := (Fr.refl _ _).alloc _
  go_enter Tryz.func95, Tryz.ntmps95
  go_upto_region 1 with fail
  generalize w.alloc (Obj.cells #[.int .i64 kind, .int .i64 c, .int .i64 n, .slice A nr cr, .slice B nw cw, .int .i64 s.kind, .int .i64 s.txn, .bool s.yes, .string s.from_, .string s.to_, .int .i64 s.epoch, .int .i64 s.shard, .int .i64 s.target, .int .i64 s.root, .int .i64 G, .int .i64 D, .slice C nx cx, .int .i64 0, .int .i64 0, .slice none 0 0, .slice none 0 0] 62) = w0 at *
  go_wp2_with (refine wpList_load_row rfl 62 _ rfl _ rfl _ _ (0, 0) _ hB0 Tryz.underlying62 rfl (by kernel_rfl) ?_)
  refine (HT.out _ hf0).mono ?_
  rintro e w1 ⟨u0, u1, u2, rfl, hu0, hu1, hu2, hf01⟩
  obtain ⟨A0, c0, rfl, _, hr0⟩ := hu0.form
  obtain ⟨A1, c1, rfl, _, hr1⟩ := hu1.form
  obtain ⟨A2, c2, rfl, _, hr2⟩ := hu2.form
  have hr0 := hr0.mono (F' := fun k => k < w1.heap.size + 1) (fun k hk => Nat.lt_succ_of_lt (hu0.lt k hk))
  have hr1 := hr1.mono (F' := fun k => k < w1.heap.size + 1) (fun k hk => Nat.lt_succ_of_lt (hu1.lt k hk))
  have hr2 := hr2.mono (F' := fun k => k < w1.heap.size + 1) (fun k hk => Nat.lt_succ_of_lt (hu2.lt k hk))
  have hB1 := hB0.fr hf01 id
  have hf1 := hf0.then_ hf01
  clear hB0 hf0 hu0 hu1 hu2 hf01
  obtain ⟨gB, hgB⟩ : ∃ g, Hid (w.heap.size = g) := ⟨_, rfl⟩
  obtain ⟨g, hg⟩ : ∃ g, Hid (w1.heap.size + 1 = g) := ⟨_, rfl⟩
  have hsg : w.heap.size ≤ g := by rw [← hg.out]; exact Nat.le_succ_of_le hf1.size
  obtain ⟨b0, hb0⟩ : ∃ b : List Int, Hid (([] : List Int) = b) := ⟨_, rfl⟩
  have hbl0 : b0.length = 0 := by rw [← hb0.out]; rfl
  have hR2 : Blk ((w1.alloc (Obj.cells #[.slice A0 t0.length c0, .slice A1 t1.length c1, .slice A2 t2.length c2] 214)).alloc (Obj.cells #[.slice none 0 0, .nilIface] 194)) w1.heap.size 214 #[.slice A0 t0.length c0, .slice A1 t1.length c1, .slice A2 t2.length c2] := (Blk.new _ _ _).alloc _
  have hW2 : WriterAt ((w1.alloc (Obj.cells #[.slice A0 t0.length c0, .slice A1 t1.length c1, .slice A2 t2.length c2] 214)).alloc (Obj.cells #[.slice none 0 0, .nilIface] 194)) (w1.heap.size + 1) (w1.heap.size + 1) (.slice none 0 0) b0 none := by rw [← hb0.out]; exact ⟨Blk.new_ _ _ _ (by simp), Own8.nil _ _⟩
  have hB2 := (hB1.alloc (Obj.cells #[.slice A0 t0.length c0, .slice A1 t1.length c1, .slice A2 t2.length c2] 214)).alloc (Obj.cells #[.slice none 0 0, .nilIface] 194)
  have hf2 := (hf1.alloc (Obj.cells #[.slice A0 t0.length c0, .slice A1 t1.length c1, .slice A2 t2.length c2] 214)).alloc (Obj.cells #[.slice none 0 0, .nilIface] 194)
  have hz2 : w1.heap.size + 1 ≤ ((w1.alloc (Obj.cells #[.slice A0 t0.length c0, .slice A1 t1.length c1, .slice A2 t2.length c2] 214)).alloc (Obj.cells #[.slice none 0 0, .nilIface] 194)).heap.size := by simp
  have hr0 := (hr0.fr ((Fr.refl (fun _ => False) w1).alloc (Obj.cells #[.slice A0 t0.length c0, .slice A1 t1.length c1, .slice A2 t2.length c2] 214)) (fun _ _ => id)).fr ((Fr.refl (fun _ => False) _).alloc (Obj.cells #[.slice none 0 0, .nilIface] 194)) (fun _ _ => id)
  have hr1 := (hr1.fr ((Fr.refl (fun _ => False) w1).alloc (Obj.cells #[.slice A0 t0.length c0, .slice A1 t1.length c1, .slice A2 t2.length c2] 214)) (fun _ _ => id)).fr ((Fr.refl (fun _ => False) _).alloc (Obj.cells #[.slice none 0 0, .nilIface] 194)) (fun _ _ => id)
  have hr2 := (hr2.fr ((Fr.refl (fun _ => False) w1).alloc (Obj.cells #[.slice A0 t0.length c0, .slice A1 t1.length c1, .slice A2 t2.length c2] 214)) (fun _ _ => id)).fr ((Fr.refl (fun _ => False) _).alloc (Obj.cells #[.slice none 0 0, .nilIface] 194)) (fun _ _ => id)
  have hc2 := hB2.cell 0
  clear hB1 hf1
  go_upto_region 5 with fail
  rw [hg.out] at hW2 hz2 hr0 hr1 hr2 ⊢
  generalize ((w1.alloc (Obj.cells #[.slice A0 t0.length c0, .slice A1 t1.length c1, .slice A2 t2.length c2] 214)).alloc (Obj.cells #[.slice none 0 0, .nilIface] 194)) = w2 at *
  have hl : Hid (t0.length ≤ 65536 ∧ t1.length ≤ 65536 ∧ t2.length ≤ 65536) := ⟨hl0, hl1, hl2⟩
  clear hl0 hl1 hl2
  go_wp2_with fail
  refine (writer_Num hW2 hz2 (by omega) kind).mono ?_
  rintro e w3 ⟨v3, rfl, hW3, hq3, _⟩
  have hW3 : WriterAt w3 g g v3 (b0 ++ num8 kind) none := hW3
  obtain ⟨b1, hb1⟩ : ∃ b, Hid (b0 ++ num8 kind = b) := ⟨_, rfl⟩
  rw [hb1.out] at hW3
  have hbl1 : b1.length = 8 := by rw [← hb1.out, List.length_append, hbl0]; simp [num8_length]
  have hB3 := wrote_blk hB2 hW2.blk hW2.own hq3 (by decide) (by decide)
  have hR3 := wrote_blk hR2 hW2.blk hW2.own hq3 (by decide) (by decide)
  have hr0 := wrote_row hr0 hW2.own hq3
  have hr1 := wrote_row hr1 hW2.own hq3
  have hr2 := wrote_row hr2 hW2.own hq3
  have hf3 := wrote_fr hf2 hW2.own hsg hsg hq3
  clear hq3 hW2 hB2 hR2 hf2 hc2 hz2
  have hcr0 := hR3.cell 0
  have hcr1 := hR3.cell 1
  have hcr2 := hR3.cell 2
  go_upto_region 7 with fail
  clear hcr0 hcr1 hcr2 hR3
  go_loopw [36] (fun ix wr => ∃ (q : Nat) (v : Value), ((q = 0 ∧ ix = .int .i64 0) ∨ (q = 1 ∧ ix = .int .i64 1) ∨ (q = 2 ∧ ix = .int .i64 2) ∨ (q = 3 ∧ ix = .int .i64 3)) ∧ WriterAt wr g g v (b1 ++ ([t0, t1, t2].take q).flatMap textB) none ∧ Blk wr w.heap.size 62 #[.int .i64 kind, .int .i64 c, .int .i64 n, .slice A nr cr, .slice B nw cw, .int .i64 s.kind, .int .i64 s.txn, .bool s.yes, .string s.from_, .string s.to_, .int .i64 s.epoch, .int .i64 s.shard, .int .i64 s.target, .int .i64 s.root, .int .i64 G, .int .i64 D, .slice C nx cx, .int .i64 0, .int .i64 0, .slice none 0 0, .slice none 0 0] ∧ ByteRow wr (fun k => k < g) A0 t0 ∧ ByteRow wr (fun k => k < g) A1 t1 ∧ ByteRow wr (fun k => k < g) A2 t2 ∧ Fr (fun _ => False) w wr) (fun ix _ => 3 - (intOf ix).toNat)
  case atStart => exact ⟨0, _, .inl ⟨rfl, rfl⟩, by rw [List.take_zero, List.flatMap_nil, List.append_nil]; exact hW3, hB3, hr0, hr1, hr2, hf3⟩
  case round =>
    clear hW3 hB3 hr0 hr1 hr2 hf3
    obtain ⟨q, v4, hix, hW4, hB4, hr0, hr1, hr2, hf4⟩ := hrel
    have hz4 : g ≤ wr.heap.size := Nat.le_of_lt hW4.blk.lt
    have hfl : ∀ q, q ≤ 3 → (b1 ++ ([t0, t1, t2].take q).flatMap textB).length ≤ 300000 := by
      intro q hq
      have := hl.out
      match q, hq with
      | 0, _ => simp; omega
      | 1, _ => simp [textB, count4_length]; omega
      | 2, _ => simp [textB, count4_length]; omega
      | 3, _ => simp [textB, count4_length]; omega
    have HFL := Lib.hid hfl
    clear hfl
    rcases hix with ⟨rfl, rfl⟩ | ⟨rfl, rfl⟩ | ⟨rfl, rfl⟩ | ⟨rfl, rfl⟩
    · have HX : Hid ([t0, t1, t2][0]? = some t0) := rfl
      have i0 : ∀ w, (Instr.index 214 (.agg #[.slice A0 t0.length c0, .slice A1 t1.length c1, .slice A2 t2.length c2]) (.int .i64 0)).run Tryz.prog w = .ok (.slice A0 t0.length c0) w := fun _ => by kernel_rfl
      have HTx := writer_Text (cap := c0) hW4 hz4 hr0 (wrote_hA hW4.own) (by have := HFL.out 0 (by omega); have := hl.out; omega)
      rw [if_pos (by have := hl.out; omega)] at HTx
      have HTx := Lib.hid HTx
      go_wp2_with (go_at_call 99; refine HTx.out.mono ?_; rintro e wn ⟨vn, rfl, hWn, hqn, _⟩)
      have hBn := wrote_blk hB4 hW4.blk hW4.own hqn (by decide) (by decide)
      have hn0 := wrote_row hr0 hW4.own hqn
      have hn1 := wrote_row hr1 hW4.own hqn
      have hn2 := wrote_row hr2 hW4.own hqn
      have hfn := wrote_fr hf4 hW4.own hsg hsg hqn
      have hWn : WriterAt wn g g vn ((b1 ++ ([t0, t1, t2].take 0).flatMap textB) ++ textB t0) none := hWn
      go_roundw
      case rel => exact ⟨0 + 1, vn, Or.inr (Or.inl ⟨rfl, by go_num⟩), by rw [flat_take textB HX.out, ← List.append_assoc]; exact hWn, hBn, hn0, hn1, hn2, hfn⟩
      case measure => simp [intOf] <;> omega
    · have HX : Hid ([t0, t1, t2][1]? = some t1) := rfl
      have i1 : ∀ w, (Instr.index 214 (.agg #[.slice A0 t0.length c0, .slice A1 t1.length c1, .slice A2 t2.length c2]) (.int .i64 1)).run Tryz.prog w = .ok (.slice A1 t1.length c1) w := fun _ => by kernel_rfl
      have HTx := writer_Text (cap := c1) hW4 hz4 hr1 (wrote_hA hW4.own) (by have := HFL.out 1 (by omega); have := hl.out; omega)
      rw [if_pos (by have := hl.out; omega)] at HTx
      have HTx := Lib.hid HTx
      go_wp2_with (go_at_call 99; refine HTx.out.mono ?_; rintro e wn ⟨vn, rfl, hWn, hqn, _⟩)
      have hBn := wrote_blk hB4 hW4.blk hW4.own hqn (by decide) (by decide)
      have hn0 := wrote_row hr0 hW4.own hqn
      have hn1 := wrote_row hr1 hW4.own hqn
      have hn2 := wrote_row hr2 hW4.own hqn
      have hfn := wrote_fr hf4 hW4.own hsg hsg hqn
      have hWn : WriterAt wn g g vn ((b1 ++ ([t0, t1, t2].take 1).flatMap textB) ++ textB t1) none := hWn
      go_roundw
      case rel => exact ⟨1 + 1, vn, Or.inr (Or.inr (Or.inl ⟨rfl, by go_num⟩)), by rw [flat_take textB HX.out, ← List.append_assoc]; exact hWn, hBn, hn0, hn1, hn2, hfn⟩
      case measure => simp [intOf] <;> omega
    · have HX : Hid ([t0, t1, t2][2]? = some t2) := rfl
      have i2 : ∀ w, (Instr.index 214 (.agg #[.slice A0 t0.length c0, .slice A1 t1.length c1, .slice A2 t2.length c2]) (.int .i64 2)).run Tryz.prog w = .ok (.slice A2 t2.length c2) w := fun _ => by kernel_rfl
      have HTx := writer_Text (cap := c2) hW4 hz4 hr2 (wrote_hA hW4.own) (by have := HFL.out 2 (by omega); have := hl.out; omega)
      rw [if_pos (by have := hl.out; omega)] at HTx
      have HTx := Lib.hid HTx
      go_wp2_with (go_at_call 99; refine HTx.out.mono ?_; rintro e wn ⟨vn, rfl, hWn, hqn, _⟩)
      have hBn := wrote_blk hB4 hW4.blk hW4.own hqn (by decide) (by decide)
      have hn0 := wrote_row hr0 hW4.own hqn
      have hn1 := wrote_row hr1 hW4.own hqn
      have hn2 := wrote_row hr2 hW4.own hqn
      have hfn := wrote_fr hf4 hW4.own hsg hsg hqn
      have hWn : WriterAt wn g g vn ((b1 ++ ([t0, t1, t2].take 2).flatMap textB) ++ textB t2) none := hWn
      go_roundw
      case rel => exact ⟨2 + 1, vn, Or.inr (Or.inr (Or.inr ⟨rfl, by go_num⟩)), by rw [flat_take textB HX.out, ← List.append_assoc]; exact hWn, hBn, hn0, hn1, hn2, hfn⟩
      case measure => simp [intOf] <;> omega
    · obtain ⟨b2, hb2⟩ : ∃ b, Hid (b1 ++ ([t0, t1, t2].take 3).flatMap textB = b) := ⟨_, rfl⟩
      have hbl2 : b2.length ≤ 300000 := by rw [← hb2.out]; exact HFL.out 3 (by omega)
      rw [hb2.out] at hW4
      clear HFL hr0 hr1 hr2
      generalize wr = w4 at *
      have hk17 := hB4.cell 17
      have hk18 := hB4.cell 18
      have hk19 := hB4.cell 19
      go_upto_region 11 with fail
      have hW5 := hW4.fr ((Fr.refl (fun _ => False) w4).alloc (Obj.cells #[.int .i64 0, .int .i64 0, .int .i64 0] 3)) id (fun _ _ => id)
      have hB5 := hB4.alloc (Obj.cells #[.int .i64 0, .int .i64 0, .int .i64 0] 3)
      have hS5 : Blk (w4.alloc (Obj.cells #[.int .i64 0, .int .i64 0, .int .i64 0] 3)) w4.heap.size 3 (intsA [0, 0, 0]) := Blk.new _ _ _
      have hf5 := hf4.alloc (Obj.cells #[.int .i64 0, .int .i64 0, .int .i64 0] 3)
      have hz5 : g ≤ (w4.alloc (Obj.cells #[.int .i64 0, .int .i64 0, .int .i64 0] 3)).heap.size := Nat.le_trans hz4 (by simp)
      go_upto_region 12 with fail
      clear hW4 hB4 hf4 hz4 hk17 hk18 hk19
      obtain ⟨gs, hgs⟩ : ∃ g, Hid (w4.heap.size = g) := ⟨_, rfl⟩
      rw [hgs.out] at hS5 ⊢
      generalize w4.alloc (Obj.cells #[.int .i64 0, .int .i64 0, .int .i64 0] 3) = w5 at *
      go_loopw [55] (fun ix wr => ∃ (q : Nat) (v : Value), q ≤ 3 ∧ ix = .int .i64 q ∧ WriterAt wr g g v (b2 ++ ([0, 0, 0].take q).flatMap num8) none ∧ Blk wr w.heap.size 62 #[.int .i64 kind, .int .i64 c, .int .i64 n, .slice A nr cr, .slice B nw cw, .int .i64 s.kind, .int .i64 s.txn, .bool s.yes, .string s.from_, .string s.to_, .int .i64 s.epoch, .int .i64 s.shard, .int .i64 s.target, .int .i64 s.root, .int .i64 G, .int .i64 D, .slice C nx cx, .int .i64 0, .int .i64 0, .slice none 0 0, .slice none 0 0] ∧ Blk wr gs 3 (intsA [0, 0, 0]) ∧ Fr (fun _ => False) w wr) (fun ix _ => 3 - (intOf ix).toNat)
      case atStart => exact ⟨0, v4, by omega, rfl, by rw [List.take_zero, List.flatMap_nil, List.append_nil]; exact hW5, hB5, hS5, hf5⟩
      case round =>
        clear hW5 hB5 hS5 hf5 hz5
        obtain ⟨q, v6, hq, rfl, hW6, hB6, hS6, hf6⟩ := hrel
        have hz6 : g ≤ wr.heap.size := Nat.le_of_lt hW6.blk.lt
        by_cases hlt : q < 3
        · obtain ⟨x, hx⟩ : ∃ x, [(0 : Int), 0, 0][q]? = some x := ⟨[(0 : Int), 0, 0][q]'(by simpa using hlt), List.getElem?_eq_getElem _⟩
          have hcx := hS6.cell q
          rw [intsA_at hx] at hcx
          have HX := Lib.hid hx
          have hlf : (b2 ++ ([(0 : Int), 0, 0].take q).flatMap num8).length ≤ 310000 := by
            have h1 := flat_num8 ([(0 : Int), 0, 0].take q)
            rw [List.length_append, h1, List.length_take]
            omega
          clear hx
          go_wp2_with (go_at_call 98; refine (writer_Num hW6 hz6 (by omega) x).mono ?_; rintro e wn ⟨vn, rfl, hWn, hqn, _⟩)
          have hBn := wrote_blk hB6 hW6.blk hW6.own hqn (by decide) (by decide)
          have hSn := wrote_blk hS6 hW6.blk hW6.own hqn (by decide) (by decide)
          have hfn := wrote_fr hf6 hW6.own hsg hsg hqn
          go_roundw
          case rel => exact ⟨q + 1, vn, by omega, by go_num, by rw [flat_take num8 HX.out, ← List.append_assoc]; exact hWn, hBn, hSn, hfn⟩
          case measure => simp [intOf]; omega
        · obtain rfl : q = 3 := by omega
          obtain ⟨b3, hb3⟩ : ∃ b, Hid (b2 ++ ([(0 : Int), 0, 0].take 3).flatMap num8 = b) := ⟨_, rfl⟩
          rw [hb3.out] at hW6
          have hbl3 : b3.length = b2.length + 24 := by rw [← hb3.out, List.length_append, flat_num8]; rfl
          clear hS6
          generalize wr = w6 at *
          have hk19 := hB6.cell 19
          have hk20 := hB6.cell 20
          have hW6' := hW6
          clear hW6
          go_upto_region 17 with fail
          go_loopw [67] (fun ix wr => ix = .int .i64 0 ∧ wr = w6) (fun _ _ => 0)
          case atStart => exact ⟨rfl, rfl⟩
          case round =>
            obtain ⟨rfl, rfl⟩ := hrel
            go_upto_region 25 with fail
            go_loopw [13, 90] (fun bs ix w0 => bs = .slice none 0 0 ∧ ix = .int .i64 0 ∧ w0 = wr) (fun _ _ _ => 0)
            case atStart => exact ⟨rfl, rfl, rfl⟩
            case round =>
              obtain ⟨rfl, rfl, rfl⟩ := hrel
              generalize wr = w7 at *
              have HN : Calls Tryz.prog 124 #[.pointer (some ⟨g, 0, none⟩), .slice none 0 0] w7 (Put1 w7 g g v6 b3 none (some (numsB []))) := by
                have h := writer_Nums (l := []) (A := none) (F := fun _ => False) (cap := 0) hW6' hz6 (fun k x hx => by simp at hx) (fun _ h => h.elim) (by simp) (.inl (by simp [numsB, count4_length]; omega))
                rw [if_pos (by simp)] at h
                exact h
              have HN := Lib.hid HN
              have hbl4 : (b3 ++ numsB []).length ≤ 1099511627776 := by simp [numsB, count4_length]; omega
              obtain ⟨b4, hb4⟩ : ∃ b, Hid (b3 ++ numsB [] = b) := ⟨_, rfl⟩
              rw [hb4.out] at hbl4
              go_upto_region 30 with (go_at_call 124; refine HN.out.mono ?_; rintro e w8 ⟨v8, rfl, hW8, hq8, _⟩)
              have hW8 : WriterAt w8 g g v8 (b3 ++ numsB []) none := hW8
              rw [hb4.out] at hW8
              have hB8 := wrote_blk hB6 hW6'.blk hW6'.own hq8 (by decide) (by decide)
              have hf8 := wrote_fr hf6 hW6'.own hsg hsg hq8
              clear hq8 hW6' hB6 hf6 HN hk19 hk20
              have HY := Lib.hid (writer_Bytes hW8 hbl4)
              go_upto_region 31 with (go_at_call 100; refine HY.out.mono ?_; rintro e w9 ⟨v9, rfl, hv9, hf9⟩)
              have hv9 : Own8 w9 w8.heap.size v9 b4 := hv9
              have hnil2 : errW none = .nilIface := rfl
              rw [hnil2]
              clear hnil2
              have hB9 := hB8.fr hf9 id
              have hk0 := hB9.cell 0
              go_wp2_with (go_at_call 70; refine (fault_Wrap_nil _ _ _).mono ?_; rintro e w' ⟨rfl, rfl⟩)
              refine bodyPost_ret (v := .tuple #[v9, .nilIface]) (by simp [results, Tryz.results95, go_sem]) rfl ?_
              have he : orderB kind t0 t1 t2 = b4 := by
                rw [← hb4.out, ← hb3.out, ← hb2.out, ← hb1.out, ← hb0.out]
                simp [orderB]
              rw [he]
              exact ⟨v9, rfl, own_base hv9 hf8.size, hf8.then_ hf9⟩
set_option maxRecDepth 100000 in
theorem say_PutOrder_bad {w : World} {kind c n : Int} {A B : Option Addr} {nr cr nw cw : Nat} {s : SayD} {G D : Int} {C : Option Addr} {nx cx : Nat}
    (hT : ∀ w', Fr (fun _ => False) w w' → Calls Tryz.prog 123 #[.agg #[.int .i64 kind, .int .i64 c, .int .i64 n, .slice A nr cr, .slice B nw cw, .int .i64 s.kind, .int .i64 s.txn, .bool s.yes, .string s.from_, .string s.to_, .int .i64 s.epoch, .int .i64 s.shard, .int .i64 s.target, .int .i64 s.root, .int .i64 G, .int .i64 D, .slice C nx cx, .int .i64 0, .int .i64 0, .slice none 0 0, .slice none 0 0]] w' (fun e w'' => ∃ A0 n0 c0 A1 n1 c1 A2 n2 c2, e = .returned (.tuple #[.agg #[.slice A0 n0 c0, .slice A1 n1 c1, .slice A2 n2 c2], .bool false]) ∧ Fr (fun _ => False) w' w'')) :
    Calls Tryz.prog 95 #[.agg #[.int .i64 kind, .int .i64 c, .int .i64 n, .slice A nr cr, .slice B nw cw, .int .i64 s.kind, .int .i64 s.txn, .bool s.yes, .string s.from_, .string s.to_, .int .i64 s.epoch, .int .i64 s.shard, .int .i64 s.target, .int .i64 s.root, .int .i64 G, .int .i64 D, .slice C nx cx, .int .i64 0, .int .i64 0, .slice none 0 0, .slice none 0 0]] w (fun e w' => ∃ t u, e = .returned (.tuple #[.slice none 0 0, .iface t u]) ∧ Fr (fun _ => False) w w') := by
  have HT := Lib.hid hT
  clear hT
  have hB0 := Blk.new w 62 #[.int .i64 kind, .int .i64 c, .int .i64 n, .slice A nr cr, .slice B nw cw, .int .i64 s.kind, .int .i64 s.txn, .bool s.yes, .string s.from_, .string s.to_, .int .i64 s.epoch, .int .i64 s.shard, .int .i64 s.target, .int .i64 s.root, .int .i64 G, .int .i64 D, .slice C nx cx, .int .i64 0, .int .i64 0, .slice none 0 0, .slice none 0 0]
  have hf0 : Fr (fun _ => False) w (w.alloc (Obj.cells #[.int .i64 kind, .int .i64 c, .int .i64 n, .slice A nr cr, .slice B nw cw, .int .i64 s.kind, .int .i64 s.txn, .bool s.yes, .string s.from_, .string s.to_, .int .i64 s.epoch, .int .i64 s.shard, .int .i64 s.target, .int .i64 s.root, .int .i64 G, .int .i64 D, .slice C nx cx, .int .i64 0, .int .i64 0, .slice none 0 0, .slice none 0 0] 62)) := (Fr.refl _ _).alloc _
  go_enter Tryz.func95, Tryz.ntmps95
  go_upto_region 1 with fail
  generalize w.alloc (Obj.cells #[.int .i64 kind, .int .i64 c, .int .i64 n, .slice A nr cr, .slice B nw cw, .int .i64 s.kind, .int .i64 s.txn, .bool s.yes, .string s.from_, .string s.to_, .int .i64 s.epoch, .int .i64 s.shard, .int .i64 s.target, .int .i64 s.root, .int .i64 G, .int .i64 D, .slice C nx cx, .int .i64 0, .int .i64 0, .slice none 0 0, .slice none 0 0] 62) = w0 at *
  go_wp2_with (refine wpList_load_row rfl 62 _ rfl _ rfl _ _ (0, 0) _ hB0 Tryz.underlying62 rfl (by kernel_rfl) ?_)
  refine (HT.out _ hf0).mono ?_
  rintro e w1 ⟨A0, n0, c0, A1, n1, c1, A2, n2, c2, rfl, hf01⟩
  have hB1 := hB0.fr hf01 id
  have hf1 := hf0.then_ hf01
  have hB2 := hB1.alloc (Obj.cells #[.slice A0 n0 c0, .slice A1 n1 c1, .slice A2 n2 c2] 214)
  have hf2 := hf1.alloc (Obj.cells #[.slice A0 n0 c0, .slice A1 n1 c1, .slice A2 n2 c2] 214)
  obtain ⟨t, u, hu⟩ := errV_iface [((⟨#[111, 114, 100, 101, 114]⟩ : ByteArray), kind)] 112
  have HU := Lib.hid hu
  clear hB0 hf0 hf01 HT hu hB1 hf1
  go_upto_region 3 with fail
  generalize w1.alloc (Obj.cells #[.slice A0 n0 c0, .slice A1 n1 c1, .slice A2 n2 c2] 214) = w2 at *
  have k0 := hB2.cell 0
  go_quiet ((first | (go_at_call 71; exact quiet_left (fault_Of 112 rfl _)) | (go_at_call 70; exact quiet_left (fault_Wrap _ _ _ _ _))))
  go_wp2
  refine bodyPost_ret (v := .tuple #[.slice none 0 0, errV [((⟨#[111, 114, 100, 101, 114]⟩ : ByteArray), kind)] 112]) (by simp [results, Tryz.results95, go_sem]) rfl ?_
  refine ⟨t, u, by rw [HU.out], ?_⟩
  repeat first | exact hf2 | refine Fr.alloc ?_ _ | refine Fr.drewN ?_ _ | refine Fr.drew ?_
end Go.Proofs.YtmkdhhhoodeemaaGreat

/- client: Outcome$1. -/
namespace Go.Proofs.YtmkdhhhoodeemaaGreat
open Go Go.RowKit
def decS (d : Int) (yes : Bool) : SayD := ⟨3, d, yes, ⟨#[]⟩, ⟨#[]⟩, 0, 0, 0, 0⟩
end Go.Proofs.YtmkdhhhoodeemaaGreat

/- client: Outcome. -/
namespace Go.Proofs.YtmkdhhhoodeemaaGreat
open Go Go.RowKit
def outI (f : Int) (L : List (List Int)) (SL : List (Int × Int)) (xs : List Int) : Int :=
  if f < (saidN 0 (digL L xs) SL (decS (digI L xs : Nat) true) : Nat) then 3 else if f < (saidN 0 (sayL (digL L xs) (decS (digI L xs : Nat) true)) SL (decS (digI L xs : Nat) false) : Nat) then 4 else 0
theorem digL_len (L : List (List Int)) (xs : List Int) : (digL L xs).length ≤ L.length + 1 := by
  unfold digL
  split <;> simp
theorem sayL_len (L : List (List Int)) (s : SayD) : (sayL L s).length ≤ L.length + 1 := by
  unfold sayL
  split
  · exact digL_len _ _
  · omega
theorem BSStep.before {w w1 w' : World} {g m base : Nat} {v : Value} {L' : List (List Int)} {gs ms : Nat} {SL' : List (Int × Int)} {r : Value} {e : Ending} (h : BSStep w1 g m base v L' gs ms SL' r e w') (hf : Fr (fun _ => False) w w1) : BSStep w g m base v L' gs ms SL' r e w' := by
  obtain ⟨v', h1, h2, h3, h4⟩ := h
  exact ⟨v', h1, h2, (hf.mono (fun _ _ h => h.elim)).trans h3 (fun _ _ h => h), fun k hk => (h4 k hk).imp_right (Nat.le_trans hf.size)⟩
end Go.Proofs.YtmkdhhhoodeemaaGreat

/- cohortref03: Digest. -/
namespace Go.Proofs.YtmkdhhhoodeemaaGreat
open Go Go.RowKit
def RDigOut (w : World) (g base : Nat) (v : Value) (L : List (List Int)) (xs : List Int) (e : Ending) (w' : World) : Prop :=
  ∃ v', e = .returned (.tuple #[.int .i64 (digI L xs : Nat), .int .i64 0]) ∧ RBookAt w' g base v' (digL L xs) ∧ Fr (fun k => k = g ∨ v.ownBlock = some k) w w' ∧ ∀ k, v'.ownBlock = some k → v.ownBlock = some k ∨ w.heap.size ≤ k
theorem bytes_info8 : (Tryz.prog.info? 38).map (fun i => (i.zero, i.size, i.bytes)) = some (some (.slice none 0 0), 1, 24) := by kernel_rfl
theorem idx_found {L : List (List Int)} {xs : List Int} {k : Nat} (hn : xs ∉ L.take k) (hk : L[k]? = some xs) : digI L xs = k ∧ digL L xs = L := by
  obtain ⟨hlt, he⟩ := List.getElem?_eq_some_iff.1 hk
  have hin : xs ∈ L := he ▸ List.getElem_mem hlt
  refine ⟨?_, if_pos hin⟩
  rw [digI, if_pos hin]
  have h1 : L = L.take k ++ L.drop k := (List.take_append_drop k L).symm
  have h2 : L.drop k = xs :: L.drop (k + 1) := by rw [List.drop_eq_getElem_cons hlt, he]
  rw [h1, List.idxOf_append, if_neg hn, h2, List.idxOf_cons_self, List.length_take]
  omega
theorem notin_step {L : List (List Int)} {xs y : List Int} {k : Nat} (hn : xs ∉ L.take k) (hk : L[k]? = some y) (hxy : xs ≠ y) : xs ∉ L.take (k + 1) := by
  obtain ⟨hlt, rfl⟩ := List.getElem?_eq_some_iff.1 hk
  rw [List.take_succ_eq_append_getElem hlt]
  intro h
  rcases List.mem_append.1 h with h | h
  · exact hn h
  · exact hxy (List.mem_singleton.1 h)
theorem own_U8 {w : World} {base : Nat} {v : Value} {xs : List Int} (h : Own8 w base v xs) : ∀ k, v.ownBlock = some k → U8 w k := by
  intro k hk
  rcases h.2 with ⟨rfl, _⟩ | ⟨g', cap, cur, rfl, _, hh, _⟩
  · cases hk
  · cases hk
    exact ⟨_, _, hh⟩
set_option maxRecDepth 100000 in
set_option maxHeartbeats 2000000 in
theorem ref03_Digest {w : World} {g base : Nat} {v : Value} {L : List (List Int)} (h : RBookAt w g base v L) (hL8 : ∀ t ∈ L, B8 t) (hbase : base ≤ w.heap.size) {F : Nat → Prop} {A : Option Addr} {cap : Nat} {xs : List Int} (hr : ByteRow w F A xs) (h8 : B8 xs) (hx : xs.length ≤ 65536) (hL : L.length < 65536) :
    Calls Tryz.prog 21 #[.pointer (some ⟨g, 0, none⟩), .slice A xs.length cap] w (RDigOut w g base v L xs) := by
  obtain ⟨vals, hown, hin⟩ := h.row
  obtain ⟨A0, cap0, rfl, _, hat⟩ := own_form hown
  have c0 : w.cell? ⟨g, 0, none⟩ = some (.slice A0 L.length cap0) := h.blk.cell 0
  have hx' : ¬ (65536 : Int) < (xs.length : Int) := by omega
  have HX := Lib.hid hx
  have HL := Lib.hid hL
  have HL8 := Lib.hid hL8
  have H8 := Lib.hid h8
  have hL3 : (L.length : Int) < 65536 := by omega
  have hL4 : decide ((65536 : Int) ≤ (L.length : Int)) = false := decide_eq_false (by omega)
  clear hx hL hL8 h8
  go_enter Tryz.func21, Tryz.ntmps21
  go_wp2_with fail
  clear hx'
  go_loopw [6] (fun i wr => ∃ k : Nat, k ≤ L.length ∧ i = .int .i64 k ∧ Hid (xs ∉ L.take k) ∧ Fr (fun _ => False) w wr) (fun i _ => L.length - (intOf i).toNat)
  case atStart => exact ⟨0, by omega, rfl, (by show _ ∉ _; simp), Fr.refl _ _⟩
  case round =>
    obtain ⟨k, hk, rfl, hn, hf⟩ := hrel
    have d0 := hf.cell_some c0 id
    by_cases hlt : k < L.length
    · obtain ⟨y, hy⟩ : ∃ y, L[k]? = some y := ⟨L[k], List.getElem?_eq_getElem hlt⟩
      obtain ⟨A1, cap1, hv1, hr1⟩ := hin k y hy
      obtain ⟨b, rfl, _, hc⟩ := hat k _ hv1
      have d1 := hf.cell_some hc id
      have hcv1 := fun n => conv_bytes (w := wr.drewN n) (n := y.length) (cap := cap1) ((hr1.fr hf (fun _ _ => id)).fr ((Fr.refl (fun _ => False) wr).drewN n) (fun _ _ => id)) rfl
      have hcv2 := fun n => conv_bytes (w := wr.drewN n) (n := xs.length) (cap := cap) ((hr.fr hf (fun _ _ => id)).fr ((Fr.refl (fun _ => False) wr).drewN n) (fun _ _ => id)) rfl
      have HY := Lib.hid hy
      clear hat hin hr hc c0 hr1 hv1 hy
      by_cases hxy : xs = y
      · subst hxy
        obtain ⟨e1, e2⟩ := idx_found hn.out HY.out
        unfold RDigOut
        rw [e1, e2]
        clear e1 e2
        go_wp2_with fail
        go_big_quiet (fail)
        go_wp2_with fail
        refine bodyPost_ret (v := .tuple #[.int .i64 k, .int .i64 0]) (by simp [results, Tryz.results21, go_sem]) rfl ?_
        have hfw := hf.drewN nq
        exact ⟨_, rfl, h.keep hfw, hfw.mono (fun _ _ h => h.elim), fun k hk => .inl hk⟩
      · have hs : strOfNums y ≠ strOfNums xs := fun e => hxy (strOf_inj (HL8.out y (List.mem_of_getElem? HY.out)) H8.out e).symm
        have b1 : ((strOfNums y).toList == (strOfNums xs).toList) = false := by
          apply Bool.eq_false_iff.2
          intro hh
          exact hs (ByteArray.ext (Array.ext' (by have := eq_of_beq hh; rwa [ByteArray.toList_eq, ByteArray.toList_eq] at this)))
        have HXY := Lib.hid hxy
        clear hs hxy
        go_wp2_with fail
        go_big_quiet (fail)
        go_wp2_with fail
        go_roundw
        case rel => exact ⟨k + 1, by omega, by go_num, notin_step hn.out HY.out HXY.out, hf.drewN _⟩
        case measure => simp [intOf]; omega
    · obtain rfl : k = L.length := by omega
      have hnin : Hid (xs ∉ L) := by have := hn.out; rwa [List.take_length] at this
      have HE1 : Hid (digI L xs = L.length) := if_neg hnin.out
      have HE2 : Hid (digL L xs = L ++ [xs]) := if_neg hnin.out
      have hb1 := h.blk.fr hf id
      have ho1 := own_fr hown hf (fun _ _ => id)
      have hr1 := hr.fr hf (fun _ _ => id)
      have HIN : Hid (∀ (k : Nat) s, L[k]? = some s → ∃ A cap, vals[k]? = some (.slice A s.length cap) ∧ ByteRow wr (U8 wr) A s) := fun k s hs => by
        obtain ⟨A1, q1, h1, h2⟩ := hin k s hs
        exact ⟨A1, q1, h1, h2.u8 hf (fun _ _ => id)⟩
      -- the new text
      have hc2 : (wr.alloc (Obj.cells #[] 5)).cell? ⟨g, 0, none⟩ = some (.slice A0 L.length cap0) := (hb1.alloc _).cell 0
      have hr2 := hr1.fr (((Fr.refl (fun _ => False) wr).alloc (Obj.cells #[] 5)).drew) (fun _ _ => id)
      have hb2 := (hb1.alloc (Obj.cells #[] 5)).drew
      have hbs2 : wr.heap.size ≤ (wr.alloc (Obj.cells #[] 5)).drew.heap.size := by simp
      have hbw : base ≤ wr.heap.size := Nat.le_trans hbase hf.size
      have hsx : (xs.length : Int) ≤ 65536 := by have := HX.out; omega
      clear hat hin hr hn hlt c0
      go_upto_region 10 with fail
      have hnew : Own8 (wr.alloc (Obj.cells #[] 5)).drew wr.heap.size (.slice (some ⟨wr.heap.size, 0, none⟩) 0 0) [] := (Own8.built wr (Nat.le_refl _) [] (by simp) 0 rfl).drew
      have hlg := hb1.lt
      go_region_law (first | (refine step_append_gen rfl (.tmp 41) (.tmp 45) 55 38 rfl Tryz.underlying55 bytes_info8 rfl base (.slice A0 L.length cap0) L.length vals (by rfl) ho6 ⟨w5.heap.size, 0, none⟩ 1 1 [.slice A5 xs.length p5] (by rfl) rfl hone6 (fun u hu => by rw [List.mem_singleton.1 hu]; rfl) (by have := HL.out; omega) (by decide) hbs6 ?_; intro v7 w7 h7 hf7 hk7; obtain ⟨A7, p7, rfl, _, _⟩ := own_form h7; have hb7 := hb6.fr hf7 (own_ne_blk ho6 hb6 (by decide)); have d7 := hb7.cell 0; have z7 := hb7.frozen 0) | (refine step_append_text rfl (.tmp 42) (.tmp 43) rfl wr.heap.size (.slice (some ⟨wr.heap.size, 0, none⟩) 0 0) [] (by rfl) hnew F A xs.length cap xs (by rfl) rfl hr2 (by have := HX.out; simp; omega) hbs2 ?_; intro v5 w5 h5 hf5 hk5; have h5 : Own8 w5 wr.heap.size v5 xs := h5; obtain ⟨A5, p5, rfl, _, hr5⟩ := h5.form; have hf15 : Fr (fun _ => False) wr w5 := (((Fr.refl (fun _ => False) wr).alloc (Obj.cells #[] 5)).drew).trans hf5 (fun k hk e => by cases e; exact absurd hk (Nat.lt_irrefl _)); have hf16 := hf15.alloc (Obj.cells #[Value.slice A5 xs.length p5] 38); have hb5 := hb1.fr hf15 id; have hb6 := hb1.fr hf16 id; have c5 : w5.cell? ⟨g, 0, none⟩ = some (.slice A0 L.length cap0) := hb5.cell 0; have c6 : (w5.alloc (Obj.cells #[Value.slice A5 xs.length p5] 38)).cell? ⟨g, 0, none⟩ = some (.slice A0 L.length cap0) := hb6.cell 0; have ho6 := own_fr ho1 hf16 (fun _ _ => id); have hone6 := new_one w5 38 (Value.slice A5 xs.length p5); have hbs6 := Nat.le_trans hbw hf16.size))
      all_goals go_wp2_with fail
      all_goals refine bodyPost_ret (v := .tuple #[.int .i64 L.length, .int .i64 0]) (by simp [results, Tryz.results21, go_sem]) rfl ?_
      all_goals
        have hf78 : Fr (fun k => k = g) w7 (w7.setCell ⟨g, 0, none⟩ (.slice A7 (L.length + 1) p7)) := (Fr.refl (fun k => k = g) w7).setCell (p := ⟨g, 0, none⟩) (fun _ => rfl) _
        have hu6 : ∀ b, U8 (w5.alloc (Obj.cells #[Value.slice A5 xs.length p5] 38)) b → ¬ ((Value.slice A0 L.length cap0).ownBlock = some b) := fun b hb => hb.ne_own ho6 (by decide)
        have hu7 : ∀ b, U8 w7 b → ¬ b = g := fun b hb => hb.ne_blk hb7 (by decide)
        have hx5 : ByteRow w5 (U8 w5) A5 xs := fun k x hx => by
          obtain ⟨b, o, e, h1, hc⟩ := hr5 k x hx
          exact ⟨b, o, e, own_U8 h5 b h1, hc⟩
        have hx6 : ByteRow (w5.alloc (Obj.cells #[Value.slice A5 xs.length p5] 38)) (U8 (w5.alloc (Obj.cells #[Value.slice A5 xs.length p5] 38))) A5 xs := hx5.u8 ((Fr.refl (fun _ => False) w5).alloc _) (fun _ _ => id)
        have hx8 := (hx6.u8 hf7 hu6).u8 hf78 hu7
        have hlv : vals.length = L.length := by have := hown.1; omega
        unfold RDigOut
        rw [HE1.out, HE2.out]
        refine ⟨_, rfl, ⟨hb7.set_ 0 _, vals ++ [.slice A5 xs.length p5], ?_, ?_⟩, ?_, ?_⟩
        · rw [List.length_append]
          exact own_fr h7 hf78 (fun k hk e => own_ne_blk h7 hb7 (by decide) (e ▸ hk))
        · intro k s hs
          by_cases hk : k < L.length
          · rw [List.getElem?_append_left hk] at hs
            obtain ⟨A1, q1, h1, h2⟩ := HIN.out k s hs
            exact ⟨A1, q1, by rw [List.getElem?_append_left (by omega)]; exact h1, ((h2.u8 hf16 (fun _ _ => id)).u8 hf7 hu6).u8 hf78 hu7⟩
          · rw [List.getElem?_append_right (Nat.not_lt.1 hk)] at hs
            rcases hkk : k - L.length with _ | q
            · rw [hkk] at hs
              obtain rfl := Option.some.inj hs
              exact ⟨A5, p5, by rw [List.getElem?_append_right (by omega), hlv, hkk]; rfl, hx8⟩
            · rw [hkk] at hs
              simp at hs
        · exact (((hf.mono (fun _ _ h => h.elim)).then_ hf16).trans hf7 (fun k _ e => .inr e)).trans hf78 (fun k _ e => .inl e)
        · intro k hk
          rcases hk7 with e | e
          · exact .inl (e.symm.trans hk)
          · rw [hk] at e
            cases e
            refine .inr ?_
            have h1 := hf.size
            have h2 := hf16.size
            omega
end Go.Proofs.YtmkdhhhoodeemaaGreat

/- cohortref04: Group, Signed, Sign: the document's seals. -/
namespace Go.Proofs.YtmkdhhhoodeemaaGreat
open Go Go.RowKit
theorem group_spec (who : Int) : (groupOf who = -1 ∧ placeOf who = -1 ∧ ∀ g i : Int, 0 ≤ g → g < 8 → 0 ≤ i → i < 10 → (memberOf g i == who) = false) ∨
    (∃ G Q : Nat, G < 8 ∧ Q < 10 ∧ groupOf who = G ∧ placeOf who = Q ∧ (memberOf G Q == who) = true ∧ ∀ g i : Int, 0 ≤ g → g < 8 → 0 ≤ i → i < 10 → ¬ (g = G ∧ i = Q) → (memberOf g i == who) = false) := by
  by_cases h : who < 100 ∨ 8 ≤ (who - 100) / 16 ∨ 10 ≤ (who - 100) % 16
  · refine .inl ⟨by simp only [groupOf, if_pos h], by simp only [placeOf, if_pos h], fun g i h1 h2 h3 h4 => ?_⟩
    rw [beq_eq_false_iff_ne, memberOf, if_neg (by omega)]
    omega
  · refine .inr ⟨((who - 100) / 16).toNat, ((who - 100) % 16).toNat, by omega, by omega, by simp only [groupOf, if_neg h]; omega, by simp only [placeOf, if_neg h]; omega, ?_, fun g i h1 h2 h3 h4 h5 => ?_⟩
    · rw [beq_iff_eq, memberOf, if_neg (by omega)]
      omega
    · rw [beq_eq_false_iff_ne, memberOf, if_neg (by omega)]
      omega
theorem ref04_Group (who : Int) (w : World) : Calls Tryz.prog 73 #[.int .i64 who] w fun e w' => e = .returned (.tuple #[.int .i64 (groupOf who), .int .i64 (placeOf who)]) ∧ w = w' := by
  rcases group_spec who with ⟨e1, e2, hno⟩ | ⟨G, Q, hG, hQ, e1, e2, hyes, hno⟩
  · rw [e1, e2]
    clear e1 e2
    go_enter Tryz.func73, Tryz.ntmps73
    go_wp2
    go_loop [4] (fun g => ∃ k : Nat, k ≤ 8 ∧ g = .int .i64 k) (fun g => 8 - (intOf g).toNat)
    case atStart => exact ⟨0, by omega, rfl⟩
    case round =>
      obtain ⟨k, hk, rfl⟩ := hrel
      by_cases hlt : k < 8
      · go_wp2
        go_loop [5] (fun i => ∃ j : Nat, j ≤ 10 ∧ i = .int .i64 j) (fun i => 10 - (intOf i).toNat)
        case atStart => exact ⟨0, by omega, rfl⟩
        case round =>
          obtain ⟨j, hj, rfl⟩ := hrel
          by_cases hl2 : j < 10
          · have ht := hno k j (by omega) (by omega) (by omega) (by omega)
            go_wp2_with (go_at_call 37; refine (ref04_Member k j _).mono ?_; rintro e w' ⟨rfl, rfl⟩)
            go_round
            case rel => exact ⟨j + 1, by omega, by go_num⟩
            case measure => simp [intOf]; omega
          · obtain rfl : j = 10 := by omega
            go_wp2
            go_round
            case rel => exact ⟨k + 1, by omega, by go_num⟩
            case measure => simp [intOf]; omega
      · obtain rfl : k = 8 := by omega
        go_wp2
        go_ret2
        exact ⟨rfl, rfl⟩
  · rw [e1, e2]
    clear e1 e2
    go_enter Tryz.func73, Tryz.ntmps73
    go_wp2
    go_loop [4] (fun g => ∃ k : Nat, k ≤ G ∧ g = .int .i64 k) (fun g => 8 - (intOf g).toNat)
    case atStart => exact ⟨0, by omega, rfl⟩
    case round =>
      obtain ⟨k, hk, rfl⟩ := hrel
      have hlt : k < 8 := by omega
      go_wp2
      go_loop [5] (fun i => ∃ j : Nat, j ≤ 10 ∧ (k = G → j ≤ Q) ∧ i = .int .i64 j) (fun i => 10 - (intOf i).toNat)
      case atStart => exact ⟨0, by omega, fun _ => by omega, rfl⟩
      case round =>
        obtain ⟨j, hj, hjQ, rfl⟩ := hrel
        by_cases hl2 : j < 10
        · by_cases he : k = G ∧ j = Q
          · obtain ⟨rfl, rfl⟩ := he
            clear hjQ hno
            go_wp2_with (go_at_call 37; refine (ref04_Member k j _).mono ?_; rintro e w' ⟨rfl, rfl⟩)
            go_ret2
            exact ⟨rfl, rfl⟩
          · have ht := hno k j (by omega) (by omega) (by omega) (by omega) (by omega)
            have HQ : Hid (k = G → j + 1 ≤ Q) := fun e => by have := hjQ e; omega
            clear hjQ hno hyes
            go_wp2_with (go_at_call 37; refine (ref04_Member k j _).mono ?_; rintro e w' ⟨rfl, rfl⟩)
            go_round
            case rel => exact ⟨j + 1, by omega, HQ.out, by go_num⟩
            case measure => simp [intOf]; omega
        · obtain rfl : j = 10 := by omega
          have hkG : k + 1 ≤ G := by
            by_cases e : k = G
            · have := hjQ e; omega
            · omega
          clear hjQ hno hyes
          go_wp2
          go_round
          case rel => exact ⟨k + 1, by omega, by go_num⟩
          case measure => simp [intOf]; omega
/-- The document's seals behind the pointer to block g: the slice v, with these pairs. -/
structure RefAt (w : World) (g base : Nat) (v : Value) (L : List (Int × Int)) : Prop where
  blk : Blk w g 89 #[v]
  own : w.ownsRow base 159 2 v L.length (pairCells L)
theorem RefAt.drewN {w : World} {g base : Nat} {v : Value} {L : List (Int × Int)} (h : RefAt w g base v L) (n : Nat) : RefAt (w.drewN n) g base v L := ⟨h.blk, h.own⟩
theorem RefAt.fr {S : Nat → Prop} {w w' : World} {g base : Nat} {v : Value} {L : List (Int × Int)} (h : RefAt w g base v L) (hf : Fr S w w') (hg : ¬ S g) (hv : ∀ k, v.ownBlock = some k → ¬ S k) : RefAt w' g base v L := ⟨h.blk.fr hf hg, own_fr h.own hf hv⟩
set_option maxRecDepth 100000 in
theorem ref04_Signed {w : World} {g base : Nat} {v : Value} {L : List (Int × Int)} (h : RefAt w g base v L) (hL : L.length ≤ 1099511627776) (who d : Int) :
    Calls Tryz.prog 63 #[.pointer (some ⟨g, 0, none⟩), .int .i64 who, .int .i64 d] w fun e w' => e = .returned (.bool (decide ((who, d) ∈ L))) ∧ w = w' := by
  obtain ⟨A, cap, rfl, hcap, hat⟩ := own_form h.own
  have hc := h.blk.cell 0
  go_enter Tryz.func63, Tryz.ntmps63
  go_wp2
  go_loop [7] (fun i => ∃ k : Nat, k ≤ L.length ∧ i = .int .i64 k ∧ (who, d) ∉ L.take k) (fun i => L.length - (intOf i).toNat)
  case atStart => exact ⟨0, by omega, rfl, by simp⟩
  case round =>
    obtain ⟨k, hk, rfl, hno⟩ := hrel
    by_cases hlt : k < L.length
    · obtain ⟨p, hp⟩ : ∃ p, L[k]? = some p := ⟨L[k], List.getElem?_eq_getElem hlt⟩
      obtain ⟨q0, q1⟩ := pairCells_at L k p hp
      obtain ⟨b, rfl, _, h0⟩ := hat _ _ q0
      obtain ⟨b', hb', _, h1⟩ := hat _ _ q1
      cases hb'
      clear hat q0 q1
      by_cases e0 : p.1 = who
      · by_cases e1 : p.2 = d
        · have hmem : (who, d) ∈ L := by
            obtain ⟨p1, p2⟩ := p
            simp only at e0 e1
            subst e0; subst e1
            exact List.mem_of_getElem? hp
          have t0 : (p.1 == who) = true := by simpa using e0
          have t1 : (p.2 == d) = true := by simpa using e1
          clear e0 e1 hno hp
          go_wp2
          go_ret
          exact ⟨rfl, rfl⟩
        · have HN : Hid ((who, d) ∉ L.take (k + 1)) := notin_take_succ hno hp (fun e => e1 (by rw [e]))
          have t0 : (p.1 == who) = true := by simpa using e0
          have t1 : (p.2 == d) = false := by simpa using e1
          clear e0 e1 hno hp
          go_wp2
          go_round
          case rel => exact ⟨k + 1, by omega, by go_num, HN.out⟩
          case measure => simp [intOf]; omega
      · have HN : Hid ((who, d) ∉ L.take (k + 1)) := notin_take_succ hno hp (fun e => e0 (by rw [e]))
        have t0 : (p.1 == who) = false := by simpa using e0
        clear e0 hno hp
        go_wp2
        go_round
        case rel => exact ⟨k + 1, by omega, by go_num, HN.out⟩
        case measure => simp [intOf]; omega
    · obtain rfl : k = L.length := by omega
      have hno' : (who, d) ∉ L := by simpa using hno
      clear hno
      go_wp2
      go_ret
      exact ⟨by simp, rfl⟩
def signCode (who d : Int) (L : List (Int × Int)) : Int := if signBad who d = true then 1 else if (who, d) ∈ L then 0 else if ((L.length : Int) == 131072) = true then 2 else 0
theorem refSeal_info : (Tryz.prog.info? 159).map (fun i => (i.zero, i.size, i.bytes)) = some (some (.agg #[.int .i64 0, .int .i64 0]), 2, 16) := by kernel_rfl
section
variable {who d : Int} {L : List (Int × Int)}
theorem signC_bad (h : (clientOf who < 0 ∧ groupOf who < 0) ∨ d < 0) : signCode who d L = 1 ∧ signL who d L = L := by
  simp [signCode, signL, signBad, h]
theorem signC_in (h : ¬ ((clientOf who < 0 ∧ groupOf who < 0) ∨ d < 0)) (hm : (who, d) ∈ L) : signCode who d L = 0 ∧ signL who d L = L := by
  simp [signCode, signL, signBad, h, hm]
theorem signC_new (h : ¬ ((clientOf who < 0 ∧ groupOf who < 0) ∨ d < 0)) (hm : (who, d) ∉ L) (hl : ((L.length : Int) == 131072) = false) : signCode who d L = 0 ∧ signL who d L = L ++ [(who, d)] := by
  simp only [signCode, signL, signBad, h, hm, hl]
  simp
end
def RefSigned (g base : Nat) (v : Value) (who d : Int) (L : List (Int × Int)) (w : World) (e : Ending) (w' : World) : Prop :=
  ∃ v', e = .returned (.int .i64 (signCode who d L)) ∧ RefAt w' g base v' (signL who d L) ∧ Fr (fun k => k = g ∨ v.ownBlock = some k) w w'
set_option maxRecDepth 100000 in
theorem ref04_Sign {w : World} {g base : Nat} {v : Value} {L : List (Int × Int)} (h : RefAt w g base v L) (hbase : base ≤ w.heap.size) (hL : L.length < 131072) (who d : Int) :
    Calls Tryz.prog 39 #[.pointer (some ⟨g, 0, none⟩), .int .i64 who, .int .i64 d] w (RefSigned g base v who d L w) := by
  obtain ⟨A, cap, rfl, hcap, hat⟩ := own_form h.own
  clear hat
  have hc := h.blk.cell 0
  have HL : Hid (L.length < 131072) := hL
  have ht : decide ((131072 : Int) ≤ (L.length : Int)) = false := decide_eq_false (by omega)
  clear hL
  go_enter Tryz.func39, Tryz.ntmps39
  go_wp2_with (first
    | (go_at_call 73; refine (ref04_Group who _).mono ?_; rintro e w' ⟨rfl, rfl⟩)
    | (go_at_call 74; refine (ref04_Client who _).mono ?_; rintro e w' ⟨rfl, rfl⟩)
    | (go_at_call 63; refine (ref04_Signed h (by have := HL.out; omega) who d).mono ?_; rintro e w' ⟨rfl, rfl⟩)
    | (at_builtin; go_loud (refine wpList_append_el _ rfl _ _ _ rfl base 159 (.agg #[.int .i64 0, .int .i64 0]) 2 16 Tryz.underlying87 refSeal_info rfl (by omega) (.slice A L.length cap) _ _ rfl (h.own.alloc _) w.heap.size [.int .i64 who, .int .i64 d] rfl rfl ?_ ?_ ?_ (by omega) ?_ ?_); (· exact cell_two _ _ _ _); (· simp [Value.oneCell']); (· have := HL.out; omega); (· simp; omega); intro g2 c2 w2 hown2 hf2; (have hb2 := (h.blk.alloc _).fr hf2 (own_ne_blk h.own h.blk (by decide))); have hc2 := hb2.cell 0; have hz2 := hb2.frozen 0))
  all_goals go_ret
  all_goals unfold RefSigned
  all_goals first
    | (obtain ⟨q1, q2⟩ := signC_bad (L := L) (show (clientOf who < 0 ∧ groupOf who < 0) ∨ d < 0 by omega); rw [q1, q2]; exact ⟨_, rfl, h, Fr.refl _ _⟩)
    | (obtain ⟨q1, q2⟩ := signC_in (L := L) (show ¬ ((clientOf who < 0 ∧ groupOf who < 0) ∨ d < 0) by omega) ‹_›; rw [q1, q2]; exact ⟨_, rfl, h, Fr.refl _ _⟩)
    | (obtain ⟨q1, q2⟩ := signC_new (L := L) (show ¬ ((clientOf who < 0 ∧ groupOf who < 0) ∨ d < 0) by omega) ‹_› (beq_eq_false_iff_ne.2 (by have := HL.out; omega)); rw [q1, q2]; refine ⟨_, rfl, ⟨hb2.set_ 0 _, ?_⟩, ?_⟩; (· rw [pairCells_snoc, List.length_append]; exact own_setCell hown2 hb2 (by decide) _ _); exact (((Fr.refl _ _).alloc _).trans hf2 (fun _ _ hx => .inr hx)).setCell (fun _ => .inl rfl) _)
end Go.Proofs.YtmkdhhhoodeemaaGreat

/- cohortlaw12: the World: its parts, and what steps leave. -/
namespace Go.Proofs.YtmkdhhhoodeemaaGreat
open Go Go.RowKit
/-- A block's type is none of the book's, the seals', the document's. -/
def Other (t : TypeId) : Prop := t ≠ 125 ∧ t ≠ 9 ∧ t ≠ 57 ∧ t ≠ 38 ∧ t ≠ 89 ∧ t ≠ 159
instance (t : TypeId) : Decidable (Other t) := by unfold Other; infer_instance
/-- What a step of the World leaves. -/
structure St (lo : Nat) (w w' : World) : Prop where
  fr : Fr (fun k => lo ≤ k) w w'
  blk : ∀ k t cs, Blk w k t cs → Other t → Blk w' k t cs
theorem St.of (lo : Nat) {w w' : World} (h : Fr (fun _ => False) w w') : St lo w w' := ⟨h.mono (fun _ _ h => h.elim), fun _ _ _ hB _ => hB.fr h id⟩
theorem St.trans {lo : Nat} {a b c : World} (h : St lo a b) (k : St lo b c) : St lo a c := ⟨h.fr.trans k.fr (fun _ _ h => h), fun x t cs hB ho => k.blk x t cs (h.blk x t cs hB ho) ho⟩
theorem own_cells {w : World} {base : Nat} {e : TypeId} {size n : Nat} {v : Value} {xs : List Value} (h : w.ownsRow base e size v n xs) {k : Nat} (hk : v.ownBlock = some k) : ∃ cs, Blk w k e cs := by
  rcases h.2 with ⟨rfl, _⟩ | ⟨g', cap, cur, rfl, _, hh, _⟩
  · cases hk
  · cases hk
    exact ⟨_, hh⟩
theorem own_st {lo : Nat} {w w' : World} {base : Nat} {e : TypeId} {size : Nat} {v : Value} {n : Nat} {xs : List Value} (h : w.ownsRow base e size v n xs) (hs : St lo w w') (ho : Other e) : w'.ownsRow base e size v n xs := by
  refine ⟨h.1, ?_⟩
  rcases h.2 with hn | ⟨g, cap, cur, rfl, hb, hgg, rest⟩
  · exact .inl hn
  · exact .inr ⟨g, cap, cur, rfl, hb, hs.blk _ _ _ hgg ho, rest⟩
theorem cells_inj {w : World} {k : Nat} {cs cs' : Array Value} {t t' : TypeId} {f f' : Nat × Nat} (h : w.heap[k]? = some (.cells cs t f)) (h' : w.heap[k]? = some (.cells cs' t' f')) : t = t' := by
  rw [h] at h'
  injection h' with h'
  injection h' with _ h2
theorem bs_ne {w : World} {g m base : Nat} {v : Value} {L : List (List Int)} {gs ms : Nat} {SL : List (Int × Int)} (h : BS w g m base v L gs ms SL) {k : Nat} {cs : Array Value} {t : TypeId} {f : Nat × Nat} (hk : w.heap[k]? = some (.cells cs t f)) (h1 : t ≠ 125) (h2 : t ≠ 9) : ¬ (k = g ∨ k = m ∨ v.ownBlock = some k ∨ k = ms) := by
  rintro (rfl | rfl | e | rfl)
  · exact h1 (cells_inj hk h.book.blk)
  · obtain ⟨⟨es, cl, h3, _⟩, _⟩ := h.book.map
    rw [hk] at h3
    cases h3
  · obtain ⟨cs', hB⟩ := own_cells h.book.own e
    exact h2 (cells_inj hk hB)
  · obtain ⟨es, cl, h3, _⟩ := h.seals.map
    rw [hk] at h3
    cases h3
theorem u8_ne_bs {w : World} {g m base : Nat} {v : Value} {L : List (List Int)} {gs ms : Nat} {SL : List (Int × Int)} (h : BS w g m base v L gs ms SL) (k : Nat) (hk : U8 w k) : ¬ (k = g ∨ k = m ∨ v.ownBlock = some k ∨ k = ms) := by
  obtain ⟨cs, f, h1⟩ := hk
  exact bs_ne h h1 (by decide) (by decide)
theorem rb_ne {w : World} {g base : Nat} {v : Value} {L : List (List Int)} (h : RBookAt w g base v L) {k : Nat} {o : Obj} (hk : w.heap[k]? = some o) (ho : ∀ cs t f, o = .cells cs t f → t ≠ 57 ∧ t ≠ 38) : ¬ (k = g ∨ v.ownBlock = some k) := by
  obtain ⟨vals, hown, _⟩ := h.row
  rintro (rfl | e)
  · exact (ho _ _ _ (Option.some.inj (hk.symm.trans h.blk))).1 rfl
  · obtain ⟨cs', hB⟩ := own_cells hown e
    exact (ho _ _ _ (Option.some.inj (hk.symm.trans hB))).2 rfl
theorem rq_ne {w : World} {g base : Nat} {v : Value} {L : List (Int × Int)} (h : RefAt w g base v L) {k : Nat} {o : Obj} (hk : w.heap[k]? = some o) (ho : ∀ cs t f, o = .cells cs t f → t ≠ 89 ∧ t ≠ 159) : ¬ (k = g ∨ v.ownBlock = some k) := by
  rintro (rfl | e)
  · exact (ho _ _ _ (Option.some.inj (hk.symm.trans h.blk))).1 rfl
  · obtain ⟨cs', hB⟩ := own_cells h.own e
    exact (ho _ _ _ (Option.some.inj (hk.symm.trans hB))).2 rfl
theorem tcell {cs cs' : Array Value} {t t' : TypeId} {f f' : Nat × Nat} {p q : TypeId} (e : Obj.cells cs t f = Obj.cells cs' t' f') (h1 : t ≠ p) (h2 : t ≠ q) : t' ≠ p ∧ t' ≠ q := by
  injection e with _ h
  subst h
  exact ⟨h1, h2⟩
/-- The blocks of a World, and what they hold. -/
structure WSAt (w : World) (lo gw g m base : Nat) (v : Value) (L : List (List Int)) (gs ms : Nat) (SL : List (Int × Int)) (gD bD : Nat) (vD : Value) (LD : List (List Int)) (gQ bQ : Nat) (vQ : Value) (SQ : List (Int × Int)) : Prop where
  blk : Blk w gw 51 #[.pointer (some ⟨g, 0, none⟩), .pointer (some ⟨gs, 0, none⟩), .pointer (some ⟨gD, 0, none⟩), .pointer (some ⟨gQ, 0, none⟩)]
  bs : BS w g m base v L gs ms SL
  rb : RBookAt w gD bD vD LD
  rq : RefAt w gQ bQ vQ SQ
  lo_g : lo ≤ g
  lo_m : lo ≤ m
  lo_b : lo ≤ base
  lo_s : lo ≤ ms
  lo_D : lo ≤ gD
  lo_bD : lo ≤ bD
  lo_Q : lo ≤ gQ
  lo_bQ : lo ≤ bQ
  b_le : base ≤ w.heap.size
  bD_le : bD ≤ w.heap.size
  bQ_le : bQ ≤ w.heap.size
section
variable {w w' : World} {lo gw g m base : Nat} {v v' : Value} {L L' : List (List Int)} {gs ms : Nat} {SL SL' : List (Int × Int)} {gD bD : Nat} {vD vD' : Value} {LD LD' : List (List Int)} {gQ bQ : Nat} {vQ vQ' : Value} {SQ SQ' : List (Int × Int)}
theorem WSAt.keep (h : WSAt w lo gw g m base v L gs ms SL gD bD vD LD gQ bQ vQ SQ) (hf : Fr (fun _ => False) w w') : WSAt w' lo gw g m base v L gs ms SL gD bD vD LD gQ bQ vQ SQ :=
  ⟨h.blk.fr hf id, h.bs.keep hf, h.rb.keep hf, h.rq.fr hf id (fun _ _ => id), h.lo_g, h.lo_m, h.lo_b, h.lo_s, h.lo_D, h.lo_bD, h.lo_Q, h.lo_bQ, Nat.le_trans h.b_le hf.size, Nat.le_trans h.bD_le hf.size, Nat.le_trans h.bQ_le hf.size⟩
/-- A step of the program's book and seals. -/
theorem WSAt.step (h : WSAt w lo gw g m base v L gs ms SL gD bD vD LD gQ bQ vQ SQ) (hb : BS w' g m base v' L' gs ms SL') (hf : Fr (fun k => k = g ∨ k = m ∨ v.ownBlock = some k ∨ k = ms) w w') :
    WSAt w' lo gw g m base v' L' gs ms SL' gD bD vD LD gQ bQ vQ SQ ∧ St lo w w' := by
  have hne := fun {k cs t f} => bs_ne (k := k) (cs := cs) (t := t) (f := f) h.bs
  refine ⟨⟨h.blk.fr hf (hne h.blk (by decide) (by decide)), hb, h.rb.fr hf (hne h.rb.blk (by decide) (by decide)) ?_ (u8_ne_bs h.bs), h.rq.fr hf (hne h.rq.blk (by decide) (by decide)) ?_, h.lo_g, h.lo_m, h.lo_b, h.lo_s, h.lo_D, h.lo_bD, h.lo_Q, h.lo_bQ, Nat.le_trans h.b_le hf.size, Nat.le_trans h.bD_le hf.size, Nat.le_trans h.bQ_le hf.size⟩, hf.mono ?_, fun k t cs hB ho => hB.fr hf (hne hB ho.1 ho.2.1)⟩
  · intro k hk
    obtain ⟨vals, hown, _⟩ := h.rb.row
    obtain ⟨cs, hB⟩ := own_cells hown hk
    exact hne hB (by decide) (by decide)
  · intro k hk
    obtain ⟨cs, hB⟩ := own_cells h.rq.own hk
    exact hne hB (by decide) (by decide)
  · intro k _ e
    rcases e with rfl | rfl | e | rfl
    · exact h.lo_g
    · exact h.lo_m
    · exact Nat.le_trans h.lo_b (own_ge h.bs.book.own k e)
    · exact h.lo_s
/-- A step of the document's book. -/
theorem WSAt.stepD (h : WSAt w lo gw g m base v L gs ms SL gD bD vD LD gQ bQ vQ SQ) (hb : RBookAt w' gD bD vD' LD') (hf : Fr (fun k => k = gD ∨ vD.ownBlock = some k) w w') :
    WSAt w' lo gw g m base v L gs ms SL gD bD vD' LD' gQ bQ vQ SQ ∧ St lo w w' := by
  have hne := fun {k o} => rb_ne (k := k) (o := o) h.rb
  have hc := fun {k cs t} (hB : Blk w k t cs) (h1 : t ≠ 57) (h2 : t ≠ 38) => hne hB (fun cs' t' f e => tcell e h1 h2)
  refine ⟨⟨h.blk.fr hf (hc h.blk (by decide) (by decide)), ⟨h.bs.book.fr hf (hc h.bs.book.blk (by decide) (by decide)) ?_ ?_, h.bs.seals.fr hf (hc h.bs.seals.blk (by decide) (by decide)) ?_, h.bs.ne⟩, hb, h.rq.fr hf (hc h.rq.blk (by decide) (by decide)) ?_, h.lo_g, h.lo_m, h.lo_b, h.lo_s, h.lo_D, h.lo_bD, h.lo_Q, h.lo_bQ, Nat.le_trans h.b_le hf.size, Nat.le_trans h.bD_le hf.size, Nat.le_trans h.bQ_le hf.size⟩, hf.mono ?_, fun k t cs hB ho => hB.fr hf (hc hB ho.2.2.1 ho.2.2.2.1)⟩
  · obtain ⟨⟨es, cl, h3, _⟩, _⟩ := h.bs.book.map
    exact hne h3 (fun _ _ _ e => by cases e)
  · intro k hk
    obtain ⟨cs, hB⟩ := own_cells h.bs.book.own hk
    exact hc hB (by decide) (by decide)
  · obtain ⟨es, cl, h3, _⟩ := h.bs.seals.map
    exact hne h3 (fun _ _ _ e => by cases e)
  · intro k hk
    obtain ⟨cs, hB⟩ := own_cells h.rq.own hk
    exact hc hB (by decide) (by decide)
  · intro k _ e
    obtain ⟨vals, hown, _⟩ := h.rb.row
    rcases e with rfl | e
    · exact h.lo_D
    · exact Nat.le_trans h.lo_bD (own_ge hown k e)
/-- A step of the document's seals. -/
theorem WSAt.stepQ (h : WSAt w lo gw g m base v L gs ms SL gD bD vD LD gQ bQ vQ SQ) (hb : RefAt w' gQ bQ vQ' SQ') (hf : Fr (fun k => k = gQ ∨ vQ.ownBlock = some k) w w') :
    WSAt w' lo gw g m base v L gs ms SL gD bD vD LD gQ bQ vQ' SQ' ∧ St lo w w' := by
  have hne := fun {k o} => rq_ne (k := k) (o := o) h.rq
  have hc := fun {k cs t} (hB : Blk w k t cs) (h1 : t ≠ 89) (h2 : t ≠ 159) => hne hB (fun cs' t' f e => tcell e h1 h2)
  refine ⟨⟨h.blk.fr hf (hc h.blk (by decide) (by decide)), ⟨h.bs.book.fr hf (hc h.bs.book.blk (by decide) (by decide)) ?_ ?_, h.bs.seals.fr hf (hc h.bs.seals.blk (by decide) (by decide)) ?_, h.bs.ne⟩, h.rb.fr hf (hc h.rb.blk (by decide) (by decide)) ?_ ?_, hb, h.lo_g, h.lo_m, h.lo_b, h.lo_s, h.lo_D, h.lo_bD, h.lo_Q, h.lo_bQ, Nat.le_trans h.b_le hf.size, Nat.le_trans h.bD_le hf.size, Nat.le_trans h.bQ_le hf.size⟩, hf.mono ?_, fun k t cs hB ho => hB.fr hf (hc hB ho.2.2.2.2.1 ho.2.2.2.2.2)⟩
  · obtain ⟨⟨es, cl, h3, _⟩, _⟩ := h.bs.book.map
    exact hne h3 (fun _ _ _ e => by cases e)
  · intro k hk
    obtain ⟨cs, hB⟩ := own_cells h.bs.book.own hk
    exact hc hB (by decide) (by decide)
  · obtain ⟨es, cl, h3, _⟩ := h.bs.seals.map
    exact hne h3 (fun _ _ _ e => by cases e)
  · intro k hk
    obtain ⟨vals, hown, _⟩ := h.rb.row
    obtain ⟨cs, hB⟩ := own_cells hown hk
    exact hc hB (by decide) (by decide)
  · intro k ⟨cs, f, h1⟩
    exact hne h1 (fun cs' t' f e => tcell e (by decide) (by decide))
  · intro k _ e
    rcases e with rfl | e
    · exact h.lo_Q
    · exact Nat.le_trans h.lo_bQ (own_ge h.rq.own k e)
end
/-- A World: the program's book has the texts L, its seals the pairs SL; the document's book has LD; its seals nQ at most. -/
def WS (w : World) (lo gw : Nat) (L : List (List Int)) (SL : List (Int × Int)) (LD : List (List Int)) (nQ : Nat) : Prop :=
  ∃ g m base v gs ms gD bD vD gQ bQ vQ SQ, WSAt w lo gw g m base v L gs ms SL gD bD vD LD gQ bQ vQ SQ ∧ SQ.length ≤ nQ
theorem WS.keep {w w' : World} {lo gw : Nat} {L : List (List Int)} {SL : List (Int × Int)} {LD : List (List Int)} {nQ : Nat} (h : WS w lo gw L SL LD nQ) (hf : Fr (fun _ => False) w w') : WS w' lo gw L SL LD nQ := by
  obtain ⟨g, m, base, v, gs, ms, gD, bD, vD, gQ, bQ, vQ, SQ, h, hq⟩ := h
  exact ⟨g, m, base, v, gs, ms, gD, bD, vD, gQ, bQ, vQ, SQ, h.keep hf, hq⟩
end Go.Proofs.YtmkdhhhoodeemaaGreat

/- relay: tasks. -/
namespace Go.Proofs.YtmkdhhhoodeemaaGreat
open Go Go.RowKit
set_option maxRecDepth 100000 in
theorem slices_Clone8 {w : World} {B : Nat → Prop} {A : Option Addr} {xs : List Int} {n cap : Nat} (h : ByteRow w B A xs) (hn : n = xs.length) (hl : xs.length ≤ 1099511627776) :
    Calls Tryz.prog 96 #[.slice A n cap] w (Fresh w xs) := by
  subst hn
  have hq := fun w' A n => @Lib.run_eql_slice_nil Tryz.prog w' 38 5 A n cap 0 0 Tryz.underlying38
  cases xs with
  | nil =>
    cases A with
    | none =>
      go_enter Tryz.func96, Tryz.ntmps96
      go_wp2
      go_ret
      exact ⟨.slice none 0 0, rfl, Own8.nil _ _, Fr.refl _ _⟩
    | some a =>
      go_enter Tryz.func96, Tryz.ntmps96
      go_wp2
      go_ret
      exact ⟨.slice (some ⟨w.heap.size, 0, none⟩) 0 0, rfl, Own8.built w (Nat.le_refl _) [] (by simp) 0 rfl, (Fr.refl (fun _ => False) w).alloc _⟩
  | cons x r =>
    obtain ⟨b, o, rfl, hb, hat⟩ := h.at (by simp)
    go_enter Tryz.func96, Tryz.ntmps96
    go_wp2_with (at_builtin; refine wpList_append_bytes rfl (.tmp 5) (.tmp 6) rfl w.heap.size _ [] rfl (Own8.built w (Nat.le_refl _) [] (by simp) 0 rfl) b o (x :: r).length cap (x :: r) rfl rfl (hat.fr ((Fr.refl (fun _ => False) w).alloc _) id) (by simp) (by simpa using hl) (by simp) ?_; intro g2 c2 w2 hown2 hf2 hg2)
    go_ret
    refine ⟨.slice (some ⟨g2, 0, none⟩) ([] ++ (x :: r)).length c2, rfl, hown2, ((Fr.refl (fun _ => False) w).alloc (Obj.cells #[] 5)).trans hf2 ?_⟩
    intro k hk e1
    cases e1
    simp at hk

/-- Tasks in a row: a group each, and the same bytes. -/
def TasksAt (w : World) (base : Nat) (v : Value) (gs : List Int) (b : List Int) : Prop :=
  ∃ vals, w.ownsRow base 68 2 v gs.length vals ∧ ∀ (k : Nat) g, gs[k]? = some g → ∃ A cap, vals[k * 2]? = some (.int .i64 g) ∧ vals[k * 2 + 1]? = some (.slice A b.length cap) ∧ ByteRow w (U8 w) A b
def TasksP (w : World) (gs b : List Int) (e : Ending) (w' : World) : Prop := ∃ v, e = .returned v ∧ TasksAt w' w.heap.size v gs b ∧ Fr (fun _ => False) w w'
theorem task_info : (Tryz.prog.info? 68).map (fun i => (i.zero, i.size, i.bytes)) = some (some (.agg #[.int .i64 0, .slice none 0 0]), 2, 32) := by kernel_rfl
theorem TasksAt.nil (w : World) (base : Nat) (b : List Int) : TasksAt w base (.slice none 0 0) [] b := ⟨[], World.ownsRow_nil _ _ _ _, fun k g h => by cases h⟩
theorem TasksAt.fr {w w' : World} {S : Nat → Prop} {base : Nat} {v : Value} {gs b : List Int} (h : TasksAt w base v gs b) (hf : Fr S w w') (hv : ∀ k, v.ownBlock = some k → ¬ S k) (h8 : ∀ k, U8 w k → ¬ S k) : TasksAt w' base v gs b := by
  obtain ⟨vals, h1, h2⟩ := h
  refine ⟨vals, own_fr h1 hf hv, fun k g hg => ?_⟩
  obtain ⟨A, cap, e1, e2, hr⟩ := h2 k g hg
  exact ⟨A, cap, e1, e2, hr.u8 hf h8⟩
theorem TasksAt.base_ {w : World} {base base' : Nat} {v : Value} {gs b : List Int} (h : TasksAt w base v gs b) (hb : base' ≤ base) : TasksAt w base' v gs b := by
  obtain ⟨vals, h1, h2⟩ := h
  exact ⟨vals, own_base h1 hb, h2⟩
theorem Own8.u8row {w : World} {base : Nat} {v : Value} {xs : List Int} (h : Own8 w base v xs) : ∃ A cap, v = .slice A xs.length cap ∧ xs.length ≤ cap ∧ ByteRow w (U8 w) A xs := by
  obtain ⟨A, cap, e, h1, h2⟩ := h.form
  refine ⟨A, cap, e, h1, h2.mono (fun k hk => ?_)⟩
  obtain ⟨cs, hB⟩ := own_cells h hk
  exact ⟨cs, (0, 0), hB⟩
theorem TasksAt.snoc {w : World} {base : Nat} {v : Value} {gs b : List Int} {g : Int} {A : Option Addr} {cap : Nat} {vals : List Value} (h : w.ownsRow base 68 2 v (gs.length + 1) (vals ++ [.int .i64 g, .slice A b.length cap]))
    (h2 : ∀ (k : Nat) g, gs[k]? = some g → ∃ A cap, vals[k * 2]? = some (.int .i64 g) ∧ vals[k * 2 + 1]? = some (.slice A b.length cap) ∧ ByteRow w (U8 w) A b) (hr : ByteRow w (U8 w) A b) : TasksAt w base v (gs ++ [g]) b := by
  have hl : vals.length = gs.length * 2 := by
    have := h.1
    simp only [List.length_append, List.length_cons, List.length_nil] at this
    omega
  refine ⟨_, by simpa using h, ?_⟩
  intro k x hx
  rcases Nat.lt_or_ge k gs.length with hk | hk
  · rw [List.getElem?_append_left hk] at hx
    obtain ⟨A', cap', h1, h3, h4⟩ := h2 k x hx
    exact ⟨A', cap', by rw [List.getElem?_append_left (by omega)]; exact h1, by rw [List.getElem?_append_left (by omega)]; exact h3, h4⟩
  · rw [List.getElem?_append_right hk] at hx
    have hk0 : k - gs.length = 0 := by
      cases hd : k - gs.length with
      | zero => rfl
      | succ n => rw [hd] at hx; simp at hx
    rw [hk0] at hx
    simp only [List.getElem?_cons_zero, Option.some.injEq] at hx
    subst hx
    exact ⟨A, cap, by rw [List.getElem?_append_right (by omega), show k * 2 - vals.length = 0 by omega]; rfl, by rw [List.getElem?_append_right (by omega), show k * 2 + 1 - vals.length = 1 by omega]; rfl, hr⟩
set_option maxRecDepth 100000 in
set_option maxHeartbeats 2000000 in
theorem relay_tasks_ok {w : World} {kind c n : Int} {A B : Option Addr} {nr cr nw cw : Nat} {s : SayD} {G D : Int} {C : Option Addr} {nx cx : Nat} {bG : Nat} {GA : Option Addr} {cg : Nat} {gs : List Int} (hgs : IntRow w bG GA gs) (hbG : bG ≤ w.heap.size) (hgl : gs.length ≤ 1000) {bs : List Int} (hbl : bs.length ≤ 1000000)
    (hP : ∀ w', Fr (fun _ => False) w w' → Calls Tryz.prog 95 #[.agg #[.int .i64 kind, .int .i64 c, .int .i64 n, .slice A nr cr, .slice B nw cw, .int .i64 s.kind, .int .i64 s.txn, .bool s.yes, .string s.from_, .string s.to_, .int .i64 s.epoch, .int .i64 s.shard, .int .i64 s.target, .int .i64 s.root, .int .i64 G, .int .i64 D, .slice C nx cx, .int .i64 0, .int .i64 0, .slice none 0 0, .slice none 0 0]] w' (PutP w' bs .nilIface)) :
    Calls Tryz.prog 64 #[.agg #[.int .i64 kind, .int .i64 c, .int .i64 n, .slice A nr cr, .slice B nw cw, .int .i64 s.kind, .int .i64 s.txn, .bool s.yes, .string s.from_, .string s.to_, .int .i64 s.epoch, .int .i64 s.shard, .int .i64 s.target, .int .i64 s.root, .int .i64 G, .int .i64 D, .slice C nx cx, .int .i64 0, .int .i64 0, .slice none 0 0, .slice none 0 0], .slice GA gs.length cg] w (TasksP w gs bs) := by
  have HP := Lib.hid hP
  have HBL := Lib.hid hbl
  clear hP hbl
  have hB0 := Blk.new w 62 #[.int .i64 kind, .int .i64 c, .int .i64 n, .slice A nr cr, .slice B nw cw, .int .i64 s.kind, .int .i64 s.txn, .bool s.yes, .string s.from_, .string s.to_, .int .i64 s.epoch, .int .i64 s.shard, .int .i64 s.target, .int .i64 s.root, .int .i64 G, .int .i64 D, .slice C nx cx, .int .i64 0, .int .i64 0, .slice none 0 0, .slice none 0 0]
  have hf0 : Fr (fun _ => False) w (w.alloc (Obj.cells #[.int .i64 kind, .int .i64 c, .int .i64 n, .slice A nr cr, .slice B nw cw, .int .i64 s.kind, .int .i64 s.txn, .bool s.yes, .string s.from_, .string s.to_, .int .i64 s.epoch, .int .i64 s.shard, .int .i64 s.target, .int .i64 s.root, .int .i64 G, .int .i64 D, .slice C nx cx, .int .i64 0, .int .i64 0, .slice none 0 0, .slice none 0 0] 62)) := (Fr.refl _ _).alloc _
  go_enter Tryz.func64, Tryz.ntmps64
  go_upto_region 1 with fail
  generalize w.alloc (Obj.cells #[.int .i64 kind, .int .i64 c, .int .i64 n, .slice A nr cr, .slice B nw cw, .int .i64 s.kind, .int .i64 s.txn, .bool s.yes, .string s.from_, .string s.to_, .int .i64 s.epoch, .int .i64 s.shard, .int .i64 s.target, .int .i64 s.root, .int .i64 G, .int .i64 D, .slice C nx cx, .int .i64 0, .int .i64 0, .slice none 0 0, .slice none 0 0] 62) = w0 at *
  go_upto_region 5 with (first
    | (refine wpList_load_row rfl 62 _ rfl _ rfl _ _ (0, 0) _ hB0 Tryz.underlying62 rfl (by kernel_rfl) ?_)
    | (go_at_call 95; refine (HP.out _ hf0).mono ?_; rintro e w1 ⟨v1, rfl, hv1, hf01⟩; obtain ⟨A1, c1, rfl, _, hr1⟩ := hv1.u8row))
  have hgs1 : IntRow w1 bG GA gs := (hgs.fr hf0 (fun _ _ => id)).fr hf01 (fun _ _ => id)
  have hf1 := hf0.then_ hf01
  have hz1 : bG ≤ w1.heap.size := Nat.le_trans hbG hf1.size
  clear hB0 hf0 hf01 hv1 hgs HP
  have hinf := task_info
  go_upto_region 6 with fail
  go_loopw [7, 19] (fun ov i wr => ∃ (k : Nat), k ≤ gs.length ∧ i = .int .i64 k ∧ TasksAt wr w1.heap.size ov (gs.take k) bs ∧ IntRow wr bG GA gs ∧ ByteRow wr (U8 wr) A1 bs ∧ Fr (fun _ => False) w1 wr) (fun _ i _ => gs.length - (intOf i).toNat)
  case atStart => exact ⟨0, by omega, rfl, TasksAt.nil _ _ _, hgs1, hr1, Fr.refl _ _⟩
  case round =>
    clear hgs1 hr1
    obtain ⟨k, hk, rfl, ⟨vals, hown, hvs⟩, hgs1, hr1, hf2⟩ := hrel
    have HV := Lib.hid hvs
    clear hvs
    by_cases hlt : k < gs.length
    · have hlt' : (k : Int) < (gs.length : Int) := by omega
      obtain ⟨x, hx⟩ : ∃ x, gs[k]? = some x := ⟨gs[k], List.getElem?_eq_getElem hlt⟩
      obtain ⟨b, o, rfl, hbb, hc⟩ := hgs1 k x hx
      have HX := Lib.hid hx
      have hl1 : (gs.take k).length = k := by rw [List.length_take]; omega
      rw [hl1] at hown
      clear hx
      obtain ⟨Av, cv, hev, _, _⟩ := own_form hown
      cases hev
      go_upto_region 8 with fail
      go_wp2_with (first
        | (go_at_call 96; refine (slices_Clone8 hr1 rfl (by have := HBL.out; omega)).mono ?_; rintro e w3 ⟨v3, rfl, hv3, hf3⟩; obtain ⟨A3, c3, rfl, _, hr3⟩ := hv3.u8row; have hown3 := own_fr hown hf3 (fun _ _ => id); have hz3 : w1.heap.size ≤ w3.heap.size := (hf2.then_ hf3).size)
        | (at_builtin; refine wpList_append_el _ rfl _ _ 44 rfl w1.heap.size 68 _ 2 32 Tryz.underlying44 hinf rfl (by decide) _ k vals rfl (own_fr hown3 ((Fr.refl (fun _ => False) w3).alloc _) (fun _ _ => id)) w3.heap.size [.int .i64 x, .slice A3 bs.length c3] rfl rfl (cell_two w3 _ _ _) (by simp [Value.oneCell']) (by omega) (by decide) (by simp; omega) ?_; intro g' c' w4 hown4 hf4))
      have hf34 : Fr (fun _ => False) w3 (w3.alloc (Obj.cells #[.int .i64 x, .slice A3 bs.length c3] 68)) := (Fr.refl _ _).alloc _
      have hu8 : ∀ q, U8 (w3.alloc (Obj.cells #[.int .i64 x, .slice A3 bs.length c3] 68)) q → ¬ (Value.slice Av k cv).ownBlock = some q := fun q hq => hq.ne_own (own_fr hown3 hf34 (fun _ _ => id)) (by decide)
      have hr14 := ((hr1.u8 hf3 (fun _ _ => id)).u8 hf34 (fun _ _ => id)).u8 hf4 hu8
      have hr34 := (hr3.u8 hf34 (fun _ _ => id)).u8 hf4 hu8
      have hlow : ∀ q, q < bG → ¬ (Value.slice Av k cv).ownBlock = some q := fun q hq e => by have := own_ge hown q e; omega
      have hgs4 := ((hgs1.fr hf3 (fun _ _ => id)).fr hf34 (fun _ _ => id)).fr hf4 hlow
      have hf4' : Fr (fun _ => False) w1 w4 := ((hf2.then_ hf3).then_ hf34).trans hf4 (fun q hq e => by have := own_ge hown q e; omega)
      go_roundw
      case rel =>
        refine ⟨k + 1, by omega, by go_num, ?_, hgs4, hr14, hf4'⟩
        rw [take_mem HX.out]
        refine TasksAt.snoc (vals := vals) (by rw [hl1]; exact hown4) ?_ hr34
        intro k g hg
        obtain ⟨A', cap', e1, e2, hr⟩ := HV.out k g hg
        exact ⟨A', cap', e1, e2, ((hr.u8 hf3 (fun _ _ => id)).u8 hf34 (fun _ _ => id)).u8 hf4 hu8⟩
      case measure => simp [intOf]; omega
    · obtain rfl : k = gs.length := by omega
      rw [List.take_length] at hown
      have hT : TasksAt wr w1.heap.size u7 gs bs := ⟨vals, hown, fun k g hg => HV.out k g (by rw [List.take_length]; exact hg)⟩
      go_wp2
      go_ret
      exact ⟨_, rfl, hT.base_ hf1.size, hf1.then_ hf2⟩
set_option maxRecDepth 100000 in
theorem relay_tasks_bad {w : World} {kind c n : Int} {A B : Option Addr} {nr cr nw cw : Nat} {s : SayD} {G D : Int} {C : Option Addr} {nx cx : Nat} {V : Value}
    (hP : ∀ w', Fr (fun _ => False) w w' → Calls Tryz.prog 95 #[.agg #[.int .i64 kind, .int .i64 c, .int .i64 n, .slice A nr cr, .slice B nw cw, .int .i64 s.kind, .int .i64 s.txn, .bool s.yes, .string s.from_, .string s.to_, .int .i64 s.epoch, .int .i64 s.shard, .int .i64 s.target, .int .i64 s.root, .int .i64 G, .int .i64 D, .slice C nx cx, .int .i64 0, .int .i64 0, .slice none 0 0, .slice none 0 0]] w' (fun e w'' => ∃ t u, e = .returned (.tuple #[.slice none 0 0, .iface t u]) ∧ Fr (fun _ => False) w' w'')) :
    Calls Tryz.prog 64 #[.agg #[.int .i64 kind, .int .i64 c, .int .i64 n, .slice A nr cr, .slice B nw cw, .int .i64 s.kind, .int .i64 s.txn, .bool s.yes, .string s.from_, .string s.to_, .int .i64 s.epoch, .int .i64 s.shard, .int .i64 s.target, .int .i64 s.root, .int .i64 G, .int .i64 D, .slice C nx cx, .int .i64 0, .int .i64 0, .slice none 0 0, .slice none 0 0], V] w (TasksP w [] []) := by
  have HP := Lib.hid hP
  clear hP
  have hB0 := Blk.new w 62 #[.int .i64 kind, .int .i64 c, .int .i64 n, .slice A nr cr, .slice B nw cw, .int .i64 s.kind, .int .i64 s.txn, .bool s.yes, .string s.from_, .string s.to_, .int .i64 s.epoch, .int .i64 s.shard, .int .i64 s.target, .int .i64 s.root, .int .i64 G, .int .i64 D, .slice C nx cx, .int .i64 0, .int .i64 0, .slice none 0 0, .slice none 0 0]
  have hf0 : Fr (fun _ => False) w (w.alloc (Obj.cells #[.int .i64 kind, .int .i64 c, .int .i64 n, .slice A nr cr, .slice B nw cw, .int .i64 s.kind, .int .i64 s.txn, .bool s.yes, .string s.from_, .string s.to_, .int .i64 s.epoch, .int .i64 s.shard, .int .i64 s.target, .int .i64 s.root, .int .i64 G, .int .i64 D, .slice C nx cx, .int .i64 0, .int .i64 0, .slice none 0 0, .slice none 0 0] 62)) := (Fr.refl _ _).alloc _
  go_enter Tryz.func64, Tryz.ntmps64
  go_upto_region 1 with fail
  generalize w.alloc (Obj.cells #[.int .i64 kind, .int .i64 c, .int .i64 n, .slice A nr cr, .slice B nw cw, .int .i64 s.kind, .int .i64 s.txn, .bool s.yes, .string s.from_, .string s.to_, .int .i64 s.epoch, .int .i64 s.shard, .int .i64 s.target, .int .i64 s.root, .int .i64 G, .int .i64 D, .slice C nx cx, .int .i64 0, .int .i64 0, .slice none 0 0, .slice none 0 0] 62) = w0 at *
  go_wp2_with (first
    | (refine wpList_load_row rfl 62 _ rfl _ rfl _ _ (0, 0) _ hB0 Tryz.underlying62 rfl (by kernel_rfl) ?_)
    | (go_at_call 95; refine (HP.out _ hf0).mono ?_; rintro e w1 ⟨t, u, rfl, hf01⟩))
  go_ret
  exact ⟨_, rfl, TasksAt.nil _ _ _, hf0.then_ hf01⟩
end Go.Proofs.YtmkdhhhoodeemaaGreat

/- say: what may be left out of an order; its texts, where its proof is zero. -/
namespace Go.Proofs.YtmkdhhhoodeemaaGreat
open Go Go.RowKit
theorem say_optTxn_put {w : World} {A B : Option Addr} {nr nw cr cw : Nat} {c n : Int} {bs : List Int} {r : Value} (h : ∀ w', Fr (fun _ => False) w w' → Calls Tryz.prog 149 #[.agg #[.int .i64 c, .int .i64 n, .slice A nr cr, .slice B nw cw]] w' (PutP w' bs r)) :
    Calls Tryz.prog 148 #[.bool true, .agg #[.int .i64 c, .int .i64 n, .slice A nr cr, .slice B nw cw], .func (.func 149) #[] #[]] w (PutP w bs r) := by
  have HP := Lib.hid (h _ ((Fr.refl (fun _ => False) w).alloc (Obj.cells #[.int .i64 c, .int .i64 n, .slice A nr cr, .slice B nw cw] 29)))
  clear h
  go_enter Tryz.func148, Tryz.ntmps148
  go_wp2_with (first | (go_at_call 149; refine HP.out.mono ?_; rintro e w1 ⟨v, rfl, hv, hf⟩))
  refine bodyPost_ret (v := .tuple #[v, r]) (by simp [results, Tryz.results148, go_sem]) rfl ?_
  exact PutP.before ⟨v, rfl, hv, hf⟩ ((Fr.refl (fun _ => False) w).alloc _)
theorem say_optSay_put {w : World} {s : SayD} {bs : List Int} {r : Value} (h : ∀ w', Fr (fun _ => False) w w' → Calls Tryz.prog 77 #[.agg #[.int .i64 s.kind, .int .i64 s.txn, .bool s.yes, .string s.from_, .string s.to_, .int .i64 s.epoch, .int .i64 s.shard, .int .i64 s.target, .int .i64 s.root]] w' (PutP w' bs r)) :
    Calls Tryz.prog 150 #[.bool true, .agg #[.int .i64 s.kind, .int .i64 s.txn, .bool s.yes, .string s.from_, .string s.to_, .int .i64 s.epoch, .int .i64 s.shard, .int .i64 s.target, .int .i64 s.root], .func (.func 77) #[] #[]] w (PutP w bs r) := by
  have HP := Lib.hid (h _ ((Fr.refl (fun _ => False) w).alloc (Obj.cells #[.int .i64 s.kind, .int .i64 s.txn, .bool s.yes, .string s.from_, .string s.to_, .int .i64 s.epoch, .int .i64 s.shard, .int .i64 s.target, .int .i64 s.root] 23)))
  clear h
  go_enter Tryz.func150, Tryz.ntmps150
  go_wp2_with (first | (go_at_call 77; refine HP.out.mono ?_; rintro e w1 ⟨v, rfl, hv, hf⟩))
  refine bodyPost_ret (v := .tuple #[v, r]) (by simp [results, Tryz.results150, go_sem]) rfl ?_
  exact PutP.before ⟨v, rfl, hv, hf⟩ ((Fr.refl (fun _ => False) w).alloc _)
/-- An error value: nothing, or some. -/
def NilOr (v : Value) : Prop := v = .nilIface ∨ ∃ t u, v = .iface t u
def someErr (l : List Value) : Bool := l.any fun v => match v with | .nilIface => false | _ => true
theorem texts1_nil (w : World) : Calls Tryz.prog 154 #[.nilIface] w fun e w' => e = .returned (.bool false) ∧ w = w' := by
  go_enter Tryz.func154, Tryz.ntmps154
  go_wp2_with fail
  go_ret
  exact ⟨rfl, rfl⟩
theorem texts1_some (w : World) (t : TypeId) (u : Value) : Calls Tryz.prog 154 #[.iface t u] w fun e w' => e = .returned (.bool true) ∧ w = w' := by
  go_enter Tryz.func154, Tryz.ntmps154
  go_wp2_with fail
  go_ret
  exact ⟨rfl, rfl⟩
def ErrRow (w : World) (b : Nat) (l : List Value) : Prop := ∀ k v, l[k]? = some v → w.cell? ⟨b, k, none⟩ = some v ∧ NilOr v
theorem indexErr {w : World} {b cap : Nat} {l : List Value} (hr : ErrRow w b l) (hll : l.length ≤ 1000000) :
    Calls Tryz.prog 178 #[.slice (some ⟨b, 0, none⟩) l.length cap, .func (.func 154) #[] #[]] w fun e w' => (∃ i : Int, e = .returned (.int .i64 i) ∧ (decide (0 ≤ i) = someErr l)) ∧ w = w' := by
  go_enter Tryz.func178, Tryz.ntmps178
  go_wp2_with fail
  go_loopw [8] (fun i wr => ∃ k : Nat, k ≤ l.length ∧ i = .int .i64 k ∧ (∀ j v, j < k → l[j]? = some v → v = .nilIface) ∧ w = wr) (fun i _ => l.length - (intOf i).toNat)
  case atStart => exact ⟨0, by omega, rfl, fun j s h _ => by omega, rfl⟩
  case round =>
    obtain ⟨k, hk, rfl, hsh, rfl⟩ := hrel
    by_cases hlt : k < l.length
    · obtain ⟨x, hx0⟩ : ∃ x, l[k]? = some x := ⟨l[k], List.getElem?_eq_getElem hlt⟩
      obtain ⟨hc, hn⟩ := hr k x hx0
      have hlt' : (k : Int) < (l.length : Int) := by omega
      have HX := Lib.hid hx0
      have HS := Lib.hid hsh
      clear hr hx0 hsh
      rcases hn with rfl | ⟨t, u, rfl⟩
      · go_wp2_with (first
          | (go_at_call 154; refine (texts1_nil _).mono ?_; rintro e w1 ⟨rfl, rfl⟩))
        go_roundw
        case rel =>
          refine ⟨k + 1, by omega, by go_num, ?_, by trivial⟩
          intro j v hj hs
          by_cases hjk : j = k
          · subst hjk
            have e := HX.out
            rw [hs] at e
            exact Option.some.inj e
          · exact HS.out j v (by omega) hs
        case measure => simp [intOf]; omega
      · have HL : Hid (someErr l = true) := by
          show someErr l = true
          rw [someErr, List.any_eq_true]
          exact ⟨_, List.mem_of_getElem? HX.out, rfl⟩
        go_wp2_with (first
          | (go_at_call 154; refine (texts1_some _ _ _).mono ?_; rintro e w1 ⟨rfl, rfl⟩))
        go_ret
        exact ⟨⟨_, rfl, by rw [HL.out]; simp⟩, rfl⟩
    · obtain rfl : k = l.length := by omega
      have HL : Hid (someErr l = false) := by
        show someErr l = false
        rw [someErr, List.any_eq_false]
        intro s hs
        obtain ⟨j, hj, rfl⟩ := List.mem_iff_getElem.1 hs
        have := hsh j _ hj (List.getElem?_eq_getElem hj)
        rw [this]
        simp
      clear hr hsh
      go_wp2
      go_ret
      exact ⟨⟨_, rfl, by rw [HL.out]; simp⟩, rfl⟩
theorem containsErr {w : World} {b cap : Nat} {l : List Value} {z : Bool} (hz : someErr l = z) (hr : ErrRow w b l) (hll : l.length ≤ 1000000) :
    Calls Tryz.prog 153 #[.slice (some ⟨b, 0, none⟩) l.length cap, .func (.func 154) #[] #[]] w fun e w' => e = .returned (.bool z) ∧ w = w' := by
  have HZ := Lib.hid hz
  clear hz
  go_enter Tryz.func153, Tryz.ntmps153
  go_wp2_with fail
  refine (indexErr hr hll).mono ?_
  rintro e w1 ⟨⟨i, rfl, hi⟩, rfl⟩
  have HI := Lib.hid hi
  clear hi
  go_wp2
  go_ret
  exact ⟨by rw [← HZ.out, ← HI.out]; rfl, rfl⟩
end Go.Proofs.YtmkdhhhoodeemaaGreat

/- say: does a proof fit; an order's texts, where its proof is zero. -/
namespace Go.Proofs.YtmkdhhhoodeemaaGreat
open Go Go.RowKit
theorem index_noneE (w : World) (f : Value) (cap : Nat) : Calls Tryz.prog 112 #[.slice none 0 cap, f] w fun e w' => e = .returned (.int .i64 (-1)) ∧ w = w' := by
  go_enter Tryz.func112, Tryz.ntmps112
  go_wp2_with fail
  go_loopw [8] (fun i wr => i = .int .i64 0 ∧ w = wr) (fun _ _ => 0)
  case atStart => exact ⟨rfl, rfl⟩
  case round =>
    obtain ⟨rfl, rfl⟩ := hrel
    go_wp2_with fail
    go_ret
    exact ⟨rfl, rfl⟩
theorem contains_noneE (w : World) (f : Value) (cap : Nat) : Calls Tryz.prog 181 #[.slice none 0 cap, f] w fun e w' => e = .returned (.bool false) ∧ w = w' := by
  go_enter Tryz.func181, Tryz.ntmps181
  go_wp2_with (first | (go_at_call 112; refine (index_noneE _ _ _).mono ?_; rintro e w1 ⟨rfl, rfl⟩))
  go_ret
  exact ⟨rfl, rfl⟩
theorem index_noneI (w : World) (f : Value) (cap : Nat) : Calls Tryz.prog 186 #[.slice none 0 cap, f] w fun e w' => e = .returned (.int .i64 (-1)) ∧ w = w' := by
  go_enter Tryz.func186, Tryz.ntmps186
  go_wp2_with fail
  go_loopw [8] (fun i wr => i = .int .i64 0 ∧ w = wr) (fun _ _ => 0)
  case atStart => exact ⟨rfl, rfl⟩
  case round =>
    obtain ⟨rfl, rfl⟩ := hrel
    go_wp2_with fail
    go_ret
    exact ⟨rfl, rfl⟩
theorem contains_noneI (w : World) (f : Value) (cap : Nat) : Calls Tryz.prog 182 #[.slice none 0 cap, f] w fun e w' => e = .returned (.bool false) ∧ w = w' := by
  go_enter Tryz.func182, Tryz.ntmps182
  go_wp2_with (first | (go_at_call 186; refine (index_noneI _ _ _).mono ?_; rintro e w1 ⟨rfl, rfl⟩))
  go_ret
  exact ⟨rfl, rfl⟩
theorem four_zero {w : World} {g : Nat} {t : TypeId} (h : Blk w g t #[.int .i64 0, .int .i64 0, .int .i64 0, .int .i64 0]) (hg : g < w.heap.size) : IntRow w w.heap.size (some ⟨g, 0, none⟩) [0, 0, 0, 0] := by
  intro k x hx
  refine ⟨g, 0, rfl, hg, ?_⟩
  rw [Nat.zero_add]
  match k, hx with
  | 0, hx => cases hx; exact h.cell 0
  | 1, hx => cases hx; exact h.cell 1
  | 2, hx => cases hx; exact h.cell 2
  | 3, hx => cases hx; exact h.cell 3
set_option maxRecDepth 100000 in
theorem fits_zero (w : World) : Calls Tryz.prog 156 #[.agg #[.int .i64 0, .int .i64 0, .slice none 0 0, .slice none 0 0]] w (OkB w true) := by
  have hb : Betw 1024 [0, 0, 0, 0] = true := by decide
  have hI : IntRow ((w.alloc (Obj.cells #[.int .i64 0, .int .i64 0, .slice none 0 0, .slice none 0 0] 60)).alloc (Obj.cells #[.int .i64 0, .int .i64 0, .int .i64 0, .int .i64 0] 3)) ((w.alloc (Obj.cells #[.int .i64 0, .int .i64 0, .slice none 0 0, .slice none 0 0] 60)).alloc (Obj.cells #[.int .i64 0, .int .i64 0, .int .i64 0, .int .i64 0] 3)).heap.size (some ⟨w.heap.size + 1, 0, none⟩) [0, 0, 0, 0] := four_zero (Blk.new_ _ _ _ (by simp)) (by simp)
  have HB : Hid (Calls Tryz.prog 125 #[.int .i64 1024, .slice (some ⟨w.heap.size + 1, 0, none⟩) 4 4] ((w.alloc (Obj.cells #[.int .i64 0, .int .i64 0, .slice none 0 0, .slice none 0 0] 60)).alloc (Obj.cells #[.int .i64 0, .int .i64 0, .int .i64 0, .int .i64 0] 3)) fun e w' => e = .returned (.bool true) ∧ ((w.alloc (Obj.cells #[.int .i64 0, .int .i64 0, .slice none 0 0, .slice none 0 0] 60)).alloc (Obj.cells #[.int .i64 0, .int .i64 0, .int .i64 0, .int .i64 0] 3)) = w') := by
    have := say_betweenAll (cap := 4) hI (by decide) (by decide) 1024
    rw [hb] at this
    exact this
  clear hI
  clear hb
  go_enter Tryz.func156, Tryz.ntmps156
  go_wp2_with (first | (go_at_call 125; refine HB.out.mono ?_; rintro e w1 ⟨rfl, rfl⟩) | (go_at_call 181; refine (contains_noneE _ _ _).mono ?_; rintro e w1 ⟨rfl, rfl⟩) | (go_at_call 182; refine (contains_noneI _ _ _).mono ?_; rintro e w1 ⟨rfl, rfl⟩))
  go_ret
  exact ⟨rfl, ((Fr.refl _ _).alloc _).alloc _⟩
end Go.Proofs.YtmkdhhhoodeemaaGreat

/- cert.Check, with its closure, and cert.each at int. -/
namespace Go.Proofs.YtmkdhhhoodeemaaGreat
open Go Go.RowKit
section
variable {G D last x : Int} {L : List (Int × Int)}
end
/-- What the closure has captured: the certificate's box bc, the last signer's box bl, the seals' pointer's box bs. -/
structure Caught (w : World) (bc bl bs g m : Nat) (G D last : Int) (sl : Value) (L : List (Int × Int)) : Prop where
  c : Blk w bc 41 #[.int .i64 G, .int .i64 D, sl]
  l : Blk w bl 3 #[.int .i64 last]
  s : Blk w bs 47 #[.pointer (some ⟨g, 0, none⟩)]
  a : SealsAt w g m L
theorem Caught.fr {S : Nat → Prop} {w w' : World} {bc bl bs g m : Nat} {G D last : Int} {sl : Value} {L : List (Int × Int)} (h : Caught w bc bl bs g m G D last sl L) (hf : Fr S w w') (h1 : ¬ S bc) (h2 : ¬ S bl) (h3 : ¬ S bs) (h4 : ¬ S g) (h5 : ¬ S m) : Caught w' bc bl bs g m G D last sl L :=
  ⟨h.c.fr hf h1, h.l.fr hf h2, h.s.fr hf h3, h.a.fr hf h4 h5⟩
section
variable {G D last : Int} {L : List (Int × Int)} {xs : List Int} {k : Nat} {x : Int}
end
section
variable {G D need : Int} {L : List (Int × Int)} {xs : List Int}
end
end Go.Proofs.YtmkdhhhoodeemaaGreat

/- cert.Make. -/
namespace Go.Proofs.YtmkdhhhoodeemaaGreat
open Go Go.RowKit
def whoInts (G D : Int) (L : List (Int × Int)) : List Int := (whoTo G D L 10).map fun (i : Nat) => (i : Int)
theorem whoInts_length (G D : Int) (L : List (Int × Int)) : (whoInts G D L).length = (whoTo G D L 10).length := by simp [whoInts]
theorem IntRow.of_own {w : World} {base : Nat} {A : Option Addr} {n cap : Nat} {l : List Nat} (h : w.ownsRow base 3 1 (.slice A n cap) l.length (intVals l)) : IntRow w w.heap.size A (l.map fun (i : Nat) => (i : Int)) := by
  obtain ⟨A', cap', hv, _, hat⟩ := own_form h
  cases hv
  intro k x hx
  obtain ⟨b, hb, _, hc⟩ := hat k (.int .i64 x) (by
    rw [List.getElem?_map] at hx
    obtain ⟨i, hi, rfl⟩ := Option.map_eq_some_iff.1 hx
    simp [intVals, hi])
  exact ⟨b, 0, hb, World.block_lt_of_cell? w _ hc, by rw [Nat.zero_add]; exact hc⟩
theorem IntRow.take {w : World} {B : Nat} {A : Option Addr} {xs : List Int} (h : IntRow w B A xs) (n : Nat) : IntRow w B A (xs.take n) := by
  intro k x hx
  rw [List.getElem?_take] at hx
  split at hx
  · exact h k x hx
  · cases hx
def Made (w : World) (G D : Int) (L : List (Int × Int)) (need : Int) (e : Ending) (w' : World) : Prop :=
  Fr (fun _ => False) w w' ∧
  (((need < 1 ∨ ((whoInts G D L).length : Int) < need) ∧ e = .returned (.tuple #[.agg #[.int .i64 0, .int .i64 0, .slice none 0 0], errV [((⟨#[109, 97, 107, 101]⟩ : ByteArray), ((whoInts G D L).length : Int))] 51])) ∨
   (¬ (need < 1 ∨ ((whoInts G D L).length : Int) < need) ∧ ∃ A cap, e = .returned (.tuple #[.agg #[.int .i64 G, .int .i64 D, .slice A ((whoInts G D L).take need.toNat).length cap], .nilIface]) ∧ IntRow w' w'.heap.size A ((whoInts G D L).take need.toNat)))
set_option maxRecDepth 100000 in
theorem cert_Make {w : World} {g m : Nat} {L : List (Int × Int)} (hs : SealsAt w g m L) (G D need : Int) :
    Calls Tryz.prog 43 #[.pointer (some ⟨g, 0, none⟩), .int .i64 G, .int .i64 D, .int .i64 need] w (Made w G D L need) := by
  go_enter Tryz.func43, Tryz.ntmps43
  go_wp2_with fail
  have hf0 : Fr (fun _ => False) w (w.alloc (Obj.cells #[.int .i64 0, .int .i64 0, .slice none 0 0] 41)) := (Fr.refl _ _).alloc _
  refine (seals_Who (hs.fr hf0 id id) G D).mono ?_
  rintro e w1 ⟨v, rfl, hown, hf1⟩
  obtain ⟨A, cap, rfl, hcap, _⟩ := own_form hown
  have b1 : Blk w1 w.heap.size 41 #[.int .i64 0, .int .i64 0, .slice none 0 0] := (Blk.new _ _ _).fr hf1 id
  have c0 := b1.cell 0
  have c1 := b1.cell 1
  have c2 := b1.cell 2
  have z0 := b1.frozen 0
  have z1 := b1.frozen 1
  have z2 := b1.frozen 2
  have hf2 := hf0.then_ hf1
  by_cases hn : need < 1 ∨ ((whoTo G D L 10).length : Int) < need
  · have HN := Lib.hid hn
    by_cases h1 : need < 1
    · clear hn
      go_wp2_with (first
        | (go_at_call 71; refine (fault_Of _ rfl _).mono ?_; rintro e w' ⟨rfl, rfl⟩)
        | (go_at_call 70; refine (fault_Wrap _ _ _ _ _).mono ?_; rintro e w' ⟨rfl, rfl⟩))
      have b2 := ((b1.set_ 0 (.int .i64 0)).set_ 1 (.int .i64 0)).set_ 2 (.slice none 0 0)
      have d0 := b2.cell 0
      have d1 := b2.cell 1
      have d2 := b2.cell 2
      refine bodyPost_ret (v := .tuple #[.agg #[.int .i64 0, .int .i64 0, .slice none 0 0], errV [((⟨#[109, 97, 107, 101]⟩ : ByteArray), ((whoTo G D L 10).length : Int))] 51]) (by simp [results, Tryz.results43, go_sem, d0, d1, d2]) rfl ?_
      refine ⟨?_, .inl ⟨by rw [whoInts_length]; exact HN.out, by rw [whoInts_length]⟩⟩
      exact Fr.setCell (p := ⟨w.heap.size, 2, none⟩) (Fr.setCell (p := ⟨w.heap.size, 1, none⟩) (Fr.setCell (p := ⟨w.heap.size, 0, none⟩) hf2 (fun h => absurd h (Nat.lt_irrefl _)) _) (fun h => absurd h (Nat.lt_irrefl _)) _) (fun h => absurd h (Nat.lt_irrefl _)) _
    · have h2 : ((whoTo G D L 10).length : Int) < need := by omega
      clear hn
      go_wp2_with (first
        | (go_at_call 71; refine (fault_Of _ rfl _).mono ?_; rintro e w' ⟨rfl, rfl⟩)
        | (go_at_call 70; refine (fault_Wrap _ _ _ _ _).mono ?_; rintro e w' ⟨rfl, rfl⟩))
      have b2 := ((b1.set_ 0 (.int .i64 0)).set_ 1 (.int .i64 0)).set_ 2 (.slice none 0 0)
      have d0 := b2.cell 0
      have d1 := b2.cell 1
      have d2 := b2.cell 2
      refine bodyPost_ret (v := .tuple #[.agg #[.int .i64 0, .int .i64 0, .slice none 0 0], errV [((⟨#[109, 97, 107, 101]⟩ : ByteArray), ((whoTo G D L 10).length : Int))] 51]) (by simp [results, Tryz.results43, go_sem, d0, d1, d2]) rfl ?_
      refine ⟨?_, .inl ⟨by rw [whoInts_length]; exact HN.out, by rw [whoInts_length]⟩⟩
      exact Fr.setCell (p := ⟨w.heap.size, 2, none⟩) (Fr.setCell (p := ⟨w.heap.size, 1, none⟩) (Fr.setCell (p := ⟨w.heap.size, 0, none⟩) hf2 (fun h => absurd h (Nat.lt_irrefl _)) _) (fun h => absurd h (Nat.lt_irrefl _)) _) (fun h => absurd h (Nat.lt_irrefl _)) _
  · have HN := Lib.hid hn
    have h1 : ¬ need < 1 := by omega
    have h2 : ¬ ((whoTo G D L 10).length : Int) < need := by omega
    obtain ⟨n, rfl⟩ : ∃ n : Nat, need = n := ⟨need.toNat, by omega⟩
    have h3 : n ≤ (whoTo G D L 10).length := by omega
    have h4 : n ≤ cap := by omega
    have h5 : ¬ cap = 0 := by omega
    have hlen : ((whoInts G D L).take n).length = n := by rw [List.length_take, whoInts_length]; omega
    clear hn
    go_wp2_with fail
    have b2 := b1.set_ 0 (.int .i64 G)
    have b3 := b2.set_ 1 (.int .i64 D)
    have b4 := b3.set_ 2 (.slice A n cap)
    have d0 := b4.cell 0
    have d1 := b4.cell 1
    have d2 := b4.cell 2
    have o4 := own_setCell (own_setCell (own_setCell hown b1 (by decide) 0 (.int .i64 G)) b2 (by decide) 1 (.int .i64 D)) b3 (by decide) 2 (.slice A n cap)
    refine bodyPost_ret (v := .tuple #[.agg #[.int .i64 G, .int .i64 D, .slice A n cap], .nilIface]) (by simp [results, Tryz.results43, go_sem, d0, d1, d2]) rfl ?_
    refine ⟨?_, .inr ⟨by rw [whoInts_length]; exact HN.out, A, cap, ?_, ?_⟩⟩
    · exact Fr.setCell (p := ⟨w.heap.size, 2, none⟩) (Fr.setCell (p := ⟨w.heap.size, 1, none⟩) (Fr.setCell (p := ⟨w.heap.size, 0, none⟩) hf2 (fun h => absurd h (Nat.lt_irrefl _)) _) (fun h => absurd h (Nat.lt_irrefl _)) _) (fun h => absurd h (Nat.lt_irrefl _)) _
    · rw [Int.toNat_natCast, hlen]
    · rw [Int.toNat_natCast]
      exact (IntRow.of_own o4).take n
end Go.Proofs.YtmkdhhhoodeemaaGreat
