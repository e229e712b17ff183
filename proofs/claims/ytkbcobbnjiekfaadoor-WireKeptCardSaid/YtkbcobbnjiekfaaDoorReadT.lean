/- wire: the Reader's text; next; Int, Num, Text. -/
import Derived.Test.YtkbcobbnjiekfaaDoorSpell
namespace Go.Proofs.YtkbcobbnjiekfaaDoor
open Go Go.RowKit
def inA (A : Option Addr) (k : Nat) : Prop := ∃ o, A = some ⟨k, o, none⟩
def IsText (A : Option Addr) (xs : List Int) (v : Value) (w : World) : Prop := ∃ A' cap, v = .slice A' xs.length cap ∧ ByteRow w (inA A) A' xs
def textN (bs : List Int) (pos : Nat) : Nat := (spell64 ((bs.drop pos).take 4)).toNat
def textC (bs : List Int) (pos : Nat) : Int := if countC bs pos 65536 ≠ 0 then countC bs pos 65536 else if bs.length - (pos + 4) < textN bs pos then 21 else 0
def textX (bs : List Int) (pos : Nat) : List Int := (bs.drop (pos + 4)).take (textN bs pos)
theorem Bytes8.part {bs : List Int} (h : Bytes8 bs) (a b : Nat) : Bytes8 ((bs.drop a).take b) := fun x hx => h x (List.mem_of_mem_drop (List.mem_of_mem_take hx))
theorem countC_ok {bs : List Int} {pos : Nat} {most : Int} (h : countC bs pos most = 0) : 4 ≤ bs.length - pos ∧ spell64 ((bs.drop pos).take 4) ≤ most := by
  unfold countC at h
  split at h
  · cases h
  · split at h
    · cases h
    · omega
set_option maxRecDepth 100000 in
theorem reader_text {w : World} {g : Nat} {A : Option Addr} {bs : List Int} {pos : Nat} (h : ReaderAt w g A bs pos none) (hl : bs.length ≤ 1099511627776) (h8 : Bytes8 bs) :
    Calls Tryd.prog 54 #[.pointer (some ⟨g, 0, none⟩)] w (ReadOut w g A bs (IsText A (textX bs pos)) (fun v => v = .slice none 0 0) (pos + 4 + textN bs pos) (textC bs pos)) := by
  go_enter Tryd.func54, Tryd.ntmps54
  go_wp2_with fail
  refine (reader_count h hl 65536).mono ?_
  rintro e w1 ⟨v, p, rfl, hv, hz, h1, hf1⟩
  by_cases hc : countC bs pos 65536 = 0
  · obtain ⟨rfl, rfl⟩ := hv hc
    obtain ⟨h4, hm⟩ := countC_ok hc
    have hb4 := spell4_bound (h8.part pos 4) (by rw [List.length_take, List.length_drop]; omega)
    have hn : spell64 ((bs.drop pos).take 4) = (textN bs pos : Int) := by unfold textN; omega
    rw [hc, hn]
    have HC : Hid (textC bs pos = if bs.length - (pos + 4) < textN bs pos then 21 else 0) := by show _ = _; rw [textC, if_neg (by simp [hc])]
    clear hn hb4 hm hc hv
    go_wp2_with fail
    refine (reader_cut h1 hl (textN bs pos)).mono ?_
    rintro e w2 (⟨h2, rfl, rfl⟩ | ⟨h2, A2, rfl, hr2, h3, hf3⟩)
    · have hc21 : Hid (textC bs pos = 21) := by show _ = _; rw [HC.out, if_pos h2]
      go_wp2
      refine bodyPost_ret (v := .tuple #[.slice none 0 0, .int .i64 21]) (by simp [results, Tryd.results54, go_sem]) rfl ?_
      exact ⟨_, pos + 4, by rw [hc21.out], (fun h => by rw [hc21.out] at h; cases h), (fun _ => rfl), h1, hf1⟩
    · have hc0 : Hid (textC bs pos = 0) := by show _ = _; rw [HC.out, if_neg (by omega)]
      have hlx : Hid ((textX bs pos).length = textN bs pos) := by show _ = _; rw [textX, List.length_take, List.length_drop]; omega
      go_wp2
      refine bodyPost_ret (v := .tuple #[.slice A2 (textN bs pos) (textN bs pos), .int .i64 0]) (by simp [results, Tryd.results54, go_sem]) rfl ?_
      exact ⟨_, pos + 4 + textN bs pos, by rw [hc0.out], fun _ => ⟨⟨A2, textN bs pos, by rw [hlx.out], hr2⟩, rfl⟩, (fun h => absurd hc0.out h), h3, hf1.trans hf3 (fun _ _ h => h)⟩
  · have hc1 : (countC bs pos 65536 != 0) = true := by simpa using hc
    have hcc : Hid (textC bs pos = countC bs pos 65536) := by show _ = _; rw [textC, if_pos hc]
    have HC := Lib.hid hc
    obtain ⟨n0, rfl⟩ := hz HC.out
    clear hc hv
    go_wp2
    refine bodyPost_ret (v := .tuple #[.slice none 0 0, .int .i64 (countC bs pos 65536)]) (by simp [results, Tryd.results54, go_sem]) rfl ?_
    exact ⟨_, p, by rw [hcc.out], (fun h => absurd (hcc.out ▸ h) HC.out), (fun _ => rfl), h1, hf1⟩
/-- What 'next' answers: what is read, or the zero value, and the error, and where. -/
def NextOut (w : World) (g : Nat) (A : Option Addr) (bs : List Int) (V : Value → World → Prop) (pos' : Nat) (z : Value) (s : ByteArray) (pos : Nat) (c : Int) (e : Ending) (w' : World) : Prop :=
  (c = 0 ∧ ∃ v, e = .returned v ∧ V v w' ∧ ReaderAt w' g A bs pos' none ∧ Fr (fun k => k = g) w w') ∨
  (c ≠ 0 ∧ e = .returned z ∧ (∃ p, ReaderAt w' g A bs p (some ([(s, (pos : Int))], c))) ∧ Fr (fun k => k = g) w w')
theorem ReaderAt.wrong {w : World} {g : Nat} {A : Option Addr} {bs : List Int} {pos : Nat} (h : ReaderAt w g A bs pos none) (err : Option (List (ByteArray × Int) × Int)) : ReaderAt (w.setCell ⟨g, 2, none⟩ (errO err)) g A bs pos err := by
  obtain ⟨A', cap, h1, h2, hb⟩ := h.blk
  exact ⟨⟨A', cap, h1, h2, hb.set_ 2 (errO err)⟩, h.row.fr ((Fr.refl (fun k => k = g) w).setCell (p := ⟨g, 2, none⟩) (fun _ => rfl) _) (fun k ⟨o, e⟩ => h.ne k o e), h.le, h.ne, fun k o e => by simpa using h.alt k o e⟩
theorem next_bad_Int {w : World} {g : Nat} {A : Option Addr} {bs : List Int} {pos : Nat} {er : List (ByteArray × Int) × Int} (h : ReaderAt w g A bs pos (some er)) (s : ByteArray) (f : Value) :
    Calls Tryd.prog 39 #[.pointer (some ⟨g, 0, none⟩), .string s, f] w fun e w' => e = .returned (.int .i64 0) ∧ w = w' := by
  obtain ⟨A', cap, _, _, hb⟩ := h.blk
  obtain ⟨t, u, hu⟩ := errO_some er
  have c2 : w.cell? ⟨g, 2, none⟩ = some (.iface t u) := by rw [← hu]; exact hb.cell 2
  clear hb
  go_enter Tryd.func39, Tryd.ntmps39
  go_wp2
  go_ret
  exact ⟨rfl, rfl⟩
set_option maxRecDepth 100000 in
theorem next_Int {w : World} {g : Nat} {A : Option Addr} {bs : List Int} {pos pos' : Nat} {V : Value → World → Prop} {Z : Value → Prop} {c : Int} (h : ReaderAt w g A bs pos none) (s : ByteArray) (b1 b2 : Nat)
    (hof : Calls Tryd.prog 40 (#[] ++ #[.pointer (some ⟨b1, 0, none⟩), .pointer (some ⟨b2, 0, none⟩)]) w (ReadOut w g A bs V Z pos' c)) :
    Calls Tryd.prog 39 #[.pointer (some ⟨g, 0, none⟩), .string s, .func (.func 40) #[] #[.pointer (some ⟨b1, 0, none⟩), .pointer (some ⟨b2, 0, none⟩)]] w (NextOut w g A bs V pos' (.int .i64 0) s pos c) := by
  obtain ⟨A', cap, _, _, hb⟩ := h.blk
  have c1 : w.cell? ⟨g, 1, none⟩ = some (.int .i64 pos) := hb.cell 1
  have c2 : w.cell? ⟨g, 2, none⟩ = some .nilIface := hb.cell 2
  clear hb
  go_enter Tryd.func39, Tryd.ntmps39
  go_wp2_with fail
  refine hof.mono ?_
  rintro e w1 ⟨v, p, rfl, hv, _, h1, hf1⟩
  by_cases hc : c = 0
  · subst hc
    obtain ⟨hv1, rfl⟩ := hv rfl
    go_wp2
    go_ret
    exact .inl ⟨rfl, v, rfl, hv1, h1, hf1⟩
  · have hc1 : (c != 0) = true := by simpa using hc
    have hc2 : (c == 0) = false := by simpa using hc
    have HC := Lib.hid hc
    obtain ⟨A2, cap2, _, _, hb2⟩ := h1.blk
    have z2 := hb2.frozen 2
    have d2 : w1.cell? ⟨g, 2, none⟩ = some .nilIface := hb2.cell 2
    obtain ⟨t, u, hu⟩ := errV_iface [(s, (pos : Int))] c
    have HU : Hid (errO (some ([(s, (pos : Int))], c)) = .iface t u) := hu
    clear hc hv hb2
    go_wp2_with (first
      | (go_at_call 43; refine (fault_Of c hc2 _).mono ?_; rintro e w' ⟨rfl, rfl⟩)
      | (go_at_call 42; refine (fault_Wrap [] c _ _ _).mono ?_; rintro e w' ⟨rfl, rfl⟩; rw [hu]))
    go_ret
    refine .inr ⟨HC.out, rfl, ⟨p, ?_⟩, hf1.setCell (p := ⟨g, 2, none⟩) (fun _ => rfl) _⟩
    rw [← HU.out]
    exact h1.wrong _
theorem next_bad_Num {w : World} {g : Nat} {A : Option Addr} {bs : List Int} {pos : Nat} {er : List (ByteArray × Int) × Int} (h : ReaderAt w g A bs pos (some er)) (s : ByteArray) (f : Value) :
    Calls Tryd.prog 52 #[.pointer (some ⟨g, 0, none⟩), .string s, f] w fun e w' => e = .returned (.int .i64 0) ∧ w = w' := by
  obtain ⟨A', cap, _, _, hb⟩ := h.blk
  obtain ⟨t, u, hu⟩ := errO_some er
  have c2 : w.cell? ⟨g, 2, none⟩ = some (.iface t u) := by rw [← hu]; exact hb.cell 2
  clear hb
  go_enter Tryd.func52, Tryd.ntmps52
  go_wp2
  go_ret
  exact ⟨rfl, rfl⟩
set_option maxRecDepth 100000 in
theorem next_Num {w : World} {g : Nat} {A : Option Addr} {bs : List Int} {pos pos' : Nat} {V : Value → World → Prop} {Z : Value → Prop} {c : Int} (h : ReaderAt w g A bs pos none) (s : ByteArray) (b1 : Nat)
    (hof : Calls Tryd.prog 41 (#[.pointer (some ⟨b1, 0, none⟩)] ++ #[]) w (ReadOut w g A bs V Z pos' c)) :
    Calls Tryd.prog 52 #[.pointer (some ⟨g, 0, none⟩), .string s, .func (.func 41) #[.pointer (some ⟨b1, 0, none⟩)] #[]] w (NextOut w g A bs V pos' (.int .i64 0) s pos c) := by
  obtain ⟨A', cap, _, _, hb⟩ := h.blk
  have c1 : w.cell? ⟨g, 1, none⟩ = some (.int .i64 pos) := hb.cell 1
  have c2 : w.cell? ⟨g, 2, none⟩ = some .nilIface := hb.cell 2
  clear hb
  go_enter Tryd.func52, Tryd.ntmps52
  go_wp2_with fail
  refine hof.mono ?_
  rintro e w1 ⟨v, p, rfl, hv, _, h1, hf1⟩
  by_cases hc : c = 0
  · subst hc
    obtain ⟨hv1, rfl⟩ := hv rfl
    go_wp2
    go_ret
    exact .inl ⟨rfl, v, rfl, hv1, h1, hf1⟩
  · have hc1 : (c != 0) = true := by simpa using hc
    have hc2 : (c == 0) = false := by simpa using hc
    have HC := Lib.hid hc
    obtain ⟨A2, cap2, _, _, hb2⟩ := h1.blk
    have z2 := hb2.frozen 2
    have d2 : w1.cell? ⟨g, 2, none⟩ = some .nilIface := hb2.cell 2
    obtain ⟨t, u, hu⟩ := errV_iface [(s, (pos : Int))] c
    have HU : Hid (errO (some ([(s, (pos : Int))], c)) = .iface t u) := hu
    clear hc hv hb2
    go_wp2_with (first
      | (go_at_call 43; refine (fault_Of c hc2 _).mono ?_; rintro e w' ⟨rfl, rfl⟩)
      | (go_at_call 42; refine (fault_Wrap [] c _ _ _).mono ?_; rintro e w' ⟨rfl, rfl⟩; rw [hu]))
    go_ret
    refine .inr ⟨HC.out, rfl, ⟨p, ?_⟩, hf1.setCell (p := ⟨g, 2, none⟩) (fun _ => rfl) _⟩
    rw [← HU.out]
    exact h1.wrong _
theorem next_bad_Text {w : World} {g : Nat} {A : Option Addr} {bs : List Int} {pos : Nat} {er : List (ByteArray × Int) × Int} (h : ReaderAt w g A bs pos (some er)) (s : ByteArray) (f : Value) :
    Calls Tryd.prog 53 #[.pointer (some ⟨g, 0, none⟩), .string s, f] w fun e w' => e = .returned (.slice none 0 0) ∧ w = w' := by
  obtain ⟨A', cap, _, _, hb⟩ := h.blk
  obtain ⟨t, u, hu⟩ := errO_some er
  have c2 : w.cell? ⟨g, 2, none⟩ = some (.iface t u) := by rw [← hu]; exact hb.cell 2
  clear hb
  go_enter Tryd.func53, Tryd.ntmps53
  go_wp2
  go_ret
  exact ⟨rfl, rfl⟩
set_option maxRecDepth 100000 in
theorem next_Text {w : World} {g : Nat} {A : Option Addr} {bs : List Int} {pos pos' : Nat} {V : Value → World → Prop} {Z : Value → Prop} {c : Int} (h : ReaderAt w g A bs pos none) (s : ByteArray) (b1 : Nat)
    (hof : Calls Tryd.prog 54 (#[.pointer (some ⟨b1, 0, none⟩)] ++ #[]) w (ReadOut w g A bs V Z pos' c)) :
    Calls Tryd.prog 53 #[.pointer (some ⟨g, 0, none⟩), .string s, .func (.func 54) #[.pointer (some ⟨b1, 0, none⟩)] #[]] w (NextOut w g A bs V pos' (.slice none 0 0) s pos c) := by
  obtain ⟨A', cap, _, _, hb⟩ := h.blk
  have c1 : w.cell? ⟨g, 1, none⟩ = some (.int .i64 pos) := hb.cell 1
  have c2 : w.cell? ⟨g, 2, none⟩ = some .nilIface := hb.cell 2
  clear hb
  go_enter Tryd.func53, Tryd.ntmps53
  go_wp2_with fail
  refine hof.mono ?_
  rintro e w1 ⟨v, p, rfl, hv, _, h1, hf1⟩
  by_cases hc : c = 0
  · subst hc
    obtain ⟨hv1, rfl⟩ := hv rfl
    go_wp2
    go_ret
    exact .inl ⟨rfl, v, rfl, hv1, h1, hf1⟩
  · have hc1 : (c != 0) = true := by simpa using hc
    have hc2 : (c == 0) = false := by simpa using hc
    have HC := Lib.hid hc
    obtain ⟨A2, cap2, _, _, hb2⟩ := h1.blk
    have z2 := hb2.frozen 2
    have d2 : w1.cell? ⟨g, 2, none⟩ = some .nilIface := hb2.cell 2
    obtain ⟨t, u, hu⟩ := errV_iface [(s, (pos : Int))] c
    have HU : Hid (errO (some ([(s, (pos : Int))], c)) = .iface t u) := hu
    clear hc hv hb2
    go_wp2_with (first
      | (go_at_call 43; refine (fault_Of c hc2 _).mono ?_; rintro e w' ⟨rfl, rfl⟩)
      | (go_at_call 42; refine (fault_Wrap [] c _ _ _).mono ?_; rintro e w' ⟨rfl, rfl⟩; rw [hu]))
    go_ret
    refine .inr ⟨HC.out, rfl, ⟨p, ?_⟩, hf1.setCell (p := ⟨g, 2, none⟩) (fun _ => rfl) _⟩
    rw [← HU.out]
    exact h1.wrong _
theorem next_bad_List {w : World} {g : Nat} {A : Option Addr} {bs : List Int} {pos : Nat} {er : List (ByteArray × Int) × Int} (h : ReaderAt w g A bs pos (some er)) (s : ByteArray) (f : Value) :
    Calls Tryd.prog 55 #[.pointer (some ⟨g, 0, none⟩), .string s, f] w fun e w' => e = .returned (.slice none 0 0) ∧ w = w' := by
  obtain ⟨A', cap, _, _, hb⟩ := h.blk
  obtain ⟨t, u, hu⟩ := errO_some er
  have c2 : w.cell? ⟨g, 2, none⟩ = some (.iface t u) := by rw [← hu]; exact hb.cell 2
  clear hb
  go_enter Tryd.func55, Tryd.ntmps55
  go_wp2
  go_ret
  exact ⟨rfl, rfl⟩
set_option maxRecDepth 100000 in
theorem next_List {w : World} {g : Nat} {A : Option Addr} {bs : List Int} {pos pos' : Nat} {V : Value → World → Prop} {Z : Value → Prop} {c : Int} (h : ReaderAt w g A bs pos none) (s : ByteArray) (b1 b2 : Nat)
    (hof : Calls Tryd.prog 74 (#[] ++ #[.pointer (some ⟨b1, 0, none⟩), .pointer (some ⟨b2, 0, none⟩)]) w (ReadOut w g A bs V Z pos' c)) :
    Calls Tryd.prog 55 #[.pointer (some ⟨g, 0, none⟩), .string s, .func (.func 74) #[] #[.pointer (some ⟨b1, 0, none⟩), .pointer (some ⟨b2, 0, none⟩)]] w (NextOut w g A bs V pos' (.slice none 0 0) s pos c) := by
  obtain ⟨A', cap, _, _, hb⟩ := h.blk
  have c1 : w.cell? ⟨g, 1, none⟩ = some (.int .i64 pos) := hb.cell 1
  have c2 : w.cell? ⟨g, 2, none⟩ = some .nilIface := hb.cell 2
  clear hb
  go_enter Tryd.func55, Tryd.ntmps55
  go_wp2_with fail
  refine hof.mono ?_
  rintro e w1 ⟨v, p, rfl, hv, _, h1, hf1⟩
  by_cases hc : c = 0
  · subst hc
    obtain ⟨hv1, rfl⟩ := hv rfl
    go_wp2
    go_ret
    exact .inl ⟨rfl, v, rfl, hv1, h1, hf1⟩
  · have hc1 : (c != 0) = true := by simpa using hc
    have hc2 : (c == 0) = false := by simpa using hc
    have HC := Lib.hid hc
    obtain ⟨A2, cap2, _, _, hb2⟩ := h1.blk
    have z2 := hb2.frozen 2
    have d2 : w1.cell? ⟨g, 2, none⟩ = some .nilIface := hb2.cell 2
    obtain ⟨t, u, hu⟩ := errV_iface [(s, (pos : Int))] c
    have HU : Hid (errO (some ([(s, (pos : Int))], c)) = .iface t u) := hu
    clear hc hv hb2
    go_wp2_with (first
      | (go_at_call 43; refine (fault_Of c hc2 _).mono ?_; rintro e w' ⟨rfl, rfl⟩)
      | (go_at_call 42; refine (fault_Wrap [] c _ _ _).mono ?_; rintro e w' ⟨rfl, rfl⟩; rw [hu]))
    go_ret
    refine .inr ⟨HC.out, rfl, ⟨p, ?_⟩, hf1.setCell (p := ⟨g, 2, none⟩) (fun _ => rfl) _⟩
    rw [← HU.out]
    exact h1.wrong _
theorem next_bad_Nums {w : World} {g : Nat} {A : Option Addr} {bs : List Int} {pos : Nat} {er : List (ByteArray × Int) × Int} (h : ReaderAt w g A bs pos (some er)) (s : ByteArray) (f : Value) :
    Calls Tryd.prog 57 #[.pointer (some ⟨g, 0, none⟩), .string s, f] w fun e w' => e = .returned (.slice none 0 0) ∧ w = w' := by
  obtain ⟨A', cap, _, _, hb⟩ := h.blk
  obtain ⟨t, u, hu⟩ := errO_some er
  have c2 : w.cell? ⟨g, 2, none⟩ = some (.iface t u) := by rw [← hu]; exact hb.cell 2
  clear hb
  go_enter Tryd.func57, Tryd.ntmps57
  go_wp2
  go_ret
  exact ⟨rfl, rfl⟩
set_option maxRecDepth 100000 in
theorem next_Nums {w : World} {g : Nat} {A : Option Addr} {bs : List Int} {pos pos' : Nat} {V : Value → World → Prop} {Z : Value → Prop} {c : Int} (h : ReaderAt w g A bs pos none) (s : ByteArray) (b1 b2 : Nat)
    (hof : Calls Tryd.prog 75 (#[] ++ #[.pointer (some ⟨b1, 0, none⟩), .pointer (some ⟨b2, 0, none⟩)]) w (ReadOut w g A bs V Z pos' c)) :
    Calls Tryd.prog 57 #[.pointer (some ⟨g, 0, none⟩), .string s, .func (.func 75) #[] #[.pointer (some ⟨b1, 0, none⟩), .pointer (some ⟨b2, 0, none⟩)]] w (NextOut w g A bs V pos' (.slice none 0 0) s pos c) := by
  obtain ⟨A', cap, _, _, hb⟩ := h.blk
  have c1 : w.cell? ⟨g, 1, none⟩ = some (.int .i64 pos) := hb.cell 1
  have c2 : w.cell? ⟨g, 2, none⟩ = some .nilIface := hb.cell 2
  clear hb
  go_enter Tryd.func57, Tryd.ntmps57
  go_wp2_with fail
  refine hof.mono ?_
  rintro e w1 ⟨v, p, rfl, hv, _, h1, hf1⟩
  by_cases hc : c = 0
  · subst hc
    obtain ⟨hv1, rfl⟩ := hv rfl
    go_wp2
    go_ret
    exact .inl ⟨rfl, v, rfl, hv1, h1, hf1⟩
  · have hc1 : (c != 0) = true := by simpa using hc
    have hc2 : (c == 0) = false := by simpa using hc
    have HC := Lib.hid hc
    obtain ⟨A2, cap2, _, _, hb2⟩ := h1.blk
    have z2 := hb2.frozen 2
    have d2 : w1.cell? ⟨g, 2, none⟩ = some .nilIface := hb2.cell 2
    obtain ⟨t, u, hu⟩ := errV_iface [(s, (pos : Int))] c
    have HU : Hid (errO (some ([(s, (pos : Int))], c)) = .iface t u) := hu
    clear hc hv hb2
    go_wp2_with (first
      | (go_at_call 43; refine (fault_Of c hc2 _).mono ?_; rintro e w' ⟨rfl, rfl⟩)
      | (go_at_call 42; refine (fault_Wrap [] c _ _ _).mono ?_; rintro e w' ⟨rfl, rfl⟩; rw [hu]))
    go_ret
    refine .inr ⟨HC.out, rfl, ⟨p, ?_⟩, hf1.setCell (p := ⟨g, 2, none⟩) (fun _ => rfl) _⟩
    rw [← HU.out]
    exact h1.wrong _
end Go.Proofs.YtkbcobbnjiekfaaDoor
