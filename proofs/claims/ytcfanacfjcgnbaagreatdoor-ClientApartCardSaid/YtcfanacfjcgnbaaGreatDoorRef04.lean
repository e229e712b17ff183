/- cohortref04: Group, Signed, Sign: the document's seals. -/
import Derived.Test.YtcfanacfjcgnbaaGreatDoorSmall
namespace Go.Proofs.YtcfanacfjcgnbaaGreatDoor
open Go Go.RowKit
theorem group_spec (who : Int) : (groupOf who = -1 ∧ placeOf who = -1 ∧ ∀ g i : Int, 0 ≤ g → g < 8 → 0 ≤ i → i < 10 → (memberOf g i == who) = false) ∨
    (∃ G Q : Nat, G < 8 ∧ Q < 10 ∧ groupOf who = G ∧ placeOf who = Q ∧ (memberOf G Q == who) = true ∧ ∀ g i : Int, 0 ≤ g → g < 8 → 0 ≤ i → i < 10 → ¬ (g = G ∧ i = Q) → (memberOf g i == who) = false) := by
  by_cases h : who < 100 ∨ 8 ≤ (who - 100) / 16 ∨ 10 ≤ (who - 100) % 16
  · refine .inl ⟨by simp only [groupOf, if_pos h], by simp only [placeOf, if_pos h], fun g i h1 h2 h3 h4 => ?_⟩
    rw [beq_eq_false_iff_ne, memberOf, if_neg (by omega)]
    omega
  · refine .inr ⟨((who - 100) / 16).toNat, ((who - 100) % 16).toNat, by omega, by omega, by simp only [groupOf, if_neg h]; omega, by simp only [placeOf, if_neg h]; omega, ?_, fun g i h1 h2 h3 h4 h5 => ?_⟩
    · rw [beq_iff_eq, memberOf, if_neg (by omega)]
      omega
    · rw [beq_eq_false_iff_ne, memberOf, if_neg (by omega)]
      omega
theorem ref04_Group (who : Int) (w : World) : Calls Tryz.prog 45 #[.int .i64 who] w fun e w' => e = .returned (.tuple #[.int .i64 (groupOf who), .int .i64 (placeOf who)]) ∧ w = w' := by
  rcases group_spec who with ⟨e1, e2, hno⟩ | ⟨G, Q, hG, hQ, e1, e2, hyes, hno⟩
  · rw [e1, e2]
    clear e1 e2
    go_enter Tryz.func45, Tryz.ntmps45
    go_wp2
    go_loop [4] (fun g => ∃ k : Nat, k ≤ 8 ∧ g = .int .i64 k) (fun g => 8 - (intOf g).toNat)
    case atStart => exact ⟨0, by omega, rfl⟩
    case round =>
      obtain ⟨k, hk, rfl⟩ := hrel
      by_cases hlt : k < 8
      · go_wp2
        go_loop [5] (fun i => ∃ j : Nat, j ≤ 10 ∧ i = .int .i64 j) (fun i => 10 - (intOf i).toNat)
        case atStart => exact ⟨0, by omega, rfl⟩
        case round =>
          obtain ⟨j, hj, rfl⟩ := hrel
          by_cases hl2 : j < 10
          · have ht := hno k j (by omega) (by omega) (by omega) (by omega)
            go_wp2_with (go_at_call 27; refine (ref04_Member k j _).mono ?_; rintro e w' ⟨rfl, rfl⟩)
            go_round
            case rel => exact ⟨j + 1, by omega, by go_num⟩
            case measure => simp [intOf]; omega
          · obtain rfl : j = 10 := by omega
            go_wp2
            go_round
            case rel => exact ⟨k + 1, by omega, by go_num⟩
            case measure => simp [intOf]; omega
      · obtain rfl : k = 8 := by omega
        go_wp2
        go_ret2
        exact ⟨rfl, rfl⟩
  · rw [e1, e2]
    clear e1 e2
    go_enter Tryz.func45, Tryz.ntmps45
    go_wp2
    go_loop [4] (fun g => ∃ k : Nat, k ≤ G ∧ g = .int .i64 k) (fun g => 8 - (intOf g).toNat)
    case atStart => exact ⟨0, by omega, rfl⟩
    case round =>
      obtain ⟨k, hk, rfl⟩ := hrel
      have hlt : k < 8 := by omega
      go_wp2
      go_loop [5] (fun i => ∃ j : Nat, j ≤ 10 ∧ (k = G → j ≤ Q) ∧ i = .int .i64 j) (fun i => 10 - (intOf i).toNat)
      case atStart => exact ⟨0, by omega, fun _ => by omega, rfl⟩
      case round =>
        obtain ⟨j, hj, hjQ, rfl⟩ := hrel
        by_cases hl2 : j < 10
        · by_cases he : k = G ∧ j = Q
          · obtain ⟨rfl, rfl⟩ := he
            clear hjQ hno
            go_wp2_with (go_at_call 27; refine (ref04_Member k j _).mono ?_; rintro e w' ⟨rfl, rfl⟩)
            go_ret2
            exact ⟨rfl, rfl⟩
          · have ht := hno k j (by omega) (by omega) (by omega) (by omega) (by omega)
            have HQ : Hid (k = G → j + 1 ≤ Q) := fun e => by have := hjQ e; omega
            clear hjQ hno hyes
            go_wp2_with (go_at_call 27; refine (ref04_Member k j _).mono ?_; rintro e w' ⟨rfl, rfl⟩)
            go_round
            case rel => exact ⟨j + 1, by omega, HQ.out, by go_num⟩
            case measure => simp [intOf]; omega
        · obtain rfl : j = 10 := by omega
          have hkG : k + 1 ≤ G := by
            by_cases e : k = G
            · have := hjQ e; omega
            · omega
          clear hjQ hno hyes
          go_wp2
          go_round
          case rel => exact ⟨k + 1, by omega, by go_num⟩
          case measure => simp [intOf]; omega
/-- The document's seals behind the pointer to block g: the slice v, with these pairs. -/
structure RefAt (w : World) (g base : Nat) (v : Value) (L : List (Int × Int)) : Prop where
  blk : Blk w g 72 #[v]
  own : w.ownsRow base 118 2 v L.length (pairCells L)
theorem RefAt.drewN {w : World} {g base : Nat} {v : Value} {L : List (Int × Int)} (h : RefAt w g base v L) (n : Nat) : RefAt (w.drewN n) g base v L := ⟨h.blk, h.own⟩
theorem RefAt.fr {S : Nat → Prop} {w w' : World} {g base : Nat} {v : Value} {L : List (Int × Int)} (h : RefAt w g base v L) (hf : Fr S w w') (hg : ¬ S g) (hv : ∀ k, v.ownBlock = some k → ¬ S k) : RefAt w' g base v L := ⟨h.blk.fr hf hg, own_fr h.own hf hv⟩
set_option maxRecDepth 100000 in
theorem ref04_Signed {w : World} {g base : Nat} {v : Value} {L : List (Int × Int)} (h : RefAt w g base v L) (hL : L.length ≤ 1099511627776) (who d : Int) :
    Calls Tryz.prog 47 #[.pointer (some ⟨g, 0, none⟩), .int .i64 who, .int .i64 d] w fun e w' => e = .returned (.bool (decide ((who, d) ∈ L))) ∧ w = w' := by
  obtain ⟨A, cap, rfl, hcap, hat⟩ := own_form h.own
  have hc := h.blk.cell 0
  go_enter Tryz.func47, Tryz.ntmps47
  go_wp2
  go_loop [7] (fun i => ∃ k : Nat, k ≤ L.length ∧ i = .int .i64 k ∧ (who, d) ∉ L.take k) (fun i => L.length - (intOf i).toNat)
  case atStart => exact ⟨0, by omega, rfl, by simp⟩
  case round =>
    obtain ⟨k, hk, rfl, hno⟩ := hrel
    by_cases hlt : k < L.length
    · obtain ⟨p, hp⟩ : ∃ p, L[k]? = some p := ⟨L[k], List.getElem?_eq_getElem hlt⟩
      obtain ⟨q0, q1⟩ := pairCells_at L k p hp
      obtain ⟨b, rfl, _, h0⟩ := hat _ _ q0
      obtain ⟨b', hb', _, h1⟩ := hat _ _ q1
      cases hb'
      clear hat q0 q1
      by_cases e0 : p.1 = who
      · by_cases e1 : p.2 = d
        · have hmem : (who, d) ∈ L := by
            obtain ⟨p1, p2⟩ := p
            simp only at e0 e1
            subst e0; subst e1
            exact List.mem_of_getElem? hp
          have t0 : (p.1 == who) = true := by simpa using e0
          have t1 : (p.2 == d) = true := by simpa using e1
          clear e0 e1 hno hp
          go_wp2
          go_ret
          exact ⟨rfl, rfl⟩
        · have HN : Hid ((who, d) ∉ L.take (k + 1)) := notin_take_succ hno hp (fun e => e1 (by rw [e]))
          have t0 : (p.1 == who) = true := by simpa using e0
          have t1 : (p.2 == d) = false := by simpa using e1
          clear e0 e1 hno hp
          go_wp2
          go_round
          case rel => exact ⟨k + 1, by omega, by go_num, HN.out⟩
          case measure => simp [intOf]; omega
      · have HN : Hid ((who, d) ∉ L.take (k + 1)) := notin_take_succ hno hp (fun e => e0 (by rw [e]))
        have t0 : (p.1 == who) = false := by simpa using e0
        clear e0 hno hp
        go_wp2
        go_round
        case rel => exact ⟨k + 1, by omega, by go_num, HN.out⟩
        case measure => simp [intOf]; omega
    · obtain rfl : k = L.length := by omega
      have hno' : (who, d) ∉ L := by simpa using hno
      clear hno
      go_wp2
      go_ret
      exact ⟨by simp, rfl⟩
def signCode (who d : Int) (L : List (Int × Int)) : Int := if signBad who d = true then 1 else if (who, d) ∈ L then 0 else if ((L.length : Int) == 131072) = true then 2 else 0
theorem refSeal_info : (Tryz.prog.info? 118).map (fun i => (i.zero, i.size, i.bytes)) = some (some (.agg #[.int .i64 0, .int .i64 0]), 2, 16) := by kernel_rfl
section
variable {who d : Int} {L : List (Int × Int)}
theorem signC_bad (h : (clientOf who < 0 ∧ groupOf who < 0) ∨ d < 0) : signCode who d L = 1 ∧ signL who d L = L := by
  simp [signCode, signL, signBad, h]
theorem signC_in (h : ¬ ((clientOf who < 0 ∧ groupOf who < 0) ∨ d < 0)) (hm : (who, d) ∈ L) : signCode who d L = 0 ∧ signL who d L = L := by
  simp [signCode, signL, signBad, h, hm]
theorem signC_new (h : ¬ ((clientOf who < 0 ∧ groupOf who < 0) ∨ d < 0)) (hm : (who, d) ∉ L) (hl : ((L.length : Int) == 131072) = false) : signCode who d L = 0 ∧ signL who d L = L ++ [(who, d)] := by
  simp only [signCode, signL, signBad, h, hm, hl]
  simp
end
def RefSigned (g base : Nat) (v : Value) (who d : Int) (L : List (Int × Int)) (w : World) (e : Ending) (w' : World) : Prop :=
  ∃ v', e = .returned (.int .i64 (signCode who d L)) ∧ RefAt w' g base v' (signL who d L) ∧ Fr (fun k => k = g ∨ v.ownBlock = some k) w w'
set_option maxRecDepth 100000 in
theorem ref04_Sign {w : World} {g base : Nat} {v : Value} {L : List (Int × Int)} (h : RefAt w g base v L) (hbase : base ≤ w.heap.size) (hL : L.length < 131072) (who d : Int) :
    Calls Tryz.prog 29 #[.pointer (some ⟨g, 0, none⟩), .int .i64 who, .int .i64 d] w (RefSigned g base v who d L w) := by
  obtain ⟨A, cap, rfl, hcap, hat⟩ := own_form h.own
  clear hat
  have hc := h.blk.cell 0
  have HL : Hid (L.length < 131072) := hL
  have ht : decide ((131072 : Int) ≤ (L.length : Int)) = false := decide_eq_false (by omega)
  clear hL
  go_enter Tryz.func29, Tryz.ntmps29
  go_wp2_with (first
    | (go_at_call 45; refine (ref04_Group who _).mono ?_; rintro e w' ⟨rfl, rfl⟩)
    | (go_at_call 46; refine (ref04_Client who _).mono ?_; rintro e w' ⟨rfl, rfl⟩)
    | (go_at_call 47; refine (ref04_Signed h (by have := HL.out; omega) who d).mono ?_; rintro e w' ⟨rfl, rfl⟩)
    | (at_builtin; go_loud (refine wpList_append_el _ rfl _ _ _ rfl base 118 (.agg #[.int .i64 0, .int .i64 0]) 2 16 Tryz.underlying70 refSeal_info rfl (by omega) (.slice A L.length cap) _ _ rfl (h.own.alloc _) w.heap.size [.int .i64 who, .int .i64 d] rfl rfl ?_ ?_ ?_ (by omega) ?_ ?_); (· exact cell_two _ _ _ _); (· simp [Value.oneCell']); (· have := HL.out; omega); (· simp; omega); intro g2 c2 w2 hown2 hf2; (have hb2 := (h.blk.alloc _).fr hf2 (own_ne_blk h.own h.blk (by decide))); have hc2 := hb2.cell 0; have hz2 := hb2.frozen 0))
  all_goals go_ret
  all_goals unfold RefSigned
  all_goals first
    | (obtain ⟨q1, q2⟩ := signC_bad (L := L) (show (clientOf who < 0 ∧ groupOf who < 0) ∨ d < 0 by omega); rw [q1, q2]; exact ⟨_, rfl, h, Fr.refl _ _⟩)
    | (obtain ⟨q1, q2⟩ := signC_in (L := L) (show ¬ ((clientOf who < 0 ∧ groupOf who < 0) ∨ d < 0) by omega) ‹_›; rw [q1, q2]; exact ⟨_, rfl, h, Fr.refl _ _⟩)
    | (obtain ⟨q1, q2⟩ := signC_new (L := L) (show ¬ ((clientOf who < 0 ∧ groupOf who < 0) ∨ d < 0) by omega) ‹_› (beq_eq_false_iff_ne.2 (by have := HL.out; omega)); rw [q1, q2]; refine ⟨_, rfl, ⟨hb2.set_ 0 _, ?_⟩, ?_⟩; (· rw [pairCells_snoc, List.length_append]; exact own_setCell hown2 hb2 (by decide) _ _); exact (((Fr.refl _ _).alloc _).trans hf2 (fun _ _ hx => .inr hx)).setCell (fun _ => .inl rfl) _)
end Go.Proofs.YtcfanacfjcgnbaaGreatDoor
