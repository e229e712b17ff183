/- RelayFewSaid: for every input the law returns true, and each argument reads behind the call as it read before. No condition. -/
import Derived.Deep.RegionHeld3
import Derived.Test.YtmkdhhhoodeemaaGreatRows
import Derived.WalkKit
import Derived.ProofKit
import Derived.OpenShut
import Derived.ChangeOld
import Derived.Below
import Derived.Carry
import Derived.Test.YtmkdhhhoodeemaaGreatFewProofGa
import Derived.Test.YtmkdhhhoodeemaaGreatFewProofGb
import Derived.Test.YtmkdhhhoodeemaaGreatFewProofGc
import Derived.Test.YtmkdhhhoodeemaaGreatFewProofGd
import Derived.Test.YtmkdhhhoodeemaaGreatFewProofGe
import Derived.Test.YtmkdhhhoodeemaaGreatFewProofGf
import Derived.Test.YtmkdhhhoodeemaaGreatFewProofGg
import Derived.Test.YtmkdhhhoodeemaaGreatFewProofJa
import Derived.Test.YtmkdhhhoodeemaaGreatFewProofJb
import Derived.Test.YtmkdhhhoodeemaaGreatFewProofJc
import Derived.Test.YtmkdhhhoodeemaaGreatFewProofJd
set_option linter.unusedVariables false
set_option linter.unusedSimpArgs false
/- cohortlaw19: RelayFew. -/
namespace Go.Proofs.YtmkdhhhoodeemaaGreat
open Go Go.RowKit
/-- How many of the first places a mask has. -/
def popN (mask : Int) (k : Nat) : Nat := ((List.range k).filter fun i => bitOn mask i).length
theorem popN_succ (mask : Int) (k : Nat) : popN mask (k + 1) = popN mask k + (if bitOn mask k = true then 1 else 0) := by
  unfold popN
  rw [List.range_succ, List.filter_append, List.length_append]
  cases h : bitOn mask k <;> simp [h]
theorem popN_le (mask : Int) (k : Nat) : popN mask k ≤ k := by
  unfold popN
  have := List.length_filter_le (fun i => bitOn mask i) (List.range k)
  simpa using this
theorem bit_one {a : Int} (h : (bits .and .i64 a 1 == 1) = false) : bits .and .i64 a 1 = 0 := by
  have e : bits .and .i64 a 1 = IntKind.i64.wrap (((BitVec.ofInt 64 a) &&& (BitVec.ofInt 64 1)).toNat : Int) := rfl
  have h2 : ((BitVec.ofInt 64 a) &&& (BitVec.ofInt 64 1)).toNat = (BitVec.ofInt 64 a).toNat % 2 := by
    rw [BitVec.toNat_and, show (BitVec.ofInt 64 1).toNat = 1 from rfl, Nat.and_one_is_mod]
  rw [e, h2] at h ⊢
  have h3 : (BitVec.ofInt 64 a).toNat % 2 = 0 ∨ (BitVec.ofInt 64 a).toNat % 2 = 1 := by omega
  rcases h3 with h3 | h3
  · rw [h3]; rfl
  · rw [h3] at h
    exact absurd h (by decide)
theorem who_pop {G mask d : Int} : (whoInts G d (signTo G mask d [] 10)).length ≤ popN mask 10 := by
  rw [whoInts_length]
  unfold whoTo popN
  have e : (List.range 10).filter (fun (i : Nat) => decide (0 ≤ memberOf G i ∧ (memberOf G i, d) ∈ signTo G mask d [] 10)) = ((List.range 10).filter fun i => bitOn mask i).filter (fun (i : Nat) => decide (0 ≤ memberOf G i ∧ (memberOf G i, d) ∈ signTo G mask d [] 10)) := by
    rw [List.filter_filter]
    apply List.filter_congr
    intro i hi
    rw [Bool.eq_iff_iff, Bool.and_eq_true, decide_eq_true_eq]
    constructor
    · rintro ⟨h1, h2⟩
      refine ⟨⟨h1, h2⟩, ?_⟩
      rcases (mem_signTo 10 (by simp)).1 h2 with h | ⟨j, hj, hb, _, he⟩
      · cases h
      · have h3 : memberOf G i = memberOf G j := (Prod.mk.inj he).1
        have hij : i = j := by
          have hi' := List.mem_range.1 hi
          unfold memberOf at h1 h3
          split at h1
          · omega
          · rename_i h4
            rw [if_neg h4] at h3
            split at h3 <;> omega
        rw [hij]; exact hb
    · exact fun h => h.1
  rw [e]
  exact List.length_filter_le _ _
theorem WP.openLo {w : World} {lo gw : Nat} {L : List (List Int)} {SL : List (Int × Int)} {nQ : Nat} (h : WP w lo gw L SL nQ) : ∃ g m base v gs ms gD gQ, Lens w lo gw L SL nQ g m base v gs ms gD gQ ∧ lo ≤ g ∧ lo ≤ m ∧ lo ≤ base := by
  obtain ⟨hg, LD, hp, g, m, base, v, gs, ms, gD, bD, vD, gQ, bQ, vQ, SQ, h, hq⟩ := h
  refine ⟨g, m, base, v, gs, ms, gD, gQ, ⟨h.blk, h.bs, h.b_le, h.blk.cell 0, h.blk.cell 1, fun w' v' L' SL' hb hf hg' hp' => ?_⟩, h.lo_g, h.lo_m, h.lo_b⟩
  obtain ⟨h1, h2⟩ := h.step hb hf
  exact ⟨⟨hg', LD, hp.trans hp', g, m, base, v', gs, ms, gD, bD, vD, gQ, bQ, vQ, SQ, h1, hq⟩, h2⟩
def greatL (ff tt : ByteArray) (n : Nat) : Bool := decide ((1000 : Int) < (ff.size : Int)) || decide ((1000 : Int) < (tt.size : Int)) || decide ((200 : Int) < (n : Int))
set_option maxRecDepth 100000 in
set_option maxHeartbeats 1000000 in
theorem law19_GreatL {w : World} {kind txn : Int} {yes : Bool} {ff tt : ByteArray} {epoch shard target root : Int} {A : Option Addr} {n cap : Nat} :
    Calls Tryz.prog 10 #[.agg #[.int .i64 kind, .int .i64 txn, .bool yes, .string ff, .string tt, .int .i64 epoch, .int .i64 shard, .int .i64 target, .int .i64 root], .agg #[.int .i64 0, .int .i64 0, .slice none 0 0, .slice none 0 0], .slice A n cap, .slice none 0 0] w (OkB w (greatL ff tt n)) := by
  have hS0 := (Blk.new w 23 #[.int .i64 kind, .int .i64 txn, .bool yes, .string ff, .string tt, .int .i64 epoch, .int .i64 shard, .int .i64 target, .int .i64 root]).alloc (Obj.cells #[.int .i64 0, .int .i64 0, .slice none 0 0, .slice none 0 0] 29)
  have hT0 : Blk ((w.alloc (Obj.cells #[.int .i64 kind, .int .i64 txn, .bool yes, .string ff, .string tt, .int .i64 epoch, .int .i64 shard, .int .i64 target, .int .i64 root] 23)).alloc (Obj.cells #[.int .i64 0, .int .i64 0, .slice none 0 0, .slice none 0 0] 29)) (w.heap.size + 1) 29 #[.int .i64 0, .int .i64 0, .slice none 0 0, .slice none 0 0] := Blk.new_ _ _ _ (by simp)
  have hf0 : Fr (fun _ => False) w ((w.alloc (Obj.cells #[.int .i64 kind, .int .i64 txn, .bool yes, .string ff, .string tt, .int .i64 epoch, .int .i64 shard, .int .i64 target, .int .i64 root] 23)).alloc (Obj.cells #[.int .i64 0, .int .i64 0, .slice none 0 0, .slice none 0 0] 29)) := ((Fr.refl _ _).alloc _).alloc _
  have he : greatL ff tt n = (decide ((1000 : Int) < (ff.size : Int)) || decide ((1000 : Int) < (tt.size : Int)) || decide ((200 : Int) < (n : Int))) := rfl
  rw [he]
  clear he
  go_enter Tryz.func10, Tryz.ntmps10
  go_upto_region 1 with fail
  generalize ((w.alloc (Obj.cells #[.int .i64 kind, .int .i64 txn, .bool yes, .string ff, .string tt, .int .i64 epoch, .int .i64 shard, .int .i64 target, .int .i64 root] 23)).alloc (Obj.cells #[.int .i64 0, .int .i64 0, .slice none 0 0, .slice none 0 0] 29)) = w0 at *
  have s3 := hS0.cell 3
  have s4 := hS0.cell 4
  have t2 := hT0.cell 2
  have t3 := hT0.cell 3
  by_cases g1 : (1000 : Int) < (ff.size : Int)
  · go_wp2
    go_ret
    exact ⟨by simp [g1], hf0⟩
  · by_cases g2 : (1000 : Int) < (tt.size : Int)
    · go_wp2
      go_ret
      exact ⟨by simp [g2], hf0⟩
    · by_cases g3 : (200 : Int) < (n : Int)
      · go_wp2
        go_ret
        exact ⟨by simp [g3], hf0⟩
      · go_wp2
        go_ret
        exact ⟨by simp [g1, g2, g3], hf0⟩
theorem TasksAt.form_ {w : World} {base : Nat} {v : Value} {gs b : List Int} (h : TasksAt w base v gs b) : ∃ A c, v = .slice A gs.length c := by
  obtain ⟨vals, h1, _⟩ := h
  obtain ⟨A, c, rfl, _, _⟩ := own_form h1
  exact ⟨A, c, rfl⟩
/-- Behind the signing. -/
def FewSt (w1 : World) (gw : Nat) (G mask : Int) (s : SayD) (w' : World) : Prop :=
  ∃ L SL nQ, WP w' w1.heap.size gw L SL nQ ∧ L.length ≤ 1 ∧ (whoInts G (sayI L s) SL).length ≤ popN mask 10 ∧ St w1.heap.size w1 w'
set_option maxRecDepth 100000 in
set_option maxHeartbeats 4000000 in
theorem relayFew_walk {w : World} {G mask kind txn : Int} {yes : Bool} {ff tt : ByteArray} {epoch shard target root : Int} {A : Option Addr} {cap : Nat} {l : List Ent} (hE : EntRow w (fun k => k < w.heap.size) A l) (hll : l.length ≤ 9223372036854775807) :
    Calls Tryz.prog 5 #[.agg #[.int .i64 G, .int .i64 kind, .int .i64 txn, .bool yes, .string ff, .string tt, .int .i64 epoch, .int .i64 shard, .int .i64 target, .int .i64 root], .int .i64 mask, .slice A l.length cap] w (Bool1 w true) := by
  have hH0 := Blk.new w 25 #[.int .i64 G, .int .i64 kind, .int .i64 txn, .bool yes, .string ff, .string tt, .int .i64 epoch, .int .i64 shard, .int .i64 target, .int .i64 root]
  have hf0 : Fr (fun _ => False) w (w.alloc (Obj.cells #[.int .i64 G, .int .i64 kind, .int .i64 txn, .bool yes, .string ff, .string tt, .int .i64 epoch, .int .i64 shard, .int .i64 target, .int .i64 root] 25)) := (Fr.refl _ _).alloc _
  have HEN := Lib.hid hE
  clear hE
  go_enter Tryz.func5, Tryz.ntmps5
  go_upto_region 1 with fail
  generalize w.alloc (Obj.cells #[.int .i64 G, .int .i64 kind, .int .i64 txn, .bool yes, .string ff, .string tt, .int .i64 epoch, .int .i64 shard, .int .i64 target, .int .i64 root] 25) = w0 at *
  go_upto_region 2 with (go_at_call 8; refine (law19_head _).mono ?_; rintro e w1 ⟨rfl, hf1⟩)
  have hH1 := hH0.fr hf1 id
  have hf01 := hf0.then_ hf1
  clear hH0 hf0 hf1
  go_upto_region 3 with (go_at_call 9; refine (wp_Start _).mono ?_; rintro e w2 ⟨gw, rfl, hgw, h2, hf2⟩)
  have hH2 := hH1.fr hf2 id
  have hst2 : St w1.heap.size w1 w2 := St.of _ hf2
  have hH1lt := hH1.lt
  clear hf2
  have k1 := hH2.cell 1
  have k2 := hH2.cell 2
  have k3 := hH2.cell 3
  have k4 := hH2.cell 4
  have k5 := hH2.cell 5
  have k6 := hH2.cell 6
  have k7 := hH2.cell 7
  have k8 := hH2.cell 8
  have k9 := hH2.cell 9
  have HGr := Lib.hid (fun w => law19_GreatL (w := w) (kind := kind) (txn := txn) (yes := yes) (ff := ff) (tt := tt) (epoch := epoch) (shard := shard) (target := target) (root := root) (A := A) (n := l.length) (cap := cap))
  cases hgr : greatL ff tt l.length with
  | true =>
    rw [hgr] at HGr
    clear hgr
    go_wp2_with (go_at_call 10; refine (HGr.out _).mono ?_; rintro e w3 ⟨rfl, hf3⟩)
    go_ret
    exact ⟨rfl, hf01.trans ((hst2.trans (St.of _ hf3)).fr) (fun k hk e => by have := hf01.size; omega)⟩
  | false =>
    rw [hgr] at HGr
    have hll2 : Hid (l.length ≤ 60000) := by
      unfold greatL at hgr
      simp only [Bool.or_eq_false_iff, decide_eq_false_iff_not] at hgr
      show _ ≤ _
      omega
    clear hgr
    go_upto_region 5 with (go_at_call 10; refine (HGr.out _).mono ?_; rintro e w3 ⟨rfl, hf3⟩)
    have hH3 := hH2.fr hf3 id
    have h3 := h2.keep hf3
    have hst3 := hst2.trans (St.of _ hf3)
    clear HGr hH2 h2 hst2 hf3 k1 k2 k3 k4 k5 k6 k7 k8 k9
    have k1 := hH3.cell 1
    have k2 := hH3.cell 2
    have k3 := hH3.cell 3
    have k4 := hH3.cell 4
    have k5 := hH3.cell 5
    have k6 := hH3.cell 6
    have k7 := hH3.cell 7
    have k8 := hH3.cell 8
    have k9 := hH3.cell 9
    have HP := ref11_Put1 w3 kind txn yes ff tt epoch shard target root
    have hHP := hH1
    obtain ⟨bs, hbs⟩ : ∃ bs, Hid ((if OkSay ⟨kind, txn, yes, ff, tt, epoch, shard, target, root⟩ then sayB ⟨kind, txn, yes, ff, tt, epoch, shard, target, root⟩ else []) = bs) := ⟨_, rfl⟩
    rw [hbs.out] at HP
    have hbz : Hid (bs.length = 0 ↔ ¬ OkSay ⟨kind, txn, yes, ff, tt, epoch, shard, target, root⟩) := by
      show _ ↔ _
      rw [← hbs.out]
      by_cases hok : OkSay ⟨kind, txn, yes, ff, tt, epoch, shard, target, root⟩
      · rw [if_pos hok]
        have := (sayB_length hok).1
        exact ⟨fun h => by omega, fun h => absurd hok h⟩
      · rw [if_neg hok]
        simp [hok]
    replace HP := Lib.hid HP
    go_upto_if 39 with (go_at_call 12; refine HP.out.mono ?_; rintro e w4 ⟨v4, rfl, hv4, hf4⟩; obtain ⟨A4, cap4, rfl, _, _⟩ := hv4.form)
    have hH4 := hH3.fr hf4 id
    have h4 := h3.keep hf4
    have hst4 := hst3.trans (St.of _ hf4)
    clear hH3 h3 hst3 hf4 HP k1 k2 k3 k4 k5 k6 k7 k8 k9
    go_cut [39] from 40 to 47 (fun _ wx => FewSt w1 gw G mask ⟨kind, txn, yes, ff, tt, epoch, shard, target, root⟩ wx)
    case first =>
      by_cases hok : OkSay ⟨kind, txn, yes, ff, tt, epoch, shard, target, root⟩
      · have hbs1 : sayB ⟨kind, txn, yes, ff, tt, epoch, shard, target, root⟩ = bs := by have := hbs.out; rw [if_pos hok] at this; exact this
        have hyl : Hid (bs.length ≤ 65536) := by
          obtain ⟨q1, q2, q3⟩ := sayB_length hok
          show _ ≤ _
          rw [← hbs1]
          dsimp only at q1 q2 q3
          omega
        have hy8 : Hid (B8 bs) := by show B8 bs; rw [← hbs1]; exact b8_sayB _
        have hpos : (0 : Int) < (bs.length : Int) := by
          have := hbz.out
          rcases Nat.eq_zero_or_pos bs.length with h | h
          · exact absurd hok (this.1 h)
          · omega
        have HD := wp_Digest (h4.keep ((Fr.refl (fun _ => False) w4).drew)) (by simp) (hv4.fr ((Fr.refl (fun _ => False) w4).drew) (fun _ _ => id)) hy8.out hyl.out
        rw [digI_nil, digL_nil] at HD
        replace HD := Lib.hid HD
        have HI : Hid (sayI [bs] ⟨kind, txn, yes, ff, tt, epoch, shard, target, root⟩ = ((0 : Nat) : Int)) := by show _ = _; rw [sayI, if_pos hok, hbs1, digI_one]
        have hH4d := hH4.drew
        have c0 := hH4.cell 0
        clear hv4 h4 hbs1 hok
        go_upto_region 7 with fail
        refine wp_region_noPanic ?_
        refine wp_region_held_drew (S := (fun w' => w'.cell? ⟨w.heap.size, 0, none⟩ = some (.int .i64 G))) (by kernel_rfl) (c0) (fun hHeld => ?_)
        refine wpAnyH_takeAt (i := 0) (v := ?vr0) (some 40) rfl rfl (by kernel_rfl) (by kernel_rfl) (by kernel_rfl) (fun _ _ _ h => h) (Or.inl ⟨by rfl, ?hyr0⟩) (by assumption) ?restr0
        case hyr0 => (intro w hSw; (try dsimp only at hSw); go_simp; all_goals with_reducible rfl)
        simp only [Act.put, List.setIfInBounds_toArray, List.set_cons_zero, List.set_cons_succ]
        refine wpAnyH_takeAt (i := 1) (v := ?vr1) (some 41) rfl rfl (by kernel_rfl) (by kernel_rfl) (by kernel_rfl) (fun _ _ _ h => h) (Or.inl ⟨by rfl, ?hyr1⟩) (by assumption) ?restr1
        case hyr1 => (intro w hSw; (try dsimp only at hSw); go_simp; all_goals with_reducible rfl)
        simp only [Act.put, List.setIfInBounds_toArray, List.set_cons_zero, List.set_cons_succ]
        refine wpAnyH_takeAt (i := 2) (v := ?vr2) (some 42) rfl rfl (by kernel_rfl) (by kernel_rfl) (by kernel_rfl) (fun _ _ _ h => h) (Or.inl ⟨by rfl, ?hyr2⟩) (by assumption) ?restr2
        case hyr2 => (intro w hSw; (try dsimp only at hSw); go_simp; all_goals with_reducible rfl)
        simp only [Act.put, List.setIfInBounds_toArray, List.set_cons_zero, List.set_cons_succ]
        refine wpAnyH_takeAt (i := 3) (v := ?vr3) (some 43) rfl rfl (by kernel_rfl) (by kernel_rfl) (by kernel_rfl) (fun _ _ _ h => h) (Or.inl ⟨by rfl, ?hyr3⟩) (by assumption) ?restr3
        case hyr3 => (intro w hSw; (try dsimp only at hSw); go_simp; all_goals with_reducible rfl)
        simp only [Act.put, List.setIfInBounds_toArray, List.set_cons_zero, List.set_cons_succ]
        refine wpAnyH_takeAt (i := 4) (v := ?vr4) (some 44) rfl rfl (by kernel_rfl) (by kernel_rfl) (by kernel_rfl) (fun _ _ _ h => h) (Or.inl ⟨by rfl, ?hyr4⟩) (by assumption) ?restr4
        case hyr4 => (intro w hSw; (try dsimp only at hSw); go_simp; all_goals with_reducible rfl)
        simp only [Act.put, List.setIfInBounds_toArray, List.set_cons_zero, List.set_cons_succ]
        refine wpAnyH_takeAt (i := 5) (v := ?vr5) (some 45) rfl rfl (by kernel_rfl) (by kernel_rfl) (by kernel_rfl) (fun _ _ _ h => h) (Or.inl ⟨by rfl, ?hyr5⟩) (by assumption) ?restr5
        case hyr5 => (intro w hSw; (try dsimp only at hSw); go_simp; all_goals with_reducible rfl)
        simp only [Act.put, List.setIfInBounds_toArray, List.set_cons_zero, List.set_cons_succ]
        refine wpAnyH_ready (rs := [6]) (by kernel_rfl) (by simp) ?_
        refine AllReadyH.cons rfl (fun K hK => ?_) AllReadyH.nil
        go_simp
        go_at_call 14
        refine HD.out.mono ?_
        rintro e w6 ⟨rfl, h6, hst5⟩
        have hH6 := hst5.blk _ _ _ hH4d (by decide)
        have HSg := Lib.hid (wp_Sign h6 (by decide) G mask ((0 : Nat) : Int))
        try go_wp2_with fail
        refine hK.out _ _ (hH6.cell 0) (fun hHeld => ?_)
        clear hK K
        refine wpAnyH_ready (rs := [7]) (by kernel_rfl) (by simp) ?_
        refine AllReadyH.cons rfl (fun K hK => ?_) AllReadyH.nil
        go_simp
        go_at_call 13
        refine HSg.out.mono ?_
        rintro e w7 ⟨r7, rfl, h6, hst6⟩
        have hH7 := hst6.blk _ _ _ hH6 (by decide)
        try go_wp2_with fail
        refine hK.out _ _ (hH7.cell 0) (fun hHeld => ?_)
        clear hK K
        refine wpAnyH_done (by kernel_rfl) ?_ _
        refine NoPanic.normal ?_
        go_wp2_with fail
        go_meet
        exact ⟨[bs], _, _, h6, by simp, by rw [HI.out]; exact who_pop, (hst4.trans (St.of _ ((Fr.refl (fun _ => False) w4).drew))).trans (hst5.trans hst6)⟩
      · have hpos : ¬ (0 : Int) < (bs.length : Int) := by have := hbz.out.2 hok; omega
        have hw0 : Hid ((whoInts G (sayI [] ⟨kind, txn, yes, ff, tt, epoch, shard, target, root⟩) []).length = 0) := by show _ = _; rw [whoInts_length]; unfold whoTo; simp
        clear hok
        go_wp2_with fail
        go_meet
        exact ⟨[], [], 0, h4, by simp, by have := hw0.out; omega, hst4⟩
    case rest =>
      obtain ⟨L, SL, nQ, h5, hL1, hwho, hst5⟩ := hcut
      have hH5 := hst5.blk _ _ _ hHP (by decide)
      have HWHO := Lib.hid hwho
      clear hH4 h4 hst4 hv4 hwho
      generalize wc = w5 at *
      go_upto_region 10 with fail
      go_loopw [11, 12] (fun m ix wr => ∃ k : Nat, k ≤ 10 ∧ ix = .int .i64 k ∧ m = .int .i64 (popN mask k) ∧ wr = w5) (fun _ ix _ => 10 - (intOf ix).toNat)
      case atStart => exact ⟨0, by omega, rfl, rfl, rfl⟩
      case round =>
        obtain ⟨k, hk, rfl, rfl, rfl⟩ := hrel
        obtain ⟨q, hq⟩ : ∃ q, Hid (popN mask k = q) := ⟨_, rfl⟩
        have hqk : q ≤ 10 := by rw [← hq.out]; exact Nat.le_trans (popN_le _ _) hk
        rw [hq.out]
        by_cases hlt : k < 10
        · cases hbit : bitOn mask k with
          | true =>
            have hb1 : bits .and .i64 (mask / 2 ^ k) 1 = 1 := eq_of_beq hbit
            have hn : Hid (popN mask (k + 1) = q + 1) := by show _ = _; rw [popN_succ, hq.out, hbit]; rfl
            clear hbit
            go_wp2_with fail
            go_roundw
            case rel => exact ⟨k + 1, by omega, by go_num, by rw [hn.out]; go_num, by trivial⟩
            case measure => simp [intOf]; omega
          | false =>
            have hb1 : bits .and .i64 (mask / 2 ^ k) 1 = 0 := bit_one hbit
            have hn : Hid (popN mask (k + 1) = q) := by show _ = _; rw [popN_succ, hq.out, hbit]; rfl
            clear hbit
            go_wp2_with fail
            go_roundw
            case rel => exact ⟨k + 1, by omega, by go_num, by rw [hn.out], by trivial⟩
            case measure => simp [intOf]; omega
        · obtain rfl : k = 10 := by omega
          generalize wr = w5 at *
          have k1 := hH5.cell 1
          have k2 := hH5.cell 2
          have k3 := hH5.cell 3
          have k4 := hH5.cell 4
          have k5 := hH5.cell 5
          have k6 := hH5.cell 6
          have k7 := hH5.cell 7
          have k8 := hH5.cell 8
          have k9 := hH5.cell 9
          go_upto_region 14 with fail
          have hS6 := Blk.new w5 23 #[.int .i64 kind, .int .i64 txn, .bool yes, .string ff, .string tt, .int .i64 epoch, .int .i64 shard, .int .i64 target, .int .i64 root]
          have hH6 := hH5.alloc (Obj.cells #[.int .i64 kind, .int .i64 txn, .bool yes, .string ff, .string tt, .int .i64 epoch, .int .i64 shard, .int .i64 target, .int .i64 root] 23)
          have h6 := h5.keep ((Fr.refl (fun _ => False) w5).alloc (Obj.cells #[.int .i64 kind, .int .i64 txn, .bool yes, .string ff, .string tt, .int .i64 epoch, .int .i64 shard, .int .i64 target, .int .i64 root] 23))
          have hst6 := hst5.trans (St.of w1.heap.size ((Fr.refl (fun _ => False) w5).alloc (Obj.cells #[.int .i64 kind, .int .i64 txn, .bool yes, .string ff, .string tt, .int .i64 epoch, .int .i64 shard, .int .i64 target, .int .i64 root] 23)))
          generalize w5.alloc (Obj.cells #[.int .i64 kind, .int .i64 txn, .bool yes, .string ff, .string tt, .int .i64 epoch, .int .i64 shard, .int .i64 target, .int .i64 root] 23) = w6 at *
          obtain ⟨gS, hgS⟩ : ∃ x, w5.heap.size = x := ⟨_, rfl⟩
          rw [hgS] at hS6 ⊢
          clear k1 k2 k3 k4 k5 k6 k7 k8 k9 hgS h5 hst5 hH5
          have s0 := hS6.cell 0
          have s6 := hS6.cell 6
          have s7 := hS6.cell 7
          by_cases hk6 : kind = 6
          · have e6 : (kind == 6) = true := by rw [hk6]; rfl
            have hc0 : ¬ (kind = 1 ∨ kind = 3 ∨ kind = 4 ∨ kind = 7) := by omega
            go_upto_region 17 with fail
            go_cut [86] from 69 to 86 (fun c wx => c = .bool (decide (kind = 1 ∨ kind = 3 ∨ kind = 4 ∨ kind = 7)) ∧ wx = w6)
            case first =>
              have b1 : (kind == 1) = false := beq_eq_false_iff_ne.2 (by omega)
              have b3 : (kind == 3) = false := beq_eq_false_iff_ne.2 (by omega)
              have b4 : (kind == 4) = false := beq_eq_false_iff_ne.2 (by omega)
              have b7 : (kind == 7) = false := beq_eq_false_iff_ne.2 (by omega)
              have d1 : Hid (decide (kind = 1 ∨ kind = 3 ∨ kind = 4 ∨ kind = 7) = false) := decide_eq_false hc0
              clear hc0
              go_wp2_with fail
              go_meet
              exact ⟨by rw [d1.out], rfl⟩
            case rest =>
              obtain ⟨rfl, hwc⟩ := hcut
              rw [hwc]
              clear hwc
              have HBY0 : Hid (byOf kind shard target = wrap64 (target + 1)) := by show _ = _; unfold byOf; rw [if_neg hc0, if_pos hk6]
              have hcf : decide (kind = 1 ∨ kind = 3 ∨ kind = 4 ∨ kind = 7) = false := decide_eq_false hc0
              rw [hcf]
              clear hcf hc0 hk6
              have HBY : Hid (byOf kind shard target = wrap64 (target + 1)) := HBY0
              obtain ⟨bY, hbY⟩ : ∃ b, wrap64 (target + 1) = b := ⟨_, rfl⟩
              rw [hbY] at HBY ⊢
              clear hbY
              go_upto_region 19 with fail
              obtain ⟨g, m, base, v, gs, ms, gD, gQ, hN, lg, lm, lb⟩ := h6.openLo
              have hfX : Fr (fun _ => False) w6 ((w6.alloc (Obj.cells #[.int .i64 0, .int .i64 1] 3)).drew) := ((Fr.refl _ w6).alloc _).drew
              have hIX : Blk ((w6.alloc (Obj.cells #[.int .i64 0, .int .i64 1] 3)).drew) w6.heap.size 3 (intsA [0, 1]) := (Blk.new w6 _ _).drew
              have hbX := hN.bs.keep hfX
              have hfw6 : Fr (fun _ => False) w w6 := hf01.trans hst6.fr (fun k hk e => by have := hf01.size; omega)
              have hlo : w.heap.size ≤ w1.heap.size := hf01.size
              have hO := orders_any (kind := kind) (txn := txn) (yes := yes) (ff := ff) (tt := tt) (epoch := epoch) (shard := shard) (target := target) (root := root) (G := G) (sc := 2) (lc := cap) hbX (Nat.le_trans hN.base_le hfX.size) (by omega) h6.good (intRow_blk hIX) (Nat.le_refl _) (fun b o e h => by
                cases e
                rcases h with h | h | h
                · have := hN.bs.book.blk.lt; omega
                · obtain ⟨⟨es, cl, h3, _⟩, _⟩ := hN.bs.book.map; have := lt_of_heap h3; omega
                · obtain ⟨cs, hB⟩ := own_cells hN.bs.book.own h; have := hB.lt; omega) (by simp) (HEN.out.fr (hfw6.then_ hfX) (fun _ _ => id)) (fun k hk h => by
                rcases h with h | h | h
                · omega
                · omega
                · have := own_ge hN.bs.book.own k h; omega) hll2.out
              unfold AnyOrd at hO
              obtain ⟨gg, bb, L', _, _, hfo, hO⟩ := hO
              replace hO := Lib.hid hO
              have HFO : Hid (Forced (popN mask 10) G ⟨kind, txn, yes, ff, tt, epoch, shard, target, root⟩ → gg = []) := fun h => hfo (by
                rcases h with h | h
                · exact .inl (Nat.lt_of_le_of_lt HWHO.out h)
                · exact .inr h)
              have hWX := (hN.blk.alloc (Obj.cells #[.int .i64 0, .int .i64 1] 3)).drew
              have hHX := (hH6.alloc (Obj.cells #[.int .i64 0, .int .i64 1] 3)).drew
              have hSX := (hS6.alloc (Obj.cells #[.int .i64 0, .int .i64 1] 3)).drew
              have hno : Hid (∀ k, k < w.heap.size → ¬ (k = g ∨ k = m ∨ v.ownBlock = some k)) := fun k hk h => by
                rcases h with h | h | h
                · omega
                · omega
                · have := own_ge hN.bs.book.own k h; omega
              have hfwX := hfw6.then_ hfX
              have hWb := hN.b
              have hWs := hN.s
              have hWblk := hN.blk
              clear hfo lg lm lb hIX hfw6 hN h6
              refine wp_region_noPanic ?_
              refine wp_region_held_drew (S := (fun w' => w'.cell? ⟨gw, 0, none⟩ = some (.pointer (some ⟨g, 0, none⟩)) ∧ w'.cell? ⟨gw, 1, none⟩ = some (.pointer (some ⟨gs, 0, none⟩)) ∧ w'.cell? ⟨w.heap.size, 0, none⟩ = some (.int .i64 G) ∧ w'.cell? ⟨w.heap.size, 1, none⟩ = some (.int .i64 kind) ∧ w'.cell? ⟨w.heap.size, 2, none⟩ = some (.int .i64 txn) ∧ w'.cell? ⟨w.heap.size, 3, none⟩ = some (.bool yes) ∧ w'.cell? ⟨w.heap.size, 4, none⟩ = some (.string ff) ∧ w'.cell? ⟨w.heap.size, 5, none⟩ = some (.string tt) ∧ w'.cell? ⟨w.heap.size, 6, none⟩ = some (.int .i64 epoch) ∧ w'.cell? ⟨w.heap.size, 7, none⟩ = some (.int .i64 shard) ∧ w'.cell? ⟨w.heap.size, 8, none⟩ = some (.int .i64 target) ∧ w'.cell? ⟨w.heap.size, 9, none⟩ = some (.int .i64 root))) (by kernel_rfl) (⟨hWb, hWs, hH6.cell 0, hH6.cell 1, hH6.cell 2, hH6.cell 3, hH6.cell 4, hH6.cell 5, hH6.cell 6, hH6.cell 7, hH6.cell 8, hH6.cell 9⟩) (fun hHeld => ?_)
              refine wpAnyH_takeAt (i := 0) (v := ?vtA0) (some 87) rfl rfl (by kernel_rfl) (by kernel_rfl) (by kernel_rfl) (fun _ _ _ h => h) (Or.inl ⟨by rfl, ?hytA0⟩) (by assumption) ?resttA0
              case hytA0 => (intro w hSw; (try dsimp only at hSw); go_simp; all_goals with_reducible rfl)
              simp only [Act.put, List.setIfInBounds_toArray, List.set_cons_zero, List.set_cons_succ]
              refine wpAnyH_takeAt (i := 1) (v := ?vtA1) (some 88) rfl rfl (by kernel_rfl) (by kernel_rfl) (by kernel_rfl) (fun _ _ _ h => h) (Or.inl ⟨by rfl, ?hytA1⟩) (by assumption) ?resttA1
              case hytA1 => (intro w hSw; (try dsimp only at hSw); go_simp; all_goals with_reducible rfl)
              simp only [Act.put, List.setIfInBounds_toArray, List.set_cons_zero, List.set_cons_succ]
              refine wpAnyH_takeAt (i := 2) (v := ?vtA2) (some 89) rfl rfl (by kernel_rfl) (by kernel_rfl) (by kernel_rfl) (fun _ _ _ h => h) (Or.inl ⟨by rfl, ?hytA2⟩) (by assumption) ?resttA2
              case hytA2 => (intro w hSw; (try dsimp only at hSw); go_simp; all_goals with_reducible rfl)
              simp only [Act.put, List.setIfInBounds_toArray, List.set_cons_zero, List.set_cons_succ]
              refine wpAnyH_takeAt (i := 3) (v := ?vtA3) (some 90) rfl rfl (by kernel_rfl) (by kernel_rfl) (by kernel_rfl) (fun _ _ _ h => h) (Or.inl ⟨by rfl, ?hytA3⟩) (by assumption) ?resttA3
              case hytA3 => (intro w hSw; (try dsimp only at hSw); go_simp; all_goals with_reducible rfl)
              simp only [Act.put, List.setIfInBounds_toArray, List.set_cons_zero, List.set_cons_succ]
              refine wpAnyH_takeAt (i := 4) (v := ?vtA4) (some 91) rfl rfl (by kernel_rfl) (by kernel_rfl) (by kernel_rfl) (fun _ _ _ h => h) (Or.inl ⟨by rfl, ?hytA4⟩) (by assumption) ?resttA4
              case hytA4 => (intro w hSw; (try dsimp only at hSw); go_simp; all_goals with_reducible rfl)
              simp only [Act.put, List.setIfInBounds_toArray, List.set_cons_zero, List.set_cons_succ]
              refine wpAnyH_takeAt (i := 5) (v := ?vtA5) (some 92) rfl rfl (by kernel_rfl) (by kernel_rfl) (by kernel_rfl) (fun _ _ _ h => h) (Or.inl ⟨by rfl, ?hytA5⟩) (by assumption) ?resttA5
              case hytA5 => (intro w hSw; (try dsimp only at hSw); go_simp; all_goals with_reducible rfl)
              simp only [Act.put, List.setIfInBounds_toArray, List.set_cons_zero, List.set_cons_succ]
              refine wpAnyH_takeAt (i := 6) (v := ?vtA6) (some 93) rfl rfl (by kernel_rfl) (by kernel_rfl) (by kernel_rfl) (fun _ _ _ h => h) (Or.inl ⟨by rfl, ?hytA6⟩) (by assumption) ?resttA6
              case hytA6 => (intro w hSw; (try dsimp only at hSw); go_simp; all_goals with_reducible rfl)
              simp only [Act.put, List.setIfInBounds_toArray, List.set_cons_zero, List.set_cons_succ]
              refine wpAnyH_takeAt (i := 7) (v := ?vtA7) (some 94) rfl rfl (by kernel_rfl) (by kernel_rfl) (by kernel_rfl) (fun _ _ _ h => h) (Or.inl ⟨by rfl, ?hytA7⟩) (by assumption) ?resttA7
              case hytA7 => (intro w hSw; (try dsimp only at hSw); go_simp; all_goals with_reducible rfl)
              simp only [Act.put, List.setIfInBounds_toArray, List.set_cons_zero, List.set_cons_succ]
              refine wpAnyH_takeAt (i := 8) (v := ?vtA8) (some 95) rfl rfl (by kernel_rfl) (by kernel_rfl) (by kernel_rfl) (fun _ _ _ h => h) (Or.inl ⟨by rfl, ?hytA8⟩) (by assumption) ?resttA8
              case hytA8 => (intro w hSw; (try dsimp only at hSw); go_simp; all_goals with_reducible rfl)
              simp only [Act.put, List.setIfInBounds_toArray, List.set_cons_zero, List.set_cons_succ]
              refine wpAnyH_takeAt (i := 10) (v := ?vtA10) (some 97) rfl rfl (by kernel_rfl) (by kernel_rfl) (by kernel_rfl) (fun _ _ _ h => h) (Or.inl ⟨by rfl, ?hytA10⟩) (by assumption) ?resttA10
              case hytA10 => (intro w hSw; (try dsimp only at hSw); go_simp; all_goals with_reducible rfl)
              simp only [Act.put, List.setIfInBounds_toArray, List.set_cons_zero, List.set_cons_succ]
              refine wpAnyH_ready (rs := [9]) (by kernel_rfl) (by simp) ?_
              refine AllReadyH.cons rfl (fun K hK => ?_) AllReadyH.nil
              go_simp
              refine hK.out _ _ (⟨hWX.cell 0, hWX.cell 1, hHX.cell 0, hHX.cell 1, hHX.cell 2, hHX.cell 3, hHX.cell 4, hHX.cell 5, hHX.cell 6, hHX.cell 7, hHX.cell 8, hHX.cell 9⟩) (fun hHeld => ?_)
              clear hK K
              refine wpAnyH_ready (rs := [11]) (by kernel_rfl) (by simp) ?_
              refine AllReadyH.cons rfl (fun K hK => ?_) AllReadyH.nil
              go_simp
              go_at_call 15
              refine hO.out.mono ?_
              rintro e w9 ⟨tv, v9, rfl, htv, hb9, hf9, hk9⟩
              obtain ⟨A9, c9, rfl⟩ := htv.form_
              have hf9' := hf9.mono (T := fun k => k = g ∨ k = m ∨ v.ownBlock = some k ∨ k = ms) (fun k _ h => by rcases h with h | h | h <;> simp [h])
              have hH9 := hbX.bookFr hHX (by decide) (by decide) hf9'
              have hS9 := hbX.bookFr hSX (by decide) (by decide) hf9'
              have hW9 := hbX.bookFr hWX (by decide) (by decide) hf9'
              try go_wp2_with fail
              refine hK.out _ _ (⟨hW9.cell 0, hW9.cell 1, hH9.cell 0, hH9.cell 1, hH9.cell 2, hH9.cell 3, hH9.cell 4, hH9.cell 5, hH9.cell 6, hH9.cell 7, hH9.cell 8, hH9.cell 9⟩) (fun hHeld => ?_)
              clear hK K
              refine wpAnyH_takeAt (i := 12) (v := ?vztA12) (some 15) rfl rfl (by kernel_rfl) (by kernel_rfl) (by kernel_rfl) (fun _ _ _ h => h) (Or.inl ⟨by rfl, ?hyztA12⟩) (by assumption) ?restztA12
              case hyztA12 => (intro w hSw; (try dsimp only at hSw); go_simp; all_goals with_reducible rfl)
              simp only [Act.put, List.setIfInBounds_toArray, List.set_cons_zero, List.set_cons_succ]
              refine wpAnyH_done (by kernel_rfl) ?_ _
              refine NoPanic.normal ?_
              have hff : Fr (fun _ => False) w w9 := hfwX.trans hf9 (fun k hk e => hno.out k hk e)
              have s0 := hS9.cell 0
              have z0 := hH9.cell 0
              clear hO hH6 hS6 hHX hSX hWX hbX htv hb9 hf9 hf9' hW9 hk9 hfX hfwX hS9 hH9 hWb hWs hWblk
              by_cases c1 : (q : Int) < 3
              · have hz : ((gg.length : Int) == 0) = true := by rw [HFO.out (.inl (by rw [hq.out]; omega))]; rfl
                go_wp2_with fail
                go_ret
                exact ⟨by first | rfl | simp, hff⟩
              · by_cases c2 : G = bY
                · have ec2 : (G == bY) = true := by rw [c2]; exact beq_self_eq_true _
                  by_cases c3 : kind = 8
                  · have ec3 : (kind == 8) = true := by rw [c3]; exact beq_self_eq_true _
                    have hz : ((gg.length : Int) == 0) = true := by rw [HFO.out (.inr (.inr (.inl c3)))]; rfl
                    go_wp2_with fail
                    go_ret
                    exact ⟨by first | rfl | simp, hff⟩
                  · have ec3 : (kind == 8) = false := beq_eq_false_iff_ne.2 c3
                    by_cases c4 : kind = 9
                    · have ec4 : (kind == 9) = true := by rw [c4]; exact beq_self_eq_true _
                      have hz : ((gg.length : Int) == 0) = true := by rw [HFO.out (.inr (.inr (.inr (.inl c4))))]; rfl
                      go_wp2_with fail
                      go_ret
                      exact ⟨by first | rfl | simp, hff⟩
                    · have ec4 : (kind == 9) = false := beq_eq_false_iff_ne.2 c4
                      by_cases c5 : bs.length = 0
                      · have ec5 : ((bs.length : Int) == 0) = true := by rw [c5]; rfl
                        have hz : ((gg.length : Int) == 0) = true := by rw [HFO.out (.inr (.inr (.inr (.inr (hbz.out.1 c5)))))]; rfl
                        go_wp2_with fail
                        go_ret
                        exact ⟨by first | rfl | simp, hff⟩
                      · have ec5 : ((bs.length : Int) == 0) = false := beq_eq_false_iff_ne.2 (by omega)
                        go_wp2_with fail
                        go_ret
                        exact ⟨by first | rfl | simp, hff⟩
                · have ec2 : (G == bY) = false := beq_eq_false_iff_ne.2 c2
                  have hz : ((gg.length : Int) == 0) = true := by rw [HFO.out (.inr (.inl (by dsimp only; rw [HBY.out]; exact c2)))]; rfl
                  go_wp2_with fail
                  go_ret
                  exact ⟨by first | rfl | simp, hff⟩
          · have e6 : (kind == 6) = false := beq_eq_false_iff_ne.2 hk6
            go_upto_region 17 with fail
            go_cut [86] from 69 to 86 (fun c wx => c = .bool (decide (kind = 1 ∨ kind = 3 ∨ kind = 4 ∨ kind = 7)) ∧ wx = w6)
            case first =>
              by_cases a1 : kind = 1
              · have b1 : (kind == 1) = true := by rw [a1]; rfl
                have d1 : Hid (decide (kind = 1 ∨ kind = 3 ∨ kind = 4 ∨ kind = 7) = true) := decide_eq_true (.inl a1)
                clear a1
                go_wp2_with fail
                go_meet
                exact ⟨by rw [d1.out], rfl⟩
              · have b1 : (kind == 1) = false := beq_eq_false_iff_ne.2 a1
                by_cases a3 : kind = 3
                · have b3 : (kind == 3) = true := by rw [a3]; rfl
                  have d1 : Hid (decide (kind = 1 ∨ kind = 3 ∨ kind = 4 ∨ kind = 7) = true) := decide_eq_true (.inr (.inl a3))
                  clear a3
                  go_wp2_with fail
                  go_meet
                  exact ⟨by rw [d1.out], rfl⟩
                · have b3 : (kind == 3) = false := beq_eq_false_iff_ne.2 a3
                  by_cases a4 : kind = 4
                  · have b4 : (kind == 4) = true := by rw [a4]; rfl
                    have d1 : Hid (decide (kind = 1 ∨ kind = 3 ∨ kind = 4 ∨ kind = 7) = true) := decide_eq_true (.inr (.inr (.inl a4)))
                    clear a4
                    go_wp2_with fail
                    go_meet
                    exact ⟨by rw [d1.out], rfl⟩
                  · have b4 : (kind == 4) = false := beq_eq_false_iff_ne.2 a4
                    by_cases a7 : kind = 7
                    · have b7 : (kind == 7) = true := by rw [a7]; rfl
                      have d1 : Hid (decide (kind = 1 ∨ kind = 3 ∨ kind = 4 ∨ kind = 7) = true) := decide_eq_true (.inr (.inr (.inr a7)))
                      clear a7
                      go_wp2_with fail
                      go_meet
                      exact ⟨by rw [d1.out], rfl⟩
                    · have b7 : (kind == 7) = false := beq_eq_false_iff_ne.2 a7
                      have d1 : Hid (decide (kind = 1 ∨ kind = 3 ∨ kind = 4 ∨ kind = 7) = false) := decide_eq_false (by omega)
                      clear a7 a4 a3 a1
                      go_wp2_with fail
                      go_meet
                      exact ⟨by rw [d1.out], rfl⟩
            case rest =>
              obtain ⟨rfl, hwc⟩ := hcut
              rw [hwc]
              clear hwc
              by_cases hc0 : (kind = 1 ∨ kind = 3 ∨ kind = 4 ∨ kind = 7)
              · have HBY0 : Hid (byOf kind shard target = 0) := by show _ = _; unfold byOf; rw [if_pos hc0]
                have hcf : decide (kind = 1 ∨ kind = 3 ∨ kind = 4 ∨ kind = 7) = true := decide_eq_true hc0
                rw [hcf]
                clear hcf hc0 hk6
                have HBY : Hid (byOf kind shard target = (0 : Int)) := HBY0
                go_upto_region 19 with fail
                obtain ⟨g, m, base, v, gs, ms, gD, gQ, hN, lg, lm, lb⟩ := h6.openLo
                have hfX : Fr (fun _ => False) w6 ((w6.alloc (Obj.cells #[.int .i64 0, .int .i64 1] 3)).drew) := ((Fr.refl _ w6).alloc _).drew
                have hIX : Blk ((w6.alloc (Obj.cells #[.int .i64 0, .int .i64 1] 3)).drew) w6.heap.size 3 (intsA [0, 1]) := (Blk.new w6 _ _).drew
                have hbX := hN.bs.keep hfX
                have hfw6 : Fr (fun _ => False) w w6 := hf01.trans hst6.fr (fun k hk e => by have := hf01.size; omega)
                have hlo : w.heap.size ≤ w1.heap.size := hf01.size
                have hO := orders_any (kind := kind) (txn := txn) (yes := yes) (ff := ff) (tt := tt) (epoch := epoch) (shard := shard) (target := target) (root := root) (G := G) (sc := 2) (lc := cap) hbX (Nat.le_trans hN.base_le hfX.size) (by omega) h6.good (intRow_blk hIX) (Nat.le_refl _) (fun b o e h => by
                  cases e
                  rcases h with h | h | h
                  · have := hN.bs.book.blk.lt; omega
                  · obtain ⟨⟨es, cl, h3, _⟩, _⟩ := hN.bs.book.map; have := lt_of_heap h3; omega
                  · obtain ⟨cs, hB⟩ := own_cells hN.bs.book.own h; have := hB.lt; omega) (by simp) (HEN.out.fr (hfw6.then_ hfX) (fun _ _ => id)) (fun k hk h => by
                  rcases h with h | h | h
                  · omega
                  · omega
                  · have := own_ge hN.bs.book.own k h; omega) hll2.out
                unfold AnyOrd at hO
                obtain ⟨gg, bb, L', _, _, hfo, hO⟩ := hO
                replace hO := Lib.hid hO
                have HFO : Hid (Forced (popN mask 10) G ⟨kind, txn, yes, ff, tt, epoch, shard, target, root⟩ → gg = []) := fun h => hfo (by
                  rcases h with h | h
                  · exact .inl (Nat.lt_of_le_of_lt HWHO.out h)
                  · exact .inr h)
                have hWX := (hN.blk.alloc (Obj.cells #[.int .i64 0, .int .i64 1] 3)).drew
                have hHX := (hH6.alloc (Obj.cells #[.int .i64 0, .int .i64 1] 3)).drew
                have hSX := (hS6.alloc (Obj.cells #[.int .i64 0, .int .i64 1] 3)).drew
                have hno : Hid (∀ k, k < w.heap.size → ¬ (k = g ∨ k = m ∨ v.ownBlock = some k)) := fun k hk h => by
                  rcases h with h | h | h
                  · omega
                  · omega
                  · have := own_ge hN.bs.book.own k h; omega
                have hfwX := hfw6.then_ hfX
                have hWb := hN.b
                have hWs := hN.s
                have hWblk := hN.blk
                clear hfo lg lm lb hIX hfw6 hN h6
                refine wp_region_noPanic ?_
                refine wp_region_held_drew (S := (fun w' => w'.cell? ⟨gw, 0, none⟩ = some (.pointer (some ⟨g, 0, none⟩)) ∧ w'.cell? ⟨gw, 1, none⟩ = some (.pointer (some ⟨gs, 0, none⟩)) ∧ w'.cell? ⟨w.heap.size, 0, none⟩ = some (.int .i64 G) ∧ w'.cell? ⟨w.heap.size, 1, none⟩ = some (.int .i64 kind) ∧ w'.cell? ⟨w.heap.size, 2, none⟩ = some (.int .i64 txn) ∧ w'.cell? ⟨w.heap.size, 3, none⟩ = some (.bool yes) ∧ w'.cell? ⟨w.heap.size, 4, none⟩ = some (.string ff) ∧ w'.cell? ⟨w.heap.size, 5, none⟩ = some (.string tt) ∧ w'.cell? ⟨w.heap.size, 6, none⟩ = some (.int .i64 epoch) ∧ w'.cell? ⟨w.heap.size, 7, none⟩ = some (.int .i64 shard) ∧ w'.cell? ⟨w.heap.size, 8, none⟩ = some (.int .i64 target) ∧ w'.cell? ⟨w.heap.size, 9, none⟩ = some (.int .i64 root))) (by kernel_rfl) (⟨hWb, hWs, hH6.cell 0, hH6.cell 1, hH6.cell 2, hH6.cell 3, hH6.cell 4, hH6.cell 5, hH6.cell 6, hH6.cell 7, hH6.cell 8, hH6.cell 9⟩) (fun hHeld => ?_)
                refine wpAnyH_takeAt (i := 0) (v := ?vtB0) (some 87) rfl rfl (by kernel_rfl) (by kernel_rfl) (by kernel_rfl) (fun _ _ _ h => h) (Or.inl ⟨by rfl, ?hytB0⟩) (by assumption) ?resttB0
                case hytB0 => (intro w hSw; (try dsimp only at hSw); go_simp; all_goals with_reducible rfl)
                simp only [Act.put, List.setIfInBounds_toArray, List.set_cons_zero, List.set_cons_succ]
                refine wpAnyH_takeAt (i := 1) (v := ?vtB1) (some 88) rfl rfl (by kernel_rfl) (by kernel_rfl) (by kernel_rfl) (fun _ _ _ h => h) (Or.inl ⟨by rfl, ?hytB1⟩) (by assumption) ?resttB1
                case hytB1 => (intro w hSw; (try dsimp only at hSw); go_simp; all_goals with_reducible rfl)
                simp only [Act.put, List.setIfInBounds_toArray, List.set_cons_zero, List.set_cons_succ]
                refine wpAnyH_takeAt (i := 2) (v := ?vtB2) (some 89) rfl rfl (by kernel_rfl) (by kernel_rfl) (by kernel_rfl) (fun _ _ _ h => h) (Or.inl ⟨by rfl, ?hytB2⟩) (by assumption) ?resttB2
                case hytB2 => (intro w hSw; (try dsimp only at hSw); go_simp; all_goals with_reducible rfl)
                simp only [Act.put, List.setIfInBounds_toArray, List.set_cons_zero, List.set_cons_succ]
                refine wpAnyH_takeAt (i := 3) (v := ?vtB3) (some 90) rfl rfl (by kernel_rfl) (by kernel_rfl) (by kernel_rfl) (fun _ _ _ h => h) (Or.inl ⟨by rfl, ?hytB3⟩) (by assumption) ?resttB3
                case hytB3 => (intro w hSw; (try dsimp only at hSw); go_simp; all_goals with_reducible rfl)
                simp only [Act.put, List.setIfInBounds_toArray, List.set_cons_zero, List.set_cons_succ]
                refine wpAnyH_takeAt (i := 4) (v := ?vtB4) (some 91) rfl rfl (by kernel_rfl) (by kernel_rfl) (by kernel_rfl) (fun _ _ _ h => h) (Or.inl ⟨by rfl, ?hytB4⟩) (by assumption) ?resttB4
                case hytB4 => (intro w hSw; (try dsimp only at hSw); go_simp; all_goals with_reducible rfl)
                simp only [Act.put, List.setIfInBounds_toArray, List.set_cons_zero, List.set_cons_succ]
                refine wpAnyH_takeAt (i := 5) (v := ?vtB5) (some 92) rfl rfl (by kernel_rfl) (by kernel_rfl) (by kernel_rfl) (fun _ _ _ h => h) (Or.inl ⟨by rfl, ?hytB5⟩) (by assumption) ?resttB5
                case hytB5 => (intro w hSw; (try dsimp only at hSw); go_simp; all_goals with_reducible rfl)
                simp only [Act.put, List.setIfInBounds_toArray, List.set_cons_zero, List.set_cons_succ]
                refine wpAnyH_takeAt (i := 6) (v := ?vtB6) (some 93) rfl rfl (by kernel_rfl) (by kernel_rfl) (by kernel_rfl) (fun _ _ _ h => h) (Or.inl ⟨by rfl, ?hytB6⟩) (by assumption) ?resttB6
                case hytB6 => (intro w hSw; (try dsimp only at hSw); go_simp; all_goals with_reducible rfl)
                simp only [Act.put, List.setIfInBounds_toArray, List.set_cons_zero, List.set_cons_succ]
                refine wpAnyH_takeAt (i := 7) (v := ?vtB7) (some 94) rfl rfl (by kernel_rfl) (by kernel_rfl) (by kernel_rfl) (fun _ _ _ h => h) (Or.inl ⟨by rfl, ?hytB7⟩) (by assumption) ?resttB7
                case hytB7 => (intro w hSw; (try dsimp only at hSw); go_simp; all_goals with_reducible rfl)
                simp only [Act.put, List.setIfInBounds_toArray, List.set_cons_zero, List.set_cons_succ]
                refine wpAnyH_takeAt (i := 8) (v := ?vtB8) (some 95) rfl rfl (by kernel_rfl) (by kernel_rfl) (by kernel_rfl) (fun _ _ _ h => h) (Or.inl ⟨by rfl, ?hytB8⟩) (by assumption) ?resttB8
                case hytB8 => (intro w hSw; (try dsimp only at hSw); go_simp; all_goals with_reducible rfl)
                simp only [Act.put, List.setIfInBounds_toArray, List.set_cons_zero, List.set_cons_succ]
                refine wpAnyH_takeAt (i := 10) (v := ?vtB10) (some 97) rfl rfl (by kernel_rfl) (by kernel_rfl) (by kernel_rfl) (fun _ _ _ h => h) (Or.inl ⟨by rfl, ?hytB10⟩) (by assumption) ?resttB10
                case hytB10 => (intro w hSw; (try dsimp only at hSw); go_simp; all_goals with_reducible rfl)
                simp only [Act.put, List.setIfInBounds_toArray, List.set_cons_zero, List.set_cons_succ]
                refine wpAnyH_ready (rs := [9]) (by kernel_rfl) (by simp) ?_
                refine AllReadyH.cons rfl (fun K hK => ?_) AllReadyH.nil
                go_simp
                refine hK.out _ _ (⟨hWX.cell 0, hWX.cell 1, hHX.cell 0, hHX.cell 1, hHX.cell 2, hHX.cell 3, hHX.cell 4, hHX.cell 5, hHX.cell 6, hHX.cell 7, hHX.cell 8, hHX.cell 9⟩) (fun hHeld => ?_)
                clear hK K
                refine wpAnyH_ready (rs := [11]) (by kernel_rfl) (by simp) ?_
                refine AllReadyH.cons rfl (fun K hK => ?_) AllReadyH.nil
                go_simp
                go_at_call 15
                refine hO.out.mono ?_
                rintro e w9 ⟨tv, v9, rfl, htv, hb9, hf9, hk9⟩
                obtain ⟨A9, c9, rfl⟩ := htv.form_
                have hf9' := hf9.mono (T := fun k => k = g ∨ k = m ∨ v.ownBlock = some k ∨ k = ms) (fun k _ h => by rcases h with h | h | h <;> simp [h])
                have hH9 := hbX.bookFr hHX (by decide) (by decide) hf9'
                have hS9 := hbX.bookFr hSX (by decide) (by decide) hf9'
                have hW9 := hbX.bookFr hWX (by decide) (by decide) hf9'
                try go_wp2_with fail
                refine hK.out _ _ (⟨hW9.cell 0, hW9.cell 1, hH9.cell 0, hH9.cell 1, hH9.cell 2, hH9.cell 3, hH9.cell 4, hH9.cell 5, hH9.cell 6, hH9.cell 7, hH9.cell 8, hH9.cell 9⟩) (fun hHeld => ?_)
                clear hK K
                refine wpAnyH_takeAt (i := 12) (v := ?vztB12) (some 15) rfl rfl (by kernel_rfl) (by kernel_rfl) (by kernel_rfl) (fun _ _ _ h => h) (Or.inl ⟨by rfl, ?hyztB12⟩) (by assumption) ?restztB12
                case hyztB12 => (intro w hSw; (try dsimp only at hSw); go_simp; all_goals with_reducible rfl)
                simp only [Act.put, List.setIfInBounds_toArray, List.set_cons_zero, List.set_cons_succ]
                refine wpAnyH_done (by kernel_rfl) ?_ _
                refine NoPanic.normal ?_
                have hff : Fr (fun _ => False) w w9 := hfwX.trans hf9 (fun k hk e => hno.out k hk e)
                have s0 := hS9.cell 0
                have z0 := hH9.cell 0
                clear hO hH6 hS6 hHX hSX hWX hbX htv hb9 hf9 hf9' hW9 hk9 hfX hfwX hS9 hH9 hWb hWs hWblk
                by_cases c1 : (q : Int) < 3
                · have hz : ((gg.length : Int) == 0) = true := by rw [HFO.out (.inl (by rw [hq.out]; omega))]; rfl
                  go_wp2_with fail
                  go_ret
                  exact ⟨by first | rfl | simp, hff⟩
                · by_cases c2 : G = 0
                  · have ec2 : (G == 0) = true := by rw [c2]; exact beq_self_eq_true _
                    by_cases c3 : kind = 8
                    · have ec3 : (kind == 8) = true := by rw [c3]; exact beq_self_eq_true _
                      have hz : ((gg.length : Int) == 0) = true := by rw [HFO.out (.inr (.inr (.inl c3)))]; rfl
                      go_wp2_with fail
                      go_ret
                      exact ⟨by first | rfl | simp, hff⟩
                    · have ec3 : (kind == 8) = false := beq_eq_false_iff_ne.2 c3
                      by_cases c4 : kind = 9
                      · have ec4 : (kind == 9) = true := by rw [c4]; exact beq_self_eq_true _
                        have hz : ((gg.length : Int) == 0) = true := by rw [HFO.out (.inr (.inr (.inr (.inl c4))))]; rfl
                        go_wp2_with fail
                        go_ret
                        exact ⟨by first | rfl | simp, hff⟩
                      · have ec4 : (kind == 9) = false := beq_eq_false_iff_ne.2 c4
                        by_cases c5 : bs.length = 0
                        · have ec5 : ((bs.length : Int) == 0) = true := by rw [c5]; rfl
                          have hz : ((gg.length : Int) == 0) = true := by rw [HFO.out (.inr (.inr (.inr (.inr (hbz.out.1 c5)))))]; rfl
                          go_wp2_with fail
                          go_ret
                          exact ⟨by first | rfl | simp, hff⟩
                        · have ec5 : ((bs.length : Int) == 0) = false := beq_eq_false_iff_ne.2 (by omega)
                          go_wp2_with fail
                          go_ret
                          exact ⟨by first | rfl | simp, hff⟩
                  · have ec2 : (G == 0) = false := beq_eq_false_iff_ne.2 c2
                    have hz : ((gg.length : Int) == 0) = true := by rw [HFO.out (.inr (.inl (by dsimp only; rw [HBY.out]; exact c2)))]; rfl
                    go_wp2_with fail
                    go_ret
                    exact ⟨by first | rfl | simp, hff⟩
              · have HBY0 : Hid (byOf kind shard target = wrap64 (shard + 1)) := by show _ = _; unfold byOf; rw [if_neg hc0, if_neg hk6]
                have hcf : decide (kind = 1 ∨ kind = 3 ∨ kind = 4 ∨ kind = 7) = false := decide_eq_false hc0
                rw [hcf]
                clear hcf hc0 hk6
                have HBY : Hid (byOf kind shard target = wrap64 (shard + 1)) := HBY0
                obtain ⟨bY, hbY⟩ : ∃ b, wrap64 (shard + 1) = b := ⟨_, rfl⟩
                rw [hbY] at HBY ⊢
                clear hbY
                go_upto_region 19 with fail
                obtain ⟨g, m, base, v, gs, ms, gD, gQ, hN, lg, lm, lb⟩ := h6.openLo
                have hfX : Fr (fun _ => False) w6 ((w6.alloc (Obj.cells #[.int .i64 0, .int .i64 1] 3)).drew) := ((Fr.refl _ w6).alloc _).drew
                have hIX : Blk ((w6.alloc (Obj.cells #[.int .i64 0, .int .i64 1] 3)).drew) w6.heap.size 3 (intsA [0, 1]) := (Blk.new w6 _ _).drew
                have hbX := hN.bs.keep hfX
                have hfw6 : Fr (fun _ => False) w w6 := hf01.trans hst6.fr (fun k hk e => by have := hf01.size; omega)
                have hlo : w.heap.size ≤ w1.heap.size := hf01.size
                have hO := orders_any (kind := kind) (txn := txn) (yes := yes) (ff := ff) (tt := tt) (epoch := epoch) (shard := shard) (target := target) (root := root) (G := G) (sc := 2) (lc := cap) hbX (Nat.le_trans hN.base_le hfX.size) (by omega) h6.good (intRow_blk hIX) (Nat.le_refl _) (fun b o e h => by
                  cases e
                  rcases h with h | h | h
                  · have := hN.bs.book.blk.lt; omega
                  · obtain ⟨⟨es, cl, h3, _⟩, _⟩ := hN.bs.book.map; have := lt_of_heap h3; omega
                  · obtain ⟨cs, hB⟩ := own_cells hN.bs.book.own h; have := hB.lt; omega) (by simp) (HEN.out.fr (hfw6.then_ hfX) (fun _ _ => id)) (fun k hk h => by
                  rcases h with h | h | h
                  · omega
                  · omega
                  · have := own_ge hN.bs.book.own k h; omega) hll2.out
                unfold AnyOrd at hO
                obtain ⟨gg, bb, L', _, _, hfo, hO⟩ := hO
                replace hO := Lib.hid hO
                have HFO : Hid (Forced (popN mask 10) G ⟨kind, txn, yes, ff, tt, epoch, shard, target, root⟩ → gg = []) := fun h => hfo (by
                  rcases h with h | h
                  · exact .inl (Nat.lt_of_le_of_lt HWHO.out h)
                  · exact .inr h)
                have hWX := (hN.blk.alloc (Obj.cells #[.int .i64 0, .int .i64 1] 3)).drew
                have hHX := (hH6.alloc (Obj.cells #[.int .i64 0, .int .i64 1] 3)).drew
                have hSX := (hS6.alloc (Obj.cells #[.int .i64 0, .int .i64 1] 3)).drew
                have hno : Hid (∀ k, k < w.heap.size → ¬ (k = g ∨ k = m ∨ v.ownBlock = some k)) := fun k hk h => by
                  rcases h with h | h | h
                  · omega
                  · omega
                  · have := own_ge hN.bs.book.own k h; omega
                have hfwX := hfw6.then_ hfX
                have hWb := hN.b
                have hWs := hN.s
                have hWblk := hN.blk
                clear hfo lg lm lb hIX hfw6 hN h6
                refine wp_region_noPanic ?_
                refine wp_region_held_drew (S := (fun w' => w'.cell? ⟨gw, 0, none⟩ = some (.pointer (some ⟨g, 0, none⟩)) ∧ w'.cell? ⟨gw, 1, none⟩ = some (.pointer (some ⟨gs, 0, none⟩)) ∧ w'.cell? ⟨w.heap.size, 0, none⟩ = some (.int .i64 G) ∧ w'.cell? ⟨w.heap.size, 1, none⟩ = some (.int .i64 kind) ∧ w'.cell? ⟨w.heap.size, 2, none⟩ = some (.int .i64 txn) ∧ w'.cell? ⟨w.heap.size, 3, none⟩ = some (.bool yes) ∧ w'.cell? ⟨w.heap.size, 4, none⟩ = some (.string ff) ∧ w'.cell? ⟨w.heap.size, 5, none⟩ = some (.string tt) ∧ w'.cell? ⟨w.heap.size, 6, none⟩ = some (.int .i64 epoch) ∧ w'.cell? ⟨w.heap.size, 7, none⟩ = some (.int .i64 shard) ∧ w'.cell? ⟨w.heap.size, 8, none⟩ = some (.int .i64 target) ∧ w'.cell? ⟨w.heap.size, 9, none⟩ = some (.int .i64 root))) (by kernel_rfl) (⟨hWb, hWs, hH6.cell 0, hH6.cell 1, hH6.cell 2, hH6.cell 3, hH6.cell 4, hH6.cell 5, hH6.cell 6, hH6.cell 7, hH6.cell 8, hH6.cell 9⟩) (fun hHeld => ?_)
                refine wpAnyH_takeAt (i := 0) (v := ?vtC0) (some 87) rfl rfl (by kernel_rfl) (by kernel_rfl) (by kernel_rfl) (fun _ _ _ h => h) (Or.inl ⟨by rfl, ?hytC0⟩) (by assumption) ?resttC0
                case hytC0 => (intro w hSw; (try dsimp only at hSw); go_simp; all_goals with_reducible rfl)
                simp only [Act.put, List.setIfInBounds_toArray, List.set_cons_zero, List.set_cons_succ]
                refine wpAnyH_takeAt (i := 1) (v := ?vtC1) (some 88) rfl rfl (by kernel_rfl) (by kernel_rfl) (by kernel_rfl) (fun _ _ _ h => h) (Or.inl ⟨by rfl, ?hytC1⟩) (by assumption) ?resttC1
                case hytC1 => (intro w hSw; (try dsimp only at hSw); go_simp; all_goals with_reducible rfl)
                simp only [Act.put, List.setIfInBounds_toArray, List.set_cons_zero, List.set_cons_succ]
                refine wpAnyH_takeAt (i := 2) (v := ?vtC2) (some 89) rfl rfl (by kernel_rfl) (by kernel_rfl) (by kernel_rfl) (fun _ _ _ h => h) (Or.inl ⟨by rfl, ?hytC2⟩) (by assumption) ?resttC2
                case hytC2 => (intro w hSw; (try dsimp only at hSw); go_simp; all_goals with_reducible rfl)
                simp only [Act.put, List.setIfInBounds_toArray, List.set_cons_zero, List.set_cons_succ]
                refine wpAnyH_takeAt (i := 3) (v := ?vtC3) (some 90) rfl rfl (by kernel_rfl) (by kernel_rfl) (by kernel_rfl) (fun _ _ _ h => h) (Or.inl ⟨by rfl, ?hytC3⟩) (by assumption) ?resttC3
                case hytC3 => (intro w hSw; (try dsimp only at hSw); go_simp; all_goals with_reducible rfl)
                simp only [Act.put, List.setIfInBounds_toArray, List.set_cons_zero, List.set_cons_succ]
                refine wpAnyH_takeAt (i := 4) (v := ?vtC4) (some 91) rfl rfl (by kernel_rfl) (by kernel_rfl) (by kernel_rfl) (fun _ _ _ h => h) (Or.inl ⟨by rfl, ?hytC4⟩) (by assumption) ?resttC4
                case hytC4 => (intro w hSw; (try dsimp only at hSw); go_simp; all_goals with_reducible rfl)
                simp only [Act.put, List.setIfInBounds_toArray, List.set_cons_zero, List.set_cons_succ]
                refine wpAnyH_takeAt (i := 5) (v := ?vtC5) (some 92) rfl rfl (by kernel_rfl) (by kernel_rfl) (by kernel_rfl) (fun _ _ _ h => h) (Or.inl ⟨by rfl, ?hytC5⟩) (by assumption) ?resttC5
                case hytC5 => (intro w hSw; (try dsimp only at hSw); go_simp; all_goals with_reducible rfl)
                simp only [Act.put, List.setIfInBounds_toArray, List.set_cons_zero, List.set_cons_succ]
                refine wpAnyH_takeAt (i := 6) (v := ?vtC6) (some 93) rfl rfl (by kernel_rfl) (by kernel_rfl) (by kernel_rfl) (fun _ _ _ h => h) (Or.inl ⟨by rfl, ?hytC6⟩) (by assumption) ?resttC6
                case hytC6 => (intro w hSw; (try dsimp only at hSw); go_simp; all_goals with_reducible rfl)
                simp only [Act.put, List.setIfInBounds_toArray, List.set_cons_zero, List.set_cons_succ]
                refine wpAnyH_takeAt (i := 7) (v := ?vtC7) (some 94) rfl rfl (by kernel_rfl) (by kernel_rfl) (by kernel_rfl) (fun _ _ _ h => h) (Or.inl ⟨by rfl, ?hytC7⟩) (by assumption) ?resttC7
                case hytC7 => (intro w hSw; (try dsimp only at hSw); go_simp; all_goals with_reducible rfl)
                simp only [Act.put, List.setIfInBounds_toArray, List.set_cons_zero, List.set_cons_succ]
                refine wpAnyH_takeAt (i := 8) (v := ?vtC8) (some 95) rfl rfl (by kernel_rfl) (by kernel_rfl) (by kernel_rfl) (fun _ _ _ h => h) (Or.inl ⟨by rfl, ?hytC8⟩) (by assumption) ?resttC8
                case hytC8 => (intro w hSw; (try dsimp only at hSw); go_simp; all_goals with_reducible rfl)
                simp only [Act.put, List.setIfInBounds_toArray, List.set_cons_zero, List.set_cons_succ]
                refine wpAnyH_takeAt (i := 10) (v := ?vtC10) (some 97) rfl rfl (by kernel_rfl) (by kernel_rfl) (by kernel_rfl) (fun _ _ _ h => h) (Or.inl ⟨by rfl, ?hytC10⟩) (by assumption) ?resttC10
                case hytC10 => (intro w hSw; (try dsimp only at hSw); go_simp; all_goals with_reducible rfl)
                simp only [Act.put, List.setIfInBounds_toArray, List.set_cons_zero, List.set_cons_succ]
                refine wpAnyH_ready (rs := [9]) (by kernel_rfl) (by simp) ?_
                refine AllReadyH.cons rfl (fun K hK => ?_) AllReadyH.nil
                go_simp
                refine hK.out _ _ (⟨hWX.cell 0, hWX.cell 1, hHX.cell 0, hHX.cell 1, hHX.cell 2, hHX.cell 3, hHX.cell 4, hHX.cell 5, hHX.cell 6, hHX.cell 7, hHX.cell 8, hHX.cell 9⟩) (fun hHeld => ?_)
                clear hK K
                refine wpAnyH_ready (rs := [11]) (by kernel_rfl) (by simp) ?_
                refine AllReadyH.cons rfl (fun K hK => ?_) AllReadyH.nil
                go_simp
                go_at_call 15
                refine hO.out.mono ?_
                rintro e w9 ⟨tv, v9, rfl, htv, hb9, hf9, hk9⟩
                obtain ⟨A9, c9, rfl⟩ := htv.form_
                have hf9' := hf9.mono (T := fun k => k = g ∨ k = m ∨ v.ownBlock = some k ∨ k = ms) (fun k _ h => by rcases h with h | h | h <;> simp [h])
                have hH9 := hbX.bookFr hHX (by decide) (by decide) hf9'
                have hS9 := hbX.bookFr hSX (by decide) (by decide) hf9'
                have hW9 := hbX.bookFr hWX (by decide) (by decide) hf9'
                try go_wp2_with fail
                refine hK.out _ _ (⟨hW9.cell 0, hW9.cell 1, hH9.cell 0, hH9.cell 1, hH9.cell 2, hH9.cell 3, hH9.cell 4, hH9.cell 5, hH9.cell 6, hH9.cell 7, hH9.cell 8, hH9.cell 9⟩) (fun hHeld => ?_)
                clear hK K
                refine wpAnyH_takeAt (i := 12) (v := ?vztC12) (some 15) rfl rfl (by kernel_rfl) (by kernel_rfl) (by kernel_rfl) (fun _ _ _ h => h) (Or.inl ⟨by rfl, ?hyztC12⟩) (by assumption) ?restztC12
                case hyztC12 => (intro w hSw; (try dsimp only at hSw); go_simp; all_goals with_reducible rfl)
                simp only [Act.put, List.setIfInBounds_toArray, List.set_cons_zero, List.set_cons_succ]
                refine wpAnyH_done (by kernel_rfl) ?_ _
                refine NoPanic.normal ?_
                have hff : Fr (fun _ => False) w w9 := hfwX.trans hf9 (fun k hk e => hno.out k hk e)
                have s0 := hS9.cell 0
                have z0 := hH9.cell 0
                clear hO hH6 hS6 hHX hSX hWX hbX htv hb9 hf9 hf9' hW9 hk9 hfX hfwX hS9 hH9 hWb hWs hWblk
                by_cases c1 : (q : Int) < 3
                · have hz : ((gg.length : Int) == 0) = true := by rw [HFO.out (.inl (by rw [hq.out]; omega))]; rfl
                  go_wp2_with fail
                  go_ret
                  exact ⟨by first | rfl | simp, hff⟩
                · by_cases c2 : G = bY
                  · have ec2 : (G == bY) = true := by rw [c2]; exact beq_self_eq_true _
                    by_cases c3 : kind = 8
                    · have ec3 : (kind == 8) = true := by rw [c3]; exact beq_self_eq_true _
                      have hz : ((gg.length : Int) == 0) = true := by rw [HFO.out (.inr (.inr (.inl c3)))]; rfl
                      go_wp2_with fail
                      go_ret
                      exact ⟨by first | rfl | simp, hff⟩
                    · have ec3 : (kind == 8) = false := beq_eq_false_iff_ne.2 c3
                      by_cases c4 : kind = 9
                      · have ec4 : (kind == 9) = true := by rw [c4]; exact beq_self_eq_true _
                        have hz : ((gg.length : Int) == 0) = true := by rw [HFO.out (.inr (.inr (.inr (.inl c4))))]; rfl
                        go_wp2_with fail
                        go_ret
                        exact ⟨by first | rfl | simp, hff⟩
                      · have ec4 : (kind == 9) = false := beq_eq_false_iff_ne.2 c4
                        by_cases c5 : bs.length = 0
                        · have ec5 : ((bs.length : Int) == 0) = true := by rw [c5]; rfl
                          have hz : ((gg.length : Int) == 0) = true := by rw [HFO.out (.inr (.inr (.inr (.inr (hbz.out.1 c5)))))]; rfl
                          go_wp2_with fail
                          go_ret
                          exact ⟨by first | rfl | simp, hff⟩
                        · have ec5 : ((bs.length : Int) == 0) = false := beq_eq_false_iff_ne.2 (by omega)
                          go_wp2_with fail
                          go_ret
                          exact ⟨by first | rfl | simp, hff⟩
                  · have ec2 : (G == bY) = false := beq_eq_false_iff_ne.2 c2
                    have hz : ((gg.length : Int) == 0) = true := by rw [HFO.out (.inr (.inl (by dsimp only; rw [HBY.out]; exact c2)))]; rfl
                    go_wp2_with fail
                    go_ret
                    exact ⟨by first | rfl | simp, hff⟩
end Go.Proofs.YtmkdhhhoodeemaaGreat

/- Arguments opened: rows of entries, what is heard. -/
namespace Go.Proofs.YtmkdhhhoodeemaaGreat
open Go Go.RowKit Go.ChangeShapes Go.WideShapes Go.Deep Go.Joins
section
variable {H : Type} {enc : TypeId × Value → H} {w : World} {base : Nat} {spare : Nat → Bool} {held : Bool}
set_option maxRecDepth 100000 in
theorem open_entries {fuel : Nat} {v : Value} {x : DataW H × List MemPlace} (h : DataW.trod enc Tryz.prog w base spare held fuel 31 [v] = some x) :
    ∃ (A : Option Addr) (cap : Nat) (l : List (ByteArray × ByteArray × Int)), v = .slice A l.length cap ∧ EntRow w (fun k => k < w.heap.size) A l ∧ l.length ≤ 9223372036854775807 := by
  rcases open_slice_rows Tryz.underlying31 Tryz.underlying119 (by kernel_rfl) (by kernel_rfl) h with ⟨hv, _⟩ | ⟨a, len, cap, m, hv, hml, hm', hat⟩
  · cases hv
    exact ⟨none, 0, [], rfl, fun k s hs => by simp at hs, by simp⟩
  · cases hv
    obtain ⟨l, hl, hr⟩ := open_rows (w := w) (a := a) (len := len) (k := 3) (α := ByteArray × ByteArray × Int) (R := fun c s => c 0 = some (.string s.1) ∧ c 1 = some (.string s.2.1) ∧ c 2 = some (.int .i64 s.2.2)) (fun i hi => by
      obtain ⟨ys, n, hf⟩ := hat i (by omega)
      obtain ⟨v0, y0, c0, _, t0⟩ := hf 0 _ rfl
      obtain ⟨v1, y1, c1, _, t1⟩ := hf 1 _ rfl
      obtain ⟨s, e0, _, _⟩ := DataW.trod_string Tryz.underlying9 t0
      obtain ⟨z, e1, _, _⟩ := DataW.trod_string Tryz.underlying9 t1
      obtain ⟨v2, y2, c2, _, t2⟩ := hf 2 _ rfl
      obtain ⟨u, e2, _, _⟩ := DataW.trod_int Tryz.underlying2 t2
      cases e0
      cases e1
      cases e2
      exact ⟨(s, z, u), c0, c1, c2⟩)
    subst hl
    refine ⟨some a, cap, l, rfl, fun k s hs => ?_, by unfold maxLen at hm'; omega⟩
    obtain ⟨c0, c1, c2⟩ := hr k s hs
    obtain ⟨b, off, spot⟩ := a
    dsimp only at c0 c1 c2
    have hpos : 0 < l.length := by have := (List.getElem?_eq_some_iff.1 hs).1; omega
    have q0 := (hr 0 _ (List.getElem?_eq_getElem hpos)).1
    have hspot : spot = none := World.cell?_spot (a := ⟨b, off, spot⟩) q0
    subst hspot
    rw [add_in] at c0 c1 c2
    rw [Nat.add_zero] at c0
    rw [← Nat.add_assoc] at c1 c2
    exact ⟨b, off, rfl, World.block_lt_of_cell? w _ c0, c0, c1, c2⟩
set_option maxRecDepth 100000 in
theorem open_heard {fuel : Nat} {cs : List Value} {x : DataW H × List MemPlace} (h : DataW.trod enc Tryz.prog w base spare held fuel 25 cs = some x) :
    ∃ (G : Int) (s : SayD), cs = [.int .i64 G, .int .i64 s.kind, .int .i64 s.txn, .bool s.yes, .string s.from_, .string s.to_, .int .i64 s.epoch, .int .i64 s.shard, .int .i64 s.target, .int .i64 s.root] := by
  obtain ⟨xs, n, _, _, hlen, hxl, hf⟩ := DataW.trod_struct Tryz.underlying25 h
  have hc : (Tryz.prog).cellsOf 25 = 10 := by kernel_rfl
  rw [hc] at hlen
  match cs, hlen, xs, hxl with
  | [a0, a1, a2, a3, a4, a5, a6, a7, a8, a9], _, [x0, x1], _ =>
    have c1 : (Tryz.prog).cellsOf 3 = 1 := by kernel_rfl
    have c9 : (Tryz.prog).cellsOf 23 = 9 := by kernel_rfl
    have t0 : DataW.trod enc Tryz.prog w base spare held n 3 (([a0, a1, a2, a3, a4, a5, a6, a7, a8, a9].drop 0).take ((Tryz.prog).cellsOf 3)) = some x0 := hf 0 _ rfl
    rw [c1] at t0
    have t1 : DataW.trod enc Tryz.prog w base spare held n 23 (([a0, a1, a2, a3, a4, a5, a6, a7, a8, a9].drop 1).take ((Tryz.prog).cellsOf 23)) = some x1 := hf 1 _ rfl
    rw [c9] at t1
    obtain ⟨n0, e0, _, _⟩ := DataW.trod_int Tryz.underlying3 t0
    obtain ⟨s, e1, _⟩ := open_say t1
    cases e0
    cases e1
    exact ⟨n0, s, rfl⟩
end
end Go.Proofs.YtmkdhhhoodeemaaGreat

/- RelayFewSaid: for every input the law returns true, and each argument reads behind the call as it read before. No condition. -/
namespace Go.Proofs.YtmkdhhhoodeemaaGreat
open Go Go.RowKit Go.ChangeShapes Go.WideShapes Go.ChangeAt Go.Deep Go.Joins
theorem own_relayFew : ownKnob Tryz.prog.godebug = none := by kernel_rfl
theorem laidOut_relayFew : laidOutB Tryz.prog = true := by kernel_rfl
set_option maxRecDepth 100000 in
theorem lifted_relayFew (os : Os) (started : os.Started) (H : Type) (enc : TypeId × Value → H) :
    ReturnsInHanded {} Tryz.checked os 5 .any (Rows.relayFewSpec.pre6 enc Tryz.prog Tryz.f5 Rows.relayFewRow.domain false) (Rows.relayFewSpec.post enc Tryz.prog Tryz.f5 false true false false) := by
  refine returnsInHanded_of_change (C := Tryz.checked) own_relayFew started (by kernel_rfl) Tryz.func5
    (ChangeSpec.witness6 (enc := enc) (C := Tryz.checked) false ⟨#[], #[.agg #[.int .i64 0, .int .i64 0, .int .i64 0, .bool false, .string ⟨#[]⟩, .string ⟨#[]⟩, .int .i64 0, .int .i64 0, .int .i64 0, .int .i64 0], .int .i64 0, .slice none 0 0], []⟩ 8 (by kernel_rfl) (by kernel_rfl) (by kernel_rfl) (by kernel_rfl)) ?_
  intro W base args ds gs before hval0 hW hcnd _
  have hval : ∀ (j : Nat) t v, Tryz.f5.params[j]? = some t → args[j]? = some v → Value.okWide Tryz.prog W .any base t v := hval0
  have hW' := hW
  obtain ⟨p, q, hA0, hV, rfl, hfz, hnd⟩ := hW
  have hA : DataW.TrodAll enc Tryz.prog W 0 (fun _ => true) true Tryz.f5.params.toList args.toList ds p := hA0
  rw [Tryz.params5] at hA hval
  obtain ⟨v0, vs0, d0, ds0, p0, q0, hargs, rfl, rfl, h0, r0⟩ := trodAll_cons hA
  obtain ⟨v1, vs1, d1, ds1, p1, q1, rfl, rfl, rfl, h1, r1⟩ := trodAll_cons r0
  obtain ⟨v2, vs2, d2, ds2, p2, q2, rfl, rfl, rfl, h2, r2⟩ := trodAll_cons r1
  obtain ⟨rfl, rfl, rfl⟩ := trodAll_nil r2
  obtain rfl : args = #[v0, v1, v2] := by cases args; simp_all
  obtain ⟨rfl, rfl⟩ := trodVars_none hV
  have k0 := h0
  have lt0 : ∀ x ∈ p0, x.block < W.heap.size := by obtain ⟨m, hm⟩ := k0; exact DataW.trod_lt m _ _ _ hm
  have k1 := h1
  have lt1 : ∀ x ∈ p1, x.block < W.heap.size := by obtain ⟨m, hm⟩ := k1; exact DataW.trod_lt m _ _ _ hm
  have k2 := h2
  have lt2 : ∀ x ∈ p2, x.block < W.heap.size := by obtain ⟨m, hm⟩ := k2; exact DataW.trod_lt m _ _ _ hm
  obtain ⟨cs0, rfl, _⟩ := okWide_struct Tryz.underlying25 (hval 0 25 v0 rfl rfl)
  obtain ⟨fuel0, hf0⟩ := h0
  obtain ⟨G0, s0, hcs0⟩ := open_heard hf0
  obtain rfl : cs0 = #[.int .i64 G0, .int .i64 s0.kind, .int .i64 s0.txn, .bool s0.yes, .string s0.from_, .string s0.to_, .int .i64 s0.epoch, .int .i64 s0.shard, .int .i64 s0.target, .int .i64 s0.root] := Array.ext' hcs0
  obtain ⟨a1, rfl, rfl, rfl, w1⟩ := open_int Tryz.underlying3 (hval 1 3 v1 rfl rfl) h1
  have y1 : -9223372036854775808 ≤ a1 ∧ a1 ≤ 9223372036854775807 := by simpa [Lit.wf, IntKind.min, IntKind.max, IntKind.signed, IntKind.bits] using w1
  obtain ⟨a2, len2, cp2, rfl⟩ := okWide_slice Tryz.underlying31 (hval 2 31 v2 rfl rfl)
  obtain ⟨fuel2, hf2⟩ := h2
  obtain ⟨A2, cap2, l2, hl2, hE2, lE2⟩ := open_entries hf2
  cases hl2
  clear hA0 hval0
  refine (relayFew_walk hE2 lE2).mono fun e W' ⟨he, hfr⟩ => ?_
  subst he
  have bel : Below W.heap.size W W' := hfr.below (Nat.le_refl _) (fun _ _ => id)
  exact ⟨_, rfl, _, _, _, [], _, [], hW', trodAll_mk1 (shut_bool Tryz.underlying4 _), (trodAll_cons_mk (Below.trod laidOut_relayFew (by kernel_rfl) (of_decide_eq_true (by kernel_rfl)) k0 bel lt0) (trodAll_cons_mk (Below.trod laidOut_relayFew (by kernel_rfl) (of_decide_eq_true (by kernel_rfl)) k1 bel lt1) (trodAll_cons_mk (Below.trod laidOut_relayFew (by kernel_rfl) (of_decide_eq_true (by kernel_rfl)) k2 bel lt2) trodAll_mk0))), rfl, bel.frame _, fun h => by cases h⟩
theorem over_relayFew : Rows.relayFewRow.holds Tryz.pinned (OpenSpec.ofChange Rows.relayFewSpec) :=
  OpenClaim.holds_of_wide 5 Tryz.f5 rfl rfl rfl rfl rfl rfl rfl ⟨rfl, rfl, rfl, rfl, rfl⟩ rfl rfl rfl rfl rfl (by kernel_rfl) Tryz.func5 (by kernel_rfl)
    (of_decide_eq_true (by kernel_rfl)) (by unfold Func.isWrapper; first | (rw [if_pos (by decide +kernel)]; kernel_rfl) | (rw [if_neg (by decide +kernel)]; exact ⟨rfl, rfl⟩))
    (fun os started H enc _ => lifted_relayFew os started H enc)
theorem relayFew_holds : Rows.RelayFewSaid := over_relayFew
end Go.Proofs.YtmkdhhhoodeemaaGreat
