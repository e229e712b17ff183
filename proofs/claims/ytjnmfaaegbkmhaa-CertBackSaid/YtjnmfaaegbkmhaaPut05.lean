/- cert.Put. -/
import Derived.Test.YtjnmfaaegbkmhaaMake
import Derived.Test.YtjnmfaaegbkmhaaWireL
import Derived.Test.YtjnmfaaegbkmhaaReadL
namespace Go.Proofs.Ytjnmfaaegbkmhaa
open Go Go.RowKit
theorem own_ne_own {w : World} {b b' : Nat} {e e' : TypeId} {z z' : Nat} {v v' : Value} {n n' : Nat} {xs xs' : List Value} (h : w.ownsRow b e z v n xs) (h' : w.ownsRow b' e' z' v' n' xs') (hne : e ≠ e') : ∀ k, v.ownBlock = some k → v'.ownBlock ≠ some k := by
  intro k hk hk'
  rcases h.2 with ⟨rfl, _⟩ | ⟨g, cap, cur, rfl, _, hg, _⟩
  · cases hk
  rcases h'.2 with ⟨rfl, _⟩ | ⟨g', cap', cur', rfl, _, hg', _⟩
  · cases hk'
  cases hk
  cases hk'
  rw [hg] at hg'
  injection hg' with hg'
  injection hg' with _ ht
  exact hne ht
theorem NumRow.of_own {w : World} {base : Nat} {e : TypeId} {v : Value} {xs : List Int} (h : w.ownsRow base e 1 v xs.length (num64V xs)) : ∃ A cap, v = .slice A xs.length cap ∧ NumRow w (fun k => v.ownBlock = some k) A xs := by
  obtain ⟨A, cap, hv, _, hat⟩ := own_form h
  refine ⟨A, cap, hv, ?_⟩
  intro k x hx
  obtain ⟨b, hb, _, hc⟩ := hat k (.int .i64 x) (by simp [num64V, hx])
  exact ⟨b, 0, hb, by rw [hv, hb]; rfl, by rw [Nat.zero_add]; exact hc⟩
def putErr (xs : List Int) : Option (List (ByteArray × Int) × Int) := if xs.length ≤ 1024 then none else some ([((⟨#[99, 101, 114, 116]⟩ : ByteArray), 0), ((⟨#[119, 114, 105, 116, 101]⟩ : ByteArray), 16)], 2)
def putB (G D : Int) (xs : List Int) : List Int := if xs.length ≤ 1024 then num8 G ++ num8 D ++ numsB xs else []
def PutOut (w : World) (G D : Int) (xs : List Int) (e : Ending) (w' : World) : Prop :=
  ∃ v, e = .returned (.tuple #[v, errO (putErr xs)]) ∧ Own8 w' w.heap.size v (putB G D xs) ∧ Fr (fun _ => False) w w'
set_option maxRecDepth 100000 in
theorem cert_Put {w : World} {B : Nat} {A : Option Addr} {cap : Nat} {xs : List Int} (hr : IntRow w B A xs) (hB : B ≤ w.heap.size) (hlen : xs.length ≤ 100000) (G D : Int) :
    Calls Try.prog 15 #[.agg #[.int .i64 G, .int .i64 D, .slice A xs.length cap]] w (PutOut w G D xs) := by
  have b0 := (Blk.new w 25 #[.int .i64 G, .int .i64 D, .slice A xs.length cap]).alloc (Obj.cells #[.slice none 0 0, .nilIface] 74)
  have hf0 : Fr (fun _ => False) w ((w.alloc (Obj.cells #[.int .i64 G, .int .i64 D, .slice A xs.length cap] 25)).alloc (Obj.cells #[.slice none 0 0, .nilIface] 74)) := ((Fr.refl _ _).alloc _).alloc _
  have hW : WriterAt ((w.alloc (Obj.cells #[.int .i64 G, .int .i64 D, .slice A xs.length cap] 25)).alloc (Obj.cells #[.slice none 0 0, .nilIface] 74)) (w.heap.size + 1) w.heap.size (.slice none 0 0) [] none := ⟨Blk.new_ _ _ _ (by simp), Own8.nil _ _⟩
  go_enter Try.func15, Try.ntmps15
  go_wp2_with fail
  refine (writer_Num hW (by simp; omega) (by simp) G).mono ?_
  rintro e w1 ⟨v1, rfl, hW1, hf1, hk1⟩
  have hW1 : WriterAt w1 (w.heap.size + 1) w.heap.size v1 (num8 G) none := hW1
  have hne0 : ∀ {v : Value} {ys : List Int} {w' : World}, Own8 w' w.heap.size v ys → Blk w' w.heap.size 25 #[.int .i64 G, .int .i64 D, .slice A xs.length cap] → ¬ (w.heap.size = w.heap.size + 1 ∨ v.ownBlock = some w.heap.size) := fun h1 h2 h => h.elim (fun h => by omega) (fun h => h1.ne_blk h2 (by decide) h)
  have b1 := b0.fr hf1 (hne0 (Own8.nil _ _) b0)
  have hf1' : Fr (fun _ => False) w w1 := hf0.trans hf1 (fun k hk h => by rcases h with h | h; (· omega); (· cases h))
  have c1 := b1.cell 1
  have hsz1 := hf1'.size
  clear hW hf0 hf1 hk1 b0
  go_wp2_with fail
  refine (writer_Num hW1 hsz1 (by rw [num8_length]; omega) D).mono ?_
  rintro e w2 ⟨v2, rfl, hW2, hf2, hk2⟩
  have hW2 : WriterAt w2 (w.heap.size + 1) w.heap.size v2 (num8 G ++ num8 D) none := hW2
  have b2 := b1.fr hf2 (hne0 hW1.own b1)
  have hf2' : Fr (fun _ => False) w w2 := hf1'.trans hf2 (fun k hk h => by rcases h with h | h; (· omega); (· have := own_ge hW1.own k h; omega))
  have c2 := b2.cell 2
  have hr2 := hr.fr hf2' (fun _ _ => id)
  clear hW1 hf1' hf2 hk2 b1 c1 hr
  go_wp2_with fail
  go_loopw [5, 23] (fun lv i wr => ∃ k : Nat, k ≤ xs.length ∧ i = .int .i64 k ∧ wr.ownsRow w2.heap.size 2 1 lv k (num64V (xs.take k)) ∧ Fr (fun _ => False) w2 wr) (fun _ i _ => xs.length - (intOf i).toNat)
  case atStart => exact ⟨0, by omega, rfl, World.ownsRow_nil _ _ _ _, Fr.refl _ _⟩
  case round =>
    obtain ⟨k, hk, rfl, hown, hf⟩ := hrel
    by_cases hlt : k < xs.length
    · obtain ⟨x, hx⟩ : ∃ x, xs[k]? = some x := ⟨xs[k], List.getElem?_eq_getElem hlt⟩
      obtain ⟨b, o, rfl, hb, hc⟩ := hr2 k x hx
      have d0 := hf.cell_some hc id
      have HX := Lib.hid hx
      clear hr2 hc hx
      go_wp2_with (at_builtin; refine wpList_append1 _ rfl _ _ _ rfl w2.heap.size 2 (.int .i64 0) 8 Try.underlying76 int64_info rfl u5 k (num64V (xs.take k)) rfl (hown.alloc _) wr.heap.size (.int .i64 x) rfl ?_ rfl (by omega) (by omega) ?_ ?_; (· simp); (· have := hf.size; simp; omega); intro g3 c3 w3 hown3 hf3)
      go_roundw
      case rel =>
        have hfb : Fr (fun k => u5.ownBlock = some k) wr w3 := ((Fr.refl (fun k => u5.ownBlock = some k) wr).alloc _).trans hf3 (fun _ _ h => h)
        have e1 : num64V (xs.take (k + 1)) = num64V (xs.take k) ++ [.int .i64 x] := by
          obtain ⟨h1, h2⟩ := List.getElem?_eq_some_iff.1 HX.out
          rw [List.take_succ_eq_append_getElem h1, h2, num64V, num64V, List.map_append]
          rfl
        exact ⟨k + 1, by omega, by go_num, by rw [e1]; exact hown3, hf.own hown hfb (Nat.le_refl _)⟩
      case measure => simp [intOf]; omega
    · obtain rfl : k = xs.length := by omega
      rw [List.take_length] at hown
      obtain ⟨A5, cap5, rfl, hr5⟩ := NumRow.of_own hown
      have hW3 := hW2.fr hf id (fun _ _ => id)
      have hA := own_ne_own hown hW3.own (by decide)
      have hf3 := hf2'.then_ hf
      have HT := writer_Nums (cap := cap5) hW3 hf3.size hr5 hA (by omega) (by
        rcases Nat.lt_or_ge 1024 xs.length with h | h
        · exact .inr h
        · exact .inl (by rw [numsB, List.length_append, List.length_append, num8_length, num8_length, count4_length, flat_num8]; omega))
      have hbs : (num8 G ++ num8 D).length = 16 := rfl
      clear hr2 c2 hr5 hA hW2 hf2' b2
      by_cases hl : xs.length ≤ 1024
      · rw [if_pos hl] at HT
        have hE : Hid (errO (putErr xs) = .nilIface) := by show _ = _; rw [putErr, if_pos hl]; rfl
        have hP : Hid (putB G D xs = num8 G ++ num8 D ++ numsB xs) := by show _ = _; rw [putB, if_pos hl]
        clear hl
        go_wp2_with (first
          | (go_at_call 28; refine HT.mono ?_; rintro e w4 ⟨v4, rfl, hW4, hf4, hk4⟩))
        clear HT
        have hW4 : WriterAt w4 (w.heap.size + 1) w.heap.size v4 (num8 G ++ num8 D ++ numsB xs) none := hW4
        have hf4' : Fr (fun _ => False) w w4 := hf3.trans hf4 (fun k hk h => by rcases h with h | h; (· omega); (· have := own_ge hW3.own k h; omega))
        refine (writer_Bytes hW4 (by rw [List.length_append, List.length_append, num8_length, num8_length, numsB, List.length_append, count4_length, flat_num8]; omega)).mono ?_
        rintro e w6 ⟨v6, rfl, hv6, hf6⟩
        have hnil : errW none = .nilIface := rfl
        rw [hnil]
        go_wp2_with (go_at_call 21; refine (fault_Wrap_nil _ _ _).mono ?_; rintro e w' ⟨rfl, rfl⟩)
        refine bodyPost_ret (v := .tuple #[v6, .nilIface]) (by simp [results, Try.results15, go_sem]) rfl ?_
        exact ⟨v6, by rw [hE.out], by rw [hP.out]; exact Own8.base_ hv6 hf4'.size, hf4'.then_ hf6⟩
      · rw [if_neg hl] at HT
        have hE : Hid (errO (putErr xs) = errV [((⟨#[99, 101, 114, 116]⟩ : ByteArray), 0), ((⟨#[119, 114, 105, 116, 101]⟩ : ByteArray), 16)] 2) := by show _ = _; rw [putErr, if_neg hl]; rfl
        have hP : Hid (putB G D xs = []) := by show _ = _; rw [putB, if_neg hl]
        clear hl
        go_wp2_with (first
          | (go_at_call 28; refine HT.mono ?_; rintro e w4 ⟨v4, rfl, hW4, hf4, hk4⟩))
        clear HT
        have hW4 : WriterAt w4 (w.heap.size + 1) w.heap.size v4 (num8 G ++ num8 D) (some 16) := hW4
        have hf4' : Fr (fun _ => False) w w4 := hf3.trans hf4 (fun k hk h => by rcases h with h | h; (· omega); (· have := own_ge hW3.own k h; omega))
        refine (writer_Bytes hW4 (by rw [hbs]; decide)).mono ?_
        rintro e w6 ⟨v6, rfl, hv6, hf6⟩
        have hnil : errW (some 16) = errV [((⟨#[119, 114, 105, 116, 101]⟩ : ByteArray), 16)] 2 := rfl
        rw [hnil]
        go_wp2_with (go_at_call 21; refine (fault_Wrap _ _ _ _ _).mono ?_; rintro e w' ⟨rfl, rfl⟩)
        refine bodyPost_ret (v := .tuple #[v6, errV [((⟨#[99, 101, 114, 116]⟩ : ByteArray), 0), ((⟨#[119, 114, 105, 116, 101]⟩ : ByteArray), 16)] 2]) (by simp [results, Try.results15, go_sem]) rfl ?_
        exact ⟨v6, by rw [hE.out], by rw [hP.out]; exact Own8.base_ hv6 hf4'.size, hf4'.then_ hf6⟩
end Go.Proofs.Ytjnmfaaegbkmhaa
