/- RelayCertsSaid: for every input the law returns true, and each argument reads behind the call as it read before. No condition. -/
import Derived.Test.YtmkdhhhoodeemaaGreatCrtProofGa
import Derived.Test.YtmkdhhhoodeemaaGreatCrtProofGb
import Derived.Test.YtmkdhhhoodeemaaGreatCrtProofGc
import Derived.Test.YtmkdhhhoodeemaaGreatCrtProofGd
import Derived.Test.YtmkdhhhoodeemaaGreatCrtProofGe
import Derived.Test.YtmkdhhhoodeemaaGreatCrtProofJa
import Derived.Test.YtmkdhhhoodeemaaGreatCrtProofJb
set_option linter.unusedVariables false
set_option linter.unusedSimpArgs false
/- slices.DeleteFunc, slices.Clone of entries. -/
namespace Go.Proofs.YtmkdhhhoodeemaaGreat
open Go Go.RowKit Go.Lib
def DelP (w : World) (base : Nat) (v : Value) (p : Ent → Bool) (l : List Ent) (e : Ending) (w' : World) : Prop :=
 ∃ A n cap, e = .returned (.slice A n cap) ∧ n = (l.filter fun x => !p x).length ∧ n ≤ cap ∧ EntRow w' (fun k => base ≤ k) A (l.filter fun x => !p x) ∧ Fr (fun k => v.ownBlock = some k) w w'
theorem entry_zero : ∀ w, (zeroValue 119).run Tryz.prog w = .ok (.agg #[.string ⟨#[]⟩, .string ⟨#[]⟩, .int .i64 0]) w := Tryz.zeroValue119
set_option maxRecDepth 100000 in
set_option maxHeartbeats 4000000 in
theorem deleteEnt {w : World} {base : Nat} {v : Value} {l : List Ent} {p : Ent → Bool} {sb : Nat} (h : w.ownsRow base 119 3 v l.length (entsV l)) (hll : l.length ≤ 1000000) (hP : ∀ w' x, Fr (fun k => v.ownBlock = some k) w w' → Calls Tryz.prog 83 #[.agg #[.string x.1, .string x.2.1, .int .i64 x.2.2], .pointer (some ⟨sb, 0, none⟩)] w' (OkB w' (p x))) :
  Calls Tryz.prog 81 #[v, .func (.func 83) #[] #[.pointer (some ⟨sb, 0, none⟩)]] w (DelP w base v p l) := by
 obtain ⟨A, cap, rfl, hrow⟩ := own_ents h
 have HI := Lib.hid (indexEntT (cap := cap) (p := p) hrow hll (fun w' x hf => hP w' x (hf.mono (fun _ _ h => h.elim))))
 have HP := Lib.hid hP
 have HR := Lib.hid hrow
 have HO := Lib.hid h
 clear hP hrow h
 go_enter Tryz.func81, Tryz.ntmps81
 go_upto_region 2 with (first
  | (go_at_call 112; refine HI.out.mono ?_; rintro e w1 ⟨⟨i, rfl, hi⟩, hf1⟩))
 rcases hi with ⟨rfl, hno⟩ | ⟨k0, rfl, hk0, hlow, hhit⟩
 ·have HN := Lib.hid hno
  clear hno
  go_wp2_with fail
  go_ret
  have he : (l.filter fun x => !p x) = l := by
   rw [List.filter_eq_self]
   intro x hx
   obtain ⟨k, hk, rfl⟩ := List.mem_iff_getElem.1 hx
   rw [HN.out k _ (List.getElem?_eq_getElem hk)]
   rfl
  have hcp : l.length ≤ cap := by obtain ⟨_, _, e1, e2, _⟩ := own_form HO.out; cases e1; exact e2
  refine ⟨A, l.length, cap, rfl, by rw [he], hcp, ?_, hf1.mono (fun _ _ h => h.elim)⟩
  rw [he]
  exact HR.out.fr hf1 (fun _ _ => id)
 ·obtain ⟨d, hd⟩ : ∃ d : Array Ent, d = l.toArray := ⟨_, rfl⟩
  obtain ⟨kp, hkp⟩ : ∃ kp : Nat → Bool, kp = fun j => !p d[j]! := ⟨_, rfl⟩
  have hds : d.size = l.length := by rw [hd]; simp
  have hdg : ∀ (j : Nat) x, l[j]? = some x → d[j]! = x := by
   intro j x hx
   rw [hd]
   obtain ⟨hj, rfl⟩ := List.getElem?_eq_some_iff.1 hx
   rw [getElem!_pos l.toArray j (by simpa using hj)]
   simp
  have I0 : KeptInv kp d (k0 + 1) k0 d := KeptInv.start
   (fun j hj => by
    have hjl : j < l.length := by omega
    rw [hkp]
    show (!p d[j]!) = true
    rw [hdg j _ (List.getElem?_eq_getElem hjl), hlow j _ hj (List.getElem?_eq_getElem hjl)]
    rfl)
   (by
    rw [hkp]
    show (!p d[k0]!) = false
    rw [hdg k0 _ (List.getElem?_eq_getElem hk0), hhit _ (List.getElem?_eq_getElem hk0)]
    rfl)
  have hfil : (l.filter fun x => !p x) = keptUpTo kp d d.size := by rw [hkp, keptUpTo_filter (fun x => !p x) d, hd]
  have HFI := Lib.hid hfil
  have hne : ((k0 : Int) == -1) = false := beq_eq_false_iff_ne.2 (by omega)
  obtain ⟨q, hq⟩ : ∃ q, l.length = q + 1 := ⟨l.length - 1, by omega⟩
  obtain ⟨g, c', he⟩ := own_some (hq ▸ HO.out)
  obtain ⟨rfl, rfl⟩ : A = some ⟨g, 0, none⟩ ∧ c' = cap := by cases he; exact ⟨rfl, rfl⟩
  obtain ⟨cs, hcs⟩ := own_cells HO.out (k := g) rfl
  have hgb : base ≤ g := own_ge HO.out g rfl
  have hcap : l.length ≤ c' := by obtain ⟨_, _, e1, e2, _⟩ := own_form HO.out; cases e1; exact e2
  have E0 : EntA cs d := by
   intro k x hx
   rw [hd] at hx
   obtain ⟨b, o, eb, hb, c0, c1, c2⟩ := HR.out k x (by simpa using hx)
   cases eb
   rw [Nat.zero_add] at c0 c1 c2
   rw [hcs.cell] at c0 c1 c2
   exact ⟨c0, c1, c2⟩
  clear hlow hhit hfil hq he hdg
  have hB1 := hcs.fr hf1 id
  have hf1' : Fr (fun k => k = g) w w1 := hf1.mono (fun _ _ h => h.elim)
  clear hf1 hcs HI
  have HE0 := Lib.hid E0
  have HI0 := Lib.hid I0
  have HKP := Lib.hid hkp
  have HDS := Lib.hid hds
  clear E0 I0 hkp hds hd
  go_upto_region 5 with fail
  go_loopw [5, 6, 7] (fun s5 s6 _ wr => ∃ (i j : Nat) (dk : Array Ent) (cs : Array Value), s5 = .int .i64 i ∧ s6 = .int .i64 j ∧ j ≤ l.length ∧ Hid (KeptInv kp d j i dk) ∧ Blk wr g 119 cs ∧ Hid (EntA cs dk) ∧ Fr (fun k => k = g) w wr) (fun _ s6 _ _ => l.length - (RowKit.intOf s6).toNat)
  case atStart => exact ⟨k0, k0 + 1, d, cs, rfl, by go_num, by omega, HI0, hB1, HE0, hf1'⟩
  case round =>
   clear hB1 hf1' HE0 HI0
   obtain ⟨i, j, dk, cs, rfl, rfl, hjd, HI, hB, HE, hf⟩ := hrel
   have hij := HI.out.lt
   by_cases hlt : j < l.length
   ·have hlt' : (j : Int) < (l.length : Int) := by omega
    obtain ⟨x, hx⟩ : ∃ x, x = d[j]! := ⟨_, rfl⟩
    have hdk : dk[j]? = some x := by
     have h1 := HI.out.high j (by omega)
     have h2 : j < dk.size := by have := HI.out.size; have := HDS.out; omega
     rw [Array.getElem?_eq_getElem h2, hx, ← h1, getElem!_pos dk j h2]
    obtain ⟨e0, e1, e2⟩ := HE.out j x hdk
    have c0 := hB.cell (j * 3)
    have c1 := hB.cell (j * 3 + 1)
    have c2 := hB.cell (j * 3 + 2)
    rw [e0] at c0
    rw [e1] at c1
    rw [e2] at c2
    have HX := Lib.hid hx
    clear e0 e1 e2 hdk hx
    go_upto_region 8 with fail
    have hX := Blk.new wr 119 #[.string x.1, .string x.2.1, .int .i64 x.2.2]
    have hBa := hB.alloc (Obj.cells #[.string x.1, .string x.2.1, .int .i64 x.2.2] 119)
    have hfa := hf.alloc (Obj.cells #[.string x.1, .string x.2.1, .int .i64 x.2.2] 119)
    generalize wr.alloc (Obj.cells #[.string x.1, .string x.2.1, .int .i64 x.2.2] 119) = wa at *
    have HK := HP.out wa x (hfa.mono (fun k _ e => by rw [e]; rfl))
    have y0 := hX.cell 0
    have y1 := hX.cell 1
    have y2 := hX.cell 2
    clear c0 c1 c2 hB hf
    have hij' : i < dk.size := by have := HI.out.size; have := HDS.out; omega
    cases hp : p x with
    | false =>
     rw [hp] at HK
     replace HK := Lib.hid HK
     have hkj : Hid (kp j = true) := by show kp j = true; rw [HKP.out]; show (!p d[j]!) = true; rw [← HX.out, hp]; rfl
     clear hp
     go_upto_region 9 with (go_at_call 83; refine HK.out.mono ?_; rintro e w3 ⟨rfl, hf3⟩)
     have hB3 := hBa.fr hf3 id
     have hX3 := hX.fr hf3 id
     have hf03 := hfa.then_ hf3
     have hth : w3.there g (i * 3) 3 := hB3.there (by have := HE.out.lt hij'; omega)
     clear hBa hX hfa y0 y1 y2 hf3
     have y0 := hX3.cell 0
     have y1 := hX3.cell 1
     have y2 := hX3.cell 2
     have hil : (i : Int) < (l.length : Int) := by omega
     go_wp2_with (refine wpList_store_mid rfl 119 (.tmp 33) (.tmp 32) rfl g (i * 3) #[.string x.1, .string x.2.1, .int .i64 x.2.2] rfl rfl hth (by kernel_rfl) (by simp [Value.oneCell']) ?_)
     have hKI : Hid (KeptInv kp d (j + 1) (i + 1) (dk.setIfInBounds i x)) := by
      have := HI.out.keep (by have := HDS.out; omega) hkj.out
      rw [← HX.out] at this
      exact this
     go_roundw
     case rel => exact ⟨i + 1, j + 1, dk.setIfInBounds i x, _, by go_num, by go_num, by omega, hKI, ((hB3.set_ (i * 3) _).set_ (i * 3 + 1) _).set_ (i * 3 + 1 + 1) _, HE.out.set_ hij' x, Fr.setCells_ (S := fun k => k = g) (fun _ => rfl) _ _ hf03⟩
     case measure => simp [RowKit.intOf]; omega
    | true =>
     rw [hp] at HK
     replace HK := Lib.hid HK
     have hkj : Hid (kp j = false) := by show kp j = false; rw [HKP.out]; show (!p d[j]!) = false; rw [← HX.out, hp]; rfl
     clear hp
     go_wp2_with (go_at_call 83; refine HK.out.mono ?_; rintro e w3 ⟨rfl, hf3⟩)
     go_roundw
     case rel => exact ⟨i, j + 1, dk, cs, rfl, by go_num, by omega, HI.out.skip hkj.out, hBa.fr hf3 id, HE, hfa.then_ hf3⟩
     case measure => simp [RowKit.intOf]; omega
   ·obtain rfl : j = l.length := by omega
    have hi2 : i < dk.size := by have := HI.out.size; have := HDS.out; omega
    have hz : (Value.agg #[.string ⟨#[]⟩, .string ⟨#[]⟩, .int .i64 0]).cells = #[.string ⟨#[]⟩, .string ⟨#[]⟩, .int .i64 0] := rfl
    have hbig : ∀ q, q < (l.length - i) * (Value.agg #[.string ⟨#[]⟩, .string ⟨#[]⟩, .int .i64 0]).cells.size → i * 3 + q < cs.size := by
     intro q hq
     rw [hz] at hq
     have h1 : l.length - 1 < dk.size := by have := HI.out.size; have := HDS.out; omega
     have h2 := HE.out.lt h1
     have h3 : (#[Value.string ⟨#[]⟩, .string ⟨#[]⟩, .int .i64 0] : Array Value).size = 3 := rfl
     rw [h3] at hq
     omega
    have hcl : ∀ ty, (Builtin.clear_ #[31] ty #[.slice (some ⟨g, i * 3, none⟩) (l.length - i) (c' - i)]).run Tryz.prog wr = .ok (.tuple #[]) (wr.setCells g (i * 3) (Builtin.zeroCells (Value.agg #[.string ⟨#[]⟩, .string ⟨#[]⟩, .int .i64 0]).cells (l.length - i)).toList) := fun ty =>
     run_clear_big wr _ _ ty _ Tryz.underlying31 entry_zero g (i * 3) _ _ (by omega)
      (fun v hv => by
       rw [hz] at hv
       simp only [Builtin.zeroCells, Array.toList_map, Array.toList_range, List.mem_map, List.mem_range] at hv
       obtain ⟨q, _, rfl⟩ := hv
       have h3 : (#[Value.string ⟨#[]⟩, .string ⟨#[]⟩, .int .i64 0] : Array Value).size = 3 := rfl
       rw [h3]
       have : q % 3 = 0 ∨ q % 3 = 1 ∨ q % 3 = 2 := by omega
       rcases this with e | e | e <;> rw [e] <;> rfl)
      (fun q hq => by rw [hB.cell, Array.getElem?_eq_getElem (hbig q hq)]; rfl) (fun q _ => hB.frozen _)
    have HFZ := Lib.hid (Fr.setCells_ (S := fun k => k = g) (b := g) (fun _ => rfl) (Builtin.zeroCells (Value.agg #[.string ⟨#[]⟩, .string ⟨#[]⟩, .int .i64 0]).cells (l.length - i)).toList (i * 3) hf)
    have HCO := Lib.hid (fun x hx => World.cell?_setCells_out g (Builtin.zeroCells (Value.agg #[.string ⟨#[]⟩, .string ⟨#[]⟩, .int .i64 0]).cells (l.length - i)).toList (i * 3) wr x hx)
    generalize wr.setCells g (i * 3) (Builtin.zeroCells (Value.agg #[.string ⟨#[]⟩, .string ⟨#[]⟩, .int .i64 0]).cells (l.length - i)).toList = wz at *
    have hil : (i : Int) < (l.length : Int) := by omega
    have HB := Lib.hid hB
    have hci : ¬ c' = i := by omega
    clear hbig hz hB hf
    go_wp2
    go_ret
    have hsz : d.size = l.length := HDS.out
    have hIK := HI.out
    rw [← hsz] at hIK
    refine ⟨_, i, c', rfl, by rw [HFI.out, hIK.len], by omega, ?_, HFZ.out.mono (fun k _ e => by rw [e]; rfl)⟩
    rw [HFI.out]
    intro k x hx
    have hki : k < i := by
     have := (List.getElem?_eq_some_iff.1 hx).1
     rw [hIK.len] at this
     exact this
    have hlow := hIK.low k hki
    rw [hx] at hlow
    have hkd : k < dk.size := by omega
    have hxd : dk[k]? = some x := by rw [Array.getElem?_eq_getElem hkd, Option.some.inj hlow, getElem!_pos dk k hkd]
    obtain ⟨e0, e1, e2⟩ := HE.out k x hxd
    refine ⟨g, 0, rfl, hgb, ?_, ?_, ?_⟩
    ·rw [HCO.out _ (fun _ _ => .inl (by dsimp only; omega)), Nat.zero_add, HB.out.cell]; exact e0
    ·rw [HCO.out _ (fun _ _ => .inl (by dsimp only; omega)), Nat.zero_add, HB.out.cell]; exact e1
    ·rw [HCO.out _ (fun _ _ => .inl (by dsimp only; omega)), Nat.zero_add, HB.out.cell]; exact e2
theorem ownsRow_built (w : World) {base : Nat} (e : TypeId) (size : Nat) (hb : base ≤ w.heap.size) : (w.alloc (.cells #[] e)).ownsRow base e size (.slice (some ⟨w.heap.size, 0, none⟩) 0 0) 0 [] :=
 ⟨by simp, .inr ⟨w.heap.size, 0, #[], rfl, hb, heap_alloc_new w _, Nat.le_refl _, by simp only [maxLen]; omega, by simp, by simp⟩⟩
theorem entsV_len : ∀ (l : List Ent), (entsV l).length = l.length * 3
 | [] => rfl
 | x :: l => by
  have := entsV_len l
  unfold entsV at this ⊢
  rw [List.flatMap_cons, List.length_append, this]
  simp only [List.length_cons, List.length_nil]
  omega
theorem entRow_news {w : World} {F : Nat → Prop} {b o : Nat} {l : List Ent} (h : EntRow w F (some ⟨b, o, none⟩) l) : ∀ (j : Nat) u, (entsV l)[j]? = some u → w.cell? ((⟨b, o, none⟩ : Addr).add j) = some u := by
 intro j u hu
 rw [add_at]
 have hj := (List.getElem?_eq_some_iff.1 hu).1
 rw [entsV_len] at hj
 have hq : j / 3 < l.length := by omega
 obtain ⟨x, hx⟩ : ∃ x, l[j / 3]? = some x := ⟨_, List.getElem?_eq_getElem hq⟩
 obtain ⟨h0, h1, h2⟩ := triples_at (f := fun x => .string x.1) (g := fun x => .string x.2.1) (h := fun x => .int .i64 x.2.2) hx
 obtain ⟨b', o', e, _, c0, c1, c2⟩ := h _ x hx
 cases e
 have : j = j / 3 * 3 ∨ j = j / 3 * 3 + 1 ∨ j = j / 3 * 3 + 2 := by omega
 unfold entsV at hu
 rcases this with e | e | e
 ·rw [e] at hu ⊢
  rw [h0] at hu
  rw [← hu]; exact c0
 ·rw [e] at hu ⊢
  rw [h1] at hu
  rw [← hu]; exact c1
 ·rw [e] at hu ⊢
  rw [h2] at hu
  rw [← hu]; exact c2
theorem entsV_one (l : List Ent) : ∀ u ∈ entsV l, u.oneCell' = true := by
 intro u hu
 unfold entsV at hu
 obtain ⟨x, _, h⟩ := List.mem_flatMap.1 hu
 simp only [List.mem_cons, List.not_mem_nil, or_false] at h
 rcases h with rfl | rfl | rfl <;> rfl
theorem ent_info : ∃ i, (Tryz.prog).info? 119 = some i ∧ i.zero = some (.agg #[.string ⟨#[]⟩, .string ⟨#[]⟩, .int .i64 0]) ∧ i.size = 3 ∧ i.bytes = 40 := by
 have h := entry_info
 cases hi : (Tryz.prog).info? 119 with
 | none => rw [hi] at h; cases h
 | some i =>
  rw [hi] at h
  simp only [Option.map_some, Option.some.injEq, Prod.mk.injEq] at h
  exact ⟨i, rfl, h.1, h.2.1, h.2.2⟩
/-- A row of entries of the call's own. -/
def EntOwn (w w' : World) (l : List Ent) (e : Ending) : Prop := ∃ v, e = .returned v ∧ w'.ownsRow w.heap.size 119 3 v l.length (entsV l) ∧ Fr (fun _ => False) w w'
set_option maxRecDepth 100000 in
theorem cloneEnt {w : World} {F : Nat → Prop} {A : Option Addr} {l : List Ent} {cap : Nat} (h : EntRow w F A l) (hll : l.length ≤ 1000000) :
  Calls Tryz.prog 82 #[.slice A l.length cap] w fun e w' => EntOwn w w' l e := by
 have hq := fun w' A n => @Lib.run_eql_slice_nil Tryz.prog w' 31 119 A n cap 0 0 Tryz.underlying31
 cases l with
 | nil =>
  cases A with
  | none =>
   go_enter Tryz.func82, Tryz.ntmps82
   go_wp2
   go_ret
   exact ⟨.slice none 0 0, rfl, World.ownsRow_nil _ _ _ _, Fr.refl _ _⟩
  | some a =>
   go_enter Tryz.func82, Tryz.ntmps82
   go_wp2
   go_ret
   exact ⟨.slice (some ⟨w.heap.size, 0, none⟩) 0 0, rfl, ownsRow_built w _ _ (Nat.le_refl _), (Fr.refl (fun _ => False) w).alloc _⟩
 | cons x r =>
  obtain ⟨b, o, rfl, hb, _⟩ := h 0 x rfl
  obtain ⟨i, hi, hz, hsz, hby⟩ := ent_info
  have hn := entRow_news (h.fr ((Fr.refl (fun _ => False) w).alloc (Obj.cells #[] 119)) (fun _ _ => id))
  have hlen : (entsV (x :: r)).length = (x :: r).length * 3 := entsV_len _
  have h1 := entsV_one (x :: r)
  obtain ⟨ys, hys⟩ : ∃ ys, entsV (x :: r) = ys := ⟨_, rfl⟩
  rw [hys] at hn hlen h1
  have HYS := Lib.hid hys
  obtain ⟨n, hnn⟩ : ∃ n, (x :: r).length = n := ⟨_, rfl⟩
  have hn0 : 0 < n := by rw [← hnn]; simp
  rw [hnn] at hlen hll ⊢
  have HNN := Lib.hid hnn
  clear h hys hnn
  go_enter Tryz.func82, Tryz.ntmps82
  go_wp2_with (at_builtin; refine wpList_append_lies _ rfl (.tmp 5) (.tmp 6) 31 rfl w.heap.size 119 i _ 3 40 Tryz.underlying31 hi hz hsz hby rfl (by decide) (.slice (some ⟨w.heap.size, 0, none⟩) 0 0) 0 [] rfl (ownsRow_built w _ _ (Nat.le_refl _)) ⟨b, o, none⟩ n cap ys rfl hlen hn h1 hn0 (by simp only [maxLen]; omega) (by omega) (by simp) _ rfl ?_; intro g2 c2 w2 hown2 hg2 hk2 hl2)
  go_ret
  have hf2 : Fr (fun _ => False) w w2 := ((Fr.refl (fun _ => False) w).alloc (Obj.cells #[] 119)).grown hg2 (fun k hk e => by simp [Value.ownBlock] at e; omega)
  refine ⟨_, rfl, ?_, hf2⟩
  rw [HNN.out, HYS.out]
  simpa using hown2
end Go.Proofs.YtmkdhhhoodeemaaGreat

/- merkle: Prove of all entries: digest of one text; the top of none; the walk down. -/
namespace Go.Proofs.YtmkdhhhoodeemaaGreat
open Go Go.RowKit
def halfN (n : Nat) : Nat := 2 ^ (Lib.bitLen (n - 1) - 1)
theorem halfN_lt {n : Nat} (h2 : 2 ≤ n) (hn : n ≤ 65536) : 1 ≤ halfN n ∧ halfN n < n := by
 obtain ⟨b1, b2, b3⟩ := Lib.bitLenAux_bounds 64 (n - 1) (by omega) (by omega)
 have e0 : Lib.bitLenAux 64 (n - 1) = Lib.bitLen (n - 1) := rfl
 rw [e0] at b1 b2 b3
 obtain ⟨m, hm⟩ : ∃ m, Lib.bitLen (n - 1) = m + 1 := ⟨Lib.bitLen (n - 1) - 1, by omega⟩
 unfold halfN
 rw [hm] at b2 ⊢
 have hp : 1 ≤ 2 ^ m := Nat.one_le_two_pow
 simp at b2 ⊢
 omega
theorem merkle_halfN (w : World) (n : Nat) (h2 : 2 ≤ n) (hn : n ≤ 65536) :
  Calls Tryz.prog 118 #[.int .i64 n] w fun e w' => e = .returned (.int .i64 (halfN n)) ∧ w = w' := by
 have H := fun w => bits_Len_2 (n - 1) (by omega) w
 have hs : ((n : Int) - 1) = ((n - 1 : Nat) : Int) := by omega
 obtain ⟨b1, b2, b3⟩ := Lib.bitLenAux_bounds 64 (n - 1) (by omega) (by omega)
 have b4 : Lib.bitLen (n - 1) ≤ 16 := Lib.bitLen_le _ 16 (by omega) (by omega)
 have e0 : Lib.bitLenAux 64 (n - 1) = Lib.bitLen (n - 1) := rfl
 rw [e0] at b1 b2 b3
 obtain ⟨m, hm⟩ : ∃ m, Lib.bitLen (n - 1) = m + 1 := ⟨Lib.bitLen (n - 1) - 1, by omega⟩
 have hkk : halfN n = 2 ^ m := by unfold halfN; rw [hm]; rfl
 rw [hm] at H b1 b2 b3 b4
 have hlt : 2 ^ m < n := by simp at b2; omega
 have hw4 : wrap64 ((2 : Int) ^ m) = ((2 ^ m : Nat) : Int) := by
  rw [show ((2 : Int) ^ m) = ((2 ^ m : Nat) : Int) by simp]
  unfold wrap64
  omega
 rw [← hkk] at hlt hw4
 clear hkk
 generalize halfN n = k at *
 have hw : wrap64 (((m + 1 : Nat) : Int) - 1) = (m : Int) := by unfold wrap64; omega
 have hw2 : wrap64 ((m : Int) + 1 - 1) = (m : Int) := by unfold wrap64; omega
 have hw3 : wrap64 (m : Int) = (m : Int) := by unfold wrap64; omega
 replace H := Lib.hid H
 clear e0 b1 b2 b3
 go_enter Tryz.func118, Tryz.ntmps118
 go_wp2_with (go_at_call 144; refine (H.out _).mono ?_; rintro e w' ⟨rfl, rfl⟩)
 go_ret
 exact ⟨by rw [← hw4]; rfl, rfl⟩
/-- The boxes of what Prove's closure has of Prove. -/
structure Down (w : World) (bf bm bd bp bt bl : Nat) (N : Nat) : Prop where
 f : w.cell? ⟨bf, 0, none⟩ = some (.int .i64 0)
 m : w.cell? ⟨bm, 0, none⟩ = some (.int .i64 N)
 d : w.cell? ⟨bd, 0, none⟩ = some (.func (.func 115) #[] #[.pointer (some ⟨bf, 0, none⟩), .pointer (some ⟨bm, 0, none⟩), .pointer (some ⟨bp, 0, none⟩), .pointer (some ⟨bt, 0, none⟩), .pointer (some ⟨bl, 0, none⟩), .pointer (some ⟨bd, 0, none⟩)])
theorem Down.drewN {w : World} {bf bm bd bp bt bl N : Nat} (h : Down w bf bm bd bp bt bl N) (n : Nat) : Down (w.drewN n) bf bm bd bp bt bl N := ⟨h.f, h.m, h.d⟩
set_option maxRecDepth 100000 in
set_option maxHeartbeats 1000000 in
theorem prove1_down {bf bm bd bp bt bl N : Nat} (hN : N ≤ 65536) : ∀ (n : Nat) (at_ : Nat) (w : World), 1 ≤ n → at_ + n ≤ N → Down w bf bm bd bp bt bl N →
  Calls Tryz.prog 115 #[.int .i64 at_, .int .i64 n, .pointer (some ⟨bf, 0, none⟩), .pointer (some ⟨bm, 0, none⟩), .pointer (some ⟨bp, 0, none⟩), .pointer (some ⟨bt, 0, none⟩), .pointer (some ⟨bl, 0, none⟩), .pointer (some ⟨bd, 0, none⟩)] w (fun e w' => e = .returned (.tuple #[]) ∧ ∃ m, w' = w.drewN m) := by
 intro n
 induction n using Nat.strongRecOn with
 | _ n ih =>
  intro at_ w hn hat hD
  have HA := Lib.hid (merkle_apart w at_ n 0 N ⟨by omega, by omega⟩ ⟨by omega, by omega⟩)
  rw [decide_eq_false (by omega)] at HA
  have kf := hD.f
  have km := hD.m
  have IH := Lib.hid ih
  clear ih
  by_cases h1 : 1 < n
  ·obtain ⟨p1, p2⟩ := halfN_lt (n := n) (by omega) (by omega)
   have h1' : (1 : Int) < (n : Int) := by omega
   have HH := Lib.hid (fun w => merkle_halfN w n (by omega) (by omega))
   obtain ⟨k, hk⟩ : ∃ k, halfN n = k := ⟨_, rfl⟩
   rw [hk] at HH p1 p2
   clear hk
   have hs1 : wrap64 ((at_ : Int) + (k : Int)) = ((at_ + k : Nat) : Int) := by unfold wrap64; omega
   have hs2 : wrap64 ((n : Int) - (k : Int)) = ((n - k : Nat) : Int) := by unfold wrap64; omega
   have kd := hD.d
   have HI2 : Hid (∀ w, Down w bf bm bd bp bt bl N → Calls Tryz.prog 115 #[.int .i64 ((at_ : Int) + k), .int .i64 ((n : Int) - k), .pointer (some ⟨bf, 0, none⟩), .pointer (some ⟨bm, 0, none⟩), .pointer (some ⟨bp, 0, none⟩), .pointer (some ⟨bt, 0, none⟩), .pointer (some ⟨bl, 0, none⟩), .pointer (some ⟨bd, 0, none⟩)] w (fun e w' => e = .returned (.tuple #[]) ∧ ∃ m, w' = w.drewN m)) := fun w h => by
    have := IH.out (n - k) (by omega) (at_ + k) w (by omega) (by omega) h
    rw [show ((at_ + k : Nat) : Int) = (at_ : Int) + k by omega, show ((n - k : Nat) : Int) = (n : Int) - k by omega] at this
    exact this
   go_enter Tryz.func115, Tryz.ntmps115
   go_upto_region 3 with (go_at_call 116; refine HA.out.mono ?_; rintro e w1 ⟨rfl, rfl⟩)
   go_quiet (first
    | (go_at_call 118; exact quiet_left (HH.out _))
    | (go_at_call 115; exact (IH.out k p2 at_ _ p1 (by omega) (hD.drewN _)).mono (fun _ _ ⟨he, m, hm⟩ => ⟨he, _, hm.trans (World.drewN_drewN _ _ _)⟩)))
   go_upto_region 4 with fail
   generalize nq = n1
   obtain ⟨w2, hw2⟩ : ∃ w2, w.drewN n1 = w2 := ⟨_, rfl⟩
   have hD2 : Down w2 bf bm bd bp bt bl N := hw2 ▸ hD.drewN n1
   have HW2 := Lib.hid hw2
   rw [hw2]
   clear hw2 kf km kd hD
   have kd := hD2.d
   go_quiet (first
    | (go_at_call 118; exact quiet_left (HH.out _))
    | (go_at_call 115; with_reducible exact (HI2.out _ (hD2.drewN _)).mono (fun _ _ ⟨he, m, hm⟩ => ⟨he, _, hm.trans (World.drewN_drewN _ _ _)⟩)))
   go_wp2_with fail
   refine bodyPost_end (v := .tuple #[]) (by simp [results, go_sem]) rfl ?_
   refine ⟨rfl, n1 + nq, ?_⟩
   rw [← HW2.out]
   exact World.drewN_drewN _ _ _
  ·have h1' : ¬ (1 : Int) < (n : Int) := by omega
   go_enter Tryz.func115, Tryz.ntmps115
   go_wp2_with (go_at_call 116; refine HA.out.mono ?_; rintro e w1 ⟨rfl, rfl⟩)
   refine bodyPost_end (v := .tuple #[]) (by simp [results, go_sem]) rfl ?_
   exact ⟨rfl, 0, rfl⟩
theorem BookAt.farB {w w' : World} {g m base : Nat} {v : Value} {L : List (List Int)} (h : BookAt w g m base v L) {x : Nat} {t : TypeId} {cs : Array Value} (hB : Blk w x t cs) (h1 : t ≠ 125) (h2 : 9 ≠ t) (hf : Fr (fun k => k = g ∨ k = m ∨ v.ownBlock = some k) w w') : Blk w' x t cs :=
 hB.fr hf (fun e => by
  rcases e with e | e | e
  ·exact hB.ne_ h.blk h1 e
  ·obtain ⟨⟨es, cl, h3, _⟩, _⟩ := h.map
   exact hB.ne_map h3 e
  ·exact own_ne_blk h.own hB h2 e)
def DigM (w : World) (g m base gt : Nat) (v : Value) (L : List (List Int)) (xs : List Int) (e : Ending) (w' : World) : Prop :=
 ∃ v', e = .returned (.int .i64 (digI L xs : Nat)) ∧ BookAt w' g m base v' (digL L xs) ∧ Blk w' gt 208 #[.pointer (some ⟨g, 0, none⟩), .nilIface] ∧ Fr (fun k => k = g ∨ k = m ∨ v.ownBlock = some k ∨ k = gt) w w' ∧ ∀ k, v'.ownBlock = some k → v.ownBlock = some k ∨ w.heap.size ≤ k
set_option maxRecDepth 100000 in
set_option maxHeartbeats 1000000 in
theorem merkle_digest1 {w : World} {g m base gt bx : Nat} {v : Value} {L : List (List Int)} (hb : BookAt w g m base v L) (hbase : base ≤ w.heap.size) (hL : L.length < 65536) (ht : Blk w gt 208 #[.pointer (some ⟨g, 0, none⟩), .nilIface]) {s : ByteArray} (hs : s.size ≤ 65000) (hx : w.cell? ⟨bx, 0, none⟩ = some (.string s)) :
  Calls Tryz.prog 141 #[.pointer (some ⟨gt, 0, none⟩), .slice (some ⟨bx, 0, none⟩) 1 1, .slice none 0 0] w (DigM w g m base gt v L (textB (bytesOf s))) := by
 have hf0 : Fr (fun _ => False) w (w.alloc (Obj.cells #[.slice none 0 0, .nilIface] 194)) := (Fr.refl _ _).alloc _
 have hW0 : WriterAt (w.alloc (Obj.cells #[.slice none 0 0, .nilIface] 194)) w.heap.size w.heap.size (.slice none 0 0) [] none := ⟨Blk.new_ _ _ _ rfl, Own8.nil _ _⟩
 have hz0 : w.heap.size < (w.alloc (Obj.cells #[.slice none 0 0, .nilIface] 194)).heap.size := by simp
 have h8 := Lib.hid (b8_textB s)
 have hl8 : Hid ((textB (bytesOf s)).length ≤ 65536) := by show _ ≤ _; rw [textB_len]; omega
 have hx0 := hf0.cell_some hx id
 go_enter Tryz.func141, Tryz.ntmps141
 go_upto_region 3 with fail
 generalize w.alloc (Obj.cells #[.slice none 0 0, .nilIface] 194) = w0 at *
 go_loopw [19] (fun ix wr => (ix = .int .i64 0 ∧ wr = w0) ∨ (ix = .int .i64 1 ∧ ∃ v2, WriterAt wr w.heap.size w.heap.size v2 (textB (bytesOf s)) none ∧ Fr (fun _ => False) w wr)) (fun ix _ => 1 - (intOf ix).toNat)
 case atStart => exact .inl ⟨rfl, rfl⟩
 case round =>
  rcases hrel with ⟨rfl, rfl⟩ | ⟨rfl, v2, hW2, hf2⟩
  ·have hcs := run_str wr s
   have hws := hW0.fr (strW_fr wr s) id (fun _ _ => id)
   have hfs := hf0.then_ (strW_fr wr s)
   have hzs : w.heap.size ≤ (strW wr s).heap.size := Nat.le_trans (Nat.le_of_lt hz0) (strW_fr wr s).size
   have HT := writer_Text (cap := grownCap wr s.size 0 5) hws hzs (strW_row wr s) (fun k e1 e2 => own8_new hW0.own (e1 ▸ e2)) (by rw [bytesOf_length]; simp; omega)
   rw [if_pos (by rw [bytesOf_length]; omega), bytesOf_length] at HT
   replace HT := Lib.hid HT
   go_wp2_with (go_at_call 99; refine HT.out.mono ?_; rintro e w8 ⟨v8, rfl, hW8, hq8, _⟩)
   have hW8 : WriterAt w8 w.heap.size w.heap.size v8 ([] ++ textB (bytesOf s)) none := hW8
   rw [List.nil_append] at hW8
   have hf8 := wrote_fr hfs hws.own (Nat.le_refl _) (Nat.le_refl _) hq8
   go_roundw
   case rel => exact .inr ⟨by go_num, v8, hW8, hf8⟩
   case measure => simp [intOf]
  ·clear hW0 hx0 hf0 hz0
   go_upto_region 8 with fail
   go_loopw [30] (fun ix wr' => ix = .int .i64 0 ∧ wr' = wr) (fun _ _ => 0)
   case atStart => exact ⟨rfl, rfl⟩
   case round =>
    obtain ⟨rfl, rfl⟩ := hrel
    generalize wr = w2 at *
    have HB := Lib.hid (writer_Bytes hW2 (by have := hl8.out; omega))
    go_upto_region 13 with (go_at_call 100; refine HB.out.mono ?_; rintro e w3 ⟨v3, rfl, hv3, hf3⟩; obtain ⟨A3, c3, rfl, _, hr3⟩ := hv3.form)
    have hf03 := hf2.then_ hf3
    have hb3 := hb.keep hf03
    have ht3 := ht.fr hf03 id
    have t0 := ht3.cell 0
    have t1 := ht3.cell 1
    have hr3 : ByteRow w3 _ A3 (textB (bytesOf s)) := hr3
    have HD := book_Digest (cap := c3) hb3 (Nat.le_trans hbase hf03.size) hr3 h8.out hl8.out hL
    have hwb : wbytes (textB (bytesOf s)) none = textB (bytesOf s) := rfl
    have hnil : errW none = .nilIface := rfl
    rw [hwb, hnil]
    replace HD := Lib.hid HD
    clear hwb hnil hW2 hv3 hr3 HB hf3 hb ht hf2 hx
    generalize textB (bytesOf s) = xs at *
    go_upto_region 17 with (go_at_call 41; refine HD.out.mono ?_; rintro e w4 ⟨v4, rfl, hb4, hf4, hk4⟩; have ht4 := hb3.farB ht3 (by decide) (by decide) hf4; have t0 := ht4.cell 0; have t1 := ht4.cell 1; have tf := ht4.frozen 1)
    go_wp2_with (go_at_call 70; refine (fault_Wrap_nil _ _ _).mono ?_; rintro e w' ⟨rfl, rfl⟩)
    go_ret
    have hne : g ≠ gt ∧ m ≠ gt ∧ v4.ownBlock ≠ some gt := ⟨fun e => hb4.blk.ne_ ht4 (by decide) e, fun e => by obtain ⟨⟨es, cl, h1, _⟩, _⟩ := hb4.map; exact ht4.ne_map h1 e.symm, own_ne_blk hb4.own ht4 (by decide)⟩
    refine ⟨v4, rfl, hb4.fr ((Fr.refl (fun k => k = gt) w4).setCell (p := ⟨gt, 1, none⟩) (fun _ => rfl) _) hne.1 hne.2.1 (fun k hk e => hne.2.2 (e ▸ hk)), ht4.set_ 1 _, ?_, fun k hk => (hk4 k hk).imp_right (Nat.le_trans hf03.size)⟩
    exact ((hf03.mono (fun _ _ h => h.elim)).trans hf4 (fun k _ h => h.elim .inl (fun h => h.elim (fun h => .inr (.inl h)) (fun h => .inr (.inr (.inl h)))))).setCell (p := ⟨gt, 1, none⟩) (fun _ => .inr (.inr (.inr rfl))) _
end Go.Proofs.YtmkdhhhoodeemaaGreat

/- merkle: Prove of all entries: the top of none; Prove. -/
namespace Go.Proofs.YtmkdhhhoodeemaaGreat
open Go Go.RowKit
def noneS : ByteArray := ⟨#[110, 111, 110, 101]⟩
def noneB : List Int := textB (bytesOf noneS)
def DigT (w : World) (g m base gt : Nat) (v : Value) (L : List (List Int)) (xs : List Int) (e : Ending) (w' : World) : Prop :=
 ∃ v', e = .returned (.tuple #[.int .i64 (digI L xs : Nat), .bool true]) ∧ BookAt w' g m base v' (digL L xs) ∧ Blk w' gt 208 #[.pointer (some ⟨g, 0, none⟩), .nilIface] ∧ Fr (fun k => k = g ∨ k = m ∨ v.ownBlock = some k ∨ k = gt) w w' ∧ ∀ k, v'.ownBlock = some k → v.ownBlock = some k ∨ w.heap.size ≤ k
theorem merkle_top1 {w : World} {g m base gt bt : Nat} {v : Value} {L : List (List Int)} (hb : BookAt w g m base v L) (hbase : base ≤ w.heap.size) (hL : L.length < 65536) (ht : Blk w gt 208 #[.pointer (some ⟨g, 0, none⟩), .nilIface]) (hx : w.cell? ⟨bt, 0, none⟩ = some (.pointer (some ⟨gt, 0, none⟩))) :
  Calls Tryz.prog 140 #[.int .i64 0, .int .i64 0, .pointer (some ⟨bt, 0, none⟩)] w (DigT w g m base gt v L noneB) := by
 have hf0 : Fr (fun _ => False) w (w.alloc (Obj.cells #[.string noneS] 9)) := (Fr.refl _ _).alloc _
 have hs0 := (Blk.new w 9 #[.string noneS]).cell 0
 have HD := merkle_digest1 (bx := w.heap.size) (s := noneS) (hb.keep hf0) (Nat.le_trans hbase hf0.size) hL (ht.fr hf0 id) (by decide) hs0
 rw [show textB (bytesOf noneS) = noneB from rfl] at HD
 replace HD := Lib.hid HD
 clear hs0
 generalize noneB = xs at *
 go_enter Tryz.func140, Tryz.ntmps140
 go_wp2_with (go_at_call 141; refine HD.out.mono ?_; rintro e w4 ⟨v4, rfl, hb4, ht4, hf4, hk4⟩)
 refine bodyPost_ret (v := .tuple #[.int .i64 (digI L xs : Nat), .bool true]) (by simp [results, Tryz.results140, go_sem]) rfl ?_
 exact ⟨v4, rfl, hb4, ht4, (hf0.mono (fun _ _ h => h.elim)).trans hf4 (fun _ _ h => h), fun k hk => (hk4 k hk).imp_right (Nat.le_trans hf0.size)⟩
theorem merkle_fold0 {w : World} {g m base gt bt : Nat} {v : Value} {L : List (List Int)} (hb : BookAt w g m base v L) (hbase : base ≤ w.heap.size) (hL : L.length < 65536) (ht : Blk w gt 208 #[.pointer (some ⟨g, 0, none⟩), .nilIface]) (hx : w.cell? ⟨bt, 0, none⟩ = some (.pointer (some ⟨gt, 0, none⟩))) (f2 : Value) :
  Calls Tryz.prog 139 #[.pointer (some ⟨gt, 0, none⟩), .int .i64 0, .int .i64 0, .func (.func 140) #[] #[.pointer (some ⟨bt, 0, none⟩)], f2] w (DigM w g m base gt v L noneB) := by
 have HD := Lib.hid (merkle_top1 hb hbase hL ht hx)
 go_enter Tryz.func139, Tryz.ntmps139
 go_wp2_with (go_at_call 140; refine HD.out.mono ?_; rintro e w4 ⟨v4, rfl, hb4, ht4, hf4, hk4⟩)
 go_ret
 exact ⟨v4, rfl, hb4, ht4, hf4, hk4⟩
theorem merkle_top0 {w : World} {g m base gt : Nat} {v : Value} {L : List (List Int)} (hb : BookAt w g m base v L) (hbase : base ≤ w.heap.size) (hL : L.length < 65536) (ht : Blk w gt 208 #[.pointer (some ⟨g, 0, none⟩), .nilIface]) (A : Option Addr) (cap : Nat) :
  Calls Tryz.prog 117 #[.pointer (some ⟨gt, 0, none⟩), .slice A 0 cap] w (DigM w g m base gt v L noneB) := by
 have hB0 := (Blk.new w 206 #[.pointer (some ⟨gt, 0, none⟩)]).alloc (Obj.cells #[.slice A 0 cap] 31)
 have hS0 : Blk ((w.alloc (Obj.cells #[.pointer (some ⟨gt, 0, none⟩)] 206)).alloc (Obj.cells #[.slice A 0 cap] 31)) (w.heap.size + 1) 31 #[.slice A 0 cap] := Blk.new_ _ _ _ (by simp)
 have hf0 : Fr (fun _ => False) w ((w.alloc (Obj.cells #[.pointer (some ⟨gt, 0, none⟩)] 206)).alloc (Obj.cells #[.slice A 0 cap] 31)) := ((Fr.refl _ _).alloc _).alloc _
 go_enter Tryz.func117, Tryz.ntmps117
 go_upto_region 1 with fail
 generalize ((w.alloc (Obj.cells #[.pointer (some ⟨gt, 0, none⟩)] 206)).alloc (Obj.cells #[.slice A 0 cap] 31)) = w1 at *
 have x0 := hB0.cell 0
 have y0 := hS0.cell 0
 have HD := Lib.hid (fun f2 => merkle_fold0 (hb.keep hf0) (Nat.le_trans hbase hf0.size) hL (ht.fr hf0 id) x0 f2)
 go_wp2_with (go_at_call 139; refine (HD.out _).mono ?_; rintro e w4 ⟨v4, rfl, hb4, ht4, hf4, hk4⟩)
 go_ret
 exact ⟨v4, rfl, hb4, ht4, (hf0.mono (fun _ _ h => h.elim)).trans hf4 (fun _ _ h => h), fun k hk => (hk4 k hk).imp_right (Nat.le_trans hf0.size)⟩
/-- Behind the walk down of no entries: one digest beside. -/
def DownZ (w : World) (g m base gt bp : Nat) (v : Value) (L : List (List Int)) (x0 x1 x2 : Value) (e : Ending) (w' : World) : Prop :=
 e = .returned (.tuple #[]) ∧ ∃ v' b c, BookAt w' g m base v' (digL L noneB) ∧ Blk w' gt 208 #[.pointer (some ⟨g, 0, none⟩), .nilIface] ∧ Blk w' bp 60 #[x0, x1, x2, .slice (some ⟨b, 0, none⟩) 1 c] ∧ w.heap.size ≤ b ∧ w'.cell? ⟨b, 0, none⟩ = some (.int .i64 (digI L noneB : Nat)) ∧ Fr (fun k => k = g ∨ k = m ∨ v.ownBlock = some k ∨ k = gt ∨ k = bp) w w' ∧ ∀ k, v'.ownBlock = some k → v.ownBlock = some k ∨ w.heap.size ≤ k
theorem downZ_done {w w1 w2 : World} {g m base gt bp b2 c2 : Nat} {v v1 : Value} {L : List (List Int)} {x0 x1 x2 : Value} {D : Int} (hD : ((digI L noneB : Nat) : Int) = D) (hb1 : BookAt w1 g m base v1 (digL L noneB)) (ht1 : Blk w1 gt 208 #[.pointer (some ⟨g, 0, none⟩), .nilIface]) (hf1 : Fr (fun k => k = g ∨ k = m ∨ v.ownBlock = some k ∨ k = gt) w.drew w1) (hk1 : ∀ k, v1.ownBlock = some k → v.ownBlock = some k ∨ w.drew.heap.size ≤ k) (hp1 : Blk w1 bp 60 #[x0, x1, x2, .slice none 0 0]) (h2 : w2.ownsRow w1.heap.size 3 1 (.slice (some ⟨b2, 0, none⟩) 1 c2) (0 + 1) ([] ++ [.int .i64 D])) (hf2 : Fr (fun k => (Value.slice none 0 0).ownBlock = some k) (w1.alloc (Obj.cells #[.int .i64 D] 3)) w2) :
  DownZ w g m base gt bp v L x0 x1 x2 (.returned (.tuple #[])) (w2.setCell ⟨bp, 3, none⟩ (.slice (some ⟨b2, 0, none⟩) 1 c2)) := by
 have hf2' : Fr (fun _ => False) (w1.alloc (Obj.cells #[.int .i64 D] 3)) w2 := hf2.mono (fun k _ e => by simp [Value.ownBlock] at e)
 have hf12 : Fr (fun _ => False) w1 w2 := ((Fr.refl (fun _ => False) w1).alloc (Obj.cells #[.int .i64 D] 3)).then_ hf2'
 have hp2 := hp1.fr hf12 id
 have ht2 := ht1.fr hf12 id
 have hb2 := hb1.keep hf12
 have hset : Fr (fun k => k = bp) w2 (w2.setCell ⟨bp, 3, none⟩ (.slice (some ⟨b2, 0, none⟩) 1 c2)) := (Fr.refl (fun k => k = bp) w2).setCell (p := ⟨bp, 3, none⟩) (fun _ => rfl) _
 have n1 : g ≠ bp := fun e => hb2.blk.ne_ hp2 (by decide) e
 have n2 : m ≠ bp := fun e => by obtain ⟨⟨es, cl, h1, _⟩, _⟩ := hb2.map; exact hp2.ne_map h1 e.symm
 have n3 : v1.ownBlock ≠ some bp := own_ne_blk hb2.own hp2 (by decide)
 have n4 : gt ≠ bp := ht2.ne_ hp2 (by decide)
 have n5 : (Value.slice (some ⟨b2, 0, none⟩) 1 c2).ownBlock ≠ some bp := own_ne_blk h2 hp2 (by decide)
 have h3 := own_fr h2 hset (fun k hk e => n5 (e ▸ hk))
 obtain ⟨_, _, ev, _, hat⟩ := own_form h3
 cases ev
 obtain ⟨b, eb, hbb, hc⟩ := hat 0 _ rfl
 cases eb
 refine ⟨rfl, v1, b2, c2, hb2.fr hset n1 n2 (fun k hk e => n3 (e ▸ hk)), ht2.fr hset n4, hp2.set_ 3 _, Nat.le_trans hf1.size hbb, by rw [hD]; exact hc, ?_, hk1⟩
 have hf1' : Fr (fun k => k = g ∨ k = m ∨ v.ownBlock = some k ∨ k = gt ∨ k = bp) w w1 := ((Fr.refl _ w).drew).trans hf1 (fun k _ h => by rcases h with h | h | h | h <;> simp [h])
 exact (hf1'.trans (hf12.mono (fun _ _ h => h.elim)) (fun _ _ h => h)).trans hset (fun k _ h => .inr (.inr (.inr (.inr h))))
set_option maxRecDepth 100000 in
set_option maxHeartbeats 1000000 in
theorem prove1_zero {w : World} {g m base gt bf bm bd bp bt bl : Nat} {v : Value} {L : List (List Int)} (hb : BookAt w g m base v L) (hbase : base ≤ w.heap.size) (hL : L.length < 65536) (ht : Blk w gt 208 #[.pointer (some ⟨g, 0, none⟩), .nilIface]) (hD : Down w bf bm bd bp bt bl 0) (kt : w.cell? ⟨bt, 0, none⟩ = some (.pointer (some ⟨gt, 0, none⟩))) {A : Option Addr} {cap : Nat} (kl : w.cell? ⟨bl, 0, none⟩ = some (.slice A 0 cap)) {x0 x1 x2 : Value} (hp : Blk w bp 60 #[x0, x1, x2, .slice none 0 0]) :
  Calls Tryz.prog 115 #[.int .i64 0, .int .i64 0, .pointer (some ⟨bf, 0, none⟩), .pointer (some ⟨bm, 0, none⟩), .pointer (some ⟨bp, 0, none⟩), .pointer (some ⟨bt, 0, none⟩), .pointer (some ⟨bl, 0, none⟩), .pointer (some ⟨bd, 0, none⟩)] w (DownZ w g m base gt bp v L x0 x1 x2) := by
 have HA := Lib.hid (merkle_apart w 0 0 0 0 ⟨by omega, by omega⟩ ⟨by omega, by omega⟩)
 have kf := hD.f
 have km := hD.m
 have p3 := hp.cell 3
 obtain ⟨D, hDD⟩ : ∃ D : Int, Hid (((digI L noneB : Nat) : Int) = D) := ⟨_, rfl⟩
 have HT : Hid (Calls Tryz.prog 117 #[.pointer (some ⟨gt, 0, none⟩), .slice A 0 cap] w.drew (fun e w' => ∃ v', e = .returned (.int .i64 D) ∧ BookAt w' g m base v' (digL L noneB) ∧ Blk w' gt 208 #[.pointer (some ⟨g, 0, none⟩), .nilIface] ∧ Fr (fun k => k = g ∨ k = m ∨ v.ownBlock = some k ∨ k = gt) w.drew w' ∧ ∀ k, v'.ownBlock = some k → v.ownBlock = some k ∨ w.drew.heap.size ≤ k)) := by
  have := merkle_top0 (w := w.drew) (hb.keep ((Fr.refl (fun _ => False) w).drew)) hbase hL ht.drew A cap
  unfold DigM at this
  rw [hDD.out] at this
  exact this
 have hne : Hid (¬ (bp = g ∨ bp = m ∨ v.ownBlock = some bp ∨ bp = gt)) := fun e => by
  rcases e with e | e | e | e
  ·exact hp.ne_ hb.blk (by decide) e
  ·obtain ⟨⟨es, cl, h3, _⟩, _⟩ := hb.map
   exact hp.ne_map h3 e
  ·exact own_ne_blk hb.own hp (by decide) e
  ·exact hp.ne_ ht (by decide) e
 have hw0 : IntKind.i64.wrap 0 = 0 := by decide
 have hfd : Fr (fun _ => False) w w.drew := (Fr.refl _ _).drew
 have hpd : Blk w.drew bp 60 #[x0, x1, x2, .slice none 0 0] := hp.drew
 go_enter Tryz.func115, Tryz.ntmps115
 go_upto_region 1 with (go_at_call 116; refine HA.out.mono ?_; rintro e w1 ⟨rfl, rfl⟩)
 go_region_law (first
  | (refine step_append_gen rfl (.tmp 19) (.tmp 28) 30 3 rfl Tryz.underlying30 int_info rfl w1.heap.size (.slice none 0 0) 0 [] (by rfl) (World.ownsRow_nil _ _ _ _) ⟨w1.heap.size, 0, none⟩ 1 1 [.int .i64 D] (by rfl) rfl (new_one w1 3 _) (fun u hu => by rw [List.mem_singleton.1 hu]; rfl) (by omega) (by decide) (by simp) ?_; intro v2 w2 h2 hf2 hk2; obtain ⟨b2, c2, rfl⟩ := own_some h2; have hp2 := (hp1.alloc (Obj.cells #[.int .i64 D] 3)).fr hf2 (by simp [Value.ownBlock]); have q3 := hp2.cell 3; have q3f := hp2.frozen 3)
  | (go_simp; go_at_call 117; refine HT.out.mono ?_; rintro e w1 ⟨v1, rfl, hb1, ht1, hf1, hk1⟩; have hp1 := hpd.fr hf1 hne.out; have p31 := hp1.cell 3; have p32 := (hp1.alloc (Obj.cells #[.int .i64 D] 3)).cell 3))
 all_goals go_wp2_with fail
 all_goals refine bodyPost_end (v := .tuple #[]) (by simp [results, go_sem]) rfl ?_
 all_goals exact downZ_done hDD.out hb1 ht1 hf1 hk1 hp1 h2 hf2
end Go.Proofs.YtmkdhhhoodeemaaGreat

/- The program's Reader, by what is left of the bytes. -/
namespace Go.Proofs.YtmkdhhhoodeemaaGreat
open Go Go.RowKit
theorem fold_wf : ∀ (l : List Int) (n : Int), Wf64 n → Wf64 (l.foldl step64 n)
 | [], n, h => h
 | x :: l, n, h => fold_wf l _ (by unfold step64 Wf64 bits IntKind.wrap; simp [IntKind.bits, IntKind.signed]; omega)
theorem numX_wf (bs : List Int) (pos : Nat) : Wf64 (numX bs pos) := fold_wf _ _ ⟨by omega, by omega⟩
/-- The program's reader at g: s is left, or there was an error. -/
def PR (w : World) (g : Nat) (A : Option Addr) (bs : List Int) (st : Option (List Int)) : Prop :=
 match st with
 | some s => ∃ pos, ReaderAt w g A bs pos none ∧ bs.drop pos = s
 | none => ∃ pos er, ReaderAt w g A bs pos (some er)
theorem PR.fr {S : Nat → Prop} {w w' : World} {g : Nat} {A : Option Addr} {bs : List Int} {st : Option (List Int)} (h : PR w g A bs st) (hf : Fr S w w') (hg : ¬ S g) (hv : ∀ k o, A = some ⟨k, o, none⟩ → ¬ S k) : PR w' g A bs st := by
 cases st with
 | some s => obtain ⟨pos, h1, h2⟩ := h; exact ⟨pos, h1.fr hf hg hv, h2⟩
 | none => obtain ⟨pos, er, h1⟩ := h; exact ⟨pos, er, h1.fr hf hg hv⟩
theorem PR.keep {w w' : World} {g : Nat} {A : Option Addr} {bs : List Int} {st : Option (List Int)} (h : PR w g A bs st) (hf : Fr (fun _ => False) w w') : PR w' g A bs st := h.fr hf id (fun _ _ _ => id)
theorem PR.blk {w : World} {g : Nat} {A : Option Addr} {bs : List Int} {st : Option (List Int)} (h : PR w g A bs st) : ∃ cs, Blk w g 223 cs := by
 cases st with
 | some s => obtain ⟨pos, h1, h2⟩ := h; obtain ⟨_, _, _, _, hb⟩ := h1.blk; exact ⟨_, hb⟩
 | none => obtain ⟨pos, er, h1⟩ := h; obtain ⟨_, _, _, _, hb⟩ := h1.blk; exact ⟨_, hb⟩
/-- What reading a number does: ok says which there may be. -/
def NumStep (ok : Int → Prop) (st : Option (List Int)) (x : Int) (st' : Option (List Int)) : Prop :=
 match st with
 | none => st' = none ∧ x = 0
 | some s => (∃ t, s = num8 x ++ t ∧ ok x ∧ st' = some t) ∨ (st' = none ∧ x = 0 ∧ ∀ y t, ok y → s ≠ num8 y ++ t)
/-- What reading a text does. -/
def TextStep (st : Option (List Int)) (xs : List Int) (st' : Option (List Int)) : Prop :=
 match st with
 | none => st' = none ∧ xs = []
 | some s => (∃ t, s = textB xs ++ t ∧ xs.length ≤ 65536 ∧ st' = some t) ∨ (st' = none ∧ xs = [] ∧ ∀ ys t, ys.length ≤ 65536 → s ≠ textB ys ++ t)
def PNum (w : World) (g : Nat) (A : Option Addr) (bs : List Int) (ok : Int → Prop) (st : Option (List Int)) (e : Ending) (w' : World) : Prop :=
 ∃ x st', e = .returned (.int .i64 x) ∧ PR w' g A bs st' ∧ NumStep ok st x st' ∧ Fr (fun k => k = g) w w'
def PText (w : World) (g : Nat) (A : Option Addr) (bs : List Int) (st : Option (List Int)) (e : Ending) (w' : World) : Prop :=
 ∃ B cap xs st', e = .returned (.slice B xs.length cap) ∧ ByteRow w' (inA A) B xs ∧ Bytes8 xs ∧ PR w' g A bs st' ∧ TextStep st xs st' ∧ Fr (fun k => k = g) w w'
theorem pr_Num {w : World} {g : Nat} {A : Option Addr} {bs : List Int} {st : Option (List Int)} (h : PR w g A bs st) (hl : bs.length ≤ 1099511627776) (h8 : Bytes8 bs) :
  Calls Tryz.prog 103 #[.pointer (some ⟨g, 0, none⟩)] w (PNum w g A bs Wf64 st) := by
 cases st with
 | none =>
  obtain ⟨pos, er, h1⟩ := h
  refine (reader_Num h1 hl h8).mono ?_
  rintro e w' ⟨he, h2, hf⟩
  exact ⟨0, none, he, ⟨pos, er, h2⟩, ⟨rfl, rfl⟩, hf.mono (fun _ _ h => h.elim)⟩
 | some s =>
  obtain ⟨pos, h1, hd⟩ := h
  refine (reader_Num h1 hl h8).mono ?_
  rintro e w' (⟨hc, v, he, rfl, h2, hf⟩ | ⟨hc, he, ⟨p, h2⟩, hf⟩)
  ·have hk := num_kept h8 hc
   rw [hd] at hk
   exact ⟨numX bs pos, some (bs.drop (pos + 8)), he, ⟨_, h2, rfl⟩, .inl ⟨_, hk, numX_wf _ _, rfl⟩, hf⟩
  ·refine ⟨0, none, he, ⟨p, _, h2⟩, .inr ⟨rfl, rfl, fun y t hy e => ?_⟩, hf⟩
   exact hc (num_read (hd.trans e) hy.1 hy.2).1
theorem pr_Int {w : World} {g : Nat} {A : Option Addr} {bs : List Int} {st : Option (List Int)} (h : PR w g A bs st) (hl : bs.length ≤ 1099511627776) (h8 : Bytes8 bs) (most : Int) (hm : most ≤ 9223372036854775807) :
  Calls Tryz.prog 135 #[.pointer (some ⟨g, 0, none⟩), .int .i64 most] w (PNum w g A bs (fun x => 0 ≤ x ∧ x ≤ most) st) := by
 cases st with
 | none =>
  obtain ⟨pos, er, h1⟩ := h
  refine (reader_Int h1 hl most).mono ?_
  rintro e w' ⟨he, h2, hf⟩
  exact ⟨0, none, he, ⟨pos, er, h2⟩, ⟨rfl, rfl⟩, hf.mono (fun _ _ h => h.elim)⟩
 | some s =>
  obtain ⟨pos, h1, hd⟩ := h
  refine (reader_Int h1 hl most).mono ?_
  rintro e w' (⟨hc, v, he, rfl, h2, hf⟩ | ⟨hc, he, ⟨p, h2⟩, hf⟩)
  ·have hn : numC bs pos = 0 ∧ 0 ≤ numX bs pos ∧ numX bs pos ≤ most := by
    unfold intC at hc
    split at hc
    ·rename_i h1; exact absurd hc h1
    ·rename_i h1
     split at hc
     ·cases hc
     ·split at hc
      ·cases hc
      ·exact ⟨by simpa using h1, by omega, by omega⟩
   have hk := num_kept h8 hn.1
   rw [hd] at hk
   exact ⟨numX bs pos, some (bs.drop (pos + 8)), he, ⟨_, h2, rfl⟩, .inl ⟨_, hk, hn.2, rfl⟩, hf⟩
  ·refine ⟨0, none, he, ⟨p, _, h2⟩, .inr ⟨rfl, rfl, fun y t hy e => ?_⟩, hf⟩
   obtain ⟨h3, h4, _⟩ := num_read (hd.trans e) (by omega) (by omega)
   refine hc ?_
   unfold intC
   rw [if_neg (by simp [h3]), h4, if_neg (by omega), if_neg (by omega)]
theorem pr_Text {w : World} {g : Nat} {A : Option Addr} {bs : List Int} {st : Option (List Int)} (h : PR w g A bs st) (hl : bs.length ≤ 1099511627776) (h8 : Bytes8 bs) :
  Calls Tryz.prog 106 #[.pointer (some ⟨g, 0, none⟩)] w (PText w g A bs st) := by
 cases st with
 | none =>
  obtain ⟨pos, er, h1⟩ := h
  refine (reader_Text h1 hl h8).mono ?_
  rintro e w' ⟨he, h2, hf⟩
  exact ⟨none, 0, [], none, he, fun k x h => by simp at h, fun y h => by simp at h, ⟨pos, er, h2⟩, ⟨rfl, rfl⟩, hf.mono (fun _ _ h => h.elim)⟩
 | some s =>
  obtain ⟨pos, h1, hd⟩ := h
  refine (reader_Text h1 hl h8).mono ?_
  rintro e w' (⟨hc, v, he, ⟨B, cap, rfl, hrow⟩, h2, hf⟩ | ⟨hc, he, ⟨p, h2⟩, hf⟩)
  ·obtain ⟨hk, _, hk3⟩ := text_kept h8 hc
   rw [hd] at hk
   refine ⟨B, cap, textX bs pos, some _, he, hrow, ?_, ⟨_, h2, rfl⟩, .inl ⟨_, hk, hk3, rfl⟩, hf⟩
   intro y hy
   unfold textX at hy
   exact h8 y (List.mem_of_mem_drop (List.mem_of_mem_take hy))
  ·refine ⟨none, 0, [], none, he, fun k x h => by simp at h, fun y h => by simp at h, ⟨p, _, h2⟩, .inr ⟨rfl, rfl, fun ys t hy e => ?_⟩, hf⟩
   exact hc (text_read (hd.trans e) hy).1
theorem pr_End {w : World} {g : Nat} {A : Option Addr} {bs : List Int} {st : Option (List Int)} (h : PR w g A bs st) (hl : bs.length ≤ 1099511627776) :
  Calls Tryz.prog 110 #[.pointer (some ⟨g, 0, none⟩)] w (fun e w' => ∃ err, e = .returned (errO err) ∧ (err = none ↔ st = some []) ∧ Fr (fun _ => False) w w') := by
 cases st with
 | none =>
  obtain ⟨pos, er, h1⟩ := h
  refine (reader_End h1 hl).mono ?_
  rintro e w' ⟨he, hf⟩
  exact ⟨_, he, by simp [endE], hf⟩
 | some s =>
  obtain ⟨pos, h1, hd⟩ := h
  refine (reader_End h1 hl).mono ?_
  rintro e w' ⟨he, hf⟩
  have hle := h1.le
  have hlen : bs.length - pos = s.length := by rw [← hd, List.length_drop]
  refine ⟨_, he, ?_, hf⟩
  unfold endE
  dsimp only
  cases s with
  | nil => simp at hlen; simp; omega
  | cons a b => simp at hlen; simp; omega
theorem pr_New {w : World} {F : Nat → Prop} {A : Option Addr} {bs : List Int} {cap : Nat} (hr : ByteRow w F A bs) (hl : bs.length ≤ 1099511627776) :
  Calls Tryz.prog 102 #[.slice A bs.length cap] w (fun e w' => ∃ g A', e = .returned (.pointer (some ⟨g, 0, none⟩)) ∧ PR w' g A' bs (some bs) ∧ w.heap.size ≤ g ∧ (∀ k o, A' = some ⟨k, o, none⟩ → w.heap.size ≤ k) ∧ Fr (fun _ => False) w w') := by
 refine (wire_New hr hl).mono ?_
 rintro e w' ⟨g, A', he, h1, h2, h3, hf⟩
 exact ⟨g, A', he, ⟨0, h1, rfl⟩, h2, h3, hf⟩
end Go.Proofs.YtmkdhhhoodeemaaGreat

/- txn.Get: its closures. -/
namespace Go.Proofs.YtmkdhhhoodeemaaGreat
open Go Go.RowKit
/-- What reading one does. -/
def ReadStep (st : Option (List Int)) (x : ByteArray × Int) (st' : Option (List Int)) : Prop := ∃ st1, TextStep st (bytesOf x.1) st1 ∧ NumStep Wf64 st1 x.2 st'
set_option maxRecDepth 100000 in
set_option maxHeartbeats 1000000 in
theorem txn_1_one {w : World} {g b : Nat} {A : Option Addr} {bs : List Int} {st : Option (List Int)} (h : PR w g A bs st) (hl : bs.length ≤ 1099511627776) (h8 : Bytes8 bs) (hb : w.cell? ⟨b, 0, none⟩ = some (.pointer (some ⟨g, 0, none⟩))) (hbg : b ≠ g) (hA : ∀ k o, A = some ⟨k, o, none⟩ → k < w.heap.size ∧ k ≠ g) :
  Calls Tryz.prog 105 #[.pointer (some ⟨b, 0, none⟩)] w (fun e w' => ∃ x st', e = .returned (.agg #[.string x.1, .int .i64 x.2]) ∧ PR w' g A bs st' ∧ ReadStep st x st' ∧ Fr (fun k => k = g) w w') := by
 have hf0 : Fr (fun _ => False) w (w.alloc (Obj.cells #[.string ⟨#[]⟩, .int .i64 0] 143)) := (Fr.refl _ _).alloc _
 have hX0 := Blk.new w 143 #[.string ⟨#[]⟩, .int .i64 0]
 have h0 := h.keep hf0
 have hb0 := hf0.cell_some hb id
 have hgl : g < w.heap.size := by obtain ⟨cs, hB⟩ := h.blk; exact hB.lt
 have hbl := block_lt_of_cell hb
 have H := Lib.hid (pr_Text h0 hl h8)
 have HA := Lib.hid hA
 clear h hb h0 hA
 go_enter Tryz.func105, Tryz.ntmps105
 go_upto_region 1 with fail
 generalize w.alloc (Obj.cells #[.string ⟨#[]⟩, .int .i64 0] 143) = w0 at *
 go_upto_region 2 with (go_at_call 106; refine H.out.mono ?_; rintro e w1 ⟨B1, c1, x1, st1, rfl, hr1, b81, h1, s1, hf1⟩; have hcv := conv_bytes (w := w1) (n := x1.length) (cap := c1) hr1 rfl)
 have hX1 := hX0.fr hf1 (fun e => by omega)
 have hf01 : Fr (fun k => k = g) w w1 := (hf0.mono (fun _ _ h => h.elim)).trans hf1 (fun _ _ h => h)
 have hfa := (Fr.refl (fun _ => False) w1).alloc (Obj.cells #[.string (strOfNums x1), .int .i64 0] 143)
 have hX2 := hX1.fr hfa id
 have hY2 := Blk.new w1 143 #[.string (strOfNums x1), .int .i64 0]
 have h2 := h1.keep hfa
 have hb2 : (w1.alloc (Obj.cells #[.string (strOfNums x1), .int .i64 0] 143)).cell? ⟨b, 0, none⟩ = some (.pointer (some ⟨g, 0, none⟩)) := hfa.cell_some (hf1.cell_some hb0 hbg) id
 have hf02 := hf01.then_ hfa
 have e1 : bytesOf (strOfNums x1) = x1 := bytesOf_strOf (fun y hy => by have := b81 y hy; omega)
 have hw1 : w.heap.size < w1.heap.size := hX1.lt
 obtain ⟨gy, hgy⟩ : ∃ q, Hid (w1.heap.size = q) := ⟨_, rfl⟩
 rw [hgy.out] at hY2 hw1 ⊢
 generalize w1.alloc (Obj.cells #[.string (strOfNums x1), .int .i64 0] 143) = w2 at *
 clear H hX0 hX1 h1 hf1 hfa hb0 hcv hr1 b81 hf0 hf01
 have H := Lib.hid (pr_Num h2 hl h8)
 go_upto_region 3 with (go_at_call 103; refine H.out.mono ?_; rintro e w3 ⟨x2, st2, rfl, h3, s2, hf3⟩; have hY3 := hY2.fr hf3 (fun e => by omega); have y := hY3.cell 1; have z := hY3.frozen 1)
 have hX3 := hX2.fr hf3 (fun e => by omega)
 have hf03 := hf02.trans hf3 (fun _ _ h => h)
 have hS : Fr (fun k => k = gy) w3 (w3.setCell ⟨gy, 1, none⟩ (.int .i64 x2)) := (Fr.refl (fun k => k = gy) w3).setCell (p := ⟨gy, 1, none⟩) (fun _ => rfl) _
 have h4 := h3.fr hS (fun e => by omega) (fun k o e he => by have := (HA.out k o e).1; omega)
 have hY4 : Blk (w3.setCell ⟨gy, 1, none⟩ (.int .i64 x2)) gy 143 #[.string (strOfNums x1), .int .i64 x2] := hY3.set_ 1 _
 have hX4 := hX3.fr hS (fun e => by omega)
 have hf04 : Fr (fun k => k = g) w (w3.setCell ⟨gy, 1, none⟩ (.int .i64 x2)) := hf03.setCell (p := ⟨gy, 1, none⟩) (fun h => absurd h (by dsimp only; omega)) _
 generalize w3.setCell ⟨gy, 1, none⟩ (.int .i64 x2) = w4 at *
 clear H hX2 hX3 hY2 hY3 h2 h3 hf02 hf03 hf3 hb2 y z hS
 go_wp2_with (first
  | (refine wpList_load_row rfl 143 _ rfl _ rfl _ _ (0, 0) _ hY4 Tryz.underlying143 rfl (by kernel_rfl) ?_)
  | (refine wpList_store_row rfl 143 (.tmp 1) (.tmp 10) rfl w.heap.size #[.string (strOfNums x1), .int .i64 x2] rfl rfl 143 _ hX4 (by kernel_rfl) rfl (by simp [Value.oneCell']) ?_))
 have hX5 := Blk.setRow_ (ds := #[.string (strOfNums x1), .int .i64 x2]) hX4
 have hS := Fr.setRow_ (w := w4) (g := w.heap.size) (ds := #[.string (strOfNums x1), .int .i64 x2])
 have h5 := h4.fr hS (fun e => by omega) (fun k o e he => by have := (HA.out k o e).1; omega)
 have hf5 := hf04.trans hS (fun k hk e => by omega)
 generalize w4.setRow w.heap.size #[.string (strOfNums x1), .int .i64 x2] = w5 at *
 refine bodyPost_ret (v := .agg #[.string (strOfNums x1), .int .i64 x2]) (results_cell_row Tryz.results105 _ w5 w.heap.size 143 #[.string (strOfNums x1), .int .i64 x2] (0, 0) _ rfl hX5 Tryz.underlying143 rfl (by kernel_rfl)) rfl ?_
 exact ⟨(strOfNums x1, x2), st2, rfl, h5, ⟨st1, by rw [show bytesOf (strOfNums x1) = x1 from e1]; exact s1, s2⟩, hf5⟩
/-- What reading one does. -/
def WriteStep (st : Option (List Int)) (x : ByteArray × ByteArray) (st' : Option (List Int)) : Prop := ∃ st1, TextStep st (bytesOf x.1) st1 ∧ TextStep st1 (bytesOf x.2) st'
set_option maxRecDepth 100000 in
set_option maxHeartbeats 1000000 in
theorem txn_2_one {w : World} {g b : Nat} {A : Option Addr} {bs : List Int} {st : Option (List Int)} (h : PR w g A bs st) (hl : bs.length ≤ 1099511627776) (h8 : Bytes8 bs) (hb : w.cell? ⟨b, 0, none⟩ = some (.pointer (some ⟨g, 0, none⟩))) (hbg : b ≠ g) (hA : ∀ k o, A = some ⟨k, o, none⟩ → k < w.heap.size ∧ k ≠ g) :
  Calls Tryz.prog 108 #[.pointer (some ⟨b, 0, none⟩)] w (fun e w' => ∃ x st', e = .returned (.agg #[.string x.1, .string x.2]) ∧ PR w' g A bs st' ∧ WriteStep st x st' ∧ Fr (fun k => k = g) w w') := by
 have hf0 : Fr (fun _ => False) w (w.alloc (Obj.cells #[.string ⟨#[]⟩, .string ⟨#[]⟩] 84)) := (Fr.refl _ _).alloc _
 have hX0 := Blk.new w 84 #[.string ⟨#[]⟩, .string ⟨#[]⟩]
 have h0 := h.keep hf0
 have hb0 := hf0.cell_some hb id
 have hgl : g < w.heap.size := by obtain ⟨cs, hB⟩ := h.blk; exact hB.lt
 have hbl := block_lt_of_cell hb
 have H := Lib.hid (pr_Text h0 hl h8)
 have HA := Lib.hid hA
 clear h hb h0 hA
 go_enter Tryz.func108, Tryz.ntmps108
 go_upto_region 1 with fail
 generalize w.alloc (Obj.cells #[.string ⟨#[]⟩, .string ⟨#[]⟩] 84) = w0 at *
 go_upto_region 2 with (go_at_call 106; refine H.out.mono ?_; rintro e w1 ⟨B1, c1, x1, st1, rfl, hr1, b81, h1, s1, hf1⟩; have hcv := conv_bytes (w := w1) (n := x1.length) (cap := c1) hr1 rfl)
 have hX1 := hX0.fr hf1 (fun e => by omega)
 have hf01 : Fr (fun k => k = g) w w1 := (hf0.mono (fun _ _ h => h.elim)).trans hf1 (fun _ _ h => h)
 have hfa := (Fr.refl (fun _ => False) w1).alloc (Obj.cells #[.string (strOfNums x1), .string ⟨#[]⟩] 84)
 have hX2 := hX1.fr hfa id
 have hY2 := Blk.new w1 84 #[.string (strOfNums x1), .string ⟨#[]⟩]
 have h2 := h1.keep hfa
 have hb2 : (w1.alloc (Obj.cells #[.string (strOfNums x1), .string ⟨#[]⟩] 84)).cell? ⟨b, 0, none⟩ = some (.pointer (some ⟨g, 0, none⟩)) := hfa.cell_some (hf1.cell_some hb0 hbg) id
 have hf02 := hf01.then_ hfa
 have e1 : bytesOf (strOfNums x1) = x1 := bytesOf_strOf (fun y hy => by have := b81 y hy; omega)
 have hw1 : w.heap.size < w1.heap.size := hX1.lt
 obtain ⟨gy, hgy⟩ : ∃ q, Hid (w1.heap.size = q) := ⟨_, rfl⟩
 rw [hgy.out] at hY2 hw1 ⊢
 generalize w1.alloc (Obj.cells #[.string (strOfNums x1), .string ⟨#[]⟩] 84) = w2 at *
 clear H hX0 hX1 h1 hf1 hfa hb0 hcv hr1 b81 hf0 hf01
 have H := Lib.hid (pr_Text h2 hl h8)
 go_upto_region 3 with (go_at_call 106; refine H.out.mono ?_; rintro e w3 ⟨B2, c2, x2, st2, rfl, hr2, b82, h3, s2, hf3⟩; have hcv := conv_bytes (w := w3) (n := x2.length) (cap := c2) hr2 rfl; have hY3 := hY2.fr hf3 (fun e => by omega); have y := hY3.cell 1; have z := hY3.frozen 1)
 have e2 : bytesOf (strOfNums x2) = x2 := bytesOf_strOf (fun y hy => by have := b82 y hy; omega)
 have hX3 := hX2.fr hf3 (fun e => by omega)
 have hf03 := hf02.trans hf3 (fun _ _ h => h)
 have hS : Fr (fun k => k = gy) w3 (w3.setCell ⟨gy, 1, none⟩ (.string (strOfNums x2))) := (Fr.refl (fun k => k = gy) w3).setCell (p := ⟨gy, 1, none⟩) (fun _ => rfl) _
 have h4 := h3.fr hS (fun e => by omega) (fun k o e he => by have := (HA.out k o e).1; omega)
 have hY4 : Blk (w3.setCell ⟨gy, 1, none⟩ (.string (strOfNums x2))) gy 84 #[.string (strOfNums x1), .string (strOfNums x2)] := hY3.set_ 1 _
 have hX4 := hX3.fr hS (fun e => by omega)
 have hf04 : Fr (fun k => k = g) w (w3.setCell ⟨gy, 1, none⟩ (.string (strOfNums x2))) := hf03.setCell (p := ⟨gy, 1, none⟩) (fun h => absurd h (by dsimp only; omega)) _
 generalize w3.setCell ⟨gy, 1, none⟩ (.string (strOfNums x2)) = w4 at *
 clear H hX2 hX3 hY2 hY3 h2 h3 hf02 hf03 hf3 hb2 y z hS
 go_wp2_with (first
  | (refine wpList_load_row rfl 84 _ rfl _ rfl _ _ (0, 0) _ hY4 Tryz.underlying84 rfl (by kernel_rfl) ?_)
  | (refine wpList_store_row rfl 84 (.tmp 1) (.tmp 11) rfl w.heap.size #[.string (strOfNums x1), .string (strOfNums x2)] rfl rfl 84 _ hX4 (by kernel_rfl) rfl (by simp [Value.oneCell']) ?_))
 have hX5 := Blk.setRow_ (ds := #[.string (strOfNums x1), .string (strOfNums x2)]) hX4
 have hS := Fr.setRow_ (w := w4) (g := w.heap.size) (ds := #[.string (strOfNums x1), .string (strOfNums x2)])
 have h5 := h4.fr hS (fun e => by omega) (fun k o e he => by have := (HA.out k o e).1; omega)
 have hf5 := hf04.trans hS (fun k hk e => by omega)
 generalize w4.setRow w.heap.size #[.string (strOfNums x1), .string (strOfNums x2)] = w5 at *
 refine bodyPost_ret (v := .agg #[.string (strOfNums x1), .string (strOfNums x2)]) (results_cell_row Tryz.results108 _ w5 w.heap.size 84 #[.string (strOfNums x1), .string (strOfNums x2)] (0, 0) _ rfl hX5 Tryz.underlying84 rfl (by kernel_rfl)) rfl ?_
 exact ⟨(strOfNums x1, strOfNums x2), st2, rfl, h5, ⟨st1, by rw [show bytesOf (strOfNums x1) = x1 from e1]; exact s1, by rw [show bytesOf (strOfNums x2) = x2 from e2]; exact s2⟩, hf5⟩
/-- What reading some does. -/
def ReadsStep : Option (List Int) → List (ByteArray × Int) → Option (List Int) → Prop
 | st, [], st' => st' = st
 | st, x :: R, st' => ∃ st1, ReadStep st x st1 ∧ ReadsStep st1 R st'
theorem ReadsStep.snoc : ∀ {R : List (ByteArray × Int)} {st st1 st2 : Option (List Int)} {x : ByteArray × Int}, ReadsStep st R st1 → ReadStep st1 x st2 → ReadsStep st (R ++ [x]) st2
 | [], _, _, _, _, h, h2 => by cases (show _ = _ from h); exact ⟨_, h2, rfl⟩
 | y :: R, _, _, _, _, h, h2 => by obtain ⟨s1, h3, h4⟩ := h; exact ⟨s1, h3, h4.snoc h2⟩
def ReadsOut (w : World) (g : Nat) (A : Option Addr) (bs : List Int) (st : Option (List Int)) (e : Ending) (w' : World) : Prop := ∃ v R st1 st', e = .returned v ∧ w'.ownsRow w.heap.size 143 2 v R.length (readsV R) ∧ R.length ≤ 8 ∧ PR w' g A bs st' ∧ NumStep (fun x => 0 ≤ x ∧ x ≤ 8) st (R.length : Int) st1 ∧ ReadsStep st1 R st' ∧ Fr (fun k => k = g) w w'
set_option maxRecDepth 100000 in
set_option maxHeartbeats 1000000 in
theorem txn_some_Read {w : World} {g b : Nat} {A : Option Addr} {bs : List Int} {st : Option (List Int)} (h : PR w g A bs st) (hl : bs.length ≤ 1099511627776) (h8 : Bytes8 bs) (hb : w.cell? ⟨b, 0, none⟩ = some (.pointer (some ⟨g, 0, none⟩))) (hbg : b ≠ g) (hA : ∀ k o, A = some ⟨k, o, none⟩ → k < w.heap.size ∧ k ≠ g) :
  Calls Tryz.prog 104 #[.pointer (some ⟨g, 0, none⟩), .func (.func 105) #[] #[.pointer (some ⟨b, 0, none⟩)]] w (ReadsOut w g A bs st) := by
 have H := Lib.hid (pr_Int h hl h8 8 (by omega))
 have HA := Lib.hid hA
 have hgl : g < w.heap.size := by obtain ⟨cs, hB⟩ := h.blk; exact hB.lt
 have hbl := block_lt_of_cell hb
 have hinf := read_info
 clear h hA
 go_enter Tryz.func104, Tryz.ntmps104
 go_upto_region 3 with (go_at_call 135; refine H.out.mono ?_; rintro e w1 ⟨n, st1, rfl, h1, s1, hf1⟩)
 have hn : 0 ≤ n ∧ n ≤ 8 := by
  cases st with
  | none => obtain ⟨_, rfl⟩ := s1; omega
  | some s => rcases s1 with ⟨t, _, h, _⟩ | ⟨_, rfl, _⟩ <;> omega
 obtain ⟨m, rfl⟩ := Int.eq_ofNat_of_zero_le hn.1
 have hb1 := hf1.cell_some hb hbg
 have S1 := Lib.hid s1
 clear H s1
 go_loopw [5, 6] (fun lv i wr => ∃ (R : List (ByteArray × Int)) (st2 : Option (List Int)), R.length ≤ m ∧ i = .int .i64 ((m : Int) - (R.length : Int)) ∧ wr.ownsRow w1.heap.size 143 2 lv R.length (readsV R) ∧ PR wr g A bs st2 ∧ Hid (ReadsStep st1 R st2) ∧ Fr (fun k => k = g) w1 wr) (fun _ i _ => (intOf i).toNat)
 case atStart => exact ⟨[], st1, by simp, by simp, World.ownsRow_nil _ _ _ _, h1, rfl, Fr.refl _ _⟩
 case round =>
  clear h1
  obtain ⟨R, st2, hR, rfl, hown, h2, s2, hf⟩ := hrel
  by_cases hlt : R.length < m
  ·have q1 : (0 : Int) < (m : Int) - (R.length : Int) := by omega
   have q2 : wrap64 ((m : Int) - (R.length : Int) - 1) = (m : Int) - (R.length : Int) - 1 := by unfold wrap64; omega
   have q2 := Lib.hid q2
   have hbr := hf.cell_some hb1 hbg
   have hsz := hf.size
   have hsz1 := hf1.size
   have HO := Lib.hid (txn_1_one h2 hl h8 hbr hbg (fun k o e => ⟨by have := (HA.out k o e).1; omega, (HA.out k o e).2⟩))
   go_wp2_with (first
    | (go_at_call 105; refine HO.out.mono ?_; rintro e w3 ⟨x, st3, rfl, h3, s3, hf3⟩; have hown3 := own_fr hown hf3 (fun q hq e => by obtain ⟨ds, hD⟩ := h2.blk; exact own_ne_blk hown hD (by decide) (e ▸ hq)); have hz3 : w1.heap.size ≤ w3.heap.size := (hf.trans hf3 (fun _ _ h => h)).size)
    | (at_builtin; refine wpList_append_el _ rfl _ _ 26 rfl w1.heap.size 143 _ 2 24 Tryz.underlying26 hinf rfl (by decide) _ R.length (readsV R) rfl (own_fr hown3 ((Fr.refl (fun _ => False) w3).alloc _) (fun _ _ => id)) w3.heap.size [.string x.1, .int .i64 x.2] rfl rfl (cell_two w3 _ _ _) (by simp [Value.oneCell']) (by omega) (by decide) (by simp; omega) ?_; intro g' c' w4 hown4 hf4))
   have hfa := (Fr.refl (fun _ => False) w3).alloc (Obj.cells #[.string x.1, .int .i64 x.2] 143)
   have ho3a := own_fr hown3 hfa (fun _ _ => id)
   have h4 : PR w4 g A bs st3 := by
    obtain ⟨ds, hD⟩ := (h3.keep hfa).blk
    exact (h3.keep hfa).fr hf4 (own_ne_blk ho3a hD (by decide)) (fun k o e he => by have := own_ge ho3a k he; have := (HA.out k o e).1; omega)
   have hf14 : Fr (fun k => k = g) w1 w4 := ((hf.trans hf3 (fun _ _ h => h)).then_ hfa).trans hf4 (fun q hq e => by have := own_ge ho3a q e; omega)
   go_roundw
   case rel =>
    refine ⟨R ++ [x], st3, by simp; omega, by simp; omega, ?_, h4, s2.out.snoc s3, hf14⟩
    rw [show readsV (R ++ [x]) = readsV R ++ [.string x.1, .int .i64 x.2] by simp [readsV]]
    simpa using hown4
   case measure => simp [intOf]; omega
  ·have q1 : ¬ (0 : Int) < (m : Int) - (R.length : Int) := by omega
   have hm : R.length = m := by omega
   go_wp2
   go_ret
   refine ⟨_, R, st1, st2, rfl, own_base hown hf1.size, by omega, h2, ?_, s2.out, hf1.trans hf (fun _ _ h => h)⟩
   rw [hm]
   exact S1.out
/-- What reading some does. -/
def WritesStep : Option (List Int) → List (ByteArray × ByteArray) → Option (List Int) → Prop
 | st, [], st' => st' = st
 | st, x :: R, st' => ∃ st1, WriteStep st x st1 ∧ WritesStep st1 R st'
theorem WritesStep.snoc : ∀ {R : List (ByteArray × ByteArray)} {st st1 st2 : Option (List Int)} {x : ByteArray × ByteArray}, WritesStep st R st1 → WriteStep st1 x st2 → WritesStep st (R ++ [x]) st2
 | [], _, _, _, _, h, h2 => by cases (show _ = _ from h); exact ⟨_, h2, rfl⟩
 | y :: R, _, _, _, _, h, h2 => by obtain ⟨s1, h3, h4⟩ := h; exact ⟨s1, h3, h4.snoc h2⟩
def WritesOut (w : World) (g : Nat) (A : Option Addr) (bs : List Int) (st : Option (List Int)) (e : Ending) (w' : World) : Prop := ∃ v R st1 st', e = .returned v ∧ w'.ownsRow w.heap.size 84 2 v R.length (writesV R) ∧ R.length ≤ 8 ∧ PR w' g A bs st' ∧ NumStep (fun x => 0 ≤ x ∧ x ≤ 8) st (R.length : Int) st1 ∧ WritesStep st1 R st' ∧ Fr (fun k => k = g) w w'
set_option maxRecDepth 100000 in
set_option maxHeartbeats 1000000 in
theorem txn_some_Write {w : World} {g b : Nat} {A : Option Addr} {bs : List Int} {st : Option (List Int)} (h : PR w g A bs st) (hl : bs.length ≤ 1099511627776) (h8 : Bytes8 bs) (hb : w.cell? ⟨b, 0, none⟩ = some (.pointer (some ⟨g, 0, none⟩))) (hbg : b ≠ g) (hA : ∀ k o, A = some ⟨k, o, none⟩ → k < w.heap.size ∧ k ≠ g) :
  Calls Tryz.prog 107 #[.pointer (some ⟨g, 0, none⟩), .func (.func 108) #[] #[.pointer (some ⟨b, 0, none⟩)]] w (WritesOut w g A bs st) := by
 have H := Lib.hid (pr_Int h hl h8 8 (by omega))
 have HA := Lib.hid hA
 have hgl : g < w.heap.size := by obtain ⟨cs, hB⟩ := h.blk; exact hB.lt
 have hbl := block_lt_of_cell hb
 have hinf := write_info
 clear h hA
 go_enter Tryz.func107, Tryz.ntmps107
 go_upto_region 3 with (go_at_call 135; refine H.out.mono ?_; rintro e w1 ⟨n, st1, rfl, h1, s1, hf1⟩)
 have hn : 0 ≤ n ∧ n ≤ 8 := by
  cases st with
  | none => obtain ⟨_, rfl⟩ := s1; omega
  | some s => rcases s1 with ⟨t, _, h, _⟩ | ⟨_, rfl, _⟩ <;> omega
 obtain ⟨m, rfl⟩ := Int.eq_ofNat_of_zero_le hn.1
 have hb1 := hf1.cell_some hb hbg
 have S1 := Lib.hid s1
 clear H s1
 go_loopw [5, 6] (fun lv i wr => ∃ (R : List (ByteArray × ByteArray)) (st2 : Option (List Int)), R.length ≤ m ∧ i = .int .i64 ((m : Int) - (R.length : Int)) ∧ wr.ownsRow w1.heap.size 84 2 lv R.length (writesV R) ∧ PR wr g A bs st2 ∧ Hid (WritesStep st1 R st2) ∧ Fr (fun k => k = g) w1 wr) (fun _ i _ => (intOf i).toNat)
 case atStart => exact ⟨[], st1, by simp, by simp, World.ownsRow_nil _ _ _ _, h1, rfl, Fr.refl _ _⟩
 case round =>
  clear h1
  obtain ⟨R, st2, hR, rfl, hown, h2, s2, hf⟩ := hrel
  by_cases hlt : R.length < m
  ·have q1 : (0 : Int) < (m : Int) - (R.length : Int) := by omega
   have q2 : wrap64 ((m : Int) - (R.length : Int) - 1) = (m : Int) - (R.length : Int) - 1 := by unfold wrap64; omega
   have q2 := Lib.hid q2
   have hbr := hf.cell_some hb1 hbg
   have hsz := hf.size
   have hsz1 := hf1.size
   have HO := Lib.hid (txn_2_one h2 hl h8 hbr hbg (fun k o e => ⟨by have := (HA.out k o e).1; omega, (HA.out k o e).2⟩))
   go_wp2_with (first
    | (go_at_call 108; refine HO.out.mono ?_; rintro e w3 ⟨x, st3, rfl, h3, s3, hf3⟩; have hown3 := own_fr hown hf3 (fun q hq e => by obtain ⟨ds, hD⟩ := h2.blk; exact own_ne_blk hown hD (by decide) (e ▸ hq)); have hz3 : w1.heap.size ≤ w3.heap.size := (hf.trans hf3 (fun _ _ h => h)).size)
    | (at_builtin; refine wpList_append_el _ rfl _ _ 27 rfl w1.heap.size 84 _ 2 32 Tryz.underlying27 hinf rfl (by decide) _ R.length (writesV R) rfl (own_fr hown3 ((Fr.refl (fun _ => False) w3).alloc _) (fun _ _ => id)) w3.heap.size [.string x.1, .string x.2] rfl rfl (cell_two w3 _ _ _) (by simp [Value.oneCell']) (by omega) (by decide) (by simp; omega) ?_; intro g' c' w4 hown4 hf4))
   have hfa := (Fr.refl (fun _ => False) w3).alloc (Obj.cells #[.string x.1, .string x.2] 84)
   have ho3a := own_fr hown3 hfa (fun _ _ => id)
   have h4 : PR w4 g A bs st3 := by
    obtain ⟨ds, hD⟩ := (h3.keep hfa).blk
    exact (h3.keep hfa).fr hf4 (own_ne_blk ho3a hD (by decide)) (fun k o e he => by have := own_ge ho3a k he; have := (HA.out k o e).1; omega)
   have hf14 : Fr (fun k => k = g) w1 w4 := ((hf.trans hf3 (fun _ _ h => h)).then_ hfa).trans hf4 (fun q hq e => by have := own_ge ho3a q e; omega)
   go_roundw
   case rel =>
    refine ⟨R ++ [x], st3, by simp; omega, by simp; omega, ?_, h4, s2.out.snoc s3, hf14⟩
    rw [show writesV (R ++ [x]) = writesV R ++ [.string x.1, .string x.2] by simp [writesV]]
    simpa using hown4
   case measure => simp [intOf]; omega
  ·have q1 : ¬ (0 : Int) < (m : Int) - (R.length : Int) := by omega
   have hm : R.length = m := by omega
   go_wp2
   go_ret
   refine ⟨_, R, st1, st2, rfl, own_base hown hf1.size, by omega, h2, ?_, s2.out, hf1.trans hf (fun _ _ h => h)⟩
   rw [hm]
   exact S1.out
end Go.Proofs.YtmkdhhhoodeemaaGreat

/- What the steps of reading a transaction come to. -/
namespace Go.Proofs.YtmkdhhhoodeemaaGreat
open Go Go.RowKit
theorem num8_same {a b : Int} {s t : List Int} (h : num8 a ++ s = num8 b ++ t) (ha : Wf64 a) (hb : Wf64 b) : a = b ∧ s = t := by
 have h1 := num_read (bs := num8 a ++ s) (p := 0) (n := a) (t := s) rfl ha.1 ha.2
 have h2 := num_read (bs := num8 a ++ s) (p := 0) (n := b) (t := t) h hb.1 hb.2
 exact ⟨h1.2.1.symm.trans h2.2.1, h1.2.2.symm.trans h2.2.2⟩
theorem text_same {xs ys s t : List Int} (h : textB xs ++ s = textB ys ++ t) (hx : xs.length ≤ 65536) (hy : ys.length ≤ 65536) : xs = ys ∧ s = t := textB_inj h (by omega) (by omega)
theorem NumStep.keep {ok : Int → Prop} {st : Option (List Int)} {x : Int} {t : List Int} (h : NumStep ok st x (some t)) : st = some (num8 x ++ t) ∧ ok x := by
 cases st with
 | none => exact absurd h.1 (by simp)
 | some s =>
  rcases h with ⟨t', rfl, h1, h2⟩ | ⟨h1, _⟩
  ·cases h2; exact ⟨rfl, h1⟩
  ·cases h1
theorem TextStep.keep {st : Option (List Int)} {xs t : List Int} (h : TextStep st xs (some t)) : st = some (textB xs ++ t) ∧ xs.length ≤ 65536 := by
 cases st with
 | none => exact absurd h.1 (by simp)
 | some s =>
  rcases h with ⟨t', rfl, h1, h2⟩ | ⟨h1, _⟩
  ·cases h2; exact ⟨rfl, h1⟩
  ·cases h1
theorem NumStep.go {ok : Int → Prop} {x y : Int} {t : List Int} {st' : Option (List Int)} (h : NumStep ok (some (num8 y ++ t)) x st') (hy : ok y) (hw : ∀ z, ok z → Wf64 z) : x = y ∧ st' = some t := by
 rcases h with ⟨t', e, h1, rfl⟩ | ⟨_, _, h1⟩
 ·obtain ⟨e1, e2⟩ := num8_same e (hw y hy) (hw x h1)
  exact ⟨e1.symm, by rw [e2]⟩
 ·exact absurd rfl (h1 y t hy)
theorem TextStep.go {xs ys t : List Int} {st' : Option (List Int)} (h : TextStep (some (textB ys ++ t)) xs st') (hy : ys.length ≤ 65536) : xs = ys ∧ st' = some t := by
 rcases h with ⟨t', e, h1, rfl⟩ | ⟨_, _, h1⟩
 ·obtain ⟨e1, e2⟩ := text_same e hy h1
  exact ⟨e1.symm, by rw [e2]⟩
 ·exact absurd rfl (h1 ys t hy)
theorem ReadStep.keep {st : Option (List Int)} {x : ByteArray × Int} {t : List Int} (h : ReadStep st x (some t)) : st = some (readB x ++ t) := by
 obtain ⟨s1, h1, h2⟩ := h
 obtain ⟨rfl, _⟩ := h2.keep
 obtain ⟨rfl, _⟩ := h1.keep
 rw [readB, List.append_assoc]
theorem ReadsStep.keep : ∀ {R : List (ByteArray × Int)} {st : Option (List Int)} {t : List Int}, ReadsStep st R (some t) → st = some (R.flatMap readB ++ t)
 | [], st, t, h => by cases (show _ = _ from h); rfl
 | x :: R, st, t, h => by
  obtain ⟨s1, h1, h2⟩ := h
  cases ReadsStep.keep h2
  rw [h1.keep, List.flatMap_cons, List.append_assoc]
theorem WriteStep.keep {st : Option (List Int)} {x : ByteArray × ByteArray} {t : List Int} (h : WriteStep st x (some t)) : st = some (writeB x ++ t) := by
 obtain ⟨s1, h1, h2⟩ := h
 obtain ⟨rfl, _⟩ := h2.keep
 obtain ⟨rfl, _⟩ := h1.keep
 rw [writeB, List.append_assoc]
theorem WritesStep.keep : ∀ {R : List (ByteArray × ByteArray)} {st : Option (List Int)} {t : List Int}, WritesStep st R (some t) → st = some (R.flatMap writeB ++ t)
 | [], st, t, h => by cases (show _ = _ from h); rfl
 | x :: R, st, t, h => by
  obtain ⟨s1, h1, h2⟩ := h
  cases WritesStep.keep h2
  rw [h1.keep, List.flatMap_cons, List.append_assoc]
theorem ReadsStep.go : ∀ {R R0 : List (ByteArray × Int)} {t : List Int} {st' : Option (List Int)}, ReadsStep (some (R0.flatMap readB ++ t)) R st' → R.length = R0.length → (∀ x ∈ R0, x.1.size ≤ 65536 ∧ Wf64 x.2) → R = R0 ∧ st' = some t
 | [], [], t, st', h, _, _ => ⟨rfl, h⟩
 | x :: R, y :: R0, t, st', h, hl, hy => by
  obtain ⟨s2, ⟨s1, h1, h2⟩, h3⟩ := h
  rw [List.flatMap_cons, readB, List.append_assoc, List.append_assoc] at h1
  have hy0 := hy y (.head _)
  obtain ⟨e1, rfl⟩ := h1.go (by rw [bytesOf_length]; omega)
  obtain ⟨e2, rfl⟩ := h2.go hy0.2 (fun _ h => h)
  obtain ⟨rfl, e3⟩ := ReadsStep.go h3 (by simpa using hl) (fun z hz => hy z (.tail _ hz))
  exact ⟨by rw [show x = y from Prod.ext (bytesOf_inj e1) e2], e3⟩
theorem WritesStep.go : ∀ {R R0 : List (ByteArray × ByteArray)} {t : List Int} {st' : Option (List Int)}, WritesStep (some (R0.flatMap writeB ++ t)) R st' → R.length = R0.length → (∀ x ∈ R0, x.1.size ≤ 65536 ∧ x.2.size ≤ 65536) → R = R0 ∧ st' = some t
 | [], [], t, st', h, _, _ => ⟨rfl, h⟩
 | x :: R, y :: R0, t, st', h, hl, hy => by
  obtain ⟨s2, ⟨s1, h1, h2⟩, h3⟩ := h
  rw [List.flatMap_cons, writeB, List.append_assoc, List.append_assoc] at h1
  have hy0 := hy y (.head _)
  obtain ⟨e1, rfl⟩ := h1.go (by rw [bytesOf_length]; omega)
  obtain ⟨e2, rfl⟩ := h2.go (by rw [bytesOf_length]; omega)
  obtain ⟨rfl, e3⟩ := WritesStep.go h3 (by simpa using hl) (fun z hz => hy z (.tail _ hz))
  exact ⟨by rw [show x = y from Prod.ext (bytesOf_inj e1) (bytesOf_inj e2)], e3⟩
/-- The steps of reading a transaction. -/
def TxnSteps (bs : List Int) (c n : Int) (R : List (ByteArray × Int)) (W : List (ByteArray × ByteArray)) (st : Option (List Int)) : Prop :=
 ∃ s1 s2 s3 s4 s5, NumStep Wf64 (some bs) c s1 ∧ NumStep Wf64 s1 n s2 ∧ NumStep (fun x => 0 ≤ x ∧ x ≤ 8) s2 (R.length : Int) s3 ∧ ReadsStep s3 R s4 ∧ NumStep (fun x => 0 ≤ x ∧ x ≤ 8) s4 (W.length : Int) s5 ∧ WritesStep s5 W st
theorem TxnSteps.keep {bs : List Int} {c n : Int} {R : List (ByteArray × Int)} {W : List (ByteArray × ByteArray)} (h : TxnSteps bs c n R W (some [])) : bs = txnB c n R W := by
 obtain ⟨s1, s2, s3, s4, s5, h1, h2, h3, h4, h5, h6⟩ := h
 cases h6.keep
 obtain ⟨rfl, _⟩ := h5.keep
 cases h4.keep
 obtain ⟨rfl, _⟩ := h3.keep
 obtain ⟨rfl, _⟩ := h2.keep
 obtain ⟨e, _⟩ := h1.keep
 cases e
 simp [txnB]
theorem TxnSteps.go {c n c0 n0 : Int} {R R0 : List (ByteArray × Int)} {W W0 : List (ByteArray × ByteArray)} {st : Option (List Int)} (h : TxnSteps (txnB c0 n0 R0 W0) c n R W st) (hok : TOk c0 n0 R0 W0) : st = some [] ∧ c = c0 ∧ n = n0 ∧ R = R0 ∧ W = W0 := by
 obtain ⟨a1, a2, a3, a4, _, a6, a7⟩ := hok
 have lR := rises_len a6
 have lW := rises_len a7
 have sR := read_sizes a6
 have vR := read_vers a6
 have sW := write_sizes a7
 obtain ⟨s1, s2, s3, s4, s5, h1, h2, h3, h4, h5, h6⟩ := h
 rw [show txnB c0 n0 R0 W0 = num8 c0 ++ (num8 n0 ++ (num8 (R0.length : Int) ++ (R0.flatMap readB ++ (num8 (W0.length : Int) ++ (W0.flatMap writeB ++ []))))) by simp [txnB]] at h1
 have hw : ∀ z : Int, 0 ≤ z ∧ z ≤ 8 → Wf64 z := fun z h => ⟨by omega, by omega⟩
 obtain ⟨rfl, rfl⟩ := h1.go ⟨by omega, by omega⟩ (fun _ h => h)
 obtain ⟨rfl, rfl⟩ := h2.go ⟨by omega, by omega⟩ (fun _ h => h)
 obtain ⟨e3, rfl⟩ := h3.go ⟨by omega, by omega⟩ hw
 obtain ⟨rfl, rfl⟩ := h4.go (by omega) (fun x hx => by have := sR x hx; have := vR x hx; exact ⟨by omega, by omega, by omega⟩)
 obtain ⟨e5, rfl⟩ := h5.go ⟨by omega, by omega⟩ hw
 obtain ⟨rfl, rfl⟩ := h6.go (by omega) (fun x hx => by have := sW x hx; omega)
 exact ⟨rfl, rfl, rfl, rfl, rfl⟩
end Go.Proofs.YtmkdhhhoodeemaaGreat

/- txn.Get of any bytes. -/
namespace Go.Proofs.YtmkdhhhoodeemaaGreat
open Go Go.RowKit
theorem PR.ne {w : World} {g : Nat} {A : Option Addr} {bs : List Int} {st : Option (List Int)} (h : PR w g A bs st) : ∀ k o, A = some ⟨k, o, none⟩ → k < w.heap.size ∧ k ≠ g := by
 cases st with
 | some s => obtain ⟨pos, h1, h2⟩ := h; exact fun k o e => ⟨h1.alt k o e, h1.ne k o e⟩
 | none => obtain ⟨pos, er, h1⟩ := h; exact fun k o e => ⟨h1.alt k o e, h1.ne k o e⟩
/-- What txn.Get makes of bytes: a right transaction that has them, or an error, where none has. -/
def TxnRead (w : World) (bs : List Int) (e : Ending) (w' : World) : Prop :=
 (∃ c n R W RA cr WA cw, TOk c n R W ∧ bs = txnB c n R W ∧ e = .returned (.tuple #[.agg #[.int .i64 c, .int .i64 n, .slice RA R.length cr, .slice WA W.length cw], .nilIface]) ∧ ReadRow w' (fun k => w.heap.size ≤ k) RA R ∧ WriteRow w' (fun k => w.heap.size ≤ k) WA W ∧ Fr (fun _ => False) w w') ∨
 ((∀ c n R W, TOk c n R W → bs ≠ txnB c n R W) ∧ (∃ l k, e = .returned (.tuple #[.agg #[.int .i64 0, .int .i64 0, .slice none 0 0, .slice none 0 0], errV l k])) ∧ Fr (fun _ => False) w w')
theorem results_row2 {P : Program} {fn : Func} {p i : Tmp} {ty : TypeId} (h : fn.results = #[.cell p ty, .tmp i]) (tmps : Array Value) (w : World) (g : Nat) (t : TypeId) (cs : Array Value) (fr : Nat × Nat) (d : TypeDesc)
  (hp : tmps.getD p undef = .pointer (some ⟨g, 0, none⟩)) (hg : w.heap[g]? = some (.cells cs t fr))
  (hu : P.underlying ty = some d) (hd : (match d with | .struct _ | .array _ _ => true | _ => false) = true) (hi : (P.info? ty).map (·.size) = some cs.size) {vi : Value} (h1 : tmps.getD i undef = vi) :
  (results fn tmps).run P w = .ok (.tuple #[.agg cs, vi]) w := by
 have hp' : tmps[p]?.getD undef = .pointer (some ⟨g, 0, none⟩) := by simpa using hp
 have h1' : tmps[i]?.getD undef = vi := by simpa using h1
 simp [results, h, hp', h1', asAddr, run_loadVar_row w g t ty cs fr d hg hu hd hi]
set_option maxRecDepth 100000 in
set_option maxHeartbeats 4000000 in
theorem txn_Get {w : World} {F : Nat → Prop} {A0 : Option Addr} {cap : Nat} {bs : List Int} (hr : ByteRow w F A0 bs) (hl : bs.length ≤ 1099511627776) (h8 : Bytes8 bs) :
  Calls Tryz.prog 80 #[.slice A0 bs.length cap] w (TxnRead w bs) := by
 have hf0 : Fr (fun _ => False) w (w.alloc (Obj.cells #[.int .i64 0, .int .i64 0, .slice none 0 0, .slice none 0 0] 29)) := (Fr.refl _ _).alloc _
 have hA0 := Blk.new w 29 #[.int .i64 0, .int .i64 0, .slice none 0 0, .slice none 0 0]
 have HNew := Lib.hid (pr_New (cap := cap) (hr.fr hf0 (fun _ _ => id)) hl)
 have H8 := Lib.hid h8
 clear hr h8
 go_enter Tryz.func80, Tryz.ntmps80
 go_upto_region 2 with (go_at_call 102; refine HNew.out.mono ?_; rintro e w1 ⟨g, A, rfl, h1, hg, hAg, hf1⟩)
 generalize w.alloc (Obj.cells #[.int .i64 0, .int .i64 0, .slice none 0 0, .slice none 0 0] 29) = w0 at *
 have hne1 := h1.ne
 have hA2 := (hA0.fr hf1 id).alloc (Obj.cells #[.pointer (some ⟨g, 0, none⟩)] 196)
 have hB2 := Blk.new w1 196 #[.pointer (some ⟨g, 0, none⟩)]
 have hf2 := (hf0.then_ hf1).alloc (Obj.cells #[.pointer (some ⟨g, 0, none⟩)] 196)
 have h2 := h1.keep ((Fr.refl (fun _ => False) w1).alloc (Obj.cells #[.pointer (some ⟨g, 0, none⟩)] 196))
 have hwa : w.heap.size < w0.heap.size := hA0.lt
 have hga : w.heap.size < g := Nat.lt_of_lt_of_le hwa hg
 have hgl : g < w1.heap.size := by obtain ⟨cs, hB⟩ := h1.blk; exact hB.lt
 generalize w1.alloc (Obj.cells #[.pointer (some ⟨g, 0, none⟩)] 196) = w2 at *
 obtain ⟨b, hb⟩ : ∃ q, Hid (w1.heap.size = q) := ⟨_, rfl⟩
 rw [hb.out] at hB2 hgl hne1
 rw [hb.out]
 have HN : Hid (∀ k o, A = some ⟨k, o, none⟩ → w.heap.size < k ∧ k < b ∧ k ≠ g) := fun k o e => ⟨by have := hAg k o e; omega, (hne1 k o e).1, (hne1 k o e).2⟩
 clear hA0 hf0 hf1 HNew hg hAg h1 hne1
 have c0 := hB2.cell 0
 have H := Lib.hid (pr_Num h2 hl H8.out)
 go_upto_region 3 with (go_at_call 103; refine H.out.mono ?_; rintro e w3 ⟨c, s1, rfl, h3, q1, hf3⟩)
 have Q1 := Lib.hid q1
 have hA3 := hA2.fr hf3 (fun e => by omega)
 have hB3 := hB2.fr hf3 (fun e => by omega)
 have hf03 : Fr (fun _ => False) w w3 := hf2.trans hf3 (fun k hk e => by omega)
 clear H h2 hA2 hB2 hf2 hf3 q1 c0
 have c0 := hB3.cell 0
 have H := Lib.hid (pr_Num h3 hl H8.out)
 go_upto_region 4 with (go_at_call 103; refine H.out.mono ?_; rintro e w4 ⟨n, s2, rfl, h4, q2, hf4⟩)
 have Q2 := Lib.hid q2
 have hfx := (Fr.refl (fun _ => False) w4).alloc (Obj.cells #[.int .i64 c, .int .i64 n, .slice none 0 0, .slice none 0 0] 29)
 have hA5 := (hA3.fr hf4 (fun e => by omega)).fr hfx id
 have hB5 := (hB3.fr hf4 (fun e => by omega)).fr hfx id
 have hT5 := Blk.new w4 29 #[.int .i64 c, .int .i64 n, .slice none 0 0, .slice none 0 0]
 have hf05 : Fr (fun _ => False) w _ := (hf03.trans hf4 (fun k hk e => by omega)).then_ hfx
 have h5 := h4.keep hfx
 have hbw4 : b < w4.heap.size := (hB3.fr hf4 (fun e => by omega)).lt
 generalize w4.alloc (Obj.cells #[.int .i64 c, .int .i64 n, .slice none 0 0, .slice none 0 0] 29) = w5 at *
 obtain ⟨gt, hgt⟩ : ∃ q, Hid (w4.heap.size = q) := ⟨_, rfl⟩
 rw [hgt.out] at hT5 hbw4
 rw [hgt.out]
 clear H h3 hA3 hB3 hf03 hf4 q2 c0 hfx h4
 have c0 := hB5.cell 0
 have H := Lib.hid (txn_some_Read h5 hl H8.out c0 (by omega) h5.ne)
 go_upto_region 5 with (go_at_call 104; refine H.out.mono ?_; rintro e w6 ⟨v6, R, s3, s4, rfl, hR6, lR, h6, q3, q4, hf6⟩; have hT6 := hT5.fr hf6 (fun e => by omega); have y := hT6.cell 2; have z := hT6.frozen 2; obtain ⟨RA, cr, rfl, _⟩ := own_reads hR6)
 have Q3 := Lib.hid q3
 have Q4 := Lib.hid q4
 have hgt5 : gt < w5.heap.size := hT5.lt
 have hR6 := own_base hR6 (base' := gt + 1) (by omega)
 have hA6 := hA5.fr hf6 (fun e => by omega)
 have hB6 := hB5.fr hf6 (fun e => by omega)
 have hf06 : Fr (fun _ => False) w w6 := hf05.trans hf6 (fun k hk e => by omega)
 have hS : Fr (fun k => k = gt) w6 (w6.setCell ⟨gt, 2, none⟩ (.slice RA R.length cr)) := (Fr.refl (fun k => k = gt) w6).setCell (p := ⟨gt, 2, none⟩) (fun _ => rfl) _
 have hT7 : Blk (w6.setCell ⟨gt, 2, none⟩ (.slice RA R.length cr)) gt 29 #[.int .i64 c, .int .i64 n, .slice RA R.length cr, .slice none 0 0] := hT6.set_ 2 _
 have hA7 := hA6.fr hS (fun e => by omega)
 have hB7 := hB6.fr hS (fun e => by omega)
 have hR7 := own_fr hR6 hS (fun q hq e => own_ne_blk hR6 hT6 (by decide) (e ▸ hq))
 have h7 := h6.fr hS (fun e => by omega) (fun k o e he => by have := (HN.out k o e).2.1; omega)
 have hf07 := hf06.trans hS (fun k hk e => by omega)
 generalize w6.setCell ⟨gt, 2, none⟩ (.slice RA R.length cr) = w7 at *
 clear H h5 hA5 hB5 hT5 hf05 hf6 q3 q4 c0 hT6 hA6 hB6 hR6 h6 hf06 hS y z hgt5
 have c0 := hB7.cell 0
 have H := Lib.hid (txn_some_Write h7 hl H8.out c0 (by omega) h7.ne)
 go_upto_region 6 with (go_at_call 107; refine H.out.mono ?_; rintro e w8 ⟨v8, W, s5, st, rfl, hW8, lW, h8, q5, q6, hf8⟩; have hT8 := hT7.fr hf8 (fun e => by omega); have y := hT8.cell 3; have z := hT8.frozen 3; obtain ⟨WA, cw, rfl, _⟩ := own_writes hW8)
 have hsteps : Hid (TxnSteps bs c n R W st) := ⟨s1, s2, s3, s4, s5, Q1.out, Q2.out, Q3.out, Q4.out, q5, q6⟩
 have hgt7 : gt < w7.heap.size := hT7.lt
 have hW8 := own_base hW8 (base' := gt + 1) (by omega)
 have hR8 := own_fr hR7 hf8 (fun q hq e => by obtain ⟨ds, hD⟩ := h7.blk; exact own_ne_blk hR7 hD (by decide) (e ▸ hq))
 have hA8 := hA7.fr hf8 (fun e => by omega)
 have hB8 := hB7.fr hf8 (fun e => by omega)
 have hf08 : Fr (fun _ => False) w w8 := hf07.trans hf8 (fun k hk e => by omega)
 have hS : Fr (fun k => k = gt) w8 (w8.setCell ⟨gt, 3, none⟩ (.slice WA W.length cw)) := (Fr.refl (fun k => k = gt) w8).setCell (p := ⟨gt, 3, none⟩) (fun _ => rfl) _
 have hT9 : Blk (w8.setCell ⟨gt, 3, none⟩ (.slice WA W.length cw)) gt 29 #[.int .i64 c, .int .i64 n, .slice RA R.length cr, .slice WA W.length cw] := hT8.set_ 3 _
 have hA9 := hA8.fr hS (fun e => by omega)
 have hB9 := hB8.fr hS (fun e => by omega)
 have hR9 := own_fr hR8 hS (fun q hq e => own_ne_blk hR8 hT8 (by decide) (e ▸ hq))
 have hW9 := own_fr hW8 hS (fun q hq e => own_ne_blk hW8 hT8 (by decide) (e ▸ hq))
 have h9 := h8.fr hS (fun e => by omega) (fun k o e he => by have := (HN.out k o e).2.1; omega)
 have hf09 := hf08.trans hS (fun k hk e => by omega)
 generalize w8.setCell ⟨gt, 3, none⟩ (.slice WA W.length cw) = w9 at *
 clear H h7 hA7 hB7 hT7 hR7 hf07 hf8 q5 q6 c0 hT8 hA8 hB8 hR8 hW8 h8 hf08 hS y z hgt7 Q1 Q2 Q3 Q4
 obtain ⟨_, _, eR, hRR⟩ := own_reads hR9
 cases eR
 obtain ⟨_, _, eW, hWW⟩ := own_writes hW9
 cases eW
 have c0 := hB9.cell 0
 have H := Lib.hid (pr_End h9 hl)
 have hfew : FewT R W := ⟨by omega, by omega, .inl (by omega)⟩
 go_upto_region 6 with fail
 by_cases hst : st = some []
 ·subst hst
  have hbs : Hid (bs = txnB c n R W) := hsteps.out.keep
  have H2 : Hid (Calls Tryz.prog 110 #[.pointer (some ⟨g, 0, none⟩)] w9 (NilOk w9)) := by
   refine H.out.mono ?_
   rintro e w' ⟨err, he, h1, hf⟩
   rw [h1.2 rfl] at he
   exact ⟨he, hf⟩
  clear H
  by_cases hok : TOk c n R W
  ·have HCk := Lib.hid (fun w' (hf : Fr (fun _ => False) w9 w') => txn_Check_ok (cr := cr) (cw := cw) (hRR.fr hf (fun _ _ => id)) (hWW.fr hf (fun _ _ => id)) hok)
   have HOK := Lib.hid hok
   clear hok
   go_upto_region 7 with (first
    | (go_at_call 110; refine H2.out.mono ?_; rintro e w10 ⟨rfl, hf10⟩)
    | (go_at_call 109; refine (txn_wrap_nil _).mono ?_; rintro e w11 ⟨rfl, rfl⟩))
   have hT10 := hT9.fr hf10 id
   go_upto_region 9 with (first
    | (refine wpList_load_row rfl 29 _ rfl _ rfl _ _ (0, 0) _ hT10 Tryz.underlying29 rfl (by kernel_rfl) ?_)
    | (go_at_call 111; refine (HCk.out _ hf10).mono ?_; rintro e w12 ⟨rfl, hf12⟩))
   have hT12 := hT10.fr hf12 id
   have hA12 := (hA9.fr hf10 id).fr hf12 id
   have hR12 := (hRR.fr hf10 (fun _ _ => id)).fr hf12 (fun _ _ => id)
   have hW12 := (hWW.fr hf10 (fun _ _ => id)).fr hf12 (fun _ _ => id)
   have hf012 := (hf09.then_ hf10).then_ hf12
   go_wp2_with (first
    | (refine wpList_load_row rfl 29 _ rfl _ rfl _ _ (0, 0) _ hT12 Tryz.underlying29 rfl (by kernel_rfl) ?_)
    | (refine wpList_store_row rfl 29 (.tmp 2) (.tmp 35) rfl w.heap.size #[.int .i64 c, .int .i64 n, .slice RA R.length cr, .slice WA W.length cw] rfl rfl 29 _ hA12 (by kernel_rfl) rfl (by simp [Value.oneCell']) ?_))
   have hA13 := Blk.setRow_ (ds := #[.int .i64 c, .int .i64 n, .slice RA R.length cr, .slice WA W.length cw]) hA12
   have hfz := Fr.setRow_ (w := w12) (g := w.heap.size) (ds := #[.int .i64 c, .int .i64 n, .slice RA R.length cr, .slice WA W.length cw])
   have hfe : Fr (fun _ => False) w _ := hf012.trans hfz (fun k hk e => by omega)
   generalize w12.setRow w.heap.size #[.int .i64 c, .int .i64 n, .slice RA R.length cr, .slice WA W.length cw] = wz at *
   refine bodyPost_ret (v := .tuple #[.agg #[.int .i64 c, .int .i64 n, .slice RA R.length cr, .slice WA W.length cw], .nilIface]) (results_row2 Tryz.results80 _ wz w.heap.size 29 #[.int .i64 c, .int .i64 n, .slice RA R.length cr, .slice WA W.length cw] (0, 0) _ rfl hA13 Tryz.underlying29 rfl (by kernel_rfl) rfl) rfl ?_
   exact .inl ⟨c, n, R, W, RA, cr, WA, cw, HOK.out, hbs.out, rfl, (hR12.fr hfz (fun k hk e => by omega)).mono_ (fun k hk => by omega), (hW12.fr hfz (fun k hk e => by omega)).mono_ (fun k hk => by omega), hfe⟩
  ·have HCk := Lib.hid (fun w' (hf : Fr (fun _ => False) w9 w') => txn_Check_bad (cr := cr) (cw := cw) (hRR.fr hf (fun _ _ => id)) (hWW.fr hf (fun _ _ => id)) hfew hok)
   have HNO : Hid (∀ c n R W, TOk c n R W → bs ≠ txnB c n R W) := fun c0 n0 R0 W0 h e => by
    have h1 := hsteps.out
    rw [e] at h1
    obtain ⟨_, rfl, rfl, rfl, rfl⟩ := h1.go h
    exact hok h
   obtain ⟨et, eu, he⟩ := errV_iface [((⟨#[116, 120, 110]⟩ : ByteArray), 0)] 101
   have HE := Lib.hid he
   unfold TxnErr at HCk
   rw [he] at HCk
   clear hok he
   go_upto_region 7 with (first
    | (go_at_call 110; refine H2.out.mono ?_; rintro e w10 ⟨rfl, hf10⟩)
    | (go_at_call 109; refine (txn_wrap_nil _).mono ?_; rintro e w11 ⟨rfl, rfl⟩))
   have hT10 := hT9.fr hf10 id
   go_upto_region 9 with (first
    | (refine wpList_load_row rfl 29 _ rfl _ rfl _ _ (0, 0) _ hT10 Tryz.underlying29 rfl (by kernel_rfl) ?_)
    | (go_at_call 111; refine (HCk.out _ hf10).mono ?_; rintro e w12 ⟨rfl, hf12⟩))
   have hAx := (hA9.fr hf10 id).fr hf12 id
   have hfx := (hf09.then_ hf10).then_ hf12
   generalize w12 = wx at *
   go_wp2_with (first
    | (refine wpList_store_row rfl 29 (.tmp 2) (.tmp 33) rfl w.heap.size #[.int .i64 0, .int .i64 0, .slice none 0 0, .slice none 0 0] rfl rfl 29 _ hAx (by kernel_rfl) rfl (by simp [Value.oneCell']) ?_))
   have hA13 := Blk.setRow_ (ds := #[.int .i64 0, .int .i64 0, .slice none 0 0, .slice none 0 0]) hAx
   have hfz := Fr.setRow_ (w := wx) (g := w.heap.size) (ds := #[.int .i64 0, .int .i64 0, .slice none 0 0, .slice none 0 0])
   have hfe : Fr (fun _ => False) w _ := hfx.trans hfz (fun k hk e => by omega)
   generalize wx.setRow w.heap.size #[.int .i64 0, .int .i64 0, .slice none 0 0, .slice none 0 0] = wz at *
   refine bodyPost_ret (v := .tuple #[.agg #[.int .i64 0, .int .i64 0, .slice none 0 0, .slice none 0 0], .iface et eu]) (results_row2 Tryz.results80 _ wz w.heap.size 29 #[.int .i64 0, .int .i64 0, .slice none 0 0, .slice none 0 0] (0, 0) _ rfl hA13 Tryz.underlying29 rfl (by kernel_rfl) rfl) rfl ?_
   exact .inr ⟨HNO.out, ⟨_, _, by rw [HE.out]⟩, hfe⟩
 ·have HNO : Hid (∀ c n R W, TOk c n R W → bs ≠ txnB c n R W) := fun c0 n0 R0 W0 h e => by
   have h1 := hsteps.out
   rw [e] at h1
   exact hst (h1.go h).1
  have H2 : Hid (Calls Tryz.prog 110 #[.pointer (some ⟨g, 0, none⟩)] w9 (fun e w' => ∃ q : List (ByteArray × Int) × Int, e = .returned (errV q.1 q.2) ∧ Fr (fun _ => False) w9 w')) := by
   refine H.out.mono ?_
   rintro e w' ⟨err, he, h1, hf⟩
   cases err with
   | none => exact absurd (h1.1 rfl) hst
   | some q => exact ⟨q, he, hf⟩
  clear H hst
  go_upto_region 7 with (first
   | (go_at_call 110; refine H2.out.mono ?_; rintro e w10 ⟨⟨ql, qk⟩, rfl, hf10⟩; obtain ⟨et, eu, he⟩ := errV_iface (((⟨#[116, 120, 110]⟩ : ByteArray), 0) :: ql) qk; have HWr := txn_wrap_err ql qk w10; rw [he] at HWr; replace HWr := Lib.hid HWr; have HE := Lib.hid he; clear he)
   | (go_at_call 109; refine HWr.out.mono ?_; rintro e w11 ⟨rfl, rfl⟩))
  have hAx := hA9.fr hf10 id
  have hfx := hf09.then_ hf10
  generalize w10 = wx at *
  go_wp2_with (first
   | (refine wpList_store_row rfl 29 (.tmp 2) (.tmp 33) rfl w.heap.size #[.int .i64 0, .int .i64 0, .slice none 0 0, .slice none 0 0] rfl rfl 29 _ hAx (by kernel_rfl) rfl (by simp [Value.oneCell']) ?_))
  have hA13 := Blk.setRow_ (ds := #[.int .i64 0, .int .i64 0, .slice none 0 0, .slice none 0 0]) hAx
  have hfz := Fr.setRow_ (w := wx) (g := w.heap.size) (ds := #[.int .i64 0, .int .i64 0, .slice none 0 0, .slice none 0 0])
  have hfe : Fr (fun _ => False) w _ := hfx.trans hfz (fun k hk e => by omega)
  generalize wx.setRow w.heap.size #[.int .i64 0, .int .i64 0, .slice none 0 0, .slice none 0 0] = wz at *
  refine bodyPost_ret (v := .tuple #[.agg #[.int .i64 0, .int .i64 0, .slice none 0 0, .slice none 0 0], .iface et eu]) (results_row2 Tryz.results80 _ wz w.heap.size 29 #[.int .i64 0, .int .i64 0, .slice none 0 0, .slice none 0 0] (0, 0) _ rfl hA13 Tryz.underlying29 rfl (by kernel_rfl) rfl) rfl ?_
  exact .inr ⟨HNO.out, ⟨_, _, by rw [HE.out]⟩, hfe⟩
end Go.Proofs.YtmkdhhhoodeemaaGreat
