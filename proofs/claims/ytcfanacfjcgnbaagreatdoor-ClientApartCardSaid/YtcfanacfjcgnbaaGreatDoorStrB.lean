/- Strings and bytes: a string's bytes in a new row; the string of bytes. -/
import Derived.Test.YtcfanacfjcgnbaaGreatDoorBytes
import Derived.Test.YtcfanacfjcgnbaaGreatDoorConv
import Derived.Lib.ConvBytes
namespace Go.Proofs.YtcfanacfjcgnbaaGreatDoor
open Go Go.RowKit
def bytesOf (s : ByteArray) : List Int := s.data.toList.map fun b => (b.toNat : Int)
theorem bytesOf_length (s : ByteArray) : (bytesOf s).length = s.size := by
  rw [bytesOf, List.length_map, Array.length_toList]
  rfl
theorem bytesOf_8 (s : ByteArray) : ∀ x ∈ bytesOf s, 0 ≤ x ∧ x ≤ 255 := by
  intro x hx
  obtain ⟨b, _, rfl⟩ := List.mem_map.1 hx
  have := b.toNat_lt
  omega
theorem strOf_bytesOf (s : ByteArray) : strOfNums (bytesOf s) = s := by
  refine ByteArray.ext (Array.ext' ?_)
  rw [strOfNums_data, bytesOf, List.map_map]
  conv => rhs; rw [← List.map_id s.data.toList]
  refine List.map_congr_left fun b _ => ?_
  show UInt8.ofNat ((b.toNat : Int)).toNat = b
  simp
theorem bytesOf_strOf {xs : List Int} (h : ∀ x ∈ xs, 0 ≤ x ∧ x ≤ 255) : bytesOf (strOfNums xs) = xs := by
  rw [bytesOf, strOfNums_data, List.map_map]
  conv => rhs; rw [← List.map_id xs]
  refine List.map_congr_left fun x hx => ?_
  obtain ⟨h1, h2⟩ := h x hx
  show ((UInt8.ofNat x.toNat).toNat : Int) = x
  rw [UInt8.toNat_ofNat']
  omega
theorem strOf_inj {a b : List Int} (ha : ∀ x ∈ a, 0 ≤ x ∧ x ≤ 255) (hb : ∀ x ∈ b, 0 ≤ x ∧ x ≤ 255) (h : strOfNums a = strOfNums b) : a = b := by
  rw [← bytesOf_strOf ha, h, bytesOf_strOf hb]
/-- The world behind '[]byte(s)'. -/
def strW (w : World) (s : ByteArray) : World := Lib.bytesWorld w 5 s
theorem strW_fr (w : World) (s : ByteArray) : Fr (fun _ => False) w (strW w s) :=
  ⟨rfl, rfl, rfl, by rw [strW, Lib.bytesWorld_size]; omega, fun k hk _ => Lib.bytesWorld_at_old w 5 s k hk⟩
theorem strW_size (w : World) (s : ByteArray) : (strW w s).heap.size = w.heap.size + 1 := Lib.bytesWorld_size w 5 s
theorem strW_row (w : World) (s : ByteArray) : ByteRow (strW w s) (fun k => k = w.heap.size) (some ⟨w.heap.size, 0, none⟩) (bytesOf s) := by
  intro k x hx
  refine ⟨w.heap.size, 0, rfl, rfl, ?_⟩
  obtain ⟨hk, rfl⟩ := List.getElem?_eq_some_iff.1 hx
  have hk' : k < s.size := by rw [bytesOf_length] at hk; exact hk
  rw [Nat.zero_add]
  have := Lib.bytesWorld_cell w 5 s k hk'
  rw [strW, this, List.getD_eq_getElem?_getD, List.getElem?_eq_getElem (by rw [Array.length_toList]; exact hk')]
  simp [bytesOf]
theorem run_str (w : World) (s : ByteArray) : (convert 9 60 (.string s)).run Tryz.prog w = .ok (.slice (some ⟨w.heap.size, 0, none⟩) s.size (grownCap w s.size 0 5)) (strW w s) :=
  Lib.run_convert_string_bytes w 9 60 5 s Tryz.underlying9 Tryz.underlying60 Tryz.underlying5
end Go.Proofs.YtcfanacfjcgnbaaGreatDoor
