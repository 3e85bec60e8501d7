/-
  Strings as rows of bytes.
-/
import Derived.Test.YtkgfbphdmnapdaaGreatDoorHeap
import Derived.Lib.Strings
namespace Go.Vc
open Go
/-- A string's bytes. -/
abbrev bl (s : ByteArray) : List UInt8 := s.data.toList
theorem bl_len (s : ByteArray) : (bl s).length = s.size := (Lib.size_eq s).symm
theorem bl_get (s : ByteArray) (i : Nat) : s[i]? = (bl s)[i]? := by
  by_cases h : i < s.size
  · rw [getElem?_pos s i h]
    have h2 : i < (bl s).length := by rw [bl_len]; exact h
    rw [List.getElem?_eq_getElem h2]; rfl
  · rw [getElem?_neg s i h, List.getElem?_eq_none (by rw [bl_len]; omega)]
theorem idxStr_b {s : ByteArray} {i : Int} {K : Int → Prop} (h0 : 0 ≤ i) (h : i < s.size) (k : ∀ b : UInt8, (bl s)[i.toNat]? = some b → K b.toNat) : idxStr s i K := by
  have h2 : i.toNat < (bl s).length := by rw [bl_len]; omega
  exact ⟨(bl s)[i.toNat], h0, by rw [bl_get, List.getElem?_eq_getElem h2], k _ (List.getElem?_eq_getElem h2)⟩
theorem slStr_drop {s : ByteArray} {i : Nat} {K : ByteArray → Prop} (h : i ≤ s.size) (k : ∀ t, bl t = (bl s).drop i → t.size = s.size - i → K t) : slStr s (some (i : Int)) none K := by
  have e : bl (s.extract i s.size) = (bl s).drop i := by
    show (s.extract i s.size).data.toList = _
    rw [Lib.extract_data]; exact List.take_of_length_le (by rw [List.length_drop, bl_len]; omega)
  exact ⟨i, s.size, rfl, rfl, h, Nat.le_refl _, k _ e (by rw [← bl_len, e, List.length_drop, bl_len])⟩
theorem slStr_cut {s : ByteArray} {i j : Nat} {K : ByteArray → Prop} (hij : i ≤ j) (h : j ≤ s.size) (k : ∀ t, bl t = ((bl s).drop i).take (j - i) → t.size = j - i → K t) : slStr s (some (i : Int)) (some (j : Int)) K := by
  have e : bl (s.extract i j) = ((bl s).drop i).take (j - i) := by
    show (s.extract i j).data.toList = _
    rw [Lib.extract_data]
  exact ⟨i, j, rfl, rfl, hij, h, k _ e (by rw [← bl_len, e, List.length_take, List.length_drop, bl_len]; omega)⟩
theorem bl_ext {s t : ByteArray} (h : bl s = bl t) : s = t := by
  cases s; cases t; congr; exact Array.toList_inj.1 h
theorem toList_bl (s : ByteArray) : s.toList = bl s := Lib.toList_data s
end Go.Vc

