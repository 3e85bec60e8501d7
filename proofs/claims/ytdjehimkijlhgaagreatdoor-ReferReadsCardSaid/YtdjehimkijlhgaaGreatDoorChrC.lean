/-
  Chapter 1: names, qualified names.
-/
import Derived.Test.YtdjehimkijlhgaaGreatDoorChrB
import Derived.Test.YtdjehimkijlhgaaGreatDoorU8V
import Derived.Test.YtdjehimkijlhgaaGreatDoorVStr
import Derived.Lib.ConvBytes
import Derived.Lib.Bytealg
import Derived.Laws.Externs
namespace Go.Vc
open Go Go.Lib
theorem setBlk_at {w : World} {b : Nat} {o : Obj} (h : b < w.heap.size) : (setBlk w b o).heap[b]? = some o := by
  unfold setBlk; simp [h]
theorem index_colon : ∀ l : List UInt8, indexByte l 58 = match colon l with | none => -1 | some i => (i : Int)
  | [] => by simp [indexByte, colon]
  | b :: r => by
    unfold indexByte colon
    by_cases h : b = 58
    · subst h; simp
    · have ih := index_colon r
      rw [if_neg h, if_neg (by simpa using h)]
      cases hc : colon r with
      | none => rw [hc] at ih; simp only at ih; simp [ih]
      | some i => rw [hc] at ih; simp only at ih; simp [ih]
theorem drop_ne {bs : List UInt8} {i : Nat} (h : i < bs.length) : bs.drop i ≠ [] := by
  intro e; have := congrArg List.length e; rw [List.length_drop] at this; simp at this; omega
/-- The state of the loop over a name's chars. -/
def nmAt (bs : List UInt8) (i : Nat) : Bool := if i = 0 then isSt (rd bs).1 && prt bs else prt (bs.drop i)
theorem nmAt_end {bs : List UInt8} (h : bs ≠ []) : nmAt bs bs.length = true := by
  unfold nmAt
  rw [if_neg (by have := List.length_pos_iff.2 h; omega), List.drop_of_length_le (Nat.le_refl _), prt_nil]
theorem nmAt_step {bs : List UInt8} {i : Nat} (h : i < bs.length) (hk : (rd (bs.drop i)).2 ≠ 0) (hp : isPt (rd (bs.drop i)).1 = true) (hs : i = 0 → isSt (rd (bs.drop i)).1 = true) : nmAt bs i = nmAt bs (i + (rd (bs.drop i)).2) := by
  have e : prt (bs.drop i) = prt (bs.drop (i + (rd (bs.drop i)).2)) := by rw [prt_step (drop_ne h) hk, hp, Bool.true_and, List.drop_drop]
  unfold nmAt
  rw [if_neg (show ¬ i + (rd (bs.drop i)).2 = 0 by omega), ← e]
  split
  · next h0 => subst h0; have := hs rfl; rw [List.drop_zero] at this ⊢; rw [this, Bool.true_and]
  · rfl
theorem nmAt_bad {bs : List UInt8} {i : Nat} (h : i < bs.length) (hk : (rd (bs.drop i)).2 = 0) : nmAt bs i = false := by
  unfold nmAt
  split
  · next h0 => subst h0; rw [List.drop_zero] at hk; rw [prt_bad (by intro e; rw [e] at h; simp at h) hk, Bool.and_false]
  · exact prt_bad (drop_ne h) hk
theorem nmAt_part {bs : List UInt8} {i : Nat} (h : i < bs.length) (hp : isPt (rd (bs.drop i)).1 = false) : nmAt bs i = false := by
  by_cases hk : (rd (bs.drop i)).2 = 0
  · exact nmAt_bad h hk
  have e : prt (bs.drop i) = false := by rw [prt_step (drop_ne h) hk, hp, Bool.false_and]
  unfold nmAt
  split
  · next h0 => subst h0; rw [List.drop_zero] at e; rw [e, Bool.and_false]
  · exact e
theorem nmAt_start {bs : List UInt8} (hs : isSt (rd (bs.drop 0)).1 = false) : nmAt bs 0 = false := by
  unfold nmAt
  rw [List.drop_zero] at hs
  rw [if_pos rfl, hs, Bool.false_and]
theorem nm_at (bs : List UInt8) : nm bs = (decide (bs ≠ []) && decide (bs.length ≤ 100) && nmAt bs 0) := by
  unfold nm nmAt
  rw [if_pos rfl, Bool.and_assoc (decide _ && decide _)]
end Go.Vc
namespace Go.Proofs.YtdjehimkijlhgaaGreatDoor
open Go Go.Vc Go.Lib

section
variable {w : World}

theorem cvB {s : ByteArray} {K : Option Addr → Nat → Nat → World → Prop} (k : ∀ b c w', Bytes w' (some ⟨b, 0, none⟩) s.size (bl s) → w.heap.size ≤ b → Chg No w w' → K (some ⟨b, 0, none⟩) s.size c w') :
    cvJ Tryz.prog T_string T_sl_uint8 (.string s) w K := by
  refine ⟨_, _, _, _, Lib.run_convert_string_bytes (P := Tryz.prog) w T_string T_sl_uint8 T_uint8 s (u := .string) (by kernel_rfl) (by kernel_rfl) (by kernel_rfl), k _ _ _ ⟨by rw [bcells_length, bl_len, Nat.mul_one], .inr ⟨_, rfl, ?_⟩⟩ (Nat.le_refl _) ?_⟩
  · intro j v hv
    unfold bcells at hv
    rw [List.getElem?_map, Option.map_eq_some_iff] at hv
    obtain ⟨b, hb, rfl⟩ := hv
    have hj : j < s.size := by rw [← bl_len]; exact (List.getElem?_eq_some_iff.1 hb).1
    have := Lib.bytesWorld_cell w T_uint8 s j hj
    rw [Addr.add_mk, Nat.zero_add, this, List.getD_eq_getElem?_getD, hb]; rfl
  · exact ⟨rfl, rfl, rfl, by rw [Lib.bytesWorld_size]; omega, fun b hb _ => Lib.bytesWorld_at_old w T_uint8 s b hb⟩

/-! ## strings.Cut at a colon -/
theorem IndexByte_ok {s : ByteArray} {J : Int → World → Prop} (k : J (indexByte (bl s) 58) w) : callJ Tryz.prog fn_internal_stringslite_IndexByte #[.string s, .int .u8 58] w [.one (.int .i64)] J := by
  refine c_internal_stringslite_IndexByte ?_
  unfold VC_internal_stringslite_IndexByte
  refine ⟨_, w, ?_, indexByte (bl s) 58, rfl, k⟩
  rw [run_callFunc_extern (fn := Tryz.prog.funcs[fn_internal_bytealg_IndexByteString]!) (by kernel_rfl) (by kernel_rfl) (by kernel_rfl) (by kernel_rfl) (e := Extern.BytealgIndexByte.indexByte) (by kernel_rfl), Lib.run_indexByteString]
  rfl

theorem Index_ok {s : ByteArray} {J : Int → World → Prop} (k : J (indexByte (bl s) 58) w) : callJ Tryz.prog fn_internal_stringslite_Index #[.string s, .string ⟨#[58]⟩] w [.one (.int .i64)] J := by
  refine c_internal_stringslite_Index ?_
  unfold VC_internal_stringslite_Index
  refine withJ_i fun J16 hJ16 => ?_
  refine condB_eq (fun h => absurd h (by decide)) (fun _ => ?_)
  rw [toList_bl, toList_bl, show bl ⟨#[58]⟩ = [58] from rfl]
  have k16 : ∀ b, (b = true ↔ bl s = [58]) → J16 b w := by
    intro b hb; subst hJ16
    refine meetI hb (fun hh => ?_) (fun hn => ?_)
    · rw [hh] at k; exact k
    · refine condB_eq (fun _ => ?_) (fun h => absurd rfl h)
      refine idxStr_i (i := 0) (by decide) ?_
      exact IndexByte_ok k
  clear hJ16
  exact k16 _ (by rw [beq_iff_eq]; exact eq_comm)

/-- What 'Split' answers. -/
def Spl (s a b : ByteArray) (ok : Bool) : Prop := (bl a, bl b, ok) = spl (bl s)

end

end Go.Proofs.YtdjehimkijlhgaaGreatDoor

