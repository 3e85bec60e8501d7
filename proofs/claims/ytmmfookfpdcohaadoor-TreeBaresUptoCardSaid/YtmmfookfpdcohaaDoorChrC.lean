/-
  Chapter 1: names, qualified names.
-/
import Derived.Test.YtmmfookfpdcohaaDoorChrB
import Derived.Test.YtmmfookfpdcohaaDoorU8V
import Derived.Test.YtmmfookfpdcohaaDoorVStr
import Derived.Lib.ConvBytes
import Derived.Lib.Bytealg
import Derived.Laws.Externs
namespace Go.Vc
open Go Go.Lib
theorem setBlk_at {w : World} {b : Nat} {o : Obj} (h : b < w.heap.size) : (setBlk w b o).heap[b]? = some o := by
  unfold setBlk; simp [h]
theorem index_colon : ∀ l : List UInt8, indexByte l 58 = match colon l with | none => -1 | some i => (i : Int)
  | [] => by simp [indexByte, colon]
  | b :: r => by
    unfold indexByte colon
    by_cases h : b = 58
    · subst h; simp
    · have ih := index_colon r
      rw [if_neg h, if_neg (by simpa using h)]
      cases hc : colon r with
      | none => rw [hc] at ih; simp only at ih; simp [ih]
      | some i => rw [hc] at ih; simp only at ih; simp [ih]
theorem drop_ne {bs : List UInt8} {i : Nat} (h : i < bs.length) : bs.drop i ≠ [] := by
  intro e; have := congrArg List.length e; rw [List.length_drop] at this; simp at this; omega
/-- The state of the loop over a name's chars. -/
def nmAt (bs : List UInt8) (i : Nat) : Bool := if i = 0 then isSt (rd bs).1 && prt bs else prt (bs.drop i)
theorem nmAt_end {bs : List UInt8} (h : bs ≠ []) : nmAt bs bs.length = true := by
  unfold nmAt
  rw [if_neg (by have := List.length_pos_iff.2 h; omega), List.drop_of_length_le (Nat.le_refl _), prt_nil]
theorem nmAt_step {bs : List UInt8} {i : Nat} (h : i < bs.length) (hk : (rd (bs.drop i)).2 ≠ 0) (hp : isPt (rd (bs.drop i)).1 = true) (hs : i = 0 → isSt (rd (bs.drop i)).1 = true) : nmAt bs i = nmAt bs (i + (rd (bs.drop i)).2) := by
  have e : prt (bs.drop i) = prt (bs.drop (i + (rd (bs.drop i)).2)) := by rw [prt_step (drop_ne h) hk, hp, Bool.true_and, List.drop_drop]
  unfold nmAt
  rw [if_neg (show ¬ i + (rd (bs.drop i)).2 = 0 by omega), ← e]
  split
  · next h0 => subst h0; have := hs rfl; rw [List.drop_zero] at this ⊢; rw [this, Bool.true_and]
  · rfl
theorem nmAt_bad {bs : List UInt8} {i : Nat} (h : i < bs.length) (hk : (rd (bs.drop i)).2 = 0) : nmAt bs i = false := by
  unfold nmAt
  split
  · next h0 => subst h0; rw [List.drop_zero] at hk; rw [prt_bad (by intro e; rw [e] at h; simp at h) hk, Bool.and_false]
  · exact prt_bad (drop_ne h) hk
theorem nmAt_part {bs : List UInt8} {i : Nat} (h : i < bs.length) (hp : isPt (rd (bs.drop i)).1 = false) : nmAt bs i = false := by
  by_cases hk : (rd (bs.drop i)).2 = 0
  · exact nmAt_bad h hk
  have e : prt (bs.drop i) = false := by rw [prt_step (drop_ne h) hk, hp, Bool.false_and]
  unfold nmAt
  split
  · next h0 => subst h0; rw [List.drop_zero] at e; rw [e, Bool.and_false]
  · exact e
theorem nmAt_start {bs : List UInt8} (hs : isSt (rd (bs.drop 0)).1 = false) : nmAt bs 0 = false := by
  unfold nmAt
  rw [List.drop_zero] at hs
  rw [if_pos rfl, hs, Bool.false_and]
theorem nm_at (bs : List UInt8) : nm bs = (decide (bs ≠ []) && decide (bs.length ≤ 100) && nmAt bs 0) := by
  unfold nm nmAt
  rw [if_pos rfl, Bool.and_assoc (decide _ && decide _)]
end Go.Vc
namespace Go.Proofs.YtmmfookfpdcohaaDoor
open Go Go.Vc Go.Lib

section
variable {w : World}

theorem cvB {s : ByteArray} {K : Option Addr → Nat → Nat → World → Prop} (k : ∀ b c w', Bytes w' (some ⟨b, 0, none⟩) s.size (bl s) → w.heap.size ≤ b → Chg No w w' → K (some ⟨b, 0, none⟩) s.size c w') :
    cvJ Tryd.prog T_string T_sl_uint8 (.string s) w K := by
  refine ⟨_, _, _, _, Lib.run_convert_string_bytes (P := Tryd.prog) w T_string T_sl_uint8 T_uint8 s (u := .string) (by kernel_rfl) (by kernel_rfl) (by kernel_rfl), k _ _ _ ⟨by rw [bcells_length, bl_len, Nat.mul_one], .inr ⟨_, rfl, ?_⟩⟩ (Nat.le_refl _) ?_⟩
  · intro j v hv
    unfold bcells at hv
    rw [List.getElem?_map, Option.map_eq_some_iff] at hv
    obtain ⟨b, hb, rfl⟩ := hv
    have hj : j < s.size := by rw [← bl_len]; exact (List.getElem?_eq_some_iff.1 hb).1
    have := Lib.bytesWorld_cell w T_uint8 s j hj
    rw [Addr.add_mk, Nat.zero_add, this, List.getD_eq_getElem?_getD, hb]; rfl
  · exact ⟨rfl, rfl, rfl, by rw [Lib.bytesWorld_size]; omega, fun b hb _ => Lib.bytesWorld_at_old w T_uint8 s b hb⟩

set_option maxRecDepth 100000 in
theorem NameC_ok {s : ByteArray} {J : Bool → World → Prop} (T : Tabs w) (K : ∀ w', Chg No w w' → J (nm (bl s)) w') : callJ Tryd.prog fn_char_Name #[.string s] w [.one .bool] J := by
  refine c_char_Name ?_
  unfold VC_char_Name
  refine withJ_i fun J16 hJ16 => ?_
  have k16 : ∀ b w1, Chg No w w1 → (b = true ↔ (bl s = [] ∨ 100 < s.size ∨ vld (bl s) = false)) → J16 b w1 := by
    intro b w1 hc1 hb; subst hJ16
    refine meetI hb (fun hh => ?_) (fun hn => ?_)
    · have e : nm (bl s) = false := by
        unfold nm
        rcases hh with h | h | h
        · simp [h]
        · rw [show decide ((bl s).length ≤ 100) = false from decide_eq_false (by rw [bl_len]; omega)]; simp
        · cases hp : prt (bl s) with
          | false => simp
          | true => rw [prt_vld _ hp] at h; cases h
      rw [← e]; exact K w1 hc1
    · have hne : bl s ≠ [] := fun e => hn (.inl e)
      have hlen := bl_len s
      have hv : vld (bl s) = true := by cases h : vld (bl s) with | true => rfl | false => exact absurd (.inr (.inr h)) hn
      have hnm : nm (bl s) = nmAt (bl s) 0 := by
        rw [nm_at, decide_eq_true hne, decide_eq_true (show (bl s).length ≤ 100 by omega)]; rfl
      rw [hnm] at K
      refine newB_i fun b18 w2 hb18 hw2 => ?_
      have hc2 : Chg No w w2 := by rw [hw2]; exact hc1.alloc _
      have hh2 : w2.heap[b18]? = some (.stringIter s 0) := by rw [hb18, hw2]; exact heap_alloc_new w1 _
      have hfr : w.heap.size ≤ b18 := by rw [hb18]; exact hc1.size
      refine ⟨fun w' m => ∃ i : Nat, Chg No w w' ∧ w'.heap[b18]? = some (.stringIter s i) ∧ i ≤ s.size ∧ m = s.size - i ∧ vld ((bl s).drop i) = true ∧ nmAt (bl s) i = nmAt (bl s) 0, ⟨_, 0, hc2, hh2, Nat.zero_le _, rfl, by rw [List.drop_zero]; exact hv, rfl⟩, ?_⟩
      rintro w3 m ⟨i, hc3, hh3, hi, rfl, hvi, hat⟩
      refine ⟨s, i, hh3, fun hlt => ?_, fun hge => ?_⟩
      · have hlt' : i < (bl s).length := by omega
        have hk : (rd ((bl s).drop i)).2 ≠ 0 := fun h => by rw [vld_bad (drop_ne hlt') h] at hvi; cases hvi
        rw [decode_dec, dec_of_rd hk]
        have hle := rd_le _ (drop_ne hlt')
        rw [List.length_drop] at hle
        generalize hw4 : setBlk w3 b18 (.stringIter s (i + (rd ((bl s).drop i)).2)) = w4
        have hc4 : Chg No w w4 := by rw [← hw4]; exact hc3.setBlk _ _ (fun h => by omega)
        have hh4 : w4.heap[b18]? = some (.stringIter s (i + (rd ((bl s).drop i)).2)) := by rw [← hw4]; exact setBlk_at (lt_of_heap hh3)
        refine withJ_i fun J34 hJ34 => ?_
        have k34 : ∀ b w6, Chg No w4 w6 → (b = true ↔ ((i = 0 ∧ isSt (rd ((bl s).drop i)).1 = false) ∨ isPt (rd ((bl s).drop i)).1 = false)) → J34 b w6 := by
          intro b w6 hc6 hb; subst hJ34
          have hc := hc4.trans0 hc6
          refine meetI hb (fun hh => ?_) (fun hn2 => ?_)
          · have e : nmAt (bl s) 0 = false := by
              rw [← hat]
              rcases hh with ⟨h0, h⟩ | h
              · subst h0; exact nmAt_start h
              · exact nmAt_part hlt' h
            rw [← e]; exact K _ hc
          · have hp : isPt (rd ((bl s).drop i)).1 = true := by cases h : isPt (rd ((bl s).drop i)).1 with | true => rfl | false => exact absurd (.inr h) hn2
            have hs : i = 0 → isSt (rd ((bl s).drop i)).1 = true := fun h0 => by cases h : isSt (rd ((bl s).drop i)).1 with | true => rfl | false => exact absurd (.inl ⟨h0, h⟩) hn2
            exact ⟨_, by omega, i + (rd ((bl s).drop i)).2, hc, hc6.heap hh4 (fun f => f), by omega, rfl, by rw [← List.drop_drop, ← vld_step (drop_ne hlt') hk]; exact hvi, by rw [← nmAt_step hlt' hk hp hs]; exact hat⟩
        clear hJ34
        refine condB_eq (fun h0 => ?_) (fun h0 => ?_)
        · have h0 : i = 0 := by omega
          refine IsStart_ok fun w7 hc7 => ?_
          refine condB_not (fun hs => k34 _ _ hc7 (bT (.inl ⟨h0, hs⟩))) (fun hs => ?_)
          refine IsPart_ok fun w8 hc8 => k34 _ _ (hc7.trans0 hc8) ?_
          rw [Bool.not_eq_true']
          exact ⟨fun h => .inr h, fun h => h.elim (fun h => by rw [hs] at h; cases h.2) id⟩
        · refine IsPart_ok fun w8 hc8 => k34 _ _ hc8 ?_
          rw [Bool.not_eq_true']
          exact ⟨fun h => .inr h, fun h => h.elim (fun h => absurd h.1 (by omega)) id⟩
      · have : i = (bl s).length := by omega
        rw [this, nmAt_end hne] at hat
        rw [← hat] at K
        exact K _ hc3
  clear hJ16
  rw [toList_bl, toList_bl, show bl ⟨#[]⟩ = [] from rfl]
  refine condB_i (fun h => k16 _ _ (Chg.refl _ _) (bT (.inl (by simpa using h)))) (fun h1 => ?_)
  have h1 : bl s ≠ [] := by simpa using h1
  refine condB_d (fun h => k16 _ _ (Chg.refl _ _) (bT (.inr (.inl (by omega))))) (fun h2 => ?_)
  refine ValidString_ok T fun w10 hc10 => k16 _ _ hc10 ?_
  rw [Bool.not_eq_true']
  exact ⟨fun h => .inr (.inr h), fun h => h.elim (fun h => absurd h h1) fun h => h.elim (fun h => absurd h (by omega)) id⟩

/-! ## strings.Cut at a colon -/
theorem IndexByte_ok {s : ByteArray} {J : Int → World → Prop} (k : J (indexByte (bl s) 58) w) : callJ Tryd.prog fn_internal_stringslite_IndexByte #[.string s, .int .u8 58] w [.one (.int .i64)] J := by
  refine c_internal_stringslite_IndexByte ?_
  unfold VC_internal_stringslite_IndexByte
  refine ⟨_, w, ?_, indexByte (bl s) 58, rfl, k⟩
  rw [run_callFunc_extern (fn := Tryd.prog.funcs[fn_internal_bytealg_IndexByteString]!) (by kernel_rfl) (by kernel_rfl) (by kernel_rfl) (by kernel_rfl) (e := Extern.BytealgIndexByte.indexByte) (by kernel_rfl), Lib.run_indexByteString]
  rfl

theorem Index_ok {s : ByteArray} {J : Int → World → Prop} (k : J (indexByte (bl s) 58) w) : callJ Tryd.prog fn_internal_stringslite_Index #[.string s, .string ⟨#[58]⟩] w [.one (.int .i64)] J := by
  refine c_internal_stringslite_Index ?_
  unfold VC_internal_stringslite_Index
  refine withJ_i fun J16 hJ16 => ?_
  refine condB_eq (fun h => absurd h (by decide)) (fun _ => ?_)
  rw [toList_bl, toList_bl, show bl ⟨#[58]⟩ = [58] from rfl]
  have k16 : ∀ b, (b = true ↔ bl s = [58]) → J16 b w := by
    intro b hb; subst hJ16
    refine meetI hb (fun hh => ?_) (fun hn => ?_)
    · rw [hh] at k; exact k
    · refine condB_eq (fun _ => ?_) (fun h => absurd rfl h)
      refine idxStr_i (i := 0) (by decide) ?_
      exact IndexByte_ok k
  clear hJ16
  exact k16 _ (by rw [beq_iff_eq]; exact eq_comm)

/-- What 'Split' answers. -/
def Spl (s a b : ByteArray) (ok : Bool) : Prop := (bl a, bl b, ok) = spl (bl s)

end

end Go.Proofs.YtmmfookfpdcohaaDoor

