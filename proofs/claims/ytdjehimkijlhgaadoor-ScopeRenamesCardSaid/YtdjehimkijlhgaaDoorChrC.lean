/-
  Chapter 1: names, qualified names.
-/
import Derived.Test.YtdjehimkijlhgaaDoorChrB
import Derived.Test.YtdjehimkijlhgaaDoorU8V
import Derived.Test.YtdjehimkijlhgaaDoorVStr
import Derived.Lib.ConvBytes
import Derived.Lib.Bytealg
import Derived.Laws.Externs
namespace Go.Vc
open Go Go.Lib
theorem setBlk_at {w : World} {b : Nat} {o : Obj} (h : b < w.heap.size) : (setBlk w b o).heap[b]? = some o := by
  unfold setBlk; simp [h]
theorem index_colon : ∀ l : List UInt8, indexByte l 58 = match colon l with | none => -1 | some i => (i : Int)
  | [] => by simp [indexByte, colon]
  | b :: r => by
    unfold indexByte colon
    by_cases h : b = 58
    · subst h; simp
    · have ih := index_colon r
      rw [if_neg h, if_neg (by simpa using h)]
      cases hc : colon r with
      | none => rw [hc] at ih; simp only at ih; simp [ih]
      | some i => rw [hc] at ih; simp only at ih; simp [ih]
theorem drop_ne {bs : List UInt8} {i : Nat} (h : i < bs.length) : bs.drop i ≠ [] := by
  intro e; have := congrArg List.length e; rw [List.length_drop] at this; simp at this; omega
/-- The state of the loop over a name's chars. -/
def nmAt (bs : List UInt8) (i : Nat) : Bool := if i = 0 then isSt (rd bs).1 && prt bs else prt (bs.drop i)
theorem nmAt_end {bs : List UInt8} (h : bs ≠ []) : nmAt bs bs.length = true := by
  unfold nmAt
  rw [if_neg (by have := List.length_pos_iff.2 h; omega), List.drop_of_length_le (Nat.le_refl _), prt_nil]
theorem nmAt_step {bs : List UInt8} {i : Nat} (h : i < bs.length) (hk : (rd (bs.drop i)).2 ≠ 0) (hp : isPt (rd (bs.drop i)).1 = true) (hs : i = 0 → isSt (rd (bs.drop i)).1 = true) : nmAt bs i = nmAt bs (i + (rd (bs.drop i)).2) := by
  have e : prt (bs.drop i) = prt (bs.drop (i + (rd (bs.drop i)).2)) := by rw [prt_step (drop_ne h) hk, hp, Bool.true_and, List.drop_drop]
  unfold nmAt
  rw [if_neg (show ¬ i + (rd (bs.drop i)).2 = 0 by omega), ← e]
  split
  · next h0 => subst h0; have := hs rfl; rw [List.drop_zero] at this ⊢; rw [this, Bool.true_and]
  · rfl
theorem nmAt_bad {bs : List UInt8} {i : Nat} (h : i < bs.length) (hk : (rd (bs.drop i)).2 = 0) : nmAt bs i = false := by
  unfold nmAt
  split
  · next h0 => subst h0; rw [List.drop_zero] at hk; rw [prt_bad (by intro e; rw [e] at h; simp at h) hk, Bool.and_false]
  · exact prt_bad (drop_ne h) hk
theorem nmAt_part {bs : List UInt8} {i : Nat} (h : i < bs.length) (hp : isPt (rd (bs.drop i)).1 = false) : nmAt bs i = false := by
  by_cases hk : (rd (bs.drop i)).2 = 0
  · exact nmAt_bad h hk
  have e : prt (bs.drop i) = false := by rw [prt_step (drop_ne h) hk, hp, Bool.false_and]
  unfold nmAt
  split
  · next h0 => subst h0; rw [List.drop_zero] at e; rw [e, Bool.and_false]
  · exact e
theorem nmAt_start {bs : List UInt8} (hs : isSt (rd (bs.drop 0)).1 = false) : nmAt bs 0 = false := by
  unfold nmAt
  rw [List.drop_zero] at hs
  rw [if_pos rfl, hs, Bool.false_and]
theorem nm_at (bs : List UInt8) : nm bs = (decide (bs ≠ []) && decide (bs.length ≤ 100) && nmAt bs 0) := by
  unfold nm nmAt
  rw [if_pos rfl, Bool.and_assoc (decide _ && decide _)]
end Go.Vc
namespace Go.Proofs.YtdjehimkijlhgaaDoor
open Go Go.Vc Go.Lib

section
variable {w : World}

theorem cvB {s : ByteArray} {K : Option Addr → Nat → Nat → World → Prop} (k : ∀ b c w', Bytes w' (some ⟨b, 0, none⟩) s.size (bl s) → w.heap.size ≤ b → Chg No w w' → K (some ⟨b, 0, none⟩) s.size c w') :
    cvJ Tryd.prog T_string T_sl_uint8 (.string s) w K := by
  refine ⟨_, _, _, _, Lib.run_convert_string_bytes (P := Tryd.prog) w T_string T_sl_uint8 T_uint8 s (u := .string) (by kernel_rfl) (by kernel_rfl) (by kernel_rfl), k _ _ _ ⟨by rw [bcells_length, bl_len, Nat.mul_one], .inr ⟨_, rfl, ?_⟩⟩ (Nat.le_refl _) ?_⟩
  · intro j v hv
    unfold bcells at hv
    rw [List.getElem?_map, Option.map_eq_some_iff] at hv
    obtain ⟨b, hb, rfl⟩ := hv
    have hj : j < s.size := by rw [← bl_len]; exact (List.getElem?_eq_some_iff.1 hb).1
    have := Lib.bytesWorld_cell w T_uint8 s j hj
    rw [Addr.add_mk, Nat.zero_add, this, List.getD_eq_getElem?_getD, hb]; rfl
  · exact ⟨rfl, rfl, rfl, by rw [Lib.bytesWorld_size]; omega, fun b hb _ => Lib.bytesWorld_at_old w T_uint8 s b hb⟩

set_option maxRecDepth 100000 in
theorem NameC_ok {s : ByteArray} {J : Bool → World → Prop} (T : Tabs w) (K : ∀ w', Chg No w w' → J (nm (bl s)) w') : callJ Tryd.prog fn_char_Name #[.string s] w [.one .bool] J := by
  refine c_char_Name ?_
  unfold VC_char_Name
  refine withJ_i fun J16 hJ16 => ?_
  have k16 : ∀ b w1, Chg No w w1 → (b = true ↔ (bl s = [] ∨ 100 < s.size ∨ vld (bl s) = false)) → J16 b w1 := by
    intro b w1 hc1 hb; subst hJ16
    refine meetI hb (fun hh => ?_) (fun hn => ?_)
    · have e : nm (bl s) = false := by
        unfold nm
        rcases hh with h | h | h
        · simp [h]
        · rw [show decide ((bl s).length ≤ 100) = false from decide_eq_false (by rw [bl_len]; omega)]; simp
        · cases hp : prt (bl s) with
          | false => simp
          | true => rw [prt_vld _ hp] at h; cases h
      rw [← e]; exact K w1 hc1
    · have hne : bl s ≠ [] := fun e => hn (.inl e)
      have hlen := bl_len s
      have hv : vld (bl s) = true := by cases h : vld (bl s) with | true => rfl | false => exact absurd (.inr (.inr h)) hn
      have hnm : nm (bl s) = nmAt (bl s) 0 := by
        rw [nm_at, decide_eq_true hne, decide_eq_true (show (bl s).length ≤ 100 by omega)]; rfl
      rw [hnm] at K
      refine newB_i fun b18 w2 hb18 hw2 => ?_
      have hc2 : Chg No w w2 := by rw [hw2]; exact hc1.alloc _
      have hh2 : w2.heap[b18]? = some (.stringIter s 0) := by rw [hb18, hw2]; exact heap_alloc_new w1 _
      have hfr : w.heap.size ≤ b18 := by rw [hb18]; exact hc1.size
      refine ⟨fun w' m => ∃ i : Nat, Chg No w w' ∧ w'.heap[b18]? = some (.stringIter s i) ∧ i ≤ s.size ∧ m = s.size - i ∧ vld ((bl s).drop i) = true ∧ nmAt (bl s) i = nmAt (bl s) 0, ⟨_, 0, hc2, hh2, Nat.zero_le _, rfl, by rw [List.drop_zero]; exact hv, rfl⟩, ?_⟩
      rintro w3 m ⟨i, hc3, hh3, hi, rfl, hvi, hat⟩
      refine ⟨s, i, hh3, fun hlt => ?_, fun hge => ?_⟩
      · have hlt' : i < (bl s).length := by omega
        have hk : (rd ((bl s).drop i)).2 ≠ 0 := fun h => by rw [vld_bad (drop_ne hlt') h] at hvi; cases hvi
        rw [decode_dec, dec_of_rd hk]
        have hle := rd_le _ (drop_ne hlt')
        rw [List.length_drop] at hle
        generalize hw4 : setBlk w3 b18 (.stringIter s (i + (rd ((bl s).drop i)).2)) = w4
        have hc4 : Chg No w w4 := by rw [← hw4]; exact hc3.setBlk _ _ (fun h => by omega)
        have hh4 : w4.heap[b18]? = some (.stringIter s (i + (rd ((bl s).drop i)).2)) := by rw [← hw4]; exact setBlk_at (lt_of_heap hh3)
        refine withJ_i fun J34 hJ34 => ?_
        have k34 : ∀ b w6, Chg No w4 w6 → (b = true ↔ ((i = 0 ∧ isSt (rd ((bl s).drop i)).1 = false) ∨ isPt (rd ((bl s).drop i)).1 = false)) → J34 b w6 := by
          intro b w6 hc6 hb; subst hJ34
          have hc := hc4.trans0 hc6
          refine meetI hb (fun hh => ?_) (fun hn2 => ?_)
          · have e : nmAt (bl s) 0 = false := by
              rw [← hat]
              rcases hh with ⟨h0, h⟩ | h
              · subst h0; exact nmAt_start h
              · exact nmAt_part hlt' h
            rw [← e]; exact K _ hc
          · have hp : isPt (rd ((bl s).drop i)).1 = true := by cases h : isPt (rd ((bl s).drop i)).1 with | true => rfl | false => exact absurd (.inr h) hn2
            have hs : i = 0 → isSt (rd ((bl s).drop i)).1 = true := fun h0 => by cases h : isSt (rd ((bl s).drop i)).1 with | true => rfl | false => exact absurd (.inl ⟨h0, h⟩) hn2
            exact ⟨_, by omega, i + (rd ((bl s).drop i)).2, hc, hc6.heap hh4 (fun f => f), by omega, rfl, by rw [← List.drop_drop, ← vld_step (drop_ne hlt') hk]; exact hvi, by rw [← nmAt_step hlt' hk hp hs]; exact hat⟩
        clear hJ34
        refine condB_eq (fun h0 => ?_) (fun h0 => ?_)
        · have h0 : i = 0 := by omega
          refine IsStart_ok fun w7 hc7 => ?_
          refine condB_not (fun hs => k34 _ _ hc7 (bT (.inl ⟨h0, hs⟩))) (fun hs => ?_)
          refine IsPart_ok fun w8 hc8 => k34 _ _ (hc7.trans0 hc8) ?_
          rw [Bool.not_eq_true']
          exact ⟨fun h => .inr h, fun h => h.elim (fun h => by rw [hs] at h; cases h.2) id⟩
        · refine IsPart_ok fun w8 hc8 => k34 _ _ hc8 ?_
          rw [Bool.not_eq_true']
          exact ⟨fun h => .inr h, fun h => h.elim (fun h => absurd h.1 (by omega)) id⟩
      · have : i = (bl s).length := by omega
        rw [this, nmAt_end hne] at hat
        rw [← hat] at K
        exact K _ hc3
  clear hJ16
  rw [toList_bl, toList_bl, show bl ⟨#[]⟩ = [] from rfl]
  refine condB_i (fun h => k16 _ _ (Chg.refl _ _) (bT (.inl (by simpa using h)))) (fun h1 => ?_)
  have h1 : bl s ≠ [] := by simpa using h1
  refine condB_d (fun h => k16 _ _ (Chg.refl _ _) (bT (.inr (.inl (by omega))))) (fun h2 => ?_)
  refine ValidString_ok T fun w10 hc10 => k16 _ _ hc10 ?_
  rw [Bool.not_eq_true']
  exact ⟨fun h => .inr (.inr h), fun h => h.elim (fun h => absurd h h1) fun h => h.elim (fun h => absurd h (by omega)) id⟩

set_option maxRecDepth 100000 in
theorem NameR_ok {s : ByteArray} {J : Bool → World → Prop} (hm : s.size ≤ 140737488355328) (K : ∀ w', Chg No w w' → J (nm (bl s)) w') : callJ Tryd.prog fn_ref01_Name #[.string s] w [.one .bool] J := by
  refine c_ref01_Name ?_
  unfold VC_ref01_Name
  refine cvB fun bq c w1 hB _ hc1 => ?_
  have hlen := bl_len s
  refine withJ_i fun J16 hJ16 => ?_
  have k16 : ∀ b, (b = true ↔ (bl s = [] ∨ 100 < s.size)) → J16 b w1 := by
    intro b hb; subst hJ16
    refine meetI hb (fun hh => ?_) (fun hn => ?_)
    · have e : nm (bl s) = false := by
        rw [nm_at]
        rcases hh with h | h
        · simp [h]
        · rw [show decide ((bl s).length ≤ 100) = false from decide_eq_false (by omega)]; simp
      rw [← e]; exact K w1 hc1
    · have hne : bl s ≠ [] := fun e => hn (.inl e)
      have hnm : nm (bl s) = nmAt (bl s) 0 := by
        rw [nm_at, decide_eq_true hne, decide_eq_true (show (bl s).length ≤ 100 by omega)]; rfl
      rw [hnm] at K
      refine ⟨fun x w' m => ∃ i : Nat, x = i ∧ w' = w1 ∧ i ≤ s.size ∧ m = s.size - i ∧ nmAt (bl s) i = nmAt (bl s) 0, ⟨_, 0, rfl, rfl, Nat.zero_le _, rfl, rfl⟩, ?_⟩
      rintro x w3 m ⟨i, rfl, rfl, hi, rfl, hat⟩
      refine condB_d (fun hlt => ?_) (fun hge => ?_)
      · have hlt' : i < (bl s).length := by omega
        refine Read_ok hB (by omega) hm ?_
        have hle := rd_le _ (drop_ne hlt')
        rw [List.length_drop] at hle
        refine withJ_i fun J42 hJ42 => ?_
        have bad : nmAt (bl s) 0 = false → J42 true w3 := fun e => by subst hJ42; rw [← e]; exact K _ hc1
        have good : (rd ((bl s).drop i)).2 ≠ 0 → isPt (rd ((bl s).drop i)).1 = true → (i = 0 → isSt (rd ((bl s).drop i)).1 = true) → J42 false w3 := fun hk hp hs => by
          subst hJ42
          exact ⟨_, by omega, i + (rd ((bl s).drop i)).2, by rw [w64_of (by omega) (by omega)]; simp, rfl, by omega, rfl, by rw [← nmAt_step hlt' hk hp hs]; exact hat⟩
        clear hJ42
        refine condB_eq (fun hk => bad (by rw [← hat]; exact nmAt_bad hlt' (by omega))) (fun hk => ?_)
        refine Part_ok ?_
        refine condB_not (fun hp => bad (by rw [← hat]; exact nmAt_part hlt' hp)) (fun hp => ?_)
        refine condB_eq (fun h0 => ?_) (fun h0 => good (by omega) hp (fun h => by omega))
        have h0 : i = 0 := by omega
        refine Start_ok ?_
        cases hs : isSt (rd ((bl s).drop i)).1 with
        | true => exact good (by omega) hp (fun _ => hs)
        | false =>
          refine bad ?_
          rw [← hat]; subst h0; exact nmAt_start hs
      · have : i = (bl s).length := by omega
        rw [this, nmAt_end hne] at hat
        rw [← hat] at K
        exact K _ hc1
  clear hJ16
  have hz : bl s = [] ↔ s.size = 0 := by rw [← hlen]; exact List.length_eq_zero_iff.symm
  refine condB_eq (fun h => k16 _ (bT (.inl (hz.2 (by omega))))) (fun h => k16 _ (bD ?_))
  rw [hz]; omega

/-! ## strings.Cut at a colon -/
theorem IndexByte_ok {s : ByteArray} {J : Int → World → Prop} (k : J (indexByte (bl s) 58) w) : callJ Tryd.prog fn_internal_stringslite_IndexByte #[.string s, .int .u8 58] w [.one (.int .i64)] J := by
  refine c_internal_stringslite_IndexByte ?_
  unfold VC_internal_stringslite_IndexByte
  refine ⟨_, w, ?_, indexByte (bl s) 58, rfl, k⟩
  rw [run_callFunc_extern (fn := Tryd.prog.funcs[fn_internal_bytealg_IndexByteString]!) (by kernel_rfl) (by kernel_rfl) (by kernel_rfl) (by kernel_rfl) (e := Extern.BytealgIndexByte.indexByte) (by kernel_rfl), Lib.run_indexByteString]
  rfl

theorem Index_ok {s : ByteArray} {J : Int → World → Prop} (k : J (indexByte (bl s) 58) w) : callJ Tryd.prog fn_internal_stringslite_Index #[.string s, .string ⟨#[58]⟩] w [.one (.int .i64)] J := by
  refine c_internal_stringslite_Index ?_
  unfold VC_internal_stringslite_Index
  refine withJ_i fun J16 hJ16 => ?_
  refine condB_eq (fun h => absurd h (by decide)) (fun _ => ?_)
  rw [toList_bl, toList_bl, show bl ⟨#[58]⟩ = [58] from rfl]
  have k16 : ∀ b, (b = true ↔ bl s = [58]) → J16 b w := by
    intro b hb; subst hJ16
    refine meetI hb (fun hh => ?_) (fun hn => ?_)
    · rw [hh] at k; exact k
    · refine condB_eq (fun _ => ?_) (fun h => absurd rfl h)
      refine idxStr_i (i := 0) (by decide) ?_
      exact IndexByte_ok k
  clear hJ16
  exact k16 _ (by rw [beq_iff_eq]; exact eq_comm)

theorem Cut_ok {s : ByteArray} {J : ByteArray → ByteArray → Bool → World → Prop} (hm : s.size ≤ 9223372036854775806)
    (k0 : colon (bl s) = none → ∀ w', Chg No w w' → J s ⟨#[]⟩ false w')
    (k1 : ∀ i a b, colon (bl s) = some i → bl a = (bl s).take i → bl b = (bl s).drop (i + 1) → a.size ≤ s.size → b.size ≤ s.size → ∀ w', Chg No w w' → J a b true w') :
    callJ Tryd.prog fn_strings_Cut #[.string s, .string ⟨#[58]⟩] w [.one .str, .one .str, .one .bool] J := by
  refine c_strings_Cut ?_
  unfold VC_strings_Cut
  refine c_internal_stringslite_Cut ?_
  unfold VC_internal_stringslite_Cut
  refine Index_ok ?_
  rw [index_colon]
  have hlen := bl_len s
  cases hc : colon (bl s) with
  | none =>
    simp only
    refine condB_d (fun h => absurd h (by decide)) fun _ => k0 hc _ (Chg.refl _ _)
  | some i =>
    simp only
    have hi : i < (bl s).length := (List.getElem?_eq_some_iff.1 (colon_some.1 hc).1).1
    refine condB_d (fun _ => ?_) (fun h => absurd (Int.natCast_nonneg i) h)
    refine slStr_take (by omega) fun a ha za => ?_
    rw [show ((⟨#[58]⟩ : ByteArray).size : Int) = 1 from rfl, w64_of (by omega) (by omega), show (i : Int) + 1 = ((i + 1 : Nat) : Int) from rfl]
    refine slStr_drop (by omega) fun b hb zb => ?_
    exact k1 i a b hc ha hb (by omega) (by omega) _ (Chg.refl No w).drew

/-- What 'Split' answers. -/
def Spl (s a b : ByteArray) (ok : Bool) : Prop := (bl a, bl b, ok) = spl (bl s)

theorem SplitC_ok {s : ByteArray} {J : ByteArray → ByteArray → Bool → World → Prop} (hm : s.size ≤ 9223372036854775806) (T : Tabs w)
    (K : ∀ a b ok w', Chg No w w' → Spl s a b ok → J a b ok w') : callJ Tryd.prog fn_char_Split #[.string s] w [.one .str, .one .str, .one .bool] J := by
  refine c_char_Split ?_
  unfold VC_char_Split
  have e0 : bl ⟨#[]⟩ = [] := rfl
  refine Cut_ok hm (fun hc w1 hc1 => ?_) (fun i a b hc ha hb za zb w1 hc1 => ?_)
  · refine withJ_i fun J12 hJ12 => ?_
    subst hJ12
    refine condB_not (fun _ => ?_) (fun h => by cases h)
    refine NameC_ok (T.chg hc1) fun w6 hc6 => ?_
    have hcc := hc1.trans0 hc6
    refine condB_i (fun hn => K _ _ _ _ hcc ?_) (fun hn => ?_)
    · unfold Spl spl; rw [hc]; simp only [hn, if_true, e0]
    · refine withJ_i fun J20 hJ20 => ?_
      subst hJ20
      refine condB_i (fun h => by cases h) (fun _ => ?_)
      refine condB_i (fun h => by cases h) (fun _ => K _ _ _ _ hcc ?_)
      unfold Spl spl; rw [hc]; simp [hn, e0]
  · refine withJ_i fun J12 hJ12 => ?_
    subst hJ12
    refine condB_not (fun h => by cases h) (fun _ => ?_)
    refine condB_i (fun h => by cases h) (fun _ => ?_)
    refine withJ_i fun J20 hJ20 => ?_
    have k20 : ∀ x w2, Chg No w w2 → (x = (nm (bl a) && nm (bl b))) → J20 x w2 := by
      intro x w2 hc2 hx; subst hJ20
      refine condB_i (fun h => K _ _ _ _ hc2 ?_) (fun h => K _ _ _ _ hc2 ?_)
      · unfold Spl spl; rw [hc]; simp only; rw [← ha, ← hb, ← hx, h]; rfl
      · unfold Spl spl; rw [hc]; simp only; rw [← ha, ← hb, ← hx, h]; rfl
    clear hJ20
    refine condB_i (fun _ => ?_) (fun h => by cases h)
    refine NameC_ok (T.chg hc1) fun w4 hc4 => ?_
    refine condB_i (fun hn => ?_) (fun hn => k20 _ _ (hc1.trans0 hc4) (by rw [hn, Bool.false_and]))
    refine NameC_ok ((T.chg hc1).chg hc4) fun w5 hc5 => k20 _ _ ((hc1.trans0 hc4).trans0 hc5) (by rw [hn, Bool.true_and])

theorem SplitR_ok {s : ByteArray} {J : ByteArray → ByteArray → Bool → World → Prop} (hm : s.size ≤ 140737488355328)
    (K : ∀ a b ok w', Chg No w w' → Spl s a b ok → J a b ok w') : callJ Tryd.prog fn_ref01_Split #[.string s] w [.one .str, .one .str, .one .bool] J := by
  refine c_ref01_Split ?_
  unfold VC_ref01_Split
  have e0 : bl ⟨#[]⟩ = [] := rfl
  have hlen := bl_len s
  refine NameR_ok hm fun w1 hc1 => ?_
  refine condB_i (fun hn => K _ _ _ _ hc1 ?_) (fun hn => ?_)
  · unfold Spl spl; rw [colon_none.2 (nm_colon hn)]; simp only [hn, if_true, e0]
  refine ⟨fun x w' m => ∃ i : Nat, x = i ∧ i ≤ s.size ∧ m = s.size - i ∧ Chg No w w' ∧ ∀ j, j < i → (bl s)[j]? = some 58 → (nm ((bl s).take j) && nm ((bl s).drop (j + 1))) = false, ⟨_, 0, rfl, Nat.zero_le _, rfl, hc1, fun j hj => absurd hj (by omega)⟩, ?_⟩
  rintro x w' m ⟨i, rfl, hi, rfl, hc, hprev⟩
  refine condB_d (fun hlt => ?_) (fun hge => ?_)
  · have hlt' : i < (bl s).length := by omega
    refine withJ_i fun J31 hJ31 => ?_
    have k31 : ∀ x w2, Chg No w w2 → (x = true ↔ ((bl s)[i]? = some 58 ∧ nm ((bl s).take i) = true ∧ nm ((bl s).drop (i + 1)) = true)) → J31 x w2 := by
      intro x w2 hc2 hx; subst hJ31
      refine meetI hx (fun hh => ?_) (fun hn2 => ?_)
      · refine slStr_take (by omega) fun a ha za => ?_
        rw [w64_of (by omega) (by omega), show (i : Int) + 1 = ((i + 1 : Nat) : Int) from rfl]
        refine slStr_drop (by omega) fun b hb zb => K _ _ _ _ hc2.drew ?_
        have hcol : colon (bl s) = some i := colon_some.2 ⟨hh.1, nm_colon hh.2.1⟩
        unfold Spl spl; rw [hcol]; simp only [hh.2.1, hh.2.2, Bool.and_self, if_true, ha, hb]
      · refine ⟨s.size - (i + 1), by omega, i + 1, by rw [w64_of] <;> omega, by omega, rfl, hc2, fun j hj hj58 => ?_⟩
        by_cases hji : j = i
        · subst hji
          rw [Bool.eq_false_iff]; intro h
          rw [Bool.and_eq_true] at h
          exact hn2 ⟨hj58, h.1, h.2⟩
        · exact hprev j (by omega) hj58
    clear hJ31
    refine idxStr_i (by omega) ?_
    have hg : gB (bl s) i = ((bl s)[i]).toNat := gB_of (List.getElem?_eq_getElem hlt')
    refine condB_eq (fun h58 => ?_) (fun h58 => ?_)
    · have e58 : (bl s)[i]? = some 58 := by
        rw [List.getElem?_eq_getElem hlt']
        congr 1
        apply UInt8.toNat_inj.1
        rw [← hg]; exact Int.ofNat_inj.1 h58
      refine slStr_take (by omega) fun a ha za => ?_
      refine NameR_ok (by omega) fun w4 hc4 => ?_
      rw [ha]
      refine condB_i (fun h1 => ?_) (fun h1 => k31 _ _ (hc.trans0 hc4) (bF fun h => by rw [h1] at h; cases h.2.1))
      rw [w64_of (by omega) (by omega), show (i : Int) + 1 = ((i + 1 : Nat) : Int) from rfl]
      refine slStr_drop (by omega) fun b hb zb => ?_
      refine NameR_ok (by omega) fun w5 hc5 => k31 _ _ ((hc.trans0 hc4).trans0 hc5) ?_
      rw [hb]
      exact ⟨fun h => ⟨e58, h1, h⟩, fun h => h.2.2⟩
    · refine k31 _ _ hc (bF fun h => h58 ?_)
      have := gB_of h.1
      rw [this]; rfl
  · have hil : i = s.size := by omega
    refine K _ _ _ _ hc ?_
    unfold Spl spl
    cases hcol : colon (bl s) with
    | none => simp [hn, e0]
    | some j =>
      obtain ⟨h1, h2⟩ := colon_some.1 hcol
      have hj := (List.getElem?_eq_some_iff.1 h1).1
      simp only
      rw [hprev j (by omega) h1]; rfl
end

end Go.Proofs.YtdjehimkijlhgaaDoor

