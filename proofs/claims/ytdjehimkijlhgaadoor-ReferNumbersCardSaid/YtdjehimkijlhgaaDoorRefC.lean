/-
  References, plain: what stands between & and ; by the program and by the document; reading step by step.
-/
import Derived.Test.YtdjehimkijlhgaaDoorRefA
import Derived.Test.YtdjehimkijlhgaaDoorChrE
import Derived.Test.YtdjehimkijlhgaaDoorAppS
import Derived.Laws.Runes
set_option linter.unusedVariables false
set_option linter.unusedSimpArgs false
namespace Go.Vc
open Go Go.Lib
def okD (base : Nat) (c : UInt8) : Bool := match hexV c with | some d => decide (d < base) | none => false
def dig (c : UInt8) : Nat := (hexV c).getD 0
def val (base : Nat) (ds : List UInt8) : Nat := ds.foldl (fun n c => n * base + dig c) 0
def numL (base : Nat) (ds : List UInt8) : Nat × Nat :=
  if ds = [] then (0, 22) else if ds.all (okD base) = false then (0, 22) else if chr (val base ds : Nat) then (val base ds, 0) else (0, 21)
def wordsL : List (List UInt8 × Nat) := [([108, 116], 60), ([103, 116], 62), ([97, 109, 112], 38), ([97, 112, 111, 115], 39), ([113, 117, 111, 116], 34)]
def wordL (s : List UInt8) : Option Nat := (wordsL.find? (fun p => p.1 == s)).map (·.2)
def hashL (s : List UInt8) : Nat × Nat :=
  if [35].isPrefixOf s then (if [120].isPrefixOf (s.drop 1) then numL 16 (s.drop 2) else numL 10 (s.drop 1)) else (0, 22)
def meantL (s : List UInt8) : Nat × Nat := match wordL s with | some c => (c, 0) | none => hashL s
def selL (n : Nat) (m : Nat × Nat) : Nat × Nat × Nat := if m.2 = 0 then (m.1, n + 1, 0) else (0, 0, m.2)
/-- What stands behind &: the char, how far it goes, the error. -/
def expL (x : List UInt8) : Nat × Nat × Nat := if 59 ∈ x then selL (x.takeWhile (· != 59)).length (meantL (x.takeWhile (· != 59))) else (0, 0, 22)

theorem tw_semi {s r : List UInt8} (h : 59 ∉ s) : (s ++ 59 :: r).takeWhile (· != 59) = s := by
  rw [List.takeWhile_append_of_pos (fun a ha => by rw [bne_iff_ne]; rintro rfl; exact h ha)]
  simp
theorem expL_eq {s r : List UInt8} (h : 59 ∉ s) : expL (s ++ 59 :: r) = selL s.length (meantL s) := by
  unfold expL
  rw [if_pos (by simp), tw_semi h]
theorem expL_none {x : List UInt8} (h : 59 ∉ x) : expL x = (0, 0, 22) := if_neg h
theorem index_none : ∀ {l : List UInt8} {c : UInt8}, c ∉ l → indexByte l c = -1
  | [], _, _ => rfl
  | b :: l, c, h => by
    unfold indexByte
    rw [if_neg (by simp; rintro rfl; exact h (by simp)), index_none (fun hm => h (by simp [hm]))]; rfl
theorem index_some : ∀ {s r : List UInt8} {c : UInt8}, c ∉ s → indexByte (s ++ c :: r) c = s.length
  | [], _, _, _ => by unfold indexByte; simp
  | b :: l, r, c, h => by
    rw [List.cons_append]
    unfold indexByte
    rw [if_neg (by simp; rintro rfl; exact h (by simp)), index_some (fun hm => h (by simp [hm]))]
    rw [if_neg (by simp <;> omega), List.length_cons]; rfl

/-! ## Numbers -/
theorem val_nil (base : Nat) : val base [] = 0 := rfl
theorem val_snoc (base : Nat) (ds : List UInt8) (c : UInt8) : val base (ds ++ [c]) = val base ds * base + dig c := by
  unfold val; rw [List.foldl_append]; rfl
theorem dig_lt (c : UInt8) : dig c < 16 := by
  unfold dig
  cases h : hexV c with
  | none => decide
  | some d => exact hexV_lt h
theorem dig_of {base : Nat} {c : UInt8} (h : okD base c = true) : hexV c = some (dig c) ∧ dig c < base := by
  unfold okD at h
  cases h1 : hexV c with
  | none => rw [h1] at h; cases h
  | some d => rw [h1] at h; unfold dig; rw [h1]; exact ⟨rfl, of_decide_eq_true h⟩
theorem okD_semi (base : Nat) : okD base 59 = false := by
  unfold okD; rw [show hexV 59 = none from by decide]
/-- Of a number that the document keeps. -/
def DocN (n d : Nat) : Prop := d < 67108864 ∧ ((n < 2097152 ∧ d = n) ∨ (2097152 ≤ n ∧ 2097152 ≤ d))
theorem DocN.step {n d base c : Nat} (h : DocN n d) (hb : 1 ≤ base) (hb2 : base ≤ 16) (hc : c < 16) : DocN (n * base + c) (if d < 2097152 then base * d + c else d) := by
  obtain ⟨h1, h2⟩ := h
  unfold DocN
  rcases h2 with ⟨h2, rfl⟩ | ⟨h2, h3⟩
  · rw [if_pos h2, Nat.mul_comm base d]
    have : d * base ≤ d * 16 := Nat.mul_le_mul_left _ hb2
    generalize d * base = q at *
    omega
  · rw [if_neg (by omega)]
    have : n * 1 ≤ n * base := Nat.mul_le_mul_left _ hb
    generalize n * base = q at *
    omega
theorem chr_big {n : Nat} (h : 1114112 ≤ n) : chr (n : Int) = false := by
  unfold chr; rw [decide_eq_false_iff_not]; unfold Chr; omega
theorem DocN.chr {n d : Nat} (h : DocN n d) : Vc.chr (d : Int) = Vc.chr (n : Int) := by
  rcases h.2 with ⟨h2, rfl⟩ | ⟨h2, h3⟩
  · rfl
  · rw [chr_big (by omega), chr_big (by omega)]
theorem DocN.eq {n d : Nat} (h : DocN n d) (hc : Vc.chr (n : Int) = true) : d = n := by
  rcases h.2 with ⟨h2, rfl⟩ | ⟨h2, h3⟩
  · rfl
  · rw [chr_big (by omega)] at hc; cases hc
theorem min_chr (n : Nat) : chr ((min n 1114112 : Nat) : Int) = chr (n : Int) := by
  rcases Nat.lt_or_ge n 1114112 with h | h
  · rw [Nat.min_eq_left (by omega)]
  · rw [Nat.min_eq_right h, chr_big (Nat.le_refl _), chr_big h]
theorem min_step {n base c : Nat} (hb : 1 ≤ base) : min (min n 1114112 * base + c) 1114112 = min (n * base + c) 1114112 := by
  rcases Nat.lt_or_ge n 1114112 with h | h
  · rw [Nat.min_eq_left (a := n) (by omega)]
  · rw [Nat.min_eq_right (a := n) h]
    have h1 : n * 1 ≤ n * base := Nat.mul_le_mul_left _ hb
    have h2 : 1114112 * 1 ≤ 1114112 * base := Nat.mul_le_mul_left _ hb
    generalize n * base = q at *
    generalize 1114112 * base = q2 at *
    omega

/-! ## The document's -/
def docNum (base : Nat) (y : List UInt8) : Nat × Nat × Nat :=
  let k := (y.takeWhile (okD base)).length
  if k = 0 ∨ y[k]? ≠ some 59 then (0, 0, 22) else if chr (val base (y.take k) : Nat) then (val base (y.take k), k + 1, 0) else (0, 0, 21)
def shiftL (j : Nat) (m : Nat × Nat × Nat) : Nat × Nat × Nat := if m.2.2 = 0 then (m.1, j + m.2.1, 0) else (0, 0, m.2.2)
def docWord (x : List UInt8) : Option (Nat × Nat) := (wordsL.find? (fun p => (p.1 ++ [59]).isPrefixOf x)).map fun p => (p.2, p.1.length + 1)
def docL (x : List UInt8) : Nat × Nat × Nat :=
  match docWord x with
  | some p => (p.1, p.2, 0)
  | none => if [35].isPrefixOf x then (if [120].isPrefixOf (x.drop 1) then shiftL 2 (docNum 16 (x.drop 2)) else shiftL 1 (docNum 10 (x.drop 1))) else (0, 0, 22)

theorem tw_all {p : UInt8 → Bool} {s r : List UInt8} (h : s.all p = true) (h2 : p 59 = false) : (s ++ 59 :: r).takeWhile p = s := by
  rw [List.takeWhile_append_of_pos (fun a ha => List.all_eq_true.1 h a ha)]
  simp [h2]
theorem tw_some {p : UInt8 → Bool} : ∀ {s : List UInt8} (r : List UInt8), s.all p = false → ∃ k b, ((s ++ r).takeWhile p).length = k ∧ (s ++ r)[k]? = some b ∧ b ∈ s
  | [], _, h => by simp at h
  | b :: s, r, h => by
    by_cases hb : p b = true
    · have h' : s.all p = false := by rw [List.all_cons, hb, Bool.true_and] at h; exact h
      obtain ⟨k, c, h1, h2, h3⟩ := tw_some r h'
      refine ⟨k + 1, c, ?_, ?_, by simp [h3]⟩
      · rw [List.cons_append, List.takeWhile_cons, if_pos hb, List.length_cons, h1]
      · rw [List.cons_append, List.getElem?_cons_succ, h2]
    · refine ⟨0, b, ?_, rfl, by simp⟩
      rw [List.cons_append, List.takeWhile_cons, if_neg hb]; rfl
theorem docNum_eq {base : Nat} {s r : List UInt8} (h : 59 ∉ s) : docNum base (s ++ 59 :: r) = selL s.length (numL base s) := by
  unfold docNum numL
  cases ha : s.all (okD base) with
  | true =>
    rw [tw_all ha (okD_semi base)]
    simp only
    by_cases hs : s = []
    · subst hs; simp [selL]
    · have h0 : s.length ≠ 0 := fun e => hs (List.eq_nil_of_length_eq_zero e)
      rw [if_neg (by simp [h0]), List.take_left' rfl, if_neg hs, if_neg (by simp : ¬ (true = false))]
      split <;> simp [selL]
  | false =>
    obtain ⟨k, b, h1, h2, h3⟩ := tw_some (59 :: r) ha
    rw [h1]
    simp only
    rw [if_pos (.inr (by rw [h2]; intro e; cases e; exact h h3))]
    split <;> simp [selL]
theorem docNum_none {base : Nat} {y : List UInt8} (h : 59 ∉ y) : docNum base y = (0, 0, 22) := by
  unfold docNum
  exact if_pos (.inr fun e => h (List.mem_of_getElem? e))
theorem pre_semi : ∀ {v s r : List UInt8}, 59 ∉ v → 59 ∉ s → ((v ++ [59]).isPrefixOf (s ++ 59 :: r) = (v == s))
  | [], [], r, _, _ => by simp
  | [], b :: s, r, _, h => by
    have : ¬ (59 : UInt8) = b := fun e => h (by simp [e])
    simp [List.isPrefixOf, this]
  | a :: v, [], r, h, _ => by
    have : ¬ a = (59 : UInt8) := fun e => h (by simp [e])
    simp [List.isPrefixOf, this]
  | a :: v, b :: s, r, h, h' => by
    have ih := pre_semi (r := r) (v := v) (s := s) (fun hm => h (by simp [hm])) (fun hm => h' (by simp [hm]))
    simp only [List.cons_append, List.isPrefixOf, ih]
    rfl
theorem pre_none {v x : List UInt8} (h : 59 ∉ x) : (v ++ [59]).isPrefixOf x = false := by
  rw [Bool.eq_false_iff]
  intro hp
  exact h ((List.isPrefixOf_iff_prefix.1 hp).subset (by simp))
theorem words_semi : ∀ p ∈ wordsL, (59 : UInt8) ∉ p.1 := by decide
theorem docWord_eq {s r : List UInt8} (h : 59 ∉ s) : docWord (s ++ 59 :: r) = (wordL s).map fun c => (c, s.length + 1) := by
  unfold docWord wordL
  rw [find_congr (q := fun p => p.1 == s) fun p hp => pre_semi (words_semi p hp) h]
  cases hf : List.find? (fun p => p.1 == s) wordsL with
  | none => rfl
  | some p =>
    have := List.find?_some hf
    have e : p.1 = s := by simpa using this
    simp [e]
theorem docWord_none {x : List UInt8} (h : 59 ∉ x) : docWord x = none := by
  unfold docWord
  rw [Option.map_eq_none_iff, List.find?_eq_none]
  intro p _
  rw [pre_none h]; simp
theorem pre1 {a : UInt8} {s r : List UInt8} (ha : a ≠ 59) : [a].isPrefixOf (s ++ 59 :: r) = [a].isPrefixOf s := by
  cases s with
  | nil => simp [List.isPrefixOf, ha]
  | cons b s => simp [List.isPrefixOf]
theorem docL_exp (x : List UInt8) : docL x = expL x := by
  unfold docL
  by_cases hx : 59 ∈ x
  · obtain ⟨s, r, rfl, hs⟩ := List.eq_append_cons_of_mem hx
    rw [expL_eq hs, docWord_eq hs]
    unfold meantL
    cases hw : wordL s with
    | some c => simp [selL]
    | none =>
      simp only [Option.map_none]
      unfold hashL
      rw [pre1 (by decide)]
      cases h35 : [35].isPrefixOf s with
      | false => simp [selL]
      | true =>
        simp only [if_true]
        cases s with
        | nil => simp at h35
        | cons b s1 =>
          have hs1 : 59 ∉ s1 := fun hm => hs (by simp [hm])
          simp only [List.cons_append, List.drop_succ_cons, List.drop_zero]
          rw [pre1 (by decide)]
          cases h120 : [120].isPrefixOf s1 with
          | false =>
            simp only [Bool.false_eq_true, if_false]
            rw [docNum_eq hs1]
            unfold selL shiftL
            split <;> simp <;> omega
          | true =>
            simp only [if_true]
            cases s1 with
            | nil => simp at h120
            | cons c s2 =>
              have hs2 : 59 ∉ s2 := fun hm => hs1 (by simp [hm])
              simp only [List.cons_append, List.drop_succ_cons, List.drop_zero]
              rw [docNum_eq hs2]
              unfold selL shiftL
              split <;> simp <;> omega
  · rw [expL_none hx, docWord_none hx]
    simp only
    have h1 : 59 ∉ x.drop 1 := fun hm => hx (List.mem_of_mem_drop hm)
    have h2 : 59 ∉ x.drop 2 := fun hm => hx (List.mem_of_mem_drop hm)
    rw [docNum_none h1, docNum_none h2]
    split
    · split <;> simp [shiftL]
    · rfl
/-- What is read at a place: the bytes, how far, the error. -/
def stepL (value : Bool) (y : List UInt8) : List UInt8 × Nat × Nat :=
  if (rd y).2 = 0 then ([], 0, 20)
  else if chr (rd y).1 = false then ([], 0, 21)
  else if (rd y).1 = 60 ∨ (value = false ∧ [93, 93, 62].isPrefixOf y = true) then ([], 0, 23)
  else if (rd y).1 = 38 then (if (expL (y.drop 1)).2.2 = 0 then (encL (expL (y.drop 1)).1, 1 + (expL (y.drop 1)).2.1, 0) else ([], 0, (expL (y.drop 1)).2.2))
  else if value = true ∧ ((rd y).1 = 9 ∨ (rd y).1 = 10 ∨ (rd y).1 = 13) then ([32], (rd y).2, 0)
  else (encL (rd y).1, (rd y).2, 0)
theorem stepL_pos {value : Bool} {y : List UInt8} (h : (stepL value y).2.2 = 0) : 1 ≤ (stepL value y).2.1 := by
  unfold stepL at h ⊢
  by_cases h1 : (rd y).2 = 0
  · rw [if_pos h1] at h; cases h
  rw [if_neg h1] at h ⊢
  by_cases h2 : chr (rd y).1 = false
  · rw [if_pos h2] at h; cases h
  rw [if_neg h2] at h ⊢
  split at h
  · cases h
  · rename_i h3
    rw [if_neg h3]
    split
    · split
      · exact Nat.le_add_right _ _
      · rename_i h4 h5
        rw [if_pos h4, if_neg h5] at h
        exact absurd h h5
    · split
      · show 1 ≤ (rd y).2; omega
      · show 1 ≤ (rd y).2; omega
theorem numL_err (base : Nat) (s : List UInt8) : (numL base s).2 = 0 ∨ (numL base s).2 = 21 ∨ (numL base s).2 = 22 := by
  unfold numL
  repeat' split
  all_goals simp
theorem meantL_err (s : List UInt8) : (meantL s).2 = 0 ∨ (meantL s).2 = 21 ∨ (meantL s).2 = 22 := by
  unfold meantL hashL
  split
  · simp
  · split
    · split <;> exact numL_err _ _
    · simp
theorem expL_err (x : List UInt8) : (expL x).2.2 = 0 ∨ (expL x).2.2 = 21 ∨ (expL x).2.2 = 22 := by
  unfold expL selL
  have := meantL_err (x.takeWhile (· != 59))
  repeat' split
  all_goals simp_all
theorem expL_le (x : List UInt8) : (expL x).2.1 ≤ x.length := by
  by_cases hx : 59 ∈ x
  · obtain ⟨s, r, rfl, hs⟩ := List.eq_append_cons_of_mem hx
    rw [expL_eq hs]
    unfold selL
    split <;> simp
  · rw [expL_none hx]; simp
theorem words_chr : ∀ p ∈ wordsL, chr (p.2 : Int) = true ∧ p.2 ≤ 1114111 := by decide
theorem chr_le {n : Nat} (h : chr (n : Int) = true) : n < 55296 ∨ (57344 ≤ n ∧ n ≤ 1114111) := by
  have := of_decide_eq_true h
  unfold Chr at this; omega
theorem numL_chr {base : Nat} {s : List UInt8} (h : (numL base s).2 = 0) : chr ((numL base s).1 : Int) = true := by
  unfold numL at h ⊢
  repeat' split
  all_goals simp_all
theorem meantL_chr {s : List UInt8} (h : (meantL s).2 = 0) : chr ((meantL s).1 : Int) = true := by
  unfold meantL at h ⊢
  cases hw : wordL s with
  | some c =>
    simp only
    unfold wordL at hw
    obtain ⟨p, hp, rfl⟩ := Option.map_eq_some_iff.1 hw
    exact (words_chr p (List.mem_of_find?_eq_some hp)).1
  | none =>
    rw [hw] at h
    simp only at h ⊢
    unfold hashL at h ⊢
    split
    · rename_i h1
      rw [if_pos h1] at h
      split
      · rename_i h2; rw [if_pos h2] at h; exact numL_chr h
      · rename_i h2; rw [if_neg h2] at h; exact numL_chr h
    · rename_i h1; rw [if_neg h1] at h; cases h
theorem expL_chr {x : List UInt8} (h : (expL x).2.2 = 0) : chr ((expL x).1 : Int) = true := by
  unfold expL at h ⊢
  split
  · rename_i h1
    rw [if_pos h1] at h
    unfold selL at h ⊢
    split
    · rename_i h2; exact meantL_chr h2
    · rename_i h2; rw [if_neg h2] at h; exact absurd h h2
  · rename_i h1; rw [if_neg h1] at h; cases h
theorem stepL_le {value : Bool} {y : List UInt8} (hy : y ≠ []) : (stepL value y).2.1 ≤ y.length ∧ (stepL value y).1.length ≤ 4 := by
  have h1 := rd_le y hy
  have h2 := expL_le (y.drop 1)
  rw [List.length_drop] at h2
  have h3 : 0 < y.length := List.length_pos_iff.2 hy
  have h4 := encL_len (rd y).1
  have h5 := encL_len (expL (y.drop 1)).1
  unfold stepL
  repeat' split
  all_goals simp_all
  all_goals omega
/-- A text, or a value, read. -/
def readL (value : Bool) (i : Nat) (y : List UInt8) (out : List UInt8) : List UInt8 × Nat × Nat :=
  if h : y = [] then (out, 0, 0)
  else if h2 : (stepL value y).2.2 = 0 then readL value (i + (stepL value y).2.1) (y.drop (stepL value y).2.1) (out ++ (stepL value y).1)
  else ([], i, (stepL value y).2.2)
termination_by y.length
decreasing_by
  have := stepL_pos h2
  have := List.length_pos_iff.2 h
  rw [List.length_drop]; omega
theorem readL_nil (value : Bool) (i : Nat) (out : List UInt8) : readL value i [] out = (out, 0, 0) := by unfold readL; simp
theorem readL_step {value : Bool} {i : Nat} {y out : List UInt8} (h : y ≠ []) (h2 : (stepL value y).2.2 = 0) : readL value i y out = readL value (i + (stepL value y).2.1) (y.drop (stepL value y).2.1) (out ++ (stepL value y).1) := by
  rw [readL]; simp [h, h2]
theorem readL_err {value : Bool} {i : Nat} {y out : List UInt8} (h : y ≠ []) (h2 : (stepL value y).2.2 ≠ 0) : readL value i y out = ([], i, (stepL value y).2.2) := by
  unfold readL; simp [h, h2]
end Go.Vc

/-
  refer.meant, refer.Expand; the document's word and Expand.
-/

set_option linter.unusedVariables false
set_option linter.unusedSimpArgs false
namespace Go.Vc
open Go Go.Lib
theorem word_none {s : ByteArray} (h1 : ¬ s = ⟨#[108, 116]⟩) (h2 : ¬ s = ⟨#[103, 116]⟩) (h3 : ¬ s = ⟨#[97, 109, 112]⟩) (h4 : ¬ s = ⟨#[97, 112, 111, 115]⟩) (h5 : ¬ s = ⟨#[113, 117, 111, 116]⟩) : wordL (bl s) = none := by
  have g : ∀ l : List UInt8, ¬ s = ⟨l.toArray⟩ → ¬ l = bl s := fun l h e => h (bl_ext (by rw [← e]))
  unfold wordL
  rw [Option.map_eq_none_iff, List.find?_eq_none]
  intro p hp
  rw [beq_iff_eq]
  simp only [wordsL, List.mem_cons, List.not_mem_nil, or_false] at hp
  rcases hp with rfl | rfl | rfl | rfl | rfl
  · exact g [108, 116] h1
  · exact g [103, 116] h2
  · exact g [97, 109, 112] h3
  · exact g [97, 112, 111, 115] h4
  · exact g [113, 117, 111, 116] h5
theorem take_snoc {l : List UInt8} {k : Nat} {c : UInt8} (h : l[k]? = some c) : l.take (k + 1) = l.take k ++ [c] := by
  obtain ⟨h1, h2⟩ := List.getElem?_eq_some_iff.1 h
  rw [List.take_succ_eq_append_getElem h1, h2]
theorem all_snoc {p : UInt8 → Bool} {l : List UInt8} {k : Nat} {c : UInt8} (h : l[k]? = some c) : (l.take (k + 1)).all p = ((l.take k).all p && p c) := by
  rw [take_snoc h, List.all_append]; simp
theorem all_bad {p : UInt8 → Bool} {l : List UInt8} {k : Nat} {c : UInt8} (h : l[k]? = some c) (hp : p c = false) : l.all p = false := by
  rw [Bool.eq_false_iff]
  intro ha
  have := List.all_eq_true.1 ha c (List.mem_of_getElem? h)
  rw [hp] at this; cases this
theorem tw_len {p : UInt8 → Bool} : ∀ {y : List UInt8} {k : Nat}, k ≤ y.length → (y.take k).all p = true → (∀ b, y[k]? = some b → p b = false) → (y.takeWhile p).length = k
  | [], k, h, _, _ => by simp at h; simp [h]
  | b :: y, 0, _, _, h => by
    have := h b rfl
    rw [List.takeWhile_cons, if_neg (by rw [this]; decide)]; rfl
  | b :: y, k + 1, hk, ha, h => by
    rw [List.take_succ_cons, List.all_cons, Bool.and_eq_true] at ha
    rw [List.takeWhile_cons, if_pos ha.1, List.length_cons, tw_len (by simpa using hk) ha.2 (fun c hc => h c (by simpa using hc))]
theorem dig_ge {c : UInt8} {base : Nat} (h : okD base c = false) (hb : base ≤ 99) : (base : Int) ≤ (match hexV c with | some d => (d : Int) | none => 99) := by
  unfold okD at h
  cases h1 : hexV c with
  | none => simp only; omega
  | some d => rw [h1] at h; simp only at h ⊢; have := of_decide_eq_false h; omega
end Go.Vc
namespace Go.Proofs.YtdjehimkijlhgaaDoor
open Go Go.Vc Go.Lib
section
variable {w : World}
set_option maxRecDepth 100000 in
theorem Meant_ok {s : ByteArray} {J : Int → Int → World → Prop} (hs : s.size ≤ 140737488355328)
    (K : ∀ w', Chg No w w' → J ((meantL (bl s)).1 : Int) ((meantL (bl s)).2 : Int) w') : callJ Tryd.prog fn_refer_meant #[.string s] w [.one (.int .i32), .one (.int .i64)] J := by
  refine c_refer_meant ?_
  unfold VC_refer_meant
  simp only [beqS]
  refine condB_d (fun h => ?_) (fun h1 => ?_)
  · subst h; have := K w (Chg.refl _ _); rw [show meantL (bl ⟨#[108, 116]⟩) = (60, 0) from by decide] at this; exact this
  refine condB_d (fun h => ?_) (fun h2 => ?_)
  · subst h; have := K w (Chg.refl _ _); rw [show meantL (bl ⟨#[103, 116]⟩) = (62, 0) from by decide] at this; exact this
  refine condB_d (fun h => ?_) (fun h3 => ?_)
  · subst h; have := K w (Chg.refl _ _); rw [show meantL (bl ⟨#[97, 109, 112]⟩) = (38, 0) from by decide] at this; exact this
  refine condB_d (fun h => ?_) (fun h4 => ?_)
  · subst h; have := K w (Chg.refl _ _); rw [show meantL (bl ⟨#[97, 112, 111, 115]⟩) = (39, 0) from by decide] at this; exact this
  refine condB_d (fun h => ?_) (fun h5 => ?_)
  · subst h; have := K w (Chg.refl _ _); rw [show meantL (bl ⟨#[113, 117, 111, 116]⟩) = (34, 0) from by decide] at this; exact this
  have hm : meantL (bl s) = hashL (bl s) := by unfold meantL; rw [word_none h1 h2 h3 h4 h5]
  rw [hm] at K
  clear hm h1 h2 h3 h4 h5
  unfold hashL at K
  have hsl := bl_len s
  -- the digits
  have core : ∀ (f : Bool) (J4 : ByteArray → Int → World → Prop), J4 = (fun (digits4 : ByteArray) (base6 : Int) (w2 : World) =>
      withJ (fun (x41 : Bool) (w3 : World) => condB x41 (J (0 : Int) (22 : Int) w3) (
        cvJ Tryd.prog T_string T_sl_uint8 (.string digits4) w3 fun q43p q43l q43c w4 =>
        ∃ I_9 : Int → Int → World → Nat → Prop, (∃ m : Nat, I_9 (0 : Int) (0 : Int) w4 m) ∧ ∀ (n9 : Int) (x45 : Int) (w5 : World) (m : Nat), I_9 n9 x45 w5 m → (
        condB (decide (x45 < ((q43l : Nat) : Int))) (
        idxA q43p q43l x45 fun a47 =>
        ldI .u8 w5 ((a47.add (x45.toNat * 1))) fun x48 =>
        callJ Tryd.prog fn_refer_digit #[.int .u8 x48] w5 [.one (.int .i64)] fun (r50 : Int) (w6 : World) =>
        condB (decide (r50 ≥ base6)) (
        J (0 : Int) (22 : Int) w6) (
        ∃ m' : Nat, m' < m ∧ I_9 (if (1114112 : Int) < (w64 ((w64 (n9 * base6)) + r50)) then (1114112 : Int) else (w64 ((w64 (n9 * base6)) + r50))) (w64 (x45 + (1 : Int))) w6 m')) (
        callJ Tryd.prog fn_char_IsChar #[.int .i32 (IntKind.i32.wrap n9)] w5 [.one .bool] fun (r63 : Bool) (w7 : World) =>
        condB (!r63) (
        J (0 : Int) (21 : Int) w7) (
        J (IntKind.i32.wrap n9) (0 : Int) w7)))) : Bool → World → Prop) fun J_41 =>
      condB (!f) (J_41 true w2) (J_41 (decide (digits4 = (⟨#[]⟩ : ByteArray))) w2)) →
      ∀ (d : ByteArray) (base : Nat) (w2 : World), (base = 10 ∨ base = 16) → d.size ≤ 140737488355328 → Chg No w w2 →
        (f = false → ∀ w', Chg No w w' → J 0 22 w') → (f = true → ∀ w', Chg No w w' → J ((numL base (bl d)).1 : Int) ((numL base (bl d)).2 : Int) w') → J4 d (base : Int) w2 := by
    intro f J4 hJ4 d base w2 hb hd hc2 K0 K1
    subst hJ4
    refine withJ_i fun J41 hJ41 => ?_
    have hdl := bl_len d
    cases f with
    | false => subst hJ41; exact condB_i (fun _ => K0 rfl w2 hc2) (fun h => by cases h)
    | true =>
      have K1 := K1 rfl
      refine condB_i (fun h => by cases h) (fun _ => ?_)
      subst hJ41
      refine condB_d (fun h0 => ?_) (fun h0 => ?_)
      · subst h0; exact K1 w2 hc2
      have hne : bl d ≠ [] := fun e => h0 (bl_ext e)
      refine cvB fun b c w4 hB hb4 hc4 => ?_
      have c04 := hc2.trans0 hc4
      refine ⟨fun n x w' t => ∃ k : Nat, x = k ∧ k ≤ d.size ∧ t = d.size - k ∧ n = ((min (val base ((bl d).take k)) 1114112 : Nat) : Int) ∧ ((bl d).take k).all (okD base) = true ∧ w' = w4, ⟨_, 0, rfl, Nat.zero_le _, rfl, rfl, by simp⟩, ?_⟩
      rintro n x w5 t ⟨k, rfl, hk, ht, rfl, hall, rfl⟩
      refine condB_d (fun hlt => ?_) (fun hge => ?_)
      · refine byte_i hB (by omega) hlt fun ch hch => ?_
        rw [Int.toNat_natCast] at hch
        refine Digit_ok ?_
        cases hok : okD base ch with
        | false =>
          refine condB_d (fun _ => ?_) (fun h => absurd (dig_ge hok (by omega)) h)
          have := K1 w5 c04
          unfold numL at this
          rw [if_neg hne, if_pos (all_bad hch hok)] at this
          exact this
        | true =>
          obtain ⟨g1, g2⟩ := dig_of hok
          rw [g1]
          simp only
          refine condB_d (fun h => by omega) (fun _ => ?_)
          refine ⟨_, by omega, k + 1, by rw [w64_of] <;> omega, by omega, rfl, ?_, ?_, trivial⟩
          · rw [take_snoc hch, val_snoc, ← min_step (by omega)]
            generalize val base ((bl d).take k) = v
            have hmul : min v 1114112 * base ≤ 1114112 * 16 := Nat.mul_le_mul (Nat.min_le_right _ _) (by omega)
            have e1 : ((min v 1114112 : Nat) : Int) * (base : Int) = ((min v 1114112 * base : Nat) : Int) := by rw [Int.natCast_mul]
            rw [e1]
            generalize min v 1114112 * base = q at *
            have hd16 := dig_lt ch
            have e2 : w64 ((q : Nat) : Int) = (q : Int) := w64_of (by omega) (by omega)
            rw [e2]
            have e3 : w64 ((q : Int) + (dig ch : Nat)) = ((q + dig ch : Nat) : Int) := by rw [w64_of] <;> omega
            rw [e3]
            split <;> omega
          · rw [all_snoc hch, hall, hok]; rfl
      · have hkk : k = d.size := by omega
        subst hkk
        rw [List.take_of_length_le (by omega)] at hall ⊢
        have e1 : IntKind.i32.wrap ((min (val base (bl d)) 1114112 : Nat) : Int) = ((min (val base (bl d)) 1114112 : Nat) : Int) := wrap_i32 _ (by omega) (by omega)
        rw [e1]
        refine IsChar_ok fun w7 hc7 => ?_
        have K1 := K1 w7 (c04.trans0 hc7)
        unfold numL at K1
        rw [if_neg hne, if_neg (by rw [hall]; decide)] at K1
        rw [min_chr]
        refine condB_not (fun hc => ?_) (fun hc => ?_)
        · rw [hc] at K1; exact K1
        · rw [hc] at K1
          have hlt : val base (bl d) < 1114112 := by
            rcases Nat.lt_or_ge (val base (bl d)) 1114112 with h | h
            · exact h
            · rw [chr_big h] at hc; cases hc
          rw [Nat.min_eq_left (by omega)]
          exact K1
  refine CutPrefix_ok (fun t ht hbt => ?_) (fun hf => ?_)
  · rw [if_pos ht] at K
    have htl : t.size ≤ s.size := by rw [← bl_len, ← bl_len s, hbt, List.length_drop]; omega
    have hbt' : bl t = (bl s).drop 1 := hbt
    refine withJ_i fun J4 hJ4 => ?_
    have core := core true J4 hJ4
    clear hJ4
    refine CutPrefix_ok (fun u hu hbu => ?_) (fun hf => ?_)
    · have hul : u.size ≤ t.size := by rw [← bl_len, ← bl_len t, hbu, List.length_drop]; omega
      have hbu' : bl u = (bl s).drop 2 := by
        have : bl u = (bl t).drop 1 := hbu
        rw [this, hbt', List.drop_drop]
      refine condB_i (fun _ => ?_) (fun h => by cases h)
      refine core u 16 w (.inr rfl) (by omega) (Chg.refl _ _) (fun h => by cases h) (fun _ => ?_)
      rw [hbu']
      rw [hbt'] at hu
      rw [if_pos hu] at K
      exact K
    · refine condB_i (fun h => by cases h) (fun _ => ?_)
      refine core t 10 w (.inl rfl) (by omega) (Chg.refl _ _) (fun h => by cases h) (fun _ => ?_)
      rw [hbt'] at hf ⊢
      rw [if_neg (by rw [show [120].isPrefixOf ((bl s).drop 1) = false from hf]; decide)] at K
      exact K
  · rw [if_neg (by rw [show [35].isPrefixOf (bl s) = false from hf]; decide)] at K
    refine withJ_i fun J4 hJ4 => ?_
    have core := core false J4 hJ4
    clear hJ4
    refine CutPrefix_ok (fun u hu hbu => ?_) (fun hf => ?_)
    · have hul : u.size ≤ s.size := by rw [← bl_len, ← bl_len s, hbu, List.length_drop]; omega
      refine condB_i (fun _ => ?_) (fun h => by cases h)
      exact core u 16 w (.inr rfl) (by omega) (Chg.refl _ _) (fun _ => K) (fun h => by cases h)
    · refine condB_i (fun h => by cases h) (fun _ => ?_)
      exact core s 10 w (.inl rfl) (by omega) (Chg.refl _ _) (fun _ => K) (fun h => by cases h)

/-- Where an answer says that the char ends. -/
def endI (i : Nat) (x : Nat × Nat × Nat) : Int := if x.2.2 = 0 then ((i + 1 + x.2.1 : Nat) : Int) else 0
theorem Expand_ok {p : Option Addr} {l c : Nat} {at_ : Int} {bs : List UInt8} {J : Int → Int → Int → World → Prop} (h : Bytes w p l bs) (hlc : l ≤ c) (hm : l ≤ 140737488355328)
    (K1 : (at_ < 0 ∨ (l : Int) ≤ at_ ∨ bs[at_.toNat]? ≠ some 38) → J 0 0 1 w)
    (K2 : ∀ i : Nat, at_ = i → i < l → bs[i]? = some 38 → ∀ w', Chg No w w' → J ((expL (bs.drop (i + 1))).1 : Int) (endI i (expL (bs.drop (i + 1)))) ((expL (bs.drop (i + 1))).2.2 : Int) w') :
    callJ Tryd.prog fn_refer_Expand #[.slice p l c, .int .i64 at_] w [.one (.int .i32), .one (.int .i64), .one (.int .i64)] J := by
  refine c_refer_Expand ?_
  unfold VC_refer_Expand
  have hbl := h.len
  refine withJ_i fun J24 hJ24 => ?_
  have kT : (at_ < 0 ∨ (l : Int) ≤ at_ ∨ bs[at_.toNat]? ≠ some 38) → J24 true w := by
    intro hh; subst hJ24; exact condB_i (fun _ => K1 hh) (fun h => by cases h)
  have kF : ∀ i : Nat, at_ = i → i < l → bs[i]? = some 38 → J24 false w := by
    intro i hi hil hb; subst hJ24
    refine condB_i (fun h => by cases h) (fun _ => ?_)
    have K3 := K2 i hi hil hb
    subst hi
    refine cutB h (i := i) (j := l) (by omega) (Nat.le_refl _) hlc rfl rfl fun q27 h27 _ => ?_
    have hd : (bs.drop i).take (l - i) = 38 :: bs.drop (i + 1) := by
      obtain ⟨g1, g2⟩ := List.getElem?_eq_some_iff.1 hb
      rw [List.take_of_length_le (by rw [List.length_drop]; omega), List.drop_eq_getElem_cons g1, g2]
    rw [hd] at h27
    refine IndexB_ok (v := 59) h27 ?_
    by_cases hx : 59 ∈ bs.drop (i + 1)
    · obtain ⟨s, r, hsr, hs⟩ := List.eq_append_cons_of_mem hx
      rw [hsr] at h27 K3 ⊢
      rw [expL_eq hs] at K3
      have hlen := congrArg List.length hsr
      rw [List.length_drop, List.length_append, List.length_cons] at hlen
      rw [show (38 : UInt8) :: (s ++ 59 :: r) = (38 :: s) ++ 59 :: r from rfl, index_some (by simp [hs]), List.length_cons]
      refine condB_d (fun h => by omega) (fun _ => ?_)
      have e1 : w64 ((i : Int) + 1) = ((i + 1 : Nat) : Int) := by rw [w64_of] <;> omega
      have e2 : w64 ((i : Int) + ((s.length + 1 : Nat) : Int)) = ((i + 1 + s.length : Nat) : Int) := by rw [w64_of] <;> omega
      have e3 : w64 (((i + 1 + s.length : Nat) : Int) + 1) = ((i + 1 + s.length + 1 : Nat) : Int) := by rw [w64_of] <;> omega
      rw [e1, e2, e3]
      refine cutB h (i := i + 1) (j := i + 1 + s.length) (by omega) (by omega) hlc rfl rfl fun q38 h38 _ => ?_
      have hs2 : (bs.drop (i + 1)).take (i + 1 + s.length - (i + 1)) = s := by
        rw [hsr, show i + 1 + s.length - (i + 1) = s.length from by omega, List.take_left' rfl]
      rw [hs2] at h38
      refine bytesOf_i h38 ?_
      have hsz : (⟨s.toArray⟩ : ByteArray).size = s.length := by rw [← bl_len]
      refine Meant_ok (by rw [hsz]; omega) fun w3 hc3 => ?_
      have K3 := K3 w3 hc3
      rw [show bl ⟨s.toArray⟩ = s from rfl]
      unfold selL endI at K3
      refine condB_ne (fun hne => ?_) (fun he => ?_)
      · have hne' : ¬ (meantL s).2 = 0 := by omega
        rw [if_neg hne'] at K3
        simp only at K3
        rw [if_neg hne'] at K3
        exact K3
      · have he' : (meantL s).2 = 0 := by omega
        rw [if_pos he'] at K3
        simp only [if_true] at K3
        exact K3
    · rw [expL_none hx] at K3
      rw [index_none (by simpa using hx)]
      exact condB_i (fun _ => K3 w (Chg.refl _ _)) (fun h => by simp at h)
  clear hJ24
  refine condB_d (fun h1 => kT (.inl h1)) (fun h1 => ?_)
  refine condB_d (fun h2 => kT (.inr (.inl h2))) (fun h2 => ?_)
  refine byte_i h (by omega) (by omega) fun b hb => ?_
  by_cases h38 : b = 38
  · rw [h38] at hb ⊢
    exact kF at_.toNat (by omega) (by omega) hb
  · have e : (((b.toNat : Nat) : Int) != 38) = true := by
      rw [bne_iff_ne]
      intro e
      exact h38 (UInt8.toNat_inj.1 (by show b.toNat = 38; omega))
    rw [e]
    refine kT (.inr (.inr ?_))
    rw [hb]
    intro e2; exact h38 (Option.some.inj e2)
theorem Word_ok {p : Option Addr} {l c i : Nat} {bs : List UInt8} {J : Int → Int → World → Prop} (h : Bytes w p l bs) (hlc : l ≤ c) (hm : l ≤ 140737488355328) (hi : i ≤ l)
    (K : J (match docWord (bs.drop i) with | some q => (q.1 : Int) | none => 0) (match docWord (bs.drop i) with | some q => ((i + q.2 : Nat) : Int) | none => 0) w) :
    callJ Tryd.prog fn_ref02_word #[.slice p l c, .int .i64 (i : Int)] w [.one (.int .i64), .one (.int .i64)] J := by
  refine c_ref02_word ?_
  unfold VC_ref02_word
  have hbl := h.len
  refine ⟨fun k w' t => ∃ k' : Nat, k = k' ∧ k' ≤ 5 ∧ t = 5 - k' ∧ w' = w ∧ ∀ q ∈ wordsL.take k', (q.1 ++ [59]).isPrefixOf (bs.drop i) = false, ⟨_, 0, rfl, by decide, rfl, rfl, by simp⟩, ?_⟩
  rintro k w1 t ⟨k, rfl, hk, rfl, rfl, hno⟩
  refine condB_d (fun hlt => ?_) (fun hge => ?_)
  · have hkl : k < wordsL.length := by show k < 5; omega
    have hq := List.getElem?_eq_getElem (l := wordsL) hkl
    generalize wordsL[k] = q at hq
    have hcs : ∀ (k : Nat) (q : List UInt8 × Nat), wordsL[k]? = some q → ([.string ⟨#[108, 116, 59]⟩, .string ⟨#[103, 116, 59]⟩, .string ⟨#[97, 109, 112, 59]⟩, .string ⟨#[97, 112, 111, 115, 59]⟩, .string ⟨#[113, 117, 111, 116, 59]⟩] : List Value)[k]? = some (.string (mkB (q.1 ++ [59]))) ∧ ([.int .i64 60, .int .i64 62, .int .i64 38, .int .i64 39, .int .i64 34] : List Value)[k]? = some (.int .i64 (q.2 : Nat)) := by
      intro k q hq
      match k with
      | 0 | 1 | 2 | 3 | 4 => simp [wordsL] at hq; subst hq; exact ⟨rfl, rfl⟩
      | k + 5 => simp [wordsL] at hq
    obtain ⟨g1, g2⟩ := hcs k q hq
    have hql : q.1.length ≤ 4 := by
      have : ∀ q ∈ wordsL, q.1.length ≤ 4 := by decide
      exact this q (List.mem_of_getElem? hq)
    have hsz : (mkB (q.1 ++ [59])).size = q.1.length + 1 := by rw [← bl_len, bl_mkB]; simp
    refine ⟨mkB (q.1 ++ [59]), by omega, by omega, by simpa using g1, ?_⟩
    show withJ _ _
    rw [hsz]
    have e1 : w64 ((i : Int) + ((q.1.length + 1 : Nat) : Int)) = ((i + (q.1.length + 1) : Nat) : Int) := by rw [w64_of] <;> omega
    rw [e1]
    refine withJ_i fun J33 hJ33 => ?_
    have kT : (q.1 ++ [59]).isPrefixOf (bs.drop i) = true → J33 true w1 := by
      intro hp; subst hJ33
      refine condB_i (fun _ => ?_) (fun h => by cases h)
      refine ⟨(q.2 : Nat), by omega, by omega, by simpa using g2, ?_⟩
      have hd : docWord (bs.drop i) = some (q.2, q.1.length + 1) := by
        unfold docWord
        have : List.find? (fun p => (p.1 ++ [59]).isPrefixOf (bs.drop i)) wordsL = some q := by
          obtain ⟨x1, x2⟩ := List.getElem?_eq_some_iff.1 hq
          rw [← List.take_append_drop k wordsL, List.find?_append, List.find?_eq_none.2 (by intro a ha; rw [hno a ha]; decide), List.drop_eq_getElem_cons x1, x2]
          simp only [Option.none_or]
          exact List.find?_cons_of_pos (p := fun p : List UInt8 × Nat => (p.1 ++ [59]).isPrefixOf (bs.drop i)) hp
        rw [this]; rfl
      rw [hd] at K
      exact K
    have kF : (q.1 ++ [59]).isPrefixOf (bs.drop i) = false → J33 false w1 := by
      intro hp; subst hJ33
      refine condB_i (fun h => by cases h) (fun _ => ?_)
      refine ⟨_, by omega, k + 1, by rw [w64_of] <;> omega, by omega, rfl, rfl, ?_⟩
      intro a ha
      obtain ⟨x1, x2⟩ := List.getElem?_eq_some_iff.1 hq
      rw [List.take_succ_eq_append_getElem x1, x2, List.mem_append, List.mem_singleton] at ha
      rcases ha with ha | rfl
      · exact hno a ha
      · exact hp
    clear hJ33
    refine condB_d (fun hle => ?_) (fun hgt => ?_)
    · refine cutB h (i := i) (j := i + (q.1.length + 1)) (by omega) (by omega) hlc rfl rfl fun q29 h29 _ => ?_
      refine bytesOf_i h29 ?_
      rw [beqS, show i + (q.1.length + 1) - i = q.1.length + 1 from by omega]
      by_cases hp : (q.1 ++ [59]).isPrefixOf (bs.drop i) = true
      · rw [decide_eq_true (show (⟨((bs.drop i).take (q.1.length + 1)).toArray⟩ : ByteArray) = mkB (q.1 ++ [59]) from by
          have := List.prefix_iff_eq_take.1 (List.isPrefixOf_iff_prefix.1 hp)
          rw [List.length_append, List.length_singleton] at this
          unfold mkB; rw [← this])]
        exact kT hp
      · rw [decide_eq_false (fun e => hp (by
          rw [List.isPrefixOf_iff_prefix, List.prefix_iff_eq_take]
          have := congrArg bl e
          rw [bl_mkB] at this
          rw [← this]; simp [bl]))]
        exact kF (Bool.eq_false_iff.2 hp)
    · refine kF ?_
      rw [Bool.eq_false_iff]
      intro hp
      have := (List.isPrefixOf_iff_prefix.1 hp).length_le
      rw [List.length_append, List.length_drop, List.length_singleton] at this
      omega
  · have hk5 : k = 5 := by omega
    subst hk5
    have hd : docWord (bs.drop i) = none := by
      unfold docWord
      rw [Option.map_eq_none_iff, List.find?_eq_none]
      intro a ha
      rw [hno a (by simpa [wordsL] using ha)]; decide
    rw [hd] at K
    exact K
end
end Go.Proofs.YtdjehimkijlhgaaDoor

/-
  The document's Expand.
-/

set_option linter.unusedVariables false
set_option linter.unusedSimpArgs false
namespace Go.Vc
open Go Go.Lib
theorem hex_ok {c : UInt8} {base : Nat} {r : Int} (hr : r = (match hexV c with | some d => (d : Int) | none => -1)) : (0 ≤ r ∧ r < base) ↔ okD base c = true := by
  unfold okD
  cases h1 : hexV c with
  | none => rw [h1] at hr; simp only at hr; subst hr; simp
  | some d =>
    rw [h1] at hr; simp only at hr; subst hr
    simp only [decide_eq_true_eq]
    omega
theorem cT {A B : Prop} (h : A) : condB true A B := h
theorem cF {A B : Prop} (h : B) : condB false A B := h
theorem drop_get {y : List UInt8} {j k : Nat} : (y.drop j)[k]? = y[j + k]? := by rw [List.getElem?_drop]
theorem pre1_iff {a : UInt8} {y : List UInt8} : [a].isPrefixOf y = true ↔ y[0]? = some a := by
  cases y with
  | nil => exact ⟨fun h => (by cases h), fun h => (by cases h)⟩
  | cons b y =>
    show (a == b && true) = true ↔ some b = some a
    rw [Bool.and_true, beq_iff_eq, Option.some.injEq]
    exact eq_comm
theorem u8of {c : UInt8} (d : UInt8) (h : (c.toNat : Int) = (d.toNat : Nat)) : c = d := UInt8.toNat_inj.1 (by omega)
theorem docWord_pos {x : List UInt8} {q : Nat × Nat} (h : docWord x = some q) : 1 ≤ q.2 ∧ q.2 ≤ 5 := by
  unfold docWord at h
  obtain ⟨p, hp, rfl⟩ := Option.map_eq_some_iff.1 h
  have : ∀ q ∈ wordsL, q.1.length ≤ 4 := by decide
  have := this p (List.mem_of_find?_eq_some hp)
  show 1 ≤ p.1.length + 1 ∧ p.1.length + 1 ≤ 5
  omega
theorem docNum_run {base k : Nat} {y : List UInt8} (hk : k ≤ y.length) (ha : (y.take k).all (okD base) = true) (hx : ∀ b, y[k]? = some b → okD base b = false) :
    docNum base y = if k = 0 ∨ y[k]? ≠ some 59 then (0, 0, 22) else if chr (val base (y.take k) : Nat) then (val base (y.take k), k + 1, 0) else (0, 0, 21) := by
  unfold docNum
  rw [tw_len hk ha hx]
end Go.Vc
namespace Go.Proofs.YtdjehimkijlhgaaDoor
open Go Go.Vc Go.Lib
section
variable {w : World}
set_option maxRecDepth 100000 in
theorem RExpand_ok {p : Option Addr} {l c i : Nat} {bs : List UInt8} {J : Int → Int → Int → World → Prop} (h : Bytes w p l bs) (hlc : l ≤ c) (hm : l ≤ 140737488355328) (hi : i < l)
    (K : J ((expL (bs.drop (i + 1))).1 : Int) (endI i (expL (bs.drop (i + 1)))) ((expL (bs.drop (i + 1))).2.2 : Int) w) :
    callJ Tryd.prog fn_ref02_Expand #[.slice p l c, .int .i64 (i : Int)] w [.one (.int .i64), .one (.int .i64), .one (.int .i64)] J := by
  refine c_ref02_Expand ?_
  unfold VC_ref02_Expand
  generalize hQ : (2097152 : Int) = Q
  have hbl := h.len
  rw [← docL_exp] at K
  unfold docL at K
  have e1 : w64 ((i : Int) + 1) = ((i + 1 : Nat) : Int) := by rw [w64_of] <;> omega
  have e2 : w64 (((i + 1 : Nat) : Int) + 1) = ((i + 2 : Nat) : Int) := by rw [w64_of] <;> omega
  have e3 : w64 (((i + 2 : Nat) : Int) + 1) = ((i + 3 : Nat) : Int) := by rw [w64_of] <;> omega
  simp only [e1, e2, e3]
  refine Word_ok h hlc hm (by omega) ?_
  cases hw : docWord (bs.drop (i + 1)) with
  | some q =>
    rw [hw] at K
    have := docWord_pos hw
    refine condB_d (fun _ => ?_) (fun h => by simp only at h; omega)
    exact K
  | none =>
    rw [hw] at K
    simp only at K ⊢
    refine condB_d (fun h => by omega) (fun _ => ?_)
    refine withJ_i fun J36 hJ36 => ?_
    have k36 : ∀ b, (b = true ↔ ¬ [35].isPrefixOf (bs.drop (i + 1)) = true) → J36 b w := by
      intro b hb; subst hJ36
      refine meetI hb (fun hn => ?_) (fun hy => ?_)
      · rw [if_neg hn] at K; exact K
      have hy := Decidable.not_not.1 hy
      rw [if_pos hy] at K
      rw [pre1_iff, drop_get, Nat.add_zero] at hy
      have hil : i + 1 < l := by
        have := (List.getElem?_eq_some_iff.1 hy).1; omega
      refine withJ_i fun J9 hJ9 => ?_
      have k9 : ∀ (j base : Nat), (base = 10 ∨ base = 16) → j ≤ l → (j = i + 2 ∨ j = i + 3) → (∀ m, m = docNum base (bs.drop j) → J (m.1 : Int) (if m.2.2 = 0 then ((j + m.2.1 : Nat) : Int) else 0) (m.2.2 : Int) w) → J9 (j : Int) (base : Int) w := by
        intro j base hbase hjl hj2 Kn; subst hJ9
        refine ⟨fun i9 n11 count12 w' t => ∃ k : Nat, i9 = ((j + k : Nat) : Int) ∧ j + k ≤ l ∧ t = l - (j + k) ∧ count12 = k ∧ w' = w ∧ ((bs.drop j).take k).all (okD base) = true ∧ ∃ d : Nat, n11 = d ∧ DocN (val base ((bs.drop j).take k)) d, ⟨_, 0, rfl, hjl, rfl, rfl, rfl, rfl, 0, rfl, by decide, .inl ⟨by show 0 < 2097152; decide, rfl⟩⟩, ?_⟩
        rintro i9 n11 count12 w4 t ⟨k, rfl, hk, rfl, rfl, rfl, hall, d, rfl, hd⟩
        refine withJ_i fun J72 hJ72 => ?_
        have k72t : ∀ ch, bs[j + k]? = some ch → okD base ch = true → J72 true w4 := by
          intro ch hch hok; subst hJ72
          refine cT ?_
          have g1 := (dig_of hok).1
          have g2 := (dig_of hok).2
          have hlt : j + k < l := by have := (List.getElem?_eq_some_iff.1 hch).1; omega
          have hch' : (bs.drop j)[k]? = some ch := by rw [drop_get]; exact hch
          have hstep := hd.step (base := base) (by omega) (by omega) (dig_lt ch)
          rw [← val_snoc, ← take_snoc hch'] at hstep
          refine withJ_i fun J11 hJ11 => ?_
          have k11 : ∀ n : Int, n = (((if d < 2097152 then base * d + dig ch else d) : Nat) : Int) → J11 n w4 := by
            intro n hn; subst hJ11
            refine ⟨_, by omega, k + 1, by rw [w64_of] <;> omega, by omega, rfl, by rw [w64_of] <;> omega, rfl, by rw [all_snoc hch', hall, hok]; rfl, _, hn, hstep⟩
          clear hJ11
          refine condB_d (fun h2 => ?_) (fun h2 => ?_)
          · refine byte_i h (by omega) (by omega) fun ch2 hch2 => ?_
            rw [Int.toNat_natCast, hch] at hch2
            obtain rfl := Option.some.inj hch2
            refine Hex_ok ?_
            rw [g1]
            refine k11 _ ?_
            rw [if_pos (by omega)]
            have hm1 : base * d ≤ 16 * d := Nat.mul_le_mul_right _ (by omega)
            have e4 : (base : Int) * (d : Int) = ((base * d : Nat) : Int) := by rw [Int.natCast_mul]
            rw [e4]
            generalize base * d = q at *
            have := dig_lt ch
            rw [w64_of (n := (q : Int)) (by omega) (by omega), w64_of] <;> simp only <;> omega
          · exact k11 _ (by rw [if_neg (by omega)])
        have k72f : (∀ ch, bs[j + k]? = some ch → okD base ch = false) → J72 false w4 := by
          intro hno; subst hJ72
          refine condB_i (fun h => by cases h) (fun _ => ?_)
          have hrun := docNum_run (base := base) (y := bs.drop j) (k := k) (by rw [List.length_drop]; omega) hall (fun b hb => hno b (by rw [drop_get] at hb; exact hb))
          have Kn := Kn _ hrun.symm
          refine withJ_i fun J102 hJ102 => ?_
          have k102 : ∀ b, (b = true ↔ (k = 0 ∨ (bs.drop j)[k]? ≠ some 59)) → J102 b w4 := by
            intro b hb; subst hJ102
            refine meetI hb (fun hn => ?_) (fun hy => ?_)
            · rw [if_pos hn] at Kn; exact Kn
            · rw [if_neg hy] at Kn
              refine Char_ok ?_
              rw [hd.chr]
              refine condB_not (fun hc => ?_) (fun hc => ?_)
              · rw [hc] at Kn; exact Kn
              · rw [hc] at Kn
                rw [if_pos rfl] at Kn
                rw [hd.eq hc, w64_of (by omega) (by omega)]
                exact Kn
          clear hJ102
          rw [drop_get] at k102
          refine condB_eq (fun h0 => k102 _ (bT (.inl (by omega)))) (fun h0 => ?_)
          refine condB_d (fun h1 => k102 _ (bT (.inr (by rw [List.getElem?_eq_none (by omega)]; simp)))) (fun h1 => ?_)
          refine byte_i h (by omega) (by omega) fun ch hch => ?_
          rw [Int.toNat_natCast] at hch
          refine k102 _ ?_
          rw [hch]
          rw [bne_iff_ne]
          constructor
          · intro hne; right; intro e; obtain rfl := Option.some.inj e; exact hne rfl
          · rintro (h | hne)
            · omega
            · intro e; exact hne (by rw [u8of (c := ch) 59 (by show (ch.toNat : Int) = 59; omega)])
        clear hJ72
        refine condB_d (fun hlt => ?_) (fun hge => k72f (by intro ch hch; rw [List.getElem?_eq_none (by omega)] at hch; cases hch))
        refine byte_i h (by omega) (by omega) fun ch hch => ?_
        rw [Int.toNat_natCast] at hch
        refine Hex_ok ?_
        generalize hr : (match hexV ch with | some d => (d : Int) | none => -1) = r
        have hiff := hex_ok (base := base) hr.symm
        refine condB_d (fun h0 => ?_) (fun h0 => ?_)
        · have h0 : 0 ≤ r := by rw [← hr]; exact h0
          refine byte_i h (by omega) (by omega) fun ch2 hch2 => ?_
          rw [Int.toNat_natCast, hch] at hch2
          obtain rfl := Option.some.inj hch2
          refine Hex_ok ?_
          show J72 (decide ((match hexV ch with | some d => (d : Int) | none => -1) < (base : Int))) _
          rw [hr]
          cases hok : okD base ch with
          | true => rw [decide_eq_true (hiff.2 hok).2]; exact k72t ch hch hok
          | false =>
            rw [decide_eq_false (fun hlt => by rw [hiff.1 ⟨h0, hlt⟩] at hok; cases hok)]
            exact k72f fun c2 h2 => by rw [hch] at h2; obtain rfl := Option.some.inj h2; exact hok
        · have h0 : ¬ 0 ≤ r := by rw [← hr]; exact h0
          refine k72f fun c2 h2 => ?_
          rw [hch] at h2; obtain rfl := Option.some.inj h2
          rw [Bool.eq_false_iff]; intro hok; exact h0 (hiff.2 hok).1
      clear hJ9
      refine withJ_i fun J49 hJ49 => ?_
      have k49 : ∀ b, (b = true ↔ [120].isPrefixOf ((bs.drop (i + 1)).drop 1) = true) → J49 b w := by
        intro b hb; subst hJ49
        refine meetI hb (fun hp => ?_) (fun hn => ?_)
        · rw [if_pos hp, List.drop_drop] at K
          rw [pre1_iff, List.drop_drop, drop_get] at hp
          have := (List.getElem?_eq_some_iff.1 hp).1
          refine k9 (i + 3) 16 (.inr rfl) (by omega) (.inr rfl) fun m hm2 => ?_
          rw [show i + 1 + 2 = i + 3 from rfl, ← hm2] at K
          unfold shiftL endI at K
          split
          · rename_i h0
            rw [if_pos h0] at K
            simp only [if_true] at K
            rw [h0, show i + 3 + m.2.1 = i + 1 + (2 + m.2.1) from by omega]
            exact K
          · rename_i h0
            rw [if_neg h0] at K
            simp only at K
            rw [if_neg h0] at K
            have hm1 : m.1 = 0 := by
              rw [hm2] at h0 ⊢
              unfold docNum at h0 ⊢
              simp only at h0 ⊢
              repeat' split
              all_goals simp_all
            rw [hm1]
            exact K
        · rw [if_neg hn, List.drop_drop] at K
          refine k9 (i + 2) 10 (.inl rfl) (by omega) (.inl rfl) fun m hm2 => ?_
          rw [show i + 1 + 1 = i + 2 from rfl, ← hm2] at K
          unfold shiftL endI at K
          split
          · rename_i h0
            rw [if_pos h0] at K
            simp only [if_true] at K
            rw [h0, show i + 2 + m.2.1 = i + 1 + (1 + m.2.1) from by omega]
            exact K
          · rename_i h0
            rw [if_neg h0] at K
            simp only at K
            rw [if_neg h0] at K
            have hm1 : m.1 = 0 := by
              rw [hm2] at h0 ⊢
              unfold docNum at h0 ⊢
              simp only at h0 ⊢
              repeat' split
              all_goals simp_all
            rw [hm1]
            exact K
      clear hJ49
      refine condB_d (fun h1 => ?_) (fun h1 => k49 _ (bF (by rw [pre1_iff, List.drop_drop, drop_get, List.getElem?_eq_none (by omega)]; simp)))
      refine byte_i h (by omega) (by omega) fun ch hch => ?_
      rw [Int.toNat_natCast] at hch
      refine k49 _ (bQ ?_)
      rw [pre1_iff, List.drop_drop, drop_get, show i + 1 + 1 + 0 = i + 2 from rfl, hch]
      exact ⟨fun e => by rw [u8of (c := ch) 120 (by show (ch.toNat : Int) = 120; omega)], fun e => by obtain rfl := Option.some.inj e; rfl⟩
    clear hJ36
    refine condB_d (fun h1 => k36 _ (bT (by rw [pre1_iff, drop_get, List.getElem?_eq_none (by omega)]; simp))) (fun h1 => ?_)
    refine byte_i h (by omega) (by omega) fun ch hch => ?_
    rw [Int.toNat_natCast] at hch
    refine k36 _ ?_
    rw [bne_iff_ne, pre1_iff, drop_get, Nat.add_zero, hch]
    exact ⟨fun hne e => by obtain rfl := Option.some.inj e; exact hne rfl, fun hne e => hne (by rw [u8of (c := ch) 35 (by show (ch.toNat : Int) = 35; omega)])⟩
end
end Go.Proofs.YtdjehimkijlhgaaDoor

/-
  refer.read.
-/

set_option linter.unusedVariables false
set_option linter.unusedSimpArgs false
namespace Go.Vc
open Go Go.Lib
theorem enc_le {c : Nat} (h : c < 128) : (encL c).length = 1 := by unfold encL; rw [if_pos h]; rfl
theorem enc_rd (y : List UInt8) (h : (rd y).2 ≠ 0) : (encL (rd y).1).length ≤ (rd y).2 := by
  rcases rd_facts y with ⟨h1, _⟩ | ⟨h1, h2⟩ | h1
  · exact absurd h1 h
  · rw [h1]; simp only; rw [enc_le h2]; exact Nat.le_refl _
  · unfold encL
    generalize (rd y).1 = c at *
    generalize (rd y).2 = n at *
    repeat' split
    all_goals simp only [List.length_cons, List.length_nil]
    all_goals omega
theorem exp_four {x : List UInt8} (h : (expL x).2.2 = 0) : 3 ≤ (expL x).2.1 := by
  by_cases hx : 59 ∈ x
  · obtain ⟨s, r, rfl, hs⟩ := List.eq_append_cons_of_mem hx
    rw [expL_eq hs] at h ⊢
    unfold selL at h ⊢
    split
    · rename_i h2
      show 3 ≤ s.length + 1
      have : 2 ≤ s.length := by
        match s, h2 with
        | [], h2 => simp [meantL, wordL, wordsL, hashL] at h2
        | [a], h2 =>
          exfalso
          unfold meantL at h2
          have : wordL [a] = none := by simp [wordL, wordsL]
          rw [this] at h2
          unfold hashL at h2
          simp only at h2
          split at h2
          · simp [numL] at h2
          · cases h2
        | a :: b :: s, _ => simp
      omega
    · rename_i h2; rw [if_neg h2] at h; exact absurd h h2
  · rw [expL_none hx] at h; cases h
theorem stepL_out {value : Bool} {y : List UInt8} (h : (stepL value y).2.2 = 0) : (stepL value y).1.length ≤ (stepL value y).2.1 := by
  have h5 := encL_len (expL (y.drop 1)).1
  unfold stepL at h ⊢
  by_cases h1 : (rd y).2 = 0
  · rw [if_pos h1] at h; cases h
  have h6 := enc_rd y h1
  rw [if_neg h1] at h ⊢
  by_cases h2 : chr (rd y).1 = false
  · rw [if_pos h2] at h; cases h
  rw [if_neg h2] at h ⊢
  split at h
  · cases h
  · rename_i h3
    rw [if_neg h3]
    split
    · split
      · rename_i h7; have := exp_four h7; show (encL _).length ≤ 1 + _; omega
      · rename_i h4 h5
        rw [if_pos h4, if_neg h5] at h
        exact absurd h h5
    · split
      · show 1 ≤ (rd y).2; omega
      · exact h6
theorem rune32 : bl (Utf8.encode 32) = [32] := by rw [bl_encode]; decide
theorem pre3 {y : List UInt8} (h : (rd y).1 = 38) (h2 : (rd y).2 ≠ 0) : (rd y).2 = 1 ∧ y[0]? = some 38 := by
  rcases rd_facts y with ⟨h1, _⟩ | ⟨h1, h3⟩ | h1
  · exact absurd h1 h2
  · rw [h1] at h ⊢
    refine ⟨rfl, ?_⟩
    cases y with
    | nil => simp [gB] at h
    | cons b r =>
      have h' : b.toNat = 38 := h
      rw [List.getElem?_cons_zero, u8of (c := b) 38 (by show (b.toNat : Int) = 38; omega)]
  · omega
end Go.Vc
namespace Go.Proofs.YtdjehimkijlhgaaDoor
open Go Go.Vc Go.Lib
section
variable {w : World}
theorem cvRune2 {r : Int} {K : ByteArray → World → Prop} (k : K (Utf8.encode r) w) : cvStrJ Tryd.prog T_int32 T_string (.int .i32 r) w K :=
  ⟨_, w, run_convert_int_string w T_int32 T_string .i32 r (by kernel_rfl) (by kernel_rfl), k⟩
theorem enc_chr {c : Nat} (h : chr (c : Int) = true) : bl (Utf8.encode (c : Int)) = encL c := by
  have := chr_le h
  rw [bl_encode, if_pos ((valid_iff _).2 (by omega)), Int.toNat_natCast]
set_option maxRecDepth 100000 in
theorem ReadC_ok {p : Option Addr} {l c : Nat} {bs : List UInt8} {value : Bool} {J : ByteArray → Int → Int → World → Prop} (h : Bytes w p l bs) (hlc : l ≤ c) (hm : l ≤ 140737488355328) (T : Tabs w)
    (K : ∀ w', Chg No w w' → J (mkB (readL value 0 bs []).1) ((readL value 0 bs []).2.1 : Int) ((readL value 0 bs []).2.2 : Int) w') :
    callJ Tryd.prog fn_refer_read #[.slice p l c, .bool value] w [.one .str, .one (.int .i64), .one (.int .i64)] J := by
  refine c_refer_read ?_
  unfold VC_refer_read
  have hbl := h.len
  refine ⟨fun lp ll lc at8 w' t => ∃ (i : Nat) (out : List UInt8), at8 = i ∧ i ≤ l ∧ t = l - i ∧ Row w' T_uint8 1 lp ll lc (bcells out) ∧ ll = out.length ∧ out.length ≤ i ∧ fresh w lp ∧ Chg No w w' ∧ readL value 0 bs [] = readL value i (bs.drop i) out,
    ⟨_, 0, [], rfl, Nat.zero_le _, rfl, Row.nil _ _ _, rfl, Nat.le_refl _, (by rintro a ⟨⟩), Chg.refl _ _, rfl⟩, ?_⟩
  rintro lp ll lc at8 w1 t ⟨i, out, rfl, hi, rfl, hr, rfl, ho, hf, hc, hrd⟩
  have hB := h.chg hc (off_no _)
  have hyl : (bs.drop i).length = l - i := by rw [List.length_drop, hbl]
  refine condB_d (fun hlt => ?_) (fun hge => ?_)
  · refine Next_ok hB hlc hm (T.chg hc) fun w2 hc2 => ?_
    have c2 := hc.trans0 hc2
    have hy : bs.drop i ≠ [] := drop_ne (by omega)
    have hn : nxt bs (i : Int) = if (rd (bs.drop i)).2 = 0 then (0, 0, 20) else if chr (rd (bs.drop i)).1 = false then (0, 0, 21) else (((rd (bs.drop i)).1 : Int), (i : Int) + (rd (bs.drop i)).2, (0 : Int)) := by
      unfold nxt
      rw [if_neg (by omega), Int.toNat_natCast]
    have hle := rd_le _ hy
    have hsl := stepL_le (value := value) hy
    have bad : ∀ (e : Nat) (w3 : World), e ≠ 0 → (stepL value (bs.drop i)).2.2 = e → Chg No w w3 → J ⟨#[]⟩ (i : Int) (e : Int) w3 := by
      intro e w3 he hs c3
      have := K w3 c3
      rw [hrd, readL_err hy (by rw [hs]; exact he), hs] at this
      exact this
    refine withJ_i fun J9 hJ9 => ?_
    have k9 : ∀ (r : Int) (s : ByteArray) (next : Int) (w3 : World), bl (Utf8.encode r) = (stepL value (bs.drop i)).1 → (stepL value (bs.drop i)).2.2 = 0 → next = ((i + (stepL value (bs.drop i)).2.1 : Nat) : Int) → Chg No w1 w3 → J9 r next w3 := by
      intro r s next w3 hs h0 hnext c3; subst hJ9
      refine cvRune2 ?_
      have hsz : (Utf8.encode r).size = (stepL value (bs.drop i)).1.length := by rw [← bl_len, hs]
      have hpos := stepL_pos h0
      have hout := stepL_out h0
      refine appStr (w0 := w) (hr.chg c3 (off_no _)) (by omega) hf (hc.trans0 c3) fun p' c' w5 hr5 hf5 hc5 => ?_
      refine ⟨_, ?_, i + (stepL value (bs.drop i)).2.1, out ++ (stepL value (bs.drop i)).1, hnext, by omega, rfl, ?_, ?_, ?_, hf5, hc5, ?_⟩
      · omega
      · rw [← hs]; exact hr5
      · rw [List.length_append, hsz]
      · rw [List.length_append]; omega
      · rw [hrd, readL_step hy h0, List.drop_drop]
    clear hJ9
    rw [hn]
    by_cases h1 : (rd (bs.drop i)).2 = 0
    · rw [if_pos h1]
      refine condB_i (fun _ => ?_) (fun h => by simp at h)
      exact bad 20 w2 (by decide) (by unfold stepL; rw [if_pos h1]) c2
    rw [if_neg h1]
    by_cases h2 : chr (rd (bs.drop i)).1 = false
    · rw [if_pos h2]
      refine condB_i (fun _ => ?_) (fun h => by simp at h)
      exact bad 21 w2 (by decide) (by unfold stepL; rw [if_neg h1, if_pos h2]) c2
    rw [if_neg h2]
    refine condB_i (fun h => by simp at h) (fun _ => ?_)
    have h2' : chr (rd (bs.drop i)).1 = true := by simpa using h2
    refine withJ_i fun J28 hJ28 => ?_
    have k28 : ∀ (b : Bool) (w3 : World), (b = true ↔ ((rd (bs.drop i)).1 = 60 ∨ (value = false ∧ [93, 93, 62].isPrefixOf (bs.drop i) = true))) → Chg No w1 w3 → J28 b w3 := by
      intro b w3 hb c3; subst hJ28
      refine meetI hb (fun hp => ?_) (fun hn => ?_)
      · exact bad 23 w3 (by decide) (by unfold stepL; rw [if_neg h1, if_neg h2, if_pos hp]) (hc.trans0 c3)
      refine condB_eq (fun h38 => ?_) (fun h38 => ?_)
      · have h38' : (rd (bs.drop i)).1 = 38 := by omega
        obtain ⟨q1, q2⟩ := pre3 h38' h1
        rw [drop_get, Nat.add_zero] at q2
        have hst : stepL value (bs.drop i) = if (expL (bs.drop (i + 1))).2.2 = 0 then (encL (expL (bs.drop (i + 1))).1, 1 + (expL (bs.drop (i + 1))).2.1, 0) else ([], 0, (expL (bs.drop (i + 1))).2.2) := by
          unfold stepL; rw [if_neg h1, if_neg h2, if_neg hn, if_pos h38', List.drop_drop]
        refine Expand_ok (hB.chg c3 (off_no _)) hlc hm (fun hbad => ?_) fun j hj hjl hb2 w4 hc4 => ?_
        · exfalso
          rw [Int.toNat_natCast] at hbad
          rcases hbad with h | h | h
          · omega
          · omega
          · exact h q2
        · have hij : i = j := by omega
          subst hij
          refine condB_ne (fun hne => ?_) (fun he => ?_)
          · have hne' : ¬ (expL (bs.drop (i + 1))).2.2 = 0 := by omega
            rw [if_neg hne'] at hst
            exact bad _ w4 hne' (by rw [hst]) ((hc.trans0 c3).trans0 hc4)
          · have he' : (expL (bs.drop (i + 1))).2.2 = 0 := by omega
            rw [if_pos he'] at hst
            refine k9 _ .empty _ w4 ?_ (by rw [hst]) ?_ (c3.trans0 hc4)
            · rw [enc_chr (expL_chr he'), hst]
            · unfold endI; rw [if_pos he', hst, Nat.add_assoc]
      · have h38' : ¬ (rd (bs.drop i)).1 = 38 := by omega
        refine withJ_i fun J58 hJ58 => ?_
        have k58 : ∀ b : Bool, (b = true ↔ (value = true ∧ ((rd (bs.drop i)).1 = 9 ∨ (rd (bs.drop i)).1 = 10 ∨ (rd (bs.drop i)).1 = 13))) → J58 b w3 := by
          intro b hb; subst hJ58
          refine meetI hb (fun hp => ?_) (fun hq => ?_)
          · have hst : stepL value (bs.drop i) = ([32], (rd (bs.drop i)).2, 0) := by
              unfold stepL; rw [if_neg h1, if_neg h2, if_neg hn, if_neg h38', if_pos hp]
            exact k9 _ .empty _ w3 (by rw [hst]; exact rune32) (by rw [hst]) (by rw [hst]; simp) c3
          · have hst : stepL value (bs.drop i) = (encL (rd (bs.drop i)).1, (rd (bs.drop i)).2, 0) := by
              unfold stepL; rw [if_neg h1, if_neg h2, if_neg hn, if_neg h38', if_neg hq]
            exact k9 _ .empty _ w3 (by rw [hst, enc_chr h2']) (by rw [hst]) (by rw [hst]; simp) c3
        clear hJ58
        refine condB_i (fun hv => ?_) (fun hv => k58 _ (bF (by simp [hv])))
        refine condB_eq (fun h => k58 _ (bT ⟨hv, by omega⟩)) (fun g1 => ?_)
        refine condB_eq (fun h => k58 _ (bT ⟨hv, by omega⟩)) (fun g2 => ?_)
        exact k58 _ (bQ ⟨fun h => ⟨hv, by omega⟩, fun h => by have := h.2; omega⟩)
    clear hJ28
    refine condB_eq (fun h => k28 _ _ (bT (.inl (by omega))) hc2) (fun g1 => ?_)
    refine condB_not (fun hv => ?_) (fun hv => k28 _ _ (bF (by rw [hv]; simp; omega)) hc2)
    refine cutB (hB.chg hc2 (off_no _)) (i := i) (j := l) (by omega) (Nat.le_refl _) hlc rfl rfl fun q37 h37 _ => ?_
    rw [List.take_of_length_le (by omega)] at h37
    refine litB (bs := [93, 93, 62]) rfl fun b39 w10 hB10 _ hc10 => ?_
    refine HasPrefixB_ok (h37.chg hc10 (off_no _)) hB10 (by omega) ?_
    refine k28 _ _ ?_ (hc2.trans0 hc10)
    constructor
    · intro hp; exact .inr ⟨hv, hp⟩
    · rintro (h | h)
      · omega
      · exact h.2
  · have hil : i = l := by omega
    subst hil
    rw [List.drop_of_length_le (by omega), readL_nil] at hrd
    refine bytesOf_i hr.bytes ?_
    have := K w1 hc
    rw [hrd] at this
    exact this
end
end Go.Proofs.YtdjehimkijlhgaaDoor

/-
  References, plain: what is written is read again; two texts behind one another; numbers.
-/

set_option linter.unusedVariables false
set_option linter.unusedSimpArgs false
namespace Go.Vc
open Go Go.Lib
theorem ofN {n : Nat} {a : UInt8} (h : n = a.toNat) : UInt8.ofNat n = a := by subst h; simp
theorem rd_enc_eq {y : List UInt8} (hy : y ≠ []) (h : (rd y).2 ≠ 0) : encL (rd y).1 = y.take (rd y).2 ∧ ((rd y).1 < 55296 ∨ (57344 ≤ (rd y).1 ∧ (rd y).1 ≤ 1114111)) := by
  match y, hy with
  | a :: r, _ =>
    have ha := a.toNat_lt
    by_cases c0 : a.toNat < 128
    · rw [rd_ascii_cons a r c0]
      refine ⟨?_, .inl (by simp only; omega)⟩
      unfold encL
      simp only
      rw [if_pos c0, ofN rfl]; rfl
    unfold rd rdN at h ⊢
    rw [gB_cons0] at h ⊢
    rw [if_neg c0] at h ⊢
    by_cases c1 : a.toNat < 192
    · rw [if_pos c1] at h; exact absurd rfl h
    rw [if_neg c1] at h ⊢
    by_cases c2 : a.toNat < 224
    · rw [if_pos c2] at h ⊢
      split at h
      · rename_i g
        rw [if_pos g]
        match r, g with
        | [], g => simp at g
        | b :: r, g =>
          rw [gB_cons1] at g ⊢
          have hb := b.toNat_lt
          refine ⟨?_, .inl (by simp only; omega)⟩
          unfold encL
          simp only
          rw [if_neg (by omega), if_pos (by omega), ofN (a := a) (by omega), ofN (a := b) (by omega)]; rfl
      · exact absurd rfl h
    rw [if_neg c2] at h ⊢
    by_cases c3 : a.toNat < 240
    · rw [if_pos c3] at h ⊢
      split at h
      · rename_i g
        rw [if_pos g]
        match r, g with
        | [], g => simp at g
        | [_], g => simp at g
        | b :: c :: r, g =>
          rw [gB_cons1, gB_cons2] at g ⊢
          have hb := b.toNat_lt
          have hc := c.toNat_lt
          refine ⟨?_, by simp only; omega⟩
          unfold encL
          simp only
          rw [if_neg (by omega), if_neg (by omega), if_pos (by omega), ofN (a := a) (by omega), ofN (a := b) (by omega), ofN (a := c) (by omega)]; rfl
      · exact absurd rfl h
    rw [if_neg c3] at h ⊢
    by_cases c4 : a.toNat < 248
    · rw [if_pos c4] at h ⊢
      split at h
      · rename_i g
        rw [if_pos g]
        match r, g with
        | [], g => simp at g
        | [_], g => simp at g
        | [_, _], g => simp at g
        | b :: c :: d :: r, g =>
          rw [gB_cons1, gB_cons2, gB_cons3] at g ⊢
          have hb := b.toNat_lt
          have hc := c.toNat_lt
          have hd := d.toNat_lt
          refine ⟨?_, by simp only; omega⟩
          unfold encL
          simp only
          rw [if_neg (by omega), if_neg (by omega), if_neg (by omega), ofN (a := a) (by omega), ofN (a := b) (by omega), ofN (a := c) (by omega), ofN (a := d) (by omega)]; rfl
      · exact absurd rfl h
    · rw [if_neg c4] at h; exact absurd rfl h
/-- Another text that begins with the same bytes begins with the same char. -/
theorem rd_same {y z : List UInt8} (hy : y ≠ []) (h : (rd y).2 ≠ 0) (hz : z.take (rd y).2 = y.take (rd y).2) : rd z = rd y := by
  obtain ⟨h1, h2⟩ := rd_enc_eq hy h
  have h3 : (encL (rd y).1).length = (rd y).2 := by rw [h1, List.length_take]; have := rd_le y hy; omega
  have := rd_enc (rd y).1 h2 (z.drop (rd y).2)
  rw [h1, ← hz, List.take_append_drop] at this
  rw [this, hz, ← h1, h3]
def escT : Bool → List BP
  | false => txtP
  | true => quoP
theorem esc_key (v : Bool) : ∀ p ∈ escT v, p.1.toNat < 128 := by cases v <;> decide
theorem esc_val (v : Bool) : ∀ p ∈ escT v, ∀ x ∈ p.2, x.toNat < 128 := by cases v <;> decide
theorem esc_ne (v : Bool) : ∀ p ∈ escT v, p.2 ≠ [] := by cases v <;> decide
theorem look_mem {ps : List BP} {b : UInt8} {r : List UInt8} (h : lookT ps b = some r) : ∃ p ∈ ps, p.1 = b ∧ p.2 = r := by
  unfold lookT at h
  obtain ⟨p, hp, rfl⟩ := Option.map_eq_some_iff.1 h
  exact ⟨p, List.mem_of_find?_eq_some hp, by simpa using List.find?_some hp, rfl⟩
theorem look_big (v : Bool) {b : UInt8} (h : 128 ≤ b.toNat) : lookT (escT v) b = none := by
  cases hl : lookT (escT v) b with
  | none => rfl
  | some r =>
    obtain ⟨p, hp, rfl, _⟩ := look_mem hl
    have := esc_key v p hp; omega
/-- The first bytes that are no ASCII are the same. -/
theorem sub_high (v : Bool) : ∀ (n : Nat) (s : List UInt8), (∀ j, j < n → 128 ≤ gB (subst (escT v) s) j) → s.take n = (subst (escT v) s).take n ∧ n ≤ s.length
  | 0, _, _ => by simp
  | n + 1, [], h => by have := h 0 (by omega); simp [subst, gB] at this
  | n + 1, b :: s, h => by
    rw [subst_cons] at h ⊢
    cases hl : lookT (escT v) b with
    | some r =>
      exfalso
      rw [hl] at h
      obtain ⟨p, hp, rfl, rfl⟩ := look_mem hl
      have h0 := h 0 (by omega)
      have hne := esc_ne v p hp
      have hv := esc_val v p hp
      cases hr : p.2 with
      | nil => exact hne hr
      | cons x r =>
        rw [hr] at h0 hv
        simp only [Option.getD_some, List.cons_append] at h0
        rw [gB_cons0] at h0
        have := hv x (by simp); omega
    | none =>
      rw [hl] at h
      simp only [Option.getD_none, List.cons_append, List.nil_append] at h ⊢
      have ih := sub_high v n s (fun j hj => by
        have := h (j + 1) (by omega)
        simpa [gB] using this)
      exact ⟨by rw [List.take_succ_cons, List.take_succ_cons, ih.1], by have := ih.2; simp; omega⟩
theorem sub_ne (v : Bool) {s : List UInt8} (hs : s ≠ []) : subst (escT v) s ≠ [] := by
  match s, hs with
  | b :: r, _ =>
    rw [subst_cons]
    intro e
    have h1 := List.append_eq_nil_iff.1 e
    cases hl : lookT (escT v) b with
    | none => rw [hl] at h1; simp at h1
    | some m =>
      rw [hl] at h1
      obtain ⟨p, hp, rfl, rfl⟩ := look_mem hl
      exact esc_ne v p hp h1.1
/-- Before and behind, the same char or none. -/
theorem rd_sub_bad (v : Bool) {s : List UInt8} (hs : s ≠ []) (h : (rd s).2 = 0) : (rd (subst (escT v) s)).2 = 0 := by
  rcases Nat.eq_zero_or_pos (rd (subst (escT v) s)).2 with h0 | h0
  · exact h0
  exfalso
  have hne : (rd (subst (escT v) s)).2 ≠ 0 := by omega
  have hsn : subst (escT v) s ≠ [] := sub_ne v hs
  match s, hs with
  | b :: s, _ =>
    by_cases hb : b.toNat < 128
    · rw [rd_ascii_cons b s hb] at h; cases h
    have hall : ∀ j, j < (rd (subst (escT v) (b :: s))).2 → 128 ≤ gB (subst (escT v) (b :: s)) j := by
      have h1 : 128 ≤ gB (subst (escT v) (b :: s)) 0 := by
        rw [subst_cons, look_big v (by omega)]
        show 128 ≤ gB (b :: subst (escT v) s) 0
        rw [gB_cons0]; omega
      intro j hj
      rcases rd_facts (subst (escT v) (b :: s)) with ⟨q, _⟩ | ⟨q, _⟩ | q | q | q
      · exact absurd q hne
      · rw [q] at hj; simp only at hj; obtain rfl : j = 0 := by omega
        exact h1
      · have hj2 : j = 0 ∨ j = 1 := by omega
        rcases hj2 with rfl | rfl
        · exact h1
        · exact q.2.2.2.1
      · have hj2 : j = 0 ∨ j = 1 ∨ j = 2 := by omega
        rcases hj2 with rfl | rfl | rfl
        · exact h1
        · exact q.2.2.2.1
        · exact q.2.2.2.2.1
      · have hj2 : j = 0 ∨ j = 1 ∨ j = 2 ∨ j = 3 := by omega
        rcases hj2 with rfl | rfl | rfl | rfl
        · exact h1
        · exact q.2.2.2.1
        · exact q.2.2.2.2.1
        · exact q.2.2.2.2.2.1
    have := sub_high v _ _ hall
    have e := rd_same hsn hne this.1
    rw [e] at h
    exact hne h
theorem take_rd {y : List UInt8} (hy : y ≠ []) (h : (rd y).2 ≠ 0) : (∀ x ∈ y.take (rd y).2, 128 ≤ x.toNat) ∨ ∃ b r, y = b :: r ∧ b.toNat < 128 ∧ rd y = (b.toNat, 1) := by
  match y, hy with
  | b :: r, _ =>
    by_cases hb : b.toNat < 128
    · exact .inr ⟨b, r, rfl, hb, rd_ascii_cons b r hb⟩
    · left
      have key : ∀ j, j < (rd (b :: r)).2 → 128 ≤ gB (b :: r) j := by
        intro j hj
        have h1 : 128 ≤ gB (b :: r) 0 := by rw [gB_cons0]; omega
        rcases rd_facts (b :: r) with ⟨q, _⟩ | ⟨q, q2⟩ | q | q | q
        · exact absurd q h
        · omega
        · have hj2 : j = 0 ∨ j = 1 := by omega
          rcases hj2 with rfl | rfl
          · exact h1
          · exact q.2.2.2.1
        · have hj2 : j = 0 ∨ j = 1 ∨ j = 2 := by omega
          rcases hj2 with rfl | rfl | rfl
          · exact h1
          · exact q.2.2.2.1
          · exact q.2.2.2.2.1
        · have hj2 : j = 0 ∨ j = 1 ∨ j = 2 ∨ j = 3 := by omega
          rcases hj2 with rfl | rfl | rfl | rfl
          · exact h1
          · exact q.2.2.2.1
          · exact q.2.2.2.2.1
          · exact q.2.2.2.2.2.1
      intro x hx
      obtain ⟨j, hj⟩ := List.mem_iff_getElem?.1 hx
      rw [List.getElem?_take] at hj
      split at hj
      · rename_i hlt
        have := key j hlt
        rwa [gB_of hj] at this
      · cases hj
theorem esc_step (v : Bool) : ∀ p ∈ escT v, ∃ m, p.2 = 38 :: m ++ [59] ∧ (59 : UInt8) ∉ m ∧ meantL m = (p.1.toNat, 0) := by
  intro p hp
  cases v with
  | false =>
    simp only [escT, txtP, List.mem_cons, List.not_mem_nil, or_false] at hp
    rcases hp with rfl | rfl | rfl | rfl
    · exact ⟨[97, 109, 112], rfl, by decide, by decide⟩
    · exact ⟨[108, 116], rfl, by decide, by decide⟩
    · exact ⟨[103, 116], rfl, by decide, by decide⟩
    · exact ⟨[35, 49, 51], rfl, by decide, by decide⟩
  | true =>
    simp only [escT, quoP, List.mem_cons, List.not_mem_nil, or_false] at hp
    rcases hp with rfl | rfl | rfl | rfl | rfl | rfl
    · exact ⟨[97, 109, 112], rfl, by decide, by decide⟩
    · exact ⟨[108, 116], rfl, by decide, by decide⟩
    · exact ⟨[113, 117, 111, 116], rfl, by decide, by decide⟩
    · exact ⟨[35, 57], rfl, by decide, by decide⟩
    · exact ⟨[35, 49, 48], rfl, by decide, by decide⟩
    · exact ⟨[35, 49, 51], rfl, by decide, by decide⟩
theorem esc_chr (v : Bool) : ∀ p ∈ escT v, chr (p.1.toNat : Int) = true := by cases v <;> decide
theorem esc_all (v : Bool) : ∀ b : UInt8, lookT (escT v) b = none → b ≠ 38 ∧ b ≠ 60 ∧ b ≠ 13 ∧ (v = true → b ≠ 9 ∧ b ≠ 10 ∧ b ≠ 34) ∧ (v = false → b ≠ 62) := by
  intro b hb
  refine ⟨?_, ?_, ?_, ?_, ?_⟩
  · rintro rfl; cases v <;> revert hb <;> decide
  · rintro rfl; cases v <;> revert hb <;> decide
  · rintro rfl; cases v <;> revert hb <;> decide
  · rintro rfl; refine ⟨?_, ?_, ?_⟩ <;> (rintro rfl; revert hb; decide)
  · rintro rfl; rintro rfl; revert hb; decide
theorem esc_vals (v : Bool) : ∀ p ∈ escT v, ∀ x ∈ p.2, x ≠ 60 ∧ x ≠ 62 ∧ x ≠ 13 ∧ x ≠ 34 ∧ x ≠ 9 ∧ x ≠ 10 := by cases v <;> decide
/-- What is written holds none of the bytes that mean something. -/
theorem sub_free (v : Bool) : ∀ (s : List UInt8), ∀ x ∈ subst (escT v) s, x ≠ 60 ∧ x ≠ 13 ∧ (v = true → x ≠ 9 ∧ x ≠ 10 ∧ x ≠ 34) ∧ (v = false → x ≠ 62)
  | [], x, h => by simp [subst] at h
  | b :: s, x, h => by
    rw [subst_cons, List.mem_append] at h
    rcases h with h | h
    · cases hl : lookT (escT v) b with
      | some r =>
        rw [hl] at h
        obtain ⟨p, hp, rfl, rfl⟩ := look_mem hl
        have := esc_vals v p hp x h
        exact ⟨this.1, this.2.2.1, fun _ => ⟨this.2.2.2.2.1, this.2.2.2.2.2, this.2.2.2.1⟩, fun _ => this.2.1⟩
      | none =>
        rw [hl] at h
        obtain rfl : x = b := by simpa using h
        have := esc_all v x hl
        exact this.2
    · exact sub_free v s x h
theorem pre_mem {w x : List UInt8} {a : UInt8} (h : w.isPrefixOf x = true) (ha : a ∈ w) : a ∈ x := (List.isPrefixOf_iff_prefix.1 h).subset ha
theorem sub_pre (v : Bool) (s : List UInt8) : ¬ (v = false ∧ [93, 93, 62].isPrefixOf (subst (escT v) s) = true) := by
  rintro ⟨hv, hp⟩
  exact (sub_free v s 62 (pre_mem hp (by simp))).2.2.2 hv rfl
/-- What is written of one char is read as it. -/
theorem step_sub (v : Bool) {s : List UInt8} (hs : s ≠ []) :
    ((rd s).2 = 0 ∧ (stepL v (subst (escT v) s)).2.2 = 20) ∨ ((rd s).2 ≠ 0 ∧ chr (rd s).1 = false ∧ (stepL v (subst (escT v) s)).2.2 = 21)
    ∨ ((rd s).2 ≠ 0 ∧ chr (rd s).1 = true ∧ (stepL v (subst (escT v) s)).2.2 = 0 ∧ (stepL v (subst (escT v) s)).1 = s.take (rd s).2 ∧ (subst (escT v) s).drop (stepL v (subst (escT v) s)).2.1 = subst (escT v) (s.drop (rd s).2)) := by
  by_cases h0 : (rd s).2 = 0
  · exact .inl ⟨h0, by unfold stepL; rw [if_pos (rd_sub_bad v hs h0)]⟩
  right
  have hpre := sub_pre v s
  by_cases hsp : ∃ b r m, s = b :: r ∧ lookT (escT v) b = some m
  · obtain ⟨b, r, q, rfl, hl⟩ := hsp
    obtain ⟨p, hp, rfl, rfl⟩ := look_mem hl
    have hk := esc_key v p hp
    have hch := esc_chr v p hp
    obtain ⟨m, hm, h59, hmt⟩ := esc_step v p hp
    have hrd := rd_ascii_cons p.1 r hk
    have hsub : subst (escT v) (p.1 :: r) = 38 :: (m ++ 59 :: subst (escT v) r) := by
      rw [subst_cons, hl, Option.getD_some, hm]; simp
    rw [hsub] at hpre ⊢
    rw [hrd]
    refine .inr ⟨Nat.one_ne_zero, hch, ?_⟩
    have hr38 : rd (38 :: (m ++ 59 :: subst (escT v) r)) = (38, 1) := rd_ascii_cons 38 _ (by decide)
    have hex : expL (m ++ 59 :: subst (escT v) r) = (p.1.toNat, m.length + 1, 0) := by
      rw [expL_eq h59, hmt]; rfl
    have hst : stepL v (38 :: (m ++ 59 :: subst (escT v) r)) = (encL p.1.toNat, 1 + (m.length + 1), 0) := by
      unfold stepL
      rw [hr38]
      simp only
      rw [if_neg (by decide), if_neg (by decide), if_neg (fun h => h.elim (fun h => absurd h (by decide)) hpre), if_pos trivial]
      simp only [List.drop_succ_cons, List.drop_zero]
      rw [hex]; rfl
    rw [hst]
    refine ⟨rfl, ?_, ?_⟩
    · unfold encL
      simp only
      rw [if_pos hk, ofN rfl]; rfl
    · simp only [List.drop_succ_cons, List.drop_zero]
      rw [show 1 + (m.length + 1) = (m.length + 1) + 1 from by omega, List.drop_succ_cons, show m ++ 59 :: subst (escT v) r = (m ++ [59]) ++ subst (escT v) r from by simp]
      exact List.drop_left' (by simp)
  · have hnone : ∀ x ∈ s.take (rd s).2, lookT (escT v) x = none := by
      intro x hx
      rcases take_rd hs h0 with h | ⟨b, r, rfl, hb, hrd⟩
      · exact look_big v (h x hx)
      · rw [hrd] at hx
        obtain rfl : x = b := by simpa using hx
        cases hl : lookT (escT v) x with
        | none => rfl
        | some m => exact absurd ⟨x, r, m, rfl, hl⟩ hsp
    have hsub : subst (escT v) s = s.take (rd s).2 ++ subst (escT v) (s.drop (rd s).2) := by
      conv => lhs; rw [← List.take_append_drop (rd s).2 s, subst_append, subst_none _ hnone]
    have hlen : (s.take (rd s).2).length = (rd s).2 := by rw [List.length_take]; have := rd_le s hs; omega
    have hsame : rd (subst (escT v) s) = rd s := by
      refine rd_same hs h0 ?_
      rw [hsub, List.take_left' hlen]
    cases hc : chr ((rd s).1 : Int) with
    | false => exact .inl ⟨h0, rfl, by unfold stepL; rw [hsame, if_neg h0, if_pos hc]⟩
    | true =>
      refine .inr ⟨h0, rfl, ?_⟩
      have hsp2 : (rd s).1 ≠ 38 ∧ (rd s).1 ≠ 60 ∧ (v = true → ¬ ((rd s).1 = 9 ∨ (rd s).1 = 10 ∨ (rd s).1 = 13)) := by
        rcases take_rd hs h0 with h | ⟨b, r, rfl, hb, hrd⟩
        · have hy := (rd_enc_eq hs h0).1
          have : 128 ≤ (rd s).1 := by
            rcases Nat.lt_or_ge (rd s).1 128 with hlt | hge
            · exfalso
              unfold encL at hy
              rw [if_pos hlt] at hy
              have := h (UInt8.ofNat (rd s).1) (by rw [← hy]; simp)
              rw [toNat_of (by omega)] at this
              omega
            · exact hge
          refine ⟨by omega, by omega, fun _ => by omega⟩
        · rw [hrd]
          have := esc_all v b (hnone b (by rw [hrd]; simp))
          have cv : ∀ n : UInt8, b ≠ n → b.toNat ≠ n.toNat := fun n hn e => hn (UInt8.toNat_inj.1 e)
          have q38 := cv 38 this.1
          have q60 := cv 60 this.2.1
          have q13 := cv 13 this.2.2.1
          refine ⟨q38, q60, fun hv => ?_⟩
          have q9 := cv 9 (this.2.2.2.1 hv).1
          have q10 := cv 10 (this.2.2.2.1 hv).2.1
          rintro (h | h | h)
          · exact q9 h
          · exact q10 h
          · exact q13 h
      have hst : stepL v (subst (escT v) s) = (encL (rd s).1, (rd s).2, 0) := by
        unfold stepL
        rw [hsame, if_neg h0, if_neg (by rw [hc]; decide), if_neg (fun h => h.elim hsp2.2.1 hpre), if_neg hsp2.1, if_neg (fun h => hsp2.2.2 h.1 h.2)]
      rw [hst]
      exact ⟨rfl, (rd_enc_eq hs h0).1, by simp only; rw [hsub, List.drop_left' hlen]⟩
/-- What is written is read again. -/
theorem read_back (v : Bool) : ∀ (s : List UInt8), ∀ (j i : Nat) (out : List UInt8),
    ((flt j s).2 = 0 → readL v i (subst (escT v) s) out = (out ++ s, 0, 0)) ∧ ((flt j s).2 ≠ 0 → (readL v i (subst (escT v) s) out).1 = [] ∧ (readL v i (subst (escT v) s) out).2.2 = (flt j s).2) := by
  refine rd_ind ?_ ?_ ?_
  · intro j i out
    rw [flt_nil]
    refine ⟨fun _ => ?_, fun h => absurd rfl h⟩
    rw [show subst (escT v) [] = [] from rfl, readL_nil, List.append_nil]
  · intro s hs h0 j i out
    rcases step_sub v hs with ⟨_, h⟩ | ⟨h, _⟩ | ⟨h, _⟩
    · rw [flt_utf hs h0, readL_err (sub_ne v hs) (by rw [h]; decide), h]
      exact ⟨fun h => (by cases h), fun _ => ⟨rfl, rfl⟩⟩
    · exact absurd h0 h
    · exact absurd h0 h
  · intro s hs h0 ih j i out
    rcases step_sub v hs with ⟨h, _⟩ | ⟨_, hc, h⟩ | ⟨_, hc, h1, h2, h3⟩
    · exact absurd h h0
    · rw [flt_chr hs h0 hc, readL_err (sub_ne v hs) (by rw [h]; decide), h]
      exact ⟨fun h => (by cases h), fun _ => ⟨rfl, rfl⟩⟩
    · rw [flt_step hs h0 hc, readL_step (sub_ne v hs) h1, h2, h3]
      have := ih (j + (rd s).2) (i + (stepL v (subst (escT v) s)).2.1) (out ++ s.take (rd s).2)
      refine ⟨fun hz => ?_, this.2⟩
      rw [this.1 hz, List.append_assoc, List.take_append_drop]
end Go.Vc

/-
  References, plain: two texts behind one another; numbers in digits.
-/

set_option linter.unusedVariables false
set_option linter.unusedSimpArgs false
namespace Go.Vc
open Go Go.Lib
/-- Where the reading began doesn't matter. -/
theorem read_shift (v : Bool) : ∀ (n : Nat) (y : List UInt8), y.length ≤ n → ∃ (body : List UInt8) (pos e : Nat), ∀ (i : Nat) (out : List UInt8), readL v i y out = if e = 0 then (out ++ body, 0, 0) else ([], i + pos, e)
  | 0, y, h => by
    have : y = [] := List.eq_nil_of_length_eq_zero (by omega)
    subst this
    exact ⟨[], 0, 0, fun i out => by rw [readL_nil, if_pos rfl, List.append_nil]⟩
  | n + 1, y, h => by
    by_cases hy : y = []
    · subst hy; exact ⟨[], 0, 0, fun i out => by rw [readL_nil, if_pos rfl, List.append_nil]⟩
    by_cases hs : (stepL v y).2.2 = 0
    · have hpos := stepL_pos hs
      have := List.length_pos_iff.2 hy
      obtain ⟨body, pos, e, hb⟩ := read_shift v n (y.drop (stepL v y).2.1) (by rw [List.length_drop]; omega)
      refine ⟨(stepL v y).1 ++ body, (stepL v y).2.1 + pos, e, fun i out => ?_⟩
      rw [readL_step hy hs, hb]
      split
      · rw [List.append_assoc]
      · rw [Nat.add_assoc]
    · exact ⟨[], 0, (stepL v y).2.2, fun i out => by rw [readL_err hy hs, if_neg hs]; rfl⟩
theorem exp_append {x : List UInt8} (b : List UInt8) (h : (expL x).2.2 = 0) : expL (x ++ b) = expL x := by
  by_cases hx : 59 ∈ x
  · obtain ⟨s, r, rfl, hs⟩ := List.eq_append_cons_of_mem hx
    rw [expL_eq hs, List.append_assoc, List.cons_append, expL_eq hs]
  · rw [expL_none hx] at h; cases h
theorem rd_app {y : List UInt8} (b : List UInt8) (hy : y ≠ []) (h : (rd y).2 ≠ 0) : rd (y ++ b) = rd y := rd_append y b h hy
/-- One step, with something more behind. -/
theorem step_append (v : Bool) {y : List UInt8} (b : List UInt8) (hy : y ≠ []) (h : (stepL v y).2.2 = 0) :
    stepL v (y ++ b) = stepL v y ∨ (v = false ∧ (stepL v (y ++ b)).2.2 = 23 ∧ y.length ≤ 2 ∧ (y ++ b)[0]? = some 93) := by
  unfold stepL at h
  by_cases h1 : (rd y).2 = 0
  · rw [if_pos h1] at h; cases h
  rw [if_neg h1] at h
  have hrd := rd_app b hy h1
  by_cases h2 : chr (rd y).1 = false
  · rw [if_pos h2] at h; cases h
  rw [if_neg h2] at h
  by_cases h3 : (rd y).1 = 60 ∨ (v = false ∧ [93, 93, 62].isPrefixOf y = true)
  · rw [if_pos h3] at h; cases h
  rw [if_neg h3] at h
  by_cases h4 : (rd y).1 = 60 ∨ (v = false ∧ [93, 93, 62].isPrefixOf (y ++ b) = true)
  · right
    have h5 := h4.resolve_left (fun h => h3 (.inl h))
    refine ⟨h5.1, ?_, ?_, ?_⟩
    · unfold stepL; rw [hrd, if_neg h1, if_neg h2, if_pos h4]
    · rcases Nat.lt_or_ge y.length 3 with h | h
      · omega
      · exfalso
        apply h3; right
        refine ⟨h5.1, ?_⟩
        rw [List.isPrefixOf_iff_prefix, List.prefix_iff_eq_take] at h5 ⊢
        rw [List.take_append_of_le_length (by simpa using h)] at h5
        exact h5.2
    · have := List.isPrefixOf_iff_prefix.1 h5.2
      obtain ⟨t, ht⟩ := this
      rw [← ht]; rfl
  · left
    have hy1 : 1 ≤ y.length := by have := List.length_pos_iff.2 hy; omega
    unfold stepL
    rw [hrd, if_neg h1, if_neg h2, if_neg h4, if_neg h1, if_neg h2, if_neg h3, List.drop_append_of_le_length hy1]
    by_cases h38 : (rd y).1 = 38
    · rw [if_pos h38] at h ⊢
      split at h
      · rename_i h6
        rw [exp_append b h6, if_pos h38]
      · rename_i h6; exact absurd h h6
    · rw [if_neg h38, if_neg h38]
/-- Two texts behind one another. -/
theorem read_join (v : Bool) (b : List UInt8) : ∀ (n : Nat) (a : List UInt8), a.length ≤ n → ∀ (i : Nat) (out : List UInt8), (readL v i a out).2.2 = 0 →
    readL v i (a ++ b) out = readL v (i + a.length) b (readL v i a out).1 ∨ (v = false ∧ ∃ k, readL v i (a ++ b) out = ([], i + k, 23) ∧ k < a.length ∧ a.length - k ≤ 2 ∧ (a ++ b)[k]? = some 93)
  | 0, a, h, i, out, _ => by
    have : a = [] := List.eq_nil_of_length_eq_zero (by omega)
    subst this
    left; rw [readL_nil]; rfl
  | n + 1, a, h, i, out, hok => by
    by_cases ha : a = []
    · subst ha; left; rw [readL_nil]; rfl
    have hab : a ++ b ≠ [] := by simp [ha]
    by_cases hs : (stepL v a).2.2 = 0
    · have hpos := stepL_pos hs
      have hlen := List.length_pos_iff.2 ha
      have hle := (stepL_le (value := v) ha).1
      rcases step_append v b ha hs with he | ⟨hv, h23, h2, h93⟩
      · have hs2 : (stepL v (a ++ b)).2.2 = 0 := by rw [he]; exact hs
        rw [readL_step ha hs] at hok
        rw [readL_step hab hs2, readL_step ha hs, he, List.drop_append_of_le_length hle]
        rcases read_join v b n (a.drop (stepL v a).2.1) (by rw [List.length_drop]; omega) _ _ hok with h1 | ⟨hv, k, h1, h2, h3, h4⟩
        · left; rw [h1, List.length_drop]; congr 1; omega
        · right
          rw [List.length_drop] at h2 h3
          refine ⟨hv, (stepL v a).2.1 + k, by rw [h1, Nat.add_assoc], by omega, by omega, ?_⟩
          rw [← h4, ← List.drop_append_of_le_length hle, List.getElem?_drop]
      · right
        exact ⟨hv, 0, by rw [readL_err hab (by rw [h23]; decide), h23]; rfl, hlen, by omega, h93⟩
    · rw [readL_err ha hs] at hok; exact absurd hok hs

/-! ## Digits -/
theorem val_acc (base : Nat) : ∀ (ys : List UInt8) (acc : Nat), ys.foldl (fun n c => n * base + dig c) acc = acc * base ^ ys.length + val base ys
  | [], acc => by simp [val_nil]
  | y :: ys, acc => by
    unfold val
    rw [List.foldl_cons, List.foldl_cons, val_acc base ys, val_acc base ys (0 * base + dig y), List.length_cons, Nat.pow_succ, Nat.zero_mul, Nat.zero_add, Nat.add_mul, Nat.add_assoc, Nat.mul_assoc, Nat.mul_comm base (base ^ ys.length)]
theorem val_cons (base : Nat) (y : UInt8) (ys : List UInt8) : val base (y :: ys) = dig y * base ^ ys.length + val base ys := by
  have := val_acc base ys (0 * base + dig y)
  rw [Nat.zero_mul, Nat.zero_add] at this
  rw [← this]
  unfold val; rw [List.foldl_cons, Nat.zero_mul, Nat.zero_add]
def digC (d : Nat) (cap : Bool) : UInt8 := if d ≤ 9 then UInt8.ofNat (48 + d) else if cap then UInt8.ofNat (55 + d) else UInt8.ofNat (87 + d)
theorem digC_hex' : ∀ (d : Fin 16) (cap : Bool), hexV (digC d.val cap) = some d.val := by decide
theorem digC_hex {d : Nat} (h : d < 16) (cap : Bool) : hexV (digC d cap) = some d := digC_hex' ⟨d, h⟩ cap
theorem digC_ok {d base : Nat} (h : d < base) (hb : base ≤ 16) (cap : Bool) : okD base (digC d cap) = true ∧ dig (digC d cap) = d := by
  unfold okD dig
  rw [digC_hex (by omega)]
  exact ⟨by simpa using h, rfl⟩
theorem zero_ok {base : Nat} (h : 1 ≤ base) : okD base 48 = true ∧ dig 48 = 0 := by
  unfold okD dig
  rw [show hexV 48 = some 0 from by decide]
  exact ⟨by simp; omega, rfl⟩
theorem ok_semi {base : Nat} {ds : List UInt8} (h : ds.all (okD base) = true) : (59 : UInt8) ∉ ds := fun hm => by
  have := List.all_eq_true.1 h 59 hm
  rw [okD_semi] at this; cases this
theorem num_of {base : Nat} {ds : List UInt8} (hne : ds ≠ []) (h : ds.all (okD base) = true) : numL base ds = if chr (val base ds : Nat) then (val base ds, 0) else (0, 21) := by
  unfold numL
  rw [if_neg hne, if_neg (by rw [h]; decide)]
theorem word_hash (s : List UInt8) : wordL (35 :: s) = none := by
  unfold wordL
  rw [Option.map_eq_none_iff, List.find?_eq_none]
  intro p hp
  rw [beq_iff_eq]
  simp only [wordsL, List.mem_cons, List.not_mem_nil, or_false] at hp
  rcases hp with rfl | rfl | rfl | rfl | rfl <;> simp
theorem meant_ten {ds : List UInt8} (hne : ds ≠ []) (h : ds.all (okD 10) = true) : meantL (35 :: ds) = if chr (val 10 ds : Nat) then (val 10 ds, 0) else (0, 21) := by
  unfold meantL
  rw [word_hash]
  simp only
  unfold hashL
  rw [if_pos (by simp [List.isPrefixOf])]
  rw [if_neg ?_]
  · exact num_of hne h
  · intro hp
    rw [pre1_iff] at hp
    have hp' : ds[0]? = some 120 := by simpa using hp
    have := List.all_eq_true.1 h 120 (List.mem_of_getElem? hp')
    revert this; decide
theorem meant_hex {ds : List UInt8} (hne : ds ≠ []) (h : ds.all (okD 16) = true) : meantL (35 :: 120 :: ds) = if chr (val 16 ds : Nat) then (val 16 ds, 0) else (0, 21) := by
  unfold meantL
  rw [word_hash]
  simp only
  unfold hashL
  rw [if_pos (by simp [List.isPrefixOf]), if_pos (by simp [List.isPrefixOf])]
  exact num_of hne h
end Go.Vc

