/- ChrB RowE Scope ScopeB SortW Tree PathV TopP VTree VLib VTree2 -/
import Derived.Test.YtmnbgcgealpcbaaGreatDoorRef01B
import Derived.Test.YtmnbgcgealpcbaaGreatDoorLbB
import Derived.Lib.ConvBytes
import Derived.Lib.Bytealg
import Derived.Laws.Externs
import Derived.Laws.BitsAllLaws
import Derived.KernelRfl
/-
  Chapter 1: Read, Next, Fault.
-/
namespace Go.Vc
open Go
/-- What 'Next' answers. -/
def nxt (bs : List UInt8) (at_ : Int) : Int × Int × Int :=
  if at_ < 0 ∨ (bs.length : Int) ≤ at_ then (0, 0, 1) else if (rd (bs.drop at_.toNat)).2 = 0 then (0, 0, 20)
  else if chr (rd (bs.drop at_.toNat)).1 = false then (0, 0, 21) else ((rd (bs.drop at_.toNat)).1, at_ + (rd (bs.drop at_.toNat)).2, 0)
end Go.Vc
namespace Go.Proofs.YtmnbgcgealpcbaaGreatDoor
open Go Go.Vc Go.Lib

section
variable {w : World}

theorem Next_ok {p : Option Addr} {l c : Nat} {at_ : Int} {bs : List UInt8} {J : Int → Int → Int → World → Prop} (h : Bytes w p l bs) (hlc : l ≤ c) (hm : l ≤ 140737488355328) (T : Tabs w)
    (K : ∀ w', Chg No w w' → J (nxt bs at_).1 (nxt bs at_).2.1 (nxt bs at_).2.2 w') : callJ Tryz.prog fn_char_Next #[.slice p l c, .int .i64 at_] w [.one (.int .i32), .one (.int .i64), .one (.int .i64)] J := by
  refine c_char_Next ?_
  unfold VC_char_Next
  have hbl := h.len
  refine withJ_i fun J16 hJ16 => ?_
  have k16 : ∀ b, (b = true ↔ (at_ < 0 ∨ (bs.length : Int) ≤ at_)) → J16 b w := by
    intro b hb; subst hJ16
    refine meetI hb (fun hh => ?_) (fun hin => ?_)
    · have := K w (Chg.refl _ _); unfold nxt at this; simp only [if_pos hh] at this; exact this
    unfold nxt at K
    simp only [if_neg hin] at K
    obtain ⟨i, rfl⟩ : ∃ i : Nat, at_ = i := ⟨at_.toNat, by omega⟩
    simp only [Int.toNat_natCast] at K
    refine cutB h (i := i) (j := l) (by omega) (Nat.le_refl _) hlc rfl rfl fun q' hq hq0 => ?_
    rw [List.take_of_length_le (by rw [List.length_drop]; omega)] at hq
    refine DecodeRune_ok hq (by omega) T fun w2 hc2 => ?_
    have hne : bs.drop i ≠ [] := by intro e; have := congrArg List.length e; rw [List.length_drop] at this; simp at this; omega
    have h4 := rd_four (bs.drop i)
    generalize bs.drop i = D at *
    by_cases hk : (rd D).2 = 0
    · have hd : dec D = (65533, 1) := by rw [dec_rd, if_pos hk]
      have K' := K w2 hc2
      rw [if_pos hk] at K'
      rw [hd]
      refine withJ_i fun J24 hJ24 => ?_
      have go : J24 true w2 := by subst hJ24; exact K'
      exact go
    · rw [dec_of_rd hk]
      refine withJ_i fun J24 hJ24 => ?_
      have hnf : J24 false w2 := by
        subst hJ24
        refine IsChar_ok fun w4 hc4 => ?_
        have K' := K w4 (hc2.trans0 hc4)
        rw [if_neg hk] at K'
        refine condB_not (fun he => ?_) (fun he => ?_)
        · rw [if_pos he] at K'; exact K'
        · rw [if_neg (by rw [he]; simp)] at K'
          simp only at K'
          rw [w64_of (by omega) (by omega)]
          exact K'
      clear hJ24
      refine condB_eq (fun he => ?_) (fun _ => hnf)
      have := rd_fffd D (by omega)
      rw [decide_eq_false (by omega)]; exact hnf
  clear hJ16
  exact condB_d (fun hh => k16 _ (bT (by omega))) (fun hh => k16 _ (bD (by omega)))

theorem FaultC_ok {p : Option Addr} {l c : Nat} {bs : List UInt8} {J : Int → Int → World → Prop} (h : Bytes w p l bs) (hlc : l ≤ c) (hm : l ≤ 140737488355328) (T : Tabs w)
    (K : ∀ w', Chg No w w' → J ((flt 0 bs).1 : Int) ((flt 0 bs).2 : Int) w') : callJ Tryz.prog fn_char_Fault #[.slice p l c] w [.one (.int .i64), .one (.int .i64)] J := by
  refine c_char_Fault ?_
  unfold VC_char_Fault
  have hbl := h.len
  refine ⟨fun x w' m => ∃ i : Nat, x = i ∧ i ≤ l ∧ m = l - i ∧ Chg No w w' ∧ flt i (bs.drop i) = flt 0 bs, ⟨_, 0, rfl, Nat.zero_le _, rfl, Chg.refl _ _, rfl⟩, ?_⟩
  rintro x w' m ⟨i, rfl, hi, rfl, hc, he⟩
  refine condB_d (fun hlt => ?_) (fun hlt => ?_)
  · refine Next_ok (h.chg hc (off_no _)) hlc hm (T.chg hc) fun w2 hc2 => ?_
    have hcc := hc.trans0 hc2
    have hne : bs.drop i ≠ [] := by intro e; have := congrArg List.length e; rw [List.length_drop] at this; simp at this; omega
    have hle := rd_le _ hne
    rw [List.length_drop, hbl] at hle
    have en : ¬ ((i : Int) < 0 ∨ (bs.length : Int) ≤ (i : Int)) := by omega
    unfold nxt
    simp only [if_neg en, Int.toNat_natCast]
    by_cases hk : (rd (bs.drop i)).2 = 0
    · rw [if_pos hk]
      have e := flt_utf (i := i) hne hk
      rw [← he, e] at K
      exact K _ hcc
    rw [if_neg hk]
    cases hch : chr (rd (bs.drop i)).1 with
    | false =>
      rw [if_pos rfl]
      have e := flt_chr (i := i) hne hk hch
      rw [← he, e] at K
      exact K _ hcc
    | true =>
      rw [if_neg (by simp)]
      refine ⟨l - (i + (rd (bs.drop i)).2), by omega, i + (rd (bs.drop i)).2, by simp, by omega, rfl, hcc, ?_⟩
      rw [← he, flt_step hne hk hch, List.drop_drop]
  · have : i = l := by omega
    subst this
    rw [List.drop_of_length_le (by omega), flt_nil] at he
    rw [← he] at K
    exact K _ hc

end

end Go.Proofs.YtmnbgcgealpcbaaGreatDoor

/-
  Chapter 1: names, qualified names.
-/

namespace Go.Vc
open Go Go.Lib
theorem setBlk_at {w : World} {b : Nat} {o : Obj} (h : b < w.heap.size) : (setBlk w b o).heap[b]? = some o := by
  unfold setBlk; simp [h]
theorem drop_ne {bs : List UInt8} {i : Nat} (h : i < bs.length) : bs.drop i ≠ [] := by
  intro e; have := congrArg List.length e; rw [List.length_drop] at this; simp at this; omega
/-- The state of the loop over a name's chars. -/
def nmAt (bs : List UInt8) (i : Nat) : Bool := if i = 0 then isSt (rd bs).1 && prt bs else prt (bs.drop i)
theorem nmAt_end {bs : List UInt8} (h : bs ≠ []) : nmAt bs bs.length = true := by
  unfold nmAt
  rw [if_neg (by have := List.length_pos_iff.2 h; omega), List.drop_of_length_le (Nat.le_refl _), prt_nil]
theorem nmAt_step {bs : List UInt8} {i : Nat} (h : i < bs.length) (hk : (rd (bs.drop i)).2 ≠ 0) (hp : isPt (rd (bs.drop i)).1 = true) (hs : i = 0 → isSt (rd (bs.drop i)).1 = true) : nmAt bs i = nmAt bs (i + (rd (bs.drop i)).2) := by
  have e : prt (bs.drop i) = prt (bs.drop (i + (rd (bs.drop i)).2)) := by rw [prt_step (drop_ne h) hk, hp, Bool.true_and, List.drop_drop]
  unfold nmAt
  rw [if_neg (show ¬ i + (rd (bs.drop i)).2 = 0 by omega), ← e]
  split
  · next h0 => subst h0; have := hs rfl; rw [List.drop_zero] at this ⊢; rw [this, Bool.true_and]
  · rfl
theorem nmAt_bad {bs : List UInt8} {i : Nat} (h : i < bs.length) (hk : (rd (bs.drop i)).2 = 0) : nmAt bs i = false := by
  unfold nmAt
  split
  · next h0 => subst h0; rw [List.drop_zero] at hk; rw [prt_bad (by intro e; rw [e] at h; simp at h) hk, Bool.and_false]
  · exact prt_bad (drop_ne h) hk
theorem nmAt_part {bs : List UInt8} {i : Nat} (h : i < bs.length) (hp : isPt (rd (bs.drop i)).1 = false) : nmAt bs i = false := by
  by_cases hk : (rd (bs.drop i)).2 = 0
  · exact nmAt_bad h hk
  have e : prt (bs.drop i) = false := by rw [prt_step (drop_ne h) hk, hp, Bool.false_and]
  unfold nmAt
  split
  · next h0 => subst h0; rw [List.drop_zero] at e; rw [e, Bool.and_false]
  · exact e
theorem nmAt_start {bs : List UInt8} (hs : isSt (rd (bs.drop 0)).1 = false) : nmAt bs 0 = false := by
  unfold nmAt
  rw [List.drop_zero] at hs
  rw [if_pos rfl, hs, Bool.false_and]
theorem nm_at (bs : List UInt8) : nm bs = (decide (bs ≠ []) && decide (bs.length ≤ 100) && nmAt bs 0) := by
  unfold nm nmAt
  rw [if_pos rfl, Bool.and_assoc (decide _ && decide _)]
end Go.Vc
namespace Go.Proofs.YtmnbgcgealpcbaaGreatDoor
open Go Go.Vc Go.Lib

section
variable {w : World}

set_option maxRecDepth 100000 in
theorem NameC_ok {s : ByteArray} {J : Bool → World → Prop} (T : Tabs w) (K : ∀ w', Chg No w w' → J (nm (bl s)) w') : callJ Tryz.prog fn_char_Name #[.string s] w [.one .bool] J := by
  refine c_char_Name ?_
  unfold VC_char_Name
  refine withJ_i fun J16 hJ16 => ?_
  have k16 : ∀ b w1, Chg No w w1 → (b = true ↔ (bl s = [] ∨ 100 < s.size ∨ vld (bl s) = false)) → J16 b w1 := by
    intro b w1 hc1 hb; subst hJ16
    refine meetI hb (fun hh => ?_) (fun hn => ?_)
    · have e : nm (bl s) = false := by
        unfold nm
        rcases hh with h | h | h
        · simp [h]
        · rw [show decide ((bl s).length ≤ 100) = false from decide_eq_false (by rw [bl_len]; omega)]; simp
        · cases hp : prt (bl s) with
          | false => simp
          | true => rw [prt_vld _ hp] at h; cases h
      rw [← e]; exact K w1 hc1
    · have hne : bl s ≠ [] := fun e => hn (.inl e)
      have hlen := bl_len s
      have hv : vld (bl s) = true := by cases h : vld (bl s) with | true => rfl | false => exact absurd (.inr (.inr h)) hn
      have hnm : nm (bl s) = nmAt (bl s) 0 := by
        rw [nm_at, decide_eq_true hne, decide_eq_true (show (bl s).length ≤ 100 by omega)]; rfl
      rw [hnm] at K
      refine newB_i fun b18 w2 hb18 hw2 => ?_
      have hc2 : Chg No w w2 := by rw [hw2]; exact hc1.alloc _
      have hh2 : w2.heap[b18]? = some (.stringIter s 0) := by rw [hb18, hw2]; exact heap_alloc_new w1 _
      have hfr : w.heap.size ≤ b18 := by rw [hb18]; exact hc1.size
      refine ⟨fun w' m => ∃ i : Nat, Chg No w w' ∧ w'.heap[b18]? = some (.stringIter s i) ∧ i ≤ s.size ∧ m = s.size - i ∧ vld ((bl s).drop i) = true ∧ nmAt (bl s) i = nmAt (bl s) 0, ⟨_, 0, hc2, hh2, Nat.zero_le _, rfl, by rw [List.drop_zero]; exact hv, rfl⟩, ?_⟩
      rintro w3 m ⟨i, hc3, hh3, hi, rfl, hvi, hat⟩
      refine ⟨s, i, hh3, fun hlt => ?_, fun hge => ?_⟩
      · have hlt' : i < (bl s).length := by omega
        have hk : (rd ((bl s).drop i)).2 ≠ 0 := fun h => by rw [vld_bad (drop_ne hlt') h] at hvi; cases hvi
        rw [decode_dec, dec_of_rd hk]
        have hle := rd_le _ (drop_ne hlt')
        rw [List.length_drop] at hle
        generalize hw4 : setBlk w3 b18 (.stringIter s (i + (rd ((bl s).drop i)).2)) = w4
        have hc4 : Chg No w w4 := by rw [← hw4]; exact hc3.setBlk _ _ (fun h => by omega)
        have hh4 : w4.heap[b18]? = some (.stringIter s (i + (rd ((bl s).drop i)).2)) := by rw [← hw4]; exact setBlk_at (lt_of_heap hh3)
        refine withJ_i fun J34 hJ34 => ?_
        have k34 : ∀ b w6, Chg No w4 w6 → (b = true ↔ ((i = 0 ∧ isSt (rd ((bl s).drop i)).1 = false) ∨ isPt (rd ((bl s).drop i)).1 = false)) → J34 b w6 := by
          intro b w6 hc6 hb; subst hJ34
          have hc := hc4.trans0 hc6
          refine meetI hb (fun hh => ?_) (fun hn2 => ?_)
          · have e : nmAt (bl s) 0 = false := by
              rw [← hat]
              rcases hh with ⟨h0, h⟩ | h
              · subst h0; exact nmAt_start h
              · exact nmAt_part hlt' h
            rw [← e]; exact K _ hc
          · have hp : isPt (rd ((bl s).drop i)).1 = true := by cases h : isPt (rd ((bl s).drop i)).1 with | true => rfl | false => exact absurd (.inr h) hn2
            have hs : i = 0 → isSt (rd ((bl s).drop i)).1 = true := fun h0 => by cases h : isSt (rd ((bl s).drop i)).1 with | true => rfl | false => exact absurd (.inl ⟨h0, h⟩) hn2
            exact ⟨_, by omega, i + (rd ((bl s).drop i)).2, hc, hc6.heap hh4 (fun f => f), by omega, rfl, by rw [← List.drop_drop, ← vld_step (drop_ne hlt') hk]; exact hvi, by rw [← nmAt_step hlt' hk hp hs]; exact hat⟩
        clear hJ34
        refine condB_eq (fun h0 => ?_) (fun h0 => ?_)
        · have h0 : i = 0 := by omega
          refine IsStart_ok fun w7 hc7 => ?_
          refine condB_not (fun hs => k34 _ _ hc7 (bT (.inl ⟨h0, hs⟩))) (fun hs => ?_)
          refine IsPart_ok fun w8 hc8 => k34 _ _ (hc7.trans0 hc8) ?_
          rw [Bool.not_eq_true']
          exact ⟨fun h => .inr h, fun h => h.elim (fun h => by rw [hs] at h; cases h.2) id⟩
        · refine IsPart_ok fun w8 hc8 => k34 _ _ hc8 ?_
          rw [Bool.not_eq_true']
          exact ⟨fun h => .inr h, fun h => h.elim (fun h => absurd h.1 (by omega)) id⟩
      · have : i = (bl s).length := by omega
        rw [this, nmAt_end hne] at hat
        rw [← hat] at K
        exact K _ hc3
  clear hJ16
  rw [toList_bl, toList_bl, show bl ⟨#[]⟩ = [] from rfl]
  refine condB_i (fun h => k16 _ _ (Chg.refl _ _) (bT (.inl (by simpa using h)))) (fun h1 => ?_)
  have h1 : bl s ≠ [] := by simpa using h1
  refine condB_d (fun h => k16 _ _ (Chg.refl _ _) (bT (.inr (.inl (by omega))))) (fun h2 => ?_)
  refine ValidString_ok T fun w10 hc10 => k16 _ _ hc10 ?_
  rw [Bool.not_eq_true']
  exact ⟨fun h => .inr (.inr h), fun h => h.elim (fun h => absurd h h1) fun h => h.elim (fun h => absurd h (by omega)) id⟩

/-! ## strings.Cut at a colon -/
end

end Go.Proofs.YtmnbgcgealpcbaaGreatDoor

/-
  Chapter 1: line ends; appends of great rows.
-/

namespace Go.Vc
open Go Go.Lib
end Go.Vc
namespace Go.Proofs.YtmnbgcgealpcbaaGreatDoor
open Go Go.Vc Go.Lib

section
variable {w : World}

end

end Go.Proofs.YtmnbgcgealpcbaaGreatDoor

/-
  Chapter 1, plain: what Go lays for a char, faults and line ends of two texts, names with a part behind.
-/

set_option linter.unusedVariables false
set_option linter.unusedSimpArgs false
namespace Go.Vc
open Go Go.Lib

/-! ## What Go lays for a char -/
/-! ## Faults of two texts -/
/-! ## Line ends of two texts -/
/-! ## Names with something behind -/
end Go.Vc


/-
  Rows of pieces of several cells that are the call's own: a piece is written, the end is cleared.
-/
namespace Go.Vc
open Go Go.RowKit

section
variable {w : World} {α : Type} {f : α → List Value} {sz : Nat} {e : TypeId}
end
end Go.Vc


/-
  Package scope: what is declared, what a prefix stands for, the name of an element.
-/
set_option linter.unusedVariables false
set_option linter.unusedSimpArgs false
namespace Go.Vc
open Go Go.Lib
abbrev Pr := ByteArray × ByteArray
def pr (x : Pr) : List Value := [.string x.1, .string x.2]
theorem beqS (x y : ByteArray) : (x.toList == y.toList) = decide (x = y) := by
  rw [toList_bl, toList_bl, Bool.eq_iff_iff, beq_iff_eq, decide_eq_true_eq]
  exact ⟨bl_ext, fun h => by rw [h]⟩
def mkB (l : List UInt8) : ByteArray := ⟨l.toArray⟩
theorem bl_mkB (l : List UInt8) : bl (mkB l) = l := by simp [bl, mkB]
end Go.Vc
namespace Go.Proofs.YtmnbgcgealpcbaaGreatDoor
open Go Go.Vc Go.Lib

section
variable {w : World}

end
end Go.Proofs.YtmnbgcgealpcbaaGreatDoor


/-
  Package scope: Open, Bound, Element.
-/
set_option linter.unusedVariables false
set_option linter.unusedSimpArgs false
namespace Go.Proofs.YtmnbgcgealpcbaaGreatDoor
open Go Go.Vc Go.Lib

section
variable {w : World}

end
end Go.Proofs.YtmnbgcgealpcbaaGreatDoor


/-
  slices.SortStableFunc of attributes: what lies there behind it is what lay there, rising by names.
-/
set_option linter.unusedVariables false
set_option linter.unusedSimpArgs false
namespace Go.Vc
open Go Go.Lib
/-! ## How strings stand -/
theorem bls_irr : ∀ x : List UInt8, Op.bytesLess x x = false
  | [] => rfl
  | a :: x => by unfold Op.bytesLess; simp [bls_irr x]
theorem bls_trans : ∀ {x y z : List UInt8}, Op.bytesLess x y = true → Op.bytesLess y z = true → Op.bytesLess x z = true
  | [], [], _, h, _ => by simp [Op.bytesLess] at h
  | [], _ :: _, [], _, h => by simp [Op.bytesLess] at h
  | [], _ :: _, _ :: _, _, _ => rfl
  | _ :: _, [], _, h, _ => by simp [Op.bytesLess] at h
  | _ :: _, _ :: _, [], _, h => by simp [Op.bytesLess] at h
  | a :: x, b :: y, c :: z, h, k => by
    unfold Op.bytesLess at h k ⊢
    simp only [Bool.or_eq_true, decide_eq_true_eq, Bool.and_eq_true, beq_iff_eq] at h k ⊢
    rcases h with h | ⟨rfl, h⟩
    · rcases k with k | ⟨rfl, k⟩
      · left; rw [UInt8.lt_iff_toNat_lt] at *; omega
      · exact .inl h
    · rcases k with k | ⟨rfl, k⟩
      · exact .inl k
      · exact .inr ⟨rfl, bls_trans h k⟩
theorem bls_tri : ∀ (x y : List UInt8), Op.bytesLess x y = true ∨ x = y ∨ Op.bytesLess y x = true
  | [], [] => .inr (.inl rfl)
  | [], _ :: _ => .inl rfl
  | _ :: _, [] => .inr (.inr rfl)
  | a :: x, b :: y => by
    unfold Op.bytesLess
    simp only [Bool.or_eq_true, decide_eq_true_eq, Bool.and_eq_true, beq_iff_eq, List.cons.injEq]
    rcases Nat.lt_trichotomy a.toNat b.toNat with h | h | h
    · exact .inl (.inl (UInt8.lt_iff_toNat_lt.2 h))
    · have e : a = b := UInt8.toNat_inj.1 h
      subst e
      rcases bls_tri x y with h | h | h
      · exact .inl (.inr ⟨rfl, h⟩)
      · exact .inr (.inl ⟨rfl, h⟩)
      · exact .inr (.inr (.inr ⟨rfl, h⟩))
    · exact .inr (.inr (.inl (UInt8.lt_iff_toNat_lt.2 h)))
def sLt (x y : ByteArray) : Bool := Op.bytesLess x.toList y.toList
theorem sLt_irr (x : ByteArray) : sLt x x = false := bls_irr _
theorem sLt_trans {x y z : ByteArray} (h : sLt x y = true) (k : sLt y z = true) : sLt x z = true := bls_trans h k
theorem sLt_tri (x y : ByteArray) : sLt x y = true ∨ x = y ∨ sLt y x = true := by
  unfold sLt
  rw [toList_bl, toList_bl]
  rcases bls_tri (bl x) (bl y) with h | h | h
  · exact .inl h
  · exact .inr (.inl (bl_ext h))
  · exact .inr (.inr h)
theorem sLt_asym {x y : ByteArray} (h : sLt x y = true) : sLt y x = false := by
  cases hb : sLt y x with
  | false => rfl
  | true => have := sLt_trans h hb; rw [sLt_irr] at this; cases this
/-- How names stand. -/
def nLt (x y : Pr) : Bool := sLt x.1 y.1 || (decide (x.1 = y.1) && sLt x.2 y.2)
theorem nLt_iff {x y : Pr} : nLt x y = true ↔ sLt x.1 y.1 = true ∨ (x.1 = y.1 ∧ sLt x.2 y.2 = true) := by
  unfold nLt; simp only [Bool.or_eq_true, Bool.and_eq_true, decide_eq_true_eq]
/-- An attribute: its space, its local name, its value. -/
abbrev At := ByteArray × ByteArray × ByteArray
def atc (x : At) : List Value := [.string x.1, .string x.2.1, .string x.2.2]
def nameOf (x : At) : Pr := (x.1, x.2.1)
def aLt (x y : At) : Bool := nLt (nameOf x) (nameOf y)
end Go.Vc
namespace Go.Proofs.YtmnbgcgealpcbaaGreatDoor
open Go Go.Vc Go.Lib

section
variable {w : World}

theorem CompareS_ok {x y : ByteArray} {J : Int → World → Prop} (k : J (if sLt x y = true then -1 else if x = y then 0 else 1) w) : callJ Tryz.prog fn_cmp_Compare_string #[.string x, .string y] w [.one (.int .i64)] J := by
  refine c_cmp_Compare_string ?_
  unfold VC_cmp_Compare_string
  refine c_cmp_isNaN_string ?_
  unfold VC_cmp_isNaN_string
  refine c_cmp_isNaN_string ?_
  unfold VC_cmp_isNaN_string
  refine condB_i (fun h => by simp at h) fun _ => condB_i (fun h => by simp at h) fun _ => ?_
  unfold sLt at k
  refine condB_i (fun h => by rw [if_pos h] at k; exact k) (fun h => ?_)
  rw [if_neg (by simp [h]), ] at k
  rw [h, Bool.false_or, beqS]
  refine condB_not (fun h2 => by rw [if_neg (of_decide_eq_false h2)] at k; exact k) (fun h2 => by rw [if_pos (of_decide_eq_true h2)] at k; exact k)

end
end Go.Proofs.YtmnbgcgealpcbaaGreatDoor


/-
  Trees of nodes: plain, and as they lie in memory.
-/
set_option linter.unusedVariables false
set_option linter.unusedSimpArgs false
namespace Go.Vc
open Go Go.Lib
/-- A plain tree. -/
inductive Nd where
  | mk (kind : Int) (uri loc text : ByteArray) (attrs : List At) (kids : List Nd)
/-- A tree as it lies in memory: each node with its lists' addresses. -/
inductive NV where
  | mk (kind : Int) (uri loc text : ByteArray) (ap : Option Addr) (al ac : Nat) (attrs : List At) (kp : Option Addr) (kl kc : Nat) (kids : List NV)
theorem NV.ind {P : NV → Prop} (h : ∀ k u l t ap al ac ats kp kl kc ks, (∀ x ∈ ks, P x) → P (.mk k u l t ap al ac ats kp kl kc ks)) (v : NV) : P v :=
  NV.rec (motive_1 := P) (motive_2 := fun ks => ∀ x ∈ ks, P x) (fun k u l t ap al ac ats kp kl kc ks ih => h k u l t ap al ac ats kp kl kc ks ih) (by simp)
    (fun x r hx hr y hy => by rcases List.mem_cons.1 hy with rfl | hy; · exact hx
                              · exact hr y hy) v
theorem Nd.ind {P : Nd → Prop} (h : ∀ k u l t ats ks, (∀ x ∈ ks, P x) → P (.mk k u l t ats ks)) (v : Nd) : P v :=
  Nd.rec (motive_1 := P) (motive_2 := fun ks => ∀ x ∈ ks, P x) (fun k u l t ats ks ih => h k u l t ats ks ih) (by simp)
    (fun x r hx hr y hy => by rcases List.mem_cons.1 hy with rfl | hy; · exact hx
                              · exact hr y hy) v
def NV.cells : NV → List Value
  | .mk k u l t ap al ac _ kp kl kc _ => [.int .i64 k, .string u, .string l, .slice ap al ac, .slice kp kl kc, .string t]
theorem even_node (L : List NV) : Even NV.cells 6 L := fun x _ => by cases x; rfl
theorem one1_node (x : NV) : one1 x.cells := by
  cases x
  intro v hv
  simp only [NV.cells, List.mem_cons, List.not_mem_nil, or_false] at hv
  rcases hv with rfl | rfl | rfl | rfl | rfl | rfl <;> rfl
mutual
def NV.nd : NV → Nd
  | .mk k u l t _ _ _ ats _ _ _ ks => .mk k u l t ats (NV.ndL ks)
def NV.ndL : List NV → List Nd
  | [] => []
  | x :: r => x.nd :: NV.ndL r
end
theorem ndL_map : ∀ ks, NV.ndL ks = ks.map NV.nd
  | [] => rfl
  | x :: r => by simp [NV.ndL, ndL_map r]
def atSize (a : At) : Nat := 1 + a.1.size + a.2.1.size + a.2.2.size
mutual
def NV.mea : NV → Nat
  | .mk _ u l t _ _ _ ats _ _ _ ks => 1 + u.size + l.size + t.size + (ats.map atSize).sum + NV.meaL ks
def NV.meaL : List NV → Nat
  | [] => 0
  | x :: r => x.mea + NV.meaL r
end
theorem meaL_sum : ∀ ks, NV.meaL ks = (ks.map NV.mea).sum
  | [] => rfl
  | x :: r => by simp [NV.meaL, meaL_sum r]
theorem mem_sum {α : Type} (f : α → Nat) : ∀ {l : List α} {x : α}, x ∈ l → f x ≤ (l.map f).sum
  | y :: l, x, h => by
    rw [List.map_cons, List.sum_cons]
    rcases List.mem_cons.1 h with rfl | h
    · omega
    · have := mem_sum f h; omega
theorem mea_kid {x : NV} {ks : List NV} (h : x ∈ ks) : x.mea ≤ NV.meaL ks := by rw [meaL_sum]; exact mem_sum NV.mea h
theorem mea_pos (v : NV) : 1 ≤ v.mea := by cases v; simp only [NV.mea]; omega
theorem len_meaL : ∀ ks : List NV, ks.length ≤ NV.meaL ks
  | [] => Nat.le_refl _
  | x :: r => by have := len_meaL r; have := mea_pos x; simp only [NV.meaL, List.length_cons]; omega
theorem len_atSum : ∀ ats : List At, ats.length ≤ (ats.map atSize).sum
  | [] => Nat.le_refl _
  | x :: r => by
    have := len_atSum r
    rw [List.map_cons, List.sum_cons, List.length_cons]
    unfold atSize at *; omega
/-- What memory holds of a tree. -/
inductive NV.Ok (w : World) : NV → Prop
  | mk {k : Int} {u l t : ByteArray} {ap : Option Addr} {al ac : Nat} {ats : List At} {kp : Option Addr} {kl kc : Nat} {ks : List NV}
      (ha : Sl w ap al 3 (rows atc ats)) (hn : ap = none → al = 0) (hac : al ≤ ac) (hk : Sl w kp kl 6 (rows NV.cells ks)) (hkn : kp = none → kl = 0) (hkc : kl ≤ kc) (hks : ∀ x ∈ ks, NV.Ok w x) : NV.Ok w (.mk k u l t ap al ac ats kp kl kc ks)
/-- The slices of a tree lie off some blocks. -/
inductive NV.Off (S : Nat → Prop) : NV → Prop
  | mk {k : Int} {u l t : ByteArray} {ap : Option Addr} {al ac : Nat} {ats : List At} {kp : Option Addr} {kl kc : Nat} {ks : List NV}
      (ha : off ap S) (hk : off kp S) (hks : ∀ x ∈ ks, NV.Off S x) : NV.Off S (.mk k u l t ap al ac ats kp kl kc ks)
theorem NV.off_no (v : NV) : NV.Off No v := by
  induction v using NV.ind with
  | h k u l t ap al ac ats kp kl kc ks ih => exact .mk (Vc.off_no _) (Vc.off_no _) ih
theorem NV.Ok.chg {w w' : World} {S : Nat → Prop} (hc : Chg S w w') : ∀ {v : NV}, NV.Ok w v → NV.Off S v → NV.Ok w' v := by
  intro v
  induction v using NV.ind with
  | h k u l t ap al ac ats kp kl kc ks ih =>
    intro h ho
    cases h with
    | mk ha hn hac hk hkn hkc hks =>
      cases ho with
      | mk oa ok oks => exact .mk (ha.chg hc oa) hn hac (hk.chg hc ok) hkn hkc fun x hx => ih x hx (hks x hx) (oks x hx)
theorem NV.Ok.chg0 {w w' : World} {v : NV} (h : NV.Ok w v) (hc : Chg No w w') : NV.Ok w' v := h.chg hc v.off_no
/-! All nodes, each ahead of its kids. -/
mutual
def NV.flat : NV → List NV
  | .mk k u l t ap al ac ats kp kl kc ks => .mk k u l t ap al ac ats kp kl kc ks :: NV.flatL ks
def NV.flatL : List NV → List NV
  | [] => []
  | x :: r => x.flat ++ NV.flatL r
end
mutual
def Nd.flat : Nd → List Nd
  | .mk k u l t ats ks => .mk k u l t ats ks :: Nd.flatL ks
def Nd.flatL : List Nd → List Nd
  | [] => []
  | x :: r => x.flat ++ Nd.flatL r
end
theorem flatL_append : ∀ a b : List NV, NV.flatL (a ++ b) = NV.flatL a ++ NV.flatL b
  | [], _ => rfl
  | x :: r, b => by simp [NV.flatL, flatL_append r b]
mutual
theorem flat_len : ∀ v : NV, v.flat.length ≤ v.mea
  | .mk k u l t ap al ac ats kp kl kc ks => by
    have := flatL_len ks
    simp only [NV.flat, NV.mea, List.length_cons]; omega
theorem flatL_len : ∀ ks : List NV, (NV.flatL ks).length ≤ NV.meaL ks
  | [] => Nat.le_refl _
  | x :: r => by
    have := flat_len x; have := flatL_len r
    simp only [NV.flatL, NV.meaL, List.length_append]; omega
end
mutual
theorem flat_nd : ∀ v : NV, v.flat.map NV.nd = v.nd.flat
  | .mk k u l t ap al ac ats kp kl kc ks => by
    have := flatL_nd ks
    simp only [NV.flat, NV.nd, Nd.flat, List.map_cons, this]
theorem flatL_nd : ∀ ks : List NV, (NV.flatL ks).map NV.nd = Nd.flatL (NV.ndL ks)
  | [] => rfl
  | x :: r => by
    have := flat_nd x; have := flatL_nd r
    simp only [NV.flatL, NV.ndL, Nd.flatL, List.map_append, *]
end
theorem flat_mem {v x : NV} (h : x ∈ v.flat) : ∀ {w : World}, NV.Ok w v → NV.Ok w x := by
  intro w
  induction v using NV.ind with
  | h k u l t ap al ac ats kp kl kc ks ih =>
    intro hv
    simp only [NV.flat, List.mem_cons] at h
    rcases h with rfl | h
    · exact hv
    · cases hv with
      | mk ha hn hac hk hkn hkc hks =>
        have key : ∀ ks' : List NV, (∀ y ∈ ks', y ∈ ks) → x ∈ NV.flatL ks' → NV.Ok w x := by
          intro ks'
          induction ks' with
          | nil => intro _ h; cases h
          | cons y r ihr =>
            intro hs h
            simp only [NV.flatL, List.mem_append] at h
            rcases h with h | h
            · exact ih y (hs y (by simp)) h (hks y (hs y (by simp)))
            · exact ihr (fun z hz => hs z (by simp [hz])) h
        exact key ks (fun y hy => hy) h
theorem flat_mea {v x : NV} (h : x ∈ v.flat) : x.mea ≤ v.mea := by
  induction v using NV.ind with
  | h k u l t ap al ac ats kp kl kc ks ih =>
    simp only [NV.flat, List.mem_cons] at h
    rcases h with rfl | h
    · exact Nat.le_refl _
    · have key : ∀ ks' : List NV, (∀ y ∈ ks', y ∈ ks) → x ∈ NV.flatL ks' → x.mea ≤ NV.meaL ks' := by
        intro ks'
        induction ks' with
        | nil => intro _ h; cases h
        | cons y r ihr =>
          intro hs h
          simp only [NV.flatL, List.mem_append] at h
          simp only [NV.meaL]
          rcases h with h | h
          · have := ih y (hs y (by simp)) h; omega
          · have := ihr (fun z hz => hs z (by simp [hz])) h; omega
      have := key ks (fun y hy => hy) h
      simp only [NV.mea]; omega
end Go.Vc

/-
  Trees, plain: what is right, and the first error of what isn't.
-/

set_option linter.unusedVariables false
set_option linter.unusedSimpArgs false
namespace Go.Vc
open Go Go.Lib
def Nd.kind : Nd → Int | .mk k _ _ _ _ _ => k
def Nd.uri : Nd → ByteArray | .mk _ u _ _ _ _ => u
def Nd.loc : Nd → ByteArray | .mk _ _ l _ _ _ => l
def Nd.text : Nd → ByteArray | .mk _ _ _ t _ _ => t
def Nd.attrs : Nd → List At | .mk _ _ _ _ ats _ => ats
def Nd.kids : Nd → List Nd | .mk _ _ _ _ _ ks => ks
theorem flatL_mem {x : Nd} : ∀ {ks : List Nd}, x ∈ Nd.flatL ks ↔ ∃ k ∈ ks, x ∈ k.flat
  | [] => by simp [Nd.flatL]
  | y :: r => by simp [Nd.flatL, flatL_mem (ks := r)]
theorem flat_self (d : Nd) : d ∈ d.flat := by cases d; simp [Nd.flat]
theorem flat_mem_iff {x d : Nd} : x ∈ d.flat ↔ x = d ∨ ∃ k ∈ d.kids, x ∈ k.flat := by
  cases d with
  | mk k u l t ats ks => simp only [Nd.flat, List.mem_cons, flatL_mem, Nd.kids]
/-- Below a node: the node, or a kid of one. -/
theorem flat_parent {d x : Nd} (h : x ∈ d.flat) : x = d ∨ ∃ y ∈ d.flat, x ∈ y.kids := by
  induction d using Nd.ind with
  | h k u l t ats ks ih =>
    rcases flat_mem_iff.1 h with rfl | ⟨c, hc, hx⟩
    · exact .inl rfl
    · right
      rcases ih c hc hx with rfl | ⟨y, hy, hxy⟩
      · exact ⟨_, flat_self _, hc⟩
      · exact ⟨y, flat_mem_iff.2 (.inr ⟨c, hc, hy⟩), hxy⟩
/-! ## What is asked of each node -/
def mayK (p k : Int) : Bool := decide ((p = 1 ∧ (k = 2 ∨ k = 4 ∨ k = 5)) ∨ (p = 2 ∧ 2 ≤ k ∧ k ≤ 5))
def emptyB : ByteArray := ⟨#[]⟩
/-- The document's 'kind'. -/
def kindG (n : Nd) : Bool :=
  n.kids.all (fun k => mayK n.kind k.kind) &&
  (if n.kind = 1 then decide (n.uri = emptyB ∧ n.loc = emptyB ∧ n.text = emptyB ∧ n.attrs = [])
   else if n.kind = 2 then decide (n.text = emptyB)
   else if n.kind = 3 ∨ n.kind = 4 then decide (n.uri = emptyB ∧ n.loc = emptyB ∧ n.attrs = []) && n.kids.isEmpty
   else if n.kind = 5 then decide (n.uri = emptyB ∧ n.attrs = []) && n.kids.isEmpty
   else false)
/-- The program's 'odd', of the node alone. -/
def oddQ (k : Int) (u l t : ByteArray) (ats : List At) : Bool :=
  if k = 1 then decide (ats ≠ []) || decide (¬ (u = emptyB ∧ l = emptyB)) || decide (t ≠ emptyB)
  else if k = 2 then decide (t ≠ emptyB)
  else if k = 5 then decide (ats ≠ []) || decide (u ≠ emptyB)
  else decide (ats ≠ []) || decide (¬ (u = emptyB ∧ l = emptyB))
/-- The program's 'odd'. -/
def oddP (n : Nd) : Bool := oddQ n.kind n.uri n.loc n.text n.attrs || n.kids.any (fun k => !mayK n.kind k.kind)
theorem mayK_known {p k : Int} (h : mayK p k = true) : (p = 1 ∨ p = 2) ∧ (k = 2 ∨ k = 3 ∨ k = 4 ∨ k = 5) := by
  have := of_decide_eq_true h; omega
theorem kind_odd {n : Nd} (h : kindG n = true) : oddP n = false := by
  unfold kindG at h
  rw [Bool.and_eq_true] at h
  have hk : n.kids.any (fun k => !mayK n.kind k.kind) = false := by
    rw [List.any_eq_false]
    intro x hx
    have := List.all_eq_true.1 h.1 x hx
    simp [this]
  unfold oddP oddQ
  rw [hk, Bool.or_false]
  have h2 := h.2
  by_cases e1 : n.kind = 1
  · rw [if_pos e1] at h2 ⊢
    have := of_decide_eq_true h2
    simp [this.1, this.2.1, this.2.2.1, this.2.2.2]
  rw [if_neg e1] at h2 ⊢
  by_cases e2 : n.kind = 2
  · rw [if_pos e2] at h2 ⊢
    have := of_decide_eq_true h2
    simp [this]
  rw [if_neg e2] at h2 ⊢
  by_cases e3 : n.kind = 3 ∨ n.kind = 4
  · rw [if_pos e3, Bool.and_eq_true] at h2
    have := of_decide_eq_true h2.1
    rw [if_neg (by omega)]
    simp [this.1, this.2.1, this.2.2]
  rw [if_neg e3] at h2
  by_cases e5 : n.kind = 5
  · rw [if_pos e5, Bool.and_eq_true] at h2
    rw [if_pos e5]
    have := of_decide_eq_true h2.1
    simp [this.1, this.2]
  · rw [if_neg e5] at h2; cases h2
theorem odd_kind {n : Nd} (hk : n.kind = 1 ∨ n.kind = 2 ∨ n.kind = 3 ∨ n.kind = 4 ∨ n.kind = 5) (h : oddP n = false) : kindG n = true := by
  unfold oddP oddQ at h
  rw [Bool.or_eq_false_iff] at h
  have hall : n.kids.all (fun k => mayK n.kind k.kind) = true := by
    rw [List.all_eq_true]
    intro x hx
    have := List.any_eq_false.1 h.2 x hx
    simpa using this
  unfold kindG
  rw [hall, Bool.true_and]
  have noK : ¬ (n.kind = 1 ∨ n.kind = 2) → n.kids.isEmpty = true := by
    intro hn
    cases hks : n.kids with
    | nil => rfl
    | cons x r =>
      have := List.all_eq_true.1 hall x (by rw [hks]; simp)
      exact absurd (mayK_known this).1 hn
  have h2 := h.1
  by_cases e1 : n.kind = 1
  · rw [if_pos e1] at h2 ⊢
    simp only [Bool.or_eq_false_iff, decide_eq_false_iff_not, Decidable.not_not] at h2
    exact decide_eq_true ⟨h2.1.2.1, h2.1.2.2, h2.2, h2.1.1⟩
  rw [if_neg e1] at h2 ⊢
  by_cases e2 : n.kind = 2
  · rw [if_pos e2] at h2 ⊢
    simp only [decide_eq_false_iff_not, Decidable.not_not] at h2
    exact decide_eq_true h2
  rw [if_neg e2] at h2 ⊢
  have hemp := noK (by omega)
  by_cases e3 : n.kind = 3 ∨ n.kind = 4
  · rw [if_neg (by omega)] at h2
    simp only [Bool.or_eq_false_iff, decide_eq_false_iff_not, Decidable.not_not] at h2
    rw [if_pos e3, hemp, Bool.and_true]
    exact decide_eq_true ⟨h2.2.1, h2.2.2, h2.1⟩
  · have e5 : n.kind = 5 := by omega
    rw [if_pos e5] at h2
    simp only [Bool.or_eq_false_iff, decide_eq_false_iff_not, Decidable.not_not] at h2
    rw [if_neg e3, if_pos e5, hemp, Bool.and_true]
    exact decide_eq_true ⟨h2.2, h2.1⟩
theorem odd_all {d : Nd} (hd : d.kind = 1) : d.flat.any oddP = !d.flat.all kindG := by
  cases hall : d.flat.all kindG with
  | true =>
    rw [Bool.not_true, List.any_eq_false]
    intro x hx
    rw [kind_odd (List.all_eq_true.1 hall x hx)]; decide
  | false =>
    rw [Bool.not_false]
    rcases hany : d.flat.any oddP with _ | _
    · exfalso
      rw [Bool.eq_false_iff] at hall
      apply hall
      rw [List.all_eq_true]
      have hno : ∀ x ∈ d.flat, oddP x = false := fun x hx => by simpa using List.any_eq_false.1 hany x hx
      intro x hx
      refine odd_kind ?_ (hno x hx)
      rcases flat_parent hx with rfl | ⟨y, hy, hxy⟩
      · exact .inl hd
      · have h1 := hno y hy
        unfold oddP oddQ at h1
        rw [Bool.or_eq_false_iff] at h1
        have h2 := List.any_eq_false.1 h1.2 x hxy
        have := (mayK_known (p := y.kind) (k := x.kind) (by simpa using h2)).2
        omega
    · rfl
/-! Does an element stand below more than 32 others? -/
mutual
def deepN (above : Int) : Nd → Bool
  | .mk k _ _ _ _ ks => if k = 2 then (if above > 32 then true else deepNL (above + 1) ks) else deepNL above ks
def deepNL (above : Int) : List Nd → Bool
  | [] => false
  | x :: r => deepN above x || deepNL above r
end
theorem deepNL_any (above : Int) : ∀ ks, deepNL above ks = ks.any (deepN above)
  | [] => rfl
  | x :: r => by simp [deepNL, deepNL_any above r]
def greatN (n : Nd) : Bool := decide (64 < n.attrs.length) || decide (8192 < n.text.size) || n.attrs.any (fun a => decide (8192 < a.2.2.size))
def fineB (s : ByteArray) : Bool := decide ((flt 0 (bl s)).2 = 0)
def kXMLNS : ByteArray := ⟨#[104, 116, 116, 112, 58, 47, 47, 119, 119, 119, 46, 119, 51, 46, 111, 114, 103, 47, 50, 48, 48, 48, 47, 120, 109, 108, 110, 115, 47]⟩
def kXn : ByteArray := ⟨#[120, 109, 108, 110, 115]⟩
/-- May an element or an attribute be called so? -/
def calledN (n : Pr) : Bool := nm (bl n.2) && decide (n.1.size ≤ 100) && fineB n.1 && decide (n.1 ≠ kXMLNS)
def attrN (a : At) : Bool := calledN (nameOf a) && !decide (a.1 = emptyB ∧ a.2.1 = kXn)
def low3 (b : UInt8) : UInt8 := if 65 ≤ b.toNat ∧ b.toNat ≤ 90 then b + 32 else b
def isXml (l : List UInt8) : Bool := decide (l.map low3 = [120, 109, 108])
/-- The program's 'misnamed', turned about. -/
def nameP (n : Nd) : Bool := if n.kind = 2 then calledN (n.uri, n.loc) && n.attrs.all attrN else if n.kind = 5 then nm (bl n.loc) && !isXml (bl n.loc) else true
/-- The document's 'name'. -/
def nameG (n : Nd) : Bool := (decide (n.kind ≠ 2) || calledN (n.uri, n.loc)) && n.attrs.all attrN && (decide (n.kind ≠ 5) || (nm (bl n.loc) && !isXml (bl n.loc)))
theorem name_eq {n : Nd} (h : kindG n = true) : nameP n = nameG n := by
  unfold nameP nameG
  by_cases e2 : n.kind = 2
  · rw [if_pos e2]
    have : decide (n.kind ≠ 5) = true := by rw [decide_eq_true_eq]; omega
    rw [this]; simp [e2]
  · rw [if_neg e2]
    have ha : n.attrs = [] := by
      unfold kindG at h
      rw [Bool.and_eq_true] at h
      have h2 := h.2
      by_cases e1 : n.kind = 1
      · rw [if_pos e1] at h2; exact (of_decide_eq_true h2).2.2.2
      rw [if_neg e1, if_neg e2] at h2
      by_cases e3 : n.kind = 3 ∨ n.kind = 4
      · rw [if_pos e3, Bool.and_eq_true] at h2; exact (of_decide_eq_true h2.1).2.2
      rw [if_neg e3] at h2
      by_cases e5 : n.kind = 5
      · rw [if_pos e5, Bool.and_eq_true] at h2; exact (of_decide_eq_true h2.1).2
      · rw [if_neg e5] at h2; cases h2
    rw [ha]
    by_cases e5 : n.kind = 5
    · rw [if_pos e5]; simp [e2, e5]
    · rw [if_neg e5]; simp [e2, e5]
def charsN (n : Nd) : Bool := fineB n.text && n.attrs.all (fun a => fineB a.2.2)
def ascB : List At → Bool
  | a :: b :: r => aLt a b && ascB (b :: r)
  | _ => true
def orderN (n : Nd) : Bool := ascB n.attrs
def twoTexts : List Nd → Bool
  | a :: b :: r => (decide (a.kind = 3) && decide (b.kind = 3)) || twoTexts (b :: r)
  | _ => false
def hasS (w s : List UInt8) : Bool := match s with
  | [] => w.isPrefixOf []
  | b :: r => w.isPrefixOf (b :: r) || hasS w r
def textQ (k : Int) (t : ByteArray) : Bool :=
  if k = 3 then decide (t ≠ emptyB)
  else if k = 4 then !hasS [45, 45] (bl t) && !hasS [13] (bl t) && decide ((bl t).getLast? ≠ some 45)
  else if k = 5 then !hasS [63, 62] (bl t) && !hasS [13] (bl t) && decide ((bl t).head? ≠ some 32 ∧ (bl t).head? ≠ some 9 ∧ (bl t).head? ≠ some 10)
  else true
def textN (n : Nd) : Bool := !twoTexts n.kids && textQ n.kind n.text
def rootsN (d : Nd) : Nat := d.kids.countP fun k => decide (k.kind = 2)
/-- The first error of a document. -/
def checkL (d : Nd) : Int :=
  if ¬ d.kind = 1 ∨ d.flat.all kindG = false then 33
  else if deepN 0 d = true then 31
  else if 2001 < d.flat.length ∨ d.flat.any greatN = true then 5
  else if d.flat.all nameG = false then 24
  else if d.flat.all charsN = false then 21
  else if d.flat.all orderN = false then 34
  else if d.flat.all textN = false then 32
  else if rootsN d ≠ 1 then 30 else 0
end Go.Vc


/-
  Plain: the paths of all nodes.
-/
set_option linter.unusedVariables false
set_option linter.unusedSimpArgs false
namespace Go.Vc
open Go Go.Lib
mutual
/-- The paths of all nodes, each ahead of its kids'. -/
def pathsV : NV → List (List Int)
  | .mk _ _ _ _ _ _ _ _ _ _ _ ks => [] :: pathsK 0 ks
def pathsK (i : Nat) : List NV → List (List Int)
  | [] => []
  | x :: r => (pathsV x).map ((i : Int) :: ·) ++ pathsK (i + 1) r
end
theorem pathsK_append : ∀ (a b : List NV) (i : Nat), pathsK i (a ++ b) = pathsK i a ++ pathsK (i + a.length) b
  | [], b, i => by simp [pathsK]
  | x :: r, b, i => by
    simp only [List.cons_append, pathsK, pathsK_append r b (i + 1), List.append_assoc, List.length_cons]
    rw [show i + 1 + r.length = i + (r.length + 1) by omega]
mutual
theorem paths_len : ∀ v : NV, (pathsV v).length = v.flat.length
  | .mk k u l t ap al ac ats kp kl kc ks => by
    have := pathsK_len ks 0
    simp only [pathsV, NV.flat, List.length_cons, this]
theorem pathsK_len : ∀ (ks : List NV) (i : Nat), (pathsK i ks).length = (NV.flatL ks).length
  | [], _ => rfl
  | x :: r, i => by
    have := paths_len x
    have := pathsK_len r (i + 1)
    simp only [pathsK, NV.flatL, List.length_append, List.length_map, *]
end
mutual
theorem paths_long : ∀ (v : NV), ∀ zs ∈ pathsV v, zs.length < v.mea
  | .mk k u l t ap al ac ats kp kl kc ks, zs, h => by
    simp only [pathsV, List.mem_cons] at h
    rcases h with rfl | h
    · simp only [NV.mea, List.length_nil]; omega
    · have := pathsK_long ks 0 zs h
      simp only [NV.mea]; omega
theorem pathsK_long : ∀ (ks : List NV) (i : Nat), ∀ zs ∈ pathsK i ks, zs.length ≤ NV.meaL ks
  | [], _, zs, h => by simp [pathsK] at h
  | x :: r, i, zs, h => by
    simp only [pathsK, List.mem_append, List.mem_map] at h
    rcases h with ⟨z, hz, rfl⟩ | h
    · have := paths_long x z hz
      simp only [NV.meaL, List.length_cons]; omega
    · have := pathsK_long r (i + 1) zs h
      simp only [NV.meaL]; omega
end
end Go.Vc


/-
  Plain: the paths of a tree's nodes stand in order, each one's parent's among them.
-/
set_option linter.unusedVariables false
set_option linter.unusedSimpArgs false
namespace Go.Vc
open Go Go.Lib
theorem cmpL_cons (a : Int) (x y : List Int) : cmpL (a :: x) (a :: y) = cmpL x y := by rw [cmpL, if_neg (by omega), if_neg (by omega)]
theorem pathsK_head : ∀ {ks : List NV} {i : Nat} {p : List Int}, p ∈ pathsK i ks → ∃ (j : Nat) (q : List Int), i ≤ j ∧ p = (j : Int) :: q
  | [], _, _, h => by simp [pathsK] at h
  | x :: r, i, p, h => by
    simp only [pathsK, List.mem_append, List.mem_map] at h
    rcases h with ⟨q, _, rfl⟩ | h
    · exact ⟨i, q, Nat.le_refl _, rfl⟩
    · obtain ⟨j, q, hj, e⟩ := pathsK_head h
      exact ⟨j, q, by omega, e⟩
mutual
theorem paths_asc : ∀ v : NV, (pathsV v).Pairwise fun a b => cmpL a b = -1
  | .mk k u l t ap al ac ats kp kl kc ks => by
    rw [pathsV]
    refine List.pairwise_cons.2 ⟨fun p hp => ?_, pathsK_asc ks 0⟩
    obtain ⟨j, q, _, rfl⟩ := pathsK_head hp
    rfl
theorem pathsK_asc : ∀ (ks : List NV) (i : Nat), (pathsK i ks).Pairwise fun a b => cmpL a b = -1
  | [], _ => by simp [pathsK]
  | x :: r, i => by
    rw [pathsK, List.pairwise_append]
    refine ⟨?_, pathsK_asc r (i + 1), fun p hp q hq => ?_⟩
    · rw [List.pairwise_map]
      exact (paths_asc x).imp fun {a b} h => by rw [cmpL_cons]; exact h
    · obtain ⟨p', _, rfl⟩ := List.mem_map.1 hp
      obtain ⟨j, q', hj, rfl⟩ := pathsK_head hq
      exact cmpL_lt (by omega)
end
mutual
theorem paths_par : ∀ v : NV, ∀ p ∈ pathsV v, p.dropLast ∈ pathsV v
  | .mk k u l t ap al ac ats kp kl kc ks, p, h => by
    rw [pathsV] at h ⊢
    rcases List.mem_cons.1 h with rfl | h
    · simp
    · rcases pathsK_par ks 0 p h with e | e
      · rw [e]; simp
      · exact List.mem_cons_of_mem _ e
theorem pathsK_par : ∀ (ks : List NV) (i : Nat), ∀ p ∈ pathsK i ks, p.dropLast = [] ∨ p.dropLast ∈ pathsK i ks
  | [], _, p, h => by simp [pathsK] at h
  | x :: r, i, p, h => by
    simp only [pathsK, List.mem_append, List.mem_map] at h ⊢
    rcases h with ⟨q, hq, rfl⟩ | h
    · by_cases h0 : q = []
      · left; rw [h0]; rfl
      · right; left
        exact ⟨q.dropLast, paths_par x q hq, by rw [List.dropLast_cons_of_ne_nil h0]⟩
    · rcases pathsK_par r (i + 1) p h with e | e
      · exact .inl e
      · exact .inr (.inr e)
end
theorem paths_ok (v : NV) : PathsOk (pathsV v) := ⟨by cases v; rfl, paths_asc v, paths_par v⟩
end Go.Vc


/- What the conditions of these functions are, reckoned by the reading; printed by program. -/
set_option maxRecDepth 100000
set_option linter.unusedVariables false
namespace Go.Proofs.YtmnbgcgealpcbaaGreatDoor
open Go Go.Vc

/-- lectern/tree.Order -/
def VC_tree_Order (a0_0 : ByteArray) (a0_1 : ByteArray) (b1_0 : ByteArray) (b1_1 : ByteArray) (w : World) (J : Int → World → Prop) : Prop :=
  newB w (.cells ⟨[.string a0_0, .string a0_1]⟩ T_api_Name) fun b2 w1 =>
  newB w1 (.cells ⟨[.string b1_0, .string b1_1]⟩ T_api_Name) fun b3 w2 =>
  ldStr w2.drew ⟨b2, 0, none⟩ fun x6 =>
  ldStr w2.drew ⟨b3, 0, none⟩ fun x8 =>
  ldStr w2.drew ⟨b2, 1, none⟩ fun x11 =>
  ldStr w2.drew ⟨b3, 1, none⟩ fun x13 =>
  callJ Tryz.prog fn_cmp_Compare_string #[.string x6, .string x8] w2.drew [.one (.int .i64)] fun (r9 : Int) (w3 : World) =>
  w3.cell? ⟨b3, 1, none⟩ = some (.string x13) ∧
  w3.cell? ⟨b2, 1, none⟩ = some (.string x11) ∧
  callJ Tryz.prog fn_cmp_Compare_string #[.string x11, .string x13] w3 [.one (.int .i64)] fun (r14 : Int) (w4 : World) =>
  newB w4 (.cells ⟨[.int .i64 r9, .int .i64 r14]⟩ T_int) fun b15 w5 =>
  callJ Tryz.prog fn_cmp_Or_int #[.slice (some ⟨b15, 0, none⟩) 2 2] w5 [.one (.int .i64)] fun (r16 : Int) (w6 : World) =>
  J r16 w6
def ann_tree_Order : Ann := .s (.o) (.s (.d (.take 0 (.take 1 (.take 2 (.take 3 (.take 5 (.take 6 (.take 7 (.take 8 (.eff 4 (.eff 9 (.eff 10 (.eff 11 (.take 12 (.done)) (.none)) (.none)) (.none)) (.none))))))))))) (.o))
theorem eq_tree_Order (a0_0 : ByteArray) (a0_1 : ByteArray) (b1_0 : ByteArray) (b1_1 : ByteArray) (w : World) (J : Int → World → Prop) : vcFun Tryz.prog Tryz.f36 ann_tree_Order [.one (.int .i64)] [.agg ⟨[.string a0_0, .string a0_1]⟩, .agg ⟨[.string b1_0, .string b1_1]⟩] w J = VC_tree_Order a0_0 a0_1 b1_0 b1_1 w J := by kernel_rfl
theorem c_tree_Order {a0_0 : ByteArray} {a0_1 : ByteArray} {b1_0 : ByteArray} {b1_1 : ByteArray} {w : World} {J : Int → World → Prop} (h : VC_tree_Order a0_0 a0_1 b1_0 b1_1 w J) : callJ Tryz.prog fn_tree_Order #[.agg ⟨[.string a0_0, .string a0_1]⟩, .agg ⟨[.string b1_0, .string b1_1]⟩] w [.one (.int .i64)] J := vc_calls Tryz.func36 ann_tree_Order (Eq.mpr (eq_tree_Order a0_0 a0_1 b1_0 b1_1 w J) h)

/-- lectern/tree.Check -/
def VC_tree_Check (d0_0 : Int) (d0_1 : ByteArray) (d0_2 : ByteArray) (d0_3p : Option Addr) (d0_3l : Nat) (d0_3c : Nat) (d0_4p : Option Addr) (d0_4l : Nat) (d0_4c : Nat) (d0_5 : ByteArray) (w : World) (J : Int → World → Prop) : Prop :=
  newB w (.cells ⟨[.int .i64 d0_0, .string d0_1, .string d0_2, .slice d0_3p d0_3l d0_3c, .slice d0_4p d0_4l d0_4c, .string d0_5]⟩ T_api_Node) fun b1 w1 =>
  ldI .i64 w1 ⟨b1, 0, none⟩ fun x7_0 =>
  ldStr w1 ⟨b1, 1, none⟩ fun x7_1 =>
  ldStr w1 ⟨b1, 2, none⟩ fun x7_2 =>
  ldS w1 ⟨b1, 3, none⟩ fun x7_3p x7_3l x7_3c =>
  ldS w1 ⟨b1, 4, none⟩ fun x7_4p x7_4l x7_4c =>
  ldStr w1 ⟨b1, 5, none⟩ fun x7_5 =>
  callJ Tryz.prog fn_tree_flat #[.agg ⟨[.int .i64 x7_0, .string x7_1, .string x7_2, .slice x7_3p x7_3l x7_3c, .slice x7_4p x7_4l x7_4c, .string x7_5]⟩, .slice none 0 0] w1 [.one .slice] fun (r8p : Option Addr) (r8l : Nat) (r8c : Nat) (w2 : World) =>
  withJ (fun (x9 : Bool) (w3 : World) =>
  condB x9 (
  J (33 : Int) w3) (
  ldI .i64 w3 ⟨b1, 0, none⟩ fun x18_0 =>
  ldStr w3 ⟨b1, 1, none⟩ fun x18_1 =>
  ldStr w3 ⟨b1, 2, none⟩ fun x18_2 =>
  ldS w3 ⟨b1, 3, none⟩ fun x18_3p x18_3l x18_3c =>
  ldS w3 ⟨b1, 4, none⟩ fun x18_4p x18_4l x18_4c =>
  ldStr w3 ⟨b1, 5, none⟩ fun x18_5 =>
  callJ Tryz.prog fn_tree_deep #[.agg ⟨[.int .i64 x18_0, .string x18_1, .string x18_2, .slice x18_3p x18_3l x18_3c, .slice x18_4p x18_4l x18_4c, .string x18_5]⟩, .int .i64 (0 : Int)] w3 [.one .bool] fun (r19 : Bool) (w4 : World) =>
  condB r19 (
  J (31 : Int) w4) (
  withJ (fun (x20 : Bool) (w5 : World) =>
  condB x20 (
  J (5 : Int) w5) (
  callJ Tryz.prog fn_slices_ContainsFunc_sl_api_Node_api_Node #[.slice r8p r8l r8c, .func (.func 22) #[] #[]] w5 [.one .bool] fun (r31 : Bool) (w6 : World) =>
  condB r31 (
  J (24 : Int) w6) (
  callJ Tryz.prog fn_slices_ContainsFunc_sl_api_Node_api_Node #[.slice r8p r8l r8c, .func (.func 23) #[] #[]] w6 [.one .bool] fun (r34 : Bool) (w7 : World) =>
  condB r34 (
  J (21 : Int) w7) (
  callJ Tryz.prog fn_slices_ContainsFunc_sl_api_Node_api_Node #[.slice r8p r8l r8c, .func (.func 24) #[] #[]] w7 [.one .bool] fun (r37 : Bool) (w8 : World) =>
  condB r37 (
  J (34 : Int) w8) (
  callJ Tryz.prog fn_slices_ContainsFunc_sl_api_Node_api_Node #[.slice r8p r8l r8c, .func (.func 25) #[] #[]] w8 [.one .bool] fun (r40 : Bool) (w9 : World) =>
  condB r40 (
  J (32 : Int) w9) (
  ldS w9 ⟨b1, 4, none⟩ fun x42p x42l x42c =>
  ∃ I_4 : Int → Int → World → Nat → Prop, (∃ m : Nat, I_4 (0 : Int) (0 : Int) w9 m) ∧ ∀ (elements4 : Int) (x44 : Int) (w10 : World) (m : Nat), I_4 elements4 x44 w10 m → (
  condB (decide (x44 < ((x42l : Nat) : Int))) (
  withJ (fun (elements4_1 : Int) (w11 : World) =>
  ∃ m' : Nat, m' < m ∧ I_4 elements4_1 (w64 (x44 + (1 : Int))) w11 m') fun J_4 =>
  idxA x42p x42l x44 fun a46 =>
  ldI .i64 w10 ((a46.add (x44.toNat * 6))) fun x47_0 =>
  ldStr w10 (((a46.add (x44.toNat * 6)).add 1)) fun x47_1 =>
  ldStr w10 (((a46.add (x44.toNat * 6)).add 2)) fun x47_2 =>
  ldS w10 (((a46.add (x44.toNat * 6)).add 3)) fun x47_3p x47_3l x47_3c =>
  ldS w10 (((a46.add (x44.toNat * 6)).add 4)) fun x47_4p x47_4l x47_4c =>
  ldStr w10 (((a46.add (x44.toNat * 6)).add 5)) fun x47_5 =>
  newB w10 (.cells (zeroC Tryz.prog T_api_Node) T_api_Node) fun b6 w12 =>
  stN w12 ⟨b6, 0, none⟩ ⟨[.int .i64 x47_0, .string x47_1, .string x47_2, .slice x47_3p x47_3l x47_3c, .slice x47_4p x47_4l x47_4c, .string x47_5]⟩ 6 fun w13 =>
  ldI .i64 w13 ⟨b6, 0, none⟩ fun x49 =>
  condB (x49 == (2 : Int)) (
  J_4 (w64 (elements4 + (1 : Int))) w13) (
  J_4 elements4 w13)) (
  condB (elements4 != (1 : Int)) (
  J (30 : Int) w10) (
  J (0 : Int) w10))))))))) fun J_20 =>
  condB (decide ((w64 (((r8l : Nat) : Int) - (1 : Int))) > (2000 : Int))) (
  J_20 true w4) (
  callJ Tryz.prog fn_slices_ContainsFunc_sl_api_Node_api_Node #[.slice r8p r8l r8c, .func (.func 21) #[] #[]] w4 [.one .bool] fun (r27 : Bool) (w14 : World) =>
  J_20 r27 w14)))) fun J_9 =>
  ldI .i64 w2 ⟨b1, 0, none⟩ fun x11 =>
  condB (x11 != (1 : Int)) (
  J_9 true w2) (
  callJ Tryz.prog fn_slices_ContainsFunc_sl_api_Node_api_Node #[.slice r8p r8l r8c, .func (.func 19) #[] #[]] w2 [.one .bool] fun (r15 : Bool) (w15 : World) =>
  J_9 r15 w15)
def ann_tree_Check : Ann := .s (.o) (.s (.o) (.s (.b (.j [(9, .bool)] (.o) (.c (.s (.o) (.o)) (.s (.o) (.c (.s (.o) (.o)) (.j [(20, .bool)] (.o) (.c (.s (.o) (.o)) (.s (.o) (.c (.s (.o) (.o)) (.s (.o) (.c (.s (.o) (.o)) (.s (.o) (.c (.s (.o) (.o)) (.s (.o) (.c (.s (.o) (.o)) (.o)))))))))))))))) (.s (.o) (.s (.s (.o) (.b (.l [(4, .int .i64), (44, .int .i64)] (.s (.o) (.s (.c (.o) (.o)) (.j [(4, .int .i64)] (.b (.s (.o) (.s (.o) (.c (.o) (.o))))) (.o))))))) (.s (.s (.o) (.c (.s (.o) (.o)) (.o))) (.s (.o) (.o)))))))
theorem eq_tree_Check (d0_0 : Int) (d0_1 : ByteArray) (d0_2 : ByteArray) (d0_3p : Option Addr) (d0_3l : Nat) (d0_3c : Nat) (d0_4p : Option Addr) (d0_4l : Nat) (d0_4c : Nat) (d0_5 : ByteArray) (w : World) (J : Int → World → Prop) : vcFun Tryz.prog Tryz.f5 ann_tree_Check [.one (.int .i64)] [.agg ⟨[.int .i64 d0_0, .string d0_1, .string d0_2, .slice d0_3p d0_3l d0_3c, .slice d0_4p d0_4l d0_4c, .string d0_5]⟩] w J = VC_tree_Check d0_0 d0_1 d0_2 d0_3p d0_3l d0_3c d0_4p d0_4l d0_4c d0_5 w J := by kernel_rfl
theorem c_tree_Check {d0_0 : Int} {d0_1 : ByteArray} {d0_2 : ByteArray} {d0_3p : Option Addr} {d0_3l : Nat} {d0_3c : Nat} {d0_4p : Option Addr} {d0_4l : Nat} {d0_4c : Nat} {d0_5 : ByteArray} {w : World} {J : Int → World → Prop} (h : VC_tree_Check d0_0 d0_1 d0_2 d0_3p d0_3l d0_3c d0_4p d0_4l d0_4c d0_5 w J) : callJ Tryz.prog fn_tree_Check #[.agg ⟨[.int .i64 d0_0, .string d0_1, .string d0_2, .slice d0_3p d0_3l d0_3c, .slice d0_4p d0_4l d0_4c, .string d0_5]⟩] w [.one (.int .i64)] J := vc_calls Tryz.func5 ann_tree_Check (Eq.mpr (eq_tree_Check d0_0 d0_1 d0_2 d0_3p d0_3l d0_3c d0_4p d0_4l d0_4c d0_5 w J) h)

/-- lectern/tree.flat -/
def VC_tree_flat (n0_0 : Int) (n0_1 : ByteArray) (n0_2 : ByteArray) (n0_3p : Option Addr) (n0_3l : Nat) (n0_3c : Nat) (n0_4p : Option Addr) (n0_4l : Nat) (n0_4c : Nat) (n0_5 : ByteArray) (l1p : Option Addr) (l1l : Nat) (l1c : Nat) (w : World) (J : Option Addr → Nat → Nat → World → Prop) : Prop :=
  newB w (.cells ⟨[.int .i64 n0_0, .string n0_1, .string n0_2, .slice n0_3p n0_3l n0_3c, .slice n0_4p n0_4l n0_4c, .string n0_5]⟩ T_api_Node) fun b2 w1 =>
  ldI .i64 w1 ⟨b2, 0, none⟩ fun x8_0 =>
  ldStr w1 ⟨b2, 1, none⟩ fun x8_1 =>
  ldStr w1 ⟨b2, 2, none⟩ fun x8_2 =>
  ldS w1 ⟨b2, 3, none⟩ fun x8_3p x8_3l x8_3c =>
  ldS w1 ⟨b2, 4, none⟩ fun x8_4p x8_4l x8_4c =>
  ldStr w1 ⟨b2, 5, none⟩ fun x8_5 =>
  Array.size (⟨[.int .i64 x8_0, .string x8_1, .string x8_2, .slice x8_3p x8_3l x8_3c, .slice x8_4p x8_4l x8_4c, .string x8_5]⟩ : Array Value) = 6 ∧
  newB w1 (.cells ⟨[.int .i64 x8_0, .string x8_1, .string x8_2, .slice x8_3p x8_3l x8_3c, .slice x8_4p x8_4l x8_4c, .string x8_5]⟩ T_api_Node) fun b9 w2 =>
  appJ Tryz.prog T_sl_api_Node T_sl_api_Node (.slice l1p l1l l1c) (.slice (some ⟨b9, 0, none⟩) 1 1) w2 fun q10p q10l q10c w3 =>
  ldS w3 ⟨b2, 4, none⟩ fun x12p x12l x12c =>
  ∃ I_1 : Option Addr → Nat → Nat → Int → World → Nat → Prop, (∃ m : Nat, I_1 q10p q10l q10c (0 : Int) w3 m) ∧ ∀ (l1p : Option Addr) (l1l : Nat) (l1c : Nat) (x14 : Int) (w4 : World) (m : Nat), I_1 l1p l1l l1c x14 w4 m → (
  condB (decide (x14 < ((x12l : Nat) : Int))) (
  idxA x12p x12l x14 fun a16 =>
  ldI .i64 w4 ((a16.add (x14.toNat * 6))) fun x17_0 =>
  ldStr w4 (((a16.add (x14.toNat * 6)).add 1)) fun x17_1 =>
  ldStr w4 (((a16.add (x14.toNat * 6)).add 2)) fun x17_2 =>
  ldS w4 (((a16.add (x14.toNat * 6)).add 3)) fun x17_3p x17_3l x17_3c =>
  ldS w4 (((a16.add (x14.toNat * 6)).add 4)) fun x17_4p x17_4l x17_4c =>
  ldStr w4 (((a16.add (x14.toNat * 6)).add 5)) fun x17_5 =>
  newB w4 (.cells (zeroC Tryz.prog T_api_Node) T_api_Node) fun b6 w5 =>
  stN w5 ⟨b6, 0, none⟩ ⟨[.int .i64 x17_0, .string x17_1, .string x17_2, .slice x17_3p x17_3l x17_3c, .slice x17_4p x17_4l x17_4c, .string x17_5]⟩ 6 fun w6 =>
  ldI .i64 w6 ⟨b6, 0, none⟩ fun x18_0 =>
  ldStr w6 ⟨b6, 1, none⟩ fun x18_1 =>
  ldStr w6 ⟨b6, 2, none⟩ fun x18_2 =>
  ldS w6 ⟨b6, 3, none⟩ fun x18_3p x18_3l x18_3c =>
  ldS w6 ⟨b6, 4, none⟩ fun x18_4p x18_4l x18_4c =>
  ldStr w6 ⟨b6, 5, none⟩ fun x18_5 =>
  callJ Tryz.prog fn_tree_flat #[.agg ⟨[.int .i64 x18_0, .string x18_1, .string x18_2, .slice x18_3p x18_3l x18_3c, .slice x18_4p x18_4l x18_4c, .string x18_5]⟩, .slice l1p l1l l1c] w6 [.one .slice] fun (r20p : Option Addr) (r20l : Nat) (r20c : Nat) (w7 : World) =>
  ∃ m' : Nat, m' < m ∧ I_1 r20p r20l r20c (w64 (x14 + (1 : Int))) w7 m') (
  J l1p l1l l1c w4))
def ann_tree_flat : Ann := .s (.o) (.s (.o) (.s (.s (.o) (.b (.l [(1, .slice), (14, .int .i64)] (.s (.o) (.s (.c (.o) (.o)) (.s (.b (.s (.o) (.o))) (.o))))))) (.s (.o) (.o))))
theorem eq_tree_flat (n0_0 : Int) (n0_1 : ByteArray) (n0_2 : ByteArray) (n0_3p : Option Addr) (n0_3l : Nat) (n0_3c : Nat) (n0_4p : Option Addr) (n0_4l : Nat) (n0_4c : Nat) (n0_5 : ByteArray) (l1p : Option Addr) (l1l : Nat) (l1c : Nat) (w : World) (J : Option Addr → Nat → Nat → World → Prop) : vcFun Tryz.prog Tryz.f17 ann_tree_flat [.one .slice] [.agg ⟨[.int .i64 n0_0, .string n0_1, .string n0_2, .slice n0_3p n0_3l n0_3c, .slice n0_4p n0_4l n0_4c, .string n0_5]⟩, .slice l1p l1l l1c] w J = VC_tree_flat n0_0 n0_1 n0_2 n0_3p n0_3l n0_3c n0_4p n0_4l n0_4c n0_5 l1p l1l l1c w J := by kernel_rfl
theorem c_tree_flat {n0_0 : Int} {n0_1 : ByteArray} {n0_2 : ByteArray} {n0_3p : Option Addr} {n0_3l : Nat} {n0_3c : Nat} {n0_4p : Option Addr} {n0_4l : Nat} {n0_4c : Nat} {n0_5 : ByteArray} {l1p : Option Addr} {l1l : Nat} {l1c : Nat} {w : World} {J : Option Addr → Nat → Nat → World → Prop} (h : VC_tree_flat n0_0 n0_1 n0_2 n0_3p n0_3l n0_3c n0_4p n0_4l n0_4c n0_5 l1p l1l l1c w J) : callJ Tryz.prog fn_tree_flat #[.agg ⟨[.int .i64 n0_0, .string n0_1, .string n0_2, .slice n0_3p n0_3l n0_3c, .slice n0_4p n0_4l n0_4c, .string n0_5]⟩, .slice l1p l1l l1c] w [.one .slice] J := vc_calls Tryz.func17 ann_tree_flat (Eq.mpr (eq_tree_flat n0_0 n0_1 n0_2 n0_3p n0_3l n0_3c n0_4p n0_4l n0_4c n0_5 l1p l1l l1c w J) h)

/-- lectern/tree.odd -/
def VC_tree_odd (n0_0 : Int) (n0_1 : ByteArray) (n0_2 : ByteArray) (n0_3p : Option Addr) (n0_3l : Nat) (n0_3c : Nat) (n0_4p : Option Addr) (n0_4l : Nat) (n0_4c : Nat) (n0_5 : ByteArray) (w : World) (J : Bool → World → Prop) : Prop :=
  newB w (.cells ⟨[.int .i64 n0_0, .string n0_1, .string n0_2, .slice n0_3p n0_3l n0_3c, .slice n0_4p n0_4l n0_4c, .string n0_5]⟩ T_api_Node) fun b1 w1 =>
  withJ (fun (bad3 : Bool) (w2 : World) =>
  withJ (fun (bad3_1 : Bool) (w3 : World) =>
  withJ (fun (x2 : Bool) (w4 : World) =>
  J x2 w4) fun J_2 =>
  condB bad3_1 (
  J_2 true w3) (
  ldS w3 ⟨b1, 4, none⟩ fun x53p x53l x53c =>
  callJ Tryz.prog fn_slices_ContainsFunc_sl_api_Node_api_Node #[.slice x53p x53l x53c, .func (.func 49) #[] #[.pointer (some ⟨b1, 0, none⟩)]] w3 [.one .bool] fun (r55 : Bool) (w5 : World) =>
  J_2 r55 w5)) fun J_3_1 =>
  ldI .i64 w2 ⟨b1, 0, none⟩ fun x14 =>
  condB (x14 == (1 : Int)) (
  condB bad3 (
  J_3_1 true w2) (
  ldStr w2 ⟨b1, 1, none⟩ fun x27_0 =>
  ldStr w2 ⟨b1, 2, none⟩ fun x27_1 =>
  condB (!((x27_0.toList == ByteArray.empty.toList) && ((x27_1.toList == ByteArray.empty.toList) && true))) (
  J_3_1 true w2) (
  ldStr w2 ⟨b1, 5, none⟩ fun x33 =>
  J_3_1 (!(x33.toList == (⟨#[]⟩ : ByteArray).toList)) w2))) (
  condB (x14 == (2 : Int)) (
  ldStr w2 ⟨b1, 5, none⟩ fun x39 =>
  J_3_1 (!(x39.toList == (⟨#[]⟩ : ByteArray).toList)) w2) (
  condB (x14 == (5 : Int)) (
  condB bad3 (
  J_3_1 true w2) (
  ldStr w2 ⟨b1, 1, none⟩ fun x47 =>
  J_3_1 (!(x47.toList == (⟨#[]⟩ : ByteArray).toList)) w2)) (
  condB bad3 (
  J_3_1 true w2) (
  ldStr w2 ⟨b1, 1, none⟩ fun x18_0 =>
  ldStr w2 ⟨b1, 2, none⟩ fun x18_1 =>
  J_3_1 (!((x18_0.toList == ByteArray.empty.toList) && ((x18_1.toList == ByteArray.empty.toList) && true))) w2))))) fun J_3 =>
  ldI .i64 w1 ⟨b1, 0, none⟩ fun x5 =>
  condB (x5 != (2 : Int)) (
  ldS w1 ⟨b1, 3, none⟩ fun x9p x9l x9c =>
  J_3 (decide (((x9l : Nat) : Int) > (0 : Int))) w1) (
  J_3 false w1)
def ann_tree_odd : Ann := .s (.o) (.j [(3, .bool)] (.o) (.j [(3, .bool)] (.s (.o) (.b (.s (.o) (.c (.o) (.s (.o) (.c (.o) (.s (.o) (.c (.o) (.o))))))))) (.j [(2, .bool)] (.o) (.o))))
theorem eq_tree_odd (n0_0 : Int) (n0_1 : ByteArray) (n0_2 : ByteArray) (n0_3p : Option Addr) (n0_3l : Nat) (n0_3c : Nat) (n0_4p : Option Addr) (n0_4l : Nat) (n0_4c : Nat) (n0_5 : ByteArray) (w : World) (J : Bool → World → Prop) : vcFun Tryz.prog Tryz.f19 ann_tree_odd [.one .bool] [.agg ⟨[.int .i64 n0_0, .string n0_1, .string n0_2, .slice n0_3p n0_3l n0_3c, .slice n0_4p n0_4l n0_4c, .string n0_5]⟩] w J = VC_tree_odd n0_0 n0_1 n0_2 n0_3p n0_3l n0_3c n0_4p n0_4l n0_4c n0_5 w J := by kernel_rfl
theorem c_tree_odd {n0_0 : Int} {n0_1 : ByteArray} {n0_2 : ByteArray} {n0_3p : Option Addr} {n0_3l : Nat} {n0_3c : Nat} {n0_4p : Option Addr} {n0_4l : Nat} {n0_4c : Nat} {n0_5 : ByteArray} {w : World} {J : Bool → World → Prop} (h : VC_tree_odd n0_0 n0_1 n0_2 n0_3p n0_3l n0_3c n0_4p n0_4l n0_4c n0_5 w J) : callJ Tryz.prog fn_tree_odd #[.agg ⟨[.int .i64 n0_0, .string n0_1, .string n0_2, .slice n0_3p n0_3l n0_3c, .slice n0_4p n0_4l n0_4c, .string n0_5]⟩] w [.one .bool] J := vc_calls Tryz.func19 ann_tree_odd (Eq.mpr (eq_tree_odd n0_0 n0_1 n0_2 n0_3p n0_3l n0_3c n0_4p n0_4l n0_4c n0_5 w J) h)

/-- lectern/tree.odd$1 -/
def VC_tree_odd_1 (k0_0 : Int) (k0_1 : ByteArray) (k0_2 : ByteArray) (k0_3p : Option Addr) (k0_3l : Nat) (k0_3c : Nat) (k0_4p : Option Addr) (k0_4l : Nat) (k0_4c : Nat) (k0_5 : ByteArray) (fv0 : Addr) (w : World) (J : Bool → World → Prop) : Prop :=
  newB w (.cells ⟨[.int .i64 k0_0, .string k0_1, .string k0_2, .slice k0_3p k0_3l k0_3c, .slice k0_4p k0_4l k0_4c, .string k0_5]⟩ T_api_Node) fun b2 w1 =>
  ldI .i64 w1 fv0 fun x5 =>
  ldI .i64 w1 ⟨b2, 0, none⟩ fun x7 =>
  callJ Tryz.prog fn_tree_may #[.int .i64 x5, .int .i64 x7] w1 [.one .bool] fun (r8 : Bool) (w2 : World) =>
  J (!r8) w2
def ann_tree_odd_1 : Ann := .s (.o) (.s (.o) (.o))
theorem eq_tree_odd_1 (k0_0 : Int) (k0_1 : ByteArray) (k0_2 : ByteArray) (k0_3p : Option Addr) (k0_3l : Nat) (k0_3c : Nat) (k0_4p : Option Addr) (k0_4l : Nat) (k0_4c : Nat) (k0_5 : ByteArray) (fv0 : Addr) (w : World) (J : Bool → World → Prop) : vcFun Tryz.prog Tryz.f49 ann_tree_odd_1 [.one .bool] [.agg ⟨[.int .i64 k0_0, .string k0_1, .string k0_2, .slice k0_3p k0_3l k0_3c, .slice k0_4p k0_4l k0_4c, .string k0_5]⟩, .pointer (some fv0)] w J = VC_tree_odd_1 k0_0 k0_1 k0_2 k0_3p k0_3l k0_3c k0_4p k0_4l k0_4c k0_5 fv0 w J := by kernel_rfl
theorem c_tree_odd_1 {k0_0 : Int} {k0_1 : ByteArray} {k0_2 : ByteArray} {k0_3p : Option Addr} {k0_3l : Nat} {k0_3c : Nat} {k0_4p : Option Addr} {k0_4l : Nat} {k0_4c : Nat} {k0_5 : ByteArray} {fv0 : Addr} {w : World} {J : Bool → World → Prop} (h : VC_tree_odd_1 k0_0 k0_1 k0_2 k0_3p k0_3l k0_3c k0_4p k0_4l k0_4c k0_5 fv0 w J) : callJ Tryz.prog fn_tree_odd_1 #[.agg ⟨[.int .i64 k0_0, .string k0_1, .string k0_2, .slice k0_3p k0_3l k0_3c, .slice k0_4p k0_4l k0_4c, .string k0_5]⟩, .pointer (some fv0)] w [.one .bool] J := vc_calls Tryz.func49 ann_tree_odd_1 (Eq.mpr (eq_tree_odd_1 k0_0 k0_1 k0_2 k0_3p k0_3l k0_3c k0_4p k0_4l k0_4c k0_5 fv0 w J) h)

/-- lectern/tree.may -/
def VC_tree_may (parent0 : Int) (kid1 : Int) (w : World) (J : Bool → World → Prop) : Prop :=
  condB (parent0 == (1 : Int)) (
  withJ (fun (x4 : Bool) (w1 : World) =>
  J x4 w1) fun J_4 =>
  condB (kid1 == (2 : Int)) (
  J_4 true w) (
  condB (kid1 == (4 : Int)) (
  J_4 true w) (
  J_4 (kid1 == (5 : Int)) w))) (
  condB (parent0 == (2 : Int)) (
  withJ (fun (x4_1 : Bool) (w2 : World) =>
  J x4_1 w2) fun J_4_1 =>
  condB (decide (kid1 ≥ (2 : Int))) (
  J_4_1 (decide (kid1 ≤ (5 : Int))) w) (
  J_4_1 false w)) (
  J false w))
def ann_tree_may : Ann := .s (.o) (.s (.s (.o) (.b (.s (.o) (.c (.j [(4, .bool)] (.o) (.o)) (.s (.o) (.c (.j [(4, .bool)] (.o) (.o)) (.o))))))) (.s (.o) (.o)))
theorem eq_tree_may (parent0 : Int) (kid1 : Int) (w : World) (J : Bool → World → Prop) : vcFun Tryz.prog Tryz.f50 ann_tree_may [.one .bool] [.int .i64 parent0, .int .i64 kid1] w J = VC_tree_may parent0 kid1 w J := by kernel_rfl
theorem c_tree_may {parent0 : Int} {kid1 : Int} {w : World} {J : Bool → World → Prop} (h : VC_tree_may parent0 kid1 w J) : callJ Tryz.prog fn_tree_may #[.int .i64 parent0, .int .i64 kid1] w [.one .bool] J := vc_calls Tryz.func50 ann_tree_may (Eq.mpr (eq_tree_may parent0 kid1 w J) h)

/-- lectern/tree.deep -/
def VC_tree_deep (n0_0 : Int) (n0_1 : ByteArray) (n0_2 : ByteArray) (n0_3p : Option Addr) (n0_3l : Nat) (n0_3c : Nat) (n0_4p : Option Addr) (n0_4l : Nat) (n0_4c : Nat) (n0_5 : ByteArray) (above1 : Int) (w : World) (J : Bool → World → Prop) : Prop :=
  newB w (.cells ⟨[.int .i64 n0_0, .string n0_1, .string n0_2, .slice n0_3p n0_3l n0_3c, .slice n0_4p n0_4l n0_4c, .string n0_5]⟩ T_api_Node) fun b2 w1 =>
  newB w1 (.cells #[.int .i64 above1] T_int) fun b3 w2 =>
  withJ (fun (w3 : World) =>
  ldS w3 ⟨b2, 4, none⟩ fun x13p x13l x13c =>
  callJ Tryz.prog fn_slices_ContainsFunc_sl_api_Node_api_Node #[.slice x13p x13l x13c, .func (.func 51) #[] #[.pointer (some ⟨b3, 0, none⟩)]] w3 [.one .bool] fun (r15 : Bool) (w4 : World) =>
  J r15 w4) fun J_0 =>
  ldI .i64 w2 ⟨b2, 0, none⟩ fun x6 =>
  condB (x6 == (2 : Int)) (
  ldI .i64 w2 ⟨b3, 0, none⟩ fun x8 =>
  condB (decide (x8 > (32 : Int))) (
  J true w2) (
  ldI .i64 w2 ⟨b3, 0, none⟩ fun x10 =>
  stV w2 ⟨b3, 0, none⟩ (.int .i64 (w64 (x10 + (1 : Int)))) fun w5 =>
  J_0 w5)) (
  J_0 w2)
def ann_tree_deep : Ann := .s (.o) (.j [] (.s (.o) (.c (.s (.s (.o) (.c (.s (.o) (.o)) (.o))) (.o)) (.o))) (.s (.o) (.o)))
theorem eq_tree_deep (n0_0 : Int) (n0_1 : ByteArray) (n0_2 : ByteArray) (n0_3p : Option Addr) (n0_3l : Nat) (n0_3c : Nat) (n0_4p : Option Addr) (n0_4l : Nat) (n0_4c : Nat) (n0_5 : ByteArray) (above1 : Int) (w : World) (J : Bool → World → Prop) : vcFun Tryz.prog Tryz.f20 ann_tree_deep [.one .bool] [.agg ⟨[.int .i64 n0_0, .string n0_1, .string n0_2, .slice n0_3p n0_3l n0_3c, .slice n0_4p n0_4l n0_4c, .string n0_5]⟩, .int .i64 above1] w J = VC_tree_deep n0_0 n0_1 n0_2 n0_3p n0_3l n0_3c n0_4p n0_4l n0_4c n0_5 above1 w J := by kernel_rfl
theorem c_tree_deep {n0_0 : Int} {n0_1 : ByteArray} {n0_2 : ByteArray} {n0_3p : Option Addr} {n0_3l : Nat} {n0_3c : Nat} {n0_4p : Option Addr} {n0_4l : Nat} {n0_4c : Nat} {n0_5 : ByteArray} {above1 : Int} {w : World} {J : Bool → World → Prop} (h : VC_tree_deep n0_0 n0_1 n0_2 n0_3p n0_3l n0_3c n0_4p n0_4l n0_4c n0_5 above1 w J) : callJ Tryz.prog fn_tree_deep #[.agg ⟨[.int .i64 n0_0, .string n0_1, .string n0_2, .slice n0_3p n0_3l n0_3c, .slice n0_4p n0_4l n0_4c, .string n0_5]⟩, .int .i64 above1] w [.one .bool] J := vc_calls Tryz.func20 ann_tree_deep (Eq.mpr (eq_tree_deep n0_0 n0_1 n0_2 n0_3p n0_3l n0_3c n0_4p n0_4l n0_4c n0_5 above1 w J) h)

/-- lectern/tree.deep$1 -/
def VC_tree_deep_1 (k0_0 : Int) (k0_1 : ByteArray) (k0_2 : ByteArray) (k0_3p : Option Addr) (k0_3l : Nat) (k0_3c : Nat) (k0_4p : Option Addr) (k0_4l : Nat) (k0_4c : Nat) (k0_5 : ByteArray) (fv0 : Addr) (w : World) (J : Bool → World → Prop) : Prop :=
  newB w (.cells ⟨[.int .i64 k0_0, .string k0_1, .string k0_2, .slice k0_3p k0_3l k0_3c, .slice k0_4p k0_4l k0_4c, .string k0_5]⟩ T_api_Node) fun b2 w1 =>
  ldI .i64 w1 ⟨b2, 0, none⟩ fun x4_0 =>
  ldStr w1 ⟨b2, 1, none⟩ fun x4_1 =>
  ldStr w1 ⟨b2, 2, none⟩ fun x4_2 =>
  ldS w1 ⟨b2, 3, none⟩ fun x4_3p x4_3l x4_3c =>
  ldS w1 ⟨b2, 4, none⟩ fun x4_4p x4_4l x4_4c =>
  ldStr w1 ⟨b2, 5, none⟩ fun x4_5 =>
  ldI .i64 w1 fv0 fun x5 =>
  callJ Tryz.prog fn_tree_deep #[.agg ⟨[.int .i64 x4_0, .string x4_1, .string x4_2, .slice x4_3p x4_3l x4_3c, .slice x4_4p x4_4l x4_4c, .string x4_5]⟩, .int .i64 x5] w1 [.one .bool] fun (r6 : Bool) (w2 : World) =>
  J r6 w2
def ann_tree_deep_1 : Ann := .s (.o) (.s (.o) (.o))
theorem eq_tree_deep_1 (k0_0 : Int) (k0_1 : ByteArray) (k0_2 : ByteArray) (k0_3p : Option Addr) (k0_3l : Nat) (k0_3c : Nat) (k0_4p : Option Addr) (k0_4l : Nat) (k0_4c : Nat) (k0_5 : ByteArray) (fv0 : Addr) (w : World) (J : Bool → World → Prop) : vcFun Tryz.prog Tryz.f51 ann_tree_deep_1 [.one .bool] [.agg ⟨[.int .i64 k0_0, .string k0_1, .string k0_2, .slice k0_3p k0_3l k0_3c, .slice k0_4p k0_4l k0_4c, .string k0_5]⟩, .pointer (some fv0)] w J = VC_tree_deep_1 k0_0 k0_1 k0_2 k0_3p k0_3l k0_3c k0_4p k0_4l k0_4c k0_5 fv0 w J := by kernel_rfl
theorem c_tree_deep_1 {k0_0 : Int} {k0_1 : ByteArray} {k0_2 : ByteArray} {k0_3p : Option Addr} {k0_3l : Nat} {k0_3c : Nat} {k0_4p : Option Addr} {k0_4l : Nat} {k0_4c : Nat} {k0_5 : ByteArray} {fv0 : Addr} {w : World} {J : Bool → World → Prop} (h : VC_tree_deep_1 k0_0 k0_1 k0_2 k0_3p k0_3l k0_3c k0_4p k0_4l k0_4c k0_5 fv0 w J) : callJ Tryz.prog fn_tree_deep_1 #[.agg ⟨[.int .i64 k0_0, .string k0_1, .string k0_2, .slice k0_3p k0_3l k0_3c, .slice k0_4p k0_4l k0_4c, .string k0_5]⟩, .pointer (some fv0)] w [.one .bool] J := vc_calls Tryz.func51 ann_tree_deep_1 (Eq.mpr (eq_tree_deep_1 k0_0 k0_1 k0_2 k0_3p k0_3l k0_3c k0_4p k0_4l k0_4c k0_5 fv0 w J) h)

/-- lectern/tree.great -/
def VC_tree_great (n0_0 : Int) (n0_1 : ByteArray) (n0_2 : ByteArray) (n0_3p : Option Addr) (n0_3l : Nat) (n0_3c : Nat) (n0_4p : Option Addr) (n0_4l : Nat) (n0_4c : Nat) (n0_5 : ByteArray) (w : World) (J : Bool → World → Prop) : Prop :=
  newB w (.cells ⟨[.int .i64 n0_0, .string n0_1, .string n0_2, .slice n0_3p n0_3l n0_3c, .slice n0_4p n0_4l n0_4c, .string n0_5]⟩ T_api_Node) fun b1 w1 =>
  withJ (fun (x2 : Bool) (w2 : World) =>
  J x2 w2) fun J_2 =>
  ldS w1 ⟨b1, 3, none⟩ fun x5p x5l x5c =>
  condB (decide (((x5l : Nat) : Int) > (64 : Int))) (
  J_2 true w1) (
  ldStr w1 ⟨b1, 5, none⟩ fun x10 =>
  condB (decide ((x10.size : Int) > (8192 : Int))) (
  J_2 true w1) (
  ldS w1 ⟨b1, 3, none⟩ fun x16p x16l x16c =>
  callJ Tryz.prog fn_slices_ContainsFunc_sl_api_Attr_api_Attr #[.slice x16p x16l x16c, .func (.func 52) #[] #[]] w1 [.one .bool] fun (r18 : Bool) (w3 : World) =>
  J_2 r18 w3))
def ann_tree_great : Ann := .s (.o) (.s (.o) (.j [(2, .bool)] (.o) (.o)))
theorem eq_tree_great (n0_0 : Int) (n0_1 : ByteArray) (n0_2 : ByteArray) (n0_3p : Option Addr) (n0_3l : Nat) (n0_3c : Nat) (n0_4p : Option Addr) (n0_4l : Nat) (n0_4c : Nat) (n0_5 : ByteArray) (w : World) (J : Bool → World → Prop) : vcFun Tryz.prog Tryz.f21 ann_tree_great [.one .bool] [.agg ⟨[.int .i64 n0_0, .string n0_1, .string n0_2, .slice n0_3p n0_3l n0_3c, .slice n0_4p n0_4l n0_4c, .string n0_5]⟩] w J = VC_tree_great n0_0 n0_1 n0_2 n0_3p n0_3l n0_3c n0_4p n0_4l n0_4c n0_5 w J := by kernel_rfl
theorem c_tree_great {n0_0 : Int} {n0_1 : ByteArray} {n0_2 : ByteArray} {n0_3p : Option Addr} {n0_3l : Nat} {n0_3c : Nat} {n0_4p : Option Addr} {n0_4l : Nat} {n0_4c : Nat} {n0_5 : ByteArray} {w : World} {J : Bool → World → Prop} (h : VC_tree_great n0_0 n0_1 n0_2 n0_3p n0_3l n0_3c n0_4p n0_4l n0_4c n0_5 w J) : callJ Tryz.prog fn_tree_great #[.agg ⟨[.int .i64 n0_0, .string n0_1, .string n0_2, .slice n0_3p n0_3l n0_3c, .slice n0_4p n0_4l n0_4c, .string n0_5]⟩] w [.one .bool] J := vc_calls Tryz.func21 ann_tree_great (Eq.mpr (eq_tree_great n0_0 n0_1 n0_2 n0_3p n0_3l n0_3c n0_4p n0_4l n0_4c n0_5 w J) h)

/-- lectern/tree.great$1 -/
def VC_tree_great_1 (a0_0 : ByteArray) (a0_1 : ByteArray) (a0_2 : ByteArray) (w : World) (J : Bool → World → Prop) : Prop :=
  newB w (.cells ⟨[.string a0_0, .string a0_1, .string a0_2]⟩ T_api_Attr) fun b1 w1 =>
  ldStr w1 ⟨b1, 2, none⟩ fun x4 =>
  J (decide ((x4.size : Int) > (8192 : Int))) w1
def ann_tree_great_1 : Ann := .s (.o) (.s (.o) (.o))
theorem eq_tree_great_1 (a0_0 : ByteArray) (a0_1 : ByteArray) (a0_2 : ByteArray) (w : World) (J : Bool → World → Prop) : vcFun Tryz.prog Tryz.f52 ann_tree_great_1 [.one .bool] [.agg ⟨[.string a0_0, .string a0_1, .string a0_2]⟩] w J = VC_tree_great_1 a0_0 a0_1 a0_2 w J := by kernel_rfl
theorem c_tree_great_1 {a0_0 : ByteArray} {a0_1 : ByteArray} {a0_2 : ByteArray} {w : World} {J : Bool → World → Prop} (h : VC_tree_great_1 a0_0 a0_1 a0_2 w J) : callJ Tryz.prog fn_tree_great_1 #[.agg ⟨[.string a0_0, .string a0_1, .string a0_2]⟩] w [.one .bool] J := vc_calls Tryz.func52 ann_tree_great_1 (Eq.mpr (eq_tree_great_1 a0_0 a0_1 a0_2 w J) h)

/-- lectern/tree.misnamed -/
def VC_tree_misnamed (n0_0 : Int) (n0_1 : ByteArray) (n0_2 : ByteArray) (n0_3p : Option Addr) (n0_3l : Nat) (n0_3c : Nat) (n0_4p : Option Addr) (n0_4l : Nat) (n0_4c : Nat) (n0_5 : ByteArray) (w : World) (J : Bool → World → Prop) : Prop :=
  newB w (.cells ⟨[.int .i64 n0_0, .string n0_1, .string n0_2, .slice n0_3p n0_3l n0_3c, .slice n0_4p n0_4l n0_4c, .string n0_5]⟩ T_api_Node) fun b1 w1 =>
  ldI .i64 w1 ⟨b1, 0, none⟩ fun x5 =>
  condB (x5 == (2 : Int)) (
  withJ (fun (x2 : Bool) (w2 : World) =>
  J x2 w2) fun J_2 =>
  ldStr w1 ⟨b1, 1, none⟩ fun x9_0 =>
  ldStr w1 ⟨b1, 2, none⟩ fun x9_1 =>
  callJ Tryz.prog fn_tree_wrongName #[.agg ⟨[.string x9_0, .string x9_1]⟩] w1 [.one .bool] fun (r10 : Bool) (w3 : World) =>
  condB r10 (
  J_2 true w3) (
  ldS w3 ⟨b1, 3, none⟩ fun x13p x13l x13c =>
  callJ Tryz.prog fn_slices_ContainsFunc_sl_api_Attr_api_Attr #[.slice x13p x13l x13c, .func (.func 54) #[] #[]] w3 [.one .bool] fun (r15 : Bool) (w4 : World) =>
  J_2 r15 w4)) (
  condB (x5 == (5 : Int)) (
  withJ (fun (x2_1 : Bool) (w5 : World) =>
  J x2_1 w5) fun J_2_1 =>
  ldStr w1 ⟨b1, 2, none⟩ fun x21 =>
  callJ Tryz.prog fn_char_Name #[.string x21] w1 [.one .bool] fun (r22 : Bool) (w6 : World) =>
  condB (!r22) (
  J_2_1 true w6) (
  ldStr w6 ⟨b1, 2, none⟩ fun x27 =>
  callJ Tryz.prog fn_strings_EqualFold #[.string x27, .string ⟨#[120, 109, 108]⟩] w6 [.one .bool] fun (r28 : Bool) (w7 : World) =>
  J_2_1 r28 w7)) (
  J false w1))
def ann_tree_misnamed : Ann := .s (.o) (.s (.o) (.s (.s (.o) (.b (.s (.o) (.c (.j [(2, .bool)] (.o) (.o)) (.s (.o) (.c (.j [(2, .bool)] (.o) (.o)) (.o))))))) (.s (.o) (.o))))
theorem eq_tree_misnamed (n0_0 : Int) (n0_1 : ByteArray) (n0_2 : ByteArray) (n0_3p : Option Addr) (n0_3l : Nat) (n0_3c : Nat) (n0_4p : Option Addr) (n0_4l : Nat) (n0_4c : Nat) (n0_5 : ByteArray) (w : World) (J : Bool → World → Prop) : vcFun Tryz.prog Tryz.f22 ann_tree_misnamed [.one .bool] [.agg ⟨[.int .i64 n0_0, .string n0_1, .string n0_2, .slice n0_3p n0_3l n0_3c, .slice n0_4p n0_4l n0_4c, .string n0_5]⟩] w J = VC_tree_misnamed n0_0 n0_1 n0_2 n0_3p n0_3l n0_3c n0_4p n0_4l n0_4c n0_5 w J := by kernel_rfl
theorem c_tree_misnamed {n0_0 : Int} {n0_1 : ByteArray} {n0_2 : ByteArray} {n0_3p : Option Addr} {n0_3l : Nat} {n0_3c : Nat} {n0_4p : Option Addr} {n0_4l : Nat} {n0_4c : Nat} {n0_5 : ByteArray} {w : World} {J : Bool → World → Prop} (h : VC_tree_misnamed n0_0 n0_1 n0_2 n0_3p n0_3l n0_3c n0_4p n0_4l n0_4c n0_5 w J) : callJ Tryz.prog fn_tree_misnamed #[.agg ⟨[.int .i64 n0_0, .string n0_1, .string n0_2, .slice n0_3p n0_3l n0_3c, .slice n0_4p n0_4l n0_4c, .string n0_5]⟩] w [.one .bool] J := vc_calls Tryz.func22 ann_tree_misnamed (Eq.mpr (eq_tree_misnamed n0_0 n0_1 n0_2 n0_3p n0_3l n0_3c n0_4p n0_4l n0_4c n0_5 w J) h)

/-- lectern/tree.misnamed$1 -/
def VC_tree_misnamed_1 (a0_0 : ByteArray) (a0_1 : ByteArray) (a0_2 : ByteArray) (w : World) (J : Bool → World → Prop) : Prop :=
  newB w (.cells ⟨[.string a0_0, .string a0_1, .string a0_2]⟩ T_api_Attr) fun b1 w1 =>
  withJ (fun (x2 : Bool) (w2 : World) =>
  J x2 w2) fun J_2 =>
  ldStr w1 ⟨b1, 0, none⟩ fun x4_0 =>
  ldStr w1 ⟨b1, 1, none⟩ fun x4_1 =>
  callJ Tryz.prog fn_tree_wrongName #[.agg ⟨[.string x4_0, .string x4_1]⟩] w1 [.one .bool] fun (r5 : Bool) (w3 : World) =>
  condB r5 (
  J_2 true w3) (
  ldStr w3 ⟨b1, 0, none⟩ fun x8_0 =>
  ldStr w3 ⟨b1, 1, none⟩ fun x8_1 =>
  J_2 ((x8_0.toList == ByteArray.empty.toList) && ((x8_1.toList == (⟨#[120, 109, 108, 110, 115]⟩ : ByteArray).toList) && true)) w3)
def ann_tree_misnamed_1 : Ann := .s (.o) (.j [(2, .bool)] (.o) (.o))
theorem eq_tree_misnamed_1 (a0_0 : ByteArray) (a0_1 : ByteArray) (a0_2 : ByteArray) (w : World) (J : Bool → World → Prop) : vcFun Tryz.prog Tryz.f54 ann_tree_misnamed_1 [.one .bool] [.agg ⟨[.string a0_0, .string a0_1, .string a0_2]⟩] w J = VC_tree_misnamed_1 a0_0 a0_1 a0_2 w J := by kernel_rfl
theorem c_tree_misnamed_1 {a0_0 : ByteArray} {a0_1 : ByteArray} {a0_2 : ByteArray} {w : World} {J : Bool → World → Prop} (h : VC_tree_misnamed_1 a0_0 a0_1 a0_2 w J) : callJ Tryz.prog fn_tree_misnamed_1 #[.agg ⟨[.string a0_0, .string a0_1, .string a0_2]⟩] w [.one .bool] J := vc_calls Tryz.func54 ann_tree_misnamed_1 (Eq.mpr (eq_tree_misnamed_1 a0_0 a0_1 a0_2 w J) h)

/-- lectern/tree.wrongName -/
def VC_tree_wrongName (n0_0 : ByteArray) (n0_1 : ByteArray) (w : World) (J : Bool → World → Prop) : Prop :=
  newB w (.cells ⟨[.string n0_0, .string n0_1]⟩ T_api_Name) fun b1 w1 =>
  withJ (fun (x2 : Bool) (w2 : World) =>
  J x2 w2) fun J_2 =>
  ldStr w1 ⟨b1, 1, none⟩ fun x4 =>
  callJ Tryz.prog fn_char_Name #[.string x4] w1 [.one .bool] fun (r5 : Bool) (w3 : World) =>
  condB (!r5) (
  J_2 true w3) (
  ldStr w3 ⟨b1, 0, none⟩ fun x9 =>
  condB (decide ((x9.size : Int) > (100 : Int))) (
  J_2 true w3) (
  ldStr w3 ⟨b1, 0, none⟩ fun x15 =>
  callJ Tryz.prog fn_tree_bad #[.string x15] w3 [.one .bool] fun (r16 : Bool) (w4 : World) =>
  condB r16 (
  J_2 true w4) (
  ldStr w4 ⟨b1, 0, none⟩ fun x20 =>
  J_2 (x20.toList == (⟨#[104, 116, 116, 112, 58, 47, 47, 119, 119, 119, 46, 119, 51, 46, 111, 114, 103, 47, 50, 48, 48, 48, 47, 120, 109, 108, 110, 115, 47]⟩ : ByteArray).toList) w4)))
def ann_tree_wrongName : Ann := .s (.o) (.j [(2, .bool)] (.o) (.o))
theorem eq_tree_wrongName (n0_0 : ByteArray) (n0_1 : ByteArray) (w : World) (J : Bool → World → Prop) : vcFun Tryz.prog Tryz.f55 ann_tree_wrongName [.one .bool] [.agg ⟨[.string n0_0, .string n0_1]⟩] w J = VC_tree_wrongName n0_0 n0_1 w J := by kernel_rfl
theorem c_tree_wrongName {n0_0 : ByteArray} {n0_1 : ByteArray} {w : World} {J : Bool → World → Prop} (h : VC_tree_wrongName n0_0 n0_1 w J) : callJ Tryz.prog fn_tree_wrongName #[.agg ⟨[.string n0_0, .string n0_1]⟩] w [.one .bool] J := vc_calls Tryz.func55 ann_tree_wrongName (Eq.mpr (eq_tree_wrongName n0_0 n0_1 w J) h)

/-- lectern/tree.bad -/
def VC_tree_bad (s0 : ByteArray) (w : World) (J : Bool → World → Prop) : Prop :=
  cvJ Tryz.prog T_string T_sl_uint8 (.string s0) w fun q7p q7l q7c w1 =>
  callJ Tryz.prog fn_char_Fault #[.slice q7p q7l q7c] w1 [.one (.int .i64), .one (.int .i64)] fun (r8_0 : Int) (r8_1 : Int) (w2 : World) =>
  J (r8_1 != (0 : Int)) w2
def ann_tree_bad : Ann := .s (.o) (.s (.o) (.s (.o) (.o)))
theorem eq_tree_bad (s0 : ByteArray) (w : World) (J : Bool → World → Prop) : vcFun Tryz.prog Tryz.f58 ann_tree_bad [.one .bool] [.string s0] w J = VC_tree_bad s0 w J := by kernel_rfl
theorem c_tree_bad {s0 : ByteArray} {w : World} {J : Bool → World → Prop} (h : VC_tree_bad s0 w J) : callJ Tryz.prog fn_tree_bad #[.string s0] w [.one .bool] J := vc_calls Tryz.func58 ann_tree_bad (Eq.mpr (eq_tree_bad s0 w J) h)

/-- lectern/tree.spoilt -/
def VC_tree_spoilt (n0_0 : Int) (n0_1 : ByteArray) (n0_2 : ByteArray) (n0_3p : Option Addr) (n0_3l : Nat) (n0_3c : Nat) (n0_4p : Option Addr) (n0_4l : Nat) (n0_4c : Nat) (n0_5 : ByteArray) (w : World) (J : Bool → World → Prop) : Prop :=
  newB w (.cells ⟨[.int .i64 n0_0, .string n0_1, .string n0_2, .slice n0_3p n0_3l n0_3c, .slice n0_4p n0_4l n0_4c, .string n0_5]⟩ T_api_Node) fun b1 w1 =>
  withJ (fun (x2 : Bool) (w2 : World) =>
  J x2 w2) fun J_2 =>
  ldStr w1 ⟨b1, 5, none⟩ fun x4 =>
  callJ Tryz.prog fn_tree_bad #[.string x4] w1 [.one .bool] fun (r5 : Bool) (w3 : World) =>
  condB r5 (
  J_2 true w3) (
  ldS w3 ⟨b1, 3, none⟩ fun x8p x8l x8c =>
  callJ Tryz.prog fn_slices_ContainsFunc_sl_api_Attr_api_Attr #[.slice x8p x8l x8c, .func (.func 59) #[] #[]] w3 [.one .bool] fun (r9 : Bool) (w4 : World) =>
  J_2 r9 w4)
def ann_tree_spoilt : Ann := .s (.o) (.j [(2, .bool)] (.o) (.o))
theorem eq_tree_spoilt (n0_0 : Int) (n0_1 : ByteArray) (n0_2 : ByteArray) (n0_3p : Option Addr) (n0_3l : Nat) (n0_3c : Nat) (n0_4p : Option Addr) (n0_4l : Nat) (n0_4c : Nat) (n0_5 : ByteArray) (w : World) (J : Bool → World → Prop) : vcFun Tryz.prog Tryz.f23 ann_tree_spoilt [.one .bool] [.agg ⟨[.int .i64 n0_0, .string n0_1, .string n0_2, .slice n0_3p n0_3l n0_3c, .slice n0_4p n0_4l n0_4c, .string n0_5]⟩] w J = VC_tree_spoilt n0_0 n0_1 n0_2 n0_3p n0_3l n0_3c n0_4p n0_4l n0_4c n0_5 w J := by kernel_rfl
theorem c_tree_spoilt {n0_0 : Int} {n0_1 : ByteArray} {n0_2 : ByteArray} {n0_3p : Option Addr} {n0_3l : Nat} {n0_3c : Nat} {n0_4p : Option Addr} {n0_4l : Nat} {n0_4c : Nat} {n0_5 : ByteArray} {w : World} {J : Bool → World → Prop} (h : VC_tree_spoilt n0_0 n0_1 n0_2 n0_3p n0_3l n0_3c n0_4p n0_4l n0_4c n0_5 w J) : callJ Tryz.prog fn_tree_spoilt #[.agg ⟨[.int .i64 n0_0, .string n0_1, .string n0_2, .slice n0_3p n0_3l n0_3c, .slice n0_4p n0_4l n0_4c, .string n0_5]⟩] w [.one .bool] J := vc_calls Tryz.func23 ann_tree_spoilt (Eq.mpr (eq_tree_spoilt n0_0 n0_1 n0_2 n0_3p n0_3l n0_3c n0_4p n0_4l n0_4c n0_5 w J) h)

/-- lectern/tree.spoilt$1 -/
def VC_tree_spoilt_1 (a0_0 : ByteArray) (a0_1 : ByteArray) (a0_2 : ByteArray) (w : World) (J : Bool → World → Prop) : Prop :=
  newB w (.cells ⟨[.string a0_0, .string a0_1, .string a0_2]⟩ T_api_Attr) fun b1 w1 =>
  ldStr w1 ⟨b1, 2, none⟩ fun x4 =>
  callJ Tryz.prog fn_tree_bad #[.string x4] w1 [.one .bool] fun (r5 : Bool) (w2 : World) =>
  J r5 w2
def ann_tree_spoilt_1 : Ann := .s (.o) (.s (.o) (.o))
theorem eq_tree_spoilt_1 (a0_0 : ByteArray) (a0_1 : ByteArray) (a0_2 : ByteArray) (w : World) (J : Bool → World → Prop) : vcFun Tryz.prog Tryz.f59 ann_tree_spoilt_1 [.one .bool] [.agg ⟨[.string a0_0, .string a0_1, .string a0_2]⟩] w J = VC_tree_spoilt_1 a0_0 a0_1 a0_2 w J := by kernel_rfl
theorem c_tree_spoilt_1 {a0_0 : ByteArray} {a0_1 : ByteArray} {a0_2 : ByteArray} {w : World} {J : Bool → World → Prop} (h : VC_tree_spoilt_1 a0_0 a0_1 a0_2 w J) : callJ Tryz.prog fn_tree_spoilt_1 #[.agg ⟨[.string a0_0, .string a0_1, .string a0_2]⟩] w [.one .bool] J := vc_calls Tryz.func59 ann_tree_spoilt_1 (Eq.mpr (eq_tree_spoilt_1 a0_0 a0_1 a0_2 w J) h)

/-- lectern/tree.unordered -/
def VC_tree_unordered (n0_0 : Int) (n0_1 : ByteArray) (n0_2 : ByteArray) (n0_3p : Option Addr) (n0_3l : Nat) (n0_3c : Nat) (n0_4p : Option Addr) (n0_4l : Nat) (n0_4c : Nat) (n0_5 : ByteArray) (w : World) (J : Bool → World → Prop) : Prop :=
  newB w (.cells ⟨[.int .i64 n0_0, .string n0_1, .string n0_2, .slice n0_3p n0_3l n0_3c, .slice n0_4p n0_4l n0_4c, .string n0_5]⟩ T_api_Node) fun b1 w1 =>
  ldS w1 ⟨b1, 3, none⟩ fun x5p x5l x5c =>
  ∃ I_7 : Int → World → Nat → Prop, (∃ m : Nat, I_7 (0 : Int) w1 m) ∧ ∀ (x7 : Int) (w2 : World) (m : Nat), I_7 x7 w2 m → (
  condB (decide (x7 < ((x5l : Nat) : Int))) (
  withJ (fun (x28 : Bool) (w3 : World) =>
  condB x28 (
  J true w3) (
  ∃ m' : Nat, m' < m ∧ I_7 (w64 (x7 + (1 : Int))) w3 m')) fun J_28 =>
  condB (decide (x7 > (0 : Int))) (
  ldS w2.drew ⟨b1, 3, none⟩ fun x14p x14l x14c =>
  idxA x14p x14l (w64 (x7 - (1 : Int))) fun a17 =>
  ldStr w2.drew ((a17.add ((w64 (x7 - (1 : Int))).toNat * 3))) fun x19_0 =>
  ldStr w2.drew (((a17.add ((w64 (x7 - (1 : Int))).toNat * 3)).add 1)) fun x19_1 =>
  ldS w2.drew ⟨b1, 3, none⟩ fun x21p x21l x21c =>
  idxA x21p x21l x7 fun a23 =>
  ldStr w2.drew ((a23.add (x7.toNat * 3))) fun x25_0 =>
  ldStr w2.drew (((a23.add (x7.toNat * 3)).add 1)) fun x25_1 =>
  callJ Tryz.prog fn_tree_Order #[.agg ⟨[.string x19_0, .string x19_1]⟩, .agg ⟨[.string x25_0, .string x25_1]⟩] w2.drew [.one (.int .i64)] fun (r26 : Int) (w4 : World) =>
  J_28 (decide (r26 ≥ (0 : Int))) w4) (
  J_28 false w2.drew)) (
  J false w2))
def ann_tree_unordered : Ann := .s (.o) (.s (.s (.o) (.b (.l [(7, .int .i64)] (.s (.o) (.s (.c (.o) (.o)) (.s (.b (.s (.o) (.j [(28, .bool)] (.d (.take 0 (.take 1 (.take 2 (.take 3 (.take 4 (.take 5 (.take 6 (.take 7 (.take 8 (.take 9 (.take 10 (.take 11 (.take 12 (.take 13 (.take 14 (.take 15 (.eff 16 (.take 17 (.take 18 (.done))) (.none))))))))))))))))))) (.c (.s (.o) (.o)) (.o))))) (.o))))))) (.s (.o) (.o)))
theorem eq_tree_unordered (n0_0 : Int) (n0_1 : ByteArray) (n0_2 : ByteArray) (n0_3p : Option Addr) (n0_3l : Nat) (n0_3c : Nat) (n0_4p : Option Addr) (n0_4l : Nat) (n0_4c : Nat) (n0_5 : ByteArray) (w : World) (J : Bool → World → Prop) : vcFun Tryz.prog Tryz.f24 ann_tree_unordered [.one .bool] [.agg ⟨[.int .i64 n0_0, .string n0_1, .string n0_2, .slice n0_3p n0_3l n0_3c, .slice n0_4p n0_4l n0_4c, .string n0_5]⟩] w J = VC_tree_unordered n0_0 n0_1 n0_2 n0_3p n0_3l n0_3c n0_4p n0_4l n0_4c n0_5 w J := by kernel_rfl
theorem c_tree_unordered {n0_0 : Int} {n0_1 : ByteArray} {n0_2 : ByteArray} {n0_3p : Option Addr} {n0_3l : Nat} {n0_3c : Nat} {n0_4p : Option Addr} {n0_4l : Nat} {n0_4c : Nat} {n0_5 : ByteArray} {w : World} {J : Bool → World → Prop} (h : VC_tree_unordered n0_0 n0_1 n0_2 n0_3p n0_3l n0_3c n0_4p n0_4l n0_4c n0_5 w J) : callJ Tryz.prog fn_tree_unordered #[.agg ⟨[.int .i64 n0_0, .string n0_1, .string n0_2, .slice n0_3p n0_3l n0_3c, .slice n0_4p n0_4l n0_4c, .string n0_5]⟩] w [.one .bool] J := vc_calls Tryz.func24 ann_tree_unordered (Eq.mpr (eq_tree_unordered n0_0 n0_1 n0_2 n0_3p n0_3l n0_3c n0_4p n0_4l n0_4c n0_5 w J) h)

/-- lectern/tree.wrongText -/
def VC_tree_wrongText (n0_0 : Int) (n0_1 : ByteArray) (n0_2 : ByteArray) (n0_3p : Option Addr) (n0_3l : Nat) (n0_3c : Nat) (n0_4p : Option Addr) (n0_4l : Nat) (n0_4c : Nat) (n0_5 : ByteArray) (w : World) (J : Bool → World → Prop) : Prop :=
  newB w (.cells ⟨[.int .i64 n0_0, .string n0_1, .string n0_2, .slice n0_3p n0_3l n0_3c, .slice n0_4p n0_4l n0_4c, .string n0_5]⟩ T_api_Node) fun b1 w1 =>
  ldS w1 ⟨b1, 4, none⟩ fun x6p x6l x6c =>
  ∃ I_8 : Int → World → Nat → Prop, (∃ m : Nat, I_8 (0 : Int) w1 m) ∧ ∀ (x8 : Int) (w2 : World) (m : Nat), I_8 x8 w2 m → (
  condB (decide (x8 < ((x6l : Nat) : Int))) (
  idxA x6p x6l x8 fun a11 =>
  ldI .i64 w2 ((a11.add (x8.toNat * 6))) fun x12_0 =>
  ldStr w2 (((a11.add (x8.toNat * 6)).add 1)) fun x12_1 =>
  ldStr w2 (((a11.add (x8.toNat * 6)).add 2)) fun x12_2 =>
  ldS w2 (((a11.add (x8.toNat * 6)).add 3)) fun x12_3p x12_3l x12_3c =>
  ldS w2 (((a11.add (x8.toNat * 6)).add 4)) fun x12_4p x12_4l x12_4c =>
  ldStr w2 (((a11.add (x8.toNat * 6)).add 5)) fun x12_5 =>
  newB w2 (.cells (zeroC Tryz.prog T_api_Node) T_api_Node) fun b4 w3 =>
  stN w3 ⟨b4, 0, none⟩ ⟨[.int .i64 x12_0, .string x12_1, .string x12_2, .slice x12_3p x12_3l x12_3c, .slice x12_4p x12_4l x12_4c, .string x12_5]⟩ 6 fun w4 =>
  withJ (fun (x29 : Bool) (w5 : World) =>
  condB x29 (
  J true w5) (
  ∃ m' : Nat, m' < m ∧ I_8 (w64 (x8 + (1 : Int))) w5 m')) fun J_29 =>
  condB (decide (x8 > (0 : Int))) (
  ldI .i64 w4 ⟨b4, 0, none⟩ fun x17 =>
  condB (x17 == (3 : Int)) (
  ldS w4 ⟨b1, 4, none⟩ fun x22p x22l x22c =>
  idxA x22p x22l (w64 (x8 - (1 : Int))) fun a25 =>
  ldI .i64 w4 ((a25.add ((w64 (x8 - (1 : Int))).toNat * 6))) fun x27 =>
  J_29 (x27 == (3 : Int)) w4) (
  J_29 false w4)) (
  J_29 false w4)) (
  ldI .i64 w2 ⟨b1, 0, none⟩ fun x32 =>
  condB (x32 == (3 : Int)) (
  ldStr w2 ⟨b1, 5, none⟩ fun x36 =>
  J (x36.toList == (⟨#[]⟩ : ByteArray).toList) w2) (
  condB (x32 == (4 : Int)) (
  withJ (fun (x2 : Bool) (w6 : World) =>
  J x2 w6) fun J_2 =>
  ldStr w2 ⟨b1, 5, none⟩ fun x41 =>
  callJ Tryz.prog fn_strings_Contains #[.string x41, .string ⟨#[45, 45]⟩] w2 [.one .bool] fun (r42 : Bool) (w7 : World) =>
  condB r42 (
  J_2 true w7) (
  ldStr w7 ⟨b1, 5, none⟩ fun x45 =>
  callJ Tryz.prog fn_strings_HasSuffix #[.string x45, .string ⟨#[45]⟩] w7 [.one .bool] fun (r46 : Bool) (w8 : World) =>
  condB r46 (
  J_2 true w8) (
  ldStr w8 ⟨b1, 5, none⟩ fun x50 =>
  callJ Tryz.prog fn_strings_Contains #[.string x50, .string ⟨#[13]⟩] w8 [.one .bool] fun (r51 : Bool) (w9 : World) =>
  J_2 r51 w9))) (
  condB (x32 == (5 : Int)) (
  withJ (fun (x2_1 : Bool) (w10 : World) =>
  J x2_1 w10) fun J_2_1 =>
  ldStr w2.drew ⟨b1, 5, none⟩ fun x56 =>
  callJ Tryz.prog fn_strings_Contains #[.string x56, .string ⟨#[63, 62]⟩] w2.drew [.one .bool] fun (r57 : Bool) (w11 : World) =>
  condB r57 (
  J_2_1 true w11) (
  ldStr w11 ⟨b1, 5, none⟩ fun x60 =>
  callJ Tryz.prog fn_strings_Contains #[.string x60, .string ⟨#[13]⟩] w11 [.one .bool] fun (r61 : Bool) (w12 : World) =>
  condB r61 (
  J_2_1 true w12) (
  ldStr w12 ⟨b1, 5, none⟩ fun x65 =>
  ldStr w12 ⟨b1, 5, none⟩ fun x67 =>
  callJ Tryz.prog fn_strings_TrimLeft #[.string x67, .string ⟨#[32, 9, 10]⟩] w12 [.one .str] fun (r68 : ByteArray) (w13 : World) =>
  w13.cell? ⟨b1, 5, none⟩ = some (.string x65) ∧
  J_2_1 (!(x65.toList == r68.toList)) w13))) (
  J false w2)))))
def ann_tree_wrongText : Ann := .s (.o) (.s (.s (.o) (.b (.l [(8, .int .i64)] (.s (.o) (.s (.c (.o) (.o)) (.s (.b (.s (.o) (.j [(29, .bool)] (.o) (.c (.s (.o) (.o)) (.o))))) (.o))))))) (.s (.s (.o) (.b (.s (.o) (.c (.s (.o) (.o)) (.s (.o) (.c (.j [(2, .bool)] (.o) (.o)) (.s (.o) (.c (.j [(2, .bool)] (.d (.take 0 (.take 1 (.eff 2 (.take 3 (.take 4 (.take 5 (.eff 6 (.take 7 (.take 8 (.take 9 (.take 10 (.take 11 (.take 12 (.eff 13 (.take 14 (.take 15 (.take 16 (.done)))) (.none)))))))) (.none))))) (.none))))) (.o)) (.o))))))))) (.s (.o) (.o))))
theorem eq_tree_wrongText (n0_0 : Int) (n0_1 : ByteArray) (n0_2 : ByteArray) (n0_3p : Option Addr) (n0_3l : Nat) (n0_3c : Nat) (n0_4p : Option Addr) (n0_4l : Nat) (n0_4c : Nat) (n0_5 : ByteArray) (w : World) (J : Bool → World → Prop) : vcFun Tryz.prog Tryz.f25 ann_tree_wrongText [.one .bool] [.agg ⟨[.int .i64 n0_0, .string n0_1, .string n0_2, .slice n0_3p n0_3l n0_3c, .slice n0_4p n0_4l n0_4c, .string n0_5]⟩] w J = VC_tree_wrongText n0_0 n0_1 n0_2 n0_3p n0_3l n0_3c n0_4p n0_4l n0_4c n0_5 w J := by kernel_rfl
theorem c_tree_wrongText {n0_0 : Int} {n0_1 : ByteArray} {n0_2 : ByteArray} {n0_3p : Option Addr} {n0_3l : Nat} {n0_3c : Nat} {n0_4p : Option Addr} {n0_4l : Nat} {n0_4c : Nat} {n0_5 : ByteArray} {w : World} {J : Bool → World → Prop} (h : VC_tree_wrongText n0_0 n0_1 n0_2 n0_3p n0_3l n0_3c n0_4p n0_4l n0_4c n0_5 w J) : callJ Tryz.prog fn_tree_wrongText #[.agg ⟨[.int .i64 n0_0, .string n0_1, .string n0_2, .slice n0_3p n0_3l n0_3c, .slice n0_4p n0_4l n0_4c, .string n0_5]⟩] w [.one .bool] J := vc_calls Tryz.func25 ann_tree_wrongText (Eq.mpr (eq_tree_wrongText n0_0 n0_1 n0_2 n0_3p n0_3l n0_3c n0_4p n0_4l n0_4c n0_5 w J) h)

/-- slices.ContainsFunc[[]lectern/api.Node,lectern/api.Node] -/
def VC_slices_ContainsFunc_sl_api_Node_api_Node_f1_19 (s0p : Option Addr) (s0l : Nat) (s0c : Nat) (w : World) (J : Bool → World → Prop) : Prop :=
  callJ Tryz.prog fn_slices_IndexFunc_sl_api_Node_api_Node #[.slice s0p s0l s0c, .func (.func 19) #[] #[]] w [.one (.int .i64)] fun (r7 : Int) (w1 : World) =>
  J (decide (r7 ≥ (0 : Int))) w1
def ann_slices_ContainsFunc_sl_api_Node_api_Node_f1_19 : Ann := .s (.o) (.s (.o) (.o))
theorem eq_slices_ContainsFunc_sl_api_Node_api_Node_f1_19 (s0p : Option Addr) (s0l : Nat) (s0c : Nat) (w : World) (J : Bool → World → Prop) : vcFun Tryz.prog Tryz.f18 ann_slices_ContainsFunc_sl_api_Node_api_Node_f1_19 [.one .bool] [.slice s0p s0l s0c, .func (.func 19) #[] #[]] w J = VC_slices_ContainsFunc_sl_api_Node_api_Node_f1_19 s0p s0l s0c w J := by kernel_rfl
theorem c_slices_ContainsFunc_sl_api_Node_api_Node_f1_19 {s0p : Option Addr} {s0l : Nat} {s0c : Nat} {w : World} {J : Bool → World → Prop} (h : VC_slices_ContainsFunc_sl_api_Node_api_Node_f1_19 s0p s0l s0c w J) : callJ Tryz.prog fn_slices_ContainsFunc_sl_api_Node_api_Node #[.slice s0p s0l s0c, .func (.func 19) #[] #[]] w [.one .bool] J := vc_calls Tryz.func18 ann_slices_ContainsFunc_sl_api_Node_api_Node_f1_19 (Eq.mpr (eq_slices_ContainsFunc_sl_api_Node_api_Node_f1_19 s0p s0l s0c w J) h)

/-- slices.ContainsFunc[[]lectern/api.Node,lectern/api.Node] -/
def VC_slices_ContainsFunc_sl_api_Node_api_Node_f1_21 (s0p : Option Addr) (s0l : Nat) (s0c : Nat) (w : World) (J : Bool → World → Prop) : Prop :=
  callJ Tryz.prog fn_slices_IndexFunc_sl_api_Node_api_Node #[.slice s0p s0l s0c, .func (.func 21) #[] #[]] w [.one (.int .i64)] fun (r7 : Int) (w1 : World) =>
  J (decide (r7 ≥ (0 : Int))) w1
def ann_slices_ContainsFunc_sl_api_Node_api_Node_f1_21 : Ann := .s (.o) (.s (.o) (.o))
theorem eq_slices_ContainsFunc_sl_api_Node_api_Node_f1_21 (s0p : Option Addr) (s0l : Nat) (s0c : Nat) (w : World) (J : Bool → World → Prop) : vcFun Tryz.prog Tryz.f18 ann_slices_ContainsFunc_sl_api_Node_api_Node_f1_21 [.one .bool] [.slice s0p s0l s0c, .func (.func 21) #[] #[]] w J = VC_slices_ContainsFunc_sl_api_Node_api_Node_f1_21 s0p s0l s0c w J := by kernel_rfl
theorem c_slices_ContainsFunc_sl_api_Node_api_Node_f1_21 {s0p : Option Addr} {s0l : Nat} {s0c : Nat} {w : World} {J : Bool → World → Prop} (h : VC_slices_ContainsFunc_sl_api_Node_api_Node_f1_21 s0p s0l s0c w J) : callJ Tryz.prog fn_slices_ContainsFunc_sl_api_Node_api_Node #[.slice s0p s0l s0c, .func (.func 21) #[] #[]] w [.one .bool] J := vc_calls Tryz.func18 ann_slices_ContainsFunc_sl_api_Node_api_Node_f1_21 (Eq.mpr (eq_slices_ContainsFunc_sl_api_Node_api_Node_f1_21 s0p s0l s0c w J) h)

/-- slices.ContainsFunc[[]lectern/api.Node,lectern/api.Node] -/
def VC_slices_ContainsFunc_sl_api_Node_api_Node_f1_22 (s0p : Option Addr) (s0l : Nat) (s0c : Nat) (w : World) (J : Bool → World → Prop) : Prop :=
  callJ Tryz.prog fn_slices_IndexFunc_sl_api_Node_api_Node #[.slice s0p s0l s0c, .func (.func 22) #[] #[]] w [.one (.int .i64)] fun (r7 : Int) (w1 : World) =>
  J (decide (r7 ≥ (0 : Int))) w1
def ann_slices_ContainsFunc_sl_api_Node_api_Node_f1_22 : Ann := .s (.o) (.s (.o) (.o))
theorem eq_slices_ContainsFunc_sl_api_Node_api_Node_f1_22 (s0p : Option Addr) (s0l : Nat) (s0c : Nat) (w : World) (J : Bool → World → Prop) : vcFun Tryz.prog Tryz.f18 ann_slices_ContainsFunc_sl_api_Node_api_Node_f1_22 [.one .bool] [.slice s0p s0l s0c, .func (.func 22) #[] #[]] w J = VC_slices_ContainsFunc_sl_api_Node_api_Node_f1_22 s0p s0l s0c w J := by kernel_rfl
theorem c_slices_ContainsFunc_sl_api_Node_api_Node_f1_22 {s0p : Option Addr} {s0l : Nat} {s0c : Nat} {w : World} {J : Bool → World → Prop} (h : VC_slices_ContainsFunc_sl_api_Node_api_Node_f1_22 s0p s0l s0c w J) : callJ Tryz.prog fn_slices_ContainsFunc_sl_api_Node_api_Node #[.slice s0p s0l s0c, .func (.func 22) #[] #[]] w [.one .bool] J := vc_calls Tryz.func18 ann_slices_ContainsFunc_sl_api_Node_api_Node_f1_22 (Eq.mpr (eq_slices_ContainsFunc_sl_api_Node_api_Node_f1_22 s0p s0l s0c w J) h)

/-- slices.ContainsFunc[[]lectern/api.Node,lectern/api.Node] -/
def VC_slices_ContainsFunc_sl_api_Node_api_Node_f1_23 (s0p : Option Addr) (s0l : Nat) (s0c : Nat) (w : World) (J : Bool → World → Prop) : Prop :=
  callJ Tryz.prog fn_slices_IndexFunc_sl_api_Node_api_Node #[.slice s0p s0l s0c, .func (.func 23) #[] #[]] w [.one (.int .i64)] fun (r7 : Int) (w1 : World) =>
  J (decide (r7 ≥ (0 : Int))) w1
def ann_slices_ContainsFunc_sl_api_Node_api_Node_f1_23 : Ann := .s (.o) (.s (.o) (.o))
theorem eq_slices_ContainsFunc_sl_api_Node_api_Node_f1_23 (s0p : Option Addr) (s0l : Nat) (s0c : Nat) (w : World) (J : Bool → World → Prop) : vcFun Tryz.prog Tryz.f18 ann_slices_ContainsFunc_sl_api_Node_api_Node_f1_23 [.one .bool] [.slice s0p s0l s0c, .func (.func 23) #[] #[]] w J = VC_slices_ContainsFunc_sl_api_Node_api_Node_f1_23 s0p s0l s0c w J := by kernel_rfl
theorem c_slices_ContainsFunc_sl_api_Node_api_Node_f1_23 {s0p : Option Addr} {s0l : Nat} {s0c : Nat} {w : World} {J : Bool → World → Prop} (h : VC_slices_ContainsFunc_sl_api_Node_api_Node_f1_23 s0p s0l s0c w J) : callJ Tryz.prog fn_slices_ContainsFunc_sl_api_Node_api_Node #[.slice s0p s0l s0c, .func (.func 23) #[] #[]] w [.one .bool] J := vc_calls Tryz.func18 ann_slices_ContainsFunc_sl_api_Node_api_Node_f1_23 (Eq.mpr (eq_slices_ContainsFunc_sl_api_Node_api_Node_f1_23 s0p s0l s0c w J) h)

/-- slices.ContainsFunc[[]lectern/api.Node,lectern/api.Node] -/
def VC_slices_ContainsFunc_sl_api_Node_api_Node_f1_24 (s0p : Option Addr) (s0l : Nat) (s0c : Nat) (w : World) (J : Bool → World → Prop) : Prop :=
  callJ Tryz.prog fn_slices_IndexFunc_sl_api_Node_api_Node #[.slice s0p s0l s0c, .func (.func 24) #[] #[]] w [.one (.int .i64)] fun (r7 : Int) (w1 : World) =>
  J (decide (r7 ≥ (0 : Int))) w1
def ann_slices_ContainsFunc_sl_api_Node_api_Node_f1_24 : Ann := .s (.o) (.s (.o) (.o))
theorem eq_slices_ContainsFunc_sl_api_Node_api_Node_f1_24 (s0p : Option Addr) (s0l : Nat) (s0c : Nat) (w : World) (J : Bool → World → Prop) : vcFun Tryz.prog Tryz.f18 ann_slices_ContainsFunc_sl_api_Node_api_Node_f1_24 [.one .bool] [.slice s0p s0l s0c, .func (.func 24) #[] #[]] w J = VC_slices_ContainsFunc_sl_api_Node_api_Node_f1_24 s0p s0l s0c w J := by kernel_rfl
theorem c_slices_ContainsFunc_sl_api_Node_api_Node_f1_24 {s0p : Option Addr} {s0l : Nat} {s0c : Nat} {w : World} {J : Bool → World → Prop} (h : VC_slices_ContainsFunc_sl_api_Node_api_Node_f1_24 s0p s0l s0c w J) : callJ Tryz.prog fn_slices_ContainsFunc_sl_api_Node_api_Node #[.slice s0p s0l s0c, .func (.func 24) #[] #[]] w [.one .bool] J := vc_calls Tryz.func18 ann_slices_ContainsFunc_sl_api_Node_api_Node_f1_24 (Eq.mpr (eq_slices_ContainsFunc_sl_api_Node_api_Node_f1_24 s0p s0l s0c w J) h)

/-- slices.ContainsFunc[[]lectern/api.Node,lectern/api.Node] -/
def VC_slices_ContainsFunc_sl_api_Node_api_Node_f1_25 (s0p : Option Addr) (s0l : Nat) (s0c : Nat) (w : World) (J : Bool → World → Prop) : Prop :=
  callJ Tryz.prog fn_slices_IndexFunc_sl_api_Node_api_Node #[.slice s0p s0l s0c, .func (.func 25) #[] #[]] w [.one (.int .i64)] fun (r7 : Int) (w1 : World) =>
  J (decide (r7 ≥ (0 : Int))) w1
def ann_slices_ContainsFunc_sl_api_Node_api_Node_f1_25 : Ann := .s (.o) (.s (.o) (.o))
theorem eq_slices_ContainsFunc_sl_api_Node_api_Node_f1_25 (s0p : Option Addr) (s0l : Nat) (s0c : Nat) (w : World) (J : Bool → World → Prop) : vcFun Tryz.prog Tryz.f18 ann_slices_ContainsFunc_sl_api_Node_api_Node_f1_25 [.one .bool] [.slice s0p s0l s0c, .func (.func 25) #[] #[]] w J = VC_slices_ContainsFunc_sl_api_Node_api_Node_f1_25 s0p s0l s0c w J := by kernel_rfl
theorem c_slices_ContainsFunc_sl_api_Node_api_Node_f1_25 {s0p : Option Addr} {s0l : Nat} {s0c : Nat} {w : World} {J : Bool → World → Prop} (h : VC_slices_ContainsFunc_sl_api_Node_api_Node_f1_25 s0p s0l s0c w J) : callJ Tryz.prog fn_slices_ContainsFunc_sl_api_Node_api_Node #[.slice s0p s0l s0c, .func (.func 25) #[] #[]] w [.one .bool] J := vc_calls Tryz.func18 ann_slices_ContainsFunc_sl_api_Node_api_Node_f1_25 (Eq.mpr (eq_slices_ContainsFunc_sl_api_Node_api_Node_f1_25 s0p s0l s0c w J) h)

/-- slices.ContainsFunc[[]lectern/api.Node,lectern/api.Node] -/
def VC_slices_ContainsFunc_sl_api_Node_api_Node_f1_49c1 (s0p : Option Addr) (s0l : Nat) (s0c : Nat) (cp1_0 : Addr) (w : World) (J : Bool → World → Prop) : Prop :=
  callJ Tryz.prog fn_slices_IndexFunc_sl_api_Node_api_Node #[.slice s0p s0l s0c, .func (.func 49) #[] #[.pointer (some cp1_0)]] w [.one (.int .i64)] fun (r7 : Int) (w1 : World) =>
  J (decide (r7 ≥ (0 : Int))) w1
def ann_slices_ContainsFunc_sl_api_Node_api_Node_f1_49c1 : Ann := .s (.o) (.s (.o) (.o))
theorem eq_slices_ContainsFunc_sl_api_Node_api_Node_f1_49c1 (s0p : Option Addr) (s0l : Nat) (s0c : Nat) (cp1_0 : Addr) (w : World) (J : Bool → World → Prop) : vcFun Tryz.prog Tryz.f18 ann_slices_ContainsFunc_sl_api_Node_api_Node_f1_49c1 [.one .bool] [.slice s0p s0l s0c, .func (.func 49) #[] #[.pointer (some cp1_0)]] w J = VC_slices_ContainsFunc_sl_api_Node_api_Node_f1_49c1 s0p s0l s0c cp1_0 w J := by kernel_rfl
theorem c_slices_ContainsFunc_sl_api_Node_api_Node_f1_49c1 {s0p : Option Addr} {s0l : Nat} {s0c : Nat} {cp1_0 : Addr} {w : World} {J : Bool → World → Prop} (h : VC_slices_ContainsFunc_sl_api_Node_api_Node_f1_49c1 s0p s0l s0c cp1_0 w J) : callJ Tryz.prog fn_slices_ContainsFunc_sl_api_Node_api_Node #[.slice s0p s0l s0c, .func (.func 49) #[] #[.pointer (some cp1_0)]] w [.one .bool] J := vc_calls Tryz.func18 ann_slices_ContainsFunc_sl_api_Node_api_Node_f1_49c1 (Eq.mpr (eq_slices_ContainsFunc_sl_api_Node_api_Node_f1_49c1 s0p s0l s0c cp1_0 w J) h)

/-- slices.ContainsFunc[[]lectern/api.Node,lectern/api.Node] -/
def VC_slices_ContainsFunc_sl_api_Node_api_Node_f1_51c1 (s0p : Option Addr) (s0l : Nat) (s0c : Nat) (cp1_0 : Addr) (w : World) (J : Bool → World → Prop) : Prop :=
  callJ Tryz.prog fn_slices_IndexFunc_sl_api_Node_api_Node #[.slice s0p s0l s0c, .func (.func 51) #[] #[.pointer (some cp1_0)]] w [.one (.int .i64)] fun (r7 : Int) (w1 : World) =>
  J (decide (r7 ≥ (0 : Int))) w1
def ann_slices_ContainsFunc_sl_api_Node_api_Node_f1_51c1 : Ann := .s (.o) (.s (.o) (.o))
theorem eq_slices_ContainsFunc_sl_api_Node_api_Node_f1_51c1 (s0p : Option Addr) (s0l : Nat) (s0c : Nat) (cp1_0 : Addr) (w : World) (J : Bool → World → Prop) : vcFun Tryz.prog Tryz.f18 ann_slices_ContainsFunc_sl_api_Node_api_Node_f1_51c1 [.one .bool] [.slice s0p s0l s0c, .func (.func 51) #[] #[.pointer (some cp1_0)]] w J = VC_slices_ContainsFunc_sl_api_Node_api_Node_f1_51c1 s0p s0l s0c cp1_0 w J := by kernel_rfl
theorem c_slices_ContainsFunc_sl_api_Node_api_Node_f1_51c1 {s0p : Option Addr} {s0l : Nat} {s0c : Nat} {cp1_0 : Addr} {w : World} {J : Bool → World → Prop} (h : VC_slices_ContainsFunc_sl_api_Node_api_Node_f1_51c1 s0p s0l s0c cp1_0 w J) : callJ Tryz.prog fn_slices_ContainsFunc_sl_api_Node_api_Node #[.slice s0p s0l s0c, .func (.func 51) #[] #[.pointer (some cp1_0)]] w [.one .bool] J := vc_calls Tryz.func18 ann_slices_ContainsFunc_sl_api_Node_api_Node_f1_51c1 (Eq.mpr (eq_slices_ContainsFunc_sl_api_Node_api_Node_f1_51c1 s0p s0l s0c cp1_0 w J) h)

/-- slices.IndexFunc[[]lectern/api.Node,lectern/api.Node] -/
def VC_slices_IndexFunc_sl_api_Node_api_Node_f1_19 (s0p : Option Addr) (s0l : Nat) (s0c : Nat) (w : World) (J : Int → World → Prop) : Prop :=
  ∃ I_8 : Int → World → Nat → Prop, (∃ m : Nat, I_8 (0 : Int) w m) ∧ ∀ (x8 : Int) (w1 : World) (m : Nat), I_8 x8 w1 m → (
  condB (decide (x8 < ((s0l : Nat) : Int))) (
  idxA s0p s0l x8 fun a14 =>
  ldI .i64 w1 ((a14.add (x8.toNat * 6))) fun x15_0 =>
  ldStr w1 (((a14.add (x8.toNat * 6)).add 1)) fun x15_1 =>
  ldStr w1 (((a14.add (x8.toNat * 6)).add 2)) fun x15_2 =>
  ldS w1 (((a14.add (x8.toNat * 6)).add 3)) fun x15_3p x15_3l x15_3c =>
  ldS w1 (((a14.add (x8.toNat * 6)).add 4)) fun x15_4p x15_4l x15_4c =>
  ldStr w1 (((a14.add (x8.toNat * 6)).add 5)) fun x15_5 =>
  callJ Tryz.prog fn_tree_odd #[.agg ⟨[.int .i64 x15_0, .string x15_1, .string x15_2, .slice x15_3p x15_3l x15_3c, .slice x15_4p x15_4l x15_4c, .string x15_5]⟩] w1 [.one .bool] fun (r16 : Bool) (w2 : World) =>
  condB r16 (
  J x8 w2) (
  ∃ m' : Nat, m' < m ∧ I_8 (w64 (x8 + (1 : Int))) w2 m')) (
  J (-1 : Int) w1))
def ann_slices_IndexFunc_sl_api_Node_api_Node_f1_19 : Ann := .s (.o) (.s (.s (.o) (.b (.l [(8, .int .i64)] (.s (.o) (.s (.c (.o) (.o)) (.s (.b (.s (.o) (.s (.o) (.c (.s (.o) (.o)) (.o))))) (.o))))))) (.s (.o) (.o)))
theorem eq_slices_IndexFunc_sl_api_Node_api_Node_f1_19 (s0p : Option Addr) (s0l : Nat) (s0c : Nat) (w : World) (J : Int → World → Prop) : vcFun Tryz.prog Tryz.f48 ann_slices_IndexFunc_sl_api_Node_api_Node_f1_19 [.one (.int .i64)] [.slice s0p s0l s0c, .func (.func 19) #[] #[]] w J = VC_slices_IndexFunc_sl_api_Node_api_Node_f1_19 s0p s0l s0c w J := by kernel_rfl
theorem c_slices_IndexFunc_sl_api_Node_api_Node_f1_19 {s0p : Option Addr} {s0l : Nat} {s0c : Nat} {w : World} {J : Int → World → Prop} (h : VC_slices_IndexFunc_sl_api_Node_api_Node_f1_19 s0p s0l s0c w J) : callJ Tryz.prog fn_slices_IndexFunc_sl_api_Node_api_Node #[.slice s0p s0l s0c, .func (.func 19) #[] #[]] w [.one (.int .i64)] J := vc_calls Tryz.func48 ann_slices_IndexFunc_sl_api_Node_api_Node_f1_19 (Eq.mpr (eq_slices_IndexFunc_sl_api_Node_api_Node_f1_19 s0p s0l s0c w J) h)

/-- slices.IndexFunc[[]lectern/api.Node,lectern/api.Node] -/
def VC_slices_IndexFunc_sl_api_Node_api_Node_f1_21 (s0p : Option Addr) (s0l : Nat) (s0c : Nat) (w : World) (J : Int → World → Prop) : Prop :=
  ∃ I_8 : Int → World → Nat → Prop, (∃ m : Nat, I_8 (0 : Int) w m) ∧ ∀ (x8 : Int) (w1 : World) (m : Nat), I_8 x8 w1 m → (
  condB (decide (x8 < ((s0l : Nat) : Int))) (
  idxA s0p s0l x8 fun a14 =>
  ldI .i64 w1 ((a14.add (x8.toNat * 6))) fun x15_0 =>
  ldStr w1 (((a14.add (x8.toNat * 6)).add 1)) fun x15_1 =>
  ldStr w1 (((a14.add (x8.toNat * 6)).add 2)) fun x15_2 =>
  ldS w1 (((a14.add (x8.toNat * 6)).add 3)) fun x15_3p x15_3l x15_3c =>
  ldS w1 (((a14.add (x8.toNat * 6)).add 4)) fun x15_4p x15_4l x15_4c =>
  ldStr w1 (((a14.add (x8.toNat * 6)).add 5)) fun x15_5 =>
  callJ Tryz.prog fn_tree_great #[.agg ⟨[.int .i64 x15_0, .string x15_1, .string x15_2, .slice x15_3p x15_3l x15_3c, .slice x15_4p x15_4l x15_4c, .string x15_5]⟩] w1 [.one .bool] fun (r16 : Bool) (w2 : World) =>
  condB r16 (
  J x8 w2) (
  ∃ m' : Nat, m' < m ∧ I_8 (w64 (x8 + (1 : Int))) w2 m')) (
  J (-1 : Int) w1))
def ann_slices_IndexFunc_sl_api_Node_api_Node_f1_21 : Ann := .s (.o) (.s (.s (.o) (.b (.l [(8, .int .i64)] (.s (.o) (.s (.c (.o) (.o)) (.s (.b (.s (.o) (.s (.o) (.c (.s (.o) (.o)) (.o))))) (.o))))))) (.s (.o) (.o)))
theorem eq_slices_IndexFunc_sl_api_Node_api_Node_f1_21 (s0p : Option Addr) (s0l : Nat) (s0c : Nat) (w : World) (J : Int → World → Prop) : vcFun Tryz.prog Tryz.f48 ann_slices_IndexFunc_sl_api_Node_api_Node_f1_21 [.one (.int .i64)] [.slice s0p s0l s0c, .func (.func 21) #[] #[]] w J = VC_slices_IndexFunc_sl_api_Node_api_Node_f1_21 s0p s0l s0c w J := by kernel_rfl
theorem c_slices_IndexFunc_sl_api_Node_api_Node_f1_21 {s0p : Option Addr} {s0l : Nat} {s0c : Nat} {w : World} {J : Int → World → Prop} (h : VC_slices_IndexFunc_sl_api_Node_api_Node_f1_21 s0p s0l s0c w J) : callJ Tryz.prog fn_slices_IndexFunc_sl_api_Node_api_Node #[.slice s0p s0l s0c, .func (.func 21) #[] #[]] w [.one (.int .i64)] J := vc_calls Tryz.func48 ann_slices_IndexFunc_sl_api_Node_api_Node_f1_21 (Eq.mpr (eq_slices_IndexFunc_sl_api_Node_api_Node_f1_21 s0p s0l s0c w J) h)

/-- slices.IndexFunc[[]lectern/api.Node,lectern/api.Node] -/
def VC_slices_IndexFunc_sl_api_Node_api_Node_f1_22 (s0p : Option Addr) (s0l : Nat) (s0c : Nat) (w : World) (J : Int → World → Prop) : Prop :=
  ∃ I_8 : Int → World → Nat → Prop, (∃ m : Nat, I_8 (0 : Int) w m) ∧ ∀ (x8 : Int) (w1 : World) (m : Nat), I_8 x8 w1 m → (
  condB (decide (x8 < ((s0l : Nat) : Int))) (
  idxA s0p s0l x8 fun a14 =>
  ldI .i64 w1 ((a14.add (x8.toNat * 6))) fun x15_0 =>
  ldStr w1 (((a14.add (x8.toNat * 6)).add 1)) fun x15_1 =>
  ldStr w1 (((a14.add (x8.toNat * 6)).add 2)) fun x15_2 =>
  ldS w1 (((a14.add (x8.toNat * 6)).add 3)) fun x15_3p x15_3l x15_3c =>
  ldS w1 (((a14.add (x8.toNat * 6)).add 4)) fun x15_4p x15_4l x15_4c =>
  ldStr w1 (((a14.add (x8.toNat * 6)).add 5)) fun x15_5 =>
  callJ Tryz.prog fn_tree_misnamed #[.agg ⟨[.int .i64 x15_0, .string x15_1, .string x15_2, .slice x15_3p x15_3l x15_3c, .slice x15_4p x15_4l x15_4c, .string x15_5]⟩] w1 [.one .bool] fun (r16 : Bool) (w2 : World) =>
  condB r16 (
  J x8 w2) (
  ∃ m' : Nat, m' < m ∧ I_8 (w64 (x8 + (1 : Int))) w2 m')) (
  J (-1 : Int) w1))
def ann_slices_IndexFunc_sl_api_Node_api_Node_f1_22 : Ann := .s (.o) (.s (.s (.o) (.b (.l [(8, .int .i64)] (.s (.o) (.s (.c (.o) (.o)) (.s (.b (.s (.o) (.s (.o) (.c (.s (.o) (.o)) (.o))))) (.o))))))) (.s (.o) (.o)))
theorem eq_slices_IndexFunc_sl_api_Node_api_Node_f1_22 (s0p : Option Addr) (s0l : Nat) (s0c : Nat) (w : World) (J : Int → World → Prop) : vcFun Tryz.prog Tryz.f48 ann_slices_IndexFunc_sl_api_Node_api_Node_f1_22 [.one (.int .i64)] [.slice s0p s0l s0c, .func (.func 22) #[] #[]] w J = VC_slices_IndexFunc_sl_api_Node_api_Node_f1_22 s0p s0l s0c w J := by kernel_rfl
theorem c_slices_IndexFunc_sl_api_Node_api_Node_f1_22 {s0p : Option Addr} {s0l : Nat} {s0c : Nat} {w : World} {J : Int → World → Prop} (h : VC_slices_IndexFunc_sl_api_Node_api_Node_f1_22 s0p s0l s0c w J) : callJ Tryz.prog fn_slices_IndexFunc_sl_api_Node_api_Node #[.slice s0p s0l s0c, .func (.func 22) #[] #[]] w [.one (.int .i64)] J := vc_calls Tryz.func48 ann_slices_IndexFunc_sl_api_Node_api_Node_f1_22 (Eq.mpr (eq_slices_IndexFunc_sl_api_Node_api_Node_f1_22 s0p s0l s0c w J) h)

/-- slices.IndexFunc[[]lectern/api.Node,lectern/api.Node] -/
def VC_slices_IndexFunc_sl_api_Node_api_Node_f1_23 (s0p : Option Addr) (s0l : Nat) (s0c : Nat) (w : World) (J : Int → World → Prop) : Prop :=
  ∃ I_8 : Int → World → Nat → Prop, (∃ m : Nat, I_8 (0 : Int) w m) ∧ ∀ (x8 : Int) (w1 : World) (m : Nat), I_8 x8 w1 m → (
  condB (decide (x8 < ((s0l : Nat) : Int))) (
  idxA s0p s0l x8 fun a14 =>
  ldI .i64 w1 ((a14.add (x8.toNat * 6))) fun x15_0 =>
  ldStr w1 (((a14.add (x8.toNat * 6)).add 1)) fun x15_1 =>
  ldStr w1 (((a14.add (x8.toNat * 6)).add 2)) fun x15_2 =>
  ldS w1 (((a14.add (x8.toNat * 6)).add 3)) fun x15_3p x15_3l x15_3c =>
  ldS w1 (((a14.add (x8.toNat * 6)).add 4)) fun x15_4p x15_4l x15_4c =>
  ldStr w1 (((a14.add (x8.toNat * 6)).add 5)) fun x15_5 =>
  callJ Tryz.prog fn_tree_spoilt #[.agg ⟨[.int .i64 x15_0, .string x15_1, .string x15_2, .slice x15_3p x15_3l x15_3c, .slice x15_4p x15_4l x15_4c, .string x15_5]⟩] w1 [.one .bool] fun (r16 : Bool) (w2 : World) =>
  condB r16 (
  J x8 w2) (
  ∃ m' : Nat, m' < m ∧ I_8 (w64 (x8 + (1 : Int))) w2 m')) (
  J (-1 : Int) w1))
def ann_slices_IndexFunc_sl_api_Node_api_Node_f1_23 : Ann := .s (.o) (.s (.s (.o) (.b (.l [(8, .int .i64)] (.s (.o) (.s (.c (.o) (.o)) (.s (.b (.s (.o) (.s (.o) (.c (.s (.o) (.o)) (.o))))) (.o))))))) (.s (.o) (.o)))
theorem eq_slices_IndexFunc_sl_api_Node_api_Node_f1_23 (s0p : Option Addr) (s0l : Nat) (s0c : Nat) (w : World) (J : Int → World → Prop) : vcFun Tryz.prog Tryz.f48 ann_slices_IndexFunc_sl_api_Node_api_Node_f1_23 [.one (.int .i64)] [.slice s0p s0l s0c, .func (.func 23) #[] #[]] w J = VC_slices_IndexFunc_sl_api_Node_api_Node_f1_23 s0p s0l s0c w J := by kernel_rfl
theorem c_slices_IndexFunc_sl_api_Node_api_Node_f1_23 {s0p : Option Addr} {s0l : Nat} {s0c : Nat} {w : World} {J : Int → World → Prop} (h : VC_slices_IndexFunc_sl_api_Node_api_Node_f1_23 s0p s0l s0c w J) : callJ Tryz.prog fn_slices_IndexFunc_sl_api_Node_api_Node #[.slice s0p s0l s0c, .func (.func 23) #[] #[]] w [.one (.int .i64)] J := vc_calls Tryz.func48 ann_slices_IndexFunc_sl_api_Node_api_Node_f1_23 (Eq.mpr (eq_slices_IndexFunc_sl_api_Node_api_Node_f1_23 s0p s0l s0c w J) h)

/-- slices.IndexFunc[[]lectern/api.Node,lectern/api.Node] -/
def VC_slices_IndexFunc_sl_api_Node_api_Node_f1_24 (s0p : Option Addr) (s0l : Nat) (s0c : Nat) (w : World) (J : Int → World → Prop) : Prop :=
  ∃ I_8 : Int → World → Nat → Prop, (∃ m : Nat, I_8 (0 : Int) w m) ∧ ∀ (x8 : Int) (w1 : World) (m : Nat), I_8 x8 w1 m → (
  condB (decide (x8 < ((s0l : Nat) : Int))) (
  idxA s0p s0l x8 fun a14 =>
  ldI .i64 w1 ((a14.add (x8.toNat * 6))) fun x15_0 =>
  ldStr w1 (((a14.add (x8.toNat * 6)).add 1)) fun x15_1 =>
  ldStr w1 (((a14.add (x8.toNat * 6)).add 2)) fun x15_2 =>
  ldS w1 (((a14.add (x8.toNat * 6)).add 3)) fun x15_3p x15_3l x15_3c =>
  ldS w1 (((a14.add (x8.toNat * 6)).add 4)) fun x15_4p x15_4l x15_4c =>
  ldStr w1 (((a14.add (x8.toNat * 6)).add 5)) fun x15_5 =>
  callJ Tryz.prog fn_tree_unordered #[.agg ⟨[.int .i64 x15_0, .string x15_1, .string x15_2, .slice x15_3p x15_3l x15_3c, .slice x15_4p x15_4l x15_4c, .string x15_5]⟩] w1 [.one .bool] fun (r16 : Bool) (w2 : World) =>
  condB r16 (
  J x8 w2) (
  ∃ m' : Nat, m' < m ∧ I_8 (w64 (x8 + (1 : Int))) w2 m')) (
  J (-1 : Int) w1))
def ann_slices_IndexFunc_sl_api_Node_api_Node_f1_24 : Ann := .s (.o) (.s (.s (.o) (.b (.l [(8, .int .i64)] (.s (.o) (.s (.c (.o) (.o)) (.s (.b (.s (.o) (.s (.o) (.c (.s (.o) (.o)) (.o))))) (.o))))))) (.s (.o) (.o)))
theorem eq_slices_IndexFunc_sl_api_Node_api_Node_f1_24 (s0p : Option Addr) (s0l : Nat) (s0c : Nat) (w : World) (J : Int → World → Prop) : vcFun Tryz.prog Tryz.f48 ann_slices_IndexFunc_sl_api_Node_api_Node_f1_24 [.one (.int .i64)] [.slice s0p s0l s0c, .func (.func 24) #[] #[]] w J = VC_slices_IndexFunc_sl_api_Node_api_Node_f1_24 s0p s0l s0c w J := by kernel_rfl
theorem c_slices_IndexFunc_sl_api_Node_api_Node_f1_24 {s0p : Option Addr} {s0l : Nat} {s0c : Nat} {w : World} {J : Int → World → Prop} (h : VC_slices_IndexFunc_sl_api_Node_api_Node_f1_24 s0p s0l s0c w J) : callJ Tryz.prog fn_slices_IndexFunc_sl_api_Node_api_Node #[.slice s0p s0l s0c, .func (.func 24) #[] #[]] w [.one (.int .i64)] J := vc_calls Tryz.func48 ann_slices_IndexFunc_sl_api_Node_api_Node_f1_24 (Eq.mpr (eq_slices_IndexFunc_sl_api_Node_api_Node_f1_24 s0p s0l s0c w J) h)

/-- slices.IndexFunc[[]lectern/api.Node,lectern/api.Node] -/
def VC_slices_IndexFunc_sl_api_Node_api_Node_f1_25 (s0p : Option Addr) (s0l : Nat) (s0c : Nat) (w : World) (J : Int → World → Prop) : Prop :=
  ∃ I_8 : Int → World → Nat → Prop, (∃ m : Nat, I_8 (0 : Int) w m) ∧ ∀ (x8 : Int) (w1 : World) (m : Nat), I_8 x8 w1 m → (
  condB (decide (x8 < ((s0l : Nat) : Int))) (
  idxA s0p s0l x8 fun a14 =>
  ldI .i64 w1 ((a14.add (x8.toNat * 6))) fun x15_0 =>
  ldStr w1 (((a14.add (x8.toNat * 6)).add 1)) fun x15_1 =>
  ldStr w1 (((a14.add (x8.toNat * 6)).add 2)) fun x15_2 =>
  ldS w1 (((a14.add (x8.toNat * 6)).add 3)) fun x15_3p x15_3l x15_3c =>
  ldS w1 (((a14.add (x8.toNat * 6)).add 4)) fun x15_4p x15_4l x15_4c =>
  ldStr w1 (((a14.add (x8.toNat * 6)).add 5)) fun x15_5 =>
  callJ Tryz.prog fn_tree_wrongText #[.agg ⟨[.int .i64 x15_0, .string x15_1, .string x15_2, .slice x15_3p x15_3l x15_3c, .slice x15_4p x15_4l x15_4c, .string x15_5]⟩] w1 [.one .bool] fun (r16 : Bool) (w2 : World) =>
  condB r16 (
  J x8 w2) (
  ∃ m' : Nat, m' < m ∧ I_8 (w64 (x8 + (1 : Int))) w2 m')) (
  J (-1 : Int) w1))
def ann_slices_IndexFunc_sl_api_Node_api_Node_f1_25 : Ann := .s (.o) (.s (.s (.o) (.b (.l [(8, .int .i64)] (.s (.o) (.s (.c (.o) (.o)) (.s (.b (.s (.o) (.s (.o) (.c (.s (.o) (.o)) (.o))))) (.o))))))) (.s (.o) (.o)))
theorem eq_slices_IndexFunc_sl_api_Node_api_Node_f1_25 (s0p : Option Addr) (s0l : Nat) (s0c : Nat) (w : World) (J : Int → World → Prop) : vcFun Tryz.prog Tryz.f48 ann_slices_IndexFunc_sl_api_Node_api_Node_f1_25 [.one (.int .i64)] [.slice s0p s0l s0c, .func (.func 25) #[] #[]] w J = VC_slices_IndexFunc_sl_api_Node_api_Node_f1_25 s0p s0l s0c w J := by kernel_rfl
theorem c_slices_IndexFunc_sl_api_Node_api_Node_f1_25 {s0p : Option Addr} {s0l : Nat} {s0c : Nat} {w : World} {J : Int → World → Prop} (h : VC_slices_IndexFunc_sl_api_Node_api_Node_f1_25 s0p s0l s0c w J) : callJ Tryz.prog fn_slices_IndexFunc_sl_api_Node_api_Node #[.slice s0p s0l s0c, .func (.func 25) #[] #[]] w [.one (.int .i64)] J := vc_calls Tryz.func48 ann_slices_IndexFunc_sl_api_Node_api_Node_f1_25 (Eq.mpr (eq_slices_IndexFunc_sl_api_Node_api_Node_f1_25 s0p s0l s0c w J) h)

/-- slices.IndexFunc[[]lectern/api.Node,lectern/api.Node] -/
def VC_slices_IndexFunc_sl_api_Node_api_Node_f1_49c1 (s0p : Option Addr) (s0l : Nat) (s0c : Nat) (cp1_0 : Addr) (w : World) (J : Int → World → Prop) : Prop :=
  ∃ I_8 : Int → World → Nat → Prop, (∃ m : Nat, I_8 (0 : Int) w m) ∧ ∀ (x8 : Int) (w1 : World) (m : Nat), I_8 x8 w1 m → (
  condB (decide (x8 < ((s0l : Nat) : Int))) (
  idxA s0p s0l x8 fun a14 =>
  ldI .i64 w1 ((a14.add (x8.toNat * 6))) fun x15_0 =>
  ldStr w1 (((a14.add (x8.toNat * 6)).add 1)) fun x15_1 =>
  ldStr w1 (((a14.add (x8.toNat * 6)).add 2)) fun x15_2 =>
  ldS w1 (((a14.add (x8.toNat * 6)).add 3)) fun x15_3p x15_3l x15_3c =>
  ldS w1 (((a14.add (x8.toNat * 6)).add 4)) fun x15_4p x15_4l x15_4c =>
  ldStr w1 (((a14.add (x8.toNat * 6)).add 5)) fun x15_5 =>
  callJ Tryz.prog fn_tree_odd_1 #[.agg ⟨[.int .i64 x15_0, .string x15_1, .string x15_2, .slice x15_3p x15_3l x15_3c, .slice x15_4p x15_4l x15_4c, .string x15_5]⟩, .pointer (some cp1_0)] w1 [.one .bool] fun (r16 : Bool) (w2 : World) =>
  condB r16 (
  J x8 w2) (
  ∃ m' : Nat, m' < m ∧ I_8 (w64 (x8 + (1 : Int))) w2 m')) (
  J (-1 : Int) w1))
def ann_slices_IndexFunc_sl_api_Node_api_Node_f1_49c1 : Ann := .s (.o) (.s (.s (.o) (.b (.l [(8, .int .i64)] (.s (.o) (.s (.c (.o) (.o)) (.s (.b (.s (.o) (.s (.o) (.c (.s (.o) (.o)) (.o))))) (.o))))))) (.s (.o) (.o)))
theorem eq_slices_IndexFunc_sl_api_Node_api_Node_f1_49c1 (s0p : Option Addr) (s0l : Nat) (s0c : Nat) (cp1_0 : Addr) (w : World) (J : Int → World → Prop) : vcFun Tryz.prog Tryz.f48 ann_slices_IndexFunc_sl_api_Node_api_Node_f1_49c1 [.one (.int .i64)] [.slice s0p s0l s0c, .func (.func 49) #[] #[.pointer (some cp1_0)]] w J = VC_slices_IndexFunc_sl_api_Node_api_Node_f1_49c1 s0p s0l s0c cp1_0 w J := by kernel_rfl
theorem c_slices_IndexFunc_sl_api_Node_api_Node_f1_49c1 {s0p : Option Addr} {s0l : Nat} {s0c : Nat} {cp1_0 : Addr} {w : World} {J : Int → World → Prop} (h : VC_slices_IndexFunc_sl_api_Node_api_Node_f1_49c1 s0p s0l s0c cp1_0 w J) : callJ Tryz.prog fn_slices_IndexFunc_sl_api_Node_api_Node #[.slice s0p s0l s0c, .func (.func 49) #[] #[.pointer (some cp1_0)]] w [.one (.int .i64)] J := vc_calls Tryz.func48 ann_slices_IndexFunc_sl_api_Node_api_Node_f1_49c1 (Eq.mpr (eq_slices_IndexFunc_sl_api_Node_api_Node_f1_49c1 s0p s0l s0c cp1_0 w J) h)

/-- slices.IndexFunc[[]lectern/api.Node,lectern/api.Node] -/
def VC_slices_IndexFunc_sl_api_Node_api_Node_f1_51c1 (s0p : Option Addr) (s0l : Nat) (s0c : Nat) (cp1_0 : Addr) (w : World) (J : Int → World → Prop) : Prop :=
  ∃ I_8 : Int → World → Nat → Prop, (∃ m : Nat, I_8 (0 : Int) w m) ∧ ∀ (x8 : Int) (w1 : World) (m : Nat), I_8 x8 w1 m → (
  condB (decide (x8 < ((s0l : Nat) : Int))) (
  idxA s0p s0l x8 fun a14 =>
  ldI .i64 w1 ((a14.add (x8.toNat * 6))) fun x15_0 =>
  ldStr w1 (((a14.add (x8.toNat * 6)).add 1)) fun x15_1 =>
  ldStr w1 (((a14.add (x8.toNat * 6)).add 2)) fun x15_2 =>
  ldS w1 (((a14.add (x8.toNat * 6)).add 3)) fun x15_3p x15_3l x15_3c =>
  ldS w1 (((a14.add (x8.toNat * 6)).add 4)) fun x15_4p x15_4l x15_4c =>
  ldStr w1 (((a14.add (x8.toNat * 6)).add 5)) fun x15_5 =>
  callJ Tryz.prog fn_tree_deep_1 #[.agg ⟨[.int .i64 x15_0, .string x15_1, .string x15_2, .slice x15_3p x15_3l x15_3c, .slice x15_4p x15_4l x15_4c, .string x15_5]⟩, .pointer (some cp1_0)] w1 [.one .bool] fun (r16 : Bool) (w2 : World) =>
  condB r16 (
  J x8 w2) (
  ∃ m' : Nat, m' < m ∧ I_8 (w64 (x8 + (1 : Int))) w2 m')) (
  J (-1 : Int) w1))
def ann_slices_IndexFunc_sl_api_Node_api_Node_f1_51c1 : Ann := .s (.o) (.s (.s (.o) (.b (.l [(8, .int .i64)] (.s (.o) (.s (.c (.o) (.o)) (.s (.b (.s (.o) (.s (.o) (.c (.s (.o) (.o)) (.o))))) (.o))))))) (.s (.o) (.o)))
theorem eq_slices_IndexFunc_sl_api_Node_api_Node_f1_51c1 (s0p : Option Addr) (s0l : Nat) (s0c : Nat) (cp1_0 : Addr) (w : World) (J : Int → World → Prop) : vcFun Tryz.prog Tryz.f48 ann_slices_IndexFunc_sl_api_Node_api_Node_f1_51c1 [.one (.int .i64)] [.slice s0p s0l s0c, .func (.func 51) #[] #[.pointer (some cp1_0)]] w J = VC_slices_IndexFunc_sl_api_Node_api_Node_f1_51c1 s0p s0l s0c cp1_0 w J := by kernel_rfl
theorem c_slices_IndexFunc_sl_api_Node_api_Node_f1_51c1 {s0p : Option Addr} {s0l : Nat} {s0c : Nat} {cp1_0 : Addr} {w : World} {J : Int → World → Prop} (h : VC_slices_IndexFunc_sl_api_Node_api_Node_f1_51c1 s0p s0l s0c cp1_0 w J) : callJ Tryz.prog fn_slices_IndexFunc_sl_api_Node_api_Node #[.slice s0p s0l s0c, .func (.func 51) #[] #[.pointer (some cp1_0)]] w [.one (.int .i64)] J := vc_calls Tryz.func48 ann_slices_IndexFunc_sl_api_Node_api_Node_f1_51c1 (Eq.mpr (eq_slices_IndexFunc_sl_api_Node_api_Node_f1_51c1 s0p s0l s0c cp1_0 w J) h)

/-- slices.ContainsFunc[[]lectern/api.Attr,lectern/api.Attr] -/
def VC_slices_ContainsFunc_sl_api_Attr_api_Attr_f1_52 (s0p : Option Addr) (s0l : Nat) (s0c : Nat) (w : World) (J : Bool → World → Prop) : Prop :=
  callJ Tryz.prog fn_slices_IndexFunc_sl_api_Attr_api_Attr #[.slice s0p s0l s0c, .func (.func 52) #[] #[]] w [.one (.int .i64)] fun (r7 : Int) (w1 : World) =>
  J (decide (r7 ≥ (0 : Int))) w1
def ann_slices_ContainsFunc_sl_api_Attr_api_Attr_f1_52 : Ann := .s (.o) (.s (.o) (.o))
theorem eq_slices_ContainsFunc_sl_api_Attr_api_Attr_f1_52 (s0p : Option Addr) (s0l : Nat) (s0c : Nat) (w : World) (J : Bool → World → Prop) : vcFun Tryz.prog Tryz.f53 ann_slices_ContainsFunc_sl_api_Attr_api_Attr_f1_52 [.one .bool] [.slice s0p s0l s0c, .func (.func 52) #[] #[]] w J = VC_slices_ContainsFunc_sl_api_Attr_api_Attr_f1_52 s0p s0l s0c w J := by kernel_rfl
theorem c_slices_ContainsFunc_sl_api_Attr_api_Attr_f1_52 {s0p : Option Addr} {s0l : Nat} {s0c : Nat} {w : World} {J : Bool → World → Prop} (h : VC_slices_ContainsFunc_sl_api_Attr_api_Attr_f1_52 s0p s0l s0c w J) : callJ Tryz.prog fn_slices_ContainsFunc_sl_api_Attr_api_Attr #[.slice s0p s0l s0c, .func (.func 52) #[] #[]] w [.one .bool] J := vc_calls Tryz.func53 ann_slices_ContainsFunc_sl_api_Attr_api_Attr_f1_52 (Eq.mpr (eq_slices_ContainsFunc_sl_api_Attr_api_Attr_f1_52 s0p s0l s0c w J) h)

/-- slices.ContainsFunc[[]lectern/api.Attr,lectern/api.Attr] -/
def VC_slices_ContainsFunc_sl_api_Attr_api_Attr_f1_54 (s0p : Option Addr) (s0l : Nat) (s0c : Nat) (w : World) (J : Bool → World → Prop) : Prop :=
  callJ Tryz.prog fn_slices_IndexFunc_sl_api_Attr_api_Attr #[.slice s0p s0l s0c, .func (.func 54) #[] #[]] w [.one (.int .i64)] fun (r7 : Int) (w1 : World) =>
  J (decide (r7 ≥ (0 : Int))) w1
def ann_slices_ContainsFunc_sl_api_Attr_api_Attr_f1_54 : Ann := .s (.o) (.s (.o) (.o))
theorem eq_slices_ContainsFunc_sl_api_Attr_api_Attr_f1_54 (s0p : Option Addr) (s0l : Nat) (s0c : Nat) (w : World) (J : Bool → World → Prop) : vcFun Tryz.prog Tryz.f53 ann_slices_ContainsFunc_sl_api_Attr_api_Attr_f1_54 [.one .bool] [.slice s0p s0l s0c, .func (.func 54) #[] #[]] w J = VC_slices_ContainsFunc_sl_api_Attr_api_Attr_f1_54 s0p s0l s0c w J := by kernel_rfl
theorem c_slices_ContainsFunc_sl_api_Attr_api_Attr_f1_54 {s0p : Option Addr} {s0l : Nat} {s0c : Nat} {w : World} {J : Bool → World → Prop} (h : VC_slices_ContainsFunc_sl_api_Attr_api_Attr_f1_54 s0p s0l s0c w J) : callJ Tryz.prog fn_slices_ContainsFunc_sl_api_Attr_api_Attr #[.slice s0p s0l s0c, .func (.func 54) #[] #[]] w [.one .bool] J := vc_calls Tryz.func53 ann_slices_ContainsFunc_sl_api_Attr_api_Attr_f1_54 (Eq.mpr (eq_slices_ContainsFunc_sl_api_Attr_api_Attr_f1_54 s0p s0l s0c w J) h)

/-- slices.ContainsFunc[[]lectern/api.Attr,lectern/api.Attr] -/
def VC_slices_ContainsFunc_sl_api_Attr_api_Attr_f1_59 (s0p : Option Addr) (s0l : Nat) (s0c : Nat) (w : World) (J : Bool → World → Prop) : Prop :=
  callJ Tryz.prog fn_slices_IndexFunc_sl_api_Attr_api_Attr #[.slice s0p s0l s0c, .func (.func 59) #[] #[]] w [.one (.int .i64)] fun (r7 : Int) (w1 : World) =>
  J (decide (r7 ≥ (0 : Int))) w1
def ann_slices_ContainsFunc_sl_api_Attr_api_Attr_f1_59 : Ann := .s (.o) (.s (.o) (.o))
theorem eq_slices_ContainsFunc_sl_api_Attr_api_Attr_f1_59 (s0p : Option Addr) (s0l : Nat) (s0c : Nat) (w : World) (J : Bool → World → Prop) : vcFun Tryz.prog Tryz.f53 ann_slices_ContainsFunc_sl_api_Attr_api_Attr_f1_59 [.one .bool] [.slice s0p s0l s0c, .func (.func 59) #[] #[]] w J = VC_slices_ContainsFunc_sl_api_Attr_api_Attr_f1_59 s0p s0l s0c w J := by kernel_rfl
theorem c_slices_ContainsFunc_sl_api_Attr_api_Attr_f1_59 {s0p : Option Addr} {s0l : Nat} {s0c : Nat} {w : World} {J : Bool → World → Prop} (h : VC_slices_ContainsFunc_sl_api_Attr_api_Attr_f1_59 s0p s0l s0c w J) : callJ Tryz.prog fn_slices_ContainsFunc_sl_api_Attr_api_Attr #[.slice s0p s0l s0c, .func (.func 59) #[] #[]] w [.one .bool] J := vc_calls Tryz.func53 ann_slices_ContainsFunc_sl_api_Attr_api_Attr_f1_59 (Eq.mpr (eq_slices_ContainsFunc_sl_api_Attr_api_Attr_f1_59 s0p s0l s0c w J) h)

/-- slices.IndexFunc[[]lectern/api.Attr,lectern/api.Attr] -/
def VC_slices_IndexFunc_sl_api_Attr_api_Attr_f1_52 (s0p : Option Addr) (s0l : Nat) (s0c : Nat) (w : World) (J : Int → World → Prop) : Prop :=
  ∃ I_8 : Int → World → Nat → Prop, (∃ m : Nat, I_8 (0 : Int) w m) ∧ ∀ (x8 : Int) (w1 : World) (m : Nat), I_8 x8 w1 m → (
  condB (decide (x8 < ((s0l : Nat) : Int))) (
  idxA s0p s0l x8 fun a14 =>
  ldStr w1 ((a14.add (x8.toNat * 3))) fun x15_0 =>
  ldStr w1 (((a14.add (x8.toNat * 3)).add 1)) fun x15_1 =>
  ldStr w1 (((a14.add (x8.toNat * 3)).add 2)) fun x15_2 =>
  callJ Tryz.prog fn_tree_great_1 #[.agg ⟨[.string x15_0, .string x15_1, .string x15_2]⟩] w1 [.one .bool] fun (r16 : Bool) (w2 : World) =>
  condB r16 (
  J x8 w2) (
  ∃ m' : Nat, m' < m ∧ I_8 (w64 (x8 + (1 : Int))) w2 m')) (
  J (-1 : Int) w1))
def ann_slices_IndexFunc_sl_api_Attr_api_Attr_f1_52 : Ann := .s (.o) (.s (.s (.o) (.b (.l [(8, .int .i64)] (.s (.o) (.s (.c (.o) (.o)) (.s (.b (.s (.o) (.s (.o) (.c (.s (.o) (.o)) (.o))))) (.o))))))) (.s (.o) (.o)))
theorem eq_slices_IndexFunc_sl_api_Attr_api_Attr_f1_52 (s0p : Option Addr) (s0l : Nat) (s0c : Nat) (w : World) (J : Int → World → Prop) : vcFun Tryz.prog Tryz.f84 ann_slices_IndexFunc_sl_api_Attr_api_Attr_f1_52 [.one (.int .i64)] [.slice s0p s0l s0c, .func (.func 52) #[] #[]] w J = VC_slices_IndexFunc_sl_api_Attr_api_Attr_f1_52 s0p s0l s0c w J := by kernel_rfl
theorem c_slices_IndexFunc_sl_api_Attr_api_Attr_f1_52 {s0p : Option Addr} {s0l : Nat} {s0c : Nat} {w : World} {J : Int → World → Prop} (h : VC_slices_IndexFunc_sl_api_Attr_api_Attr_f1_52 s0p s0l s0c w J) : callJ Tryz.prog fn_slices_IndexFunc_sl_api_Attr_api_Attr #[.slice s0p s0l s0c, .func (.func 52) #[] #[]] w [.one (.int .i64)] J := vc_calls Tryz.func84 ann_slices_IndexFunc_sl_api_Attr_api_Attr_f1_52 (Eq.mpr (eq_slices_IndexFunc_sl_api_Attr_api_Attr_f1_52 s0p s0l s0c w J) h)

/-- slices.IndexFunc[[]lectern/api.Attr,lectern/api.Attr] -/
def VC_slices_IndexFunc_sl_api_Attr_api_Attr_f1_54 (s0p : Option Addr) (s0l : Nat) (s0c : Nat) (w : World) (J : Int → World → Prop) : Prop :=
  ∃ I_8 : Int → World → Nat → Prop, (∃ m : Nat, I_8 (0 : Int) w m) ∧ ∀ (x8 : Int) (w1 : World) (m : Nat), I_8 x8 w1 m → (
  condB (decide (x8 < ((s0l : Nat) : Int))) (
  idxA s0p s0l x8 fun a14 =>
  ldStr w1 ((a14.add (x8.toNat * 3))) fun x15_0 =>
  ldStr w1 (((a14.add (x8.toNat * 3)).add 1)) fun x15_1 =>
  ldStr w1 (((a14.add (x8.toNat * 3)).add 2)) fun x15_2 =>
  callJ Tryz.prog fn_tree_misnamed_1 #[.agg ⟨[.string x15_0, .string x15_1, .string x15_2]⟩] w1 [.one .bool] fun (r16 : Bool) (w2 : World) =>
  condB r16 (
  J x8 w2) (
  ∃ m' : Nat, m' < m ∧ I_8 (w64 (x8 + (1 : Int))) w2 m')) (
  J (-1 : Int) w1))
def ann_slices_IndexFunc_sl_api_Attr_api_Attr_f1_54 : Ann := .s (.o) (.s (.s (.o) (.b (.l [(8, .int .i64)] (.s (.o) (.s (.c (.o) (.o)) (.s (.b (.s (.o) (.s (.o) (.c (.s (.o) (.o)) (.o))))) (.o))))))) (.s (.o) (.o)))
theorem eq_slices_IndexFunc_sl_api_Attr_api_Attr_f1_54 (s0p : Option Addr) (s0l : Nat) (s0c : Nat) (w : World) (J : Int → World → Prop) : vcFun Tryz.prog Tryz.f84 ann_slices_IndexFunc_sl_api_Attr_api_Attr_f1_54 [.one (.int .i64)] [.slice s0p s0l s0c, .func (.func 54) #[] #[]] w J = VC_slices_IndexFunc_sl_api_Attr_api_Attr_f1_54 s0p s0l s0c w J := by kernel_rfl
theorem c_slices_IndexFunc_sl_api_Attr_api_Attr_f1_54 {s0p : Option Addr} {s0l : Nat} {s0c : Nat} {w : World} {J : Int → World → Prop} (h : VC_slices_IndexFunc_sl_api_Attr_api_Attr_f1_54 s0p s0l s0c w J) : callJ Tryz.prog fn_slices_IndexFunc_sl_api_Attr_api_Attr #[.slice s0p s0l s0c, .func (.func 54) #[] #[]] w [.one (.int .i64)] J := vc_calls Tryz.func84 ann_slices_IndexFunc_sl_api_Attr_api_Attr_f1_54 (Eq.mpr (eq_slices_IndexFunc_sl_api_Attr_api_Attr_f1_54 s0p s0l s0c w J) h)

/-- slices.IndexFunc[[]lectern/api.Attr,lectern/api.Attr] -/
def VC_slices_IndexFunc_sl_api_Attr_api_Attr_f1_59 (s0p : Option Addr) (s0l : Nat) (s0c : Nat) (w : World) (J : Int → World → Prop) : Prop :=
  ∃ I_8 : Int → World → Nat → Prop, (∃ m : Nat, I_8 (0 : Int) w m) ∧ ∀ (x8 : Int) (w1 : World) (m : Nat), I_8 x8 w1 m → (
  condB (decide (x8 < ((s0l : Nat) : Int))) (
  idxA s0p s0l x8 fun a14 =>
  ldStr w1 ((a14.add (x8.toNat * 3))) fun x15_0 =>
  ldStr w1 (((a14.add (x8.toNat * 3)).add 1)) fun x15_1 =>
  ldStr w1 (((a14.add (x8.toNat * 3)).add 2)) fun x15_2 =>
  callJ Tryz.prog fn_tree_spoilt_1 #[.agg ⟨[.string x15_0, .string x15_1, .string x15_2]⟩] w1 [.one .bool] fun (r16 : Bool) (w2 : World) =>
  condB r16 (
  J x8 w2) (
  ∃ m' : Nat, m' < m ∧ I_8 (w64 (x8 + (1 : Int))) w2 m')) (
  J (-1 : Int) w1))
def ann_slices_IndexFunc_sl_api_Attr_api_Attr_f1_59 : Ann := .s (.o) (.s (.s (.o) (.b (.l [(8, .int .i64)] (.s (.o) (.s (.c (.o) (.o)) (.s (.b (.s (.o) (.s (.o) (.c (.s (.o) (.o)) (.o))))) (.o))))))) (.s (.o) (.o)))
theorem eq_slices_IndexFunc_sl_api_Attr_api_Attr_f1_59 (s0p : Option Addr) (s0l : Nat) (s0c : Nat) (w : World) (J : Int → World → Prop) : vcFun Tryz.prog Tryz.f84 ann_slices_IndexFunc_sl_api_Attr_api_Attr_f1_59 [.one (.int .i64)] [.slice s0p s0l s0c, .func (.func 59) #[] #[]] w J = VC_slices_IndexFunc_sl_api_Attr_api_Attr_f1_59 s0p s0l s0c w J := by kernel_rfl
theorem c_slices_IndexFunc_sl_api_Attr_api_Attr_f1_59 {s0p : Option Addr} {s0l : Nat} {s0c : Nat} {w : World} {J : Int → World → Prop} (h : VC_slices_IndexFunc_sl_api_Attr_api_Attr_f1_59 s0p s0l s0c w J) : callJ Tryz.prog fn_slices_IndexFunc_sl_api_Attr_api_Attr #[.slice s0p s0l s0c, .func (.func 59) #[] #[]] w [.one (.int .i64)] J := vc_calls Tryz.func84 ann_slices_IndexFunc_sl_api_Attr_api_Attr_f1_59 (Eq.mpr (eq_slices_IndexFunc_sl_api_Attr_api_Attr_f1_59 s0p s0l s0c w J) h)

end Go.Proofs.YtmnbgcgealpcbaaGreatDoor

/- What the conditions of these functions are, reckoned by the reading; printed by program. -/
set_option maxRecDepth 100000
set_option linter.unusedVariables false
namespace Go.Proofs.YtmnbgcgealpcbaaGreatDoor
open Go Go.Vc

/-- strings.EqualFold -/
def VC_strings_EqualFold (s0 : ByteArray) (t1 : ByteArray) (w : World) (J : Bool → World → Prop) : Prop :=
  ∃ I_5 : Int → World → Nat → Prop, (∃ m : Nat, I_5 (0 : Int) w m) ∧ ∀ (i5 : Int) (w1 : World) (m : Nat), I_5 i5 w1 m → (
  condB (decide (i5 < (if (t1.size : Int) < (s0.size : Int) then (t1.size : Int) else (s0.size : Int)))) (
  withJ (fun (w2 : World) =>
  ∃ m' : Nat, m' < m ∧ I_5 (w64 (i5 + (1 : Int))) w2 m') fun J_0 =>
  idxStr s0 i5 fun x26 =>
  idxStr t1 i5 fun x29 =>
  condB (decide ((bOr .u8 x26 x29) ≥ (128 : Int))) (
  slStr s0 (some i5) none fun s62 =>
  slStr t1 (some i5) none fun s65 =>
  newB w1 (.stringIter s62 0) fun b67 w3 =>
  ∃ I_1 : ByteArray → World → Nat → Prop, (∃ m : Nat, I_1 s65 w3 m) ∧ ∀ (t1 : ByteArray) (w4 : World) (m_1 : Nat), I_1 t1 w4 m_1 → (
  nextS w4 b67 (fun pos68 ch68 w5 =>
  condB ((t1.size : Int) == (0 : Int)) (
  J false w5) (
  callJ Tryz.prog fn_unicode_utf8_DecodeRuneInString #[.string t1] w5 [.one (.int .i32), .one (.int .i64)] fun (r76_0 : Int) (r76_1 : Int) (w7 : World) =>
  slStr t1 (some r76_1) none fun s81 =>
  condB (r76_0 == ch68) (
  ∃ m' : Nat, m' < m_1 ∧ I_1 s81 w7 m') (
  withJ (fun (sr10 : Int) (tr11 : Int) (w8 : World) =>
  condB (decide (tr11 < (128 : Int))) (
  withJ (fun (x104 : Bool) (w9 : World) =>
  condB x104 (
  ∃ m' : Nat, m' < m_1 ∧ I_1 s81 w9 m') (
  J false w9)) fun J_104 =>
  condB (decide ((65 : Int) ≤ sr10)) (
  condB (decide (sr10 ≤ (90 : Int))) (
  J_104 (tr11 == (IntKind.i32.wrap ((IntKind.i32.wrap (sr10 + (97 : Int))) - (65 : Int)))) w8) (
  J_104 false w8)) (
  J_104 false w8)) (
  callJ Tryz.prog fn_unicode_SimpleFold #[.int .i32 sr10] w8 [.one (.int .i32)] fun (r106 : Int) (w10 : World) =>
  ∃ I_13 : Int → World → Nat → Prop, (∃ m : Nat, I_13 r106 w10 m) ∧ ∀ (r13 : Int) (w11 : World) (m_2 : Nat), I_13 r13 w11 m_2 → (
  withJ (fun (x114 : Bool) (w12 : World) =>
  condB x114 (
  callJ Tryz.prog fn_unicode_SimpleFold #[.int .i32 r13] w12 [.one (.int .i32)] fun (r116 : Int) (w13 : World) =>
  ∃ m' : Nat, m' < m_2 ∧ I_13 r116 w13 m') (
  condB (r13 == tr11) (
  ∃ m' : Nat, m' < m_1 ∧ I_1 s81 w12 m') (
  J false w12))) fun J_114 =>
  condB (r13 != sr10) (
  J_114 (decide (r13 < tr11)) w11) (
  J_114 false w11)))) fun J_10 =>
  condB (decide (r76_0 < ch68)) (
  J_10 r76_0 ch68 w7) (
  J_10 ch68 r76_0 w7)))) (fun w6 =>
  J ((t1.size : Int) == (0 : Int)) w6))) (
  condB (x29 == x26) (
  J_0 w1) (
  withJ (fun (sr7 : Int) (tr8 : Int) (w14 : World) =>
  withJ (fun (x54 : Bool) (w15 : World) =>
  condB x54 (
  J_0 w15) (
  J false w15)) fun J_54 =>
  condB (decide ((65 : Int) ≤ sr7)) (
  condB (decide (sr7 ≤ (90 : Int))) (
  J_54 (tr8 == (IntKind.u8.wrap ((IntKind.u8.wrap (sr7 + (97 : Int))) - (65 : Int)))) w14) (
  J_54 false w14)) (
  J_54 false w14)) fun J_7 =>
  condB (decide (x29 < x26)) (
  J_7 x29 x26 w1) (
  J_7 x26 x29 w1)))) (
  J ((s0.size : Int) == (t1.size : Int)) w1))
def ann_strings_EqualFold : Ann := .s (.o) (.g 0 (.s (.o) (.s (.s (.o) (.b (.l [(5, .int .i64)] (.s (.s (.o) (.c (.o) (.o))) (.j [] (.b (.s (.o) (.s (.o) (.s (.s (.o) (.c (.o) (.o))) (.s (.s (.o) (.c (.o) (.o))) (.j [(7, .int .u8), (8, .int .u8)] (.s (.o) (.c (.o) (.o))) (.s (.j [(54, .bool)] (.o) (.c (.o) (.o))) (.s (.o) (.o))))))))) (.o)))))) (.s (.s (.o) (.o)) (.u)))) (.s (.o) (.s (.o) (.s (.o) (.s (.s (.o) (.b (.l [(1, .str)] (.s (.o) (.s (.c (.o) (.o)) (.b (.s (.o) (.s (.s (.o) (.c (.s (.o) (.o)) (.o))) (.s (.o) (.s (.o) (.s (.s (.o) (.c (.o) (.o))) (.j [(10, .int .i32) , (11, .int .i32)] (.s (.o) (.c (.o) (.o))) (.s (.s (.o) (.c (.s (.j [(104, .bool)] (.o) (.c (.o) (.o))) (.s (.o) (.o))) (.o))) (.s (.o) (.s (.b (.l [(13, .int .i32)] (.s (.j [(114, .bool)] (.o) (.c (.o) (.o))) (.b (.o))))) (.s (.s (.o) (.c (.o) (.o))) (.s (.o) (.o)))))))))))))))))) (.s (.o) (.o)))))))
theorem eq_strings_EqualFold (s0 : ByteArray) (t1 : ByteArray) (w : World) (J : Bool → World → Prop) : vcFun Tryz.prog Tryz.f57 ann_strings_EqualFold [.one .bool] [.string s0, .string t1] w J = VC_strings_EqualFold s0 t1 w J := by kernel_rfl
theorem c_strings_EqualFold {s0 : ByteArray} {t1 : ByteArray} {w : World} {J : Bool → World → Prop} (h : VC_strings_EqualFold s0 t1 w J) : callJ Tryz.prog fn_strings_EqualFold #[.string s0, .string t1] w [.one .bool] J := vc_calls Tryz.func57 ann_strings_EqualFold (Eq.mpr (eq_strings_EqualFold s0 t1 w J) h)

/-- strings.HasSuffix -/
def VC_strings_HasSuffix (s0 : ByteArray) (suffix1 : ByteArray) (w : World) (J : Bool → World → Prop) : Prop :=
  callJ Tryz.prog fn_internal_stringslite_HasSuffix #[.string s0, .string suffix1] w [.one .bool] fun (r7 : Bool) (w1 : World) =>
  J r7 w1
def ann_strings_HasSuffix : Ann := .s (.o) (.s (.o) (.o))
theorem eq_strings_HasSuffix (s0 : ByteArray) (suffix1 : ByteArray) (w : World) (J : Bool → World → Prop) : vcFun Tryz.prog Tryz.f61 ann_strings_HasSuffix [.one .bool] [.string s0, .string suffix1] w J = VC_strings_HasSuffix s0 suffix1 w J := by kernel_rfl
theorem c_strings_HasSuffix {s0 : ByteArray} {suffix1 : ByteArray} {w : World} {J : Bool → World → Prop} (h : VC_strings_HasSuffix s0 suffix1 w J) : callJ Tryz.prog fn_strings_HasSuffix #[.string s0, .string suffix1] w [.one .bool] J := vc_calls Tryz.func61 ann_strings_HasSuffix (Eq.mpr (eq_strings_HasSuffix s0 suffix1 w J) h)

/-- internal/stringslite.HasSuffix -/
def VC_internal_stringslite_HasSuffix (s0 : ByteArray) (suffix1 : ByteArray) (w : World) (J : Bool → World → Prop) : Prop :=
  withJ (fun (x4 : Bool) (w1 : World) =>
  J x4 w1) fun J_4 =>
  condB (decide ((s0.size : Int) ≥ (suffix1.size : Int))) (
  slStr s0 (some (w64 ((s0.size : Int) - (suffix1.size : Int)))) none fun s17 =>
  J_4 (s17.toList == suffix1.toList) w) (
  J_4 false w)
def ann_internal_stringslite_HasSuffix : Ann := .s (.o) (.j [(4, .bool)] (.o) (.o))
theorem eq_internal_stringslite_HasSuffix (s0 : ByteArray) (suffix1 : ByteArray) (w : World) (J : Bool → World → Prop) : vcFun Tryz.prog Tryz.f91 ann_internal_stringslite_HasSuffix [.one .bool] [.string s0, .string suffix1] w J = VC_internal_stringslite_HasSuffix s0 suffix1 w J := by kernel_rfl
theorem c_internal_stringslite_HasSuffix {s0 : ByteArray} {suffix1 : ByteArray} {w : World} {J : Bool → World → Prop} (h : VC_internal_stringslite_HasSuffix s0 suffix1 w J) : callJ Tryz.prog fn_internal_stringslite_HasSuffix #[.string s0, .string suffix1] w [.one .bool] J := vc_calls Tryz.func91 ann_internal_stringslite_HasSuffix (Eq.mpr (eq_internal_stringslite_HasSuffix s0 suffix1 w J) h)

/-- unicode.SimpleFold -/
def VC_unicode_SimpleFold (r0 : Int) (w : World) (J : Int → World → Prop) : Prop :=
  withJ (fun (x13 : Bool) (w1 : World) =>
  condB x13 (
  J r0 w1) (
  condB (decide ((w64 r0) < (128 : Int))) (
  idxA (some ⟨2, 0, none⟩) 128 r0 fun a19 =>
  ldI .u16 w1 ((a19.add (r0.toNat * 1))) fun x20 =>
  J (IntKind.i32.wrap x20) w1) (
  ldS w1 ⟨3, 0, none⟩ fun x22p x22l x22c =>
  ∃ I_3 : Int → Int → World → Nat → Prop, (∃ m : Nat, I_3 (0 : Int) ((x22l : Nat) : Int) w1 m) ∧ ∀ (lo3 : Int) (hi4 : Int) (w2 : World) (m : Nat), I_3 lo3 hi4 w2 m → (
  condB (decide (lo3 < hi4)) (
  0 ≤ (1 : Int) ∧
  ldS w2 ⟨3, 0, none⟩ fun x33p x33l x33c =>
  idxA x33p x33l (w64 (shrI .u64 (IntKind.u64.wrap (w64 (lo3 + hi4))) (1 : Int))) fun a35 =>
  ldI .u16 w2 ((a35.add ((w64 (shrI .u64 (IntKind.u64.wrap (w64 (lo3 + hi4))) (1 : Int))).toNat * 2))) fun x37 =>
  condB (decide ((IntKind.i32.wrap x37) < r0)) (
  ∃ m' : Nat, m' < m ∧ I_3 (w64 ((w64 (shrI .u64 (IntKind.u64.wrap (w64 (lo3 + hi4))) (1 : Int))) + (1 : Int))) hi4 w2 m') (
  ∃ m' : Nat, m' < m ∧ I_3 lo3 (w64 (shrI .u64 (IntKind.u64.wrap (w64 (lo3 + hi4))) (1 : Int))) w2 m')) (
  withJ (fun (x57 : Bool) (w3 : World) =>
  condB x57 (
  ldS w3 ⟨3, 0, none⟩ fun x58p x58l x58c =>
  idxA x58p x58l lo3 fun a60 =>
  ldI .u16 w3 (((a60.add (lo3.toNat * 2)).add 1)) fun x62 =>
  J (IntKind.i32.wrap x62) w3) (
  ldS w3 ⟨4, 0, none⟩ fun x65p x65l x65c =>
  callJ Tryz.prog fn_unicode_lookupCaseRange #[.int .i32 r0, .slice x65p x65l x65c] w3 [.one .ptr] fun (r66 : Option Addr) (w4 : World) =>
  condB (!r66.isNone) (
  callJ Tryz.prog fn_unicode_convertCase #[.int .i64 (1 : Int), .int .i32 r0, .pointer r66] w4 [.one (.int .i32)] fun (r71 : Int) (w5 : World) =>
  condB (r71 != r0) (
  J r71 w5) (
  callJ Tryz.prog fn_unicode_convertCase #[.int .i64 (0 : Int), .int .i32 r0, .pointer r66] w5 [.one (.int .i32)] fun (r78 : Int) (w6 : World) =>
  J r78 w6)) (
  J r0 w4))) fun J_57 =>
  ldS w2 ⟨3, 0, none⟩ fun x45p x45l x45c =>
  condB (decide (lo3 < ((x45l : Nat) : Int))) (
  ldS w2 ⟨3, 0, none⟩ fun x49p x49l x49c =>
  idxA x49p x49l lo3 fun a51 =>
  ldI .u16 w2 ((a51.add (lo3.toNat * 2))) fun x53 =>
  J_57 ((IntKind.i32.wrap x53) == r0) w2) (
  J_57 false w2)))))) fun J_13 =>
  condB (decide (r0 < (0 : Int))) (
  J_13 true w) (
  J_13 (decide (r0 > (1114111 : Int))) w)
def ann_unicode_SimpleFold : Ann := .s (.o) (.s (.j [(13, .bool)] (.o) (.c (.s (.o) (.o)) (.o))) (.s (.s (.o) (.c (.s (.o) (.o)) (.o))) (.s (.o) (.s (.o) (.s (.b (.l [(3, .int .i64), (4, .int .i64)] (.s (.s (.o) (.c (.o) (.o))) (.b (.s (.o) (.s (.o) (.c (.o) (.o)))))))) (.s (.j [(57, .bool)] (.o) (.c (.s (.o) (.o)) (.o))) (.s (.s (.o) (.s (.o) (.c (.s (.s (.o) (.s (.o) (.c (.s (.o) (.o)) (.o)))) (.s (.o) (.o))) (.o)))) (.s (.o) (.o)))))))))
theorem eq_unicode_SimpleFold (r0 : Int) (w : World) (J : Int → World → Prop) : vcFun Tryz.prog Tryz.f89 ann_unicode_SimpleFold [.one (.int .i32)] [.int .i32 r0] w J = VC_unicode_SimpleFold r0 w J := by kernel_rfl
theorem c_unicode_SimpleFold {r0 : Int} {w : World} {J : Int → World → Prop} (h : VC_unicode_SimpleFold r0 w J) : callJ Tryz.prog fn_unicode_SimpleFold #[.int .i32 r0] w [.one (.int .i32)] J := vc_calls Tryz.func89 ann_unicode_SimpleFold (Eq.mpr (eq_unicode_SimpleFold r0 w J) h)

/-- unicode/utf8.DecodeRuneInString -/
def VC_unicode_utf8_DecodeRuneInString (s0 : ByteArray) (w : World) (J : Int → Int → World → Prop) : Prop :=
  withJ (fun (x10 : Bool) (w1 : World) =>
  condB x10 (
  idxStr s0 (0 : Int) fun x12 =>
  J (IntKind.i32.wrap x12) (1 : Int) w1) (
  callJ Tryz.prog fn_unicode_utf8_decodeRuneInStringSlow #[.string s0] w1 [.one (.int .i32), .one (.int .i64)] fun (r16_0 : Int) (r16_1 : Int) (w2 : World) =>
  J r16_0 r16_1 w2)) fun J_10 =>
  condB (!(s0.toList == (⟨#[]⟩ : ByteArray).toList)) (
  idxStr s0 (0 : Int) fun x8 =>
  J_10 (decide (x8 < (128 : Int))) w) (
  J_10 false w)
def ann_unicode_utf8_DecodeRuneInString : Ann := .s (.o) (.s (.j [(10, .bool)] (.o) (.c (.s (.o) (.o)) (.o))) (.o))
theorem eq_unicode_utf8_DecodeRuneInString (s0 : ByteArray) (w : World) (J : Int → Int → World → Prop) : vcFun Tryz.prog Tryz.f88 ann_unicode_utf8_DecodeRuneInString [.one (.int .i32), .one (.int .i64)] [.string s0] w J = VC_unicode_utf8_DecodeRuneInString s0 w J := by kernel_rfl
theorem c_unicode_utf8_DecodeRuneInString {s0 : ByteArray} {w : World} {J : Int → Int → World → Prop} (h : VC_unicode_utf8_DecodeRuneInString s0 w J) : callJ Tryz.prog fn_unicode_utf8_DecodeRuneInString #[.string s0] w [.one (.int .i32), .one (.int .i64)] J := vc_calls Tryz.func88 ann_unicode_utf8_DecodeRuneInString (Eq.mpr (eq_unicode_utf8_DecodeRuneInString s0 w J) h)

end Go.Proofs.YtmnbgcgealpcbaaGreatDoor

/- What the conditions of these functions are, reckoned by the reading; printed by program. -/
set_option maxRecDepth 100000
set_option linter.unusedVariables false
namespace Go.Proofs.YtmnbgcgealpcbaaGreatDoor
open Go Go.Vc

end Go.Proofs.YtmnbgcgealpcbaaGreatDoor
