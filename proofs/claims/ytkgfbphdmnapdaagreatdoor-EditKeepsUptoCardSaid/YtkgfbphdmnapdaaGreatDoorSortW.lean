/-
  slices.SortStableFunc of attributes: what lies there behind it is what lay there, rising by names.
-/
import Derived.Test.YtkgfbphdmnapdaaGreatDoorVSort
import Derived.Test.YtkgfbphdmnapdaaGreatDoorSrt
import Derived.Test.YtkgfbphdmnapdaaGreatDoorScopeB
import Derived.Laws.BitsAllLaws
set_option linter.unusedVariables false
set_option linter.unusedSimpArgs false
namespace Go.Vc
open Go Go.Lib
/-! ## How strings stand -/
theorem bls_irr : ∀ x : List UInt8, Op.bytesLess x x = false
  | [] => rfl
  | a :: x => by unfold Op.bytesLess; simp [bls_irr x]
theorem bls_trans : ∀ {x y z : List UInt8}, Op.bytesLess x y = true → Op.bytesLess y z = true → Op.bytesLess x z = true
  | [], [], _, h, _ => by simp [Op.bytesLess] at h
  | [], _ :: _, [], _, h => by simp [Op.bytesLess] at h
  | [], _ :: _, _ :: _, _, _ => rfl
  | _ :: _, [], _, h, _ => by simp [Op.bytesLess] at h
  | _ :: _, _ :: _, [], _, h => by simp [Op.bytesLess] at h
  | a :: x, b :: y, c :: z, h, k => by
    unfold Op.bytesLess at h k ⊢
    simp only [Bool.or_eq_true, decide_eq_true_eq, Bool.and_eq_true, beq_iff_eq] at h k ⊢
    rcases h with h | ⟨rfl, h⟩
    · rcases k with k | ⟨rfl, k⟩
      · left; rw [UInt8.lt_iff_toNat_lt] at *; omega
      · exact .inl h
    · rcases k with k | ⟨rfl, k⟩
      · exact .inl k
      · exact .inr ⟨rfl, bls_trans h k⟩
theorem bls_tri : ∀ (x y : List UInt8), Op.bytesLess x y = true ∨ x = y ∨ Op.bytesLess y x = true
  | [], [] => .inr (.inl rfl)
  | [], _ :: _ => .inl rfl
  | _ :: _, [] => .inr (.inr rfl)
  | a :: x, b :: y => by
    unfold Op.bytesLess
    simp only [Bool.or_eq_true, decide_eq_true_eq, Bool.and_eq_true, beq_iff_eq, List.cons.injEq]
    rcases Nat.lt_trichotomy a.toNat b.toNat with h | h | h
    · exact .inl (.inl (UInt8.lt_iff_toNat_lt.2 h))
    · have e : a = b := UInt8.toNat_inj.1 h
      subst e
      rcases bls_tri x y with h | h | h
      · exact .inl (.inr ⟨rfl, h⟩)
      · exact .inr (.inl ⟨rfl, h⟩)
      · exact .inr (.inr (.inr ⟨rfl, h⟩))
    · exact .inr (.inr (.inl (UInt8.lt_iff_toNat_lt.2 h)))
def sLt (x y : ByteArray) : Bool := Op.bytesLess x.toList y.toList
theorem sLt_irr (x : ByteArray) : sLt x x = false := bls_irr _
theorem sLt_trans {x y z : ByteArray} (h : sLt x y = true) (k : sLt y z = true) : sLt x z = true := bls_trans h k
theorem sLt_tri (x y : ByteArray) : sLt x y = true ∨ x = y ∨ sLt y x = true := by
  unfold sLt
  rw [toList_bl, toList_bl]
  rcases bls_tri (bl x) (bl y) with h | h | h
  · exact .inl h
  · exact .inr (.inl (bl_ext h))
  · exact .inr (.inr h)
theorem sLt_asym {x y : ByteArray} (h : sLt x y = true) : sLt y x = false := by
  cases hb : sLt y x with
  | false => rfl
  | true => have := sLt_trans h hb; rw [sLt_irr] at this; cases this
/-- How names stand. -/
def nLt (x y : Pr) : Bool := sLt x.1 y.1 || (decide (x.1 = y.1) && sLt x.2 y.2)
theorem nLt_irr (x : Pr) : nLt x x = false := by unfold nLt; rw [sLt_irr, sLt_irr]; simp
theorem nLt_iff {x y : Pr} : nLt x y = true ↔ sLt x.1 y.1 = true ∨ (x.1 = y.1 ∧ sLt x.2 y.2 = true) := by
  unfold nLt; simp only [Bool.or_eq_true, Bool.and_eq_true, decide_eq_true_eq]
theorem nLt_trans {x y z : Pr} (h : nLt x y = true) (k : nLt y z = true) : nLt x z = true := by
  rw [nLt_iff] at *
  rcases h with h | ⟨e, h⟩
  · rcases k with k | ⟨e', k⟩
    · exact .inl (sLt_trans h k)
    · rw [← e']; exact .inl h
  · rcases k with k | ⟨e', k⟩
    · rw [e]; exact .inl k
    · exact .inr ⟨e.trans e', sLt_trans h k⟩
theorem nLt_tri (x y : Pr) : nLt x y = true ∨ x = y ∨ nLt y x = true := by
  rw [nLt_iff, nLt_iff]
  rcases sLt_tri x.1 y.1 with h | h | h
  · exact .inl (.inl h)
  · rcases sLt_tri x.2 y.2 with k | k | k
    · exact .inl (.inr ⟨h, k⟩)
    · exact .inr (.inl (Prod.ext h k))
    · exact .inr (.inr (.inr ⟨h.symm, k⟩))
  · exact .inr (.inr (.inl h))
/-- An attribute: its space, its local name, its value. -/
abbrev At := ByteArray × ByteArray × ByteArray
def atc (x : At) : List Value := [.string x.1, .string x.2.1, .string x.2.2]
def nameOf (x : At) : Pr := (x.1, x.2.1)
theorem even_at (L : List At) : Even atc 3 L := fun _ _ => rfl
theorem one1_at (x : At) : one1 (atc x) := one1_cons rfl (one1_cons rfl (one1_cons rfl one1_nil))
theorem one1_ats (L : List At) : one1 (rows atc L) := one1_rows fun x _ => one1_at x
def aLt (x y : At) : Bool := nLt (nameOf x) (nameOf y)
theorem at_i {w : World} {p : Option Addr} {l : Nat} {xs : List At} {i : Int} {n : Nat} {K : Addr → Prop} (h : Sl w p l 3 (rows atc xs)) (hi : i = n) (h1 : n < l) (k : ∀ (a : Addr), w.cell? (a.add (i.toNat * 3)) = some (.string (pf xs n).1) → w.cell? ((a.add (i.toNat * 3)).add 1) = some (.string (pf xs n).2.1) → w.cell? ((a.add (i.toNat * 3)).add 2) = some (.string (pf xs n).2.2) → K a) : idxA p l i K := by
  subst hi
  have hl := h.row (even_at xs) (by decide)
  refine idx_rows h (even_at xs) (by decide) (by omega) (by omega) fun a x _ hx hc => ?_
  rw [Int.toNat_natCast, pf_get (by omega)] at hx
  cases hx
  exact k a (cellsAt_head hc) (cellsAt_one hc 1 rfl) (cellsAt_one hc 2 rfl)
end Go.Vc
namespace Go.Proofs.YtkgfbphdmnapdaaGreatDoor
open Go Go.Vc Go.Lib

theorem slT_attr : SlT Tryz.prog T_sl_api_Attr T_api_Attr 3 48 #[.string ByteArray.empty, .string ByteArray.empty, .string ByteArray.empty] := SlT.of (by kernel_rfl) (by kernel_rfl) rfl (by decide)
section
variable {w : World}

theorem CompareS_ok {x y : ByteArray} {J : Int → World → Prop} (k : J (if sLt x y = true then -1 else if x = y then 0 else 1) w) : callJ Tryz.prog fn_cmp_Compare_string #[.string x, .string y] w [.one (.int .i64)] J := by
  refine c_cmp_Compare_string ?_
  unfold VC_cmp_Compare_string
  refine c_cmp_isNaN_string ?_
  unfold VC_cmp_isNaN_string
  refine c_cmp_isNaN_string ?_
  unfold VC_cmp_isNaN_string
  refine condB_i (fun h => by simp at h) fun _ => condB_i (fun h => by simp at h) fun _ => ?_
  unfold sLt at k
  refine condB_i (fun h => by rw [if_pos h] at k; exact k) (fun h => ?_)
  rw [if_neg (by simp [h]), ] at k
  rw [h, Bool.false_or, beqS]
  refine condB_not (fun h2 => by rw [if_neg (of_decide_eq_false h2)] at k; exact k) (fun h2 => by rw [if_pos (of_decide_eq_true h2)] at k; exact k)

end
end Go.Proofs.YtkgfbphdmnapdaaGreatDoor

