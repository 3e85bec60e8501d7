/-
  Package scope: what is declared, what a prefix stands for, the name of an element.
-/
import Derived.Test.YtkgfbphdmnapdaaGreatDoorVScope
import Derived.Test.YtkgfbphdmnapdaaGreatDoorChrB
import Derived.Test.YtkgfbphdmnapdaaGreatDoorRowE
set_option linter.unusedVariables false
set_option linter.unusedSimpArgs false
namespace Go.Vc
open Go Go.Lib
abbrev Pr := ByteArray × ByteArray
def pr (x : Pr) : List Value := [.string x.1, .string x.2]
theorem even_pr (L : List Pr) : Even pr 2 L := fun _ _ => rfl
theorem one1_pr (x : Pr) : one1 (pr x) := one1_cons rfl (one1_cons rfl one1_nil)
theorem one1_prs (L : List Pr) : one1 (rows pr L) := one1_rows fun x _ => one1_pr x
def kXmlns : ByteArray := ⟨#[120, 109, 108, 110, 115]⟩
def kXml : ByteArray := ⟨#[120, 109, 108]⟩
def kE : ByteArray := ⟨#[]⟩
def kSX : ByteArray := ⟨#[104, 116, 116, 112, 58, 47, 47, 119, 119, 119, 46, 119, 51, 46, 111, 114, 103, 47, 50, 48, 48, 48, 47, 120, 109, 108, 110, 115, 47]⟩
def kSXml : ByteArray := ⟨#[104, 116, 116, 112, 58, 47, 47, 119, 119, 119, 46, 119, 51, 46, 111, 114, 103, 47, 88, 77, 76, 47, 49, 57, 57, 56, 47, 110, 97, 109, 101, 115, 112, 97, 99, 101]⟩
theorem beqS (x y : ByteArray) : (x.toList == y.toList) = decide (x = y) := by
  rw [toList_bl, toList_bl, Bool.eq_iff_iff, beq_iff_eq, decide_eq_true_eq]
  exact ⟨bl_ext, fun h => by rw [h]⟩
def mkB (l : List UInt8) : ByteArray := ⟨l.toArray⟩
theorem bl_mkB (l : List UInt8) : bl (mkB l) = l := by simp [bl, mkB]
theorem mkB_bl (s : ByteArray) : mkB (bl s) = s := bl_ext (bl_mkB _)
theorem mkB_eq {l : List UInt8} {s : ByteArray} (h : bl s = l) : mkB l = s := by rw [← h, mkB_bl]
theorem spl_xmlns : (spl (bl kXmlns)).1 = [] := by
  unfold spl
  rw [show colon (bl kXmlns) = none from by decide]
  simp only
  split <;> rfl
/-- The prefix that a pair declares. -/
def decl (x : Pr) : Option ByteArray := if x.1 = kXmlns then some kE else if (spl (bl x.1)).2.2 = true ∧ (spl (bl x.1)).1 = bl kXmlns then some (mkB (spl (bl x.1)).2.1) else none
/-- Is it among them? -/
def memB (p : ByteArray) (l : List ByteArray) : Bool := l.any fun x => decide (x = p)
theorem memB_iff {p : ByteArray} {l : List ByteArray} : memB p l = true ↔ p ∈ l := by
  unfold memB
  rw [List.any_eq_true]
  exact ⟨fun ⟨x, h1, h2⟩ => of_decide_eq_true h2 ▸ h1, fun h => ⟨p, h, decide_eq_true rfl⟩⟩
def wrongZ (p u : ByteArray) : Int :=
  if p = kXmlns ∨ u = kSX ∨ (decide (p = kXml) ≠ decide (u = kSXml)) then 29 else if p ≠ kE ∧ u = kE then 28 else if u.size > 100 then 6 else 0
def boundP (B : List Pr) (p : ByteArray) : ByteArray × Bool := if p = kXml then (kSXml, true) else match B.find? (fun b => decide (b.1 = p)) with | some b => (b.2, true) | none => (kE, decide (p = kE))
def elemL (bound : ByteArray → ByteArray × Bool) (q : ByteArray) : Pr × Int :=
  if (spl (bl q)).2.2 = false then ((kE, kE), 24)
  else if mkB (spl (bl q)).1 = kXmlns then ((kE, kE), 29)
  else if (bound (mkB (spl (bl q)).1)).2 = false then ((kE, kE), 28)
  else (((bound (mkB (spl (bl q)).1)).1, mkB (spl (bl q)).2.1), 0)
def putP (B : List Pr) (p u : ByteArray) : List Pr := B.filter (fun b => !decide (b.1 = p)) ++ (if p ≠ kXml ∧ u ≠ kE then [(p, u)] else [])
def openP : List Pr → List ByteArray → List Pr → List Pr × Int
  | [], _, B => (B, 0)
  | x :: L, had, B => match decl x with
    | none => openP L had B
    | some p => if wrongZ p x.2 ≠ 0 then ([], wrongZ p x.2) else if memB p had = true then ([], 27) else openP L (had ++ [p]) (putP B p x.2)
def strs (l : List ByteArray) : List Value := l.map .string
theorem strs_length (l : List ByteArray) : (strs l).length = l.length := by simp [strs]
theorem one1_strs (l : List ByteArray) : one1 (strs l) := by
  intro v hv; obtain ⟨b, _, rfl⟩ := List.mem_map.1 hv; rfl
def str1 (s : ByteArray) : List Value := [.string s]
theorem rows_str1 (l : List ByteArray) : rows str1 l = strs l := by
  induction l with
  | nil => rfl
  | cons b bs ih => rw [rows_cons, ih]; rfl
theorem even_str1 (L : List ByteArray) : Even str1 1 L := fun _ _ => rfl
/-- s[i] of a slice of strings. -/
theorem str_i {w : World} {p : Option Addr} {l : Nat} {xs : List ByteArray} {i : Int} {K : ByteArray → Prop} (h : Sl w p l 1 (strs xs)) (h0 : 0 ≤ i) (h1 : i < l) (k : ∀ s, xs[i.toNat]? = some s → K s) : idxA p l i fun a => ldStr w (a.add (i.toNat * 1)) K := by
  rw [← rows_str1] at h
  exact idx_rows h (even_str1 xs) (by decide) h0 h1 fun a s _ hs hc => ⟨s, cellsAt_head hc, k s hs⟩
/-- s[i] of a slice of pairs: both its strings. -/
theorem pr_i {w : World} {p : Option Addr} {l : Nat} {xs : List Pr} {i : Int} {K : Addr → Prop} (h : Sl w p l 2 (rows pr xs)) (h0 : 0 ≤ i) (h1 : i < l) (k : ∀ (a : Addr) x, xs[i.toNat]? = some x → w.cell? (a.add (i.toNat * 2)) = some (.string x.1) → w.cell? ((a.add (i.toNat * 2)).add 1) = some (.string x.2) → K a) : idxA p l i K :=
  idx_rows h (even_pr xs) (by decide) h0 h1 fun a x _ hx hc => k a x hx (cellsAt_head hc) (cellsAt_one hc 1 rfl)
end Go.Vc
namespace Go.Proofs.YtkgfbphdmnapdaaGreatDoor
open Go Go.Vc Go.Lib

theorem zeroC_string : zeroC Tryz.prog T_string = #[.string ByteArray.empty] := by kernel_rfl
theorem zeroC_name : zeroC Tryz.prog T_api_Name = #[.string ByteArray.empty, .string ByteArray.empty] := by kernel_rfl

theorem fresh_no {w0 : World} {p : Option Addr} (h : fresh w0 p) : ∀ b, b < w0.heap.size → isB p b → No b := by
  rintro b hb ⟨a, ha, rfl⟩
  have := h a ha; omega

section
variable {w : World}

theorem filter_take_succ {α : Type} {P : α → Bool} {L : List α} {i : Nat} {x : α} (h : L[i]? = some x) : (L.take (i + 1)).filter P = (L.take i).filter P ++ (if P x then [x] else []) := by
  obtain ⟨h1, h2⟩ := List.getElem?_eq_some_iff.1 h
  rw [List.take_succ_eq_append_getElem h1, List.filter_append, h2]
  congr 1
  cases hx : P x <;> simp [hx]

end
end Go.Proofs.YtkgfbphdmnapdaaGreatDoor

