/-
  Trees of nodes: plain, and as they lie in memory.
-/
import Derived.Test.YtkgfbphdmnapdaaGreatDoorBase
import Derived.Test.YtkgfbphdmnapdaaGreatDoorHpx
import Derived.Test.YtkgfbphdmnapdaaGreatDoorSortW
import Derived.Test.YtkgfbphdmnapdaaGreatDoorU8
set_option linter.unusedVariables false
set_option linter.unusedSimpArgs false
namespace Go.Vc
open Go Go.Lib
/-- A plain tree. -/
inductive Nd where
  | mk (kind : Int) (uri loc text : ByteArray) (attrs : List At) (kids : List Nd)
/-- A tree as it lies in memory: each node with its lists' addresses. -/
inductive NV where
  | mk (kind : Int) (uri loc text : ByteArray) (ap : Option Addr) (al ac : Nat) (attrs : List At) (kp : Option Addr) (kl kc : Nat) (kids : List NV)
theorem NV.ind {P : NV → Prop} (h : ∀ k u l t ap al ac ats kp kl kc ks, (∀ x ∈ ks, P x) → P (.mk k u l t ap al ac ats kp kl kc ks)) (v : NV) : P v :=
  NV.rec (motive_1 := P) (motive_2 := fun ks => ∀ x ∈ ks, P x) (fun k u l t ap al ac ats kp kl kc ks ih => h k u l t ap al ac ats kp kl kc ks ih) (by simp)
    (fun x r hx hr y hy => by rcases List.mem_cons.1 hy with rfl | hy; · exact hx
                              · exact hr y hy) v
theorem Nd.ind {P : Nd → Prop} (h : ∀ k u l t ats ks, (∀ x ∈ ks, P x) → P (.mk k u l t ats ks)) (v : Nd) : P v :=
  Nd.rec (motive_1 := P) (motive_2 := fun ks => ∀ x ∈ ks, P x) (fun k u l t ats ks ih => h k u l t ats ks ih) (by simp)
    (fun x r hx hr y hy => by rcases List.mem_cons.1 hy with rfl | hy; · exact hx
                              · exact hr y hy) v
def NV.cells : NV → List Value
  | .mk k u l t ap al ac _ kp kl kc _ => [.int .i64 k, .string u, .string l, .slice ap al ac, .slice kp kl kc, .string t]
theorem even_node (L : List NV) : Even NV.cells 6 L := fun x _ => by cases x; rfl
theorem one1_node (x : NV) : one1 x.cells := by
  cases x
  intro v hv
  simp only [NV.cells, List.mem_cons, List.not_mem_nil, or_false] at hv
  rcases hv with rfl | rfl | rfl | rfl | rfl | rfl <;> rfl
mutual
def NV.nd : NV → Nd
  | .mk k u l t _ _ _ ats _ _ _ ks => .mk k u l t ats (NV.ndL ks)
def NV.ndL : List NV → List Nd
  | [] => []
  | x :: r => x.nd :: NV.ndL r
end
theorem ndL_map : ∀ ks, NV.ndL ks = ks.map NV.nd
  | [] => rfl
  | x :: r => by simp [NV.ndL, ndL_map r]
def atSize (a : At) : Nat := 1 + a.1.size + a.2.1.size + a.2.2.size
mutual
def NV.mea : NV → Nat
  | .mk _ u l t _ _ _ ats _ _ _ ks => 1 + u.size + l.size + t.size + (ats.map atSize).sum + NV.meaL ks
def NV.meaL : List NV → Nat
  | [] => 0
  | x :: r => x.mea + NV.meaL r
end
theorem meaL_sum : ∀ ks, NV.meaL ks = (ks.map NV.mea).sum
  | [] => rfl
  | x :: r => by simp [NV.meaL, meaL_sum r]
theorem mem_sum {α : Type} (f : α → Nat) : ∀ {l : List α} {x : α}, x ∈ l → f x ≤ (l.map f).sum
  | y :: l, x, h => by
    rw [List.map_cons, List.sum_cons]
    rcases List.mem_cons.1 h with rfl | h
    · omega
    · have := mem_sum f h; omega
theorem mea_kid {x : NV} {ks : List NV} (h : x ∈ ks) : x.mea ≤ NV.meaL ks := by rw [meaL_sum]; exact mem_sum NV.mea h
theorem mea_pos (v : NV) : 1 ≤ v.mea := by cases v; simp only [NV.mea]; omega
theorem len_meaL : ∀ ks : List NV, ks.length ≤ NV.meaL ks
  | [] => Nat.le_refl _
  | x :: r => by have := len_meaL r; have := mea_pos x; simp only [NV.meaL, List.length_cons]; omega
theorem len_atSum : ∀ ats : List At, ats.length ≤ (ats.map atSize).sum
  | [] => Nat.le_refl _
  | x :: r => by
    have := len_atSum r
    rw [List.map_cons, List.sum_cons, List.length_cons]
    unfold atSize at *; omega
/-- What memory holds of a tree. -/
inductive NV.Ok (w : World) : NV → Prop
  | mk {k : Int} {u l t : ByteArray} {ap : Option Addr} {al ac : Nat} {ats : List At} {kp : Option Addr} {kl kc : Nat} {ks : List NV}
      (ha : Sl w ap al 3 (rows atc ats)) (hn : ap = none → al = 0) (hac : al ≤ ac) (hk : Sl w kp kl 6 (rows NV.cells ks)) (hkn : kp = none → kl = 0) (hkc : kl ≤ kc) (hks : ∀ x ∈ ks, NV.Ok w x) : NV.Ok w (.mk k u l t ap al ac ats kp kl kc ks)
/-- The slices of a tree lie off some blocks. -/
inductive NV.Off (S : Nat → Prop) : NV → Prop
  | mk {k : Int} {u l t : ByteArray} {ap : Option Addr} {al ac : Nat} {ats : List At} {kp : Option Addr} {kl kc : Nat} {ks : List NV}
      (ha : off ap S) (hk : off kp S) (hks : ∀ x ∈ ks, NV.Off S x) : NV.Off S (.mk k u l t ap al ac ats kp kl kc ks)
theorem NV.off_no (v : NV) : NV.Off No v := by
  induction v using NV.ind with
  | h k u l t ap al ac ats kp kl kc ks ih => exact .mk (Vc.off_no _) (Vc.off_no _) ih
theorem NV.Ok.chg {w w' : World} {S : Nat → Prop} (hc : Chg S w w') : ∀ {v : NV}, NV.Ok w v → NV.Off S v → NV.Ok w' v := by
  intro v
  induction v using NV.ind with
  | h k u l t ap al ac ats kp kl kc ks ih =>
    intro h ho
    cases h with
    | mk ha hn hac hk hkn hkc hks =>
      cases ho with
      | mk oa ok oks => exact .mk (ha.chg hc oa) hn hac (hk.chg hc ok) hkn hkc fun x hx => ih x hx (hks x hx) (oks x hx)
theorem NV.Ok.chg0 {w w' : World} {v : NV} (h : NV.Ok w v) (hc : Chg No w w') : NV.Ok w' v := h.chg hc v.off_no
/-! All nodes, each ahead of its kids. -/
mutual
def NV.flat : NV → List NV
  | .mk k u l t ap al ac ats kp kl kc ks => .mk k u l t ap al ac ats kp kl kc ks :: NV.flatL ks
def NV.flatL : List NV → List NV
  | [] => []
  | x :: r => x.flat ++ NV.flatL r
end
mutual
def Nd.flat : Nd → List Nd
  | .mk k u l t ats ks => .mk k u l t ats ks :: Nd.flatL ks
def Nd.flatL : List Nd → List Nd
  | [] => []
  | x :: r => x.flat ++ Nd.flatL r
end
theorem flatL_append : ∀ a b : List NV, NV.flatL (a ++ b) = NV.flatL a ++ NV.flatL b
  | [], _ => rfl
  | x :: r, b => by simp [NV.flatL, flatL_append r b]
mutual
theorem flat_len : ∀ v : NV, v.flat.length ≤ v.mea
  | .mk k u l t ap al ac ats kp kl kc ks => by
    have := flatL_len ks
    simp only [NV.flat, NV.mea, List.length_cons]; omega
theorem flatL_len : ∀ ks : List NV, (NV.flatL ks).length ≤ NV.meaL ks
  | [] => Nat.le_refl _
  | x :: r => by
    have := flat_len x; have := flatL_len r
    simp only [NV.flatL, NV.meaL, List.length_append]; omega
end
mutual
theorem flat_nd : ∀ v : NV, v.flat.map NV.nd = v.nd.flat
  | .mk k u l t ap al ac ats kp kl kc ks => by
    have := flatL_nd ks
    simp only [NV.flat, NV.nd, Nd.flat, List.map_cons, this]
theorem flatL_nd : ∀ ks : List NV, (NV.flatL ks).map NV.nd = Nd.flatL (NV.ndL ks)
  | [] => rfl
  | x :: r => by
    have := flat_nd x; have := flatL_nd r
    simp only [NV.flatL, NV.ndL, Nd.flatL, List.map_append, *]
end
theorem flat_mem {v x : NV} (h : x ∈ v.flat) : ∀ {w : World}, NV.Ok w v → NV.Ok w x := by
  intro w
  induction v using NV.ind with
  | h k u l t ap al ac ats kp kl kc ks ih =>
    intro hv
    simp only [NV.flat, List.mem_cons] at h
    rcases h with rfl | h
    · exact hv
    · cases hv with
      | mk ha hn hac hk hkn hkc hks =>
        have key : ∀ ks' : List NV, (∀ y ∈ ks', y ∈ ks) → x ∈ NV.flatL ks' → NV.Ok w x := by
          intro ks'
          induction ks' with
          | nil => intro _ h; cases h
          | cons y r ihr =>
            intro hs h
            simp only [NV.flatL, List.mem_append] at h
            rcases h with h | h
            · exact ih y (hs y (by simp)) h (hks y (hs y (by simp)))
            · exact ihr (fun z hz => hs z (by simp [hz])) h
        exact key ks (fun y hy => hy) h
theorem flat_mea {v x : NV} (h : x ∈ v.flat) : x.mea ≤ v.mea := by
  induction v using NV.ind with
  | h k u l t ap al ac ats kp kl kc ks ih =>
    simp only [NV.flat, List.mem_cons] at h
    rcases h with rfl | h
    · exact Nat.le_refl _
    · have key : ∀ ks' : List NV, (∀ y ∈ ks', y ∈ ks) → x ∈ NV.flatL ks' → x.mea ≤ NV.meaL ks' := by
        intro ks'
        induction ks' with
        | nil => intro _ h; cases h
        | cons y r ihr =>
          intro hs h
          simp only [NV.flatL, List.mem_append] at h
          simp only [NV.meaL]
          rcases h with h | h
          · have := ih y (hs y (by simp)) h; omega
          · have := ihr (fun z hz => hs z (by simp [hz])) h; omega
      have := key ks (fun y hy => hy) h
      simp only [NV.mea]; omega
end Go.Vc

/-
  Trees, plain: what is right, and the first error of what isn't.
-/

set_option linter.unusedVariables false
set_option linter.unusedSimpArgs false
namespace Go.Vc
open Go Go.Lib
def Nd.kind : Nd → Int | .mk k _ _ _ _ _ => k
def Nd.uri : Nd → ByteArray | .mk _ u _ _ _ _ => u
def Nd.loc : Nd → ByteArray | .mk _ _ l _ _ _ => l
def Nd.text : Nd → ByteArray | .mk _ _ _ t _ _ => t
def Nd.attrs : Nd → List At | .mk _ _ _ _ ats _ => ats
def Nd.kids : Nd → List Nd | .mk _ _ _ _ _ ks => ks
theorem flatL_mem {x : Nd} : ∀ {ks : List Nd}, x ∈ Nd.flatL ks ↔ ∃ k ∈ ks, x ∈ k.flat
  | [] => by simp [Nd.flatL]
  | y :: r => by simp [Nd.flatL, flatL_mem (ks := r)]
theorem flat_self (d : Nd) : d ∈ d.flat := by cases d; simp [Nd.flat]
theorem flat_mem_iff {x d : Nd} : x ∈ d.flat ↔ x = d ∨ ∃ k ∈ d.kids, x ∈ k.flat := by
  cases d with
  | mk k u l t ats ks => simp only [Nd.flat, List.mem_cons, flatL_mem, Nd.kids]
/-- Below a node: the node, or a kid of one. -/
theorem flat_parent {d x : Nd} (h : x ∈ d.flat) : x = d ∨ ∃ y ∈ d.flat, x ∈ y.kids := by
  induction d using Nd.ind with
  | h k u l t ats ks ih =>
    rcases flat_mem_iff.1 h with rfl | ⟨c, hc, hx⟩
    · exact .inl rfl
    · right
      rcases ih c hc hx with rfl | ⟨y, hy, hxy⟩
      · exact ⟨_, flat_self _, hc⟩
      · exact ⟨y, flat_mem_iff.2 (.inr ⟨c, hc, hy⟩), hxy⟩
/-! ## What is asked of each node -/
def mayK (p k : Int) : Bool := decide ((p = 1 ∧ (k = 2 ∨ k = 4 ∨ k = 5)) ∨ (p = 2 ∧ 2 ≤ k ∧ k ≤ 5))
def emptyB : ByteArray := ⟨#[]⟩
/-- The document's 'kind'. -/
def kindG (n : Nd) : Bool :=
  n.kids.all (fun k => mayK n.kind k.kind) &&
  (if n.kind = 1 then decide (n.uri = emptyB ∧ n.loc = emptyB ∧ n.text = emptyB ∧ n.attrs = [])
   else if n.kind = 2 then decide (n.text = emptyB)
   else if n.kind = 3 ∨ n.kind = 4 then decide (n.uri = emptyB ∧ n.loc = emptyB ∧ n.attrs = []) && n.kids.isEmpty
   else if n.kind = 5 then decide (n.uri = emptyB ∧ n.attrs = []) && n.kids.isEmpty
   else false)
/-- The program's 'odd', of the node alone. -/
def oddQ (k : Int) (u l t : ByteArray) (ats : List At) : Bool :=
  if k = 1 then decide (ats ≠ []) || decide (¬ (u = emptyB ∧ l = emptyB)) || decide (t ≠ emptyB)
  else if k = 2 then decide (t ≠ emptyB)
  else if k = 5 then decide (ats ≠ []) || decide (u ≠ emptyB)
  else decide (ats ≠ []) || decide (¬ (u = emptyB ∧ l = emptyB))
/-- The program's 'odd'. -/
def oddP (n : Nd) : Bool := oddQ n.kind n.uri n.loc n.text n.attrs || n.kids.any (fun k => !mayK n.kind k.kind)
theorem mayK_known {p k : Int} (h : mayK p k = true) : (p = 1 ∨ p = 2) ∧ (k = 2 ∨ k = 3 ∨ k = 4 ∨ k = 5) := by
  have := of_decide_eq_true h; omega
theorem kind_odd {n : Nd} (h : kindG n = true) : oddP n = false := by
  unfold kindG at h
  rw [Bool.and_eq_true] at h
  have hk : n.kids.any (fun k => !mayK n.kind k.kind) = false := by
    rw [List.any_eq_false]
    intro x hx
    have := List.all_eq_true.1 h.1 x hx
    simp [this]
  unfold oddP oddQ
  rw [hk, Bool.or_false]
  have h2 := h.2
  by_cases e1 : n.kind = 1
  · rw [if_pos e1] at h2 ⊢
    have := of_decide_eq_true h2
    simp [this.1, this.2.1, this.2.2.1, this.2.2.2]
  rw [if_neg e1] at h2 ⊢
  by_cases e2 : n.kind = 2
  · rw [if_pos e2] at h2 ⊢
    have := of_decide_eq_true h2
    simp [this]
  rw [if_neg e2] at h2 ⊢
  by_cases e3 : n.kind = 3 ∨ n.kind = 4
  · rw [if_pos e3, Bool.and_eq_true] at h2
    have := of_decide_eq_true h2.1
    rw [if_neg (by omega)]
    simp [this.1, this.2.1, this.2.2]
  rw [if_neg e3] at h2
  by_cases e5 : n.kind = 5
  · rw [if_pos e5, Bool.and_eq_true] at h2
    rw [if_pos e5]
    have := of_decide_eq_true h2.1
    simp [this.1, this.2]
  · rw [if_neg e5] at h2; cases h2
theorem odd_kind {n : Nd} (hk : n.kind = 1 ∨ n.kind = 2 ∨ n.kind = 3 ∨ n.kind = 4 ∨ n.kind = 5) (h : oddP n = false) : kindG n = true := by
  unfold oddP oddQ at h
  rw [Bool.or_eq_false_iff] at h
  have hall : n.kids.all (fun k => mayK n.kind k.kind) = true := by
    rw [List.all_eq_true]
    intro x hx
    have := List.any_eq_false.1 h.2 x hx
    simpa using this
  unfold kindG
  rw [hall, Bool.true_and]
  have noK : ¬ (n.kind = 1 ∨ n.kind = 2) → n.kids.isEmpty = true := by
    intro hn
    cases hks : n.kids with
    | nil => rfl
    | cons x r =>
      have := List.all_eq_true.1 hall x (by rw [hks]; simp)
      exact absurd (mayK_known this).1 hn
  have h2 := h.1
  by_cases e1 : n.kind = 1
  · rw [if_pos e1] at h2 ⊢
    simp only [Bool.or_eq_false_iff, decide_eq_false_iff_not, Decidable.not_not] at h2
    exact decide_eq_true ⟨h2.1.2.1, h2.1.2.2, h2.2, h2.1.1⟩
  rw [if_neg e1] at h2 ⊢
  by_cases e2 : n.kind = 2
  · rw [if_pos e2] at h2 ⊢
    simp only [decide_eq_false_iff_not, Decidable.not_not] at h2
    exact decide_eq_true h2
  rw [if_neg e2] at h2 ⊢
  have hemp := noK (by omega)
  by_cases e3 : n.kind = 3 ∨ n.kind = 4
  · rw [if_neg (by omega)] at h2
    simp only [Bool.or_eq_false_iff, decide_eq_false_iff_not, Decidable.not_not] at h2
    rw [if_pos e3, hemp, Bool.and_true]
    exact decide_eq_true ⟨h2.2.1, h2.2.2, h2.1⟩
  · have e5 : n.kind = 5 := by omega
    rw [if_pos e5] at h2
    simp only [Bool.or_eq_false_iff, decide_eq_false_iff_not, Decidable.not_not] at h2
    rw [if_neg e3, if_pos e5, hemp, Bool.and_true]
    exact decide_eq_true ⟨h2.2, h2.1⟩
theorem odd_all {d : Nd} (hd : d.kind = 1) : d.flat.any oddP = !d.flat.all kindG := by
  cases hall : d.flat.all kindG with
  | true =>
    rw [Bool.not_true, List.any_eq_false]
    intro x hx
    rw [kind_odd (List.all_eq_true.1 hall x hx)]; decide
  | false =>
    rw [Bool.not_false]
    rcases hany : d.flat.any oddP with _ | _
    · exfalso
      rw [Bool.eq_false_iff] at hall
      apply hall
      rw [List.all_eq_true]
      have hno : ∀ x ∈ d.flat, oddP x = false := fun x hx => by simpa using List.any_eq_false.1 hany x hx
      intro x hx
      refine odd_kind ?_ (hno x hx)
      rcases flat_parent hx with rfl | ⟨y, hy, hxy⟩
      · exact .inl hd
      · have h1 := hno y hy
        unfold oddP oddQ at h1
        rw [Bool.or_eq_false_iff] at h1
        have h2 := List.any_eq_false.1 h1.2 x hxy
        have := (mayK_known (p := y.kind) (k := x.kind) (by simpa using h2)).2
        omega
    · rfl
/-! Does an element stand below more than 32 others? -/
mutual
def deepN (above : Int) : Nd → Bool
  | .mk k _ _ _ _ ks => if k = 2 then (if above > 32 then true else deepNL (above + 1) ks) else deepNL above ks
def deepNL (above : Int) : List Nd → Bool
  | [] => false
  | x :: r => deepN above x || deepNL above r
end
theorem deepNL_any (above : Int) : ∀ ks, deepNL above ks = ks.any (deepN above)
  | [] => rfl
  | x :: r => by simp [deepNL, deepNL_any above r]
def greatN (n : Nd) : Bool := decide (64 < n.attrs.length) || decide (8192 < n.text.size) || n.attrs.any (fun a => decide (8192 < a.2.2.size))
def fineB (s : ByteArray) : Bool := decide ((flt 0 (bl s)).2 = 0)
def kXMLNS : ByteArray := ⟨#[104, 116, 116, 112, 58, 47, 47, 119, 119, 119, 46, 119, 51, 46, 111, 114, 103, 47, 50, 48, 48, 48, 47, 120, 109, 108, 110, 115, 47]⟩
def kXn : ByteArray := ⟨#[120, 109, 108, 110, 115]⟩
/-- May an element or an attribute be called so? -/
def calledN (n : Pr) : Bool := nm (bl n.2) && decide (n.1.size ≤ 100) && fineB n.1 && decide (n.1 ≠ kXMLNS)
def attrN (a : At) : Bool := calledN (nameOf a) && !decide (a.1 = emptyB ∧ a.2.1 = kXn)
def low3 (b : UInt8) : UInt8 := if 65 ≤ b.toNat ∧ b.toNat ≤ 90 then b + 32 else b
def isXml (l : List UInt8) : Bool := decide (l.map low3 = [120, 109, 108])
/-- The program's 'misnamed', turned about. -/
def nameP (n : Nd) : Bool := if n.kind = 2 then calledN (n.uri, n.loc) && n.attrs.all attrN else if n.kind = 5 then nm (bl n.loc) && !isXml (bl n.loc) else true
/-- The document's 'name'. -/
def nameG (n : Nd) : Bool := (decide (n.kind ≠ 2) || calledN (n.uri, n.loc)) && n.attrs.all attrN && (decide (n.kind ≠ 5) || (nm (bl n.loc) && !isXml (bl n.loc)))
theorem name_eq {n : Nd} (h : kindG n = true) : nameP n = nameG n := by
  unfold nameP nameG
  by_cases e2 : n.kind = 2
  · rw [if_pos e2]
    have : decide (n.kind ≠ 5) = true := by rw [decide_eq_true_eq]; omega
    rw [this]; simp [e2]
  · rw [if_neg e2]
    have ha : n.attrs = [] := by
      unfold kindG at h
      rw [Bool.and_eq_true] at h
      have h2 := h.2
      by_cases e1 : n.kind = 1
      · rw [if_pos e1] at h2; exact (of_decide_eq_true h2).2.2.2
      rw [if_neg e1, if_neg e2] at h2
      by_cases e3 : n.kind = 3 ∨ n.kind = 4
      · rw [if_pos e3, Bool.and_eq_true] at h2; exact (of_decide_eq_true h2.1).2.2
      rw [if_neg e3] at h2
      by_cases e5 : n.kind = 5
      · rw [if_pos e5, Bool.and_eq_true] at h2; exact (of_decide_eq_true h2.1).2
      · rw [if_neg e5] at h2; cases h2
    rw [ha]
    by_cases e5 : n.kind = 5
    · rw [if_pos e5]; simp [e2, e5]
    · rw [if_neg e5]; simp [e2, e5]
def charsN (n : Nd) : Bool := fineB n.text && n.attrs.all (fun a => fineB a.2.2)
def ascB : List At → Bool
  | a :: b :: r => aLt a b && ascB (b :: r)
  | _ => true
def orderN (n : Nd) : Bool := ascB n.attrs
def twoTexts : List Nd → Bool
  | a :: b :: r => (decide (a.kind = 3) && decide (b.kind = 3)) || twoTexts (b :: r)
  | _ => false
def hasS (w s : List UInt8) : Bool := match s with
  | [] => w.isPrefixOf []
  | b :: r => w.isPrefixOf (b :: r) || hasS w r
def textQ (k : Int) (t : ByteArray) : Bool :=
  if k = 3 then decide (t ≠ emptyB)
  else if k = 4 then !hasS [45, 45] (bl t) && !hasS [13] (bl t) && decide ((bl t).getLast? ≠ some 45)
  else if k = 5 then !hasS [63, 62] (bl t) && !hasS [13] (bl t) && decide ((bl t).head? ≠ some 32 ∧ (bl t).head? ≠ some 9 ∧ (bl t).head? ≠ some 10)
  else true
def textN (n : Nd) : Bool := !twoTexts n.kids && textQ n.kind n.text
def rootsN (d : Nd) : Nat := d.kids.countP fun k => decide (k.kind = 2)
/-- The first error of a document. -/
def checkL (d : Nd) : Int :=
  if ¬ d.kind = 1 ∨ d.flat.all kindG = false then 33
  else if deepN 0 d = true then 31
  else if 2001 < d.flat.length ∨ d.flat.any greatN = true then 5
  else if d.flat.all nameG = false then 24
  else if d.flat.all charsN = false then 21
  else if d.flat.all orderN = false then 34
  else if d.flat.all textN = false then 32
  else if rootsN d ≠ 1 then 30 else 0
structure Right (d : Nd) : Prop where
  kind : d.kind = 1
  kinds : ∀ x ∈ d.flat, kindG x = true
  deep : deepN 0 d = false
  few : d.flat.length ≤ 2001
  great : ∀ x ∈ d.flat, greatN x = false
  names : ∀ x ∈ d.flat, nameG x = true
  chars : ∀ x ∈ d.flat, charsN x = true
  order : ∀ x ∈ d.flat, orderN x = true
  texts : ∀ x ∈ d.flat, textN x = true
  roots : rootsN d = 1
theorem check_right {d : Nd} : checkL d = 0 ↔ Right d := by
  have ae : ∀ (p : Nd → Bool), d.flat.all p = false ↔ ¬ ∀ x ∈ d.flat, p x = true := fun p => by rw [← List.all_eq_true, Bool.eq_false_iff]
  constructor
  · intro h
    unfold checkL at h
    split at h
    · cases h
    rename_i h1
    split at h
    · cases h
    rename_i h2
    split at h
    · cases h
    rename_i h3
    split at h
    · cases h
    rename_i h4
    split at h
    · cases h
    rename_i h5
    split at h
    · cases h
    rename_i h6
    split at h
    · cases h
    rename_i h7
    split at h
    · cases h
    rename_i h8
    rw [ae] at h1 h4 h5 h6 h7
    refine ⟨by omega, ?_, by simpa using h2, by omega, ?_, Decidable.not_not.1 h4, Decidable.not_not.1 h5, Decidable.not_not.1 h6, Decidable.not_not.1 h7, by omega⟩
    · exact Decidable.not_not.1 fun hn => h1 (.inr hn)
    · intro x hx
      have : ¬ d.flat.any greatN = true := fun hn => h3 (.inr hn)
      rw [Bool.not_eq_true, List.any_eq_false] at this
      simpa using this x hx
  · intro h
    unfold checkL
    have a1 : d.flat.all kindG = true := List.all_eq_true.2 h.kinds
    have a4 : d.flat.all nameG = true := List.all_eq_true.2 h.names
    have a5 : d.flat.all charsN = true := List.all_eq_true.2 h.chars
    have a6 : d.flat.all orderN = true := List.all_eq_true.2 h.order
    have a7 : d.flat.all textN = true := List.all_eq_true.2 h.texts
    have a3 : d.flat.any greatN = false := List.any_eq_false.2 fun x hx => by rw [h.great x hx]; decide
    have := h.few
    have := h.roots
    rw [if_neg (by rw [a1]; simp [h.kind]), if_neg (by rw [h.deep]; decide), if_neg (by rw [a3]; simp; omega), if_neg (by rw [a4]; decide), if_neg (by rw [a5]; decide), if_neg (by rw [a6]; decide), if_neg (by rw [a7]; decide), if_neg (by omega)]
end Go.Vc

