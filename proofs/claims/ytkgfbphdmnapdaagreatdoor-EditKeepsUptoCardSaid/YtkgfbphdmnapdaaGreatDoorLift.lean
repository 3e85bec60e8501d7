/-
  What the reading of an argument says of its cells, in types; for the last step of each statement.
-/
import Derived.Test.YtkgfbphdmnapdaaGreatDoorRows2
import Derived.ChangeArms
import Derived.OpenShut
import Derived.SizedLaws
namespace Go.Vc
open Go Go.WideShapes

section
variable {H : Type} {enc : TypeId × Value → H} {P : Program} {w : World}

/-- Whatever is read at type 't' in the world 'w' are the cells 'f a' of some good 'a'. -/
def Rd (P : Program) (w : World) (t : TypeId) {α : Type} (f : α → List Value) (good : α → Prop) : Prop :=
  ∀ (H : Type) (enc : TypeId × Value → H) (fuel : Nat) (cs : List Value) (x : DataW H × List MemPlace), DataW.trod enc P w 0 (fun _ => true) true fuel t cs = some x →
    (∀ n ∈ DataW.weights P t x.1, n ≤ reachBytes) → ∃ a, cs = f a ∧ good a

theorem wf_int {k : IntKind} {n : Int} (h : (Lit.int k n).wf = true) : k.min ≤ n ∧ n ≤ k.max := by simpa [Lit.wf] using h

theorem Rd.int {t : TypeId} {k : IntKind} (ht : P.underlying t = some (.int k)) : Rd P w t (fun n : Int => [.int k n]) (fun n => k.min ≤ n ∧ n ≤ k.max) := by
  intro H enc fuel cs x h _
  obtain ⟨n, rfl, _, hw⟩ := DataW.trod_int ht h
  exact ⟨n, rfl, wf_int hw⟩
theorem Rd.i64 {t : TypeId} (ht : P.underlying t = some (.int .i64)) : Rd P w t (fun n : Int => [.int .i64 n]) InI := by
  intro H enc fuel cs x h hw
  obtain ⟨n, h1, h2⟩ := Rd.int ht H enc fuel cs x h hw
  refine ⟨n, h1, ?_⟩
  simp [IntKind.min, IntKind.max, IntKind.signed, IntKind.bits] at h2
  exact h2
/-- A slice that came in: where it lies, and its elements. -/
structure SlV (α : Type) where
  p : Option Addr
  l : Nat
  c : Nat
  xs : List α
def SlV.cells {α : Type} (s : SlV α) : List Value := [.slice s.p s.l s.c]
structure SlV.Ok {α : Type} (s : SlV α) (w : World) (sz bytes : Nat) (f : α → List Value) (good : α → Prop) : Prop where
  sl : Sl w s.p s.l sz (rows f s.xs)
  len : s.xs.length = s.l
  nil : s.p = none → s.l = 0
  cap : s.l ≤ s.c
  max : s.c ≤ maxLen
  fits : s.l * bytes ≤ 140737488351232
  even : Even f sz s.xs
  all : ∀ x ∈ s.xs, good x

theorem weightsAll_mem {e : TypeId} {n : Nat} : ∀ {ds : List (DataW H)} {d : DataW H}, d ∈ ds → n ∈ DataW.weights P e d → n ∈ DataW.weightsAll P e ds
  | d0 :: r, d, hd, hn => by
    simp only [DataW.weightsAll, List.mem_append]
    rcases List.mem_cons.1 hd with rfl | hd
    · exact .inl hn
    · exact .inr (weightsAll_mem hd hn)

theorem choose_list {α : Type} {n : Nat} {R : Nat → α → Prop} (h : ∀ i, i < n → ∃ a, R i a) : ∃ l : List α, l.length = n ∧ ∀ i a, l[i]? = some a → R i a := by
  induction n with
  | zero => exact ⟨[], rfl, by simp⟩
  | succ n ih =>
    obtain ⟨l, hl, hr⟩ := ih (fun i hi => h i (by omega))
    obtain ⟨a, ha⟩ := h n (by omega)
    refine ⟨l ++ [a], by simp [hl], fun i b hb => ?_⟩
    rw [List.getElem?_append] at hb
    split at hb
    · exact hr i b hb
    · have h0 : i - l.length = 0 := by
        have := (List.getElem?_eq_some_iff.1 hb).1
        simp at this; omega
      rw [h0] at hb
      simp at hb
      subst hb
      rw [show i = n by omega]; exact ha

/-- A struct's fields. -/
def fieldsOf (P : Program) (t : TypeId) : Option (List (TypeId × Nat)) := match P.underlying t with | some (.struct fs) => some (fs.toList.map fun f => (f.type, f.offset)) | _ => none
end

end Go.Vc

