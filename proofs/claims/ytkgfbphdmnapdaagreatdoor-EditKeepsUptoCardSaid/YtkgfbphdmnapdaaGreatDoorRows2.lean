/-
  Rows of cells that are made of equal pieces; small facts on lists.
-/
import Derived.Test.YtkgfbphdmnapdaaGreatDoorHeap
namespace Go.Vc
open Go

section
variable {α : Type} {f : α → List Value} {k : Nat} {L : List α}

def rows (f : α → List Value) (L : List α) : List Value := L.flatMap f
def Even (f : α → List Value) (k : Nat) (L : List α) : Prop := ∀ x ∈ L, (f x).length = k

theorem Even.cons {x : α} (h : Even f k (x :: L)) : (f x).length = k ∧ Even f k L := ⟨h x (by simp), fun y hy => h y (by simp [hy])⟩
theorem rows_nil : rows f [] = [] := rfl
theorem rows_cons (x : α) : rows f (x :: L) = f x ++ rows f L := by simp [rows]
theorem rows_append (M : List α) : rows f (L ++ M) = rows f L ++ rows f M := by simp [rows]
theorem rows_len (h : Even f k L) : (rows f L).length = L.length * k := by
  induction L with
  | nil => simp [rows]
  | cons x L ih =>
    obtain ⟨h1, h2⟩ := h.cons
    rw [rows_cons, List.length_append, h1, ih h2, List.length_cons, Nat.succ_mul]; omega
theorem rows_drop (h : Even f k L) (i : Nat) : (rows f L).drop (i * k) = rows f (L.drop i) := by
  induction i generalizing L with
  | zero => simp
  | succ i ih =>
    cases L with
    | nil => simp [rows]
    | cons x L =>
      obtain ⟨h1, h2⟩ := h.cons
      rw [rows_cons, List.drop_succ_cons, ← ih h2, Nat.succ_mul, Nat.add_comm, ← List.drop_drop, ← h1, List.drop_left]
theorem rows_take (h : Even f k L) (i : Nat) : (rows f L).take (i * k) = rows f (L.take i) := by
  induction i generalizing L with
  | zero => simp [rows]
  | succ i ih =>
    cases L with
    | nil => simp [rows]
    | cons x L =>
      obtain ⟨h1, h2⟩ := h.cons
      rw [rows_cons, List.take_succ_cons, rows_cons, ← ih h2, Nat.succ_mul, Nat.add_comm, List.take_append, h1]
      congr 1
      · exact List.take_of_length_le (by omega)
      · congr 1; omega
theorem rows_get (h : Even f k L) {i : Nat} {x : α} (hi : L[i]? = some x) : ((rows f L).drop (i * k)).take k = f x := by
  rw [rows_drop h i]
  have hlt := (List.getElem?_eq_some_iff.1 hi).1
  have hx := (List.getElem?_eq_some_iff.1 hi).2
  rw [List.drop_eq_getElem_cons hlt, rows_cons, hx, ← h x (List.mem_of_getElem? hi), List.take_left]
theorem rows_at (h : Even f k L) {i j : Nat} {x : α} (hi : L[i]? = some x) (hj : j < k) : (rows f L)[i * k + j]? = (f x)[j]? := by
  rw [← rows_get h hi, List.getElem?_take, if_pos hj, List.getElem?_drop]
theorem rows_splice (h : Even f k L) {i : Nat} (hi : i < L.length) {x : α} (hx : (f x).length = k) : splice (rows f L) (i * k) (f x) = rows f (L.set i x) := by
  unfold splice
  rw [rows_take h, hx, show i * k + k = (i + 1) * k by rw [Nat.succ_mul], rows_drop h, List.set_eq_take_append_cons_drop, if_pos hi, rows_append, rows_cons]
  simp
theorem one1_rows (h : ∀ x ∈ L, one1 (f x)) : one1 (rows f L) := by
  intro v hv
  obtain ⟨x, hx, hvx⟩ := List.mem_flatMap.1 hv
  exact h x hx v hvx
end

theorem splice_append {xs rest vs : List Value} {off : Nat} (h : off + vs.length ≤ xs.length) : splice (xs ++ rest) off vs = splice xs off vs ++ rest := by
  unfold splice
  rw [List.take_append_of_le_length (by omega), List.drop_append_of_le_length (by omega)]
  simp
/-- A slice of equal pieces: what its i-th is. -/
theorem Sl.row {α : Type} {f : α → List Value} {k : Nat} {L : List α} {w : World} {p : Option Addr} {l : Nat} (h : Sl w p l k (rows f L)) (hE : Even f k L) (hk : 0 < k) : L.length = l := by
  have := h.1
  rw [rows_len hE] at this
  exact Nat.eq_of_mul_eq_mul_right hk this

theorem idx_rows {α : Type} {f : α → List Value} {k : Nat} {L : List α} {w : World} {p : Option Addr} {l : Nat} {i : Int} {K : Addr → Prop} (h : Sl w p l k (rows f L)) (hE : Even f k L) (hk : 0 < k) (h0 : 0 ≤ i) (h1 : i < l)
    (go : ∀ (a : Addr) (x : α), p = some a → L[i.toNat]? = some x → cellsAt w (a.add (i.toNat * k)) (f x) → K a) : idxA p l i K := by
  have hl := h.row hE hk
  have hlt : i.toNat < L.length := by omega
  refine idx_sl h h0 h1 fun a ha hc => ?_
  have hx : L[i.toNat]? = some L[i.toNat] := List.getElem?_eq_getElem hlt
  refine go a _ ha hx ?_
  have := cellsAt_take k hc
  rwa [rows_get hE hx] at this

/-! ### int -/
def InI (n : Int) : Prop := -9223372036854775808 ≤ n ∧ n ≤ 9223372036854775807
theorem w64_of {n : Int} (h1 : -9223372036854775808 ≤ n) (h2 : n ≤ 9223372036854775807) : w64 n = n := by
  unfold w64; rw [IntKind.wrap_i64]; omega
end Go.Vc

