/-
  slices.Sort of strings by the kit's contract, in the words of these proofs.
-/
import Derived.Test.YtdjehimkijlhgaaDoorVScope2
import Derived.Test.YtdjehimkijlhgaaDoorVScope3
import Derived.Test.YtdjehimkijlhgaaDoorSortW
import Derived.Shelf.Sort.Plain
import Derived.Sort.OwnSorted
set_option linter.unusedVariables false
set_option linter.unusedSimpArgs false
namespace Go.Proofs
open Go.Shelf
def Tryd.lays190_ren : Go.Shelf.Ren := ⟨fun | 190 => 70 | 125 => 85 | 258 => 84 | 128 => 107 | 129 => 108 | 302 => 98 | 303 => 99 | 304 => 100 | 305 => 101 | 306 => 102 | 307 => 103 | 308 => 104 | 309 => 105 | 310 => 106 | 333 => 119 | 329 => 120 | 330 => 121 | 334 => 122 | 335 => 123 | 336 => 81 | 344 => 135 | n => n, fun | 31 => 27 | 9 => 9 | 3 => 3 | 46 => 144 | 0 => 0 | 51 => 122 | 53 => 160 | 4 => 4 | 183 => 151 | 182 => 150 | 131 => 156 | 5 => 5 | 218 => 180 | 222 => 184 | 228 => 202 | 229 => 87 | n => n, fun | n => n⟩
theorem Tryd.lays190 : Go.Proofs.Lays.n190 Tryd.prog Tryd.lays190_ren where
  mixed := by kernel_rfl
  f125 := by kernel_rfl
  f128 := by kernel_rfl
  f129 := by kernel_rfl
  f190 := by kernel_rfl
  f258 := by kernel_rfl
  f302 := by kernel_rfl
  f303 := by kernel_rfl
  f304 := by kernel_rfl
  f305 := by kernel_rfl
  f306 := by kernel_rfl
  f307 := by kernel_rfl
  f308 := by kernel_rfl
  f309 := by kernel_rfl
  f310 := by kernel_rfl
  f329 := by kernel_rfl
  f330 := by kernel_rfl
  f333 := by kernel_rfl
  f334 := by kernel_rfl
  f335 := by kernel_rfl
  f336 := by kernel_rfl
  f344 := by kernel_rfl
  t0 := by kernel_rfl
  a0 := fun w => by kernel_rfl
  z0 := fun w => by kernel_rfl
  v0 := fun w => by kernel_rfl
  t3 := by kernel_rfl
  a3 := fun w => by kernel_rfl
  z3 := fun w => by kernel_rfl
  v3 := fun w => by kernel_rfl
  t4 := by kernel_rfl
  a4 := fun w => by kernel_rfl
  z4 := fun w => by kernel_rfl
  v4 := fun w => by kernel_rfl
  t5 := by kernel_rfl
  a5 := fun w => by kernel_rfl
  z5 := fun w => by kernel_rfl
  v5 := fun w => by kernel_rfl
  t9 := by kernel_rfl
  a9 := fun w => by kernel_rfl
  z9 := fun w => by kernel_rfl
  v9 := fun w => by kernel_rfl
  t31 := by kernel_rfl
  a31 := fun w => by kernel_rfl
  z31 := fun w => by kernel_rfl
  v31 := fun w => by kernel_rfl
  t46 := by kernel_rfl
  a46 := fun w => by kernel_rfl
  z46 := fun w => by kernel_rfl
  v46 := fun w => by kernel_rfl
  t51 := by kernel_rfl
  a51 := fun w => by kernel_rfl
  z51 := fun w => by kernel_rfl
  v51 := fun w => by kernel_rfl
  t53 := by kernel_rfl
  a53 := fun w => by kernel_rfl
  z53 := fun w => by kernel_rfl
  v53 := fun w => by kernel_rfl
  t131 := by kernel_rfl
  a131 := fun w => by kernel_rfl
  z131 := fun w => by kernel_rfl
  v131 := fun w => by kernel_rfl
  t182 := by kernel_rfl
  a182 := fun w => by kernel_rfl
  z182 := fun w => by kernel_rfl
  v182 := fun w => by kernel_rfl
  t183 := by kernel_rfl
  a183 := fun w => by kernel_rfl
  z183 := fun w => by kernel_rfl
  v183 := fun w => by kernel_rfl
  t218 := by kernel_rfl
  a218 := fun w => by kernel_rfl
  z218 := fun w => by kernel_rfl
  v218 := fun w => by kernel_rfl
  t222 := by kernel_rfl
  a222 := fun w => by kernel_rfl
  z222 := fun w => by kernel_rfl
  v222 := fun w => by kernel_rfl
  t228 := by kernel_rfl
  a228 := fun w => by kernel_rfl
  z228 := fun w => by kernel_rfl
  v228 := fun w => by kernel_rfl
  t229 := by kernel_rfl
  a229 := fun w => by kernel_rfl
  z229 := fun w => by kernel_rfl
  v229 := fun w => by kernel_rfl
end Go.Proofs
namespace Go.Vc
open Go Go.Lib
def SAsc (X : List ByteArray) : Prop := X.Pairwise fun a b => sLt a b = true
theorem sasc_uniq : ∀ {X Y : List ByteArray}, SAsc X → SAsc Y → (∀ s, s ∈ X ↔ s ∈ Y) → X = Y
  | [], [], _, _, _ => rfl
  | [], y :: Y, _, _, h => by have := (h y).2 (by simp); simp at this
  | x :: X, [], _, _, h => by have := (h x).1 (by simp); simp at this
  | x :: X, y :: Y, hx, hy, h => by
    have h1 := List.pairwise_cons.1 hx
    have h2 := List.pairwise_cons.1 hy
    have e : x = y := by
      rcases List.mem_cons.1 ((h x).1 (by simp)) with e | m1
      · exact e
      · rcases List.mem_cons.1 ((h y).2 (by simp)) with e | m2
        · exact e.symm
        · have a1 := h2.1 x m1
          have a2 := h1.1 y m2
          rw [sLt_asym a1] at a2; cases a2
    subst e
    rw [sasc_uniq h1.2 h2.2 fun s => ?_]
    constructor
    · intro hs
      rcases List.mem_cons.1 ((h s).1 (by simp [hs])) with e | m
      · subst e; have := h1.1 s hs; rw [sLt_irr] at this; cases this
      · exact m
    · intro hs
      rcases List.mem_cons.1 ((h s).2 (by simp [hs])) with e | m
      · subst e; have := h2.1 s hs; rw [sLt_irr] at this; cases this
      · exact m
theorem sasc_ins {X : List ByteArray} {x : ByteArray} {k : Nat} (hs : SAsc X) (hk : k ≤ X.length) (hlo : ∀ j, j < k → sLt (pf X j) x = true) (hhi : k < X.length → sLt x (pf X k) = true) : SAsc (X.take k ++ [x] ++ X.drop k) := by
  have e := List.take_append_drop k X
  have h2 : SAsc (X.take k ++ X.drop k) := by rw [e]; exact hs
  obtain ⟨p1, p2, p3⟩ := List.pairwise_append.1 h2
  have A : ∀ a ∈ X.take k, sLt a x = true := by
    intro a ha
    obtain ⟨j, hj⟩ := List.mem_iff_getElem?.1 ha
    rw [List.getElem?_take] at hj
    split at hj
    · next hlt =>
      have hl := (List.getElem?_eq_some_iff.1 hj).1
      rw [pf_get hl] at hj
      rw [← Option.some.inj hj]; exact hlo j hlt
    · cases hj
  have B : ∀ b ∈ X.drop k, sLt x b = true := by
    intro b hb
    obtain ⟨j, hj⟩ := List.mem_iff_getElem?.1 hb
    rw [List.getElem?_drop] at hj
    have hl := (List.getElem?_eq_some_iff.1 hj).1
    rw [pf_get hl] at hj
    rw [← Option.some.inj hj]
    by_cases h0 : j = 0
    · subst h0; exact hhi (by omega)
    · have := List.pairwise_iff_getElem.1 hs k (k + j) (by omega) hl (by omega)
      have e1 := pf_get (X := X) (i := k) (by omega)
      have e2 := pf_get hl
      rw [List.getElem?_eq_getElem (by omega)] at e1 e2
      rw [Option.some.inj e1, Option.some.inj e2] at this
      exact sLt_trans (hhi (by omega)) this
  refine List.pairwise_append.2 ⟨List.pairwise_append.2 ⟨p1, List.pairwise_singleton _ _, fun a ha b hb => ?_⟩, p2, fun a ha b hb => ?_⟩
  · rw [List.mem_singleton.1 hb]; exact A a ha
  · rcases List.mem_append.1 ha with ha | ha
    · exact p3 a ha b hb
    · rw [List.mem_singleton.1 ha]; exact B b hb
theorem enc_strs (xs : List ByteArray) : (xs.map bl).map Go.Proofs.encStr = strs xs := by
  unfold strs
  rw [List.map_map]
  refine List.map_congr_left fun x _ => ?_
  exact congrArg Value.string (mkB_bl x)
theorem bl_inj {x y : ByteArray} (h : bl x = bl y) : x = y := bl_ext h
theorem sort_strs (xs : List ByteArray) : ∃ ys : List ByteArray, ((xs.map bl).mergeSort fun x y => decide (x ≤ y)) = ys.map bl ∧ ys.Perm xs ∧ ys.Pairwise fun a b => sLt b a = false := by
  have hp := List.mergeSort_perm (xs.map bl) fun x y => decide (x ≤ y)
  have hs := List.pairwise_mergeSort (le := fun x y : List UInt8 => decide (x ≤ y)) (fun a b c h k => by simp only [decide_eq_true_eq] at *; exact List.le_trans h k) (fun a b => by simp only [Bool.or_eq_true, decide_eq_true_eq]; exact List.le_total a b) (xs.map bl)
  refine ⟨((xs.map bl).mergeSort fun x y => decide (x ≤ y)).map mkB, ?_, ?_, ?_⟩
  · rw [List.map_map]
    conv => lhs; rw [← List.map_id ((xs.map bl).mergeSort fun x y => decide (x ≤ y))]
    refine List.map_congr_left fun x _ => ?_
    exact (bl_mkB x).symm
  · have := hp.map mkB
    rw [List.map_map] at this
    refine this.trans ?_
    have e : xs.map (mkB ∘ bl) = xs := by
      conv => rhs; rw [← List.map_id xs]
      exact List.map_congr_left fun x _ => mkB_bl x
    rw [e]
  · refine List.Pairwise.map _ (fun a b hab => ?_) hs
    unfold sLt
    rw [toList_bl, toList_bl, bl_mkB, bl_mkB, Go.Proofs.bytesLess_eq]
    simp only [decide_eq_true_eq] at hab
    exact decide_eq_false (List.not_lt.2 hab)
end Go.Vc
namespace Go.Proofs.YtdjehimkijlhgaaDoor
open Go Go.Vc Go.Lib
section
variable {w : World}
theorem SortS_ok {p : Option Addr} {l c : Nat} {xs : List ByteArray} {J : World → Prop} (h : Row w T_string 1 p l c (strs xs)) (hm : l ≤ 1000000000)
    (K : ∀ ys w', ys.Perm xs → (ys.Pairwise fun a b => sLt b a = false) → Row w' T_string 1 p l c (strs ys) → Chg (isB p) w w' → J w') :
    callJ Tryd.prog fn_slices_Sort_sl_string_string #[.slice p l c] w [] J := by
  by_cases hl : l = 0
  · subst hl
    have e : xs = [] := by have := h.len; rw [strs_length] at this; exact List.eq_nil_of_length_eq_zero (by omega)
    subst e
    have k := K [] w (.refl _) List.Pairwise.nil h (Chg.refl _ _)
    refine c_slices_Sort_sl_string_string ?_
    unfold VC_slices_Sort_sl_string_string
    refine c_math_bits_Len ?_
    unfold VC_math_bits_Len
    refine c_math_bits_Len64 ?_
    unfold VC_math_bits_Len64
    refine withJ_i fun J0 hJ0 => ?_
    refine condB_i (fun h => absurd h (by decide)) (fun _ => ?_)
    subst hJ0
    refine withJ_i fun J1 hJ1 => ?_
    refine condB_i (fun h => absurd h (by decide)) (fun _ => ?_)
    subst hJ1
    refine withJ_i fun J2 hJ2 => ?_
    refine condB_i (fun h => absurd h (by decide)) (fun _ => ?_)
    subst hJ2
    refine ⟨0, by decide +kernel, by kernel_rfl, ?_⟩
    refine c_slices_pdqsortOrdered_string ?_
    unfold VC_slices_pdqsortOrdered_string
    refine ⟨fun a b lim _ _ w' _ => a = 0 ∧ b = 0 ∧ w' = w, ⟨0, rfl, rfl, rfl⟩, ?_⟩
    rintro a b lim _ _ w' t ⟨rfl, rfl, rfl⟩
    refine condB_i (fun _ => ?_) (fun h => absurd h (by decide))
    refine c_slices_insertionSortOrdered_string ?_
    unfold VC_slices_insertionSortOrdered_string
    refine ⟨fun i w1 _ => i = 1 ∧ w1 = w', ⟨0, by decide, rfl⟩, ?_⟩
    rintro i w1 t1 ⟨rfl, rfl⟩
    refine condB_i (fun h => absurd h (by decide)) (fun _ => ?_)
    exact k
  · obtain ⟨b, rest, rfl, hb, h1, h2, h3⟩ := h.some0 hl
    obtain ⟨ys, e1, e2, e3⟩ := sort_strs xs
    have hxl : xs.length = l := by have := h.len; rw [strs_length] at this; omega
    have htake : (strs xs ++ rest).take (xs.map bl).length = (xs.map bl).map encStr := by
      rw [enc_strs, List.length_map, List.take_left' (by rw [strs_length])]
    have hH := holds_of_block (cur := ⟨strs xs ++ rest⟩) (ss := xs.map bl) hb htake
    have hc := Any.slices_Sort_string Tryd.lays190 b 0 c (xs.map bl) w hH (lt_of_heap hb) (by rw [List.length_map]; omega)
    rw [List.length_map, hxl] at hc
    refine Calls.mono hc fun e w' he => ?_
    obtain ⟨rfl, n, os, rfl⟩ := he
    rw [e1]
    refine ⟨rfl, K ys _ e2 e3 ?_ (Chg.of_grown (grownBy_sorted _) (fun z hz => by cases hz; exact ⟨_, rfl, rfl⟩))⟩
    have ho := ownsRow_sorted (n := n) (os := os) (base := 0) (cap := c) (ss := xs.map bl) (ts := ys.map bl) (by rw [List.length_map, List.length_map, e2.length_eq]) (Nat.zero_le _) hb (by rw [List.length_map]; omega) h2 (by simpa using h3)
    obtain ⟨p', c', e4, hr⟩ := Row.of_owns ho
    cases e4
    rw [enc_strs, List.length_map, hxl] at hr
    exact hr
end
end Go.Proofs.YtdjehimkijlhgaaDoor

