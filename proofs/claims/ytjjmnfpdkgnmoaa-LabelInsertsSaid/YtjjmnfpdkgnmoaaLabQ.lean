/-
  Labels, plain: reading back; parents, levels, and what stands between two kids.
-/
import Derived.Test.YtjjmnfpdkgnmoaaLabP
set_option linter.unusedVariables false
set_option linter.unusedSimpArgs false
namespace Go.Vc
open Go

/-! ## Reading -/
/-- From a place on stand these bits. -/
def Begins (f : Nat → Bool) (n : Nat) (bits : List Bool) : Prop := ∀ i b, bits[i]? = some b → f (n + i) = b
theorem bitAt_end {bs : List UInt8} {i : Nat} (h : 8 * bs.length ≤ i) : bitAt bs i = false := by
  unfold bitAt
  rw [List.getD_eq_getElem?_getD, List.getElem?_eq_none (by omega)]; simp
theorem lab_bits {L : List Int} {b : List UInt8} (h : lab L = (b, 0)) : (∀ i, bitAt b i = (flatB L).getD i false) ∧ b.length = ((flatB L).length + 7) / 8 ∧ badB L = false ∧ (flatB L).length ≤ 960 := by
  have h2 : (lab L).2 = 0 := by rw [h]
  obtain ⟨a, c, d⟩ := lab_ok h2
  rw [h] at d
  simp only at d
  subst d
  exact ⟨(pack_rp _).2, (pack_rp _).1, a, c⟩
theorem lab_uniq {L M : List Int} {b : List UInt8} (h : lab L = (b, 0)) (k : lab M = (b, 0)) : L = M := lab_inj (by rw [h]) (by rw [k]) (by rw [h, k])
theorem rest_none {b : List UInt8} {l : List Int} (h : ∀ i, bitAt b i = (flatB l).getD i false) {i : Nat} (hi : (flatB l).length ≤ i) : bitAt b i = false := by
  rw [h, List.getD_eq_getElem?_getD, List.getElem?_eq_none hi]; rfl
theorem rest_some {b : List UInt8} {l : List Int} {v : Int} {r : List Int} (h : ∀ i, bitAt b i = (flatB (l ++ v :: r)).getD i false) : Begins (bitAt b) (flatB l).length (bitsV v) ∧ ∃ i, (flatB l).length ≤ i ∧ bitAt b i = true := by
  have key : ∀ i, i < (bitsV v).length → bitAt b ((flatB l).length + i) = (bitsV v).getD i false := by
    intro i hi
    rw [h, flatB_append, flatB_cons, List.getD_eq_getElem?_getD, List.getD_eq_getElem?_getD, List.getElem?_append_right (by omega), Nat.add_sub_cancel_left, List.getElem?_append_left hi]
  refine ⟨fun i x hx => ?_, ?_⟩
  · have hi := (List.getElem?_eq_some_iff.1 hx).1
    rw [key i hi, List.getD_eq_getElem?_getD, hx]; rfl
  · obtain ⟨p, hp, _, h1⟩ := bitsV_one v
    refine ⟨_, Nat.le_add_right _ p, ?_⟩
    rw [key p hp, List.getD_eq_getElem?_getD, h1]; rfl

structure NumAt (f : Nat → Bool) (n : Nat) (u : Int) (s : Bool) (m : Nat) : Prop where
  hm : m ≠ 0
  val : u = if s then (m : Int) - 1 else -(m : Int)
  run : ∀ i, i < blen m → f (n + i) = s
  stop : f (n + blen m) = !s
  low : ∀ t, t < blen m - 1 → f (n + blen m + 1 + t) = (m.testBit (blen m - 2 - t) == s)
  len : (bitsV u).length = 2 * blen m
  pos : 1 ≤ blen m
  small : blen m ≤ 31

theorem numAt_enc {f : Nat → Bool} {n : Nat} {u : Int} {s : Bool} {m : Nat} (hm : m ≠ 0) (hs : m < 2 ^ 31) (e : bitsV u = encN s m) (hv : u = if s then (m : Int) - 1 else -(m : Int)) (h : Begins f n (bitsV u)) : NumAt f n u s m := by
  rw [e] at h
  obtain ⟨j, ej, _⟩ := blen_spec hm
  refine ⟨hm, hv, fun i hi => h i _ (encN_run s m i hi), h _ _ (encN_stop s m), fun t ht => ?_, by rw [e, encN_len s hm], by omega, blen_le hs⟩
  have := h _ _ (encN_low s m t ht)
  rwa [show n + (blen m + 1 + t) = n + blen m + 1 + t by omega] at this
theorem numAt_of {f : Nat → Bool} {n : Nat} {u : Int} (h1 : -1073741824 ≤ u) (h2 : u ≤ 1073741824) (h : Begins f n (bitsV u)) : ∃ s m, NumAt f n u s m := by
  by_cases hu : u < 0
  · exact ⟨false, (-u).toNat, numAt_enc (by omega) (by omega) (by unfold bitsV; rw [if_pos hu]) (by simp; omega) h⟩
  · exact ⟨true, (u + 1).toNat, numAt_enc (by omega) (by omega) (by unfold bitsV; rw [if_neg hu]) (by simp; omega) h⟩
theorem NumAt.run_le {f : Nat → Bool} {n : Nat} {u : Int} {s : Bool} {m k : Nat} (h : NumAt f n u s m) (hk : ∀ i, i < k → f (n + i) = f n) : k ≤ blen m := by
  rcases Nat.lt_or_ge (blen m) k with hl | hl
  · have h1 := hk _ hl
    have h2 := h.run 0 h.pos
    rw [Nat.add_zero] at h2
    rw [h.stop, h2] at h1
    cases s <;> cases h1
  · exact hl
theorem NumAt.run_eq {f : Nat → Bool} {n : Nat} {u : Int} {s : Bool} {m k : Nat} (h : NumAt f n u s m) (hk : ∀ i, i < k → f (n + i) = f n) (hs : f (n + k) ≠ f n) : k = blen m := by
  have h1 := h.run_le hk
  have h2 := h.run 0 h.pos
  rw [Nat.add_zero] at h2
  rcases Nat.lt_or_ge k (blen m) with hl | hl
  · exact absurd ((h.run k hl).trans h2.symm) hs
  · omega
theorem NumAt.sign {f : Nat → Bool} {n : Nat} {u : Int} {s : Bool} {m : Nat} (h : NumAt f n u s m) : f n = s := by
  have h2 := h.run 0 h.pos
  rwa [Nat.add_zero] at h2
theorem blen_top {m : Nat} (h : m ≠ 0) : m / 2 ^ (blen m - 1) = 1 := by
  obtain ⟨j, e, h1, h2⟩ := blen_spec h
  rw [e, Nat.add_sub_cancel]
  have hp := Nat.two_pow_pos j
  have a := (Nat.le_div_iff_mul_le hp).2 (show 1 * 2 ^ j ≤ m by omega)
  have b := (Nat.div_lt_iff_lt_mul hp).2 (show m < 2 * 2 ^ j by rw [Nat.pow_succ] at h2; omega)
  omega
theorem shr_step (m j : Nat) : m / 2 ^ j = 2 * (m / 2 ^ (j + 1)) + (if m.testBit j then 1 else 0) := by
  rw [Nat.testBit_eq_decide_div_mod_eq, Nat.pow_succ, ← Nat.div_div_eq_div_mul]
  by_cases h : m / 2 ^ j % 2 = 1
  · rw [decide_eq_true h]; simp; omega
  · rw [decide_eq_false h]; simp; omega

/-! ## Parents, levels -/
def oddZ (v : Int) : Bool := decide (v % 2 = 1)
theorem oddZ_iff {v : Int} : oddZ v = true ↔ v % 2 = 1 := by unfold oddZ; exact decide_eq_true_iff
/-- Without the even numbers at the end. -/
def cutE : List Int → List Int
  | [] => []
  | v :: l => match cutE l with
    | [] => if oddZ v then [v] else []
    | r => v :: r
def upL (l : List Int) : List Int := cutE l.dropLast
def levL (l : List Int) : Nat := l.countP oddZ
def aboveB (a b : List Int) : Bool := decide (a.length < b.length ∧ b.take a.length = a)

theorem cutE_even {l : List Int} (h : ∀ v ∈ l, oddZ v = false) : cutE l = [] := by
  induction l with
  | nil => rfl
  | cons v l ih =>
    rw [cutE, ih (fun x hx => h x (by simp [hx]))]
    simp [h v (by simp)]
theorem cutE_odd {v : Int} (hv : oddZ v = true) : ∀ (a : List Int) {e : List Int}, (∀ x ∈ e, oddZ x = false) → cutE (a ++ v :: e) = a ++ [v]
  | [], e, he => by
    rw [List.nil_append, cutE, cutE_even he]; simp [hv]
  | u :: a, e, he => by
    rw [List.cons_append, cutE, cutE_odd hv a he]
    cases a <;> rfl
/-- A list: up to its last odd number, and even ones behind; or all are even. -/
theorem cutE_cases : ∀ (l : List Int), ((∀ v ∈ l, oddZ v = false) ∧ cutE l = []) ∨ ∃ a v e, l = a ++ v :: e ∧ oddZ v = true ∧ (∀ x ∈ e, oddZ x = false) ∧ cutE l = a ++ [v]
  | [] => .inl ⟨by simp, rfl⟩
  | u :: l => by
    rcases cutE_cases l with ⟨h1, h2⟩ | ⟨a, v, e, h1, h2, h3, h4⟩
    · cases hu : oddZ u with
      | true => exact .inr ⟨[], u, l, rfl, hu, h1, by rw [cutE, h2]; simp [hu]⟩
      | false => exact .inl ⟨fun v hv => (List.mem_cons.1 hv).elim (fun e => e ▸ hu) (h1 v), by rw [cutE, h2]; simp [hu]⟩
    · refine .inr ⟨u :: a, v, e, by rw [h1]; rfl, h2, h3, ?_⟩
      rw [cutE, h4]
      cases a <;> rfl
theorem cutE_snoc_even {l : List Int} {v : Int} (h : oddZ v = false) : cutE (l ++ [v]) = cutE l := by
  rcases cutE_cases l with ⟨h1, h2⟩ | ⟨a, u, e, h1, h2, h3, h4⟩
  · rw [h2]; exact cutE_even (fun x hx => (List.mem_append.1 hx).elim (h1 x) fun hx => by rw [List.mem_singleton.1 hx]; exact h)
  · rw [h4, h1, List.append_assoc]
    exact cutE_odd h2 a (fun x hx => (List.mem_append.1 hx).elim (h3 x) fun hx => by rw [List.mem_singleton.1 hx]; exact h)
theorem cutE_snoc_odd {l : List Int} {v : Int} (h : oddZ v = true) : cutE (l ++ [v]) = l ++ [v] := cutE_odd h l (by simp)

/-- What stands behind the parent in a kid's label: even numbers, and an odd one. -/
inductive KRest : List Int → Prop
  | one {v : Int} : oddZ v = true → KRest [v]
  | more {v : Int} {r : List Int} : oddZ v = false → KRest r → KRest (v :: r)
theorem KRest.ne {r : List Int} (h : KRest r) : r ≠ [] := by cases h <;> simp
theorem KRest.last {r : List Int} (h : KRest r) : ∃ v, r.getLast? = some v ∧ oddZ v = true := by
  induction h with
  | one h => exact ⟨_, rfl, h⟩
  | more hv hr ih =>
    obtain ⟨u, h1, h2⟩ := ih
    refine ⟨u, ?_, h2⟩
    rw [List.getLast?_cons, h1]; rfl
theorem KRest.lev {r : List Int} (h : KRest r) : levL r = 1 := by
  induction h with
  | one h => simp [levL, h]
  | more hv hr ih => simp only [levL] at ih ⊢; rw [List.countP_cons_of_neg (by simp [hv]), ih]
theorem KRest.drop_last {r : List Int} (h : KRest r) : ∀ v ∈ r.dropLast, oddZ v = false := by
  induction h with
  | one h => simp
  | more hv hr ih =>
    intro u hu
    rw [List.dropLast_cons_of_ne_nil hr.ne] at hu
    rcases List.mem_cons.1 hu with rfl | hu
    · exact hv
    · exact ih u hu
/-- A label that may be: it ends with an odd number, or is empty. -/
def EndO (l : List Int) : Prop := ∀ v, l.getLast? = some v → oddZ v = true
theorem badB_end {l : List Int} (h : badB l = false) : EndO l := by
  intro v hv
  unfold badB at h
  rw [hv] at h
  simp only [Bool.or_eq_false_iff, decide_eq_false_iff_not] at h
  rw [oddZ_iff]; omega
theorem cutE_endO {u : List Int} (h : EndO u) : cutE u = u := by
  rcases List.eq_nil_or_concat u with rfl | ⟨a, v, rfl⟩
  · rfl
  · rw [List.concat_eq_append] at *; exact cutE_snoc_odd (h v (by simp))
theorem up_rest {u r : List Int} (hu : EndO u) (h : KRest r) : upL (u ++ r) = u := by
  unfold upL
  rw [List.dropLast_append_of_ne_nil h.ne]
  rcases List.eq_nil_or_concat u with rfl | ⟨a, v, rfl⟩
  · rw [List.nil_append]; exact cutE_even h.drop_last
  · rw [List.concat_eq_append] at *
    rw [List.append_assoc]
    exact cutE_odd (hu v (by simp)) a h.drop_last
theorem rest_of_even {e : List Int} {v : Int} (he : ∀ x ∈ e, oddZ x = false) (hv : oddZ v = true) : KRest (e ++ [v]) := by
  induction e with
  | nil => exact .one hv
  | cons x e ih => exact .more (he x (by simp)) (ih fun y hy => he y (by simp [hy]))
/-- A kid's label is its parent and a rest. -/
theorem rest_of_kid {u l : List Int} (hl : l ≠ []) (he : EndO l) (hu : upL l = u) : ∃ r, l = u ++ r ∧ KRest r := by
  rcases List.eq_nil_or_concat l with rfl | ⟨a, v, rfl⟩
  · exact absurd rfl hl
  · have hv := he v (by simp)
    rw [List.concat_eq_append] at *
    unfold upL at hu
    rw [List.dropLast_concat] at hu
    rcases cutE_cases a with ⟨h1, h2⟩ | ⟨b, o, e, h1, h2, h3, h4⟩
    · rw [h2] at hu; subst hu
      exact ⟨a ++ [v], by simp, rest_of_even h1 hv⟩
    · rw [h4] at hu; subst hu
      exact ⟨e ++ [v], by rw [h1]; simp, rest_of_even h3 hv⟩

/-! ## How lists stand -/
theorem cmpL_append (u : List Int) (a b : List Int) : cmpL (u ++ a) (u ++ b) = cmpL a b := by
  induction u with
  | nil => rfl
  | cons v u ih => rw [List.cons_append, List.cons_append, cmpL, if_neg (by omega), if_neg (by omega), ih]
theorem cmpL_lt {a b : Int} {x y : List Int} (h : a < b) : cmpL (a :: x) (b :: y) = -1 := by rw [cmpL, if_pos h]
theorem cmpL_self (u a : List Int) (h : a ≠ []) : cmpL u (u ++ a) = -1 := by
  have := cmpL_append u [] a
  rw [List.append_nil] at this
  rw [this]
  cases a with
  | nil => exact absurd rfl h
  | cons v a => rfl
theorem cmpL_trans : ∀ {a b c : List Int}, cmpL a b = -1 → cmpL b c = -1 → cmpL a c = -1
  | [], [], _, h, _ => by simp [cmpL] at h
  | [], _ :: _, [], _, h => by simp [cmpL] at h
  | [], _ :: _, _ :: _, _, _ => rfl
  | _ :: _, [], _, h, _ => by simp [cmpL] at h
  | _ :: _, _ :: _, [], _, h => by simp [cmpL] at h
  | a :: x, b :: y, c :: z, h, k => by
    unfold cmpL at h k ⊢
    split at h
    · split at k
      · rw [if_pos (by omega)]
      · split at k
        · simp at k
        · rw [if_pos (by omega)]
    · split at h
      · simp at h
      · split at k
        · rw [if_pos (by omega)]
        · split at k
          · simp at k
          · rw [if_neg (by omega), if_neg (by omega)]
            exact cmpL_trans h k
theorem above_of {a b : List Int} (h : aboveB a b = true) : ∃ x, x ≠ [] ∧ b = a ++ x := by
  have h := of_decide_eq_true h
  refine ⟨b.drop a.length, ?_, ?_⟩
  · intro e
    have := congrArg List.length e
    rw [List.length_drop, List.length_nil] at this
    omega
  · conv => lhs; rw [← List.take_append_drop a.length b, h.2]
theorem above_append (a : List Int) {x : List Int} (h : x ≠ []) : aboveB a (a ++ x) = true := by
  refine decide_eq_true ⟨?_, List.take_left⟩
  rw [List.length_append]
  have := List.length_pos_iff.2 h
  omega
theorem above_lt {a b : List Int} (h : aboveB a b = true) : cmpL a b = -1 := by
  obtain ⟨x, hx, rfl⟩ := above_of h
  exact cmpL_self a x hx
/-- What stands behind a label and not below it stands behind all that is below it. -/
theorem above_sub : ∀ {a c : List Int} (x : List Int), cmpL a c = -1 → aboveB a c = false → cmpL (a ++ x) c = -1
  | [], [], _, h, _ => by simp [cmpL] at h
  | [], v :: c, _, _, h => by
    have := above_append [] (x := v :: c) (by simp)
    rw [List.nil_append, h] at this; cases this
  | _ :: _, [], _, h, _ => by simp [cmpL] at h
  | a :: y, c :: z, x, h, k => by
    rw [List.cons_append]
    unfold cmpL at h ⊢
    split at h
    · rw [if_pos (by assumption)]
    · split at h
      · simp at h
      · rw [if_neg (by omega), if_neg (by omega)]
        have e : a = c := by omega
        subst e
        refine above_sub x h ?_
        cases hb : aboveB y z with
        | false => rfl
        | true =>
          have := of_decide_eq_true hb
          have : aboveB (a :: y) (a :: z) = true := decide_eq_true ⟨by simpa using this.1, by simpa using this.2⟩
          rw [k] at this; cases this

/-! ## Between -/
def behindZ (c : Int) : Int := if oddZ c then c + 2 else c + 1
def aheadZ (c : Int) : Int := if oddZ c then c - 2 else c - 1
theorem behind_odd (c : Int) : oddZ (behindZ c) = true ∧ c < behindZ c ∧ behindZ c ≤ c + 2 := by
  unfold behindZ
  cases h : oddZ c with
  | true => have := oddZ_iff.1 h; refine ⟨oddZ_iff.2 ?_, ?_, ?_⟩ <;> simp <;> omega
  | false =>
    have : ¬ c % 2 = 1 := fun e => by rw [oddZ_iff.2 e] at h; cases h
    refine ⟨oddZ_iff.2 ?_, ?_, ?_⟩ <;> simp <;> omega
theorem ahead_odd (c : Int) : oddZ (aheadZ c) = true ∧ aheadZ c < c ∧ c - 2 ≤ aheadZ c := by
  unfold aheadZ
  cases h : oddZ c with
  | true => have := oddZ_iff.1 h; refine ⟨oddZ_iff.2 ?_, ?_, ?_⟩ <;> simp <;> omega
  | false =>
    have : ¬ c % 2 = 1 := fun e => by rw [oddZ_iff.2 e] at h; cases h
    refine ⟨oddZ_iff.2 ?_, ?_, ?_⟩ <;> simp <;> omega
/-- Between two rests whose first numbers differ. -/
def amidC (x y x1 y1 : Int) : List Int := if behindZ x < y then [behindZ x] else if y = x + 2 then [x + 1, 1] else if oddZ x = true then [y, aheadZ y1] else [x, behindZ x1]
def amidL (l r : List Int) : List Int := amidC (l.headD 0) (r.headD 0) (l.getD 1 0) (r.getD 1 0)
/-- Between two rests. -/
def midL : List Int → List Int → List Int
  | a :: x, b :: y => if a = b then a :: midL x y else amidL (a :: x) (b :: y)
  | _, _ => []
theorem KRest.odd_one {v : Int} {r : List Int} (h : KRest (v :: r)) (hv : oddZ v = true) : r = [] := by
  cases h with
  | one _ => rfl
  | more h _ => rw [hv] at h; cases h
theorem KRest.even_more {v : Int} {r : List Int} (h : KRest (v :: r)) (hv : oddZ v = false) : KRest r := by
  cases h with
  | one h => rw [hv] at h; cases h
  | more _ h => exact h
theorem oddF {v : Int} (h : oddZ v = false) : v % 2 = 0 := by
  have : ¬ v % 2 = 1 := fun e => by rw [oddZ_iff.2 e] at h; cases h
  omega
theorem mid_ok : ∀ {x y : List Int}, KRest x → KRest y → cmpL x y = -1 → KRest (midL x y) ∧ cmpL x (midL x y) = -1 ∧ cmpL (midL x y) y = -1
  | [], _, h, _, _ => absurd rfl h.ne
  | _ :: _, [], _, h, _ => absurd rfl h.ne
  | a :: x, b :: y, hx, hy, h => by
    unfold midL
    by_cases e : a = b
    · subst e
      rw [if_pos rfl]
      have h' : cmpL x y = -1 := by unfold cmpL at h; rwa [if_neg (by omega), if_neg (by omega)] at h
      cases ha : oddZ a with
      | true =>
        rw [hx.odd_one ha, hy.odd_one ha] at h'
        simp [cmpL] at h'
      | false =>
        obtain ⟨h1, h2, h3⟩ := mid_ok (hx.even_more ha) (hy.even_more ha) h'
        refine ⟨.more ha h1, ?_, ?_⟩
        · unfold cmpL; rwa [if_neg (by omega), if_neg (by omega)]
        · unfold cmpL; rwa [if_neg (by omega), if_neg (by omega)]
    · rw [if_neg e]
      have hlt : a < b := by
        unfold cmpL at h
        split at h
        · assumption
        · split at h
          · simp at h
          · exfalso; omega
      rw [show amidL (a :: x) (b :: y) = amidC a b ((a :: x).getD 1 0) ((b :: y).getD 1 0) from rfl]
      unfold amidC
      have hb := behind_odd a
      by_cases c1 : behindZ a < b
      · rw [if_pos c1]
        exact ⟨.one hb.1, cmpL_lt hb.2.1, cmpL_lt c1⟩
      rw [if_neg c1]
      by_cases c2 : b = a + 2
      · rw [if_pos c2]
        have ho : oddZ (a + 1) = false := by
          cases ho : oddZ (a + 1) with
          | false => rfl
          | true =>
            have h1 := oddZ_iff.1 ho
            have : oddZ a = false := by cases h2 : oddZ a with | false => rfl | true => have := oddZ_iff.1 h2; omega
            unfold behindZ at c1
            rw [this] at c1
            simp at c1; omega
        exact ⟨.more ho (.one (by decide)), cmpL_lt (by omega), cmpL_lt (by omega)⟩
      rw [if_neg c2]
      cases ha : oddZ a with
      | true =>
        have h1 := oddZ_iff.1 ha
        unfold behindZ at c1
        rw [ha] at c1
        simp only [if_true] at c1
        have hb2 : b = a + 1 := by omega
        have hbo : oddZ b = false := by cases h2 : oddZ b with | false => rfl | true => have := oddZ_iff.1 h2; omega
        have hr := hy.even_more hbo
        simp only [if_true]
        cases y with
        | nil => exact absurd rfl hr.ne
        | cons c y =>
          have hc := ahead_odd c
          refine ⟨.more hbo (.one hc.1), cmpL_lt hlt, ?_⟩
          show cmpL [b, aheadZ c] (b :: c :: y) = -1
          unfold cmpL
          rw [if_neg (by omega), if_neg (by omega)]
          exact cmpL_lt hc.2.1
      | false =>
        have h1 := oddF ha
        have hr := hx.even_more ha
        simp only [Bool.false_eq_true, if_false]
        cases x with
        | nil => exact absurd rfl hr.ne
        | cons c x =>
          have hc := behind_odd c
          refine ⟨.more ha (.one hc.1), ?_, cmpL_lt hlt⟩
          show cmpL (a :: c :: x) [a, behindZ c] = -1
          unfold cmpL
          rw [if_neg (by omega), if_neg (by omega)]
          exact cmpL_lt hc.2.1

def kidB (up l : List Int) : Bool := decide (l ≠ [] ∧ (lab l).2 = 0 ∧ upL l = up)
/-- The new label, before it is asked whether it is too long. -/
def newL (up l r : List Int) : List Int :=
  if l = [] then (if r = [] then up ++ [1] else up ++ [aheadZ (r.getD up.length 0)])
  else if r = [] then up ++ [behindZ (l.getD up.length 0)]
  else up ++ midL (l.drop up.length) (r.drop up.length)
def argB (up l r : List Int) : Bool := decide ((lab up).2 ≠ 0 ∨ (l ≠ [] ∧ kidB up l = false) ∨ (r ≠ [] ∧ kidB up r = false) ∨ (l ≠ [] ∧ r ≠ [] ∧ cmpL l r ≠ -1))
def betL (up l r : List Int) : List Int × Int :=
  if argB up l r = true then ([], 1) else if (lab (newL up l r)).2 ≠ 0 then ([], 5) else (newL up l r, 0)
theorem lab_endO {l : List Int} (h : (lab l).2 = 0) : EndO l := badB_end (lab_ok h).1
theorem kid_rest {up l : List Int} (h : kidB up l = true) : ∃ r, l = up ++ r ∧ KRest r := by
  have h := of_decide_eq_true h
  exact rest_of_kid h.1 (lab_endO h.2.1) h.2.2
theorem arg_split {up l r : List Int} (h : argB up l r = false) : (lab up).2 = 0 ∧ (l ≠ [] → kidB up l = true) ∧ (r ≠ [] → kidB up r = true) ∧ (l ≠ [] → r ≠ [] → cmpL l r = -1) := by
  have h := of_decide_eq_false h
  simp only [not_or, not_and, Bool.not_eq_false, Decidable.not_not] at h
  exact ⟨h.1, h.2.1, h.2.2.1, h.2.2.2⟩
theorem new_rest {up l r : List Int} (h : argB up l r = false) : ∃ n, newL up l r = up ++ n ∧ KRest n ∧ (l ≠ [] → cmpL l (up ++ n) = -1) ∧ (r ≠ [] → cmpL (up ++ n) r = -1) := by
  obtain ⟨h1, h2, h3, h4⟩ := arg_split h
  unfold newL
  by_cases hl : l = []
  · rw [if_pos hl]
    by_cases hr : r = []
    · rw [if_pos hr]
      exact ⟨[1], rfl, .one (by decide), fun e => absurd hl e, fun e => absurd hr e⟩
    · rw [if_neg hr]
      obtain ⟨y, rfl, hy⟩ := kid_rest (h3 hr)
      cases y with
      | nil => exact absurd rfl hy.ne
      | cons c y =>
        have e : (up ++ c :: y).getD up.length 0 = c := by rw [List.getD_eq_getElem?_getD, List.getElem?_append_right (Nat.le_refl _)]; simp
        rw [e]
        exact ⟨_, rfl, .one (ahead_odd c).1, fun e => absurd hl e, fun _ => by rw [cmpL_append]; exact cmpL_lt (ahead_odd c).2.1⟩
  · rw [if_neg hl]
    obtain ⟨x, rfl, hx⟩ := kid_rest (h2 hl)
    by_cases hr : r = []
    · rw [if_pos hr]
      cases x with
      | nil => exact absurd rfl hx.ne
      | cons c x =>
        have e : (up ++ c :: x).getD up.length 0 = c := by rw [List.getD_eq_getElem?_getD, List.getElem?_append_right (Nat.le_refl _)]; simp
        rw [e]
        exact ⟨_, rfl, .one (behind_odd c).1, fun _ => by rw [cmpL_append]; exact cmpL_lt (behind_odd c).2.1, fun e => absurd hr e⟩
    · rw [if_neg hr]
      obtain ⟨y, rfl, hy⟩ := kid_rest (h3 hr)
      have hc := h4 hl hr
      rw [cmpL_append] at hc
      rw [List.drop_left, List.drop_left]
      obtain ⟨m1, m2, m3⟩ := mid_ok hx hy hc
      exact ⟨_, rfl, m1, fun _ => by rw [cmpL_append]; exact m2, fun _ => by rw [cmpL_append]; exact m3⟩
/-- THE NEW LABEL. -/
theorem bet_ok {up l r n : List Int} (h : betL up l r = (n, 0)) : (lab n).2 = 0 ∧ upL n = up ∧ levL n = levL up + 1 ∧ aboveB up n = true ∧ kidB up n = true ∧ (l ≠ [] → cmpL l n = -1) ∧ (r ≠ [] → cmpL n r = -1) := by
  unfold betL at h
  split at h
  · simp at h
  · next ha =>
    have ha : argB up l r = false := by simpa using ha
    split at h
    · simp at h
    · next hn =>
      simp only [Prod.mk.injEq, and_true] at h
      have hn : (lab (newL up l r)).2 = 0 := by simpa using hn
      obtain ⟨m, e, hm, h1, h2⟩ := new_rest ha
      rw [h] at e hn
      subst e
      have hu := up_rest (lab_endO (arg_split ha).1) hm
      refine ⟨hn, hu, ?_, above_append _ hm.ne, decide_eq_true ⟨?_, hn, hu⟩, h1, h2⟩
      · unfold levL; rw [List.countP_append]; have := hm.lev; unfold levL at this; omega
      · intro e; exact hm.ne (List.append_eq_nil_iff.1 e).2
theorem bet_cases (up l r : List Int) : (betL up l r).2 = 0 ∨ betL up l r = ([], 1) ∨ betL up l r = ([], 5) := by
  unfold betL
  split
  · simp
  · split
    · simp
    · simp
end Go.Vc
namespace Go.Vc
/-! ## Rows of kids -/
theorem bad_snoc {u : List Int} {v : Int} (h : badB u = false) (h1 : -1073741824 ≤ v) (h2 : v ≤ 1073741824) (hv : oddZ v = true) : badB (u ++ [v]) = false := by
  have hr := bad_range h
  have ho := oddZ_iff.1 hv
  unfold badB
  rw [Bool.or_eq_false_iff]
  constructor
  · rw [List.any_eq_false]
    intro x hx
    simp only [Bool.or_eq_true, decide_eq_true_eq, not_or]
    rcases List.mem_append.1 hx with hx | hx
    · have := hr x hx; omega
    · rw [List.mem_singleton.1 hx]; omega
  · rw [List.getLast?_concat]
    exact decide_eq_false (by omega)
theorem bitsV_small {v : Int} (h1 : -1000 ≤ v) (h2 : v ≤ 1000) : (bitsV v).length ≤ 20 := by
  unfold bitsV
  split
  · rw [encN_len _ (by omega)]
    have : blen (-v).toNat ≤ 10 := blen_le (by omega)
    omega
  · rw [encN_len _ (by omega)]
    have : blen (v + 1).toNat ≤ 10 := blen_le (by omega)
    omega
theorem lab_snoc {u : List Int} {v : Int} (h : (lab u).2 = 0) (hl : (lab u).1.length ≤ 116) (h1 : -1000 ≤ v) (h2 : v ≤ 1000) (hv : oddZ v = true) : (lab (u ++ [v])).2 = 0 ∧ (lab (u ++ [v])).1.length ≤ (lab u).1.length + 4 := by
  obtain ⟨a, b, c⟩ := lab_ok h
  have hs := bitsV_small h1 h2
  have hp := (pack_rp (flatB u)).1
  rw [c, hp] at hl
  have hf : (flatB (u ++ [v])).length ≤ (flatB u).length + 20 := by
    rw [flatB_append, List.length_append, flatB_cons, flatB_nil, List.append_nil]; omega
  have e : lab (u ++ [v]) = (pack (flatB (u ++ [v])), 0) := by
    unfold lab
    rw [bad_snoc a (by omega) (by omega) hv, if_neg (by simp), if_neg (by omega)]
  have hq := (pack_rp (flatB (u ++ [v]))).1
  rw [e, c]
  exact ⟨rfl, by simp only; rw [hq, hp]; omega⟩
theorem kid_snoc {u : List Int} {v : Int} (h : (lab u).2 = 0) (hk : (lab (u ++ [v])).2 = 0) (hv : oddZ v = true) : kidB u (u ++ [v]) = true :=
  decide_eq_true ⟨by simp, hk, up_rest (lab_endO h) (.one hv)⟩
theorem bet_end {u : List Int} (h : (lab u).2 = 0) (hl : (lab u).1.length ≤ 116) (i : Nat) (hi : i < 500) : betL u (if i = 0 then [] else u ++ [2 * (i : Int) - 1]) [] = (u ++ [1 + 2 * (i : Int)], 0) := by
  have hn := lab_snoc h hl (v := 1 + 2 * (i : Int)) (by omega) (by omega) (oddZ_iff.2 (by omega))
  by_cases h0 : i = 0
  · subst h0
    have ha : argB u [] [] = false := by
      refine decide_eq_false ?_
      simp [h]
    unfold betL
    simp only [if_true]
    rw [ha, if_neg (by simp)]
    have e : newL u [] [] = u ++ [1 + 2 * ((0 : Nat) : Int)] := by simp [newL]
    rw [e, if_neg (fun h => h hn.1)]
  · rw [if_neg h0]
    have hp := lab_snoc h hl (v := 2 * (i : Int) - 1) (by omega) (by omega) (oddZ_iff.2 (by omega))
    have hk := kid_snoc h hp.1 (oddZ_iff.2 (by omega))
    have ha : argB u (u ++ [2 * (i : Int) - 1]) [] = false := by
      refine decide_eq_false ?_
      simp [h, hk]
    unfold betL
    rw [ha, if_neg (by simp)]
    have e : newL u (u ++ [2 * (i : Int) - 1]) [] = u ++ [1 + 2 * (i : Int)] := by
      unfold newL
      rw [if_neg (by simp), if_pos rfl]
      have e1 : (u ++ [2 * (i : Int) - 1]).getD u.length 0 = 2 * (i : Int) - 1 := by rw [List.getD_eq_getElem?_getD, List.getElem?_append_right (Nat.le_refl _)]; simp
      rw [e1]
      unfold behindZ
      rw [oddZ_iff.2 (by omega), if_pos rfl]
      congr 2; omega
    rw [e, if_neg (by simp [hn.1])]
theorem bet_begin {u : List Int} (h : (lab u).2 = 0) (hl : (lab u).1.length ≤ 116) (i : Nat) (hi : i < 500) : betL u [] (if i = 0 then [] else u ++ [3 - 2 * (i : Int)]) = (u ++ [1 - 2 * (i : Int)], 0) := by
  have hn := lab_snoc h hl (v := 1 - 2 * (i : Int)) (by omega) (by omega) (oddZ_iff.2 (by omega))
  by_cases h0 : i = 0
  · subst h0
    have ha : argB u [] [] = false := by
      refine decide_eq_false ?_
      simp [h]
    unfold betL
    simp only [if_true]
    rw [ha, if_neg (by simp)]
    have e : newL u [] [] = u ++ [1 - 2 * ((0 : Nat) : Int)] := by simp [newL]
    rw [e, if_neg (fun h => h hn.1)]
  · rw [if_neg h0]
    have hp := lab_snoc h hl (v := 3 - 2 * (i : Int)) (by omega) (by omega) (oddZ_iff.2 (by omega))
    have hk := kid_snoc h hp.1 (oddZ_iff.2 (by omega))
    have ha : argB u [] (u ++ [3 - 2 * (i : Int)]) = false := by
      refine decide_eq_false ?_
      simp [h, hk]
    unfold betL
    rw [ha, if_neg (by simp)]
    have e : newL u [] (u ++ [3 - 2 * (i : Int)]) = u ++ [1 - 2 * (i : Int)] := by
      unfold newL
      rw [if_pos rfl, if_neg (by simp)]
      have e1 : (u ++ [3 - 2 * (i : Int)]).getD u.length 0 = 3 - 2 * (i : Int) := by rw [List.getD_eq_getElem?_getD, List.getElem?_append_right (Nat.le_refl _)]; simp
      rw [e1]
      unfold aheadZ
      rw [oddZ_iff.2 (by omega), if_pos rfl]
      congr 2; omega
    rw [e, if_neg (by simp [hn.1])]
end Go.Vc

