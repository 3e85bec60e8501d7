/-
  Sorting, plain: what swaps within a part do; a merge by turning; blocks.
-/
set_option linter.unusedVariables false
set_option linter.unusedSimpArgs false
set_option linter.unusedSectionVars false
namespace Go.Vc
section
variable {α : Type} [Inhabited α]
/-- A list as a function of the place. -/
def pf (X : List α) : Nat → α := fun k => X.getD k default
def swl (X : List α) (i j : Nat) : List α := (X.set i (pf X j)).set j (pf X i)
def swf (g : Nat → α) (i j : Nat) : Nat → α := fun k => if k = j then g i else if k = i then g j else g k
theorem swl_len (X : List α) (i j : Nat) : (swl X i j).length = X.length := by simp [swl]
theorem pf_get {X : List α} {i : Nat} (h : i < X.length) : X[i]? = some (pf X i) := by
  unfold pf; rw [List.getD_eq_getElem?_getD, List.getElem?_eq_getElem h]; rfl
theorem swl_pf {X : List α} {i j : Nat} (hi : i < X.length) (hj : j < X.length) : pf (swl X i j) = swf (pf X) i j := by
  funext k
  unfold swf swl
  show ((X.set i (pf X j)).set j (pf X i)).getD k default = _
  rw [List.getD_eq_getElem?_getD, List.getElem?_set]
  by_cases h1 : j = k
  · subst h1; simp [hj]
  · rw [if_neg h1, if_neg (Ne.symm h1), List.getElem?_set]
    by_cases h2 : i = k
    · subst h2; simp [hi]
    · rw [if_neg h2, if_neg (Ne.symm h2)]
      unfold pf
      rw [List.getD_eq_getElem?_getD]
theorem set_perm {X : List α} {i : Nat} (h : i < X.length) (v : α) : (pf X i :: X.set i v).Perm (v :: X) := by
  induction X generalizing i with
  | nil => simp at h
  | cons x X ih =>
    cases i with
    | zero => exact List.Perm.swap _ _ _
    | succ i =>
      have h' : i < X.length := by simpa using h
      have e : pf (x :: X) (i + 1) = pf X i := by unfold pf; simp
      rw [e, List.set_cons_succ]
      exact ((List.Perm.swap _ _ _).trans (.cons _ (ih h'))).trans (List.Perm.swap _ _ _)
theorem swl_perm {X : List α} {i j : Nat} (hi : i < X.length) (hj : j < X.length) : (swl X i j).Perm X := by
  by_cases hij : i = j
  · subst hij
    have e : swl X i i = X := by
      apply List.ext_getElem?
      intro k
      unfold swl
      rw [List.set_set, List.getElem?_set]
      by_cases h : i = k
      · subst h; rw [if_pos rfl, pf_get hi, if_pos hi]
      · rw [if_neg h]
    rw [e]
  · have h1 := set_perm hi (pf X j)
    have hj2 : j < (X.set i (pf X j)).length := by simpa using hj
    have h2 := set_perm hj2 (pf X i)
    have e : pf (X.set i (pf X j)) j = pf X j := by
      unfold pf
      rw [List.getD_eq_getElem?_getD, List.getD_eq_getElem?_getD, List.getElem?_set, if_neg hij]
    rw [e] at h2
    exact (h2.trans h1).cons_inv
/-- Swaps within a part. -/
inductive Sw (a b : Nat) (X : List α) : List α → Prop
  | refl : Sw a b X X
  | step {Y : List α} {i j : Nat} (h : Sw a b X Y) (hi : a ≤ i ∧ i < b) (hj : a ≤ j ∧ j < b) (hb : b ≤ X.length) : Sw a b X (swl Y i j)
variable {a b c d : Nat} {X Y Z : List α}
theorem Sw.len (h : Sw a b X Y) : Y.length = X.length := by
  induction h with
  | refl => rfl
  | step _ _ _ _ ih => rw [swl_len, ih]
theorem Sw.trans (h : Sw a b X Y) (k : Sw a b Y Z) : Sw a b X Z := by
  induction k with
  | refl => exact h
  | step _ hi hj hb ih => exact .step ih hi hj (by rw [← h.len]; exact hb)
theorem Sw.mono (h : Sw a b X Y) (hc : c ≤ a) (hd : b ≤ d) (hl : d ≤ X.length) : Sw c d X Y := by
  induction h with
  | refl => exact .refl
  | step _ hi hj hb ih => exact .step ih ⟨by omega, by omega⟩ ⟨by omega, by omega⟩ hl
theorem Sw.perm (h : Sw a b X Y) : Y.Perm X := by
  induction h with
  | refl => exact .refl _
  | step h hi hj hb ih => exact (swl_perm (by rw [h.len]; omega) (by rw [h.len]; omega)).trans ih
theorem Sw.out (h : Sw a b X Y) {k : Nat} (hk : k < a ∨ b ≤ k) : pf Y k = pf X k := by
  induction h with
  | refl => rfl
  | step h hi hj hb ih =>
    rw [swl_pf (by rw [h.len]; omega) (by rw [h.len]; omega)]
    unfold swf
    rw [if_neg (by omega), if_neg (by omega)]; exact ih
theorem Sw.all (h : Sw a b X Y) {p : α → Prop} (hp : ∀ k, a ≤ k → k < b → p (pf X k)) : ∀ k, a ≤ k → k < b → p (pf Y k) := by
  induction h with
  | refl => exact hp
  | step h hi hj hb ih =>
    intro k h1 h2
    rw [swl_pf (by rw [h.len]; omega) (by rw [h.len]; omega)]
    unfold swf
    split
    · exact ih _ hi.1 hi.2
    · split
      · exact ih _ hj.1 hj.2
      · exact ih _ h1 h2

/-! ### An order -/
structure SWOrd (lt : α → α → Bool) : Prop where
  irr : ∀ x, lt x x = false
  trans : ∀ x y z, lt x y = true → lt y z = true → lt x z = true
  neg : ∀ x y z, lt y x = false → lt z y = false → lt z x = false
variable {lt : α → α → Bool}
def Up (lt : α → α → Bool) (g : Nat → α) (a b : Nat) : Prop := ∀ i j, a ≤ i → i < j → j < b → lt (g j) (g i) = false
theorem SWOrd.asym (o : SWOrd lt) {x y : α} (h : lt x y = true) : lt y x = false := by
  cases hb : lt y x with
  | false => rfl
  | true => have := o.trans x y x h hb; rw [o.irr] at this; cases this
theorem Up.le (o : SWOrd lt) {g : Nat → α} (h : Up lt g a b) {i j : Nat} (h1 : a ≤ i) (h2 : i ≤ j) (h3 : j < b) : lt (g j) (g i) = false := by
  by_cases e : i = j
  · subst e; exact o.irr _
  · exact h i j h1 (by omega) h3
theorem Up.sub {g : Nat → α} (h : Up lt g a b) (hc : a ≤ c) (hd : d ≤ b) : Up lt g c d := fun i j h1 h2 h3 => h i j (by omega) h2 (by omega)
theorem Up.congr {g h : Nat → α} (hu : Up lt g a b) (e : ∀ k, a ≤ k → k < b → h k = g k) : Up lt h a b := fun i j h1 h2 h3 => by
  rw [e i h1 (by omega), e j (by omega) h3]; exact hu i j h1 h2 h3
/-- Two parts, each up, all of the first not behind all of the second. -/
theorem Up.join {g : Nat → α} {m : Nat} (h1 : Up lt g a m) (h2 : Up lt g m b) (h : ∀ i j, a ≤ i → i < m → m ≤ j → j < b → lt (g j) (g i) = false) : Up lt g a b := by
  intro i j hi hij hj
  by_cases hjm : j < m
  · exact h1 i j hi hij hjm
  · by_cases him : m ≤ i
    · exact h2 i j him hij hj
    · exact h i j hi (by omega) (by omega) hj
/-- Adjacent ones suffice. -/
theorem Up.adj (o : SWOrd lt) {g : Nat → α} (h : ∀ i, a ≤ i → i + 1 < b → lt (g (i + 1)) (g i) = false) : Up lt g a b := by
  intro i j hi hij hj
  obtain ⟨k, rfl⟩ : ∃ k, j = i + 1 + k := ⟨j - i - 1, by omega⟩
  induction k with
  | zero => exact h i hi hj
  | succ k ih => exact o.neg _ _ _ (ih (by omega) (by omega)) (h (i + 1 + k) (by omega) (by omega))

/-! ### Turning -/
def swR (g : Nat → α) (a b n : Nat) : Nat → α := fun k => if a ≤ k ∧ k < a + n then g (k - a + b) else if b ≤ k ∧ k < b + n then g (k - b + a) else g k
def rotF (g : Nat → α) (a m b : Nat) : Nat → α := fun k => if a ≤ k ∧ k < a + (b - m) then g (k - a + m) else if a + (b - m) ≤ k ∧ k < b then g (k - (b - m)) else g k
theorem swR_zero (g : Nat → α) (a b : Nat) : swR g a b 0 = g := by
  funext k; unfold swR; rw [if_neg (by omega), if_neg (by omega)]
theorem swR_succ (g : Nat → α) {a b n : Nat} (h : a + n < b) : swf (swR g a b n) (a + n) (b + n) = swR g a b (n + 1) := by
  funext k
  unfold swf swR
  repeat' split
  all_goals first | rfl | (exfalso; omega) | (congr 1; omega)
theorem rot_left (g : Nat → α) {i j m : Nat} (h : j < i) (him : i ≤ m) : rotF (swR g (m - i) m j) (m - (i - j)) m (m + j) = rotF g (m - i) m (m + j) := by
  funext k
  unfold rotF swR
  repeat' split
  all_goals first | rfl | (exfalso; omega) | (congr 1; omega)
theorem rot_right (g : Nat → α) {i j m : Nat} (h : i < j) (him : i ≤ m) : rotF (swR g (m - i) (m + j - i) i) (m - i) m (m + (j - i)) = rotF g (m - i) m (m + j) := by
  funext k
  unfold rotF swR
  repeat' split
  all_goals first | rfl | (exfalso; omega) | (congr 1; omega)
theorem rot_same (g : Nat → α) {i m : Nat} (him : i ≤ m) : swR g (m - i) m i = rotF g (m - i) m (m + i) := by
  funext k
  unfold rotF swR
  repeat' split
  all_goals first | rfl | (exfalso; omega) | (congr 1; omega)
theorem rot_id {g : Nat → α} {a m b : Nat} (h1 : a ≤ m) (h2 : m ≤ b) (h : a = m ∨ m = b) : rotF g a m b = g := by
  funext k
  unfold rotF
  rcases h with rfl | rfl
  all_goals repeat' split
  all_goals first | rfl | (exfalso; omega) | (congr 1; omega)
/-- What a merge has turned: both halves, each of two parts that are up, and the first not behind the second. -/
theorem sym_turn (o : SWOrd lt) {g : Nat → α} {a m b mid s e : Nat} (h1 : Up lt g a m) (h2 : Up lt g m b) (ham : a < m) (hmb : m < b) (hmid : mid = (a + b) / 2) (he : e = mid + m - s)
    (hs : (mid < m ∧ mid + m - b ≤ s ∧ s ≤ mid) ∨ (m ≤ mid ∧ a ≤ s ∧ s ≤ m))
    (hlo : ∀ c, (if mid < m then mid + m - b else a) ≤ c → c < s → lt (g (mid + m - 1 - c)) (g c) = false)
    (hhi : ∀ c, s ≤ c → c < (if mid < m then mid else m) → lt (g (mid + m - 1 - c)) (g c) = true) :
    let h := rotF g s m e
    Up lt h a s ∧ Up lt h s mid ∧ Up lt h mid e ∧ Up lt h e b ∧ a ≤ s ∧ s ≤ mid ∧ mid ≤ e ∧ e ≤ b ∧ s ≤ m ∧ m ≤ e ∧ (∀ i j, a ≤ i → i < mid → mid ≤ j → j < b → lt (h j) (h i) = false) := by
  intro h
  have b1 : a ≤ s := by omega
  have b2 : s ≤ mid := by omega
  have b3 : mid ≤ e := by omega
  have b4 : e ≤ b := by omega
  have b5 : s ≤ m := by omega
  have b6 : m ≤ e := by omega
  have hem : s + (e - m) = mid := by omega
  have v1 : ∀ k, k < s → h k = g k := fun k hk => by
    show rotF g s m e k = _
    unfold rotF; rw [if_neg (by omega), if_neg (by omega)]
  have v2 : ∀ k, s ≤ k → k < mid → h k = g (k - s + m) := fun k hk1 hk2 => by
    show rotF g s m e k = _
    unfold rotF; rw [if_pos (by omega)]
  have v3 : ∀ k, mid ≤ k → k < e → h k = g (k - (e - m)) := fun k hk1 hk2 => by
    show rotF g s m e k = _
    unfold rotF; rw [if_neg (by omega), if_pos (by omega)]
  have v4 : ∀ k, e ≤ k → h k = g k := fun k hk => by
    show rotF g s m e k = _
    unfold rotF; rw [if_neg (by omega), if_neg (by omega)]
  refine ⟨fun i j x1 x2 x3 => ?_, fun i j x1 x2 x3 => ?_, fun i j x1 x2 x3 => ?_, fun i j x1 x2 x3 => ?_, b1, b2, b3, b4, b5, b6, ?_⟩
  · rw [v1 i (by omega), v1 j (by omega)]; exact h1 i j x1 x2 (by omega)
  · rw [v2 i x1 (by omega), v2 j (by omega) x3]; exact h2 _ _ (by omega) (by omega) (by omega)
  · rw [v3 i x1 (by omega), v3 j (by omega) x3]; exact h1 _ _ (by omega) (by omega) (by omega)
  · rw [v4 i x1, v4 j (by omega)]; exact h2 i j (by omega) x2 x3
  · -- x, y on the left; x', y' on the right
    have xx : ∀ x x', a ≤ x → x < s → s ≤ x' → x' < m → lt (g x') (g x) = false := fun x x' y1 y2 y3 y4 => h1 x x' y1 (by omega) y4
    have yy : ∀ y y', m ≤ y → y < e → e ≤ y' → y' < b → lt (g y') (g y) = false := fun y y' y1 y2 y3 y4 => h2 y y' y1 (by omega) y4
    have xy : ∀ x y', a ≤ x → x < s → e ≤ y' → y' < b → lt (g y') (g x) = false := fun x y' y1 y2 y3 y4 => by
      have hc := hlo (s - 1) (by split <;> omega) (by omega)
      rw [show mid + m - 1 - (s - 1) = e by omega] at hc
      exact o.neg _ _ _ (o.neg _ _ _ (h1.le o y1 (by omega) (by omega)) hc) (h2.le o b6 y3 y4)
    have yx : ∀ y x', m ≤ y → y < e → s ≤ x' → x' < m → lt (g x') (g y) = false := fun y x' y1 y2 y3 y4 => by
      have hc := hhi s (Nat.le_refl _) (by split <;> omega)
      rw [show mid + m - 1 - s = e - 1 by omega] at hc
      exact o.neg _ _ _ (o.neg _ _ _ (h2.le o y1 (by omega) (by omega)) (o.asym hc)) (h1.le o b1 y3 y4)
    intro i j x1 x2 x3 x4
    by_cases c1 : i < s
    · rw [v1 i c1]
      by_cases c2 : j < e
      · rw [v3 j x3 c2]; exact xx _ _ x1 c1 (by omega) (by omega)
      · rw [v4 j (by omega)]; exact xy _ _ x1 c1 (by omega) x4
    · rw [v2 i (by omega) x2]
      by_cases c2 : j < e
      · rw [v3 j x3 c2]; exact yx _ _ (by omega) (by omega) (by omega) (by omega)
      · rw [v4 j (by omega)]; exact yy _ _ (by omega) (by omega) (by omega) x4
end
end Go.Vc

