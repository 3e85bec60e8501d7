/-
  slices.SortStableFunc of attributes: what lies there behind it is what lay there, rising by names.
-/
import Derived.Test.YtdjehimkijlhgaaDoorVSort
import Derived.Test.YtdjehimkijlhgaaDoorSrt
import Derived.Test.YtdjehimkijlhgaaDoorScopeB
import Derived.Laws.BitsAllLaws
set_option linter.unusedVariables false
set_option linter.unusedSimpArgs false
namespace Go.Vc
open Go Go.Lib
/-! ## How strings stand -/
theorem bls_irr : ∀ x : List UInt8, Op.bytesLess x x = false
  | [] => rfl
  | a :: x => by unfold Op.bytesLess; simp [bls_irr x]
theorem bls_trans : ∀ {x y z : List UInt8}, Op.bytesLess x y = true → Op.bytesLess y z = true → Op.bytesLess x z = true
  | [], [], _, h, _ => by simp [Op.bytesLess] at h
  | [], _ :: _, [], _, h => by simp [Op.bytesLess] at h
  | [], _ :: _, _ :: _, _, _ => rfl
  | _ :: _, [], _, h, _ => by simp [Op.bytesLess] at h
  | _ :: _, _ :: _, [], _, h => by simp [Op.bytesLess] at h
  | a :: x, b :: y, c :: z, h, k => by
    unfold Op.bytesLess at h k ⊢
    simp only [Bool.or_eq_true, decide_eq_true_eq, Bool.and_eq_true, beq_iff_eq] at h k ⊢
    rcases h with h | ⟨rfl, h⟩
    · rcases k with k | ⟨rfl, k⟩
      · left; rw [UInt8.lt_iff_toNat_lt] at *; omega
      · exact .inl h
    · rcases k with k | ⟨rfl, k⟩
      · exact .inl k
      · exact .inr ⟨rfl, bls_trans h k⟩
theorem bls_tri : ∀ (x y : List UInt8), Op.bytesLess x y = true ∨ x = y ∨ Op.bytesLess y x = true
  | [], [] => .inr (.inl rfl)
  | [], _ :: _ => .inl rfl
  | _ :: _, [] => .inr (.inr rfl)
  | a :: x, b :: y => by
    unfold Op.bytesLess
    simp only [Bool.or_eq_true, decide_eq_true_eq, Bool.and_eq_true, beq_iff_eq, List.cons.injEq]
    rcases Nat.lt_trichotomy a.toNat b.toNat with h | h | h
    · exact .inl (.inl (UInt8.lt_iff_toNat_lt.2 h))
    · have e : a = b := UInt8.toNat_inj.1 h
      subst e
      rcases bls_tri x y with h | h | h
      · exact .inl (.inr ⟨rfl, h⟩)
      · exact .inr (.inl ⟨rfl, h⟩)
      · exact .inr (.inr (.inr ⟨rfl, h⟩))
    · exact .inr (.inr (.inl (UInt8.lt_iff_toNat_lt.2 h)))
def sLt (x y : ByteArray) : Bool := Op.bytesLess x.toList y.toList
theorem sLt_irr (x : ByteArray) : sLt x x = false := bls_irr _
theorem sLt_trans {x y z : ByteArray} (h : sLt x y = true) (k : sLt y z = true) : sLt x z = true := bls_trans h k
theorem sLt_tri (x y : ByteArray) : sLt x y = true ∨ x = y ∨ sLt y x = true := by
  unfold sLt
  rw [toList_bl, toList_bl]
  rcases bls_tri (bl x) (bl y) with h | h | h
  · exact .inl h
  · exact .inr (.inl (bl_ext h))
  · exact .inr (.inr h)
theorem sLt_asym {x y : ByteArray} (h : sLt x y = true) : sLt y x = false := by
  cases hb : sLt y x with
  | false => rfl
  | true => have := sLt_trans h hb; rw [sLt_irr] at this; cases this
/-- How names stand. -/
def nLt (x y : Pr) : Bool := sLt x.1 y.1 || (decide (x.1 = y.1) && sLt x.2 y.2)
theorem nLt_irr (x : Pr) : nLt x x = false := by unfold nLt; rw [sLt_irr, sLt_irr]; simp
theorem nLt_iff {x y : Pr} : nLt x y = true ↔ sLt x.1 y.1 = true ∨ (x.1 = y.1 ∧ sLt x.2 y.2 = true) := by
  unfold nLt; simp only [Bool.or_eq_true, Bool.and_eq_true, decide_eq_true_eq]
theorem nLt_trans {x y z : Pr} (h : nLt x y = true) (k : nLt y z = true) : nLt x z = true := by
  rw [nLt_iff] at *
  rcases h with h | ⟨e, h⟩
  · rcases k with k | ⟨e', k⟩
    · exact .inl (sLt_trans h k)
    · rw [← e']; exact .inl h
  · rcases k with k | ⟨e', k⟩
    · rw [e]; exact .inl k
    · exact .inr ⟨e.trans e', sLt_trans h k⟩
theorem nLt_tri (x y : Pr) : nLt x y = true ∨ x = y ∨ nLt y x = true := by
  rw [nLt_iff, nLt_iff]
  rcases sLt_tri x.1 y.1 with h | h | h
  · exact .inl (.inl h)
  · rcases sLt_tri x.2 y.2 with k | k | k
    · exact .inl (.inr ⟨h, k⟩)
    · exact .inr (.inl (Prod.ext h k))
    · exact .inr (.inr (.inr ⟨h.symm, k⟩))
  · exact .inr (.inr (.inl h))
theorem nLt_asym {x y : Pr} (h : nLt x y = true) : nLt y x = false := by
  cases hb : nLt y x with
  | false => rfl
  | true => have := nLt_trans h hb; rw [nLt_irr] at this; cases this
/-- An attribute: its space, its local name, its value. -/
abbrev At := ByteArray × ByteArray × ByteArray
def atc (x : At) : List Value := [.string x.1, .string x.2.1, .string x.2.2]
def nameOf (x : At) : Pr := (x.1, x.2.1)
theorem even_at (L : List At) : Even atc 3 L := fun _ _ => rfl
theorem one1_at (x : At) : one1 (atc x) := one1_cons rfl (one1_cons rfl (one1_cons rfl one1_nil))
theorem one1_ats (L : List At) : one1 (rows atc L) := one1_rows fun x _ => one1_at x
def aLt (x y : At) : Bool := nLt (nameOf x) (nameOf y)
theorem aLt_ord : SWOrd aLt := ⟨fun x => nLt_irr _, fun x y z h k => nLt_trans h k, fun x y z h k => by
  unfold aLt at *
  rcases nLt_tri (nameOf x) (nameOf y) with h1 | h1 | h1
  · rcases nLt_tri (nameOf y) (nameOf z) with h2 | h2 | h2
    · exact nLt_asym (nLt_trans h1 h2)
    · rw [← h2]; exact nLt_asym h1
    · rw [h2] at k; cases k
  · rw [h1]; exact k
  · rw [h1] at h; cases h⟩
theorem at_i {w : World} {p : Option Addr} {l : Nat} {xs : List At} {i : Int} {n : Nat} {K : Addr → Prop} (h : Sl w p l 3 (rows atc xs)) (hi : i = n) (h1 : n < l) (k : ∀ (a : Addr), w.cell? (a.add (i.toNat * 3)) = some (.string (pf xs n).1) → w.cell? ((a.add (i.toNat * 3)).add 1) = some (.string (pf xs n).2.1) → w.cell? ((a.add (i.toNat * 3)).add 2) = some (.string (pf xs n).2.2) → K a) : idxA p l i K := by
  subst hi
  have hl := h.row (even_at xs) (by decide)
  refine idx_rows h (even_at xs) (by decide) (by omega) (by omega) fun a x _ hx hc => ?_
  rw [Int.toNat_natCast, pf_get (by omega)] at hx
  cases hx
  exact k a (cellsAt_head hc) (cellsAt_one hc 1 rfl) (cellsAt_one hc 2 rfl)
end Go.Vc
namespace Go.Proofs.YtdjehimkijlhgaaDoor
open Go Go.Vc Go.Lib

theorem slT_attr : SlT Tryd.prog T_sl_api_Attr T_api_Attr 3 48 #[.string ByteArray.empty, .string ByteArray.empty, .string ByteArray.empty] := SlT.of (by kernel_rfl) (by kernel_rfl) rfl (by decide)
section
variable {w : World}

theorem CompareS_ok {x y : ByteArray} {J : Int → World → Prop} (k : J (if sLt x y = true then -1 else if x = y then 0 else 1) w) : callJ Tryd.prog fn_cmp_Compare_string #[.string x, .string y] w [.one (.int .i64)] J := by
  refine c_cmp_Compare_string ?_
  unfold VC_cmp_Compare_string
  refine c_cmp_isNaN_string ?_
  unfold VC_cmp_isNaN_string
  refine c_cmp_isNaN_string ?_
  unfold VC_cmp_isNaN_string
  refine condB_i (fun h => by simp at h) fun _ => condB_i (fun h => by simp at h) fun _ => ?_
  unfold sLt at k
  refine condB_i (fun h => by rw [if_pos h] at k; exact k) (fun h => ?_)
  rw [if_neg (by simp [h]), ] at k
  rw [h, Bool.false_or, beqS]
  refine condB_not (fun h2 => by rw [if_neg (of_decide_eq_false h2)] at k; exact k) (fun h2 => by rw [if_pos (of_decide_eq_true h2)] at k; exact k)

theorem CmpA_ok {a b : At} {J : Int → World → Prop} (k : ∀ r w', (r < 0 ↔ aLt a b = true) → Chg No w w' → J r w') :
    callJ Tryd.prog fn_scope_Scope_Attrs_1 #[.agg ⟨[.string a.1, .string a.2.1, .string a.2.2]⟩, .agg ⟨[.string b.1, .string b.2.1, .string b.2.2]⟩] w [.one (.int .i64)] J := by
  refine c_scope_Scope_Attrs_1 ?_
  unfold VC_scope_Scope_Attrs_1
  refine (Hp.start w No).newB fun b2 w1 H1 _ _ => ?_
  refine H1.newB fun b3 w2 H2 _ _ => ?_
  have H2d := H2.drew
  refine H2d.ldStr 1 rfl (off := 0) rfl ?_
  refine H2d.ldStr 0 rfl (off := 0) rfl ?_
  refine H2d.ldStr 1 rfl (off := 1) rfl ?_
  refine H2d.ldStr 0 rfl (off := 1) rfl ?_
  refine CompareS_ok ⟨H2d.cell 0 rfl (off := 1) rfl, H2d.cell 1 rfl (off := 1) rfl, CompareS_ok ?_⟩
  generalize hr1 : (if sLt a.1 b.1 = true then (-1 : Int) else if a.1 = b.1 then 0 else 1) = r1
  generalize hr2 : (if sLt a.2.1 b.2.1 = true then (-1 : Int) else if a.2.1 = b.2.1 then 0 else 1) = r2
  have f1 : (r1 < 0 ↔ sLt a.1 b.1 = true) ∧ (r1 = 0 ↔ a.1 = b.1) := by
    by_cases h : sLt a.1 b.1 = true
    · rw [if_pos h] at hr1; subst hr1
      refine ⟨by simp [h], fun e => absurd e (by decide), fun e => ?_⟩
      rw [e, sLt_irr] at h; cases h
    · rw [if_neg h] at hr1
      by_cases h2 : a.1 = b.1
      · rw [if_pos h2] at hr1; subst hr1; simp [h2, sLt_irr]
      · rw [if_neg h2] at hr1; subst hr1; simp [h, h2]
  have f2 : r2 < 0 ↔ sLt a.2.1 b.2.1 = true := by
    by_cases h : sLt a.2.1 b.2.1 = true
    · rw [if_pos h] at hr2; subst hr2; simp [h]
    · rw [if_neg h] at hr2
      split at hr2 <;> subst hr2 <;> simp [h]
  refine newRow (sz := 1) (n := 2) rfl (by decide) fun b19 w5 hr5 _ hc5 => ?_
  refine c_cmp_Or_int ?_
  unfold VC_cmp_Or_int
  have hcell := (cellsAt_heap (off := 0) (e := T_int) (fz := (0, 0)) (b := b19) (cs := [.int .i64 r1, .int .i64 r2]) (w := w5) (by
    obtain ⟨b', rest, e1, e2, _, _, e3⟩ := hr5.some0 (by decide)
    cases e1
    simp at e3
    subst e3
    simpa using e2))
  have fin : ∀ r, (r = r1 ∧ r1 ≠ 0 ∨ r1 = 0 ∧ r = r2) → J r w5 := by
    intro r hr
    refine k r w5 ?_ (H2d.chg.trans0 hc5)
    unfold aLt
    rw [nLt_iff]
    show r < 0 ↔ sLt a.1 b.1 = true ∨ a.1 = b.1 ∧ sLt a.2.1 b.2.1 = true
    rw [← f1.1, ← f1.2, ← f2]
    rcases hr with ⟨rfl, h⟩ | ⟨h, rfl⟩ <;> omega
  refine ⟨fun x w' t => ∃ i : Nat, x = i ∧ i ≤ 2 ∧ t = 2 - i ∧ w' = w5 ∧ (1 ≤ i → r1 = 0) ∧ (2 ≤ i → r2 = 0), ⟨_, 0, rfl, by decide, rfl, rfl, by omega, by omega⟩, ?_⟩
  rintro x w' t ⟨i, rfl, hi, rfl, rfl, h1, h2⟩
  refine condB_d (fun hlt => ?_) (fun hge => ?_)
  · refine idxA_i (by omega) hlt ?_
    rw [Addr.add_mk, Int.toNat_natCast, Nat.zero_add, Nat.mul_one]
    have hi2 : i = 0 ∨ i = 1 := by omega
    rcases hi2 with rfl | rfl
    · refine ldI_i (n := r1) (by have := hcell 0 _ rfl; rwa [add_zero'] at this) ?_
      refine condB_ne (fun hne => fin r1 (.inl ⟨rfl, hne⟩)) (fun he => ⟨_, by omega, 1, by rw [w64_of] <;> decide, by omega, rfl, rfl, fun _ => he, fun h => by omega⟩)
    · refine ldI_i (n := r2) (by have := hcell 1 _ rfl; rwa [Addr.add_mk] at this) ?_
      refine condB_ne (fun hne => fin r2 (.inr ⟨h1 (by omega), rfl⟩)) (fun he => ⟨_, by omega, 2, by rw [w64_of] <;> decide, by omega, rfl, rfl, fun _ => h1 (by omega), fun _ => he⟩)
  · exact fin 0 (.inr ⟨h1 (by omega), (h2 (by omega)).symm⟩)

/-- Two elements are compared. -/
theorem cmp_at {p : Option Addr} {l : Nat} {X : List At} {i j : Int} {ni nj : Nat} {wd : World} {K : Int → World → Prop} (h : Sl wd p l 3 (rows atc X)) (hi : i = ni) (hj : j = nj) (li : ni < l) (lj : nj < l)
    (k : ∀ r w', (r < 0 ↔ aLt (pf X ni) (pf X nj) = true) → Chg No wd w' → K r w') :
    idxA p l i fun a => ldStr wd (a.add (i.toNat * 3)) fun x0 => ldStr wd ((a.add (i.toNat * 3)).add 1) fun x1 => ldStr wd ((a.add (i.toNat * 3)).add 2) fun x2 =>
      idxA p l j fun a' => ldStr wd (a'.add (j.toNat * 3)) fun y0 => ldStr wd ((a'.add (j.toNat * 3)).add 1) fun y1 => ldStr wd ((a'.add (j.toNat * 3)).add 2) fun y2 =>
        callJ Tryd.prog fn_scope_Scope_Attrs_1 #[.agg ⟨[.string x0, .string x1, .string x2]⟩, .agg ⟨[.string y0, .string y1, .string y2]⟩] wd [.one (.int .i64)] K := by
  refine at_i h hi li fun a e0 e1 e2 => ldStr_i e0 (ldStr_i e1 (ldStr_i e2 ?_))
  refine at_i h hj lj fun a' f0 f1 f2 => ldStr_i f0 (ldStr_i f1 (ldStr_i f2 ?_))
  exact CmpA_ok k

/-- Two elements change places. -/
theorem swap_at {p : Option Addr} {l c : Nat} {X : List At} {i j : Int} {ni nj : Nat} {K : World → Prop} (hr : Row w T_api_Attr 3 p l c (rows atc X)) (hi : i = ni) (hj : j = nj) (li : ni < l) (lj : nj < l)
    (k : ∀ w', Row w' T_api_Attr 3 p l c (rows atc (swl X ni nj)) → Chg (isB p) w w' → K w') :
    idxA p l j fun a => ldStr w (a.add (j.toNat * 3)) fun x0 => ldStr w ((a.add (j.toNat * 3)).add 1) fun x1 => ldStr w ((a.add (j.toNat * 3)).add 2) fun x2 =>
      idxA p l i fun a' => ldStr w (a'.add (i.toNat * 3)) fun y0 => ldStr w ((a'.add (i.toNat * 3)).add 1) fun y1 => ldStr w ((a'.add (i.toNat * 3)).add 2) fun y2 =>
        idxA p l i fun a51 => stN w (a51.add (i.toNat * 3)) ⟨[.string x0, .string x1, .string x2]⟩ 3 fun w4 =>
          idxA p l j fun a52 => stN w4 (a52.add (j.toNat * 3)) ⟨[.string y0, .string y1, .string y2]⟩ 3 fun w5 => K w5 := by
  subst hi; subst hj
  refine at_i hr.sl rfl lj fun a e0 e1 e2 => ldStr_i e0 (ldStr_i e1 (ldStr_i e2 ?_))
  refine at_i hr.sl rfl li fun a' f0 f1 f2 => ldStr_i f0 (ldStr_i f1 (ldStr_i f2 ?_))
  refine Row.stE (even_at X) hr (by omega) (by omega) (x := pf X nj) rfl (one1_at _) (by decide) fun w4 hr4 hc4 => ?_
  rw [Int.toNat_natCast] at hr4
  refine Row.stE (even_at _) hr4 (by omega) (by omega) (x := pf X ni) rfl (one1_at _) (by decide) fun w5 hr5 hc5 => ?_
  rw [Int.toNat_natCast] at hr5
  exact k w5 hr5 (hc4.trans hc5 fun _ _ h => h)

abbrev RA (w : World) (p : Option Addr) (l c : Nat) (X : List At) : Prop := Row w T_api_Attr 3 p l c (rows atc X)
theorem RA.n {p : Option Addr} {l c : Nat} {X : List At} (h : RA w p l c X) : X.length = l := h.sl.row (even_at X) (by decide)
theorem RA.drew {p : Option Addr} {l c : Nat} {X : List At} (h : RA w p l c X) : RA w.drew p l c X := h.chg (Chg.refl No w).drew (off_no _)

theorem InsSort_ok {p : Option Addr} {l c a b : Nat} {X : List At} {J : World → Prop} (hr : RA w p l c X) (hm : l ≤ 1000000000) (hb : b ≤ l) (hab : a ≤ b)
    (K : ∀ X' w', RA w' p l c X' → Sw a b X X' → Up aLt (pf X') a b → Chg (isB p) w w' → J w') :
    callJ Tryd.prog fn_slices_insertionSortCmpFunc_api_Attr #[.slice p l c, .int .i64 (a : Int), .int .i64 (b : Int), .func (.func 58) #[] #[]] w [] J := by
  refine c_slices_insertionSortCmpFunc_api_Attr_f3_58 ?_
  unfold VC_slices_insertionSortCmpFunc_api_Attr_f3_58
  have hXl := hr.n
  refine ⟨fun x w' t => ∃ (i : Nat) (Y : List At), x = i ∧ a + 1 ≤ i ∧ (i ≤ b ∨ i = a + 1) ∧ t = b + 1 - i ∧ RA w' p l c Y ∧ Sw a b X Y ∧ Up aLt (pf Y) a i ∧ Chg (isB p) w w',
    ⟨_, a + 1, X, by rw [w64_of] <;> omega, Nat.le_refl _, .inr rfl, rfl, hr, .refl, fun i j h1 h2 h3 => by omega, Chg.refl _ _⟩, ?_⟩
  rintro x w1 t ⟨i, Y, rfl, hi1, hi2, rfl, hr1, hsw, hup, hc1⟩
  refine condB_d (fun hlt => ?_) (fun hge => K Y w1 hr1 hsw (hup.sub (Nat.le_refl _) (by omega)) hc1)
  have hib : i < b := by omega
  -- the element goes down
  refine ⟨fun x w' t => ∃ (j : Nat) (Z : List At), x = j ∧ a ≤ j ∧ j ≤ i ∧ j = t ∧ RA w' p l c Z ∧ Sw a b X Z ∧ Up aLt (pf Z) a j ∧ (∀ u v, a ≤ u → u < v → v ≤ i → u ≠ j → v ≠ j → aLt (pf Z v) (pf Z u) = false) ∧ (∀ v, j < v → v ≤ i → aLt (pf Z v) (pf Z j) = false) ∧ Chg (isB p) w w',
    ⟨_, i, Y, rfl, by omega, Nat.le_refl _, rfl, hr1, hsw, hup, fun u v h1 h2 h3 h4 h5 => hup u v h1 h2 (by omega), fun v h1 h2 => by omega, hc1⟩, ?_⟩
  rintro x w2 t ⟨j, Z, rfl, haj, hji, rfl, hr2, hsz, hupj, hoth, habv, hc2⟩
  have hZl := hr2.n
  refine withJ_i fun J34 hJ34 => ?_
  have k34 : ∀ b' w3, (b' = true → a < j ∧ aLt (pf Z j) (pf Z (j - 1)) = true) → (b' = false → a < j → aLt (pf Z j) (pf Z (j - 1)) = false) → Chg No w2 w3 → J34 b' w3 := by
    intro b' w3 h1 h0 hc3; subst hJ34
    have hr3 : RA w3 p l c Z := hr2.chg hc3 (off_no _)
    have hc03 := hc2.trans0 hc3
    refine condB_i (fun hb' => ?_) (fun hb' => ?_)
    · obtain ⟨g1, g2⟩ := h1 hb'
      have e1 : w64 ((j : Int) - 1) = ((j - 1 : Nat) : Int) := by rw [w64_of] <;> omega
      rw [e1]
      refine swap_at (i := (j : Int)) (j := ((j - 1 : Nat) : Int)) hr3.drew rfl rfl (by omega) (by omega) fun w5 hr5 hc5 => ?_
      have hc05 := hc03.drew.trans hc5 fun _ _ h => h
      have hg : pf (swl Z j (j - 1)) = swf (pf Z) j (j - 1) := swl_pf (by omega) (by omega)
      refine ⟨j - 1, by omega, j - 1, _, rfl, by omega, by omega, rfl, hr5, .step hsz ⟨by omega, by omega⟩ ⟨by omega, by omega⟩ (by omega), ?_, ?_, ?_, hc05⟩
      · rw [hg]
        intro u v q1 q2 q3
        unfold swf
        rw [if_neg (by omega), if_neg (by omega), if_neg (by omega), if_neg (by omega)]
        exact hupj u v q1 q2 (by omega)
      · rw [hg]
        intro u v q1 q2 q3 q4 q5
        unfold swf
        rw [if_neg q5, if_neg q4]
        by_cases hu : u = j
        · rw [if_pos hu, if_neg (by omega)]
          exact hoth (j - 1) v (by omega) (by omega) q3 (by omega) (by omega)
        · rw [if_neg hu]
          by_cases hv : v = j
          · rw [if_pos hv]
            exact hupj u (j - 1) q1 (by omega) (by omega)
          · rw [if_neg hv]
            exact hoth u v q1 q2 q3 hu hv
      · rw [hg]
        intro v q1 q2
        unfold swf
        rw [if_pos rfl, if_neg (by omega)]
        by_cases hv : v = j
        · rw [if_pos hv]; exact aLt_ord.asym g2
        · rw [if_neg hv]; exact habv v (by omega) q2
    · refine ⟨b + 1 - (i + 1), by omega, i + 1, Z, by rw [w64_of] <;> omega, by omega, .inl (by omega), rfl, hr3, hsz, ?_, hc03⟩
      refine Up.adj aLt_ord fun u q1 q2 => ?_
      by_cases hu : u = j
      · subst hu; exact habv (u + 1) (by omega) (by omega)
      · by_cases hv : u + 1 = j
        · have := h0 hb' (by omega)
          rw [← hv] at this
          simpa using this
        · exact hoth u (u + 1) q1 (by omega) (by omega) hu hv
  clear hJ34
  refine condB_d (fun hgt => ?_) (fun hle => k34 false _ (fun h => by cases h) (fun _ h => by omega) (Chg.refl No w2).drew)
  have e1 : w64 ((j : Int) - 1) = ((j - 1 : Nat) : Int) := by rw [w64_of] <;> omega
  rw [e1]
  refine cmp_at (i := (j : Int)) (j := ((j - 1 : Nat) : Int)) hr2.drew.sl rfl rfl (by omega) (by omega) fun r w6 hr6 hc6 => ?_
  refine k34 _ w6 (fun h => ⟨by omega, hr6.1 (of_decide_eq_true h)⟩) (fun h _ => ?_) ((Chg.refl No w2).drew.trans0 hc6)
  cases hb2 : aLt (pf Z j) (pf Z (j - 1)) with
  | false => rfl
  | true => exact absurd (hr6.2 hb2) (of_decide_eq_false h)

theorem SwapR_ok {p : Option Addr} {l c a b n : Nat} {X : List At} {J : World → Prop} (hr : RA w p l c X) (hm : l ≤ 1000000000) (hab : a + n ≤ b) (hb : b + n ≤ l)
    (K : ∀ X' w', RA w' p l c X' → Sw a (b + n) X X' → pf X' = swR (pf X) a b n → Chg (isB p) w w' → J w') :
    callJ Tryd.prog fn_slices_swapRangeCmpFunc_api_Attr #[.slice p l c, .int .i64 (a : Int), .int .i64 (b : Int), .int .i64 (n : Int), .func (.func 58) #[] #[]] w [] J := by
  refine c_slices_swapRangeCmpFunc_api_Attr_f4_58 ?_
  unfold VC_slices_swapRangeCmpFunc_api_Attr_f4_58
  have hXl := hr.n
  refine ⟨fun x w' t => ∃ (i : Nat) (Y : List At), x = i ∧ i ≤ n ∧ t = n - i ∧ RA w' p l c Y ∧ Sw a (b + n) X Y ∧ pf Y = swR (pf X) a b i ∧ Chg (isB p) w w', ⟨_, 0, X, rfl, Nat.zero_le _, rfl, hr, .refl, (swR_zero _ _ _).symm, Chg.refl _ _⟩, ?_⟩
  rintro x w1 t ⟨i, Y, rfl, hi, rfl, hr1, hsw, hpf, hc1⟩
  refine condB_d (fun hlt => ?_) (fun hge => ?_)
  · have e1 : w64 ((b : Int) + (i : Int)) = ((b + i : Nat) : Int) := by rw [w64_of] <;> omega
    have e2 : w64 ((a : Int) + (i : Int)) = ((a + i : Nat) : Int) := by rw [w64_of] <;> omega
    rw [e1, e2]
    refine swap_at (i := ((a + i : Nat) : Int)) (j := ((b + i : Nat) : Int)) hr1.drew rfl rfl (by omega) (by omega) fun w3 hr3 hc3 => ?_
    have hYl := hr1.n
    refine ⟨n - (i + 1), by omega, i + 1, _, by rw [w64_of] <;> omega, by omega, rfl, hr3, .step hsw ⟨by omega, by omega⟩ ⟨by omega, by omega⟩ (by omega), ?_, hc1.drew.trans hc3 fun _ _ h => h⟩
    rw [swl_pf (by omega) (by omega), hpf, swR_succ _ (by omega)]
  · have : i = n := by omega
    subst this
    exact K Y w1 hr1 hsw hpf hc1

theorem Rotate_ok {p : Option Addr} {l c a m b : Nat} {X : List At} {J : World → Prop} (hr : RA w p l c X) (hm : l ≤ 1000000000) (ham : a < m) (hmb : m < b) (hb : b ≤ l)
    (K : ∀ X' w', RA w' p l c X' → Sw a b X X' → pf X' = rotF (pf X) a m b → Chg (isB p) w w' → J w') :
    callJ Tryd.prog fn_slices_rotateCmpFunc_api_Attr #[.slice p l c, .int .i64 (a : Int), .int .i64 (m : Int), .int .i64 (b : Int), .func (.func 58) #[] #[]] w [] J := by
  refine c_slices_rotateCmpFunc_api_Attr_f4_58 ?_
  unfold VC_slices_rotateCmpFunc_api_Attr_f4_58
  have hXl := hr.n
  refine ⟨fun x y w' t => ∃ (i j : Nat) (Y : List At), x = i ∧ y = j ∧ 1 ≤ i ∧ 1 ≤ j ∧ i ≤ m - a ∧ j ≤ b - m ∧ t = i + j ∧ RA w' p l c Y ∧ Sw a b X Y ∧ rotF (pf Y) (m - i) m (m + j) = rotF (pf X) a m b ∧ Chg (isB p) w w',
    ⟨_, m - a, b - m, X, by rw [w64_of] <;> omega, by rw [w64_of] <;> omega, by omega, by omega, Nat.le_refl _, Nat.le_refl _, rfl, hr, .refl, by rw [show m - (m - a) = a by omega, show m + (b - m) = b by omega], Chg.refl _ _⟩, ?_⟩
  rintro x y w1 t ⟨i, j, Y, rfl, rfl, hi1, hj1, hi, hj, rfl, hr1, hsw, hrot, hc1⟩
  have hYl := hr1.n
  have e1 : w64 ((m : Int) - (i : Int)) = ((m - i : Nat) : Int) := by rw [w64_of] <;> omega
  refine condB_ne (fun hne => ?_) (fun he => ?_)
  · rw [e1]
    refine condB_d (fun hgt => ?_) (fun hle => ?_)
    · refine SwapR_ok hr1 hm (by omega) (by omega) fun X' w2 hr2 hsw2 hpf hc2 => ?_
      refine ⟨_, by omega, i - j, j, X', by rw [w64_of] <;> omega, rfl, by omega, hj1, by omega, hj, rfl, hr2, hsw.trans (hsw2.mono (by omega) (by omega) (by omega)), ?_, hc1.trans hc2 fun _ _ h => h⟩
      rw [hpf, rot_left _ (by omega) (by omega), hrot]
    · have e2 : w64 (w64 ((m : Int) + (j : Int)) - (i : Int)) = ((m + j - i : Nat) : Int) := by
        rw [w64_of (n := (m : Int) + (j : Int)) (by omega) (by omega), w64_of] <;> omega
      rw [e2]
      have hij : i < j := by omega
      refine SwapR_ok hr1 hm (by omega) (by omega) fun X' w2 hr2 hsw2 hpf hc2 => ?_
      refine ⟨i + (j - i), by omega, i, j - i, X', rfl, by rw [w64_of] <;> omega, hi1, by omega, hi, by omega, rfl, hr2, hsw.trans (hsw2.mono (by omega) (by omega) (by omega)), ?_, hc1.trans hc2 fun _ _ h => h⟩
      rw [hpf, rot_right _ hij (by omega), hrot]
  · have hij : i = j := by omega
    subst hij
    rw [e1]
    refine SwapR_ok hr1 hm (by omega) (by omega) fun X' w2 hr2 hsw2 hpf hc2 => ?_
    refine K X' w2 hr2 (hsw.trans (hsw2.mono (by omega) (by omega) (by omega))) ?_ (hc1.trans hc2 fun _ _ h => h)
    rw [hpf, rot_same _ (by omega), hrot]
end
end Go.Proofs.YtdjehimkijlhgaaDoor

