/-
  Chapter 4: scopes within scopes; both tell the same.
-/
import Derived.Test.YtdjehimkijlhgaaDoorScopeR
import Derived.Test.YtdjehimkijlhgaaDoorVLaw04
import Derived.Test.YtdjehimkijlhgaaDoorLift
set_option linter.unusedVariables false
set_option linter.unusedSimpArgs false
namespace Go.Vc
open Go Go.Lib
def lookB (B : List Pr) (p : ByteArray) : Option ByteArray := (B.find? fun b => decide (b.1 = p)).map Prod.snd
def lookR (R : List Pr) (p : ByteArray) : Option ByteArray := (R.reverse.find? fun b => decide (b.1 = p)).map Prod.snd
structure Rel (B R : List Pr) : Prop where
  look : ∀ p, p ≠ kXml → lookB B p = (lookR R p).filter fun u => !decide (u = kE)
  none : ∀ b ∈ R, b.2 = kE → b.1 = kE
  nd : (B.map Prod.fst).Nodup
  good : ∀ b ∈ B, b.1 ≠ kXml ∧ b.2 ≠ kE
  ref : ∀ b ∈ R, b.1 ≠ kXmlns
theorem Rel.nil : Rel [] [] := ⟨fun p _ => rfl, by simp, by simp, by simp, by simp⟩
theorem find_eq {B : List Pr} {p : ByteArray} {b : Pr} (h : B.find? (fun b => decide (b.1 = p)) = some b) : b.1 = p ∧ b ∈ B := ⟨by simpa using List.find?_some h, List.mem_of_find?_eq_some h⟩
theorem Rel.bound {B R : List Pr} (h : Rel B R) (p : ByteArray) : boundP B p = boundR R p := by
  unfold boundP boundR
  by_cases hx : p = kXml
  · rw [if_pos hx, if_pos hx]
  rw [if_neg hx, if_neg hx]
  have hl := h.look p hx
  unfold lookB lookR at hl
  cases hr : R.reverse.find? (fun b => decide (b.1 = p)) with
  | none =>
    rw [hr] at hl
    simp only [Option.map_none, Option.filter_none, Option.map_eq_none_iff] at hl
    rw [hl]
  | some b =>
    obtain ⟨hb1, hb2⟩ := find_eq hr
    rw [hr] at hl
    simp only [Option.map_some, Option.filter_some] at hl
    by_cases hE : b.2 = kE
    · rw [hE] at hl
      simp only [decide_true, Bool.not_true, Bool.false_eq_true, if_false, Option.map_eq_none_iff] at hl
      rw [hl]
      have := h.none b (List.mem_reverse.1 hb2) hE
      simp only [hE]
      rw [← hb1, this, decide_eq_true rfl]
    · rw [decide_eq_false hE] at hl
      simp only [Bool.not_false, if_true, Option.map_eq_some_iff] at hl
      obtain ⟨b', hb', e⟩ := hl
      rw [hb']
      simp only [e]
theorem find_filter_ne {B : List Pr} {p q : ByteArray} (h : q ≠ p) : (B.filter fun b => !decide (b.1 = p)).find? (fun b => decide (b.1 = q)) = B.find? (fun b => decide (b.1 = q)) := by
  induction B with
  | nil => rfl
  | cons b B ih =>
    rw [List.filter_cons]
    by_cases hb : b.1 = p
    · rw [if_neg (by simp [hb]), List.find?_cons, decide_eq_false (by rw [hb]; exact Ne.symm h), ih]
    · rw [if_pos (by simp [hb]), List.find?_cons, List.find?_cons, ih]
theorem lookB_put {B : List Pr} {p u q : ByteArray} : lookB (putP B p u) q = if q = p then (if p ≠ kXml ∧ u ≠ kE then some u else none) else lookB B q := by
  unfold lookB putP
  rw [List.find?_append]
  by_cases h : q = p
  · subst h
    rw [if_pos rfl]
    have e : (B.filter fun b => !decide (b.1 = q)).find? (fun b => decide (b.1 = q)) = none := by
      rw [List.find?_eq_none]
      intro x hx
      have := (List.mem_filter.1 hx).2
      simpa using this
    rw [e]
    by_cases hc : q ≠ kXml ∧ u ≠ kE
    · rw [if_pos hc, if_pos hc]; simp
    · rw [if_neg hc, if_neg hc]; simp
  · rw [if_neg h, find_filter_ne h]
    have e : (if p ≠ kXml ∧ u ≠ kE then [(p, u)] else []).find? (fun b => decide (b.1 = q)) = none := by
      split
      · rw [List.find?_cons, decide_eq_false (Ne.symm h)]; rfl
      · rfl
    rw [e]; simp
theorem lookR_put {R : List Pr} {p u q : ByteArray} : lookR (R ++ [(p, u)]) q = if q = p then some u else lookR R q := by
  unfold lookR
  rw [List.reverse_append, List.reverse_singleton, List.singleton_append, List.find?_cons]
  by_cases h : q = p
  · subst h; rw [if_pos rfl]; simp
  · rw [if_neg h, decide_eq_false (Ne.symm h)]
theorem wrong_zero {p u : ByteArray} (h : wrongZ p u = 0) : p ≠ kXmlns ∧ ¬ (p ≠ kE ∧ u = kE) := by
  unfold wrongZ at h
  split at h
  · cases h
  · next h1 =>
    split at h
    · cases h
    · next h2 => exact ⟨fun e => h1 (.inl e), h2⟩
theorem Rel.put {B R : List Pr} (h : Rel B R) {p u : ByteArray} (hw : wrongZ p u = 0) : Rel (putP B p u) (R ++ [(p, u)]) := by
  obtain ⟨w1, w2⟩ := wrong_zero hw
  refine ⟨fun q hq => ?_, fun b hb he => ?_, ?_, fun b hb => ?_, fun b hb => ?_⟩
  · rw [lookB_put, lookR_put]
    by_cases e : q = p
    · subst e
      rw [if_pos rfl, if_pos rfl]
      by_cases hu : u = kE
      · rw [if_neg (fun h => h.2 hu), hu, Option.filter_some, decide_eq_true rfl]; rfl
      · rw [if_pos ⟨hq, hu⟩, Option.filter_some, decide_eq_false hu]; rfl
    · rw [if_neg e, if_neg e]; exact h.look q hq
  · rcases List.mem_append.1 hb with hb | hb
    · exact h.none b hb he
    · rw [List.mem_singleton.1 hb] at he ⊢
      apply Classical.byContradiction
      intro hp
      exact w2 ⟨hp, he⟩
  · unfold putP
    rw [List.map_append]
    refine List.nodup_append.2 ⟨List.Pairwise.sublist (List.Sublist.map _ List.filter_sublist) h.nd, ?_, fun a ha b hb e => ?_⟩
    · split <;> simp
    · obtain ⟨x, hx, rfl⟩ := List.mem_map.1 ha
      have h1 := (List.mem_filter.1 hx).2
      split at hb
      · simp at hb
        rw [e, hb] at h1; simp at h1
      · simp at hb
  · unfold putP at hb
    rcases List.mem_append.1 hb with hb | hb
    · exact h.good b (List.mem_filter.1 hb).1
    · split at hb
      · next hc => rw [List.mem_singleton.1 hb]; exact hc
      · simp at hb
  · rcases List.mem_append.1 hb with hb | hb
    · exact h.ref b hb
    · rw [List.mem_singleton.1 hb]; exact w1
theorem open_rel : ∀ (L : List Pr) (had : List ByteArray) {B R : List Pr}, Rel B R → (openP L had B).2 = (openR L had R).2 ∧ ((openP L had B).2 = 0 → Rel (openP L had B).1 (openR L had R).1)
  | [], had, B, R, h => ⟨rfl, fun _ => h⟩
  | x :: L, had, B, R, h => by
    unfold openP openR
    cases hd : decl x with
    | none => exact open_rel L had h
    | some p =>
      simp only
      by_cases hw : wrongZ p x.2 ≠ 0
      · rw [if_pos hw, if_pos hw]
        exact ⟨rfl, fun e => absurd e hw⟩
      · rw [if_neg hw, if_neg hw]
        by_cases hm : memB p had = true
        · rw [if_pos hm, if_pos hm]
          exact ⟨rfl, fun e => by cases e⟩
        · rw [if_neg hm, if_neg hm]
          exact open_rel L _ (h.put (by simpa using hw))
/-- Pairs that came in. -/
abbrev PV := SlV Pr
def InPr (x : Pr) : Prop := x.1.size ≤ 140737488351232 ∧ x.2.size ≤ 140737488351232
abbrev PV.Good (w : World) (s : PV) : Prop := s.Ok w 2 32 pr InPr
abbrev PPV := SlV PV
abbrev PPV.Good (w : World) (s : PPV) : Prop := s.Ok w 1 24 SlV.cells (PV.Good w)
def PPV.sum (s : PPV) : Nat := (s.xs.map SlV.l).sum
theorem sum_take_succ {L : List Nat} {i n : Nat} (h : L[i]? = some n) : (L.take (i + 1)).sum = (L.take i).sum + n := by
  obtain ⟨g1, g2⟩ := List.getElem?_eq_some_iff.1 h
  rw [List.take_succ_eq_append_getElem g1, g2, List.sum_append]; simp
theorem sum_take_le (L : List Nat) (i : Nat) : (L.take i).sum ≤ L.sum := by
  conv => rhs; rw [← List.take_append_drop i L, List.sum_append]
  omega
end Go.Vc
namespace Go.Proofs.YtdjehimkijlhgaaDoor
open Go Go.Vc Go.Lib

theorem slT_rpair : SlT Tryd.prog T_sl_ref03_Pair T_ref03_Pair 2 32 #[.string ByteArray.empty, .string ByteArray.empty] := SlT.of (by kernel_rfl) (by kernel_rfl) rfl (by decide)
section
variable {w : World}

theorem Doc_ok {p : Option Addr} {l c : Nat} {L : List Pr} {J : Option Addr → Nat → Nat → World → Prop} (h : Sl w p l 2 (rows pr L)) (hm : l ≤ 1000000000) (K : ∀ p' c' w', Row w' T_ref03_Pair 2 p' l c' (rows pr L) → fresh w p' → Chg No w w' → J p' l c' w') :
    callJ Tryd.prog fn_law04_doc #[.slice p l c] w [.one .slice] J := by
  refine c_law04_doc ?_
  unfold VC_law04_doc
  rw [zeroC_pair]
  have hl := h.row (even_pr L) (by decide)
  refine ⟨fun q m d x w' t => ∃ i : Nat, x = i ∧ i ≤ l ∧ t = l - i ∧ m = i ∧ Row w' T_ref03_Pair 2 q m d (rows pr (L.take i)) ∧ fresh w q ∧ Chg No w w', ⟨_, 0, rfl, Nat.zero_le _, rfl, rfl, Row.nil _ _ _, by rintro a ⟨⟩, Chg.refl _ _⟩, ?_⟩
  rintro q m d x w1 t ⟨i, rfl, hi, rfl, rfl, hr, hf, hc⟩
  refine condB_d (fun hlt => ?_) (fun hge => ?_)
  · refine pr_i (h.chg hc (off_no _)) (by omega) hlt fun a y hy h1 h2 => ?_
    rw [Int.toNat_natCast] at hy
    refine ldStr_i h1 (ldStr_i h2 ?_)
    refine (Hp.start w1 No).newB fun b5 w2 H2 _ _ => ?_
    refine H2.stN 0 rfl (off := 0) rfl (by simp) (one1_pr _) fun w3 H3 _ => ?_
    have e5 : splice [Value.string ByteArray.empty, Value.string ByteArray.empty] 0 (pr y) = pr y := splice_all rfl
    simp only [List.set_cons_zero] at H3
    rw [show splice [Value.string ByteArray.empty, Value.string ByteArray.empty] 0 [Value.string y.1, Value.string y.2] = pr y from e5] at H3
    refine H3.ldStr 0 rfl (off := 0) rfl ?_
    refine H3.ldStr 0 rfl (off := 1) rfl ?_
    refine ⟨rfl, newRow (sz := 2) (n := 1) rfl (by decide) fun b18 w4 hr4 _ hc4 => ?_⟩
    have hc14 := H3.chg.trans0 hc4
    refine appJ_row slT_rpair (hr.chg hc14 (off_no _)) hr4.sl (one1_pr y) (by simp) (by omega) (by simp only [maxLen]; omega) fun p' c' w' hr' hc' hf' => ?_
    have e : rows pr (L.take m) ++ [Value.string y.1, Value.string y.2] = rows pr (L.take (m + 1)) := by
      obtain ⟨g1, g2⟩ := List.getElem?_eq_some_iff.1 hy
      rw [List.take_succ_eq_append_getElem g1, g2, rows_append]; rfl
    rw [e] at hr'
    have hc04 := hc.trans0 hc14
    refine ⟨_, by omega, m + 1, by rw [w64_of] <;> omega, by omega, rfl, rfl, hr', ?_, hc04.trans hc' (fresh_no hf)⟩
    rcases hf' with rfl | hf'
    · exact hf
    · intro a ha; have := hf' a ha; have := hc04.size; omega
  · have : m = l := by omega
    subst this
    rw [List.take_of_length_le (by omega)] at hr
    exact K q d w1 hr hf hc

theorem Opened_ok {v : PPV} {J : Option Addr → Nat → Nat → Option Addr → Nat → Nat → Option Addr → Nat → Nat → Bool → World → Prop} (hv : PPV.Good w v) (hsum : v.sum ≤ 1048576) (T : Tabs w)
    (K : ∀ B R sp sl sc tp tl tc tq td w', Rel B R → Sl w' sp sl 2 (rows pr B) → (sp = none → sl = 0) → Sl w' tp tl 1 (strs (R.map Prod.fst)) → Sl w' tq tl 1 (strs (R.map Prod.snd)) → (tp = none → tl = 0) → (tq = none → tl = 0) → sl ≤ 1048576 → tl ≤ 1048576 →
      tyP w' T_scope_bind sp → tyP w' T_string tp → tyP w' T_string tq → Chg No w w' → J sp sl sc tp tl tc tq tl td true w') :
    callJ Tryd.prog fn_law04_opened #[.slice v.p v.l v.c] w [.agg [.slice], .agg [.slice, .slice], .one .bool] J := by
  refine c_law04_opened ?_
  unfold VC_law04_opened
  rw [zeroC_scope, zeroC_rscope]
  have hlen := hv.len
  have hvf := hv.fits
  refine (Hp.start w No).newB fun b2 w1 H1 _ hc1 => ?_
  refine H1.newB fun b3 w2 H2 _ hc2 => ?_
  refine New_ok fun w3 hc3 => ?_
  refine (H2.step0 hc3).newB fun b5 w4 H4 _ hc4 => ?_
  refine H4.stN 0 rfl (off := 0) rfl (by simp) (one1_cons rfl one1_nil) fun w5 H5 _ => ?_
  refine H5.newB fun b6 w6 H6 _ hc6 => ?_
  refine H6.stN 0 rfl (off := 0) rfl (by simp) (one1_cons rfl (one1_cons rfl one1_nil)) fun w7 H7 _ => ?_
  simp only [List.set_cons_zero] at H7
  -- what is answered at last
  have ans : ∀ sp sl sc tp tl tc tq td wk (Kx : Option Addr → Nat → Nat → Option Addr → Nat → Nat → Option Addr → Nat → Nat → World → Prop), Hp w No wk [⟨b6, [.slice tp tl tc, .slice tq tl td], T_ref04_Scope⟩, ⟨b5, [.slice sp sl sc], T_scope_Scope⟩, ⟨b3, [.slice none 0 0, .slice none 0 0], T_ref04_Scope⟩, ⟨b2, [.slice none 0 0], T_scope_Scope⟩] →
      (∀ w', Hp w No w' [] → Chg (fun x => x = b2 ∨ x = b3) wk w' → Kx sp sl sc tp tl tc tq tl td w') →
      ldS wk ⟨b5, 0, none⟩ fun x44p x44l x44c => ldS wk ⟨b6, 0, none⟩ fun x45p x45l x45c => ldS wk ⟨b6, 1, none⟩ fun y45p y45l y45c => stN wk ⟨b2, 0, none⟩ ⟨[.slice x44p x44l x44c]⟩ 1 fun w29 =>
        cellsAt w29 ⟨b6, 0, none⟩ [.slice x45p x45l x45c, .slice y45p y45l y45c] ∧ stN w29 ⟨b3, 0, none⟩ ⟨[.slice x45p x45l x45c, .slice y45p y45l y45c]⟩ 2 fun w30 =>
        ldS w30 ⟨b2, 0, none⟩ fun r0 r1 r2 => ldS w30 ⟨b3, 0, none⟩ fun s0 s1 s2 => ldS w30 ⟨b3, 1, none⟩ fun u0 u1 u2 => Kx r0 r1 r2 s0 s1 s2 u0 u1 u2 w30 := by
    intro sp sl sc tp tl tc tq td wk Kx H k
    refine H.ldS 1 rfl (off := 0) rfl ?_
    refine H.ldS 0 rfl (off := 0) rfl ?_
    refine H.ldS 0 rfl (off := 1) rfl ?_
    refine H.stN 3 rfl (off := 0) rfl (by simp) (one1_cons rfl one1_nil) fun w29 H29 hc29 => ⟨H29.cells 0 rfl 0, ?_⟩
    refine H29.stN 2 rfl (off := 0) rfl (by simp) (one1_cons rfl (one1_cons rfl one1_nil)) fun w30 H30 hc30 => ?_
    refine H30.ldS 3 rfl (off := 0) rfl ?_
    refine H30.ldS 2 rfl (off := 0) rfl ?_
    refine H30.ldS 2 rfl (off := 1) rfl ?_
    exact k w30 (H30.sub (List.nil_sublist _)) ((hc29.mono fun _ _ e => .inl e).trans (hc30.mono fun _ _ e => .inr e) fun _ _ h => h)
  refine ⟨fun x w' t => ∃ (i : Nat) (B R : List Pr) (sp : Option Addr) (sl sc : Nat) (tp : Option Addr) (tl tc : Nat) (tq : Option Addr) (td : Nat), x = i ∧ i ≤ v.l ∧ t = v.l - i ∧
      Hp w No w' [⟨b6, [.slice tp tl tc, .slice tq tl td], T_ref04_Scope⟩, ⟨b5, [.slice sp sl sc], T_scope_Scope⟩, ⟨b3, [.slice none 0 0, .slice none 0 0], T_ref04_Scope⟩, ⟨b2, [.slice none 0 0], T_scope_Scope⟩] ∧
      Rel B R ∧ Sl w' sp sl 2 (rows pr B) ∧ (sp = none → sl = 0) ∧ Sl w' tp tl 1 (strs (R.map Prod.fst)) ∧ Sl w' tq tl 1 (strs (R.map Prod.snd)) ∧ (tp = none → tl = 0) ∧ (tq = none → tl = 0) ∧
      sl ≤ ((v.xs.map SlV.l).take i).sum ∧ tl ≤ ((v.xs.map SlV.l).take i).sum ∧ tyP w' T_scope_bind sp ∧ tyP w' T_string tp ∧ tyP w' T_string tq,
    ⟨_, 0, [], [], none, 0, 0, none, 0, 0, none, 0, rfl, Nat.zero_le _, rfl, H7, Rel.nil, Sl.nil _ _ _, fun _ => rfl, Sl.nil _ _ _, Sl.nil _ _ _, fun _ => rfl, fun _ => rfl, Nat.zero_le _, Nat.zero_le _, by rintro a ⟨⟩, by rintro a ⟨⟩, by rintro a ⟨⟩⟩, ?_⟩
  rintro x w8 t ⟨i, B, R, sp, sl, sc, tp, tl, tc, tq, td, rfl, hi, rfl, H8, hrel, hB, nB, hP, hU, nP, nU, bB, bR, yB, yP, yU⟩
  have hst := sum_take_le (v.xs.map SlV.l) i
  have hsum' : (v.xs.map SlV.l).sum ≤ 1048576 := hsum
  refine condB_d (fun hlt => ?_) (fun hge => ?_)
  · refine withJ_i fun J0 hJ0 => ?_
    refine idx_rows (H8.oldSl hv.sl (off_no _)) hv.even (by decide) (by omega) hlt fun a s ha hsv hcell => ?_
    rw [Int.toNat_natCast] at hsv
    have hsg := hv.all s (List.mem_of_getElem? hsv)
    have hsum1 : ((v.xs.map SlV.l).take (i + 1)).sum = ((v.xs.map SlV.l).take i).sum + s.l := sum_take_succ (by rw [List.getElem?_map, hsv]; rfl)
    have hst1 := sum_take_le (v.xs.map SlV.l) (i + 1)
    have k0 : ∀ B' R' sp sl sc tp tl tc tq td w9, Hp w No w9 [⟨b6, [.slice tp tl tc, .slice tq tl td], T_ref04_Scope⟩, ⟨b5, [.slice sp sl sc], T_scope_Scope⟩, ⟨b3, [.slice none 0 0, .slice none 0 0], T_ref04_Scope⟩, ⟨b2, [.slice none 0 0], T_scope_Scope⟩] →
        Rel B' R' → Sl w9 sp sl 2 (rows pr B') → (sp = none → sl = 0) → Sl w9 tp tl 1 (strs (R'.map Prod.fst)) → Sl w9 tq tl 1 (strs (R'.map Prod.snd)) → (tp = none → tl = 0) → (tq = none → tl = 0) →
        sl ≤ ((v.xs.map SlV.l).take (i + 1)).sum → tl ≤ ((v.xs.map SlV.l).take (i + 1)).sum → tyP w9 T_scope_bind sp → tyP w9 T_string tp → tyP w9 T_string tq → J0 w9 := by
      intro B' R' sp sl sc tp tl tc tq td w9 g1 g2 g3 g4 g5 g6 g7 g8 g9 g10 g11 g12 g13; subst hJ0
      exact ⟨_, by omega, i + 1, B', R', sp, sl, sc, tp, tl, tc, tq, td, by rw [w64_of] <;> omega, by omega, rfl, g1, g2, g3, g4, g5, g6, g7, g8, g9, g10, g11, g12, g13⟩
    clear hJ0
    refine ldS_i (cellsAt_head hcell) ?_
    refine H8.ldS 1 rfl (off := 0) rfl ?_
    have hS8 : Sl w8 s.p s.l 2 (rows pr s.xs) := H8.oldSl hsg.sl (off_no _)
    have szs : ∀ x ∈ s.xs, x.1.size ≤ 140737488351232 := fun x hx => (hsg.all x hx).1
    refine Open_ok hB nB hS8 (fun x hx => by have := szs x hx; omega) (by omega) (T.chg H8.chg) fun p10 l10 c10 w10 hr10 hf10 hc10 hl10 => ?_
    have H10 := H8.step0 hc10
    refine H10.newB fun b9 w11 H11 _ hc11 => ?_
    refine H11.stN 0 rfl (off := 0) rfl (by simp) (one1_cons rfl one1_nil) fun w12 H12 hc12 => ?_
    simp only [List.set_cons_zero] at H12
    have t9 : typ w11 b9 = some T_scope_Scope := typ_of (H11.get 0 rfl)
    have hr12 := (hr10.chg hc11 (off_no _)).chg hc12 fun a ha e => by
      have := (hr10.chg hc11 (off_no _)).typ a ha
      rw [e, t9] at this; exact absurd this (by decide)
    have hc8_11 := hc10.trans0 hc11
    have hB12 := (hB.chg hc8_11 (off_no _)).chg hc12 ((yB.chg hc8_11).off t9 (by decide))
    have hP12 := (hP.chg hc8_11 (off_no _)).chg hc12 ((yP.chg hc8_11).off t9 (by decide))
    have hU12 := (hU.chg hc8_11 (off_no _)).chg hc12 ((yU.chg hc8_11).off t9 (by decide))
    have yP12 := (yP.chg hc8_11).chg1 t9 (by decide) hc12
    have yU12 := (yU.chg hc8_11).chg1 t9 (by decide) hc12
    have yB12 := (yB.chg hc8_11).chg1 t9 (by decide) hc12
    obtain ⟨oe, orel⟩ := open_rel s.xs [] hrel
    generalize hB' : (openP s.xs [] B).1 = B' at hr10 hr12 orel
    generalize hz : (openP s.xs [] B).2 = z at oe orel
    generalize hR' : (openR s.xs [] R).1 = R' at orel
    refine withJ_i fun J11 hJ11 => ?_
    have k11 : ∀ b11 p' q' l' c' d' w13, Hp w No w13 [⟨b11, [.slice p' l' c', .slice q' l' d'], T_ref04_Scope⟩, ⟨b9, [.slice p10 l10 c10], T_scope_Scope⟩, ⟨b6, [.slice tp tl tc, .slice tq tl td], T_ref04_Scope⟩, ⟨b5, [.slice sp sl sc], T_scope_Scope⟩, ⟨b3, [.slice none 0 0, .slice none 0 0], T_ref04_Scope⟩, ⟨b2, [.slice none 0 0], T_scope_Scope⟩] →
        Chg No w12 w13 → Sl w13 p' l' 1 (strs (R'.map Prod.fst)) → Sl w13 q' l' 1 (strs (R'.map Prod.snd)) → (p' = none → l' = 0) → (q' = none → l' = 0) → tyP w13 T_string p' → tyP w13 T_string q' → l' ≤ tl + s.l → J11 (some ⟨b11, 0, none⟩) z w13 := by
      intro b11 p' q' l' c' d' w13 H13 hc13 g1 g2 g3 g4 g5 g6 g7; subst hJ11
      refine condB_ne (fun h => absurd rfl h) fun _ => ?_
      have H13d := H13.drew
      have cd : Chg No w13 w13.drew := (Chg.refl _ _).drew
      have hc12d := hc13.trans0 cd
      have tail : ∀ {Γ : List Blk}, Hp w No w13 Γ → True := fun _ => trivial
      refine condB_eq (fun h0 => ?_) (fun hne => ?_)
      · refine H13d.ldS 1 rfl (off := 0) rfl (nonNil_i ?_)
        refine H13d.ldS 0 rfl (off := 0) rfl ?_
        rw [Addr.add_mk, Nat.zero_add]
        refine H13d.ldS 0 rfl (off := 1) rfl ?_
        have t5 : typ w13.drew b5 = some T_scope_Scope := typ_of (H13d.get 3 rfl)
        have t6 : typ w13.drew b6 = some T_ref04_Scope := typ_of (H13d.get 2 rfl)
        refine H13d.stN 3 rfl (off := 0) rfl (by simp) (one1_cons rfl one1_nil) fun w16 H16 hc16 => ⟨H16.cells 0 rfl 0, ?_⟩
        have t6' : typ w16 b6 = some T_ref04_Scope := typ_of (H16.get 2 rfl)
        refine H16.stN 2 rfl (off := 0) rfl (by simp) (one1_cons rfl (one1_cons rfl one1_nil)) fun w17 H17 hc17 => ?_
        simp only [List.set_cons_succ, List.set_cons_zero] at H17
        have yr : tyP w13.drew T_scope_bind p10 := fun a ha => typ_chg hc12d (hr12.typ a ha) (fun h => h)
        have sr : Sl w13.drew p10 l10 2 (rows pr B') := (hr12.chg hc12d (off_no _)).sl
        refine k0 B' R' p10 l10 c10 p' l' c' q' d' w17 (H17.sub (List.Sublist.cons _ (List.Sublist.cons _ (List.Sublist.refl _)))) (orel h0) ?_ hr12.none0 ?_ ?_ g3 g4 (by omega) (by omega) ?_ ?_ ?_
        · exact (sr.chg hc16 (yr.off t5 (by decide))).chg hc17 ((yr.chg1 t5 (by decide) hc16).off t6' (by decide))
        · exact ((g1.chg cd (off_no _)).chg hc16 ((g5.chg cd).off t5 (by decide))).chg hc17 (((g5.chg cd).chg1 t5 (by decide) hc16).off t6' (by decide))
        · exact ((g2.chg cd (off_no _)).chg hc16 ((g6.chg cd).off t5 (by decide))).chg hc17 (((g6.chg cd).chg1 t5 (by decide) hc16).off t6' (by decide))
        · exact (yr.chg1 t5 (by decide) hc16).chg1 t6' (by decide) hc17
        · exact ((g5.chg cd).chg1 t5 (by decide) hc16).chg1 t6' (by decide) hc17
        · exact ((g6.chg cd).chg1 t5 (by decide) hc16).chg1 t6' (by decide) hc17
      · exact k0 B R sp sl sc tp tl tc tq td w13 (H13.sub (List.Sublist.cons _ (List.Sublist.cons _ (List.Sublist.refl _)))) hrel (hB12.chg hc13 (off_no _)) nB (hP12.chg hc13 (off_no _)) (hU12.chg hc13 (off_no _)) nP nU (by omega) (by omega) (yB12.chg hc13) (yP12.chg hc13) (yU12.chg hc13)
    clear hJ11 k0
    have H12d := H12.drew
    have cd : Chg No w12 w12.drew := (Chg.refl _ _).drew
    refine H12d.ldS 1 rfl (off := 0) rfl ?_
    refine H12d.ldS 1 rfl (off := 1) rfl ?_
    have hS12 : Sl w12.drew s.p s.l 2 (rows pr s.xs) := H12d.oldSl hsg.sl (off_no _)
    have hP12d := hP12.chg cd (off_no _)
    have hU12d := hU12.chg cd (off_no _)
    have sf : s.l ≤ 1048576 := by omega
    refine ⟨?_, ?_⟩
    · refine Doc_ok hS12 (by omega) fun p18 c18 w18 hr18 hf18 hc18 => ⟨(H12d.step0 hc18).cells 1 rfl 0, ?_, ?_⟩
      · refine ROpen_ok (hP12d.chg hc18 (off_no _)) (hU12d.chg hc18 (off_no _)) nP nU hr18.sl (fun x hx => by have := szs x hx; omega) (by omega) fun p' q' l' c' d' w19 g1 g2 g3 g4 g5 g6 hc19 g7 => ?_
        rw [hR'] at g1 g2
        rw [← oe]
        refine ((H12d.step0 hc18).step0 hc19).newB fun b11 w20 H20 _ hc20 => ⟨H20.cells 2 rfl 0, ?_⟩
        have t11 : typ w20 b11 = some T_ref04_Scope := typ_of (H20.get 0 rfl)
        refine H20.stN 0 rfl (off := 0) rfl (by simp) (one1_cons rfl (one1_cons rfl one1_nil)) fun w21 H21 hc21 => ?_
        have hc12_21 : Chg No w12 w21 := ((cd.trans0 hc18).trans0 hc19).trans0 (hc20.trans hc21 fun b hb e => by
          have h1 := H21.get 0 rfl
          subst e
          have h2 := (H20.sub (Γ' := []) (List.nil_sublist _)).chg.size
          rename_i hbs
          exact absurd hb (Nat.not_lt.2 hbs))
        exact k11 b11 p' q' l' c' d' w21 H21 hc12_21 ((g1.chg hc20 (off_no _)).chg hc21 ((g5.chg hc20).off t11 (by decide))) ((g2.chg hc20 (off_no _)).chg hc21 ((g6.chg hc20).off t11 (by decide))) g3 g4 ((g5.chg hc20).chg1 t11 (by decide) hc21) ((g6.chg hc20).chg1 t11 (by decide) hc21) g7
      · refine (H12d.step0 hc18).newB fun b11 w22 H22 hb22 hc22 => ⟨H22.cells 2 rfl 0, ?_⟩
        have hc18_22 := hc18.trans0 hc22
        refine ROpen_ok (hP12d.chg hc18_22 (off_no _)) (hU12d.chg hc18_22 (off_no _)) nP nU (hr18.chg hc22 (off_no _)).sl (fun x hx => by have := szs x hx; omega) (by omega) fun p' q' l' c' d' w23 g1 g2 g3 g4 g5 g6 hc23 g7 => ?_
        rw [hR'] at g1 g2
        rw [← oe]
        have H23 := H22.step0 hc23
        have t11 : typ w23 b11 = some T_ref04_Scope := typ_of (H23.get 0 rfl)
        refine H23.stN 0 rfl (off := 0) rfl (by simp) (one1_cons rfl (one1_cons rfl one1_nil)) fun w24 H24 hc24 => ?_
        have hc12_24 : Chg No w12 w24 := ((cd.trans0 hc18).trans0 (hc22.trans0 hc23)).trans hc24 fun b hb e => by
          subst e; have := (cd.trans0 hc18).size; omega
        exact k11 b11 p' q' l' c' d' w24 H24 hc12_24 (g1.chg hc24 (g5.off t11 (by decide))) (g2.chg hc24 (g6.off t11 (by decide))) g3 g4 (g5.chg1 t11 (by decide) hc24) (g6.chg1 t11 (by decide) hc24) g7
    · refine H12d.newB fun b11 w25 H25 hb25 hc25 => ⟨H25.cells 2 rfl 0, ?_⟩
      refine Doc_ok (hS12.chg hc25 (off_no _)) (by omega) fun p18 c18 w26 hr18 hf18 hc26 => ⟨(H25.step0 hc26).cells 2 rfl 0, ?_⟩
      have hc25_26 := hc25.trans0 hc26
      refine ROpen_ok (hP12d.chg hc25_26 (off_no _)) (hU12d.chg hc25_26 (off_no _)) nP nU hr18.sl (fun x hx => by have := szs x hx; omega) (by omega) fun p' q' l' c' d' w27 g1 g2 g3 g4 g5 g6 hc27 g7 => ?_
      rw [hR'] at g1 g2
      rw [← oe]
      have H27 := (H25.step0 hc26).step0 hc27
      have t11 : typ w27 b11 = some T_ref04_Scope := typ_of (H27.get 0 rfl)
      refine H27.stN 0 rfl (off := 0) rfl (by simp) (one1_cons rfl (one1_cons rfl one1_nil)) fun w28 H28 hc28 => ?_
      have hc12_28 : Chg No w12 w28 := ((cd.trans0 hc25_26).trans0 hc27).trans hc28 fun b hb e => by
        subst e; have := cd.size; omega
      exact k11 b11 p' q' l' c' d' w28 H28 hc12_28 (g1.chg hc28 (g5.off t11 (by decide))) (g2.chg hc28 (g6.off t11 (by decide))) g3 g4 (g5.chg1 t11 (by decide) hc28) (g6.chg1 t11 (by decide) hc28) g7
  · have cd : Chg No w8 w8.drew := (Chg.refl _ _).drew
    have t2 : typ w8.drew b2 = some T_scope_Scope := typ_of (H8.drew.get 3 rfl)
    have t3 : typ w8.drew b3 = some T_ref04_Scope := typ_of (H8.drew.get 2 rfl)
    refine ans sp sl sc tp tl tc tq td w8.drew (fun a b c d e f g h i w' => J a b c d e f g h i true w') H8.drew fun w' H' hc' => ?_
    have offs : ∀ {p : Option Addr} {e : TypeId}, tyP w8.drew e p → e ≠ T_scope_Scope → e ≠ T_ref04_Scope → off p (fun x => x = b2 ∨ x = b3) := by
      intro p e hy h1 h2 a ha hh
      rcases hh with hh | hh
      · exact hy.off t2 h1 a ha hh
      · exact hy.off t3 h2 a ha hh
    refine K B R sp sl sc tp tl tc tq td w' hrel ?_ nB ?_ ?_ nP nU (by omega) (by omega) ?_ ?_ ?_ H'.chg
    · exact (hB.chg cd (off_no _)).chg hc' (offs (yB.chg cd) (by decide) (by decide))
    · exact (hP.chg cd (off_no _)).chg hc' (offs (yP.chg cd) (by decide) (by decide))
    · exact (hU.chg cd (off_no _)).chg hc' (offs (yU.chg cd) (by decide) (by decide))
    · exact fun a ha => typ_chg hc' (yB.chg cd a ha) (offs (yB.chg cd) (by decide) (by decide) a ha)
    · exact fun a ha => typ_chg hc' (yP.chg cd a ha) (offs (yP.chg cd) (by decide) (by decide) a ha)
    · exact fun a ha => typ_chg hc' (yU.chg cd a ha) (offs (yU.chg cd) (by decide) (by decide) a ha)
end
end Go.Proofs.YtdjehimkijlhgaaDoor

