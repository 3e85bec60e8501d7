/-
  The document's attributes: put in one after the other, each one into its place.
-/
import Derived.Test.YtdjehimkijlhgaaDoorAttrs
set_option linter.unusedVariables false
set_option linter.unusedSimpArgs false
namespace Go.Vc
open Go Go.Lib
def Srt (X : List At) : Prop := X.Pairwise fun a b => aLt b a = false
theorem aLt_ntr {x y z : At} (h : aLt x y = false) (k : aLt y z = false) : aLt x z = false := by
  unfold aLt at *
  rcases nLt_tri (nameOf x) (nameOf y) with h1 | h1 | h1
  · rw [h1] at h; cases h
  · rw [h1]; exact k
  · rcases nLt_tri (nameOf y) (nameOf z) with h2 | h2 | h2
    · rw [h2] at k; cases k
    · rw [← h2]; exact h
    · exact nLt_asym (nLt_trans h2 h1)
theorem pf_of {X : List At} {i : Nat} {a : At} (h : X[i]? = some a) : pf X i = a ∧ i < X.length := by
  have hl := (List.getElem?_eq_some_iff.1 h).1
  rw [pf_get hl] at h
  exact ⟨Option.some.inj h, hl⟩
theorem srt_get {X : List At} (hs : Srt X) {i j : Nat} (hij : i ≤ j) (hj : j < X.length) : aLt (pf X j) (pf X i) = false := by
  by_cases e : i = j
  · subst e; exact nLt_irr _
  · have := List.pairwise_iff_getElem.1 hs i j (by omega) hj (by omega)
    have e1 := pf_get (X := X) (i := i) (by omega)
    have e2 := pf_get hj
    rw [List.getElem?_eq_getElem (by omega)] at e1 e2
    rw [← Option.some.inj e1, ← Option.some.inj e2]; exact this
theorem srt_ins {X : List At} {x : At} {k : Nat} (hs : Srt X) (hk : k ≤ X.length) (hlo : ∀ j, j < k → aLt (pf X j) x = true) (hhi : k < X.length → aLt (pf X k) x = false) : Srt (X.take k ++ [x] ++ X.drop k) := by
  have e := List.take_append_drop k X
  have h2 : Srt (X.take k ++ X.drop k) := by rw [e]; exact hs
  obtain ⟨p1, p2, p3⟩ := List.pairwise_append.1 h2
  have A : ∀ a ∈ X.take k, aLt x a = false := by
    intro a ha
    obtain ⟨j, hj⟩ := List.mem_iff_getElem?.1 ha
    rw [List.getElem?_take] at hj
    split at hj
    · next hlt =>
      rw [← (pf_of hj).1]; exact aLt_ord.asym (hlo j hlt)
    · cases hj
  have B : ∀ b ∈ X.drop k, aLt b x = false := by
    intro b hb
    obtain ⟨j, hj⟩ := List.mem_iff_getElem?.1 hb
    rw [List.getElem?_drop] at hj
    obtain ⟨e1, e2⟩ := pf_of hj
    rw [← e1]
    exact aLt_ntr (srt_get hs (Nat.le_add_right k j) e2) (hhi (by omega))
  refine List.pairwise_append.2 ⟨List.pairwise_append.2 ⟨p1, List.pairwise_singleton _ _, fun a ha b hb => ?_⟩, p2, fun a ha b hb => ?_⟩
  · rw [List.mem_singleton.1 hb]; exact A a ha
  · rcases List.mem_append.1 ha with ha | ha
    · exact p3 a ha b hb
    · rw [List.mem_singleton.1 ha]; exact B b hb
theorem name_mem {X : List At} {x : At} {k : Nat} (hs : Srt X) (hk : k ≤ X.length) (hlo : ∀ j, j < k → aLt (pf X j) x = true) (hhi : k < X.length → aLt (pf X k) x = false) : nameOf x ∈ names X ↔ k < X.length ∧ nameOf (pf X k) = nameOf x := by
  constructor
  · intro h
    obtain ⟨b, hb, e⟩ := List.mem_map.1 h
    obtain ⟨j, hj⟩ := List.mem_iff_getElem?.1 hb
    obtain ⟨e1, e2⟩ := pf_of hj
    have hkj : k ≤ j := by
      rcases Nat.lt_or_ge j k with h | h
      · have := hlo j h
        unfold aLt at this
        rw [e1, e, nLt_irr] at this; cases this
      · exact h
    refine ⟨by omega, ?_⟩
    have a1 := srt_get hs hkj e2
    have a2 := hhi (by omega)
    unfold aLt at a1 a2
    rw [e1, e] at a1
    rcases nLt_tri (nameOf (pf X k)) (nameOf x) with h | h | h
    · rw [h] at a2; cases a2
    · exact h
    · rw [h] at a1; cases a1
  · rintro ⟨h1, h2⟩
    rw [← h2]
    exact List.mem_map.2 ⟨_, List.mem_of_getElem? (pf_get h1), rfl⟩
theorem dup_snoc {acc : List At} {x : At} : Dup (acc ++ [x]) ↔ Dup acc ∨ nameOf x ∈ names acc := by
  unfold Dup names
  rw [List.map_append, List.nodup_append]
  simp only [List.map_cons, List.map_nil, List.mem_singleton]
  constructor
  · intro h
    by_cases hd : (acc.map nameOf).Nodup
    · right
      apply Classical.byContradiction
      intro hn
      exact h ⟨hd, by simp, fun a ha b hb e => hn (by rw [← hb, ← e]; exact ha)⟩
    · exact .inl hd
  · rintro (h | h) ⟨h1, _, h3⟩
    · exact h h1
    · exact h3 _ h _ rfl rfl
theorem srt_asc {X : List At} (hs : Srt X) (hd : (names X).Nodup) : Asc X := by
  have h1 := List.pairwise_map.1 hd
  refine (hs.and h1).imp fun {a b} h => ?_
  have := h.1
  unfold aLt at this ⊢
  rcases nLt_tri (nameOf a) (nameOf b) with h' | h' | h'
  · exact h'
  · exact absurd h' h.2
  · rw [h'] at this; cases this
theorem ins_perm {X acc : List At} {x : At} {k : Nat} (h : X.Perm acc) : (X.take k ++ [x] ++ X.drop k).Perm (acc ++ [x]) := by
  rw [List.append_assoc]
  refine List.Perm.trans ?_ (List.Perm.append_right [x] h)
  have e : (X.take k ++ (X.drop k ++ [x])).Perm (X ++ [x]) := by rw [← List.append_assoc, List.take_append_drop]
  exact (List.Perm.append_left _ List.perm_append_comm).trans e
end Go.Vc
namespace Go.Proofs.YtdjehimkijlhgaaDoor
open Go Go.Vc Go.Lib
section
variable {w : World}
theorem appA {w0 wa : World} {p q : Option Addr} {l c m c2 : Nat} {xs news : List Value} {K : Option Addr → Nat → Nat → World → Prop} (hr : Row wa T_api_Attr 3 p l c xs) (src : Sl wa q m 3 news) (h1 : one1 news) (hn : q = none → m = 0) (hlm : l + m ≤ 1000000000)
    (hf : fresh w0 p) (hc : Chg No w0 wa) (k : ∀ p' c' w', Row w' T_api_Attr 3 p' (l + m) c' (xs ++ news) → fresh w0 p' → Chg No w0 w' → Chg (isB p) wa w' → K p' (l + m) c' w') :
    appJ Tryd.prog T_sl_api_Attr T_sl_api_Attr (.slice p l c) (.slice q m c2) wa K := by
  refine appJ_row slT_attr hr src h1 hn (by omega) (by simp only [maxLen]; omega) fun p' c' w' hr' hc' hf' => ?_
  refine k p' c' w' hr' ?_ (hc.trans hc' (fresh_no hf)) hc'
  rcases hf' with rfl | hf'
  · exact hf
  · intro a ha; have := hf' a ha; have := hc.size; omega
theorem nm_hp {w0 w1 : World} {b b' : Nat} {Γ : List Blk} {n v : Pr} (H : Hp w0 No w1 (⟨b, pr n, T_api_Name⟩ :: ⟨b', pr v, T_ref03_Pair⟩ :: Γ)) {w' : World} (hc : Chg No w1 w') : w'.cell? ⟨b', 1, none⟩ = some (.string v.2) ∧ cellsAt w' ⟨b, 0, none⟩ [.string n.1, .string n.2] :=
  ⟨(H.step0 hc).cell 1 rfl rfl, (H.step0 hc).cells 0 rfl 0⟩

theorem RAttrs_ok {p q pl : Option Addr} {l c d m dl : Nat} {R L : List Pr} {J : Option Addr → Nat → Nat → Int → World → Prop} (h1 : Sl w p l 1 (strs (R.map Prod.fst))) (h2 : Sl w q l 1 (strs (R.map Prod.snd))) (hm : l ≤ 140737488355328) (hL : Sl w pl m 2 (rows pr L)) (hs : ∀ x ∈ L, x.1.size ≤ 140737488355328) (hml : m ≤ 100000000)
    (K1 : (attrsA (boundR R) L []).2 ≠ 0 → ∀ w', Chg No w w' → J none 0 0 (attrsA (boundR R) L []).2 w')
    (K2 : (attrsA (boundR R) L []).2 = 0 → Dup (attrsA (boundR R) L []).1 → ∀ w', Chg No w w' → J none 0 0 27 w')
    (K3 : (attrsA (boundR R) L []).2 = 0 → ∀ X, X.Perm (attrsA (boundR R) L []).1 → Asc X → ∀ p' l' c' w', RA w' p' l' c' X → fresh w p' → l' ≤ m → Chg No w w' → J p' l' c' 0 w') :
    callJ Tryd.prog fn_ref04_Attrs #[.agg ⟨[.slice p l c, .slice q l d]⟩, .slice pl m dl] w [.one .slice, .one (.int .i64)] J := by
  refine c_ref04_Attrs ?_
  unfold VC_ref04_Attrs
  rw [zeroC_rpair, zeroC_name]
  rw [show (⟨#[]⟩ : ByteArray) = kE from rfl]
  simp only [beqS, Bool.and_true]
  have hll := hL.row (even_pr L) (by decide)
  refine (Hp.start w No).newB fun b2 w1 H1 _ hc1 => ?_
  refine newRow (sz := 3) (n := 0) (cs := []) rfl (by decide) fun b19 w2 hr19 hb19 hc2 => ?_
  refine ⟨fun op ol oc tw x w' t => ∃ (i : Nat) (out acc : List At), x = i ∧ i ≤ m ∧ t = m - i ∧ Hp w No w' [⟨b2, [.slice p l c, .slice q l d], T_ref04_Scope⟩] ∧ RA w' op ol oc out ∧ fresh w op ∧ ol ≤ i ∧ out.Perm acc ∧ Srt out ∧ (tw = true ↔ Dup acc) ∧ attrsA (boundR R) (L.drop i) acc = attrsA (boundR R) L [],
    ⟨_, 0, [], [], rfl, Nat.zero_le _, rfl, H1.step0 hc2, hr19, by rintro a ⟨⟩; exact Nat.le_trans H1.chg.size hb19, Nat.le_refl _, .refl _, List.Pairwise.nil, by simp [Dup, names], rfl⟩, ?_⟩
  rintro op ol oc tw x w3 t ⟨i, out, acc, rfl, hi, rfl, H3, hr3, hf3, hol, hpm, hsr, htw, hat⟩
  refine condB_d (fun hlt => ?_) (fun hge => ?_)
  · refine withJ_i fun J6 hJ6 => ?_
    have k6 : ∀ op' ol' oc' tw' out' acc' w3, Hp w No w3 [⟨b2, [.slice p l c, .slice q l d], T_ref04_Scope⟩] → RA w3 op' ol' oc' out' → fresh w op' → ol' ≤ i + 1 → out'.Perm acc' → Srt out' → (tw' = true ↔ Dup acc') → attrsA (boundR R) (L.drop (i + 1)) acc' = attrsA (boundR R) L [] → J6 op' ol' oc' tw' w3 := by
      intro op' ol' oc' tw' out' acc' w3 g1 g2 g3 g4 g5 g6 g7 g8; subst hJ6
      exact ⟨_, by omega, i + 1, out', acc', by rw [w64_of] <;> omega, by omega, rfl, g1, g2, g3, g4, g5, g6, g7, g8⟩
    clear hJ6
    refine pr_i (H3.oldSl hL (off_no _)) (by omega) hlt fun a y hy e1 e2 => ?_
    rw [Int.toNat_natCast] at hy
    rw [attrsA_drop hy] at hat
    have hsy := hs y (List.mem_of_getElem? hy)
    refine ldStr_i e1 (ldStr_i e2 ?_)
    refine H3.newB fun b9 w5 H5 hb9 hc5 => ?_
    refine H5.stN 0 rfl (off := 0) rfl (by simp) (one1_pr _) fun w6 H6 hc6 => ?_
    have e5 : splice [Value.string ByteArray.empty, Value.string ByteArray.empty] 0 (pr y) = pr y := splice_all rfl
    simp only [List.set_cons_zero] at H6
    rw [show splice [Value.string ByteArray.empty, Value.string ByteArray.empty] 0 [Value.string y.1, Value.string y.2] = pr y from e5] at H6
    have c36 : Chg No w3 w6 := hc5.trans hc6 fun b hb e => by subst e; omega
    refine H6.ldStr 0 rfl (off := 0) rfl ?_
    refine H6.ldStr 0 rfl (off := 1) rfl ?_
    refine DeclR_ok hsy fun dp w7 hc7 hdp => ?_
    have H7 := H6.step0 hc7
    have c37 := c36.trans0 hc7
    refine condB_i (fun hd => ?_) (fun hd => ?_)
    · rw [if_pos hd] at hat
      exact k6 op ol oc tw out acc w7 (H7.sub (List.sublist_cons_self _ _)) (hr3.chg c37 (off_no _)) hf3 (by omega) hpm hsr htw hat
    rw [if_neg (by simp [hd])] at hat
    refine H7.ldStr 0 rfl (off := 0) rfl ?_
    refine SplitR_ok hsy fun sa sb sok w8 hc8 hsp => ?_
    have H8 := H7.step0 hc8
    have c38 := c37.trans0 hc8
    unfold Spl at hsp
    have ea : bl sa = (spl (bl y.1)).1 := congrArg Prod.fst hsp
    have eb : bl sb = (spl (bl y.1)).2.1 := congrArg (fun z => z.2.1) hsp
    have eo : sok = (spl (bl y.1)).2.2 := congrArg (fun z => z.2.2) hsp
    have hat1 : attr1 (boundR R) y = if sok = false then ((kE, kE, kE), 24) else if sa = kE then ((kE, sb, y.2), 0) else if (boundR R sa).2 = false then ((kE, kE, kE), 28) else (((boundR R sa).1, sb, y.2), 0) := by
      unfold attr1
      rw [mkB_eq ea, mkB_eq eb, ← eo]
      have : ((spl (bl y.1)).1 = []) = (sa = kE) := propext ⟨fun h => bl_ext (by rw [ea, h]; rfl), fun h => by rw [← ea, h]; rfl⟩
      simp only [this]
    refine condB_not (fun hf => ?_) (fun ht => ?_)
    · rw [if_pos hf] at hat1
      rw [hat1, if_pos (by simp)] at hat
      have := K1 (by rw [← hat]; decide) w8 H8.chg
      rw [← hat] at this; exact this
    rw [if_neg (by simp [ht])] at hat1
    refine H8.newB fun b15 w9 H9 hb15 hc9 => ?_
    refine H9.stN 0 rfl (off := 0) rfl (by simp) (one1_pr (ByteArray.empty, sb)) fun w10 H10 hc10 => ?_
    have e6 : splice [Value.string ByteArray.empty, Value.string ByteArray.empty] 0 (pr (kE, sb)) = pr (kE, sb) := splice_all rfl
    simp only [List.set_cons_zero] at H10
    rw [show splice [Value.string ByteArray.empty, Value.string ByteArray.empty] 0 [Value.string ByteArray.empty, Value.string sb] = pr (kE, sb) from e6] at H10
    have c8a : Chg No w8 w10 := hc9.trans hc10 fun b hb e => by subst e; omega
    have c3a := c38.trans0 c8a
    have hra : RA w10 op ol oc out := hr3.chg c3a (off_no _)
    refine withJ_i fun J0 hJ0 => ?_
    have k0 : ∀ (n : Pr) w11, (attr1 (boundR R) y) = ((n.1, n.2, y.2), 0) → Hp w No w11 [⟨b15, pr n, T_api_Name⟩, ⟨b9, pr y, T_ref03_Pair⟩, ⟨b2, [.slice p l c, .slice q l d], T_ref04_Scope⟩] → RA w11 op ol oc out → J0 w11 := by
      intro n w11 hn H11 hr11; subst hJ0
      have hat' : attrsA (boundR R) (List.drop (i + 1) L) (acc ++ [(n.1, n.2, y.2)]) = attrsA (boundR R) L [] := by
        rw [hn, if_neg (by simp)] at hat; exact hat
      have hX := hr11.n
      refine ⟨fun x w' t => ∃ k : Nat, x = k ∧ k ≤ ol ∧ t = ol - k ∧ Chg No w11 w' ∧ ∀ j, j < k → aLt (pf out j) (n.1, n.2, y.2) = true, ⟨_, 0, rfl, Nat.zero_le _, rfl, Chg.refl _ _, fun j hj => by omega⟩, ?_⟩
      rintro x w12 t ⟨k, rfl, hk, rfl, hc12, hlo⟩
      have H12 := (H11.step0 hc12).drew
      have hr12 : RA w12.drew op ol oc out := hr11.chg hc12.drew (off_no _)
      refine withJ_i fun J67 hJ67 => ?_
      have k67t : ∀ w13, Chg No w12.drew w13 → k < ol → aLt (pf out k) (n.1, n.2, y.2) = true → J67 true w13 := by
        intro w13 hc13 hkl ha; subst hJ67
        refine condB_i (fun _ => ?_) (fun h => by cases h)
        refine ⟨_, by omega, k + 1, by rw [w64_of] <;> omega, by omega, rfl, hc12.drew.trans0 hc13, fun j hj => ?_⟩
        by_cases e : j = k
        · subst e; exact ha
        · exact hlo j (by omega)
      have k67f : ∀ w13, Chg No w12.drew w13 → (k < ol → aLt (pf out k) (n.1, n.2, y.2) = false) → J67 false w13 := by
        intro w13 hc13 hhi; subst hJ67
        refine condB_i (fun h => by cases h) (fun _ => ?_)
        have H13 := (H12.step0 hc13).drew
        have hr13 : RA w13.drew op ol oc out := hr12.chg hc13.drew (off_no _)
        refine withJ_i fun J7 hJ7 => ?_
        have k7 : ∀ tw', (tw' = true ↔ Dup (acc ++ [(n.1, n.2, y.2)])) → J7 tw' w13.drew := by
          intro tw' htw'; subst hJ7
          have H14 := H13.drew
          have hr14 : RA w13.drew.drew op ol oc out := hr13.chg (Chg.refl No _).drew (off_no _)
          have le := hr14.le.1
          have slA : ∀ w', Chg No w13.drew.drew w' → ∀ q', Sl w13.drew.drew q' (k - 0) 3 (((rows atc out).drop (0 * 3)).take ((k - 0) * 3)) → Sl w' q' k 3 (rows atc (out.take k)) := by
            intro w' hc' q' h
            have := h.chg hc' (off_no _)
            rw [rows_drop (even_at out), rows_take (k := 3) (fun _ _ => rfl)] at this
            exact this
          have slB : ∀ w', Chg No w13.drew.drew w' → ∀ q', Sl w13.drew.drew q' (ol - k) 3 (((rows atc out).drop (k * 3)).take ((ol - k) * 3)) → Sl w' q' (ol - k) 3 (rows atc (out.drop k)) := by
            intro w' hc' q' h
            have := h.chg hc' (off_no _)
            rw [rows_drop (even_at out), rows_take (k := 3) (fun _ _ => rfl), List.take_of_length_le (by rw [List.length_drop]; omega)] at this
            exact this
          have fin : ∀ p' c' w', Row w' T_api_Attr 3 p' (0 + k + 1 + (ol - k)) c' (([] ++ rows atc (out.take k)) ++ [Value.string n.1, Value.string n.2, Value.string y.2] ++ rows atc (out.drop k)) → fresh w13.drew.drew p' → Chg No w13.drew.drew w' → J6 p' (0 + k + 1 + (ol - k)) c' tw' w' := by
            intro p' c' w' hr hf hc
            have e : ([] ++ rows atc (out.take k)) ++ [Value.string n.1, Value.string n.2, Value.string y.2] ++ rows atc (out.drop k) = rows atc (out.take k ++ [(n.1, n.2, y.2)] ++ out.drop k) := by
              rw [rows_append, rows_append]; rfl
            rw [e] at hr
            refine k6 p' _ c' tw' _ _ w' ((H14.step0 hc).sub (.cons _ (.cons _ (.refl _)))) hr (fun a ha => ?_) (by omega) (ins_perm hpm) (srt_ins hsr (by omega) hlo (fun h => hhi (by omega))) htw' hat'
            have := hf a ha; have := H14.chg.size; omega
          refine slS_sl (i := 0) (j := k) hr14.sl rfl rfl (Nat.zero_le _) (by omega) le fun qA hA _ => ?_
          refine H14.ldStr 0 rfl (off := 0) rfl ?_
          refine H14.ldStr 0 rfl (off := 1) rfl ?_
          refine H14.ldStr 1 rfl (off := 1) rfl ⟨rfl, ?_⟩
          refine slS_sl (i := k) (j := ol) hr14.sl rfl rfl (by omega) (Nat.le_refl _) le fun qB hB _ => ?_
          rw [Nat.sub_zero]
          have nA : qA = none → k = 0 := fun e => by
            by_cases h : k - 0 = 0
            · omega
            · obtain ⟨a, ha, _⟩ := hA.at h; rw [e] at ha; cases ha
          have nB : qB = none → ol - k = 0 := fun e => by
            by_cases h : ol - k = 0
            · exact h
            · obtain ⟨a, ha, _⟩ := hB.at h; rw [e] at ha; cases ha
          have o1 : one1 [Value.string n.1, Value.string n.2, Value.string y.2] := one1_at (n.1, n.2, y.2)
          have HH := fun w' (hc : Chg No w13.drew.drew w') => nm_hp H14 hc
          refine ⟨?_, ?_⟩
          · refine newRow (sz := 3) (n := 0) (cs := []) rfl (by decide) fun b86 w15 hr86 hb86 hc15 => ⟨(HH _ hc15).1, (HH _ hc15).2, ?_, rfl, ?_⟩
            · refine appA (w0 := w13.drew.drew) hr86 (slA _ hc15 _ hA) (one1_ats _) nA (by omega) (by rintro a ⟨⟩; exact hb86) hc15 fun p18 c18 w18 hr18 hf18 hc18 _ => ?_
              refine ⟨(HH _ hc18).1, (HH _ hc18).2, rfl, ?_⟩
              refine newRow (sz := 3) (n := 1) rfl (by decide) fun b95 w19 hr95 hb95 hc19 => ?_
              refine appA (hr18.chg hc19 (off_no _)) hr95.sl o1 (by simp) (by omega) hf18 (hc18.trans0 hc19) fun p20 c20 w20 hr20 hf20 hc20 _ => ?_
              refine appA hr20 (slB _ hc20 _ hB) (one1_ats _) nB (by omega) hf20 hc20 fun p21 c21 w21 hr21 hf21 hc21 _ => ?_
              exact fin _ _ _ hr21 hf21 hc21
            · refine newRow (sz := 3) (n := 1) rfl (by decide) fun b95 w22 hr95 hb95 hc22 => ?_
              refine appA (w0 := w13.drew.drew) (hr86.chg hc22 (off_no _)) (slA _ (hc15.trans0 hc22) _ hA) (one1_ats _) nA (by omega) (by rintro a ⟨⟩; exact hb86) (hc15.trans0 hc22) fun p18 c18 w18 hr18 hf18 hc18 hi18 => ?_
              refine ⟨(HH _ hc18).1, (HH _ hc18).2, ?_⟩
              have h95 := (hr95.chg hi18 (by
                rintro a ⟨⟩ ⟨z, ⟨⟩, e⟩
                have h1 := hr86.lt _ rfl
                simp only at h1 e hb95
                omega)).sl
              refine appA hr18 h95 o1 (by simp) (by omega) hf18 hc18 fun p20 c20 w20 hr20 hf20 hc20 _ => ?_
              refine appA hr20 (slB _ hc20 _ hB) (one1_ats _) nB (by omega) hf20 hc20 fun p21 c21 w21 hr21 hf21 hc21 _ => ?_
              exact fin _ _ _ hr21 hf21 hc21
          · refine ⟨rfl, ?_⟩
            refine newRow (sz := 3) (n := 1) rfl (by decide) fun b95 w26 hr95 hb95 hc26 => ?_
            refine newRow (sz := 3) (n := 0) (cs := []) rfl (by decide) fun b86 w27 hr86 hb86 hc27 => ?_
            refine ⟨(HH _ (hc26.trans0 hc27)).1, (HH _ (hc26.trans0 hc27)).2, ?_⟩
            have f86 : fresh w26 (some (⟨b86, 0, none⟩ : Addr)) := by rintro a ⟨⟩; exact hb86
            refine appA (w0 := w26) hr86 (slA _ (hc26.trans0 hc27) _ hA) (one1_ats _) nA (by omega) f86 hc27 fun p18 c18 w18 hr18 hf18 hc18 _ => ?_
            refine ⟨(HH _ (hc26.trans0 hc18)).1, (HH _ (hc26.trans0 hc18)).2, ?_⟩
            refine appA hr18 (hr95.chg hc18 (off_no _)).sl o1 (by simp) (by omega) hf18 hc18 fun p20 c20 w20 hr20 hf20 hc20 _ => ?_
            refine appA hr20 (slB _ (hc26.trans0 hc20) _ hB) (one1_ats _) nB (by omega) hf20 hc20 fun p21 c21 w21 hr21 hf21 hc21 _ => ?_
            exact fin _ _ _ hr21 (fun a ha => Nat.le_trans hc26.size (hf21 a ha)) (hc26.trans0 hc21)
        clear hJ7
        have hmem := name_mem hsr (by omega : k ≤ out.length) hlo (fun h => hhi (by omega))
        have hpn : nameOf (n.1, n.2, y.2) ∈ names out ↔ nameOf (n.1, n.2, y.2) ∈ names acc := (hpm.map nameOf).mem_iff
        have hds := dup_snoc (acc := acc) (x := (n.1, n.2, y.2))
        refine condB_i (fun h => k7 true ?_) (fun h => ?_)
        · rw [hds]; exact ⟨fun _ => .inl (htw.1 h), fun _ => rfl⟩
        have hnd : ¬ Dup acc := fun hd => by rw [htw.2 hd] at h; cases h
        refine condB_d (fun hkl => ?_) (fun hge => k7 false ?_)
        · refine at_i hr13.sl (n := k) rfl (by omega) fun a e0 e1 _ => ldStr_i e0 (ldStr_i e1 ?_)
          refine H13.ldStr 0 rfl (off := 0) rfl ?_
          refine H13.ldStr 0 rfl (off := 1) rfl ?_
          refine k7 _ ?_
          rw [hds, ← hpn, hmem]
          simp only [Bool.and_eq_true, decide_eq_true_eq]
          refine ⟨fun e => .inr ⟨by omega, Prod.ext e.1 e.2⟩, fun e => ?_⟩
          rcases e with e | e
          · exact absurd e hnd
          · have h := e.2
            unfold nameOf at h
            simpa using h
        · rw [hds, ← hpn, hmem]
          refine ⟨(fun h => by cases h), fun h => ?_⟩
          rcases h with h | h
          · exact absurd h hnd
          · omega
      clear hJ67
      refine condB_d (fun hkl => ?_) (fun hge => k67f _ (Chg.refl _ _) (fun h => absurd h (by omega)))
      refine at_i hr12.sl (n := k) rfl (by omega) fun a e0 e1 _ => ldStr_i e0 (ldStr_i e1 ?_)
      refine H12.ldStr 0 rfl (off := 0) rfl ?_
      refine H12.ldStr 0 rfl (off := 1) rfl ?_
      refine Before_ok (a := nameOf (pf out k)) (b := n) fun w29 hc29 => ?_
      cases hb : nLt (nameOf (pf out k)) n with
      | true => exact k67t w29 hc29 (by omega) hb
      | false => exact k67f w29 hc29 (fun _ => hb)
    clear hJ0
    refine condB_not (fun hne => ?_) (fun he => ?_)
    · have hne' : sa ≠ kE := of_decide_eq_false hne
      rw [if_neg hne'] at hat1
      refine H10.ldS 2 rfl (off := 0) rfl ?_
      refine H10.ldS 2 rfl (off := 1) rfl ?_
      refine RBound_ok (h1.chg H10.chg (off_no _)) (h2.chg H10.chg (off_no _)) hm fun w30 hc30 => ?_
      have H30 := H10.step0 hc30
      refine condB_not (fun hf => ?_) (fun ht2 => ?_)
      · rw [if_pos hf] at hat1
        rw [hat1, if_pos (by simp)] at hat
        have := K1 (by rw [← hat]; decide) w30 H30.chg
        rw [← hat] at this; exact this
      · rw [if_neg (by simp [ht2])] at hat1
        refine H30.stV 0 rfl (off := 0) (by simp [pr]) fun w31 H31 hc31 => ?_
        refine k0 ((boundR R sa).1, sb) w31 hat1 H31 ((hra.chg hc30 (off_no _)).chg hc31 fun a ha e => ?_)
        have t15 : typ w30 b15 = some T_api_Name := typ_of (H30.get 0 rfl)
        have := (hra.chg hc30 (off_no _)).typ a ha
        rw [e] at this; exact absurd (this.symm.trans t15) (by decide)
    · have he' : sa = kE := of_decide_eq_true he
      rw [if_pos he'] at hat1
      exact k0 (kE, sb) w10 hat1 H10 hra
  · rw [List.drop_of_length_le (by omega)] at hat
    have hat' : attrsA (boundR R) L [] = (acc, 0) := hat.symm
    rw [hat'] at K1 K2 K3
    refine condB_i (fun h => K2 rfl (htw.1 h) w3 H3.chg) (fun h => ?_)
    have hnd : (names acc).Nodup := Classical.byContradiction fun hd => by
      have := htw.2 hd
      rw [this] at h; cases h
    exact K3 rfl out hpm (srt_asc hsr ((perm_names hpm).2 hnd)) op ol oc w3 hr3 hf3 (by omega) H3.chg
end
end Go.Proofs.YtdjehimkijlhgaaDoor

