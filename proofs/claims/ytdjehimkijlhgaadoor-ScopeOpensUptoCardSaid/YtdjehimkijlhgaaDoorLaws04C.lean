/-
  Chapter 04's statement ScopeOpens.
-/
import Derived.Test.YtdjehimkijlhgaaDoorLaws04B
import Derived.Test.YtdjehimkijlhgaaDoorSortS
set_option linter.unusedVariables false
set_option linter.unusedSimpArgs false
namespace Go.Vc
open Go Go.Lib
/-- What the prefixes are. -/
def PfxR (R : List Pr) (X : List ByteArray) : Prop := SAsc X ∧ ∀ s, s ∈ X ↔ s ∈ R.map Prod.fst ∧ s ≠ kXml ∧ (boundR R s).1 ≠ kE
def PfxB (B : List Pr) (X : List ByteArray) : Prop := SAsc X ∧ ∀ s, s ∈ X ↔ s ∈ B.map Prod.fst
theorem mem_R {R : List Pr} {s : ByteArray} (hx : s ≠ kXml) (h : (boundR R s).1 ≠ kE) : s ∈ R.map Prod.fst := by
  unfold boundR at h
  rw [if_neg hx] at h
  cases hf : R.reverse.find? (fun b => decide (b.1 = s)) with
  | none => rw [hf] at h; exact absurd rfl h
  | some b =>
    obtain ⟨h1, h2⟩ := find_eq hf
    exact List.mem_map.2 ⟨b, List.mem_reverse.1 h2, h1⟩
theorem mem_B {B : List Pr} {s : ByteArray} (hx : s ≠ kXml) (h : (boundP B s).1 ≠ kE) : s ∈ B.map Prod.fst := by
  unfold boundP at h
  rw [if_neg hx] at h
  cases hf : B.find? (fun b => decide (b.1 = s)) with
  | none => rw [hf] at h; exact absurd rfl h
  | some b =>
    obtain ⟨h1, h2⟩ := find_eq hf
    exact List.mem_map.2 ⟨b, h2, h1⟩
theorem pfx_same {B R : List Pr} (h : Rel B R) {X Y : List ByteArray} (hX : PfxB B X) (hY : PfxR R Y) : X = Y := by
  refine sasc_uniq hX.1 hY.1 fun s => ?_
  rw [hX.2, hY.2]
  constructor
  · intro hs
    obtain ⟨b, hb, rfl⟩ := List.mem_map.1 hs
    have hx := (h.good b hb).1
    have hne : (boundP B b.1).1 ≠ kE := by
      unfold boundP
      rw [if_neg hx]
      cases hf : B.find? (fun b' => decide (b'.1 = b.1)) with
      | none =>
        have := List.find?_eq_none.1 hf b hb
        simp at this
      | some b' => exact (h.good b' (find_eq hf).2).2
    rw [h.bound] at hne
    exact ⟨mem_R hx hne, hx, hne⟩
  · rintro ⟨h1, h2, h3⟩
    rw [← h.bound] at h3
    exact mem_B h2 h3
end Go.Vc
namespace Go.Proofs.YtdjehimkijlhgaaDoor
open Go Go.Vc Go.Lib
section
variable {w : World}
theorem appT {w0 wa : World} {p q : Option Addr} {l c m c2 : Nat} {xs news : List Value} {K : Option Addr → Nat → Nat → World → Prop} (hr : Row wa T_string 1 p l c xs) (src : Sl wa q m 1 news) (h1 : one1 news) (hn : q = none → m = 0) (hlm : l + m ≤ 2000000000)
    (hf : fresh w0 p) (hc : Chg No w0 wa) (k : ∀ p' c' w', Row w' T_string 1 p' (l + m) c' (xs ++ news) → fresh w0 p' → Chg No w0 w' → Chg (isB p) wa w' → K p' (l + m) c' w') :
    appJ Tryd.prog T_sl_string T_sl_string (.slice p l c) (.slice q m c2) wa K := by
  refine appJ_row slT_string hr src h1 hn (by omega) (by simp only [maxLen]; omega) fun p' c' w' hr' hc' hf' => ?_
  refine k p' c' w' hr' ?_ (hc.trans hc' (fresh_no hf)) hc'
  rcases hf' with rfl | hf'
  · exact hf
  · intro a ha; have := hf' a ha; have := hc.size; omega

theorem Prefixes_ok {p : Option Addr} {l c : Nat} {B : List Pr} {J : Option Addr → Nat → Nat → World → Prop} (h : Sl w p l 2 (rows pr B)) (hm : l ≤ 1000000000) (nd : (B.map Prod.fst).Nodup)
    (K : ∀ X p' l' c' w', PfxB B X → Row w' T_string 1 p' l' c' (strs X) → fresh w p' → l' ≤ l → Chg No w w' → J p' l' c' w') :
    callJ Tryd.prog fn_scope_Scope_Prefixes #[.agg ⟨[.slice p l c]⟩] w [.one .slice] J := by
  refine c_scope_Scope_Prefixes ?_
  unfold VC_scope_Scope_Prefixes
  rw [zeroC_bind]
  have hll := h.row (even_pr B) (by decide)
  refine (Hp.start w No).newB fun b1 w1 H1 _ hc1 => ?_
  refine H1.ldS 0 rfl (off := 0) rfl ?_
  refine ⟨fun op ol oc x w' t => ∃ i : Nat, x = i ∧ i ≤ l ∧ t = l - i ∧ i = ol ∧ Chg No w w' ∧ Row w' T_string 1 op ol oc (strs ((B.take i).map Prod.fst)) ∧ fresh w op, ⟨_, 0, rfl, Nat.zero_le _, rfl, rfl, hc1, Row.nil _ _ _, by rintro a ⟨⟩⟩, ?_⟩
  rintro op ol oc x w2 t ⟨i, rfl, hi, rfl, rfl, hc2, hr2, hf2⟩
  refine condB_d (fun hlt => ?_) (fun hge => ?_)
  · refine pr_i (h.chg hc2 (off_no _)) (by omega) hlt fun a y hy e1 e2 => ldStr_i e1 (ldStr_i e2 ?_)
    rw [Int.toNat_natCast] at hy
    refine (Hp.of_chg (S := No) hc2).newB fun b5 w3 H3 hb5 hc3 => ?_
    refine H3.stN 0 rfl (off := 0) rfl (by simp) (one1_pr _) fun w4 H4 hc4 => ?_
    have e5 : splice [Value.string ByteArray.empty, Value.string ByteArray.empty] 0 (pr y) = pr y := splice_all rfl
    simp only [List.set_cons_zero] at H4
    rw [show splice [Value.string ByteArray.empty, Value.string ByteArray.empty] 0 [Value.string y.1, Value.string y.2] = pr y from e5] at H4
    have c24 : Chg No w2 w4 := hc3.trans hc4 fun b hb e => by subst e; omega
    refine H4.ldStr 0 rfl (off := 0) rfl ?_
    refine newRow (sz := 1) (n := 1) rfl (by decide) fun b16 w5 hr5 _ hc5 => ?_
    refine appT (w0 := w) ((hr2.chg c24 (off_no _)).chg hc5 (off_no _)) hr5.sl (one1_cons rfl one1_nil) (by simp) (by omega) hf2 (H4.chg.trans0 hc5) fun p' c' w' hr' hf' hc' _ => ?_
    have e : strs ((B.take i).map Prod.fst) ++ [Value.string y.1] = strs ((B.take (i + 1)).map Prod.fst) := by
      obtain ⟨g1, g2⟩ := List.getElem?_eq_some_iff.1 hy
      rw [List.take_succ_eq_append_getElem g1, g2]
      simp [strs]
    rw [e] at hr'
    exact ⟨_, by omega, i + 1, by rw [w64_of] <;> omega, by omega, rfl, rfl, hc', hr', hf'⟩
  · have hi' : i = l := by omega
    subst hi'
    rw [List.take_of_length_le (by omega)] at hr2
    refine SortS_ok hr2 hm fun ys w' hp hs hr' hc' => ?_
    refine K ys op i oc w' ⟨?_, fun s => hp.mem_iff⟩ hr' hf2 (Nat.le_refl _) (hc2.trans hc' (fresh_no hf2))
    have hnd : ys.Nodup := hp.nodup_iff.2 nd
    refine (hs.and hnd).imp fun {a b} h => ?_
    rcases sLt_tri a b with k | k | k
    · exact k
    · exact absurd k h.2
    · rw [k] at h; cases h.1

theorem RPrefixes_ok {p q : Option Addr} {l c d : Nat} {R : List Pr} {J : Option Addr → Nat → Nat → World → Prop} (h1 : Sl w p l 1 (strs (R.map Prod.fst))) (h2 : Sl w q l 1 (strs (R.map Prod.snd))) (hm : l ≤ 1000000000)
    (K : ∀ X p' l' c' w', PfxR R X → Sl w' p' l' 1 (strs X) → l' ≤ l → Chg No w w' → J p' l' c' w') :
    callJ Tryd.prog fn_ref04_Prefixes #[.agg ⟨[.slice p l c, .slice q l d]⟩] w [.one .slice] J := by
  refine c_ref04_Prefixes ?_
  unfold VC_ref04_Prefixes
  rw [show (⟨#[]⟩ : ByteArray) = kE from rfl, show (⟨#[120, 109, 108]⟩ : ByteArray) = kXml from rfl]
  simp only [beqS]
  have hRl : R.length = l := by have := h1.1; rw [strs_length, List.length_map] at this; omega
  refine (Hp.start w No).newB fun b1 w1 H1 _ hc1 => ?_
  refine newRow (sz := 1) (n := 0) (cs := []) rfl (by decide) fun b9 w2 hr9 hb9 hc2 => ?_
  have H2 := H1.step0 hc2
  refine H2.ldS 0 rfl (off := 0) rfl ?_
  refine ⟨fun op ol oc x w' t => ∃ (i : Nat) (X : List ByteArray), x = i ∧ i ≤ l ∧ t = l - i ∧ Hp w No w' [⟨b1, [.slice p l c, .slice q l d], T_ref04_Scope⟩] ∧ Row w' T_string 1 op ol oc (strs X) ∧ fresh w op ∧ ol ≤ i ∧ SAsc X ∧ ∀ s, s ∈ X ↔ s ∈ (R.take i).map Prod.fst ∧ s ≠ kXml ∧ (boundR R s).1 ≠ kE,
    ⟨_, 0, [], rfl, Nat.zero_le _, rfl, H2, hr9, by rintro a ⟨⟩; exact Nat.le_trans H1.chg.size hb9, Nat.le_refl _, List.Pairwise.nil, by simp⟩, ?_⟩
  rintro op ol oc x w3 t ⟨i, X, rfl, hi, rfl, H3, hr3, hf3, hol, hs3, hm3⟩
  refine condB_d (fun hlt => ?_) (fun hge => ?_)
  · refine withJ_i fun J3 hJ3 => ?_
    have k3 : ∀ op' ol' oc' X' w3, Hp w No w3 [⟨b1, [.slice p l c, .slice q l d], T_ref04_Scope⟩] → Row w3 T_string 1 op' ol' oc' (strs X') → fresh w op' → ol' ≤ i + 1 → SAsc X' → (∀ s, s ∈ X' ↔ s ∈ (R.take (i + 1)).map Prod.fst ∧ s ≠ kXml ∧ (boundR R s).1 ≠ kE) → J3 op' ol' oc' w3 := by
      intro op' ol' oc' X' w3 g1 g2 g3 g4 g5 g6; subst hJ3
      exact ⟨_, by omega, i + 1, X', by rw [w64_of] <;> omega, by omega, rfl, g1, g2, g3, g4, g5, g6⟩
    clear hJ3
    refine str_i (h1.chg H3.chg (off_no _)) (by omega) hlt fun s hs => ?_
    rw [Int.toNat_natCast, List.getElem?_map] at hs
    obtain ⟨y, hy, rfl⟩ := Option.map_eq_some_iff.1 hs
    have htk : (R.take (i + 1)).map Prod.fst = (R.take i).map Prod.fst ++ [y.1] := by
      obtain ⟨g1, g2⟩ := List.getElem?_eq_some_iff.1 hy
      rw [List.take_succ_eq_append_getElem g1, g2]; simp
    have hmem : ∀ s, s ∈ (R.take (i + 1)).map Prod.fst ↔ s ∈ (R.take i).map Prod.fst ∨ s = y.1 := by intro s; rw [htk]; simp
    refine H3.ldS 0 rfl (off := 0) rfl ?_
    refine H3.ldS 0 rfl (off := 1) rfl ?_
    refine RBound_ok (h1.chg H3.chg (off_no _)) (h2.chg H3.chg (off_no _)) (by omega) fun w5 hc5 => ?_
    have H5 := H3.step0 hc5
    have hr5 := hr3.chg hc5 (off_no _)
    refine withJ_i fun J28 hJ28 => ?_
    have k28t : (y.1 = kXml ∨ (boundR R y.1).1 = kE) → J28 true w5 := by
      intro hh; subst hJ28
      refine condB_i (fun _ => ?_) (fun h => by cases h)
      refine k3 op ol oc X w5 H5 hr5 hf3 (by omega) hs3 fun s => ?_
      rw [hm3, hmem]
      constructor
      · rintro ⟨a, b⟩; exact ⟨.inl a, b⟩
      · rintro ⟨a | rfl, b⟩
        · exact ⟨a, b⟩
        · rcases hh with h | h
          · exact absurd h b.1
          · exact absurd h b.2
    have k28f : y.1 ≠ kXml → (boundR R y.1).1 ≠ kE → J28 false w5 := by
      intro n1 n2; subst hJ28
      refine condB_i (fun h => by cases h) (fun _ => ?_)
      have hXl : X.length = ol := by have := hr3.len; rw [strs_length] at this; omega
      have have3 : ∀ X' : List ByteArray, (∀ s, s ∈ X' ↔ s ∈ X ∨ s = y.1) → ∀ s, s ∈ X' ↔ s ∈ (R.take (i + 1)).map Prod.fst ∧ s ≠ kXml ∧ (boundR R s).1 ≠ kE := by
        intro X' h s
        rw [h, hm3, hmem]
        constructor
        · rintro (⟨a, b⟩ | rfl)
          · exact ⟨.inl a, b⟩
          · exact ⟨.inr rfl, n1, n2⟩
        · rintro ⟨a | a, b⟩
          · exact .inl ⟨a, b⟩
          · exact .inr a
      refine ⟨fun x w' t => ∃ k : Nat, x = k ∧ k ≤ ol ∧ t = ol - k ∧ Chg No w5 w' ∧ ∀ j, j < k → sLt (pf X j) y.1 = true, ⟨_, 0, rfl, Nat.zero_le _, rfl, Chg.refl _ _, fun j hj => by omega⟩, ?_⟩
      rintro x w7 t ⟨k, rfl, hk, rfl, hc7, hlo⟩
      have H7 := H5.step0 hc7
      have hr7 := hr5.chg hc7 (off_no _)
      refine withJ_i fun J40 hJ40 => ?_
      have k40t : sLt (pf X k) y.1 = true → k < ol → J40 true w7 := by
        intro ha hkl; subst hJ40
        refine condB_i (fun _ => ?_) (fun h => by cases h)
        refine ⟨_, by omega, k + 1, by rw [w64_of] <;> omega, by omega, rfl, hc7, fun j hj => ?_⟩
        by_cases e : j = k
        · subst e; exact ha
        · exact hlo j (by omega)
      have k40f : (k < ol → sLt (pf X k) y.1 = false) → J40 false w7 := by
        intro hhi; subst hJ40
        refine condB_i (fun h => by cases h) (fun _ => ?_)
        refine withJ_i fun J54 hJ54 => ?_
        have k54f : k < ol → pf X k = y.1 → J54 false w7 := by
          intro hkl he; subst hJ54
          refine condB_i (fun h => by cases h) (fun _ => ?_)
          refine k3 op ol oc X w7 H7 hr7 hf3 (by omega) hs3 (have3 X fun s => ⟨.inl, fun h => ?_⟩)
          rcases h with h | h
          · exact h
          · rw [h, ← he]; exact List.mem_of_getElem? (pf_get (by omega))
        have k54t : (k < ol → pf X k ≠ y.1) → J54 true w7 := by
          intro hne; subst hJ54
          refine condB_i (fun _ => ?_) (fun h => by cases h)
          have H14 := H7.drew
          have hr14 := hr7.chg (Chg.refl No w7).drew (off_no _)
          have le := hr14.le.1
          have slA : ∀ w', Chg No w7.drew w' → ∀ q', Sl w7.drew q' (k - 0) 1 (((strs X).drop (0 * 1)).take ((k - 0) * 1)) → Sl w' q' k 1 (strs (X.take k)) := by
            intro w' hc' q' h
            have := h.chg hc' (off_no _)
            have e : ((strs X).drop (0 * 1)).take ((k - 0) * 1) = strs (X.take k) := by simp [strs]
            rw [e] at this
            exact this
          have slB : ∀ w', Chg No w7.drew w' → ∀ q', Sl w7.drew q' (ol - k) 1 (((strs X).drop (k * 1)).take ((ol - k) * 1)) → Sl w' q' (ol - k) 1 (strs (X.drop k)) := by
            intro w' hc' q' h
            have := h.chg hc' (off_no _)
            have e : ((strs X).drop (k * 1)).take ((ol - k) * 1) = strs (X.drop k) := by
              rw [Nat.mul_one, Nat.mul_one, List.take_of_length_le (by rw [List.length_drop, strs_length]; omega)]
              simp [strs]
            rw [e] at this
            exact this
          have fin : ∀ p' c' w', Row w' T_string 1 p' (0 + k + 1 + (ol - k)) c' (([] ++ strs (X.take k)) ++ [Value.string y.1] ++ strs (X.drop k)) → fresh w7.drew p' → Chg No w7.drew w' → J3 p' (0 + k + 1 + (ol - k)) c' w' := by
            intro p' c' w' hr hf hc
            have e : ([] ++ strs (X.take k)) ++ [Value.string y.1] ++ strs (X.drop k) = strs (X.take k ++ [y.1] ++ X.drop k) := by simp [strs]
            rw [e] at hr
            refine k3 p' _ c' _ w' (H14.step0 hc) hr (fun a ha => Nat.le_trans H14.chg.size (hf a ha)) (by omega) (sasc_ins hs3 (by omega) hlo (fun h => ?_)) (have3 _ fun s => ?_)
            · rcases sLt_tri (pf X k) y.1 with h' | h' | h'
              · rw [hhi (by omega)] at h'; cases h'
              · exact absurd h' (hne (by omega))
              · exact h'
            · have hm : s ∈ X ↔ s ∈ X.take k ∨ s ∈ X.drop k := by rw [← List.mem_append, List.take_append_drop]
              rw [hm]
              simp only [List.mem_append, List.mem_singleton]
              constructor
              · rintro ((a | a) | a)
                · exact .inl (.inl a)
                · exact .inr a
                · exact .inl (.inr a)
              · rintro ((a | a) | a)
                · exact .inl (.inl a)
                · exact .inr a
                · exact .inl (.inr a)
          refine slS_sl (i := 0) (j := k) hr14.sl rfl rfl (Nat.zero_le _) (by omega) le fun qA hA _ => ?_
          refine slS_sl (i := k) (j := ol) hr14.sl rfl rfl (by omega) (Nat.le_refl _) le fun qB hB _ => ?_
          rw [Nat.sub_zero]
          have nA : qA = none → k = 0 := fun e => by
            by_cases h : k - 0 = 0
            · omega
            · obtain ⟨a, ha, _⟩ := hA.at h; rw [e] at ha; cases ha
          have nB : qB = none → ol - k = 0 := fun e => by
            by_cases h : ol - k = 0
            · exact h
            · obtain ⟨a, ha, _⟩ := hB.at h; rw [e] at ha; cases ha
          have o1 : one1 [Value.string y.1] := one1_cons rfl one1_nil
          refine ⟨?_, ?_⟩
          · refine newRow (sz := 1) (n := 0) (cs := []) rfl (by decide) fun b86 w15 hr86 hb86 hc15 => ⟨?_, ?_⟩
            · refine appT (w0 := w7.drew) hr86 (slA _ hc15 _ hA) (one1_strs _) nA (by omega) (by rintro a ⟨⟩; exact hb86) hc15 fun p18 c18 w18 hr18 hf18 hc18 _ => ?_
              refine newRow (sz := 1) (n := 1) rfl (by decide) fun b95 w19 hr95 hb95 hc19 => ?_
              refine appT (hr18.chg hc19 (off_no _)) hr95.sl o1 (by simp) (by omega) hf18 (hc18.trans0 hc19) fun p20 c20 w20 hr20 hf20 hc20 _ => ?_
              refine appT hr20 (slB _ hc20 _ hB) (one1_strs _) nB (by omega) hf20 hc20 fun p21 c21 w21 hr21 hf21 hc21 _ => ?_
              exact fin _ _ _ hr21 hf21 hc21
            · refine newRow (sz := 1) (n := 1) rfl (by decide) fun b95 w22 hr95 hb95 hc22 => ?_
              refine appT (w0 := w7.drew) (hr86.chg hc22 (off_no _)) (slA _ (hc15.trans0 hc22) _ hA) (one1_strs _) nA (by omega) (by rintro a ⟨⟩; exact hb86) (hc15.trans0 hc22) fun p18 c18 w18 hr18 hf18 hc18 hi18 => ?_
              have h95 := (hr95.chg hi18 (by
                rintro a ⟨⟩ ⟨z, ⟨⟩, e⟩
                have h1 := hr86.lt _ rfl
                simp only at h1 e hb95
                omega)).sl
              refine appT hr18 h95 o1 (by simp) (by omega) hf18 hc18 fun p20 c20 w20 hr20 hf20 hc20 _ => ?_
              refine appT hr20 (slB _ hc20 _ hB) (one1_strs _) nB (by omega) hf20 hc20 fun p21 c21 w21 hr21 hf21 hc21 _ => ?_
              exact fin _ _ _ hr21 hf21 hc21
          · refine newRow (sz := 1) (n := 1) rfl (by decide) fun b95 w26 hr95 hb95 hc26 => ?_
            refine newRow (sz := 1) (n := 0) (cs := []) rfl (by decide) fun b86 w27 hr86 hb86 hc27 => ?_
            have f86 : fresh w26 (some (⟨b86, 0, none⟩ : Addr)) := by rintro a ⟨⟩; exact hb86
            refine appT (w0 := w26) hr86 (slA _ (hc26.trans0 hc27) _ hA) (one1_strs _) nA (by omega) f86 hc27 fun p18 c18 w18 hr18 hf18 hc18 _ => ?_
            refine appT hr18 (hr95.chg hc18 (off_no _)).sl o1 (by simp) (by omega) hf18 hc18 fun p20 c20 w20 hr20 hf20 hc20 _ => ?_
            refine appT hr20 (slB _ (hc26.trans0 hc20) _ hB) (one1_strs _) nB (by omega) hf20 hc20 fun p21 c21 w21 hr21 hf21 hc21 _ => ?_
            exact fin _ _ _ hr21 (fun a ha => Nat.le_trans hc26.size (hf21 a ha)) (hc26.trans0 hc21)
        clear hJ54
        by_cases hkl : k = ol
        · subst hkl
          refine condB_i (fun _ => k54t (fun h => by omega)) (fun h => by simp at h)
        · refine condB_i (fun h => by simp at h; omega) (fun _ => ?_)
          refine str_i hr7.sl (by omega) (by omega) fun s hs' => ?_
          rw [Int.toNat_natCast, pf_get (by omega)] at hs'
          obtain rfl := Option.some.inj hs'
          by_cases he : pf X k = y.1
          · rw [decide_eq_true he]; exact k54f (by omega) he
          · rw [decide_eq_false he]; exact k54t (fun _ => he)
      clear hJ40
      refine condB_d (fun hkl => ?_) (fun hge => k40f (fun h => by omega))
      refine str_i hr7.sl (by omega) hkl fun s hs' => ?_
      rw [Int.toNat_natCast, pf_get (by omega)] at hs'
      obtain rfl := Option.some.inj hs'
      cases hb : sLt (pf X k) y.1 with
      | true => rw [show Op.bytesLess (pf X k).toList y.1.toList = true from hb]; exact k40t hb (by omega)
      | false => rw [show Op.bytesLess (pf X k).toList y.1.toList = false from hb]; exact k40f (fun _ => hb)
    clear hJ28
    refine condB_d (fun h => k28t (.inl h)) (fun hx => ?_)
    by_cases he : (boundR R y.1).1 = kE
    · rw [decide_eq_true he]; exact k28t (.inr he)
    · rw [decide_eq_false he]; exact k28f hx he
  · have hi' : i = l := by omega
    subst hi'
    rw [List.take_of_length_le (by omega)] at hm3
    exact K X op ol oc w3 ⟨hs3, hm3⟩ hr3.sl hol H3.chg

theorem ScopeOpens_ok {v : PPV} {q : ByteArray} (T : Tabs w) (hv : PPV.Good w v) (hq : InS q) (hsum : v.sum ≤ 1048576) : callJ Tryd.prog fn_law04_ScopeOpens #[.slice v.p v.l v.c, .string q] w [.one .bool] fun r w' => r = true ∧ Chg No w w' := by
  refine c_law04_ScopeOpens ?_
  unfold VC_law04_ScopeOpens
  refine awake04_ok T fun w1 hc1 => ?_
  refine condB_i (fun h => by simp at h) fun _ => ?_
  refine Opened_ok (ppv_chg hv hc1) (by omega) (T.chg hc1) fun B R sp sl sc tp tl tc tq td w2 hrel hB nB hP hU nP nU bB bR _ _ _ hc2 => ?_
  rw [zeroC_rscope]
  have c02 := hc1.trans0 hc2
  have H2 : Hp w No w2 [] := Hp.of_chg c02
  rw [zeroC_scope]
  refine H2.newB fun b5 w3 H3 hb5 hc3 => ?_
  refine H3.newB fun b6 w4 H4 hb6 hc4 => ?_
  refine H4.stN 1 rfl (off := 0) rfl (by simp) (one1_cons rfl one1_nil) fun w5 H5 hc5 => ?_
  refine H5.stN 0 rfl (off := 0) rfl (by simp) (one1_cons rfl (one1_cons rfl one1_nil)) fun w6 H6 hc6 => ?_
  simp only [List.set_cons_succ, List.set_cons_zero] at H6
  have c26 : Chg No w2 w6 := by
    refine ((hc3.trans0 hc4).trans hc5 fun b hb e => ?_).trans hc6 fun b hb e => ?_
    · subst e; omega
    · subst e; have := hc3.size; omega
  refine condB_i (fun h => by cases h) fun _ => ?_
  refine H6.ldS 1 rfl (off := 0) rfl ?_
  refine Prefixes_ok (hB.chg c26 (off_no _)) (by omega) hrel.nd fun X p7 l7 c7 w7 hX hr7 hf7 hl7 hc7 => ?_
  refine newRow (sz := 1) (n := 5) rfl (by decide) fun b30 w8 hr8 hb8 hc8 => ?_
  refine appT (w0 := w6) (hr7.chg hc8 (off_no _)) hr8.sl (one1_cons rfl (one1_cons rfl (one1_cons rfl (one1_cons rfl (one1_cons rfl one1_nil))))) (by simp) (by omega) hf7 (hc7.trans0 hc8) fun p9 c9 w9 hr9 hf9 hc9 _ => ?_
  have H9 := H6.step0 hc9
  have c29 := c26.trans0 hc9
  obtain ⟨Z, hZ⟩ : ∃ Z, strs X ++ [Value.string q, .string ⟨#[]⟩, .string ⟨#[120, 109, 108]⟩, .string ⟨#[120, 109, 108, 110, 115]⟩, .string ⟨#[112]⟩] = strs Z := ⟨X ++ [q, ⟨#[]⟩, ⟨#[120, 109, 108]⟩, ⟨#[120, 109, 108, 110, 115]⟩, ⟨#[112]⟩], by simp [strs]⟩
  rw [hZ] at hr9
  generalize hn : l7 + 5 = n at hr9
  refine ⟨fun x w' t => ∃ i : Nat, x = i ∧ i ≤ n ∧ t = n - i ∧ Chg No w9 w', ⟨_, 0, rfl, Nat.zero_le _, rfl, Chg.refl _ _⟩, ?_⟩
  rintro x w10 t ⟨i, rfl, hi, rfl, hc10⟩
  have H10 := H9.step0 hc10
  have c2a := c29.trans0 hc10
  refine condB_d (fun hlt => ?_) (fun hge => ?_)
  · refine str_i (hr9.chg hc10 (off_no _)).sl (by omega) hlt fun s hs => ?_
    refine H10.ldS 1 rfl (off := 0) rfl ?_
    refine Bound_ok (hB.chg c2a (off_no _)) (by omega) fun w11 hc11 => ?_
    have H11 := H10.step0 hc11
    refine H11.ldS 0 rfl (off := 0) rfl ?_
    refine H11.ldS 0 rfl (off := 1) rfl ?_
    refine RBound_ok ((hP.chg c2a (off_no _)).chg hc11 (off_no _)) ((hU.chg c2a (off_no _)).chg hc11 (off_no _)) (by omega) fun w12 hc12 => ?_
    rw [hrel.bound s]
    refine withJ_i fun J56 hJ56 => ?_
    subst hJ56
    refine condB_i (fun h => by simp at h) fun _ => ?_
    refine condB_i (fun h => by simp at h) fun _ => ?_
    exact ⟨_, by omega, i + 1, by rw [w64_of] <;> omega, by omega, rfl, (hc10.trans0 hc11).trans0 hc12⟩
  · have H10d := H10.drew
    have c2d := c2a.drew
    refine H10d.ldS 1 rfl (off := 0) rfl ?_
    refine H10d.ldS 0 rfl (off := 0) rfl ?_
    refine H10d.ldS 0 rfl (off := 1) rfl ?_
    refine Prefixes_ok (hB.chg c2d (off_no _)) (by omega) hrel.nd fun X p14 l14 c14 w14 hX hr14 hf14 hl14 hc14 => ?_
    have H14 := H10d.step0 hc14
    refine ⟨H14.cells 0 rfl 0, ?_⟩
    have c2e := c2d.trans0 hc14
    refine RPrefixes_ok (hP.chg c2e (off_no _)) (hU.chg c2e (off_no _)) (by omega) fun Y p15 l15 c15 w15 hY hs15 hl15 hc15 => ?_
    obtain rfl := pfx_same hrel hX hY
    have e1 := hr14.len
    have e2 := hs15.len
    obtain rfl : l14 = l15 := by omega
    refine condB_ne (fun h => absurd rfl h) fun _ => ?_
    have H15 := H14.step0 hc15
    refine ⟨fun x w' t => ∃ i : Nat, x = i ∧ i ≤ l14 ∧ t = l14 - i ∧ Chg No w15 w', ⟨_, 0, rfl, Nat.zero_le _, rfl, Chg.refl _ _⟩, ?_⟩
    rintro x w16 t ⟨i, rfl, hi, rfl, hc16⟩
    refine condB_d (fun hlt => ?_) (fun hge => ⟨rfl, (H15.step0 hc16).chg⟩)
    refine str_i ((hr14.chg hc15 (off_no _)).chg hc16.drew (off_no _)).sl (by omega) hlt fun s hs => ?_
    refine str_i (hs15.chg hc16.drew (off_no _)) (by omega) hlt fun s' hs' => ?_
    rw [hs] at hs'
    obtain rfl := Option.some.inj hs'
    refine condB_i (fun h => by simp at h) fun _ => ?_
    exact ⟨_, by omega, i + 1, by rw [w64_of] <;> omega, by omega, rfl, hc16.drew⟩
end
end Go.Proofs.YtdjehimkijlhgaaDoor

