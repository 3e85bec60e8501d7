/-
  Attributes: the program's and the document's.
-/
import Derived.Test.YtdjehimkijlhgaaDoorSortX
import Derived.Test.YtdjehimkijlhgaaDoorLaws04
set_option linter.unusedVariables false
set_option linter.unusedSimpArgs false
namespace Go.Vc
open Go Go.Lib
abbrev BoundF := ByteArray → ByteArray × Bool
def attr1 (bound : BoundF) (x : Pr) : At × Int :=
  if (spl (bl x.1)).2.2 = false then ((kE, kE, kE), 24) else if (spl (bl x.1)).1 = [] then ((kE, mkB (spl (bl x.1)).2.1, x.2), 0)
  else if (bound (mkB (spl (bl x.1)).1)).2 = false then ((kE, kE, kE), 28) else (((bound (mkB (spl (bl x.1)).1)).1, mkB (spl (bl x.1)).2.1, x.2), 0)
def attrsA (bound : BoundF) : List Pr → List At → List At × Int
  | [], acc => (acc, 0)
  | x :: L, acc => if (decl x).isSome = true then attrsA bound L acc else if (attr1 bound x).2 ≠ 0 then ([], (attr1 bound x).2) else attrsA bound L (acc ++ [(attr1 bound x).1])
theorem attrsA_drop {bound : BoundF} {L : List Pr} {i : Nat} {x : Pr} (h : L[i]? = some x) (acc : List At) : attrsA bound (L.drop i) acc = if (decl x).isSome = true then attrsA bound (L.drop (i + 1)) acc else if (attr1 bound x).2 ≠ 0 then ([], (attr1 bound x).2) else attrsA bound (L.drop (i + 1)) (acc ++ [(attr1 bound x).1]) := by
  obtain ⟨g1, g2⟩ := List.getElem?_eq_some_iff.1 h
  rw [List.drop_eq_getElem_cons g1, g2]; rfl
def names (X : List At) : List Pr := X.map nameOf
def Asc (X : List At) : Prop := X.Pairwise fun a b => aLt a b = true
def Dup (X : List At) : Prop := ¬ (names X).Nodup
theorem asc_uniq : ∀ {X Y : List At}, Asc X → Asc Y → X.Perm Y → X = Y
  | [], Y, _, _, h => (List.Perm.eq_nil h.symm).symm
  | x :: X, [], _, _, h => by have := h.length_eq; simp at this
  | x :: X, y :: Y, hx, hy, h => by
    have h1 := List.pairwise_cons.1 hx
    have h2 := List.pairwise_cons.1 hy
    have e : x = y := by
      have m1 : x ∈ y :: Y := h.mem_iff.1 (by simp)
      have m2 : y ∈ x :: X := h.mem_iff.2 (by simp)
      rcases List.mem_cons.1 m1 with e | m1
      · exact e
      · rcases List.mem_cons.1 m2 with e | m2
        · exact e.symm
        · have a1 := h2.1 x m1
          have a2 := h1.1 y m2
          rw [aLt_ord.asym a1] at a2; cases a2
    subst e
    rw [asc_uniq h1.2 h2.2 h.cons_inv]
theorem up_asc {X : List At} {l : Nat} (hl : X.length = l) (hu : Up aLt (pf X) 0 l) (hd : (names X).Nodup) : Asc X := by
  refine List.pairwise_iff_getElem.2 fun i j hi hj hij => ?_
  have e1 := pf_get hi
  have e2 := pf_get hj
  rw [List.getElem?_eq_getElem hi] at e1
  rw [List.getElem?_eq_getElem hj] at e2
  have h1 := hu i j (Nat.zero_le _) hij (by omega)
  have hp : nameOf X[i] ≠ nameOf X[j] := by
    have := List.pairwise_iff_getElem.1 hd i j (by simpa [names] using hi) (by simpa [names] using hj) hij
    simpa [names] using this
  rw [Option.some.inj e1, Option.some.inj e2] at hp ⊢
  unfold aLt at h1 ⊢
  rcases nLt_tri (nameOf (pf X i)) (nameOf (pf X j)) with h | h | h
  · exact h
  · exact absurd h hp
  · rw [h] at h1; cases h1
theorem asc_names {X : List At} (h : Asc X) : (names X).Nodup := by
  refine List.Pairwise.map _ (fun a b hab e => ?_) h
  unfold aLt at hab
  rw [e, nLt_irr] at hab; cases hab
theorem perm_names {X Y : List At} (h : X.Perm Y) : (names X).Nodup ↔ (names Y).Nodup := (h.map nameOf).nodup_iff
end Go.Vc
namespace Go.Proofs.YtdjehimkijlhgaaDoor
open Go Go.Vc Go.Lib

theorem zeroC_attr : zeroC Tryd.prog T_api_Attr = #[.string ByteArray.empty, .string ByteArray.empty, .string ByteArray.empty] := by kernel_rfl
section
variable {w : World}
theorem boundP_kE (B : List Pr) : (boundP B kE).2 = true := by
  unfold boundP
  rw [if_neg (by decide +kernel)]
  split
  · rfl
  · show decide (kE = kE) = true
    exact decide_eq_true rfl

theorem elem_attr {B : List Pr} {x : Pr} (hd : decl x = none) : (elemL (boundP B) x.1).2 = (attr1 (boundP B) x).2 ∧ ((attr1 (boundP B) x).2 = 0 → (spl (bl x.1)).2.2 = true ∧ (attr1 (boundP B) x).1 = ((if (spl (bl x.1)).1 = [] then kE else (elemL (boundP B) x.1).1.1), (elemL (boundP B) x.1).1.2, x.2)) := by
  unfold elemL attr1
  unfold decl at hd
  split at hd
  · cases hd
  · next hn =>
    split at hd
    · cases hd
    · next hn2 =>
      by_cases h1 : (spl (bl x.1)).2.2 = false
      · rw [if_pos h1, if_pos h1]; exact ⟨rfl, fun h => by cases h⟩
      · have h1' : (spl (bl x.1)).2.2 = true := by simpa using h1
        rw [if_neg h1, if_neg h1]
        have hx : mkB (spl (bl x.1)).1 ≠ kXmlns := fun e => hn2 ⟨h1', by rw [← e, bl_mkB]⟩
        rw [if_neg hx]
        by_cases h2 : (spl (bl x.1)).1 = []
        · rw [if_pos h2, h2]
          have hb := boundP_kE B
          rw [show mkB [] = kE from rfl, if_neg (by rw [hb]; simp)]
          exact ⟨rfl, fun _ => ⟨h1', by simp⟩⟩
        · rw [if_neg h2]
          by_cases h3 : (boundP B (mkB (spl (bl x.1)).1)).2 = false
          · rw [if_pos h3, if_pos h3]; exact ⟨rfl, fun h => by cases h⟩
          · rw [if_neg h3, if_neg h3]; exact ⟨rfl, fun _ => ⟨h1', by rw [if_neg h2]⟩⟩

theorem attrsA_len {bound : BoundF} : ∀ (L : List Pr) (acc : List At), (attrsA bound L acc).1.length ≤ acc.length + L.length
  | [], acc => by simp [attrsA]
  | x :: L, acc => by
    unfold attrsA
    split
    · have := attrsA_len (bound := bound) L acc; simp; omega
    · split
      · simp
      · have := attrsA_len (bound := bound) L (acc ++ [(attr1 bound x).1]); simp at this ⊢; omega

theorem Attrs_ok {p q : Option Addr} {l c m d : Nat} {B L : List Pr} {J : Option Addr → Nat → Nat → Int → World → Prop} (h : Sl w p l 2 (rows pr B)) (hl : l ≤ 1000000000) (hL : Sl w q m 2 (rows pr L)) (hs : ∀ x ∈ L, x.1.size ≤ 9223372036854775806) (hm : m ≤ 100000000) (T : Tabs w)
    (K1 : (attrsA (boundP B) L []).2 ≠ 0 → ∀ w', Chg No w w' → J none 0 0 (attrsA (boundP B) L []).2 w')
    (K2 : (attrsA (boundP B) L []).2 = 0 → Dup (attrsA (boundP B) L []).1 → ∀ w', Chg No w w' → J none 0 0 27 w')
    (K3 : (attrsA (boundP B) L []).2 = 0 → ∀ X, X.Perm (attrsA (boundP B) L []).1 → Asc X → ∀ p' l' c' w', RA w' p' l' c' X → fresh w p' → Chg No w w' → J p' l' c' 0 w') :
    callJ Tryd.prog fn_scope_Scope_Attrs #[.agg ⟨[.slice p l c]⟩, .slice q m d] w [.one .slice, .one (.int .i64)] J := by
  refine c_scope_Scope_Attrs ?_
  unfold VC_scope_Scope_Attrs
  rw [zeroC_pair]
  rw [show (⟨#[]⟩ : ByteArray) = kE from rfl]
  have hll := hL.row (even_pr L) (by decide)
  refine (Hp.start w No).newB fun b2 w1 H1 _ hc1 => ?_
  refine ⟨fun op ol oc x w' t => ∃ (i : Nat) (acc : List At), x = i ∧ i ≤ m ∧ t = m - i ∧ Hp w No w' [⟨b2, [.slice p l c], T_scope_Scope⟩] ∧ RA w' op ol oc acc ∧ fresh w op ∧ ol ≤ i ∧ attrsA (boundP B) (L.drop i) acc = attrsA (boundP B) L [],
    ⟨_, 0, [], rfl, Nat.zero_le _, rfl, H1, Row.nil _ _ _, by rintro a ⟨⟩, Nat.le_refl _, rfl⟩, ?_⟩
  rintro op ol oc x w2 t ⟨i, acc, rfl, hi, rfl, H2, hr2, hf2, hol, hat⟩
  refine condB_d (fun hlt => ?_) (fun hge => ?_)
  · refine withJ_i fun J6 hJ6 => ?_
    have k6 : ∀ op' ol' oc' acc' w3, Hp w No w3 [⟨b2, [.slice p l c], T_scope_Scope⟩] → RA w3 op' ol' oc' acc' → fresh w op' → ol' ≤ i + 1 → attrsA (boundP B) (L.drop (i + 1)) acc' = attrsA (boundP B) L [] → J6 op' ol' oc' w3 := by
      intro op' ol' oc' acc' w3 g1 g2 g3 g4 g5; subst hJ6
      exact ⟨_, by omega, i + 1, acc', by rw [w64_of] <;> omega, by omega, rfl, g1, g2, g3, g4, g5⟩
    clear hJ6
    refine pr_i (H2.oldSl hL (off_no _)) (by omega) hlt fun a y hy h1 h2 => ?_
    rw [Int.toNat_natCast] at hy
    rw [attrsA_drop hy] at hat
    have hsy := hs y (List.mem_of_getElem? hy)
    refine ldStr_i h1 (ldStr_i h2 ?_)
    refine H2.newB fun b8 w4 H4 hb8 hc4 => ?_
    refine H4.stN 0 rfl (off := 0) rfl (by simp) (one1_pr _) fun w5 H5 hc5 => ?_
    have e5 : splice [Value.string ByteArray.empty, Value.string ByteArray.empty] 0 (pr y) = pr y := splice_all rfl
    simp only [List.set_cons_zero] at H5
    rw [show splice [Value.string ByteArray.empty, Value.string ByteArray.empty] 0 [Value.string y.1, Value.string y.2] = pr y from e5] at H5
    have c25 : Chg No w2 w5 := hc4.trans hc5 fun b hb e => by subst e; omega
    refine H5.ldStr 0 rfl (off := 0) rfl ?_
    refine H5.ldStr 0 rfl (off := 1) rfl ?_
    refine DeclP_ok hsy (T.chg H5.chg) fun dp w6 hc6 _ => ?_
    have H6 := H5.step0 hc6
    have c26 := c25.trans0 hc6
    refine condB_i (fun hd => ?_) (fun hd => ?_)
    · rw [if_pos hd] at hat
      exact k6 op ol oc acc w6 (H6.sub (List.sublist_cons_self _ _)) (hr2.chg c26 (off_no _)) hf2 (by omega) hat
    rw [if_neg (by simp [hd])] at hat
    have hnone : decl y = none := by cases hdd : decl y with | none => rfl | some z => rw [hdd] at hd; cases hd
    obtain ⟨he1, he2⟩ := elem_attr (B := B) hnone
    refine H6.ldS 1 rfl (off := 0) rfl ?_
    refine H6.ldStr 0 rfl (off := 0) rfl ?_
    refine Element_ok (q := y.1) (h.chg H6.chg (off_no _)) hl hsy (T.chg H6.chg) fun w7 hc7 => ?_
    refine nameVar (H6.step0 hc7) fun b11 w9 H9 hc9 => ?_
    have c29 := (c26.trans0 hc7).trans0 hc9
    rw [he1]
    refine condB_ne (fun hne => ?_) (fun hz => ?_)
    · rw [if_pos hne] at hat
      have := K1 (by rw [← hat]; exact hne) w9 H9.chg
      rw [← hat] at this; exact this
    rw [if_neg (fun h => h hz)] at hat
    obtain ⟨hok, hattr⟩ := he2 hz
    have hr9 : RA w9 op ol oc acc := hr2.chg c29 (off_no _)
    refine withJ_i fun J0 hJ0 => ?_
    have k0 : ∀ u w10, u = (attr1 (boundP B) y).1.1 → Hp w No w10 [⟨b11, pr (u, (elemL (boundP B) y.1).1.2), T_api_Name⟩, ⟨b8, pr y, T_scan_Pair⟩, ⟨b2, [.slice p l c], T_scope_Scope⟩] → RA w10 op ol oc acc → J0 w10 := by
      intro u w10 hu H10 hr10; subst hJ0
      refine H10.ldStr 0 rfl (off := 0) rfl ?_
      refine H10.ldStr 0 rfl (off := 1) rfl ?_
      refine H10.ldStr 1 rfl (off := 1) rfl ⟨rfl, rfl, ?_⟩
      refine newRow (sz := 3) (n := 1) rfl (by decide) fun b54 w11 hr11 _ hc11 => ?_
      have H11 := H10.step0 hc11
      refine appJ_row slT_attr (hr10.chg hc11 (off_no _)) hr11.sl (one1_at (u, (elemL (boundP B) y.1).1.2, y.2)) (by simp) (by omega) (by simp only [maxLen]; omega) fun p' c' w' hr' hc' hf' => ?_
      have e : rows atc acc ++ [Value.string u, Value.string (elemL (boundP B) y.1).1.2, Value.string y.2] = rows atc (acc ++ [(attr1 (boundP B) y).1]) := by
        rw [rows_append, hattr, hu, hattr]; rfl
      rw [e] at hr'
      have H' := H11.step hc' (fun z hz => by
        rintro ⟨a, ha, e⟩
        have ht := (hr10.chg hc11 (off_no _)).typ a ha
        simp at hz
        rcases hz with rfl | rfl | rfl
        · simp only at e; rw [e] at ht; exact absurd (ht.symm.trans (typ_of (H11.get 0 rfl))) (by decide)
        · simp only at e; rw [e] at ht; exact absurd (ht.symm.trans (typ_of (H11.get 1 rfl))) (by decide)
        · simp only at e; rw [e] at ht; exact absurd (ht.symm.trans (typ_of (H11.get 2 rfl))) (by decide)) (fresh_no hf2)
      refine k6 p' (ol + 1) c' _ w' (H'.sub (.cons _ (.cons _ (.refl _)))) hr' ?_ (by omega) hat
      rcases hf' with rfl | hf'
      · exact hf2
      · intro a ha; have := hf' a ha; have := H11.chg.size; omega
    clear hJ0
    refine H9.ldStr 1 rfl (off := 0) rfl ?_
    refine SplitC_ok hsy (T.chg H9.chg) fun sa sb sok w13 hc13 hsp => ?_
    have H13 := H9.step0 hc13
    have hr13 : RA w13 op ol oc acc := hr9.chg hc13 (off_no _)
    unfold Spl at hsp
    have ea : bl sa = (spl (bl y.1)).1 := congrArg Prod.fst hsp
    rw [beqS]
    refine condB_d (fun hE => ?_) (fun hE => ?_)
    · have hnil : (spl (bl y.1)).1 = [] := by rw [← ea, hE]; rfl
      rw [if_pos hnil] at hattr
      have t11 : typ w13 b11 = some T_api_Name := typ_of (H13.get 0 rfl)
      refine H13.stV 0 rfl (off := 0) (by simp [pr]) fun w14 H14 hc14 => ?_
      refine k0 kE w14 (by rw [hattr]) H14 (hr13.chg hc14 fun a ha e => ?_)
      have := hr13.typ a ha
      rw [e] at this; exact absurd (this.symm.trans t11) (by decide)
    · have hnn : (spl (bl y.1)).1 ≠ [] := fun e => hE (bl_ext (by rw [ea, e]; rfl))
      rw [if_neg hnn] at hattr
      exact k0 _ w13 (by rw [hattr]) H13 hr13
  · rw [List.drop_of_length_le (by omega)] at hat
    have hat' : attrsA (boundP B) L [] = (acc, 0) := hat.symm
    rw [hat'] at K1 K2 K3
    refine Stable_ok hr2 (by omega) fun X w15 hr15 hperm hup hc15 => ?_
    have H15 : Hp w No w15 [] := (H2.sub (List.nil_sublist _)).step hc15 (by simp) (fresh_no hf2)
    have hXl := hr15.n
    refine ⟨fun x w' t => ∃ i : Nat, x = i ∧ i ≤ ol ∧ t = ol - i ∧ Chg No w15 w' ∧ ∀ k, k + 1 < i → nameOf (pf X (k + 1)) ≠ nameOf (pf X k), ⟨_, 0, rfl, Nat.zero_le _, rfl, Chg.refl _ _, fun k h => by omega⟩, ?_⟩
    rintro x w16 t ⟨i, rfl, hi2, rfl, hc16, hne⟩
    have hc16d := hc16.drew
    have hr16 : RA w16.drew op ol oc X := hr15.chg hc16d (off_no _)
    refine condB_d (fun hlt => ?_) (fun hge2 => ?_)
    · refine withJ_i fun J79 hJ79 => ?_
      have k79 : ∀ b, (b = true ↔ 0 < i ∧ nameOf (pf X i) = nameOf (pf X (i - 1))) → J79 b w16.drew := by
        intro b hb; subst hJ79
        refine meetI hb (fun hh => ?_) (fun hn => ?_)
        · refine K2 rfl (fun hnd => ?_) w16.drew (H15.chg.trans0 hc16d)
          have hnd' := (perm_names hperm).2 hnd
          have hp := List.pairwise_iff_getElem.1 hnd' (i - 1) i (by simp [names]; omega) (by simp [names]; omega) (by omega)
          replace hp : nameOf (X[i - 1]'(by omega)) ≠ nameOf (X[i]'(by omega)) := by simpa [names] using hp
          have e1 := pf_get (X := X) (i := i - 1) (by omega)
          have e2 := pf_get (X := X) (i := i) (by omega)
          rw [List.getElem?_eq_getElem (by omega)] at e1 e2
          rw [Option.some.inj e1, Option.some.inj e2] at hp
          exact hp hh.2.symm
        · refine ⟨_, by omega, i + 1, by rw [w64_of] <;> omega, by omega, rfl, hc16d, fun k hk => ?_⟩
          by_cases e : k + 1 = i
          · intro e2
            refine hn ⟨by omega, ?_⟩
            rw [← e, Nat.add_sub_cancel]; exact e2
          · exact hne k (by omega)
      clear hJ79
      refine condB_d (fun hpos => ?_) (fun hz => k79 false (bF fun h => by omega))
      refine at_i hr16.sl (n := i) rfl (by omega) fun a e0 e1 _ => ldStr_i e0 (ldStr_i e1 ?_)
      have ei : w64 ((i : Int) - 1) = ((i - 1 : Nat) : Int) := by rw [w64_of] <;> omega
      rw [ei]
      refine at_i hr16.sl (n := i - 1) rfl (by omega) fun a' f0 f1 _ => ldStr_i f0 (ldStr_i f1 ?_)
      refine k79 _ ?_
      simp only [beqS, Bool.and_true, Bool.and_eq_true, decide_eq_true_eq]
      refine ⟨fun e => ⟨by omega, Prod.ext e.1 e.2⟩, fun e => ?_⟩
      have h := e.2
      unfold nameOf at h
      simpa using h
    · have hnd : (names X).Nodup := by
        apply List.pairwise_iff_getElem.2
        intro i' j hi' hj hij
        have hi'' : i' < X.length := by simpa [names] using hi'
        have hj' : j < X.length := by simpa [names] using hj
        have q : nameOf X[i'] ≠ nameOf X[j] → (names X)[i'] ≠ (names X)[j] := by intro h; simpa [names] using h
        apply q
        have e1 := pf_get hi''
        have e2 := pf_get hj'
        rw [List.getElem?_eq_getElem hi''] at e1
        rw [List.getElem?_eq_getElem hj'] at e2
        rw [Option.some.inj e1, Option.some.inj e2]
        intro e
        have a1 := hne i' (by omega)
        have a2 := hup i' (i' + 1) (Nat.zero_le _) (by omega) (by omega)
        have a3 := hup.le aLt_ord (i := i' + 1) (j := j) (Nat.zero_le _) (by omega) (by omega)
        unfold aLt at a2 a3
        rw [← e] at a3
        rcases nLt_tri (nameOf (pf X i')) (nameOf (pf X (i' + 1))) with h | h | h
        · rw [h] at a3; cases a3
        · exact a1 h.symm
        · rw [h] at a2; cases a2
      exact K3 rfl X hperm (up_asc hXl hup hnd) op ol oc w16 (hr15.chg hc16 (off_no _)) hf2 (H15.chg.trans0 hc16)

theorem Before_ok {a b : Pr} {J : Bool → World → Prop} (k : ∀ w', Chg No w w' → J (nLt a b) w') : callJ Tryd.prog fn_ref04_Before #[.agg ⟨[.string a.1, .string a.2]⟩, .agg ⟨[.string b.1, .string b.2]⟩] w [.one .bool] J := by
  refine c_ref04_Before ?_
  unfold VC_ref04_Before
  refine (Hp.start w No).newB fun b2 w1 H1 _ _ => ?_
  refine H1.newB fun b3 w2 H2 _ _ => ?_
  refine withJ_i fun J4 hJ4 => ?_
  have k4 : ∀ b', b' = nLt a b → J4 b' w2 := by intro b' h; subst hJ4; rw [h]; exact k w2 H2.chg
  clear hJ4
  unfold nLt at k4
  refine H2.ldStr 1 rfl (off := 0) rfl ?_
  refine H2.ldStr 0 rfl (off := 0) rfl ?_
  refine condB_i (fun h => k4 true (by rw [show sLt a.1 b.1 = true from h]; rfl)) (fun h => ?_)
  rw [show sLt a.1 b.1 = false from h, Bool.false_or] at k4
  refine H2.ldStr 1 rfl (off := 0) rfl ?_
  refine H2.ldStr 0 rfl (off := 0) rfl ?_
  rw [beqS]
  refine condB_i (fun h => ?_) (fun h => k4 false (by rw [h]; rfl))
  refine H2.ldStr 1 rfl (off := 1) rfl ?_
  refine H2.ldStr 0 rfl (off := 1) rfl ?_
  exact k4 _ (by rw [h, Bool.true_and]; rfl)

theorem SameAttrs_ok {p q : Option Addr} {l c l2 c2 : Nat} {X Y : List At} {J : Bool → World → Prop} (h : Sl w p l 3 (rows atc X)) (h2 : Sl w q l2 3 (rows atc Y)) (hm : l ≤ 1000000000) (k : ∀ w', Chg No w w' → J (decide (X = Y)) w') :
    callJ Tryd.prog fn_ref04_SameAttrs #[.slice p l c, .slice q l2 c2] w [.one .bool] J := by
  refine c_ref04_SameAttrs ?_
  unfold VC_ref04_SameAttrs
  have hl := h.row (even_at X) (by decide)
  have hl2 := h2.row (even_at Y) (by decide)
  refine condB_ne (fun hne => ?_) (fun he => ?_)
  · have e : decide (X = Y) = false := decide_eq_false fun e => hne (by rw [← hl, ← hl2, e])
    rw [e] at k; exact k w (Chg.refl _ _)
  have hll : l = l2 := by omega
  subst hll
  refine ⟨fun x w' t => ∃ i : Nat, x = i ∧ i ≤ l ∧ t = l - i ∧ Chg No w w' ∧ ∀ k, k < i → pf X k = pf Y k, ⟨_, 0, rfl, Nat.zero_le _, rfl, Chg.refl _ _, fun k h => by omega⟩, ?_⟩
  rintro x w' t ⟨i, rfl, hi, rfl, hc, hs⟩
  have hcd := hc.drew
  refine condB_d (fun hlt => ?_) (fun hge => ?_)
  · refine at_i (h.chg hcd (off_no _)) (n := i) rfl (by omega) fun a e0 e1 e2 => ldStr_i e0 (ldStr_i e1 (ldStr_i e2 ?_))
    refine at_i (h2.chg hcd (off_no _)) (n := i) rfl (by omega) fun a' f0 f1 f2 => ldStr_i f0 (ldStr_i f1 (ldStr_i f2 ?_))
    simp only [beqS, Bool.and_true]
    refine condB_not (fun hf => ?_) (fun ht => ?_)
    · have e : decide (X = Y) = false := decide_eq_false fun e => by
        rw [e] at hf; simp at hf
      rw [e] at k; exact k _ hcd
    · refine ⟨_, by omega, i + 1, by rw [w64_of] <;> omega, by omega, rfl, hcd, fun k hk => ?_⟩
      by_cases e : k = i
      · subst e
        simp only [Bool.and_eq_true, decide_eq_true_eq] at ht
        exact Prod.ext ht.1.1 (Prod.ext ht.1.2 ht.2)
      · exact hs k (by omega)
  · have e : decide (X = Y) = true := decide_eq_true (by
      apply List.ext_getElem?
      intro k
      by_cases hk : k < l
      · rw [pf_get (by omega), pf_get (by omega), hs k (by omega)]
      · rw [List.getElem?_eq_none (by omega), List.getElem?_eq_none (by omega)])
    rw [e] at k; exact k w' hc
end
end Go.Proofs.YtdjehimkijlhgaaDoor

