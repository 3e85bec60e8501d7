/-
  The program's 'Equal'; the document's 'Deep' and 'Spaces'.
-/
import Derived.Test.YtmmfookfpdcohaaGreatDoorRefM
import Derived.Test.YtmmfookfpdcohaaGreatDoorVEqual
set_option linter.unusedVariables false
set_option linter.unusedSimpArgs false
namespace Go.Vc
open Go Go.Lib
/-- The spaces that a node names, as they stand. -/
def urisV : NV → List ByteArray
  | .mk _ u _ _ _ _ _ ats _ _ _ _ => u :: ats.map (·.1)
mutual
theorem uris_len : ∀ v : NV, (v.flat.flatMap urisV).length ≤ v.mea
  | .mk k u l t ap al ac ats kp kl kc ks => by
    have := urisL_len ks
    have := len_atSum ats
    simp only [NV.flat, List.flatMap_cons, List.length_append, urisV, List.length_cons, List.length_map, NV.mea]; omega
theorem urisL_len : ∀ ks : List NV, ((NV.flatL ks).flatMap urisV).length ≤ NV.meaL ks
  | [] => Nat.le_refl _
  | x :: r => by
    have := uris_len x
    have := urisL_len r
    simp only [NV.flatL, List.flatMap_append, List.length_append, NV.meaL]; omega
end
theorem mem_neB {s u : ByteArray} : s ∈ neB u ↔ s ≠ emptyB ∧ s = u := by
  unfold neB
  split
  · next h => subst h; simp
  · next h => rw [List.mem_singleton]; exact ⟨fun e => ⟨by rw [e]; exact h, e⟩, fun e => e.2⟩
mutual
theorem uris_spc : ∀ (v : NV) (s : ByteArray), s ∈ v.nd.spc ↔ s ≠ emptyB ∧ s ∈ v.flat.flatMap urisV
  | .mk k u l t ap al ac ats kp kl kc ks, s => by
    have h := urisL_spc ks s
    simp only [NV.nd, Nd.spc, List.mem_append, mem_neB, h, NV.flat, List.flatMap_cons, urisV, List.mem_cons, List.mem_flatMap (l := ats), List.mem_map]
    constructor
    · rintro ((⟨h1, h2⟩ | ⟨a, ha, h1, h2⟩) | ⟨h1, h2⟩)
      · exact ⟨h1, .inl (.inl h2)⟩
      · exact ⟨h1, .inl (.inr ⟨a, ha, h2.symm⟩)⟩
      · exact ⟨h1, .inr h2⟩
    · rintro ⟨h1, (h2 | ⟨a, ha, h2⟩) | h2⟩
      · exact .inl (.inl ⟨h1, h2⟩)
      · exact .inl (.inr ⟨a, ha, h1, h2.symm⟩)
      · exact .inr ⟨h1, h2⟩
theorem urisL_spc : ∀ (ks : List NV) (s : ByteArray), s ∈ Nd.spcL (NV.ndL ks) ↔ s ≠ emptyB ∧ s ∈ (NV.flatL ks).flatMap urisV
  | [], s => by simp [NV.ndL, Nd.spcL, NV.flatL]
  | x :: r, s => by
    have h1 := uris_spc x s
    have h2 := urisL_spc r s
    simp only [NV.ndL, Nd.spcL, NV.flatL, List.flatMap_append, List.mem_append, h1, h2]
    constructor
    · rintro (⟨a, b⟩ | ⟨a, b⟩)
      · exact ⟨a, .inl b⟩
      · exact ⟨a, .inr b⟩
    · rintro ⟨a, b | b⟩
      · exact .inl ⟨a, b⟩
      · exact .inr ⟨a, b⟩
end
end Go.Vc
namespace Go.Proofs.YtmmfookfpdcohaaGreatDoor
open Go Go.Vc Go.Lib
section
variable {w : World}
theorem EqAttrs_ok {p q : Option Addr} {l c l2 c2 : Nat} {X Y : List At} {J : Bool → World → Prop} (h : Sl w p l 3 (rows atc X)) (h2 : Sl w q l2 3 (rows atc Y)) (hm : l ≤ 1000000000) (k : ∀ w', Chg No w w' → J (decide (X = Y)) w') :
    callJ Tryz.prog fn_slices_Equal_sl_api_Attr_api_Attr #[.slice p l c, .slice q l2 c2] w [.one .bool] J := by
  refine c_slices_Equal_sl_api_Attr_api_Attr ?_
  unfold VC_slices_Equal_sl_api_Attr_api_Attr
  have hl := h.row (even_at X) (by decide)
  have hl2 := h2.row (even_at Y) (by decide)
  refine condB_ne (fun hne => ?_) (fun he => ?_)
  · have e : decide (X = Y) = false := decide_eq_false fun e => hne (by rw [← hl, ← hl2, e])
    rw [e] at k; exact k w (Chg.refl _ _)
  have hll : l = l2 := by omega
  subst hll
  refine ⟨fun x w' t => ∃ i : Nat, x = i ∧ i ≤ l ∧ t = l - i ∧ Chg No w w' ∧ ∀ k, k < i → pf X k = pf Y k, ⟨_, 0, rfl, Nat.zero_le _, rfl, Chg.refl _ _, fun k h => by omega⟩, ?_⟩
  rintro x w' t ⟨i, rfl, hi, rfl, hc, hs⟩
  have hcd := hc.drew
  refine condB_d (fun hlt => ?_) (fun hge => ?_)
  · refine at_i (h.chg hcd (off_no _)) (n := i) rfl (by omega) fun a e0 e1 e2 => ldStr_i e0 (ldStr_i e1 (ldStr_i e2 ?_))
    refine at_i (h2.chg hcd (off_no _)) (n := i) rfl (by omega) fun a' f0 f1 f2 => ldStr_i f0 (ldStr_i f1 (ldStr_i f2 ?_))
    simp only [beqS, Bool.and_true]
    refine condB_not (fun hf => ?_) (fun ht => ?_)
    · have e : decide (X = Y) = false := decide_eq_false fun e => by
        rw [e] at hf; simp at hf
      rw [e] at k; exact k _ hcd
    · refine ⟨_, by omega, i + 1, by rw [w64_of] <;> omega, by omega, rfl, hcd, fun k hk => ?_⟩
      by_cases e : k = i
      · subst e
        simp only [Bool.and_eq_true, decide_eq_true_eq] at ht
        exact Prod.ext ht.1.1 (Prod.ext ht.1.2 ht.2)
      · exact hs k (by omega)
  · have e : decide (X = Y) = true := decide_eq_true (by
      apply List.ext_getElem?
      intro k
      by_cases hk : k < l
      · rw [pf_get (by omega), pf_get (by omega), hs k (by omega)]
      · rw [List.getElem?_eq_none (by omega), List.getElem?_eq_none (by omega)])
    rw [e] at k; exact k w' hc
theorem Equal_ok : ∀ (x y : NV) {w : World} {J : Bool → World → Prop}, x.Ok w → y.Ok w → x.mea ≤ 100000000 → (∀ r w', (r = true ↔ x.nd = y.nd) → Chg No w w' → J r w') → callJ Tryz.prog fn_tree_Equal #[.agg ⟨x.cells⟩, .agg ⟨y.cells⟩] w [.one .bool] J := by
  intro x
  induction x using NV.ind with
  | h k u l t ap al ac ats kp kl kc ks ih =>
    intro y w J hx hy hm K
    cases y with
    | mk k' u' l' t' ap' al' ac' ats' kp' kl' kc' ks' =>
    have hE : (NV.mk k u l t ap al ac ats kp kl kc ks).nd = (NV.mk k' u' l' t' ap' al' ac' ats' kp' kl' kc' ks').nd ↔ k = k' ∧ u = u' ∧ l = l' ∧ t = t' ∧ ats = ats' ∧ ks.map NV.nd = ks'.map NV.nd := by rw [nd_kids, nd_kids, Nd.mk.injEq]
    cases hx with
    | mk ha hn hac hk hkn hkc hks =>
    cases hy with
    | mk ha' hn' hac' hk' hkn' hkc' hks' =>
    have hkl := hk.row (even_node ks) (by decide)
    have hkl' := hk'.row (even_node ks') (by decide)
    have hal := ha.row (even_at ats) (by decide)
    have hlm := len_meaL ks
    have hla := len_atSum ats
    have hmm : NV.meaL ks ≤ 100000000 ∧ al ≤ 100000000 := by simp only [NV.mea] at hm; omega
    refine c_tree_Equal ?_
    unfold VC_tree_Equal
    refine (Hp.start w No).newB fun b2 w1 H1 hb2 hc1 => ?_
    refine H1.newB fun b3 w2 H2 hb3 hc2 => ?_
    simp only [withJ]
    have K0 : ∀ w', Chg No w w' → ¬ (NV.mk k u l t ap al ac ats kp kl kc ks).nd = (NV.mk k' u' l' t' ap' al' ac' ats' kp' kl' kc' ks').nd → J false w' := fun w' hc hne => K false w' ⟨fun h => (by cases h), fun h => absurd h hne⟩ hc
    refine H2.ldI 1 rfl (off := 0) rfl ?_
    refine H2.ldI 0 rfl (off := 0) rfl ?_
    refine condB_eq (fun e1 => ?_) (fun h => K0 w2 H2.chg fun e => h (hE.1 e).1)
    refine H2.ldStr 1 rfl (off := 1) rfl ?_
    refine H2.ldStr 1 rfl (off := 2) rfl ?_
    refine H2.ldStr 0 rfl (off := 1) rfl ?_
    refine H2.ldStr 0 rfl (off := 2) rfl ?_
    simp only [beqS, Bool.and_true]
    refine condB_i (fun e2 => ?_) (fun hf => K0 w2 H2.chg fun e => ?_)
    rotate_left
    · obtain ⟨_, h1, h2, _⟩ := hE.1 e
      rw [decide_eq_true h1, decide_eq_true h2] at hf; cases hf
    rw [Bool.and_eq_true, decide_eq_true_eq, decide_eq_true_eq] at e2
    refine H2.ldStr 1 rfl (off := 5) rfl ?_
    refine H2.ldStr 0 rfl (off := 5) rfl ?_
    refine condB_d (fun e3 => ?_) (fun h => K0 w2 H2.chg fun e => h (hE.1 e).2.2.2.1)
    refine H2.ldS 1 rfl (off := 3) rfl ?_
    refine H2.ldS 0 rfl (off := 3) rfl ?_
    refine EqAttrs_ok (ha.chg H2.chg (off_no _)) (ha'.chg H2.chg (off_no _)) (by omega) fun w6 hc6 => ?_
    have H6 := H2.step0 hc6
    refine condB_d (fun e4 => ?_) (fun h => K0 w6 H6.chg fun e => h (hE.1 e).2.2.2.2.1)
    refine H6.ldS 1 rfl (off := 4) rfl ?_
    refine H6.ldS 0 rfl (off := 4) rfl ?_
    refine c_slices_EqualFunc_sl_api_Node_sl_api_Node_api_Node_api_Node_f2_20 ?_
    unfold VC_slices_EqualFunc_sl_api_Node_sl_api_Node_api_Node_api_Node_f2_20
    refine condB_ne (fun hne => K0 w6 H6.chg fun e => ?_) (fun hll => ?_)
    · have e6 := congrArg List.length (hE.1 e).2.2.2.2.2
      rw [List.length_map, List.length_map, hkl, hkl'] at e6
      omega
    have hll' : kl = kl' := by omega
    refine ⟨fun i w' m => ∃ q : Nat, i = q ∧ q ≤ kl ∧ m = kl - q ∧ Chg No w w' ∧ (ks.map NV.nd).take q = (ks'.map NV.nd).take q, ⟨_, 0, rfl, Nat.zero_le _, rfl, H6.chg, by simp⟩, ?_⟩
    rintro i w7 m ⟨q, rfl, hq, rfl, hc7, hpre⟩
    refine condB_d (fun hlt => ?_) (fun hge => ?_)
    · refine idx_rows (hk.chg hc7 (off_no _)) (even_node ks) (by decide) (by omega) hlt fun a y1 _ hy1 hcs1 => ?_
      have hy1' : ks[q]? = some y1 := hy1
      have hm1 := List.mem_of_getElem? hy1'
      have hmea := mea_kid hm1
      have t1 : (ks.map NV.nd).take (q + 1) = (ks.map NV.nd).take q ++ [y1.nd] := take_get (by rw [List.getElem?_map, hy1']; rfl)
      have g1 : (ks.map NV.nd)[q]? = some y1.nd := by rw [List.getElem?_map, hy1']; rfl
      have ih1 := @ih y1 hm1
      have ok1 := hks y1 hm1
      cases y1 with
      | mk yk yu yl yt yap yal yac yas ykp ykl ykc yks =>
      refine nodeVar (Hp.start w7 No) hcs1 fun b8 w8 H8 hb8 hc8 => ?_
      have c08 := hc7.trans0 hc8
      refine idx_rows (hk'.chg c08 (off_no _)) (even_node ks') (by decide) (by omega) (by omega) fun a' y2 _ hy2 hcs2 => ?_
      have hy2' : ks'[q]? = some y2 := hy2
      have hm2 := List.mem_of_getElem? hy2'
      have t2 : (ks'.map NV.nd).take (q + 1) = (ks'.map NV.nd).take q ++ [y2.nd] := take_get (by rw [List.getElem?_map, hy2']; rfl)
      have g2 : (ks'.map NV.nd)[q]? = some y2.nd := by rw [List.getElem?_map, hy2']; rfl
      have ok2 := hks' y2 hm2
      cases y2 with
      | mk zk zu zl zt zap zal zac zas zkp zkl zkc zks =>
      refine nodeVar H8 hcs2 fun b9 w9 H9 hb9 hc9 => ?_
      refine ldBox H9 1 rfl ?_
      refine ldBox H9 0 rfl ?_
      have c09 := c08.trans0 hc9
      refine ih1 (NV.mk zk zu zl zt zap zal zac zas zkp zkl zkc zks) (ok1.chg0 c09) (ok2.chg0 c09) (by omega) fun r w5 hr hc5 => ?_
      refine condB_not (fun hf => ?_) (fun ht => ?_)
      · refine K0 w5 (c09.trans0 hc5) fun e => ?_
        have e6 := (hE.1 e).2.2.2.2.2
        rw [e6, g2] at g1
        rw [hr.2 (Option.some.inj g1).symm] at hf; cases hf
      · exact ⟨_, by omega, q + 1, by rw [w64_of] <;> omega, by omega, rfl, c09.trans0 hc5, by rw [t1, t2, hpre, hr.1 ht]⟩
    · have hqk : q = kl := by omega
      rw [List.take_of_length_le (by rw [List.length_map]; omega), List.take_of_length_le (by rw [List.length_map]; omega)] at hpre
      exact K true w7 ⟨fun _ => hE.2 ⟨e1, e2.1, e2.2, e3, e4, hpre⟩, fun _ => rfl⟩ hc7
theorem RefDepth_ok : ∀ (x : NV) {w : World} {J : Int → World → Prop}, x.Ok w → x.mea ≤ 100000000 → (∀ w', Chg No w w' → J (x.nd.depth : Int) w') → callJ Tryz.prog fn_ref05_Deep #[.agg ⟨x.cells⟩] w [.one (.int .i64)] J := by
  intro x
  induction x using NV.ind with
  | h k u l t ap al ac ats kp kl kc ks ih =>
    intro w J hx hm K
    cases hx with
    | mk ha hn hac hk hkn hkc hks =>
    have hkl := hk.row (even_node ks) (by decide)
    have hsm := size_mea (.mk k u l t ap al ac ats kp kl kc ks)
    have hdm := depth_le (NV.mk k u l t ap al ac ats kp kl kc ks).nd
    rw [nd_kids] at K hsm hdm
    simp only [Nd.depth] at K hdm
    have hkm : ∀ y ∈ ks, y.mea ≤ 100000000 := fun y hy => by
      have := mea_kid hy
      simp only [NV.mea] at hm; omega
    have hlm := len_meaL ks
    have hmm : kl ≤ 100000000 := by simp only [NV.mea] at hm; omega
    refine c_ref05_Deep ?_
    unfold VC_ref05_Deep
    refine nodeBox (Hp.start w No) fun b w1 H1 hb hc1 => ?_
    refine H1.ldS 0 rfl (off := 4) rfl ?_
    refine ⟨fun s i w' m => ∃ q : Nat, i = q ∧ q ≤ kl ∧ m = kl - q ∧ Chg No w w' ∧ s = ((Nd.depthL ((ks.map NV.nd).take q) : Nat) : Int), ⟨_, 0, rfl, Nat.zero_le _, rfl, hc1, rfl⟩, ?_⟩
    rintro s i w2 m ⟨q, rfl, hq, rfl, hc2, rfl⟩
    have hq1 := depthL_take (ks.map NV.nd) q
    refine condB_d (fun hlt => ?_) (fun hge => ?_)
    · refine idx_rows (hk.chg hc2 (off_no _)) (even_node ks) (by decide) (by omega) hlt fun a y _ hy hcs => ?_
      rw [Int.toNat_natCast] at hy
      have hymem := List.mem_of_getElem? hy
      have ihy := @ih y hymem
      have hyok := hks y hymem
      have hym := hkm y hymem
      have ht : (ks.map NV.nd).take (q + 1) = (ks.map NV.nd).take q ++ [y.nd] := take_get (by rw [List.getElem?_map, hy]; rfl)
      cases y with
      | mk yk yu yl yt yap yal yac yas ykp ykl ykc yks =>
      refine nodeVar (Hp.start w2 No) hcs fun b6 w6 H6 _ hc6 => ?_
      refine ldBox H6 0 rfl ?_
      refine ihy ((hyok.chg0 hc2).chg0 hc6) hym fun w7 hc7 => ?_
      refine ⟨_, by omega, q + 1, by rw [w64_of] <;> omega, by omega, rfl, (hc2.trans0 hc6).trans0 hc7, ?_⟩
      rw [ht, depthL_append]
      simp only [Nd.depthL]
      split <;> omega
    · rw [List.take_of_length_le (by rw [List.length_map]; omega)] at hq1 ⊢
      rw [w64_of (by omega) (by omega)]
      exact K w2 hc2
theorem appT5 {w0 wa : World} {p q : Option Addr} {l c m c2 : Nat} {xs news : List Value} {K : Option Addr → Nat → Nat → World → Prop} (hr : Row wa T_string 1 p l c xs) (src : Sl wa q m 1 news) (h1 : one1 news) (hn : q = none → m = 0) (hlm : l + m ≤ 2000000000)
    (hf : fresh w0 p) (hc : Chg No w0 wa) (k : ∀ p' c' w', Row w' T_string 1 p' (l + m) c' (xs ++ news) → fresh w0 p' → Chg No w0 w' → Chg (isB p) wa w' → K p' (l + m) c' w') :
    appJ Tryz.prog T_sl_string T_sl_string (.slice p l c) (.slice q m c2) wa K := by
  refine appJ_row slT_string hr src h1 hn (by omega) (by simp only [maxLen]; omega) fun p' c' w' hr' hc' hf' => ?_
  refine k p' c' w' hr' ?_ (hc.trans hc' (fresh_no hf)) hc'
  rcases hf' with rfl | hf'
  · exact hf
  · intro a ha; have := hf' a ha; have := hc.size; omega
theorem RefSpaces_ok {x : NV} {J : Option Addr → Nat → Nat → World → Prop} (hx : x.Ok w) (hm : x.mea ≤ 10000000)
    (K : ∀ (Y : List ByteArray) p c w', SAsc Y → (∀ s, s ∈ Y ↔ s ∈ x.nd.spc) → Sl w' p Y.length 1 (strs Y) → Chg No w w' → J p Y.length c w') :
    callJ Tryz.prog fn_ref05_Spaces #[.agg ⟨x.cells⟩] w [.one .slice] J := by
  have hfl := flat_len x
  have hul := uris_len x
  have hum := uris_spc x
  have hok : ∀ y ∈ x.flat, y.Ok w ∧ y.mea ≤ 10000000 := fun y hy => ⟨flat_mem hy hx, by have := flat_mea hy; omega⟩
  cases x with
  | mk k u l t ap al ac ats kp kl kc ks =>
  refine c_ref05_Spaces ?_
  unfold VC_ref05_Spaces
  rw [show (⟨#[]⟩ : ByteArray) = emptyB from rfl]
  simp only [beqS]
  refine nodeBox (Hp.start w No) fun b1 w1 H1 hb hc1 => ?_
  refine newRow (sz := 1) (n := 0) (cs := []) rfl (by decide) fun b12 w2 hr12 hb12 hc2 => ?_
  have H2 := H1.step0 hc2
  refine ldBox H2 0 rfl ?_
  refine RefFlat_ok (.mk k u l t ap al ac ats kp kl kc ks) (hx.chg0 H2.chg) (by omega) fun p3 c3 w3 hr3 hf3 hc3 => ?_
  have c03 := H2.chg.trans0 hc3
  generalize hL : (NV.mk k u l t ap al ac ats kp kl kc ks).flat = L at *
  have hLm : (L.flatMap urisV).length ≤ 10000000 := by omega
  have htkm : ∀ q, ((L.take q).flatMap urisV).length ≤ (L.flatMap urisV).length := fun q => by
    have e := congrArg (fun l => (l.flatMap urisV).length) (List.take_append_drop q L)
    simp only [List.flatMap_append, List.length_append] at e; omega
  refine ⟨fun op ol oc i w' m => ∃ (q : Nat) (X : List ByteArray), i = q ∧ q ≤ L.length ∧ m = L.length - q ∧ Chg No w3 w' ∧ Row w' T_string 1 op ol oc (strs X) ∧ ol ≤ ((L.take q).flatMap urisV).length ∧ SAsc X ∧ ∀ s, s ∈ X ↔ s ≠ emptyB ∧ s ∈ (L.take q).flatMap urisV,
    ⟨_, 0, [], rfl, Nat.zero_le _, rfl, Chg.refl _ _, hr12.chg hc3 (off_no _), Nat.zero_le _, List.Pairwise.nil, by simp⟩, ?_⟩
  rintro op ol oc i w4 m ⟨q, X, rfl, hq, rfl, hc4, hr4, hol, hs4, hm4⟩
  refine condB_d (fun hlt => ?_) (fun hge => ?_)
  · refine idx_rows (hr3.sl.chg hc4 (off_no _)) (even_node L) (by decide) (by omega) hlt fun a y _ hy hcs => ?_
    rw [Int.toNat_natCast] at hy
    have hyo := hok y (List.mem_of_getElem? hy)
    have htk : (L.take (q + 1)).flatMap urisV = (L.take q).flatMap urisV ++ urisV y := by rw [take_get hy, List.flatMap_append]; simp
    have htq1 := htkm (q + 1)
    rw [htk, List.length_append] at htq1
    cases y with
    | mk yk yu yl yt yap yal yac yas ykp ykl ykc yks =>
    have hyul : (urisV (NV.mk yk yu yl yt yap yal yac yas ykp ykl ykc yks)).length = yas.length + 1 := by simp [urisV]
    cases hyo.1 with
    | mk ha hn hac hk hkn hkc hks =>
    have hal := ha.row (even_at yas) (by decide)
    refine nodeVar (Hp.start w4 No) hcs fun b5 w6 H6 hb5 hc6 => ?_
    refine H6.ldStr 0 rfl (off := 1) rfl ?_
    refine newRow (sz := 1) (n := 1) rfl (by decide) fun b23 w7 hr23 hb23 hc7 => ?_
    have H7 := H6.step0 hc7
    refine H7.ldS 0 rfl (off := 3) rfl ?_
    refine ⟨fun lp ll lc i w' m => ∃ j : Nat, i = j ∧ j ≤ yal ∧ m = yal - j ∧ ll = 1 + j ∧ Chg No w6 w' ∧ Row w' T_string 1 lp ll lc (strs (yu :: (yas.take j).map (·.1))) ∧ fresh w6 lp,
      ⟨_, 0, rfl, Nat.zero_le _, rfl, rfl, hc7, hr23, (by rintro a ⟨⟩; exact hb23)⟩, ?_⟩
    rintro lp ll lc i w8 m ⟨j, rfl, hj, rfl, rfl, hc8, hr8, hf8⟩
    have c38 := (hc4.trans0 hc6).trans0 hc8
    refine condB_d (fun hlt2 => ?_) (fun hge2 => ?_)
    · refine idx_rows (ha.chg (c03.trans0 c38) (off_no _)) (even_att yas) (by decide) (by omega) hlt2 fun a z _ hz hcz => ?_
      rw [Int.toNat_natCast] at hz
      have hzt : (yas.take (j + 1)).map (·.1) = (yas.take j).map (·.1) ++ [z.1] := by rw [take_get hz, List.map_append]; rfl
      refine attrVar (Hp.start w8 No) hcz fun b8 w10 H10 hb8 hc10 => ?_
      refine H10.ldStr 0 rfl (off := 0) rfl ?_
      refine appS1 (w0 := w6) (hr8.chg hc10 (off_no _)) (by omega) hf8 (hc8.trans0 hc10) fun p12 c12 w12 hr12' hf12 hc12 _ => ?_
      exact ⟨_, by omega, j + 1, by rw [w64_of] <;> omega, by omega, rfl, by omega, hc12, by rw [hzt, ← List.cons_append]; exact hr12', hf12⟩
    · have hjl : j = yal := by omega
      subst hjl
      rw [List.take_of_length_le (by omega)] at hr8
      generalize hA : yu :: yas.map (·.1) = A at hr8
      have hAu : urisV (NV.mk yk yu yl yt yap j yac yas ykp ykl ykc yks) = A := hA
      rw [hAu] at htk htq1 hyul
      have hr8x := ((hr4.chg hc6 (off_no _)).chg hc8 (off_no _))
      refine ⟨fun op' ol' oc' i w' m => ∃ (n : Nat) (X' : List ByteArray), i = n ∧ n ≤ A.length ∧ m = A.length - n ∧ Chg No w8 w' ∧ Row w' T_string 1 op' ol' oc' (strs X') ∧ ol' ≤ ((L.take q).flatMap urisV).length + n ∧ SAsc X' ∧ ∀ s, s ∈ X' ↔ s ≠ emptyB ∧ (s ∈ (L.take q).flatMap urisV ∨ s ∈ A.take n),
        ⟨_, 0, X, rfl, Nat.zero_le _, rfl, Chg.refl _ _, hr8x, by omega, hs4, fun s => by rw [hm4]; simp⟩, ?_⟩
      rintro op ol oc i w13 m ⟨n, X, rfl, hn', rfl, hc13, hr13, hol, hs3, hm3⟩
      have hXl : X.length = ol := by have := hr13.len; rw [strs_length] at this; omega
      refine condB_d (fun hlt3 => ?_) (fun hge3 => ?_)
      · refine withJ_i fun J3 hJ3 => ?_
        refine str_i (hr8.sl.chg hc13 (off_no _)) (by omega) hlt3 fun y1 hy1 => ?_
        rw [Int.toNat_natCast] at hy1
        have hmem : ∀ s, s ∈ A.take (n + 1) ↔ s ∈ A.take n ∨ s = y1 := by intro s; rw [take_get hy1]; simp
        have k3 : ∀ op' ol' oc' X' w3, Chg No w13 w3 → Row w3 T_string 1 op' ol' oc' (strs X') → ol' ≤ ol + 1 → SAsc X' → (∀ s, s ∈ X' ↔ s ≠ emptyB ∧ (s ∈ (L.take q).flatMap urisV ∨ s ∈ A.take (n + 1))) → J3 op' ol' oc' w3 := by
          intro op' ol' oc' X' w3 g1 g2 g4 g5 g6; subst hJ3
          exact ⟨_, by omega, n + 1, X', by rw [w64_of] <;> omega, by omega, rfl, hc13.trans0 g1, g2, by omega, g5, g6⟩
        clear hJ3
        have have3 : y1 ≠ emptyB → ∀ X' : List ByteArray, (∀ s, s ∈ X' ↔ s ∈ X ∨ s = y1) → ∀ s, s ∈ X' ↔ s ≠ emptyB ∧ (s ∈ (L.take q).flatMap urisV ∨ s ∈ A.take (n + 1)) := by
          intro hne X' h s
          rw [h, hm3, hmem]
          constructor
          · rintro (⟨a, b | b⟩ | rfl)
            · exact ⟨a, .inl b⟩
            · exact ⟨a, .inr (.inl b)⟩
            · exact ⟨hne, .inr (.inr rfl)⟩
          · rintro ⟨a, b | b | b⟩
            · exact .inl ⟨a, .inl b⟩
            · exact .inl ⟨a, .inr b⟩
            · exact .inr b
        have lbm : (0 : Nat) ≤ ol := Nat.zero_le _
        have holb : ol ≤ 20000000 := by omega
        refine ⟨fun x w' t => ∃ k : Nat, x = k ∧ k ≤ ol ∧ t = ol - k ∧ w' = w13 ∧ ∀ j, j < k → sLt (pf X j) y1 = true, ⟨_, 0, rfl, Nat.zero_le _, rfl, rfl, fun j hj => by omega⟩, ?_⟩
        rintro x w7' t ⟨k, rfl, hk', rfl, rfl, hlo⟩
        have hr7 := hr13
        refine withJ_i fun J40 hJ40 => ?_
        have k40t : sLt (pf X k) y1 = true → k < ol → J40 true w7' := by
          intro ha hkl; subst hJ40
          refine condB_i (fun _ => ?_) (fun h => by cases h)
          refine ⟨_, by omega, k + 1, by rw [w64_of] <;> omega, by omega, rfl, rfl, fun j hj => ?_⟩
          by_cases e : j = k
          · subst e; exact ha
          · exact hlo j (by omega)
        have k40f : (k < ol → sLt (pf X k) y1 = false) → J40 false w7' := by
          intro hhi; subst hJ40
          refine condB_i (fun h => by cases h) (fun _ => ?_)
          refine withJ_i fun J54 hJ54 => ?_
          have k54e : y1 = emptyB → J54 false w7' := by
            intro he; subst hJ54
            refine condB_i (fun h => by cases h) (fun _ => ?_)
            refine k3 op ol oc X w7' (Chg.refl _ _) hr7 (by omega) hs3 fun s => ?_
            rw [hm3, hmem]
            constructor
            · rintro ⟨a, b | b⟩
              · exact ⟨a, .inl b⟩
              · exact ⟨a, .inr (.inl b)⟩
            · rintro ⟨a, b | b | b⟩
              · exact ⟨a, .inl b⟩
              · exact ⟨a, .inr b⟩
              · exact absurd (b.trans he) a
          have k54f : y1 ≠ emptyB → k < ol → pf X k = y1 → J54 false w7' := by
            intro hne hkl he; subst hJ54
            refine condB_i (fun h => by cases h) (fun _ => ?_)
            refine k3 op ol oc X w7' (Chg.refl _ _) hr7 (by omega) hs3 (have3 hne X fun s => ⟨.inl, fun h => ?_⟩)
            rcases h with h | h
            · exact h
            · rw [h, ← he]; exact List.mem_of_getElem? (pf_get (by omega))
          have k54t : y1 ≠ emptyB → (k < ol → pf X k ≠ y1) → J54 true w7' := by
            intro hne0 hne; subst hJ54
            refine condB_i (fun _ => ?_) (fun h => by cases h)
            have hr14 := hr7.chg (Chg.refl No w7').drew (off_no _)
            have le := hr14.le.1
            have slA : ∀ w', Chg No w7'.drew w' → ∀ q', Sl w7'.drew q' (k - 0) 1 (((strs X).drop (0 * 1)).take ((k - 0) * 1)) → Sl w' q' k 1 (strs (X.take k)) := by
              intro w' hc' q' h
              have := h.chg hc' (off_no _)
              have e : ((strs X).drop (0 * 1)).take ((k - 0) * 1) = strs (X.take k) := by simp [strs]
              rw [e] at this
              exact this
            have slB : ∀ w', Chg No w7'.drew w' → ∀ q', Sl w7'.drew q' (ol - k) 1 (((strs X).drop (k * 1)).take ((ol - k) * 1)) → Sl w' q' (ol - k) 1 (strs (X.drop k)) := by
              intro w' hc' q' h
              have := h.chg hc' (off_no _)
              have e : ((strs X).drop (k * 1)).take ((ol - k) * 1) = strs (X.drop k) := by
                rw [Nat.mul_one, Nat.mul_one, List.take_of_length_le (by rw [List.length_drop, strs_length]; omega)]
                simp [strs]
              rw [e] at this
              exact this
            have fin : ∀ p' c' w', Row w' T_string 1 p' (0 + k + 1 + (ol - k)) c' (([] ++ strs (X.take k)) ++ [Value.string y1] ++ strs (X.drop k)) → Chg No w7'.drew w' → J3 p' (0 + k + 1 + (ol - k)) c' w' := by
              intro p' c' w' hr hc
              have e : ([] ++ strs (X.take k)) ++ [Value.string y1] ++ strs (X.drop k) = strs (X.take k ++ [y1] ++ X.drop k) := by simp [strs]
              rw [e] at hr
              refine k3 p' _ c' _ w' (((Chg.refl No w7').drew).trans0 hc) hr (by omega) (sasc_ins hs3 (by omega) hlo (fun h => ?_)) (have3 hne0 _ fun s => ?_)
              · rcases sLt_tri (pf X k) y1 with h' | h' | h'
                · rw [hhi (by omega)] at h'; cases h'
                · exact absurd h' (hne (by omega))
                · exact h'
              · have hm : s ∈ X ↔ s ∈ X.take k ∨ s ∈ X.drop k := by rw [← List.mem_append, List.take_append_drop]
                rw [hm]
                simp only [List.mem_append, List.mem_singleton]
                constructor
                · rintro ((a | a) | a)
                  · exact .inl (.inl a)
                  · exact .inr a
                  · exact .inl (.inr a)
                · rintro ((a | a) | a)
                  · exact .inl (.inl a)
                  · exact .inr a
                  · exact .inl (.inr a)
            refine slS_sl (i := 0) (j := k) hr14.sl rfl rfl (Nat.zero_le _) (by omega) le fun qA hA' _ => ?_
            refine slS_sl (i := k) (j := ol) hr14.sl rfl rfl (by omega) (Nat.le_refl _) le fun qB hB _ => ?_
            rw [Nat.sub_zero]
            have nA : qA = none → k = 0 := fun e => by
              by_cases h : k - 0 = 0
              · omega
              · obtain ⟨a, ha, _⟩ := hA'.at h; rw [e] at ha; cases ha
            have nB : qB = none → ol - k = 0 := fun e => by
              by_cases h : ol - k = 0
              · exact h
              · obtain ⟨a, ha, _⟩ := hB.at h; rw [e] at ha; cases ha
            have o1 : one1 [Value.string y1] := one1_cons rfl one1_nil
            refine ⟨?_, ?_⟩
            · refine newRow (sz := 1) (n := 0) (cs := []) rfl (by decide) fun b86 w15 hr86 hb86 hc15 => ⟨?_, ?_⟩
              · refine appT5 (w0 := w7'.drew) hr86 (slA _ hc15 _ hA') (one1_strs _) nA (by omega) (by rintro a ⟨⟩; exact hb86) hc15 fun p18 c18 w18 hr18 hf18 hc18 _ => ?_
                refine newRow (sz := 1) (n := 1) rfl (by decide) fun b95 w19 hr95 hb95 hc19 => ?_
                refine appT5 (hr18.chg hc19 (off_no _)) hr95.sl o1 (by simp) (by omega) hf18 (hc18.trans0 hc19) fun p20 c20 w20 hr20 hf20 hc20 _ => ?_
                refine appT5 hr20 (slB _ hc20 _ hB) (one1_strs _) nB (by omega) hf20 hc20 fun p21 c21 w21 hr21 hf21 hc21 _ => ?_
                exact fin _ _ _ hr21 hc21
              · refine newRow (sz := 1) (n := 1) rfl (by decide) fun b95 w22 hr95 hb95 hc22 => ?_
                refine appT5 (w0 := w7'.drew) (hr86.chg hc22 (off_no _)) (slA _ (hc15.trans0 hc22) _ hA') (one1_strs _) nA (by omega) (by rintro a ⟨⟩; exact hb86) (hc15.trans0 hc22) fun p18 c18 w18 hr18 hf18 hc18 hi18 => ?_
                have h95 := (hr95.chg hi18 (by
                  rintro a ⟨⟩ ⟨z, ⟨⟩, e⟩
                  have h1 := hr86.lt _ rfl
                  simp only at h1 e hb95
                  omega)).sl
                refine appT5 hr18 h95 o1 (by simp) (by omega) hf18 hc18 fun p20 c20 w20 hr20 hf20 hc20 _ => ?_
                refine appT5 hr20 (slB _ hc20 _ hB) (one1_strs _) nB (by omega) hf20 hc20 fun p21 c21 w21 hr21 hf21 hc21 _ => ?_
                exact fin _ _ _ hr21 hc21
            · refine newRow (sz := 1) (n := 1) rfl (by decide) fun b95 w26 hr95 hb95 hc26 => ?_
              refine newRow (sz := 1) (n := 0) (cs := []) rfl (by decide) fun b86 w27 hr86 hb86 hc27 => ?_
              have f86 : fresh w26 (some (⟨b86, 0, none⟩ : Addr)) := by rintro a ⟨⟩; exact hb86
              refine appT5 (w0 := w26) hr86 (slA _ (hc26.trans0 hc27) _ hA') (one1_strs _) nA (by omega) f86 hc27 fun p18 c18 w18 hr18 hf18 hc18 _ => ?_
              refine appT5 hr18 (hr95.chg hc18 (off_no _)).sl o1 (by simp) (by omega) hf18 hc18 fun p20 c20 w20 hr20 hf20 hc20 _ => ?_
              refine appT5 hr20 (slB _ (hc26.trans0 hc20) _ hB) (one1_strs _) nB (by omega) hf20 hc20 fun p21 c21 w21 hr21 hf21 hc21 _ => ?_
              exact fin _ _ _ hr21 (hc26.trans0 hc21)
          clear hJ54
          refine condB_not (fun hne => ?_) (fun he => k54e (of_decide_eq_true he))
          have hne := of_decide_eq_false hne
          by_cases hkl : k = ol
          · subst hkl
            refine condB_i (fun _ => k54t hne (fun h => by omega)) (fun h => by simp at h)
          · refine condB_i (fun h => by simp at h; omega) (fun _ => ?_)
            refine str_i hr7.sl (by omega) (by omega) fun s hs' => ?_
            rw [Int.toNat_natCast, pf_get (by omega)] at hs'
            obtain rfl := Option.some.inj hs'
            by_cases he : pf X k = y1
            · rw [decide_eq_true he]; exact k54f hne (by omega) he
            · rw [decide_eq_false he]; exact k54t hne (fun _ => he)
        clear hJ40
        refine condB_d (fun hkl => ?_) (fun hge => k40f (fun h => by omega))
        refine str_i hr7.sl (by omega) hkl fun s hs' => ?_
        rw [Int.toNat_natCast, pf_get (by omega)] at hs'
        obtain rfl := Option.some.inj hs'
        cases hb : sLt (pf X k) y1 with
        | true => rw [show Op.bytesLess (pf X k).toList y1.toList = true from hb]; exact k40t hb (by omega)
        | false => rw [show Op.bytesLess (pf X k).toList y1.toList = false from hb]; exact k40f (fun _ => hb)
      · have hnA : n = A.length := by omega
        subst hnA
        rw [List.take_of_length_le (Nat.le_refl _)] at hm3
        exact ⟨_, by omega, q + 1, X, by rw [w64_of] <;> omega, by omega, rfl, c38.trans0 hc13, hr13, by rw [htk, List.length_append]; omega, hs3, fun s => by rw [hm3, htk, List.mem_append]⟩
  · have hqL : q = L.length := by omega
    subst hqL
    rw [List.take_of_length_le (Nat.le_refl _)] at hm4
    have hXl : X.length = ol := by have := hr4.len; rw [strs_length] at this; omega
    subst hXl
    exact K X op oc w4 hs4 (fun s => by rw [hm4, hum]) hr4.sl (c03.trans0 hc4)
end
end Go.Proofs.YtmmfookfpdcohaaGreatDoor

