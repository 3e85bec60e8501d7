/-
  Chapter 04's statements about attributes: ScopeAttrs, ScopeOrders, ScopeRenames.
-/
import Derived.Test.YtdjehimkijlhgaaDoorAttrsR
set_option linter.unusedVariables false
set_option linter.unusedSimpArgs false
namespace Go.Vc
open Go Go.Lib
/-- What is answered: the attributes and the code. -/
def AR (A : List At × Int) (X : List At) (e : Int) : Prop := (A.2 ≠ 0 ∧ e = A.2 ∧ X = []) ∨ (A.2 = 0 ∧ Dup A.1 ∧ e = 27 ∧ X = []) ∨ (A.2 = 0 ∧ e = 0 ∧ X.Perm A.1 ∧ Asc X)
theorem AR.same {A B : List At × Int} {X Y : List At} {e f : Int} (hx : AR A X e) (hy : AR B Y f) (h0 : A.2 = 0 ↔ B.2 = 0) (hp : A.2 = 0 → A.1.Perm B.1) : (e = 0 ↔ f = 0) ∧ X = Y ∧ (A.2 = B.2 → e = f) := by
  rcases hx with ⟨h1, rfl, rfl⟩ | ⟨h1, h2, rfl, rfl⟩ | ⟨h1, rfl, h2, h3⟩
  · rcases hy with ⟨k1, rfl, rfl⟩ | ⟨k1, k2, rfl, rfl⟩ | ⟨k1, rfl, k2, k3⟩
    · exact ⟨⟨fun h => absurd h h1, fun h => absurd h k1⟩, rfl, id⟩
    · exact absurd (h0.2 k1) h1
    · exact absurd (h0.2 k1) h1
  · rcases hy with ⟨k1, rfl, rfl⟩ | ⟨k1, k2, rfl, rfl⟩ | ⟨k1, rfl, k2, k3⟩
    · exact absurd (h0.1 h1) k1
    · exact ⟨Iff.rfl, rfl, fun _ => rfl⟩
    · exact absurd ((perm_names (hp h1)).2 ((perm_names k2).1 (asc_names k3))) h2
  · rcases hy with ⟨k1, rfl, rfl⟩ | ⟨k1, k2, rfl, rfl⟩ | ⟨k1, rfl, k2, k3⟩
    · exact absurd (h0.1 h1) k1
    · exact absurd ((perm_names (hp h1)).1 ((perm_names h2).1 (asc_names h3))) k2
    · exact ⟨Iff.rfl, asc_uniq h3 k3 ((h2.trans (hp h1)).trans k2.symm), fun _ => rfl⟩
def und (x : Pr) : Bool := !(decl x).isSome
theorem attrsA_all {bound : BoundF} : ∀ (L : List Pr) (acc : List At), ((attrsA bound L acc).2 = 0 ↔ ∀ x ∈ L, und x = true → (attr1 bound x).2 = 0) ∧ ((attrsA bound L acc).2 = 0 → (attrsA bound L acc).1 = acc ++ (L.filter und).map fun x => (attr1 bound x).1) ∧ ((attrsA bound L acc).2 ≠ 0 → (attrsA bound L acc).1 = [])
  | [], acc => by simp [attrsA]
  | x :: L, acc => by
    unfold attrsA
    by_cases hd : (decl x).isSome = true
    · rw [if_pos hd]
      have hu : und x = false := by unfold und; rw [hd]; rfl
      obtain ⟨a, b, c⟩ := attrsA_all (bound := bound) L acc
      refine ⟨?_, ?_, c⟩
      · rw [a]; simp [hu]
      · intro h; rw [b h, List.filter_cons_of_neg (by simp [hu])]
    · rw [if_neg hd]
      have hu : und x = true := by unfold und; simpa using hd
      by_cases h1 : (attr1 bound x).2 ≠ 0
      · rw [if_pos h1]
        exact ⟨⟨fun h => absurd h h1, fun h => absurd (h x (by simp) hu) h1⟩, fun h => absurd h h1, fun _ => rfl⟩
      · rw [if_neg h1]
        have h1' : (attr1 bound x).2 = 0 := by simpa using h1
        obtain ⟨a, b, c⟩ := attrsA_all (bound := bound) L (acc ++ [(attr1 bound x).1])
        refine ⟨?_, ?_, c⟩
        · rw [a]; simp [h1']
        · intro h; rw [b h, List.filter_cons_of_pos hu]; simp
theorem attrsA_rev {bound : BoundF} (L : List Pr) : ((attrsA bound L []).2 = 0 ↔ (attrsA bound L.reverse []).2 = 0) ∧ ((attrsA bound L []).2 = 0 → (attrsA bound L []).1.Perm (attrsA bound L.reverse []).1) := by
  obtain ⟨a, b, c⟩ := attrsA_all (bound := bound) L []
  obtain ⟨a', b', c'⟩ := attrsA_all (bound := bound) L.reverse []
  have h : (attrsA bound L []).2 = 0 ↔ (attrsA bound L.reverse []).2 = 0 := by rw [a, a']; simp
  refine ⟨h, fun h0 => ?_⟩
  rw [b h0, b' (h.1 h0)]
  simp only [List.nil_append]
  exact ((List.reverse_perm L).symm.filter und).map _
theorem attrsA_local {bound : BoundF} {L : List Pr} (h0 : (attrsA bound L []).2 = 0) {a : At} (ha : a ∈ (attrsA bound L []).1) : nm (bl a.2.1) = true := by
  obtain ⟨p, q, _⟩ := attrsA_all (bound := bound) L []
  rw [q h0] at ha
  simp only [List.nil_append] at ha
  obtain ⟨x, hx, e⟩ := List.mem_map.1 ha
  obtain ⟨h1, h2⟩ := List.mem_filter.1 hx
  have h3 := p.1 h0 x h1 h2
  have hl : ∀ s : List UInt8, (spl s).2.2 = true → nm (spl s).2.1 = true := by
    intro s hs
    unfold spl at hs ⊢
    split at hs
    · next hn =>
      split at hs
      · next h => rw [if_pos h]; simpa using h
      · cases hs
    · next i hn =>
      split at hs
      · next h => rw [if_pos h]; simp only [Bool.and_eq_true] at h; exact h.2
      · cases hs
  rw [← e]
  unfold attr1 at h3 ⊢
  by_cases g : (spl (bl x.1)).2.2 = false
  · rw [if_pos g] at h3; cases h3
  · rw [if_neg g] at h3 ⊢
    have g' : (spl (bl x.1)).2.2 = true := by simpa using g
    by_cases g2 : (spl (bl x.1)).1 = []
    · rw [if_pos g2]; simp only; rw [bl_mkB]; exact hl _ g'
    · rw [if_neg g2] at h3 ⊢
      by_cases g3 : (bound (mkB (spl (bl x.1)).1)).2 = false
      · rw [if_pos g3] at h3; cases h3
      · rw [if_neg g3]; simp only; rw [bl_mkB]; exact hl _ g'
/-! ## Names that are the same, whichever prefix stands for their space -/
theorem nm_ne {s : ByteArray} (h : nm (bl s) = true) : s ≠ kE := by
  rintro rfl
  revert h
  unfold nm
  rw [show bl kE = [] from rfl]
  simp
theorem bl_app (a b : ByteArray) : bl (a ++ b) = bl a ++ bl b := by
  unfold bl
  rw [ByteArray.data_append, Array.toList_append]
def kXc : ByteArray := ⟨#[120, 109, 108, 110, 115, 58]⟩
def kC : ByteArray := ⟨#[58]⟩
theorem decl_xc {p u : ByteArray} (hp : nm (bl p) = true) : decl (kXc ++ p, u) = some p := by
  have hs : spl (bl (kXc ++ p)) = (bl kXmlns, bl p, true) := by
    have := spl_colon (bl kXmlns) (bl p)
    rw [show nm (bl kXmlns) = true from nm_xmlns, hp] at this
    rw [bl_app, show bl kXc = bl kXmlns ++ [58] from by decide]
    exact this
  have hne : kXc ++ p ≠ kXmlns := by
    intro e
    have := congrArg (fun s => (bl s).length) e
    simp only [bl_app, List.length_append] at this
    rw [show (bl kXc).length = 6 from rfl, show (bl kXmlns).length = 5 from rfl] at this
    omega
  unfold decl
  rw [if_neg hne, if_pos (by rw [hs]; exact ⟨rfl, rfl⟩), hs, mkB_bl]
theorem spl_pc {p l : ByteArray} (hp : nm (bl p) = true) : spl (bl (p ++ kC ++ l)) = if nm (bl l) = true then (bl p, bl l, true) else ([], [], false) := by
  have := spl_colon (bl p) (bl l)
  rw [hp, Bool.true_and] at this
  rw [bl_app, bl_app, show bl kC = [58] from rfl]
  exact this
/-- A prefix stands for a space. -/
def Stands (bound : BoundF) (p u : ByteArray) : Prop := nm (bl p) = true ∧ p ≠ kXmlns ∧ bound p = (u, true)
theorem stands_elem {bound : BoundF} {p u l : ByteArray} (h : Stands bound p u) : elemL bound (p ++ kC ++ l) = if nm (bl l) = true then ((u, l), 0) else ((kE, kE), 24) := by
  obtain ⟨h1, h2, h3⟩ := h
  unfold elemL
  rw [spl_pc h1]
  by_cases hl : nm (bl l) = true
  · rw [if_pos hl, if_pos hl]
    simp only [mkB_bl]
    rw [if_neg (by simp), if_neg h2, h3, if_neg (by simp)]
  · rw [if_neg hl, if_neg hl]
    simp
theorem stands_attrs {bound : BoundF} {p u l v : ByteArray} (h : Stands bound p u) : attrsA bound [(p ++ kC ++ l, v)] [] = if nm (bl l) = true then ([(u, l, v)], 0) else ([], 24) := by
  obtain ⟨h1, h2, h3⟩ := h
  have hne : p ++ kC ++ l ≠ kXmlns := by
    intro e
    have e2 := spl_pc (l := l) h1
    rw [e] at e2
    have e3 := spl_xmlns
    by_cases hl : nm (bl l) = true
    · rw [if_pos hl] at e2
      rw [e2] at e3
      exact nm_ne h1 (bl_ext e3)
    · rw [if_neg hl] at e2
      have : spl (bl kXmlns) = ([], bl kXmlns, true) := by
        unfold spl
        rw [show colon (bl kXmlns) = none from by decide]
        simp only
        rw [show nm (bl kXmlns) = true from nm_xmlns]; rfl
      rw [this] at e2
      cases e2
  have hd : decl (p ++ kC ++ l, v) = none := by
    unfold decl
    rw [if_neg hne, if_neg]
    rw [spl_pc h1]
    rintro ⟨a, b⟩
    by_cases hl : nm (bl l) = true
    · rw [if_pos hl] at b
      exact h2 (bl_ext b)
    · rw [if_neg hl] at a; cases a
  unfold attrsA
  rw [hd, if_neg (by simp)]
  have ha : attr1 bound (p ++ kC ++ l, v) = if nm (bl l) = true then ((u, l, v), 0) else ((kE, kE, kE), 24) := by
    unfold attr1
    simp only
    rw [spl_pc h1]
    by_cases hl : nm (bl l) = true
    · rw [if_pos hl, if_pos hl]
      simp only [mkB_bl]
      rw [if_neg (by simp), if_neg (fun e : bl p = [] => nm_ne h1 (bl_ext e)), h3, if_neg (by simp)]
    · rw [if_neg hl, if_neg hl]
      simp
  rw [ha]
  by_cases hl : nm (bl l) = true
  · rw [if_pos hl, if_pos hl, if_neg (by simp)]; rfl
  · rw [if_neg hl, if_neg hl, if_pos (by simp)]
theorem wrong_stands {p u : ByteArray} (hp : nm (bl p) = true) (hw : wrongZ p u = 0) : p ≠ kXmlns ∧ u ≠ kE ∧ (p = kXml → u = kSXml) := by
  unfold wrongZ at hw
  split at hw
  · cases hw
  · next h =>
    rw [not_or, not_or] at h
    split at hw
    · cases hw
    · next h2 =>
      have hne := nm_ne hp
      refine ⟨h.1, fun e => h2 ⟨hne, e⟩, fun e => ?_⟩
      have h3 := h.2.2
      rw [Classical.not_not] at h3
      have : decide (u = kSXml) = true := by rw [← h3]; exact decide_eq_true e
      exact of_decide_eq_true this
theorem stands1 {p u : ByteArray} (hp : nm (bl p) = true) (h : (openP [(kXc ++ p, u)] [] []).2 = 0) : Stands (boundP (openP [(kXc ++ p, u)] [] []).1) p u := by
  unfold openP at h ⊢
  rw [decl_xc hp] at h ⊢
  simp only at h ⊢
  by_cases hw : wrongZ p u = 0
  · obtain ⟨h1, h2, h3⟩ := wrong_stands hp hw
    rw [if_neg (fun h => h hw), if_neg (by simp [memB])]
    unfold openP putP
    refine ⟨hp, h1, ?_⟩
    unfold boundP
    by_cases hx : p = kXml
    · rw [if_pos hx, h3 hx]
    · rw [if_neg hx, if_pos ⟨hx, h2⟩]
      simp
  · rw [if_pos hw] at h
    exact absurd h hw
def kOther : ByteArray := ⟨#[111, 116, 104, 101, 114]⟩
theorem stands2 {p u : ByteArray} (hp : nm (bl p) = true) (h : (openP [(kXc ++ p, u), (kXmlns, kOther)] [] []).2 = 0) : Stands (boundP (openP [(kXc ++ p, u), (kXmlns, kOther)] [] []).1) p u := by
  unfold openP at h ⊢
  rw [decl_xc hp] at h ⊢
  simp only at h ⊢
  by_cases hw : wrongZ p u = 0
  · obtain ⟨h1, h2, h3⟩ := wrong_stands hp hw
    have hne := nm_ne hp
    rw [if_neg (fun h => h hw), if_neg (by simp [memB])]
    unfold openP
    rw [decl_x]
    simp only
    rw [if_neg (by decide +kernel), if_neg (by simp [memB]; exact hne)]
    unfold openP
    refine ⟨hp, h1, ?_⟩
    unfold boundP
    by_cases hx : p = kXml
    · rw [if_pos hx, h3 hx]
    · rw [if_neg hx]
      have hl : lookB (putP (putP [] p u) kE kOther) p = some u := by
        rw [lookB_put, if_neg hne, lookB_put, if_pos rfl, if_pos ⟨hx, h2⟩]
      unfold lookB at hl
      cases hf : (putP (putP [] p u) kE kOther).find? (fun b => decide (b.1 = p)) with
      | none => rw [hf] at hl; cases hl
      | some b => rw [hf] at hl; simp only [Option.map_some] at hl; simp only; rw [Option.some.inj hl]
  · rw [if_pos hw] at h
    exact absurd h hw
end Go.Vc
namespace Go.Proofs.YtdjehimkijlhgaaDoor
open Go Go.Vc Go.Lib
section
variable {w : World}
theorem Attrs_ar {p q : Option Addr} {l c m d : Nat} {B L : List Pr} {J : Option Addr → Nat → Nat → Int → World → Prop} (h : Sl w p l 2 (rows pr B)) (hl : l ≤ 1000000000) (hL : Sl w q m 2 (rows pr L)) (hs : ∀ x ∈ L, x.1.size ≤ 9223372036854775806) (hm : m ≤ 100000000) (T : Tabs w)
    (K : ∀ X e p' l' c' w', AR (attrsA (boundP B) L []) X e → Sl w' p' l' 3 (rows atc X) → l' ≤ m → Chg No w w' → J p' l' c' e w') :
    callJ Tryd.prog fn_scope_Scope_Attrs #[.agg ⟨[.slice p l c]⟩, .slice q m d] w [.one .slice, .one (.int .i64)] J := by
  have hll := hL.row (even_pr L) (by decide)
  refine Attrs_ok h hl hL hs hm T (fun h0 w' hc => ?_) (fun h0 hd w' hc => ?_) (fun h0 X hp ha p' l' c' w' hr hf hc => ?_)
  · exact K [] _ none 0 0 w' (.inl ⟨h0, rfl, rfl⟩) (Sl.nil _ _ _) (Nat.zero_le _) hc
  · exact K [] _ none 0 0 w' (.inr (.inl ⟨h0, hd, rfl, rfl⟩)) (Sl.nil _ _ _) (Nat.zero_le _) hc
  · refine K X _ p' l' c' w' (.inr (.inr ⟨h0, rfl, hp, ha⟩)) hr.sl ?_ hc
    have h1 := attrsA_len (bound := boundP B) L []
    have h2 := hp.length_eq
    have h3 := hr.n
    simp only [List.length_nil] at h1
    omega
theorem RAttrs_ar {p q pl : Option Addr} {l c d m dl : Nat} {R L : List Pr} {J : Option Addr → Nat → Nat → Int → World → Prop} (h1 : Sl w p l 1 (strs (R.map Prod.fst))) (h2 : Sl w q l 1 (strs (R.map Prod.snd))) (hm : l ≤ 140737488355328) (hL : Sl w pl m 2 (rows pr L)) (hs : ∀ x ∈ L, x.1.size ≤ 140737488355328) (hml : m ≤ 100000000)
    (K : ∀ X e p' l' c' w', AR (attrsA (boundR R) L []) X e → Sl w' p' l' 3 (rows atc X) → l' ≤ m → Chg No w w' → J p' l' c' e w') :
    callJ Tryd.prog fn_ref04_Attrs #[.agg ⟨[.slice p l c, .slice q l d]⟩, .slice pl m dl] w [.one .slice, .one (.int .i64)] J := by
  refine RAttrs_ok h1 h2 hm hL hs hml (fun h0 w' hc => ?_) (fun h0 hd w' hc => ?_) (fun h0 X hp ha p' l' c' w' hr hf hlm hc => ?_)
  · exact K [] _ none 0 0 w' (.inl ⟨h0, rfl, rfl⟩) (Sl.nil _ _ _) (Nat.zero_le _) hc
  · exact K [] _ none 0 0 w' (.inr (.inl ⟨h0, hd, rfl, rfl⟩)) (Sl.nil _ _ _) (Nat.zero_le _) hc
  · exact K X _ p' l' c' w' (.inr (.inr ⟨h0, rfl, hp, ha⟩)) hr.sl hlm hc

theorem slT_spair : SlT Tryd.prog T_sl_scan_Pair T_scan_Pair 2 32 #[.string ByteArray.empty, .string ByteArray.empty] := SlT.of (by kernel_rfl) (by kernel_rfl) rfl (by decide)
theorem ppv_chg {w w' : World} {v : PPV} (hv : PPV.Good w v) (hc : Chg No w w') : PPV.Good w' v := ⟨hv.sl.chg hc (off_no _), hv.len, hv.nil, hv.cap, hv.max, hv.fits, hv.even, fun s hs => by
    have h := hv.all s hs
    exact ⟨h.sl.chg hc (off_no _), h.len, h.nil, h.cap, h.max, h.fits, h.even, h.all⟩⟩

theorem ScopeAttrs_ok {v : PPV} {u : PV} (T : Tabs w) (hv : PPV.Good w v) (hu : PV.Good w u) (hsum : v.sum + u.l ≤ 1048576) : callJ Tryd.prog fn_law04_ScopeAttrs #[.slice v.p v.l v.c, .slice u.p u.l u.c] w [.one .bool] fun r w' => r = true ∧ Chg No w w' := by
  refine c_law04_ScopeAttrs ?_
  unfold VC_law04_ScopeAttrs
  refine awake04_ok T fun w1 hc1 => ?_
  refine condB_i (fun h => by simp at h) fun _ => ?_
  refine Opened_ok (ppv_chg hv hc1) (by omega) (T.chg hc1) fun B R sp sl sc tp tl tc tq td w2 hrel hB nB hP hU nP nU bB bR _ _ _ hc2 => ?_
  rw [zeroC_rscope]
  have c02 := hc1.trans0 hc2
  have H2 : Hp w No w2 [] := Hp.of_chg c02
  rw [zeroC_scope]
  refine H2.newB fun b5 w3 H3 hb5 hc3 => ?_
  refine H3.newB fun b6 w4 H4 hb6 hc4 => ?_
  refine H4.stN 1 rfl (off := 0) rfl (by simp) (one1_cons rfl one1_nil) fun w5 H5 hc5 => ?_
  refine H5.stN 0 rfl (off := 0) rfl (by simp) (one1_cons rfl (one1_cons rfl one1_nil)) fun w6 H6 hc6 => ?_
  simp only [List.set_cons_succ, List.set_cons_zero] at H6
  have c26 : Chg No w2 w6 := by
    refine ((hc3.trans0 hc4).trans hc5 fun b hb e => ?_).trans hc6 fun b hb e => ?_
    · subst e; omega
    · subst e; have := hc3.size; omega
  refine newRow (sz := 2) (n := 0) (cs := []) rfl (by decide) fun b22 w7 hr7 hb7 hc7 => ?_
  have H7 := H6.step0 hc7
  refine appJ_row slT_spair hr7 (hu.sl.chg H7.chg (off_no _)) (one1_prs _) hu.nil (by omega) (by simp only [maxLen]; omega) fun p8 c8 w8 hr8 hc8 _ => ?_
  rw [List.nil_append] at hr8
  have f7 : fresh w6 (some (⟨b22, 0, none⟩ : Addr)) := by rintro a ⟨⟩; exact hb7
  have c68 : Chg No w6 w8 := hc7.trans hc8 (fresh_no f7)
  have H8 := H6.step0 c68
  have c28 := c26.trans0 c68
  have hin : ∀ x ∈ u.xs, x.1.size ≤ 140737488351232 := fun x hx => (hu.all x hx).1
  refine H8.ldS 1 rfl (off := 0) rfl ?_
  rw [Nat.zero_add] at hr8 ⊢
  refine Attrs_ar (B := B) (L := u.xs) (hB.chg c28 (off_no _)) (by omega) hr8.sl (fun x hx => by have := hin x hx; omega) (by omega) (T.chg H8.chg) fun X e p9 l9 c9 w9 hX hs9 hl9 hc9 => ?_
  have H9 := (H8.step0 hc9).drew
  refine H9.ldS 0 rfl (off := 0) rfl ?_
  refine H9.ldS 0 rfl (off := 1) rfl ?_
  refine Doc_ok (hu.sl.chg H9.chg (off_no _)) (by omega) fun p10 c10 w10 hr10 _ hc10 => ?_
  have H10 := H9.step0 hc10
  have c29 : Chg No w2 w9.drew := (c28.trans0 hc9).drew
  have c2a := c29.trans0 hc10
  refine ⟨H10.cells 0 rfl 0, ?_⟩
  refine RAttrs_ar (R := R) (L := u.xs) (hP.chg c2a (off_no _)) (hU.chg c2a (off_no _)) (by omega) hr10.sl (fun x hx => by have := hin x hx; omega) (by omega) fun Y f p11 l11 c11 w11 hY hs11 hl11 hc11 => ?_
  have hbe : boundP B = boundR R := funext fun p => hrel.bound p
  rw [hbe] at hX
  obtain ⟨_, rfl, hef⟩ := hX.same hY Iff.rfl (fun _ => .refl _)
  obtain rfl := hef rfl
  have c9b : Chg No w9 w11 := ((Chg.refl No w9).drew.trans0 hc10).trans0 hc11
  have H11 := H10.step0 hc11
  refine withJ_i fun J50 hJ50 => ?_
  have k50 : ∀ w12, Chg No w11 w12 → J50 false w12 := by
    intro w12 hc12; subst hJ50
    refine condB_i (fun h => by cases h) (fun _ => ?_)
    refine ⟨fun x w' t => ∃ i : Nat, x = i ∧ i ≤ u.l ∧ t = u.l - i ∧ Chg No w12 w', ⟨_, 0, rfl, Nat.zero_le _, rfl, Chg.refl _ _⟩, ?_⟩
    rintro x w13 t ⟨i, rfl, hi, rfl, hc13⟩
    have H13 := ((H11.step0 hc12).step0 hc13).drew
    refine condB_d (fun hlt => ?_) (fun hge => ⟨rfl, (H11.step0 hc12).chg.trans0 hc13⟩)
    have cc : Chg No w8 w13.drew := ((hc9.trans0 c9b).trans0 (hc12.trans0 hc13)).drew
    refine pr_i (hr8.chg cc (off_no _)).sl (by omega) hlt fun a y hy e1 e2 => ldStr_i e1 (ldStr_i e2 ?_)
    refine pr_i (hu.sl.chg H13.chg (off_no _)) (by omega) hlt fun a' y' hy' e1' e2' => ldStr_i e1' (ldStr_i e2' ?_)
    rw [hy] at hy'
    obtain rfl := Option.some.inj hy'
    refine condB_i (fun h => by simp at h) (fun _ => ?_)
    exact ⟨_, by omega, i + 1, by rw [w64_of] <;> omega, by omega, rfl, hc13.drew⟩
  clear hJ50
  refine condB_i (fun h => by cases h) (fun _ => ?_)
  refine condB_ne (fun h => absurd rfl h) (fun _ => ?_)
  refine SameAttrs_ok (hs9.chg c9b (off_no _)) hs11 (by omega) fun w14 hc14 => ?_
  rw [decide_eq_true rfl]
  exact k50 w14 hc14

theorem ScopeOrders_ok {v : PPV} {u : PV} (T : Tabs w) (hv : PPV.Good w v) (hu : PV.Good w u) (hsum : v.sum + u.l ≤ 1048576) : callJ Tryd.prog fn_law04_ScopeOrders #[.slice v.p v.l v.c, .slice u.p u.l u.c] w [.one .bool] fun r w' => r = true ∧ Chg No w w' := by
  refine c_law04_ScopeOrders ?_
  unfold VC_law04_ScopeOrders
  refine awake04_ok T fun w1 hc1 => ?_
  refine condB_i (fun h => by simp at h) fun _ => ?_
  refine Opened_ok (ppv_chg hv hc1) (by omega) (T.chg hc1) fun B R sp sl sc tp tl tc tq td w2 hrel hB nB hP hU nP nU bB bR _ _ _ hc2 => ?_
  rw [zeroC_rscope]
  have c02 := hc1.trans0 hc2
  have H2 : Hp w No w2 [] := Hp.of_chg c02
  rw [zeroC_scope]
  refine H2.newB fun b5 w3 H3 hb5 hc3 => ?_
  refine H3.newB fun b6 w4 H4 hb6 hc4 => ?_
  refine H4.stN 1 rfl (off := 0) rfl (by simp) (one1_cons rfl one1_nil) fun w5 H5 hc5 => ?_
  refine H5.stN 0 rfl (off := 0) rfl (by simp) (one1_cons rfl (one1_cons rfl one1_nil)) fun w6 H6 hc6 => ?_
  simp only [List.set_cons_succ, List.set_cons_zero] at H6
  have c26 : Chg No w2 w6 := by
    refine ((hc3.trans0 hc4).trans hc5 fun b hb e => ?_).trans hc6 fun b hb e => ?_
    · subst e; omega
    · subst e; have := hc3.size; omega
  refine newRow (sz := 2) (n := 0) (cs := []) rfl (by decide) fun b23 w7 hr7 hb7 hc7 => ?_
  have hul := hu.len
  have hul2 : (w64 ((u.l : Int) - 1)) = (u.l : Int) - 1 := by rw [w64_of] <;> omega
  rw [hul2]
  refine ⟨fun bp bl_ bc x w' t => ∃ j : Nat, x = (j : Int) - 1 ∧ j ≤ u.l ∧ t = j ∧ bl_ = u.l - j ∧ Chg No w6 w' ∧ fresh w6 bp ∧ Row w' T_scan_Pair 2 bp bl_ bc (rows pr (u.xs.drop j).reverse), ⟨_, u.l, rfl, Nat.le_refl _, rfl, by omega, hc7, by rintro a ⟨⟩; exact hb7, by rw [List.drop_of_length_le (by omega)]; exact hr7⟩, ?_⟩
  rintro bp bl_ bc x w8 t ⟨j, rfl, hj, ht, rfl, hc8, hf8, hr8⟩
  have H8 := H6.step0 hc8
  refine condB_d (fun hge => ?_) (fun hlt => ?_)
  · refine pr_i (hu.sl.chg H8.chg (off_no _)) (by omega) (by omega) fun a y hy e1 e2 => ldStr_i e1 (ldStr_i e2 ⟨rfl, ?_⟩)
    have ej : ((j : Int) - 1).toNat = j - 1 := by omega
    rw [ej] at hy
    refine newRow (sz := 2) (n := 1) rfl (by decide) fun b36 w9 hr9 hb9 hc9 => ?_
    refine appJ_row slT_spair (hr8.chg hc9 (off_no _)) hr9.sl (one1_pr y) (by simp) (by omega) (by simp only [maxLen]; omega) fun p' c' w' hr' hc' hf' => ?_
    refine ⟨_, by omega, j - 1, by rw [w64_of] <;> omega, by omega, rfl, by omega, (hc8.trans0 hc9).trans hc' (fresh_no hf8), ?_, ?_⟩
    · rcases hf' with rfl | hf'
      · exact hf8
      · intro a ha; exact Nat.le_trans (hc8.trans0 hc9).size (hf' a ha)
    · have e : rows pr (u.xs.drop j).reverse ++ [Value.string y.1, Value.string y.2] = rows pr (u.xs.drop (j - 1)).reverse := by
        obtain ⟨g1, g2⟩ := List.getElem?_eq_some_iff.1 hy
        have : u.xs.drop (j - 1) = y :: u.xs.drop j := by
          rw [List.drop_eq_getElem_cons g1, g2, show j - 1 + 1 = j from by omega]
        rw [this, List.reverse_cons, rows_append]; rfl
      rw [e] at hr'
      exact hr'
  have j0 : j = 0 := by omega
  subst j0
  rw [List.drop_zero] at hr8
  have hin : ∀ x ∈ u.xs, x.1.size ≤ 140737488351232 := fun x hx => (hu.all x hx).1
  have c28 := c26.trans0 hc8
  refine H8.ldS 1 rfl (off := 0) rfl ?_
  refine Attrs_ar (B := B) (L := u.xs) (hB.chg c28 (off_no _)) (by omega) (hu.sl.chg H8.chg (off_no _)) (fun x hx => by have := hin x hx; omega) (by omega) (T.chg H8.chg) fun X e p9 l9 c9 w9 hX hs9 hl9 hc9 => ?_
  have H9 := H8.step0 hc9
  refine H9.ldS 1 rfl (off := 0) rfl ?_
  refine Attrs_ar (B := B) (L := u.xs.reverse) ((hB.chg c28 (off_no _)).chg hc9 (off_no _)) (by omega) (hr8.chg hc9 (off_no _)).sl (fun x hx => by have := hin x (List.mem_reverse.1 hx); omega) (by omega) (T.chg H9.chg) fun Y f p10 l10 c10 w10 hY hs10 hl10 hc10 => ?_
  have H10 := H9.step0 hc10
  obtain ⟨r1, r2⟩ := attrsA_rev (bound := boundP B) u.xs
  obtain ⟨hef, rfl, _⟩ := hX.same hY r1 r2
  have hs10' := hs9.chg hc10 (off_no _)
  have hXl := hs9.row (even_at X) (by decide)
  refine withJ_i fun J73 hJ73 => ?_
  have k73 : ∀ w13, Chg No w10 w13 → J73 false w13 := by
    intro w13 hc13; subst hJ73
    refine condB_i (fun h => by cases h) (fun _ => ?_)
    refine ⟨fun x w' t => ∃ i : Nat, x = i ∧ i ≤ l9 ∧ t = l9 - i ∧ Chg No w13 w', ⟨_, 0, rfl, Nat.zero_le _, rfl, Chg.refl _ _⟩, ?_⟩
    rintro x w14 t ⟨i, rfl, hi, rfl, hc14⟩
    have H14 := ((H10.step0 hc13).step0 hc14)
    refine condB_d (fun hlt => ?_) (fun hge => ⟨decide_eq_true (by omega), H14.chg⟩)
    refine withJ_i fun J105 hJ105 => ?_
    have k105 : ∀ w15, Chg No w14 w15 → J105 false w15 := by
      intro w15 hc15; subst hJ105
      refine condB_i (fun h => by cases h) (fun _ => ?_)
      exact ⟨_, by omega, i + 1, by rw [w64_of] <;> omega, by omega, rfl, hc14.trans0 hc15⟩
    clear hJ105
    -- here there are attributes
    obtain ⟨hA0, hperm, hasc⟩ : (attrsA (boundP B) u.xs []).2 = 0 ∧ X.Perm (attrsA (boundP B) u.xs []).1 ∧ Asc X := by
      rcases hX with ⟨_, _, rfl⟩ | ⟨_, _, _, rfl⟩ | ⟨h0, _, h1, h2⟩
      · simp at hXl; omega
      · simp at hXl; omega
      · exact ⟨h0, h1, h2⟩
    have hs14 : ∀ w', Chg No w14 w' → Sl w' p9 l9 3 (rows atc X) := fun w' hc => (hs10'.chg (hc13.trans0 hc14) (off_no _)).chg hc (off_no _)
    have hiX : i < X.length := by omega
    have hmem : pf X i ∈ (attrsA (boundP B) u.xs []).1 := hperm.mem_iff.1 (List.mem_of_getElem? (pf_get hiX))
    have hnm := attrsA_local hA0 hmem
    have hsz : (pf X i).2.1.size ≤ 140737488355328 := by
      have h1 : decide ((bl (pf X i).2.1).length ≤ 100) = true := by
        rw [nm_at] at hnm
        simp only [Bool.and_eq_true] at hnm
        exact hnm.1.2
      have := of_decide_eq_true h1
      rw [bl_len] at this; omega
    refine condB_d (fun hpos => ?_) (fun hz => ?_)
    · have ei : w64 ((i : Int) - 1) = ((i - 1 : Nat) : Int) := by rw [w64_of] <;> omega
      rw [ei]
      refine at_i (hs14 w14.drew (Chg.refl _ _).drew) (n := i - 1) rfl (by omega) fun a e0 e1 _ => ldStr_i e0 (ldStr_i e1 ?_)
      refine at_i (hs14 w14.drew (Chg.refl _ _).drew) (n := i) rfl (by omega) fun a' f0 f1 _ => ldStr_i f0 (ldStr_i f1 ?_)
      refine Before_ok (a := nameOf (pf X (i - 1))) (b := nameOf (pf X i)) fun w16 hc16 => ?_
      have c16 : Chg No w14 w16 := (Chg.refl No w14).drew.trans0 hc16
      have hlt' : nLt (nameOf (pf X (i - 1))) (nameOf (pf X i)) = true := by
        have := List.pairwise_iff_getElem.1 hasc (i - 1) i (by omega) (by omega) (by omega)
        have e1 := pf_get (X := X) (i := i - 1) (by omega)
        have e2 := pf_get (X := X) (i := i) (by omega)
        rw [List.getElem?_eq_getElem (by omega)] at e1 e2
        rw [Option.some.inj e1, Option.some.inj e2] at this
        exact this
      rw [hlt']
      refine condB_i (fun h => by cases h) (fun _ => ?_)
      refine at_i (hs14 w16 c16) (n := i) rfl (by omega) fun a' f0 f1 _ => ldStr_i f1 ?_
      refine NameR_ok hsz fun w17 hc17 => ?_
      rw [hnm]
      exact k105 w17 (c16.trans0 hc17)
    · refine at_i (hs14 w14.drew (Chg.refl _ _).drew) (n := i) rfl (by omega) fun a' f0 f1 _ => ldStr_i f1 ?_
      refine NameR_ok hsz fun w17 hc17 => ?_
      rw [hnm]
      exact k105 w17 ((Chg.refl No w14).drew.trans0 hc17)
  clear hJ73
  have heq : ((e == (0 : Int)) == (f == (0 : Int))) = true := by
    by_cases h : e = 0
    · have := hef.1 h; simp [h, this]
    · have h2 : f ≠ 0 := fun hf => h (hef.2 hf)
      have a1 : (e == (0 : Int)) = false := by simpa using h
      have a2 : (f == (0 : Int)) = false := by simpa using h2
      rw [a1, a2]; rfl
  rw [heq]
  refine condB_i (fun h => by cases h) (fun _ => ?_)
  have hl0 : e ≠ 0 → l9 = 0 := by
    intro h
    rcases hX with ⟨_, _, rfl⟩ | ⟨_, _, _, rfl⟩ | ⟨h0, h1, _, _⟩
    · simpa using hXl.symm
    · simpa using hXl.symm
    · exact absurd h1 h
  by_cases he : e = 0
  · subst he
    refine condB_i (fun _ => ?_) (fun h => by simp at h)
    refine SameAttrs_ok hs10' hs10 (by omega) fun w19 hc19 => ?_
    rw [decide_eq_true rfl]
    refine condB_i (fun h => by cases h) (fun _ => ?_)
    refine condB_ne (fun h => absurd rfl h) (fun _ => ?_)
    exact k73 w19 hc19
  · refine condB_i (fun h => by simp at h; exact absurd h he) (fun _ => ?_)
    refine condB_ne (fun _ => ?_) (fun h => absurd h he)
    rw [hl0 he]
    exact k73 w10 (Chg.refl _ _)

theorem ScopeRenames_ok {p q u l : ByteArray} (T : Tabs w) (hp : InS p) (hq : InS q) (hu : InS u) (hl : InS l) : callJ Tryd.prog fn_law04_ScopeRenames #[.string p, .string q, .string u, .string l] w [.one .bool] fun r w' => r = true ∧ Chg No w w' := by
  refine c_law04_ScopeRenames ?_
  unfold VC_law04_ScopeRenames
  unfold InS at hp hq hu hl
  have sz1 : ∀ a b : ByteArray, (a ++ b).size = a.size + b.size := fun a b => by rw [ByteArray.size_append]
  rw [show (⟨#[120, 109, 108, 110, 115, 58]⟩ : ByteArray) = kXc from rfl, show (⟨#[58]⟩ : ByteArray) = kC from rfl, show (⟨#[120, 109, 108, 110, 115]⟩ : ByteArray) = kXmlns from rfl, show (⟨#[111, 116, 104, 101, 114]⟩ : ByteArray) = kOther from rfl]
  have s6 : kXc.size = 6 := rfl
  have s1 : kC.size = 1 := rfl
  have s5 : kXmlns.size = 5 := rfl
  refine awake04_ok T fun w1 hc1 => ?_
  refine condB_i (fun h => by simp at h) fun _ => ?_
  refine New_ok fun w2 hc2 => ?_
  refine ⟨by omega, rfl, ?_⟩
  refine newRow (sz := 2) (n := 1) rfl (by decide) fun b29 w3 hr3 _ hc3 => ?_
  have c3 := (hc1.trans0 hc2).trans0 hc3
  refine Open_ok (B := []) (L := [(kXc ++ p, u)]) (Sl.nil _ _ _) (fun _ => rfl) hr3.sl (by intro x hx; simp at hx; subst hx; simp only; rw [sz1]; omega) (by decide) (T.chg c3) fun p4 l4 c4 w4 hr4 hf4 hc4 hl4 => ?_
  have c4' := c3.trans0 hc4
  refine scopeVar ((Hp.start w No).step0 c4') fun b9 w6 H6 hc6 => ?_
  refine New_ok fun w7 hc7 => ?_
  refine ⟨by omega, rfl, rfl, ?_⟩
  refine newRow (sz := 2) (n := 2) rfl (by decide) fun b40 w8 hr8 _ hc8 => ?_
  have H8 := (H6.step0 hc7).step0 hc8
  refine Open_ok (B := []) (L := [(kXc ++ q, u), (kXmlns, kOther)]) (Sl.nil _ _ _) (fun _ => rfl) hr8.sl (by intro x hx; simp at hx; rcases hx with rfl | rfl; (· simp only; rw [sz1]; omega); (· simp only; omega)) (by decide) (T.chg H8.chg) fun p9 l9 c9 w9 hr9 hf9 hc9 hl9 => ?_
  refine scopeVar (H8.step0 hc9) fun b11 w11 H11 hc11 => ?_
  have c4b : Chg No w4 w11 := (((hc6.trans0 hc7).trans0 hc8).trans0 hc9).trans0 hc11
  have hr4' := hr4.chg c4b (off_no _)
  have hr9' := hr9.chg hc11 (off_no _)
  refine withJ_i fun J59 hJ59 => ?_
  have k59t : ∀ w12, Chg No w11 w12 → J59 true w12 := by
    intro w12 hc12; subst hJ59
    exact condB_i (fun _ => ⟨rfl, (H11.step0 hc12).chg⟩) (fun h => by cases h)
  have k59f : ∀ w12, Chg No w11 w12 → Stands (boundP (openP [(kXc ++ p, u)] [] []).1) p u → Stands (boundP (openP [(kXc ++ q, u), (kXmlns, kOther)] [] []).1) q u → J59 false w12 := by
    intro w12 hc12 S1 S2; subst hJ59
    refine condB_i (fun h => by cases h) (fun _ => ?_)
    have H12 := H11.step0 hc12
    refine H12.ldS 1 rfl (off := 0) rfl ⟨by rw [s1]; omega, by rw [sz1, s1]; omega, ?_⟩
    refine Element_ok (q := p ++ kC ++ l) (hr4'.chg hc12 (off_no _)).sl (by omega) (by rw [sz1, sz1, s1]; omega) (T.chg H12.chg) fun w13 hc13 => ?_
    rw [stands_elem S1]
    refine nameVar (H12.step0 hc13) fun b13 w15 H15 hc15 => ?_
    have c12 : Chg No w11 w15 := (hc12.trans0 hc13).trans0 hc15
    refine H15.ldS 1 rfl (off := 0) rfl ⟨by rw [s1]; omega, by rw [sz1, s1]; omega, ?_⟩
    refine Element_ok (q := q ++ kC ++ l) (hr9'.chg c12 (off_no _)).sl (by omega) (by rw [sz1, sz1, s1]; omega) (T.chg H15.chg) fun w16 hc16 => ?_
    rw [stands_elem S2]
    refine nameVar (H15.step0 hc16) fun b15 w18 H18 hc18 => ?_
    have c18 : Chg No w11 w18 := (c12.trans0 hc16).trans0 hc18
    refine H18.ldS 3 rfl (off := 0) rfl ⟨by rw [s1]; omega, by rw [sz1, s1]; omega, rfl, ?_⟩
    refine newRow (sz := 2) (n := 1) rfl (by decide) fun b85 w19 hr19 _ hc19 => ?_
    have H19 := H18.step0 hc19
    refine Attrs_ar (L := [(p ++ kC ++ l, ⟨#[49]⟩)]) (hr4'.chg (c18.trans0 hc19) (off_no _)).sl (by omega) hr19.sl (by intro x hx; simp only [List.mem_singleton] at hx; subst hx; simp only; rw [sz1, sz1, s1]; omega) (by decide) (T.chg H19.chg) fun X e p20 l20 c20 w20 hX hs20 hl20 hc20 => ?_
    have H20 := H19.step0 hc20
    refine H20.ldS 2 rfl (off := 0) rfl ⟨by rw [s1]; omega, by rw [sz1, s1]; omega, rfl, ?_⟩
    refine newRow (sz := 2) (n := 1) rfl (by decide) fun b96 w21 hr21 _ hc21 => ?_
    have H21 := H20.step0 hc21
    refine Attrs_ar (L := [(q ++ kC ++ l, ⟨#[49]⟩)]) (hr9'.chg (((c18.trans0 hc19).trans0 hc20).trans0 hc21) (off_no _)).sl (by omega) hr21.sl (by intro x hx; simp only [List.mem_singleton] at hx; subst hx; simp only; rw [sz1, sz1, s1]; omega) (by decide) (T.chg H21.chg) fun Y f p22 l22 c22 w22 hY hs22 hl22 hc22 => ?_
    have H22 := H21.step0 hc22
    rw [stands_attrs S1] at hX
    rw [stands_attrs S2] at hY
    obtain ⟨_, rfl, hef⟩ := hX.same hY Iff.rfl (fun _ => .refl _)
    obtain rfl := hef rfl
    refine withJ_i fun J118 hJ118 => ?_
    have k118 : ∀ w23, Chg No w22 w23 → J118 false w23 := by
      intro w23 hc23; subst hJ118
      have H23 := H22.step0 hc23
      refine condB_i (fun h => by cases h) (fun _ => ?_)
      refine withJ_i fun J8 hJ8 => ?_
      have k8 : ∀ w24, Chg No w23 w24 → J8 true w24 := by
        intro w24 hc24; subst hJ8
        exact ⟨rfl, (H23.step0 hc24).chg⟩
      clear hJ8
      by_cases hnl : nm (bl l) = true
      · rw [if_pos hnl] at H23 ⊢
        refine condB_i (fun _ => ?_) (fun h => by simp at h)
        refine H23.ldStr 1 rfl (off := 0) rfl ?_
        refine H23.ldStr 1 rfl (off := 1) rfl ?_
        refine condB_i (fun _ => k8 w23 (Chg.refl _ _)) (fun h => by simp at h)
      · rw [if_neg hnl] at H23 ⊢
        refine condB_i (fun h => by simp at h) (fun _ => ?_)
        refine NameR_ok (by omega) fun w26 hc26 => ?_
        refine condB_i (fun _ => ?_) (fun h => by simp at h; exact absurd h hnl)
        exact k8 w26 hc26
    clear hJ118
    refine condB_ne (fun h => absurd rfl h) (fun _ => ?_)
    refine condB_ne (fun h => absurd rfl h) (fun _ => ?_)
    refine H22.ldStr 1 rfl (off := 0) rfl ?_
    refine H22.ldStr 1 rfl (off := 1) rfl ?_
    refine H22.ldStr 0 rfl (off := 0) rfl ?_
    refine H22.ldStr 0 rfl (off := 1) rfl ?_
    refine condB_i (fun h => by simp at h) (fun _ => ?_)
    refine SameAttrs_ok (hs20.chg (hc21.trans0 hc22) (off_no _)) hs22 (by omega) fun w27 hc27 => ?_
    rw [decide_eq_true rfl]
    exact k118 w27 hc27
  clear hJ59
  refine condB_ne (fun _ => k59t w11 (Chg.refl _ _)) (fun h1 => ?_)
  refine condB_ne (fun _ => k59t w11 (Chg.refl _ _)) (fun h2 => ?_)
  refine NameR_ok (by omega) fun w28 hc28 => ?_
  refine condB_not (fun _ => k59t w28 hc28) (fun n1 => ?_)
  refine NameR_ok (by omega) fun w29 hc29 => ?_
  cases n2 : nm (bl q) with
  | true => exact k59f w29 (hc28.trans0 hc29) (stands1 n1 h1) (stands2 n2 h2)
  | false => exact k59t w29 (hc28.trans0 hc29)
end
end Go.Proofs.YtdjehimkijlhgaaDoor

