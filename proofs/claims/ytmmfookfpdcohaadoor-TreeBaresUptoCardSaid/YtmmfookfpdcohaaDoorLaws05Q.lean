/-
  Chapter 5's statements: Bares.
-/
import Derived.Test.YtmmfookfpdcohaaDoorBare
set_option linter.unusedVariables false
set_option linter.unusedSimpArgs false
namespace Go.Vc
open Go Go.Lib
theorem self_flat (x : Nd) : x ∈ x.flat := by cases x; simp only [Nd.flat]; exact List.mem_cons_self
mutual
theorem bareN_len : ∀ d : Nd, (bareN d).flat.length ≤ d.flat.length
  | .mk k u l t ats ks => by
    have := bareL_len ks
    simp only [bareN, Nd.flat, List.length_cons]; omega
theorem bareL_len : ∀ ks : List Nd, (Nd.flatL (bareL ks)).length ≤ (Nd.flatL ks).length
  | [] => by simp [bareL]
  | x :: r => by
    have h1 := bareN_len x
    have h2 := bareL_len r
    simp only [bareL]
    split
    · simp only [Nd.flatL, List.length_append]; omega
    · simp only [Nd.flatL, List.length_append]; omega
end
mutual
theorem bareN_flat : ∀ d : Nd, ∀ z ∈ (bareN d).flat, ∃ y ∈ d.flat, z = bareN y
  | .mk k u l t ats ks => by
    intro z hz
    simp only [bareN, Nd.flat, List.mem_cons] at hz ⊢
    rcases hz with rfl | hz
    · exact ⟨_, .inl rfl, by simp only [bareN]⟩
    · obtain ⟨y, hy, e⟩ := bareL_flat ks z hz
      exact ⟨y, .inr hy, e⟩
theorem bareL_flat : ∀ ks : List Nd, ∀ z ∈ Nd.flatL (bareL ks), ∃ y ∈ Nd.flatL ks, z = bareN y
  | [] => by simp [bareL, Nd.flatL]
  | x :: r => by
    intro z hz
    simp only [bareL] at hz
    split at hz
    · obtain ⟨y, hy, e⟩ := bareL_flat r z hz
      exact ⟨y, by simp only [Nd.flatL, List.mem_append]; exact .inr hy, e⟩
    · simp only [Nd.flatL, List.mem_append] at hz ⊢
      rcases hz with hz | hz
      · obtain ⟨y, hy, e⟩ := bareN_flat x z hz
        exact ⟨y, .inl hy, e⟩
      · obtain ⟨y, hy, e⟩ := bareL_flat r z hz
        exact ⟨y, .inr hy, e⟩
end
mutual
theorem bareN_deep : ∀ (d : Nd) (a : Int), deepN a d = false → deepN a (bareN d) = false
  | .mk k u l t ats ks, a => by
    intro h
    simp only [bareN]
    unfold deepN at h ⊢
    by_cases hk : k = 2
    · rw [if_pos hk] at h ⊢
      by_cases h32 : a > 32
      · rw [if_pos h32] at h; cases h
      · rw [if_neg h32] at h ⊢; exact bareL_deep ks _ h
    · rw [if_neg hk] at h ⊢; exact bareL_deep ks _ h
theorem bareL_deep : ∀ (ks : List Nd) (a : Int), deepNL a ks = false → deepNL a (bareL ks) = false
  | [], a => fun h => by simpa [bareL] using h
  | x :: r, a => by
    intro h
    simp only [deepNL, Bool.or_eq_false_iff] at h
    simp only [bareL]
    split
    · exact bareL_deep r a h.2
    · simp only [deepNL, Bool.or_eq_false_iff]; exact ⟨bareN_deep x a h.1, bareL_deep r a h.2⟩
end
mutual
theorem bareN_depth : ∀ d : Nd, (bareN d).depth ≤ d.depth
  | .mk k u l t ats ks => by
    have := bareL_depth ks
    simp only [bareN, Nd.depth]; omega
theorem bareL_depth : ∀ ks : List Nd, Nd.depthL (bareL ks) ≤ Nd.depthL ks
  | [] => by simp [bareL]
  | x :: r => by
    have h1 := bareN_depth x
    have h2 := bareL_depth r
    simp only [bareL]
    split
    · simp only [Nd.depthL]; omega
    · simp only [Nd.depthL]; omega
end
def kindR (k : Int) (u l t : ByteArray) (ats : List At) (e : Bool) : Bool :=
  if k = 1 then decide (u = emptyB ∧ l = emptyB ∧ t = emptyB ∧ ats = [])
  else if k = 2 then decide (t = emptyB)
  else if k = 3 ∨ k = 4 then decide (u = emptyB ∧ l = emptyB ∧ ats = []) && e
  else if k = 5 then decide (u = emptyB ∧ ats = []) && e
  else false
theorem kindG_eq (k : Int) (u l t : ByteArray) (ats : List At) (ks : List Nd) : kindG (.mk k u l t ats ks) = (ks.all (fun x => mayK k x.kind) && kindR k u l t ats ks.isEmpty) := rfl
theorem spc_bare {x : Nd} (h : kindG x = true) (hk : x.kind = 4 ∨ x.kind = 5) : x.spc = [] := by
  cases x with
  | mk k u l t ats ks =>
    have hk' : k = 4 ∨ k = 5 := hk
    rw [kindG_eq, Bool.and_eq_true] at h
    have h2 := h.2
    unfold kindR at h2
    rw [if_neg (by omega), if_neg (by omega)] at h2
    rcases hk' with rfl | rfl
    · rw [if_pos (by decide)] at h2
      simp only [Bool.and_eq_true, decide_eq_true_eq, List.isEmpty_iff] at h2
      obtain ⟨⟨rfl, _, rfl⟩, rfl⟩ := h2
      rfl
    · rw [if_neg (by decide), if_pos (by decide)] at h2
      simp only [Bool.and_eq_true, decide_eq_true_eq, List.isEmpty_iff] at h2
      obtain ⟨⟨rfl, rfl⟩, rfl⟩ := h2
      rfl
mutual
theorem bareN_spc : ∀ d : Nd, (∀ y ∈ d.flat, kindG y = true) → (bareN d).spc = d.spc
  | .mk k u l t ats ks => by
    intro h
    have := bareL_spc ks fun y hy => h y (by simp only [Nd.flat]; exact List.mem_cons_of_mem _ hy)
    simp only [bareN, Nd.spc, this]
theorem bareL_spc : ∀ ks : List Nd, (∀ y ∈ Nd.flatL ks, kindG y = true) → Nd.spcL (bareL ks) = Nd.spcL ks
  | [] => fun _ => by simp [bareL]
  | x :: r => by
    intro h
    have hx : ∀ y ∈ x.flat, kindG y = true := fun y hy => h y (by simp only [Nd.flatL, List.mem_append]; exact .inl hy)
    have h2 := bareL_spc r fun y hy => h y (by simp only [Nd.flatL, List.mem_append]; exact .inr hy)
    have h1 := bareN_spc x hx
    simp only [bareL]
    split
    · next hk => simp only [Nd.spcL, spc_bare (hx x (self_flat x)) hk, List.nil_append, h2]
    · simp only [Nd.spcL, h1, h2]
end
theorem bareN_kind (y : Nd) : (bareN y).kind = y.kind := by cases y; simp only [bareN]; rfl
theorem bareL_all {p : Int → Bool} : ∀ ks : List Nd, (ks.all fun x => p x.kind) = true → ((bareL ks).all fun x => p x.kind) = true
  | [] => by simp [bareL]
  | x :: r => by
    intro h
    rw [List.all_cons, Bool.and_eq_true] at h
    simp only [bareL]
    split
    · exact bareL_all r h.2
    · rw [List.all_cons, Bool.and_eq_true, bareN_kind]; exact ⟨h.1, bareL_all r h.2⟩
theorem bareL_roots : ∀ ks : List Nd, ((bareL ks).countP fun k => decide (k.kind = 2)) = ks.countP fun k => decide (k.kind = 2)
  | [] => by simp [bareL]
  | x :: r => by
    simp only [bareL]
    split
    · next hk => rw [List.countP_cons_of_neg (by rw [decide_eq_true_eq]; omega), bareL_roots r]
    · rw [List.countP_cons, List.countP_cons, bareL_roots r, bareN_kind]
theorem bareN_kindG {y : Nd} (h : kindG y = true) : kindG (bareN y) = true := by
  cases y with
  | mk k u l t ats ks =>
    simp only [bareN]
    rw [kindG_eq, Bool.and_eq_true] at h ⊢
    refine ⟨bareL_all (p := fun j => mayK k j) ks h.1, ?_⟩
    have h2 := h.2
    have he : ks.isEmpty = true → (bareL ks).isEmpty = true := fun e => by rw [List.isEmpty_iff.1 e]; simp [bareL]
    unfold kindR at h2 ⊢
    split
    · next e => rw [if_pos e] at h2; exact h2
    · next e1 =>
      rw [if_neg e1] at h2
      split
      · next e => rw [if_pos e] at h2; exact h2
      · next e2 =>
        rw [if_neg e2] at h2
        split
        · next e => rw [if_pos e, Bool.and_eq_true] at h2; rw [Bool.and_eq_true]; exact ⟨h2.1, he h2.2⟩
        · next e3 =>
          rw [if_neg e3] at h2
          split
          · next e => rw [if_pos e, Bool.and_eq_true] at h2; rw [Bool.and_eq_true]; exact ⟨h2.1, he h2.2⟩
          · next e => rw [if_neg e] at h2; cases h2
theorem bare_check {d : Nd} (hR : Right d) : checkL (bareN d) = 0 ∨ checkL (bareN d) = 32 := by
  have all : ∀ {P : Nd → Prop}, (∀ y, P y → P (bareN y)) → (∀ y ∈ d.flat, P y) → ∀ z ∈ (bareN d).flat, P z := by
    intro P h1 h2 z hz
    obtain ⟨y, hy, rfl⟩ := bareN_flat d z hz
    exact h1 y (h2 y hy)
  have e1 : (bareN d).kind = 1 := by rw [bareN_kind]; exact hR.kind
  have e2 : ∀ z ∈ (bareN d).flat, kindG z = true := all (P := fun z => kindG z = true) (fun y h => bareN_kindG h) hR.kinds
  have e3 := bareN_deep d 0 hR.deep
  have e4 : (bareN d).flat.length ≤ 2001 := Nat.le_trans (bareN_len d) hR.few
  have e5 : ∀ z ∈ (bareN d).flat, greatN z = false := all (P := fun z => greatN z = false) (fun y h => by cases y; simp only [bareN]; exact h) hR.great
  have e6 : ∀ z ∈ (bareN d).flat, nameG z = true := all (P := fun z => nameG z = true) (fun y h => by cases y; simp only [bareN]; exact h) hR.names
  have e7 : ∀ z ∈ (bareN d).flat, charsN z = true := all (P := fun z => charsN z = true) (fun y h => by cases y; simp only [bareN]; exact h) hR.chars
  have e8 : ∀ z ∈ (bareN d).flat, orderN z = true := all (P := fun z => orderN z = true) (fun y h => by cases y; simp only [bareN]; exact h) hR.order
  have e9 : rootsN (bareN d) = 1 := by
    have := hR.roots
    cases d with
    | mk k u l t ats ks => simp only [bareN]; unfold rootsN at this ⊢; simp only [Nd.kids] at this ⊢; rw [bareL_roots]; exact this
  by_cases ht : ∀ z ∈ (bareN d).flat, textN z = true
  · exact .inl (check_right.2 ⟨e1, e2, e3, e4, e5, e6, e7, e8, ht, e9⟩)
  · right
    have ne : ∀ {p : Nd → Bool}, (∀ z ∈ (bareN d).flat, p z = true) → ¬ (bareN d).flat.all p = false := fun h g => by rw [List.all_eq_true.2 h] at g; cases g
    unfold checkL
    rw [if_neg (fun h => h.elim (fun h => h e1) (ne e2)), if_neg (by rw [e3]; decide), if_neg (fun h => h.elim (fun h => by omega) (fun h => by
      obtain ⟨z, hz, hg⟩ := List.any_eq_true.1 h
      rw [e5 z hz] at hg; cases hg)), if_neg (ne e6), if_neg (ne e7), if_neg (ne e8), if_pos (by
      rw [Bool.eq_false_iff]
      exact fun h => ht (List.all_eq_true.1 h))]
end Go.Vc
namespace Go.Proofs.YtmmfookfpdcohaaDoor
open Go Go.Vc Go.Lib
section
variable {w : World}
theorem TreeBares_ok {x : NV} (T : TT w) (hx : x.Ok w) (hm : x.mea ≤ 1048576) : callJ Tryd.prog fn_law05_TreeBares #[.agg ⟨x.cells⟩] w [.one .bool] fun r w' => r = true ∧ Chg No w w' := by
  cases x with
  | mk k u l t ap al ac ats kp kl kc ks =>
  refine c_law05_TreeBares ?_
  unfold VC_law05_TreeBares
  refine nodeBox (Hp.start w No) fun b1 w1 H1 hb hc1 => ?_
  refine awake05_ok (T.chg hc1) fun w2 hc2 => ?_
  have H2 := H1.step0 hc2
  refine condB_i (fun h => by cases h) (fun _ => ?_)
  refine ldBox H2 0 rfl ?_
  refine Check_ok (x := NV.mk k u l t ap al ac ats kp kl kc ks) (T.chg H2.chg) (hx.chg0 H2.chg) (by omega) fun w3 hc3 => ?_
  have H3 := H2.step0 hc3
  refine condB_ne (fun _ => ⟨rfl, H3.chg⟩) (fun hz => ?_)
  have hR := check_right.1 hz
  refine ldBox H3 0 rfl ?_
  refine Bare_ok (NV.mk k u l t ap al ac ats kp kl kc ks) hx H3.chg (by omega) fun v' w4 hnd hok hbd hmea hc4 => ?_
  have hbc := bare_check hR
  have hfl := bareN_len (NV.mk k u l t ap al ac ats kp kl kc ks).nd
  have hdp := bareN_depth (NV.mk k u l t ap al ac ats kp kl kc ks).nd
  have hsp := bareN_spc (NV.mk k u l t ap al ac ats kp kl kc ks).nd hR.kinds
  rw [← size_flat, ← size_flat, ← hnd] at hfl
  rw [← hnd] at hbc hdp hsp
  cases v' with
  | mk zk zu zl zt zap zal zac zas zkp zkl zkc zks =>
  have H4 := H3.step0 hc4
  simp only [NV.giv]
  refine storeBox H4 fun b3 w6 H6 hb3 hc6 => ?_
  refine ldBox H6 0 rfl ?_
  refine Check_ok (x := NV.mk zk zu zl zt zap zal zac zas zkp zkl zkc zks) (T.chg H6.chg) (hok.chg0 hc6) (by omega) fun w7 hc7 => ?_
  have H7 := (H6.step0 hc7).drew
  have hok7 := (hok.chg0 hc6).chg0 hc7.drew
  have hx7 := hx.chg0 H7.chg
  generalize checkL (NV.mk zk zu zl zt zap zal zac zas zkp zkl zkc zks).nd = r at *
  refine withJ_i fun J34 hJ34 => ?_
  have k34 : ∀ w8, Chg No w w8 → J34 false w8 := by
    intro w8 hc8
    subst hJ34
    refine condB_i (fun h => by cases h) (fun _ => ?_)
    refine withJ_i fun J2 hJ2 => ?_
    have k2 : ∀ v, v = true → J2 v w8 := by intro v hv; subst hJ2; exact ⟨hv, hc8⟩
    clear hJ2
    refine condB_eq (fun _ => k2 true rfl) (fun h => k2 _ (by rw [beq_iff_eq]; omega))
  clear hJ34
  refine ldBox H7 0 rfl ?_
  refine ldBox H7 1 rfl ?_
  refine Size_ok (NV.mk zk zu zl zt zap zal zac zas zkp zkl zkc zks) hok7 (by omega) fun w10 hc10 => ?_
  have H10 := H7.step0 hc10
  refine ⟨H10.cells 1 rfl 0, ?_⟩
  refine Size_ok (NV.mk k u l t ap al ac ats kp kl kc ks) (hx7.chg0 hc10) (by omega) fun w11 hc11 => ?_
  have H11 := H10.step0 hc11
  refine condB_d (fun h => by omega) (fun _ => ?_)
  refine ldBox H11 0 rfl ?_
  refine ldBox H11 1 rfl ?_
  refine Depth_ok (NV.mk zk zu zl zt zap zal zac zas zkp zkl zkc zks) ((hok7.chg0 hc10).chg0 hc11) (by omega) fun w12 hc12 => ?_
  have H12 := H11.step0 hc12
  refine ⟨H12.cells 1 rfl 0, ?_⟩
  refine Depth_ok (NV.mk k u l t ap al ac ats kp kl kc ks) (((hx7.chg0 hc10).chg0 hc11).chg0 hc12) (by omega) fun w13 hc13 => ?_
  have H13 := H12.step0 hc13
  refine condB_d (fun h => by omega) (fun _ => ?_)
  refine ldBox H13 0 rfl ?_
  refine ldBox H13 1 rfl ?_
  refine Spaces_ok (x := NV.mk zk zu zl zt zap zal zac zas zkp zkl zkc zks) ((((hok7.chg0 hc10).chg0 hc11).chg0 hc12).chg0 hc13) (by omega) fun Y1 p1 c1 w14 ha1 hm1 hs1 _ hc14 => ?_
  have H14 := H13.step0 hc14
  refine ⟨H14.cells 1 rfl 0, ?_⟩
  refine Spaces_ok (x := NV.mk k u l t ap al ac ats kp kl kc ks) (((((hx7.chg0 hc10).chg0 hc11).chg0 hc12).chg0 hc13).chg0 hc14) (by omega) fun Y2 p2 c2 w15 ha2 hm2 hs2 _ hc15 => ?_
  have H15 := H14.step0 hc15
  have hY : Y1 = Y2 := sasc_uniq ha1 ha2 fun s => by rw [hm1, hm2, hsp]
  subst hY
  rw [show (((Y1.length : Nat) : Int) != ((Y1.length : Nat) : Int)) = false from by simp]
  exact k34 w15 H15.chg
end
end Go.Proofs.YtmmfookfpdcohaaDoor

