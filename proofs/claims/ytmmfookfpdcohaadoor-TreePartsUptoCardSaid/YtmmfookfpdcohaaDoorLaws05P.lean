/-
  Chapter 5's statements: Parts.
-/
import Derived.Test.YtmmfookfpdcohaaDoorLaws05
set_option linter.unusedVariables false
set_option linter.unusedSimpArgs false
namespace Go.Vc
open Go Go.Lib
theorem deepN_mono : ∀ (x : Nd) {a b : Int}, b ≤ a → deepN a x = false → deepN b x = false := by
  intro x
  induction x using Nd.ind with
  | h k u l t ats ks ih =>
    intro a b hab h
    unfold deepN at h ⊢
    have hL : ∀ {a b : Int}, b ≤ a → deepNL a ks = false → deepNL b ks = false := by
      intro a b hab h
      rw [deepNL_any, List.any_eq_false] at h ⊢
      intro y hy
      have h1 := h y hy
      rw [Bool.not_eq_true] at h1 ⊢
      exact ih y hy hab h1
    by_cases hk : k = 2
    · rw [if_pos hk] at h ⊢
      by_cases h32 : a > 32
      · rw [if_pos h32] at h; cases h
      · rw [if_neg h32] at h
        rw [if_neg (by omega)]
        exact hL (by omega) h
    · rw [if_neg hk] at h ⊢
      exact hL hab h
theorem flatL_len_mem {x : Nd} : ∀ {ks : List Nd}, x ∈ ks → x.flat.length ≤ (Nd.flatL ks).length
  | z :: r, h => by
    simp only [Nd.flatL, List.length_append]
    rcases List.mem_cons.1 h with rfl | h
    · omega
    · have := flatL_len_mem h; omega
/-- A part of a right document is right: an element two steps down, as the only root. -/
theorem right_part {d e x : Nd} (hR : Right d) (he : e ∈ d.kids) (hx : x ∈ e.kids) (h2 : x.kind = 2) : Right (.mk 1 emptyB emptyB emptyB [] [x]) := by
  have hde : ∀ y ∈ e.flat, y ∈ d.flat := by
    cases d with
    | mk k u l t ats ks => intro y hy; simp only [Nd.flat]; exact List.mem_cons_of_mem _ (flatL_mem.2 ⟨_, he, hy⟩)
  have hex : ∀ y ∈ x.flat, y ∈ e.flat := by
    cases e with
    | mk k u l t ats ks => intro y hy; simp only [Nd.flat]; exact List.mem_cons_of_mem _ (flatL_mem.2 ⟨_, hx, hy⟩)
  have hall : ∀ y ∈ x.flat, y ∈ d.flat := fun y hy => hde y (hex y hy)
  have hfl : (Nd.mk 1 emptyB emptyB emptyB [] [x]).flat = .mk 1 emptyB emptyB emptyB [] [x] :: x.flat := by simp only [Nd.flat, Nd.flatL, List.append_nil]
  have two : ∀ {P : Nd → Prop}, P (.mk 1 emptyB emptyB emptyB [] [x]) → (∀ y ∈ d.flat, P y) → ∀ y ∈ (Nd.mk 1 emptyB emptyB emptyB [] [x]).flat, P y := by
    intro P h1 h y hy
    rw [hfl] at hy
    rcases List.mem_cons.1 hy with rfl | hy
    · exact h1
    · exact h y (hall y hy)
  refine ⟨rfl, two ?_ hR.kinds, ?_, ?_, two ?_ hR.great, two ?_ hR.names, two ?_ hR.chars, two ?_ hR.order, two ?_ hR.texts, ?_⟩
  · unfold kindG
    have : mayK 1 2 = true := by decide
    simp only [Nd.kids, Nd.kind, Nd.uri, Nd.loc, Nd.text, Nd.attrs, List.all_cons, List.all_nil]
    have hk : mayK 1 x.kind = true := by rw [h2]; exact this
    simp only [Nd.kind] at hk
    rw [hk]; simp
  · have hd := hR.deep
    have hk1 := hR.kind
    have h0 : deepN 0 x = false := by
      cases d with
      | mk k u l t ats ks =>
        have hk1' : k = 1 := hk1
        unfold deepN at hd
        rw [if_neg (by omega), deepNL_any, List.any_eq_false] at hd
        have hd2 := hd e he
        rw [Bool.not_eq_true] at hd2
        cases e with
        | mk ek eu el et eats eks =>
          unfold deepN at hd2
          by_cases hek : ek = 2
          · rw [if_pos hek, if_neg (by decide), deepNL_any, List.any_eq_false] at hd2
            have := hd2 x hx
            rw [Bool.not_eq_true] at this
            exact deepN_mono x (by decide) this
          · rw [if_neg hek, deepNL_any, List.any_eq_false] at hd2
            have := hd2 x hx
            rw [Bool.not_eq_true] at this
            exact this
    unfold deepN
    rw [if_neg (by decide), deepNL_any, List.any_cons, h0]; rfl
  · have hf := hR.few
    have h1 : x.flat.length + 1 ≤ e.flat.length := by
      cases e with
      | mk k u l t ats ks => simp only [Nd.flat, List.length_cons]; have := flatL_len_mem hx; simp only [Nd.kids] at this; omega
    have h2 : e.flat.length + 1 ≤ d.flat.length := by
      cases d with
      | mk k u l t ats ks => simp only [Nd.flat, List.length_cons]; have := flatL_len_mem he; simp only [Nd.kids] at this; omega
    rw [hfl, List.length_cons]; omega
  · rfl
  · rfl
  · show (fineB emptyB && _) = true
    rw [fine_nil]; rfl
  · rfl
  · rfl
  · unfold rootsN
    show ([x] : List Nd).countP _ = 1
    rw [List.countP_cons, List.countP_nil, if_pos (decide_eq_true h2)]
end Go.Vc
namespace Go.Proofs.YtmmfookfpdcohaaDoor
open Go Go.Vc Go.Lib
section
variable {w : World}
theorem TreeParts_ok {x : NV} (T : TT w) (hx : x.Ok w) (hm : x.mea ≤ 1048576) : callJ Tryd.prog fn_law05_TreeParts #[.agg ⟨x.cells⟩] w [.one .bool] fun r w' => r = true ∧ Chg No w w' := by
  cases x with
  | mk k u l t ap al ac ats kp kl kc ks =>
  have hx0 := hx
  cases hx with
  | mk ha hn hac hk hkn hkc hks =>
  have hkl := hk.row (even_node ks) (by decide)
  have hsm := size_mea (.mk k u l t ap al ac ats kp kl kc ks)
  have hdm := depth_le (NV.mk k u l t ap al ac ats kp kl kc ks).nd
  have hkm : ∀ y ∈ ks, y.mea + 1 ≤ 1048576 := fun y hy => by
    have := mea_kid hy
    simp only [NV.mea] at hm; omega
  have hlm := len_meaL ks
  have hmm : kl ≤ 1048576 := by simp only [NV.mea] at hm; omega
  have hsz : (NV.mk k u l t ap al ac ats kp kl kc ks).nd.size = 1 + Nd.sizeL (ks.map NV.nd) := by rw [nd_kids]; simp only [Nd.size]
  have hdp : (NV.mk k u l t ap al ac ats kp kl kc ks).nd.depth = Nd.depthL (ks.map NV.nd) + 1 := by rw [nd_kids]; simp only [Nd.depth]
  have hkids : (NV.mk k u l t ap al ac ats kp kl kc ks).nd.kids = ks.map NV.nd := by rw [nd_kids]; rfl
  refine c_law05_TreeParts ?_
  unfold VC_law05_TreeParts
  refine nodeBox (Hp.start w No) fun b1 w1 H1 hb hc1 => ?_
  refine awake05_ok (T.chg hc1) fun w2 hc2 => ?_
  have H2 := H1.step0 hc2
  have c02 := H2.chg
  refine condB_i (fun h => by cases h) (fun _ => ?_)
  refine H2.ldS 0 rfl (off := 4) rfl ?_
  refine ⟨fun s dd i w' m => ∃ q : Nat, i = q ∧ q ≤ kl ∧ m = kl - q ∧ Chg No w2 w' ∧ s = ((1 + Nd.sizeL ((ks.map NV.nd).take q) : Nat) : Int) ∧ dd = ((Nd.depthL ((ks.map NV.nd).take q) : Nat) : Int), ⟨_, 0, rfl, Nat.zero_le _, rfl, Chg.refl _ _, rfl, rfl⟩, ?_⟩
  rintro s dd i w3 m ⟨q, rfl, hq, rfl, hc3, rfl, rfl⟩
  have c03 := c02.trans0 hc3
  have H3 := H2.step0 hc3
  refine condB_d (fun hlt => ?_) (fun hge => ?_)
  · refine idx_rows (hk.chg c03 (off_no _)) (even_node ks) (by decide) (by omega) hlt fun a y _ hy hcs => ?_
    rw [Int.toNat_natCast] at hy
    have hymem := List.mem_of_getElem? hy
    have hyok := hks y hymem
    have hym := hkm y hymem
    have ht : (ks.map NV.nd).take (q + 1) = (ks.map NV.nd).take q ++ [y.nd] := take_get (by rw [List.getElem?_map, hy]; rfl)
    have hs1 := sizeL_take (ks.map NV.nd) (q + 1)
    rw [ht, sizeL_append] at hs1
    simp only [Nd.sizeL] at hs1
    cases y with
    | mk yk yu yl yt yap yal yac yas ykp ykl ykc yks =>
    refine nodeVar (Hp.start w3 No) hcs fun b6 w5 H5 _ hc5 => ?_
    refine ldBox H5 0 rfl ?_
    refine Size_ok (NV.mk yk yu yl yt yap yal yac yas ykp ykl ykc yks) ((hyok.chg0 c03).chg0 hc5) (by omega) fun w6 hc6 => ?_
    have H6 := H5.step0 hc6
    refine ldBox H6 0 rfl ?_
    refine Depth_ok (NV.mk yk yu yl yt yap yal yac yas ykp ykl ykc yks) (((hyok.chg0 c03).chg0 hc5).chg0 hc6) (by omega) fun w7 hc7 => ?_
    refine ⟨_, by omega, q + 1, by rw [w64_of] <;> omega, by omega, rfl, ((hc3.trans0 hc5).trans0 hc6).trans0 hc7, ?_, ?_⟩
    · rw [ht, sizeL_append]
      simp only [Nd.sizeL]
      rw [w64_of (by omega) (by omega)]; omega
    · rw [ht, depthL_append]
      simp only [Nd.depthL]
      split <;> omega
  · rw [List.take_of_length_le (by rw [List.length_map]; omega)]
    refine withJ_i fun J39 hJ39 => ?_
    have k39 : ∀ w8, Chg No w3 w8 → J39 false w8 := by
      intro w8 hc8
      subst hJ39
      have H8 := H3.step0 hc8
      have c08 := c03.trans0 hc8
      refine condB_i (fun h => by cases h) (fun _ => ?_)
      refine ldBox H8 0 rfl ?_
      refine Check_ok (x := NV.mk k u l t ap al ac ats kp kl kc ks) (T.chg c08) (hx0.chg0 c08) (by omega) fun w9 hc9 => ?_
      have H9 := H8.step0 hc9
      have c09 := c08.trans0 hc9
      refine condB_ne (fun _ => ⟨rfl, c09⟩) (fun hz => ?_)
      have hR := check_right.1 hz
      refine H9.ldS 0 rfl (off := 4) rfl ?_
      refine ⟨fun i w' m => ∃ q : Nat, i = q ∧ q ≤ kl ∧ m = kl - q ∧ Chg No w9 w', ⟨_, 0, rfl, Nat.zero_le _, rfl, Chg.refl _ _⟩, ?_⟩
      rintro i w10 m ⟨q, rfl, hq, rfl, hc10⟩
      have c010 := c09.trans0 hc10
      refine condB_d (fun hlt => ?_) (fun hge => ⟨rfl, c010⟩)
      refine idx_rows (hk.chg c010 (off_no _)) (even_node ks) (by decide) (by omega) hlt fun a e _ hy hcs => ?_
      have hemem := List.mem_of_getElem? hy
      have heok := hks e hemem
      have hem := hkm e hemem
      have hend : e.nd ∈ (NV.mk k u l t ap al ac ats kp kl kc ks).nd.kids := by rw [hkids]; exact List.mem_map_of_mem hemem
      cases e with
      | mk ek eu el et eap eal eac eats ekp ekl ekc eks =>
      have hek2 : (NV.mk ek eu el et eap eal eac eats ekp ekl ekc eks).nd.kids = eks.map NV.nd := by rw [nd_kids]; rfl
      cases heok with
      | mk ha' hn' hac' hek hekn hekc heks =>
      have hekl := hek.row (even_node eks) (by decide)
      have helm := len_meaL eks
      have heml : NV.meaL eks ≤ 1048574 := by simp only [NV.mea] at hem; omega
      refine nodeVar (Hp.start w10 No) hcs fun b8 w12 H12 _ hc12 => ?_
      refine H12.ldS 0 rfl (off := 4) rfl ?_
      refine ⟨fun i w' m => ∃ p : Nat, i = p ∧ p ≤ ekl ∧ m = ekl - p ∧ Chg No w12 w', ⟨_, 0, rfl, Nat.zero_le _, rfl, Chg.refl _ _⟩, ?_⟩
      rintro i w13 m ⟨p, rfl, hp, rfl, hc13⟩
      have c1013 := hc12.trans0 hc13
      have c013 := c010.trans0 c1013
      refine condB_d (fun hlt2 => ?_) (fun hge2 => ⟨_, by omega, q + 1, by rw [w64_of] <;> omega, by omega, rfl, hc10.trans0 c1013⟩)
      refine idx_rows (hek.chg c013 (off_no _)) (even_node eks) (by decide) (by omega) hlt2 fun a y _ hy hcs => ?_
      have hymem := List.mem_of_getElem? hy
      have hyok := heks y hymem
      have hym := mea_kid hymem
      have hynd : y.nd ∈ (NV.mk ek eu el et eap eal eac eats ekp ekl ekc eks).nd.kids := by rw [hek2]; exact List.mem_map_of_mem hymem
      cases y with
      | mk yk yu yl yt yap yal yac yas ykp ykl ykc yks =>
      refine nodeVar (Hp.start w13 No) hcs fun b10 w15 H15 _ hc15 => ?_
      refine withJ_i fun J66 hJ66 => ?_
      have k66 : ∀ w16, Chg No w13 w16 → J66 false w16 := by
        intro w16 hc; subst hJ66
        refine condB_i (fun h => by cases h) (fun _ => ?_)
        exact ⟨_, by omega, p + 1, by rw [w64_of] <;> omega, by omega, rfl, hc13.trans0 hc⟩
      clear hJ66
      refine H15.ldI 0 rfl (off := 0) rfl ?_
      refine condB_eq (fun h2 => ?_) (fun h2 => k66 w15 hc15)
      refine ldBox H15 0 rfl ?_
      refine ⟨rfl, ?_⟩
      refine H15.newB fun b62 w17 H17 hb62 hc17 => ?_
      have c017 := (c013.trans0 hc15).trans0 hc17
      have hs : Sl w17 (some ⟨b62, 0, none⟩) 1 6 (rows NV.cells [NV.mk yk yu yl yt yap yal yac yas ykp ykl ykc yks]) :=
        (H17.asRow 0 rfl (l := 1) (c := 1) (sz := 6) (rest := []) rfl rfl (Nat.le_refl _) (by decide) rfl).sl
      refine Check_ok (x := .mk 1 emptyB emptyB emptyB none 0 0 [] (some ⟨b62, 0, none⟩) 1 1 [NV.mk yk yu yl yt yap yal yac yas ykp ykl ykc yks]) (T.chg c017)
        (.mk (Sl.nil _ _ _) (fun _ => rfl) (Nat.le_refl _) hs (by simp) (Nat.le_refl _) fun z hz => by rw [List.mem_singleton.1 hz]; exact hyok.chg0 c017)
        (by
          have e0 : emptyB.size = 0 := rfl
          have e1 : (NV.mk 1 emptyB emptyB emptyB none 0 0 [] (some ⟨b62, 0, none⟩) 1 1 [NV.mk yk yu yl yt yap yal yac yas ykp ykl ykc yks]).mea = 1 + emptyB.size + emptyB.size + emptyB.size + 0 + ((NV.mk yk yu yl yt yap yal yac yas ykp ykl ykc yks).mea + 0) := rfl
          rw [e1]; omega) fun w18 hc18 => ?_
      have hz2 : checkL (NV.mk 1 emptyB emptyB emptyB none 0 0 [] (some ⟨b62, 0, none⟩) 1 1 [NV.mk yk yu yl yt yap yal yac yas ykp ykl ykc yks]).nd = 0 := by
        rw [check_right]
        exact right_part hR hend hynd (by rw [nd_kind]; exact h2)
      rw [hz2]
      exact k66 w18 ((hc15.trans0 hc17).trans0 hc18)
    clear hJ39
    refine ldBox H3 0 rfl ?_
    refine Size_ok (NV.mk k u l t ap al ac ats kp kl kc ks) (hx0.chg0 c03) (by omega) fun w19 hc19 => ?_
    rw [hsz]
    refine condB_ne (fun h => absurd rfl h) (fun _ => ?_)
    refine ldBox (H3.step0 hc19) 0 rfl ?_
    refine Depth_ok (NV.mk k u l t ap al ac ats kp kl kc ks) ((hx0.chg0 c03).chg0 hc19) (by omega) fun w20 hc20 => ?_
    have hd1 : (w64 (((Nd.depthL (ks.map NV.nd) : Nat) : Int) + 1) != (((NV.mk k u l t ap al ac ats kp kl kc ks).nd.depth : Nat) : Int)) = false := by
      rw [w64_of (by omega) (by omega), hdp, bne_eq_false_iff_eq]; omega
    rw [hd1]
    exact k39 w20 (hc19.trans0 hc20)
end
end Go.Proofs.YtmmfookfpdcohaaDoor

