/-
  Chapter 5's statements: Tells.
-/
import Derived.Test.YtmmfookfpdcohaaGreatDoorEqual
set_option linter.unusedVariables false
set_option linter.unusedSimpArgs false
namespace Go.Proofs.YtmmfookfpdcohaaGreatDoor
open Go Go.Vc Go.Lib
section
variable {w : World}
theorem TreeTells_ok {x y : NV} (T : TT w) (hx : x.Ok w) (hy : y.Ok w) (hm : x.mea ≤ 1048576 ∧ y.mea ≤ 1048576) : callJ Tryz.prog fn_law05_TreeTells #[.agg ⟨x.cells⟩, .agg ⟨y.cells⟩] w [.one .bool] fun r w' => r = true ∧ Chg No w w' := by
  have hmx := hm.1
  have hsz : x.nd.size = x.flat.length := by rw [size_flat, ← flat_nd, List.length_map]
  have hfl := flat_len x
  cases x with
  | mk k u l t ap al ac ats kp kl kc ks =>
  cases y with
  | mk k' u' l' t' ap' al' ac' ats' kp' kl' kc' ks' =>
  refine c_law05_TreeTells ?_
  unfold VC_law05_TreeTells
  refine nodeBox (Hp.start w No) fun b2 w1 H1 hb2 hc1 => ?_
  refine nodeBox H1 fun b3 w2 H2 hb3 hc2 => ?_
  refine awake05_ok (T.chg H2.chg) fun w3 hc3 => ?_
  have H3 := (H2.step0 hc3).drew
  refine condB_i (fun h => by cases h) (fun _ => ?_)
  refine ldBox H3 1 rfl ?_
  refine ldBox H3 1 rfl ?_
  refine Spaces_ok (x := NV.mk k u l t ap al ac ats kp kl kc ks) (hx.chg0 H3.chg) (by omega) fun Y p4 c4 w4 hasc hmem hsl hYl hc4 => ?_
  have H4 := H3.step0 hc4
  refine ⟨H4.cells 1 rfl 0, ?_⟩
  refine RefSpaces_ok (x := NV.mk k u l t ap al ac ats kp kl kc ks) (hx.chg0 H4.chg) (by omega) fun Y' p5 c5 w5 hasc' hmem' hsl' hc5 => ?_
  have H5 := H4.step0 hc5
  obtain rfl : Y = Y' := sasc_uniq hasc hasc' fun s => by rw [hmem, hmem']
  have hslc := hsl.chg hc5 (off_no _)
  refine withJ_i fun J44 hJ44 => ?_
  have k44 : ∀ w6, Chg No w5 w6 → J44 false w6 := by
    intro w6 hc6
    subst hJ44
    refine condB_i (fun h => by cases h) (fun _ => ?_)
    refine ⟨fun i w' m => ∃ q : Nat, i = q ∧ q ≤ Y.length ∧ m = Y.length - q ∧ Chg No w5 w', ⟨_, 0, rfl, Nat.zero_le _, rfl, hc6⟩, ?_⟩
    rintro i w7 m ⟨q, rfl, hq, rfl, hc7⟩
    refine condB_d (fun hlt => ?_) (fun hge => ?_)
    · refine str_i (hslc.chg hc7.drew (off_no _)) (by omega) hlt fun s hs => ?_
      refine str_i (hsl'.chg hc7.drew (off_no _)) (by omega) hlt fun s' hs' => ?_
      obtain rfl : s = s' := Option.some.inj (hs.symm.trans hs')
      rw [beqS]
      refine condB_not (fun h => absurd rfl (of_decide_eq_false h)) (fun _ => ?_)
      exact ⟨_, by omega, q + 1, by rw [w64_of] <;> omega, by omega, rfl, hc7.drew⟩
    have H7 := H5.step0 hc7
    refine ldBox H7 1 rfl ?_
    refine Twin_ok (NV.mk k u l t ap al ac ats kp kl kc ks) hx H7.chg (by omega) fun tw w8 htnd htown htno htbl htm hc8 => ?_
    cases tw with
    | mk tk tu tl tt tap tal tac tas tkp tkl tkc tks =>
    have H8 := H7.step0 hc8
    simp only [NV.giv]
    refine storeBox H8 fun b8 w10 H10 hb8 hc10 => ?_
    refine ldBox H10 2 rfl ?_
    refine Copy_ok (NV.mk k u l t ap al ac ats kp kl kc ks) hx H10.chg (by omega) fun cw w11 hcnd hcown hcno hcbl hcm hc11 => ?_
    cases cw with
    | mk zk zu zl zt zap zal zac zas zkp zkl zkc zks =>
    have H11 := H10.step0 hc11
    simp only [NV.giv]
    refine storeBox H11 fun b9 w13 H13 hb9 hc13 => ?_
    have hcown13 := hcown.chg hc13 (fun _ _ h => h.elim)
    have htown13 := ((htown.chg hc10 (fun _ _ h => h.elim)).chg hc11 (fun _ _ h => h.elim)).chg hc13 (fun _ _ h => h.elim)
    refine withJ_i fun J73 hJ73 => ?_
    have k73 : ∀ w14, Chg No w13 w14 → J73 false w14 := by
      intro w14 hc14
      subst hJ73
      have H14 := H13.step0 hc14
      refine condB_i (fun h => by cases h) (fun _ => ?_)
      refine ldBox H14 0 rfl ?_
      have hclt := hcown.lt
      have htlt := htown.lt
      refine Spoil_ok (NV.mk zk zu zl zt zap zal zac zas zkp zkl zkc zks) (hcown13.chg hc14 (fun _ _ h => h.elim)) hcno (by omega) fun w15 hc15 => ?_
      have s10 := hc10.size
      have H15 := H14.step hc15 (by
        intro B hB hI
        have h1 := hcbl _ hI
        have h2 := hclt _ hI
        have l8 := H10.lt 0 rfl
        have l3 := H10.lt 1 rfl
        have l2 := H10.lt 2 rfl
        simp only [List.mem_cons, List.not_mem_nil, or_false] at hB
        rcases hB with rfl | rfl | rfl | rfl <;> (simp only at h1 h2; omega)) (fun b hb hI => by have := hcbl b hI; have := H10.chg.size; omega)
      refine ldBox H15 3 rfl ?_
      refine ldBox H15 1 rfl ?_
      refine Same_ok (NV.mk k u l t ap al ac ats kp kl kc ks) (NV.mk tk tu tl tt tap tal tac tas tkp tkl tkc tks) (hx.chg0 H15.chg) ((htown13.chg hc14 (fun _ _ h => h.elim)).chg hc15 (fun b hb hI => by have := hcbl b hI; have := htlt b hb; omega)).ok (by omega) fun r w16 hr hc16 => ?_
      exact ⟨hr.2 htnd.symm, (H15.step0 hc16).chg⟩
    clear hJ73
    refine ldBox H13 0 rfl ?_
    refine ldBox H13 3 rfl ?_
    refine Same_ok (NV.mk zk zu zl zt zap zal zac zas zkp zkl zkc zks) (NV.mk k u l t ap al ac ats kp kl kc ks) hcown13.ok (hx.chg0 H13.chg) (by omega) fun r w17 hr hc17 => ?_
    have H17 := H13.step0 hc17
    refine condB_not (fun h => by rw [hr.2 hcnd] at h; cases h) (fun _ => ?_)
    refine ldBox H17 0 rfl ?_
    refine ldBox H17 3 rfl ?_
    refine Equal_ok (NV.mk zk zu zl zt zap zal zac zas zkp zkl zkc zks) (NV.mk k u l t ap al ac ats kp kl kc ks) (hcown13.ok.chg0 hc17) (hx.chg0 H17.chg) (by omega) fun r w18 hr hc18 => ?_
    rw [hr.2 hcnd]
    exact k73 w18 (hc17.trans0 hc18)
  clear hJ44
  have H5d := H5.drew
  refine ldBox H5d 1 rfl ?_
  refine ldBox H5d 0 rfl ?_
  refine ldBox H5d 1 rfl ?_
  refine ldBox H5d 0 rfl ?_
  refine Equal_ok (NV.mk k u l t ap al ac ats kp kl kc ks) (NV.mk k' u' l' t' ap' al' ac' ats' kp' kl' kc' ks') (hx.chg0 H5d.chg) (hy.chg0 H5d.chg) (by omega) fun r w19 hr hc19 => ?_
  have H19 := H5d.step0 hc19
  refine ⟨H19.cells 0 rfl 0, H19.cells 1 rfl 0, ?_⟩
  refine Same_ok (NV.mk k u l t ap al ac ats kp kl kc ks) (NV.mk k' u' l' t' ap' al' ac' ats' kp' kl' kc' ks') (hx.chg0 H19.chg) (hy.chg0 H19.chg) (by omega) fun r' w20 hr' hc20 => ?_
  have H20 := H19.step0 hc20
  obtain rfl : r = r' := Bool.eq_iff_iff.2 (hr.trans hr'.symm)
  rw [show (!(r == r)) = false from by simp]
  refine condB_i (fun h => by cases h) (fun _ => ?_)
  refine ldBox H20 1 rfl ?_
  refine ldBox H20 1 rfl ?_
  refine Size_ok (NV.mk k u l t ap al ac ats kp kl kc ks) (hx.chg0 H20.chg) (by omega) fun w21 hc21 => ?_
  have H21 := H20.step0 hc21
  refine ⟨H21.cells 1 rfl 0, ?_⟩
  refine RefFlat_ok (NV.mk k u l t ap al ac ats kp kl kc ks) (hx.chg0 H21.chg) (by omega) fun p22 c22 w22 _ _ hc22 => ?_
  have H22 := H21.step0 hc22
  rw [hsz]
  refine condB_ne (fun h => absurd rfl h) (fun _ => ?_)
  refine ldBox H22 1 rfl ?_
  refine ldBox H22 1 rfl ?_
  refine Depth_ok (NV.mk k u l t ap al ac ats kp kl kc ks) (hx.chg0 H22.chg) (by omega) fun w23 hc23 => ?_
  have H23 := H22.step0 hc23
  refine ⟨H23.cells 1 rfl 0, ?_⟩
  refine RefDepth_ok (NV.mk k u l t ap al ac ats kp kl kc ks) (hx.chg0 H23.chg) (by omega) fun w24 hc24 => ?_
  refine condB_ne (fun h => absurd rfl h) (fun _ => ?_)
  rw [show ((((Y.length : Nat) : Int)) != ((Y.length : Nat) : Int)) = false from by simp]
  exact k44 w24 (((((((Chg.refl No w5).drew).trans0 hc19).trans0 hc20).trans0 hc21).trans0 hc22).trans0 (hc23.trans0 hc24))
end
end Go.Proofs.YtmmfookfpdcohaaGreatDoor

