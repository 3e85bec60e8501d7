/-
  Chapter 5's statements: Checks.
-/
import Derived.Test.YtmmfookfpdcohaaGreatDoorRefM
set_option linter.unusedVariables false
set_option linter.unusedSimpArgs false
namespace Go.Proofs.YtmmfookfpdcohaaGreatDoor
open Go Go.Vc Go.Lib
section
variable {w : World}
theorem TreeChecks_ok {x : NV} (T : TT w) (hx : x.Ok w) (hm : x.mea ≤ 1048576) : callJ Tryz.prog fn_law05_TreeChecks #[.agg ⟨x.cells⟩] w [.one .bool] fun r w' => r = true ∧ Chg No w w' := by
  cases x with
  | mk k u l t ap al ac ats kp kl kc ks =>
  refine c_law05_TreeChecks ?_
  unfold VC_law05_TreeChecks
  refine nodeBox (Hp.start w No) fun b1 w1 H1 hb hc1 => ?_
  refine awake05_ok (T.chg hc1) fun w2 hc2 => ?_
  have H2 := H1.step0 hc2
  refine condB_i (fun h => by cases h) (fun _ => ?_)
  refine ldBox H2 0 rfl ?_
  refine Twin_ok (NV.mk k u l t ap al ac ats kp kl kc ks) hx H2.chg (by omega) fun tw w3 htnd htown htno htbl htm hc3 => ?_
  cases tw with
  | mk tk tu tl tt tap tal tac tas tkp tkl tkc tks =>
  have H3 := H2.step0 hc3
  simp only [NV.giv]
  refine storeBox H3 fun b5 w5 H5 hb5 hc5 => ?_
  simp only [withJ]
  have H5d := H5.drew
  refine ldBox H5d 1 rfl ?_
  refine ldBox H5d 1 rfl ?_
  refine Check_ok (x := NV.mk k u l t ap al ac ats kp kl kc ks) (T.chg H5d.chg) (hx.chg0 H5d.chg) hm fun w7 hc7 => ?_
  have H7 := H5d.step0 hc7
  refine ⟨H7.cells 1 rfl 0, ?_⟩
  refine RefCheck_ok (x := NV.mk k u l t ap al ac ats kp kl kc ks) (hx.chg0 H7.chg) (by omega) fun w8 hc8 => ?_
  have H8 := H7.step0 hc8
  refine condB_eq (fun _ => ?_) (fun h => absurd rfl h)
  refine ldBox H8 1 rfl ?_
  refine ldBox H8 0 rfl ?_
  refine Same_ok (NV.mk k u l t ap al ac ats kp kl kc ks) (NV.mk tk tu tl tt tap tal tac tas tkp tkl tkc tks) (hx.chg0 H8.chg) ((((htown.ok.chg0 hc5).chg0 ((Chg.refl No w5).drew)).chg0 hc7).chg0 hc8) (by omega) fun r w9 hr hc9 => ?_
  exact ⟨hr.2 htnd.symm, (H8.step0 hc9).chg⟩
end
end Go.Proofs.YtmmfookfpdcohaaGreatDoor

