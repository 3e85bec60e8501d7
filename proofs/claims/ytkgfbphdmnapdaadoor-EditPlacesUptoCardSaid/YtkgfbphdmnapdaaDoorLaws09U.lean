/-
  Chapter 9's statements: EditUndoes.
-/
import Derived.Test.YtkgfbphdmnapdaaDoorEdit
set_option linter.unusedVariables false
set_option linter.unusedSimpArgs false
namespace Go.Vc
open Go Go.Lib
theorem backN_fst (d : Nd) (e : Ed) : (backN d e).1 = (applyN d e).1 := by
  unfold backN
  split
  · rfl
  · next h => exact (Decidable.not_not.1 h).symm
theorem apOk_of {d : Nd} {e : Ed} (h : (applyN d e).1 = 0) : ApOk d e (applyN d e).2 := apply_ok.1 ⟨h, rfl⟩
theorem apply_of {d n : Nd} {e : Ed} (h : ApOk d e n) : applyN d e = (0, n) := Prod.ext (apply_ok.2 h).1 (apply_ok.2 h).2
theorem back_of {d n : Nd} {e : Ed} (h : ApOk d e n) : backN d e = (0, backE d e) := by
  unfold backN; rw [if_neg (by rw [apply_of h]; simp)]
theorem back_err {d : Nd} {e : Ed} (h : (applyN d e).1 ≠ 0) : (backN d e).2 = zeroE := by unfold backN; rw [if_pos h]
end Go.Vc
namespace Go.Proofs.YtkgfbphdmnapdaaDoor
open Go Go.Vc Go.Lib
section
variable {w w' : World}
theorem OwnE.ok {w0 : World} {x : EV} (h : OwnE w0 w x) : EV.Ok w x := ⟨h.row.sl, fun e => h.row.none0 e, h.row.le.1, h.own.ok⟩
theorem zeroEV_ok : EV.Ok w zeroEV := ⟨Sl.nil _ _ _, fun _ => rfl, Nat.le_refl _, zeroV_own.ok⟩
theorem zeroEV_ed : zeroEV.ed = zeroE := by unfold EV.ed zeroEV zeroE; simp only [zeroV_nd]; rfl
theorem EditUndoes_ok {d : NV} {e : EV} (T : TT w) (hd : d.Ok w) (he : EV.Ok w e) (hm : d.mea + e.mea ≤ 1048576) :
    callJ Tryd.prog fn_law09_EditUndoes #[.agg ⟨d.cells⟩, .agg ⟨e.cells⟩] w [.one .bool] fun r w' => r = true ∧ Chg No w w' := by
  obtain ⟨eop, ep, el, ec, epa, eu, en, et, nv⟩ := e
  obtain ⟨D, hD⟩ : ∃ D, d.nd = D := ⟨_, rfl⟩
  obtain ⟨E, hE⟩ : ∃ E, EV.ed ⟨eop, ep, el, ec, epa, eu, en, et, nv⟩ = E := ⟨_, rfl⟩
  cases d with
  | mk k u l t ap al ac ats kp kl kc ks =>
  cases nv with
  | mk nk nu nl nt nap nal nac nas nkp nkl nkc nks =>
  obtain ⟨M, hM⟩ : ∃ M, (NV.mk k u l t ap al ac ats kp kl kc ks).mea + EV.mea ⟨eop, ep, el, ec, epa, eu, en, et, .mk nk nu nl nt nap nal nac nas nkp nkl nkc nks⟩ = M := ⟨_, rfl⟩
  have hM' : M ≤ 1048576 := by rw [← hM]; exact hm
  refine c_law09_EditUndoes ?_
  unfold VC_law09_EditUndoes
  refine nodeBox (Hp.start w No) fun b2 w1 H1 hb2 hc1 => ?_
  refine nodeBox H1 fun b3 w2 H2 hb3 hc2 => ?_
  simp only [EV.cells] at H2
  refine Awake9_ok (T.chg H2.chg) fun w3 hc3 => ?_
  have H3 := H2.step0 hc3
  refine condB_i (fun h => by cases h) (fun _ => ?_)
  refine ldBox H3 1 rfl ?_
  refine ldEd H3 0 rfl ?_
  refine Apply_ok (v := NV.mk k u l t ap al ac ats kp kl kc ks) (e := ⟨eop, ep, el, ec, epa, eu, en, et, .mk nk nu nl nt nap nal nac nas nkp nkl nkc nks⟩) (T.chg H3.chg) (hd.chg0 H3.chg) (he.chg0 H3.chg) (by rw [hM]; omega) fun x4 w4 hc4 hnd4 hown4 _ _ hm4 => ?_
  rw [hD, hE] at hnd4 ⊢
  rw [hM] at hm4
  have H4 := H3.step0 hc4
  cases x4 with
  | mk xk xu xl xt xap xal xac xas xkp xkl xkc xks =>
  simp only [NV.giv]
  refine storeBox H4 fun b5 w6 H6 hb5 hc6 => ?_
  have own6 := hown4.chg0 hc6
  refine ldBox H6 2 rfl ?_
  refine ldEd H6 1 rfl ?_
  refine Back_ok (v := NV.mk k u l t ap al ac ats kp kl kc ks) (e := ⟨eop, ep, el, ec, epa, eu, en, et, .mk nk nu nl nt nap nal nac nas nkp nkl nkc nks⟩) (T.chg H6.chg) (hd.chg0 H6.chg) (he.chg0 H6.chg) (by rw [hM]; omega) fun y7 w7 hc7 hed7 hown7 hm7 => ?_
  rw [hD, hE] at hed7 ⊢
  rw [hM] at hm7
  rw [backN_fst]
  have H7 := H6.step0 hc7
  have own7 := own6.chg0 hc7
  have oky := hown7.ok
  obtain ⟨yop, yp, yl, yc, ypa, yu, yn, yt, yv⟩ := y7
  cases yv with
  | mk vk vu vl vt vap val vac vas vkp vkl vkc vks =>
  simp only [EV.giv, NV.giv]
  refine edBox H7 fun b7 w9 H9 hb7 hc9 => ?_
  have own9 := own7.chg0 hc9
  have oky9 := oky.chg0 hc9
  refine condB_ne (fun h => absurd rfl h) (fun _ => ?_)
  refine condB_ne (fun hne => ?_) (fun h0 => ?_)
  · refine withJ_i fun J0 hJ0 => ?_
    refine ldBox H9 1 rfl ?_
    have hz := apply_err hne
    refine Same_ok (NV.mk xk xu xl xt xap xal xac xas xkp xkl xkc xks) zeroV own9.ok zeroV_own.ok (by omega) fun r w11 hr hc11 => ?_
    have H11 := H9.step0 hc11
    have hrt : r = true := hr.2 (by rw [hnd4, hz, zeroV_nd])
    subst hrt
    refine condB_i (fun _ => ?_) (fun h => by cases h)
    refine ldEd H11 0 rfl ?_
    refine Doc_ok (e := ⟨yop, yp, yl, yc, ypa, yu, yn, yt, .mk vk vu vl vt vap val vac vas vkp vkl vkc vks⟩) fun w12 hc12 => ?_
    simp only [EV.giv, NV.giv]
    refine Same9_ok (x := ⟨yop, yp, yl, yc, ypa, yu, yn, yt, .mk vk vu vl vt vap val vac vas vkp vkl vkc vks⟩) (y := zeroEV) ((oky9.chg0 hc11).chg0 hc12) zeroEV_ok (by omega) fun r2 w13 hr2 hc13 => ?_
    have hr2t : r2 = true := hr2.2 (by rw [hed7, back_err hne, zeroEV_ed])
    subst hr2t hJ0
    exact ⟨rfl, (H11.chg.trans0 hc12).trans0 hc13⟩
  have hA := apOk_of h0
  have hB := undo hA
  have hC := undo hB
  rw [back_of hA] at hed7
  refine ldBox H9 1 rfl ?_
  refine ldEd H9 0 rfl ?_
  refine Apply_ok (v := NV.mk xk xu xl xt xap xal xac xas xkp xkl xkc xks) (e := ⟨yop, yp, yl, yc, ypa, yu, yn, yt, .mk vk vu vl vt vap val vac vas vkp vkl vkc vks⟩) (T.chg H9.chg) own9.ok oky9 (by omega) fun x14 w14 hc14 hnd14 hown14 _ _ hm14 => ?_
  rw [hnd4, hed7, apply_of hB] at hnd14 ⊢
  have H14 := H9.step0 hc14
  cases x14 with
  | mk zk zu zl zt zap zal zac zas zkp zkl zkc zks =>
  simp only [NV.giv]
  refine storeBox H14 fun b9 w16 H16 hb9 hc16 => ?_
  refine ldBox H16 2 rfl ?_
  refine ldEd H16 1 rfl ?_
  have c916 := hc14.trans0 hc16
  refine Back_ok (v := NV.mk xk xu xl xt xap xal xac xas xkp xkl xkc xks) (e := ⟨yop, yp, yl, yc, ypa, yu, yn, yt, .mk vk vu vl vt vap val vac vas vkp vkl vkc vks⟩) (T.chg H16.chg) (own9.ok.chg0 c916) (oky9.chg0 c916) (by omega) fun y17 w17 hc17 hed17 hown17 hm17 => ?_
  rw [hnd4, hed7, back_of hB] at hed17 ⊢
  have H17 := H16.step0 hc17
  have oky17 := hown17.ok
  obtain ⟨sop, sp, sl, sc, spa, su, sn, st, sv⟩ := y17
  cases sv with
  | mk rk ru rl rt rap ral rac ras rkp rkl rkc rks =>
  simp only [EV.giv, NV.giv]
  refine edBox H17 fun b11 w19 H19 hb11 hc19 => ?_
  refine ldBox H19 1 rfl ?_
  refine ldEd H19 0 rfl ?_
  have c1419 := (hc16.trans0 hc17).trans0 hc19
  refine Apply_ok (v := NV.mk zk zu zl zt zap zal zac zas zkp zkl zkc zks) (e := ⟨sop, sp, sl, sc, spa, su, sn, st, .mk rk ru rl rt rap ral rac ras rkp rkl rkc rks⟩) (T.chg H19.chg) (hown14.ok.chg0 c1419) (oky17.chg0 hc19) (by omega) fun x20 w20 hc20 hnd20 hown20 _ _ hm20 => ?_
  rw [hnd14, hed17, apply_of hC] at hnd20 ⊢
  have H20 := H19.step0 hc20
  cases x20 with
  | mk qk qu ql qt qap qal qac qas qkp qkl qkc qks =>
  simp only [NV.giv]
  refine storeBox H20 fun b13 w22 H22 hb13 hc22 => ?_
  refine withJ_i fun J0 hJ0 => ?_
  subst hJ0
  refine condB_i (fun _ => ?_) (fun h => by cases h)
  refine condB_i (fun _ => ?_) (fun h => by cases h)
  refine condB_i (fun _ => ?_) (fun h => by cases h)
  refine ldBox H22 2 rfl ?_
  refine ldBox H22 6 rfl ?_
  have c1422 := (c1419.trans0 hc20).trans0 hc22
  refine Same_ok (NV.mk zk zu zl zt zap zal zac zas zkp zkl zkc zks) (NV.mk k u l t ap al ac ats kp kl kc ks) (hown14.ok.chg0 c1422) (hd.chg0 H22.chg) (by omega) fun r w24 hr hc24 => ?_
  have hrt : r = true := hr.2 (by rw [hnd14, hD])
  subst hrt
  have H24 := H22.step0 hc24
  refine condB_i (fun _ => ?_) (fun h => by cases h)
  refine ldBox H24 0 rfl ?_
  refine ldBox H24 4 rfl ?_
  refine Same_ok (NV.mk qk qu ql qt qap qal qac qas qkp qkl qkc qks) (NV.mk xk xu xl xt xap xal xac xas xkp xkl xkc xks) ((hown20.ok.chg0 hc22).chg0 hc24) (((own9.ok.chg0 hc14).chg0 c1422).chg0 hc24) (by omega) fun r w25 hr hc25 => ?_
  have hrt : r = true := hr.2 (by rw [hnd20, hnd4])
  subst hrt
  exact ⟨rfl, H24.chg.trans0 hc25⟩
end
end Go.Proofs.YtkgfbphdmnapdaaDoor

