/-
  Chapter 9's statements: EditApart.
-/
import Derived.Test.YtkgfbphdmnapdaaDoorLaws09U
set_option linter.unusedVariables false
set_option linter.unusedSimpArgs false
namespace Go.Proofs.YtkgfbphdmnapdaaDoor
open Go Go.Vc Go.Lib
section
variable {w w' : World}
theorem EditApart_ok {d : NV} {e g : EV} (T : TT w) (hd : d.Ok w) (he : EV.Ok w e) (hg : EV.Ok w g) (hm : d.mea + e.mea + g.mea ≤ 1048576) :
    callJ Tryd.prog fn_law09_EditApart #[.agg ⟨d.cells⟩, .agg ⟨e.cells⟩, .agg ⟨g.cells⟩] w [.one .bool] fun r w' => r = true ∧ Chg No w w' := by
  obtain ⟨eop, ep, el, ec, epa, eu, en, et, nv⟩ := e
  obtain ⟨gop, gp, gl, gc, gpa, gu, gn, gt, mv⟩ := g
  obtain ⟨D, hD⟩ : ∃ D, d.nd = D := ⟨_, rfl⟩
  obtain ⟨E, hE, hE1, hE2, hE3⟩ : ∃ E, EV.ed ⟨eop, ep, el, ec, epa, eu, en, et, nv⟩ = E ∧ E.op = eop ∧ E.pa = epa ∧ E.name = (eu, en) := ⟨_, rfl, rfl, rfl, rfl⟩
  obtain ⟨F, hF, hF1, hF2, hF3⟩ : ∃ F, EV.ed ⟨gop, gp, gl, gc, gpa, gu, gn, gt, mv⟩ = F ∧ F.op = gop ∧ F.pa = gpa ∧ F.name = (gu, gn) := ⟨_, rfl, rfl, rfl, rfl⟩
  obtain ⟨M0, hM0⟩ : ∃ M0, d.mea = M0 := ⟨_, rfl⟩
  obtain ⟨M1, hM1⟩ : ∃ M1, EV.mea ⟨eop, ep, el, ec, epa, eu, en, et, nv⟩ = M1 := ⟨_, rfl⟩
  obtain ⟨M2, hM2⟩ : ∃ M2, EV.mea ⟨gop, gp, gl, gc, gpa, gu, gn, gt, mv⟩ = M2 := ⟨_, rfl⟩
  rw [hM0, hM1, hM2] at hm
  have hel : el ≤ M1 := by rw [← hM1]; unfold EV.mea; simp only; omega
  have hsl1 : Sl w ep el 1 (rows intC epa) := he.sl
  have hsl2 : Sl w gp gl 1 (rows intC gpa) := hg.sl
  cases d with
  | mk k u l t ap al ac ats kp kl kc ks =>
  cases nv with
  | mk nk nu nl nt nap nal nac nas nkp nkl nkc nks =>
  cases mv with
  | mk mk mu ml mt map mal mac mas mkp mkl mkc mks =>
  refine c_law09_EditApart ?_
  unfold VC_law09_EditApart
  refine nodeBox (Hp.start w No) fun b3 w1 H1 hb3 hc1 => ?_
  refine nodeBox H1 fun b4 w2 H2 hb4 hc2 => ?_
  simp only [EV.cells] at H2
  refine nodeBox H2 fun b5 w3 H3 hb5 hc3 => ?_
  simp only [EV.cells] at H3
  refine Awake9_ok (T.chg H3.chg) fun w4 hc4 => ?_
  have H4 := H3.step0 hc4
  refine condB_i (fun h => by cases h) (fun _ => ?_)
  obtain ⟨Γ, hΓ⟩ : ∃ Γ : List Blk, Γ = [⟨b5, [.int .i64 gop, .slice gp gl gc, .string gu, .string gn, .string gt, .int .i64 mk, .string mu, .string ml, .slice map mal mac, .slice mkp mkl mkc, .string mt], T_edit_Edit⟩,
    ⟨b4, [.int .i64 eop, .slice ep el ec, .string eu, .string en, .string et, .int .i64 nk, .string nu, .string nl, .slice nap nal nac, .slice nkp nkl nkc, .string nt], T_edit_Edit⟩,
    ⟨b3, [.int .i64 k, .string u, .string l, .slice ap al ac, .slice kp kl kc, .string t], T_api_Node⟩] := ⟨_, rfl⟩
  have H4' : Hp w No w4 Γ := by rw [hΓ]; exact H4
  clear H1 H2 H3
  refine withJ_i fun J7 hJ7 => ?_
  have k7 : ∀ (s : Bool), (s = true → 4 ≤ eop ∧ eop ≤ 5 ∧ 4 ≤ gop ∧ gop ≤ 5 ∧ (eu, en) ≠ (gu, gn)) → J7 s w4 := by
    intro s hs
    subst hJ7
    refine withJ_i fun J8 hJ8 => ?_
    have k8 : ∀ (wr : Bool) (w6 : World), (wr = true → eop = 6 ∧ gop = 6 ∧ epa ≠ gpa) → Hp w No w6 Γ → J8 wr w6 := by
      intro wr w6 hw H6
      subst hJ8
      refine withJ_i fun J63 hJ63 => ?_
      have k63 : ∀ (x : Bool), (x = false → (4 ≤ E.op ∧ E.op ≤ 5 ∧ 4 ≤ F.op ∧ F.op ≤ 5 ∧ E.name ≠ F.name) ∨ (E.op = 6 ∧ F.op = 6 ∧ E.pa ≠ F.pa)) → J63 x w6 := by
        intro x hx
        subst hJ63
        refine condB_i (fun _ => ⟨rfl, H6.chg⟩) (fun hxf => ?_)
        have hc := hx hxf
        rw [hΓ] at H6
        refine ldBox H6 2 rfl ?_
        refine ldEd H6 1 rfl ?_
        refine Apply_ok (v := NV.mk k u l t ap al ac ats kp kl kc ks) (e := ⟨eop, ep, el, ec, epa, eu, en, et, .mk nk nu nl nt nap nal nac nas nkp nkl nkc nks⟩) (T.chg H6.chg) (hd.chg0 H6.chg) (he.chg0 H6.chg) (by rw [hM0, hM1]; omega) fun x8 w8 hc8 hnd8 hown8 _ _ hm8 => ?_
        rw [hD, hE] at hnd8 ⊢
        rw [hM0, hM1] at hm8
        have H8 := H6.step0 hc8
        cases x8 with
        | mk xk xu xl xt xap xal xac xas xkp xkl xkc xks =>
        simp only [NV.giv]
        refine storeBox H8 fun b9 w10 H10 hb9 hc10 => ?_
        refine ldBox H10 0 rfl ?_
        refine ldEd H10 1 rfl ?_
        refine Apply_ok (v := NV.mk xk xu xl xt xap xal xac xas xkp xkl xkc xks) (e := ⟨gop, gp, gl, gc, gpa, gu, gn, gt, .mk mk mu ml mt map mal mac mas mkp mkl mkc mks⟩) (T.chg H10.chg) (hown8.ok.chg0 hc10) (hg.chg0 H10.chg) (by rw [hM2]; omega) fun y w11 hc11 hnd11 hown11 _ hbl11 hm11 => ?_
        rw [hnd8, hF] at hnd11 ⊢
        have H11 := H10.step0 hc11
        have hl9 := H10.lt 0 rfl
        cases y with
        | mk yk yu yl yt yap yal yac yas ykp ykl ykc yks =>
        simp only [NV.giv]
        refine H11.stN 0 rfl (off := 0) rfl (by simp) (one1_node (.mk yk yu yl yt yap yal yac [] ykp ykl ykc [])) fun w12 H12 hc12 => ?_
        simp only [List.set_cons_zero] at H12
        have own12 := hown11.chg hc12 fun z hz h => by have := hbl11 z hz; omega
        refine ldBox H12 3 rfl ?_
        refine ldEd H12 1 rfl ?_
        refine Apply_ok (v := NV.mk k u l t ap al ac ats kp kl kc ks) (e := ⟨gop, gp, gl, gc, gpa, gu, gn, gt, .mk mk mu ml mt map mal mac mas mkp mkl mkc mks⟩) (T.chg H12.chg) (hd.chg0 H12.chg) (hg.chg0 H12.chg) (by rw [hM0, hM2]; omega) fun x13 w13 hc13 hnd13 hown13 _ _ hm13 => ?_
        rw [hD, hF] at hnd13 ⊢
        rw [hM0, hM2] at hm13
        have H13 := H12.step0 hc13
        cases x13 with
        | mk pk pu pl pt pap pal pac pas pkp pkl pkc pks =>
        simp only [NV.giv]
        refine storeBox H13 fun b12 w15 H15 hb12 hc15 => ?_
        refine ldBox H15 0 rfl ?_
        refine ldEd H15 3 rfl ?_
        refine Apply_ok (v := NV.mk pk pu pl pt pap pal pac pas pkp pkl pkc pks) (e := ⟨eop, ep, el, ec, epa, eu, en, et, .mk nk nu nl nt nap nal nac nas nkp nkl nkc nks⟩) (T.chg H15.chg) (hown13.ok.chg0 hc15) (he.chg0 H15.chg) (by rw [hM1]; omega) fun q w16 hc16 hnd16 hown16 _ hbl16 hm16 => ?_
        rw [hnd13, hE] at hnd16 ⊢
        have H16 := H15.step0 hc16
        have hl12 := H15.lt 0 rfl
        cases q with
        | mk qk qu ql qt qap qal qac qas qkp qkl qkc qks =>
        simp only [NV.giv]
        refine H16.stN 0 rfl (off := 0) rfl (by simp) (one1_node (.mk qk qu ql qt qap qal qac [] qkp qkl qkc [])) fun w17 H17 hc17 => ?_
        simp only [List.set_cons_zero] at H17
        have own17 := hown16.chg hc17 fun z hz h => by have := hbl16 z hz; omega
        have ylt := own12.lt
        have z13 := hc13.size
        have own12' := (((own12.chg0 hc13).chg0 hc15).chg0 hc16).chg hc17 fun z hz h => by have := ylt z hz; omega
        refine withJ_i fun J6 hJ6 => ?_
        subst hJ6
        refine condB_ne (fun _ => ⟨rfl, H17.chg⟩) (fun g1 => ?_)
        refine condB_ne (fun _ => ⟨rfl, H17.chg⟩) (fun g2 => ?_)
        refine condB_ne (fun _ => ⟨rfl, H17.chg⟩) (fun g3 => ?_)
        refine condB_ne (fun _ => ⟨rfl, H17.chg⟩) (fun g4 => ?_)
        have hap := apart (apOk_of g1) (apOk_of g2) (apOk_of g3) (apOk_of g4) hc
        refine ldBox H17 1 rfl ?_
        refine ldBox H17 0 rfl ?_
        refine Same_ok (NV.mk yk yu yl yt yap yal yac yas ykp ykl ykc yks) (NV.mk qk qu ql qt qap qal qac qas qkp qkl qkc qks) own12'.ok own17.ok (by omega) fun r w19 hr hc19 => ?_
        have hrt : r = true := hr.2 (by rw [hnd11, hnd16, hap])
        subst hrt
        exact ⟨rfl, H17.chg.trans0 hc19⟩
      clear hJ63
      refine condB_i (fun hs0 => ?_) (fun hs1 => ?_)
      · refine k63 _ fun h => .inr ?_
        have : wr = true := by cases wr <;> first | rfl | cases h
        obtain ⟨a1, a2, a3⟩ := hw this
        exact ⟨hE1.trans a1, hF1.trans a2, by rw [hE2, hF2]; exact a3⟩
      · refine k63 _ fun _ => .inl ?_
        have : s = true := by cases s <;> first | rfl | cases hs1
        obtain ⟨a1, a2, a3, a4, a5⟩ := hs this
        rw [hE1, hF1, hE3, hF3]
        exact ⟨a1, a2, a3, a4, a5⟩
    clear hJ8
    refine H4.ldI 1 rfl (off := 0) rfl ?_
    refine condB_eq (fun h1 => ?_) (fun _ => k8 false w4 (fun h => by cases h) H4')
    refine H4.ldI 0 rfl (off := 0) rfl ?_
    refine condB_eq (fun h2 => ?_) (fun _ => k8 false w4 (fun h => by cases h) H4')
    refine H4.ldS 1 rfl (off := 1) rfl ?_
    refine H4.ldS 0 rfl (off := 1) rfl ?_
    refine SameInts_ok (hsl1.chg H4.chg (off_no _)) (hsl2.chg H4.chg (off_no _)) (by omega) fun w20 hc20 => ?_
    refine k8 _ w20 (fun h => ⟨h1, h2, fun e => ?_⟩) (H4'.step0 hc20)
    rw [decide_eq_true e] at h; cases h
  clear hJ7
  refine H4.ldI 1 rfl (off := 0) rfl ?_
  refine condB_d (fun h1 => ?_) (fun _ => k7 false fun h => by cases h)
  refine H4.ldI 1 rfl (off := 0) rfl ?_
  refine condB_d (fun h2 => ?_) (fun _ => k7 false fun h => by cases h)
  refine H4.ldI 0 rfl (off := 0) rfl ?_
  refine condB_d (fun h3 => ?_) (fun _ => k7 false fun h => by cases h)
  refine H4.ldI 0 rfl (off := 0) rfl ?_
  refine condB_d (fun h4 => ?_) (fun _ => k7 false fun h => by cases h)
  refine H4.ldStr 1 rfl (off := 2) rfl ?_
  refine H4.ldStr 1 rfl (off := 3) rfl ?_
  refine H4.ldStr 0 rfl (off := 2) rfl ?_
  refine H4.ldStr 0 rfl (off := 3) rfl ?_
  refine k7 _ fun h => ⟨h1, h2, h3, h4, fun e => ?_⟩
  have e1 : eu = gu := congrArg Prod.fst e
  have e2 : en = gn := congrArg Prod.snd e
  rw [beqS, beqS, decide_eq_true e1, decide_eq_true e2] at h
  cases h
end
end Go.Proofs.YtkgfbphdmnapdaaDoor

