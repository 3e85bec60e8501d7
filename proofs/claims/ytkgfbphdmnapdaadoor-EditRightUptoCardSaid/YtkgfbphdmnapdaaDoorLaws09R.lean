/-
  Chapter 9's statements: EditRight.
-/
import Derived.Test.YtkgfbphdmnapdaaDoorLaws09U
set_option linter.unusedVariables false
set_option linter.unusedSimpArgs false
namespace Go.Vc
open Go Go.Lib
theorem even_edit (L : List EV) : Even EV.cells 11 L := fun e _ => by
  obtain ⟨eop, ep, el, ec, epa, eu, en, et, nv⟩ := e
  cases nv; rfl
theorem evsum_take {L : List EV} {q : Nat} {x : EV} (h : L[q]? = some x) : ((L.take (q + 1)).map EV.mea).sum = ((L.take q).map EV.mea).sum + x.mea := by
  rw [take_get h, List.map_append, List.sum_append, List.map_cons, List.sum_cons, List.map_nil, List.sum_nil, Nat.add_zero]
theorem evsum_le (L : List EV) (q : Nat) : ((L.take q).map EV.mea).sum ≤ (L.map EV.mea).sum := by
  have := congrArg (fun l => (l.map EV.mea).sum) (List.take_append_drop q L)
  simp only [List.map_append, List.sum_append] at this
  omega
end Go.Vc
namespace Go.Proofs.YtkgfbphdmnapdaaDoor
open Go Go.Vc Go.Lib
section
variable {w w' : World}
/-- An edit loaded from where it lies. -/
theorem ldEdit {a : Addr} {eop : Int} {ep : Option Addr} {el ec : Nat} {epa : List Int} {eu en et : ByteArray} {k0 : Int} {u0 l0 t0 : ByteArray} {ap kp : Option Addr} {al ac kl kc : Nat} {ats : List At} {ks : List NV} (hc : cellsAt w a (EV.cells ⟨eop, ep, el, ec, epa, eu, en, et, .mk k0 u0 l0 t0 ap al ac ats kp kl kc ks⟩))
    {K : Int → Option Addr → Nat → Nat → ByteArray → ByteArray → ByteArray → Int → ByteArray → ByteArray → Option Addr → Nat → Nat → Option Addr → Nat → Nat → ByteArray → Prop} (k : K eop ep el ec eu en et k0 u0 l0 ap al ac kp kl kc t0) :
    ldI .i64 w a fun y0 => ldS w (a.add 1) fun q1 m1 d1 => ldStr w (a.add 2) fun y2 => ldStr w (a.add 3) fun y3 => ldStr w (a.add 4) fun y4 =>
    ldI .i64 w (a.add 5) fun x0 => ldStr w (a.add 6) fun x1 => ldStr w (a.add 7) fun x2 => ldS w (a.add 8) fun p3 l3 c3 => ldS w (a.add 9) fun p4 l4 c4 => ldStr w (a.add 10) fun x5 => K y0 q1 m1 d1 y2 y3 y4 x0 x1 x2 p3 l3 c3 p4 l4 c4 x5 :=
  ⟨_, cellsAt_head hc, _, _, _, hc 1 _ rfl, _, hc 2 _ rfl, _, hc 3 _ rfl, _, hc 4 _ rfl, _, hc 5 _ rfl, _, hc 6 _ rfl, _, hc 7 _ rfl, _, _, _, hc 8 _ rfl, _, _, _, hc 9 _ rfl, _, hc 10 _ rfl, k⟩
theorem EditRight_ok {d : NV} {lp : Option Addr} {ll lc : Nat} {L : List EV} (T : TT w) (hd : d.Ok w) (hL : SlV.Ok ⟨lp, ll, lc, L⟩ w 11 184 EV.cells (EV.Ok w)) (hm : d.mea + (L.map EV.mea).sum ≤ 1048576) :
    callJ Tryd.prog fn_law09_EditRight #[.agg ⟨d.cells⟩, .slice lp ll lc] w [.one .bool] fun r w' => r = true ∧ Chg No w w' := by
  have hsl : Sl w lp ll 11 (rows EV.cells L) := hL.sl
  have hall : ∀ e ∈ L, EV.Ok w e := hL.all
  have hll : L.length = ll := hsl.row (even_edit L) (by decide)
  have hml : ∀ l : List EV, l.length ≤ (l.map EV.mea).sum := by
    intro l
    induction l with
    | nil => simp
    | cons e r ih => rw [List.map_cons, List.sum_cons, List.length_cons]; have h1 : 1 ≤ e.mea := (by unfold EV.mea; omega); omega
  have hml' := hml L
  obtain ⟨M, hM⟩ : ∃ M, d.mea = M := ⟨_, rfl⟩
  rw [hM] at hm
  cases d with
  | mk k u l t ap al ac ats kp kl kc ks =>
  refine c_law09_EditRight ?_
  unfold VC_law09_EditRight
  refine nodeBox (Hp.start w No) fun b2 w1 H1 hb2 hc1 => ?_
  refine Awake9_ok (T.chg H1.chg) fun w2 hc2 => ?_
  have H2 := H1.step0 hc2
  refine condB_i (fun h => by cases h) (fun _ => ?_)
  refine ldBox H2 0 rfl ?_
  refine Check_ok (x := NV.mk k u l t ap al ac ats kp kl kc ks) (T.chg H2.chg) (hd.chg0 H2.chg) (by omega) fun w3 hc3 => ?_
  have H3 := H2.step0 hc3
  refine condB_ne (fun hne => ⟨rfl, H3.chg⟩) (fun h0 => ?_)
  refine withJ_i fun J0 hJ0 => ?_
  have k0 : ∀ (w4 : World) (x : NV), Hp w No w4 [⟨b2, x.cells, T_api_Node⟩] → NV.Ok w4 x → checkL x.nd = 0 → x.mea ≤ 1048576 → J0 w4 := by
    intro w4 x H4 hx hc hmx
    subst hJ0
    cases x with
    | mk xk xu xl xt xap xal xac xas xkp xkl xkc xks =>
    refine ldBox H4 0 rfl ?_
    refine Check_ok (x := NV.mk xk xu xl xt xap xal xac xas xkp xkl xkc xks) (T.chg H4.chg) hx (by omega) fun w5 hc5 => ?_
    rw [hc]
    exact ⟨rfl, H4.chg.trans0 hc5⟩
  clear hJ0
  refine ⟨fun i w' m => ∃ (q : Nat) (x : NV), i = q ∧ q ≤ ll ∧ m = ll - q ∧ Hp w No w' [⟨b2, x.cells, T_api_Node⟩] ∧ NV.Ok w' x ∧ checkL x.nd = 0 ∧ x.mea ≤ M + ((L.take q).map EV.mea).sum,
    ⟨_, 0, .mk k u l t ap al ac ats kp kl kc ks, rfl, Nat.zero_le _, rfl, H3, hd.chg0 H3.chg, h0, by rw [hM]; omega⟩, ?_⟩
  rintro x16 w6 m ⟨q, x, rfl, hq, rfl, H6, hx, hcx, hmx⟩
  have hse := evsum_le L q
  refine condB_d (fun hlt => ?_) (fun hge => k0 w6 x H6 hx hcx (by omega))
  refine withJ_i fun J1 hJ1 => ?_
  refine idx_rows (f := EV.cells) (hsl.chg H6.chg (off_no _)) (even_edit L) (by decide) (by omega) hlt fun a e _ he hcs => ?_
  rw [Int.toNat_natCast] at he
  have hst := evsum_take he
  have hse1 := evsum_le L (q + 1)
  have heok := hall e (List.mem_of_getElem? he)
  obtain ⟨eop, ep, el, ec, epa, eu, en, et, nv⟩ := e
  cases nv with
  | mk nk nu nl nt nap nal nac nas nkp nkl nkc nks =>
  refine ldEdit hcs ?_
  refine edBox H6 fun b6 w9 H9 hb6 hc9 => ?_
  have hx9 := hx.chg0 hc9
  refine condB_d (fun _ => k0 w9 x (H9.sub (.cons _ (.refl _))) hx9 hcx (by omega)) (fun _ => ?_)
  cases x with
  | mk xk xu xl xt xap xal xac xas xkp xkl xkc xks =>
  refine ldBox H9 1 rfl ?_
  refine ldEd H9 0 rfl ?_
  refine Apply_ok (v := NV.mk xk xu xl xt xap xal xac xas xkp xkl xkc xks) (e := ⟨eop, ep, el, ec, epa, eu, en, et, .mk nk nu nl nt nap nal nac nas nkp nkl nkc nks⟩) (T.chg H9.chg) hx9 (heok.chg0 H9.chg) (by omega) fun y w10 hc10 hndy howny _ hbly hmy => ?_
  have H10 := H9.step0 hc10
  have hap := @apOk_of (NV.mk xk xu xl xt xap xal xac xas xkp xkl xkc xks).nd (EV.ed ⟨eop, ep, el, ec, epa, eu, en, et, .mk nk nu nl nt nap nal nac nas nkp nkl nkc nks⟩)
  cases y with
  | mk yk yu yl yt yap yal yac yas ykp ykl ykc yks =>
  simp only [NV.giv]
  refine storeBox H10 fun b7 w12 H12 hb7 hc12 => ?_
  refine condB_ne (fun hne => ?_) (fun hz => ?_)
  · subst hJ1
    exact ⟨_, by omega, q + 1, .mk xk xu xl xt xap xal xac xas xkp xkl xkc xks, by rw [w64_of] <;> omega, by omega, rfl, H12.sub (.cons _ (.cons _ (.refl _))), (hx9.chg0 hc10).chg0 hc12, hcx, by omega⟩
  have hA := hap hz
  rw [← hndy] at hA
  refine ldBox H12 0 rfl ?_
  refine Check_ok (x := NV.mk yk yu yl yt yap yal yac yas ykp ykl ykc yks) (T.chg H12.chg) (howny.ok.chg0 hc12) (by omega) fun w13 hc13 => ?_
  have H13 := H12.step0 hc13
  refine condB_ne (fun hne => absurd hA.cn hne) (fun _ => ?_)
  refine ldBox H13 0 rfl ?_
  have hl9 := H9.lt 1 rfl
  refine H13.stN 2 rfl (off := 0) rfl (by simp [NV.cells]) (one1_node (.mk yk yu yl yt yap yal yac [] ykp ykl ykc [])) fun w14 H14 hc14 => ?_
  simp only [List.set_cons_succ, List.set_cons_zero] at H14
  subst hJ1
  exact ⟨_, by omega, q + 1, .mk yk yu yl yt yap yal yac yas ykp ykl ykc yks, by rw [w64_of] <;> omega, by omega, rfl, H14.sub (.cons _ (.cons _ (.refl _))), (((howny.chg0 hc12).chg0 hc13).chg hc14 fun z hz h => by have := hbly z hz; omega).ok, hA.cn, by omega⟩
end
end Go.Proofs.YtkgfbphdmnapdaaDoor

