/-
  Chapter 5's statements: Finds.
-/
import Derived.Test.YtmmfookfpdcohaaDoorBare
set_option linter.unusedVariables false
set_option linter.unusedSimpArgs false
namespace Go.Proofs.YtmmfookfpdcohaaDoor
open Go Go.Vc Go.Lib
section
variable {w : World}
theorem TreeFinds_go {x : NV} {pp : Option Addr} {pl pc : Nat} {zs : List Int} (T : TT w) (hx : x.Ok w) (hp : Sl w pp pl 1 (rows intC zs)) (hpm : pl ≤ 100000000) (hm : x.mea ≤ 1048576) :
    callJ Tryd.prog fn_law05_TreeFinds #[.agg ⟨x.cells⟩, .slice pp pl pc] w [.one .bool] fun r w' => r = true ∧ Chg No w w' := by
  cases x with
  | mk k u l t ap al ac ats kp kl kc ks =>
  refine c_law05_TreeFinds ?_
  unfold VC_law05_TreeFinds
  refine nodeBox (Hp.start w No) fun b2 w1 H1 hb hc1 => ?_
  refine awake05_ok (T.chg hc1) fun w2 hc2 => ?_
  have H2 := H1.step0 hc2
  refine condB_i (fun h => by cases h) (fun _ => ?_)
  refine ldBox H2 0 rfl ?_
  refine Twin_ok (NV.mk k u l t ap al ac ats kp kl kc ks) hx H2.chg (by omega) fun tw w3 htnd htown htno htbl htm hc3 => ?_
  cases tw with
  | mk tk tu tl tt tap tal tac tas tkp tkl tkc tks =>
  have H3 := H2.step0 hc3
  simp only [NV.giv]
  refine storeBox H3 fun b5 w5 H5 hb5 hc5 => ?_
  refine ldBox H5 1 rfl ?_
  cases hat : atV (NV.mk k u l t ap al ac ats kp kl kc ks) zs with
  | none =>
    refine TreeAt_ok (v := NV.mk k u l t ap al ac ats kp kl kc ks) (hx.chg0 H5.chg) (by omega) (hp.chg H5.chg (off_no _)) hpm (fun y v' w' h => by rw [hat] at h; cases h) fun w6 _ hc6 => ?_
    have H6 := H5.step0 hc6
    refine storeBox H6 fun b6 w8 H8 hb6 hc8 => ?_
    refine ldBox H8 2 rfl ?_
    refine RefAt_ok (v := NV.mk k u l t ap al ac ats kp kl kc ks) (hx.chg0 H8.chg) (hp.chg H8.chg (off_no _)) hpm (fun y w' h => by rw [hat] at h; cases h) fun w9 _ hc9 => ?_
    have H9 := H8.step0 hc9
    refine storeBox H9 fun b8 w11 H11 hb8 hc11 => ?_
    refine condB_i (fun _ => ?_) (fun h => by cases h)
    refine withJ_i fun J4 hJ4 => ?_
    have k4 : ∀ b w', b = true → Chg No w w' → J4 b w' := by intro b w' h hc; subst hJ4; exact ⟨h, hc⟩
    clear hJ4
    refine condB_i (fun _ => ?_) (fun h => by cases h)
    refine ldBox H11 1 rfl ?_
    have hz : ∀ w', NV.Ok w' (.mk 0 emptyB emptyB emptyB none 0 0 [] none 0 0 []) := fun w' => .mk (Sl.nil _ _ _) (fun _ => rfl) (Nat.le_refl _) (Sl.nil _ _ _) (fun _ => rfl) (Nat.le_refl _) (by simp)
    refine Same_ok (.mk 0 emptyB emptyB emptyB none 0 0 [] none 0 0 []) (.mk 0 emptyB emptyB emptyB none 0 0 [] none 0 0 []) (hz _) (hz _) (by decide) fun r w13 hr hc13 => ?_
    exact k4 r w13 (hr.2 rfl) (H11.step0 hc13).chg
  | some y =>
    refine TreeAt_ok (v := NV.mk k u l t ap al ac ats kp kl kc ks) (hx.chg0 H5.chg) (by omega) (hp.chg H5.chg (off_no _)) hpm (fun y' v' w6 h hnd hown hno hbl hme hc6 => ?_) (fun w' h => by rw [hat] at h; cases h)
    obtain rfl : y = y' := by rw [hat] at h; exact Option.some.inj h
    cases v' with
    | mk zk zu zl zt zap zal zac zas zkp zkl zkc zks =>
    have H6 := H5.step0 hc6
    simp only [NV.giv]
    refine storeBox H6 fun b6 w8 H8 hb6 hc8 => ?_
    refine ldBox H8 2 rfl ?_
    refine RefAt_ok (v := NV.mk k u l t ap al ac ats kp kl kc ks) (hx.chg0 H8.chg) (hp.chg H8.chg (off_no _)) hpm (fun y' w9 h hyok hc9 => ?_) (fun w' h => by rw [hat] at h; cases h)
    obtain rfl : y = y' := by rw [hat] at h; exact Option.some.inj h
    have H9 := H8.step0 hc9
    cases y with
    | mk yk yu yl yt yap yal yac yas ykp ykl ykc yks =>
    simp only [NV.giv]
    refine storeBox H9 fun b8 w11 H11 hb8 hc11 => ?_
    have c611 : Chg No w6 w11 := ((hc8.trans0 hc9).trans0 hc11)
    have c511 : Chg No w5 w11 := hc6.trans0 c611
    refine condB_i (fun h => by cases h) (fun _ => ?_)
    refine withJ_i fun J42 hJ42 => ?_
    have hown11 := hown.chg c611 (fun _ _ h => h.elim)
    have htown11 := (htown.chg hc5 (fun _ _ h => h.elim)).chg c511 (fun _ _ h => h.elim)
    have hs5 := hc5.size
    have htlt := htown.lt
    have l6 := H8.lt 0 rfl
    have k42 : ∀ w14, Chg No w11 w14 → J42 false w14 := by
      intro w14 hc14
      subst hJ42
      have H14 := H11.step0 hc14
      refine condB_i (fun h => by cases h) (fun _ => ?_)
      refine ldBox H14 1 rfl ?_
      refine Spoil_ok (NV.mk zk zu zl zt zap zal zac zas zkp zkl zkc zks) (hown11.chg hc14 (fun _ _ h => h.elim)) hno (by omega) fun w15 hc15 => ?_
      have hzlt := hown.lt
      have H15 := H14.step hc15 (by
        intro B hB hI
        have h1 := hbl _ hI
        have h2 := hzlt _ hI
        have l5 := H5.lt 0 rfl
        have l2 := H5.lt 1 rfl
        have s6 := hc6.size
        have s8 := hc8.size
        have s9 := hc9.size
        simp only [List.mem_cons, List.not_mem_nil, or_false] at hB
        rcases hB with rfl | rfl | rfl | rfl <;> (simp only at h1 h2; omega)) (fun b hb hI => by have := hbl b hI; have := H5.chg.size; omega)
      refine ldBox H15 3 rfl ?_
      refine ldBox H15 2 rfl ?_
      refine Same_ok (NV.mk k u l t ap al ac ats kp kl kc ks) (NV.mk tk tu tl tt tap tal tac tas tkp tkl tkc tks) (hx.chg0 H15.chg) ((htown11.chg hc14 (fun _ _ h => h.elim)).chg hc15 (fun b hb hI => by have := hbl b hI; have := htlt b hb; omega)).ok (by omega) fun r w16 hr hc16 => ?_
      exact ⟨hr.2 htnd.symm, (H15.step0 hc16).chg⟩
    clear hJ42
    refine condB_i (fun h => by cases h) (fun _ => ?_)
    refine ldBox H11 1 rfl ?_
    refine ldBox H11 0 rfl ?_
    refine Same_ok (NV.mk zk zu zl zt zap zal zac zas zkp zkl zkc zks) (NV.mk yk yu yl yt yap yal yac yas ykp ykl ykc yks) hown11.ok (hyok.chg0 hc11) (by omega) fun r w17 hr hc17 => ?_
    rw [hr.2 hnd]
    exact k42 w17 hc17
theorem rd_int : Rd Tryd.prog w T_int intC InI := Rd.i64 (by kernel_rfl)
theorem rd_sl_int : Rd Tryd.prog w T_sl_int SlV.cells (fun s : SlV Int => s.Ok w 1 8 intC InI) := Rd.slice (e := T_int) (sz := 1) (bytes := 8) (by kernel_rfl) (by kernel_rfl) (by kernel_rfl) rd_int
theorem TreeFinds_ok {x : NV} {pp : Option Addr} {pl pc : Nat} {zs : List Int} (T : TT w) (hx : x.Ok w) (hp : SlV.Ok ⟨pp, pl, pc, zs⟩ w 1 8 intC InI) (hm : x.mea ≤ 1048576 ∧ pl ≤ 100000000) :
    callJ Tryd.prog fn_law05_TreeFinds #[.agg ⟨x.cells⟩, .slice pp pl pc] w [.one .bool] fun r w' => r = true ∧ Chg No w w' := TreeFinds_go T hx hp.sl hm.2 hm.1
end
end Go.Proofs.YtmmfookfpdcohaaDoor

