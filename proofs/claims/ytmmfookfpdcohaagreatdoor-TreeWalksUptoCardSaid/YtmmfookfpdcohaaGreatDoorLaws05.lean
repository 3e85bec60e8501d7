/-
  Chapter 5's statements: what they begin with; Orders.
-/
import Derived.Test.YtmmfookfpdcohaaGreatDoorTreeI
import Derived.Test.YtmmfookfpdcohaaGreatDoorVLaw05
import Derived.Test.YtmmfookfpdcohaaGreatDoorVRef04
import Derived.Test.YtmmfookfpdcohaaGreatDoorRdT
import Derived.Test.YtmmfookfpdcohaaGreatDoorTabs01
import Derived.Shelf.Vars
set_option linter.unusedVariables false
set_option linter.unusedSimpArgs false
namespace Go.Vc
open Go Go.Lib
theorem prt_one {b : UInt8} {r : List UInt8} (h : b.toNat < 128) : prt (b :: r) = (isPt (b.toNat : Nat) && prt r) := by
  have e := rd_ascii_cons b r h
  rw [prt_step (by simp) (by rw [e]; simp), e]; rfl
theorem nm_one {b : UInt8} (h : b.toNat < 128) (hs : isSt (b.toNat : Nat) = true) : nm [b] = true := by
  unfold nm
  rw [rd_ascii_cons b [] h, prt_one h, prt_nil, isPt_of_isSt hs]
  simp [hs]
theorem fine_nil : fineB emptyB = true := by
  unfold fineB
  rw [show bl emptyB = [] from rfl, flt_nil]; rfl
theorem fine_one {b : UInt8} (h : b.toNat < 128) (hc : chr (b.toNat : Nat) = true) : fineB ⟨#[b]⟩ = true := by
  unfold fineB
  have e := rd_ascii_cons b [] h
  rw [show bl ⟨#[b]⟩ = [b] from rfl, flt_step (by simp) (by rw [e]; simp) (by rw [e]; exact hc), e]
  show decide ((flt (0 + 1) []).2 = 0) = true
  rw [flt_nil]; rfl
def lU : ByteArray := ⟨#[117]⟩
def lA : ByteArray := ⟨#[97]⟩
def lB : ByteArray := ⟨#[98]⟩
def lC : ByteArray := ⟨#[99]⟩
def l1 : ByteArray := ⟨#[49]⟩
def lX : ByteArray := ⟨#[120]⟩
def nT : Nd := .mk 3 emptyB emptyB lX [] []
def nC : Nd := .mk 2 emptyB lC emptyB [] []
def nA : Nd := .mk 2 lU lA emptyB [(emptyB, lB, l1)] [nT, nC]
/-- The document's example. -/
def nD : Nd := .mk 1 emptyB emptyB emptyB [] [nA]
theorem called_one {u : ByteArray} {b : UInt8} (h : b.toNat < 128) (hs : isSt (b.toNat : Nat) = true) (hf : fineB u = true) (hu : u.size ≤ 100) (hx : u ≠ kXMLNS) : calledN (u, ⟨#[b]⟩) = true := by
  unfold calledN
  rw [show bl (u, (⟨#[b]⟩ : ByteArray)).2 = [b] from rfl, nm_one h hs, hf, decide_eq_true hu, decide_eq_true hx]; rfl
theorem right_nD : Right nD := by
  have hfl : nD.flat = [nD, nA, nT, nC] := rfl
  have fU : fineB lU = true := fine_one (by decide) (by decide)
  have f1 : fineB l1 = true := fine_one (by decide) (by decide)
  have fX : fineB lX = true := fine_one (by decide) (by decide)
  have cA : calledN (lU, lA) = true := called_one (by decide) (by decide) fU (by decide) (by decide +kernel)
  have cB : calledN (emptyB, lB) = true := called_one (by decide) (by decide) fine_nil (by decide) (by decide +kernel)
  have cC : calledN (emptyB, lC) = true := called_one (by decide) (by decide) fine_nil (by decide) (by decide +kernel)
  have aB : attrN (emptyB, lB, l1) = true := by
    unfold attrN
    rw [show nameOf (emptyB, lB, l1) = (emptyB, lB) from rfl, cB]; decide +kernel
  refine ⟨rfl, ?_, by decide +kernel, by rw [hfl]; decide, ?_, ?_, ?_, ?_, ?_, by decide +kernel⟩
  all_goals (rw [hfl]; intro x hx; simp only [List.mem_cons, List.not_mem_nil, or_false] at hx; rcases hx with rfl | rfl | rfl | rfl)
  · decide +kernel
  · decide +kernel
  · decide +kernel
  · decide +kernel
  · decide +kernel
  · decide +kernel
  · decide +kernel
  · decide +kernel
  · rfl
  · show ((_ || calledN (lU, lA)) && ([(emptyB, lB, l1)] : List At).all attrN && _) = true
    rw [cA, List.all_cons, aB]; rfl
  · rfl
  · show ((_ || calledN (emptyB, lC)) && _ && _) = true
    rw [cC]; rfl
  · show (fineB emptyB && _) = true
    rw [fine_nil]; rfl
  · show (fineB emptyB && ([(emptyB, lB, l1)] : List At).all fun a => fineB a.2.2) = true
    rw [fine_nil, List.all_cons, show ((emptyB, lB, l1) : At).2.2 = l1 from rfl, f1]; rfl
  · show (fineB lX && _) = true
    rw [fX]; rfl
  · show (fineB emptyB && _) = true
    rw [fine_nil]; rfl
  · rfl
  · rfl
  · rfl
  · rfl
  · decide +kernel
  · decide +kernel
  · decide +kernel
  · decide +kernel
def nE : Nd := .mk 1 emptyB emptyB emptyB [] []
theorem check_nE : checkL nE = 30 := by
  unfold checkL
  have hfl : nE.flat = [nE] := rfl
  have hch : charsN nE = true := by
    show (fineB emptyB && _) = true
    rw [fine_nil]; rfl
  rw [hfl, if_neg (by decide +kernel), if_neg (by decide +kernel), if_neg (by decide +kernel), if_neg (by decide +kernel), if_neg (by rw [List.all_cons, hch]; decide), if_neg (by decide +kernel), if_neg (by decide +kernel), if_pos (by decide +kernel)]
def vLit (b13 b10 b5 : Nat) : NV := .mk 1 emptyB emptyB emptyB none 0 0 [] (some ⟨b13, 0, none⟩) 1 1
  [.mk 2 lU lA emptyB (some ⟨b5, 0, none⟩) 1 1 [(emptyB, lB, l1)] (some ⟨b10, 0, none⟩) 2 2 [.mk 3 emptyB emptyB lX none 0 0 [] none 0 0 [], .mk 2 emptyB lC emptyB none 0 0 [] none 0 0 []]]
theorem vLit_nd (a b c : Nat) : (vLit a b c).nd = nD := rfl
end Go.Vc
namespace Go.Proofs.YtmmfookfpdcohaaGreatDoor
open Go Go.Vc Go.Lib
section
variable {w : World}
/-- A value, stored in a variable of its own. -/
theorem storeBox {w0 : World} {S : Nat → Prop} {Γ : List Blk} (H : Hp w0 S w Γ) {k0 : Int} {u0 l0 t0 : ByteArray} {ap kp : Option Addr} {al ac kl kc : Nat}
    {K : Nat → World → Prop} (k : ∀ b w', Hp w0 S w' (⟨b, [.int .i64 k0, .string u0, .string l0, .slice ap al ac, .slice kp kl kc, .string t0], T_api_Node⟩ :: Γ) → w.heap.size ≤ b → Chg No w w' → K b w') :
    newB w (.cells (zeroC Tryz.prog T_api_Node) T_api_Node) fun b w1 => stN w1 ⟨b, 0, none⟩ ⟨[.int .i64 k0, .string u0, .string l0, .slice ap al ac, .slice kp kl kc, .string t0]⟩ 6 fun w2 => K b w2 := by
  rw [zeroC_node]
  refine H.newB fun b w1 H1 hb hc1 => ?_
  refine H1.stN 0 rfl (off := 0) rfl (by simp) (one1_node (.mk k0 u0 l0 t0 ap al ac [] kp kl kc [])) fun w2 H2 hc2 => ?_
  simp only [List.set_cons_zero] at H2
  exact k b w2 H2 hb (hc1.trans hc2 fun x hx e => by subst e; omega)
theorem Little_ok {J : Int → ByteArray → ByteArray → Option Addr → Nat → Nat → Option Addr → Nat → Nat → ByteArray → World → Prop}
    (K : ∀ b13 b10 b5 w', (vLit b13 b10 b5).Ok w' → Chg No w w' → J 1 emptyB emptyB none 0 0 (some ⟨b13, 0, none⟩) 1 1 emptyB w') :
    callJ Tryz.prog fn_law05_little #[] w [.agg [.int .i64, .str, .str, .slice, .slice, .str]] J := by
  refine c_law05_little ?_
  unfold VC_law05_little
  rw [zeroC_node]
  refine (Hp.start w No).newB fun b0 w1 H1 hb0 hc1 => ?_
  refine ⟨rfl, rfl, ?_⟩
  refine H1.newB fun b5 w2 H2 hb5 hc2 => ⟨rfl, ?_⟩
  refine H2.newB fun b1 w3 H3 hb1 hc3 => ?_
  refine H3.stN 0 rfl (off := 0) rfl (by simp) (one1_node (.mk 2 lU lA emptyB (some ⟨b5, 0, none⟩) 1 1 [] none 0 0 [])) fun w4 H4 hc4 => ⟨rfl, rfl, rfl, ?_⟩
  simp only [List.set_cons_zero] at H4
  refine H4.newB fun b10 w5 H5 hb10 hc5 => ?_
  refine H5.stV 1 rfl (off := 4) (by simp [splice]) fun w6 H6 hc6 => ?_
  refine ldBox H6 1 (k0 := 2) (u0 := lU) (l0 := lA) (t0 := emptyB) (ap := some ⟨b5, 0, none⟩) (al := 1) (ac := 1) (kp := some ⟨b10, 0, none⟩) (kl := 2) (kc := 2) rfl ?_
  refine ⟨rfl, ?_⟩
  refine H6.newB fun b13 w7 H7 hb13 hc7 => ?_
  refine H7.stN 4 rfl (off := 0) rfl (by simp) (one1_node (.mk 1 emptyB emptyB emptyB none 0 0 [] (some ⟨b13, 0, none⟩) 1 1 [])) fun w8 H8 hc8 => ?_
  refine ldBox H8 4 (k0 := 1) (u0 := emptyB) (l0 := emptyB) (t0 := emptyB) (ap := none) (al := 0) (ac := 0) (kp := some ⟨b13, 0, none⟩) (kl := 1) (kc := 1) rfl ?_
  refine K b13 b10 b5 w8 ?_ H8.chg
  have s13 : Sl w8 (some ⟨b13, 0, none⟩) 1 6 (rows NV.cells [.mk 2 lU lA emptyB (some ⟨b5, 0, none⟩) 1 1 [(emptyB, lB, l1)] (some ⟨b10, 0, none⟩) 2 2 [.mk 3 emptyB emptyB lX none 0 0 [] none 0 0 [], .mk 2 emptyB lC emptyB none 0 0 [] none 0 0 []]]) :=
    (H8.asRow 0 rfl (l := 1) (c := 1) (sz := 6) (rest := []) rfl rfl (Nat.le_refl _) (by decide) rfl).sl
  have s10 : Sl w8 (some ⟨b10, 0, none⟩) 2 6 (rows NV.cells [.mk 3 emptyB emptyB lX none 0 0 [] none 0 0 [], .mk 2 emptyB lC emptyB none 0 0 [] none 0 0 []]) :=
    (H8.asRow 1 rfl (l := 2) (c := 2) (sz := 6) (rest := []) rfl rfl (Nat.le_refl _) (by decide) rfl).sl
  have s5 : Sl w8 (some ⟨b5, 0, none⟩) 1 3 (rows atc [(emptyB, lB, l1)]) := (H8.asRow 3 rfl (l := 1) (c := 1) (sz := 3) (rest := []) rfl rfl (Nat.le_refl _) (by decide) rfl).sl
  refine .mk (Sl.nil _ _ _) (fun _ => rfl) (Nat.le_refl _) s13 (by simp) (Nat.le_refl _) fun x hx => ?_
  rw [List.mem_singleton.1 hx]
  refine .mk s5 (by simp) (Nat.le_refl _) s10 (by simp) (Nat.le_refl _) fun y hy => ?_
  simp only [List.mem_cons, List.not_mem_nil, or_false] at hy
  rcases hy with rfl | rfl
  · exact .mk (Sl.nil _ _ _) (fun _ => rfl) (Nat.le_refl _) (Sl.nil _ _ _) (fun _ => rfl) (Nat.le_refl _) (by simp)
  · exact .mk (Sl.nil _ _ _) (fun _ => rfl) (Nat.le_refl _) (Sl.nil _ _ _) (fun _ => rfl) (Nat.le_refl _) (by simp)
theorem awake05_ok {J : Bool → World → Prop} (T : TT w) (k : ∀ w', Chg No w w' → J true w') : callJ Tryz.prog fn_law05_awake #[] w [.one .bool] J := by
  refine c_law05_awake ?_
  unfold VC_law05_awake
  refine Little_ok fun b13 b10 b5 w1 hv hc1 => ?_
  refine storeBox (Hp.of_chg hc1) fun b1 w3 H3 hb1 hc3 => ?_
  have hv3 := hv.chg0 hc3
  have hmea : (vLit b13 b10 b5).mea ≤ 100 := by simp only [vLit, NV.mea, NV.meaL]; decide
  refine ldBox H3 0 rfl ?_
  refine Spaces_ok (x := vLit b13 b10 b5) hv3 (by omega) fun Y p5 c5 w4 hasc hmem hsl _ hc4 => ?_
  have hY : Y = [lU] := by
    refine sasc_uniq hasc (List.pairwise_singleton _ _) fun s => ?_
    rw [hmem, vLit_nd, show nD.spc = [lU] from by decide +kernel]
  subst hY
  have H4 := H3.step0 hc4
  have hv4 := hv3.chg0 hc4
  refine withJ_i fun J0 hJ0 => ?_
  subst hJ0
  refine ldBox H4 0 rfl ?_
  refine Check_ok (x := vLit b13 b10 b5) (T.chg H4.chg) hv4 (by omega) fun w6 hc6 => ?_
  have H6 := H4.step0 hc6
  rw [vLit_nd, check_right.2 right_nD]
  refine condB_i (fun _ => ?_) (fun h => by cases h)
  refine ldBox H6 0 rfl ?_
  refine Size_ok (vLit b13 b10 b5) (hv4.chg0 hc6) (by omega) fun w7 hc7 => ?_
  have H7 := H6.step0 hc7
  rw [vLit_nd, show nD.size = 4 from rfl]
  refine condB_i (fun _ => ?_) (fun h => by cases h)
  refine ldBox H7 0 rfl ?_
  refine Depth_ok (vLit b13 b10 b5) ((hv4.chg0 hc6).chg0 hc7) (by omega) fun w8 hc8 => ?_
  have H8 := H7.step0 hc8
  rw [vLit_nd, show nD.depth = 3 from rfl]
  refine condB_i (fun _ => ?_) (fun h => by cases h)
  refine condB_i (fun _ => ?_) (fun h => by cases h)
  have hs8 := ((hsl.chg hc6 (off_no _)).chg hc7 (off_no _)).chg hc8 (off_no _)
  refine idx_sl hs8 (by decide) (by decide) fun a _ hcs => ?_
  refine ldStr_i (cellsAt_head hcs) ?_
  refine condB_i (fun _ => ?_) (fun h => by rw [beqS] at h; exact absurd rfl (of_decide_eq_false h))
  refine Check_ok (x := .mk 1 emptyB emptyB emptyB none 0 0 [] none 0 0 []) (T.chg H8.chg) (.mk (Sl.nil _ _ _) (fun _ => rfl) (Nat.le_refl _) (Sl.nil _ _ _) (fun _ => rfl) (Nat.le_refl _) (by simp)) (by decide) fun w9 hc9 => ?_
  rw [show (NV.mk 1 emptyB emptyB emptyB none 0 0 [] none 0 0 []).nd = nE from rfl, check_nE]
  exact k w9 (H8.step0 hc9).chg
end
end Go.Proofs.YtmmfookfpdcohaaGreatDoor

/-
  Chapter 5's statements: Orders.
-/

set_option linter.unusedVariables false
set_option linter.unusedSimpArgs false
namespace Go.Vc
open Go Go.Lib
theorem ordZ_le_iff (a b : Pr) : ordZ a b ≤ 0 ↔ nLt b a = false := by
  have h := ordZ_lt b a
  have s := ordZ_swap a b
  constructor
  · intro h1
    cases hb : nLt b a
    · rfl
    · have := h.2 hb; omega
  · intro hb
    have : ¬ ordZ b a < 0 := by rw [h, hb]; decide
    omega
theorem nLe_trans {a b c : Pr} (h : nLt b a = false) (k : nLt c b = false) : nLt c a = false := by
  cases hc : nLt c a
  · rfl
  · rcases nLt_tri a b with h1 | h1 | h1
    · rw [nLt_trans hc h1] at k; cases k
    · subst h1; rw [hc] at k; cases k
    · rw [h] at h1; cases h1
theorem ordZ_le_trans {a b c : Pr} (h : ordZ a b ≤ 0) (k : ordZ b c ≤ 0) : ordZ a c ≤ 0 := by
  rw [ordZ_le_iff] at *
  exact nLe_trans h k
theorem ordZ_ge_trans {a b c : Pr} (h : 0 ≤ ordZ a b) (k : 0 ≤ ordZ b c) : 0 ≤ ordZ a c := by
  have s1 := ordZ_swap a b
  have s2 := ordZ_swap b c
  have s3 := ordZ_swap a c
  have := ordZ_le_trans (a := c) (b := b) (c := a) (by omega) (by omega)
  omega
end Go.Vc
namespace Go.Proofs.YtmmfookfpdcohaaGreatDoor
open Go Go.Vc Go.Lib
section
variable {w : World}
theorem Before5_ok {a b : Pr} {J : Bool → World → Prop} (k : ∀ w', Chg No w w' → J (nLt a b) w') : callJ Tryz.prog fn_ref04_Before #[.agg ⟨[.string a.1, .string a.2]⟩, .agg ⟨[.string b.1, .string b.2]⟩] w [.one .bool] J := by
  refine c_ref04_Before ?_
  unfold VC_ref04_Before
  refine (Hp.start w No).newB fun b2 w1 H1 _ _ => ?_
  refine H1.newB fun b3 w2 H2 _ _ => ?_
  refine withJ_i fun J4 hJ4 => ?_
  have k4 : ∀ b', b' = nLt a b → J4 b' w2 := by intro b' h; subst hJ4; rw [h]; exact k w2 H2.chg
  clear hJ4
  unfold nLt at k4
  refine H2.ldStr 1 rfl (off := 0) rfl ?_
  refine H2.ldStr 0 rfl (off := 0) rfl ?_
  refine condB_i (fun h => k4 true (by rw [show sLt a.1 b.1 = true from h]; rfl)) (fun h => ?_)
  rw [show sLt a.1 b.1 = false from h, Bool.false_or] at k4
  refine H2.ldStr 1 rfl (off := 0) rfl ?_
  refine H2.ldStr 0 rfl (off := 0) rfl ?_
  rw [beqS]
  refine condB_i (fun h => ?_) (fun h => k4 false (by rw [h]; rfl))
  refine H2.ldStr 1 rfl (off := 1) rfl ?_
  refine H2.ldStr 0 rfl (off := 1) rfl ?_
  exact k4 _ (by rw [h, Bool.true_and]; rfl)
end
end Go.Proofs.YtmmfookfpdcohaaGreatDoor

/-
  The library's tables and the variable of the library's own, as chapter 5's rows list them.
-/

set_option linter.unusedVariables false
namespace Go.Proofs.YtmmfookfpdcohaaGreatDoor
open Go Go.Vc Go.Lib Go.Shelf
def foldZ : List Int := match (Rows.laid_unicode_asciiFold (H := Unit)) with
  | .agg ds => ds.map fun d => match d with | .lit (.int _ z) => z | _ => 0
  | _ => []
theorem fold_eq : Rows.laid_unicode_asciiFold (H := Unit) = tabData .u16 foldZ := by kernel_rfl
theorem fold_of_reads {W : World} (h : VarReads Tryz.prog W "unicode.asciiFold" (tabData .u16 foldZ)) : FoldTab W := by
  obtain ⟨g, t, cs, fuel, p, hg, hty, hvar, hd⟩ := h
  have n : Tryz.prog.globalNamed "unicode.asciiFold" = some 2 := by kernel_rfl
  have y : (Tryz.prog.globals[2]?).map (·.type) = some T_128_uint16 := by kernel_rfl
  obtain rfl := Option.some.inj (n.symm.trans hg)
  obtain rfl := Option.some.inj (y.symm.trans hty)
  have hcs := cells_of_tab (n := 128) (e := T_uint16) (by kernel_rfl) (by kernel_rfl) (by kernel_rfl) (by kernel_rfl) hd
  intro q hq
  have hc := World.var?_cell hg hvar q.1
  rw [hc, ← Array.getElem?_toList, hcs, List.getElem?_map]
  simp only [List.mem_cons, List.not_mem_nil, or_false] at hq
  rcases hq with rfl | rfl | rfl | rfl | rfl | rfl
  · exact congrArg (Option.map _) (show foldZ[120]? = some 88 by kernel_rfl)
  · exact congrArg (Option.map _) (show foldZ[88]? = some 120 by kernel_rfl)
  · exact congrArg (Option.map _) (show foldZ[109]? = some 77 by kernel_rfl)
  · exact congrArg (Option.map _) (show foldZ[77]? = some 109 by kernel_rfl)
  · exact congrArg (Option.map _) (show foldZ[108]? = some 76 by kernel_rfl)
  · exact congrArg (Option.map _) (show foldZ[76]? = some 108 by kernel_rfl)
theorem maxl_of_shape {W : World} (h : W.ShapedOpen Tryz.prog) : ∃ m : Int, W.cell? ⟨5, 0, none⟩ = some (.int .i64 m) :=
  cell_of_shapedOpen_int (t := T_int) (zero := #[.int .i64 0]) h (of_decide_eq_true (by kernel_rfl)) (by kernel_rfl) rfl (by kernel_rfl) (by kernel_rfl) (by kernel_rfl)
theorem tt_of_laid {W : World} (h : laidMet Tryz.prog [("unicode/utf8.acceptRanges", Rows.laid_unicode_utf8_acceptRanges), ("unicode.asciiFold", Rows.laid_unicode_asciiFold), ("unicode.caseOrbit", Rows.laid_unicode_caseOrbit), ("unicode.CaseRanges", Rows.laid_unicode_CaseRanges), ("unicode/utf8.first", Rows.laid_unicode_utf8_first)] W) (hs : W.ShapedOpen Tryz.prog) : TT W :=
  ⟨utf8Tabs_of_readsT (ρ := ren8) u8Types u8Extra (first_eq ▸ laidMet.reads h (.tail _ (.tail _ (.tail _ (.tail _ (.head _)))))) (accept_eq ▸ laidMet.reads h (.head _)),
    fold_of_reads (fold_eq ▸ laidMet.reads h (.tail _ (.head _))), maxl_of_shape hs⟩
theorem struct_of {P : Program} {t : TypeId} (h : (match P.underlying t with | some (.struct _) => true | _ => false) = true) : ∃ fs, P.underlying t = some (.struct fs) := by
  split at h
  · next fs hf => exact ⟨fs, hf⟩
  · cases h
/-- A name that came in. -/
theorem rdm_name {w : World} : RdM Tryz.prog w T_api_Name pr InPr2 (fun x => x.1.size + x.2.size + 1) := RdN.to rdn_name
end Go.Proofs.YtmmfookfpdcohaaGreatDoor

