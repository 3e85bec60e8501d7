/-
  Chapter 4's statements: Names.
-/
import Derived.Test.YtdjehimkijlhgaaDoorRd04
import Derived.Test.YtdjehimkijlhgaaDoorChrE
set_option linter.unusedVariables false
set_option linter.unusedSimpArgs false
namespace Go.Vc
open Go Go.Lib
theorem prt_cons {b : UInt8} {r : List UInt8} (h : b.toNat < 128) : prt (b :: r) = (isPt (b.toNat : Nat) && prt r) := by
  have e := rd_ascii_cons b r h
  rw [prt_step (by simp) (by rw [e]; simp), e]; rfl
theorem nm_a : nm [97] = true := by
  unfold nm; rw [rd_ascii_cons _ _ (by decide), prt_cons (by decide), prt_nil]; decide
theorem nm_p : nm [112] = true := by
  unfold nm; rw [rd_ascii_cons _ _ (by decide), prt_cons (by decide), prt_nil]; decide
theorem nm_xmlns : nm [120, 109, 108, 110, 115] = true := by
  unfold nm; rw [rd_ascii_cons _ _ (by decide), prt_cons (by decide), prt_cons (by decide), prt_cons (by decide), prt_cons (by decide), prt_cons (by decide), prt_nil]; decide
theorem spl_a : spl [97] = ([], [97], true) := by
  unfold spl
  rw [show colon [97] = none from by decide]
  simp only
  rw [nm_a]; rfl
theorem spl_pa : spl [112, 58, 97] = ([112], [97], true) := by
  have := spl_colon [112] [97]
  rw [nm_p, nm_a] at this
  exact this
theorem spl_xp : spl [120, 109, 108, 110, 115, 58, 112] = ([120, 109, 108, 110, 115], [112], true) := by
  have := spl_colon [120, 109, 108, 110, 115] [112]
  rw [nm_p, nm_xmlns] at this
  exact this
def kXp : ByteArray := ⟨#[120, 109, 108, 110, 115, 58, 112]⟩
def kU : ByteArray := ⟨#[117]⟩
def kV : ByteArray := ⟨#[118]⟩
def kP : ByteArray := ⟨#[112]⟩
def kA : ByteArray := ⟨#[97]⟩
def kPA : ByteArray := ⟨#[112, 58, 97]⟩
theorem decl_x (u : ByteArray) : decl (kXmlns, u) = some kE := by unfold decl; rw [if_pos rfl]
theorem decl_xp (u : ByteArray) : decl (kXp, u) = some kP := by
  unfold decl
  rw [if_neg (by show ¬ kXp = kXmlns; decide +kernel), show bl (kXp, u).1 = [120, 109, 108, 110, 115, 58, 112] from rfl, spl_xp, if_pos ⟨rfl, rfl⟩]; rfl
theorem open_awake : openP [(kXmlns, kU), (kXp, kV)] [] [] = ([(kE, kU), (kP, kV)], 0) := by
  unfold openP
  rw [decl_x]
  simp only
  rw [if_neg (by decide +kernel), if_neg (by decide +kernel)]
  unfold openP
  rw [decl_xp]
  simp only
  rw [if_neg (by decide +kernel), if_neg (by decide +kernel)]
  unfold openP
  decide +kernel
theorem elem_a : elemL (boundP [(kE, kU), (kP, kV)]) kA = ((kU, kA), 0) := by
  unfold elemL
  rw [show bl kA = [97] from rfl, spl_a]
  decide +kernel
theorem elem_pa : elemL (boundP [(kE, kU), (kP, kV)]) kPA = ((kV, kA), 0) := by
  unfold elemL
  rw [show bl kPA = [112, 58, 97] from rfl, spl_pa]
  decide +kernel
theorem elem_none : elemL (boundP []) kPA = ((kE, kE), 28) := by
  unfold elemL
  rw [show bl kPA = [112, 58, 97] from rfl, spl_pa]
  decide +kernel
theorem elem_rel {B R : List Pr} (h : Rel B R) (q : ByteArray) : elemL (boundP B) q = elemL (boundR R) q := by
  unfold elemL
  rw [h.bound]
end Go.Vc
namespace Go.Proofs.YtdjehimkijlhgaaDoor
open Go Go.Vc Go.Lib

section
variable {w : World}
/-- A name is stored in a variable of its own. -/
theorem nameVar {w0 w1 : World} {Γ : List Blk} {u l : ByteArray} {K : Nat → World → Prop} (H : Hp w0 No w1 Γ) (k : ∀ b w', Hp w0 No w' (⟨b, pr (u, l), T_api_Name⟩ :: Γ) → Chg No w1 w' → K b w') :
    newB w1 (.cells (zeroC Tryd.prog T_api_Name) T_api_Name) fun b3 w7 => stN w7 ⟨b3, 0, none⟩ ⟨[.string u, .string l]⟩ 2 fun w8 => K b3 w8 := by
  rw [zeroC_name]
  refine H.newB fun b w7 H7 hb hc7 => ?_
  refine H7.stN 0 rfl (off := 0) rfl (by simp) (one1_pr (u, l)) fun w8 H8 hc8 => ?_
  have e5 : splice [Value.string ByteArray.empty, Value.string ByteArray.empty] 0 (pr (u, l)) = pr (u, l) := splice_all rfl
  simp only [List.set_cons_zero] at H8
  rw [show splice [Value.string ByteArray.empty, Value.string ByteArray.empty] 0 [Value.string u, Value.string l] = pr (u, l) from e5] at H8
  exact k b w8 H8 (hc7.trans hc8 fun x hx e => by subst e; omega)
/-- A scope is stored in a variable of its own. -/
theorem scopeVar {w0 w1 : World} {Γ : List Blk} {p : Option Addr} {l c : Nat} {K : Nat → World → Prop} (H : Hp w0 No w1 Γ) (k : ∀ b w', Hp w0 No w' (⟨b, [.slice p l c], T_scope_Scope⟩ :: Γ) → Chg No w1 w' → K b w') :
    newB w1 (.cells (zeroC Tryd.prog T_scope_Scope) T_scope_Scope) fun b3 w7 => stN w7 ⟨b3, 0, none⟩ ⟨[.slice p l c]⟩ 1 fun w8 => K b3 w8 := by
  rw [zeroC_scope]
  refine H.newB fun b w7 H7 hb hc7 => ?_
  refine H7.stN 0 rfl (off := 0) rfl (by simp) (one1_cons rfl one1_nil) fun w8 H8 hc8 => ?_
  exact k b w8 H8 (hc7.trans hc8 fun x hx e => by subst e; omega)

theorem awake04_ok {J : Bool → World → Prop} (T : Tabs w) (k : ∀ w', Chg No w w' → J true w') : callJ Tryd.prog fn_law04_awake #[] w [.one .bool] J := by
  refine c_law04_awake ?_
  unfold VC_law04_awake
  refine New_ok fun w1 hc1 => ⟨rfl, rfl, ?_⟩
  refine newRow (sz := 2) (n := 2) rfl (by decide) fun b13 w2 hr2 _ hc2 => ?_
  have c2 := hc1.trans0 hc2
  refine Open_ok (B := []) (L := [(kXmlns, kU), (kXp, kV)]) (Sl.nil _ _ _) (fun _ => rfl) hr2.sl (by intro x hx; simp at hx; rcases hx with rfl | rfl <;> decide) (by decide) (T.chg c2) fun p3 l3 c3 w3 hr3 hf3 hc3 _ => ?_
  rw [open_awake] at hr3 ⊢
  have c03 := c2.trans0 hc3
  have hl3 : l3 = 2 := (hr3.sl.row (even_pr _) (by decide)).symm
  refine scopeVar ((Hp.start w No).step0 c03) fun b1 w5 H5 hc5 => ?_
  refine H5.ldS 0 rfl (off := 0) rfl ?_
  refine Element_ok (q := kA) (hr3.chg hc5 (off_no _)).sl (by omega) (by decide) (T.chg H5.chg) fun w6 hc6 => ?_
  rw [elem_a]
  refine nameVar (H5.step0 hc6) fun b3 w8 H8 hc8 => ?_
  refine H8.ldS 1 rfl (off := 0) rfl ?_
  refine Element_ok (q := kPA) (((hr3.chg hc5 (off_no _)).chg hc6 (off_no _)).chg hc8 (off_no _)).sl (by omega) (by decide) (T.chg H8.chg) fun w9 hc9 => ?_
  rw [elem_pa]
  refine nameVar (H8.step0 hc9) fun b5 w11 H11 hc11 => ?_
  refine New_ok fun w12 hc12 => ?_
  refine Element_ok (B := []) (q := kPA) (Sl.nil _ _ _) (by decide) (by decide) (T.chg (H11.step0 hc12).chg) fun w13 hc13 => ?_
  rw [elem_none]
  refine nameVar ((H11.step0 hc12).step0 hc13) fun b7 w15 H15 hc15 => ?_
  refine withJ_i fun J0 hJ0 => ?_
  subst hJ0
  refine condB_i (fun _ => ?_) (fun h => absurd h (by decide))
  refine condB_i (fun _ => ?_) (fun h => absurd h (by decide))
  refine condB_i (fun _ => ?_) (fun h => absurd h (by decide))
  refine condB_i (fun _ => ?_) (fun h => absurd h (by decide))
  refine H15.ldStr 2 rfl (off := 0) rfl ?_
  refine H15.ldStr 2 rfl (off := 1) rfl ?_
  refine condB_i (fun _ => ?_) (fun h => absurd h (by simp only [beqS]; decide +kernel))
  refine H15.ldStr 1 rfl (off := 0) rfl ?_
  refine H15.ldStr 1 rfl (off := 1) rfl ?_
  rw [show ((kV.toList == (⟨#[118]⟩ : ByteArray).toList) && ((kA.toList == (⟨#[97]⟩ : ByteArray).toList) && true)) = true from by simp only [beqS]; decide +kernel]
  exact k w15 H15.chg

theorem ScopeNames_ok {v : PPV} {q : ByteArray} (T : Tabs w) (hv : PPV.Good w v) (hq : InS q) (hsum : v.sum ≤ 1048576) : callJ Tryd.prog fn_law04_ScopeNames #[.slice v.p v.l v.c, .string q] w [.one .bool] fun r w' => r = true ∧ Chg No w w' := by
  refine c_law04_ScopeNames ?_
  unfold VC_law04_ScopeNames
  unfold InS at hq
  refine awake04_ok T fun w1 hc1 => ?_
  refine condB_i (fun h => by simp at h) fun _ => ?_
  have hv1 : PPV.Good w1 v := ⟨hv.sl.chg hc1 (off_no _), hv.len, hv.nil, hv.cap, hv.max, hv.fits, hv.even, fun s hs => by
    have h := hv.all s hs
    exact ⟨h.sl.chg hc1 (off_no _), h.len, h.nil, h.cap, h.max, h.fits, h.even, h.all⟩⟩
  refine Opened_ok hv1 hsum (T.chg hc1) fun B R sp sl sc tp tl tc tq td w2 hrel hB nB hP hU nP nU bB bR _ _ _ hc2 => ?_
  rw [zeroC_rscope]
  have c02 := hc1.trans0 hc2
  have H2 : Hp w No w2 [] := Hp.of_chg c02
  rw [zeroC_scope]
  refine H2.newB fun b5 w3 H3 hb5 hc3 => ?_
  refine H3.newB fun b6 w4 H4 hb6 hc4 => ?_
  refine H4.stN 1 rfl (off := 0) rfl (by simp) (one1_cons rfl one1_nil) fun w5 H5 hc5 => ?_
  refine H5.stN 0 rfl (off := 0) rfl (by simp) (one1_cons rfl (one1_cons rfl one1_nil)) fun w6 H6 hc6 => ?_
  simp only [List.set_cons_succ, List.set_cons_zero] at H6
  have c26 : Chg No w2 w6 := by
    refine ((hc3.trans0 hc4).trans hc5 fun b hb e => ?_).trans hc6 fun b hb e => ?_
    · subst e; omega
    · subst e; have := hc3.size; omega
  refine H6.ldS 1 rfl (off := 0) rfl ?_
  refine Element_ok (q := q) (hB.chg c26 (off_no _)) (by omega) (by omega) (T.chg H6.chg) fun w7 hc7 => ?_
  refine nameVar (H6.step0 hc7) fun b8 w9 H9 hc9 => ?_
  refine H9.ldS 1 rfl (off := 0) rfl ?_
  refine H9.ldS 1 rfl (off := 1) rfl ?_
  have c29 := (c26.trans0 hc7).trans0 hc9
  refine RElement_ok (hP.chg c29 (off_no _)) (hU.chg c29 (off_no _)) (by omega) (by omega) fun w10 hc10 => ?_
  rw [elem_rel hrel]
  refine nameVar (H9.step0 hc10) fun b10 w12 H12 hc12 => ?_
  refine withJ_i fun J4 hJ4 => ?_
  subst hJ4
  refine condB_i (fun _ => ?_) (fun h => by cases h)
  refine H12.ldStr 1 rfl (off := 0) rfl ?_
  refine H12.ldStr 1 rfl (off := 1) rfl ?_
  refine H12.ldStr 0 rfl (off := 0) rfl ?_
  refine H12.ldStr 0 rfl (off := 1) rfl ?_
  refine condB_i (fun _ => ?_) (fun h => by rw [elem_rel hrel] at h; simp at h)
  exact ⟨by simp, H12.chg⟩
end
end Go.Proofs.YtdjehimkijlhgaaDoor

