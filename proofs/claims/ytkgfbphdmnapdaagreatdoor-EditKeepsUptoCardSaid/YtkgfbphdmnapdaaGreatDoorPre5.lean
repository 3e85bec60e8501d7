/-
  What the statements over trees begin with: small texts without a fault, a variable of its own, the library's tables.
-/
import Derived.Test.YtkgfbphdmnapdaaGreatDoorTreeI
import Derived.Test.YtkgfbphdmnapdaaGreatDoorVRef04
import Derived.Test.YtkgfbphdmnapdaaGreatDoorRdT
import Derived.Test.YtkgfbphdmnapdaaGreatDoorTabs01
import Derived.Shelf.Vars
set_option linter.unusedVariables false
set_option linter.unusedSimpArgs false
namespace Go.Vc
open Go Go.Lib
end Go.Vc
namespace Go.Proofs.YtkgfbphdmnapdaaGreatDoor
open Go Go.Vc Go.Lib
section
variable {w : World}
/-- A value, stored in a variable of its own. -/
theorem storeBox {w0 : World} {S : Nat → Prop} {Γ : List Blk} (H : Hp w0 S w Γ) {k0 : Int} {u0 l0 t0 : ByteArray} {ap kp : Option Addr} {al ac kl kc : Nat}
    {K : Nat → World → Prop} (k : ∀ b w', Hp w0 S w' (⟨b, [.int .i64 k0, .string u0, .string l0, .slice ap al ac, .slice kp kl kc, .string t0], T_api_Node⟩ :: Γ) → w.heap.size ≤ b → Chg No w w' → K b w') :
    newB w (.cells (zeroC Tryz.prog T_api_Node) T_api_Node) fun b w1 => stN w1 ⟨b, 0, none⟩ ⟨[.int .i64 k0, .string u0, .string l0, .slice ap al ac, .slice kp kl kc, .string t0]⟩ 6 fun w2 => K b w2 := by
  rw [zeroC_node]
  refine H.newB fun b w1 H1 hb hc1 => ?_
  refine H1.stN 0 rfl (off := 0) rfl (by simp) (one1_node (.mk k0 u0 l0 t0 ap al ac [] kp kl kc [])) fun w2 H2 hc2 => ?_
  simp only [List.set_cons_zero] at H2
  exact k b w2 H2 hb (hc1.trans hc2 fun x hx e => by subst e; omega)
theorem Before5_ok {a b : Pr} {J : Bool → World → Prop} (k : ∀ w', Chg No w w' → J (nLt a b) w') : callJ Tryz.prog fn_ref04_Before #[.agg ⟨[.string a.1, .string a.2]⟩, .agg ⟨[.string b.1, .string b.2]⟩] w [.one .bool] J := by
  refine c_ref04_Before ?_
  unfold VC_ref04_Before
  refine (Hp.start w No).newB fun b2 w1 H1 _ _ => ?_
  refine H1.newB fun b3 w2 H2 _ _ => ?_
  refine withJ_i fun J4 hJ4 => ?_
  have k4 : ∀ b', b' = nLt a b → J4 b' w2 := by intro b' h; subst hJ4; rw [h]; exact k w2 H2.chg
  clear hJ4
  unfold nLt at k4
  refine H2.ldStr 1 rfl (off := 0) rfl ?_
  refine H2.ldStr 0 rfl (off := 0) rfl ?_
  refine condB_i (fun h => k4 true (by rw [show sLt a.1 b.1 = true from h]; rfl)) (fun h => ?_)
  rw [show sLt a.1 b.1 = false from h, Bool.false_or] at k4
  refine H2.ldStr 1 rfl (off := 0) rfl ?_
  refine H2.ldStr 0 rfl (off := 0) rfl ?_
  rw [beqS]
  refine condB_i (fun h => ?_) (fun h => k4 false (by rw [h]; rfl))
  refine H2.ldStr 1 rfl (off := 1) rfl ?_
  refine H2.ldStr 0 rfl (off := 1) rfl ?_
  exact k4 _ (by rw [h, Bool.true_and]; rfl)
end
end Go.Proofs.YtkgfbphdmnapdaaGreatDoor

/-
  The library's tables and the variable of the library's own, as chapter 5's rows list them.
-/

set_option linter.unusedVariables false
namespace Go.Proofs.YtkgfbphdmnapdaaGreatDoor
open Go Go.Vc Go.Lib Go.Shelf
def foldZ : List Int := match (Rows.laid_unicode_asciiFold (H := Unit)) with
  | .agg ds => ds.map fun d => match d with | .lit (.int _ z) => z | _ => 0
  | _ => []
theorem fold_eq : Rows.laid_unicode_asciiFold (H := Unit) = tabData .u16 foldZ := by kernel_rfl
theorem fold_of_reads {W : World} (h : VarReads Tryz.prog W "unicode.asciiFold" (tabData .u16 foldZ)) : FoldTab W := by
  obtain ⟨g, t, cs, fuel, p, hg, hty, hvar, hd⟩ := h
  have n : Tryz.prog.globalNamed "unicode.asciiFold" = some 2 := by kernel_rfl
  have y : (Tryz.prog.globals[2]?).map (·.type) = some T_128_uint16 := by kernel_rfl
  obtain rfl := Option.some.inj (n.symm.trans hg)
  obtain rfl := Option.some.inj (y.symm.trans hty)
  have hcs := cells_of_tab (n := 128) (e := T_uint16) (by kernel_rfl) (by kernel_rfl) (by kernel_rfl) (by kernel_rfl) hd
  intro q hq
  have hc := World.var?_cell hg hvar q.1
  rw [hc, ← Array.getElem?_toList, hcs, List.getElem?_map]
  simp only [List.mem_cons, List.not_mem_nil, or_false] at hq
  rcases hq with rfl | rfl | rfl | rfl | rfl | rfl
  · exact congrArg (Option.map _) (show foldZ[120]? = some 88 by kernel_rfl)
  · exact congrArg (Option.map _) (show foldZ[88]? = some 120 by kernel_rfl)
  · exact congrArg (Option.map _) (show foldZ[109]? = some 77 by kernel_rfl)
  · exact congrArg (Option.map _) (show foldZ[77]? = some 109 by kernel_rfl)
  · exact congrArg (Option.map _) (show foldZ[108]? = some 76 by kernel_rfl)
  · exact congrArg (Option.map _) (show foldZ[76]? = some 108 by kernel_rfl)
theorem maxl_of_shape {W : World} (h : W.ShapedOpen Tryz.prog) : ∃ m : Int, W.cell? ⟨5, 0, none⟩ = some (.int .i64 m) :=
  cell_of_shapedOpen_int (t := T_int) (zero := #[.int .i64 0]) h (of_decide_eq_true (by kernel_rfl)) (by kernel_rfl) rfl (by kernel_rfl) (by kernel_rfl) (by kernel_rfl)
theorem tt_of_laid {W : World} (h : laidMet Tryz.prog [("unicode/utf8.acceptRanges", Rows.laid_unicode_utf8_acceptRanges), ("unicode.asciiFold", Rows.laid_unicode_asciiFold), ("unicode.caseOrbit", Rows.laid_unicode_caseOrbit), ("unicode.CaseRanges", Rows.laid_unicode_CaseRanges), ("unicode/utf8.first", Rows.laid_unicode_utf8_first)] W) (hs : W.ShapedOpen Tryz.prog) : TT W :=
  ⟨utf8Tabs_of_readsT (ρ := ren8) u8Types u8Extra (first_eq ▸ laidMet.reads h (.tail _ (.tail _ (.tail _ (.tail _ (.head _)))))) (accept_eq ▸ laidMet.reads h (.head _)),
    fold_of_reads (fold_eq ▸ laidMet.reads h (.tail _ (.head _))), maxl_of_shape hs⟩
theorem struct_of {P : Program} {t : TypeId} (h : (match P.underlying t with | some (.struct _) => true | _ => false) = true) : ∃ fs, P.underlying t = some (.struct fs) := by
  split at h
  · next fs hf => exact ⟨fs, hf⟩
  · cases h
end Go.Proofs.YtkgfbphdmnapdaaGreatDoor

