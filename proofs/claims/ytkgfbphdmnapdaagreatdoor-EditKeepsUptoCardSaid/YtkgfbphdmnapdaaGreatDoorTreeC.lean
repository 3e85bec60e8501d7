/-
  Nodes in memory: reading one, a variable of its own, going through a list with a question.
-/
import Derived.Test.YtkgfbphdmnapdaaGreatDoorTree
import Derived.Test.YtkgfbphdmnapdaaGreatDoorScope
import Derived.Test.YtkgfbphdmnapdaaGreatDoorVTree
import Derived.Test.YtkgfbphdmnapdaaGreatDoorVLib
import Derived.Test.YtkgfbphdmnapdaaGreatDoorChrB
import Derived.Shelf.Strings.Search3
import Derived.Shelf.Strings.SlTrimAscii
import Derived.Test.YtkgfbphdmnapdaaGreatDoorSortW
import Derived.Test.YtkgfbphdmnapdaaGreatDoorVTree2
set_option linter.unusedVariables false
set_option linter.unusedSimpArgs false
namespace Go.Vc
open Go Go.Lib
section
variable {w : World}
/-- A node's six cells, one after the other. -/
theorem ldNode {a : Addr} {k0 : Int} {u0 l0 t0 : ByteArray} {ap kp : Option Addr} {al ac kl kc : Nat} (hc : cellsAt w a [.int .i64 k0, .string u0, .string l0, .slice ap al ac, .slice kp kl kc, .string t0])
    {K : Int → ByteArray → ByteArray → Option Addr → Nat → Nat → Option Addr → Nat → Nat → ByteArray → Prop} (k : K k0 u0 l0 ap al ac kp kl kc t0) :
    ldI .i64 w a fun x0 => ldStr w (a.add 1) fun x1 => ldStr w (a.add 2) fun x2 => ldS w (a.add 3) fun p3 l3 c3 => ldS w (a.add 4) fun p4 l4 c4 => ldStr w (a.add 5) fun x5 => K x0 x1 x2 p3 l3 c3 p4 l4 c4 x5 :=
  ⟨_, cellsAt_head hc, _, hc 1 _ rfl, _, hc 2 _ rfl, _, _, _, hc 3 _ rfl, _, _, _, hc 4 _ rfl, _, hc 5 _ rfl, k⟩
theorem ldAttr {a : Addr} {u0 l0 t0 : ByteArray} (hc : cellsAt w a [.string u0, .string l0, .string t0]) {K : ByteArray → ByteArray → ByteArray → Prop} (k : K u0 l0 t0) :
    ldStr w a fun x0 => ldStr w (a.add 1) fun x1 => ldStr w (a.add 2) fun x2 => K x0 x1 x2 :=
  ⟨_, cellsAt_head hc, _, hc 1 _ rfl, _, hc 2 _ rfl, k⟩
/-- .. of a variable of its own. -/
theorem ldBox {w0 : World} {S : Nat → Prop} {Γ : List Blk} {b : Nat} {e : TypeId} (H : Hp w0 S w Γ) (i : Nat) {k0 : Int} {u0 l0 t0 : ByteArray} {ap kp : Option Addr} {al ac kl kc : Nat} (hi : Γ[i]? = some ⟨b, [.int .i64 k0, .string u0, .string l0, .slice ap al ac, .slice kp kl kc, .string t0], e⟩)
    {K : Int → ByteArray → ByteArray → Option Addr → Nat → Nat → Option Addr → Nat → Nat → ByteArray → Prop} (k : K k0 u0 l0 ap al ac kp kl kc t0) :
    ldI .i64 w ⟨b, 0, none⟩ fun x0 => ldStr w ⟨b, 1, none⟩ fun x1 => ldStr w ⟨b, 2, none⟩ fun x2 => ldS w ⟨b, 3, none⟩ fun p3 l3 c3 => ldS w ⟨b, 4, none⟩ fun p4 l4 c4 => ldStr w ⟨b, 5, none⟩ fun x5 => K x0 x1 x2 p3 l3 c3 p4 l4 c4 x5 :=
  ⟨_, H.cell i hi rfl, _, H.cell i hi rfl, _, H.cell i hi rfl, _, _, _, H.cell i hi rfl, _, _, _, H.cell i hi rfl, _, H.cell i hi rfl, k⟩
/-- Going through a list of nodes with a question. -/
def IdxNode (call : List Value → World → (Bool → World → Prop) → Prop) (s0p : Option Addr) (s0l : Nat) (w : World) (J : Int → World → Prop) : Prop :=
  ∃ I_8 : Int → World → Nat → Prop, (∃ m : Nat, I_8 (0 : Int) w m) ∧ ∀ (x8 : Int) (w1 : World) (m : Nat), I_8 x8 w1 m → (
  condB (decide (x8 < ((s0l : Nat) : Int))) (
  idxA s0p s0l x8 fun a14 =>
  ldI .i64 w1 ((a14.add (x8.toNat * 6))) fun x15_0 =>
  ldStr w1 (((a14.add (x8.toNat * 6)).add 1)) fun x15_1 =>
  ldStr w1 (((a14.add (x8.toNat * 6)).add 2)) fun x15_2 =>
  ldS w1 (((a14.add (x8.toNat * 6)).add 3)) fun x15_3p x15_3l x15_3c =>
  ldS w1 (((a14.add (x8.toNat * 6)).add 4)) fun x15_4p x15_4l x15_4c =>
  ldStr w1 (((a14.add (x8.toNat * 6)).add 5)) fun x15_5 =>
  call [.int .i64 x15_0, .string x15_1, .string x15_2, .slice x15_3p x15_3l x15_3c, .slice x15_4p x15_4l x15_4c, .string x15_5] w1 fun (r16 : Bool) (w2 : World) =>
  condB r16 (
  J x8 w2) (
  ∃ m' : Nat, m' < m ∧ I_8 (w64 (x8 + (1 : Int))) w2 m')) (
  J (-1 : Int) w1))
theorem IdxNode_ok {call : List Value → World → (Bool → World → Prop) → Prop} {p : Option Addr} {l : Nat} {L : List NV} {q : NV → Bool} {J : Int → World → Prop} (h : Sl w p l 6 (rows NV.cells L)) (hm : l ≤ 100000000)
    (hcall : ∀ x ∈ L, ∀ (w' : World) (K : Bool → World → Prop), Chg No w w' → (∀ w'', Chg No w w'' → K (q x) w'') → call x.cells w' K)
    (K : ∀ (r : Int) w', Chg No w w' → (0 ≤ r ↔ L.any q = true) → J r w') : IdxNode call p l w J := by
  have hl := h.row (even_node L) (by decide)
  refine ⟨fun i w' t => ∃ k : Nat, i = k ∧ k ≤ l ∧ t = l - k ∧ Chg No w w' ∧ (L.take k).any q = false, ⟨_, 0, rfl, Nat.zero_le _, rfl, Chg.refl _ _, rfl⟩, ?_⟩
  rintro i w1 t ⟨k, rfl, hk, rfl, hc, hno⟩
  refine condB_d (fun hlt => ?_) (fun hge => ?_)
  · refine idx_rows (h.chg hc (off_no _)) (even_node L) (by decide) (by omega) hlt fun a x _ hx hcs => ?_
    rw [Int.toNat_natCast] at hx
    have hmem := List.mem_of_getElem? hx
    obtain ⟨g1, g2⟩ := List.getElem?_eq_some_iff.1 hx
    have htake : L.take (k + 1) = L.take k ++ [x] := by rw [List.take_succ_eq_append_getElem g1, g2]
    have hc2 := hcall x hmem w1
    cases x with
    | mk xk xu xl xt xap xal xac xas xkp xkl xkc xks =>
      refine ldNode hcs ?_
      refine hc2 _ hc fun w2 c2 => ?_
      refine condB_i (fun hq => ?_) (fun hq => ?_)
      · exact K k w2 c2 ⟨fun _ => List.any_eq_true.2 ⟨_, hmem, hq⟩, fun _ => by omega⟩
      · refine ⟨_, by omega, k + 1, by rw [w64_of] <;> omega, by omega, rfl, c2, ?_⟩
        rw [htake, List.any_append, hno, List.any_cons, hq]; rfl
  · rw [List.take_of_length_le (by omega)] at hno
    exact K (-1) w1 hc ⟨fun h => by omega, fun h => by rw [hno] at h; cases h⟩
def IdxAttr (call : List Value → World → (Bool → World → Prop) → Prop) (s0p : Option Addr) (s0l : Nat) (w : World) (J : Int → World → Prop) : Prop :=
  ∃ I_8 : Int → World → Nat → Prop, (∃ m : Nat, I_8 (0 : Int) w m) ∧ ∀ (x8 : Int) (w1 : World) (m : Nat), I_8 x8 w1 m → (
  condB (decide (x8 < ((s0l : Nat) : Int))) (
  idxA s0p s0l x8 fun a14 =>
  ldStr w1 ((a14.add (x8.toNat * 3))) fun x15_0 =>
  ldStr w1 (((a14.add (x8.toNat * 3)).add 1)) fun x15_1 =>
  ldStr w1 (((a14.add (x8.toNat * 3)).add 2)) fun x15_2 =>
  call [.string x15_0, .string x15_1, .string x15_2] w1 fun (r16 : Bool) (w2 : World) =>
  condB r16 (
  J x8 w2) (
  ∃ m' : Nat, m' < m ∧ I_8 (w64 (x8 + (1 : Int))) w2 m')) (
  J (-1 : Int) w1))
theorem even_att (L : List At) : Even atc 3 L := fun _ _ => rfl
theorem IdxAttr_ok {call : List Value → World → (Bool → World → Prop) → Prop} {p : Option Addr} {l : Nat} {L : List At} {q : At → Bool} {J : Int → World → Prop} (h : Sl w p l 3 (rows atc L)) (hm : l ≤ 100000000)
    (hcall : ∀ x ∈ L, ∀ (w' : World) (K : Bool → World → Prop), Chg No w w' → (∀ w'', Chg No w w'' → K (q x) w'') → call (atc x) w' K)
    (K : ∀ (r : Int) w', Chg No w w' → (0 ≤ r ↔ L.any q = true) → J r w') : IdxAttr call p l w J := by
  have hl := h.row (even_att L) (by decide)
  refine ⟨fun i w' t => ∃ k : Nat, i = k ∧ k ≤ l ∧ t = l - k ∧ Chg No w w' ∧ (L.take k).any q = false, ⟨_, 0, rfl, Nat.zero_le _, rfl, Chg.refl _ _, rfl⟩, ?_⟩
  rintro i w1 t ⟨k, rfl, hk, rfl, hc, hno⟩
  refine condB_d (fun hlt => ?_) (fun hge => ?_)
  · refine idx_rows (h.chg hc (off_no _)) (even_att L) (by decide) (by omega) hlt fun a x _ hx hcs => ?_
    rw [Int.toNat_natCast] at hx
    have hmem := List.mem_of_getElem? hx
    obtain ⟨g1, g2⟩ := List.getElem?_eq_some_iff.1 hx
    have htake : L.take (k + 1) = L.take k ++ [x] := by rw [List.take_succ_eq_append_getElem g1, g2]
    refine ldAttr hcs ?_
    refine hcall x hmem w1 _ hc fun w2 c2 => ?_
    refine condB_i (fun hq => ?_) (fun hq => ?_)
    · exact K k w2 c2 ⟨fun _ => List.any_eq_true.2 ⟨_, hmem, hq⟩, fun _ => by omega⟩
    · refine ⟨_, by omega, k + 1, by rw [w64_of] <;> omega, by omega, rfl, c2, ?_⟩
      rw [htake, List.any_append, hno, List.any_cons, hq]; rfl
  · rw [List.take_of_length_le (by omega)] at hno
    exact K (-1) w1 hc ⟨fun h => by omega, fun h => by rw [hno] at h; cases h⟩
end
end Go.Vc
namespace Go.Proofs.YtkgfbphdmnapdaaGreatDoor
open Go Go.Vc Go.Lib
section
variable {w : World}
theorem zeroC_node : zeroC Tryz.prog T_api_Node = ⟨[.int .i64 0, .string ByteArray.empty, .string ByteArray.empty, .slice none 0 0, .slice none 0 0, .string ByteArray.empty]⟩ := by kernel_rfl
theorem slT_node : SlT Tryz.prog T_sl_api_Node T_api_Node 6 104 #[.int .i64 0, .string ByteArray.empty, .string ByteArray.empty, .slice none 0 0, .slice none 0 0, .string ByteArray.empty] := SlT.of (by kernel_rfl) (by kernel_rfl) rfl (by decide)
/-- An element, stored in a variable of its own. -/
theorem nodeVar {w0 : World} {S : Nat → Prop} {Γ : List Blk} (H : Hp w0 S w Γ) {a : Addr} {k0 : Int} {u0 l0 t0 : ByteArray} {ap kp : Option Addr} {al ac kl kc : Nat} (hc : cellsAt w a [.int .i64 k0, .string u0, .string l0, .slice ap al ac, .slice kp kl kc, .string t0])
    {K : Nat → World → Prop} (k : ∀ b w', Hp w0 S w' (⟨b, [.int .i64 k0, .string u0, .string l0, .slice ap al ac, .slice kp kl kc, .string t0], T_api_Node⟩ :: Γ) → w.heap.size ≤ b → Chg No w w' → K b w') :
    ldI .i64 w a fun x0 => ldStr w (a.add 1) fun x1 => ldStr w (a.add 2) fun x2 => ldS w (a.add 3) fun p3 l3 c3 => ldS w (a.add 4) fun p4 l4 c4 => ldStr w (a.add 5) fun x5 =>
      newB w (.cells (zeroC Tryz.prog T_api_Node) T_api_Node) fun b w1 => stN w1 ⟨b, 0, none⟩ ⟨[.int .i64 x0, .string x1, .string x2, .slice p3 l3 c3, .slice p4 l4 c4, .string x5]⟩ 6 fun w2 => K b w2 := by
  refine ldNode hc ?_
  rw [zeroC_node]
  refine H.newB fun b w1 H1 hb hc1 => ?_
  refine H1.stN 0 rfl (off := 0) rfl (by simp) (one1_node (.mk k0 u0 l0 t0 ap al ac [] kp kl kc [])) fun w2 H2 hc2 => ?_
  simp only [List.set_cons_zero] at H2
  exact k b w2 H2 hb (hc1.trans hc2 fun x hx e => by subst e; omega)
/-- A node that came in as a value, in a variable of its own. -/
theorem nodeBox {w0 : World} {S : Nat → Prop} {Γ : List Blk} (H : Hp w0 S w Γ) {cs : List Value} {e : TypeId} {K : Nat → World → Prop} (k : ∀ b w', Hp w0 S w' (⟨b, cs, e⟩ :: Γ) → w.heap.size ≤ b → Chg No w w' → K b w') :
    newB w (.cells ⟨cs⟩ e) K := H.newB k
end
end Go.Proofs.YtkgfbphdmnapdaaGreatDoor

/-
  What Check asks of each node: may, odd, deep, great, names, chars, order.
-/

set_option linter.unusedVariables false
set_option linter.unusedSimpArgs false
namespace Go.Vc
open Go Go.Lib
theorem nd_kids (k : Int) (u l t : ByteArray) (ap : Option Addr) (al ac : Nat) (ats : List At) (kp : Option Addr) (kl kc : Nat) (ks : List NV) : (NV.mk k u l t ap al ac ats kp kl kc ks).nd = .mk k u l t ats (ks.map NV.nd) := by
  simp only [NV.nd, ndL_map]
def NV.kd : NV → Int | .mk k _ _ _ _ _ _ _ _ _ _ _ => k
theorem nd_kind (v : NV) : v.nd.kind = v.kd := by cases v; rfl
end Go.Vc
namespace Go.Proofs.YtkgfbphdmnapdaaGreatDoor
open Go Go.Vc Go.Lib
section
variable {w : World}
theorem May_ok {p k : Int} {J : Bool → World → Prop} (K : J (mayK p k) w) : callJ Tryz.prog fn_tree_may #[.int .i64 p, .int .i64 k] w [.one .bool] J := by
  refine c_tree_may ?_
  unfold VC_tree_may
  have kT : mayK p k = true → J true w := fun h => by rw [h] at K; exact K
  have kF : mayK p k = false → J false w := fun h => by rw [h] at K; exact K
  have tT : ((p = 1 ∧ (k = 2 ∨ k = 4 ∨ k = 5)) ∨ (p = 2 ∧ 2 ≤ k ∧ k ≤ 5)) → J true w := fun h => kT (decide_eq_true h)
  have tF : ¬ ((p = 1 ∧ (k = 2 ∨ k = 4 ∨ k = 5)) ∨ (p = 2 ∧ 2 ≤ k ∧ k ≤ 5)) → J false w := fun h => kF (decide_eq_false h)
  refine condB_eq (fun h1 => ?_) (fun h1 => ?_)
  · simp only [withJ]
    refine condB_eq (fun h => tT (by omega)) (fun h2 => ?_)
    refine condB_eq (fun h => tT (by omega)) (fun h3 => ?_)
    by_cases h4 : k = 5
    · rw [beq_iff_eq.2 h4]; exact tT (by omega)
    · rw [beq_eq_false_iff_ne.2 h4]; exact tF (by omega)
  · refine condB_eq (fun h2 => ?_) (fun h2 => tF (by omega))
    simp only [withJ]
    refine condB_d (fun h3 => ?_) (fun h3 => tF (by omega))
    by_cases h4 : k ≤ 5
    · rw [decide_eq_true h4]; exact tT (by omega)
    · rw [decide_eq_false h4]; exact tF (by omega)
theorem Odd1_ok {x : NV} {fv : Addr} {p : Int} {J : Bool → World → Prop} (hf : w.cell? fv = some (.int .i64 p)) (K : ∀ w', Chg No w w' → J (!mayK p x.kd) w') : callJ Tryz.prog fn_tree_odd_1 #[.agg ⟨x.cells⟩, .pointer (some fv)] w [.one .bool] J := by
  cases x with
  | mk k u l t ap al ac ats kp kl kc ks =>
    refine c_tree_odd_1 ?_
    unfold VC_tree_odd_1
    refine nodeBox (Hp.start w No) fun b w1 H1 hb hc1 => ?_
    refine ldI_i (hc1.cell hf (fun h => h)) ?_
    refine H1.ldI 0 rfl (off := 0) rfl ?_
    exact May_ok (K w1 hc1)
theorem IdxOdd1_ok {p : Option Addr} {l c : Nat} {L : List NV} {fv : Addr} {pk : Int} {J : Bool → World → Prop} (h : Sl w p l 6 (rows NV.cells L)) (hm : l ≤ 100000000) (hf : w.cell? fv = some (.int .i64 pk)) (K : ∀ w', Chg No w w' → J (L.any fun x => !mayK pk x.kd) w') :
    callJ Tryz.prog fn_slices_ContainsFunc_sl_api_Node_api_Node #[.slice p l c, .func (.func 51) #[] #[.pointer (some fv)]] w [.one .bool] J := by
  refine c_slices_ContainsFunc_sl_api_Node_api_Node_f1_51c1 ?_
  unfold VC_slices_ContainsFunc_sl_api_Node_api_Node_f1_51c1
  refine c_slices_IndexFunc_sl_api_Node_api_Node_f1_51c1 ?_
  show IdxNode (fun cs w' K => callJ Tryz.prog fn_tree_odd_1 #[.agg ⟨cs⟩, .pointer (some fv)] w' [.one .bool] K) p l w _
  refine IdxNode_ok (q := fun x => !mayK pk x.kd) h hm (fun x hx w' K' hc k => Odd1_ok (hc.cell hf (fun h => h)) fun w'' c2 => k w'' (hc.trans0 c2)) fun r w' hc hr => ?_
  by_cases h0 : 0 ≤ r
  · have := hr.1 h0
    rw [decide_eq_true (show r ≥ 0 from h0), ← this]; exact K w' hc
  · have : (L.any fun x => !mayK pk x.kd) = false := by rw [Bool.eq_false_iff]; exact fun h => h0 (hr.2 h)
    rw [decide_eq_false (show ¬ r ≥ 0 from h0), ← this]; exact K w' hc
theorem any_kids (k : Int) (u l t : ByteArray) (ats : List At) (ks : List NV) : ((Nd.mk k u l t ats (ks.map NV.nd)).kids.any fun x => !mayK (Nd.mk k u l t ats (ks.map NV.nd)).kind x.kind) = ks.any fun x => !mayK k x.kd := by
  show (ks.map NV.nd).any (fun x => !mayK k x.kind) = _
  rw [List.any_map]
  congr 1
  funext x
  show (!mayK k x.nd.kind) = _
  rw [nd_kind]
theorem Odd_ok {x : NV} {J : Bool → World → Prop} (hx : x.Ok w) (hm : x.mea ≤ 100000000) (K : ∀ w', Chg No w w' → J (oddP x.nd) w') : callJ Tryz.prog fn_tree_odd #[.agg ⟨x.cells⟩] w [.one .bool] J := by
  cases hx with
  | @mk k u l t ap al ac ats kp kl kc ks ha hn hac hk hkn hkc hks =>
    have hal := ha.row (even_att ats) (by decide)
    have hkl := hk.row (even_node ks) (by decide)
    have hmm : kl ≤ 100000000 := by
      have := len_meaL ks
      simp only [NV.mea] at hm; omega
    rw [nd_kids] at K
    unfold oddP at K
    rw [any_kids] at K
    simp only [Nd.kind, Nd.uri, Nd.loc, Nd.text, Nd.attrs] at K
    refine c_tree_odd ?_
    unfold VC_tree_odd
    refine nodeBox (Hp.start w No) fun b w1 H1 hb hc1 => ?_
    refine withJ_i fun J3 hJ3 => ?_
    have k3 : ∀ (bad : Bool), bad = (decide (k ≠ 2) && decide (ats ≠ [])) → J3 bad w1 := by
      intro bad hbad; subst hJ3
      refine withJ_i fun J31 hJ31 => ?_
      have k31 : ∀ bad2 : Bool, bad2 = oddQ k u l t ats → J31 bad2 w1 := by
        intro bad2 hb2; subst hJ31
        rw [← hb2] at K
        simp only [withJ]
        refine condB_i (fun ht => ?_) (fun hf => ?_)
        · rw [ht] at K; exact K w1 hc1
        · rw [hf] at K
          refine H1.ldS 0 rfl (off := 4) rfl ?_
          refine IdxOdd1_ok (hk.chg hc1 (off_no _)) hmm (H1.cell 0 rfl rfl) fun w2 hc2 => ?_
          have := K w2 (hc1.trans0 hc2)
          rw [Bool.false_or] at this; exact this
      clear hJ31 K
      unfold oddQ at k31
      have eE : ByteArray.empty = emptyB := rfl
      refine H1.ldI 0 rfl (off := 0) rfl ?_
      refine condB_eq (fun e1 => ?_) (fun e1 => ?_)
      · rw [decide_eq_true (show k ≠ 2 by omega), Bool.true_and] at hbad
        refine condB_i (fun ht => k31 _ (by rw [if_pos e1, ← hbad, ht]; rfl)) (fun hf => ?_)
        refine H1.ldStr 0 rfl (off := 1) rfl ?_
        refine H1.ldStr 0 rfl (off := 2) rfl ?_
        rw [if_pos e1, ← hbad, hf] at k31
        simp only [beqS, eE, Bool.and_true]
        rw [show (decide (u = emptyB) && decide (l = emptyB)) = decide (u = emptyB ∧ l = emptyB) from (Bool.decide_and _ _).symm]
        by_cases hul : u = emptyB ∧ l = emptyB
        · rw [decide_eq_true hul]
          refine condB_i (fun h => by cases h) (fun _ => ?_)
          refine H1.ldStr 0 rfl (off := 5) rfl ?_
          refine k31 _ ?_
          rw [decide_eq_false (show ¬ ¬ (u = emptyB ∧ l = emptyB) from fun h => h hul)]
          by_cases ht : t = emptyB
          · simp [ht, emptyB]
          · have : ¬ t = ⟨#[]⟩ := ht
            simp [ht, this]
        · rw [decide_eq_false hul]
          refine condB_i (fun _ => k31 _ (by rw [decide_eq_true hul]; rfl)) (fun h => by cases h)
      · refine condB_eq (fun e2 => ?_) (fun e2 => ?_)
        · refine H1.ldStr 0 rfl (off := 5) rfl ?_
          refine k31 _ ?_
          rw [if_neg e1, if_pos e2, beqS]
          by_cases ht : t = emptyB
          · simp [ht, emptyB]
          · have : ¬ t = ⟨#[]⟩ := ht
            simp [ht, this]
        · rw [decide_eq_true (show k ≠ 2 from e2), Bool.true_and] at hbad
          rw [if_neg e1, if_neg e2] at k31
          refine condB_eq (fun e5 => ?_) (fun e5 => ?_)
          · rw [if_pos e5, ← hbad] at k31
            refine condB_i (fun ht => k31 _ (by rw [ht]; rfl)) (fun hf => ?_)
            refine H1.ldStr 0 rfl (off := 1) rfl ?_
            refine k31 _ ?_
            rw [hf, beqS]
            by_cases ht : u = emptyB
            · simp [ht, emptyB]
            · have : ¬ u = ⟨#[]⟩ := ht
              simp [ht, this]
          · rw [if_neg e5, ← hbad] at k31
            refine condB_i (fun ht => k31 _ (by rw [ht]; rfl)) (fun hf => ?_)
            refine H1.ldStr 0 rfl (off := 1) rfl ?_
            refine H1.ldStr 0 rfl (off := 2) rfl ?_
            refine k31 _ ?_
            rw [hf]
            simp only [beqS, eE, Bool.and_true]
            rw [show (decide (u = emptyB) && decide (l = emptyB)) = decide (u = emptyB ∧ l = emptyB) from (Bool.decide_and _ _).symm]
            by_cases hul : u = emptyB ∧ l = emptyB
            · rw [decide_eq_true hul, decide_eq_false (show ¬ ¬ (u = emptyB ∧ l = emptyB) from fun h => h hul)]; rfl
            · rw [decide_eq_false hul, decide_eq_true hul]; rfl
    clear hJ3 K
    refine H1.ldI 0 rfl (off := 0) rfl ?_
    refine condB_ne (fun e2 => ?_) (fun e2 => ?_)
    · refine H1.ldS 0 rfl (off := 3) rfl ?_
      refine k3 _ ?_
      rw [decide_eq_true (show k ≠ 2 from e2), Bool.true_and]
      by_cases h0 : ats = []
      · have : al = 0 := by rw [← hal, h0]; rfl
        rw [decide_eq_false (show ¬ ats ≠ [] from fun h => h h0), decide_eq_false (by omega)]
      · have : 0 < ats.length := List.length_pos_iff.2 h0
        rw [decide_eq_true (show ats ≠ [] from h0), decide_eq_true (by omega)]
    · exact k3 _ (by rw [decide_eq_false (fun h => h e2)]; rfl)
/-- Elements that stand too deep. -/
theorem Deep_ok : ∀ (x : NV) {w : World} {above : Int} {J : Bool → World → Prop}, x.Ok w → x.mea ≤ 100000000 → 0 ≤ above → above ≤ 40 → (∀ w', Chg No w w' → J (deepN above x.nd) w') → callJ Tryz.prog fn_tree_deep #[.agg ⟨x.cells⟩, .int .i64 above] w [.one .bool] J := by
  intro x
  induction x using NV.ind with
  | h k u l t ap al ac ats kp kl kc ks ih =>
    intro w above J hx hm h0 h40 K
    cases hx with
    | mk ha hn hac hk hkn hkc hks =>
    have hkl := hk.row (even_node ks) (by decide)
    have hmm : kl ≤ 100000000 := by
      have := len_meaL ks
      simp only [NV.mea] at hm; omega
    have hkm : ∀ y ∈ ks, y.mea ≤ 100000000 := fun y hy => by
      have := mea_kid hy
      simp only [NV.mea] at hm; omega
    rw [nd_kids] at K
    unfold deepN at K
    have hany : ∀ ab : Int, deepNL ab (ks.map NV.nd) = ks.any fun y => deepN ab y.nd := fun ab => by rw [deepNL_any, List.any_map]; rfl
    rw [hany, hany] at K
    refine c_tree_deep ?_
    unfold VC_tree_deep
    refine nodeBox (Hp.start w No) fun b w1 H1 hb hc1 => ?_
    refine H1.newB fun b3 w2 H2 hb3 hc2 => ?_
    have c02 := hc1.trans0 hc2
    refine withJ_i fun J0 hJ0 => ?_
    have k0 : ∀ (ab : Int) (w3 : World), 0 ≤ ab → ab ≤ 40 → Hp w No w3 [⟨b3, [.int .i64 ab], T_int⟩, ⟨b, [.int .i64 k, .string u, .string l, .slice ap al ac, .slice kp kl kc, .string t], T_api_Node⟩] → (∀ w', Chg No w w' → J (ks.any fun y => deepN ab y.nd) w') → J0 w3 := by
      intro ab w3 g0 g40 H3 K3; subst hJ0
      have c03 := H3.chg
      refine H3.ldS 1 rfl (off := 4) rfl ?_
      have hcell := H3.cell 0 rfl (off := 0) rfl
      refine c_slices_ContainsFunc_sl_api_Node_api_Node_f1_53c1 ?_
      unfold VC_slices_ContainsFunc_sl_api_Node_api_Node_f1_53c1
      refine c_slices_IndexFunc_sl_api_Node_api_Node_f1_53c1 ?_
      show IdxNode (fun cs w' K => callJ Tryz.prog fn_tree_deep_1 #[.agg ⟨cs⟩, .pointer (some ⟨b3, 0, none⟩)] w' [.one .bool] K) kp kl w3 _
      refine IdxNode_ok (q := fun y => deepN ab y.nd) (hk.chg c03 (off_no _)) hmm (fun y hy w' K' hc kk => ?_) fun r w' hc hr => ?_
      · have hy2 := (hks y hy).chg0 (c03.trans0 hc)
        have ihy := @ih y hy
        have hmy := hkm y hy
        cases y with
        | mk yk yu yl yt yap yal yac yas ykp ykl ykc yks =>
          refine c_tree_deep_1 ?_
          unfold VC_tree_deep_1
          refine nodeBox (Hp.start w' No) fun b5 w5 H5 hb5 hc5 => ?_
          refine ldBox H5 0 rfl ?_
          refine ldI_i (hc5.cell (hc.cell hcell (fun h => h)) (fun h => h)) ?_
          exact ihy (hy2.chg0 hc5) hmy g0 g40 fun w6 hc6 => kk w6 ((hc.trans0 hc5).trans0 hc6)
      · by_cases h0 : 0 ≤ r
        · have := hr.1 h0
          rw [decide_eq_true (show r ≥ 0 from h0), ← this]; exact K3 w' (c03.trans0 hc)
        · have : (ks.any fun y => deepN ab y.nd) = false := by rw [Bool.eq_false_iff]; exact fun h => h0 (hr.2 h)
          rw [decide_eq_false (show ¬ r ≥ 0 from h0), ← this]; exact K3 w' (c03.trans0 hc)
    clear hJ0
    refine H2.ldI 1 rfl (off := 0) rfl ?_
    refine condB_eq (fun e2 => ?_) (fun e2 => ?_)
    · rw [if_pos e2] at K
      refine H2.ldI 0 rfl (off := 0) rfl ?_
      refine condB_d (fun hd => ?_) (fun hd => ?_)
      · rw [if_pos hd] at K; exact K w2 c02
      · rw [if_neg hd] at K
        refine H2.ldI 0 rfl (off := 0) rfl ?_
        rw [w64_of (by omega) (by omega)]
        refine H2.stV 0 rfl (off := 0) (by simp) fun w5 H5 hc5 => ?_
        simp only [List.set_cons_zero] at H5
        exact k0 (above + 1) w5 (by omega) (by omega) H5 K
    · rw [if_neg e2] at K
      exact k0 above w2 h0 h40 H2 K
end
end Go.Proofs.YtkgfbphdmnapdaaGreatDoor

/-
  What Check asks of texts: strings.Contains, HasSuffix, TrimLeft, EqualFold.
-/

set_option linter.unusedVariables false
set_option linter.unusedSimpArgs false
namespace Go.Proofs
open Go.Shelf
def Tryz.lays144_ren : Go.Shelf.Ren := ⟨fun | 144 => 63 | 143 => 86 | 219 => 106 | 217 => 114 | 225 => 115 | 224 => 116 | 267 => 117 | 266 => 121 | 314 => 122 | n => n, fun | 9 => 9 | 4 => 4 | 3 => 3 | 5 => 5 | 46 => 108 | 146 => 148 | 51 => 138 | n => n, fun | 1 => 5 | n => n⟩
theorem Tryz.lays144 : Go.Proofs.Lays.n144 Tryz.prog Tryz.lays144_ren where
  mixed := by kernel_rfl
  f143 := by kernel_rfl
  f144 := by kernel_rfl
  f217 := by kernel_rfl
  f219 := by kernel_rfl
  f224 := by kernel_rfl
  f225 := by kernel_rfl
  f266 := by kernel_rfl
  f267 := by kernel_rfl
  f314 := by kernel_rfl
  t3 := by kernel_rfl
  a3 := fun w => by kernel_rfl
  z3 := fun w => by kernel_rfl
  v3 := fun w => by kernel_rfl
  t4 := by kernel_rfl
  a4 := fun w => by kernel_rfl
  z4 := fun w => by kernel_rfl
  v4 := fun w => by kernel_rfl
  t5 := by kernel_rfl
  a5 := fun w => by kernel_rfl
  z5 := fun w => by kernel_rfl
  v5 := fun w => by kernel_rfl
  t9 := by kernel_rfl
  a9 := fun w => by kernel_rfl
  z9 := fun w => by kernel_rfl
  v9 := fun w => by kernel_rfl
  t46 := by kernel_rfl
  a46 := fun w => by kernel_rfl
  z46 := fun w => by kernel_rfl
  v46 := fun w => by kernel_rfl
  t51 := by kernel_rfl
  a51 := fun w => by kernel_rfl
  z51 := fun w => by kernel_rfl
  v51 := fun w => by kernel_rfl
  t146 := by kernel_rfl
  a146 := fun w => by kernel_rfl
  z146 := fun w => by kernel_rfl
  v146 := fun w => by kernel_rfl
  g1 := by kernel_rfl
def Tryz.lays161_ren : Go.Shelf.Ren := ⟨fun | 161 => 65 | 231 => 88 | 227 => 89 | 233 => 90 | 235 => 91 | 228 => 107 | 197 => 81 | 151 => 108 | 260 => 101 | 152 => 118 | 137 => 123 | 119 => 124 | 224 => 116 | 225 => 115 | 217 => 114 | 266 => 121 | n => n, fun | 9 => 9 | 4 => 4 | 3 => 3 | 5 => 5 | 117 => 104 | 116 => 103 | 0 => 0 | 124 => 107 | 105 => 93 | 21 => 21 | 119 => 115 | 46 => 108 | 139 => 118 | 138 => 117 | n => n, fun | 3 => 0 | 4 => 1 | n => n⟩
theorem Tryz.lays161 : Go.Proofs.Lays.n161 Tryz.prog Tryz.lays161_ren where
  mixed := by kernel_rfl
  f119 := by kernel_rfl
  f137 := by kernel_rfl
  f151 := by kernel_rfl
  f152 := by kernel_rfl
  f161 := by kernel_rfl
  f197 := by kernel_rfl
  f217 := by kernel_rfl
  f224 := by kernel_rfl
  f225 := by kernel_rfl
  f227 := by kernel_rfl
  f228 := by kernel_rfl
  f231 := by kernel_rfl
  f233 := by kernel_rfl
  f235 := by kernel_rfl
  f260 := by kernel_rfl
  f266 := by kernel_rfl
  t0 := by kernel_rfl
  a0 := fun w => by kernel_rfl
  z0 := fun w => by kernel_rfl
  v0 := fun w => by kernel_rfl
  t3 := by kernel_rfl
  a3 := fun w => by kernel_rfl
  z3 := fun w => by kernel_rfl
  v3 := fun w => by kernel_rfl
  t4 := by kernel_rfl
  a4 := fun w => by kernel_rfl
  z4 := fun w => by kernel_rfl
  v4 := fun w => by kernel_rfl
  t5 := by kernel_rfl
  a5 := fun w => by kernel_rfl
  z5 := fun w => by kernel_rfl
  v5 := fun w => by kernel_rfl
  t9 := by kernel_rfl
  a9 := fun w => by kernel_rfl
  z9 := fun w => by kernel_rfl
  v9 := fun w => by kernel_rfl
  t21 := by kernel_rfl
  a21 := fun w => by kernel_rfl
  z21 := fun w => by kernel_rfl
  v21 := fun w => by kernel_rfl
  t46 := by kernel_rfl
  a46 := fun w => by kernel_rfl
  z46 := fun w => by kernel_rfl
  v46 := fun w => by kernel_rfl
  t105 := by kernel_rfl
  a105 := fun w => by kernel_rfl
  z105 := fun w => by kernel_rfl
  v105 := fun w => by kernel_rfl
  t116 := by kernel_rfl
  a116 := fun w => by kernel_rfl
  z116 := fun w => by kernel_rfl
  t117 := by kernel_rfl
  a117 := fun w => by kernel_rfl
  z117 := fun w => by kernel_rfl
  v117 := fun w => by kernel_rfl
  t119 := by kernel_rfl
  a119 := fun w => by kernel_rfl
  z119 := fun w => by kernel_rfl
  t124 := by kernel_rfl
  a124 := fun w => by kernel_rfl
  z124 := fun w => by kernel_rfl
  v124 := fun w => by kernel_rfl
  t138 := by kernel_rfl
  a138 := fun w => by kernel_rfl
  z138 := fun w => by kernel_rfl
  v138 := fun w => by kernel_rfl
  t139 := by kernel_rfl
  a139 := fun w => by kernel_rfl
  z139 := fun w => by kernel_rfl
  v139 := fun w => by kernel_rfl
  g3 := by kernel_rfl
  g4 := by kernel_rfl
end Go.Proofs
namespace Go.Vc
open Go Go.Lib
theorem index_has (w : List UInt8) : ∀ l : List UInt8, (0 ≤ Lib.index l w ↔ hasS w l = true)
  | [] => by
    unfold Lib.index hasS
    cases w with
    | nil => simp
    | cons a w => simp [List.isPrefixOf]
  | b :: l => by
    have ih := index_has w l
    unfold Lib.index hasS
    cases h : w.isPrefixOf (b :: l) with
    | true => simp
    | false =>
      simp only [Bool.false_eq_true, if_false, Bool.false_or]
      rw [← ih]
      split
      · rename_i h1
        have : Lib.index l w = -1 := by simpa using h1
        omega
      · rename_i h1
        have : Lib.index l w ≠ -1 := by simpa using h1
        constructor
        · intro h2
          have := Lib.index_ge l w
          omega
        · intro h2; omega
theorem contains_has (l w : List UInt8) : Lib.contains l w = hasS w l := by
  unfold Lib.contains
  rw [Bool.eq_iff_iff, decide_eq_true_eq, index_has]
theorem trim_same (l : List UInt8) : decide (l = Lib.trimLeftS l [32, 9, 10]) = decide (l.head? ≠ some 32 ∧ l.head? ≠ some 9 ∧ l.head? ≠ some 10) := by
  unfold Lib.trimLeftS
  rw [decide_eq_decide]
  cases l with
  | nil => simp
  | cons b l =>
    rw [List.dropWhile_cons]
    simp only [List.head?_cons, ne_eq, Option.some.injEq]
    constructor
    · intro h
      split at h
      · have h1 := congrArg List.length h
        have h2 := (List.dropWhile_suffix (l := l) (fun x => [32, 9, 10].contains x)).length_le
        simp only [List.length_cons] at h1
        omega
      · rename_i hc
        simp at hc
        exact ⟨hc.1, hc.2.1, hc.2.2⟩
    · intro h
      rw [if_neg (by simp; exact h)]
theorem low_case : ∀ (a : Fin 256), a.val < 128 → ∀ x ∈ [(120 : UInt8), 109, 108],
    (((UInt8.ofNat a.val) = x) ∨ ((if x.toNat < a.val then x.toNat else a.val) ≥ 65 ∧ (if x.toNat < a.val then x.toNat else a.val) ≤ 90 ∧ (if x.toNat < a.val then a.val else x.toNat) = (if x.toNat < a.val then x.toNat else a.val) + 32)) ↔ low3 (UInt8.ofNat a.val) = x := by decide +kernel
theorem or_big : ∀ (a : Fin 256), ∀ x ∈ [(120 : Int), 109, 108], bOr .u8 ((a.val : Nat) : Int) x ≥ 128 ↔ 128 ≤ a.val := by decide +kernel
theorem low3_big {a : UInt8} (h : 128 ≤ a.toNat) : low3 a = a := by unfold low3; rw [if_neg (by omega)]
end Go.Vc
namespace Go.Proofs.YtkgfbphdmnapdaaGreatDoor
open Go Go.Vc Go.Lib
/-- What the library's tables are asked for. -/
def FoldTab (w : World) : Prop := ∀ p ∈ [(120, (88 : Int)), (88, 120), (109, 77), (77, 109), (108, 76), (76, 108)], w.cell? ⟨2, p.1, none⟩ = some (.int .u16 p.2)
structure TT (w : World) : Prop where
  tabs : Tabs w
  fold : FoldTab w
  maxl : ∃ m : Int, w.cell? ⟨5, 0, none⟩ = some (.int .i64 m)
theorem TT.chg {w w' : World} (h : TT w) (hc : Chg No w w') : TT w' :=
  ⟨h.tabs.chg hc, fun p hp => hc.cell (h.fold p hp) (fun f => f), by obtain ⟨m, hm⟩ := h.maxl; exact ⟨m, hc.cell hm (fun f => f)⟩⟩
section
variable {w : World}
theorem Contains_ok {s t : ByteArray} {J : Bool → World → Prop} (T : TT w) (hs : s.size ≤ 100000000) (K : J (hasS (bl t) (bl s)) w) : callJ Tryz.prog fn_strings_Contains #[.string s, .string t] w [.one .bool] J := by
  obtain ⟨m, hm⟩ := T.maxl
  refine Calls.mono (Any.strings_Contains Tryz.lays144 s t m w (by omega) hm) fun e w' he => ?_
  obtain ⟨rfl, rfl⟩ := he
  rw [contains_has]
  exact ⟨_, rfl, K⟩
theorem HasSuffix_ok {s : ByteArray} {b : UInt8} {J : Bool → World → Prop} (hs : s.size ≤ 100000000) (K : J (decide ((bl s).getLast? = some b)) w) : callJ Tryz.prog fn_strings_HasSuffix #[.string s, .string ⟨#[b]⟩] w [.one .bool] J := by
  refine c_strings_HasSuffix ?_
  unfold VC_strings_HasSuffix
  refine c_internal_stringslite_HasSuffix ?_
  unfold VC_internal_stringslite_HasSuffix
  have hsl := bl_len s
  simp only [withJ]
  refine condB_d (fun h1 => ?_) (fun h1 => ?_)
  · have e1 : (⟨#[b]⟩ : ByteArray).size = 1 := rfl
    rw [e1] at h1 ⊢
    have e2 : w64 ((s.size : Int) - ((1 : Nat) : Int)) = ((s.size - 1 : Nat) : Int) := by rw [w64_of] <;> omega
    rw [e2]
    refine slStr_drop (by omega) fun t ht _ => ?_
    rw [beqS]
    have : decide (t = (⟨#[b]⟩ : ByteArray)) = decide ((bl s).getLast? = some b) := by
      rw [decide_eq_decide]
      have hne : bl s ≠ [] := by intro e; rw [e] at hsl; simp at hsl; omega
      have hd : (bl s).drop (s.size - 1) = [(bl s).getLast hne] := by
        have hdl : (bl s).dropLast ++ [(bl s).getLast hne] = bl s := List.dropLast_concat_getLast hne
        conv => lhs; rw [← hdl]
        exact List.drop_left' (by rw [List.length_dropLast, hsl])
      rw [List.getLast?_eq_some_getLast hne, Option.some.injEq]
      constructor
      · intro h
        rw [h, hd] at ht
        have : [b] = [(bl s).getLast hne] := ht
        simpa using this.symm
      · intro h
        apply bl_ext
        rw [ht, hd, h]
    rw [this]; exact K
  · have h0 : bl s = [] := List.eq_nil_of_length_eq_zero (by have : (⟨#[b]⟩ : ByteArray).size = 1 := rfl; omega)
    rw [h0] at K
    simpa using K
theorem TrimLeft_ok {s : ByteArray} {J : ByteArray → World → Prop} (K : ∀ w', Chg No w w' → J (mkB (Lib.trimLeftS (bl s) [32, 9, 10])) w') : callJ Tryz.prog fn_strings_TrimLeft #[.string s, .string ⟨#[32, 9, 10]⟩] w [.one .str] J := by
  refine Calls.mono (Any.strings_TrimLeft_laid Tryz.lays161 (by kernel_rfl) s ⟨#[32, 9, 10]⟩ w (by decide) (fun j b hb => ?_)) fun e w' he => ?_
  · match j with
    | 0 | 1 | 2 => simp at hb; subst hb; decide
    | j + 3 => simp at hb
  · obtain ⟨rfl, hb⟩ := he
    exact ⟨_, rfl, K w' (Chg.of_below hb)⟩
end
end Go.Proofs.YtkgfbphdmnapdaaGreatDoor

/-
  strings.EqualFold of a text and "xml"; names, chars and order of a node.
-/

set_option linter.unusedVariables false
set_option linter.unusedSimpArgs false
namespace Go.Vc
open Go Go.Lib
def xmlB : List UInt8 := [120, 109, 108]
theorem xml_mem {i : Nat} {x : UInt8} (h : xmlB[i]? = some x) : x ∈ [(120 : UInt8), 109, 108] := List.mem_of_getElem? h
theorem isXml_take {l : List UInt8} {i : Nat} {a x : UInt8} (ha : l[i]? = some a) (hx : xmlB[i]? = some x) (hne : low3 a ≠ x) : isXml l = false := by
  unfold isXml
  rw [decide_eq_false_iff_not]
  intro h
  have : (l.map low3)[i]? = some (low3 a) := by rw [List.getElem?_map, ha]; rfl
  rw [h] at this
  have h2 : ([120, 109, 108] : List UInt8)[i]? = some x := hx
  rw [h2] at this
  exact hne (Option.some.inj this).symm
theorem take_get {α : Type} {l : List α} {k : Nat} {c : α} (h : l[k]? = some c) : l.take (k + 1) = l.take k ++ [c] := by
  obtain ⟨h1, h2⟩ := List.getElem?_eq_some_iff.1 h
  rw [List.take_succ_eq_append_getElem h1, h2]
theorem dec_big {l : List UInt8} {a : UInt8} (h : l[0]? = some a) (ha : 128 ≤ a.toNat) : 128 ≤ (dec l).1 := by
  have hg := gB_of h
  rw [dec_rd]
  split
  · decide
  · rename_i h0
    rcases rd_facts l with ⟨q, _⟩ | ⟨q, q2⟩ | q | q | q
    · exact absurd q h0
    · omega
    · exact q.2.2.2.2.2.1
    · omega
    · omega
theorem small_case : ∀ x ∈ [(120 : UInt8), 109, 108], x.toNat < 128 ∧ 91 ≤ x.toNat := by decide
end Go.Vc
namespace Go.Proofs.YtkgfbphdmnapdaaGreatDoor
open Go Go.Vc Go.Lib
section
variable {w : World}
theorem Fold_ok {r : Nat} {v : Int} {J : Int → World → Prop} (hr : r < 128) (hc : w.cell? ⟨2, r, none⟩ = some (.int .u16 v)) (hv : 0 ≤ v ∧ v < 128) (K : J v w) : callJ Tryz.prog fn_unicode_SimpleFold #[.int .i32 (r : Int)] w [.one (.int .i32)] J := by
  refine c_unicode_SimpleFold ?_
  unfold VC_unicode_SimpleFold
  generalize hQ : (1114111 : Int) = Q
  refine withJ_i fun J13 hJ13 => ?_
  have k : ∀ b, b = false → J13 b w := by
    intro b hb; subst hJ13; subst hb
    have e64 : w64 (r : Int) = (r : Int) := w64_of (by omega) (by omega)
    have e128 : decide ((r : Int) < 128) = true := decide_eq_true (by omega)
    simp only [e64, e128, condB]
    refine ⟨by omega, by omega, ?_⟩
    simp only [nonNil, Addr.add_mk, Int.toNat_natCast, Nat.mul_one, Nat.zero_add]
    refine ldI_i hc ?_
    rw [wrap_i32 _ (by omega) (by omega)]
    exact K
  clear hJ13
  refine condB_d (fun h => by omega) (fun _ => ?_)
  exact k _ (decide_eq_false (by omega))
set_option maxRecDepth 100000 in
theorem EqFold_ok {s : ByteArray} {J : Bool → World → Prop} (F : FoldTab w) (hs : s.size ≤ 140737488355328) (K : ∀ w', Chg No w w' → J (isXml (bl s)) w') : callJ Tryz.prog fn_strings_EqualFold #[.string s, .string ⟨#[120, 109, 108]⟩] w [.one .bool] J := by
  refine c_strings_EqualFold ?_
  unfold VC_strings_EqualFold
  have hsl := bl_len s
  have ht3 : (⟨#[120, 109, 108]⟩ : ByteArray).size = 3 := rfl
  have htb : bl ⟨#[120, 109, 108]⟩ = xmlB := rfl
  rw [ht3]
  refine ⟨fun i w' t => ∃ k : Nat, i = k ∧ k ≤ s.size ∧ k ≤ 3 ∧ t = 3 - k ∧ w' = w ∧ ((bl s).take k).map low3 = xmlB.take k, ⟨_, 0, rfl, Nat.zero_le _, Nat.zero_le _, rfl, rfl, rfl⟩, ?_⟩
  rintro i w1 t ⟨k, rfl, hk, hk3, rfl, rfl, hpre⟩
  refine condB_d (fun hlt => ?_) (fun hge => ?_)
  · have hks : k < s.size := by split at hlt <;> omega
    have hk3' : k < 3 := by split at hlt <;> omega
    have ha := List.getElem?_eq_getElem (l := bl s) (i := k) (by omega)
    generalize (bl s)[k]'(by omega) = a at ha
    have hx := List.getElem?_eq_getElem (l := xmlB) (i := k) (by show k < 3; exact hk3')
    generalize xmlB[k]'(by show k < 3; exact hk3') = x at hx
    have hxm := xml_mem hx
    have hxs := small_case x hxm
    have hal := a.toNat_lt
    refine withJ_i fun J0 hJ0 => ?_
    have k0 : low3 a = x → J0 w1 := by
      intro he; subst hJ0
      refine ⟨_, by omega, k + 1, by rw [w64_of] <;> omega, by omega, by omega, rfl, rfl, ?_⟩
      rw [take_get ha, take_get hx, List.map_append, hpre, List.map_cons, he]; rfl
    clear hJ0
    refine idxStr_b (by omega) (by omega) fun a2 ha2 => ?_
    rw [Int.toNat_natCast, ha] at ha2
    obtain rfl := Option.some.inj ha2
    refine idxStr_b (by omega) (by rw [ht3]; omega) fun x2 hx2 => ?_
    rw [Int.toNat_natCast, htb, hx] at hx2
    obtain rfl := Option.some.inj hx2
    have hor : bOr .u8 ((a.toNat : Nat) : Int) ((x.toNat : Nat) : Int) ≥ 128 ↔ 128 ≤ a.toNat := or_big ⟨a.toNat, hal⟩ ((x.toNat : Nat) : Int) (by
      have : ∀ x ∈ [(120 : UInt8), 109, 108], ((x.toNat : Nat) : Int) ∈ [(120 : Int), 109, 108] := by decide
      exact this x hxm)
    have hof : UInt8.ofNat a.toNat = a := by simp
    refine condB_d (fun hbig => ?_) (fun hsmall => ?_)
    · have h128 := hor.1 hbig
      have hfalse : isXml (bl s) = false := isXml_take ha hx (by
        rw [low3_big h128]; intro e; subst e; omega)
      rw [hfalse] at K
      refine slStr_drop (by omega) fun s62 h62 hz62 => ?_
      refine slStr_drop (by rw [ht3]; omega) fun s65 h65 hz65 => ?_
      refine newB_i fun b67 w3 hb67 hw3 => ?_
      have hc3 : Chg No w1 w3 := by rw [hw3]; exact chg_alloc _ _
      have hh3 : w3.heap[b67]? = some (.stringIter s62 0) := by rw [hb67, hw3]; exact heap_alloc_new w1 _
      refine ⟨fun t w' m => t = s65 ∧ w' = w3, ⟨0, rfl, rfl⟩, ?_⟩
      rintro t1 w4 m1 ⟨rfl, rfl⟩
      refine ⟨s62, 0, hh3, fun hlt2 => ?_, fun hge2 => by omega⟩
      generalize hw5 : setBlk w4 b67 _ = w5
      have hc5 : Chg No w1 w5 := by rw [← hw5]; exact hc3.setBlk _ _ (fun h => by rw [hb67] at h; omega)
      have hdec : (Utf8.decode s62 0).1 = ((dec (bl s62)).1 : Int) ∧ 128 ≤ (dec (bl s62)).1 := by
        refine ⟨by rw [decode_dec, List.drop_zero], dec_big (a := a) ?_ h128⟩
        rw [h62, List.getElem?_drop]; exact ha
      rw [hdec.1]
      generalize hch : (dec (bl s62)).1 = ch at hdec ⊢
      have hch2 := hdec.2
      have hz : t1.size = 3 - k := by rw [hz65, ht3]
      refine condB_eq (fun h => by omega) (fun _ => ?_)
      have ht0 : (bl t1)[0]? = some x := by
        rw [h65, List.getElem?_drop, htb, Nat.add_zero]; exact hx
      refine c_unicode_utf8_DecodeRuneInString ?_
      unfold VC_unicode_utf8_DecodeRuneInString
      refine withJ_i fun J10 hJ10 => ?_
      have k10 : J10 true w5 := by
        subst hJ10
        refine condB_i (fun _ => ?_) (fun h => by cases h)
        refine idxStr_b (by decide) (by omega) fun y hy => ?_
        rw [show (0 : Int).toNat = 0 from rfl, ht0] at hy
        obtain rfl := Option.some.inj hy
        rw [wrap_i32 _ (by omega) (by omega)]
        refine slStr_drop (i := 1) (by omega) fun s81 h81 hz81 => ?_
        refine condB_eq (fun h => by omega) (fun _ => ?_)
        refine withJ_i fun J10 hJ10 => ?_
        have kk : J10 ((x.toNat : Nat) : Int) (ch : Int) w5 := by
          subst hJ10
          refine condB_d (fun h => by omega) (fun _ => ?_)
          have hF : ∃ y : Nat, y < 128 ∧ y ≠ x.toNat ∧ w5.cell? ⟨2, x.toNat, none⟩ = some (.int .u16 (y : Int)) ∧ w5.cell? ⟨2, y, none⟩ = some (.int .u16 (x.toNat : Int)) := by
            have g : ∀ p ∈ [(120, (88 : Int)), (88, 120), (109, 77), (77, 109), (108, 76), (76, 108)], w5.cell? ⟨2, p.1, none⟩ = some (.int .u16 p.2) := fun p hp => hc5.cell (F p hp) (fun f => f)
            simp only [List.mem_cons, List.not_mem_nil, or_false] at hxm
            rcases hxm with rfl | rfl | rfl
            · exact ⟨88, by decide, by decide, g (120, 88) (by simp), g (88, 120) (by simp)⟩
            · exact ⟨77, by decide, by decide, g (109, 77) (by simp), g (77, 109) (by simp)⟩
            · exact ⟨76, by decide, by decide, g (108, 76) (by simp), g (76, 108) (by simp)⟩
          obtain ⟨y, hy1, hy2, hy3, hy4⟩ := hF
          refine Fold_ok (r := x.toNat) hxs.1 hy3 (by omega) ?_
          refine ⟨fun r w' m => w' = w5 ∧ ((r = (y : Int) ∧ m = 1) ∨ (r = (x.toNat : Int) ∧ m = 0)), ⟨1, rfl, .inl ⟨rfl, rfl⟩⟩, ?_⟩
          rintro r w6 m2 ⟨rfl, hr⟩
          refine withJ_i fun J114 hJ114 => ?_
          rcases hr with ⟨rfl, rfl⟩ | ⟨rfl, rfl⟩
          · have : J114 true w6 := by
              subst hJ114
              refine condB_i (fun _ => ?_) (fun h => by cases h)
              exact Fold_ok (r := y) hy1 hy4 (by omega) ⟨0, by decide, rfl, .inr ⟨rfl, rfl⟩⟩
            clear hJ114
            refine condB_ne (fun _ => ?_) (fun h => by omega)
            rw [decide_eq_true (by omega)]; exact this
          · have : J114 false w6 := by
              subst hJ114
              refine condB_i (fun h => by cases h) (fun _ => ?_)
              refine condB_eq (fun h => by omega) (fun _ => ?_)
              exact K w6 hc5
            clear hJ114
            exact condB_ne (fun h => absurd rfl h) (fun _ => this)
        clear hJ10
        exact condB_d (fun _ => kk) (fun h => by omega)
      clear hJ10
      rw [beqS]
      have hne : ¬ t1 = ⟨#[]⟩ := by
        intro e
        have : t1.size = 0 := by rw [e]; rfl
        omega
      rw [decide_eq_false hne]
      refine condB_i (fun _ => ?_) (fun h => by cases h)
      refine idxStr_b (by decide) (by omega) fun y hy => ?_
      rw [show (0 : Int).toNat = 0 from rfl, ht0] at hy
      obtain rfl := Option.some.inj hy
      rw [decide_eq_true (by omega)]
      exact k10
    · have h128 : a.toNat < 128 := by
        rcases Nat.lt_or_ge a.toNat 128 with h | h
        · exact h
        · exact absurd (hor.2 h) hsmall
      have hcase := low_case ⟨a.toNat, hal⟩ h128 x hxm
      simp only [hof] at hcase
      have kbad : low3 a ≠ x → J false w1 := fun hne => by
        have := isXml_take ha hx hne
        rw [this] at K; exact K w1 (Chg.refl _ _)
      refine condB_eq (fun he => ?_) (fun hne => ?_)
      · have : a = x := UInt8.toNat_inj.1 (by omega)
        exact k0 (hcase.1 (.inl this))
      · have hne' : a ≠ x := fun e => hne (by rw [e])
        refine withJ_i fun J7 hJ7 => ?_
        have k7 : ∀ sr tr : Nat, sr < 128 → tr < 128 → ((sr ≥ 65 ∧ sr ≤ 90 ∧ tr = sr + 32) ↔ low3 a = x) → J7 (sr : Int) (tr : Int) w1 := by
          intro sr tr h1 h2 hiff; subst hJ7
          have e : IntKind.u8.wrap ((IntKind.u8.wrap ((sr : Int) + 97)) - 65) = ((sr + 32 : Nat) : Int) := by
            have e1 : IntKind.u8.wrap ((sr : Int) + 97) = ((sr + 97 : Nat) : Int) := by simp [IntKind.wrap, IntKind.bits, IntKind.signed] <;> omega
            rw [e1]; simp [IntKind.wrap, IntKind.bits, IntKind.signed] <;> omega
          refine withJ_i fun J54 hJ54 => ?_
          have k54 : ∀ b : Bool, (b = true ↔ low3 a = x) → J54 b w1 := by
            intro b hb; subst hJ54
            exact meetI hb (fun h => k0 h) (fun h => kbad h)
          clear hJ54
          refine condB_d (fun g1 => ?_) (fun g1 => k54 _ (bF (by rw [← hiff]; omega)))
          refine condB_d (fun g2 => ?_) (fun g2 => k54 _ (bF (by rw [← hiff]; omega)))
          rw [e]
          exact k54 _ (bQ (by rw [← hiff]; omega))
        clear hJ7
        refine condB_d (fun h => ?_) (fun h => ?_)
        · refine k7 _ _ hxs.1 h128 ?_
          rw [← hcase, if_pos (by omega), if_pos (by omega)]
          exact ⟨fun h => .inr h, fun h => h.resolve_left hne'⟩
        · refine k7 _ _ h128 hxs.1 ?_
          rw [← hcase, if_neg (by omega), if_neg (by omega)]
          exact ⟨fun h => .inr h, fun h => h.resolve_left hne'⟩
  · have := K w1 (Chg.refl _ _)
    have hx : isXml (bl s) = ((s.size : Int) == ((3 : Nat) : Int)) := by
      unfold isXml
      by_cases h3 : s.size = 3
      · have hk : k = 3 := by rw [h3] at hge; simp at hge; omega
        subst hk
        rw [List.take_of_length_le (by omega), List.take_of_length_le (by decide)] at hpre
        rw [decide_eq_true (show (bl s).map low3 = [120, 109, 108] from hpre), h3]; rfl
      · rw [decide_eq_false (fun h => h3 (by have := congrArg List.length h; rw [List.length_map, hsl] at this; exact this)), beq_eq_false_iff_ne.2 (by omega)]
    rw [hx] at this
    exact this
end
end Go.Proofs.YtkgfbphdmnapdaaGreatDoor

/-
  What Check asks of each node: sizes, names, chars, order, texts.
-/

set_option linter.unusedVariables false
set_option linter.unusedSimpArgs false
namespace Go.Vc
open Go Go.Lib
theorem decAny {α : Type} {l : List α} {q : α → Bool} {r : Int} (hr : 0 ≤ r ↔ l.any q = true) : decide (r ≥ 0) = l.any q := by
  rw [Bool.eq_iff_iff, decide_eq_true_eq]; exact hr
theorem not_all {α : Type} (l : List α) (q : α → Bool) : (l.any fun x => !q x) = !l.all q := by
  rw [List.not_all_eq_any_not]
end Go.Vc
namespace Go.Proofs.YtkgfbphdmnapdaaGreatDoor
open Go Go.Vc Go.Lib
section
variable {w : World}
theorem AnyAttr_great {p : Option Addr} {l c : Nat} {L : List At} {J : Bool → World → Prop} (h : Sl w p l 3 (rows atc L)) (hm : l ≤ 100000000) (K : ∀ w', Chg No w w' → J (L.any fun a => decide (8192 < a.2.2.size)) w') :
    callJ Tryz.prog fn_slices_ContainsFunc_sl_api_Attr_api_Attr #[.slice p l c, .func (.func 54) #[] #[]] w [.one .bool] J := by
  refine c_slices_ContainsFunc_sl_api_Attr_api_Attr_f1_54 ?_
  unfold VC_slices_ContainsFunc_sl_api_Attr_api_Attr_f1_54
  refine c_slices_IndexFunc_sl_api_Attr_api_Attr_f1_54 ?_
  show IdxAttr (fun cs w' K => callJ Tryz.prog fn_tree_great_1 #[.agg ⟨cs⟩] w' [.one .bool] K) p l w _
  refine IdxAttr_ok (q := fun a => decide (8192 < a.2.2.size)) h hm (fun x hx w' K' hc k => ?_) fun r w' hc hr => by rw [decAny hr]; exact K w' hc
  refine c_tree_great_1 ?_
  unfold VC_tree_great_1
  refine nodeBox (Hp.start w' No) fun b w1 H1 hb hc1 => ?_
  refine H1.ldStr 0 rfl (off := 2) rfl ?_
  rw [show decide ((x.2.2.size : Int) > 8192) = decide (8192 < x.2.2.size) from decide_eq_decide.2 (by omega)]
  exact k w1 (hc.trans0 hc1)
theorem Great_ok {x : NV} {J : Bool → World → Prop} (hx : x.Ok w) (hm : x.mea ≤ 100000000) (K : ∀ w', Chg No w w' → J (greatN x.nd) w') : callJ Tryz.prog fn_tree_great #[.agg ⟨x.cells⟩] w [.one .bool] J := by
  cases hx with
  | @mk k u l t ap al ac ats kp kl kc ks ha hn hac hk hkn hkc hks =>
    have hal := ha.row (even_att ats) (by decide)
    have hmm : al ≤ 100000000 := by
      have := len_atSum ats
      simp only [NV.mea] at hm; omega
    have hg : greatN (NV.mk k u l t ap al ac ats kp kl kc ks).nd = (decide (64 < ats.length) || decide (8192 < t.size) || ats.any (fun a => decide (8192 < a.2.2.size))) := rfl
    rw [hg] at K
    refine c_tree_great ?_
    unfold VC_tree_great
    refine nodeBox (Hp.start w No) fun b w1 H1 hb hc1 => ?_
    simp only [withJ]
    refine H1.ldS 0 rfl (off := 3) rfl ?_
    refine condB_d (fun h1 => ?_) (fun h1 => ?_)
    · rw [decide_eq_true (show 64 < ats.length by omega)] at K; exact K w1 hc1
    rw [decide_eq_false (show ¬ 64 < ats.length by omega)] at K
    refine H1.ldStr 0 rfl (off := 5) rfl ?_
    refine condB_d (fun h2 => ?_) (fun h2 => ?_)
    · rw [decide_eq_true (show 8192 < t.size by omega)] at K; exact K w1 hc1
    rw [decide_eq_false (show ¬ 8192 < t.size by omega)] at K
    refine H1.ldS 0 rfl (off := 3) rfl ?_
    exact AnyAttr_great (ha.chg hc1 (off_no _)) hmm fun w2 hc2 => K w2 (hc1.trans0 hc2)
theorem cvBe {s : ByteArray} {K : Option Addr → Nat → Nat → World → Prop} (k : ∀ b c w', Bytes w' (some ⟨b, 0, none⟩) s.size (bl s) → s.size ≤ c → Chg No w w' → K (some ⟨b, 0, none⟩) s.size c w') :
    cvJ Tryz.prog T_string T_sl_uint8 (.string s) w K := by
  refine ⟨_, _, _, _, Lib.run_convert_string_bytes (P := Tryz.prog) w T_string T_sl_uint8 T_uint8 s (u := .string) (by kernel_rfl) (by kernel_rfl) (by kernel_rfl), k _ _ _ ⟨by rw [bcells_length, bl_len, Nat.mul_one], .inr ⟨_, rfl, ?_⟩⟩ (grownCap_ge _ _ _ _) ?_⟩
  · intro j v hv
    unfold bcells at hv
    rw [List.getElem?_map, Option.map_eq_some_iff] at hv
    obtain ⟨b, hb, rfl⟩ := hv
    have hj : j < s.size := by rw [← bl_len]; exact (List.getElem?_eq_some_iff.1 hb).1
    have := Lib.bytesWorld_cell w T_uint8 s j hj
    rw [Addr.add_mk, Nat.zero_add, this, List.getD_eq_getElem?_getD, hb]; rfl
  · exact ⟨rfl, rfl, rfl, by rw [Lib.bytesWorld_size]; omega, fun b hb _ => Lib.bytesWorld_at_old w T_uint8 s b hb⟩
theorem Bad_ok {s : ByteArray} {J : Bool → World → Prop} (T : Tabs w) (hs : s.size ≤ 100000000) (K : ∀ w', Chg No w w' → J (!fineB s) w') : callJ Tryz.prog fn_tree_bad #[.string s] w [.one .bool] J := by
  refine c_tree_bad ?_
  unfold VC_tree_bad
  refine cvBe fun b c w1 hB hle hc1 => ?_
  refine FaultC_ok hB hle (by omega) (T.chg hc1) fun w2 hc2 => ?_
  have e : ((((flt 0 (bl s)).2 : Nat) : Int) != 0) = !fineB s := by
    unfold fineB
    by_cases h : (flt 0 (bl s)).2 = 0
    · rw [h]; rfl
    · rw [decide_eq_false h, bne_iff_ne.2 (by omega)]; rfl
  rw [e]
  exact K w2 (hc1.trans0 hc2)
theorem WrongName_ok {n : Pr} {J : Bool → World → Prop} (T : Tabs w) (h1 : n.1.size ≤ 100000000) (h2 : n.2.size ≤ 100000000) (K : ∀ w', Chg No w w' → J (!calledN n) w') : callJ Tryz.prog fn_tree_wrongName #[.agg ⟨pr n⟩] w [.one .bool] J := by
  refine c_tree_wrongName ?_
  unfold VC_tree_wrongName
  refine nodeBox (Hp.start w No) fun b w1 H1 hb hc1 => ?_
  simp only [withJ]
  refine H1.ldStr 0 rfl (off := 1) rfl ?_
  refine NameC_ok (T.chg hc1) fun w2 hc2 => ?_
  have c02 := hc1.trans0 hc2
  unfold calledN at K
  refine condB_not (fun hn => ?_) (fun hn => ?_)
  · rw [hn] at K; exact K w2 c02
  rw [hn, Bool.true_and] at K
  have H2 := H1.step0 hc2
  refine H2.ldStr 0 rfl (off := 0) rfl ?_
  refine condB_d (fun h => ?_) (fun h => ?_)
  · rw [decide_eq_false (show ¬ n.1.size ≤ 100 by omega)] at K; exact K w2 c02
  rw [decide_eq_true (show n.1.size ≤ 100 by omega), Bool.true_and] at K
  refine H2.ldStr 0 rfl (off := 0) rfl ?_
  refine Bad_ok (T.chg c02) h1 fun w3 hc3 => ?_
  have c03 := c02.trans0 hc3
  refine condB_not (fun hf => ?_) (fun hf => ?_)
  · rw [hf] at K; exact K w3 c03
  rw [hf, Bool.true_and] at K
  refine (H2.step0 hc3).ldStr 0 rfl (off := 0) rfl ?_
  rw [beqS]
  have := K w3 c03
  rw [show (!decide (n.1 ≠ kXMLNS)) = decide (n.1 = kXMLNS) from by by_cases h : n.1 = kXMLNS <;> simp [h]] at this
  exact this
theorem AnyAttr_mis {p : Option Addr} {l c : Nat} {L : List At} {J : Bool → World → Prop} (T : Tabs w) (h : Sl w p l 3 (rows atc L)) (hm : l ≤ 100000000) (hz : ∀ a ∈ L, atSize a ≤ 100000000) (K : ∀ w', Chg No w w' → J (!L.all attrN) w') :
    callJ Tryz.prog fn_slices_ContainsFunc_sl_api_Attr_api_Attr #[.slice p l c, .func (.func 56) #[] #[]] w [.one .bool] J := by
  refine c_slices_ContainsFunc_sl_api_Attr_api_Attr_f1_56 ?_
  unfold VC_slices_ContainsFunc_sl_api_Attr_api_Attr_f1_56
  refine c_slices_IndexFunc_sl_api_Attr_api_Attr_f1_56 ?_
  show IdxAttr (fun cs w' K => callJ Tryz.prog fn_tree_misnamed_1 #[.agg ⟨cs⟩] w' [.one .bool] K) p l w _
  rw [← not_all] at K
  refine IdxAttr_ok (q := fun a => !attrN a) h hm (fun x hx w' K' hc k => ?_) fun r w' hc hr => by rw [decAny hr]; exact K w' hc
  have hzx := hz x hx
  unfold atSize at hzx
  refine c_tree_misnamed_1 ?_
  unfold VC_tree_misnamed_1
  refine nodeBox (Hp.start w' No) fun b w1 H1 hb hc1 => ?_
  simp only [withJ]
  refine H1.ldStr 0 rfl (off := 0) rfl ?_
  refine H1.ldStr 0 rfl (off := 1) rfl ?_
  refine WrongName_ok (n := (x.1, x.2.1)) ((T.chg hc).chg hc1) (by simp only; omega) (by simp only; omega) fun w2 hc2 => ?_
  have c2 := (hc.trans0 hc1).trans0 hc2
  unfold attrN nameOf at k
  refine condB_not (fun hf => ?_) (fun hf => ?_)
  · rw [hf] at k; exact k w2 c2
  rw [hf, Bool.true_and] at k
  have H2 := H1.step0 hc2
  refine H2.ldStr 0 rfl (off := 0) rfl ?_
  refine H2.ldStr 0 rfl (off := 1) rfl ?_
  have := k w2 c2
  rw [Bool.not_not] at this
  simp only [beqS, Bool.and_true]
  rw [show (decide (x.1 = ByteArray.empty) && decide (x.2.1 = ⟨#[120, 109, 108, 110, 115]⟩)) = decide (x.1 = emptyB ∧ x.2.1 = kXn) from (Bool.decide_and _ _).symm]
  exact this
theorem Misnamed_ok {x : NV} {J : Bool → World → Prop} (T : TT w) (hx : x.Ok w) (hm : x.mea ≤ 100000000) (K : ∀ w', Chg No w w' → J (!nameP x.nd) w') : callJ Tryz.prog fn_tree_misnamed #[.agg ⟨x.cells⟩] w [.one .bool] J := by
  cases hx with
  | @mk k u l t ap al ac ats kp kl kc ks ha hn hac hk hkn hkc hks =>
    have hal := ha.row (even_att ats) (by decide)
    have hmm : al ≤ 100000000 := by
      have := len_atSum ats
      simp only [NV.mea] at hm; omega
    have hz : ∀ a ∈ ats, atSize a ≤ 100000000 := fun a h => by
      have := mem_sum atSize h
      simp only [NV.mea] at hm; omega
    have hu : u.size ≤ 100000000 ∧ l.size ≤ 100000000 := by simp only [NV.mea] at hm; omega
    have hg : nameP (NV.mk k u l t ap al ac ats kp kl kc ks).nd = (if k = 2 then calledN (u, l) && ats.all attrN else if k = 5 then nm (bl l) && !isXml (bl l) else true) := rfl
    rw [hg] at K
    refine c_tree_misnamed ?_
    unfold VC_tree_misnamed
    refine nodeBox (Hp.start w No) fun b w1 H1 hb hc1 => ?_
    refine H1.ldI 0 rfl (off := 0) rfl ?_
    refine condB_eq (fun e2 => ?_) (fun e2 => ?_)
    · rw [if_pos e2] at K
      simp only [withJ]
      refine H1.ldStr 0 rfl (off := 1) rfl ?_
      refine H1.ldStr 0 rfl (off := 2) rfl ?_
      refine WrongName_ok (n := (u, l)) (T.tabs.chg hc1) hu.1 hu.2 fun w2 hc2 => ?_
      have c2 := hc1.trans0 hc2
      refine condB_not (fun hf => ?_) (fun hf => ?_)
      · rw [hf] at K; exact K w2 c2
      rw [hf, Bool.true_and] at K
      refine (H1.step0 hc2).ldS 0 rfl (off := 3) rfl ?_
      exact AnyAttr_mis (T.tabs.chg c2) (ha.chg c2 (off_no _)) hmm hz fun w3 hc3 => K w3 (c2.trans0 hc3)
    · rw [if_neg e2] at K
      refine condB_eq (fun e5 => ?_) (fun e5 => ?_)
      · rw [if_pos e5] at K
        simp only [withJ]
        refine H1.ldStr 0 rfl (off := 2) rfl ?_
        refine NameC_ok (T.tabs.chg hc1) fun w2 hc2 => ?_
        have c2 := hc1.trans0 hc2
        refine condB_not (fun hf => ?_) (fun hf => ?_)
        · rw [hf] at K; exact K w2 c2
        rw [hf, Bool.true_and, Bool.not_not] at K
        refine (H1.step0 hc2).ldStr 0 rfl (off := 2) rfl ?_
        exact EqFold_ok (T.chg c2).fold (by omega) fun w3 hc3 => K w3 (c2.trans0 hc3)
      · rw [if_neg e5] at K; exact K w1 hc1
theorem AnyAttr_spo {p : Option Addr} {l c : Nat} {L : List At} {J : Bool → World → Prop} (T : Tabs w) (h : Sl w p l 3 (rows atc L)) (hm : l ≤ 100000000) (hz : ∀ a ∈ L, atSize a ≤ 100000000) (K : ∀ w', Chg No w w' → J (!L.all fun a => fineB a.2.2) w') :
    callJ Tryz.prog fn_slices_ContainsFunc_sl_api_Attr_api_Attr #[.slice p l c, .func (.func 61) #[] #[]] w [.one .bool] J := by
  refine c_slices_ContainsFunc_sl_api_Attr_api_Attr_f1_61 ?_
  unfold VC_slices_ContainsFunc_sl_api_Attr_api_Attr_f1_61
  refine c_slices_IndexFunc_sl_api_Attr_api_Attr_f1_61 ?_
  show IdxAttr (fun cs w' K => callJ Tryz.prog fn_tree_spoilt_1 #[.agg ⟨cs⟩] w' [.one .bool] K) p l w _
  rw [← not_all] at K
  refine IdxAttr_ok (q := fun a => !fineB a.2.2) h hm (fun x hx w' K' hc k => ?_) fun r w' hc hr => by rw [decAny hr]; exact K w' hc
  have hzx := hz x hx
  unfold atSize at hzx
  refine c_tree_spoilt_1 ?_
  unfold VC_tree_spoilt_1
  refine nodeBox (Hp.start w' No) fun b w1 H1 hb hc1 => ?_
  refine H1.ldStr 0 rfl (off := 2) rfl ?_
  exact Bad_ok ((T.chg hc).chg hc1) (by omega) fun w2 hc2 => k w2 ((hc.trans0 hc1).trans0 hc2)
theorem Spoilt_ok {x : NV} {J : Bool → World → Prop} (T : TT w) (hx : x.Ok w) (hm : x.mea ≤ 100000000) (K : ∀ w', Chg No w w' → J (!charsN x.nd) w') : callJ Tryz.prog fn_tree_spoilt #[.agg ⟨x.cells⟩] w [.one .bool] J := by
  cases hx with
  | @mk k u l t ap al ac ats kp kl kc ks ha hn hac hk hkn hkc hks =>
    have hal := ha.row (even_att ats) (by decide)
    have hmm : al ≤ 100000000 := by
      have := len_atSum ats
      simp only [NV.mea] at hm; omega
    have hz : ∀ a ∈ ats, atSize a ≤ 100000000 := fun a h => by
      have := mem_sum atSize h
      simp only [NV.mea] at hm; omega
    have ht : t.size ≤ 100000000 := by simp only [NV.mea] at hm; omega
    have hg : charsN (NV.mk k u l t ap al ac ats kp kl kc ks).nd = (fineB t && ats.all fun a => fineB a.2.2) := rfl
    rw [hg] at K
    refine c_tree_spoilt ?_
    unfold VC_tree_spoilt
    refine nodeBox (Hp.start w No) fun b w1 H1 hb hc1 => ?_
    simp only [withJ]
    refine H1.ldStr 0 rfl (off := 5) rfl ?_
    refine Bad_ok (T.tabs.chg hc1) ht fun w2 hc2 => ?_
    have c2 := hc1.trans0 hc2
    refine condB_not (fun hf => ?_) (fun hf => ?_)
    · rw [hf] at K; exact K w2 c2
    rw [hf, Bool.true_and] at K
    refine (H1.step0 hc2).ldS 0 rfl (off := 3) rfl ?_
    exact AnyAttr_spo (T.tabs.chg c2) (ha.chg c2 (off_no _)) hmm hz fun w3 hc3 => K w3 (c2.trans0 hc3)
end
end Go.Proofs.YtkgfbphdmnapdaaGreatDoor

/-
  Order; the order of attributes; what texts may be; all nodes in a row; Check; Size and Depth.
-/

set_option linter.unusedVariables false
set_option linter.unusedSimpArgs false
namespace Go.Vc
open Go Go.Lib
def cmpS (x y : ByteArray) : Int := if sLt x y = true then -1 else if x = y then 0 else 1
/-- How two names stand. -/
def ordZ (a b : Pr) : Int := if cmpS a.1 b.1 ≠ 0 then cmpS a.1 b.1 else cmpS a.2 b.2
theorem cmpS_cases (x y : ByteArray) : (cmpS x y = -1 ∧ sLt x y = true ∧ x ≠ y ∧ sLt y x = false) ∨ (cmpS x y = 0 ∧ x = y ∧ sLt x y = false) ∨ (cmpS x y = 1 ∧ sLt x y = false ∧ x ≠ y ∧ sLt y x = true) := by
  unfold cmpS
  by_cases h : sLt x y = true
  · left; rw [if_pos h]
    refine ⟨rfl, h, ?_, sLt_asym h⟩
    rintro rfl; rw [sLt_irr] at h; cases h
  · rw [if_neg h]
    by_cases h2 : x = y
    · right; left; rw [if_pos h2]; exact ⟨rfl, h2, by simpa using h⟩
    · right; right; rw [if_neg h2]
      refine ⟨rfl, by simpa using h, h2, ?_⟩
      rcases sLt_tri x y with h3 | h3 | h3
      · exact absurd h3 h
      · exact absurd h3 h2
      · exact h3
theorem ordZ_lt (a b : Pr) : ordZ a b < 0 ↔ nLt a b = true := by
  rw [nLt_iff]
  unfold ordZ
  rcases cmpS_cases a.1 b.1 with ⟨h1, h2, h3, h4⟩ | ⟨h1, h2, h3⟩ | ⟨h1, h2, h3, h4⟩
  · rw [if_pos (by omega), h1]; simp [h2]
  · rw [if_neg (by omega)]
    rcases cmpS_cases a.2 b.2 with ⟨g1, g2, g3, g4⟩ | ⟨g1, g2, g3⟩ | ⟨g1, g2, g3, g4⟩
    · rw [g1]; simp [h2, g2]
    · rw [g1]; simp [h3, g3]
    · rw [g1]; simp [h3, g2]
  · rw [if_pos (by omega), h1]; simp [h2, h3]
theorem ordZ_zero (a b : Pr) : ordZ a b = 0 ↔ a = b := by
  unfold ordZ
  rcases cmpS_cases a.1 b.1 with ⟨h1, h2, h3, h4⟩ | ⟨h1, h2, h3⟩ | ⟨h1, h2, h3, h4⟩
  · rw [if_pos (by omega)]; exact ⟨fun h => by omega, fun h => absurd (by rw [h]) h3⟩
  · rw [if_neg (by omega)]
    rcases cmpS_cases a.2 b.2 with ⟨g1, g2, g3, g4⟩ | ⟨g1, g2, g3⟩ | ⟨g1, g2, g3, g4⟩
    · exact ⟨fun h => by omega, fun h => absurd (by rw [h]) g3⟩
    · exact ⟨fun _ => Prod.ext h2 g2, fun _ => g1⟩
    · exact ⟨fun h => by omega, fun h => absurd (by rw [h]) g3⟩
  · rw [if_pos (by omega)]; exact ⟨fun h => by omega, fun h => absurd (by rw [h]) h3⟩
/-- Which neighbours don't rise. -/
theorem asc_get : ∀ {l : List At}, ascB l = true ↔ ∀ i a b, l[i]? = some a → l[i + 1]? = some b → aLt a b = true
  | [] => by simp [ascB]
  | [a] => by
    simp only [ascB, true_iff]
    intro i x y h1 h2
    simp at h2
  | a :: b :: r => by
    have ih := asc_get (l := b :: r)
    unfold ascB
    rw [Bool.and_eq_true, ih]
    constructor
    · rintro ⟨h1, h2⟩ i x y hx hy
      cases i with
      | zero => simp at hx hy; subst hx; subst hy; exact h1
      | succ i => exact h2 i x y (by simpa using hx) (by simpa using hy)
    · intro h
      exact ⟨h 0 a b rfl rfl, fun i x y hx hy => h (i + 1) x y (by simpa using hx) (by simpa using hy)⟩
theorem two_get : ∀ {l : List Nd}, twoTexts l = true ↔ ∃ (i : Nat) (a b : Nd), l[i]? = some a ∧ l[i + 1]? = some b ∧ a.kind = 3 ∧ b.kind = 3
  | [] => by simp [twoTexts]
  | [a] => by simp [twoTexts]
  | a :: b :: r => by
    have ih := two_get (l := b :: r)
    unfold twoTexts
    rw [Bool.or_eq_true, ih, Bool.and_eq_true, decide_eq_true_eq, decide_eq_true_eq]
    constructor
    · rintro (⟨h1, h2⟩ | ⟨i, x, y, hx, hy, h1, h2⟩)
      · exact ⟨0, a, b, rfl, rfl, h1, h2⟩
      · exact ⟨i + 1, x, y, by simpa using hx, by simpa using hy, h1, h2⟩
    · rintro ⟨i, x, y, hx, hy, h1, h2⟩
      cases i with
      | zero => simp at hx hy; subst hx; subst hy; exact .inl ⟨h1, h2⟩
      | succ i => exact .inr ⟨i, x, y, by simpa using hx, by simpa using hy, h1, h2⟩
end Go.Vc
namespace Go.Proofs.YtkgfbphdmnapdaaGreatDoor
open Go Go.Vc Go.Lib
section
variable {w : World}
theorem Order_ok {a b : Pr} {J : Int → World → Prop} (k : ∀ w', Chg No w w' → J (ordZ a b) w') :
    callJ Tryz.prog fn_tree_Order #[.agg ⟨pr a⟩, .agg ⟨pr b⟩] w [.one (.int .i64)] J := by
  refine c_tree_Order ?_
  unfold VC_tree_Order
  refine (Hp.start w No).newB fun b2 w1 H1 _ _ => ?_
  refine H1.newB fun b3 w2 H2 _ _ => ?_
  have H2d := H2.drew
  refine H2d.ldStr 1 rfl (off := 0) rfl ?_
  refine H2d.ldStr 0 rfl (off := 0) rfl ?_
  refine H2d.ldStr 1 rfl (off := 1) rfl ?_
  refine H2d.ldStr 0 rfl (off := 1) rfl ?_
  refine CompareS_ok ⟨H2d.cell 0 rfl (off := 1) rfl, H2d.cell 1 rfl (off := 1) rfl, CompareS_ok ?_⟩
  generalize hr1 : (if sLt a.1 b.1 = true then (-1 : Int) else if a.1 = b.1 then 0 else 1) = r1
  generalize hr2 : (if sLt a.2 b.2 = true then (-1 : Int) else if a.2 = b.2 then 0 else 1) = r2
  have f1 : cmpS a.1 b.1 = r1 := hr1
  have f2 : cmpS a.2 b.2 = r2 := hr2
  refine newRow (sz := 1) (n := 2) rfl (by decide) fun b19 w5 hr5 _ hc5 => ?_
  refine c_cmp_Or_int ?_
  unfold VC_cmp_Or_int
  have hcell := (cellsAt_heap (off := 0) (e := T_int) (fz := (0, 0)) (b := b19) (cs := [.int .i64 r1, .int .i64 r2]) (w := w5) (by
    obtain ⟨b', rest, e1, e2, _, _, e3⟩ := hr5.some0 (by decide)
    cases e1
    simp at e3
    subst e3
    simpa using e2))
  have fin : ∀ r, (r = r1 ∧ r1 ≠ 0 ∨ r1 = 0 ∧ r = r2) → J r w5 := by
    intro r hr
    have := k w5 (H2d.chg.trans0 hc5)
    unfold ordZ at this
    rw [f1, f2] at this
    rcases hr with ⟨rfl, h⟩ | ⟨h, rfl⟩
    · rw [if_pos h] at this; exact this
    · rw [if_neg (by omega)] at this; exact this
  refine ⟨fun x w' t => ∃ i : Nat, x = i ∧ i ≤ 2 ∧ t = 2 - i ∧ w' = w5 ∧ (1 ≤ i → r1 = 0) ∧ (2 ≤ i → r2 = 0), ⟨_, 0, rfl, by decide, rfl, rfl, by omega, by omega⟩, ?_⟩
  rintro x w' t ⟨i, rfl, hi, rfl, rfl, h1, h2⟩
  refine condB_d (fun hlt => ?_) (fun hge => ?_)
  · refine idxA_i (by omega) hlt ?_
    rw [Addr.add_mk, Int.toNat_natCast, Nat.zero_add, Nat.mul_one]
    have hi2 : i = 0 ∨ i = 1 := by omega
    rcases hi2 with rfl | rfl
    · refine ldI_i (n := r1) (by have := hcell 0 _ rfl; rwa [add_zero'] at this) ?_
      refine condB_ne (fun hne => fin r1 (.inl ⟨rfl, hne⟩)) (fun he => ⟨_, by omega, 1, by rw [w64_of] <;> decide, by omega, rfl, rfl, fun _ => he, fun h => by omega⟩)
    · refine ldI_i (n := r2) (by have := hcell 1 _ rfl; rwa [Addr.add_mk] at this) ?_
      refine condB_ne (fun hne => fin r2 (.inr ⟨h1 (by omega), rfl⟩)) (fun he => ⟨_, by omega, 2, by rw [w64_of] <;> decide, by omega, rfl, rfl, fun _ => h1 (by omega), fun _ => he⟩)
  · exact fin 0 (.inr ⟨h1 (by omega), (h2 (by omega)).symm⟩)
theorem Unordered_ok {x : NV} {J : Bool → World → Prop} (hx : x.Ok w) (hm : x.mea ≤ 100000000) (K : ∀ w', Chg No w w' → J (!orderN x.nd) w') : callJ Tryz.prog fn_tree_unordered #[.agg ⟨x.cells⟩] w [.one .bool] J := by
  cases hx with
  | @mk k u l t ap al ac ats kp kl kc ks ha hn hac hk hkn hkc hks =>
    have hal := ha.row (even_att ats) (by decide)
    have hmm : al ≤ 100000000 := by
      have := len_atSum ats
      simp only [NV.mea] at hm; omega
    have hg : orderN (NV.mk k u l t ap al ac ats kp kl kc ks).nd = ascB ats := rfl
    rw [hg] at K
    refine c_tree_unordered ?_
    unfold VC_tree_unordered
    refine nodeBox (Hp.start w No) fun b w1 H1 hb hc1 => ?_
    refine H1.ldS 0 rfl (off := 3) rfl ?_
    refine ⟨fun i w' m => ∃ q : Nat, i = q ∧ q ≤ al ∧ m = al - q ∧ Hp w No w' [⟨b, [.int .i64 k, .string u, .string l, .slice ap al ac, .slice kp kl kc, .string t], T_api_Node⟩] ∧ ∀ j x y, j + 1 < q → ats[j]? = some x → ats[j + 1]? = some y → aLt x y = true, ⟨_, 0, rfl, Nat.zero_le _, rfl, H1, by omega⟩, ?_⟩
    rintro i w2 m ⟨q, rfl, hq, rfl, H2, hup⟩
    refine condB_d (fun hlt => ?_) (fun hge => ?_)
    · refine withJ_i fun J28 hJ28 => ?_
      have k28 : ∀ (bb : Bool) (w3 : World), Hp w No w3 [⟨b, [.int .i64 k, .string u, .string l, .slice ap al ac, .slice kp kl kc, .string t], T_api_Node⟩] →
          (bb = true → ascB ats = false) → (bb = false → ∀ x y, 0 < q → ats[q - 1]? = some x → ats[q]? = some y → aLt x y = true) → J28 bb w3 := by
        intro bb w3 H3 g1 g2; subst hJ28
        refine condB_i (fun h => ?_) (fun h => ?_)
        · have := g1 h; rw [this] at K; exact K w3 H3.chg
        · refine ⟨_, by omega, q + 1, by rw [w64_of] <;> omega, by omega, rfl, H3, ?_⟩
          intro j x y hj hx hy
          rcases Nat.lt_or_ge (j + 1) q with h1 | h1
          · exact hup j x y h1 hx hy
          · have hjq : j + 1 = q := by omega
            exact g2 h x y (by omega) (by rw [← hjq]; exact hx) (by rw [← hjq]; exact hy)
      clear hJ28
      refine condB_d (fun hpos => ?_) (fun hz => k28 _ _ H2.drew (fun h => by cases h) (fun _ x y h => by omega))
      have H2d := H2.drew
      have e1 : w64 ((q : Int) - 1) = ((q - 1 : Nat) : Int) := by rw [w64_of] <;> omega
      rw [e1]
      refine H2d.ldS 0 rfl (off := 3) rfl ?_
      refine idx_rows (ha.chg H2d.chg (off_no _)) (even_att ats) (by decide) (by omega) (by omega) fun a x _ hx hcs => ?_
      rw [Int.toNat_natCast] at hx
      refine ldStr_i (cellsAt_head hcs) (ldStr_i (hcs 1 _ rfl) ?_)
      refine H2d.ldS 0 rfl (off := 3) rfl ?_
      refine idx_rows (ha.chg H2d.chg (off_no _)) (even_att ats) (by decide) (by omega) (by omega) fun a' y _ hy hcs' => ?_
      rw [Int.toNat_natCast] at hy
      refine ldStr_i (cellsAt_head hcs') (ldStr_i (hcs' 1 _ rfl) ?_)
      refine Order_ok (a := (x.1, x.2.1)) (b := (y.1, y.2.1)) fun w4 hc4 => ?_
      have hlt2 := ordZ_lt (x.1, x.2.1) (y.1, y.2.1)
      refine k28 _ _ (H2d.step0 hc4) (fun h => ?_) (fun h x' y' _ hx' hy' => ?_)
      · have h' := of_decide_eq_true h
        rw [Bool.eq_false_iff]
        intro hasc
        have := asc_get.1 hasc (q - 1) x y hx (by rw [show q - 1 + 1 = q from by omega]; exact hy)
        have := hlt2.2 this
        omega
      · rw [hx] at hx'; rw [hy] at hy'
        obtain rfl := Option.some.inj hx'
        obtain rfl := Option.some.inj hy'
        have h' := of_decide_eq_false h
        exact hlt2.1 (by omega)
    · have : ascB ats = true := asc_get.2 fun j x y hx hy => hup j x y (by have := (List.getElem?_eq_some_iff.1 hy).1; omega) hx hy
      rw [this] at K
      exact K w2 H2.chg
theorem WrongText_ok {x : NV} {J : Bool → World → Prop} (T : TT w) (hx : x.Ok w) (hm : x.mea ≤ 100000000) (K : ∀ w', Chg No w w' → J (!textN x.nd) w') : callJ Tryz.prog fn_tree_wrongText #[.agg ⟨x.cells⟩] w [.one .bool] J := by
  cases hx with
  | @mk k u l t ap al ac ats kp kl kc ks ha hn hac hk hkn hkc hks =>
    have hkl := hk.row (even_node ks) (by decide)
    have hmm : kl ≤ 100000000 := by
      have := len_meaL ks
      simp only [NV.mea] at hm; omega
    have ht : t.size ≤ 100000000 := by simp only [NV.mea] at hm; omega
    rw [nd_kids] at K
    unfold textN at K
    change ∀ w', Chg No w w' → J (!(!twoTexts (ks.map NV.nd) && textQ k t)) w' at K
    have kk : ∀ {i : Nat} {y : NV}, ks[i]? = some y → (ks.map NV.nd)[i]? = some y.nd := fun h => by rw [List.getElem?_map, h]; rfl
    refine c_tree_wrongText ?_
    unfold VC_tree_wrongText
    refine nodeBox (Hp.start w No) fun b w1 H1 hb hc1 => ?_
    refine H1.ldS 0 rfl (off := 4) rfl ?_
    refine ⟨fun i w' m => ∃ q : Nat, i = q ∧ q ≤ kl ∧ m = kl - q ∧ Hp w No w' [⟨b, [.int .i64 k, .string u, .string l, .slice ap al ac, .slice kp kl kc, .string t], T_api_Node⟩] ∧ ∀ j x y, j + 1 < q → ks[j]? = some x → ks[j + 1]? = some y → ¬ (x.kd = 3 ∧ y.kd = 3), ⟨_, 0, rfl, Nat.zero_le _, rfl, H1, by omega⟩, ?_⟩
    rintro i w2 m ⟨q, rfl, hq, rfl, H2, hup⟩
    refine condB_d (fun hlt => ?_) (fun hge => ?_)
    · refine idx_rows (hk.chg H2.chg (off_no _)) (even_node ks) (by decide) (by omega) hlt fun a y _ hy hcs => ?_
      rw [Int.toNat_natCast] at hy
      cases y with
      | mk yk yu yl yt yap yal yac yas ykp ykl ykc yks =>
      refine nodeVar H2 hcs fun b4 w4 H4 _ _ => ?_
      have H4b : Hp w No w4 [⟨b, [.int .i64 k, .string u, .string l, .slice ap al ac, .slice kp kl kc, .string t], T_api_Node⟩] := H4.sub (.cons _ (.refl _))
      refine withJ_i fun J29 hJ29 => ?_
      have k29 : ∀ (bb : Bool), (bb = true → twoTexts (ks.map NV.nd) = true) → (bb = false → ∀ x, 0 < q → ks[q - 1]? = some x → ¬ (x.kd = 3 ∧ yk = 3)) → J29 bb w4 := by
        intro bb g1 g2; subst hJ29
        refine condB_i (fun h => ?_) (fun h => ?_)
        · have := g1 h; rw [this] at K; exact K w4 H4.chg
        · refine ⟨_, by omega, q + 1, by rw [w64_of] <;> omega, by omega, rfl, H4b, ?_⟩
          intro j x y' hj hx hy'
          rcases Nat.lt_or_ge (j + 1) q with h1 | h1
          · exact hup j x y' h1 hx hy'
          · have hjq : j + 1 = q := by omega
            rw [hjq, hy] at hy'
            obtain rfl := Option.some.inj hy'
            exact g2 h x (by omega) (by rw [← hjq]; exact hx)
      clear hJ29
      refine condB_d (fun hpos => ?_) (fun hz => k29 _ (fun h => by cases h) (fun _ x h => by omega))
      refine H4.ldI 0 rfl (off := 0) rfl ?_
      refine condB_eq (fun h3 => ?_) (fun h3 => k29 _ (fun h => by cases h) (fun _ x _ _ h => h3 h.2))
      refine H4.ldS 1 rfl (off := 4) rfl ?_
      have e1 : w64 ((q : Int) - 1) = ((q - 1 : Nat) : Int) := by rw [w64_of] <;> omega
      rw [e1]
      refine idx_rows (hk.chg H4.chg (off_no _)) (even_node ks) (by decide) (by omega) (by omega) fun a' x _ hx hcs' => ?_
      rw [Int.toNat_natCast] at hx
      cases x with
      | mk xk xu xl xt xap xal xac xas xkp xkl xkc xks =>
      refine ldI_i (cellsAt_head hcs') ?_
      refine k29 _ (fun h => ?_) (fun h x' _ hx' => ?_)
      · have h' : xk = 3 := by simpa using h
        exact two_get.2 ⟨q - 1, _, _, kk hx, by rw [show q - 1 + 1 = q from by omega]; exact kk hy, by rw [nd_kind]; exact h', by rw [nd_kind]; exact h3⟩
      · rw [hx] at hx'
        obtain rfl := Option.some.inj hx'
        have h' : xk ≠ 3 := by simpa using h
        exact fun hh => h' hh.1
    · have htt : twoTexts (ks.map NV.nd) = false := by
        rw [Bool.eq_false_iff]
        intro h
        obtain ⟨j, x, y, hx, hy, h1, h2⟩ := two_get.1 h
        rw [List.getElem?_map, Option.map_eq_some_iff] at hx hy
        obtain ⟨x', hx', rfl⟩ := hx
        obtain ⟨y', hy', rfl⟩ := hy
        rw [nd_kind] at h1 h2
        exact hup j x' y' (by have := (List.getElem?_eq_some_iff.1 hy').1; omega) hx' hy' ⟨h1, h2⟩
      rw [htt] at K
      rw [Bool.not_false, Bool.true_and] at K
      change ∀ w', Chg No w w' → J (!textQ k t) w' at K
      unfold textQ at K
      refine H2.ldI 0 rfl (off := 0) rfl ?_
      refine condB_eq (fun e3 => ?_) (fun e3 => ?_)
      · rw [if_pos e3] at K
        refine H2.ldStr 0 rfl (off := 5) rfl ?_
        rw [beqS]
        have := K w2 H2.chg
        rw [show (!decide (t ≠ emptyB)) = decide (t = emptyB) from by by_cases h : t = emptyB <;> simp [h]] at this
        exact this
      rw [if_neg e3] at K
      refine condB_eq (fun e4 => ?_) (fun e4 => ?_)
      · rw [if_pos e4] at K
        simp only [withJ]
        refine H2.ldStr 0 rfl (off := 5) rfl ?_
        refine Contains_ok (T.chg H2.chg) ht ?_
        refine condB_i (fun h => ?_) (fun h => ?_)
        · have : hasS [45, 45] (bl t) = true := h
          rw [this] at K; exact K w2 H2.chg
        have h0 : hasS [45, 45] (bl t) = false := h
        rw [h0] at K
        refine H2.ldStr 0 rfl (off := 5) rfl ?_
        refine HasSuffix_ok ht ?_
        refine condB_d (fun h => ?_) (fun h => ?_)
        · rw [decide_eq_false (fun hh => hh h)] at K
          simp only [Bool.and_false, Bool.not_false] at K
          exact K w2 H2.chg
        rw [decide_eq_true h] at K
        refine H2.ldStr 0 rfl (off := 5) rfl ?_
        refine Contains_ok (T.chg H2.chg) ht ?_
        have := K w2 H2.chg
        simp only [Bool.not_false, Bool.true_and, Bool.and_true, Bool.not_not] at this
        exact this
      rw [if_neg e4] at K
      refine condB_eq (fun e5 => ?_) (fun e5 => ?_)
      · rw [if_pos e5] at K
        have H2d := H2.drew
        simp only [withJ]
        refine H2d.ldStr 0 rfl (off := 5) rfl ?_
        refine Contains_ok (T.chg H2d.chg) ht ?_
        refine condB_i (fun h => ?_) (fun h => ?_)
        · have : hasS [63, 62] (bl t) = true := h
          rw [this] at K; exact K _ H2d.chg
        have h0 : hasS [63, 62] (bl t) = false := h
        rw [h0] at K
        refine H2d.ldStr 0 rfl (off := 5) rfl ?_
        refine Contains_ok (T.chg H2d.chg) ht ?_
        refine condB_i (fun h => ?_) (fun h => ?_)
        · have h1 : hasS [13] (bl t) = true := h
          rw [h1] at K
          exact K _ H2d.chg
        have h1 : hasS [13] (bl t) = false := h
        rw [h1] at K
        refine H2d.ldStr 0 rfl (off := 5) rfl ?_
        refine H2d.ldStr 0 rfl (off := 5) rfl ?_
        refine TrimLeft_ok fun w13 hc13 => ?_
        have H13 := H2d.step0 hc13
        refine ⟨H13.cell 0 rfl rfl, ?_⟩
        rw [beqS]
        have := K w13 H13.chg
        simp only [Bool.not_false, Bool.true_and] at this
        rw [← trim_same] at this
        rw [show decide (t = mkB (Lib.trimLeftS (bl t) [32, 9, 10])) = decide (bl t = Lib.trimLeftS (bl t) [32, 9, 10]) from decide_eq_decide.2 ⟨fun h => by conv => lhs; rw [h, bl_mkB], fun h => bl_ext (by rw [bl_mkB]; exact h)⟩]
        exact this
      · rw [if_neg e5] at K
        exact K w2 H2.chg
end
end Go.Proofs.YtkgfbphdmnapdaaGreatDoor

