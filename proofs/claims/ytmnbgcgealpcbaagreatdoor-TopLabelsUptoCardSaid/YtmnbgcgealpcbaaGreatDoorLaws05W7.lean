/- TreeC TreeI VRef04 Lift Bulk BulkM RdT Tabs01 Pre5 VLaw05 Laws05_7 VRef05 Bare RefK RefL RefM VWalks SlI Walk Laws05W_7 -/
import Derived.Test.YtmnbgcgealpcbaaGreatDoorVTree2
import Derived.Shelf.Strings.Search3
import Derived.Shelf.Strings.SlTrimAscii
import Derived.Test.YtmnbgcgealpcbaaGreatDoorLbB
import Derived.ChangeArms
import Derived.OpenShut
import Derived.SizedLaws
import Derived.Test.YtmnbgcgealpcbaaGreatDoorRows
import Derived.Test.YtmnbgcgealpcbaaGreatDoorRef01B
import Derived.Lib.LaidU8T
import Derived.MakeChecks
import GoSem.PinnedTables
import Derived.Shelf.Vars
import Derived.KernelRfl
/-
  Nodes in memory: reading one, a variable of its own, going through a list with a question.
-/
set_option linter.unusedVariables false
set_option linter.unusedSimpArgs false
namespace Go.Vc
open Go Go.Lib
section
variable {w : World}
/-- A node's six cells, one after the other. -/
theorem ldNode {a : Addr} {k0 : Int} {u0 l0 t0 : ByteArray} {ap kp : Option Addr} {al ac kl kc : Nat} (hc : cellsAt w a [.int .i64 k0, .string u0, .string l0, .slice ap al ac, .slice kp kl kc, .string t0])
    {K : Int → ByteArray → ByteArray → Option Addr → Nat → Nat → Option Addr → Nat → Nat → ByteArray → Prop} (k : K k0 u0 l0 ap al ac kp kl kc t0) :
    ldI .i64 w a fun x0 => ldStr w (a.add 1) fun x1 => ldStr w (a.add 2) fun x2 => ldS w (a.add 3) fun p3 l3 c3 => ldS w (a.add 4) fun p4 l4 c4 => ldStr w (a.add 5) fun x5 => K x0 x1 x2 p3 l3 c3 p4 l4 c4 x5 :=
  ⟨_, cellsAt_head hc, _, hc 1 _ rfl, _, hc 2 _ rfl, _, _, _, hc 3 _ rfl, _, _, _, hc 4 _ rfl, _, hc 5 _ rfl, k⟩
theorem ldAttr {a : Addr} {u0 l0 t0 : ByteArray} (hc : cellsAt w a [.string u0, .string l0, .string t0]) {K : ByteArray → ByteArray → ByteArray → Prop} (k : K u0 l0 t0) :
    ldStr w a fun x0 => ldStr w (a.add 1) fun x1 => ldStr w (a.add 2) fun x2 => K x0 x1 x2 :=
  ⟨_, cellsAt_head hc, _, hc 1 _ rfl, _, hc 2 _ rfl, k⟩
/-- .. of a variable of its own. -/
theorem ldBox {w0 : World} {S : Nat → Prop} {Γ : List Blk} {b : Nat} {e : TypeId} (H : Hp w0 S w Γ) (i : Nat) {k0 : Int} {u0 l0 t0 : ByteArray} {ap kp : Option Addr} {al ac kl kc : Nat} (hi : Γ[i]? = some ⟨b, [.int .i64 k0, .string u0, .string l0, .slice ap al ac, .slice kp kl kc, .string t0], e⟩)
    {K : Int → ByteArray → ByteArray → Option Addr → Nat → Nat → Option Addr → Nat → Nat → ByteArray → Prop} (k : K k0 u0 l0 ap al ac kp kl kc t0) :
    ldI .i64 w ⟨b, 0, none⟩ fun x0 => ldStr w ⟨b, 1, none⟩ fun x1 => ldStr w ⟨b, 2, none⟩ fun x2 => ldS w ⟨b, 3, none⟩ fun p3 l3 c3 => ldS w ⟨b, 4, none⟩ fun p4 l4 c4 => ldStr w ⟨b, 5, none⟩ fun x5 => K x0 x1 x2 p3 l3 c3 p4 l4 c4 x5 :=
  ⟨_, H.cell i hi rfl, _, H.cell i hi rfl, _, H.cell i hi rfl, _, _, _, H.cell i hi rfl, _, _, _, H.cell i hi rfl, _, H.cell i hi rfl, k⟩
/-- Going through a list of nodes with a question. -/
def IdxNode (call : List Value → World → (Bool → World → Prop) → Prop) (s0p : Option Addr) (s0l : Nat) (w : World) (J : Int → World → Prop) : Prop :=
  ∃ I_8 : Int → World → Nat → Prop, (∃ m : Nat, I_8 (0 : Int) w m) ∧ ∀ (x8 : Int) (w1 : World) (m : Nat), I_8 x8 w1 m → (
  condB (decide (x8 < ((s0l : Nat) : Int))) (
  idxA s0p s0l x8 fun a14 =>
  ldI .i64 w1 ((a14.add (x8.toNat * 6))) fun x15_0 =>
  ldStr w1 (((a14.add (x8.toNat * 6)).add 1)) fun x15_1 =>
  ldStr w1 (((a14.add (x8.toNat * 6)).add 2)) fun x15_2 =>
  ldS w1 (((a14.add (x8.toNat * 6)).add 3)) fun x15_3p x15_3l x15_3c =>
  ldS w1 (((a14.add (x8.toNat * 6)).add 4)) fun x15_4p x15_4l x15_4c =>
  ldStr w1 (((a14.add (x8.toNat * 6)).add 5)) fun x15_5 =>
  call [.int .i64 x15_0, .string x15_1, .string x15_2, .slice x15_3p x15_3l x15_3c, .slice x15_4p x15_4l x15_4c, .string x15_5] w1 fun (r16 : Bool) (w2 : World) =>
  condB r16 (
  J x8 w2) (
  ∃ m' : Nat, m' < m ∧ I_8 (w64 (x8 + (1 : Int))) w2 m')) (
  J (-1 : Int) w1))
theorem IdxNode_ok {call : List Value → World → (Bool → World → Prop) → Prop} {p : Option Addr} {l : Nat} {L : List NV} {q : NV → Bool} {J : Int → World → Prop} (h : Sl w p l 6 (rows NV.cells L)) (hm : l ≤ 100000000)
    (hcall : ∀ x ∈ L, ∀ (w' : World) (K : Bool → World → Prop), Chg No w w' → (∀ w'', Chg No w w'' → K (q x) w'') → call x.cells w' K)
    (K : ∀ (r : Int) w', Chg No w w' → (0 ≤ r ↔ L.any q = true) → J r w') : IdxNode call p l w J := by
  have hl := h.row (even_node L) (by decide)
  refine ⟨fun i w' t => ∃ k : Nat, i = k ∧ k ≤ l ∧ t = l - k ∧ Chg No w w' ∧ (L.take k).any q = false, ⟨_, 0, rfl, Nat.zero_le _, rfl, Chg.refl _ _, rfl⟩, ?_⟩
  rintro i w1 t ⟨k, rfl, hk, rfl, hc, hno⟩
  refine condB_d (fun hlt => ?_) (fun hge => ?_)
  · refine idx_rows (h.chg hc (off_no _)) (even_node L) (by decide) (by omega) hlt fun a x _ hx hcs => ?_
    rw [Int.toNat_natCast] at hx
    have hmem := List.mem_of_getElem? hx
    obtain ⟨g1, g2⟩ := List.getElem?_eq_some_iff.1 hx
    have htake : L.take (k + 1) = L.take k ++ [x] := by rw [List.take_succ_eq_append_getElem g1, g2]
    have hc2 := hcall x hmem w1
    cases x with
    | mk xk xu xl xt xap xal xac xas xkp xkl xkc xks =>
      refine ldNode hcs ?_
      refine hc2 _ hc fun w2 c2 => ?_
      refine condB_i (fun hq => ?_) (fun hq => ?_)
      · exact K k w2 c2 ⟨fun _ => List.any_eq_true.2 ⟨_, hmem, hq⟩, fun _ => by omega⟩
      · refine ⟨_, by omega, k + 1, by rw [w64_of] <;> omega, by omega, rfl, c2, ?_⟩
        rw [htake, List.any_append, hno, List.any_cons, hq]; rfl
  · rw [List.take_of_length_le (by omega)] at hno
    exact K (-1) w1 hc ⟨fun h => by omega, fun h => by rw [hno] at h; cases h⟩
def IdxAttr (call : List Value → World → (Bool → World → Prop) → Prop) (s0p : Option Addr) (s0l : Nat) (w : World) (J : Int → World → Prop) : Prop :=
  ∃ I_8 : Int → World → Nat → Prop, (∃ m : Nat, I_8 (0 : Int) w m) ∧ ∀ (x8 : Int) (w1 : World) (m : Nat), I_8 x8 w1 m → (
  condB (decide (x8 < ((s0l : Nat) : Int))) (
  idxA s0p s0l x8 fun a14 =>
  ldStr w1 ((a14.add (x8.toNat * 3))) fun x15_0 =>
  ldStr w1 (((a14.add (x8.toNat * 3)).add 1)) fun x15_1 =>
  ldStr w1 (((a14.add (x8.toNat * 3)).add 2)) fun x15_2 =>
  call [.string x15_0, .string x15_1, .string x15_2] w1 fun (r16 : Bool) (w2 : World) =>
  condB r16 (
  J x8 w2) (
  ∃ m' : Nat, m' < m ∧ I_8 (w64 (x8 + (1 : Int))) w2 m')) (
  J (-1 : Int) w1))
theorem even_att (L : List At) : Even atc 3 L := fun _ _ => rfl
theorem IdxAttr_ok {call : List Value → World → (Bool → World → Prop) → Prop} {p : Option Addr} {l : Nat} {L : List At} {q : At → Bool} {J : Int → World → Prop} (h : Sl w p l 3 (rows atc L)) (hm : l ≤ 100000000)
    (hcall : ∀ x ∈ L, ∀ (w' : World) (K : Bool → World → Prop), Chg No w w' → (∀ w'', Chg No w w'' → K (q x) w'') → call (atc x) w' K)
    (K : ∀ (r : Int) w', Chg No w w' → (0 ≤ r ↔ L.any q = true) → J r w') : IdxAttr call p l w J := by
  have hl := h.row (even_att L) (by decide)
  refine ⟨fun i w' t => ∃ k : Nat, i = k ∧ k ≤ l ∧ t = l - k ∧ Chg No w w' ∧ (L.take k).any q = false, ⟨_, 0, rfl, Nat.zero_le _, rfl, Chg.refl _ _, rfl⟩, ?_⟩
  rintro i w1 t ⟨k, rfl, hk, rfl, hc, hno⟩
  refine condB_d (fun hlt => ?_) (fun hge => ?_)
  · refine idx_rows (h.chg hc (off_no _)) (even_att L) (by decide) (by omega) hlt fun a x _ hx hcs => ?_
    rw [Int.toNat_natCast] at hx
    have hmem := List.mem_of_getElem? hx
    obtain ⟨g1, g2⟩ := List.getElem?_eq_some_iff.1 hx
    have htake : L.take (k + 1) = L.take k ++ [x] := by rw [List.take_succ_eq_append_getElem g1, g2]
    refine ldAttr hcs ?_
    refine hcall x hmem w1 _ hc fun w2 c2 => ?_
    refine condB_i (fun hq => ?_) (fun hq => ?_)
    · exact K k w2 c2 ⟨fun _ => List.any_eq_true.2 ⟨_, hmem, hq⟩, fun _ => by omega⟩
    · refine ⟨_, by omega, k + 1, by rw [w64_of] <;> omega, by omega, rfl, c2, ?_⟩
      rw [htake, List.any_append, hno, List.any_cons, hq]; rfl
  · rw [List.take_of_length_le (by omega)] at hno
    exact K (-1) w1 hc ⟨fun h => by omega, fun h => by rw [hno] at h; cases h⟩
end
end Go.Vc
namespace Go.Proofs.YtmnbgcgealpcbaaGreatDoor
open Go Go.Vc Go.Lib
section
variable {w : World}
theorem zeroC_node : zeroC Tryz.prog T_api_Node = ⟨[.int .i64 0, .string ByteArray.empty, .string ByteArray.empty, .slice none 0 0, .slice none 0 0, .string ByteArray.empty]⟩ := by kernel_rfl
theorem slT_node : SlT Tryz.prog T_sl_api_Node T_api_Node 6 104 #[.int .i64 0, .string ByteArray.empty, .string ByteArray.empty, .slice none 0 0, .slice none 0 0, .string ByteArray.empty] := SlT.of (by kernel_rfl) (by kernel_rfl) rfl (by decide)
/-- An element, stored in a variable of its own. -/
theorem nodeVar {w0 : World} {S : Nat → Prop} {Γ : List Blk} (H : Hp w0 S w Γ) {a : Addr} {k0 : Int} {u0 l0 t0 : ByteArray} {ap kp : Option Addr} {al ac kl kc : Nat} (hc : cellsAt w a [.int .i64 k0, .string u0, .string l0, .slice ap al ac, .slice kp kl kc, .string t0])
    {K : Nat → World → Prop} (k : ∀ b w', Hp w0 S w' (⟨b, [.int .i64 k0, .string u0, .string l0, .slice ap al ac, .slice kp kl kc, .string t0], T_api_Node⟩ :: Γ) → w.heap.size ≤ b → Chg No w w' → K b w') :
    ldI .i64 w a fun x0 => ldStr w (a.add 1) fun x1 => ldStr w (a.add 2) fun x2 => ldS w (a.add 3) fun p3 l3 c3 => ldS w (a.add 4) fun p4 l4 c4 => ldStr w (a.add 5) fun x5 =>
      newB w (.cells (zeroC Tryz.prog T_api_Node) T_api_Node) fun b w1 => stN w1 ⟨b, 0, none⟩ ⟨[.int .i64 x0, .string x1, .string x2, .slice p3 l3 c3, .slice p4 l4 c4, .string x5]⟩ 6 fun w2 => K b w2 := by
  refine ldNode hc ?_
  rw [zeroC_node]
  refine H.newB fun b w1 H1 hb hc1 => ?_
  refine H1.stN 0 rfl (off := 0) rfl (by simp) (one1_node (.mk k0 u0 l0 t0 ap al ac [] kp kl kc [])) fun w2 H2 hc2 => ?_
  simp only [List.set_cons_zero] at H2
  exact k b w2 H2 hb (hc1.trans hc2 fun x hx e => by subst e; omega)
/-- A node that came in as a value, in a variable of its own. -/
theorem nodeBox {w0 : World} {S : Nat → Prop} {Γ : List Blk} (H : Hp w0 S w Γ) {cs : List Value} {e : TypeId} {K : Nat → World → Prop} (k : ∀ b w', Hp w0 S w' (⟨b, cs, e⟩ :: Γ) → w.heap.size ≤ b → Chg No w w' → K b w') :
    newB w (.cells ⟨cs⟩ e) K := H.newB k
end
end Go.Proofs.YtmnbgcgealpcbaaGreatDoor

/-
  What Check asks of each node: may, odd, deep, great, names, chars, order.
-/

set_option linter.unusedVariables false
set_option linter.unusedSimpArgs false
namespace Go.Vc
open Go Go.Lib
theorem nd_kids (k : Int) (u l t : ByteArray) (ap : Option Addr) (al ac : Nat) (ats : List At) (kp : Option Addr) (kl kc : Nat) (ks : List NV) : (NV.mk k u l t ap al ac ats kp kl kc ks).nd = .mk k u l t ats (ks.map NV.nd) := by
  simp only [NV.nd, ndL_map]
def NV.kd : NV → Int | .mk k _ _ _ _ _ _ _ _ _ _ _ => k
theorem nd_kind (v : NV) : v.nd.kind = v.kd := by cases v; rfl
end Go.Vc
namespace Go.Proofs.YtmnbgcgealpcbaaGreatDoor
open Go Go.Vc Go.Lib
section
variable {w : World}
theorem May_ok {p k : Int} {J : Bool → World → Prop} (K : J (mayK p k) w) : callJ Tryz.prog fn_tree_may #[.int .i64 p, .int .i64 k] w [.one .bool] J := by
  refine c_tree_may ?_
  unfold VC_tree_may
  have kT : mayK p k = true → J true w := fun h => by rw [h] at K; exact K
  have kF : mayK p k = false → J false w := fun h => by rw [h] at K; exact K
  have tT : ((p = 1 ∧ (k = 2 ∨ k = 4 ∨ k = 5)) ∨ (p = 2 ∧ 2 ≤ k ∧ k ≤ 5)) → J true w := fun h => kT (decide_eq_true h)
  have tF : ¬ ((p = 1 ∧ (k = 2 ∨ k = 4 ∨ k = 5)) ∨ (p = 2 ∧ 2 ≤ k ∧ k ≤ 5)) → J false w := fun h => kF (decide_eq_false h)
  refine condB_eq (fun h1 => ?_) (fun h1 => ?_)
  · simp only [withJ]
    refine condB_eq (fun h => tT (by omega)) (fun h2 => ?_)
    refine condB_eq (fun h => tT (by omega)) (fun h3 => ?_)
    by_cases h4 : k = 5
    · rw [beq_iff_eq.2 h4]; exact tT (by omega)
    · rw [beq_eq_false_iff_ne.2 h4]; exact tF (by omega)
  · refine condB_eq (fun h2 => ?_) (fun h2 => tF (by omega))
    simp only [withJ]
    refine condB_d (fun h3 => ?_) (fun h3 => tF (by omega))
    by_cases h4 : k ≤ 5
    · rw [decide_eq_true h4]; exact tT (by omega)
    · rw [decide_eq_false h4]; exact tF (by omega)
theorem Odd1_ok {x : NV} {fv : Addr} {p : Int} {J : Bool → World → Prop} (hf : w.cell? fv = some (.int .i64 p)) (K : ∀ w', Chg No w w' → J (!mayK p x.kd) w') : callJ Tryz.prog fn_tree_odd_1 #[.agg ⟨x.cells⟩, .pointer (some fv)] w [.one .bool] J := by
  cases x with
  | mk k u l t ap al ac ats kp kl kc ks =>
    refine c_tree_odd_1 ?_
    unfold VC_tree_odd_1
    refine nodeBox (Hp.start w No) fun b w1 H1 hb hc1 => ?_
    refine ldI_i (hc1.cell hf (fun h => h)) ?_
    refine H1.ldI 0 rfl (off := 0) rfl ?_
    exact May_ok (K w1 hc1)
theorem IdxOdd1_ok {p : Option Addr} {l c : Nat} {L : List NV} {fv : Addr} {pk : Int} {J : Bool → World → Prop} (h : Sl w p l 6 (rows NV.cells L)) (hm : l ≤ 100000000) (hf : w.cell? fv = some (.int .i64 pk)) (K : ∀ w', Chg No w w' → J (L.any fun x => !mayK pk x.kd) w') :
    callJ Tryz.prog fn_slices_ContainsFunc_sl_api_Node_api_Node #[.slice p l c, .func (.func 49) #[] #[.pointer (some fv)]] w [.one .bool] J := by
  refine c_slices_ContainsFunc_sl_api_Node_api_Node_f1_49c1 ?_
  unfold VC_slices_ContainsFunc_sl_api_Node_api_Node_f1_49c1
  refine c_slices_IndexFunc_sl_api_Node_api_Node_f1_49c1 ?_
  show IdxNode (fun cs w' K => callJ Tryz.prog fn_tree_odd_1 #[.agg ⟨cs⟩, .pointer (some fv)] w' [.one .bool] K) p l w _
  refine IdxNode_ok (q := fun x => !mayK pk x.kd) h hm (fun x hx w' K' hc k => Odd1_ok (hc.cell hf (fun h => h)) fun w'' c2 => k w'' (hc.trans0 c2)) fun r w' hc hr => ?_
  by_cases h0 : 0 ≤ r
  · have := hr.1 h0
    rw [decide_eq_true (show r ≥ 0 from h0), ← this]; exact K w' hc
  · have : (L.any fun x => !mayK pk x.kd) = false := by rw [Bool.eq_false_iff]; exact fun h => h0 (hr.2 h)
    rw [decide_eq_false (show ¬ r ≥ 0 from h0), ← this]; exact K w' hc
theorem any_kids (k : Int) (u l t : ByteArray) (ats : List At) (ks : List NV) : ((Nd.mk k u l t ats (ks.map NV.nd)).kids.any fun x => !mayK (Nd.mk k u l t ats (ks.map NV.nd)).kind x.kind) = ks.any fun x => !mayK k x.kd := by
  show (ks.map NV.nd).any (fun x => !mayK k x.kind) = _
  rw [List.any_map]
  congr 1
  funext x
  show (!mayK k x.nd.kind) = _
  rw [nd_kind]
theorem Odd_ok {x : NV} {J : Bool → World → Prop} (hx : x.Ok w) (hm : x.mea ≤ 100000000) (K : ∀ w', Chg No w w' → J (oddP x.nd) w') : callJ Tryz.prog fn_tree_odd #[.agg ⟨x.cells⟩] w [.one .bool] J := by
  cases hx with
  | @mk k u l t ap al ac ats kp kl kc ks ha hn hac hk hkn hkc hks =>
    have hal := ha.row (even_att ats) (by decide)
    have hkl := hk.row (even_node ks) (by decide)
    have hmm : kl ≤ 100000000 := by
      have := len_meaL ks
      simp only [NV.mea] at hm; omega
    rw [nd_kids] at K
    unfold oddP at K
    rw [any_kids] at K
    simp only [Nd.kind, Nd.uri, Nd.loc, Nd.text, Nd.attrs] at K
    refine c_tree_odd ?_
    unfold VC_tree_odd
    refine nodeBox (Hp.start w No) fun b w1 H1 hb hc1 => ?_
    refine withJ_i fun J3 hJ3 => ?_
    have k3 : ∀ (bad : Bool), bad = (decide (k ≠ 2) && decide (ats ≠ [])) → J3 bad w1 := by
      intro bad hbad; subst hJ3
      refine withJ_i fun J31 hJ31 => ?_
      have k31 : ∀ bad2 : Bool, bad2 = oddQ k u l t ats → J31 bad2 w1 := by
        intro bad2 hb2; subst hJ31
        rw [← hb2] at K
        simp only [withJ]
        refine condB_i (fun ht => ?_) (fun hf => ?_)
        · rw [ht] at K; exact K w1 hc1
        · rw [hf] at K
          refine H1.ldS 0 rfl (off := 4) rfl ?_
          refine IdxOdd1_ok (hk.chg hc1 (off_no _)) hmm (H1.cell 0 rfl rfl) fun w2 hc2 => ?_
          have := K w2 (hc1.trans0 hc2)
          rw [Bool.false_or] at this; exact this
      clear hJ31 K
      unfold oddQ at k31
      have eE : ByteArray.empty = emptyB := rfl
      refine H1.ldI 0 rfl (off := 0) rfl ?_
      refine condB_eq (fun e1 => ?_) (fun e1 => ?_)
      · rw [decide_eq_true (show k ≠ 2 by omega), Bool.true_and] at hbad
        refine condB_i (fun ht => k31 _ (by rw [if_pos e1, ← hbad, ht]; rfl)) (fun hf => ?_)
        refine H1.ldStr 0 rfl (off := 1) rfl ?_
        refine H1.ldStr 0 rfl (off := 2) rfl ?_
        rw [if_pos e1, ← hbad, hf] at k31
        simp only [beqS, eE, Bool.and_true]
        rw [show (decide (u = emptyB) && decide (l = emptyB)) = decide (u = emptyB ∧ l = emptyB) from (Bool.decide_and _ _).symm]
        by_cases hul : u = emptyB ∧ l = emptyB
        · rw [decide_eq_true hul]
          refine condB_i (fun h => by cases h) (fun _ => ?_)
          refine H1.ldStr 0 rfl (off := 5) rfl ?_
          refine k31 _ ?_
          rw [decide_eq_false (show ¬ ¬ (u = emptyB ∧ l = emptyB) from fun h => h hul)]
          by_cases ht : t = emptyB
          · simp [ht, emptyB]
          · have : ¬ t = ⟨#[]⟩ := ht
            simp [ht, this]
        · rw [decide_eq_false hul]
          refine condB_i (fun _ => k31 _ (by rw [decide_eq_true hul]; rfl)) (fun h => by cases h)
      · refine condB_eq (fun e2 => ?_) (fun e2 => ?_)
        · refine H1.ldStr 0 rfl (off := 5) rfl ?_
          refine k31 _ ?_
          rw [if_neg e1, if_pos e2, beqS]
          by_cases ht : t = emptyB
          · simp [ht, emptyB]
          · have : ¬ t = ⟨#[]⟩ := ht
            simp [ht, this]
        · rw [decide_eq_true (show k ≠ 2 from e2), Bool.true_and] at hbad
          rw [if_neg e1, if_neg e2] at k31
          refine condB_eq (fun e5 => ?_) (fun e5 => ?_)
          · rw [if_pos e5, ← hbad] at k31
            refine condB_i (fun ht => k31 _ (by rw [ht]; rfl)) (fun hf => ?_)
            refine H1.ldStr 0 rfl (off := 1) rfl ?_
            refine k31 _ ?_
            rw [hf, beqS]
            by_cases ht : u = emptyB
            · simp [ht, emptyB]
            · have : ¬ u = ⟨#[]⟩ := ht
              simp [ht, this]
          · rw [if_neg e5, ← hbad] at k31
            refine condB_i (fun ht => k31 _ (by rw [ht]; rfl)) (fun hf => ?_)
            refine H1.ldStr 0 rfl (off := 1) rfl ?_
            refine H1.ldStr 0 rfl (off := 2) rfl ?_
            refine k31 _ ?_
            rw [hf]
            simp only [beqS, eE, Bool.and_true]
            rw [show (decide (u = emptyB) && decide (l = emptyB)) = decide (u = emptyB ∧ l = emptyB) from (Bool.decide_and _ _).symm]
            by_cases hul : u = emptyB ∧ l = emptyB
            · rw [decide_eq_true hul, decide_eq_false (show ¬ ¬ (u = emptyB ∧ l = emptyB) from fun h => h hul)]; rfl
            · rw [decide_eq_false hul, decide_eq_true hul]; rfl
    clear hJ3 K
    refine H1.ldI 0 rfl (off := 0) rfl ?_
    refine condB_ne (fun e2 => ?_) (fun e2 => ?_)
    · refine H1.ldS 0 rfl (off := 3) rfl ?_
      refine k3 _ ?_
      rw [decide_eq_true (show k ≠ 2 from e2), Bool.true_and]
      by_cases h0 : ats = []
      · have : al = 0 := by rw [← hal, h0]; rfl
        rw [decide_eq_false (show ¬ ats ≠ [] from fun h => h h0), decide_eq_false (by omega)]
      · have : 0 < ats.length := List.length_pos_iff.2 h0
        rw [decide_eq_true (show ats ≠ [] from h0), decide_eq_true (by omega)]
    · exact k3 _ (by rw [decide_eq_false (fun h => h e2)]; rfl)
/-- Elements that stand too deep. -/
theorem Deep_ok : ∀ (x : NV) {w : World} {above : Int} {J : Bool → World → Prop}, x.Ok w → x.mea ≤ 100000000 → 0 ≤ above → above ≤ 40 → (∀ w', Chg No w w' → J (deepN above x.nd) w') → callJ Tryz.prog fn_tree_deep #[.agg ⟨x.cells⟩, .int .i64 above] w [.one .bool] J := by
  intro x
  induction x using NV.ind with
  | h k u l t ap al ac ats kp kl kc ks ih =>
    intro w above J hx hm h0 h40 K
    cases hx with
    | mk ha hn hac hk hkn hkc hks =>
    have hkl := hk.row (even_node ks) (by decide)
    have hmm : kl ≤ 100000000 := by
      have := len_meaL ks
      simp only [NV.mea] at hm; omega
    have hkm : ∀ y ∈ ks, y.mea ≤ 100000000 := fun y hy => by
      have := mea_kid hy
      simp only [NV.mea] at hm; omega
    rw [nd_kids] at K
    unfold deepN at K
    have hany : ∀ ab : Int, deepNL ab (ks.map NV.nd) = ks.any fun y => deepN ab y.nd := fun ab => by rw [deepNL_any, List.any_map]; rfl
    rw [hany, hany] at K
    refine c_tree_deep ?_
    unfold VC_tree_deep
    refine nodeBox (Hp.start w No) fun b w1 H1 hb hc1 => ?_
    refine H1.newB fun b3 w2 H2 hb3 hc2 => ?_
    have c02 := hc1.trans0 hc2
    refine withJ_i fun J0 hJ0 => ?_
    have k0 : ∀ (ab : Int) (w3 : World), 0 ≤ ab → ab ≤ 40 → Hp w No w3 [⟨b3, [.int .i64 ab], T_int⟩, ⟨b, [.int .i64 k, .string u, .string l, .slice ap al ac, .slice kp kl kc, .string t], T_api_Node⟩] → (∀ w', Chg No w w' → J (ks.any fun y => deepN ab y.nd) w') → J0 w3 := by
      intro ab w3 g0 g40 H3 K3; subst hJ0
      have c03 := H3.chg
      refine H3.ldS 1 rfl (off := 4) rfl ?_
      have hcell := H3.cell 0 rfl (off := 0) rfl
      refine c_slices_ContainsFunc_sl_api_Node_api_Node_f1_51c1 ?_
      unfold VC_slices_ContainsFunc_sl_api_Node_api_Node_f1_51c1
      refine c_slices_IndexFunc_sl_api_Node_api_Node_f1_51c1 ?_
      show IdxNode (fun cs w' K => callJ Tryz.prog fn_tree_deep_1 #[.agg ⟨cs⟩, .pointer (some ⟨b3, 0, none⟩)] w' [.one .bool] K) kp kl w3 _
      refine IdxNode_ok (q := fun y => deepN ab y.nd) (hk.chg c03 (off_no _)) hmm (fun y hy w' K' hc kk => ?_) fun r w' hc hr => ?_
      · have hy2 := (hks y hy).chg0 (c03.trans0 hc)
        have ihy := @ih y hy
        have hmy := hkm y hy
        cases y with
        | mk yk yu yl yt yap yal yac yas ykp ykl ykc yks =>
          refine c_tree_deep_1 ?_
          unfold VC_tree_deep_1
          refine nodeBox (Hp.start w' No) fun b5 w5 H5 hb5 hc5 => ?_
          refine ldBox H5 0 rfl ?_
          refine ldI_i (hc5.cell (hc.cell hcell (fun h => h)) (fun h => h)) ?_
          exact ihy (hy2.chg0 hc5) hmy g0 g40 fun w6 hc6 => kk w6 ((hc.trans0 hc5).trans0 hc6)
      · by_cases h0 : 0 ≤ r
        · have := hr.1 h0
          rw [decide_eq_true (show r ≥ 0 from h0), ← this]; exact K3 w' (c03.trans0 hc)
        · have : (ks.any fun y => deepN ab y.nd) = false := by rw [Bool.eq_false_iff]; exact fun h => h0 (hr.2 h)
          rw [decide_eq_false (show ¬ r ≥ 0 from h0), ← this]; exact K3 w' (c03.trans0 hc)
    clear hJ0
    refine H2.ldI 1 rfl (off := 0) rfl ?_
    refine condB_eq (fun e2 => ?_) (fun e2 => ?_)
    · rw [if_pos e2] at K
      refine H2.ldI 0 rfl (off := 0) rfl ?_
      refine condB_d (fun hd => ?_) (fun hd => ?_)
      · rw [if_pos hd] at K; exact K w2 c02
      · rw [if_neg hd] at K
        refine H2.ldI 0 rfl (off := 0) rfl ?_
        rw [w64_of (by omega) (by omega)]
        refine H2.stV 0 rfl (off := 0) (by simp) fun w5 H5 hc5 => ?_
        simp only [List.set_cons_zero] at H5
        exact k0 (above + 1) w5 (by omega) (by omega) H5 K
    · rw [if_neg e2] at K
      exact k0 above w2 h0 h40 H2 K
end
end Go.Proofs.YtmnbgcgealpcbaaGreatDoor

/-
  What Check asks of texts: strings.Contains, HasSuffix, TrimLeft, EqualFold.
-/

set_option linter.unusedVariables false
set_option linter.unusedSimpArgs false
namespace Go.Proofs
open Go.Shelf
def Tryz.lays144_ren : Go.Shelf.Ren := ⟨fun | 144 => Go.Proofs.YtmnbgcgealpcbaaGreatDoor.fn_strings_Contains | 143 => Go.Proofs.YtmnbgcgealpcbaaGreatDoor.fn_strings_Index | 219 => Go.Proofs.YtmnbgcgealpcbaaGreatDoor.fn_internal_stringslite_Index | 217 => Go.Proofs.YtmnbgcgealpcbaaGreatDoor.fn_internal_stringslite_IndexByte | 225 => Go.Proofs.YtmnbgcgealpcbaaGreatDoor.fn_internal_bytealg_IndexString | 224 => Go.Proofs.YtmnbgcgealpcbaaGreatDoor.fn_internal_bytealg_Cutover | 267 => Go.Proofs.YtmnbgcgealpcbaaGreatDoor.fn_internal_bytealg_IndexRabinKarp_string | 266 => Go.Proofs.YtmnbgcgealpcbaaGreatDoor.fn_internal_bytealg_IndexByteString | 314 => Go.Proofs.YtmnbgcgealpcbaaGreatDoor.fn_internal_bytealg_hashStr_string | n => n, fun | 9 => Go.Proofs.YtmnbgcgealpcbaaGreatDoor.T_string | 4 => Go.Proofs.YtmnbgcgealpcbaaGreatDoor.T_bool | 3 => Go.Proofs.YtmnbgcgealpcbaaGreatDoor.T_int | 5 => Go.Proofs.YtmnbgcgealpcbaaGreatDoor.T_uint8 | 46 => Go.Proofs.YtmnbgcgealpcbaaGreatDoor.T_uint | 146 => Go.Proofs.YtmnbgcgealpcbaaGreatDoor.T_uint32_uint32 | 51 => Go.Proofs.YtmnbgcgealpcbaaGreatDoor.T_uint32 | n => n, fun | 1 => 5 | n => n⟩
theorem Tryz.lays144 : Go.Proofs.Lays.n144 Tryz.prog Tryz.lays144_ren where
  mixed := by kernel_rfl
  f143 := by kernel_rfl
  f144 := by kernel_rfl
  f217 := by kernel_rfl
  f219 := by kernel_rfl
  f224 := by kernel_rfl
  f225 := by kernel_rfl
  f266 := by kernel_rfl
  f267 := by kernel_rfl
  f314 := by kernel_rfl
  t3 := by kernel_rfl
  a3 := fun w => by kernel_rfl
  z3 := fun w => by kernel_rfl
  v3 := fun w => by kernel_rfl
  t4 := by kernel_rfl
  a4 := fun w => by kernel_rfl
  z4 := fun w => by kernel_rfl
  v4 := fun w => by kernel_rfl
  t5 := by kernel_rfl
  a5 := fun w => by kernel_rfl
  z5 := fun w => by kernel_rfl
  v5 := fun w => by kernel_rfl
  t9 := by kernel_rfl
  a9 := fun w => by kernel_rfl
  z9 := fun w => by kernel_rfl
  v9 := fun w => by kernel_rfl
  t46 := by kernel_rfl
  a46 := fun w => by kernel_rfl
  z46 := fun w => by kernel_rfl
  v46 := fun w => by kernel_rfl
  t51 := by kernel_rfl
  a51 := fun w => by kernel_rfl
  z51 := fun w => by kernel_rfl
  v51 := fun w => by kernel_rfl
  t146 := by kernel_rfl
  a146 := fun w => by kernel_rfl
  z146 := fun w => by kernel_rfl
  v146 := fun w => by kernel_rfl
  g1 := by kernel_rfl
def Tryz.lays161_ren : Go.Shelf.Ren := ⟨fun | 161 => Go.Proofs.YtmnbgcgealpcbaaGreatDoor.fn_strings_TrimLeft | 231 => Go.Proofs.YtmnbgcgealpcbaaGreatDoor.fn_strings_trimLeftByte | 227 => Go.Proofs.YtmnbgcgealpcbaaGreatDoor.fn_strings_makeASCIISet | 233 => Go.Proofs.YtmnbgcgealpcbaaGreatDoor.fn_strings_trimLeftASCII | 235 => Go.Proofs.YtmnbgcgealpcbaaGreatDoor.fn_strings_trimLeftUnicode | 228 => Go.Proofs.YtmnbgcgealpcbaaGreatDoor.fn_strings_asciiSet_contains | 197 => Go.Proofs.YtmnbgcgealpcbaaGreatDoor.fn_unicode_utf8_DecodeRuneInString | 151 => Go.Proofs.YtmnbgcgealpcbaaGreatDoor.fn_strings_ContainsRune | 260 => Go.Proofs.YtmnbgcgealpcbaaGreatDoor.fn_unicode_utf8_decodeRuneInStringSlow | 152 => Go.Proofs.YtmnbgcgealpcbaaGreatDoor.fn_strings_IndexRune | 137 => Go.Proofs.YtmnbgcgealpcbaaGreatDoor.fn_strings_IndexByte | 119 => Go.Proofs.YtmnbgcgealpcbaaGreatDoor.fn_unicode_utf8_ValidRune | 224 => Go.Proofs.YtmnbgcgealpcbaaGreatDoor.fn_internal_bytealg_Cutover | 225 => Go.Proofs.YtmnbgcgealpcbaaGreatDoor.fn_internal_bytealg_IndexString | 217 => Go.Proofs.YtmnbgcgealpcbaaGreatDoor.fn_internal_stringslite_IndexByte | 266 => Go.Proofs.YtmnbgcgealpcbaaGreatDoor.fn_internal_bytealg_IndexByteString | n => n, fun | 9 => Go.Proofs.YtmnbgcgealpcbaaGreatDoor.T_string | 4 => Go.Proofs.YtmnbgcgealpcbaaGreatDoor.T_bool | 3 => Go.Proofs.YtmnbgcgealpcbaaGreatDoor.T_int | 5 => Go.Proofs.YtmnbgcgealpcbaaGreatDoor.T_uint8 | 117 => Go.Proofs.YtmnbgcgealpcbaaGreatDoor.T_strings_asciiSet_bool | 116 => Go.Proofs.YtmnbgcgealpcbaaGreatDoor.T_strings_asciiSet | 0 => Go.Proofs.YtmnbgcgealpcbaaGreatDoor.T_x | 124 => Go.Proofs.YtmnbgcgealpcbaaGreatDoor.T_ptr_strings_asciiSet | 105 => Go.Proofs.YtmnbgcgealpcbaaGreatDoor.T_int32_int | 21 => Go.Proofs.YtmnbgcgealpcbaaGreatDoor.T_int32 | 119 => Go.Proofs.YtmnbgcgealpcbaaGreatDoor.T_256_uint8 | 46 => Go.Proofs.YtmnbgcgealpcbaaGreatDoor.T_uint | 139 => Go.Proofs.YtmnbgcgealpcbaaGreatDoor.T_16_utf8_acceptRange | 138 => Go.Proofs.YtmnbgcgealpcbaaGreatDoor.T_utf8_acceptRange | n => n, fun | 3 => 0 | 4 => 1 | n => n⟩
theorem Tryz.lays161 : Go.Proofs.Lays.n161 Tryz.prog Tryz.lays161_ren where
  mixed := by kernel_rfl
  f119 := by kernel_rfl
  f137 := by kernel_rfl
  f151 := by kernel_rfl
  f152 := by kernel_rfl
  f161 := by kernel_rfl
  f197 := by kernel_rfl
  f217 := by kernel_rfl
  f224 := by kernel_rfl
  f225 := by kernel_rfl
  f227 := by kernel_rfl
  f228 := by kernel_rfl
  f231 := by kernel_rfl
  f233 := by kernel_rfl
  f235 := by kernel_rfl
  f260 := by kernel_rfl
  f266 := by kernel_rfl
  t0 := by kernel_rfl
  a0 := fun w => by kernel_rfl
  z0 := fun w => by kernel_rfl
  v0 := fun w => by kernel_rfl
  t3 := by kernel_rfl
  a3 := fun w => by kernel_rfl
  z3 := fun w => by kernel_rfl
  v3 := fun w => by kernel_rfl
  t4 := by kernel_rfl
  a4 := fun w => by kernel_rfl
  z4 := fun w => by kernel_rfl
  v4 := fun w => by kernel_rfl
  t5 := by kernel_rfl
  a5 := fun w => by kernel_rfl
  z5 := fun w => by kernel_rfl
  v5 := fun w => by kernel_rfl
  t9 := by kernel_rfl
  a9 := fun w => by kernel_rfl
  z9 := fun w => by kernel_rfl
  v9 := fun w => by kernel_rfl
  t21 := by kernel_rfl
  a21 := fun w => by kernel_rfl
  z21 := fun w => by kernel_rfl
  v21 := fun w => by kernel_rfl
  t46 := by kernel_rfl
  a46 := fun w => by kernel_rfl
  z46 := fun w => by kernel_rfl
  v46 := fun w => by kernel_rfl
  t105 := by kernel_rfl
  a105 := fun w => by kernel_rfl
  z105 := fun w => by kernel_rfl
  v105 := fun w => by kernel_rfl
  t116 := by kernel_rfl
  a116 := fun w => by kernel_rfl
  z116 := fun w => by kernel_rfl
  t117 := by kernel_rfl
  a117 := fun w => by kernel_rfl
  z117 := fun w => by kernel_rfl
  v117 := fun w => by kernel_rfl
  t119 := by kernel_rfl
  a119 := fun w => by kernel_rfl
  z119 := fun w => by kernel_rfl
  t124 := by kernel_rfl
  a124 := fun w => by kernel_rfl
  z124 := fun w => by kernel_rfl
  v124 := fun w => by kernel_rfl
  t138 := by kernel_rfl
  a138 := fun w => by kernel_rfl
  z138 := fun w => by kernel_rfl
  v138 := fun w => by kernel_rfl
  t139 := by kernel_rfl
  a139 := fun w => by kernel_rfl
  z139 := fun w => by kernel_rfl
  v139 := fun w => by kernel_rfl
  g3 := by kernel_rfl
  g4 := by kernel_rfl
end Go.Proofs
namespace Go.Vc
open Go Go.Lib
theorem index_has (w : List UInt8) : ∀ l : List UInt8, (0 ≤ Lib.index l w ↔ hasS w l = true)
  | [] => by
    unfold Lib.index hasS
    cases w with
    | nil => simp
    | cons a w => simp [List.isPrefixOf]
  | b :: l => by
    have ih := index_has w l
    unfold Lib.index hasS
    cases h : w.isPrefixOf (b :: l) with
    | true => simp
    | false =>
      simp only [Bool.false_eq_true, if_false, Bool.false_or]
      rw [← ih]
      split
      · rename_i h1
        have : Lib.index l w = -1 := by simpa using h1
        omega
      · rename_i h1
        have : Lib.index l w ≠ -1 := by simpa using h1
        constructor
        · intro h2
          have := Lib.index_ge l w
          omega
        · intro h2; omega
theorem contains_has (l w : List UInt8) : Lib.contains l w = hasS w l := by
  unfold Lib.contains
  rw [Bool.eq_iff_iff, decide_eq_true_eq, index_has]
theorem trim_same (l : List UInt8) : decide (l = Lib.trimLeftS l [32, 9, 10]) = decide (l.head? ≠ some 32 ∧ l.head? ≠ some 9 ∧ l.head? ≠ some 10) := by
  unfold Lib.trimLeftS
  rw [decide_eq_decide]
  cases l with
  | nil => simp
  | cons b l =>
    rw [List.dropWhile_cons]
    simp only [List.head?_cons, ne_eq, Option.some.injEq]
    constructor
    · intro h
      split at h
      · have h1 := congrArg List.length h
        have h2 := (List.dropWhile_suffix (l := l) (fun x => [32, 9, 10].contains x)).length_le
        simp only [List.length_cons] at h1
        omega
      · rename_i hc
        simp at hc
        exact ⟨hc.1, hc.2.1, hc.2.2⟩
    · intro h
      rw [if_neg (by simp; exact h)]
theorem low_case : ∀ (a : Fin 256), a.val < 128 → ∀ x ∈ [(120 : UInt8), 109, 108],
    (((UInt8.ofNat a.val) = x) ∨ ((if x.toNat < a.val then x.toNat else a.val) ≥ 65 ∧ (if x.toNat < a.val then x.toNat else a.val) ≤ 90 ∧ (if x.toNat < a.val then a.val else x.toNat) = (if x.toNat < a.val then x.toNat else a.val) + 32)) ↔ low3 (UInt8.ofNat a.val) = x := by decide +kernel
theorem or_big : ∀ (a : Fin 256), ∀ x ∈ [(120 : Int), 109, 108], bOr .u8 ((a.val : Nat) : Int) x ≥ 128 ↔ 128 ≤ a.val := by decide +kernel
theorem low3_big {a : UInt8} (h : 128 ≤ a.toNat) : low3 a = a := by unfold low3; rw [if_neg (by omega)]
end Go.Vc
namespace Go.Proofs.YtmnbgcgealpcbaaGreatDoor
open Go Go.Vc Go.Lib
/-- What the library's tables are asked for. -/
def FoldTab (w : World) : Prop := ∀ p ∈ [(120, (88 : Int)), (88, 120), (109, 77), (77, 109), (108, 76), (76, 108)], w.cell? ⟨2, p.1, none⟩ = some (.int .u16 p.2)
structure TT (w : World) : Prop where
  tabs : Tabs w
  fold : FoldTab w
  maxl : ∃ m : Int, w.cell? ⟨5, 0, none⟩ = some (.int .i64 m)
theorem TT.chg {w w' : World} (h : TT w) (hc : Chg No w w') : TT w' :=
  ⟨h.tabs.chg hc, fun p hp => hc.cell (h.fold p hp) (fun f => f), by obtain ⟨m, hm⟩ := h.maxl; exact ⟨m, hc.cell hm (fun f => f)⟩⟩
section
variable {w : World}
theorem Contains_ok {s t : ByteArray} {J : Bool → World → Prop} (T : TT w) (hs : s.size ≤ 100000000) (K : J (hasS (bl t) (bl s)) w) : callJ Tryz.prog fn_strings_Contains #[.string s, .string t] w [.one .bool] J := by
  obtain ⟨m, hm⟩ := T.maxl
  refine Calls.mono (Any.strings_Contains Tryz.lays144 s t m w (by omega) hm) fun e w' he => ?_
  obtain ⟨rfl, rfl⟩ := he
  rw [contains_has]
  exact ⟨_, rfl, K⟩
theorem HasSuffix_ok {s : ByteArray} {b : UInt8} {J : Bool → World → Prop} (hs : s.size ≤ 100000000) (K : J (decide ((bl s).getLast? = some b)) w) : callJ Tryz.prog fn_strings_HasSuffix #[.string s, .string ⟨#[b]⟩] w [.one .bool] J := by
  refine c_strings_HasSuffix ?_
  unfold VC_strings_HasSuffix
  refine c_internal_stringslite_HasSuffix ?_
  unfold VC_internal_stringslite_HasSuffix
  have hsl := bl_len s
  simp only [withJ]
  refine condB_d (fun h1 => ?_) (fun h1 => ?_)
  · have e1 : (⟨#[b]⟩ : ByteArray).size = 1 := rfl
    rw [e1] at h1 ⊢
    have e2 : w64 ((s.size : Int) - ((1 : Nat) : Int)) = ((s.size - 1 : Nat) : Int) := by rw [w64_of] <;> omega
    rw [e2]
    refine slStr_drop (by omega) fun t ht _ => ?_
    rw [beqS]
    have : decide (t = (⟨#[b]⟩ : ByteArray)) = decide ((bl s).getLast? = some b) := by
      rw [decide_eq_decide]
      have hne : bl s ≠ [] := by intro e; rw [e] at hsl; simp at hsl; omega
      have hd : (bl s).drop (s.size - 1) = [(bl s).getLast hne] := by
        have hdl : (bl s).dropLast ++ [(bl s).getLast hne] = bl s := List.dropLast_concat_getLast hne
        conv => lhs; rw [← hdl]
        exact List.drop_left' (by rw [List.length_dropLast, hsl])
      rw [List.getLast?_eq_some_getLast hne, Option.some.injEq]
      constructor
      · intro h
        rw [h, hd] at ht
        have : [b] = [(bl s).getLast hne] := ht
        simpa using this.symm
      · intro h
        apply bl_ext
        rw [ht, hd, h]
    rw [this]; exact K
  · have h0 : bl s = [] := List.eq_nil_of_length_eq_zero (by have : (⟨#[b]⟩ : ByteArray).size = 1 := rfl; omega)
    rw [h0] at K
    simpa using K
theorem TrimLeft_ok {s : ByteArray} {J : ByteArray → World → Prop} (K : ∀ w', Chg No w w' → J (mkB (Lib.trimLeftS (bl s) [32, 9, 10])) w') : callJ Tryz.prog fn_strings_TrimLeft #[.string s, .string ⟨#[32, 9, 10]⟩] w [.one .str] J := by
  refine Calls.mono (Any.strings_TrimLeft_laid Tryz.lays161 (by kernel_rfl) s ⟨#[32, 9, 10]⟩ w (by decide) (fun j b hb => ?_)) fun e w' he => ?_
  · match j with
    | 0 | 1 | 2 => simp at hb; subst hb; decide
    | j + 3 => simp at hb
  · obtain ⟨rfl, hb⟩ := he
    exact ⟨_, rfl, K w' (Chg.of_below hb)⟩
end
end Go.Proofs.YtmnbgcgealpcbaaGreatDoor

/-
  strings.EqualFold of a text and "xml"; names, chars and order of a node.
-/

set_option linter.unusedVariables false
set_option linter.unusedSimpArgs false
namespace Go.Vc
open Go Go.Lib
def xmlB : List UInt8 := [120, 109, 108]
theorem xml_mem {i : Nat} {x : UInt8} (h : xmlB[i]? = some x) : x ∈ [(120 : UInt8), 109, 108] := List.mem_of_getElem? h
theorem isXml_take {l : List UInt8} {i : Nat} {a x : UInt8} (ha : l[i]? = some a) (hx : xmlB[i]? = some x) (hne : low3 a ≠ x) : isXml l = false := by
  unfold isXml
  rw [decide_eq_false_iff_not]
  intro h
  have : (l.map low3)[i]? = some (low3 a) := by rw [List.getElem?_map, ha]; rfl
  rw [h] at this
  have h2 : ([120, 109, 108] : List UInt8)[i]? = some x := hx
  rw [h2] at this
  exact hne (Option.some.inj this).symm
theorem take_get {α : Type} {l : List α} {k : Nat} {c : α} (h : l[k]? = some c) : l.take (k + 1) = l.take k ++ [c] := by
  obtain ⟨h1, h2⟩ := List.getElem?_eq_some_iff.1 h
  rw [List.take_succ_eq_append_getElem h1, h2]
theorem dec_big {l : List UInt8} {a : UInt8} (h : l[0]? = some a) (ha : 128 ≤ a.toNat) : 128 ≤ (dec l).1 := by
  have hg := gB_of h
  rw [dec_rd]
  split
  · decide
  · rename_i h0
    rcases rd_facts l with ⟨q, _⟩ | ⟨q, q2⟩ | q | q | q
    · exact absurd q h0
    · omega
    · exact q.2.2.2.2.2.1
    · omega
    · omega
theorem small_case : ∀ x ∈ [(120 : UInt8), 109, 108], x.toNat < 128 ∧ 91 ≤ x.toNat := by decide
end Go.Vc
namespace Go.Proofs.YtmnbgcgealpcbaaGreatDoor
open Go Go.Vc Go.Lib
section
variable {w : World}
theorem Fold_ok {r : Nat} {v : Int} {J : Int → World → Prop} (hr : r < 128) (hc : w.cell? ⟨2, r, none⟩ = some (.int .u16 v)) (hv : 0 ≤ v ∧ v < 128) (K : J v w) : callJ Tryz.prog fn_unicode_SimpleFold #[.int .i32 (r : Int)] w [.one (.int .i32)] J := by
  refine c_unicode_SimpleFold ?_
  unfold VC_unicode_SimpleFold
  generalize hQ : (1114111 : Int) = Q
  refine withJ_i fun J13 hJ13 => ?_
  have k : ∀ b, b = false → J13 b w := by
    intro b hb; subst hJ13; subst hb
    have e64 : w64 (r : Int) = (r : Int) := w64_of (by omega) (by omega)
    have e128 : decide ((r : Int) < 128) = true := decide_eq_true (by omega)
    simp only [e64, e128, condB]
    refine ⟨by omega, by omega, ?_⟩
    simp only [nonNil, Addr.add_mk, Int.toNat_natCast, Nat.mul_one, Nat.zero_add]
    refine ldI_i hc ?_
    rw [wrap_i32 _ (by omega) (by omega)]
    exact K
  clear hJ13
  refine condB_d (fun h => by omega) (fun _ => ?_)
  exact k _ (decide_eq_false (by omega))
set_option maxRecDepth 100000 in
theorem EqFold_ok {s : ByteArray} {J : Bool → World → Prop} (F : FoldTab w) (hs : s.size ≤ 140737488355328) (K : ∀ w', Chg No w w' → J (isXml (bl s)) w') : callJ Tryz.prog fn_strings_EqualFold #[.string s, .string ⟨#[120, 109, 108]⟩] w [.one .bool] J := by
  refine c_strings_EqualFold ?_
  unfold VC_strings_EqualFold
  have hsl := bl_len s
  have ht3 : (⟨#[120, 109, 108]⟩ : ByteArray).size = 3 := rfl
  have htb : bl ⟨#[120, 109, 108]⟩ = xmlB := rfl
  rw [ht3]
  refine ⟨fun i w' t => ∃ k : Nat, i = k ∧ k ≤ s.size ∧ k ≤ 3 ∧ t = 3 - k ∧ w' = w ∧ ((bl s).take k).map low3 = xmlB.take k, ⟨_, 0, rfl, Nat.zero_le _, Nat.zero_le _, rfl, rfl, rfl⟩, ?_⟩
  rintro i w1 t ⟨k, rfl, hk, hk3, rfl, rfl, hpre⟩
  refine condB_d (fun hlt => ?_) (fun hge => ?_)
  · have hks : k < s.size := by split at hlt <;> omega
    have hk3' : k < 3 := by split at hlt <;> omega
    have ha := List.getElem?_eq_getElem (l := bl s) (i := k) (by omega)
    generalize (bl s)[k]'(by omega) = a at ha
    have hx := List.getElem?_eq_getElem (l := xmlB) (i := k) (by show k < 3; exact hk3')
    generalize xmlB[k]'(by show k < 3; exact hk3') = x at hx
    have hxm := xml_mem hx
    have hxs := small_case x hxm
    have hal := a.toNat_lt
    refine withJ_i fun J0 hJ0 => ?_
    have k0 : low3 a = x → J0 w1 := by
      intro he; subst hJ0
      refine ⟨_, by omega, k + 1, by rw [w64_of] <;> omega, by omega, by omega, rfl, rfl, ?_⟩
      rw [take_get ha, take_get hx, List.map_append, hpre, List.map_cons, he]; rfl
    clear hJ0
    refine idxStr_b (by omega) (by omega) fun a2 ha2 => ?_
    rw [Int.toNat_natCast, ha] at ha2
    obtain rfl := Option.some.inj ha2
    refine idxStr_b (by omega) (by rw [ht3]; omega) fun x2 hx2 => ?_
    rw [Int.toNat_natCast, htb, hx] at hx2
    obtain rfl := Option.some.inj hx2
    have hor : bOr .u8 ((a.toNat : Nat) : Int) ((x.toNat : Nat) : Int) ≥ 128 ↔ 128 ≤ a.toNat := or_big ⟨a.toNat, hal⟩ ((x.toNat : Nat) : Int) (by
      have : ∀ x ∈ [(120 : UInt8), 109, 108], ((x.toNat : Nat) : Int) ∈ [(120 : Int), 109, 108] := by decide
      exact this x hxm)
    have hof : UInt8.ofNat a.toNat = a := by simp
    refine condB_d (fun hbig => ?_) (fun hsmall => ?_)
    · have h128 := hor.1 hbig
      have hfalse : isXml (bl s) = false := isXml_take ha hx (by
        rw [low3_big h128]; intro e; subst e; omega)
      rw [hfalse] at K
      refine slStr_drop (by omega) fun s62 h62 hz62 => ?_
      refine slStr_drop (by rw [ht3]; omega) fun s65 h65 hz65 => ?_
      refine newB_i fun b67 w3 hb67 hw3 => ?_
      have hc3 : Chg No w1 w3 := by rw [hw3]; exact chg_alloc _ _
      have hh3 : w3.heap[b67]? = some (.stringIter s62 0) := by rw [hb67, hw3]; exact heap_alloc_new w1 _
      refine ⟨fun t w' m => t = s65 ∧ w' = w3, ⟨0, rfl, rfl⟩, ?_⟩
      rintro t1 w4 m1 ⟨rfl, rfl⟩
      refine ⟨s62, 0, hh3, fun hlt2 => ?_, fun hge2 => by omega⟩
      generalize hw5 : setBlk w4 b67 _ = w5
      have hc5 : Chg No w1 w5 := by rw [← hw5]; exact hc3.setBlk _ _ (fun h => by rw [hb67] at h; omega)
      have hdec : (Utf8.decode s62 0).1 = ((dec (bl s62)).1 : Int) ∧ 128 ≤ (dec (bl s62)).1 := by
        refine ⟨by rw [decode_dec, List.drop_zero], dec_big (a := a) ?_ h128⟩
        rw [h62, List.getElem?_drop]; exact ha
      rw [hdec.1]
      generalize hch : (dec (bl s62)).1 = ch at hdec ⊢
      have hch2 := hdec.2
      have hz : t1.size = 3 - k := by rw [hz65, ht3]
      refine condB_eq (fun h => by omega) (fun _ => ?_)
      have ht0 : (bl t1)[0]? = some x := by
        rw [h65, List.getElem?_drop, htb, Nat.add_zero]; exact hx
      refine c_unicode_utf8_DecodeRuneInString ?_
      unfold VC_unicode_utf8_DecodeRuneInString
      refine withJ_i fun J10 hJ10 => ?_
      have k10 : J10 true w5 := by
        subst hJ10
        refine condB_i (fun _ => ?_) (fun h => by cases h)
        refine idxStr_b (by decide) (by omega) fun y hy => ?_
        rw [show (0 : Int).toNat = 0 from rfl, ht0] at hy
        obtain rfl := Option.some.inj hy
        rw [wrap_i32 _ (by omega) (by omega)]
        refine slStr_drop (i := 1) (by omega) fun s81 h81 hz81 => ?_
        refine condB_eq (fun h => by omega) (fun _ => ?_)
        refine withJ_i fun J10 hJ10 => ?_
        have kk : J10 ((x.toNat : Nat) : Int) (ch : Int) w5 := by
          subst hJ10
          refine condB_d (fun h => by omega) (fun _ => ?_)
          have hF : ∃ y : Nat, y < 128 ∧ y ≠ x.toNat ∧ w5.cell? ⟨2, x.toNat, none⟩ = some (.int .u16 (y : Int)) ∧ w5.cell? ⟨2, y, none⟩ = some (.int .u16 (x.toNat : Int)) := by
            have g : ∀ p ∈ [(120, (88 : Int)), (88, 120), (109, 77), (77, 109), (108, 76), (76, 108)], w5.cell? ⟨2, p.1, none⟩ = some (.int .u16 p.2) := fun p hp => hc5.cell (F p hp) (fun f => f)
            simp only [List.mem_cons, List.not_mem_nil, or_false] at hxm
            rcases hxm with rfl | rfl | rfl
            · exact ⟨88, by decide, by decide, g (120, 88) (by simp), g (88, 120) (by simp)⟩
            · exact ⟨77, by decide, by decide, g (109, 77) (by simp), g (77, 109) (by simp)⟩
            · exact ⟨76, by decide, by decide, g (108, 76) (by simp), g (76, 108) (by simp)⟩
          obtain ⟨y, hy1, hy2, hy3, hy4⟩ := hF
          refine Fold_ok (r := x.toNat) hxs.1 hy3 (by omega) ?_
          refine ⟨fun r w' m => w' = w5 ∧ ((r = (y : Int) ∧ m = 1) ∨ (r = (x.toNat : Int) ∧ m = 0)), ⟨1, rfl, .inl ⟨rfl, rfl⟩⟩, ?_⟩
          rintro r w6 m2 ⟨rfl, hr⟩
          refine withJ_i fun J114 hJ114 => ?_
          rcases hr with ⟨rfl, rfl⟩ | ⟨rfl, rfl⟩
          · have : J114 true w6 := by
              subst hJ114
              refine condB_i (fun _ => ?_) (fun h => by cases h)
              exact Fold_ok (r := y) hy1 hy4 (by omega) ⟨0, by decide, rfl, .inr ⟨rfl, rfl⟩⟩
            clear hJ114
            refine condB_ne (fun _ => ?_) (fun h => by omega)
            rw [decide_eq_true (by omega)]; exact this
          · have : J114 false w6 := by
              subst hJ114
              refine condB_i (fun h => by cases h) (fun _ => ?_)
              refine condB_eq (fun h => by omega) (fun _ => ?_)
              exact K w6 hc5
            clear hJ114
            exact condB_ne (fun h => absurd rfl h) (fun _ => this)
        clear hJ10
        exact condB_d (fun _ => kk) (fun h => by omega)
      clear hJ10
      rw [beqS]
      have hne : ¬ t1 = ⟨#[]⟩ := by
        intro e
        have : t1.size = 0 := by rw [e]; rfl
        omega
      rw [decide_eq_false hne]
      refine condB_i (fun _ => ?_) (fun h => by cases h)
      refine idxStr_b (by decide) (by omega) fun y hy => ?_
      rw [show (0 : Int).toNat = 0 from rfl, ht0] at hy
      obtain rfl := Option.some.inj hy
      rw [decide_eq_true (by omega)]
      exact k10
    · have h128 : a.toNat < 128 := by
        rcases Nat.lt_or_ge a.toNat 128 with h | h
        · exact h
        · exact absurd (hor.2 h) hsmall
      have hcase := low_case ⟨a.toNat, hal⟩ h128 x hxm
      simp only [hof] at hcase
      have kbad : low3 a ≠ x → J false w1 := fun hne => by
        have := isXml_take ha hx hne
        rw [this] at K; exact K w1 (Chg.refl _ _)
      refine condB_eq (fun he => ?_) (fun hne => ?_)
      · have : a = x := UInt8.toNat_inj.1 (by omega)
        exact k0 (hcase.1 (.inl this))
      · have hne' : a ≠ x := fun e => hne (by rw [e])
        refine withJ_i fun J7 hJ7 => ?_
        have k7 : ∀ sr tr : Nat, sr < 128 → tr < 128 → ((sr ≥ 65 ∧ sr ≤ 90 ∧ tr = sr + 32) ↔ low3 a = x) → J7 (sr : Int) (tr : Int) w1 := by
          intro sr tr h1 h2 hiff; subst hJ7
          have e : IntKind.u8.wrap ((IntKind.u8.wrap ((sr : Int) + 97)) - 65) = ((sr + 32 : Nat) : Int) := by
            have e1 : IntKind.u8.wrap ((sr : Int) + 97) = ((sr + 97 : Nat) : Int) := by simp [IntKind.wrap, IntKind.bits, IntKind.signed] <;> omega
            rw [e1]; simp [IntKind.wrap, IntKind.bits, IntKind.signed] <;> omega
          refine withJ_i fun J54 hJ54 => ?_
          have k54 : ∀ b : Bool, (b = true ↔ low3 a = x) → J54 b w1 := by
            intro b hb; subst hJ54
            exact meetI hb (fun h => k0 h) (fun h => kbad h)
          clear hJ54
          refine condB_d (fun g1 => ?_) (fun g1 => k54 _ (bF (by rw [← hiff]; omega)))
          refine condB_d (fun g2 => ?_) (fun g2 => k54 _ (bF (by rw [← hiff]; omega)))
          rw [e]
          exact k54 _ (bQ (by rw [← hiff]; omega))
        clear hJ7
        refine condB_d (fun h => ?_) (fun h => ?_)
        · refine k7 _ _ hxs.1 h128 ?_
          rw [← hcase, if_pos (by omega), if_pos (by omega)]
          exact ⟨fun h => .inr h, fun h => h.resolve_left hne'⟩
        · refine k7 _ _ h128 hxs.1 ?_
          rw [← hcase, if_neg (by omega), if_neg (by omega)]
          exact ⟨fun h => .inr h, fun h => h.resolve_left hne'⟩
  · have := K w1 (Chg.refl _ _)
    have hx : isXml (bl s) = ((s.size : Int) == ((3 : Nat) : Int)) := by
      unfold isXml
      by_cases h3 : s.size = 3
      · have hk : k = 3 := by rw [h3] at hge; simp at hge; omega
        subst hk
        rw [List.take_of_length_le (by omega), List.take_of_length_le (by decide)] at hpre
        rw [decide_eq_true (show (bl s).map low3 = [120, 109, 108] from hpre), h3]; rfl
      · rw [decide_eq_false (fun h => h3 (by have := congrArg List.length h; rw [List.length_map, hsl] at this; exact this)), beq_eq_false_iff_ne.2 (by omega)]
    rw [hx] at this
    exact this
end
end Go.Proofs.YtmnbgcgealpcbaaGreatDoor

/-
  What Check asks of each node: sizes, names, chars, order, texts.
-/

set_option linter.unusedVariables false
set_option linter.unusedSimpArgs false
namespace Go.Vc
open Go Go.Lib
theorem decAny {α : Type} {l : List α} {q : α → Bool} {r : Int} (hr : 0 ≤ r ↔ l.any q = true) : decide (r ≥ 0) = l.any q := by
  rw [Bool.eq_iff_iff, decide_eq_true_eq]; exact hr
theorem not_all {α : Type} (l : List α) (q : α → Bool) : (l.any fun x => !q x) = !l.all q := by
  rw [List.not_all_eq_any_not]
end Go.Vc
namespace Go.Proofs.YtmnbgcgealpcbaaGreatDoor
open Go Go.Vc Go.Lib
section
variable {w : World}
theorem AnyAttr_great {p : Option Addr} {l c : Nat} {L : List At} {J : Bool → World → Prop} (h : Sl w p l 3 (rows atc L)) (hm : l ≤ 100000000) (K : ∀ w', Chg No w w' → J (L.any fun a => decide (8192 < a.2.2.size)) w') :
    callJ Tryz.prog fn_slices_ContainsFunc_sl_api_Attr_api_Attr #[.slice p l c, .func (.func 52) #[] #[]] w [.one .bool] J := by
  refine c_slices_ContainsFunc_sl_api_Attr_api_Attr_f1_52 ?_
  unfold VC_slices_ContainsFunc_sl_api_Attr_api_Attr_f1_52
  refine c_slices_IndexFunc_sl_api_Attr_api_Attr_f1_52 ?_
  show IdxAttr (fun cs w' K => callJ Tryz.prog fn_tree_great_1 #[.agg ⟨cs⟩] w' [.one .bool] K) p l w _
  refine IdxAttr_ok (q := fun a => decide (8192 < a.2.2.size)) h hm (fun x hx w' K' hc k => ?_) fun r w' hc hr => by rw [decAny hr]; exact K w' hc
  refine c_tree_great_1 ?_
  unfold VC_tree_great_1
  refine nodeBox (Hp.start w' No) fun b w1 H1 hb hc1 => ?_
  refine H1.ldStr 0 rfl (off := 2) rfl ?_
  rw [show decide ((x.2.2.size : Int) > 8192) = decide (8192 < x.2.2.size) from decide_eq_decide.2 (by omega)]
  exact k w1 (hc.trans0 hc1)
theorem Great_ok {x : NV} {J : Bool → World → Prop} (hx : x.Ok w) (hm : x.mea ≤ 100000000) (K : ∀ w', Chg No w w' → J (greatN x.nd) w') : callJ Tryz.prog fn_tree_great #[.agg ⟨x.cells⟩] w [.one .bool] J := by
  cases hx with
  | @mk k u l t ap al ac ats kp kl kc ks ha hn hac hk hkn hkc hks =>
    have hal := ha.row (even_att ats) (by decide)
    have hmm : al ≤ 100000000 := by
      have := len_atSum ats
      simp only [NV.mea] at hm; omega
    have hg : greatN (NV.mk k u l t ap al ac ats kp kl kc ks).nd = (decide (64 < ats.length) || decide (8192 < t.size) || ats.any (fun a => decide (8192 < a.2.2.size))) := rfl
    rw [hg] at K
    refine c_tree_great ?_
    unfold VC_tree_great
    refine nodeBox (Hp.start w No) fun b w1 H1 hb hc1 => ?_
    simp only [withJ]
    refine H1.ldS 0 rfl (off := 3) rfl ?_
    refine condB_d (fun h1 => ?_) (fun h1 => ?_)
    · rw [decide_eq_true (show 64 < ats.length by omega)] at K; exact K w1 hc1
    rw [decide_eq_false (show ¬ 64 < ats.length by omega)] at K
    refine H1.ldStr 0 rfl (off := 5) rfl ?_
    refine condB_d (fun h2 => ?_) (fun h2 => ?_)
    · rw [decide_eq_true (show 8192 < t.size by omega)] at K; exact K w1 hc1
    rw [decide_eq_false (show ¬ 8192 < t.size by omega)] at K
    refine H1.ldS 0 rfl (off := 3) rfl ?_
    exact AnyAttr_great (ha.chg hc1 (off_no _)) hmm fun w2 hc2 => K w2 (hc1.trans0 hc2)
theorem cvBe {s : ByteArray} {K : Option Addr → Nat → Nat → World → Prop} (k : ∀ b c w', Bytes w' (some ⟨b, 0, none⟩) s.size (bl s) → s.size ≤ c → Chg No w w' → K (some ⟨b, 0, none⟩) s.size c w') :
    cvJ Tryz.prog T_string T_sl_uint8 (.string s) w K := by
  refine ⟨_, _, _, _, Lib.run_convert_string_bytes (P := Tryz.prog) w T_string T_sl_uint8 T_uint8 s (u := .string) (by kernel_rfl) (by kernel_rfl) (by kernel_rfl), k _ _ _ ⟨by rw [bcells_length, bl_len, Nat.mul_one], .inr ⟨_, rfl, ?_⟩⟩ (grownCap_ge _ _ _ _) ?_⟩
  · intro j v hv
    unfold bcells at hv
    rw [List.getElem?_map, Option.map_eq_some_iff] at hv
    obtain ⟨b, hb, rfl⟩ := hv
    have hj : j < s.size := by rw [← bl_len]; exact (List.getElem?_eq_some_iff.1 hb).1
    have := Lib.bytesWorld_cell w T_uint8 s j hj
    rw [Addr.add_mk, Nat.zero_add, this, List.getD_eq_getElem?_getD, hb]; rfl
  · exact ⟨rfl, rfl, rfl, by rw [Lib.bytesWorld_size]; omega, fun b hb _ => Lib.bytesWorld_at_old w T_uint8 s b hb⟩
theorem Bad_ok {s : ByteArray} {J : Bool → World → Prop} (T : Tabs w) (hs : s.size ≤ 100000000) (K : ∀ w', Chg No w w' → J (!fineB s) w') : callJ Tryz.prog fn_tree_bad #[.string s] w [.one .bool] J := by
  refine c_tree_bad ?_
  unfold VC_tree_bad
  refine cvBe fun b c w1 hB hle hc1 => ?_
  refine FaultC_ok hB hle (by omega) (T.chg hc1) fun w2 hc2 => ?_
  have e : ((((flt 0 (bl s)).2 : Nat) : Int) != 0) = !fineB s := by
    unfold fineB
    by_cases h : (flt 0 (bl s)).2 = 0
    · rw [h]; rfl
    · rw [decide_eq_false h, bne_iff_ne.2 (by omega)]; rfl
  rw [e]
  exact K w2 (hc1.trans0 hc2)
theorem WrongName_ok {n : Pr} {J : Bool → World → Prop} (T : Tabs w) (h1 : n.1.size ≤ 100000000) (h2 : n.2.size ≤ 100000000) (K : ∀ w', Chg No w w' → J (!calledN n) w') : callJ Tryz.prog fn_tree_wrongName #[.agg ⟨pr n⟩] w [.one .bool] J := by
  refine c_tree_wrongName ?_
  unfold VC_tree_wrongName
  refine nodeBox (Hp.start w No) fun b w1 H1 hb hc1 => ?_
  simp only [withJ]
  refine H1.ldStr 0 rfl (off := 1) rfl ?_
  refine NameC_ok (T.chg hc1) fun w2 hc2 => ?_
  have c02 := hc1.trans0 hc2
  unfold calledN at K
  refine condB_not (fun hn => ?_) (fun hn => ?_)
  · rw [hn] at K; exact K w2 c02
  rw [hn, Bool.true_and] at K
  have H2 := H1.step0 hc2
  refine H2.ldStr 0 rfl (off := 0) rfl ?_
  refine condB_d (fun h => ?_) (fun h => ?_)
  · rw [decide_eq_false (show ¬ n.1.size ≤ 100 by omega)] at K; exact K w2 c02
  rw [decide_eq_true (show n.1.size ≤ 100 by omega), Bool.true_and] at K
  refine H2.ldStr 0 rfl (off := 0) rfl ?_
  refine Bad_ok (T.chg c02) h1 fun w3 hc3 => ?_
  have c03 := c02.trans0 hc3
  refine condB_not (fun hf => ?_) (fun hf => ?_)
  · rw [hf] at K; exact K w3 c03
  rw [hf, Bool.true_and] at K
  refine (H2.step0 hc3).ldStr 0 rfl (off := 0) rfl ?_
  rw [beqS]
  have := K w3 c03
  rw [show (!decide (n.1 ≠ kXMLNS)) = decide (n.1 = kXMLNS) from by by_cases h : n.1 = kXMLNS <;> simp [h]] at this
  exact this
theorem AnyAttr_mis {p : Option Addr} {l c : Nat} {L : List At} {J : Bool → World → Prop} (T : Tabs w) (h : Sl w p l 3 (rows atc L)) (hm : l ≤ 100000000) (hz : ∀ a ∈ L, atSize a ≤ 100000000) (K : ∀ w', Chg No w w' → J (!L.all attrN) w') :
    callJ Tryz.prog fn_slices_ContainsFunc_sl_api_Attr_api_Attr #[.slice p l c, .func (.func 54) #[] #[]] w [.one .bool] J := by
  refine c_slices_ContainsFunc_sl_api_Attr_api_Attr_f1_54 ?_
  unfold VC_slices_ContainsFunc_sl_api_Attr_api_Attr_f1_54
  refine c_slices_IndexFunc_sl_api_Attr_api_Attr_f1_54 ?_
  show IdxAttr (fun cs w' K => callJ Tryz.prog fn_tree_misnamed_1 #[.agg ⟨cs⟩] w' [.one .bool] K) p l w _
  rw [← not_all] at K
  refine IdxAttr_ok (q := fun a => !attrN a) h hm (fun x hx w' K' hc k => ?_) fun r w' hc hr => by rw [decAny hr]; exact K w' hc
  have hzx := hz x hx
  unfold atSize at hzx
  refine c_tree_misnamed_1 ?_
  unfold VC_tree_misnamed_1
  refine nodeBox (Hp.start w' No) fun b w1 H1 hb hc1 => ?_
  simp only [withJ]
  refine H1.ldStr 0 rfl (off := 0) rfl ?_
  refine H1.ldStr 0 rfl (off := 1) rfl ?_
  refine WrongName_ok (n := (x.1, x.2.1)) ((T.chg hc).chg hc1) (by simp only; omega) (by simp only; omega) fun w2 hc2 => ?_
  have c2 := (hc.trans0 hc1).trans0 hc2
  unfold attrN nameOf at k
  refine condB_not (fun hf => ?_) (fun hf => ?_)
  · rw [hf] at k; exact k w2 c2
  rw [hf, Bool.true_and] at k
  have H2 := H1.step0 hc2
  refine H2.ldStr 0 rfl (off := 0) rfl ?_
  refine H2.ldStr 0 rfl (off := 1) rfl ?_
  have := k w2 c2
  rw [Bool.not_not] at this
  simp only [beqS, Bool.and_true]
  rw [show (decide (x.1 = ByteArray.empty) && decide (x.2.1 = ⟨#[120, 109, 108, 110, 115]⟩)) = decide (x.1 = emptyB ∧ x.2.1 = kXn) from (Bool.decide_and _ _).symm]
  exact this
theorem Misnamed_ok {x : NV} {J : Bool → World → Prop} (T : TT w) (hx : x.Ok w) (hm : x.mea ≤ 100000000) (K : ∀ w', Chg No w w' → J (!nameP x.nd) w') : callJ Tryz.prog fn_tree_misnamed #[.agg ⟨x.cells⟩] w [.one .bool] J := by
  cases hx with
  | @mk k u l t ap al ac ats kp kl kc ks ha hn hac hk hkn hkc hks =>
    have hal := ha.row (even_att ats) (by decide)
    have hmm : al ≤ 100000000 := by
      have := len_atSum ats
      simp only [NV.mea] at hm; omega
    have hz : ∀ a ∈ ats, atSize a ≤ 100000000 := fun a h => by
      have := mem_sum atSize h
      simp only [NV.mea] at hm; omega
    have hu : u.size ≤ 100000000 ∧ l.size ≤ 100000000 := by simp only [NV.mea] at hm; omega
    have hg : nameP (NV.mk k u l t ap al ac ats kp kl kc ks).nd = (if k = 2 then calledN (u, l) && ats.all attrN else if k = 5 then nm (bl l) && !isXml (bl l) else true) := rfl
    rw [hg] at K
    refine c_tree_misnamed ?_
    unfold VC_tree_misnamed
    refine nodeBox (Hp.start w No) fun b w1 H1 hb hc1 => ?_
    refine H1.ldI 0 rfl (off := 0) rfl ?_
    refine condB_eq (fun e2 => ?_) (fun e2 => ?_)
    · rw [if_pos e2] at K
      simp only [withJ]
      refine H1.ldStr 0 rfl (off := 1) rfl ?_
      refine H1.ldStr 0 rfl (off := 2) rfl ?_
      refine WrongName_ok (n := (u, l)) (T.tabs.chg hc1) hu.1 hu.2 fun w2 hc2 => ?_
      have c2 := hc1.trans0 hc2
      refine condB_not (fun hf => ?_) (fun hf => ?_)
      · rw [hf] at K; exact K w2 c2
      rw [hf, Bool.true_and] at K
      refine (H1.step0 hc2).ldS 0 rfl (off := 3) rfl ?_
      exact AnyAttr_mis (T.tabs.chg c2) (ha.chg c2 (off_no _)) hmm hz fun w3 hc3 => K w3 (c2.trans0 hc3)
    · rw [if_neg e2] at K
      refine condB_eq (fun e5 => ?_) (fun e5 => ?_)
      · rw [if_pos e5] at K
        simp only [withJ]
        refine H1.ldStr 0 rfl (off := 2) rfl ?_
        refine NameC_ok (T.tabs.chg hc1) fun w2 hc2 => ?_
        have c2 := hc1.trans0 hc2
        refine condB_not (fun hf => ?_) (fun hf => ?_)
        · rw [hf] at K; exact K w2 c2
        rw [hf, Bool.true_and, Bool.not_not] at K
        refine (H1.step0 hc2).ldStr 0 rfl (off := 2) rfl ?_
        exact EqFold_ok (T.chg c2).fold (by omega) fun w3 hc3 => K w3 (c2.trans0 hc3)
      · rw [if_neg e5] at K; exact K w1 hc1
theorem AnyAttr_spo {p : Option Addr} {l c : Nat} {L : List At} {J : Bool → World → Prop} (T : Tabs w) (h : Sl w p l 3 (rows atc L)) (hm : l ≤ 100000000) (hz : ∀ a ∈ L, atSize a ≤ 100000000) (K : ∀ w', Chg No w w' → J (!L.all fun a => fineB a.2.2) w') :
    callJ Tryz.prog fn_slices_ContainsFunc_sl_api_Attr_api_Attr #[.slice p l c, .func (.func 59) #[] #[]] w [.one .bool] J := by
  refine c_slices_ContainsFunc_sl_api_Attr_api_Attr_f1_59 ?_
  unfold VC_slices_ContainsFunc_sl_api_Attr_api_Attr_f1_59
  refine c_slices_IndexFunc_sl_api_Attr_api_Attr_f1_59 ?_
  show IdxAttr (fun cs w' K => callJ Tryz.prog fn_tree_spoilt_1 #[.agg ⟨cs⟩] w' [.one .bool] K) p l w _
  rw [← not_all] at K
  refine IdxAttr_ok (q := fun a => !fineB a.2.2) h hm (fun x hx w' K' hc k => ?_) fun r w' hc hr => by rw [decAny hr]; exact K w' hc
  have hzx := hz x hx
  unfold atSize at hzx
  refine c_tree_spoilt_1 ?_
  unfold VC_tree_spoilt_1
  refine nodeBox (Hp.start w' No) fun b w1 H1 hb hc1 => ?_
  refine H1.ldStr 0 rfl (off := 2) rfl ?_
  exact Bad_ok ((T.chg hc).chg hc1) (by omega) fun w2 hc2 => k w2 ((hc.trans0 hc1).trans0 hc2)
theorem Spoilt_ok {x : NV} {J : Bool → World → Prop} (T : TT w) (hx : x.Ok w) (hm : x.mea ≤ 100000000) (K : ∀ w', Chg No w w' → J (!charsN x.nd) w') : callJ Tryz.prog fn_tree_spoilt #[.agg ⟨x.cells⟩] w [.one .bool] J := by
  cases hx with
  | @mk k u l t ap al ac ats kp kl kc ks ha hn hac hk hkn hkc hks =>
    have hal := ha.row (even_att ats) (by decide)
    have hmm : al ≤ 100000000 := by
      have := len_atSum ats
      simp only [NV.mea] at hm; omega
    have hz : ∀ a ∈ ats, atSize a ≤ 100000000 := fun a h => by
      have := mem_sum atSize h
      simp only [NV.mea] at hm; omega
    have ht : t.size ≤ 100000000 := by simp only [NV.mea] at hm; omega
    have hg : charsN (NV.mk k u l t ap al ac ats kp kl kc ks).nd = (fineB t && ats.all fun a => fineB a.2.2) := rfl
    rw [hg] at K
    refine c_tree_spoilt ?_
    unfold VC_tree_spoilt
    refine nodeBox (Hp.start w No) fun b w1 H1 hb hc1 => ?_
    simp only [withJ]
    refine H1.ldStr 0 rfl (off := 5) rfl ?_
    refine Bad_ok (T.tabs.chg hc1) ht fun w2 hc2 => ?_
    have c2 := hc1.trans0 hc2
    refine condB_not (fun hf => ?_) (fun hf => ?_)
    · rw [hf] at K; exact K w2 c2
    rw [hf, Bool.true_and] at K
    refine (H1.step0 hc2).ldS 0 rfl (off := 3) rfl ?_
    exact AnyAttr_spo (T.tabs.chg c2) (ha.chg c2 (off_no _)) hmm hz fun w3 hc3 => K w3 (c2.trans0 hc3)
end
end Go.Proofs.YtmnbgcgealpcbaaGreatDoor

/-
  Order; the order of attributes; what texts may be; all nodes in a row; Check; Size and Depth.
-/

set_option linter.unusedVariables false
set_option linter.unusedSimpArgs false
namespace Go.Vc
open Go Go.Lib
def cmpS (x y : ByteArray) : Int := if sLt x y = true then -1 else if x = y then 0 else 1
/-- How two names stand. -/
def ordZ (a b : Pr) : Int := if cmpS a.1 b.1 ≠ 0 then cmpS a.1 b.1 else cmpS a.2 b.2
theorem cmpS_cases (x y : ByteArray) : (cmpS x y = -1 ∧ sLt x y = true ∧ x ≠ y ∧ sLt y x = false) ∨ (cmpS x y = 0 ∧ x = y ∧ sLt x y = false) ∨ (cmpS x y = 1 ∧ sLt x y = false ∧ x ≠ y ∧ sLt y x = true) := by
  unfold cmpS
  by_cases h : sLt x y = true
  · left; rw [if_pos h]
    refine ⟨rfl, h, ?_, sLt_asym h⟩
    rintro rfl; rw [sLt_irr] at h; cases h
  · rw [if_neg h]
    by_cases h2 : x = y
    · right; left; rw [if_pos h2]; exact ⟨rfl, h2, by simpa using h⟩
    · right; right; rw [if_neg h2]
      refine ⟨rfl, by simpa using h, h2, ?_⟩
      rcases sLt_tri x y with h3 | h3 | h3
      · exact absurd h3 h
      · exact absurd h3 h2
      · exact h3
theorem ordZ_lt (a b : Pr) : ordZ a b < 0 ↔ nLt a b = true := by
  rw [nLt_iff]
  unfold ordZ
  rcases cmpS_cases a.1 b.1 with ⟨h1, h2, h3, h4⟩ | ⟨h1, h2, h3⟩ | ⟨h1, h2, h3, h4⟩
  · rw [if_pos (by omega), h1]; simp [h2]
  · rw [if_neg (by omega)]
    rcases cmpS_cases a.2 b.2 with ⟨g1, g2, g3, g4⟩ | ⟨g1, g2, g3⟩ | ⟨g1, g2, g3, g4⟩
    · rw [g1]; simp [h2, g2]
    · rw [g1]; simp [h3, g3]
    · rw [g1]; simp [h3, g2]
  · rw [if_pos (by omega), h1]; simp [h2, h3]
/-- Which neighbours don't rise. -/
theorem asc_get : ∀ {l : List At}, ascB l = true ↔ ∀ i a b, l[i]? = some a → l[i + 1]? = some b → aLt a b = true
  | [] => by simp [ascB]
  | [a] => by
    simp only [ascB, true_iff]
    intro i x y h1 h2
    simp at h2
  | a :: b :: r => by
    have ih := asc_get (l := b :: r)
    unfold ascB
    rw [Bool.and_eq_true, ih]
    constructor
    · rintro ⟨h1, h2⟩ i x y hx hy
      cases i with
      | zero => simp at hx hy; subst hx; subst hy; exact h1
      | succ i => exact h2 i x y (by simpa using hx) (by simpa using hy)
    · intro h
      exact ⟨h 0 a b rfl rfl, fun i x y hx hy => h (i + 1) x y (by simpa using hx) (by simpa using hy)⟩
theorem two_get : ∀ {l : List Nd}, twoTexts l = true ↔ ∃ (i : Nat) (a b : Nd), l[i]? = some a ∧ l[i + 1]? = some b ∧ a.kind = 3 ∧ b.kind = 3
  | [] => by simp [twoTexts]
  | [a] => by simp [twoTexts]
  | a :: b :: r => by
    have ih := two_get (l := b :: r)
    unfold twoTexts
    rw [Bool.or_eq_true, ih, Bool.and_eq_true, decide_eq_true_eq, decide_eq_true_eq]
    constructor
    · rintro (⟨h1, h2⟩ | ⟨i, x, y, hx, hy, h1, h2⟩)
      · exact ⟨0, a, b, rfl, rfl, h1, h2⟩
      · exact ⟨i + 1, x, y, by simpa using hx, by simpa using hy, h1, h2⟩
    · rintro ⟨i, x, y, hx, hy, h1, h2⟩
      cases i with
      | zero => simp at hx hy; subst hx; subst hy; exact .inl ⟨h1, h2⟩
      | succ i => exact .inr ⟨i, x, y, by simpa using hx, by simpa using hy, h1, h2⟩
end Go.Vc
namespace Go.Proofs.YtmnbgcgealpcbaaGreatDoor
open Go Go.Vc Go.Lib
section
variable {w : World}
theorem Order_ok {a b : Pr} {J : Int → World → Prop} (k : ∀ w', Chg No w w' → J (ordZ a b) w') :
    callJ Tryz.prog fn_tree_Order #[.agg ⟨pr a⟩, .agg ⟨pr b⟩] w [.one (.int .i64)] J := by
  refine c_tree_Order ?_
  unfold VC_tree_Order
  refine (Hp.start w No).newB fun b2 w1 H1 _ _ => ?_
  refine H1.newB fun b3 w2 H2 _ _ => ?_
  have H2d := H2.drew
  refine H2d.ldStr 1 rfl (off := 0) rfl ?_
  refine H2d.ldStr 0 rfl (off := 0) rfl ?_
  refine H2d.ldStr 1 rfl (off := 1) rfl ?_
  refine H2d.ldStr 0 rfl (off := 1) rfl ?_
  refine CompareS_ok ⟨H2d.cell 0 rfl (off := 1) rfl, H2d.cell 1 rfl (off := 1) rfl, CompareS_ok ?_⟩
  generalize hr1 : (if sLt a.1 b.1 = true then (-1 : Int) else if a.1 = b.1 then 0 else 1) = r1
  generalize hr2 : (if sLt a.2 b.2 = true then (-1 : Int) else if a.2 = b.2 then 0 else 1) = r2
  have f1 : cmpS a.1 b.1 = r1 := hr1
  have f2 : cmpS a.2 b.2 = r2 := hr2
  refine newRow (sz := 1) (n := 2) rfl (by decide) fun b19 w5 hr5 _ hc5 => ?_
  refine c_cmp_Or_int ?_
  unfold VC_cmp_Or_int
  have hcell := (cellsAt_heap (off := 0) (e := T_int) (fz := (0, 0)) (b := b19) (cs := [.int .i64 r1, .int .i64 r2]) (w := w5) (by
    obtain ⟨b', rest, e1, e2, _, _, e3⟩ := hr5.some0 (by decide)
    cases e1
    simp at e3
    subst e3
    simpa using e2))
  have fin : ∀ r, (r = r1 ∧ r1 ≠ 0 ∨ r1 = 0 ∧ r = r2) → J r w5 := by
    intro r hr
    have := k w5 (H2d.chg.trans0 hc5)
    unfold ordZ at this
    rw [f1, f2] at this
    rcases hr with ⟨rfl, h⟩ | ⟨h, rfl⟩
    · rw [if_pos h] at this; exact this
    · rw [if_neg (by omega)] at this; exact this
  refine ⟨fun x w' t => ∃ i : Nat, x = i ∧ i ≤ 2 ∧ t = 2 - i ∧ w' = w5 ∧ (1 ≤ i → r1 = 0) ∧ (2 ≤ i → r2 = 0), ⟨_, 0, rfl, by decide, rfl, rfl, by omega, by omega⟩, ?_⟩
  rintro x w' t ⟨i, rfl, hi, rfl, rfl, h1, h2⟩
  refine condB_d (fun hlt => ?_) (fun hge => ?_)
  · refine idxA_i (by omega) hlt ?_
    rw [Addr.add_mk, Int.toNat_natCast, Nat.zero_add, Nat.mul_one]
    have hi2 : i = 0 ∨ i = 1 := by omega
    rcases hi2 with rfl | rfl
    · refine ldI_i (n := r1) (by have := hcell 0 _ rfl; rwa [add_zero'] at this) ?_
      refine condB_ne (fun hne => fin r1 (.inl ⟨rfl, hne⟩)) (fun he => ⟨_, by omega, 1, by rw [w64_of] <;> decide, by omega, rfl, rfl, fun _ => he, fun h => by omega⟩)
    · refine ldI_i (n := r2) (by have := hcell 1 _ rfl; rwa [Addr.add_mk] at this) ?_
      refine condB_ne (fun hne => fin r2 (.inr ⟨h1 (by omega), rfl⟩)) (fun he => ⟨_, by omega, 2, by rw [w64_of] <;> decide, by omega, rfl, rfl, fun _ => h1 (by omega), fun _ => he⟩)
  · exact fin 0 (.inr ⟨h1 (by omega), (h2 (by omega)).symm⟩)
theorem Unordered_ok {x : NV} {J : Bool → World → Prop} (hx : x.Ok w) (hm : x.mea ≤ 100000000) (K : ∀ w', Chg No w w' → J (!orderN x.nd) w') : callJ Tryz.prog fn_tree_unordered #[.agg ⟨x.cells⟩] w [.one .bool] J := by
  cases hx with
  | @mk k u l t ap al ac ats kp kl kc ks ha hn hac hk hkn hkc hks =>
    have hal := ha.row (even_att ats) (by decide)
    have hmm : al ≤ 100000000 := by
      have := len_atSum ats
      simp only [NV.mea] at hm; omega
    have hg : orderN (NV.mk k u l t ap al ac ats kp kl kc ks).nd = ascB ats := rfl
    rw [hg] at K
    refine c_tree_unordered ?_
    unfold VC_tree_unordered
    refine nodeBox (Hp.start w No) fun b w1 H1 hb hc1 => ?_
    refine H1.ldS 0 rfl (off := 3) rfl ?_
    refine ⟨fun i w' m => ∃ q : Nat, i = q ∧ q ≤ al ∧ m = al - q ∧ Hp w No w' [⟨b, [.int .i64 k, .string u, .string l, .slice ap al ac, .slice kp kl kc, .string t], T_api_Node⟩] ∧ ∀ j x y, j + 1 < q → ats[j]? = some x → ats[j + 1]? = some y → aLt x y = true, ⟨_, 0, rfl, Nat.zero_le _, rfl, H1, by omega⟩, ?_⟩
    rintro i w2 m ⟨q, rfl, hq, rfl, H2, hup⟩
    refine condB_d (fun hlt => ?_) (fun hge => ?_)
    · refine withJ_i fun J28 hJ28 => ?_
      have k28 : ∀ (bb : Bool) (w3 : World), Hp w No w3 [⟨b, [.int .i64 k, .string u, .string l, .slice ap al ac, .slice kp kl kc, .string t], T_api_Node⟩] →
          (bb = true → ascB ats = false) → (bb = false → ∀ x y, 0 < q → ats[q - 1]? = some x → ats[q]? = some y → aLt x y = true) → J28 bb w3 := by
        intro bb w3 H3 g1 g2; subst hJ28
        refine condB_i (fun h => ?_) (fun h => ?_)
        · have := g1 h; rw [this] at K; exact K w3 H3.chg
        · refine ⟨_, by omega, q + 1, by rw [w64_of] <;> omega, by omega, rfl, H3, ?_⟩
          intro j x y hj hx hy
          rcases Nat.lt_or_ge (j + 1) q with h1 | h1
          · exact hup j x y h1 hx hy
          · have hjq : j + 1 = q := by omega
            exact g2 h x y (by omega) (by rw [← hjq]; exact hx) (by rw [← hjq]; exact hy)
      clear hJ28
      refine condB_d (fun hpos => ?_) (fun hz => k28 _ _ H2.drew (fun h => by cases h) (fun _ x y h => by omega))
      have H2d := H2.drew
      have e1 : w64 ((q : Int) - 1) = ((q - 1 : Nat) : Int) := by rw [w64_of] <;> omega
      rw [e1]
      refine H2d.ldS 0 rfl (off := 3) rfl ?_
      refine idx_rows (ha.chg H2d.chg (off_no _)) (even_att ats) (by decide) (by omega) (by omega) fun a x _ hx hcs => ?_
      rw [Int.toNat_natCast] at hx
      refine ldStr_i (cellsAt_head hcs) (ldStr_i (hcs 1 _ rfl) ?_)
      refine H2d.ldS 0 rfl (off := 3) rfl ?_
      refine idx_rows (ha.chg H2d.chg (off_no _)) (even_att ats) (by decide) (by omega) (by omega) fun a' y _ hy hcs' => ?_
      rw [Int.toNat_natCast] at hy
      refine ldStr_i (cellsAt_head hcs') (ldStr_i (hcs' 1 _ rfl) ?_)
      refine Order_ok (a := (x.1, x.2.1)) (b := (y.1, y.2.1)) fun w4 hc4 => ?_
      have hlt2 := ordZ_lt (x.1, x.2.1) (y.1, y.2.1)
      refine k28 _ _ (H2d.step0 hc4) (fun h => ?_) (fun h x' y' _ hx' hy' => ?_)
      · have h' := of_decide_eq_true h
        rw [Bool.eq_false_iff]
        intro hasc
        have := asc_get.1 hasc (q - 1) x y hx (by rw [show q - 1 + 1 = q from by omega]; exact hy)
        have := hlt2.2 this
        omega
      · rw [hx] at hx'; rw [hy] at hy'
        obtain rfl := Option.some.inj hx'
        obtain rfl := Option.some.inj hy'
        have h' := of_decide_eq_false h
        exact hlt2.1 (by omega)
    · have : ascB ats = true := asc_get.2 fun j x y hx hy => hup j x y (by have := (List.getElem?_eq_some_iff.1 hy).1; omega) hx hy
      rw [this] at K
      exact K w2 H2.chg
theorem WrongText_ok {x : NV} {J : Bool → World → Prop} (T : TT w) (hx : x.Ok w) (hm : x.mea ≤ 100000000) (K : ∀ w', Chg No w w' → J (!textN x.nd) w') : callJ Tryz.prog fn_tree_wrongText #[.agg ⟨x.cells⟩] w [.one .bool] J := by
  cases hx with
  | @mk k u l t ap al ac ats kp kl kc ks ha hn hac hk hkn hkc hks =>
    have hkl := hk.row (even_node ks) (by decide)
    have hmm : kl ≤ 100000000 := by
      have := len_meaL ks
      simp only [NV.mea] at hm; omega
    have ht : t.size ≤ 100000000 := by simp only [NV.mea] at hm; omega
    rw [nd_kids] at K
    unfold textN at K
    change ∀ w', Chg No w w' → J (!(!twoTexts (ks.map NV.nd) && textQ k t)) w' at K
    have kk : ∀ {i : Nat} {y : NV}, ks[i]? = some y → (ks.map NV.nd)[i]? = some y.nd := fun h => by rw [List.getElem?_map, h]; rfl
    refine c_tree_wrongText ?_
    unfold VC_tree_wrongText
    refine nodeBox (Hp.start w No) fun b w1 H1 hb hc1 => ?_
    refine H1.ldS 0 rfl (off := 4) rfl ?_
    refine ⟨fun i w' m => ∃ q : Nat, i = q ∧ q ≤ kl ∧ m = kl - q ∧ Hp w No w' [⟨b, [.int .i64 k, .string u, .string l, .slice ap al ac, .slice kp kl kc, .string t], T_api_Node⟩] ∧ ∀ j x y, j + 1 < q → ks[j]? = some x → ks[j + 1]? = some y → ¬ (x.kd = 3 ∧ y.kd = 3), ⟨_, 0, rfl, Nat.zero_le _, rfl, H1, by omega⟩, ?_⟩
    rintro i w2 m ⟨q, rfl, hq, rfl, H2, hup⟩
    refine condB_d (fun hlt => ?_) (fun hge => ?_)
    · refine idx_rows (hk.chg H2.chg (off_no _)) (even_node ks) (by decide) (by omega) hlt fun a y _ hy hcs => ?_
      rw [Int.toNat_natCast] at hy
      cases y with
      | mk yk yu yl yt yap yal yac yas ykp ykl ykc yks =>
      refine nodeVar H2 hcs fun b4 w4 H4 _ _ => ?_
      have H4b : Hp w No w4 [⟨b, [.int .i64 k, .string u, .string l, .slice ap al ac, .slice kp kl kc, .string t], T_api_Node⟩] := H4.sub (.cons _ (.refl _))
      refine withJ_i fun J29 hJ29 => ?_
      have k29 : ∀ (bb : Bool), (bb = true → twoTexts (ks.map NV.nd) = true) → (bb = false → ∀ x, 0 < q → ks[q - 1]? = some x → ¬ (x.kd = 3 ∧ yk = 3)) → J29 bb w4 := by
        intro bb g1 g2; subst hJ29
        refine condB_i (fun h => ?_) (fun h => ?_)
        · have := g1 h; rw [this] at K; exact K w4 H4.chg
        · refine ⟨_, by omega, q + 1, by rw [w64_of] <;> omega, by omega, rfl, H4b, ?_⟩
          intro j x y' hj hx hy'
          rcases Nat.lt_or_ge (j + 1) q with h1 | h1
          · exact hup j x y' h1 hx hy'
          · have hjq : j + 1 = q := by omega
            rw [hjq, hy] at hy'
            obtain rfl := Option.some.inj hy'
            exact g2 h x (by omega) (by rw [← hjq]; exact hx)
      clear hJ29
      refine condB_d (fun hpos => ?_) (fun hz => k29 _ (fun h => by cases h) (fun _ x h => by omega))
      refine H4.ldI 0 rfl (off := 0) rfl ?_
      refine condB_eq (fun h3 => ?_) (fun h3 => k29 _ (fun h => by cases h) (fun _ x _ _ h => h3 h.2))
      refine H4.ldS 1 rfl (off := 4) rfl ?_
      have e1 : w64 ((q : Int) - 1) = ((q - 1 : Nat) : Int) := by rw [w64_of] <;> omega
      rw [e1]
      refine idx_rows (hk.chg H4.chg (off_no _)) (even_node ks) (by decide) (by omega) (by omega) fun a' x _ hx hcs' => ?_
      rw [Int.toNat_natCast] at hx
      cases x with
      | mk xk xu xl xt xap xal xac xas xkp xkl xkc xks =>
      refine ldI_i (cellsAt_head hcs') ?_
      refine k29 _ (fun h => ?_) (fun h x' _ hx' => ?_)
      · have h' : xk = 3 := by simpa using h
        exact two_get.2 ⟨q - 1, _, _, kk hx, by rw [show q - 1 + 1 = q from by omega]; exact kk hy, by rw [nd_kind]; exact h', by rw [nd_kind]; exact h3⟩
      · rw [hx] at hx'
        obtain rfl := Option.some.inj hx'
        have h' : xk ≠ 3 := by simpa using h
        exact fun hh => h' hh.1
    · have htt : twoTexts (ks.map NV.nd) = false := by
        rw [Bool.eq_false_iff]
        intro h
        obtain ⟨j, x, y, hx, hy, h1, h2⟩ := two_get.1 h
        rw [List.getElem?_map, Option.map_eq_some_iff] at hx hy
        obtain ⟨x', hx', rfl⟩ := hx
        obtain ⟨y', hy', rfl⟩ := hy
        rw [nd_kind] at h1 h2
        exact hup j x' y' (by have := (List.getElem?_eq_some_iff.1 hy').1; omega) hx' hy' ⟨h1, h2⟩
      rw [htt] at K
      rw [Bool.not_false, Bool.true_and] at K
      change ∀ w', Chg No w w' → J (!textQ k t) w' at K
      unfold textQ at K
      refine H2.ldI 0 rfl (off := 0) rfl ?_
      refine condB_eq (fun e3 => ?_) (fun e3 => ?_)
      · rw [if_pos e3] at K
        refine H2.ldStr 0 rfl (off := 5) rfl ?_
        rw [beqS]
        have := K w2 H2.chg
        rw [show (!decide (t ≠ emptyB)) = decide (t = emptyB) from by by_cases h : t = emptyB <;> simp [h]] at this
        exact this
      rw [if_neg e3] at K
      refine condB_eq (fun e4 => ?_) (fun e4 => ?_)
      · rw [if_pos e4] at K
        simp only [withJ]
        refine H2.ldStr 0 rfl (off := 5) rfl ?_
        refine Contains_ok (T.chg H2.chg) ht ?_
        refine condB_i (fun h => ?_) (fun h => ?_)
        · have : hasS [45, 45] (bl t) = true := h
          rw [this] at K; exact K w2 H2.chg
        have h0 : hasS [45, 45] (bl t) = false := h
        rw [h0] at K
        refine H2.ldStr 0 rfl (off := 5) rfl ?_
        refine HasSuffix_ok ht ?_
        refine condB_d (fun h => ?_) (fun h => ?_)
        · rw [decide_eq_false (fun hh => hh h)] at K
          simp only [Bool.and_false, Bool.not_false] at K
          exact K w2 H2.chg
        rw [decide_eq_true h] at K
        refine H2.ldStr 0 rfl (off := 5) rfl ?_
        refine Contains_ok (T.chg H2.chg) ht ?_
        have := K w2 H2.chg
        simp only [Bool.not_false, Bool.true_and, Bool.and_true, Bool.not_not] at this
        exact this
      rw [if_neg e4] at K
      refine condB_eq (fun e5 => ?_) (fun e5 => ?_)
      · rw [if_pos e5] at K
        have H2d := H2.drew
        simp only [withJ]
        refine H2d.ldStr 0 rfl (off := 5) rfl ?_
        refine Contains_ok (T.chg H2d.chg) ht ?_
        refine condB_i (fun h => ?_) (fun h => ?_)
        · have : hasS [63, 62] (bl t) = true := h
          rw [this] at K; exact K _ H2d.chg
        have h0 : hasS [63, 62] (bl t) = false := h
        rw [h0] at K
        refine H2d.ldStr 0 rfl (off := 5) rfl ?_
        refine Contains_ok (T.chg H2d.chg) ht ?_
        refine condB_i (fun h => ?_) (fun h => ?_)
        · have h1 : hasS [13] (bl t) = true := h
          rw [h1] at K
          exact K _ H2d.chg
        have h1 : hasS [13] (bl t) = false := h
        rw [h1] at K
        refine H2d.ldStr 0 rfl (off := 5) rfl ?_
        refine H2d.ldStr 0 rfl (off := 5) rfl ?_
        refine TrimLeft_ok fun w13 hc13 => ?_
        have H13 := H2d.step0 hc13
        refine ⟨H13.cell 0 rfl rfl, ?_⟩
        rw [beqS]
        have := K w13 H13.chg
        simp only [Bool.not_false, Bool.true_and] at this
        rw [← trim_same] at this
        rw [show decide (t = mkB (Lib.trimLeftS (bl t) [32, 9, 10])) = decide (bl t = Lib.trimLeftS (bl t) [32, 9, 10]) from decide_eq_decide.2 ⟨fun h => by conv => lhs; rw [h, bl_mkB], fun h => bl_ext (by rw [bl_mkB]; exact h)⟩]
        exact this
      · rw [if_neg e5] at K
        exact K w2 H2.chg
end
end Go.Proofs.YtmnbgcgealpcbaaGreatDoor


/-
  All nodes in a row; Check; Size and Depth.
-/
set_option linter.unusedVariables false
set_option linter.unusedSimpArgs false
namespace Go.Vc
open Go Go.Lib
theorem flatL_take {ks : List NV} {q : Nat} {x : NV} (h : ks[q]? = some x) : NV.flatL (ks.take (q + 1)) = NV.flatL (ks.take q) ++ x.flat := by
  rw [take_get h, flatL_append]; simp [NV.flatL]
theorem len_flatL : ∀ ks : List NV, ks.length ≤ (NV.flatL ks).length
  | [] => Nat.le_refl _
  | x :: r => by
    have := len_flatL r
    have h1 : 1 ≤ x.flat.length := by cases x; simp [NV.flat]
    simp only [NV.flatL, List.length_append, List.length_cons]; omega
theorem flatL_le : ∀ (ks : List NV) (q : Nat), (NV.flatL (ks.take q)).length ≤ (NV.flatL ks).length
  | [], q => by simp
  | x :: r, 0 => by simp [NV.flatL]
  | x :: r, q + 1 => by
    have := flatL_le r q
    simp only [List.take_succ_cons, NV.flatL, List.length_append]; omega
theorem countP_take {α : Type} {p : α → Bool} {l : List α} {q : Nat} {x : α} (h : l[q]? = some x) : (l.take (q + 1)).countP p = (l.take q).countP p + (if p x then 1 else 0) := by
  rw [take_get h, List.countP_append, List.countP_cons, List.countP_nil]; simp
end Go.Vc
namespace Go.Proofs.YtmnbgcgealpcbaaGreatDoor
open Go Go.Vc Go.Lib
section
variable {w : World}
theorem AnyNode_odd {p : Option Addr} {l c : Nat} {L : List NV} {J : Bool → World → Prop} (T : TT w) (h : Sl w p l 6 (rows NV.cells L)) (hm : l ≤ 100000000) (hk : ∀ x ∈ L, x.Ok w ∧ x.mea ≤ 100000000) (K : ∀ w', Chg No w w' → J (L.any fun x => oddP x.nd) w') :
    callJ Tryz.prog fn_slices_ContainsFunc_sl_api_Node_api_Node #[.slice p l c, .func (.func 19) #[] #[]] w [.one .bool] J := by
  refine c_slices_ContainsFunc_sl_api_Node_api_Node_f1_19 ?_
  unfold VC_slices_ContainsFunc_sl_api_Node_api_Node_f1_19
  refine c_slices_IndexFunc_sl_api_Node_api_Node_f1_19 ?_
  show IdxNode (fun cs w' K => callJ Tryz.prog fn_tree_odd #[.agg ⟨cs⟩] w' [.one .bool] K) p l w _
  refine IdxNode_ok (q := fun x => oddP x.nd) h hm (fun x hx w' K' hc k => ?_) fun r w' hc hr => by rw [decAny hr]; exact K w' hc
  obtain ⟨hok, hmx⟩ := hk x hx
  exact Odd_ok (hok.chg0 hc) hmx fun w'' c2 => k w'' (hc.trans0 c2)
theorem AnyNode_great {p : Option Addr} {l c : Nat} {L : List NV} {J : Bool → World → Prop} (T : TT w) (h : Sl w p l 6 (rows NV.cells L)) (hm : l ≤ 100000000) (hk : ∀ x ∈ L, x.Ok w ∧ x.mea ≤ 100000000) (K : ∀ w', Chg No w w' → J (L.any fun x => greatN x.nd) w') :
    callJ Tryz.prog fn_slices_ContainsFunc_sl_api_Node_api_Node #[.slice p l c, .func (.func 21) #[] #[]] w [.one .bool] J := by
  refine c_slices_ContainsFunc_sl_api_Node_api_Node_f1_21 ?_
  unfold VC_slices_ContainsFunc_sl_api_Node_api_Node_f1_21
  refine c_slices_IndexFunc_sl_api_Node_api_Node_f1_21 ?_
  show IdxNode (fun cs w' K => callJ Tryz.prog fn_tree_great #[.agg ⟨cs⟩] w' [.one .bool] K) p l w _
  refine IdxNode_ok (q := fun x => greatN x.nd) h hm (fun x hx w' K' hc k => ?_) fun r w' hc hr => by rw [decAny hr]; exact K w' hc
  obtain ⟨hok, hmx⟩ := hk x hx
  exact Great_ok (hok.chg0 hc) hmx fun w'' c2 => k w'' (hc.trans0 c2)
theorem AnyNode_mis {p : Option Addr} {l c : Nat} {L : List NV} {J : Bool → World → Prop} (T : TT w) (h : Sl w p l 6 (rows NV.cells L)) (hm : l ≤ 100000000) (hk : ∀ x ∈ L, x.Ok w ∧ x.mea ≤ 100000000) (K : ∀ w', Chg No w w' → J (L.any fun x => !nameP x.nd) w') :
    callJ Tryz.prog fn_slices_ContainsFunc_sl_api_Node_api_Node #[.slice p l c, .func (.func 22) #[] #[]] w [.one .bool] J := by
  refine c_slices_ContainsFunc_sl_api_Node_api_Node_f1_22 ?_
  unfold VC_slices_ContainsFunc_sl_api_Node_api_Node_f1_22
  refine c_slices_IndexFunc_sl_api_Node_api_Node_f1_22 ?_
  show IdxNode (fun cs w' K => callJ Tryz.prog fn_tree_misnamed #[.agg ⟨cs⟩] w' [.one .bool] K) p l w _
  refine IdxNode_ok (q := fun x => !nameP x.nd) h hm (fun x hx w' K' hc k => ?_) fun r w' hc hr => by rw [decAny hr]; exact K w' hc
  obtain ⟨hok, hmx⟩ := hk x hx
  exact Misnamed_ok (T.chg hc) (hok.chg0 hc) hmx fun w'' c2 => k w'' (hc.trans0 c2)
theorem AnyNode_spo {p : Option Addr} {l c : Nat} {L : List NV} {J : Bool → World → Prop} (T : TT w) (h : Sl w p l 6 (rows NV.cells L)) (hm : l ≤ 100000000) (hk : ∀ x ∈ L, x.Ok w ∧ x.mea ≤ 100000000) (K : ∀ w', Chg No w w' → J (L.any fun x => !charsN x.nd) w') :
    callJ Tryz.prog fn_slices_ContainsFunc_sl_api_Node_api_Node #[.slice p l c, .func (.func 23) #[] #[]] w [.one .bool] J := by
  refine c_slices_ContainsFunc_sl_api_Node_api_Node_f1_23 ?_
  unfold VC_slices_ContainsFunc_sl_api_Node_api_Node_f1_23
  refine c_slices_IndexFunc_sl_api_Node_api_Node_f1_23 ?_
  show IdxNode (fun cs w' K => callJ Tryz.prog fn_tree_spoilt #[.agg ⟨cs⟩] w' [.one .bool] K) p l w _
  refine IdxNode_ok (q := fun x => !charsN x.nd) h hm (fun x hx w' K' hc k => ?_) fun r w' hc hr => by rw [decAny hr]; exact K w' hc
  obtain ⟨hok, hmx⟩ := hk x hx
  exact Spoilt_ok (T.chg hc) (hok.chg0 hc) hmx fun w'' c2 => k w'' (hc.trans0 c2)
theorem AnyNode_uno {p : Option Addr} {l c : Nat} {L : List NV} {J : Bool → World → Prop} (T : TT w) (h : Sl w p l 6 (rows NV.cells L)) (hm : l ≤ 100000000) (hk : ∀ x ∈ L, x.Ok w ∧ x.mea ≤ 100000000) (K : ∀ w', Chg No w w' → J (L.any fun x => !orderN x.nd) w') :
    callJ Tryz.prog fn_slices_ContainsFunc_sl_api_Node_api_Node #[.slice p l c, .func (.func 24) #[] #[]] w [.one .bool] J := by
  refine c_slices_ContainsFunc_sl_api_Node_api_Node_f1_24 ?_
  unfold VC_slices_ContainsFunc_sl_api_Node_api_Node_f1_24
  refine c_slices_IndexFunc_sl_api_Node_api_Node_f1_24 ?_
  show IdxNode (fun cs w' K => callJ Tryz.prog fn_tree_unordered #[.agg ⟨cs⟩] w' [.one .bool] K) p l w _
  refine IdxNode_ok (q := fun x => !orderN x.nd) h hm (fun x hx w' K' hc k => ?_) fun r w' hc hr => by rw [decAny hr]; exact K w' hc
  obtain ⟨hok, hmx⟩ := hk x hx
  exact Unordered_ok (hok.chg0 hc) hmx fun w'' c2 => k w'' (hc.trans0 c2)
theorem AnyNode_wro {p : Option Addr} {l c : Nat} {L : List NV} {J : Bool → World → Prop} (T : TT w) (h : Sl w p l 6 (rows NV.cells L)) (hm : l ≤ 100000000) (hk : ∀ x ∈ L, x.Ok w ∧ x.mea ≤ 100000000) (K : ∀ w', Chg No w w' → J (L.any fun x => !textN x.nd) w') :
    callJ Tryz.prog fn_slices_ContainsFunc_sl_api_Node_api_Node #[.slice p l c, .func (.func 25) #[] #[]] w [.one .bool] J := by
  refine c_slices_ContainsFunc_sl_api_Node_api_Node_f1_25 ?_
  unfold VC_slices_ContainsFunc_sl_api_Node_api_Node_f1_25
  refine c_slices_IndexFunc_sl_api_Node_api_Node_f1_25 ?_
  show IdxNode (fun cs w' K => callJ Tryz.prog fn_tree_wrongText #[.agg ⟨cs⟩] w' [.one .bool] K) p l w _
  refine IdxNode_ok (q := fun x => !textN x.nd) h hm (fun x hx w' K' hc k => ?_) fun r w' hc hr => by rw [decAny hr]; exact K w' hc
  obtain ⟨hok, hmx⟩ := hk x hx
  exact WrongText_ok (T.chg hc) (hok.chg0 hc) hmx fun w'' c2 => k w'' (hc.trans0 c2)
/-- One node more. -/
theorem appN {w0 wa : World} {p : Option Addr} {l c : Nat} {L : List NV} {x : NV} {K : Option Addr → Nat → Nat → World → Prop} (hr : Row wa T_api_Node 6 p l c (rows NV.cells L)) (hlm : l + 1 ≤ 1000000000) (hf : fresh w0 p) (hc : Chg No w0 wa)
    (k : ∀ p' c' w', Row w' T_api_Node 6 p' (l + 1) c' (rows NV.cells (L ++ [x])) → fresh w0 p' → Chg No w0 w' → Chg (isB p) wa w' → K p' (l + 1) c' w') :
    newB wa (.cells ⟨x.cells⟩ T_api_Node) fun b w1 => appJ Tryz.prog T_sl_api_Node T_sl_api_Node (.slice p l c) (.slice (some ⟨b, 0, none⟩) 1 1) w1 K := by
  refine newRow (sz := 6) (n := 1) (by cases x; rfl) (by decide) fun b w1 hr1 hb hc1 => ?_
  refine appJ_row slT_node (hr.chg hc1 (off_no _)) hr1.sl (one1_node x) (by simp) (by omega) (by simp only [maxLen]; omega) fun p' c' w' hr' hc' hf' => ?_
  have hc2 : Chg (isB p) wa w' := (hc1.mono fun _ _ h => h.elim).trans hc' fun b hb h => h
  refine k p' c' w' ?_ ?_ (hc.trans hc2 fun b hb ⟨a, ha, e⟩ => by have := hf a ha; omega) hc2
  · rw [rows_append, rows_cons, rows_nil, List.append_nil]; exact hr'
  · rcases hf' with rfl | hf'
    · exact hf
    · intro a ha; have := hf' a ha; have := hc.size; have := hc1.size; omega
theorem Flat_ok : ∀ (v : NV) {w0 w : World} {p : Option Addr} {l c : Nat} {L : List NV} {J : Option Addr → Nat → Nat → World → Prop}, v.Ok w0 → Row w T_api_Node 6 p l c (rows NV.cells L) → fresh w0 p → Chg No w0 w → l + v.flat.length ≤ 100000000 →
    (∀ p' c' w', Row w' T_api_Node 6 p' (l + v.flat.length) c' (rows NV.cells (L ++ v.flat)) → fresh w0 p' → Chg No w0 w' → J p' (l + v.flat.length) c' w') →
    callJ Tryz.prog fn_tree_flat #[.agg ⟨v.cells⟩, .slice p l c] w [.one .slice] J := by
  intro v
  induction v using NV.ind with
  | h k u lo t ap al ac ats kp kl kc ks ih =>
    intro w0 w p l c L J hv hr hf hc hm K
    cases hv with
    | mk ha hn hac hk hkn hkc hks =>
    have hkl := hk.row (even_node ks) (by decide)
    have hfl : (NV.mk k u lo t ap al ac ats kp kl kc ks).flat = NV.mk k u lo t ap al ac ats kp kl kc ks :: NV.flatL ks := rfl
    rw [hfl, List.length_cons] at hm
    rw [hfl] at K
    have hkf := len_flatL ks
    refine c_tree_flat ?_
    unfold VC_tree_flat
    refine nodeBox (Hp.start w No) fun b w1 H1 hb hc1 => ?_
    refine ldBox H1 0 rfl ?_
    refine ⟨rfl, ?_⟩
    refine appN (w0 := w0) (x := .mk k u lo t ap al ac ats kp kl kc ks) (hr.chg hc1 (off_no _)) (by omega) hf (hc.trans0 hc1) fun p3 c3 w3 hr3 hf3 hc3 hcb => ?_
    have hcell : w3.cell? ⟨b, 4, none⟩ = some (.slice kp kl kc) := hcb.cell (H1.cell 0 rfl rfl) (by
      rintro ⟨a, ha, e⟩
      have := hr.lt a ha
      simp only at e; omega)
    refine ⟨_, _, _, hcell, ?_⟩
    refine ⟨fun lp ll lc i w' m => ∃ q : Nat, i = q ∧ q ≤ kl ∧ m = kl - q ∧ ll = l + 1 + (NV.flatL (ks.take q)).length ∧ Row w' T_api_Node 6 lp ll lc (rows NV.cells (L ++ [.mk k u lo t ap al ac ats kp kl kc ks] ++ NV.flatL (ks.take q))) ∧ fresh w0 lp ∧ Chg No w0 w',
      ⟨_, 0, rfl, Nat.zero_le _, rfl, rfl, by rw [List.take_zero]; simpa [NV.flatL] using hr3, hf3, hc3⟩, ?_⟩
    rintro lp ll lc i w4 m ⟨q, rfl, hq, rfl, rfl, hr4, hf4, hc4⟩
    refine condB_d (fun hlt => ?_) (fun hge => ?_)
    · refine idx_rows (hk.chg hc4 (off_no _)) (even_node ks) (by decide) (by omega) hlt fun a y _ hy hcs => ?_
      rw [Int.toNat_natCast] at hy
      have hymem := List.mem_of_getElem? hy
      have ihy := @ih y hymem
      have hyok := hks y hymem
      have hft := flatL_take hy
      have hle := flatL_le ks (q + 1)
      rw [hft, List.length_append] at hle
      cases y with
      | mk yk yu yl yt yap yal yac yas ykp ykl ykc yks =>
      refine nodeVar (Hp.start w4 No) hcs fun b6 w6 H6 _ hc6 => ?_
      refine ldBox H6 0 rfl ?_
      refine ihy hyok (hr4.chg hc6 (off_no _)) hf4 (hc4.trans0 hc6) (by omega) fun p7 c7 w7 hr7 hf7 hc7 => ?_
      refine ⟨_, by omega, q + 1, by rw [w64_of] <;> omega, by omega, rfl, ?_, ?_, hf7, hc7⟩
      · rw [hft, List.length_append]; omega
      · rw [hft, ← List.append_assoc]; exact hr7
    · have hqk : q = kl := by omega
      subst hqk
      rw [List.take_of_length_le (by omega)] at hr4 ⊢
      have e1 : l + 1 + (NV.flatL ks).length = l + (NV.mk k u lo t ap al ac ats kp q kc ks :: NV.flatL ks).length := by rw [List.length_cons]; omega
      rw [e1] at hr4 ⊢
      exact K lp lc w4 (by rw [List.append_assoc] at hr4; exact hr4) hf4 hc4
theorem any_nd (L : List NV) (q : Nd → Bool) : (L.any fun x => q x.nd) = (L.map NV.nd).any q := by rw [List.any_map]; rfl
theorem notall_nd (L : List NV) (q : Nd → Bool) : (L.any fun x => !q x.nd) = !(L.map NV.nd).all q := by rw [any_nd L (fun x => !q x), not_all]
/-- What is wrong with a document. -/
theorem Check_ok {x : NV} {J : Int → World → Prop} (T : TT w) (hx : x.Ok w) (hm : x.mea ≤ 10000000) (K : ∀ w', Chg No w w' → J (checkL x.nd) w') : callJ Tryz.prog fn_tree_Check #[.agg ⟨x.cells⟩] w [.one (.int .i64)] J := by
  have hx0 := hx
  have hfl := flat_len x
  have hok : ∀ y ∈ x.flat, y.Ok w ∧ y.mea ≤ 100000000 := fun y hy => ⟨flat_mem hy hx, by have := flat_mea hy; omega⟩
  have hfn := flat_nd x
  have hkind : x.nd.kind = x.kd := nd_kind x
  cases hx with
  | @mk k u l t ap al ac ats kp kl kc ks ha hn hac hk hkn hkc hks =>
    have hkl := hk.row (even_node ks) (by decide)
    refine c_tree_Check ?_
    unfold VC_tree_Check
    refine nodeBox (Hp.start w No) fun b w1 H1 hb hc1 => ?_
    refine ldBox H1 0 rfl ?_
    refine Flat_ok (.mk k u l t ap al ac ats kp kl kc ks) (w0 := w1) (w := w1) (L := []) (hx0.chg0 hc1) (Row.nil _ _ _) (by rintro a ⟨⟩) (Chg.refl _ _) (by omega) fun p2 c2 w2 hr2 hf2 hc2 => ?_
    rw [Nat.zero_add, List.nil_append] at hr2
    rw [Nat.zero_add]
    generalize hL : (NV.mk k u l t ap al ac ats kp kl kc ks).flat = L at *
    have c02 := hc1.trans0 hc2
    have H2 := H1.step0 hc2
    have hokc : ∀ {wx : World}, Chg No w wx → ∀ y ∈ L, y.Ok wx ∧ y.mea ≤ 100000000 := fun hcx y hy => ⟨(hok y hy).1.chg0 hcx, (hok y hy).2⟩
    have hLl : L.length ≤ 10000000 := by omega
    generalize hd : (NV.mk k u l t ap al ac ats kp kl kc ks).nd = d at *
    have hdl : d.flat.length = L.length := by rw [← hfn, List.length_map]
    have hkd : d.kind = k := by rw [hkind]; rfl
    have hdk : d.kids = ks.map NV.nd := by rw [← hd, nd_kids]; rfl
    unfold checkL at K
    refine withJ_i fun J9 hJ9 => ?_
    have k9 : ∀ (bb : Bool) (w3 : World), (bb = true ↔ ¬ d.kind = 1 ∨ d.flat.all kindG = false) → Chg No w2 w3 → J9 bb w3 := by
      intro bb w3 hbb hc3; subst hJ9
      have c03 := c02.trans0 hc3
      refine meetI hbb (fun h => ?_) (fun h => ?_)
      · rw [if_pos h] at K; exact K w3 c03
      rw [if_neg h] at K
      have hall : d.flat.all kindG = true := by
        cases hh : d.flat.all kindG with
        | true => rfl
        | false => exact absurd (.inr hh) h
      have H3 := H2.step0 hc3
      refine ldBox H3 0 rfl ?_
      refine Deep_ok (.mk k u l t ap al ac ats kp kl kc ks) (hx0.chg0 c03) (by omega) (by decide) (by decide) fun w4 hc4 => ?_
      have c04 := c03.trans0 hc4
      have H4 := H3.step0 hc4
      rw [hd]
      refine condB_i (fun h => ?_) (fun h => ?_)
      · rw [if_pos h] at K; exact K w4 c04
      rw [if_neg (by rw [h]; decide)] at K
      have hr4 := (hr2.chg hc3 (off_no _)).chg hc4 (off_no _)
      refine withJ_i fun J20 hJ20 => ?_
      have k20 : ∀ (bb : Bool) (w5 : World), (bb = true ↔ 2001 < d.flat.length ∨ d.flat.any greatN = true) → Chg No w4 w5 → J20 bb w5 := by
        intro bb w5 hbb hc5; subst hJ20
        have c05 := c04.trans0 hc5
        refine meetI hbb (fun h => ?_) (fun h => ?_)
        · rw [if_pos h] at K; exact K w5 c05
        rw [if_neg h] at K
        have hr5 := hr4.chg hc5 (off_no _)
        refine AnyNode_mis (T.chg c05) hr5.sl (by omega) (hokc c05) fun w6 hc6 => ?_
        have c06 := c05.trans0 hc6
        have hr6 := hr5.chg hc6 (off_no _)
        have hname : (L.any fun x => !nameP x.nd) = !d.flat.all nameG := by
          rw [notall_nd, hfn]
          congr 1
          rw [Bool.eq_iff_iff, List.all_eq_true, List.all_eq_true]
          exact ⟨fun h y hy => by rw [← name_eq (List.all_eq_true.1 hall y hy)]; exact h y hy, fun h y hy => by rw [name_eq (List.all_eq_true.1 hall y hy)]; exact h y hy⟩
        rw [hname]
        refine condB_not (fun h => ?_) (fun h => ?_)
        · rw [if_pos h] at K; exact K w6 c06
        rw [if_neg (by rw [h]; decide)] at K
        refine AnyNode_spo (T.chg c06) hr6.sl (by omega) (hokc c06) fun w7 hc7 => ?_
        have c07 := c06.trans0 hc7
        have hr7 := hr6.chg hc7 (off_no _)
        rw [notall_nd, hfn]
        refine condB_not (fun h => ?_) (fun h => ?_)
        · rw [if_pos h] at K; exact K w7 c07
        rw [if_neg (by rw [h]; decide)] at K
        refine AnyNode_uno (T.chg c07) hr7.sl (by omega) (hokc c07) fun w8 hc8 => ?_
        have c08 := c07.trans0 hc8
        have hr8 := hr7.chg hc8 (off_no _)
        rw [notall_nd, hfn]
        refine condB_not (fun h => ?_) (fun h => ?_)
        · rw [if_pos h] at K; exact K w8 c08
        rw [if_neg (by rw [h]; decide)] at K
        refine AnyNode_wro (T.chg c08) hr8.sl (by omega) (hokc c08) fun w9 hc9 => ?_
        have c09 := c08.trans0 hc9
        rw [notall_nd, hfn]
        refine condB_not (fun h => ?_) (fun h => ?_)
        · rw [if_pos h] at K; exact K w9 c09
        rw [if_neg (by rw [h]; decide)] at K
        have H9 : Hp w No w9 [⟨b, [.int .i64 k, .string u, .string l, .slice ap al ac, .slice kp kl kc, .string t], T_api_Node⟩] := ((((H4.step0 hc5).step0 hc6).step0 hc7).step0 hc8).step0 hc9
        refine H9.ldS 0 rfl (off := 4) rfl ?_
        have hkm := len_meaL ks
        have hmm : kl ≤ 10000000 := by simp only [NV.mea] at hm; omega
        refine ⟨fun e i w' m => ∃ q : Nat, i = q ∧ q ≤ kl ∧ m = kl - q ∧ Chg No w w' ∧ e = (((ks.take q).countP fun y => decide (y.kd = 2) : Nat) : Int), ⟨_, 0, rfl, Nat.zero_le _, rfl, c09, rfl⟩, ?_⟩
        rintro e i w10 m ⟨q, rfl, hq, rfl, hc10, rfl⟩
        have hcl := List.countP_le_length (p := fun y : NV => decide (y.kd = 2)) (l := ks.take q)
        rw [List.length_take] at hcl
        refine condB_d (fun hlt => ?_) (fun hge => ?_)
        · refine withJ_i fun J4 hJ4 => ?_
          have k4 : ∀ (e : Int) (w11 : World), e = (((ks.take (q + 1)).countP fun y => decide (y.kd = 2) : Nat) : Int) → Chg No w w11 → J4 e w11 := by
            intro e w11 he c11; subst hJ4
            exact ⟨_, by omega, q + 1, by rw [w64_of] <;> omega, by omega, rfl, c11, he⟩
          clear hJ4
          refine idx_rows (hk.chg hc10 (off_no _)) (even_node ks) (by decide) (by omega) hlt fun a y _ hy hcs => ?_
          rw [Int.toNat_natCast] at hy
          have hct := countP_take (p := fun y : NV => decide (y.kd = 2)) hy
          cases y with
          | mk yk yu yl yt yap yal yac yas ykp ykl ykc yks =>
          refine nodeVar (Hp.start w10 No) hcs fun b6 w13 H13 _ hc13 => ?_
          refine H13.ldI 0 rfl (off := 0) rfl ?_
          refine condB_eq (fun h2 => ?_) (fun h2 => ?_)
          · refine k4 _ _ ?_ (hc10.trans0 hc13)
            rw [hct, if_pos (show decide ((NV.mk yk yu yl yt yap yal yac yas ykp ykl ykc yks).kd = 2) = true from decide_eq_true h2), w64_of (by omega) (by omega)]; omega
          · refine k4 _ _ ?_ (hc10.trans0 hc13)
            rw [hct, if_neg (by rw [decide_eq_false (show ¬ (NV.mk yk yu yl yt yap yal yac yas ykp ykl ykc yks).kd = 2 from h2)]; decide)]; rfl
        · have hroots : rootsN d = (ks.take q).countP fun y => decide (y.kd = 2) := by
            unfold rootsN
            rw [hdk, List.countP_map, List.take_of_length_le (by omega)]
            congr 1
            funext y
            show decide (y.nd.kind = 2) = _
            rw [nd_kind]
          rw [hroots] at K
          refine condB_ne (fun h => ?_) (fun h => ?_)
          · rw [if_pos (by omega)] at K; exact K w10 hc10
          · rw [if_neg (by omega)] at K; exact K w10 hc10
      clear hJ20
      rw [w64_of (by omega) (by omega)]
      refine condB_d (fun h => k20 _ _ (bT (.inl (by omega))) (Chg.refl _ _)) (fun h => ?_)
      refine AnyNode_great (T.chg c04) hr4.sl (by omega) (hokc c04) fun w14 hc14 => ?_
      refine k20 _ _ ?_ hc14
      rw [any_nd, hfn]
      exact ⟨fun hh => .inr hh, fun hh => hh.resolve_left (by omega)⟩
    clear hJ9
    refine H2.ldI 0 rfl (off := 0) rfl ?_
    refine condB_ne (fun h => k9 _ _ (bT (.inl (by rw [hkd]; exact h))) (Chg.refl _ _)) (fun h => ?_)
    refine AnyNode_odd (T.chg c02) hr2.sl (by omega) (hokc c02) fun w15 hc15 => ?_
    refine k9 _ _ ?_ hc15
    have hk1 : d.kind = 1 := by rw [hkd]; exact h
    rw [any_nd, hfn, odd_all hk1]
    simp [hk1]
end
end Go.Proofs.YtmnbgcgealpcbaaGreatDoor


/- none of these here -/

/-
  What the reading of an argument says of its cells, in types; for the last step of each statement.
-/
namespace Go.Vc
open Go Go.WideShapes

section
variable {H : Type} {enc : TypeId × Value → H} {P : Program} {w : World}

/-- Whatever is read at type 't' in the world 'w' are the cells 'f a' of some good 'a'. -/
def Rd (P : Program) (w : World) (t : TypeId) {α : Type} (f : α → List Value) (good : α → Prop) : Prop :=
  ∀ (H : Type) (enc : TypeId × Value → H) (fuel : Nat) (cs : List Value) (x : DataW H × List MemPlace), DataW.trod enc P w 0 (fun _ => true) true fuel t cs = some x →
    (∀ n ∈ DataW.weights P t x.1, n ≤ reachBytes) → ∃ a, cs = f a ∧ good a

theorem wf_int {k : IntKind} {n : Int} (h : (Lit.int k n).wf = true) : k.min ≤ n ∧ n ≤ k.max := by simpa [Lit.wf] using h

theorem Rd.int {t : TypeId} {k : IntKind} (ht : P.underlying t = some (.int k)) : Rd P w t (fun n : Int => [.int k n]) (fun n => k.min ≤ n ∧ n ≤ k.max) := by
  intro H enc fuel cs x h _
  obtain ⟨n, rfl, _, hw⟩ := DataW.trod_int ht h
  exact ⟨n, rfl, wf_int hw⟩
theorem Rd.i64 {t : TypeId} (ht : P.underlying t = some (.int .i64)) : Rd P w t (fun n : Int => [.int .i64 n]) InI := by
  intro H enc fuel cs x h hw
  obtain ⟨n, h1, h2⟩ := Rd.int ht H enc fuel cs x h hw
  refine ⟨n, h1, ?_⟩
  simp [IntKind.min, IntKind.max, IntKind.signed, IntKind.bits] at h2
  exact h2
/-- A slice that came in: where it lies, and its elements. -/
structure SlV (α : Type) where
  p : Option Addr
  l : Nat
  c : Nat
  xs : List α
def SlV.cells {α : Type} (s : SlV α) : List Value := [.slice s.p s.l s.c]
structure SlV.Ok {α : Type} (s : SlV α) (w : World) (sz bytes : Nat) (f : α → List Value) (good : α → Prop) : Prop where
  sl : Sl w s.p s.l sz (rows f s.xs)
  len : s.xs.length = s.l
  nil : s.p = none → s.l = 0
  cap : s.l ≤ s.c
  max : s.c ≤ maxLen
  fits : s.l * bytes ≤ 140737488351232
  even : Even f sz s.xs
  all : ∀ x ∈ s.xs, good x

theorem weightsAll_mem {e : TypeId} {n : Nat} : ∀ {ds : List (DataW H)} {d : DataW H}, d ∈ ds → n ∈ DataW.weights P e d → n ∈ DataW.weightsAll P e ds
  | d0 :: r, d, hd, hn => by
    simp only [DataW.weightsAll, List.mem_append]
    rcases List.mem_cons.1 hd with rfl | hd
    · exact .inl hn
    · exact .inr (weightsAll_mem hd hn)

theorem choose_list {α : Type} {n : Nat} {R : Nat → α → Prop} (h : ∀ i, i < n → ∃ a, R i a) : ∃ l : List α, l.length = n ∧ ∀ i a, l[i]? = some a → R i a := by
  induction n with
  | zero => exact ⟨[], rfl, by simp⟩
  | succ n ih =>
    obtain ⟨l, hl, hr⟩ := ih (fun i hi => h i (by omega))
    obtain ⟨a, ha⟩ := h n (by omega)
    refine ⟨l ++ [a], by simp [hl], fun i b hb => ?_⟩
    rw [List.getElem?_append] at hb
    split at hb
    · exact hr i b hb
    · have h0 : i - l.length = 0 := by
        have := (List.getElem?_eq_some_iff.1 hb).1
        simp at this; omega
      rw [h0] at hb
      simp at hb
      subst hb
      rw [show i = n by omega]; exact ha

theorem Rd.slice {t e : TypeId} {α : Type} {f : α → List Value} {good : α → Prop} {sz bytes : Nat} (ht : P.underlying t = some (.slice e)) (hc : P.cellsOf e = sz) (hb : P.bytesOf e = bytes) (h : Rd P w e f good) :
    Rd P w t SlV.cells (fun s : SlV α => s.Ok w sz bytes f good) := by
  intro H enc fuel cs x hx hw
  rcases DataW.trod_slice ht hx with ⟨rfl, _⟩ | ⟨a, len, cap, elems, rest, n, rfl, rfl, hxe, hba, hl, hm, hel, hget, hspare, _⟩
  · exact ⟨⟨none, 0, 0, []⟩, rfl, ⟨Sl.nil _ _ _, rfl, fun _ => rfl, Nat.le_refl _, Nat.zero_le _, by simp, by intro x hx; simp at hx, by simp⟩⟩
  · obtain ⟨hrl, -⟩ := hspare rfl
    subst hxe
    have hw' : ∀ m ∈ ((elems.map (·.1)).length + (rest.map (·.1)).length) * P.bytesOf e :: (DataW.weightsAll P e (elems.map (·.1)) ++ DataW.weightsAll P e (rest.map (·.1))), m ≤ reachBytes := by
      intro m hm
      refine hw m ?_
      simp only [DataW.weights, ht]
      exact hm
    have hbytes := hw' _ (List.mem_cons_self)
    simp only [List.length_map, hel, hrl, hb] at hbytes
    have hlb : len * bytes ≤ 140737488351232 := by
      refine Nat.le_trans (Nat.mul_le_mul_right _ ?_) hbytes
      omega
    obtain ⟨aes, hal, has⟩ := choose_list (n := len) (R := fun i y => good y ∧ w.cells? 0 (a.add (i * sz)) sz = some (f y)) (fun i hi => by
      have hg := hget i hi
      have hlt : i < elems.length := by omega
      rw [List.getElem?_eq_getElem hlt] at hg
      rw [Option.bind_eq_some_iff] at hg
      obtain ⟨cs', h1, h2⟩ := hg
      obtain ⟨y, rfl, hy⟩ := h H enc n cs' _ h2 (fun m hm => hw' m (List.mem_cons_of_mem _ (List.mem_append_left _ (weightsAll_mem (List.mem_map_of_mem (List.getElem_mem hlt)) hm))))
      rw [hc] at h1
      exact ⟨y, hy, h1⟩)
    have hev : Even f sz aes := fun y hy => by
      obtain ⟨i, hi⟩ := List.mem_iff_getElem?.1 hy
      have := (World.cells?_some (has i y hi).2).2.1
      exact this
    refine ⟨⟨some a, len, cap, aes⟩, rfl, ⟨⟨?_, ?_⟩, hal, by simp, hl, hm, hlb, hev, ?_⟩⟩
    · rw [rows_len hev, hal]
    · by_cases h0 : len = 0
      · exact .inl h0
      · right
        refine ⟨a, rfl, ?_⟩
        intro j v hv
        simp only at hv
        have hjl : j < len * sz := by
          have := (List.getElem?_eq_some_iff.1 hv).1
          rw [rows_len hev, hal] at this; exact this
        have hsz : 0 < sz := by
          rcases Nat.eq_zero_or_pos sz with h | h
          · subst h; simp at hjl
          · exact h
        have hi : j / sz < aes.length := by rw [hal]; exact Nat.div_lt_of_lt_mul (by rw [Nat.mul_comm]; exact hjl)
        have hy := List.getElem?_eq_getElem hi
        have hmod : j % sz < sz := Nat.mod_lt _ hsz
        have hj : j / sz * sz + j % sz = j := by rw [Nat.mul_comm]; exact Nat.div_add_mod j sz
        have h2 := rows_at hev hy hmod
        rw [hj] at h2
        rw [h2] at hv
        obtain ⟨_, q1, q3⟩ := World.cells?_some (has _ _ hy).2
        have h3 := q3 (j % sz) hmod
        rw [hv] at h3
        have hspot : a.spot = none := by
          have hz : 0 < aes.length := by omega
          obtain ⟨_, r1, r3⟩ := World.cells?_some (has 0 _ (List.getElem?_eq_getElem hz)).2
          have h4 := r3 0 hsz
          rw [Nat.zero_mul, add_zero', add_zero', List.getElem?_eq_getElem (by rw [r1]; exact hsz)] at h4
          exact World.cell?_spot h4
        rw [← h3, Addr.add_add _ _ hspot, hj]
    · intro y hy
      obtain ⟨i, hi⟩ := List.mem_iff_getElem?.1 hy
      exact (has i y hi).1

/-- A struct's fields. -/
def fieldsOf (P : Program) (t : TypeId) : Option (List (TypeId × Nat)) := match P.underlying t with | some (.struct fs) => some (fs.toList.map fun f => (f.type, f.offset)) | _ => none
theorem Rd.open {t : TypeId} {α : Type} {f : α → List Value} {good : α → Prop} (h : Rd P w t f good) {v : Value} {d : DataW H} {ps : List MemPlace} (ho : DataW.Trod enc P w 0 (fun _ => true) true t v d ps)
    (hw : ∀ n ∈ DataW.weights P t d, n ≤ reachBytes) : ∃ a, v.cells.toList = f a ∧ good a := by
  obtain ⟨fuel, hf⟩ := ho
  exact h H enc fuel _ _ hf hw
end

end Go.Vc


/-
  What the bound of a statement 'Upto' says of the lengths of what came in.
-/
namespace Go.Proofs.YtmnbgcgealpcbaaGreatDoor
open Go Go.Vc Go.WideShapes

theorem bulk_pos {H : Type} (d : DataW H) : 1 ≤ Rows.uptoBulk d := by
  cases d with
  | lit l => cases l <;> simp [Rows.uptoBulk]
  | _ => simp [Rows.uptoBulk]
theorem bulk_count {H : Type} : ∀ (l : List (DataW H)), l.length ≤ Rows.uptoBulkAll l
  | [] => by simp
  | x :: r => by
    have := bulk_pos x; have := bulk_count r
    simp only [Rows.uptoBulkAll, List.length_cons]; omega
theorem bulk_slice {H : Type} {enc : TypeId × Value → H} {P : Program} {w : World} {t e : TypeId} {p : Option Addr} {l c : Nat} {d : DataW H} {ps : List MemPlace} (ht : P.underlying t = some (.slice e))
    (ho : DataW.Trod enc P w 0 (fun _ => true) true t (.slice p l c) d ps) : l ≤ Rows.uptoBulk d := by
  obtain ⟨fuel, hf⟩ := ho
  rcases DataW.trod_slice ht hf with ⟨h, _⟩ | ⟨a, len, cap, elems, rest, n, _, h, hxe, _, _, _, hel, _, _, _⟩
  · simp [Value.cells] at h
    omega
  · simp [Value.cells] at h
    obtain ⟨_, rfl, _⟩ := h
    have hd : d = .slice (elems.map (·.1)) (rest.map (·.1)) := by first | exact congrArg Prod.fst hxe | simpa using hxe | (cases hxe; rfl)
    subst hd
    have := bulk_count (elems.map (·.1))
    rw [List.length_map, hel] at this
    simp only [Rows.uptoBulk]
    omega
theorem bulk_all {H : Type} {l : List (DataW H)} (hk : Rows.uptoSmall H l = true) : Rows.uptoBulkAll l ≤ 1048576 := of_decide_eq_true hk
end Go.Proofs.YtmnbgcgealpcbaaGreatDoor


/-
  What the bound of a statement 'Upto' says of what came in, measured: slices within slices, strings.
-/
namespace Go.Proofs.YtmnbgcgealpcbaaGreatDoor
open Go Go.Vc Go.WideShapes

section
variable {H : Type} {enc : TypeId × Value → H} {P : Program} {w : World}
/-- As 'Rd', and a measure of it that the bound bounds. -/
def RdM (P : Program) (w : World) (t : TypeId) {α : Type} (f : α → List Value) (good : α → Prop) (mea : α → Nat) : Prop :=
  ∀ (H : Type) (enc : TypeId × Value → H) (fuel : Nat) (cs : List Value) (x : DataW H × List MemPlace), DataW.trod enc P w 0 (fun _ => true) true fuel t cs = some x →
    (∀ n ∈ DataW.weights P t x.1, n ≤ reachBytes) → ∃ a, cs = f a ∧ good a ∧ mea a ≤ Rows.uptoBulk x.1
theorem RdM.of {t : TypeId} {α : Type} {f : α → List Value} {good : α → Prop} (h : Rd P w t f good) : RdM P w t f good (fun _ => 1) := by
  intro H enc fuel cs x hx hw
  obtain ⟨a, ha, ga⟩ := h H enc fuel cs x hx hw
  exact ⟨a, ha, ga, bulk_pos _⟩
theorem bulkAll_sum {H : Type} : ∀ (l : List (DataW H)), Rows.uptoBulkAll l = (l.map Rows.uptoBulk).sum
  | [] => by simp [Rows.uptoBulkAll]
  | x :: r => by simp [Rows.uptoBulkAll, bulkAll_sum r]
theorem sum_le_sum : ∀ {a b : List Nat}, a.length = b.length → (∀ (i : Nat) (x y : Nat), a[i]? = some x → b[i]? = some y → x ≤ y) → a.sum ≤ b.sum
  | [], [], _, _ => Nat.le_refl _
  | [], _ :: _, h, _ => by simp at h
  | _ :: _, [], h, _ => by simp at h
  | x :: a, y :: b, h, k => by
    have h1 := k 0 x y rfl rfl
    have h2 := sum_le_sum (a := a) (b := b) (by simpa using h) (fun i u v hu hv => k (i + 1) u v (by simpa using hu) (by simpa using hv))
    simp only [List.sum_cons]
    omega
theorem RdM.open {t : TypeId} {α : Type} {f : α → List Value} {good : α → Prop} {mea : α → Nat} (h : RdM P w t f good mea) {v : Value} {d : DataW H} {ps : List MemPlace} (ho : DataW.Trod enc P w 0 (fun _ => true) true t v d ps)
    (hw : ∀ n ∈ DataW.weights P t d, n ≤ reachBytes) : ∃ a, v.cells.toList = f a ∧ good a ∧ mea a ≤ Rows.uptoBulk d := by
  obtain ⟨fuel, hf⟩ := ho
  exact h H enc fuel _ _ hf hw
end
end Go.Proofs.YtmnbgcgealpcbaaGreatDoor


/-
  What the reading of a tree says, and of its bulk.
-/
set_option linter.unusedVariables false
set_option linter.unusedSimpArgs false
namespace Go.Proofs.YtmnbgcgealpcbaaGreatDoor
open Go Go.Vc Go.WideShapes
section
variable {P : Program} {w : World}
/-- As 'RdM', at one fuel. -/
def RdN (P : Program) (w : World) (n : Nat) (t : TypeId) {α : Type} (f : α → List Value) (good : α → Prop) (mea : α → Nat) : Prop :=
  ∀ (H : Type) (enc : TypeId × Value → H) (cs : List Value) (x : DataW H × List MemPlace), DataW.trod enc P w 0 (fun _ => true) true n t cs = some x →
    (∀ n ∈ DataW.weights P t x.1, n ≤ reachBytes) → ∃ a, cs = f a ∧ good a ∧ mea a ≤ Rows.uptoBulk x.1
theorem RdM.at {t : TypeId} {α : Type} {f : α → List Value} {good : α → Prop} {mea : α → Nat} (h : RdM P w t f good mea) (n : Nat) : RdN P w n t f good mea := fun H enc cs x => h H enc n cs x
theorem RdN.zero {t : TypeId} {α : Type} {f : α → List Value} {good : α → Prop} {mea : α → Nat} : RdN P w 0 t f good mea := by
  intro H enc cs x hx _
  simp [DataW.trod] at hx
theorem RdN.slice {n : Nat} {t e : TypeId} {α : Type} {f : α → List Value} {good : α → Prop} {mea : α → Nat} {sz bytes : Nat} (ht : P.underlying t = some (.slice e)) (hc : P.cellsOf e = sz) (hb : P.bytesOf e = bytes) (h : RdN P w n e f good mea) :
    RdN P w (n + 1) t SlV.cells (fun s : SlV α => s.Ok w sz bytes f good) (fun s => (s.xs.map mea).sum) := by
  intro H enc cs x hx hw
  rcases DataW.trod_slice ht hx with ⟨rfl, _⟩ | ⟨a, len, cap, elems, rest, m, hnm, rfl, hxe, hba, hl, hm, hel, hget, hspare, _⟩
  · exact ⟨⟨none, 0, 0, []⟩, rfl, ⟨Sl.nil _ _ _, rfl, fun _ => rfl, Nat.le_refl _, Nat.zero_le _, by simp, by intro x hx; simp at hx, by simp⟩, by simp⟩
  · obtain rfl : m = n := by omega
    obtain ⟨hrl, -⟩ := hspare rfl
    subst hxe
    have hw' : ∀ q ∈ ((elems.map (·.1)).length + (rest.map (·.1)).length) * P.bytesOf e :: (DataW.weightsAll P e (elems.map (·.1)) ++ DataW.weightsAll P e (rest.map (·.1))), q ≤ reachBytes := by
      intro q hq
      refine hw q ?_
      simp only [DataW.weights, ht]
      exact hq
    have hbytes := hw' _ (List.mem_cons_self)
    simp only [List.length_map, hel, hrl, hb] at hbytes
    have hlb : len * bytes ≤ 140737488351232 := by
      refine Nat.le_trans (Nat.mul_le_mul_right _ ?_) hbytes
      omega
    obtain ⟨zs, hal, has⟩ := choose_list (n := len) (R := fun i y => (good y ∧ w.cells? 0 (a.add (i * sz)) sz = some (f y)) ∧ ∀ d, elems[i]? = some d → mea y ≤ Rows.uptoBulk d.1) (fun i hi => by
      have hg := hget i hi
      have hlt : i < elems.length := by omega
      rw [List.getElem?_eq_getElem hlt] at hg
      rw [Option.bind_eq_some_iff] at hg
      obtain ⟨cs', h1, h2⟩ := hg
      obtain ⟨y, rfl, hy, hme⟩ := h H enc cs' _ h2 (fun q hq => hw' q (List.mem_cons_of_mem _ (List.mem_append_left _ (weightsAll_mem (List.mem_map_of_mem (List.getElem_mem hlt)) hq))))
      rw [hc] at h1
      exact ⟨y, ⟨hy, h1⟩, fun d hd => by rw [List.getElem?_eq_getElem hlt] at hd; cases hd; exact hme⟩)
    have hev : Even f sz zs := fun y hy => by
      obtain ⟨i, hi⟩ := List.mem_iff_getElem?.1 hy
      have := (World.cells?_some (has i y hi).1.2).2.1
      exact this
    refine ⟨⟨some a, len, cap, zs⟩, rfl, ⟨⟨?_, ?_⟩, hal, by simp, hl, hm, hlb, hev, ?_⟩, ?_⟩
    · rw [rows_len hev, hal]
    · by_cases h0 : len = 0
      · exact .inl h0
      · right
        refine ⟨a, rfl, ?_⟩
        intro j v hv
        simp only at hv
        have hjl : j < len * sz := by
          have := (List.getElem?_eq_some_iff.1 hv).1
          rw [rows_len hev, hal] at this; exact this
        have hsz : 0 < sz := by
          rcases Nat.eq_zero_or_pos sz with h | h
          · subst h; simp at hjl
          · exact h
        have hi : j / sz < zs.length := by rw [hal]; exact Nat.div_lt_of_lt_mul (by rw [Nat.mul_comm]; exact hjl)
        have hy := List.getElem?_eq_getElem hi
        have hmod : j % sz < sz := Nat.mod_lt _ hsz
        have hj : j / sz * sz + j % sz = j := by rw [Nat.mul_comm]; exact Nat.div_add_mod j sz
        have h2 := rows_at hev hy hmod
        rw [hj] at h2
        rw [h2] at hv
        obtain ⟨_, q1, q3⟩ := World.cells?_some (has _ _ hy).1.2
        have h3 := q3 (j % sz) hmod
        rw [hv] at h3
        have hspot : a.spot = none := by
          have hz : 0 < zs.length := by omega
          obtain ⟨_, r1, r3⟩ := World.cells?_some (has 0 _ (List.getElem?_eq_getElem hz)).1.2
          have h4 := r3 0 hsz
          rw [Nat.zero_mul, add_zero', add_zero', List.getElem?_eq_getElem (by rw [r1]; exact hsz)] at h4
          exact World.cell?_spot h4
        rw [← h3, Go.Vc.Addr.add_add _ _ hspot, hj]
    · intro y hy
      obtain ⟨i, hi⟩ := List.mem_iff_getElem?.1 hy
      exact (has i y hi).1.1
    · have h1 : (zs.map mea).sum ≤ ((elems.map (·.1)).map Rows.uptoBulk).sum := by
        refine sum_le_sum (by rw [List.length_map, List.length_map, List.length_map, hal, hel]) fun i u v hu hv => ?_
        rw [List.getElem?_map, Option.map_eq_some_iff] at hu
        obtain ⟨y, hy, rfl⟩ := hu
        rw [List.getElem?_map, List.getElem?_map] at hv
        cases he : elems[i]? with
        | none => rw [he] at hv; cases hv
        | some d =>
          rw [he] at hv
          simp only [Option.map_some, Option.some.injEq] at hv
          subst hv
          exact (has i y hy).2 d he
      simp only [Rows.uptoBulk]
      rw [← bulkAll_sum] at h1
      omega
/-- The fields of a struct, at one fuel. -/
def RdNF (P : Program) (w : World) (k : Nat) (fs : List (TypeId × Nat)) (off n : Nat) {α : Type} (f : α → List Value) (good : α → Prop) (mea : α → Nat) : Prop :=
  ∀ (H : Type) (enc : TypeId × Value → H) (cs : List Value) (xs : List (DataW H × List MemPlace)), xs.length = fs.length →
    (∀ (i : Nat) (g : TypeId × Nat), fs[i]? = some g → DataW.trod enc P w 0 (fun _ => true) true k g.1 ((cs.drop g.2).take (P.cellsOf g.1)) = xs[i]?) →
    (∀ m ∈ DataW.weightsEach P (fs.map (·.1)) (xs.map (·.1)), m ≤ reachBytes) → ∃ a, (cs.drop off).take n = f a ∧ good a ∧ mea a ≤ Rows.uptoBulkAll (xs.map (·.1))
theorem RdNF.nil {k off : Nat} : RdNF P w k [] off 0 (fun _ : Unit => []) (fun _ => True) (fun _ => 0) := fun _ _ _ _ _ _ _ => ⟨(), by simp, trivial, Nat.zero_le _⟩
theorem RdNF.cons {q : Nat} {t : TypeId} {fs : List (TypeId × Nat)} {off k n m : Nat} {α β : Type} {f1 : α → List Value} {good1 : α → Prop} {mea1 : α → Nat} {f2 : β → List Value} {good2 : β → Prop} {mea2 : β → Nat} (hk : P.cellsOf t = k) (hm : k + n = m)
    (h1 : RdN P w q t f1 good1 mea1) (h2 : RdNF P w q fs (off + k) n f2 good2 mea2) : RdNF P w q ((t, off) :: fs) off m (fun x : α × β => f1 x.1 ++ f2 x.2) (fun x => good1 x.1 ∧ good2 x.2) (fun x => mea1 x.1 + mea2 x.2) := by
  intro H enc cs xs hl hg hw
  cases xs with
  | nil => simp at hl
  | cons x xs =>
    have h0 := hg 0 (t, off) rfl
    simp only [List.getElem?_cons_zero] at h0
    simp only [List.map_cons, DataW.weightsEach, List.mem_append] at hw
    obtain ⟨a, ha, ga, ma⟩ := h1 H enc _ x h0 (fun m hm => hw m (.inl hm))
    obtain ⟨b, hb, gb, mb⟩ := h2 H enc cs xs (by simpa using hl) (fun i q hq => by have := hg (i + 1) q (by simpa using hq); simpa using this) (fun m hm => hw m (.inr hm))
    refine ⟨(a, b), ?_, ⟨ga, gb⟩, ?_⟩
    · simp only
      rw [← ha, ← hb, ← hm, hk, List.take_add, List.drop_drop]
    · simp only [List.map_cons, Rows.uptoBulkAll]; omega
theorem RdN.struct {k : Nat} {t : TypeId} {L : List (TypeId × Nat)} {n : Nat} {α : Type} {f : α → List Value} {good : α → Prop} {mea : α → Nat} (ht : fieldsOf P t = some L) (hc : P.cellsOf t = n) (h : RdNF P w k L 0 n f good mea) : RdN P w (k + 1) t f good (fun a => mea a + 1) := by
  intro H enc cs x hx hw
  unfold fieldsOf at ht
  split at ht
  · next fs hu =>
    cases ht
    obtain ⟨xs, m, hm, rfl, hl, hxl, hg⟩ := DataW.trod_struct hu hx
    obtain rfl : m = k := by omega
    obtain ⟨a, ha, ga, ma⟩ := h H enc cs xs (by simpa using hxl) (fun i g hgi => by
        rw [List.getElem?_map, Option.map_eq_some_iff] at hgi
        obtain ⟨q, hq, rfl⟩ := hgi
        exact hg i q (by simpa using hq)) (fun q hq => hw q (by simp only [DataW.weights, hu]; rw [List.map_map] at hq; exact hq))
    refine ⟨a, ?_, ga, ?_⟩
    · rw [← ha, List.drop_zero, List.take_of_length_le (by omega)]
    · simp only [Rows.uptoBulk]; omega
  · cases ht
theorem RdN.map {n : Nat} {t : TypeId} {α β : Type} {f : α → List Value} {good : α → Prop} {mea : α → Nat} {f2 : β → List Value} {good2 : β → Prop} {mea2 : β → Nat} (h : RdN P w n t f good mea) (g : α → β) (hf : ∀ a, good a → f a = f2 (g a)) (hg : ∀ a, good a → good2 (g a)) (hm : ∀ a, good a → mea2 (g a) ≤ mea a) : RdN P w n t f2 good2 mea2 := by
  intro H enc cs x hx hw
  obtain ⟨a, ha, ga, ma⟩ := h H enc cs x hx hw
  exact ⟨g a, by rw [ha, hf a ga], hg a ga, Nat.le_trans (hm a ga) ma⟩
theorem RdN.pred {n : Nat} {t : TypeId} {α : Type} {f : α → List Value} {good : α → Prop} {mea : α → Nat} (h : ∀ m, n = m + 1 → RdN P w (m + 1) t f good mea) : RdN P w n t f good mea := by
  cases n with
  | zero => exact RdN.zero
  | succ m => exact h m rfl
theorem RdN.str {n : Nat} {t : TypeId} (ht : P.underlying t = some .string) : RdN P w n t (fun s : ByteArray => [.string s]) (fun s => s.size ≤ 140737488351232) (fun s => s.size + 1) := by
  intro H enc cs x h hw
  obtain ⟨s, rfl, hx, _⟩ := DataW.trod_string ht h
  subst hx
  refine ⟨s, rfl, ?_, ?_⟩
  · have := hw s.data.toList.length (by simp [DataW.weights])
    simpa [reachBytes] using this
  · simp only [Rows.uptoBulk]
    have : s.data.toList.length = s.size := rfl
    omega
theorem RdN.to {t : TypeId} {α : Type} {f : α → List Value} {good : α → Prop} {mea : α → Nat} (h : ∀ n, RdN P w n t f good mea) : RdM P w t f good mea := fun H enc fuel cs x => h fuel H enc cs x
end
section
variable {w : World}
def InPr2 (x : Pr) : Prop := x.1.size ≤ 140737488351232 ∧ x.2.size ≤ 140737488351232
def InAt (x : At) : Prop := x.1.size ≤ 140737488351232 ∧ x.2.1.size ≤ 140737488351232 ∧ x.2.2.size ≤ 140737488351232
theorem rdn_str (n : Nat) : RdN Tryz.prog w n T_string (fun s : ByteArray => [.string s]) (fun s => s.size ≤ 140737488351232) (fun s => s.size + 1) := RdN.str (by kernel_rfl)
theorem rdn_name (n : Nat) : RdN Tryz.prog w n T_api_Name pr InPr2 (fun x => x.1.size + x.2.size + 1) := RdN.pred fun m _ =>
  (RdN.struct (L := [(T_string, 0), (T_string, 1)]) (n := 2) (by kernel_rfl) (by kernel_rfl) (RdNF.cons (k := 1) (n := 1) (by kernel_rfl) rfl (rdn_str m) (RdNF.cons (k := 1) (n := 0) (by kernel_rfl) rfl (rdn_str m) RdNF.nil))).map
    (fun x => (x.1, x.2.1)) (fun _ _ => rfl) (fun _ h => ⟨h.1, h.2.1⟩) (fun x _ => by simp only; omega)
theorem rdn_attr (n : Nat) : RdN Tryz.prog w n T_api_Attr atc InAt atSize := RdN.pred fun m _ =>
  (RdN.struct (L := [(T_api_Name, 0), (T_string, 2)]) (n := 3) (by kernel_rfl) (by kernel_rfl) (RdNF.cons (k := 2) (n := 1) (by kernel_rfl) rfl (rdn_name m) (RdNF.cons (k := 1) (n := 0) (by kernel_rfl) rfl (rdn_str m) RdNF.nil))).map
    (fun x => (x.1.1, x.1.2, x.2.1)) (fun _ _ => rfl) (fun _ h => ⟨h.1.1, h.1.2, h.2.1⟩) (fun x _ => by simp only [atSize]; omega)
theorem rdn_sl_attr (n : Nat) : RdN Tryz.prog w n T_sl_api_Attr SlV.cells (fun s : SlV At => s.Ok w 3 48 atc InAt) (fun s => (s.xs.map atSize).sum) := RdN.pred fun m _ => RdN.slice (by kernel_rfl) (by kernel_rfl) (by kernel_rfl) (rdn_attr m)
theorem rdn_kind (n : Nat) : RdN Tryz.prog w n T_int (fun n : Int => [.int .i64 n]) InI (fun _ => 1) := (RdM.of (Rd.i64 (by kernel_rfl))).at n
/-- A tree that came in. -/
theorem rdn_node : ∀ n : Nat, RdN Tryz.prog w n T_api_Node NV.cells (NV.Ok w) NV.mea := by
  intro n
  induction n using Nat.strongRecOn with
  | ind n ih =>
    refine RdN.pred fun m hm => ?_
    have hk : RdN Tryz.prog w m T_sl_api_Node SlV.cells (fun s : SlV NV => s.Ok w 6 104 NV.cells (NV.Ok w)) (fun s => (s.xs.map NV.mea).sum) := RdN.pred fun k hk => RdN.slice (by kernel_rfl) (by kernel_rfl) (by kernel_rfl) (ih k (by omega))
    refine (RdN.struct (L := [(T_int, 0), (T_api_Name, 1), (T_sl_api_Attr, 3), (T_sl_api_Node, 4), (T_string, 5)]) (n := 6) (by kernel_rfl) (by kernel_rfl)
      (RdNF.cons (k := 1) (n := 5) (by kernel_rfl) rfl (rdn_kind m) (RdNF.cons (k := 2) (n := 3) (by kernel_rfl) rfl (rdn_name m) (RdNF.cons (k := 1) (n := 2) (by kernel_rfl) rfl (rdn_sl_attr m)
        (RdNF.cons (k := 1) (n := 1) (by kernel_rfl) rfl hk (RdNF.cons (k := 1) (n := 0) (by kernel_rfl) rfl (rdn_str m) RdNF.nil)))))).map
      (fun x => .mk x.1 x.2.1.1 x.2.1.2 x.2.2.2.2.1 x.2.2.1.p x.2.2.1.l x.2.2.1.c x.2.2.1.xs x.2.2.2.1.p x.2.2.2.1.l x.2.2.2.1.c x.2.2.2.1.xs) (fun _ _ => rfl) (fun x h => ?_) (fun x _ => ?_)
    · obtain ⟨h1, h2, h3, h4, h5, _⟩ := h
      exact .mk h3.sl h3.nil h3.cap h4.sl h4.nil h4.cap h4.all
    · simp only [NV.mea, meaL_sum]; omega
theorem rdm_node : RdM Tryz.prog w T_api_Node NV.cells (NV.Ok w) NV.mea := RdN.to rdn_node
end
end Go.Proofs.YtmnbgcgealpcbaaGreatDoor


/-
  The library's tables, as the rows list them.
-/
namespace Go.Proofs.YtmnbgcgealpcbaaGreatDoor
open Go Go.Vc Go.Lib Go.Shelf
def ren8 : Ren := ⟨fun x => x, fun n => if n = 5 then T_uint8 else if n = 119 then T_256_uint8 else if n = 138 then T_utf8_acceptRange else T_16_utf8_acceptRange, fun n => if n = 3 then 0 else 1⟩
theorem u8Types : U8Types Tryz.prog ren8 := ⟨by kernel_rfl, by kernel_rfl, by kernel_rfl, by kernel_rfl⟩
theorem u8Extra : U8Extra Tryz.prog ren8 := ⟨by kernel_rfl, by kernel_rfl, by kernel_rfl, by kernel_rfl, by kernel_rfl, by kernel_rfl, by kernel_rfl⟩
theorem first_eq : Rows.laid_unicode_utf8_first = firstData := by kernel_rfl
theorem accept_eq : Rows.laid_unicode_utf8_acceptRanges (H := Unit) = acceptData := by kernel_rfl
end Go.Proofs.YtmnbgcgealpcbaaGreatDoor


/-
  What the statements over trees begin with: small texts without a fault, a variable of its own, the library's tables.
-/
set_option linter.unusedVariables false
set_option linter.unusedSimpArgs false
namespace Go.Vc
open Go Go.Lib
end Go.Vc
namespace Go.Proofs.YtmnbgcgealpcbaaGreatDoor
open Go Go.Vc Go.Lib
section
variable {w : World}
end
end Go.Proofs.YtmnbgcgealpcbaaGreatDoor

/-
  The library's tables and the variable of the library's own, as chapter 5's rows list them.
-/

set_option linter.unusedVariables false
namespace Go.Proofs.YtmnbgcgealpcbaaGreatDoor
open Go Go.Vc Go.Lib Go.Shelf
def foldZ : List Int := match (Rows.laid_unicode_asciiFold (H := Unit)) with
  | .agg ds => ds.map fun d => match d with | .lit (.int _ z) => z | _ => 0
  | _ => []
theorem fold_eq : Rows.laid_unicode_asciiFold (H := Unit) = tabData .u16 foldZ := by kernel_rfl
theorem fold_of_reads {W : World} (h : VarReads Tryz.prog W "unicode.asciiFold" (tabData .u16 foldZ)) : FoldTab W := by
  obtain ⟨g, t, cs, fuel, p, hg, hty, hvar, hd⟩ := h
  have n : Tryz.prog.globalNamed "unicode.asciiFold" = some 2 := by kernel_rfl
  have y : (Tryz.prog.globals[2]?).map (·.type) = some T_128_uint16 := by kernel_rfl
  obtain rfl := Option.some.inj (n.symm.trans hg)
  obtain rfl := Option.some.inj (y.symm.trans hty)
  have hcs := cells_of_tab (n := 128) (e := T_uint16) (by kernel_rfl) (by kernel_rfl) (by kernel_rfl) (by kernel_rfl) hd
  intro q hq
  have hc := World.var?_cell hg hvar q.1
  rw [hc, ← Array.getElem?_toList, hcs, List.getElem?_map]
  simp only [List.mem_cons, List.not_mem_nil, or_false] at hq
  rcases hq with rfl | rfl | rfl | rfl | rfl | rfl
  · exact congrArg (Option.map _) (show foldZ[120]? = some 88 by kernel_rfl)
  · exact congrArg (Option.map _) (show foldZ[88]? = some 120 by kernel_rfl)
  · exact congrArg (Option.map _) (show foldZ[109]? = some 77 by kernel_rfl)
  · exact congrArg (Option.map _) (show foldZ[77]? = some 109 by kernel_rfl)
  · exact congrArg (Option.map _) (show foldZ[108]? = some 76 by kernel_rfl)
  · exact congrArg (Option.map _) (show foldZ[76]? = some 108 by kernel_rfl)
theorem maxl_of_shape {W : World} (h : W.ShapedOpen Tryz.prog) : ∃ m : Int, W.cell? ⟨5, 0, none⟩ = some (.int .i64 m) :=
  cell_of_shapedOpen_int (t := T_int) (zero := #[.int .i64 0]) h (of_decide_eq_true (by kernel_rfl)) (by kernel_rfl) rfl (by kernel_rfl) (by kernel_rfl) (by kernel_rfl)
theorem struct_of {P : Program} {t : TypeId} (h : (match P.underlying t with | some (.struct _) => true | _ => false) = true) : ∃ fs, P.underlying t = some (.struct fs) := by
  split at h
  · next fs hf => exact ⟨fs, hf⟩
  · cases h
end Go.Proofs.YtmnbgcgealpcbaaGreatDoor


/- none of these here -/

/-
  Chapter 5's statements: what they begin with; Orders.
-/
set_option linter.unusedVariables false
set_option linter.unusedSimpArgs false
namespace Go.Vc
open Go Go.Lib
end Go.Vc
namespace Go.Proofs.YtmnbgcgealpcbaaGreatDoor
open Go Go.Vc Go.Lib
section
variable {w : World}
end
end Go.Proofs.YtmnbgcgealpcbaaGreatDoor

/-
  Chapter 5's statements: Orders.
-/

set_option linter.unusedVariables false
set_option linter.unusedSimpArgs false
namespace Go.Vc
open Go Go.Lib
end Go.Vc
namespace Go.Proofs.YtmnbgcgealpcbaaGreatDoor
open Go Go.Vc Go.Lib
section
variable {w : World}
end
end Go.Proofs.YtmnbgcgealpcbaaGreatDoor


/- What the conditions of these functions are, reckoned by the reading; printed by program. -/
set_option maxRecDepth 100000
set_option linter.unusedVariables false
namespace Go.Proofs.YtmnbgcgealpcbaaGreatDoor
open Go Go.Vc

/-- lectern/lecternref05.Flat -/
def VC_ref05_Flat (n0_0 : Int) (n0_1 : ByteArray) (n0_2 : ByteArray) (n0_3p : Option Addr) (n0_3l : Nat) (n0_3c : Nat) (n0_4p : Option Addr) (n0_4l : Nat) (n0_4c : Nat) (n0_5 : ByteArray) (w : World) (J : Option Addr → Nat → Nat → World → Prop) : Prop :=
  newB w (.cells ⟨[.int .i64 n0_0, .string n0_1, .string n0_2, .slice n0_3p n0_3l n0_3c, .slice n0_4p n0_4l n0_4c, .string n0_5]⟩ T_api_Node) fun b1 w1 =>
  ldI .i64 w1 ⟨b1, 0, none⟩ fun x6_0 =>
  ldStr w1 ⟨b1, 1, none⟩ fun x6_1 =>
  ldStr w1 ⟨b1, 2, none⟩ fun x6_2 =>
  ldS w1 ⟨b1, 3, none⟩ fun x6_3p x6_3l x6_3c =>
  ldS w1 ⟨b1, 4, none⟩ fun x6_4p x6_4l x6_4c =>
  ldStr w1 ⟨b1, 5, none⟩ fun x6_5 =>
  Array.size (⟨[.int .i64 x6_0, .string x6_1, .string x6_2, .slice x6_3p x6_3l x6_3c, .slice x6_4p x6_4l x6_4c, .string x6_5]⟩ : Array Value) = 6 ∧
  newB w1 (.cells ⟨[.int .i64 x6_0, .string x6_1, .string x6_2, .slice x6_3p x6_3l x6_3c, .slice x6_4p x6_4l x6_4c, .string x6_5]⟩ T_api_Node) fun b7 w2 =>
  ldS w2 ⟨b1, 4, none⟩ fun x9p x9l x9c =>
  ∃ I_3 : Option Addr → Nat → Nat → Int → World → Nat → Prop, (∃ m : Nat, I_3 (some ⟨b7, 0, none⟩) 1 1 (0 : Int) w2 m) ∧ ∀ (out3p : Option Addr) (out3l : Nat) (out3c : Nat) (x11 : Int) (w3 : World) (m : Nat), I_3 out3p out3l out3c x11 w3 m → (
  condB (decide (x11 < ((x9l : Nat) : Int))) (
  idxA x9p x9l x11 fun a13 =>
  ldI .i64 w3 ((a13.add (x11.toNat * 6))) fun x14_0 =>
  ldStr w3 (((a13.add (x11.toNat * 6)).add 1)) fun x14_1 =>
  ldStr w3 (((a13.add (x11.toNat * 6)).add 2)) fun x14_2 =>
  ldS w3 (((a13.add (x11.toNat * 6)).add 3)) fun x14_3p x14_3l x14_3c =>
  ldS w3 (((a13.add (x11.toNat * 6)).add 4)) fun x14_4p x14_4l x14_4c =>
  ldStr w3 (((a13.add (x11.toNat * 6)).add 5)) fun x14_5 =>
  newB w3 (.cells (zeroC Tryz.prog T_api_Node) T_api_Node) fun b5 w4 =>
  stN w4 ⟨b5, 0, none⟩ ⟨[.int .i64 x14_0, .string x14_1, .string x14_2, .slice x14_3p x14_3l x14_3c, .slice x14_4p x14_4l x14_4c, .string x14_5]⟩ 6 fun w5 =>
  ldI .i64 w5 ⟨b5, 0, none⟩ fun x16_0 =>
  ldStr w5 ⟨b5, 1, none⟩ fun x16_1 =>
  ldStr w5 ⟨b5, 2, none⟩ fun x16_2 =>
  ldS w5 ⟨b5, 3, none⟩ fun x16_3p x16_3l x16_3c =>
  ldS w5 ⟨b5, 4, none⟩ fun x16_4p x16_4l x16_4c =>
  ldStr w5 ⟨b5, 5, none⟩ fun x16_5 =>
  callJ Tryz.prog fn_ref05_Flat #[.agg ⟨[.int .i64 x16_0, .string x16_1, .string x16_2, .slice x16_3p x16_3l x16_3c, .slice x16_4p x16_4l x16_4c, .string x16_5]⟩] w5 [.one .slice] fun (r17p : Option Addr) (r17l : Nat) (r17c : Nat) (w6 : World) =>
  appJ Tryz.prog T_sl_api_Node T_sl_api_Node (.slice out3p out3l out3c) (.slice r17p r17l r17c) w6 fun q18p q18l q18c w7 =>
  ∃ m' : Nat, m' < m ∧ I_3 q18p q18l q18c (w64 (x11 + (1 : Int))) w7 m') (
  J out3p out3l out3c w3))
def ann_ref05_Flat : Ann := .s (.o) (.s (.o) (.s (.s (.o) (.b (.l [(3, .slice), (11, .int .i64)] (.s (.o) (.s (.c (.o) (.o)) (.s (.b (.s (.o) (.o))) (.o))))))) (.s (.o) (.o))))
theorem eq_ref05_Flat (n0_0 : Int) (n0_1 : ByteArray) (n0_2 : ByteArray) (n0_3p : Option Addr) (n0_3l : Nat) (n0_3c : Nat) (n0_4p : Option Addr) (n0_4l : Nat) (n0_4c : Nat) (n0_5 : ByteArray) (w : World) (J : Option Addr → Nat → Nat → World → Prop) : vcFun Tryz.prog Tryz.f26 ann_ref05_Flat [.one .slice] [.agg ⟨[.int .i64 n0_0, .string n0_1, .string n0_2, .slice n0_3p n0_3l n0_3c, .slice n0_4p n0_4l n0_4c, .string n0_5]⟩] w J = VC_ref05_Flat n0_0 n0_1 n0_2 n0_3p n0_3l n0_3c n0_4p n0_4l n0_4c n0_5 w J := by kernel_rfl
theorem c_ref05_Flat {n0_0 : Int} {n0_1 : ByteArray} {n0_2 : ByteArray} {n0_3p : Option Addr} {n0_3l : Nat} {n0_3c : Nat} {n0_4p : Option Addr} {n0_4l : Nat} {n0_4c : Nat} {n0_5 : ByteArray} {w : World} {J : Option Addr → Nat → Nat → World → Prop} (h : VC_ref05_Flat n0_0 n0_1 n0_2 n0_3p n0_3l n0_3c n0_4p n0_4l n0_4c n0_5 w J) : callJ Tryz.prog fn_ref05_Flat #[.agg ⟨[.int .i64 n0_0, .string n0_1, .string n0_2, .slice n0_3p n0_3l n0_3c, .slice n0_4p n0_4l n0_4c, .string n0_5]⟩] w [.one .slice] J := vc_calls Tryz.func26 ann_ref05_Flat (Eq.mpr (eq_ref05_Flat n0_0 n0_1 n0_2 n0_3p n0_3l n0_3c n0_4p n0_4l n0_4c n0_5 w J) h)

/-- lectern/lecternref05.Paths -/
def VC_ref05_Paths (n0_0 : Int) (n0_1 : ByteArray) (n0_2 : ByteArray) (n0_3p : Option Addr) (n0_3l : Nat) (n0_3c : Nat) (n0_4p : Option Addr) (n0_4l : Nat) (n0_4c : Nat) (n0_5 : ByteArray) (w : World) (J : Option Addr → Nat → Nat → World → Prop) : Prop :=
  newB w (.cells ⟨[.int .i64 n0_0, .string n0_1, .string n0_2, .slice n0_3p n0_3l n0_3c, .slice n0_4p n0_4l n0_4c, .string n0_5]⟩ T_api_Node) fun b1 w1 =>
  newB w1 (.cells ⟨[]⟩ T_int) fun b8 w2 =>
  newB w2 (.cells ⟨[.slice (some ⟨b8, 0, none⟩) 0 0]⟩ T_sl_int) fun b9 w3 =>
  ldS w3 ⟨b1, 4, none⟩ fun x11p x11l x11c =>
  ∃ I_3 : Option Addr → Nat → Nat → Int → World → Nat → Prop, (∃ m : Nat, I_3 (some ⟨b9, 0, none⟩) 1 1 (0 : Int) w3 m) ∧ ∀ (out3p : Option Addr) (out3l : Nat) (out3c : Nat) (x13 : Int) (w4 : World) (m : Nat), I_3 out3p out3l out3c x13 w4 m → (
  condB (decide (x13 < ((x11l : Nat) : Int))) (
  idxA x11p x11l x13 fun a16 =>
  ldI .i64 w4 ((a16.add (x13.toNat * 6))) fun x17_0 =>
  ldStr w4 (((a16.add (x13.toNat * 6)).add 1)) fun x17_1 =>
  ldStr w4 (((a16.add (x13.toNat * 6)).add 2)) fun x17_2 =>
  ldS w4 (((a16.add (x13.toNat * 6)).add 3)) fun x17_3p x17_3l x17_3c =>
  ldS w4 (((a16.add (x13.toNat * 6)).add 4)) fun x17_4p x17_4l x17_4c =>
  ldStr w4 (((a16.add (x13.toNat * 6)).add 5)) fun x17_5 =>
  newB w4 (.cells (zeroC Tryz.prog T_api_Node) T_api_Node) fun b5 w5 =>
  stN w5 ⟨b5, 0, none⟩ ⟨[.int .i64 x17_0, .string x17_1, .string x17_2, .slice x17_3p x17_3l x17_3c, .slice x17_4p x17_4l x17_4c, .string x17_5]⟩ 6 fun w6 =>
  ldI .i64 w6 ⟨b5, 0, none⟩ fun x18_0 =>
  ldStr w6 ⟨b5, 1, none⟩ fun x18_1 =>
  ldStr w6 ⟨b5, 2, none⟩ fun x18_2 =>
  ldS w6 ⟨b5, 3, none⟩ fun x18_3p x18_3l x18_3c =>
  ldS w6 ⟨b5, 4, none⟩ fun x18_4p x18_4l x18_4c =>
  ldStr w6 ⟨b5, 5, none⟩ fun x18_5 =>
  callJ Tryz.prog fn_ref05_Paths #[.agg ⟨[.int .i64 x18_0, .string x18_1, .string x18_2, .slice x18_3p x18_3l x18_3c, .slice x18_4p x18_4l x18_4c, .string x18_5]⟩] w6 [.one .slice] fun (r19p : Option Addr) (r19l : Nat) (r19c : Nat) (w7 : World) =>
  ∃ I_3_1 : Option Addr → Nat → Nat → Int → World → Nat → Prop, (∃ m : Nat, I_3_1 out3p out3l out3c (0 : Int) w7 m) ∧ ∀ (out3_1p : Option Addr) (out3_1l : Nat) (out3_1c : Nat) (x21 : Int) (w8 : World) (m_1 : Nat), I_3_1 out3_1p out3_1l out3_1c x21 w8 m_1 → (
  condB (decide (x21 < ((r19l : Nat) : Int))) (
  idxA r19p r19l x21 fun a23 =>
  ldS w8 ((a23.add (x21.toNat * 1))) fun x24p x24l x24c =>
  newB w8 (.cells ⟨[.int .i64 x13]⟩ T_int) fun b27 w9 =>
  appJ Tryz.prog T_sl_int T_sl_int (.slice (some ⟨b27, 0, none⟩) 1 1) (.slice x24p x24l x24c) w9 fun q29p q29l q29c w10 =>
  newB w10 (.cells ⟨[.slice q29p q29l q29c]⟩ T_sl_int) fun b30 w11 =>
  appJ Tryz.prog T_sl_sl_int T_sl_sl_int (.slice out3_1p out3_1l out3_1c) (.slice (some ⟨b30, 0, none⟩) 1 1) w11 fun q31p q31l q31c w12 =>
  ∃ m' : Nat, m' < m_1 ∧ I_3_1 q31p q31l q31c (w64 (x21 + (1 : Int))) w12 m') (
  ∃ m' : Nat, m' < m ∧ I_3 out3_1p out3_1l out3_1c (w64 (x13 + (1 : Int))) w8 m'))) (
  J out3p out3l out3c w4))
def ann_ref05_Paths : Ann := .s (.o) (.s (.o) (.s (.s (.o) (.b (.l [(3, .slice), (13, .int .i64)] (.s (.o) (.s (.c (.o) (.o)) (.s (.b (.s (.o) (.s (.o) (.b (.l [(3, .slice), (21, .int .i64)] (.s (.o) (.s (.c (.o) (.o)) (.s (.b (.s (.o) (.o))) (.o))))))))) (.o))))))) (.s (.o) (.o))))
theorem eq_ref05_Paths (n0_0 : Int) (n0_1 : ByteArray) (n0_2 : ByteArray) (n0_3p : Option Addr) (n0_3l : Nat) (n0_3c : Nat) (n0_4p : Option Addr) (n0_4l : Nat) (n0_4c : Nat) (n0_5 : ByteArray) (w : World) (J : Option Addr → Nat → Nat → World → Prop) : vcFun Tryz.prog Tryz.f7 ann_ref05_Paths [.one .slice] [.agg ⟨[.int .i64 n0_0, .string n0_1, .string n0_2, .slice n0_3p n0_3l n0_3c, .slice n0_4p n0_4l n0_4c, .string n0_5]⟩] w J = VC_ref05_Paths n0_0 n0_1 n0_2 n0_3p n0_3l n0_3c n0_4p n0_4l n0_4c n0_5 w J := by kernel_rfl
theorem c_ref05_Paths {n0_0 : Int} {n0_1 : ByteArray} {n0_2 : ByteArray} {n0_3p : Option Addr} {n0_3l : Nat} {n0_3c : Nat} {n0_4p : Option Addr} {n0_4l : Nat} {n0_4c : Nat} {n0_5 : ByteArray} {w : World} {J : Option Addr → Nat → Nat → World → Prop} (h : VC_ref05_Paths n0_0 n0_1 n0_2 n0_3p n0_3l n0_3c n0_4p n0_4l n0_4c n0_5 w J) : callJ Tryz.prog fn_ref05_Paths #[.agg ⟨[.int .i64 n0_0, .string n0_1, .string n0_2, .slice n0_3p n0_3l n0_3c, .slice n0_4p n0_4l n0_4c, .string n0_5]⟩] w [.one .slice] J := vc_calls Tryz.func7 ann_ref05_Paths (Eq.mpr (eq_ref05_Paths n0_0 n0_1 n0_2 n0_3p n0_3l n0_3c n0_4p n0_4l n0_4c n0_5 w J) h)

/-- lectern/lecternref05.SameInts -/
def VC_ref05_SameInts (a0p : Option Addr) (a0l : Nat) (a0c : Nat) (b1p : Option Addr) (b1l : Nat) (b1c : Nat) (w : World) (J : Bool → World → Prop) : Prop :=
  condB (((a0l : Nat) : Int) != ((b1l : Nat) : Int)) (
  J false w) (
  ∃ I_13 : Int → World → Nat → Prop, (∃ m : Nat, I_13 (0 : Int) w m) ∧ ∀ (x13 : Int) (w1 : World) (m : Nat), I_13 x13 w1 m → (
  condB (decide (x13 < ((a0l : Nat) : Int))) (
  idxA a0p a0l x13 fun a18 =>
  ldI .i64 w1.drew ((a18.add (x13.toNat * 1))) fun x19 =>
  idxA b1p b1l x13 fun a22 =>
  ldI .i64 w1.drew ((a22.add (x13.toNat * 1))) fun x23 =>
  condB (x19 != x23) (
  J false w1.drew) (
  ∃ m' : Nat, m' < m ∧ I_13 (w64 (x13 + (1 : Int))) w1.drew m')) (
  J true w1)))
def ann_ref05_SameInts : Ann := .s (.o) (.s (.s (.o) (.c (.s (.o) (.o)) (.o))) (.s (.s (.o) (.b (.l [(13, .int .i64)] (.s (.o) (.s (.c (.o) (.o)) (.s (.b (.s (.o) (.s (.d (.take 0 (.take 1 (.take 2 (.take 3 (.take 4 (.take 5 (.take 6 (.take 7 (.take 8 (.done))))))))))) (.c (.s (.o) (.o)) (.o))))) (.o))))))) (.s (.o) (.o))))
theorem eq_ref05_SameInts (a0p : Option Addr) (a0l : Nat) (a0c : Nat) (b1p : Option Addr) (b1l : Nat) (b1c : Nat) (w : World) (J : Bool → World → Prop) : vcFun Tryz.prog Tryz.f27 ann_ref05_SameInts [.one .bool] [.slice a0p a0l a0c, .slice b1p b1l b1c] w J = VC_ref05_SameInts a0p a0l a0c b1p b1l b1c w J := by kernel_rfl
theorem c_ref05_SameInts {a0p : Option Addr} {a0l : Nat} {a0c : Nat} {b1p : Option Addr} {b1l : Nat} {b1c : Nat} {w : World} {J : Bool → World → Prop} (h : VC_ref05_SameInts a0p a0l a0c b1p b1l b1c w J) : callJ Tryz.prog fn_ref05_SameInts #[.slice a0p a0l a0c, .slice b1p b1l b1c] w [.one .bool] J := vc_calls Tryz.func27 ann_ref05_SameInts (Eq.mpr (eq_ref05_SameInts a0p a0l a0c b1p b1l b1c w J) h)

/-- lectern/lecternref05.Small -/
def VC_ref05_Small (n0_0 : Int) (n0_1 : ByteArray) (n0_2 : ByteArray) (n0_3p : Option Addr) (n0_3l : Nat) (n0_3c : Nat) (n0_4p : Option Addr) (n0_4l : Nat) (n0_4c : Nat) (n0_5 : ByteArray) (most1 : Int) (w : World) (J : Bool → World → Prop) : Prop :=
  newB w (.cells ⟨[.int .i64 n0_0, .string n0_1, .string n0_2, .slice n0_3p n0_3l n0_3c, .slice n0_4p n0_4l n0_4c, .string n0_5]⟩ T_api_Node) fun b2 w1 =>
  ldI .i64 w1 ⟨b2, 0, none⟩ fun x5_0 =>
  ldStr w1 ⟨b2, 1, none⟩ fun x5_1 =>
  ldStr w1 ⟨b2, 2, none⟩ fun x5_2 =>
  ldS w1 ⟨b2, 3, none⟩ fun x5_3p x5_3l x5_3c =>
  ldS w1 ⟨b2, 4, none⟩ fun x5_4p x5_4l x5_4c =>
  ldStr w1 ⟨b2, 5, none⟩ fun x5_5 =>
  callJ Tryz.prog fn_ref05_Flat #[.agg ⟨[.int .i64 x5_0, .string x5_1, .string x5_2, .slice x5_3p x5_3l x5_3c, .slice x5_4p x5_4l x5_4c, .string x5_5]⟩] w1 [.one .slice] fun (r6p : Option Addr) (r6l : Nat) (r6c : Nat) (w2 : World) =>
  J (decide (((r6l : Nat) : Int) ≤ most1)) w2
def ann_ref05_Small : Ann := .s (.o) (.s (.o) (.o))
theorem eq_ref05_Small (n0_0 : Int) (n0_1 : ByteArray) (n0_2 : ByteArray) (n0_3p : Option Addr) (n0_3l : Nat) (n0_3c : Nat) (n0_4p : Option Addr) (n0_4l : Nat) (n0_4c : Nat) (n0_5 : ByteArray) (most1 : Int) (w : World) (J : Bool → World → Prop) : vcFun Tryz.prog Tryz.f6 ann_ref05_Small [.one .bool] [.agg ⟨[.int .i64 n0_0, .string n0_1, .string n0_2, .slice n0_3p n0_3l n0_3c, .slice n0_4p n0_4l n0_4c, .string n0_5]⟩, .int .i64 most1] w J = VC_ref05_Small n0_0 n0_1 n0_2 n0_3p n0_3l n0_3c n0_4p n0_4l n0_4c n0_5 most1 w J := by kernel_rfl
theorem c_ref05_Small {n0_0 : Int} {n0_1 : ByteArray} {n0_2 : ByteArray} {n0_3p : Option Addr} {n0_3l : Nat} {n0_3c : Nat} {n0_4p : Option Addr} {n0_4l : Nat} {n0_4c : Nat} {n0_5 : ByteArray} {most1 : Int} {w : World} {J : Bool → World → Prop} (h : VC_ref05_Small n0_0 n0_1 n0_2 n0_3p n0_3l n0_3c n0_4p n0_4l n0_4c n0_5 most1 w J) : callJ Tryz.prog fn_ref05_Small #[.agg ⟨[.int .i64 n0_0, .string n0_1, .string n0_2, .slice n0_3p n0_3l n0_3c, .slice n0_4p n0_4l n0_4c, .string n0_5]⟩, .int .i64 most1] w [.one .bool] J := vc_calls Tryz.func6 ann_ref05_Small (Eq.mpr (eq_ref05_Small n0_0 n0_1 n0_2 n0_3p n0_3l n0_3c n0_4p n0_4l n0_4c n0_5 most1 w J) h)

end Go.Proofs.YtmnbgcgealpcbaaGreatDoor

/-
  A tree without its comments and instructions: what 'bare' returns.
-/
set_option linter.unusedVariables false
set_option linter.unusedSimpArgs false
namespace Go.Vc
open Go Go.Lib
end Go.Vc
namespace Go.Proofs.YtmnbgcgealpcbaaGreatDoor
open Go Go.Vc Go.Lib
section
end
end Go.Proofs.YtmnbgcgealpcbaaGreatDoor

/-
  A tree in memory of its own; 'spoil' writes it over.
-/

set_option linter.unusedVariables false
set_option linter.unusedSimpArgs false
namespace Go.Vc
open Go Go.Lib
end Go.Vc
namespace Go.Proofs.YtmnbgcgealpcbaaGreatDoor
open Go Go.Vc Go.Lib
section
end
end Go.Proofs.YtmnbgcgealpcbaaGreatDoor

/-
  A tree in new memory: the document's 'Twin'.
-/

set_option linter.unusedVariables false
set_option linter.unusedSimpArgs false
namespace Go.Proofs.YtmnbgcgealpcbaaGreatDoor
open Go Go.Vc Go.Lib
section
end
end Go.Proofs.YtmnbgcgealpcbaaGreatDoor

/-
  The document's 'Same'.
-/

set_option linter.unusedVariables false
set_option linter.unusedSimpArgs false
namespace Go.Proofs.YtmnbgcgealpcbaaGreatDoor
open Go Go.Vc Go.Lib
section
variable {w : World}
end
end Go.Proofs.YtmnbgcgealpcbaaGreatDoor

/-
  The program's 'Copy'.
-/

set_option linter.unusedVariables false
set_option linter.unusedSimpArgs false
namespace Go.Proofs.YtmnbgcgealpcbaaGreatDoor
open Go Go.Vc Go.Lib
section
end
end Go.Proofs.YtmnbgcgealpcbaaGreatDoor

/-
  The node at a path: the document's 'At'.
-/

set_option linter.unusedVariables false
set_option linter.unusedSimpArgs false
namespace Go.Vc
open Go Go.Lib
def intC (n : Int) : List Value := [.int .i64 n]
end Go.Vc
namespace Go.Proofs.YtmnbgcgealpcbaaGreatDoor
open Go Go.Vc Go.Lib
section
variable {w : World}
end
end Go.Proofs.YtmnbgcgealpcbaaGreatDoor


/-
  The document's 'Check': what it asks of each node, and the first error.
-/
set_option linter.unusedVariables false
set_option linter.unusedSimpArgs false
namespace Go.Vc
open Go Go.Lib
end Go.Vc
namespace Go.Proofs.YtmnbgcgealpcbaaGreatDoor
open Go Go.Vc Go.Lib
section
variable {w : World}
end
end Go.Proofs.YtmnbgcgealpcbaaGreatDoor


/-
  The document's 'Check': names, kinds, texts, depth, all nodes; the first error.
-/
set_option linter.unusedVariables false
set_option linter.unusedSimpArgs false
namespace Go.Vc
open Go Go.Lib
end Go.Vc
namespace Go.Proofs.YtmnbgcgealpcbaaGreatDoor
open Go Go.Vc Go.Lib
section
variable {w : World}
end
end Go.Proofs.YtmnbgcgealpcbaaGreatDoor


/-
  The document's 'Flat', 'deep' and 'Check'; the statement Checks.
-/
set_option linter.unusedVariables false
set_option linter.unusedSimpArgs false
namespace Go.Proofs.YtmnbgcgealpcbaaGreatDoor
open Go Go.Vc Go.Lib
section
variable {w : World}
theorem RefFlat_ok : ∀ (v : NV) {w : World} {J : Option Addr → Nat → Nat → World → Prop}, v.Ok w → v.flat.length ≤ 100000000 →
    (∀ p' c' w', Row w' T_api_Node 6 p' v.flat.length c' (rows NV.cells v.flat) → fresh w p' → Chg No w w' → J p' v.flat.length c' w') →
    callJ Tryz.prog fn_ref05_Flat #[.agg ⟨v.cells⟩] w [.one .slice] J := by
  intro v
  induction v using NV.ind with
  | h k u lo t ap al ac ats kp kl kc ks ih =>
    intro w J hv hm K
    cases hv with
    | mk ha hn hac hk hkn hkc hks =>
    have hkl := hk.row (even_node ks) (by decide)
    have hfl : (NV.mk k u lo t ap al ac ats kp kl kc ks).flat = NV.mk k u lo t ap al ac ats kp kl kc ks :: NV.flatL ks := rfl
    rw [hfl, List.length_cons] at hm
    rw [hfl] at K
    have hkf := len_flatL ks
    refine c_ref05_Flat ?_
    unfold VC_ref05_Flat
    refine nodeBox (Hp.start w No) fun b w1 H1 hb hc1 => ?_
    refine ldBox H1 0 rfl ?_
    refine ⟨rfl, ?_⟩
    refine newRow (sz := 6) (n := 1) (cs := (NV.mk k u lo t ap al ac ats kp kl kc ks).cells) rfl (by decide) fun b7 w2 hr2 hb7 hc2 => ?_
    have H2 := H1.step0 hc2
    refine H2.ldS 0 rfl (off := 4) rfl ?_
    refine ⟨fun lp ll lc i w' m => ∃ q : Nat, i = q ∧ q ≤ kl ∧ m = kl - q ∧ ll = 1 + (NV.flatL (ks.take q)).length ∧ Row w' T_api_Node 6 lp ll lc (rows NV.cells (.mk k u lo t ap al ac ats kp kl kc ks :: NV.flatL (ks.take q))) ∧ fresh w lp ∧ Chg No w w',
      ⟨_, 0, rfl, Nat.zero_le _, rfl, rfl, by rw [List.take_zero, NV.flatL, rows_cons, rows_nil, List.append_nil]; exact hr2, (by intro a e; cases e; have := hc1.size; simp only; omega), H2.chg⟩, ?_⟩
    rintro lp ll lc i w3 m ⟨q, rfl, hq, rfl, rfl, hr3, hf3, hc3⟩
    refine condB_d (fun hlt => ?_) (fun hge => ?_)
    · refine idx_rows (hk.chg hc3 (off_no _)) (even_node ks) (by decide) (by omega) hlt fun a y _ hy hcs => ?_
      rw [Int.toNat_natCast] at hy
      have hymem := List.mem_of_getElem? hy
      have ihy := @ih y hymem
      have hyok := hks y hymem
      have hft := flatL_take hy
      have hle := flatL_le ks (q + 1)
      rw [hft, List.length_append] at hle
      cases y with
      | mk yk yu yl yt yap yal yac yas ykp ykl ykc yks =>
      refine nodeVar (Hp.start w3 No) hcs fun b6 w6 H6 _ hc6 => ?_
      refine ldBox H6 0 rfl ?_
      refine ihy ((hyok.chg0 hc3).chg0 hc6) (by omega) fun p7 c7 w7 hr7 hf7 hc7 => ?_
      have hs3 := hc3.size
      have hs6 := hc6.size
      have hs7 := hc7.size
      have hr3' := (hr3.chg hc6 (off_no _)).chg hc7 (off_no _)
      refine appJ_row slT_node hr3' hr7.sl (one1_rows fun x _ => one1_node x) hr7.none0 (by omega) (by simp only [maxLen]; omega) fun p8 c8 w8 hr8 hc8 hf8 => ?_
      refine ⟨_, by omega, q + 1, by rw [w64_of] <;> omega, by omega, rfl, by rw [hft, List.length_append]; omega, ?_, ?_, ?_⟩
      · rw [hft, ← List.cons_append, rows_append]; exact hr8
      · rcases hf8 with rfl | h
        · exact hf3
        · intro a e; have := h a e; omega
      · exact ((hc3.trans0 hc6).trans0 hc7).trans hc8 fun b hb hI => by
          obtain ⟨a, ea, e⟩ := hI
          have := hf3 a ea; omega
    · have hqk : q = kl := by omega
      subst hqk
      rw [List.take_of_length_le (by omega)] at hr3 ⊢
      have e1 : 1 + (NV.flatL ks).length = (NV.mk k u lo t ap al ac ats kp q kc ks :: NV.flatL ks).length := by rw [List.length_cons]; omega
      rw [e1] at hr3 ⊢
      exact K lp lc w3 hr3 hf3 hc3
end
end Go.Proofs.YtmnbgcgealpcbaaGreatDoor



/-
  Lists of numbers: a copy; the same or not.
-/
set_option linter.unusedVariables false
set_option linter.unusedSimpArgs false
namespace Go.Vc
open Go Go.Lib
theorem even_int (L : List Int) : Even intC 1 L := fun _ _ => rfl
theorem one1_ints (L : List Int) : one1 (rows intC L) := one1_rows fun x _ => one1_cons rfl one1_nil
end Go.Vc
namespace Go.Proofs.YtmnbgcgealpcbaaGreatDoor
open Go Go.Vc Go.Lib
section
variable {w : World}
theorem slT_int5 : SlT Tryz.prog T_sl_int T_int 1 8 #[.int .i64 0] := SlT.of (by kernel_rfl) (by kernel_rfl) rfl (by decide)
theorem SameInts_ok {p q : Option Addr} {l c l2 c2 : Nat} {X Y : List Int} {J : Bool → World → Prop} (h : Sl w p l 1 (rows intC X)) (h2 : Sl w q l2 1 (rows intC Y)) (hm : l ≤ 1000000000) (k : ∀ w', Chg No w w' → J (decide (X = Y)) w') :
    callJ Tryz.prog fn_ref05_SameInts #[.slice p l c, .slice q l2 c2] w [.one .bool] J := by
  refine c_ref05_SameInts ?_
  unfold VC_ref05_SameInts
  have hl := h.row (even_int X) (by decide)
  have hl2 := h2.row (even_int Y) (by decide)
  refine condB_ne (fun hne => ?_) (fun he => ?_)
  · have e : decide (X = Y) = false := decide_eq_false fun e => hne (by rw [← hl, ← hl2, e])
    rw [e] at k; exact k w (Chg.refl _ _)
  have hll : l = l2 := by omega
  subst hll
  refine ⟨fun x w' t => ∃ i : Nat, x = i ∧ i ≤ l ∧ t = l - i ∧ Chg No w w' ∧ X.take i = Y.take i, ⟨_, 0, rfl, Nat.zero_le _, rfl, Chg.refl _ _, rfl⟩, ?_⟩
  rintro x w' t ⟨i, rfl, hi, rfl, hc, hs⟩
  have hcd := hc.drew
  refine condB_d (fun hlt => ?_) (fun hge => ?_)
  · refine idx_rows (f := intC) (h.chg hcd (off_no _)) (even_int X) (by decide) (by omega) hlt fun a x _ hx hcx => ⟨_, cellsAt_head hcx, ?_⟩
    refine idx_rows (f := intC) (h2.chg hcd (off_no _)) (even_int Y) (by decide) (by omega) hlt fun a' y _ hy hcy => ⟨_, cellsAt_head hcy, ?_⟩
    rw [Int.toNat_natCast] at hx hy
    refine condB_ne (fun hf => ?_) (fun ht => ?_)
    · have e : decide (X = Y) = false := decide_eq_false fun e => by
        rw [e, hy] at hx; exact hf (Option.some.inj hx).symm
      rw [e] at k; exact k _ hcd
    · exact ⟨_, by omega, i + 1, by rw [w64_of] <;> omega, by omega, rfl, hcd, by rw [take_get hx, take_get hy, hs, ht]⟩
  · have e : decide (X = Y) = true := decide_eq_true (by
      rw [List.take_of_length_le (by omega), List.take_of_length_le (by omega)] at hs; exact hs)
    rw [e] at k; exact k w' hc
end
end Go.Proofs.YtmnbgcgealpcbaaGreatDoor


/-
  Paths of all nodes; going through all nodes with a reader.
-/
set_option linter.unusedVariables false
set_option linter.unusedSimpArgs false
namespace Go.Vc
open Go Go.Lib
theorem even_slv {α : Type} (L : List (SlV α)) : Even SlV.cells 1 L := fun _ _ => rfl
end Go.Vc
namespace Go.Proofs.YtmnbgcgealpcbaaGreatDoor
open Go Go.Vc Go.Lib
section
variable {w : World}
theorem slT_sl_int5 : SlT Tryz.prog T_sl_sl_int T_sl_int 1 24 #[.slice none 0 0] := SlT.of (by kernel_rfl) (by kernel_rfl) rfl (by decide)
/-- A list of numbers in a block of its own. -/
def OwnI (w : World) (s : SlV Int) : Prop := Row w T_int 1 s.p s.l s.c (rows intC s.xs)
theorem OwnI.ne {s : SlV Int} (h : OwnI w s) {p : Option Addr} {l c : Nat} {xs : List Value} (hr : Row w T_sl_int 1 p l c xs) : off s.p (isB p) := by
  rintro a ha ⟨a', ha', e⟩
  have h1 := Row.typ h a ha
  have h2 := hr.typ a' ha'
  rw [e, h1] at h2
  exact absurd h2 (by decide)
theorem RefPaths_ok : ∀ (v : NV) {w : World} {J : Option Addr → Nat → Nat → World → Prop}, v.Ok w → v.mea ≤ 10000000 →
    (∀ p' c' w' (PL : List (SlV Int)), PL.map (·.xs) = pathsV v → Row w' T_sl_int 1 p' PL.length c' (rows SlV.cells PL) → fresh w p' → (∀ s ∈ PL, OwnI w' s ∧ fresh w s.p) → Chg No w w' → J p' PL.length c' w') →
    callJ Tryz.prog fn_ref05_Paths #[.agg ⟨v.cells⟩] w [.one .slice] J := by
  intro v
  induction v using NV.ind with
  | h k u lo t ap al ac ats kp kl kc ks ih =>
    intro w J hv hm K
    cases hv with
    | mk ha hn hac hk hkn hkc hks =>
    have hkl := hk.row (even_node ks) (by decide)
    have hlm := len_meaL ks
    have hpk := fun q => pathsK_len (ks.take q) 0
    have hfk := fun q => flatL_le ks q
    have hfl := flatL_len ks
    have hmm : NV.meaL ks < 10000000 := by simp only [NV.mea] at hm; omega
    refine c_ref05_Paths ?_
    unfold VC_ref05_Paths
    refine nodeBox (Hp.start w No) fun b1 w1 H1 hb1 hc1 => ?_
    refine newRow (sz := 1) (n := 0) (cs := []) rfl (by decide) fun b8 w2 hr2 hb8 hc2 => ?_
    have H2 := H1.step0 hc2
    refine newRow (sz := 1) (n := 1) rfl (by decide) fun b9 w3 hr3 hb9 hc3 => ?_
    have H3 := H2.step0 hc3
    have s1 := hc1.size
    have s2 := hc2.size
    refine H3.ldS 0 rfl (off := 4) rfl ?_
    refine ⟨fun op ol oc i w' m => ∃ (q : Nat) (OL : List (SlV Int)), i = q ∧ q ≤ kl ∧ m = kl - q ∧ ol = OL.length ∧ OL.map (·.xs) = [] :: pathsK 0 (ks.take q) ∧ Row w' T_sl_int 1 op ol oc (rows SlV.cells OL) ∧ fresh w op ∧ (∀ s ∈ OL, OwnI w' s ∧ fresh w s.p) ∧ Chg No w w',
      ⟨_, 0, [⟨some ⟨b8, 0, none⟩, 0, 0, []⟩], rfl, Nat.zero_le _, rfl, rfl, by simp [pathsK], hr3, (by rintro a ⟨⟩; simp only; omega), (by
        intro s hs
        rw [List.mem_singleton.1 hs]
        exact ⟨hr2.chg hc3 (off_no _), by rintro a ⟨⟩; simp only; omega⟩), H3.chg⟩, ?_⟩
    rintro op ol oc i w4 m ⟨q, OL, rfl, hq, rfl, rfl, hOL, hr4, hf4, hs4, hc4⟩
    have hOLl : OL.length ≤ 10000000 := by
      have := congrArg List.length hOL
      rw [List.length_map, List.length_cons, hpk] at this
      have := hfk q; omega
    refine condB_d (fun hlt => ?_) (fun hge => ?_)
    · refine idx_rows (hk.chg hc4 (off_no _)) (even_node ks) (by decide) (by omega) hlt fun a y _ hy hcs => ?_
      rw [Int.toNat_natCast] at hy
      have hymem := List.mem_of_getElem? hy
      have ihy := @ih y hymem
      have hyok := hks y hymem
      have hym := mea_kid hymem
      have hylong := paths_long y
      have hyl := paths_len y
      have hyfl := flat_len y
      have htq : pathsK 0 (ks.take (q + 1)) = pathsK 0 (ks.take q) ++ (pathsV y).map ((q : Int) :: ·) := by
        rw [take_get hy, pathsK_append, List.length_take, Nat.zero_add, show min q ks.length = q by omega]
        simp [pathsK]
      cases y with
      | mk yk yu yl yt yap yal yac yas ykp ykl ykc yks =>
      refine nodeVar (Hp.start w4 No) hcs fun b6 w6 H6 _ hc6 => ?_
      refine ldBox H6 0 rfl ?_
      refine ihy ((hyok.chg0 hc4).chg0 hc6) (by omega) fun p7 c7 w7 PL hPL hr7 hf7 hs7 hc7 => ?_
      have hPLl : PL.length ≤ 10000000 := by
        have := congrArg List.length hPL
        rw [List.length_map, hyl] at this; omega
      have z4 := hc4.size
      have z6 := hc6.size
      have z7 := hc7.size
      have c07 := (hc4.trans0 hc6).trans0 hc7
      refine ⟨fun op' ol' oc' i w' m => ∃ (n : Nat) (OL' : List (SlV Int)), i = n ∧ n ≤ PL.length ∧ m = PL.length - n ∧ ol' = OL'.length ∧ OL'.length = OL.length + n ∧ OL'.map (·.xs) = [] :: pathsK 0 (ks.take q) ++ ((PL.take n).map (·.xs)).map ((q : Int) :: ·) ∧ Row w' T_sl_int 1 op' ol' oc' (rows SlV.cells OL') ∧ fresh w op' ∧
          (∀ s ∈ OL', OwnI w' s ∧ fresh w s.p) ∧ Chg No w w' ∧ Row w' T_sl_int 1 p7 PL.length c7 (rows SlV.cells PL) ∧ (∀ s ∈ PL, OwnI w' s) ∧ off p7 (isB op'),
        ⟨_, 0, OL, rfl, Nat.zero_le _, rfl, rfl, rfl, by simpa using hOL, (hr4.chg hc6 (off_no _)).chg hc7 (off_no _), hf4, (fun s hs => ⟨((hs4 s hs).1.chg hc6 (off_no _)).chg hc7 (off_no _), (hs4 s hs).2⟩), c07, hr7, (fun s hs => (hs7 s hs).1), (by
          rintro a ha ⟨a', ha', e⟩
          have := hf7 a ha
          have := hr4.lt a' ha'
          omega)⟩, ?_⟩
      rintro op ol oc i w8 m ⟨n, OL', rfl, hn8, rfl, rfl, hOLl', hOL8, hr8, hf8, hs8, hc8, hr78, hs78, hoff8⟩
      refine condB_d (fun hlt2 => ?_) (fun hge2 => ?_)
      · refine idx_rows hr78.sl (even_slv PL) (by decide) (by omega) hlt2 fun a z _ hz hcz => ?_
        rw [Int.toNat_natCast] at hz
        have hzm := List.mem_of_getElem? hz
        have hzo := hs78 z hzm
        have hzl : z.xs.length = z.l := hzo.sl.row (even_int _) (by decide)
        have hzlt := hylong z.xs (by rw [← hPL]; exact List.mem_map_of_mem hzm)
        refine ⟨_, _, _, cellsAt_head hcz, ?_⟩
        refine newRow (sz := 1) (n := 1) (cs := [.int .i64 (q : Int)]) rfl (by decide) fun b27 w9 hr9 hb27 hc9 => ?_
        refine appJ_row slT_int5 hr9 (hzo.sl.chg hc9 (off_no _)) (one1_ints z.xs) hzo.none0 (by omega) (by simp only [maxLen]; omega) fun p10 c10 w10 hr10 hc10 hf10 => ?_
        have n27 : ∀ b, b < w8.heap.size → ¬ isB (some (⟨b27, 0, none⟩ : Addr)) b := by
          rintro b hb ⟨a, e, hab⟩; cases e; simp only at hab; omega
        have c810 : Chg No w8 w10 := (hc9.mono fun _ _ h => h.elim).trans hc10 fun b hb h => (n27 b hb h).elim
        have z9 := hc9.size
        have z10 := hc10.size
        have hf10' : fresh w8 p10 := by
          rcases hf10 with rfl | h
          · intro a e; cases e; exact hb27
          · intro a e; have := h a e; omega
        refine newRow (sz := 1) (n := 1) (cs := [.slice p10 (1 + z.l) c10]) rfl (by decide) fun b30 w11 hr11 hb30 hc11 => ?_
        have c811 := c810.trans0 hc11
        refine appJ_row slT_sl_int5 (hr8.chg c811 (off_no _)) hr11.sl (one1_cons rfl one1_nil) (by simp) (by omega) (by simp only [maxLen]; omega) fun p12 c12 w12 hr12 hc12 hf12 => ?_
        have z11 := hc11.size
        have z12 := hc12.size
        have z8 := hc8.size
        refine ⟨_, by omega, n + 1, OL' ++ [⟨p10, 1 + z.l, c10, (q : Int) :: z.xs⟩], by rw [w64_of] <;> omega, by omega, rfl, by rw [List.length_append]; rfl, by rw [List.length_append, List.length_singleton]; omega, ?_, ?_, ?_, ?_, ?_, ?_, ?_, ?_⟩
        · rw [List.map_append, hOL8, take_get hz]
          simp only [List.map_append, List.map_cons, List.map_nil, List.append_assoc]
        · rw [rows_append, rows_cons, rows_nil, List.append_nil]; exact hr12
        · rcases hf12 with rfl | h
          · exact hf8
          · intro a e; have := h a e; omega
        · intro s hs
          rcases List.mem_append.1 hs with hs | hs
          · have h1 := (hs8 s hs).1
            exact ⟨(Row.chg h1 c811 (off_no _)).chg hc12 (OwnI.ne h1 hr8), (hs8 s hs).2⟩
          · rw [List.mem_singleton.1 hs]
            have h1 : OwnI w11 ⟨p10, 1 + z.l, c10, (q : Int) :: z.xs⟩ := by
              have := hr10.chg hc11 (off_no _)
              unfold OwnI
              rw [rows_cons]; exact this
            exact ⟨Row.chg h1 hc12 (OwnI.ne h1 (hr8.chg c811 (off_no _))), fun a e => by have := hf10' a e; omega⟩
        · exact (hc8.trans0 c811).trans hc12 fun b hb ⟨a, ea, e⟩ => by have := hf8 a ea; omega
        · exact (hr78.chg c811 (off_no _)).chg hc12 hoff8
        · intro s hs
          have h1 := hs78 s hs
          exact (Row.chg h1 c811 (off_no _)).chg hc12 (OwnI.ne h1 hr8)
        · rintro a ha ⟨a', ha', e⟩
          rcases hf12 with rfl | h
          · exact hoff8 a ha ⟨a', ha', e⟩
          · have := h a' ha'
            have := hr78.lt a ha
            omega
      · have hnP : n = PL.length := by omega
        subst hnP
        rw [List.take_of_length_le (Nat.le_refl _), hPL] at hOL8
        exact ⟨_, by omega, q + 1, OL', by rw [w64_of] <;> omega, by omega, rfl, rfl, by rw [hOL8, htq]; rfl, hr8, hf8, hs8, hc8⟩
    · have hqk : q = kl := by omega
      subst hqk
      rw [List.take_of_length_le (by omega)] at hOL
      exact K op oc w4 OL (by rw [hOL, pathsV]) hr4 hf4 hs4 hc4
end
end Go.Proofs.YtmnbgcgealpcbaaGreatDoor


/-
  Chapter 5's statements: Walks.
-/
set_option linter.unusedVariables false
set_option linter.unusedSimpArgs false
namespace Go.Proofs.YtmnbgcgealpcbaaGreatDoor
open Go Go.Vc Go.Lib
section
variable {we wb w w' : World} {b9 b7 b6 b3 : Nat} {np : Option Addr} {nc : Nat} {NL : List NV} {pp : Option Addr} {pc : Nat} {PL : List (SlV Int)} {most : Int}
theorem Small_ok {w : World} {x : NV} {most : Int} {J : Bool → World → Prop} (hx : x.Ok w) (hm : x.flat.length ≤ 100000000) (K : ∀ w', Chg No w w' → J (decide ((x.flat.length : Int) ≤ most)) w') : callJ Tryz.prog fn_ref05_Small #[.agg ⟨x.cells⟩, .int .i64 most] w [.one .bool] J := by
  cases x with
  | mk k u l t ap al ac ats kp kl kc ks =>
  refine c_ref05_Small ?_
  unfold VC_ref05_Small
  refine nodeBox (Hp.start w No) fun b w1 H1 hb hc1 => ?_
  refine ldBox H1 0 rfl ?_
  exact RefFlat_ok (NV.mk k u l t ap al ac ats kp kl kc ks) (hx.chg0 hc1) hm fun p c w2 _ _ hc2 => K w2 (hc1.trans0 hc2)
theorem rowOff {w : World} {e e' : TypeId} {sz l c b : Nat} {p : Option Addr} {xs cs : List Value} (h : Row w e sz p l c xs) (hb : w.heap[b]? = some (.cells ⟨cs⟩ e' (0, 0))) (hne : e ≠ e') : off p (fun x => x = b) := by
  intro a ha e1
  have h1 := h.typ a ha
  rw [e1, typ_of hb] at h1
  exact hne (Option.some.inj h1).symm
theorem rd_int {w : World} : Rd Tryz.prog w T_int (fun n : Int => [.int .i64 n]) InI := Rd.i64 (by kernel_rfl)
end
end Go.Proofs.YtmnbgcgealpcbaaGreatDoor

