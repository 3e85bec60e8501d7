/-
  Nodes in memory: reading one, a variable of its own, going through a list with a question.
-/
import Derived.Test.YtmmfookfpdcohaaDoorTree
import Derived.Test.YtmmfookfpdcohaaDoorScope
import Derived.Test.YtmmfookfpdcohaaDoorNd
import Derived.Test.YtmmfookfpdcohaaDoorVTree
set_option linter.unusedVariables false
set_option linter.unusedSimpArgs false
namespace Go.Vc
open Go Go.Lib
section
variable {w : World}
/-- A node's six cells, one after the other. -/
theorem ldNode {a : Addr} {k0 : Int} {u0 l0 t0 : ByteArray} {ap kp : Option Addr} {al ac kl kc : Nat} (hc : cellsAt w a [.int .i64 k0, .string u0, .string l0, .slice ap al ac, .slice kp kl kc, .string t0])
    {K : Int → ByteArray → ByteArray → Option Addr → Nat → Nat → Option Addr → Nat → Nat → ByteArray → Prop} (k : K k0 u0 l0 ap al ac kp kl kc t0) :
    ldI .i64 w a fun x0 => ldStr w (a.add 1) fun x1 => ldStr w (a.add 2) fun x2 => ldS w (a.add 3) fun p3 l3 c3 => ldS w (a.add 4) fun p4 l4 c4 => ldStr w (a.add 5) fun x5 => K x0 x1 x2 p3 l3 c3 p4 l4 c4 x5 :=
  ⟨_, cellsAt_head hc, _, hc 1 _ rfl, _, hc 2 _ rfl, _, _, _, hc 3 _ rfl, _, _, _, hc 4 _ rfl, _, hc 5 _ rfl, k⟩
theorem ldAttr {a : Addr} {u0 l0 t0 : ByteArray} (hc : cellsAt w a [.string u0, .string l0, .string t0]) {K : ByteArray → ByteArray → ByteArray → Prop} (k : K u0 l0 t0) :
    ldStr w a fun x0 => ldStr w (a.add 1) fun x1 => ldStr w (a.add 2) fun x2 => K x0 x1 x2 :=
  ⟨_, cellsAt_head hc, _, hc 1 _ rfl, _, hc 2 _ rfl, k⟩
/-- .. of a variable of its own. -/
theorem ldBox {w0 : World} {S : Nat → Prop} {Γ : List Blk} {b : Nat} {e : TypeId} (H : Hp w0 S w Γ) (i : Nat) {k0 : Int} {u0 l0 t0 : ByteArray} {ap kp : Option Addr} {al ac kl kc : Nat} (hi : Γ[i]? = some ⟨b, [.int .i64 k0, .string u0, .string l0, .slice ap al ac, .slice kp kl kc, .string t0], e⟩)
    {K : Int → ByteArray → ByteArray → Option Addr → Nat → Nat → Option Addr → Nat → Nat → ByteArray → Prop} (k : K k0 u0 l0 ap al ac kp kl kc t0) :
    ldI .i64 w ⟨b, 0, none⟩ fun x0 => ldStr w ⟨b, 1, none⟩ fun x1 => ldStr w ⟨b, 2, none⟩ fun x2 => ldS w ⟨b, 3, none⟩ fun p3 l3 c3 => ldS w ⟨b, 4, none⟩ fun p4 l4 c4 => ldStr w ⟨b, 5, none⟩ fun x5 => K x0 x1 x2 p3 l3 c3 p4 l4 c4 x5 :=
  ⟨_, H.cell i hi rfl, _, H.cell i hi rfl, _, H.cell i hi rfl, _, _, _, H.cell i hi rfl, _, _, _, H.cell i hi rfl, _, H.cell i hi rfl, k⟩
/-- Going through a list of nodes with a question. -/
def IdxNode (call : List Value → World → (Bool → World → Prop) → Prop) (s0p : Option Addr) (s0l : Nat) (w : World) (J : Int → World → Prop) : Prop :=
  ∃ I_8 : Int → World → Nat → Prop, (∃ m : Nat, I_8 (0 : Int) w m) ∧ ∀ (x8 : Int) (w1 : World) (m : Nat), I_8 x8 w1 m → (
  condB (decide (x8 < ((s0l : Nat) : Int))) (
  idxA s0p s0l x8 fun a14 =>
  ldI .i64 w1 ((a14.add (x8.toNat * 6))) fun x15_0 =>
  ldStr w1 (((a14.add (x8.toNat * 6)).add 1)) fun x15_1 =>
  ldStr w1 (((a14.add (x8.toNat * 6)).add 2)) fun x15_2 =>
  ldS w1 (((a14.add (x8.toNat * 6)).add 3)) fun x15_3p x15_3l x15_3c =>
  ldS w1 (((a14.add (x8.toNat * 6)).add 4)) fun x15_4p x15_4l x15_4c =>
  ldStr w1 (((a14.add (x8.toNat * 6)).add 5)) fun x15_5 =>
  call [.int .i64 x15_0, .string x15_1, .string x15_2, .slice x15_3p x15_3l x15_3c, .slice x15_4p x15_4l x15_4c, .string x15_5] w1 fun (r16 : Bool) (w2 : World) =>
  condB r16 (
  J x8 w2) (
  ∃ m' : Nat, m' < m ∧ I_8 (w64 (x8 + (1 : Int))) w2 m')) (
  J (-1 : Int) w1))
theorem IdxNode_ok {call : List Value → World → (Bool → World → Prop) → Prop} {p : Option Addr} {l : Nat} {L : List NV} {q : NV → Bool} {J : Int → World → Prop} (h : Sl w p l 6 (rows NV.cells L)) (hm : l ≤ 100000000)
    (hcall : ∀ x ∈ L, ∀ (w' : World) (K : Bool → World → Prop), Chg No w w' → (∀ w'', Chg No w w'' → K (q x) w'') → call x.cells w' K)
    (K : ∀ (r : Int) w', Chg No w w' → (0 ≤ r ↔ L.any q = true) → J r w') : IdxNode call p l w J := by
  have hl := h.row (even_node L) (by decide)
  refine ⟨fun i w' t => ∃ k : Nat, i = k ∧ k ≤ l ∧ t = l - k ∧ Chg No w w' ∧ (L.take k).any q = false, ⟨_, 0, rfl, Nat.zero_le _, rfl, Chg.refl _ _, rfl⟩, ?_⟩
  rintro i w1 t ⟨k, rfl, hk, rfl, hc, hno⟩
  refine condB_d (fun hlt => ?_) (fun hge => ?_)
  · refine idx_rows (h.chg hc (off_no _)) (even_node L) (by decide) (by omega) hlt fun a x _ hx hcs => ?_
    rw [Int.toNat_natCast] at hx
    have hmem := List.mem_of_getElem? hx
    obtain ⟨g1, g2⟩ := List.getElem?_eq_some_iff.1 hx
    have htake : L.take (k + 1) = L.take k ++ [x] := by rw [List.take_succ_eq_append_getElem g1, g2]
    have hc2 := hcall x hmem w1
    cases x with
    | mk xk xu xl xt xap xal xac xas xkp xkl xkc xks =>
      refine ldNode hcs ?_
      refine hc2 _ hc fun w2 c2 => ?_
      refine condB_i (fun hq => ?_) (fun hq => ?_)
      · exact K k w2 c2 ⟨fun _ => List.any_eq_true.2 ⟨_, hmem, hq⟩, fun _ => by omega⟩
      · refine ⟨_, by omega, k + 1, by rw [w64_of] <;> omega, by omega, rfl, c2, ?_⟩
        rw [htake, List.any_append, hno, List.any_cons, hq]; rfl
  · rw [List.take_of_length_le (by omega)] at hno
    exact K (-1) w1 hc ⟨fun h => by omega, fun h => by rw [hno] at h; cases h⟩
def IdxAttr (call : List Value → World → (Bool → World → Prop) → Prop) (s0p : Option Addr) (s0l : Nat) (w : World) (J : Int → World → Prop) : Prop :=
  ∃ I_8 : Int → World → Nat → Prop, (∃ m : Nat, I_8 (0 : Int) w m) ∧ ∀ (x8 : Int) (w1 : World) (m : Nat), I_8 x8 w1 m → (
  condB (decide (x8 < ((s0l : Nat) : Int))) (
  idxA s0p s0l x8 fun a14 =>
  ldStr w1 ((a14.add (x8.toNat * 3))) fun x15_0 =>
  ldStr w1 (((a14.add (x8.toNat * 3)).add 1)) fun x15_1 =>
  ldStr w1 (((a14.add (x8.toNat * 3)).add 2)) fun x15_2 =>
  call [.string x15_0, .string x15_1, .string x15_2] w1 fun (r16 : Bool) (w2 : World) =>
  condB r16 (
  J x8 w2) (
  ∃ m' : Nat, m' < m ∧ I_8 (w64 (x8 + (1 : Int))) w2 m')) (
  J (-1 : Int) w1))
theorem even_att (L : List At) : Even atc 3 L := fun _ _ => rfl
theorem IdxAttr_ok {call : List Value → World → (Bool → World → Prop) → Prop} {p : Option Addr} {l : Nat} {L : List At} {q : At → Bool} {J : Int → World → Prop} (h : Sl w p l 3 (rows atc L)) (hm : l ≤ 100000000)
    (hcall : ∀ x ∈ L, ∀ (w' : World) (K : Bool → World → Prop), Chg No w w' → (∀ w'', Chg No w w'' → K (q x) w'') → call (atc x) w' K)
    (K : ∀ (r : Int) w', Chg No w w' → (0 ≤ r ↔ L.any q = true) → J r w') : IdxAttr call p l w J := by
  have hl := h.row (even_att L) (by decide)
  refine ⟨fun i w' t => ∃ k : Nat, i = k ∧ k ≤ l ∧ t = l - k ∧ Chg No w w' ∧ (L.take k).any q = false, ⟨_, 0, rfl, Nat.zero_le _, rfl, Chg.refl _ _, rfl⟩, ?_⟩
  rintro i w1 t ⟨k, rfl, hk, rfl, hc, hno⟩
  refine condB_d (fun hlt => ?_) (fun hge => ?_)
  · refine idx_rows (h.chg hc (off_no _)) (even_att L) (by decide) (by omega) hlt fun a x _ hx hcs => ?_
    rw [Int.toNat_natCast] at hx
    have hmem := List.mem_of_getElem? hx
    obtain ⟨g1, g2⟩ := List.getElem?_eq_some_iff.1 hx
    have htake : L.take (k + 1) = L.take k ++ [x] := by rw [List.take_succ_eq_append_getElem g1, g2]
    refine ldAttr hcs ?_
    refine hcall x hmem w1 _ hc fun w2 c2 => ?_
    refine condB_i (fun hq => ?_) (fun hq => ?_)
    · exact K k w2 c2 ⟨fun _ => List.any_eq_true.2 ⟨_, hmem, hq⟩, fun _ => by omega⟩
    · refine ⟨_, by omega, k + 1, by rw [w64_of] <;> omega, by omega, rfl, c2, ?_⟩
      rw [htake, List.any_append, hno, List.any_cons, hq]; rfl
  · rw [List.take_of_length_le (by omega)] at hno
    exact K (-1) w1 hc ⟨fun h => by omega, fun h => by rw [hno] at h; cases h⟩
end
end Go.Vc
namespace Go.Proofs.YtmmfookfpdcohaaDoor
open Go Go.Vc Go.Lib
section
variable {w : World}
theorem zeroC_node : zeroC Tryd.prog T_api_Node = ⟨[.int .i64 0, .string ByteArray.empty, .string ByteArray.empty, .slice none 0 0, .slice none 0 0, .string ByteArray.empty]⟩ := by kernel_rfl
theorem slT_node : SlT Tryd.prog T_sl_api_Node T_api_Node 6 104 #[.int .i64 0, .string ByteArray.empty, .string ByteArray.empty, .slice none 0 0, .slice none 0 0, .string ByteArray.empty] := SlT.of (by kernel_rfl) (by kernel_rfl) rfl (by decide)
theorem off_of_drew {w0 w : World} (h : Chg No w0 w) : Chg No w0 w.drew := h.drew
/-- An element, stored in a variable of its own. -/
theorem nodeVar {w0 : World} {S : Nat → Prop} {Γ : List Blk} (H : Hp w0 S w Γ) {a : Addr} {k0 : Int} {u0 l0 t0 : ByteArray} {ap kp : Option Addr} {al ac kl kc : Nat} (hc : cellsAt w a [.int .i64 k0, .string u0, .string l0, .slice ap al ac, .slice kp kl kc, .string t0])
    {K : Nat → World → Prop} (k : ∀ b w', Hp w0 S w' (⟨b, [.int .i64 k0, .string u0, .string l0, .slice ap al ac, .slice kp kl kc, .string t0], T_api_Node⟩ :: Γ) → w.heap.size ≤ b → Chg No w w' → K b w') :
    ldI .i64 w a fun x0 => ldStr w (a.add 1) fun x1 => ldStr w (a.add 2) fun x2 => ldS w (a.add 3) fun p3 l3 c3 => ldS w (a.add 4) fun p4 l4 c4 => ldStr w (a.add 5) fun x5 =>
      newB w (.cells (zeroC Tryd.prog T_api_Node) T_api_Node) fun b w1 => stN w1 ⟨b, 0, none⟩ ⟨[.int .i64 x0, .string x1, .string x2, .slice p3 l3 c3, .slice p4 l4 c4, .string x5]⟩ 6 fun w2 => K b w2 := by
  refine ldNode hc ?_
  rw [zeroC_node]
  refine H.newB fun b w1 H1 hb hc1 => ?_
  refine H1.stN 0 rfl (off := 0) rfl (by simp) (one1_node (.mk k0 u0 l0 t0 ap al ac [] kp kl kc [])) fun w2 H2 hc2 => ?_
  simp only [List.set_cons_zero] at H2
  exact k b w2 H2 hb (hc1.trans hc2 fun x hx e => by subst e; omega)
/-- A node that came in as a value, in a variable of its own. -/
theorem nodeBox {w0 : World} {S : Nat → Prop} {Γ : List Blk} (H : Hp w0 S w Γ) {cs : List Value} {e : TypeId} {K : Nat → World → Prop} (k : ∀ b w', Hp w0 S w' (⟨b, cs, e⟩ :: Γ) → w.heap.size ≤ b → Chg No w w' → K b w') :
    newB w (.cells ⟨cs⟩ e) K := H.newB k
end
end Go.Proofs.YtmmfookfpdcohaaDoor

/-
  What Check asks of each node: may, odd, deep, great, names, chars, order.
-/

set_option linter.unusedVariables false
set_option linter.unusedSimpArgs false
namespace Go.Vc
open Go Go.Lib
theorem nd_kids (k : Int) (u l t : ByteArray) (ap : Option Addr) (al ac : Nat) (ats : List At) (kp : Option Addr) (kl kc : Nat) (ks : List NV) : (NV.mk k u l t ap al ac ats kp kl kc ks).nd = .mk k u l t ats (ks.map NV.nd) := by
  simp only [NV.nd, ndL_map]
def NV.kd : NV → Int | .mk k _ _ _ _ _ _ _ _ _ _ _ => k
theorem nd_kind (v : NV) : v.nd.kind = v.kd := by cases v; rfl
end Go.Vc
namespace Go.Proofs.YtmmfookfpdcohaaDoor
open Go Go.Vc Go.Lib
section
variable {w : World}
theorem May_ok {p k : Int} {J : Bool → World → Prop} (K : J (mayK p k) w) : callJ Tryd.prog fn_tree_may #[.int .i64 p, .int .i64 k] w [.one .bool] J := by
  refine c_tree_may ?_
  unfold VC_tree_may
  have kT : mayK p k = true → J true w := fun h => by rw [h] at K; exact K
  have kF : mayK p k = false → J false w := fun h => by rw [h] at K; exact K
  have tT : ((p = 1 ∧ (k = 2 ∨ k = 4 ∨ k = 5)) ∨ (p = 2 ∧ 2 ≤ k ∧ k ≤ 5)) → J true w := fun h => kT (decide_eq_true h)
  have tF : ¬ ((p = 1 ∧ (k = 2 ∨ k = 4 ∨ k = 5)) ∨ (p = 2 ∧ 2 ≤ k ∧ k ≤ 5)) → J false w := fun h => kF (decide_eq_false h)
  refine condB_eq (fun h1 => ?_) (fun h1 => ?_)
  · simp only [withJ]
    refine condB_eq (fun h => tT (by omega)) (fun h2 => ?_)
    refine condB_eq (fun h => tT (by omega)) (fun h3 => ?_)
    by_cases h4 : k = 5
    · rw [beq_iff_eq.2 h4]; exact tT (by omega)
    · rw [beq_eq_false_iff_ne.2 h4]; exact tF (by omega)
  · refine condB_eq (fun h2 => ?_) (fun h2 => tF (by omega))
    simp only [withJ]
    refine condB_d (fun h3 => ?_) (fun h3 => tF (by omega))
    by_cases h4 : k ≤ 5
    · rw [decide_eq_true h4]; exact tT (by omega)
    · rw [decide_eq_false h4]; exact tF (by omega)
theorem Odd1_ok {x : NV} {fv : Addr} {p : Int} {J : Bool → World → Prop} (hf : w.cell? fv = some (.int .i64 p)) (K : ∀ w', Chg No w w' → J (!mayK p x.kd) w') : callJ Tryd.prog fn_tree_odd_1 #[.agg ⟨x.cells⟩, .pointer (some fv)] w [.one .bool] J := by
  cases x with
  | mk k u l t ap al ac ats kp kl kc ks =>
    refine c_tree_odd_1 ?_
    unfold VC_tree_odd_1
    refine nodeBox (Hp.start w No) fun b w1 H1 hb hc1 => ?_
    refine ldI_i (hc1.cell hf (fun h => h)) ?_
    refine H1.ldI 0 rfl (off := 0) rfl ?_
    exact May_ok (K w1 hc1)
theorem IdxOdd1_ok {p : Option Addr} {l c : Nat} {L : List NV} {fv : Addr} {pk : Int} {J : Bool → World → Prop} (h : Sl w p l 6 (rows NV.cells L)) (hm : l ≤ 100000000) (hf : w.cell? fv = some (.int .i64 pk)) (K : ∀ w', Chg No w w' → J (L.any fun x => !mayK pk x.kd) w') :
    callJ Tryd.prog fn_slices_ContainsFunc_sl_api_Node_api_Node #[.slice p l c, .func (.func 39) #[] #[.pointer (some fv)]] w [.one .bool] J := by
  refine c_slices_ContainsFunc_sl_api_Node_api_Node_f1_39c1 ?_
  unfold VC_slices_ContainsFunc_sl_api_Node_api_Node_f1_39c1
  refine c_slices_IndexFunc_sl_api_Node_api_Node_f1_39c1 ?_
  show IdxNode (fun cs w' K => callJ Tryd.prog fn_tree_odd_1 #[.agg ⟨cs⟩, .pointer (some fv)] w' [.one .bool] K) p l w _
  refine IdxNode_ok (q := fun x => !mayK pk x.kd) h hm (fun x hx w' K' hc k => Odd1_ok (hc.cell hf (fun h => h)) fun w'' c2 => k w'' (hc.trans0 c2)) fun r w' hc hr => ?_
  by_cases h0 : 0 ≤ r
  · have := hr.1 h0
    rw [decide_eq_true (show r ≥ 0 from h0), ← this]; exact K w' hc
  · have : (L.any fun x => !mayK pk x.kd) = false := by rw [Bool.eq_false_iff]; exact fun h => h0 (hr.2 h)
    rw [decide_eq_false (show ¬ r ≥ 0 from h0), ← this]; exact K w' hc
theorem any_kids (k : Int) (u l t : ByteArray) (ats : List At) (ks : List NV) : ((Nd.mk k u l t ats (ks.map NV.nd)).kids.any fun x => !mayK (Nd.mk k u l t ats (ks.map NV.nd)).kind x.kind) = ks.any fun x => !mayK k x.kd := by
  show (ks.map NV.nd).any (fun x => !mayK k x.kind) = _
  rw [List.any_map]
  congr 1
  funext x
  show (!mayK k x.nd.kind) = _
  rw [nd_kind]
theorem Odd_ok {x : NV} {J : Bool → World → Prop} (hx : x.Ok w) (hm : x.mea ≤ 100000000) (K : ∀ w', Chg No w w' → J (oddP x.nd) w') : callJ Tryd.prog fn_tree_odd #[.agg ⟨x.cells⟩] w [.one .bool] J := by
  cases hx with
  | @mk k u l t ap al ac ats kp kl kc ks ha hn hac hk hkn hkc hks =>
    have hal := ha.row (even_att ats) (by decide)
    have hkl := hk.row (even_node ks) (by decide)
    have hmm : kl ≤ 100000000 := by
      have := len_meaL ks
      simp only [NV.mea] at hm; omega
    rw [nd_kids] at K
    unfold oddP at K
    rw [any_kids] at K
    simp only [Nd.kind, Nd.uri, Nd.loc, Nd.text, Nd.attrs] at K
    refine c_tree_odd ?_
    unfold VC_tree_odd
    refine nodeBox (Hp.start w No) fun b w1 H1 hb hc1 => ?_
    refine withJ_i fun J3 hJ3 => ?_
    have k3 : ∀ (bad : Bool), bad = (decide (k ≠ 2) && decide (ats ≠ [])) → J3 bad w1 := by
      intro bad hbad; subst hJ3
      refine withJ_i fun J31 hJ31 => ?_
      have k31 : ∀ bad2 : Bool, bad2 = oddQ k u l t ats → J31 bad2 w1 := by
        intro bad2 hb2; subst hJ31
        rw [← hb2] at K
        simp only [withJ]
        refine condB_i (fun ht => ?_) (fun hf => ?_)
        · rw [ht] at K; exact K w1 hc1
        · rw [hf] at K
          refine H1.ldS 0 rfl (off := 4) rfl ?_
          refine IdxOdd1_ok (hk.chg hc1 (off_no _)) hmm (H1.cell 0 rfl rfl) fun w2 hc2 => ?_
          have := K w2 (hc1.trans0 hc2)
          rw [Bool.false_or] at this; exact this
      clear hJ31 K
      unfold oddQ at k31
      have eE : ByteArray.empty = emptyB := rfl
      refine H1.ldI 0 rfl (off := 0) rfl ?_
      refine condB_eq (fun e1 => ?_) (fun e1 => ?_)
      · rw [decide_eq_true (show k ≠ 2 by omega), Bool.true_and] at hbad
        refine condB_i (fun ht => k31 _ (by rw [if_pos e1, ← hbad, ht]; rfl)) (fun hf => ?_)
        refine H1.ldStr 0 rfl (off := 1) rfl ?_
        refine H1.ldStr 0 rfl (off := 2) rfl ?_
        rw [if_pos e1, ← hbad, hf] at k31
        simp only [beqS, eE, Bool.and_true]
        rw [show (decide (u = emptyB) && decide (l = emptyB)) = decide (u = emptyB ∧ l = emptyB) from (Bool.decide_and _ _).symm]
        by_cases hul : u = emptyB ∧ l = emptyB
        · rw [decide_eq_true hul]
          refine condB_i (fun h => by cases h) (fun _ => ?_)
          refine H1.ldStr 0 rfl (off := 5) rfl ?_
          refine k31 _ ?_
          rw [decide_eq_false (show ¬ ¬ (u = emptyB ∧ l = emptyB) from fun h => h hul)]
          by_cases ht : t = emptyB
          · simp [ht, emptyB]
          · have : ¬ t = ⟨#[]⟩ := ht
            simp [ht, this]
        · rw [decide_eq_false hul]
          refine condB_i (fun _ => k31 _ (by rw [decide_eq_true hul]; rfl)) (fun h => by cases h)
      · refine condB_eq (fun e2 => ?_) (fun e2 => ?_)
        · refine H1.ldStr 0 rfl (off := 5) rfl ?_
          refine k31 _ ?_
          rw [if_neg e1, if_pos e2, beqS]
          by_cases ht : t = emptyB
          · simp [ht, emptyB]
          · have : ¬ t = ⟨#[]⟩ := ht
            simp [ht, this]
        · rw [decide_eq_true (show k ≠ 2 from e2), Bool.true_and] at hbad
          rw [if_neg e1, if_neg e2] at k31
          refine condB_eq (fun e5 => ?_) (fun e5 => ?_)
          · rw [if_pos e5, ← hbad] at k31
            refine condB_i (fun ht => k31 _ (by rw [ht]; rfl)) (fun hf => ?_)
            refine H1.ldStr 0 rfl (off := 1) rfl ?_
            refine k31 _ ?_
            rw [hf, beqS]
            by_cases ht : u = emptyB
            · simp [ht, emptyB]
            · have : ¬ u = ⟨#[]⟩ := ht
              simp [ht, this]
          · rw [if_neg e5, ← hbad] at k31
            refine condB_i (fun ht => k31 _ (by rw [ht]; rfl)) (fun hf => ?_)
            refine H1.ldStr 0 rfl (off := 1) rfl ?_
            refine H1.ldStr 0 rfl (off := 2) rfl ?_
            refine k31 _ ?_
            rw [hf]
            simp only [beqS, eE, Bool.and_true]
            rw [show (decide (u = emptyB) && decide (l = emptyB)) = decide (u = emptyB ∧ l = emptyB) from (Bool.decide_and _ _).symm]
            by_cases hul : u = emptyB ∧ l = emptyB
            · rw [decide_eq_true hul, decide_eq_false (show ¬ ¬ (u = emptyB ∧ l = emptyB) from fun h => h hul)]; rfl
            · rw [decide_eq_false hul, decide_eq_true hul]; rfl
    clear hJ3 K
    refine H1.ldI 0 rfl (off := 0) rfl ?_
    refine condB_ne (fun e2 => ?_) (fun e2 => ?_)
    · refine H1.ldS 0 rfl (off := 3) rfl ?_
      refine k3 _ ?_
      rw [decide_eq_true (show k ≠ 2 from e2), Bool.true_and]
      by_cases h0 : ats = []
      · have : al = 0 := by rw [← hal, h0]; rfl
        rw [decide_eq_false (show ¬ ats ≠ [] from fun h => h h0), decide_eq_false (by omega)]
      · have : 0 < ats.length := List.length_pos_iff.2 h0
        rw [decide_eq_true (show ats ≠ [] from h0), decide_eq_true (by omega)]
    · exact k3 _ (by rw [decide_eq_false (fun h => h e2)]; rfl)
/-- Elements that stand too deep. -/
theorem Deep_ok : ∀ (x : NV) {w : World} {above : Int} {J : Bool → World → Prop}, x.Ok w → x.mea ≤ 100000000 → 0 ≤ above → above ≤ 40 → (∀ w', Chg No w w' → J (deepN above x.nd) w') → callJ Tryd.prog fn_tree_deep #[.agg ⟨x.cells⟩, .int .i64 above] w [.one .bool] J := by
  intro x
  induction x using NV.ind with
  | h k u l t ap al ac ats kp kl kc ks ih =>
    intro w above J hx hm h0 h40 K
    cases hx with
    | mk ha hn hac hk hkn hkc hks =>
    have hkl := hk.row (even_node ks) (by decide)
    have hmm : kl ≤ 100000000 := by
      have := len_meaL ks
      simp only [NV.mea] at hm; omega
    have hkm : ∀ y ∈ ks, y.mea ≤ 100000000 := fun y hy => by
      have := mea_kid hy
      simp only [NV.mea] at hm; omega
    rw [nd_kids] at K
    unfold deepN at K
    have hany : ∀ ab : Int, deepNL ab (ks.map NV.nd) = ks.any fun y => deepN ab y.nd := fun ab => by rw [deepNL_any, List.any_map]; rfl
    rw [hany, hany] at K
    refine c_tree_deep ?_
    unfold VC_tree_deep
    refine nodeBox (Hp.start w No) fun b w1 H1 hb hc1 => ?_
    refine H1.newB fun b3 w2 H2 hb3 hc2 => ?_
    have c02 := hc1.trans0 hc2
    refine withJ_i fun J0 hJ0 => ?_
    have k0 : ∀ (ab : Int) (w3 : World), 0 ≤ ab → ab ≤ 40 → Hp w No w3 [⟨b3, [.int .i64 ab], T_int⟩, ⟨b, [.int .i64 k, .string u, .string l, .slice ap al ac, .slice kp kl kc, .string t], T_api_Node⟩] → (∀ w', Chg No w w' → J (ks.any fun y => deepN ab y.nd) w') → J0 w3 := by
      intro ab w3 g0 g40 H3 K3; subst hJ0
      have c03 := H3.chg
      refine H3.ldS 1 rfl (off := 4) rfl ?_
      have hcell := H3.cell 0 rfl (off := 0) rfl
      refine c_slices_ContainsFunc_sl_api_Node_api_Node_f1_41c1 ?_
      unfold VC_slices_ContainsFunc_sl_api_Node_api_Node_f1_41c1
      refine c_slices_IndexFunc_sl_api_Node_api_Node_f1_41c1 ?_
      show IdxNode (fun cs w' K => callJ Tryd.prog fn_tree_deep_1 #[.agg ⟨cs⟩, .pointer (some ⟨b3, 0, none⟩)] w' [.one .bool] K) kp kl w3 _
      refine IdxNode_ok (q := fun y => deepN ab y.nd) (hk.chg c03 (off_no _)) hmm (fun y hy w' K' hc kk => ?_) fun r w' hc hr => ?_
      · have hy2 := (hks y hy).chg0 (c03.trans0 hc)
        have ihy := @ih y hy
        have hmy := hkm y hy
        cases y with
        | mk yk yu yl yt yap yal yac yas ykp ykl ykc yks =>
          refine c_tree_deep_1 ?_
          unfold VC_tree_deep_1
          refine nodeBox (Hp.start w' No) fun b5 w5 H5 hb5 hc5 => ?_
          refine ldBox H5 0 rfl ?_
          refine ldI_i (hc5.cell (hc.cell hcell (fun h => h)) (fun h => h)) ?_
          exact ihy (hy2.chg0 hc5) hmy g0 g40 fun w6 hc6 => kk w6 ((hc.trans0 hc5).trans0 hc6)
      · by_cases h0 : 0 ≤ r
        · have := hr.1 h0
          rw [decide_eq_true (show r ≥ 0 from h0), ← this]; exact K3 w' (c03.trans0 hc)
        · have : (ks.any fun y => deepN ab y.nd) = false := by rw [Bool.eq_false_iff]; exact fun h => h0 (hr.2 h)
          rw [decide_eq_false (show ¬ r ≥ 0 from h0), ← this]; exact K3 w' (c03.trans0 hc)
    clear hJ0
    refine H2.ldI 1 rfl (off := 0) rfl ?_
    refine condB_eq (fun e2 => ?_) (fun e2 => ?_)
    · rw [if_pos e2] at K
      refine H2.ldI 0 rfl (off := 0) rfl ?_
      refine condB_d (fun hd => ?_) (fun hd => ?_)
      · rw [if_pos hd] at K; exact K w2 c02
      · rw [if_neg hd] at K
        refine H2.ldI 0 rfl (off := 0) rfl ?_
        rw [w64_of (by omega) (by omega)]
        refine H2.stV 0 rfl (off := 0) (by simp) fun w5 H5 hc5 => ?_
        simp only [List.set_cons_zero] at H5
        exact k0 (above + 1) w5 (by omega) (by omega) H5 K
    · rw [if_neg e2] at K
      exact k0 above w2 h0 h40 H2 K
end
end Go.Proofs.YtmmfookfpdcohaaDoor

