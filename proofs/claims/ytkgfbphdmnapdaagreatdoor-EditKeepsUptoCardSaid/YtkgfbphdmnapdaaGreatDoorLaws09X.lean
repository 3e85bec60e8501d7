/-
  The document's 'Check': what it asks of each node, and the first error.
-/
import Derived.Test.YtkgfbphdmnapdaaGreatDoorBare
import Derived.Test.YtkgfbphdmnapdaaGreatDoorEdit
import Derived.Test.YtkgfbphdmnapdaaGreatDoorVLaw09K
set_option linter.unusedVariables false
set_option linter.unusedSimpArgs false
namespace Go.Vc
open Go Go.Lib
theorem any_step {α : Type} {L : List α} {q : Nat} {x : α} (f : α → Bool) (h : L[q]? = some x) : (L.take (q + 1)).any f = ((L.take q).any f || f x) := by
  rw [take_get h, List.any_append, List.any_cons, List.any_nil, Bool.or_false]
theorem any_of {α : Type} {L : List α} {q : Nat} {x : α} {f : α → Bool} (h : L[q]? = some x) (hf : f x = true) : L.any f = true := List.any_eq_true.2 ⟨x, List.mem_of_getElem? h, hf⟩
theorem all_of {α : Type} {L : List α} {f : α → Bool} (h : (L.any fun x => !f x) = false) : L.all f = true := by
  rw [List.all_eq_true]; intro x hx
  have := List.any_eq_false.1 h x hx
  simpa using this
theorem notall_of {α : Type} {L : List α} {f : α → Bool} (h : (L.any fun x => !f x) = true) : L.all f = false := by
  obtain ⟨x, hx, hf⟩ := List.any_eq_true.1 h
  rw [Bool.eq_false_iff]; intro ha
  rw [List.all_eq_true.1 ha x hx] at hf; cases hf
theorem low3_120 : ∀ b : UInt8, low3 b = 120 ↔ (b.toNat = 120 ∨ b.toNat = 88) := by
  intro b
  have h : ∀ n : Fin 256, (low3 (UInt8.ofNat n.val) = 120 ↔ (n.val = 120 ∨ n.val = 88)) := by decide +kernel
  have := h ⟨b.toNat, b.toNat_lt⟩
  simpa using this
theorem low3_109 : ∀ b : UInt8, low3 b = 109 ↔ (b.toNat = 109 ∨ b.toNat = 77) := by
  intro b
  have h : ∀ n : Fin 256, (low3 (UInt8.ofNat n.val) = 109 ↔ (n.val = 109 ∨ n.val = 77)) := by decide +kernel
  have := h ⟨b.toNat, b.toNat_lt⟩
  simpa using this
theorem low3_108 : ∀ b : UInt8, low3 b = 108 ↔ (b.toNat = 108 ∨ b.toNat = 76) := by
  intro b
  have h : ∀ n : Fin 256, (low3 (UInt8.ofNat n.val) = 108 ↔ (n.val = 108 ∨ n.val = 76)) := by decide +kernel
  have := h ⟨b.toNat, b.toNat_lt⟩
  simpa using this
theorem isXml_three (a b c : UInt8) : isXml [a, b, c] = (decide (a.toNat = 120 ∨ a.toNat = 88) && (decide (b.toNat = 109 ∨ b.toNat = 77) && decide (c.toNat = 108 ∨ c.toNat = 76))) := by
  unfold isXml
  rw [Bool.eq_iff_iff]
  simp only [List.map_cons, List.map_nil, decide_eq_true_eq, List.cons.injEq, Bool.and_eq_true, and_true, low3_120, low3_109, low3_108]
theorem isXml_len {l : List UInt8} (h : l.length ≠ 3) : isXml l = false := by
  unfold isXml
  rw [decide_eq_false_iff_not]
  intro e
  have := congrArg List.length e
  rw [List.length_map] at this
  exact h this
/-- Where a word stands in a text. -/
theorem hasS_iff (w : List UInt8) : ∀ s : List UInt8, hasS w s = true ↔ ∃ i, i + w.length ≤ s.length ∧ (s.drop i).take w.length = w
  | [] => by
    simp only [hasS, List.isPrefixOf_iff_prefix, List.prefix_nil, List.length_nil, Nat.le_zero, List.drop_nil, List.take_nil]
    constructor
    · intro h; subst h; exact ⟨0, rfl, rfl⟩
    · rintro ⟨i, _, h⟩; exact h.symm
  | b :: r => by
    simp only [hasS, Bool.or_eq_true, List.isPrefixOf_iff_prefix, hasS_iff w r]
    constructor
    · rintro (h | ⟨i, h1, h2⟩)
      · refine ⟨0, by have := h.length_le; omega, ?_⟩
        rw [List.drop_zero]; exact (List.prefix_iff_eq_take.1 h).symm
      · exact ⟨i + 1, by simp only [List.length_cons]; omega, h2⟩
    · rintro ⟨i, h1, h2⟩
      cases i with
      | zero => left; rw [List.drop_zero] at h2; exact List.prefix_iff_eq_take.2 h2.symm
      | succ i => right; exact ⟨i, by simp only [List.length_cons] at h1; omega, h2⟩
end Go.Vc
namespace Go.Proofs.YtkgfbphdmnapdaaGreatDoor
open Go Go.Vc Go.Lib
section
variable {w : World}
theorem zeroC_attrK : zeroC Tryz.prog T_api_Attr = ⟨[.string ByteArray.empty, .string ByteArray.empty, .string ByteArray.empty]⟩ := by kernel_rfl
/-- An attribute of a list, in a variable of its own. -/
theorem attrVar {w0 : World} {S : Nat → Prop} {Γ : List Blk} (H : Hp w0 S w Γ) {a : Addr} {u0 l0 t0 : ByteArray} (hc : cellsAt w a [.string u0, .string l0, .string t0])
    {K : Nat → World → Prop} (k : ∀ b w', Hp w0 S w' (⟨b, [.string u0, .string l0, .string t0], T_api_Attr⟩ :: Γ) → w.heap.size ≤ b → Chg No w w' → K b w') :
    ldStr w a fun x0 => ldStr w (a.add 1) fun x1 => ldStr w (a.add 2) fun x2 =>
      newB w (.cells (zeroC Tryz.prog T_api_Attr) T_api_Attr) fun b w1 => stN w1 ⟨b, 0, none⟩ ⟨[.string x0, .string x1, .string x2]⟩ 3 fun w2 => K b w2 := by
  refine ldAttr hc ?_
  rw [zeroC_attrK]
  refine H.newB fun b w1 H1 hb hc1 => ?_
  refine H1.stN 0 rfl (off := 0) rfl (by simp) (one1_at (u0, l0, t0)) fun w2 H2 hc2 => ?_
  simp only [List.set_cons_zero] at H2
  exact k b w2 H2 hb (hc1.trans hc2 fun x hx e => by subst e; omega)
theorem RefHas_ok {s t : ByteArray} {J : Bool → World → Prop} (hs : s.size ≤ 1000000000) (ht : t.size ≤ 1000) (K : J (hasS (bl t) (bl s)) w) : callJ Tryz.prog fn_ref05_has #[.string s, .string t] w [.one .bool] J := by
  refine c_ref05_has ?_
  unfold VC_ref05_has
  have hsl := bl_len s
  have htl := bl_len t
  refine ⟨fun i w' m => ∃ q : Nat, i = q ∧ q ≤ s.size + 1 ∧ m = s.size + 1 - q ∧ w' = w ∧ ∀ j, j < q → ¬ (j + t.size ≤ s.size ∧ ((bl s).drop j).take t.size = bl t), ⟨_, 0, rfl, Nat.zero_le _, rfl, rfl, by omega⟩, ?_⟩
  rintro i w1 m ⟨q, rfl, hq, rfl, rfl, hno⟩
  have e1 : w64 ((q : Int) + (t.size : Int)) = ((q + t.size : Nat) : Int) := by rw [w64_of] <;> omega
  rw [e1]
  refine condB_d (fun h => ?_) (fun h => ?_)
  · refine slStr_cut (by omega) (by omega) fun z hz _ => ?_
    rw [Nat.add_sub_cancel_left] at hz
    rw [beqS]
    refine condB_d (fun h2 => ?_) (fun h2 => ?_)
    · have : hasS (bl t) (bl s) = true := (hasS_iff _ _).2 ⟨q, by omega, by rw [htl, ← hz, h2]⟩
      rw [this] at K; exact K
    · refine ⟨_, by omega, q + 1, by rw [w64_of] <;> omega, by omega, rfl, rfl, fun j hj => ?_⟩
      rcases Nat.lt_or_ge j q with h3 | h3
      · exact hno j h3
      · obtain rfl : j = q := by omega
        rintro ⟨_, h4⟩
        exact h2 (bl_ext (by rw [hz, h4]))
  · have : hasS (bl t) (bl s) = false := by
      rw [Bool.eq_false_iff]
      intro hh
      obtain ⟨j, h1, h2⟩ := (hasS_iff _ _).1 hh
      rw [htl] at h1 h2
      rw [hsl] at h1
      exact hno j (by omega) ⟨h1, h2⟩
    rw [this] at K; exact K
theorem RefFine_ok {s : ByteArray} {J : Bool → World → Prop} (hs : s.size ≤ 100000000) (K : ∀ w', Chg No w w' → J (fineB s) w') : callJ Tryz.prog fn_ref05_fine #[.string s] w [.one .bool] J := by
  refine c_ref05_fine ?_
  unfold VC_ref05_fine
  refine cvBe fun b c w1 hb _ hc1 => ?_
  refine FaultR_ok hb (by omega) ?_
  have := K w1 hc1
  unfold fineB at this
  rw [show (((flt 0 (bl s)).2 : Int) == 0) = decide ((flt 0 (bl s)).2 = 0) from by rw [Bool.eq_iff_iff, beq_iff_eq, decide_eq_true_eq]; omega]
  exact this
theorem RefCalled_ok {n : Pr} {J : Bool → World → Prop} (h1 : n.1.size ≤ 100000000) (h2 : n.2.size ≤ 100000000) (K : ∀ w', Chg No w w' → J (calledN n) w') : callJ Tryz.prog fn_ref05_called #[.agg ⟨[.string n.1, .string n.2]⟩] w [.one .bool] J := by
  unfold calledN at K
  refine c_ref05_called ?_
  unfold VC_ref05_called
  refine nodeBox (Hp.start w No) fun b w1 H1 hb hc1 => ?_
  simp only [withJ]
  refine H1.ldStr 0 rfl (off := 1) rfl ?_
  refine NameR_ok (by omega) fun w2 hc2 => ?_
  have H2 := H1.step0 hc2
  refine condB_i (fun h => ?_) (fun h => ?_)
  · rw [h, Bool.true_and] at K
    refine H2.ldStr 0 rfl (off := 0) rfl ?_
    refine condB_d (fun h3 => ?_) (fun h3 => ?_)
    · rw [decide_eq_true (show n.1.size ≤ 100 by omega), Bool.true_and] at K
      refine H2.ldStr 0 rfl (off := 0) rfl ?_
      refine RefFine_ok h1 fun w3 hc3 => ?_
      have H3 := H2.step0 hc3
      refine condB_i (fun h4 => ?_) (fun h4 => ?_)
      · rw [h4, Bool.true_and] at K
        refine H3.ldStr 0 rfl (off := 0) rfl ?_
        rw [beqS]
        have := K w3 H3.chg
        rw [decide_not] at this
        exact this
      · rw [h4] at K; exact K w3 H3.chg
    · rw [decide_eq_false (show ¬ n.1.size ≤ 100 by omega)] at K
      exact K w2 H2.chg
  · rw [h] at K
    simp only [Bool.false_and] at K
    exact K w2 H2.chg
theorem RefSize_ok {x : NV} {J : Bool → World → Prop} (hx : x.Ok w) (hm : x.mea ≤ 100000000) (K : ∀ w', Chg No w w' → J (!greatN x.nd) w') : callJ Tryz.prog fn_ref05_size #[.agg ⟨x.cells⟩] w [.one .bool] J := by
  cases hx with
  | @mk k u l t ap al ac ats kp kl kc ks ha hn hac hk hkn hkc hks =>
    have hal := ha.row (even_att ats) (by decide)
    have hmm : al ≤ 100000000 := by
      have := len_atSum ats
      simp only [NV.mea] at hm; omega
    have hg : greatN (NV.mk k u l t ap al ac ats kp kl kc ks).nd = (decide (64 < ats.length) || decide (8192 < t.size) || ats.any (fun a => decide (8192 < a.2.2.size))) := rfl
    rw [hg] at K
    refine c_ref05_size ?_
    unfold VC_ref05_size
    refine nodeBox (Hp.start w No) fun b w1 H1 hb hc1 => ?_
    refine H1.ldS 0 rfl (off := 3) rfl ?_
    refine ⟨fun i w' m => ∃ q : Nat, i = q ∧ q ≤ al ∧ m = al - q ∧ Hp w No w' [⟨b, [.int .i64 k, .string u, .string l, .slice ap al ac, .slice kp kl kc, .string t], T_api_Node⟩] ∧ (ats.take q).any (fun a => decide (8192 < a.2.2.size)) = false, ⟨_, 0, rfl, Nat.zero_le _, rfl, H1, rfl⟩, ?_⟩
    rintro i w2 m ⟨q, rfl, hq, rfl, H2, hno⟩
    refine condB_d (fun hlt => ?_) (fun hge => ?_)
    · refine idx_rows (ha.chg H2.chg (off_no _)) (even_att ats) (by decide) (by omega) hlt fun a y _ hy hcs => ?_
      rw [Int.toNat_natCast] at hy
      refine attrVar H2 hcs fun b4 w4 H4 hb4 hc4 => ?_
      refine H4.ldStr 0 rfl (off := 2) rfl ?_
      refine condB_d (fun h => ?_) (fun h => ?_)
      · have h' : decide (8192 < y.2.2.size) = true := decide_eq_true (by omega)
        rw [any_of (f := fun a : At => decide (8192 < a.2.2.size)) hy h', Bool.or_true] at K
        exact K w4 H4.chg
      · refine ⟨_, by omega, q + 1, by rw [w64_of] <;> omega, by omega, rfl, H2.step0 hc4, ?_⟩
        rw [any_step _ hy, hno, decide_eq_false (by omega)]; rfl
    · rw [List.take_of_length_le (by omega)] at hno
      rw [hno, Bool.or_false] at K
      simp only [withJ]
      refine H2.ldS 0 rfl (off := 3) rfl ?_
      refine condB_d (fun h1 => ?_) (fun h1 => ?_)
      · rw [decide_eq_false (show ¬ 64 < ats.length by omega), Bool.false_or] at K
        refine H2.ldStr 0 rfl (off := 5) rfl ?_
        have := K w2 H2.chg
        rw [← decide_not] at this
        rw [show decide ((t.size : Int) ≤ 8192) = decide (¬ 8192 < t.size) from decide_eq_decide.2 (by omega)]
        exact this
      · rw [decide_eq_true (show 64 < ats.length by omega)] at K
        exact K w2 H2.chg
theorem RefChars_ok {x : NV} {J : Bool → World → Prop} (hx : x.Ok w) (hm : x.mea ≤ 100000000) (K : ∀ w', Chg No w w' → J (charsN x.nd) w') : callJ Tryz.prog fn_ref05_chars #[.agg ⟨x.cells⟩] w [.one .bool] J := by
  cases hx with
  | @mk k u l t ap al ac ats kp kl kc ks ha hn hac hk hkn hkc hks =>
    have hal := ha.row (even_att ats) (by decide)
    have hmm : al ≤ 100000000 := by
      have := len_atSum ats
      simp only [NV.mea] at hm; omega
    have ht : t.size ≤ 100000000 := by simp only [NV.mea] at hm; omega
    have hg : charsN (NV.mk k u l t ap al ac ats kp kl kc ks).nd = (fineB t && ats.all (fun a => fineB a.2.2)) := rfl
    rw [hg] at K
    refine c_ref05_chars ?_
    unfold VC_ref05_chars
    refine nodeBox (Hp.start w No) fun b w1 H1 hb hc1 => ?_
    refine H1.ldS 0 rfl (off := 3) rfl ?_
    refine ⟨fun i w' m => ∃ q : Nat, i = q ∧ q ≤ al ∧ m = al - q ∧ Hp w No w' [⟨b, [.int .i64 k, .string u, .string l, .slice ap al ac, .slice kp kl kc, .string t], T_api_Node⟩] ∧ (ats.take q).any (fun a => !fineB a.2.2) = false, ⟨_, 0, rfl, Nat.zero_le _, rfl, H1, rfl⟩, ?_⟩
    rintro i w2 m ⟨q, rfl, hq, rfl, H2, hno⟩
    refine condB_d (fun hlt => ?_) (fun hge => ?_)
    · refine idx_rows (ha.chg H2.chg (off_no _)) (even_att ats) (by decide) (by omega) hlt fun a y _ hy hcs => ?_
      rw [Int.toNat_natCast] at hy
      have hys : y.2.2.size ≤ 100000000 := by
        have := mem_sum atSize (List.mem_of_getElem? hy)
        unfold atSize at this
        simp only [NV.mea] at hm
        unfold atSize at hm; omega
      refine attrVar H2 hcs fun b4 w4 H4 hb4 hc4 => ?_
      refine H4.ldStr 0 rfl (off := 2) rfl ?_
      refine RefFine_ok hys fun w5 hc5 => ?_
      refine condB_not (fun h => ?_) (fun h => ?_)
      · rw [notall_of (f := fun a : At => fineB a.2.2) (any_of hy (by simp [h])), Bool.and_false] at K
        exact K w5 (H4.step0 hc5).chg
      · refine ⟨_, by omega, q + 1, by rw [w64_of] <;> omega, by omega, rfl, (H2.step0 hc4).step0 hc5, ?_⟩
        rw [any_step _ hy, hno, h]; rfl
    · rw [List.take_of_length_le (by omega)] at hno
      rw [all_of hno, Bool.and_true] at K
      refine H2.ldStr 0 rfl (off := 5) rfl ?_
      exact RefFine_ok ht fun w3 hc3 => K w3 (H2.step0 hc3).chg
theorem RefOrder_ok {x : NV} {J : Bool → World → Prop} (hx : x.Ok w) (hm : x.mea ≤ 100000000) (K : ∀ w', Chg No w w' → J (orderN x.nd) w') : callJ Tryz.prog fn_ref05_order #[.agg ⟨x.cells⟩] w [.one .bool] J := by
  cases hx with
  | @mk k u l t ap al ac ats kp kl kc ks ha hn hac hk hkn hkc hks =>
    have hal := ha.row (even_att ats) (by decide)
    have hmm : al ≤ 100000000 := by
      have := len_atSum ats
      simp only [NV.mea] at hm; omega
    have hg : orderN (NV.mk k u l t ap al ac ats kp kl kc ks).nd = ascB ats := rfl
    rw [hg] at K
    refine c_ref05_order ?_
    unfold VC_ref05_order
    refine nodeBox (Hp.start w No) fun b w1 H1 hb hc1 => ?_
    refine ⟨fun i w' m => ∃ q : Nat, i = ((q + 1 : Nat) : Int) ∧ q ≤ al ∧ m = al - q ∧ Hp w No w' [⟨b, [.int .i64 k, .string u, .string l, .slice ap al ac, .slice kp kl kc, .string t], T_api_Node⟩] ∧ ∀ j x y, j + 1 < q + 1 → ats[j]? = some x → ats[j + 1]? = some y → aLt x y = true, ⟨_, 0, rfl, Nat.zero_le _, rfl, H1, by omega⟩, ?_⟩
    rintro i w2 m ⟨q, rfl, hq, rfl, H2, hup⟩
    refine H2.ldS 0 rfl (off := 3) rfl ?_
    refine condB_d (fun hlt => ?_) (fun hge => ?_)
    · have H2d := H2.drew
      have e1 : w64 (((q + 1 : Nat) : Int) - 1) = (q : Int) := by rw [w64_of] <;> omega
      rw [e1]
      refine H2d.ldS 0 rfl (off := 3) rfl ?_
      refine idx_rows (ha.chg H2d.chg (off_no _)) (even_att ats) (by decide) (by omega) (by omega) fun a x _ hx hcs => ?_
      rw [Int.toNat_natCast] at hx
      refine ldStr_i (cellsAt_head hcs) (ldStr_i (hcs 1 _ rfl) ?_)
      refine H2d.ldS 0 rfl (off := 3) rfl ?_
      refine idx_rows (ha.chg H2d.chg (off_no _)) (even_att ats) (by decide) (by omega) (by omega) fun a' y _ hy hcs' => ?_
      rw [Int.toNat_natCast] at hy
      refine ldStr_i (cellsAt_head hcs') (ldStr_i (hcs' 1 _ rfl) ?_)
      refine Before5_ok (a := (x.1, x.2.1)) (b := (y.1, y.2.1)) fun w4 hc4 => ?_
      have H4 := H2d.step0 hc4
      refine condB_not (fun h => ?_) (fun h => ?_)
      · have : ascB ats = false := by
          rw [Bool.eq_false_iff]; intro hasc
          have h2 := asc_get.1 hasc q x y hx hy
          have h3 : aLt x y = false := h
          rw [h3] at h2; cases h2
        rw [this] at K; exact K w4 H4.chg
      · refine ⟨_, by omega, q + 1, by rw [w64_of] <;> omega, by omega, rfl, H4, ?_⟩
        intro j x' y' hj hx' hy'
        rcases Nat.lt_or_ge (j + 1) (q + 1) with h1 | h1
        · exact hup j x' y' h1 hx' hy'
        · obtain rfl : j = q := by omega
          rw [hx] at hx'; rw [hy] at hy'
          obtain rfl := Option.some.inj hx'
          obtain rfl := Option.some.inj hy'
          exact h
    · have : ascB ats = true := asc_get.2 fun j x y hx hy => hup j x y (by have := (List.getElem?_eq_some_iff.1 hy).1; omega) hx hy
      rw [this] at K
      exact K w2 H2.chg
end
end Go.Proofs.YtkgfbphdmnapdaaGreatDoor

/-
  The document's 'Check': names, kinds, texts, depth, all nodes; the first error.
-/
set_option linter.unusedVariables false
set_option linter.unusedSimpArgs false
namespace Go.Vc
open Go Go.Lib
def kindQ (k : Int) (u l t : ByteArray) (ats : List At) (e : Bool) : Bool :=
  if k = 1 then decide (u = emptyB ∧ l = emptyB ∧ t = emptyB ∧ ats = [])
  else if k = 2 then decide (t = emptyB)
  else if k = 3 ∨ k = 4 then decide (u = emptyB ∧ l = emptyB ∧ ats = []) && e
  else if k = 5 then decide (u = emptyB ∧ ats = []) && e
  else false
theorem kindG_nd (k : Int) (u l t : ByteArray) (ap : Option Addr) (al ac : Nat) (ats : List At) (kp : Option Addr) (kl kc : Nat) (ks : List NV) :
    kindG (NV.mk k u l t ap al ac ats kp kl kc ks).nd = ((ks.all fun y => mayK k y.kd) && kindQ k u l t ats ks.isEmpty) := by
  rw [nd_kids]
  show ((ks.map NV.nd).all (fun x => mayK k x.kind) && kindQ k u l t ats (ks.map NV.nd).isEmpty) = _
  rw [List.all_map, List.isEmpty_map]
  congr 2
  funext y
  show mayK k y.nd.kind = _
  rw [nd_kind]
/-- The error of the first that isn't so. -/
def firstNo : List Bool → List Int → Int → Int
  | g :: gs, e :: es, d => if g = true then firstNo gs es d else e
  | _, _, d => d
theorem firstNo_drop {gs : List Bool} {es : List Int} {d : Int} {q : Nat} {g : Bool} {e : Int} (hg : gs[q]? = some g) (he : es[q]? = some e) :
    firstNo (gs.drop q) (es.drop q) d = if g = true then firstNo (gs.drop (q + 1)) (es.drop (q + 1)) d else e := by
  obtain ⟨h1, rfl⟩ := List.getElem?_eq_some_iff.1 hg
  obtain ⟨h2, rfl⟩ := List.getElem?_eq_some_iff.1 he
  rw [List.drop_eq_getElem_cons h1, List.drop_eq_getElem_cons h2, firstNo]
def errs7 : List Int := [33, 31, 5, 24, 21, 34, 32]
theorem check_first {d : Nd} (hk : d.kind = 1) :
    checkL d = firstNo [d.flat.all kindG, !deepN 0 d, decide (d.flat.length ≤ 2001) && d.flat.all (fun x => !greatN x), d.flat.all nameG, d.flat.all charsN, d.flat.all orderN, d.flat.all textN] errs7 (if rootsN d ≠ 1 then 30 else 0) := by
  unfold checkL
  have h3 : (2001 < d.flat.length ∨ d.flat.any greatN = true) ↔ (decide (d.flat.length ≤ 2001) && d.flat.all (fun x => !greatN x)) = false := by
    rw [Bool.and_eq_false_iff, decide_eq_false_iff_not]
    constructor
    · rintro (h | h)
      · exact .inl (by omega)
      · refine .inr (notall_of (f := fun x => !greatN x) ?_)
        simpa using h
    · rintro (h | h)
      · exact .inl (by omega)
      · right
        cases ha : d.flat.any greatN with
        | true => rfl
        | false =>
          have := all_of (f := fun x => !greatN x) (L := d.flat) (by simpa using ha)
          rw [this] at h; cases h
  simp only [firstNo, errs7, hk, not_true_eq_false, false_or, h3, Bool.not_eq_true']
  generalize d.flat.all kindG = b0
  generalize deepN 0 d = b1
  generalize (decide (d.flat.length ≤ 2001) && d.flat.all fun x => !greatN x) = b2
  generalize d.flat.all nameG = b3
  generalize d.flat.all charsN = b4
  generalize d.flat.all orderN = b5
  generalize d.flat.all textN = b6
  cases b0 <;> cases b1 <;> cases b2 <;> cases b3 <;> cases b4 <;> cases b5 <;> cases b6 <;> rfl
end Go.Vc
namespace Go.Proofs.YtkgfbphdmnapdaaGreatDoor
open Go Go.Vc Go.Lib
section
variable {w : World}
theorem RefName_ok {x : NV} {J : Bool → World → Prop} (hx : x.Ok w) (hm : x.mea ≤ 100000000) (K : ∀ w', Chg No w w' → J (nameG x.nd) w') : callJ Tryz.prog fn_ref05_name #[.agg ⟨x.cells⟩] w [.one .bool] J := by
  cases hx with
  | @mk k u l t ap al ac ats kp kl kc ks ha hn hac hk hkn hkc hks =>
    have hal := ha.row (even_att ats) (by decide)
    have hmm : al ≤ 100000000 ∧ u.size ≤ 100000000 ∧ l.size ≤ 100000000 := by
      have := len_atSum ats
      simp only [NV.mea] at hm; omega
    have hg : nameG (NV.mk k u l t ap al ac ats kp kl kc ks).nd = ((decide (k ≠ 2) || calledN (u, l)) && ats.all attrN && (decide (k ≠ 5) || (nm (bl l) && !isXml (bl l)))) := rfl
    rw [hg] at K
    refine c_ref05_name ?_
    unfold VC_ref05_name
    refine nodeBox (Hp.start w No) fun b w1 H1 hb hc1 => ?_
    refine withJ_i fun J14 hJ14 => ?_
    have k14 : ∀ bb w2, Hp w No w2 [⟨b, [.int .i64 k, .string u, .string l, .slice ap al ac, .slice kp kl kc, .string t], T_api_Node⟩] → bb = !(decide (k ≠ 2) || calledN (u, l)) → J14 bb w2 := by
      intro bb w2 H2 hbb; subst hJ14
      refine condB_i (fun h => ?_) (fun h => ?_)
      · rw [h] at hbb
        rw [show (decide (k ≠ 2) || calledN (u, l)) = false from by revert hbb; cases (decide (k ≠ 2) || calledN (u, l)) <;> simp] at K
        simp only [Bool.false_and] at K
        exact K w2 H2.chg
      rw [h] at hbb
      rw [show (decide (k ≠ 2) || calledN (u, l)) = true from by revert hbb; cases (decide (k ≠ 2) || calledN (u, l)) <;> simp, Bool.true_and] at K
      refine H2.ldS 0 rfl (off := 3) rfl ?_
      refine ⟨fun i w' m => ∃ q : Nat, i = q ∧ q ≤ al ∧ m = al - q ∧ Hp w No w' [⟨b, [.int .i64 k, .string u, .string l, .slice ap al ac, .slice kp kl kc, .string t], T_api_Node⟩] ∧ (ats.take q).any (fun a => !attrN a) = false, ⟨_, 0, rfl, Nat.zero_le _, rfl, H2, rfl⟩, ?_⟩
      rintro i w3 m ⟨q, rfl, hq, rfl, H3, hno⟩
      refine condB_d (fun hlt => ?_) (fun hge => ?_)
      · refine idx_rows (ha.chg H3.chg (off_no _)) (even_att ats) (by decide) (by omega) hlt fun a y _ hy hcs => ?_
        rw [Int.toNat_natCast] at hy
        have hys : y.1.size ≤ 100000000 ∧ y.2.1.size ≤ 100000000 := by
          have := mem_sum atSize (List.mem_of_getElem? hy)
          simp only [NV.mea] at hm
          unfold atSize at this hm; omega
        refine attrVar H3 hcs fun b4 w5 H5 hb4 hc5 => ?_
        refine withJ_i fun J37 hJ37 => ?_
        have k37 : ∀ bb w6, Chg No w5 w6 → bb = !attrN y → J37 bb w6 := by
          intro bb w6 hc6 hbb; subst hJ37
          have H6 := (H3.step0 hc5).step0 hc6
          refine condB_i (fun h => ?_) (fun h => ?_)
          · rw [h] at hbb
            rw [notall_of (f := attrN) (any_of hy hbb.symm)] at K
            exact K w6 H6.chg
          · refine ⟨_, by omega, q + 1, by rw [w64_of] <;> omega, by omega, rfl, H6, ?_⟩
            rw [any_step _ hy, hno, ← hbb, h]; rfl
        clear hJ37
        have hat : attrN y = (calledN (y.1, y.2.1) && !decide (y.1 = emptyB ∧ y.2.1 = kXn)) := rfl
        rw [hat] at k37
        refine H5.ldStr 0 rfl (off := 0) rfl ?_
        refine H5.ldStr 0 rfl (off := 1) rfl ?_
        refine RefCalled_ok (n := (y.1, y.2.1)) hys.1 hys.2 fun w6 hc6 => ?_
        refine condB_not (fun h => k37 _ _ hc6 (by rw [h]; rfl)) (fun h => ?_)
        rw [h] at k37
        have H6 := H5.step0 hc6
        refine H6.ldStr 0 rfl (off := 0) rfl ?_
        rw [beqS]
        refine condB_d (fun h1 => ?_) (fun h1 => ?_)
        · refine H6.ldStr 0 rfl (off := 1) rfl ?_
          rw [beqS]
          refine k37 _ _ hc6 ?_
          rw [Bool.true_and, Bool.not_not]
          exact decide_eq_decide.2 ⟨fun h2 => ⟨h1, h2⟩, fun h2 => h2.2⟩
        · refine k37 _ _ hc6 ?_
          rw [Bool.true_and, Bool.not_not]
          exact (decide_eq_false fun h2 => h1 h2.1).symm
      · rw [List.take_of_length_le (by omega)] at hno
        rw [all_of hno, Bool.true_and] at K
        refine H3.ldStr 0 rfl (off := 2) rfl ?_
        simp only [withJ]
        refine H3.ldI 0 rfl (off := 0) rfl ?_
        refine condB_ne (fun h5 => ?_) (fun h5 => ?_)
        · rw [decide_eq_true h5] at K; exact K w3 H3.chg
        rw [decide_eq_false (fun hh => hh h5), Bool.false_or] at K
        refine NameR_ok (by omega) fun w9 hc9 => ?_
        have H9 := H3.step0 hc9
        have K9 := K w9 H9.chg
        refine condB_i (fun hn1 => ?_) (fun hn1 => ?_)
        · rw [hn1, Bool.true_and] at K9
          have hll := bl_len l
          refine condB_eq (fun h3 => ?_) (fun h3 => ?_)
          · obtain ⟨a, b', c, habc⟩ : ∃ a b c, bl l = [a, b, c] := by
              have h3' : (bl l).length = 3 := by omega
              match hbl : bl l, h3' with
              | [a, b, c], _ => exact ⟨a, b, c, rfl⟩
            rw [habc, isXml_three] at K9
            have ix0 : ∀ {K : Int → Prop}, K ((a.toNat : Nat) : Int) → idxStr l 0 K := fun {K} h => by
              refine idxStr_b (by decide) (by omega) fun z hz => ?_
              rw [habc] at hz; obtain rfl : a = z := Option.some.inj hz; exact h
            have ix1 : ∀ {K : Int → Prop}, K ((b'.toNat : Nat) : Int) → idxStr l 1 K := fun {K} h => by
              refine idxStr_b (by decide) (by omega) fun z hz => ?_
              rw [habc] at hz; obtain rfl : b' = z := Option.some.inj hz; exact h
            have ix2 : ∀ {K : Int → Prop}, K ((c.toNat : Nat) : Int) → idxStr l 2 K := fun {K} h => by
              refine idxStr_b (by decide) (by omega) fun z hz => ?_
              rw [habc] at hz; obtain rfl : c = z := Option.some.inj hz; exact h
            have f0 : ∀ {bb : Bool}, ¬ (a.toNat = 120 ∨ a.toNat = 88) → bb = true → J bb w9 := fun h1 h2 => by rw [decide_eq_false h1] at K9; rw [h2]; exact K9
            have f1 : ∀ {bb : Bool}, (a.toNat = 120 ∨ a.toNat = 88) → ¬ (b'.toNat = 109 ∨ b'.toNat = 77) → bb = true → J bb w9 := fun h1 h2 h3 => by rw [decide_eq_true h1, decide_eq_false h2] at K9; rw [h3]; exact K9
            have f2 : ∀ {bb : Bool}, (a.toNat = 120 ∨ a.toNat = 88) → (b'.toNat = 109 ∨ b'.toNat = 77) → bb = !decide (c.toNat = 108 ∨ c.toNat = 76) → J bb w9 := fun h1 h2 h3 => by rw [decide_eq_true h1, decide_eq_true h2] at K9; rw [h3]; exact K9
            have last : (a.toNat = 120 ∨ a.toNat = 88) → (b'.toNat = 109 ∨ b'.toNat = 77) → idxStr l 2 fun x => condB (x == 108) (J false w9) (idxStr l 2 fun y => J (!(y == 76)) w9) := fun h1 h2 => by
              refine ix2 ?_
              refine condB_eq (fun h4 => f2 h1 h2 (by rw [decide_eq_true (by omega)]; rfl)) (fun h4 => ?_)
              refine ix2 ?_
              refine f2 h1 h2 ?_
              congr 1
              rw [Bool.eq_iff_iff, beq_iff_eq, decide_eq_true_eq]; omega
            have mid : (a.toNat = 120 ∨ a.toNat = 88) → idxStr l 1 fun x => condB (x == 109) (idxStr l 2 fun x => condB (x == 108) (J false w9) (idxStr l 2 fun y => J (!(y == 76)) w9)) (idxStr l 1 fun x => condB (x == 77) (idxStr l 2 fun x => condB (x == 108) (J false w9) (idxStr l 2 fun y => J (!(y == 76)) w9)) (J true w9)) := fun h1 => by
              refine ix1 ?_
              refine condB_eq (fun h4 => last h1 (by omega)) (fun h4 => ?_)
              refine ix1 ?_
              exact condB_eq (fun h4 => last h1 (by omega)) (fun h5 => f1 h1 (by omega) rfl)
            refine ix0 ?_
            refine condB_eq (fun h4 => mid (by omega)) (fun h4 => ?_)
            refine ix0 ?_
            exact condB_eq (fun h4 => mid (by omega)) (fun h5 => f0 (by omega) rfl)
          · rw [isXml_len (by omega)] at K9; exact K9
        · rw [hn1] at K9; exact K9
    clear hJ14
    refine H1.ldI 0 rfl (off := 0) rfl ?_
    refine condB_eq (fun h2 => ?_) (fun h2 => ?_)
    · refine H1.ldStr 0 rfl (off := 1) rfl ?_
      refine H1.ldStr 0 rfl (off := 2) rfl ?_
      refine RefCalled_ok (n := (u, l)) hmm.2.1 hmm.2.2 fun w2 hc2 => ?_
      refine k14 _ w2 (H1.step0 hc2) ?_
      rw [decide_eq_false (fun h => h h2), Bool.false_or]
    · exact k14 _ w1 H1 (by rw [decide_eq_true h2]; rfl)
theorem RefKind_ok {x : NV} {J : Bool → World → Prop} (hx : x.Ok w) (hm : x.mea ≤ 100000000) (K : ∀ w', Chg No w w' → J (kindG x.nd) w') : callJ Tryz.prog fn_ref05_kind #[.agg ⟨x.cells⟩] w [.one .bool] J := by
  cases hx with
  | @mk k u l t ap al ac ats kp kl kc ks ha hn hac hk hkn hkc hks =>
    have hal := ha.row (even_att ats) (by decide)
    have hkl := hk.row (even_node ks) (by decide)
    have hmm : kl ≤ 100000000 := by
      have := len_meaL ks
      simp only [NV.mea] at hm; omega
    rw [kindG_nd] at K
    refine c_ref05_kind ?_
    unfold VC_ref05_kind
    refine nodeBox (Hp.start w No) fun b w1 H1 hb hc1 => ?_
    refine H1.ldStr 0 rfl (off := 1) rfl ?_
    refine H1.ldStr 0 rfl (off := 2) rfl ?_
    refine H1.ldS 0 rfl (off := 4) rfl ?_
    refine ⟨fun i w' m => ∃ q : Nat, i = q ∧ q ≤ kl ∧ m = kl - q ∧ Hp w No w' [⟨b, [.int .i64 k, .string u, .string l, .slice ap al ac, .slice kp kl kc, .string t], T_api_Node⟩] ∧ (ks.take q).any (fun y => !mayK k y.kd) = false, ⟨_, 0, rfl, Nat.zero_le _, rfl, H1, rfl⟩, ?_⟩
    rintro i w2 m ⟨q, rfl, hq, rfl, H2, hno⟩
    refine condB_d (fun hlt => ?_) (fun hge => ?_)
    · refine idx_rows (hk.chg H2.chg (off_no _)) (even_node ks) (by decide) (by omega) hlt fun a y _ hy hcs => ?_
      rw [Int.toNat_natCast] at hy
      cases y with
      | mk yk yu yl yt yap yal yac yas ykp ykl ykc yks =>
      refine nodeVar H2 hcs fun b5 w4 H4 hb5 hc4 => ?_
      refine withJ_i fun J6 hJ6 => ?_
      have k6 : ∀ inner : Bool, inner = decide (yk = 2 ∨ yk = 4 ∨ yk = 5) → J6 inner w4 := by
        intro inner hin; subst hJ6
        refine withJ_i fun J51 hJ51 => ?_
        have k51 : ∀ bb : Bool, bb = !mayK k yk → J51 bb w4 := by
          intro bb hbb; subst hJ51
          refine condB_i (fun h => ?_) (fun h => ?_)
          · rw [h] at hbb
            rw [notall_of (f := fun y : NV => mayK k y.kd) (any_of hy hbb.symm)] at K
            exact K w4 H4.chg
          · refine ⟨_, by omega, q + 1, by rw [w64_of] <;> omega, by omega, rfl, H2.step0 hc4, ?_⟩
            rw [any_step _ hy, hno]
            show (false || !mayK k yk) = false
            rw [← hbb, h]; rfl
        clear hJ51
        unfold mayK at k51
        refine H4.ldI 1 rfl (off := 0) rfl ?_
        refine condB_eq (fun h1 => ?_) (fun h1 => ?_)
        · refine condB_not (fun hi => ?_) (fun hi => ?_)
          · have hi' := of_decide_eq_false (hin.symm.trans hi)
            refine H4.ldI 1 rfl (off := 0) rfl ?_
            refine condB_eq (fun h2 => by omega) (fun h2 => ?_)
            exact k51 _ (by rw [decide_eq_false (by omega)]; rfl)
          · have hi' := of_decide_eq_true (hin.symm.trans hi)
            exact k51 _ (by rw [decide_eq_true (by omega)]; rfl)
        · refine H4.ldI 1 rfl (off := 0) rfl ?_
          refine condB_eq (fun h2 => ?_) (fun h2 => ?_)
          · refine condB_i (fun hi => ?_) (fun hi => ?_)
            · have hi' := of_decide_eq_true (hin.symm.trans hi)
              exact k51 _ (by rw [decide_eq_true (by omega)]; rfl)
            · have hi' := of_decide_eq_false (hin.symm.trans hi)
              refine H4.ldI 0 rfl (off := 0) rfl ?_
              refine k51 _ ?_
              congr 1
              rw [Bool.eq_iff_iff, beq_iff_eq, decide_eq_true_eq]; omega
          · exact k51 _ (by rw [decide_eq_false (by omega)]; rfl)
      clear hJ6
      refine H4.ldI 0 rfl (off := 0) rfl ?_
      refine condB_eq (fun h => k6 _ (by rw [decide_eq_true (by omega)])) (fun h2 => ?_)
      refine H4.ldI 0 rfl (off := 0) rfl ?_
      refine condB_eq (fun h => k6 _ (by rw [decide_eq_true (by omega)])) (fun h4 => ?_)
      refine H4.ldI 0 rfl (off := 0) rfl ?_
      refine k6 _ ?_
      rw [Bool.eq_iff_iff, beq_iff_eq, decide_eq_true_eq]; omega
    · rw [List.take_of_length_le (by omega)] at hno
      rw [all_of hno, Bool.true_and] at K
      have eA : ats = [] ↔ al = 0 := by rw [← hal]; exact List.length_eq_zero_iff.symm
      have eK : ks.isEmpty = true ↔ kl = 0 := by rw [← hkl, List.isEmpty_iff]; exact List.length_eq_zero_iff.symm
      unfold kindQ at K
      have kk := K w2 H2.chg
      refine H2.ldI 0 rfl (off := 0) rfl ?_
      simp only [beqS, Bool.and_true]
      refine condB_eq (fun e1 => ?_) (fun e1 => ?_)
      · rw [if_pos e1] at kk
        simp only [withJ]
        refine condB_i (fun h => ?_) (fun h => ?_)
        · rw [Bool.and_eq_true, decide_eq_true_eq, decide_eq_true_eq] at h
          refine H2.ldStr 0 rfl (off := 5) rfl ?_
          refine condB_d (fun h5 => ?_) (fun h5 => ?_)
          · refine H2.ldS 0 rfl (off := 3) rfl ?_
            rw [show (((al : Nat) : Int) == 0) = decide (u = emptyB ∧ l = emptyB ∧ t = emptyB ∧ ats = []) from by
              rw [Bool.eq_iff_iff, beq_iff_eq, decide_eq_true_eq]
              exact ⟨fun g => ⟨h.1, h.2, h5, eA.2 (by omega)⟩, fun g => by have := eA.1 g.2.2.2; omega⟩]
            exact kk
          · rw [decide_eq_false (fun g => h5 g.2.2.1)] at kk; exact kk
        · rw [Bool.and_eq_false_iff, decide_eq_false_iff_not, decide_eq_false_iff_not] at h
          rw [decide_eq_false (fun g => h.elim (fun h => h g.1) (fun h => h g.2.1))] at kk; exact kk
      rw [if_neg e1] at kk
      refine condB_eq (fun e2 => ?_) (fun e2 => ?_)
      · rw [if_pos e2] at kk
        refine H2.ldStr 0 rfl (off := 5) rfl ?_
        exact kk
      rw [if_neg e2] at kk
      refine withJ_i fun J74 hJ74 => ?_
      have k74 : ∀ bb : Bool, (bb = true ↔ k = 3 ∨ k = 4) → J74 bb w2 := by
        intro bb hbb; subst hJ74
        refine condB_i (fun h => ?_) (fun h => ?_)
        · rw [if_pos (hbb.1 h)] at kk
          simp only [withJ]
          refine condB_i (fun h => ?_) (fun h => ?_)
          · rw [Bool.and_eq_true, decide_eq_true_eq, decide_eq_true_eq] at h
            refine H2.ldS 0 rfl (off := 3) rfl ?_
            refine condB_eq (fun h5 => ?_) (fun h5 => ?_)
            · refine H2.ldS 0 rfl (off := 4) rfl ?_
              rw [decide_eq_true (show u = emptyB ∧ l = emptyB ∧ ats = [] from ⟨h.1, h.2, eA.2 (by omega)⟩), Bool.true_and] at kk
              rw [show (((kl : Nat) : Int) == 0) = ks.isEmpty from by rw [Bool.eq_iff_iff, beq_iff_eq, eK]; omega]
              exact kk
            · rw [decide_eq_false (fun g => h5 (by have := eA.1 g.2.2; omega))] at kk; exact kk
          · rw [Bool.and_eq_false_iff, decide_eq_false_iff_not, decide_eq_false_iff_not] at h
            rw [decide_eq_false (fun g => h.elim (fun h => h g.1) (fun h => h g.2.1))] at kk; exact kk
        · rw [if_neg (fun g => by rw [hbb.2 g] at h; cases h)] at kk
          refine condB_eq (fun e5 => ?_) (fun e5 => ?_)
          · rw [if_pos e5] at kk
            simp only [withJ]
            refine H2.ldStr 0 rfl (off := 1) rfl ?_
            refine condB_d (fun h => ?_) (fun h => ?_)
            · refine H2.ldS 0 rfl (off := 3) rfl ?_
              refine condB_eq (fun h5 => ?_) (fun h5 => ?_)
              · refine H2.ldS 0 rfl (off := 4) rfl ?_
                rw [decide_eq_true (show u = emptyB ∧ ats = [] from ⟨h, eA.2 (by omega)⟩), Bool.true_and] at kk
                rw [show (((kl : Nat) : Int) == 0) = ks.isEmpty from by rw [Bool.eq_iff_iff, beq_iff_eq, eK]; omega]
                exact kk
              · rw [decide_eq_false (fun g => h5 (by have := eA.1 g.2; omega))] at kk; exact kk
            · rw [decide_eq_false (fun g => h g.1)] at kk; exact kk
          · rw [if_neg e5] at kk; exact kk
      clear hJ74
      refine condB_eq (fun h => k74 _ ⟨fun _ => .inl h, fun _ => by rw [beq_iff_eq]; exact h⟩) (fun h => k74 _ ⟨fun g => .inr (by rwa [beq_iff_eq] at g), fun g => by rw [beq_iff_eq]; omega⟩)
theorem RefText_ok {x : NV} {J : Bool → World → Prop} (hx : x.Ok w) (hm : x.mea ≤ 100000000) (K : ∀ w', Chg No w w' → J (textN x.nd) w') : callJ Tryz.prog fn_ref05_text #[.agg ⟨x.cells⟩] w [.one .bool] J := by
  cases hx with
  | @mk k u l t ap al ac ats kp kl kc ks ha hn hac hk hkn hkc hks =>
    have hkl := hk.row (even_node ks) (by decide)
    have hmm : kl ≤ 100000000 := by
      have := len_meaL ks
      simp only [NV.mea] at hm; omega
    have ht : t.size ≤ 100000000 := by simp only [NV.mea] at hm; omega
    rw [nd_kids] at K
    unfold textN at K
    change ∀ w', Chg No w w' → J (!twoTexts (ks.map NV.nd) && textQ k t) w' at K
    have kk : ∀ {i : Nat} {y : NV}, ks[i]? = some y → (ks.map NV.nd)[i]? = some y.nd := fun h => by rw [List.getElem?_map, h]; rfl
    refine c_ref05_text ?_
    unfold VC_ref05_text
    refine nodeBox (Hp.start w No) fun b w1 H1 hb hc1 => ?_
    refine ⟨fun i w' m => ∃ q : Nat, i = ((q + 1 : Nat) : Int) ∧ q ≤ kl ∧ m = kl - q ∧ Hp w No w' [⟨b, [.int .i64 k, .string u, .string l, .slice ap al ac, .slice kp kl kc, .string t], T_api_Node⟩] ∧ ∀ j x y, j + 1 < q + 1 → ks[j]? = some x → ks[j + 1]? = some y → ¬ (x.kd = 3 ∧ y.kd = 3), ⟨_, 0, rfl, Nat.zero_le _, rfl, H1, by omega⟩, ?_⟩
    rintro i w2 m ⟨q, rfl, hq, rfl, H2, hup⟩
    refine H2.ldS 0 rfl (off := 4) rfl ?_
    refine condB_d (fun hlt => ?_) (fun hge => ?_)
    · refine withJ_i fun J28 hJ28 => ?_
      have k28 : ∀ (bb : Bool), (bb = true → twoTexts (ks.map NV.nd) = true) → (bb = false → ∀ x y, ks[q]? = some x → ks[q + 1]? = some y → ¬ (x.kd = 3 ∧ y.kd = 3)) → J28 bb w2 := by
        intro bb g1 g2; subst hJ28
        refine condB_i (fun h => ?_) (fun h => ?_)
        · rw [g1 h] at K; exact K w2 H2.chg
        · refine ⟨_, by omega, q + 1, by rw [w64_of] <;> omega, by omega, rfl, H2, ?_⟩
          intro j x y' hj hx hy'
          rcases Nat.lt_or_ge (j + 1) (q + 1) with h1 | h1
          · exact hup j x y' h1 hx hy'
          · obtain rfl : j = q := by omega
            exact g2 h x y' hx hy'
      clear hJ28
      refine H2.ldS 0 rfl (off := 4) rfl ?_
      refine idx_rows (hk.chg H2.chg (off_no _)) (even_node ks) (by decide) (by omega) (by omega) fun a y _ hy hcs => ?_
      rw [Int.toNat_natCast] at hy
      cases y with
      | mk yk yu yl yt yap yal yac yas ykp ykl ykc yks =>
      refine ldI_i (cellsAt_head hcs) ?_
      refine condB_eq (fun h3 => ?_) (fun h3 => k28 _ (fun h => by cases h) (fun _ x y _ hy' h => by rw [hy] at hy'; obtain rfl := Option.some.inj hy'; exact h3 h.2))
      refine H2.ldS 0 rfl (off := 4) rfl ?_
      have e1 : w64 (((q + 1 : Nat) : Int) - 1) = (q : Int) := by rw [w64_of] <;> omega
      rw [e1]
      refine idx_rows (hk.chg H2.chg (off_no _)) (even_node ks) (by decide) (by omega) (by omega) fun a' x _ hx hcs' => ?_
      rw [Int.toNat_natCast] at hx
      cases x with
      | mk xk xu xl xt xap xal xac xas xkp xkl xkc xks =>
      refine ldI_i (cellsAt_head hcs') ?_
      refine k28 _ (fun h => ?_) (fun h x' y' hx' _ => ?_)
      · have h' : xk = 3 := by simpa using h
        exact two_get.2 ⟨q, _, _, kk hx, kk hy, by rw [nd_kind]; exact h', by rw [nd_kind]; exact h3⟩
      · rw [hx] at hx'
        obtain rfl := Option.some.inj hx'
        have h' : xk ≠ 3 := by simpa using h
        exact fun hh => h' hh.1
    · have htt : twoTexts (ks.map NV.nd) = false := by
        rw [Bool.eq_false_iff]
        intro h
        obtain ⟨j, x, y, hx, hy, h1, h2⟩ := two_get.1 h
        rw [List.getElem?_map, Option.map_eq_some_iff] at hx hy
        obtain ⟨x', hx', rfl⟩ := hx
        obtain ⟨y', hy', rfl⟩ := hy
        rw [nd_kind] at h1 h2
        exact hup j x' y' (by have := (List.getElem?_eq_some_iff.1 hy').1; omega) hx' hy' ⟨h1, h2⟩
      rw [htt] at K
      rw [Bool.not_false, Bool.true_and] at K
      unfold textQ at K
      have K2 := K w2 H2.chg
      have htl := bl_len t
      refine H2.ldStr 0 rfl (off := 5) rfl ?_
      refine H2.ldI 0 rfl (off := 0) rfl ?_
      refine condB_eq (fun e3 => ?_) (fun e3 => ?_)
      · rw [if_pos e3, decide_not] at K2
        rw [beqS]; exact K2
      rw [if_neg e3] at K2
      refine condB_eq (fun e4 => ?_) (fun e4 => ?_)
      · rw [if_pos e4] at K2
        simp only [withJ]
        refine RefHas_ok (by omega) (by decide) ?_
        refine condB_not (fun h => ?_) (fun h => ?_)
        · have h0 : hasS [45, 45] (bl t) = false := h
          rw [h0, Bool.not_false, Bool.true_and] at K2
          refine RefHas_ok (by omega) (by decide) ?_
          refine condB_not (fun h => ?_) (fun h => ?_)
          · have h0 : hasS [13] (bl t) = false := h
            rw [h0, Bool.not_false, Bool.true_and] at K2
            rw [beqS]
            refine condB_d (fun h5 => ?_) (fun h5 => ?_)
            · rw [decide_eq_true (show (bl t).getLast? ≠ some 45 from by rw [h5]; decide)] at K2
              exact K2
            · have hne : bl t ≠ [] := fun h6 => h5 (bl_ext h6)
              have hpos : 0 < t.size := by rw [← htl]; exact List.length_pos_iff.2 hne
              have e1 : w64 ((t.size : Int) - 1) = ((t.size - 1 : Nat) : Int) := by rw [w64_of] <;> omega
              rw [e1]
              refine idxStr_b (by omega) (by omega) fun z hz => ?_
              rw [Int.toNat_natCast, ← htl] at hz
              rw [List.getLast?_eq_getElem?, hz] at K2
              rw [show (((z.toNat : Nat) : Int) != 45) = decide (some z ≠ some 45) from by
                rw [Bool.eq_iff_iff, bne_iff_ne, decide_eq_true_eq, ne_eq, ne_eq, Option.some.injEq, ← UInt8.toNat_inj]
                show ¬ _ ↔ ¬ z.toNat = 45
                omega]
              exact K2
          · have h0 : hasS [13] (bl t) = true := h
            rw [h0] at K2; exact K2
        · have h0 : hasS [45, 45] (bl t) = true := h
          rw [h0] at K2; exact K2
      rw [if_neg e4] at K2
      refine condB_eq (fun e5 => ?_) (fun e5 => ?_)
      · rw [if_pos e5] at K2
        simp only [withJ]
        refine RefHas_ok (by omega) (by decide) ?_
        refine condB_not (fun h => ?_) (fun h => ?_)
        · have h0 : hasS [63, 62] (bl t) = false := h
          rw [h0, Bool.not_false, Bool.true_and] at K2
          refine RefHas_ok (by omega) (by decide) ?_
          refine condB_not (fun h => ?_) (fun h => ?_)
          · have h0 : hasS [13] (bl t) = false := h
            rw [h0, Bool.not_false, Bool.true_and] at K2
            rw [beqS]
            refine condB_d (fun h5 => ?_) (fun h5 => ?_)
            · rw [decide_eq_true (show (bl t).head? ≠ some 32 ∧ (bl t).head? ≠ some 9 ∧ (bl t).head? ≠ some 10 from by rw [h5]; decide)] at K2
              exact K2
            · have hne : bl t ≠ [] := fun h6 => h5 (bl_ext h6)
              obtain ⟨z, r, hzr⟩ := List.exists_cons_of_ne_nil hne
              have hpos : 0 < t.size := by rw [← htl, hzr]; simp
              have ix : ∀ {K : Int → Prop}, K ((z.toNat : Nat) : Int) → idxStr t 0 K := fun {K} h => by
                refine idxStr_b (by decide) (by omega) fun z' hz => ?_
                rw [hzr] at hz; obtain rfl : z = z' := Option.some.inj hz; exact h
              have ne : ∀ c : UInt8, (some z ≠ some c) ↔ ((z.toNat : Nat) : Int) ≠ ((c.toNat : Nat) : Int) := fun c => by
                rw [ne_eq, ne_eq, Option.some.injEq, ← UInt8.toNat_inj]; omega
              rw [hzr, List.head?_cons] at K2
              have fin : ∀ bb : Bool, (bb = true ↔ ((z.toNat : Nat) : Int) ≠ 32 ∧ ((z.toNat : Nat) : Int) ≠ 9 ∧ ((z.toNat : Nat) : Int) ≠ 10) → J bb w2 := fun bb hbb => by
                rw [show bb = decide (some z ≠ some 32 ∧ some z ≠ some 9 ∧ some z ≠ some 10) from by
                  rw [Bool.eq_iff_iff, decide_eq_true_eq, hbb, ne, ne, ne]; exact Iff.rfl]
                exact K2
              refine ix ?_
              refine condB_ne (fun g1 => ?_) (fun g1 => fin false ⟨fun h => (by cases h), fun h => absurd g1 h.1⟩)
              refine ix ?_
              refine condB_ne (fun g2 => ?_) (fun g2 => fin false ⟨fun h => (by cases h), fun h => absurd g2 h.2.1⟩)
              refine ix ?_
              refine fin _ ?_
              rw [bne_iff_ne]
              exact ⟨fun h => ⟨g1, g2, h⟩, fun h => h.2.2⟩
          · have h0 : hasS [13] (bl t) = true := h
            rw [h0] at K2; exact K2
        · have h0 : hasS [63, 62] (bl t) = true := h
          rw [h0] at K2; exact K2
      · rw [if_neg e5] at K2
        exact K2
end
end Go.Proofs.YtkgfbphdmnapdaaGreatDoor

/-
  The document's 'Flat', 'deep' and 'Check'; the statement Checks.
-/
set_option linter.unusedVariables false
set_option linter.unusedSimpArgs false
namespace Go.Proofs.YtkgfbphdmnapdaaGreatDoor
open Go Go.Vc Go.Lib
section
variable {w : World}
theorem RefFlat_ok : ∀ (v : NV) {w : World} {J : Option Addr → Nat → Nat → World → Prop}, v.Ok w → v.flat.length ≤ 100000000 →
    (∀ p' c' w', Row w' T_api_Node 6 p' v.flat.length c' (rows NV.cells v.flat) → fresh w p' → Chg No w w' → J p' v.flat.length c' w') →
    callJ Tryz.prog fn_ref05_Flat #[.agg ⟨v.cells⟩] w [.one .slice] J := by
  intro v
  induction v using NV.ind with
  | h k u lo t ap al ac ats kp kl kc ks ih =>
    intro w J hv hm K
    cases hv with
    | mk ha hn hac hk hkn hkc hks =>
    have hkl := hk.row (even_node ks) (by decide)
    have hfl : (NV.mk k u lo t ap al ac ats kp kl kc ks).flat = NV.mk k u lo t ap al ac ats kp kl kc ks :: NV.flatL ks := rfl
    rw [hfl, List.length_cons] at hm
    rw [hfl] at K
    have hkf := len_flatL ks
    refine c_ref05_Flat ?_
    unfold VC_ref05_Flat
    refine nodeBox (Hp.start w No) fun b w1 H1 hb hc1 => ?_
    refine ldBox H1 0 rfl ?_
    refine ⟨rfl, ?_⟩
    refine newRow (sz := 6) (n := 1) (cs := (NV.mk k u lo t ap al ac ats kp kl kc ks).cells) rfl (by decide) fun b7 w2 hr2 hb7 hc2 => ?_
    have H2 := H1.step0 hc2
    refine H2.ldS 0 rfl (off := 4) rfl ?_
    refine ⟨fun lp ll lc i w' m => ∃ q : Nat, i = q ∧ q ≤ kl ∧ m = kl - q ∧ ll = 1 + (NV.flatL (ks.take q)).length ∧ Row w' T_api_Node 6 lp ll lc (rows NV.cells (.mk k u lo t ap al ac ats kp kl kc ks :: NV.flatL (ks.take q))) ∧ fresh w lp ∧ Chg No w w',
      ⟨_, 0, rfl, Nat.zero_le _, rfl, rfl, by rw [List.take_zero, NV.flatL, rows_cons, rows_nil, List.append_nil]; exact hr2, (by intro a e; cases e; have := hc1.size; simp only; omega), H2.chg⟩, ?_⟩
    rintro lp ll lc i w3 m ⟨q, rfl, hq, rfl, rfl, hr3, hf3, hc3⟩
    refine condB_d (fun hlt => ?_) (fun hge => ?_)
    · refine idx_rows (hk.chg hc3 (off_no _)) (even_node ks) (by decide) (by omega) hlt fun a y _ hy hcs => ?_
      rw [Int.toNat_natCast] at hy
      have hymem := List.mem_of_getElem? hy
      have ihy := @ih y hymem
      have hyok := hks y hymem
      have hft := flatL_take hy
      have hle := flatL_le ks (q + 1)
      rw [hft, List.length_append] at hle
      cases y with
      | mk yk yu yl yt yap yal yac yas ykp ykl ykc yks =>
      refine nodeVar (Hp.start w3 No) hcs fun b6 w6 H6 _ hc6 => ?_
      refine ldBox H6 0 rfl ?_
      refine ihy ((hyok.chg0 hc3).chg0 hc6) (by omega) fun p7 c7 w7 hr7 hf7 hc7 => ?_
      have hs3 := hc3.size
      have hs6 := hc6.size
      have hs7 := hc7.size
      have hr3' := (hr3.chg hc6 (off_no _)).chg hc7 (off_no _)
      refine appJ_row slT_node hr3' hr7.sl (one1_rows fun x _ => one1_node x) hr7.none0 (by omega) (by simp only [maxLen]; omega) fun p8 c8 w8 hr8 hc8 hf8 => ?_
      refine ⟨_, by omega, q + 1, by rw [w64_of] <;> omega, by omega, rfl, by rw [hft, List.length_append]; omega, ?_, ?_, ?_⟩
      · rw [hft, ← List.cons_append, rows_append]; exact hr8
      · rcases hf8 with rfl | h
        · exact hf3
        · intro a e; have := h a e; omega
      · exact ((hc3.trans0 hc6).trans0 hc7).trans hc8 fun b hb hI => by
          obtain ⟨a, ea, e⟩ := hI
          have := hf3 a ea; omega
    · have hqk : q = kl := by omega
      subst hqk
      rw [List.take_of_length_le (by omega)] at hr3 ⊢
      have e1 : 1 + (NV.flatL ks).length = (NV.mk k u lo t ap al ac ats kp q kc ks :: NV.flatL ks).length := by rw [List.length_cons]; omega
      rw [e1] at hr3 ⊢
      exact K lp lc w3 hr3 hf3 hc3
theorem RefDeep_ok : ∀ (x : NV) {w : World} {left : Int} {J : Bool → World → Prop}, x.Ok w → x.mea ≤ 100000000 → -1 ≤ left → left ≤ 32 → (∀ w', Chg No w w' → J (deepN (32 - left) x.nd) w') → callJ Tryz.prog fn_ref05_deep #[.agg ⟨x.cells⟩, .int .i64 left] w [.one .bool] J := by
  intro x
  induction x using NV.ind with
  | h k u l t ap al ac ats kp kl kc ks ih =>
    intro w left J hx hm h0 h32 K
    cases hx with
    | mk ha hn hac hk hkn hkc hks =>
    have hkl := hk.row (even_node ks) (by decide)
    have hmm : kl ≤ 100000000 := by
      have := len_meaL ks
      simp only [NV.mea] at hm; omega
    have hkm : ∀ y ∈ ks, y.mea ≤ 100000000 := fun y hy => by
      have := mea_kid hy
      simp only [NV.mea] at hm; omega
    rw [nd_kids] at K
    unfold deepN at K
    have hany : ∀ ab : Int, deepNL ab (ks.map NV.nd) = ks.any fun y => deepN ab y.nd := fun ab => by rw [deepNL_any, List.any_map]; rfl
    rw [hany, hany] at K
    refine c_ref05_deep ?_
    unfold VC_ref05_deep
    refine nodeBox (Hp.start w No) fun b w1 H1 hb hc1 => ?_
    refine withJ_i fun J1 hJ1 => ?_
    have k1 : ∀ lf : Int, -1 ≤ lf → lf ≤ 32 → (∀ w', Chg No w w' → J (ks.any fun y => deepN (32 - lf) y.nd) w') → J1 lf w1 := by
      intro lf g0 g32 K1; subst hJ1
      refine H1.ldS 0 rfl (off := 4) rfl ?_
      refine ⟨fun i w' m => ∃ q : Nat, i = q ∧ q ≤ kl ∧ m = kl - q ∧ Chg No w w' ∧ (ks.take q).any (fun y => deepN (32 - lf) y.nd) = false, ⟨_, 0, rfl, Nat.zero_le _, rfl, hc1, rfl⟩, ?_⟩
      rintro i w3 m ⟨q, rfl, hq, rfl, hc3, hno⟩
      refine condB_d (fun hlt => ?_) (fun hge => ?_)
      · refine idx_rows (hk.chg hc3 (off_no _)) (even_node ks) (by decide) (by omega) hlt fun a y _ hy hcs => ?_
        rw [Int.toNat_natCast] at hy
        have hymem := List.mem_of_getElem? hy
        have ihy := @ih y hymem
        have hyok := hks y hymem
        have hym := hkm y hymem
        have hst := any_step (fun y : NV => deepN (32 - lf) y.nd) hy
        have hof := fun h => any_of (f := fun y : NV => deepN (32 - lf) y.nd) hy h
        cases y with
        | mk yk yu yl yt yap yal yac yas ykp ykl ykc yks =>
        refine nodeVar (Hp.start w3 No) hcs fun b6 w6 H6 _ hc6 => ?_
        refine ldBox H6 0 rfl ?_
        refine ihy ((hyok.chg0 hc3).chg0 hc6) hym g0 g32 fun w7 hc7 => ?_
        have c07 := (hc3.trans0 hc6).trans0 hc7
        refine condB_i (fun h => ?_) (fun h => ?_)
        · rw [hof h] at K1; exact K1 w7 c07
        · exact ⟨_, by omega, q + 1, by rw [w64_of] <;> omega, by omega, rfl, c07, by rw [hst, hno, h]; rfl⟩
      · rw [List.take_of_length_le (by omega)] at hno
        rw [hno] at K1; exact K1 w3 hc3
    clear hJ1
    refine H1.ldI 0 rfl (off := 0) rfl ?_
    refine condB_eq (fun e2 => ?_) (fun e2 => ?_)
    · rw [if_pos e2] at K
      refine condB_d (fun hd => ?_) (fun hd => ?_)
      · rw [if_pos (by omega)] at K; exact K w1 hc1
      · rw [if_neg (by omega)] at K
        rw [w64_of (by omega) (by omega)]
        rw [show (32 - left + 1 : Int) = 32 - (left - 1) from by omega] at K
        exact k1 (left - 1) (by omega) (by omega) K
    · rw [if_neg e2] at K
      exact k1 left h0 h32 K
/-- One of the seven, asked of a node. -/
theorem goodStep {w0 w1 : World} {Γ : List Blk} {b4 b7 : Nat} {gs : List Value} {g r : Bool} {jj : Int} {j i : Nat} {fn : FuncId} {k0 : Int} {u0 l0 t0 : ByteArray} {ap kp : Option Addr} {al ac kl kc : Nat} {e7 : TypeId} (ej : jj = j) (H : Hp w0 No w1 Γ) (hi : Γ[i]? = some ⟨b4, gs, T_7_bool⟩) (hl : gs.length = 7) (hj7 : j < 7) (hj : gs[j]? = some (.bool g))
    {i7 : Nat} (hi7 : Γ[i7]? = some ⟨b7, [.int .i64 k0, .string u0, .string l0, .slice ap al ac, .slice kp kl kc, .string t0], e7⟩) {J : World → Prop}
    (hb : ∀ K : Bool → World → Prop, (∀ w2, Chg No w1 w2 → K r w2) → callJ Tryz.prog fn #[.agg ⟨[.int .i64 k0, .string u0, .string l0, .slice ap al ac, .slice kp kl kc, .string t0]⟩] w1 [.one .bool] K)
    (hJ : ∀ w3, Hp w0 No w3 (Γ.set i ⟨b4, gs.set j (.bool (g && r)), T_7_bool⟩) → Chg (fun x => x = b4) w1 w3 → J w3) :
    idxA (some ⟨b4, 0, none⟩) 7 jj fun a => ldB w1 (a.add (jj.toNat * 1)) fun x => condB x
      (ldI .i64 w1 ⟨b7, 0, none⟩ fun x0 => ldStr w1 ⟨b7, 1, none⟩ fun x1 => ldStr w1 ⟨b7, 2, none⟩ fun x2 => ldS w1 ⟨b7, 3, none⟩ fun p3 l3 c3 => ldS w1 ⟨b7, 4, none⟩ fun p4 l4 c4 => ldStr w1 ⟨b7, 5, none⟩ fun x5 =>
        callJ Tryz.prog fn #[.agg ⟨[.int .i64 x0, .string x1, .string x2, .slice p3 l3 c3, .slice p4 l4 c4, .string x5]⟩] w1 [.one .bool] fun (r2 : Bool) (w2 : World) =>
        idxA (some ⟨b4, 0, none⟩) 7 jj fun a' => stV w2 (a'.add (jj.toNat * 1)) (.bool r2) fun w3 => J w3)
      (idxA (some ⟨b4, 0, none⟩) 7 jj fun a' => stV w1 (a'.add (jj.toNat * 1)) (.bool false) fun w3 => J w3) := by
  subst ej
  have e0 : ∀ n : Nat, (⟨b4, 0, none⟩ : Addr).add ((n : Int).toNat * 1) = ⟨b4, n, none⟩ := fun n => by rw [Addr.add_mk, Int.toNat_natCast]; simp
  refine idxA_i (by omega) (by omega) ?_
  rw [e0]
  refine H.ldB i hi (off := j) hj ?_
  refine condB_i (fun h => ?_) (fun h => ?_)
  · refine ldBox H i7 hi7 ?_
    refine hb _ fun w2 hc2 => ?_
    refine idxA_i (by omega) (by omega) ?_
    rw [e0]
    have H2 := H.step0 hc2
    refine H2.stV i hi (off := j) (by omega) fun w3 H3 hc3 => ?_
    refine hJ w3 ?_ ((hc2.mono fun _ _ h => h.elim).trans hc3 fun _ _ h => h)
    rw [h, Bool.true_and]; exact H3
  · refine idxA_i (by omega) (by omega) ?_
    rw [e0]
    refine H.stV i hi (off := j) (by omega) fun w3 H3 hc3 => ?_
    refine hJ w3 ?_ hc3
    rw [h, Bool.false_and]; exact H3
theorem zeroC_7 : zeroC Tryz.prog T_7_bool = ⟨[.bool false, .bool false, .bool false, .bool false, .bool false, .bool false, .bool false]⟩ := by kernel_rfl
theorem all_step {α : Type} {L : List α} {q : Nat} {x : α} (f : α → Bool) (h : L[q]? = some x) : (L.take (q + 1)).all f = ((L.take q).all f && f x) := by
  rw [take_get h, List.all_append, List.all_cons, List.all_nil, Bool.and_true]
theorem RefCheck_ok {x : NV} {J : Int → World → Prop} (hx : x.Ok w) (hm : x.mea ≤ 10000000) (K : ∀ w', Chg No w w' → J (checkL x.nd) w') : callJ Tryz.prog fn_ref05_Check #[.agg ⟨x.cells⟩] w [.one (.int .i64)] J := by
  have hx0 := hx
  have hfl := flat_len x
  have hok : ∀ y ∈ x.flat, y.Ok w ∧ y.mea ≤ 100000000 := fun y hy => ⟨flat_mem hy hx, by have := flat_mea hy; omega⟩
  have hfn := flat_nd x
  have hkind : x.nd.kind = x.kd := nd_kind x
  cases hx with
  | @mk k u l t ap al ac ats kp kl kc ks ha hn hac hk hkn hkc hks =>
    have hkl := hk.row (even_node ks) (by decide)
    refine c_ref05_Check ?_
    unfold VC_ref05_Check
    refine nodeBox (Hp.start w No) fun b w1 H1 hb hc1 => ?_
    refine H1.ldI 0 rfl (off := 0) rfl ?_
    have hkd : (NV.mk k u l t ap al ac ats kp kl kc ks).nd.kind = k := hkind
    refine condB_ne (fun h1 => ?_) (fun h1 => ?_)
    · have : checkL (NV.mk k u l t ap al ac ats kp kl kc ks).nd = 33 := by unfold checkL; rw [if_pos (.inl (by rw [hkd]; exact h1))]
      rw [this] at K; exact K w1 hc1
    rw [check_first (by rw [hkd]; exact h1), ← hfn, List.length_map, List.all_map, List.all_map, List.all_map, List.all_map, List.all_map, List.all_map] at K
    refine ldBox H1 0 rfl ?_
    refine RefFlat_ok (.mk k u l t ap al ac ats kp kl kc ks) (hx0.chg0 hc1) (by omega) fun p2 c2 w2 hr2 hf2 hc2 => ?_
    have hdk : (NV.mk k u l t ap al ac ats kp kl kc ks).nd.kids = ks.map NV.nd := by rw [nd_kids]; rfl
    have H2 := H1.step0 hc2
    refine ldBox H2 0 rfl ?_
    refine RefDeep_ok (.mk k u l t ap al ac ats kp kl kc ks) (hx0.chg0 H2.chg) (by omega) (by decide) (by decide) fun w3 hc3 => ?_
    rw [show ((32 : Int) - 32) = 0 from rfl]
    generalize hL : (NV.mk k u l t ap al ac ats kp kl kc ks).flat = L at *
    generalize hd : (NV.mk k u l t ap al ac ats kp kl kc ks).nd = d at *
    have H3 := H2.step0 hc3
    have hLl : L.length ≤ 10000000 := by omega
    have hr3 := hr2.chg hc3 (off_no _)
    rw [zeroC_7]
    refine H3.newB fun b4 w4 H4 hb4 hc4 => ?_
    refine H4.stN 0 rfl (off := 0) (vs := [.bool true, .bool (!deepN 0 d), .bool (decide (((L.length : Nat) : Int) ≤ 2001)), .bool true, .bool true, .bool true, .bool true]) rfl (by simp) (by intro v hv; simp only [List.mem_cons, List.not_mem_nil, or_false] at hv; rcases hv with rfl | rfl | rfl | rfl | rfl | rfl | rfl <;> rfl) fun w5 H5 hc5 => ?_
    simp only [List.set_cons_zero] at H5
    have hp4 : ∀ a, p2 = some a → a.block ≠ b4 := fun a e h => by have := hr3.lt a e; omega
    have hs5 : Sl w5 p2 L.length 6 (rows NV.cells L) := ((hr3.chg hc4 (off_no _)).chg hc5 (fun a e h => hp4 a e h)).sl
    have e20 : decide (((L.length : Nat) : Int) ≤ 2001) = decide (L.length ≤ 2001) := decide_eq_decide.2 (by omega)
    rw [e20] at H5
    refine ⟨fun i w' m => ∃ q : Nat, i = q ∧ q ≤ L.length ∧ m = L.length - q ∧ Sl w' p2 L.length 6 (rows NV.cells L) ∧
      Hp w No w' [⟨b4, [.bool ((L.take q).all (fun x => kindG x.nd)), .bool (!deepN 0 d), .bool (decide (L.length ≤ 2001) && (L.take q).all (fun x => !greatN x.nd)), .bool ((L.take q).all (fun x => nameG x.nd)), .bool ((L.take q).all (fun x => charsN x.nd)), .bool ((L.take q).all (fun x => orderN x.nd)), .bool ((L.take q).all (fun x => textN x.nd))], T_7_bool⟩,
        ⟨b, [.int .i64 k, .string u, .string l, .slice ap al ac, .slice kp kl kc, .string t], T_api_Node⟩], ⟨_, 0, rfl, Nat.zero_le _, rfl, hs5, by rw [List.take_zero]; simp only [List.all_nil, Bool.and_true]; exact H5⟩, ?_⟩
    rintro i w6 m ⟨q, rfl, hq, rfl, hs6, H6⟩
    refine condB_d (fun hlt => ?_) (fun hge => ?_)
    · refine withJ_i fun J0 hJ0 => ?_
      have k0 : ∀ w7, Sl w7 p2 L.length 6 (rows NV.cells L) → Hp w No w7 [⟨b4, [.bool ((L.take (q + 1)).all (fun x => kindG x.nd)), .bool (!deepN 0 d), .bool (decide (L.length ≤ 2001) && (L.take (q + 1)).all (fun x => !greatN x.nd)), .bool ((L.take (q + 1)).all (fun x => nameG x.nd)), .bool ((L.take (q + 1)).all (fun x => charsN x.nd)), .bool ((L.take (q + 1)).all (fun x => orderN x.nd)), .bool ((L.take (q + 1)).all (fun x => textN x.nd))], T_7_bool⟩,
        ⟨b, [.int .i64 k, .string u, .string l, .slice ap al ac, .slice kp kl kc, .string t], T_api_Node⟩] → J0 w7 := by
        intro w7 hs7 H7; subst hJ0
        exact ⟨_, by omega, q + 1, by rw [w64_of] <;> omega, by omega, rfl, hs7, H7⟩
      clear hJ0
      refine idx_rows hs6 (even_node L) (by decide) (by omega) hlt fun a y _ hy hcs => ?_
      rw [Int.toNat_natCast] at hy
      have hyo := hok y (List.mem_of_getElem? hy)
      rw [all_step (fun x => kindG x.nd) hy, all_step (fun x => !greatN x.nd) hy, all_step (fun x => nameG x.nd) hy, all_step (fun x => charsN x.nd) hy, all_step (fun x => orderN x.nd) hy, all_step (fun x => textN x.nd) hy] at k0
      generalize (L.take q).all (fun x => kindG x.nd) = g0 at *
      generalize (L.take q).all (fun x => !greatN x.nd) = g2 at *
      generalize (L.take q).all (fun x => nameG x.nd) = g3 at *
      generalize (L.take q).all (fun x => charsN x.nd) = g4 at *
      generalize (L.take q).all (fun x => orderN x.nd) = g5 at *
      generalize (L.take q).all (fun x => textN x.nd) = g6 at *
      rw [← Bool.and_assoc] at k0
      generalize (decide (L.length ≤ 2001) && g2) = g2' at *
      have hyk := fun {w'} (h : y.Ok w') (K : Bool → World → Prop) (g : ∀ w2, Chg No w' w2 → K (kindG y.nd) w2) => RefKind_ok (J := K) h hyo.2 g
      have hys := fun {w'} (h : y.Ok w') (K : Bool → World → Prop) (g : ∀ w2, Chg No w' w2 → K (!greatN y.nd) w2) => RefSize_ok (J := K) h hyo.2 g
      have hyn := fun {w'} (h : y.Ok w') (K : Bool → World → Prop) (g : ∀ w2, Chg No w' w2 → K (nameG y.nd) w2) => RefName_ok (J := K) h hyo.2 g
      have hyc := fun {w'} (h : y.Ok w') (K : Bool → World → Prop) (g : ∀ w2, Chg No w' w2 → K (charsN y.nd) w2) => RefChars_ok (J := K) h hyo.2 g
      have hyr := fun {w'} (h : y.Ok w') (K : Bool → World → Prop) (g : ∀ w2, Chg No w' w2 → K (orderN y.nd) w2) => RefOrder_ok (J := K) h hyo.2 g
      have hyt := fun {w'} (h : y.Ok w') (K : Bool → World → Prop) (g : ∀ w2, Chg No w' w2 → K (textN y.nd) w2) => RefText_ok (J := K) h hyo.2 g
      have hyok := hyo.1
      generalize kindG y.nd = r0 at *
      generalize greatN y.nd = r2 at *
      generalize nameG y.nd = r3 at *
      generalize charsN y.nd = r4 at *
      generalize orderN y.nd = r5 at *
      generalize textN y.nd = r6 at *
      cases y with
      | mk yk yu yl yt yap yal yac yas ykp ykl ykc yks =>
      refine nodeVar H6 hcs fun b7 w9 H9 hb7 hc9 => ?_
      have hs9 := hs6.chg hc9 (off_no _)
      refine withJ_i fun J1 hJ1 => ?_
      refine goodStep (g := g0) (r := r0) (j := 0) rfl H9 (i := 1) rfl rfl (by decide) rfl (i7 := 0) rfl (fun K g => hyk (hyok.chg0 H9.chg) K g) fun w10 H10 hc10 => ?_
      simp only [List.set_cons_succ, List.set_cons_zero] at H10
      have hs10 := hs9.chg hc10 (fun a e h => hp4 a e h)
      subst hJ1
      refine withJ_i fun J2 hJ2 => ?_
      refine goodStep (g := g2') (r := !r2) (j := 2) rfl H10 (i := 1) rfl rfl (by decide) rfl (i7 := 0) rfl (fun K g => hys (hyok.chg0 H10.chg) K g) fun w11 H11 hc11 => ?_
      simp only [List.set_cons_succ, List.set_cons_zero] at H11
      have hs11 := hs10.chg hc11 (fun a e h => hp4 a e h)
      subst hJ2
      refine withJ_i fun J3 hJ3 => ?_
      refine goodStep (g := g3) (r := r3) (j := 3) rfl H11 (i := 1) rfl rfl (by decide) rfl (i7 := 0) rfl (fun K g => hyn (hyok.chg0 H11.chg) K g) fun w12 H12 hc12 => ?_
      simp only [List.set_cons_succ, List.set_cons_zero] at H12
      have hs12 := hs11.chg hc12 (fun a e h => hp4 a e h)
      subst hJ3
      refine withJ_i fun J4 hJ4 => ?_
      refine goodStep (g := g4) (r := r4) (j := 4) rfl H12 (i := 1) rfl rfl (by decide) rfl (i7 := 0) rfl (fun K g => hyc (hyok.chg0 H12.chg) K g) fun w13 H13 hc13 => ?_
      simp only [List.set_cons_succ, List.set_cons_zero] at H13
      have hs13 := hs12.chg hc13 (fun a e h => hp4 a e h)
      subst hJ4
      refine withJ_i fun J5 hJ5 => ?_
      refine goodStep (g := g5) (r := r5) (j := 5) rfl H13 (i := 1) rfl rfl (by decide) rfl (i7 := 0) rfl (fun K g => hyr (hyok.chg0 H13.chg) K g) fun w14 H14 hc14 => ?_
      simp only [List.set_cons_succ, List.set_cons_zero] at H14
      have hs14 := hs13.chg hc14 (fun a e h => hp4 a e h)
      subst hJ5
      refine goodStep (g := g6) (r := r6) (j := 6) rfl H14 (i := 1) rfl rfl (by decide) rfl (i7 := 0) rfl (fun K g => hyt (hyok.chg0 H14.chg) K g) fun w15 H15 hc15 => ?_
      simp only [List.set_cons_succ, List.set_cons_zero] at H15
      exact k0 w15 (hs14.chg hc15 (fun a e h => hp4 a e h)) (H15.sub (.cons _ (.refl _)))
    · rw [List.take_of_length_le (by omega)] at H6
      have hroots : rootsN d = ks.countP fun y => decide (y.kd = 2) := by
        unfold rootsN
        rw [hdk, List.countP_map]
        congr 1
        funext y
        show decide (y.nd.kind = 2) = _
        rw [nd_kind]
      rw [hroots] at K
      refine H6.ldS 1 rfl (off := 4) rfl ?_
      have hkm := len_meaL ks
      have hmm : kl ≤ 10000000 := by simp only [NV.mea] at hm; omega
      change ∀ w', Chg No w w' → J (firstNo [L.all (fun x => kindG x.nd), !deepN 0 d, decide (L.length ≤ 2001) && L.all (fun x => !greatN x.nd), L.all (fun x => nameG x.nd), L.all (fun x => charsN x.nd), L.all (fun x => orderN x.nd), L.all (fun x => textN x.nd)] errs7 (if ((ks.countP fun y => decide (y.kd = 2)) ≠ 1) then 30 else 0)) w' at K
      generalize hG : [L.all (fun x => kindG x.nd), !deepN 0 d, decide (L.length ≤ 2001) && L.all (fun x => !greatN x.nd), L.all (fun x => nameG x.nd), L.all (fun x => charsN x.nd), L.all (fun x => orderN x.nd), L.all (fun x => textN x.nd)] = G at K
      have hGl : G.length = 7 := by rw [← hG]; rfl
      have hGc : [.bool (L.all (fun x => kindG x.nd)), .bool (!deepN 0 d), .bool (decide (L.length ≤ 2001) && L.all (fun x => !greatN x.nd)), .bool (L.all (fun x => nameG x.nd)), .bool (L.all (fun x => charsN x.nd)), .bool (L.all (fun x => orderN x.nd)), .bool (L.all (fun x => textN x.nd))] = G.map Value.bool := by rw [← hG]; rfl
      rw [hGc] at H6
      refine ⟨fun e i w' m => ∃ q : Nat, i = q ∧ q ≤ kl ∧ m = kl - q ∧ Hp w No w' [⟨b4, G.map Value.bool, T_7_bool⟩, ⟨b, [.int .i64 k, .string u, .string l, .slice ap al ac, .slice kp kl kc, .string t], T_api_Node⟩] ∧ e = (((ks.take q).countP fun y => decide (y.kd = 2) : Nat) : Int), ⟨_, 0, rfl, Nat.zero_le _, rfl, H6, rfl⟩, ?_⟩
      rintro e i w10 m ⟨q2, rfl, hq2, rfl, H10, rfl⟩
      have hcl := List.countP_le_length (p := fun y : NV => decide (y.kd = 2)) (l := ks.take q2)
      rw [List.length_take] at hcl
      refine condB_d (fun hlt => ?_) (fun hge2 => ?_)
      · refine withJ_i fun J5 hJ5 => ?_
        have k5 : ∀ (e : Int) (w11 : World), e = (((ks.take (q2 + 1)).countP fun y => decide (y.kd = 2) : Nat) : Int) → Chg No w10 w11 → J5 e w11 := by
          intro e w11 he c11; subst hJ5
          exact ⟨_, by omega, q2 + 1, by rw [w64_of] <;> omega, by omega, rfl, H10.step0 c11, he⟩
        clear hJ5
        refine idx_rows (hk.chg H10.chg (off_no _)) (even_node ks) (by decide) (by omega) hlt fun a y _ hy hcs => ?_
        rw [Int.toNat_natCast] at hy
        have hct := countP_take (p := fun y : NV => decide (y.kd = 2)) hy
        cases y with
        | mk yk yu yl yt yap yal yac yas ykp ykl ykc yks =>
        refine nodeVar (Hp.start w10 No) hcs fun b6 w13 H13 _ hc13 => ?_
        refine H13.ldI 0 rfl (off := 0) rfl ?_
        refine condB_eq (fun h2 => ?_) (fun h2 => ?_)
        · refine k5 _ _ ?_ hc13
          rw [hct, if_pos (show decide ((NV.mk yk yu yl yt yap yal yac yas ykp ykl ykc yks).kd = 2) = true from decide_eq_true h2), w64_of (by omega) (by omega)]; omega
        · refine k5 _ _ ?_ hc13
          rw [hct, if_neg (by rw [decide_eq_false (show ¬ (NV.mk yk yu yl yt yap yal yac yas ykp ykl ykc yks).kd = 2 from h2)]; decide)]; rfl
      · have hqk : q2 = kl := by omega
        rw [List.take_of_length_le (by omega)] at *
        generalize (ks.countP fun y => decide (y.kd = 2)) = rn at *
        generalize hD : (if rn ≠ 1 then (30 : Int) else 0) = D at K
        refine ⟨fun i w' m => ∃ q : Nat, i = q ∧ q ≤ 7 ∧ m = 7 - q ∧ w' = w10 ∧ firstNo G errs7 D = firstNo (G.drop q) (errs7.drop q) D, ⟨_, 0, rfl, Nat.zero_le _, rfl, rfl, rfl⟩, ?_⟩
        rintro i w11 m ⟨q3, rfl, hq3, rfl, rfl, hfi⟩
        refine condB_d (fun hlt => ?_) (fun hge => ?_)
        · have hg : G[q3]? = some G[q3] := List.getElem?_eq_getElem (by omega)
          have hel : q3 < errs7.length := by show q3 < 7; omega
          have he : errs7[q3]? = some errs7[q3] := List.getElem?_eq_getElem hel
          generalize G[q3] = gg at hg
          generalize errs7[q3] = ee at he
          rw [firstNo_drop hg he] at hfi
          refine idxA_i (by omega) (by omega) ?_
          rw [Addr.add_mk, Int.toNat_natCast, Nat.zero_add, Nat.mul_one]
          refine H10.ldB 0 rfl (off := q3) (x := gg) (by rw [List.getElem?_map, hg]; rfl) ?_
          refine condB_not (fun h => ?_) (fun h => ?_)
          · rw [if_neg (by rw [h]; decide)] at hfi
            refine ⟨ee, by omega, by omega, ?_, ?_⟩
            · have : (errs7.map fun z => Value.int .i64 z)[q3]? = some (.int .i64 ee) := by rw [List.getElem?_map, he]; rfl
              rw [Int.toNat_natCast]
              simpa [errs7] using this
            · rw [hfi] at K; exact K w11 H10.chg
          · rw [if_pos h] at hfi
            exact ⟨_, by omega, q3 + 1, by rw [w64_of] <;> omega, by omega, rfl, rfl, hfi⟩
        · obtain rfl : q3 = 7 := by omega
          have hfd : firstNo (G.drop 7) (errs7.drop 7) D = D := by rw [List.drop_eq_nil_of_le (by omega)]; rfl
          rw [hfi, hfd] at K
          refine condB_ne (fun h => ?_) (fun h => ?_)
          · rw [if_pos (by omega)] at hD; rw [← hD] at K; exact K w11 H10.chg
          · rw [if_neg (by omega)] at hD; rw [← hD] at K; exact K w11 H10.chg
end
end Go.Proofs.YtkgfbphdmnapdaaGreatDoor

/-
  Chapter 9's check: kids written anew.
-/
set_option linter.unusedVariables false
set_option linter.unusedSimpArgs false
namespace Go.Proofs.YtkgfbphdmnapdaaGreatDoor
open Go Go.Vc Go.Lib
section
variable {w w' w0 : World}
/-- A list of nodes under way: a row of its own, each node of its own. -/
structure Out (w0 w : World) (p : Option Addr) (c : Nat) (L : List NV) : Prop where
  hr : Row w T_api_Node 6 p L.length c (rows NV.cells L)
  hf : fresh w0 p
  hc : Chg No w0 w
  own : ∀ x ∈ L, Own w x
  off : ∀ b ∈ NV.bsL L, ¬ isB p b
  bs : ∀ b ∈ NV.bsL L, w0.heap.size ≤ b
theorem bsL_snoc (L : List NV) (y : NV) : NV.bsL (L ++ [y]) = NV.bsL L ++ y.bs := by rw [bsL_append]; simp [NV.bsL]
theorem bsL_lt {L : List NV} (h : ∀ x ∈ L, Own w x) : ∀ b ∈ NV.bsL L, b < w.heap.size := by
  intro b hb
  induction L with
  | nil => simp [NV.bsL] at hb
  | cons x r ih =>
    rw [NV.bsL] at hb
    rcases List.mem_append.1 hb with hb | hb
    · exact (h x (List.mem_cons_self)).lt b hb
    · exact ih (fun y hy => h y (List.mem_cons_of_mem _ hy)) hb
theorem Out.chg0 {p : Option Addr} {c : Nat} {L : List NV} (O : Out w0 w p c L) (hc : Chg No w w') : Out w0 w' p c L :=
  ⟨O.hr.chg hc (off_no _), O.hf, O.hc.trans0 hc, fun x hx => (O.own x hx).chg0 hc, O.off, O.bs⟩
/-- One node more, a twin of another. -/
theorem Out.twin {p : Option Addr} {c : Nat} {L : List NV} {y : NV} (O : Out w0 w p c L) (hy : y.Ok w0) (hm : y.mea ≤ 10000000) (hlen : L.length + 1 ≤ 1000000000) {K : Option Addr → Nat → Nat → World → Prop}
    (k : ∀ p' c' w' y', y'.nd = y.nd → y'.mea = y.mea → Out w0 w' p' c' (L ++ [y']) → K p' (L ++ [y']).length c' w') :
    callJ Tryz.prog fn_ref05_Twin #[.agg ⟨y.cells⟩] w [.agg [.int .i64, .str, .str, .slice, .slice, .str]] fun (r0 : Int) (r1 : ByteArray) (r2 : ByteArray) (r3p : Option Addr) (r3l : Nat) (r3c : Nat) (r4p : Option Addr) (r4l : Nat) (r4c : Nat) (r5 : ByteArray) (w3 : World) =>
      Array.size (⟨[.int .i64 r0, .string r1, .string r2, .slice r3p r3l r3c, .slice r4p r4l r4c, .string r5]⟩ : Array Value) = 6 ∧
      newB w3 (.cells ⟨[.int .i64 r0, .string r1, .string r2, .slice r3p r3l r3c, .slice r4p r4l r4c, .string r5]⟩ T_api_Node) fun b w4 =>
      appJ Tryz.prog T_sl_api_Node T_sl_api_Node (.slice p L.length c) (.slice (some ⟨b, 0, none⟩) 1 1) w4 fun q l c w5 => K q l c w5 := by
  refine Twin_ok y hy O.hc hm fun v' w3 hnd hown hnod hbl hmea hc3 => ?_
  have O3 := O.chg0 hc3
  have hpl : ∀ b, isB p b → w0.heap.size ≤ b ∧ b < w.heap.size := by rintro b ⟨a, e, rfl⟩; exact ⟨O.hf a e, O.hr.lt a e⟩
  have hLlt := bsL_lt O.own
  cases v' with
  | mk zk zu zl zt zap zal zac zas zkp zkl zkc zks =>
  refine ⟨rfl, ?_⟩
  have hvlt := hown.lt
  have s3 := hc3.size
  refine newRow (sz := 6) (n := 1) (cs := (NV.mk zk zu zl zt zap zal zac zas zkp zkl zkc zks).cells) rfl (by decide) fun b w4 hr4 hb4 hc4 => ?_
  refine appJ_row slT_node (O3.hr.chg hc4 (off_no _)) hr4.sl (one1_node (.mk zk zu zl zt zap zal zac zas zkp zkl zkc zks)) (by simp) (by omega) (by simp only [maxLen]; omega) fun p2 c2 w5 hr5 hc5 hf5 => ?_
  have e1 : (L ++ [NV.mk zk zu zl zt zap zal zac zas zkp zkl zkc zks]).length = L.length + 1 := by simp
  have s4 := hc4.size
  have hpf : ∀ b, isB p2 b → isB p b ∨ w4.heap.size ≤ b := by
    rintro b ⟨a, ha, rfl⟩
    rcases hf5 with rfl | hf5
    · exact .inl ⟨a, ha, rfl⟩
    · exact .inr (hf5 a ha)
  have h2 := k p2 c2 w5 (.mk zk zu zl zt zap zal zac zas zkp zkl zkc zks) hnd hmea ?_
  · rw [e1] at h2; exact h2
  have s0 := O.hc.size
  refine ⟨?_, ?_, ?_, ?_, ?_, ?_⟩
  · rw [e1, rows_append, rows_cons, rows_nil, List.append_nil]; exact hr5
  · intro a e
    rcases hpf a.block ⟨a, e, rfl⟩ with h | h
    · exact (hpl _ h).1
    · omega
  · exact (O3.hc.trans0 hc4).trans hc5 fun b hb h => by have := hpl b h; omega
  · intro x hx
    rcases List.mem_append.1 hx with hx | hx
    · exact ((O3.own x hx).chg0 hc4).chg hc5 fun z hz h => O.off z (bsL_mem hx hz) h
    · rw [List.mem_singleton.1 hx]
      exact (hown.chg0 hc4).chg hc5 fun z hz h => by have := hbl z hz; have := hpl z h; omega
  · intro z hz h
    rw [bsL_snoc] at hz
    rcases List.mem_append.1 hz with hz | hz
    · rcases hpf z h with h | h
      · exact O.off z hz h
      · have := hLlt z hz; omega
    · have g1 := hbl z hz
      have g2 := hvlt z hz
      rcases hpf z h with h | h
      · have := hpl z h; omega
      · omega
  · intro z hz
    rw [bsL_snoc] at hz
    rcases List.mem_append.1 hz with hz | hz
    · exact O.bs z hz
    · have := hbl z hz; omega
theorem nd_snoc (L : List NV) (y : NV) : (L ++ [y]).map NV.nd = L.map NV.nd ++ [y.nd] := by simp
theorem mea_snoc (L : List NV) (y : NV) : NV.meaL (L ++ [y]) = NV.meaL L + y.mea := by rw [meaL_append]; simp [NV.meaL]
theorem Kids_ok {p q : Option Addr} {l c m c2 : Nat} {X Y : List NV} {f t : Nat} {J : Option Addr → Nat → Nat → World → Prop} (h : Sl w p l 6 (rows NV.cells X)) (hX : ∀ x ∈ X, NV.Ok w x) (hq : Sl w q m 6 (rows NV.cells Y)) (hY : ∀ x ∈ Y, NV.Ok w x)
    (hf : f ≤ l) (ht : t ≤ l) (hmX : NV.meaL X ≤ 10000000) (hmY : NV.meaL Y ≤ 10000000)
    (K : ∀ p' c' w' L, L.map NV.nd = (X.take f ++ Y ++ X.drop t).map NV.nd → NV.meaL L = NV.meaL (X.take f) + NV.meaL Y + NV.meaL (X.drop t) → Out w w' p' c' L → J p' L.length c' w') :
    callJ Tryz.prog fn_ref09_kids #[.slice p l c, .int .i64 (f : Int), .int .i64 (t : Int), .slice q m c2] w [.one .slice] J := by
  have hl := h.row (even_node X) (by decide)
  have hl2 := hq.row (even_node Y) (by decide)
  have lX := len_meaL X
  have lY := len_meaL Y
  refine c_ref09_kids ?_
  unfold VC_ref09_kids
  refine newRow (sz := 6) (n := 0) (cs := []) rfl (by decide) fun b14 w1 hr1 hb1 hc1 => ?_
  refine ⟨fun p' l' c' i w' m => ∃ (n : Nat) (L : List NV), i = n ∧ n ≤ f ∧ m = f - n ∧ l' = L.length ∧ L.map NV.nd = (X.take n).map NV.nd ∧ NV.meaL L = NV.meaL (X.take n) ∧ Out w w' p' c' L,
    ⟨_, 0, [], rfl, Nat.zero_le _, rfl, rfl, rfl, rfl, ⟨hr1, fun a e => by cases e; exact hb1, hc1, by simp, by simp [NV.bsL], by simp [NV.bsL]⟩⟩, ?_⟩
  rintro p2 l2 c3 i10 w2 m2 ⟨n, L, rfl, hn, rfl, rfl, hnd, hme, O⟩
  have hLl : L.length = n := by
    have := congrArg List.length hnd
    rw [List.length_map, List.length_map, List.length_take] at this; omega
  refine condB_d (fun hlt => ?_) (fun hge => ?_)
  · refine idx_rows (h.chg O.hc (off_no _)) (even_node X) (by decide) (by omega) (by omega) fun a y _ hy hcs => ?_
    rw [Int.toNat_natCast] at hy
    have hym := List.mem_of_getElem? hy
    have hyok := hX y hym
    have hmy := mea_kid hym
    have ht := take_get hy
    have key := O.twin hyok (by omega) (by omega) (K := fun q27p q27l q27c w5 => ∃ m' : Nat, m' < f - n ∧ ∃ (n' : Nat) (L : List NV), w64 ((n : Int) + 1) = n' ∧ n' ≤ f ∧ m' = f - n' ∧ q27l = L.length ∧ L.map NV.nd = (X.take n').map NV.nd ∧ NV.meaL L = NV.meaL (X.take n') ∧ Out w w5 q27p q27c L) fun p' c' w' y' hny hmy' O' =>
      ⟨_, by omega, n + 1, L ++ [y'], by rw [w64_of] <;> omega, by omega, rfl, rfl, by rw [nd_snoc, hnd, hny, ht, nd_snoc], by rw [mea_snoc, hme, hmy', ht, mea_snoc], O'⟩
    cases y with
    | mk yk yu yl yt yap yal yac yas ykp ykl ykc yks =>
    refine ldNode hcs ?_
    exact key
  have hnf : n = f := by omega
  subst hnf
  have hLn := hnd
  refine ⟨fun p' l' c' i w' m' => ∃ (j : Nat) (L : List NV), i = j ∧ j ≤ m ∧ m' = m - j ∧ l' = L.length ∧ L.map NV.nd = (X.take n ++ Y.take j).map NV.nd ∧ NV.meaL L = NV.meaL (X.take n) + NV.meaL (Y.take j) ∧ Out w w' p' c' L,
    ⟨_, 0, L, rfl, Nat.zero_le _, rfl, rfl, by simpa using hnd, by simpa [NV.meaL] using hme, O⟩, ?_⟩
  rintro p4 l4 c4 x30 w6 m6 ⟨j, L4, rfl, hj, rfl, rfl, hnd4, hme4, O4⟩
  have hLl4 : L4.length = n + j := by
    have := congrArg List.length hnd4
    rw [List.length_map, List.length_map, List.length_append, List.length_take, List.length_take] at this; omega
  refine condB_d (fun hlt => ?_) (fun hge => ?_)
  · refine idx_rows (hq.chg O4.hc (off_no _)) (even_node Y) (by decide) (by omega) hlt fun a y _ hy hcs => ?_
    rw [Int.toNat_natCast] at hy
    have hym := List.mem_of_getElem? hy
    have hyok := hY y hym
    have hmy := mea_kid hym
    have ht := take_get hy
    have key := fun (w8 : World) (hc8 : Chg No w6 w8) => (O4.chg0 hc8).twin hyok (by omega) (by omega) (K := fun q27p q27l q27c w5 => ∃ m' : Nat, m' < m - j ∧ ∃ (j' : Nat) (L : List NV), w64 ((j : Int) + 1) = j' ∧ j' ≤ m ∧ m' = m - j' ∧ q27l = L.length ∧ L.map NV.nd = (X.take n ++ Y.take j').map NV.nd ∧ NV.meaL L = NV.meaL (X.take n) + NV.meaL (Y.take j') ∧ Out w w5 q27p q27c L) fun p' c' w' y' hny hmy' O' =>
      ⟨_, by omega, j + 1, L4 ++ [y'], by rw [w64_of] <;> omega, by omega, rfl, rfl, by rw [nd_snoc, hnd4, hny, ht, ← List.append_assoc, nd_snoc], by rw [mea_snoc, hme4, hmy', ht, mea_snoc]; omega, O'⟩
    cases y with
    | mk yk yu yl yt yap yal yac yas ykp ykl ykc yks =>
    refine nodeVar (Hp.start w6 No) hcs fun b12 w8 H8 hb8 hc8 => ?_
    refine ldBox H8 0 rfl ?_
    exact key w8 hc8
  have hjm : j = m := by omega
  rw [hjm, List.take_of_length_le (show Y.length ≤ m by omega)] at hnd4 hme4
  refine ⟨fun p' l' c' i w' m' => ∃ (s : Nat) (L : List NV), i = (t + s : Nat) ∧ t + s ≤ l ∧ m' = l - (t + s) ∧ l' = L.length ∧ L.map NV.nd = (X.take n ++ Y ++ (X.drop t).take s).map NV.nd ∧ NV.meaL L = NV.meaL (X.take n) + NV.meaL Y + NV.meaL ((X.drop t).take s) ∧ Out w w' p' c' L,
    ⟨_, 0, L4, by simp, by omega, rfl, rfl, by simpa using hnd4, by simpa [NV.meaL] using hme4, O4⟩, ?_⟩
  rintro p5 l5 c5 i13 w12 m12 ⟨s, L5, rfl, hs, rfl, rfl, hnd5, hme5, O5⟩
  have hLl5 : L5.length = n + m + s := by
    have := congrArg List.length hnd5
    rw [List.length_map, List.length_map, List.length_append, List.length_append, List.length_take, List.length_take, List.length_drop] at this; omega
  refine condB_d (fun hlt => ?_) (fun hge => ?_)
  · refine idx_rows (h.chg O5.hc (off_no _)) (even_node X) (by decide) (by omega) hlt fun a y _ hy hcs => ?_
    rw [Int.toNat_natCast] at hy
    have hym := List.mem_of_getElem? hy
    have hyok := hX y hym
    have hmy := mea_kid hym
    have hy' : (X.drop t)[s]? = some y := by rw [List.getElem?_drop]; exact hy
    have ht' := take_get hy'
    have key := O5.twin hyok (by omega) (by omega) (K := fun q27p q27l q27c w5 => ∃ m' : Nat, m' < l - (t + s) ∧ ∃ (s' : Nat) (L : List NV), w64 (((t + s : Nat) : Int) + 1) = (t + s' : Nat) ∧ t + s' ≤ l ∧ m' = l - (t + s') ∧ q27l = L.length ∧ L.map NV.nd = (X.take n ++ Y ++ (X.drop t).take s').map NV.nd ∧ NV.meaL L = NV.meaL (X.take n) + NV.meaL Y + NV.meaL ((X.drop t).take s') ∧ Out w w5 q27p q27c L) fun p' c' w' y' hny hmy' O' =>
      ⟨_, by omega, s + 1, L5 ++ [y'], by rw [w64_of] <;> omega, by omega, rfl, rfl, by rw [nd_snoc, hnd5, hny, ht', ← List.append_assoc, nd_snoc], by rw [mea_snoc, hme5, hmy', ht', mea_snoc]; omega, O'⟩
    cases y with
    | mk yk yu yl yt yap yal yac yas ykp ykl ykc yks =>
    refine ldNode hcs ?_
    exact key
  rw [List.take_of_length_le (show (X.drop t).length ≤ s by rw [List.length_drop]; omega)] at hnd5 hme5
  exact K p5 c5 w12 L5 hnd5 hme5 O5
end
end Go.Proofs.YtkgfbphdmnapdaaGreatDoor

/-
  Chapter 9's check: what is changed at a node.
-/
set_option linter.unusedVariables false
set_option linter.unusedSimpArgs false
namespace Go.Vc
open Go Go.Lib
theorem tw_at {α : Type} {p : α → Bool} : ∀ {L : List α} {n : Nat}, (∀ x ∈ L.take n, p x = true) → (∀ x, L[n]? = some x → p x = false) → L.takeWhile p = L.take n ∧ L.dropWhile p = L.drop n
  | [], n, _, _ => by simp
  | x :: r, 0, _, h => by
    have := h x rfl
    simp [List.takeWhile_cons, List.dropWhile_cons, this]
  | x :: r, n + 1, h, h2 => by
    have h0 := h x (by simp)
    have ih := tw_at (L := r) (n := n) (fun y hy => h y (by simp [hy])) (fun y hy => h2 y (by simpa using hy))
    simp [List.takeWhile_cons, List.dropWhile_cons, h0, ih.1, ih.2]
theorem drop_snoc (A : List At) (x : At) (n : Pr) : attrDrop (A ++ [x]) n = attrDrop A n ++ (if nameOf x = n then [] else [x]) := by
  unfold attrDrop
  rw [List.filter_append, List.filter_cons]
  by_cases h : nameOf x = n
  · simp [h]
  · simp [h]
theorem has_snoc (A : List At) (x : At) (n : Pr) : attrHas (A ++ [x]) n = (attrHas A n || decide (nameOf x = n)) := by
  unfold attrHas
  rw [List.any_append]; simp
end Go.Vc
namespace Go.Proofs.YtkgfbphdmnapdaaGreatDoor
open Go Go.Vc Go.Lib
section
variable {w w' w0 : World}
theorem Sl.none0 {p : Option Addr} {l sz : Nat} {xs : List Value} (h : Sl w p l sz xs) : p = none → l = 0 := fun e => h.2.elim id fun ⟨a, ea, _⟩ => by rw [e] at ea; cases ea
/-- The result's box written, and read. -/
theorem retNode {w0 : World} {S : Nat → Prop} {Γ : List Blk} {b : Nat} (H : Hp w0 S w (⟨b, [.int .i64 0, .string ByteArray.empty, .string ByteArray.empty, .slice none 0 0, .slice none 0 0, .string ByteArray.empty], T_api_Node⟩ :: Γ)) {k0 : Int} {u0 l0 t0 : ByteArray} {ap kp : Option Addr} {al ac kl kc : Nat}
    {K : Int → ByteArray → ByteArray → Option Addr → Nat → Nat → Option Addr → Nat → Nat → ByteArray → World → Prop} (k : ∀ w', Hp w0 S w' (⟨b, [.int .i64 k0, .string u0, .string l0, .slice ap al ac, .slice kp kl kc, .string t0], T_api_Node⟩ :: Γ) → Chg (fun z => z = b) w w' → K k0 u0 l0 ap al ac kp kl kc t0 w') :
    stN w ⟨b, 0, none⟩ ⟨[.int .i64 k0, .string u0, .string l0, .slice ap al ac, .slice kp kl kc, .string t0]⟩ 6 fun w5 =>
      ldI .i64 w5 ⟨b, 0, none⟩ fun x0 => ldStr w5 ⟨b, 1, none⟩ fun x1 => ldStr w5 ⟨b, 2, none⟩ fun x2 => ldS w5 ⟨b, 3, none⟩ fun p3 l3 c3 => ldS w5 ⟨b, 4, none⟩ fun p4 l4 c4 => ldStr w5 ⟨b, 5, none⟩ fun x5 => K x0 x1 x2 p3 l3 c3 p4 l4 c4 x5 w5 := by
  refine H.stN 0 rfl (off := 0) rfl (by simp) (one1_node (.mk k0 u0 l0 t0 ap al ac [] kp kl kc [])) fun w5 H5 hc5 => ?_
  simp only [List.set_cons_zero] at H5
  refine ldBox H5 0 rfl ?_
  exact k w5 H5 hc5
theorem Changed_ok {v : NV} {e : EV} {J : Int → ByteArray → ByteArray → Option Addr → Nat → Nat → Option Addr → Nat → Nat → ByteArray → Int → World → Prop} (hv : v.Ok w) (he : EV.Ok w e) (hm : v.mea + e.mea ≤ 100000000)
    (K : ∀ v' w', v'.nd = (chgd v.nd e.ed).2 → NV.Ok w' v' → (∀ P : Nat → Prop, NV.Bd P v → (∀ b, w.heap.size ≤ b → P b) → NV.Bd P v') → Chg No w w' → v'.giv (fun a b c p l d1 q m n t w => J a b c p l d1 q m n t (chgd v.nd e.ed).1 w) w') :
    callJ Tryz.prog fn_ref09_changed #[.agg ⟨v.cells⟩, .agg ⟨e.cells⟩] w [.agg [.int .i64, .str, .str, .slice, .slice, .str], .one (.int .i64)] J := by
  obtain ⟨eop, ep, el, ec, epa, eu, en, et, nv⟩ := e
  obtain ⟨E, hE, hE1, hE3, hE4⟩ : ∃ E, EV.ed ⟨eop, ep, el, ec, epa, eu, en, et, nv⟩ = E ∧ E.op = eop ∧ E.name = (eu, en) ∧ E.text = et := ⟨_, rfl, rfl, rfl, rfl⟩
  rw [hE] at K
  cases nv with
  | mk nk nu nl nt nap nal nac nas nkp nkl nkc nks =>
  cases v with
  | mk k u l t ap al ac ats kp kl kc ks =>
  have hv0 := hv
  cases hv with
  | mk ha hn hac hk hkn hkc hks =>
  have hal := ha.row (even_at ats) (by decide)
  have hla := len_atSum ats
  have halm : al ≤ 100000000 := by simp only [NV.mea] at hm; omega
  refine c_ref09_changed ?_
  unfold VC_ref09_changed
  refine nodeBox (Hp.start w No) fun b2 w1 H1 hb2 hc1 => ?_
  refine nodeBox H1 fun b3 w2 H2 hb3 hc2 => ?_
  simp only [EV.cells] at H2
  refine newZ H2 fun b4 w3 H3 hb4 hc3 => ?_
  have n2 := H3.lt 2 rfl
  have n3 := H3.lt 1 rfl
  have n4 := H3.lt 0 rfl
  have hs3 := H3.chg.size
  have hch : (chgd (NV.mk k u l t ap al ac ats kp kl kc ks).nd E) = if E.op = 6 then (if k = 3 ∨ k = 4 ∨ k = 5 then (0, .mk k u l E.text ats (ks.map NV.nd)) else (33, .mk k u l t ats (ks.map NV.nd)))
    else if k ≠ 2 then (33, .mk k u l t ats (ks.map NV.nd))
    else if E.op = 5 then (if attrHas ats E.name = true then 0 else 7, .mk k u l t (attrDrop ats E.name) (ks.map NV.nd))
    else (0, .mk k u l t (attrPut ats E.name E.text) (ks.map NV.nd)) := by rw [nd_kids]; rfl
  refine H3.ldI 1 rfl (off := 0) rfl ?_
  refine condB_eq (fun h6 => ?_) (fun h6 => ?_)
  · replace h6 : eop = 6 := h6
    rw [if_pos (hE1.trans h6)] at hch
    refine withJ_i fun J27 hJ27 => ?_
    have k27 : ∀ b : Bool, (b = true ↔ ¬ (k = 3 ∨ k = 4 ∨ k = 5)) → J27 b w3 := by
      intro b hb
      subst hJ27
      refine condB_i (fun h => ?_) (fun h => ?_)
      · rw [if_neg (hb.1 h)] at hch
        refine ldBox H3 2 rfl ?_
        refine retNode H3 fun w5 H5 hc5 => ?_
        have := K (.mk k u l t ap al ac ats kp kl kc ks) w5 (by rw [hch, nd_kids]) (hv0.chg0 H5.chg) (fun P h _ => h) H5.chg
        rw [hch] at this; exact this
      · have hyes : k = 3 ∨ k = 4 ∨ k = 5 := Classical.not_not.1 fun g => by rw [hb.2 g] at h; cases h
        rw [if_pos hyes] at hch
        refine H3.ldStr 1 rfl (off := 4) rfl ?_
        refine H3.stV 2 rfl (off := 5) (by simp) fun w6 H6 hc6 => ?_
        simp only [List.set_cons_succ, List.set_cons_zero] at H6
        refine ldBox H6 2 rfl ?_
        refine retNode H6 fun w7 H7 hc7 => ?_
        have := K (.mk k u l et ap al ac ats kp kl kc ks) w7 (by rw [hch, nd_kids, hE4]) (by
          have g := hv0.chg0 H7.chg
          cases g with
          | mk ha hn hac hk hkn hkc hks => exact .mk ha hn hac hk hkn hkc hks) (fun P h _ => by cases h with | mk ha hk hks => exact .mk ha hk hks) H7.chg
        rw [hch] at this; exact this
    clear hJ27
    refine H3.ldI 2 rfl (off := 0) rfl ?_
    refine condB_ne (fun g3 => ?_) (fun g3 => k27 false ⟨fun h => (by cases h), fun h => absurd (.inl g3) h⟩)
    refine H3.ldI 2 rfl (off := 0) rfl ?_
    refine condB_ne (fun g4 => ?_) (fun g4 => k27 false ⟨fun h => (by cases h), fun h => absurd (.inr (.inl g4)) h⟩)
    refine H3.ldI 2 rfl (off := 0) rfl ?_
    refine k27 _ ?_
    rw [bne_iff_ne]; omega
  replace h6 : ¬ eop = 6 := h6
  rw [if_neg (fun g => h6 (hE1.symm.trans g))] at hch
  refine H3.ldI 2 rfl (off := 0) rfl ?_
  refine condB_ne (fun hne => ?_) (fun h2 => ?_)
  · rw [if_pos hne] at hch
    refine ldBox H3 2 rfl ?_
    refine retNode H3 fun w5 H5 hc5 => ?_
    have := K (.mk k u l t ap al ac ats kp kl kc ks) w5 (by rw [hch, nd_kids]) (hv0.chg0 H5.chg) (fun P h _ => h) H5.chg
    rw [hch] at this; exact this
  rw [if_neg (by rw [h2]; simp)] at hch
  obtain ⟨nm, hnm⟩ : ∃ nm : Pr, nm = (eu, en) := ⟨_, rfl⟩
  rw [hE3, ← hnm, hE4] at hch
  refine newRow (sz := 3) (n := 0) (cs := []) rfl (by decide) fun b37 w9 hr9 hb9 hc9 => ?_
  have H9 := H3.step0 hc9
  refine H9.ldS 2 rfl (off := 3) rfl ?_
  obtain ⟨Γ, hΓ⟩ : ∃ Γ : List Blk, Γ = [⟨b4, [.int .i64 0, .string ByteArray.empty, .string ByteArray.empty, .slice none 0 0, .slice none 0 0, .string ByteArray.empty], T_api_Node⟩,
    ⟨b3, [.int .i64 eop, .slice ep el ec, .string eu, .string en, .string et, .int .i64 nk, .string nu, .string nl, .slice nap nal nac, .slice nkp nkl nkc, .string nt], T_ref09_Edit⟩,
    ⟨b2, [.int .i64 k, .string u, .string l, .slice ap al ac, .slice kp kl kc, .string t], T_api_Node⟩] := ⟨_, rfl⟩
  have hΓb : ∀ B ∈ Γ, B.b < w3.heap.size := by
    intro B hB
    rw [hΓ] at hB
    simp only [List.mem_cons, List.not_mem_nil, or_false] at hB
    rcases hB with rfl | rfl | rfl <;> assumption
  refine ⟨fun p' l' c' had i w' m => ∃ n : Nat, i = n ∧ n ≤ al ∧ m = al - n ∧ l' = (attrDrop (ats.take n) nm).length ∧ had = attrHas (ats.take n) nm ∧ Row w' T_api_Attr 3 p' (attrDrop (ats.take n) nm).length c' (rows atc (attrDrop (ats.take n) nm)) ∧ fresh w3 p' ∧ Hp w No w' Γ ∧ Chg No w3 w',
    ⟨_, 0, rfl, Nat.zero_le _, rfl, rfl, rfl, hr9, fun a e => by cases e; exact hb9, by rw [hΓ]; exact H9, hc9⟩, ?_⟩
  rintro p6 l6 c6 had x41 w10 m ⟨n, rfl, hnl, rfl, rfl, rfl, hr10, hf10, H10, hc310⟩
  have hdl : (attrDrop (ats.take n) nm).length ≤ al := by
    unfold attrDrop
    refine Nat.le_trans (List.length_filter_le _ _) ?_
    rw [List.length_take]; omega
  have hpb : ∀ b, isB p6 b → w3.heap.size ≤ b := by rintro b ⟨a, e, rfl⟩; exact hf10 a e
  refine condB_d (fun hlt => ?_) (fun hge => ?_)
  · refine withJ_i fun J6 hJ6 => ?_
    refine idx_rows (f := atc) (ha.chg H10.chg (off_no _)) (even_at ats) (by decide) (by omega) hlt fun a x _ hx hcs => ?_
    rw [Int.toNat_natCast] at hx
    obtain ⟨xu, xn, xv⟩ := x
    have ht := take_get hx
    have hdr := drop_snoc (ats.take n) (xu, xn, xv) nm
    have hhs := has_snoc (ats.take n) (xu, xn, xv) nm
    rw [← ht] at hdr hhs
    have hw : w64 ((n : Int) + 1) = ((n + 1 : Nat) : Int) := by rw [w64_of] <;> omega
    refine attrVar H10 hcs fun b9 w13 H13 hb9 hc13 => ?_
    have c313 := hc310.trans0 hc13
    rw [hΓ] at H13
    refine H13.ldStr 0 rfl (off := 0) rfl ?_
    refine H13.ldStr 0 rfl (off := 1) rfl ?_
    refine H13.ldStr 2 rfl (off := 2) rfl ?_
    refine H13.ldStr 2 rfl (off := 3) rfl ?_
    rw [beqS, beqS, Bool.and_true]
    refine condB_i (fun hc => ?_) (fun hc => ?_)
    · have hne : ¬ nameOf (xu, xn, xv) = nm := fun g => by
        rw [hnm] at g
        have g1 : xu = eu := congrArg Prod.fst g
        have g2 : xn = en := congrArg Prod.snd g
        rw [decide_eq_true g1, decide_eq_true g2] at hc; cases hc
      rw [if_neg hne] at hdr
      rw [decide_eq_false hne, Bool.or_false] at hhs
      refine H13.ldStr 0 rfl (off := 0) rfl ?_
      refine H13.ldStr 0 rfl (off := 1) rfl ?_
      refine H13.ldStr 0 rfl (off := 2) rfl ?_
      refine ⟨rfl, ?_⟩
      refine newRow (sz := 3) (n := 1) (cs := atc (xu, xn, xv)) rfl (by decide) fun b52 w14 hr14 hb52 hc14 => ?_
      have c1314 := hc13.trans0 hc14
      refine appJ_row slT_attr (hr10.chg c1314 (off_no _)) hr14.sl (one1_at _) (by simp) (by omega) (by simp only [maxLen]; omega) fun p7 c7 w15 hr15 hc15 hf15 => ?_
      have H14 := (H13.step0 hc14).sub (List.Sublist.cons _ (List.Sublist.refl _))
      rw [← hΓ] at H14
      have s14 := (c313.trans0 hc14).size
      subst hJ6
      refine ⟨_, ?_, n + 1, hw, by omega, rfl, by rw [hdr, List.length_append]; rfl, hhs.symm, ?_, ?_, ?_, ?_⟩
      · omega
      · rw [hdr, List.length_append, rows_append, rows_cons, rows_nil, List.append_nil]; exact hr15
      · rcases hf15 with rfl | hf15
        · exact hf10
        · intro a e; have := hf15 a e; omega
      · exact H14.step hc15 (fun B hB h => by have := hpb _ h; have := hΓb B hB; omega) (fun b hb h => by have := hpb b h; omega)
      · exact (c313.trans0 hc14).trans hc15 fun b hb h => by have := hpb b h; omega
    · have hyes : nameOf (xu, xn, xv) = nm := by
        rw [hnm]
        cases h1 : decide (xu = eu) <;> cases h2 : decide (xn = en) <;> rw [h1, h2] at hc <;> first | exact Prod.ext (of_decide_eq_true h1) (of_decide_eq_true h2) | cases hc
      rw [if_pos hyes, List.append_nil] at hdr
      rw [decide_eq_true hyes, Bool.or_true] at hhs
      have H14 := H13.sub (List.Sublist.cons _ (List.Sublist.refl _))
      rw [← hΓ] at H14
      subst hJ6
      refine ⟨_, ?_, n + 1, hw, by omega, rfl, by rw [hdr], hhs.symm, ?_, hf10, H14, c313⟩
      · omega
      · rw [hdr]; exact hr10.chg hc13 (off_no _)
  have hnal : n = al := by omega
  rw [List.take_of_length_le (show ats.length ≤ n by omega)] at hr10 hdl ⊢
  obtain ⟨L, hL⟩ : ∃ L, attrDrop ats nm = L := ⟨_, rfl⟩
  rw [hL] at hr10 hch hdl ⊢
  rw [hΓ] at H10
  refine H10.ldI 1 rfl (off := 0) rfl ?_
  have okv : ∀ {p' : Option Addr} {c' : Nat} {X : List At} {wx : World}, Row wx T_api_Attr 3 p' X.length c' (rows atc X) → Chg No w wx → NV.Ok wx (.mk k u l t p' X.length c' X kp kl kc ks) := fun hr hc => by
    have g := hv0.chg0 hc
    cases g with
    | mk ha hn hac hk hkn hkc hks => exact .mk hr.sl (fun e => hr.none0 e) hr.le.1 hk hkn hkc hks
  have bdv : ∀ {p' : Option Addr} {c' : Nat} {X : List At}, (∀ a, p' = some a → w.heap.size ≤ a.block) → ∀ P : Nat → Prop, NV.Bd P (.mk k u l t ap al ac ats kp kl kc ks) → (∀ b, w.heap.size ≤ b → P b) → NV.Bd P (.mk k u l t p' X.length c' X kp kl kc ks) := fun hp P h hP => by
    cases h with
    | mk ha hk hks => exact .mk (.inr fun a e => hP _ (hp a e)) hk hks
  refine condB_eq (fun h5 => ?_) (fun h5 => ?_)
  · replace h5 : eop = 5 := h5
    rw [if_pos (hE1.trans h5)] at hch
    refine H10.stV 2 rfl (off := 3) (by simp) fun w16 H16 hc16 => ?_
    simp only [List.set_cons_succ, List.set_cons_zero] at H16
    have hr16 := hr10.chg hc16 fun a e h => by have := hf10 a e; omega
    refine condB_i (fun hh => ?_) (fun hh => ?_)
    · have hf : attrHas ats nm = false := by cases hx : attrHas ats nm <;> rw [hx] at hh <;> first | rfl | cases hh
      rw [hf] at hch
      refine ldBox H16 2 rfl ?_
      refine retNode H16 fun w17 H17 hc17 => ?_
      have := K (.mk k u l t p6 L.length c6 L kp kl kc ks) w17 (by rw [hch, nd_kids]) (okv (hr16.chg hc17 fun a e h => by have := hf10 a e; omega) H17.chg) (bdv fun a e => Nat.le_trans hs3 (hf10 a e)) H17.chg
      rw [hch] at this; exact this
    · have hf : attrHas ats nm = true := by cases hx : attrHas ats nm <;> rw [hx] at hh <;> first | rfl | cases hh
      rw [hf] at hch
      refine ldBox H16 2 rfl ?_
      refine retNode H16 fun w17 H17 hc17 => ?_
      have := K (.mk k u l t p6 L.length c6 L kp kl kc ks) w17 (by rw [hch, nd_kids]) (okv (hr16.chg hc17 fun a e h => by have := hf10 a e; omega) H17.chg) (bdv fun a e => Nat.le_trans hs3 (hf10 a e)) H17.chg
      rw [hch] at this; exact this
  replace h5 : ¬ eop = 5 := h5
  rw [if_neg (fun g => h5 (hE1.symm.trans g))] at hch
  refine ⟨fun i w' m => ∃ n : Nat, i = n ∧ n ≤ L.length ∧ m = L.length - n ∧ Chg No w10 w' ∧ ∀ x ∈ L.take n, nLt (nameOf x) nm = true, ⟨_, 0, rfl, Nat.zero_le _, rfl, Chg.refl _ _, by simp⟩, ?_⟩
  rintro k10 w19 m1 ⟨n, rfl, hn1, rfl, hc19, hall⟩
  have H19 := H10.step0 hc19
  have hr19 := hr10.chg hc19 (off_no _)
  refine withJ_i fun J77 hJ77 => ?_
  have kf : ∀ w20, Chg No w19 w20 → (∀ x, L[n]? = some x → nLt (nameOf x) nm = false) → J77 false w20 := by
    intro w20 hc20 hst
    subst hJ77
    refine condB_i (fun h => by cases h) (fun _ => ?_)
    have htw := tw_at hall hst
    have hput : attrPut ats nm et = L.take n ++ newAt nm et :: L.drop n := by unfold attrPut; rw [hL, htw.1, htw.2]
    have H20 := H19.step0 hc20
    have hr20 := hr19.chg hc20 (off_no _)
    refine newRow (sz := 3) (n := 0) (cs := []) rfl (by decide) fun b80 w21 hr21 hb80 hc21 => ?_
    have H21 := H20.step0 hc21
    have hr21' := hr20.chg hc21 (off_no _)
    have hs20 := (hc19.trans0 hc20).size
    refine slS_sl (i := 0) (j := n) hr21'.sl rfl rfl (Nat.zero_le _) hn1 hr21'.le.1 fun q83 h83 o83 => ?_
    have e83 : ((rows atc L).drop (0 * 3)).take ((n - 0) * 3) = rows atc (L.take n) := by rw [Nat.zero_mul, List.drop_zero, Nat.sub_zero, rows_take (even_at L)]
    rw [e83] at h83
    refine appJ_row slT_attr hr21 h83 (one1_ats _) (Sl.none0 h83) (by omega) (by simp only [maxLen]; omega) fun p84 c84 w22 hr22 hc22 hf22 => ?_
    have hp84 : ∀ b, isB p84 b → w20.heap.size ≤ b := by
      rintro b ⟨a, e, rfl⟩
      have := hc21.size
      rcases hf22 with rfl | hf22
      · cases e; exact hb80
      · have := hf22 a e; omega
    have hs10 := hc310.size
    have H22 := H21.step hc22 (fun B hB h => by
      obtain ⟨a, e, h⟩ := h
      cases e
      have := hΓb B (by rw [hΓ]; exact hB)
      simp only at h; omega) (fun b hb h => by obtain ⟨a, e, h⟩ := h; cases e; simp only at h; omega)
    have hoffL : off p6 (isB (some ⟨b80, 0, none⟩)) := fun a e h => by
      obtain ⟨a', e', h'⟩ := h
      cases e'
      have := hr20.lt a e
      simp only at h'; omega
    have hr22' := hr21'.chg hc22 hoffL
    refine H22.ldStr 1 rfl (off := 2) rfl ?_
    refine H22.ldStr 1 rfl (off := 3) rfl ?_
    refine H22.ldStr 1 rfl (off := 4) rfl ?_
    refine ⟨rfl, rfl, ?_⟩
    refine newRow (sz := 3) (n := 1) (cs := atc (eu, en, et)) rfl (by decide) fun b91 w23 hr23 hb91 hc23 => ?_
    have H23 := H22.step0 hc23
    refine appJ_row slT_attr (hr22.chg hc23 (off_no _)) hr23.sl (one1_at _) (by simp) (by omega) (by simp only [maxLen]; omega) fun p92 c92 w24 hr24 hc24 hf24 => ?_
    have hp92 : ∀ b, isB p92 b → w20.heap.size ≤ b := by
      rintro b ⟨a, e, rfl⟩
      rcases hf24 with rfl | hf24
      · exact hp84 _ ⟨a, e, rfl⟩
      · have := hf24 a e; have := hc21.size; have := hc22.size; have := hc23.size; omega
    have H24 := H23.step hc24 (fun B hB h => by
      have := hp84 _ h
      have := hΓb B (by rw [hΓ]; exact hB)
      omega) (fun b hb h => by have := hp84 _ h; omega)
    have hoff2 : ∀ {p : Option Addr}, (∀ b, isB p b → w20.heap.size ≤ b) → off p6 (isB p) := fun hp a e h => by
      have h1 := hp _ h
      have := hr20.lt a e
      omega
    have hr24' := (hr22'.chg hc23 (off_no _)).chg hc24 (hoff2 hp84)
    refine slS_sl (i := n) (j := L.length) hr24'.sl rfl rfl hn1 (Nat.le_refl _) hr24'.le.1 fun q96 h96 o96 => ?_
    have e96 : ((rows atc L).drop (n * 3)).take ((L.length - n) * 3) = rows atc (L.drop n) := by
      rw [rows_drop (even_at L), List.take_of_length_le]
      rw [rows_len (even_at _), List.length_drop]; exact Nat.le_refl _
    rw [e96] at h96
    refine appJ_row slT_attr hr24 h96 (one1_ats _) (Sl.none0 h96) (by omega) (by simp only [maxLen]; omega) fun p97 c97 w25 hr25 hc25 hf25 => ?_
    have H25 := H24.step hc25 (fun B hB h => by
      have := hp92 _ h
      have := hΓb B (by rw [hΓ]; exact hB)
      omega) (fun b hb h => by have := hp92 _ h; omega)
    have hp97 : ∀ b, isB p97 b → w20.heap.size ≤ b := by
      rintro b ⟨a, e, rfl⟩
      rcases hf25 with rfl | hf25
      · exact hp92 _ ⟨a, e, rfl⟩
      · have := hf25 a e; have := hc21.size; have := hc22.size; have := hc23.size; have := hc24.size; omega
    refine H25.stV 2 rfl (off := 3) (by simp) fun w26 H26 hc26 => ?_
    simp only [List.set_cons_succ, List.set_cons_zero] at H26
    refine ldBox H26 2 rfl ?_
    refine retNode H26 fun w27 H27 hc27 => ?_
    have hrow : Row w25 T_api_Attr 3 p97 (attrPut ats nm et).length c97 (rows atc (attrPut ats nm et)) := by
      have e1 : (attrPut ats nm et).length = 0 + n + 1 + (L.length - n) := by
        rw [hput, List.length_append, List.length_cons, List.length_drop, List.length_take]; omega
      have e2 : rows atc (attrPut ats nm et) = [] ++ rows atc (L.take n) ++ atc (eu, en, et) ++ rows atc (L.drop n) := by
        rw [hput, rows_append, rows_cons, List.nil_append, List.append_assoc, hnm]; rfl
      rw [e1, e2]
      simpa using hr25
    have hrow27 := (hrow.chg hc26 fun a e h => by have := hp97 _ ⟨a, e, rfl⟩; omega).chg hc27 fun a e h => by have := hp97 _ ⟨a, e, rfl⟩; omega
    have := K (.mk k u l t p97 (attrPut ats nm et).length c97 (attrPut ats nm et) kp kl kc ks) w27 (by rw [hch, nd_kids]) (okv hrow27 H27.chg) (bdv fun a e => by have := hp97 _ ⟨a, e, rfl⟩; omega) H27.chg
    rw [hch] at this
    have e1 : (attrPut ats nm et).length = 0 + n + 1 + (L.length - n) := by
      rw [hput, List.length_append, List.length_cons, List.length_drop, List.length_take]; omega
    rw [e1] at this
    exact this
  have H19d := H19.drew
  have c19d : Chg No w19 w19.drew := (Chg.refl No w19).drew
  refine condB_d (fun hlt => ?_) (fun hge => kf w19.drew c19d fun x hx => by rw [List.getElem?_eq_none_iff.2 (by omega)] at hx; cases hx)
  refine idx_rows (f := atc) (hr19.sl.chg c19d (off_no _)) (even_at L) (by decide) (by omega) hlt fun a x _ hx hcs => ?_
  rw [Int.toNat_natCast] at hx
  obtain ⟨xu, xn, xv⟩ := x
  refine ⟨_, cellsAt_head hcs, _, hcs 1 _ rfl, ?_⟩
  refine H19d.ldStr 1 rfl (off := 2) rfl ?_
  refine H19d.ldStr 1 rfl (off := 3) rfl ?_
  refine Before5_ok (a := (xu, xn)) (b := (eu, en)) fun w28 hc28 => ?_
  have c28 := c19d.trans0 hc28
  cases hb : nLt (xu, xn) (eu, en) with
  | false => exact kf w28 c28 fun y hy => by rw [hx] at hy; cases hy; rw [hnm]; exact hb
  | true =>
    subst hJ77
    refine condB_i (fun _ => ?_) (fun h => by cases h)
    refine ⟨_, ?_, n + 1, by rw [w64_of] <;> omega, by omega, rfl, hc19.trans0 c28, fun y hy => ?_⟩
    · omega
    · rw [take_get hx] at hy
      rcases List.mem_append.1 hy with hy | hy
      · exact hall y hy
      · rw [List.mem_singleton.1 hy, hnm]; exact hb
end
end Go.Proofs.YtkgfbphdmnapdaaGreatDoor

/-
  Chapter 9's check: a document behind an edit.
-/
set_option linter.unusedVariables false
set_option linter.unusedSimpArgs false
namespace Go.Vc
open Go Go.Lib
theorem edN_mea (e : Ed) : ∀ (p : List Int) (n : Nd), (edN n p e).2.mea ≤ n.mea + e.mea
  | [], n => by simp only [edN]; omega
  | [i], n => here_mea n i e
  | i :: j :: r, .mk k u l t ats ks => by
    simp only [edN]
    split
    · simp only; omega
    cases hx : ks[i.toNat]? with
    | none => simp only; omega
    | some x =>
      have ih := edN_mea e (j :: r) x
      have := ndmea_set (y := (edN x (j :: r) e).2) hx
      simp only [Nd.mea]; omega
theorem set_split {α : Type} {l : List α} {n : Nat} {x : α} (h : n < l.length) : l.set n x = l.take n ++ [x] ++ l.drop (n + 1) := by
  rw [List.set_eq_take_append_cons_drop, if_pos h]; simp
end Go.Vc
namespace Go.Proofs.YtkgfbphdmnapdaaGreatDoor
open Go Go.Vc Go.Lib
section
variable {w w' w0 : World}
theorem Own.bdP {P : Nat → Prop} : ∀ {v : NV}, Own w v → (∀ b ∈ v.bs, P b) → NV.Bd P v := by
  intro v
  induction v using NV.ind with
  | h k u l t ap al ac ats kp kl kc ks ih =>
    intro h hb
    cases h with
    | mk ha hk hks =>
      refine .mk (.inr fun a e => hb _ ?_) (.inr fun a e => hb _ ?_) fun x hx => ih x hx (hks x hx) fun b h => hb b ?_
      · subst e; simp only [NV.bs, blkL]; exact List.mem_append_left _ (List.mem_singleton.2 rfl)
      · subst e; simp only [NV.bs, blkL]; exact List.mem_append_right _ (List.mem_append_left _ (List.mem_singleton.2 rfl))
      · simp only [NV.bs]; exact List.mem_append_right _ (List.mem_append_right _ (bsL_mem hx h))
theorem evmea_ed (e : EV) : e.ed.mea ≤ e.mea := by unfold EV.mea Ed.mea EV.ed; simp only [nd_mea]; omega
theorem At9_ok {e : EV} : ∀ (zs : List Int) {v : NV} {w : World} {p : Option Addr} {l c : Nat} {J : Int → ByteArray → ByteArray → Option Addr → Nat → Nat → Option Addr → Nat → Nat → ByteArray → Int → World → Prop}, zs ≠ [] → v.Ok w → EV.Ok w e → Sl w p l 1 (rows intC zs) → l ≤ c → v.mea + e.mea ≤ 10000000 → l ≤ 10000000 →
    (∀ v' w', v'.nd = (edN v.nd zs e.ed).2 → NV.Ok w' v' → (∀ P : Nat → Prop, NV.Bd P v → (∀ b, w.heap.size ≤ b → P b) → NV.Bd P v') → Chg No w w' → v'.giv (fun a b c p l d1 q m n t w => J a b c p l d1 q m n t (edN v.nd zs e.ed).1 w) w') →
    callJ Tryz.prog fn_ref09_at #[.agg ⟨v.cells⟩, .slice p l c, .agg ⟨e.cells⟩] w [.agg [.int .i64, .str, .str, .slice, .slice, .str], .one (.int .i64)] J
  | [], _, _, _, _, _, _, h, _, _, _, _, _, _, _ => absurd rfl h
  | i :: rest, v, w, pp, pl, pc, J, _, hv, he, hp, hpc, hm, hplm, K => by
    have hpl : (i :: rest).length = pl := hp.row (even_int _) (by decide)
    rw [List.length_cons] at hpl
    have hEm := evmea_ed e
    have he0 := he
    have hm0 := hm
    have hrec := fun (h : rest ≠ []) => @At9_ok e rest
    obtain ⟨eop, ep, el, ec, epa, eu, en, et, nv⟩ := e
    obtain ⟨E, hE, hE1, hE3, hE4, hE5⟩ : ∃ E, EV.ed ⟨eop, ep, el, ec, epa, eu, en, et, nv⟩ = E ∧ E.op = eop ∧ E.name = (eu, en) ∧ E.text = et ∧ E.node = nv.nd := ⟨_, rfl, rfl, rfl, rfl, rfl⟩
    obtain ⟨M, hM⟩ : ∃ M, EV.mea ⟨eop, ep, el, ec, epa, eu, en, et, nv⟩ = M := ⟨_, rfl⟩
    have hnM : nv.mea ≤ M := by rw [← hM]; unfold EV.mea; simp only; omega
    have hnok : nv.Ok w := he.nd
    rw [hE] at K hEm
    rw [hM] at hm hEm
    cases nv with
    | mk nk nu nl nt nap nal nac nas nkp nkl nkc nks =>
    cases v with
    | mk k u lo t ap al ac ats kp kl kc ks =>
    have hv0 := hv
    cases hv with
    | mk ha hn hac hk hkn hkc hks =>
    have hkl := hk.row (even_node ks) (by decide)
    have hlm := len_meaL ks
    have hkm : NV.meaL ks + M ≤ 10000000 := by simp only [NV.mea] at hm; omega
    refine c_ref09_at ?_
    unfold VC_ref09_at
    refine nodeBox (Hp.start w No) fun b3 w1 H1 hb3 hc1 => ?_
    refine nodeBox H1 fun b5 w2 H2 hb5 hc2 => ?_
    simp only [EV.cells] at H2
    refine newZ H2 fun b6 w3 H3 hb6 hc3 => ?_
    have n3 := H3.lt 2 rfl
    have n5 := H3.lt 1 rfl
    have n6 := H3.lt 0 rfl
    have n35 := H2.lt 1 rfl
    refine idx_rows (f := intC) (hp.chg H3.chg (off_no _)) (even_int _) (by decide) (by omega) (by omega) fun a z _ hz hcs => ?_
    obtain rfl : i = z := by simpa using hz
    refine ⟨_, cellsAt_head hcs, ?_⟩
    -- what the kids become
    have okK : ∀ {w7 w8 w9 w10 : World} {p' : Option Addr} {c' : Nat} {L : List NV}, Out w7 w8 p' c' L → w3.heap.size ≤ w7.heap.size → Chg (fun z => z = b3) w8 w9 → Chg (fun z => z = b6) w9 w10 → Chg No w w10 → NV.Ok w10 (.mk k u lo t ap al ac ats p' L.length c' L) := by
      intro w7 w8 w9 w10 p' c' L O hs h9 h10 hc
      have g := hv0.chg0 hc
      have hr := (O.hr.chg h9 fun a e h => by have := O.hf a e; omega).chg h10 fun a e h => by have := O.hf a e; omega
      cases g with
      | mk ha hn hac hk hkn hkc hks =>
        refine .mk ha hn hac hr.sl (fun e => hr.none0 e) hr.le.1 fun x hx => ?_
        exact (((O.own x hx).chg h9 fun z hz h => by have := O.bs z (bsL_mem hx hz); omega).chg h10 fun z hz h => by have := O.bs z (bsL_mem hx hz); omega).ok
    have rd : ∀ {wx : World} {f : Int} {p' : Option Addr} {l' c' : Nat} {L : List NV}, Hp w No wx [⟨b6, [.int .i64 0, .string ByteArray.empty, .string ByteArray.empty, .slice none 0 0, .slice none 0 0, .string ByteArray.empty], T_api_Node⟩,
        ⟨b5, [.int .i64 eop, .slice ep el ec, .string eu, .string en, .string et, .int .i64 nk, .string nu, .string nl, .slice nap nal nac, .slice nkp nkl nkc, .string nt], T_ref09_Edit⟩,
        ⟨b3, [.int .i64 k, .string u, .string lo, .slice ap al ac, .slice p' l' c', .string t], T_api_Node⟩] →
        (∀ w10, Chg (fun z => z = b6) wx w10 → Chg No w w10 → NV.Ok w10 (.mk k u lo t ap al ac ats p' l' c' L)) → (∀ P : Nat → Prop, NV.Bd P (.mk k u lo t ap al ac ats kp kl kc ks) → (∀ b, w.heap.size ≤ b → P b) → NV.Bd P (.mk k u lo t ap al ac ats p' l' c' L)) → edN (NV.mk k u lo t ap al ac ats kp kl kc ks).nd (i :: rest) E = (f, .mk k u lo t ats (L.map NV.nd)) →
        ldI .i64 wx ⟨b3, 0, none⟩ fun x0 => ldStr wx ⟨b3, 1, none⟩ fun x1 => ldStr wx ⟨b3, 2, none⟩ fun x2 => ldS wx ⟨b3, 3, none⟩ fun p3 l3 c3 => ldS wx ⟨b3, 4, none⟩ fun p4 l4 c4 => ldStr wx ⟨b3, 5, none⟩ fun x5 =>
        stN wx ⟨b6, 0, none⟩ ⟨[.int .i64 x0, .string x1, .string x2, .slice p3 l3 c3, .slice p4 l4 c4, .string x5]⟩ 6 fun w5 =>
        ldI .i64 w5 ⟨b6, 0, none⟩ fun x0 => ldStr w5 ⟨b6, 1, none⟩ fun x1 => ldStr w5 ⟨b6, 2, none⟩ fun x2 => ldS w5 ⟨b6, 3, none⟩ fun p3 l3 c3 => ldS w5 ⟨b6, 4, none⟩ fun p4 l4 c4 => ldStr w5 ⟨b6, 5, none⟩ fun x5 => J x0 x1 x2 p3 l3 c3 p4 l4 c4 x5 f w5 := by
      intro wx f p' l' c' L H hok hbd hed
      refine ldBox H 2 rfl ?_
      refine retNode H fun w5 H5 hc5 => ?_
      have := K (.mk k u lo t ap al ac ats p' l' c' L) w5 (by rw [hed, nd_kids]) (hok w5 hc5 H5.chg) hbd H5.chg
      rw [hed] at this; exact this
    refine withJ_i fun J41 hJ41 => ?_
    have kbad : (i < 0 ∨ (kl : Int) < i ∨ (i = kl ∧ (eop ≠ 1 ∨ 1 < pl))) → J41 true w3 := by
      intro hbad
      subst hJ41
      refine condB_i (fun _ => ?_) (fun h => by cases h)
      refine rd (L := ks) H3 (fun w10 _ hc => hv0.chg0 hc) (fun P h _ => h) ?_
      rw [nd_kids]
      cases rest with
      | nil =>
        have h1 : pl = 1 := by rw [← hpl]; rfl
        simp only [edN, edHere]
        rw [if_pos (by rw [List.length_map, hkl, hE1]; omega)]
      | cons j r =>
        simp only [edN]
        by_cases hi : i < 0
        · rw [if_pos hi]
        · have hpl1 : 1 < pl := by rw [← hpl]; simp
          rw [if_neg hi, List.getElem?_eq_none_iff.2 (by rw [List.length_map, hkl]; omega)]
    have kgood : ¬ (i < 0 ∨ (kl : Int) < i ∨ (i = kl ∧ (eop ≠ 1 ∨ 1 < pl))) → J41 false w3 := by
      intro hgood
      subst hJ41
      obtain ⟨n, rfl⟩ : ∃ n : Nat, i = n := ⟨i.toNat, by omega⟩
      have hnk : n ≤ kl := by omega
      have hw1 : w64 ((n : Int) + 1) = ((n + 1 : Nat) : Int) := by rw [w64_of] <;> omega
      obtain ⟨LD, hLD⟩ : ∃ LD : Int → World → Prop, LD = fun f wx =>
        ldI .i64 wx ⟨b3, 0, none⟩ fun x0 => ldStr wx ⟨b3, 1, none⟩ fun x1 => ldStr wx ⟨b3, 2, none⟩ fun x2 => ldS wx ⟨b3, 3, none⟩ fun p3 l3 c3 => ldS wx ⟨b3, 4, none⟩ fun p4 l4 c4 => ldStr wx ⟨b3, 5, none⟩ fun x5 =>
        stN wx ⟨b6, 0, none⟩ ⟨[.int .i64 x0, .string x1, .string x2, .slice p3 l3 c3, .slice p4 l4 c4, .string x5]⟩ 6 fun w5 =>
        ldI .i64 w5 ⟨b6, 0, none⟩ fun x0 => ldStr w5 ⟨b6, 1, none⟩ fun x1 => ldStr w5 ⟨b6, 2, none⟩ fun x2 => ldS w5 ⟨b6, 3, none⟩ fun p3 l3 c3 => ldS w5 ⟨b6, 4, none⟩ fun p4 l4 c4 => ldStr w5 ⟨b6, 5, none⟩ fun x5 => J x0 x1 x2 p3 l3 c3 p4 l4 c4 x5 f w5 := ⟨_, rfl⟩
      have fin : ∀ {w7 : World} {q : Option Addr} {m c2 t' : Nat} {Y : List NV} {f : Int} {Q : World → Prop}, Hp w No w7 [⟨b6, [.int .i64 0, .string ByteArray.empty, .string ByteArray.empty, .slice none 0 0, .slice none 0 0, .string ByteArray.empty], T_api_Node⟩,
        ⟨b5, [.int .i64 eop, .slice ep el ec, .string eu, .string en, .string et, .int .i64 nk, .string nu, .string nl, .slice nap nal nac, .slice nkp nkl nkc, .string nt], T_ref09_Edit⟩,
        ⟨b3, [.int .i64 k, .string u, .string lo, .slice ap al ac, .slice kp kl kc, .string t], T_api_Node⟩] → Sl w7 q m 6 (rows NV.cells Y) → (∀ x ∈ Y, NV.Ok w7 x) → NV.meaL Y ≤ 10000000 → t' ≤ kl → w3.heap.size ≤ w7.heap.size →
          edN (NV.mk k u lo t ap al ac ats kp kl kc ks).nd ((n : Int) :: rest) E = (f, .mk k u lo t ats ((ks.take n ++ Y ++ ks.drop t').map NV.nd)) → (∀ w9, LD f w9 → Q w9) →
          callJ Tryz.prog fn_ref09_kids #[.slice kp kl kc, .int .i64 (n : Int), .int .i64 (t' : Int), .slice q m c2] w7 [.one .slice] fun (rp : Option Addr) (rl rc : Nat) (w8 : World) => stV w8 ⟨b3, 4, none⟩ (.slice rp rl rc) fun w9 => Q w9 := by
        intro w7 q m c2 t' Y f Q H7 hq hY hYm ht hs hed kQ
        refine Kids_ok (hk.chg H7.chg (off_no _)) (fun x hx => (hks x hx).chg0 H7.chg) hq hY hnk ht (by omega) hYm fun p' c' w8 L hL _ O => ?_
        have H8 := H7.step0 O.hc
        refine H8.stV 2 rfl (off := 4) (by simp) fun w9 H9 hc9 => ?_
        simp only [List.set_cons_succ, List.set_cons_zero] at H9
        refine kQ w9 ?_
        rw [hLD]
        refine rd (L := L) H9 (fun w10 h10 hc => okK O hs hc9 h10 hc) (fun P h hP => ?_) (by rw [hed, hL])
        have hsw := H3.chg.size
        cases h with
        | mk ha' hk' hks' => exact .mk ha' (.inr fun a e => hP _ (by have := O.hf a e; omega)) fun x hx => Own.bdP (O.own x hx) fun b hb => hP b (by have := O.bs b (bsL_mem hx hb); omega)
      refine condB_i (fun h => by cases h) (fun _ => ?_)
      refine condB_d (fun hlt => ?_) (fun hge => ?_)
      · have hpl1 : 1 < pl := by omega
        have hnl : n < kl := by omega
        have hrne : rest ≠ [] := by intro e; rw [e] at hpl; simp at hpl; omega
        have hx : ks[n]? = some ks[n] := List.getElem?_eq_getElem (by omega)
        generalize hxe : ks[n] = x at hx
        clear hxe
        have hxm := List.mem_of_getElem? hx
        have hxok := hks x hxm
        have hxmea := mea_kid hxm
        obtain ⟨j, r, hjr⟩ : ∃ j r, rest = j :: r := by cases rest with | nil => exact absurd rfl hrne | cons j r => exact ⟨j, r, rfl⟩
        refine withJ_i fun J9 hJ9 => ?_
        have k9 : ∀ (b9 : Nat) (w6 : World) (y : NV) (f : Int), Hp w No w6 (⟨b9, y.cells, T_api_Node⟩ :: [⟨b6, [.int .i64 0, .string ByteArray.empty, .string ByteArray.empty, .slice none 0 0, .slice none 0 0, .string ByteArray.empty], T_api_Node⟩,
        ⟨b5, [.int .i64 eop, .slice ep el ec, .string eu, .string en, .string et, .int .i64 nk, .string nu, .string nl, .slice nap nal nac, .slice nkp nkl nkc, .string nt], T_ref09_Edit⟩,
        ⟨b3, [.int .i64 k, .string u, .string lo, .slice ap al ac, .slice kp kl kc, .string t], T_api_Node⟩]) → NV.Ok w6 y → w3.heap.size ≤ w6.heap.size → edN x.nd rest E = (f, y.nd) → J9 (some ⟨b9, 0, none⟩) f w6 := by
          intro b9 w6 y f H6 hy hs6 hed
          subst hJ9
          have hym : y.mea ≤ 10000000 := by
            have h1 := edN_mea E rest x.nd
            rw [hed] at h1
            simp only [nd_mea] at h1; omega
          simp only [nonNil, Addr.add_mk, Nat.zero_add]
          refine H6.ldS 3 rfl (off := 4) rfl ?_
          cases y with
          | mk yk yu yl yt yap yal yac yas ykp ykl ykc yks =>
          refine ldBox H6 0 rfl ?_
          refine ⟨rfl, ?_⟩
          refine newRow (sz := 6) (n := 1) (cs := (NV.mk yk yu yl yt yap yal yac yas ykp ykl ykc yks).cells) rfl (by decide) fun b64 w7 hr7 hb7 hc7 => ?_
          rw [hw1]
          have H7 := (H6.sub (List.Sublist.cons _ (List.Sublist.refl _))).step0 hc7
          refine fin (t' := n + 1) (Y := [.mk yk yu yl yt yap yal yac yas ykp ykl ykc yks]) (f := f) H7 (by simpa [rows] using hr7.sl) (fun z hz => by rw [List.mem_singleton.1 hz]; exact hy.chg0 hc7) (by simp only [NV.meaL]; omega) (by omega) (Nat.le_trans hs6 hc7.size) ?_ fun w9 h => by rw [hLD] at h; exact h
          rw [nd_kids, hjr]
          simp only [edN]
          rw [if_neg (by omega), Int.toNat_natCast, List.getElem?_map, hx]
          simp only [Option.map_some]
          rw [← hjr, hed, set_split (by rw [List.length_map]; omega)]
          simp [List.map_take, List.map_drop]
        clear hJ9
        have H3d := H3.drew
        have s3d : w3.heap.size = w3.drew.heap.size := rfl
        refine H3d.ldS 2 rfl (off := 4) rfl ?_
        refine idx_rows (f := NV.cells) (hk.chg H3d.chg (off_no _)) (even_node ks) (by decide) (by omega) (by omega) fun a1 y1 _ hy1 hcs1 => ?_
        rw [Int.toNat_natCast] at hy1
        obtain rfl : x = y1 := by rw [hx] at hy1; exact Option.some.inj hy1
        cases x with
        | mk xk xu xl xt xap xal xac xas xkp xkl xkc xks =>
        refine ldNode hcs1 ?_
        refine slS_sl (i := 1) (j := pl) (hp.chg H3d.chg (off_no _)) rfl rfl (by omega) (Nat.le_refl _) hpc fun q53 h53 _ => ?_
        have e53 : ((rows intC ((n : Int) :: rest)).drop (1 * 1)).take ((pl - 1) * 1) = rows intC rest := by
          rw [rows_cons, Nat.mul_one, Nat.mul_one]
          show (rows intC rest).take (pl - 1) = _
          rw [List.take_of_length_le]
          rw [rows_len (even_int rest)]; omega
        rw [e53] at h53
        refine ldEd H3d 1 rfl ?_
        have hcx := fun {wx : World} (hc : Chg No w3.drew wx) => hc.cells hcs1 (fun h => h)
        refine ⟨?_, ?_⟩
        · refine @hrec hrne (.mk xk xu xl xt xap xal xac xas xkp xkl xkc xks) w3.drew _ _ _ _ hrne (hxok.chg0 H3d.chg) (he0.chg0 H3d.chg) h53 (by omega) (by rw [hM]; omega) (by omega) fun v' w11 hnd' hok' hbd' hc11 => ?_
          have H11 := H3d.step0 hc11
          rw [hE] at hnd' ⊢
          cases v' with
          | mk yk yu yl yt yap yal yac yas ykp ykl ykc yks =>
          simp only [NV.giv]
          refine newZ H11 fun b9 w12 H12 hb12 hc12 => ?_
          refine ⟨H12.cells 2 rfl 0, cellsAt_take 6 (hcx (hc11.trans0 hc12)), H12.cell 3 rfl rfl, ?_⟩
          refine H12.stN 0 rfl (off := 0) rfl (by simp) (one1_node (.mk yk yu yl yt yap yal yac [] ykp ykl ykc [])) fun w13 H13 hc13 => ?_
          simp only [List.set_cons_zero] at H13
          have c1113 : Chg No w11 w13 := hc12.trans hc13 fun b hb e => by omega
          exact k9 b9 w13 (.mk yk yu yl yt yap yal yac yas ykp ykl ykc yks) _ H13 (hok'.chg0 c1113) (by have := hc11.size; have := c1113.size; omega) (Prod.ext rfl hnd'.symm)
        · refine newZ H3d fun b9 w14 H14 hb14 hc14 => ?_
          refine ⟨H14.cells 2 rfl 0, cellsAt_take 6 (hcx hc14), H14.cell 3 rfl rfl, ?_⟩
          refine @hrec hrne (.mk xk xu xl xt xap xal xac xas xkp xkl xkc xks) w14 _ _ _ _ hrne (hxok.chg0 H14.chg) (he0.chg0 H14.chg) (h53.chg hc14 (off_no _)) (by omega) (by rw [hM]; omega) (by omega) fun v' w15 hnd' hok' hbd' hc15 => ?_
          have H15 := H14.step0 hc15
          rw [hE] at hnd' ⊢
          have hl9 := H14.lt 0 rfl
          have hb9 := hbd' (fun b => b ≠ b9) ((hxok.chg0 H3d.chg).bd.mono fun b hb => by omega) (fun b hb => by omega)
          cases v' with
          | mk yk yu yl yt yap yal yac yas ykp ykl ykc yks =>
          simp only [NV.giv]
          refine H15.stN 0 rfl (off := 0) rfl (by simp) (one1_node (.mk yk yu yl yt yap yal yac [] ykp ykl ykc [])) fun w16 H16 hc16 => ?_
          simp only [List.set_cons_zero] at H16
          exact k9 b9 w16 (.mk yk yu yl yt yap yal yac yas ykp ykl ykc yks) _ H16 (hok'.chgB hc16 hb9) (by have := hc14.size; have := hc15.size; have := hc16.size; omega) (Prod.ext rfl hnd'.symm)
      · have hpl1 : pl = 1 := by omega
        have hrn : rest = [] := List.eq_nil_of_length_eq_zero (by omega)
        subst hrn
        have hHere : edN (NV.mk k u lo t ap al ac ats kp kl kc ks).nd [(n : Int)] E = if E.op = 1 then (0, .mk k u lo t ats ((ks.map NV.nd).take n ++ E.node :: (ks.map NV.nd).drop n)) else if E.op = 2 then (0, .mk k u lo t ats ((ks.map NV.nd).take n ++ (ks.map NV.nd).drop (n + 1))) else if E.op = 3 then (0, .mk k u lo t ats ((ks.map NV.nd).set n E.node)) else match (ks.map NV.nd)[n]? with
          | some x => ((chgd x E).1, .mk k u lo t ats ((ks.map NV.nd).set n (chgd x E).2))
          | none => (35, .mk k u lo t ats (ks.map NV.nd)) := by
          rw [nd_kids]
          simp only [edN, edHere]
          rw [if_neg (by rw [List.length_map, hkl, hE1]; omega)]
          rfl
        refine withJ_i fun J0 hJ0 => ?_
        have kJ0 : ∀ w9, LD 0 w9 → J0 w9 := fun w9 h => by subst hJ0; rw [hLD] at h; exact h
        clear hJ0
        refine H3.ldI 1 rfl (off := 0) rfl ?_
        refine condB_eq (fun h1 => ?_) (fun h1 => ?_)
        · replace h1 : eop = 1 := h1
          rw [if_pos (hE1.trans h1)] at hHere
          refine H3.ldS 2 rfl (off := 4) rfl ?_
          refine H3.ldI 1 rfl (off := 5) rfl ?_
          refine H3.ldStr 1 rfl (off := 6) rfl ?_
          refine H3.ldStr 1 rfl (off := 7) rfl ?_
          refine H3.ldS 1 rfl (off := 8) rfl ?_
          refine H3.ldS 1 rfl (off := 9) rfl ?_
          refine H3.ldStr 1 rfl (off := 10) rfl ?_
          refine ⟨rfl, ?_⟩
          refine newRow (sz := 6) (n := 1) (cs := (NV.mk nk nu nl nt nap nal nac nas nkp nkl nkc nks).cells) rfl (by decide) fun b64 w7 hr7 hb7 hc7 => ?_
          refine fin (t' := n) (Y := [.mk nk nu nl nt nap nal nac nas nkp nkl nkc nks]) (f := 0) (H3.step0 hc7) (by simpa [rows] using hr7.sl) (fun z hz => by rw [List.mem_singleton.1 hz]; exact (hnok.chg0 H3.chg).chg0 hc7) (by simp only [NV.meaL]; omega) hnk hc7.size ?_ kJ0
          rw [hHere, hE5]
          simp [List.map_take, List.map_drop]
        replace h1 : ¬ eop = 1 := h1
        rw [if_neg (fun g => h1 (hE1.symm.trans g))] at hHere
        have hnl : n < kl := by omega
        rw [hw1]
        refine condB_eq (fun h2 => ?_) (fun h2 => ?_)
        · replace h2 : eop = 2 := h2
          rw [if_pos (hE1.trans h2)] at hHere
          refine H3.ldS 2 rfl (off := 4) rfl ?_
          refine fin (t' := n + 1) (Y := []) (f := 0) H3 (Sl.nil _ _ _) (fun z hz => by cases hz) (by simp [NV.meaL]) (by omega) (Nat.le_refl _) ?_ kJ0
          rw [hHere]
          simp [List.map_take, List.map_drop]
        replace h2 : ¬ eop = 2 := h2
        rw [if_neg (fun g => h2 (hE1.symm.trans g))] at hHere
        refine condB_eq (fun h3 => ?_) (fun h3 => ?_)
        · replace h3 : eop = 3 := h3
          rw [if_pos (hE1.trans h3)] at hHere
          refine H3.ldS 2 rfl (off := 4) rfl ?_
          refine H3.ldI 1 rfl (off := 5) rfl ?_
          refine H3.ldStr 1 rfl (off := 6) rfl ?_
          refine H3.ldStr 1 rfl (off := 7) rfl ?_
          refine H3.ldS 1 rfl (off := 8) rfl ?_
          refine H3.ldS 1 rfl (off := 9) rfl ?_
          refine H3.ldStr 1 rfl (off := 10) rfl ?_
          refine ⟨rfl, ?_⟩
          refine newRow (sz := 6) (n := 1) (cs := (NV.mk nk nu nl nt nap nal nac nas nkp nkl nkc nks).cells) rfl (by decide) fun b64 w7 hr7 hb7 hc7 => ?_
          refine fin (t' := n + 1) (Y := [.mk nk nu nl nt nap nal nac nas nkp nkl nkc nks]) (f := 0) (H3.step0 hc7) (by simpa [rows] using hr7.sl) (fun z hz => by rw [List.mem_singleton.1 hz]; exact (hnok.chg0 H3.chg).chg0 hc7) (by simp only [NV.meaL]; omega) (by omega) hc7.size ?_ kJ0
          rw [hHere, hE5, set_split (by rw [List.length_map]; omega)]
          simp [List.map_take, List.map_drop]
        replace h3 : ¬ eop = 3 := h3
        rw [if_neg (fun g => h3 (hE1.symm.trans g))] at hHere
        have hx : ks[n]? = some ks[n] := List.getElem?_eq_getElem (by omega)
        generalize hxe : ks[n] = x at hx
        clear hxe
        have hxm := List.mem_of_getElem? hx
        have hxok := hks x hxm
        have hxmea := mea_kid hxm
        rw [List.getElem?_map, hx] at hHere
        simp only [Option.map_some] at hHere
        refine withJ_i fun J11 hJ11 => ?_
        have k11 : ∀ (b9 : Nat) (w6 : World) (y : NV) (f : Int), Hp w No w6 (⟨b9, y.cells, T_api_Node⟩ :: [⟨b6, [.int .i64 0, .string ByteArray.empty, .string ByteArray.empty, .slice none 0 0, .slice none 0 0, .string ByteArray.empty], T_api_Node⟩,
        ⟨b5, [.int .i64 eop, .slice ep el ec, .string eu, .string en, .string et, .int .i64 nk, .string nu, .string nl, .slice nap nal nac, .slice nkp nkl nkc, .string nt], T_ref09_Edit⟩,
        ⟨b3, [.int .i64 k, .string u, .string lo, .slice ap al ac, .slice kp kl kc, .string t], T_api_Node⟩]) → NV.Ok w6 y → w3.heap.size ≤ w6.heap.size → chgd x.nd E = (f, y.nd) → J11 (some ⟨b9, 0, none⟩) f w6 := by
          intro b9 w6 y f H6 hy hs6 hed
          subst hJ11
          have hym : y.mea ≤ 10000000 := by
            have h1 := chgd_mea x.nd E
            rw [hed] at h1
            simp only [nd_mea] at h1; omega
          simp only [nonNil, Addr.add_mk, Nat.zero_add]
          refine H6.ldS 3 rfl (off := 4) rfl ?_
          cases y with
          | mk yk yu yl yt yap yal yac yas ykp ykl ykc yks =>
          refine ldBox H6 0 rfl ?_
          refine ⟨rfl, ?_⟩
          refine newRow (sz := 6) (n := 1) (cs := (NV.mk yk yu yl yt yap yal yac yas ykp ykl ykc yks).cells) rfl (by decide) fun b64 w7 hr7 hb7 hc7 => ?_
          have H7 := (H6.sub (List.Sublist.cons _ (List.Sublist.refl _))).step0 hc7
          refine fin (t' := n + 1) (Y := [.mk yk yu yl yt yap yal yac yas ykp ykl ykc yks]) (f := f) H7 (by simpa [rows] using hr7.sl) (fun z hz => by rw [List.mem_singleton.1 hz]; exact hy.chg0 hc7) (by simp only [NV.meaL]; omega) (by omega) (Nat.le_trans hs6 hc7.size) ?_ fun w9 h => by rw [hLD] at h; exact h
          rw [hHere, hed, set_split (by rw [List.length_map]; omega)]
          simp [List.map_take, List.map_drop]
        clear hJ11
        have H3d := H3.drew
        have s3d : w3.heap.size = w3.drew.heap.size := rfl
        refine H3d.ldS 2 rfl (off := 4) rfl ?_
        refine idx_rows (f := NV.cells) (hk.chg H3d.chg (off_no _)) (even_node ks) (by decide) (by omega) (by omega) fun a1 y1 _ hy1 hcs1 => ?_
        rw [Int.toNat_natCast] at hy1
        obtain rfl : x = y1 := by rw [hx] at hy1; exact Option.some.inj hy1
        cases x with
        | mk xk xu xl xt xap xal xac xas xkp xkl xkc xks =>
        refine ldNode hcs1 ?_
        refine ldEd H3d 1 rfl ?_
        have hcx := fun {wx : World} (hc : Chg No w3.drew wx) => hc.cells hcs1 (fun h => h)
        -- the kid's twin, changed
        have twin : ∀ {wx : World} {Γ : List Blk} {K : Int → ByteArray → ByteArray → Option Addr → Nat → Nat → Option Addr → Nat → Nat → ByteArray → World → Prop}, Hp w No wx Γ → (∀ v' w', v'.nd = (NV.mk xk xu xl xt xap xal xac xas xkp xkl xkc xks).nd → Own w' v' → (∀ b ∈ v'.bs, wx.heap.size ≤ b) → v'.mea = (NV.mk xk xu xl xt xap xal xac xas xkp xkl xkc xks).mea → Chg No wx w' → v'.giv K w') →
            callJ Tryz.prog fn_ref05_Twin #[.agg ⟨(NV.mk xk xu xl xt xap xal xac xas xkp xkl xkc xks).cells⟩] wx [.agg [.int .i64, .str, .str, .slice, .slice, .str]] K := fun H kk =>
          Twin_ok (.mk xk xu xl xt xap xal xac xas xkp xkl xkc xks) hxok H.chg (by omega) fun v' w' a b _ c d e => kk v' w' a b c d e
        refine ⟨?_, ?_⟩
        · refine twin H3d fun tv w32 hnt hot hbt hmt hc32 => ?_
          have H32 := H3d.step0 hc32
          cases tv with
          | mk tk tu tl tt tap tal tac tas tkp tkl tkc tks =>
          simp only [NV.giv]
          refine ⟨H32.cells 1 rfl 0, ?_, ?_⟩
          · refine Changed_ok (v := .mk tk tu tl tt tap tal tac tas tkp tkl tkc tks) (e := ⟨eop, ep, el, ec, epa, eu, en, et, .mk nk nu nl nt nap nal nac nas nkp nkl nkc nks⟩) hot.ok (he0.chg0 H32.chg) (by rw [hM, hmt]; omega) fun v' w11 hnd' hok' hbd' hc11 => ?_
            have H11 := H32.step0 hc11
            rw [hnt, hE] at hnd' ⊢
            cases v' with
            | mk yk yu yl yt yap yal yac yas ykp ykl ykc yks =>
            simp only [NV.giv]
            refine newZ H11 fun b9 w12 H12 hb12 hc12 => ?_
            refine ⟨H12.cells 2 rfl 0, cellsAt_take 6 (hcx ((hc32.trans0 hc11).trans0 hc12)), H12.cell 3 rfl rfl, ?_⟩
            refine H12.stN 0 rfl (off := 0) rfl (by simp) (one1_node (.mk yk yu yl yt yap yal yac [] ykp ykl ykc [])) fun w13 H13 hc13 => ?_
            simp only [List.set_cons_zero] at H13
            have c1113 : Chg No w11 w13 := hc12.trans hc13 fun b hb e => by omega
            exact k11 b9 w13 (.mk yk yu yl yt yap yal yac yas ykp ykl ykc yks) _ H13 (hok'.chg0 c1113) (by have := hc32.size; have := hc11.size; have := c1113.size; omega) (Prod.ext rfl hnd'.symm)
          · refine newZ H32 fun b9 w14 H14 hb14 hc14 => ?_
            refine ⟨H14.cells 2 rfl 0, cellsAt_take 6 (hcx (hc32.trans0 hc14)), H14.cell 3 rfl rfl, ?_⟩
            refine Changed_ok (v := .mk tk tu tl tt tap tal tac tas tkp tkl tkc tks) (e := ⟨eop, ep, el, ec, epa, eu, en, et, .mk nk nu nl nt nap nal nac nas nkp nkl nkc nks⟩) (hot.ok.chg0 hc14) (he0.chg0 H14.chg) (by rw [hM, hmt]; omega) fun v' w15 hnd' hok' hbd' hc15 => ?_
            have H15 := H14.step0 hc15
            rw [hnt, hE] at hnd' ⊢
            have hl9 := H14.lt 0 rfl
            have hb9 := hbd' (fun b => b ≠ b9) (hot.ok.bd.mono fun b hb => by omega) (fun b hb => by omega)
            cases v' with
            | mk yk yu yl yt yap yal yac yas ykp ykl ykc yks =>
            simp only [NV.giv]
            refine H15.stN 0 rfl (off := 0) rfl (by simp) (one1_node (.mk yk yu yl yt yap yal yac [] ykp ykl ykc [])) fun w16 H16 hc16 => ?_
            simp only [List.set_cons_zero] at H16
            exact k11 b9 w16 (.mk yk yu yl yt yap yal yac yas ykp ykl ykc yks) _ H16 (hok'.chgB hc16 hb9) (by have := hc32.size; have := hc14.size; have := hc15.size; have := hc16.size; omega) (Prod.ext rfl hnd'.symm)
        · refine newZ H3d fun b9 w14 H14 hb14 hc14 => ?_
          refine ⟨H14.cells 2 rfl 0, cellsAt_take 6 (hcx hc14), H14.cell 3 rfl rfl, ?_⟩
          have hl9 := H14.lt 0 rfl
          refine twin H14 fun tv w32 hnt hot hbt hmt hc32 => ?_
          have H32 := H14.step0 hc32
          cases tv with
          | mk tk tu tl tt tap tal tac tas tkp tkl tkc tks =>
          simp only [NV.giv]
          refine ⟨H32.cells 2 rfl 0, ?_⟩
          refine Changed_ok (v := .mk tk tu tl tt tap tal tac tas tkp tkl tkc tks) (e := ⟨eop, ep, el, ec, epa, eu, en, et, .mk nk nu nl nt nap nal nac nas nkp nkl nkc nks⟩) hot.ok (he0.chg0 H32.chg) (by rw [hM, hmt]; omega) fun v' w15 hnd' hok' hbd' hc15 => ?_
          have H15 := H32.step0 hc15
          rw [hnt, hE] at hnd' ⊢
          have hb9 := hbd' (fun b => b ≠ b9) (Own.bdP hot fun b hb => by have := hbt b hb; omega) (fun b hb => by have := hc32.size; omega)
          cases v' with
          | mk yk yu yl yt yap yal yac yas ykp ykl ykc yks =>
          simp only [NV.giv]
          refine H15.stN 0 rfl (off := 0) rfl (by simp) (one1_node (.mk yk yu yl yt yap yal yac [] ykp ykl ykc [])) fun w16 H16 hc16 => ?_
          simp only [List.set_cons_zero] at H16
          exact k11 b9 w16 (.mk yk yu yl yt yap yal yac yas ykp ykl ykc yks) _ H16 (hok'.chgB hc16 hb9) (by have := hc32.size; have := hc14.size; have := hc15.size; have := hc16.size; omega) (Prod.ext rfl hnd'.symm)
    clear hJ41
    refine condB_d (fun h => kbad (.inl h)) (fun h => ?_)
    refine H3.ldS 2 rfl (off := 4) rfl ?_
    refine condB_d (fun h2 => kbad (.inr (.inl (by omega)))) (fun h2 => ?_)
    refine H3.ldS 2 rfl (off := 4) rfl ?_
    refine condB_eq (fun h3 => ?_) (fun h3 => kgood (by omega))
    refine H3.ldI 1 rfl (off := 0) rfl ?_
    refine condB_ne (fun h4 => kbad (.inr (.inr ⟨h3, .inl h4⟩))) (fun h4 => ?_)
    by_cases h5 : (pl : Int) > 1
    · rw [decide_eq_true h5]; exact kbad (.inr (.inr ⟨h3, .inr (by omega)⟩))
    · rw [decide_eq_false h5]; exact kgood (by omega)
end
end Go.Proofs.YtkgfbphdmnapdaaGreatDoor

/-
  Chapter 9's check: Apply.
-/
set_option linter.unusedVariables false
set_option linter.unusedSimpArgs false
namespace Go.Proofs.YtkgfbphdmnapdaaGreatDoor
open Go Go.Vc Go.Lib
section
variable {w w' w0 : World}
theorem RefApply_ok {v : NV} {e : EV} {J : Int → ByteArray → ByteArray → Option Addr → Nat → Nat → Option Addr → Nat → Nat → ByteArray → Int → World → Prop} (hv : v.Ok w) (he : EV.Ok w e) (hm : v.mea + e.mea ≤ 10000000)
    (K : ∀ x w', Chg No w w' → x.nd = (applyN v.nd e.ed).2 → NV.Ok w' x → (∀ P : Nat → Prop, (∀ b, w.heap.size ≤ b → P b) → NV.Bd P x) → x.mea ≤ v.mea + e.mea → x.giv (fun a b c p l d1 q m n t w => J a b c p l d1 q m n t (applyN v.nd e.ed).1 w) w') :
    callJ Tryz.prog fn_ref09_Apply #[.agg ⟨v.cells⟩, .agg ⟨e.cells⟩] w [.agg [.int .i64, .str, .str, .slice, .slice, .str], .one (.int .i64)] J := by
  have he0 := he
  obtain ⟨eop, ep, el, ec, epa, eu, en, et, nv⟩ := e
  obtain ⟨D, hD⟩ : ∃ D, v.nd = D := ⟨_, rfl⟩
  obtain ⟨E, hE, hE1, hE2⟩ : ∃ E, EV.ed ⟨eop, ep, el, ec, epa, eu, en, et, nv⟩ = E ∧ E.op = eop ∧ E.pa = epa := ⟨_, rfl, rfl, rfl⟩
  obtain ⟨M, hM⟩ : ∃ M, EV.mea ⟨eop, ep, el, ec, epa, eu, en, et, nv⟩ = M := ⟨_, rfl⟩
  have hEm := evmea_ed ⟨eop, ep, el, ec, epa, eu, en, et, nv⟩
  have hsl : Sl w ep el 1 (rows intC epa) := he.sl
  have hcap : el ≤ ec := he.cap
  have helM : el < M := by rw [← hM]; unfold EV.mea; simp only; omega
  have hpl : epa.length = el := hsl.row (even_int epa) (by decide)
  rw [hE, hM] at hEm
  rw [hE, hD, hM] at K
  rw [hM] at hm
  have hDm : D.mea = v.mea := by rw [← hD, nd_mea]
  have hv1 : 1 ≤ v.mea := by
    cases v with
    | mk k u l t ap al ac ats kp kl kc ks => simp only [NV.mea]; omega
  cases v with
  | mk k u l t ap al ac ats kp kl kc ks =>
  cases nv with
  | mk nk nu nl nt nap nal nac nas nkp nkl nkc nks =>
  have K0 : ∀ f w', Chg No w w' → f ≠ 0 → (applyN D E).1 = f → J 0 ByteArray.empty ByteArray.empty none 0 0 none 0 0 ByteArray.empty f w' := fun f w' hc hf h => by
    have h2 := apply_err (d := D) (e := E) (by rw [h]; exact hf)
    have := K zeroV w' hc (by rw [h2, zeroV_nd]) zeroV_own.ok (fun P _ => .mk (.inl rfl) (.inl rfl) (fun x hx => by cases hx)) (by rw [zeroV_mea]; omega)
    rw [h] at this
    exact this
  refine c_ref09_Apply ?_
  unfold VC_ref09_Apply
  refine nodeBox (Hp.start w No) fun b2 w1 H1 hb2 hc1 => ?_
  refine nodeBox H1 fun b3 w2 H2 hb3 hc2 => ?_
  simp only [EV.cells] at H2
  refine newZ H2 fun b4 w3 H3 hb4 hc3 => ?_
  refine ldBox H3 2 rfl ?_
  refine RefCheck_ok (x := NV.mk k u l t ap al ac ats kp kl kc ks) (hv.chg0 H3.chg) (by omega) fun w4 hc4 => ?_
  have H4 := H3.step0 hc4
  rw [hD]
  refine condB_ne (fun hne => ?_) (fun h0 => ?_)
  · exact retNode H4 fun w5 H5 hc5 => K0 _ w5 H5.chg hne (by unfold applyN; rw [if_pos hne])
  have n2 := H4.lt 2 rfl
  have n3 := H4.lt 1 rfl
  have n4 := H4.lt 0 rfl
  have hs4 := H4.chg.size
  refine withJ_i fun J21 hJ21 => ?_
  have kt : (eop < 1 ∨ 6 < eop) → J21 true w4 := by
    intro hb; subst hJ21
    refine condB_i (fun _ => ?_) (fun h => by cases h)
    exact retNode H4 fun w5 H5 hc5 => K0 1 w5 H5.chg (by decide) (by unfold applyN; rw [if_neg (by rw [h0]; simp), if_pos (by rw [hE1]; exact hb)])
  have kf : ¬ (eop < 1 ∨ 6 < eop) → J21 false w4 := by
    intro hb; subst hJ21
    refine condB_i (fun h => by cases h) (fun _ => ?_)
    refine H4.ldS 1 rfl (off := 1) rfl ?_
    refine condB_eq (fun hz => ?_) (fun hz => ?_)
    · have hp0 : epa = [] := List.eq_nil_of_length_eq_zero (by omega)
      exact retNode H4 fun w5 H5 hc5 => K0 35 w5 H5.chg (by decide) (by unfold applyN; rw [if_neg (by rw [h0]; simp), if_neg (by rw [hE1]; exact hb), if_pos (by rw [hE2]; exact hp0)])
    have hpne : epa ≠ [] := fun g => hz (by rw [← hpl, g]; rfl)
    have hap : applyN D E = if (edN D epa E).1 ≠ 0 then ((edN D epa E).1, zeroN) else if checkL (edN D epa E).2 ≠ 0 then (checkL (edN D epa E).2, zeroN) else (0, (edN D epa E).2) := by
      unfold applyN; rw [if_neg (by rw [h0]; simp), if_neg (by rw [hE1]; exact hb), if_neg (by rw [hE2]; exact hpne), hE2]
    have hedm := edN_mea E epa D
    refine withJ_i fun J6 hJ6 => ?_
    have k6 : ∀ (b7 : Nat) (w9 : World) (y : NV), Hp w No w9 [⟨b7, y.cells, T_api_Node⟩, ⟨b4, [.int .i64 0, .string ByteArray.empty, .string ByteArray.empty, .slice none 0 0, .slice none 0 0, .string ByteArray.empty], T_api_Node⟩] → NV.Ok w9 y → (∀ P : Nat → Prop, (∀ b, w4.heap.size ≤ b → P b) → NV.Bd P y) → y.nd = (edN D epa E).2 → J6 (edN D epa E).1 (some ⟨b7, 0, none⟩) w9 := by
      intro b7 w9 y H9 hy hyb hnd
      have hym : y.mea ≤ (NV.mk k u l t ap al ac ats kp kl kc ks).mea + M := by rw [← nd_mea, hnd]; omega
      subst hJ6
      refine withJ_i fun J7 hJ7 => ?_
      have H9' : Hp w No w9 [⟨b4, [.int .i64 0, .string ByteArray.empty, .string ByteArray.empty, .slice none 0 0, .slice none 0 0, .string ByteArray.empty], T_api_Node⟩, ⟨b7, y.cells, T_api_Node⟩] :=
        ⟨H9.chg, fun p hp => H9.is p (by simp only [List.mem_cons, List.not_mem_nil, or_false] at hp ⊢; exact hp.symm), (by have := H9.nd; simp only [List.map_cons, List.map_nil, List.nodup_cons, List.mem_singleton, List.not_mem_nil, not_false_eq_true, List.nodup_nil, and_true] at this ⊢; exact fun g => this g.symm), fun p hp => H9.own p (by simp only [List.mem_cons, List.not_mem_nil, or_false] at hp ⊢; exact hp.symm)⟩
      have k7 : ∀ f w10, Chg No w9 w10 → (f ≠ 0 → (applyN D E).1 = f) → (f = 0 → applyN D E = (0, y.nd)) → J7 f w10 := by
        intro f w10 hc10 g1 g2
        subst hJ7
        have H10 := H9'.step0 hc10
        refine condB_ne (fun hne => ?_) (fun hz => ?_)
        · exact retNode H10 fun w5 H5 hc5 => K0 f w5 H5.chg hne (g1 hne)
        · have hA := g2 hz
          simp only [nonNil, Addr.add_mk, Nat.zero_add]
          have hy10 := hy.chg0 hc10
          have hbd4 := hyb (fun b => b ≠ b4) (fun b hb => by omega)
          cases y with
          | mk yk yu yl yt yap yal yac yas ykp ykl ykc yks =>
          refine ldBox H10 1 rfl ?_
          refine retNode H10 fun w12 H12 hc12 => ?_
          have := K (.mk yk yu yl yt yap yal yac yas ykp ykl ykc yks) w12 H12.chg (by rw [hA]) (hy10.chgB hc12 hbd4) (fun P hP => hyb P fun b hb => hP b (by omega)) hym
          rw [hA] at this
          exact this
      clear hJ7
      refine condB_eq (fun hz => ?_) (fun hne => ?_)
      · simp only [nonNil, Addr.add_mk, Nat.zero_add]
        cases y with
        | mk yk yu yl yt yap yal yac yas ykp ykl ykc yks =>
        refine ldBox H9 0 rfl ?_
        refine RefCheck_ok (x := NV.mk yk yu yl yt yap yal yac yas ykp ykl ykc yks) hy (by omega) fun w13 hc13 => ?_
        rw [hnd]
        refine k7 _ w13 hc13 (fun hc => ?_) (fun hc => ?_)
        · rw [hap, if_neg (by rw [hz]; simp), if_pos hc]
        · rw [hap, if_neg (by rw [hz]; simp), if_neg (by rw [hc]; simp), hnd]
      · exact k7 _ w9 (Chg.refl _ _) (fun _ => by rw [hap, if_pos hne]) (fun h => absurd h hne)
    clear hJ6
    have H4d := H4.drew
    have s4d : w4.heap.size = w4.drew.heap.size := rfl
    refine ldBox H4d 2 rfl ?_
    refine H4d.ldS 1 rfl (off := 1) rfl ?_
    refine ldEd H4d 1 rfl ?_
    refine ⟨?_, ?_⟩
    · refine Twin_ok (.mk k u l t ap al ac ats kp kl kc ks) hv H4d.chg (by omega) fun tv w14 hnt hot _ hbt hmt hc14 => ?_
      have H14 := H4d.step0 hc14
      cases tv with
      | mk tk tu tl tt tap tal tac tas tkp tkl tkc tks =>
      simp only [NV.giv]
      refine ⟨H14.cells 1 rfl 0, H14.cell 1 rfl rfl, ?_, ?_⟩
      · refine At9_ok (e := ⟨eop, ep, el, ec, epa, eu, en, et, .mk nk nu nl nt nap nal nac nas nkp nkl nkc nks⟩) epa (v := .mk tk tu tl tt tap tal tac tas tkp tkl tkc tks) hpne hot.ok (he0.chg0 H14.chg) (hsl.chg H14.chg (off_no _)) hcap (by rw [hM, hmt]; omega) (by omega) fun y w15 hndy hoky hbdy hc15 => ?_
        have H15 := H14.step0 hc15
        rw [hnt, hE, hD] at hndy ⊢
        have hyb : ∀ P : Nat → Prop, (∀ b, w4.heap.size ≤ b → P b) → NV.Bd P y := fun P hP => hbdy P (Own.bdP hot fun b hb => hP b (by have := hbt b hb; omega)) (fun b hb => hP b (by have := hc14.size; omega))
        cases y with
        | mk yk yu yl yt yap yal yac yas ykp ykl ykc yks =>
        simp only [NV.giv]
        refine newZ H15 fun b7 w16 H16 hb7 hc16 => ?_
        refine ⟨H16.cells 2 rfl 0, H16.cell 2 rfl rfl, H16.cells 3 rfl 0, ?_⟩
        refine H16.stN 0 rfl (off := 0) rfl (by simp) (one1_node (.mk yk yu yl yt yap yal yac [] ykp ykl ykc [])) fun w17 H17 hc17 => ?_
        simp only [List.set_cons_zero] at H17
        exact k6 b7 w17 (.mk yk yu yl yt yap yal yac yas ykp ykl ykc yks) (H17.sub (.cons_cons _ (.cons_cons _ (.cons _ (.cons _ (.refl _)))))) (hoky.chg0 (hc16.trans hc17 fun b hb g => by omega)) hyb hndy
      · refine newZ H14 fun b7 w18 H18 hb7 hc18 => ?_
        refine ⟨H18.cells 2 rfl 0, H18.cell 2 rfl rfl, H18.cells 3 rfl 0, ?_⟩
        have hl7 := H18.lt 0 rfl
        have htlt := hot.lt
        refine At9_ok (e := ⟨eop, ep, el, ec, epa, eu, en, et, .mk nk nu nl nt nap nal nac nas nkp nkl nkc nks⟩) epa (v := .mk tk tu tl tt tap tal tac tas tkp tkl tkc tks) hpne (hot.ok.chg0 hc18) (he0.chg0 H18.chg) (hsl.chg H18.chg (off_no _)) hcap (by rw [hM, hmt]; omega) (by omega) fun y w15 hndy hoky hbdy hc15 => ?_
        have H15 := H18.step0 hc15
        rw [hnt, hE, hD] at hndy ⊢
        have hyb : ∀ P : Nat → Prop, (∀ b, w4.heap.size ≤ b → P b) → NV.Bd P y := fun P hP => hbdy P (Own.bdP hot fun b hb => hP b (by have := hbt b hb; omega)) (fun b hb => hP b (by have := hc14.size; have := hc18.size; omega))
        have hb7 := hbdy (fun b => b ≠ b7) (Own.bdP hot fun b hb => by have := htlt b hb; omega) (fun b hb => by omega)
        cases y with
        | mk yk yu yl yt yap yal yac yas ykp ykl ykc yks =>
        simp only [NV.giv]
        refine H15.stN 0 rfl (off := 0) rfl (by simp) (one1_node (.mk yk yu yl yt yap yal yac [] ykp ykl ykc [])) fun w17 H17 hc17 => ?_
        simp only [List.set_cons_zero] at H17
        exact k6 b7 w17 (.mk yk yu yl yt yap yal yac yas ykp ykl ykc yks) (H17.sub (.cons_cons _ (.cons_cons _ (.cons _ (.cons _ (.refl _)))))) (hoky.chgB hc17 hb7) hyb hndy
    · refine newZ H4d fun b7 w21 H21 hb7 hc21 => ?_
      have hl7 := H21.lt 0 rfl
      refine ⟨H21.cells 2 rfl 0, H21.cell 2 rfl rfl, H21.cells 3 rfl 0, ?_⟩
      refine Twin_ok (.mk k u l t ap al ac ats kp kl kc ks) hv H21.chg (by omega) fun tv w14 hnt hot _ hbt hmt hc14 => ?_
      have H14 := H21.step0 hc14
      cases tv with
      | mk tk tu tl tt tap tal tac tas tkp tkl tkc tks =>
      simp only [NV.giv]
      refine ⟨H14.cells 2 rfl 0, H14.cell 2 rfl rfl, ?_⟩
      refine At9_ok (e := ⟨eop, ep, el, ec, epa, eu, en, et, .mk nk nu nl nt nap nal nac nas nkp nkl nkc nks⟩) epa (v := .mk tk tu tl tt tap tal tac tas tkp tkl tkc tks) hpne hot.ok (he0.chg0 H14.chg) (hsl.chg H14.chg (off_no _)) hcap (by rw [hM, hmt]; omega) (by omega) fun y w15 hndy hoky hbdy hc15 => ?_
      have H15 := H14.step0 hc15
      rw [hnt, hE, hD] at hndy ⊢
      have hyb : ∀ P : Nat → Prop, (∀ b, w4.heap.size ≤ b → P b) → NV.Bd P y := fun P hP => hbdy P (Own.bdP hot fun b hb => hP b (by have := hbt b hb; have := hc21.size; omega)) (fun b hb => hP b (by have := hc14.size; have := hc21.size; omega))
      have hb7 := hbdy (fun b => b ≠ b7) (Own.bdP hot fun b hb => by have := hbt b hb; omega) (fun b hb => by have := hc14.size; omega)
      cases y with
      | mk yk yu yl yt yap yal yac yas ykp ykl ykc yks =>
      simp only [NV.giv]
      refine H15.stN 0 rfl (off := 0) rfl (by simp) (one1_node (.mk yk yu yl yt yap yal yac [] ykp ykl ykc [])) fun w17 H17 hc17 => ?_
      simp only [List.set_cons_zero] at H17
      exact k6 b7 w17 (.mk yk yu yl yt yap yal yac yas ykp ykl ykc yks) (H17.sub (.cons_cons _ (.cons_cons _ (.cons _ (.cons _ (.refl _)))))) (hoky.chgB hc17 hb7) hyb hndy
  clear hJ21
  refine H4.ldI 1 rfl (off := 0) rfl ?_
  refine condB_d (fun h => kt (.inl h)) (fun h => ?_)
  refine H4.ldI 1 rfl (off := 0) rfl ?_
  by_cases h6 : eop > 6
  · rw [decide_eq_true h6]; exact kt (.inr h6)
  · rw [decide_eq_false h6]; exact kf (by omega)
end
end Go.Proofs.YtkgfbphdmnapdaaGreatDoor

/-
  Chapter 9's check: Back.
-/
set_option linter.unusedVariables false
set_option linter.unusedSimpArgs false
namespace Go.Proofs.YtkgfbphdmnapdaaGreatDoor
open Go Go.Vc Go.Lib
section
variable {w w' w0 : World}
end
end Go.Proofs.YtkgfbphdmnapdaaGreatDoor

/-
  Chapter 9's statements: EditUndoes.
-/
set_option linter.unusedVariables false
set_option linter.unusedSimpArgs false
namespace Go.Vc
open Go Go.Lib
theorem backN_fst (d : Nd) (e : Ed) : (backN d e).1 = (applyN d e).1 := by
  unfold backN
  split
  · rfl
  · next h => exact (Decidable.not_not.1 h).symm
end Go.Vc
namespace Go.Proofs.YtkgfbphdmnapdaaGreatDoor
open Go Go.Vc Go.Lib
section
variable {w w' : World}
end
end Go.Proofs.YtkgfbphdmnapdaaGreatDoor

/-
  Chapter 9's laws: what spoils a tree.
-/
set_option linter.unusedVariables false
set_option linter.unusedSimpArgs false
namespace Go.Proofs.YtkgfbphdmnapdaaGreatDoor
open Go Go.Vc Go.Lib
section
variable {w : World}
theorem Spoil9_ok : ∀ (v : NV) {w : World} {J : World → Prop}, Own w v → v.bs.Nodup → v.mea ≤ 100000000 → (∀ w', Chg (fun b => b ∈ v.bs) w w' → J w') → callJ Tryz.prog fn_law09_spoil #[.agg ⟨v.cells⟩] w [] J := by
  intro v
  induction v using NV.ind with
  | h k u l t ap al ac ats kp kl kc ks ih =>
    intro w J hv hnd hm K
    have hlt := hv.lt
    cases hv with
    | mk ha hk hks =>
    have hal := ha.sl.row (even_at ats) (by decide)
    have hkl := hk.sl.row (even_node ks) (by decide)
    have hlm := len_meaL ks
    have hla := len_atSum ats
    have hmm : kl ≤ 100000000 ∧ al ≤ 100000000 ∧ NV.meaL ks ≤ 100000000 := by simp only [NV.mea] at hm; omega
    have hbs : (NV.mk k u l t ap al ac ats kp kl kc ks).bs = blkL ap ++ (blkL kp ++ NV.bsL ks) := by simp only [NV.bs]
    rw [hbs] at hnd K hlt
    obtain ⟨hnA, hnR, hdA⟩ := List.nodup_append.1 hnd
    obtain ⟨hnK, hnL, hdK⟩ := List.nodup_append.1 hnR
    refine c_law09_spoil ?_
    unfold VC_law09_spoil
    refine (Hp.start w (fun b => b ∈ blkL ap ++ (blkL kp ++ NV.bsL ks))).newB fun b1 w1 H1 hb1 hc1 => ?_
    refine H1.ldS 0 rfl (off := 3) rfl ?_
    refine ⟨fun i w' m => ∃ q : Nat, i = q ∧ q ≤ al ∧ m = al - q ∧ Hp w (fun b => b ∈ blkL ap ++ (blkL kp ++ NV.bsL ks)) w' [⟨b1, [.int .i64 k, .string u, .string l, .slice ap al ac, .slice kp kl kc, .string t], T_api_Node⟩] ∧ Chg (fun b => b ∈ blkL ap) w1 w' ∧
      (al ≠ 0 → ∃ ba cs, ap = some ⟨ba, 0, none⟩ ∧ w'.heap[ba]? = some (.cells ⟨cs⟩ T_api_Attr (0, 0)) ∧ al * 3 ≤ cs.length), ⟨_, 0, rfl, Nat.zero_le _, rfl, H1, Chg.refl _ _, fun h0 => ?_⟩, ?_⟩
    · obtain ⟨ba, rest, e1, e2, e3, _, e4⟩ := (ha.chg hc1 (off_no _)).some0 h0
      refine ⟨ba, _, e1, e2, ?_⟩
      rw [e4]; exact Nat.mul_le_mul_right _ e3
    rintro i w2 m ⟨q, rfl, hq, rfl, H2, hc2, hat⟩
    refine condB_d (fun hlt2 => ?_) (fun hge => ?_)
    · refine H2.ldS 0 rfl (off := 3) rfl ?_
      obtain ⟨ba, cs, rfl, hba, hcs⟩ := hat (by omega)
      have hba0 : ba < w.heap.size := hlt ba (List.mem_append_left _ (List.mem_singleton.2 rfl))
      refine ⟨by omega, hlt2, ?_⟩
      simp only [nonNil]
      rw [Addr.add_mk, Int.toNat_natCast, Nat.zero_add]
      refine stN_own H2 hba (fun p hp => by rw [List.mem_singleton.1 hp]; simp only; omega) (fun _ => List.mem_append_left _ (List.mem_singleton.2 rfl)) rfl (by omega) (one1_at (emptyB, emptyB, ⟨#[103, 111, 110, 101]⟩)) fun w3 hb3 H3 hc3 => ?_
      refine ⟨_, by omega, q + 1, by rw [w64_of] <;> omega, by omega, rfl, H3, hc2.trans hc3 fun b _ e => by subst e; exact List.mem_singleton.2 rfl, fun _ => ⟨ba, _, rfl, hb3, by rw [splice_len2 (n := 3) rfl (by omega)]; exact hcs⟩⟩
    · refine H2.ldS 0 rfl (off := 4) rfl ?_
      have hnotA : ∀ b, b ∈ blkL kp ++ NV.bsL ks → ¬ b ∈ blkL ap := fun b hb h => hdA b h b hb rfl
      have hk2 : Row w2 T_api_Node 6 kp kl kc (rows NV.cells ks) := (hk.chg hc1 (off_no _)).chg hc2 fun a e => by subst e; exact hnotA _ (List.mem_append_left _ (List.mem_singleton.2 rfl))
      have hks2 : ∀ x ∈ ks, Own w2 x := fun x hx => ((hks x hx).chg hc1 (fun _ _ h => h.elim)).chg hc2 fun b hb => hnotA b (List.mem_append_right _ (bsL_mem hx hb))
      refine ⟨fun i w' m => ∃ q : Nat, i = q ∧ q ≤ kl ∧ m = kl - q ∧ Hp w (fun b => b ∈ blkL ap ++ (blkL kp ++ NV.bsL ks)) w' [⟨b1, [.int .i64 k, .string u, .string l, .slice ap al ac, .slice kp kl kc, .string t], T_api_Node⟩] ∧
        (kl ≠ 0 → ∃ bk cs rest, kp = some ⟨bk, 0, none⟩ ∧ w'.heap[bk]? = some (.cells ⟨cs⟩ T_api_Node (0, 0)) ∧ kl * 6 ≤ cs.length ∧ cs.drop (q * 6) = rows NV.cells (ks.drop q) ++ rest) ∧ (∀ x ∈ ks.drop q, Own w' x), ⟨_, 0, rfl, Nat.zero_le _, rfl, H2, fun h0 => ?_, fun x hx => hks2 x (by simpa using hx)⟩, ?_⟩
      · obtain ⟨bk, rest, e1, e2, e3, _, e4⟩ := hk2.some0 h0
        refine ⟨bk, _, rest, e1, e2, ?_, by simp⟩
        rw [e4]; exact Nat.mul_le_mul_right _ e3
      rintro i w4 m ⟨q, rfl, hq, rfl, H4, hkt, hks4⟩
      refine condB_d (fun hlt2 => ?_) (fun hge => K w4 H4.chg)
      refine H4.ldS 0 rfl (off := 4) rfl ?_
      obtain ⟨bk, cs, rest, rfl, hbk, hcs, hdr⟩ := hkt (by omega)
      have hqk : q < ks.length := by omega
      obtain ⟨y, hy⟩ : ∃ y, ks[q]? = some y := ⟨ks[q], List.getElem?_eq_getElem hqk⟩
      have hymem := List.mem_of_getElem? hy
      have hdq : ks.drop q = y :: ks.drop (q + 1) := by
        obtain ⟨hq', rfl⟩ := List.getElem?_eq_some_iff.1 hy
        exact List.drop_eq_getElem_cons hq'
      have hbd := bsL_drop hy
      have hyown := hks4 y (by rw [hdq]; exact List.mem_cons_self)
      have hym := mea_kid hymem
      have hnq : (NV.bsL (ks.drop q)).Nodup := by
        have e := List.take_append_drop q ks
        rw [← e, bsL_append] at hnL
        exact (List.nodup_append.1 hnL).2.1
      rw [hbd] at hnq
      obtain ⟨hny, hnr, hdy⟩ := List.nodup_append.1 hnq
      have hbk0 : bk < w.heap.size := hlt bk (List.mem_append_right _ (List.mem_append_left _ (List.mem_singleton.2 rfl)))
      have hbkL : ∀ b ∈ NV.bsL ks, b ≠ bk := fun b hb e => hdK bk (List.mem_singleton.2 rfl) b hb e.symm
      have hsubL : ∀ x ∈ ks.drop (q + 1), x ∈ ks := fun x hx => List.mem_of_mem_drop hx
      have hyc : y.cells.length = 6 := by cases y; rfl
      refine ⟨by omega, hlt2, ?_⟩
      simp only [nonNil]
      rw [Addr.add_mk, Int.toNat_natCast, Nat.zero_add]
      have hcat : cellsAt w4 ⟨bk, q * 6, none⟩ y.cells := by
        have h1 := cellsAt_heap (off := q * 6) hbk
        rw [hdr, hdq, rows_cons, List.append_assoc] at h1
        have h2 := cellsAt_take y.cells.length h1
        rw [List.take_left] at h2
        exact h2
      have ihy := @ih y hymem
      cases y with
      | mk yk yu yl yt yap yal yac yas ykp ykl ykc yks =>
      refine ldNode hcat ?_
      refine ihy hyown hny (by omega) fun w5 hc5 => ?_
      have hyL : ∀ b ∈ (NV.mk yk yu yl yt yap yal yac yas ykp ykl ykc yks).bs, b ∈ NV.bsL ks := fun b hb => bsL_mem hymem hb
      have H5 := H4.step hc5 (fun p hp hI => by
        rw [List.mem_singleton.1 hp] at hI
        have := hlt b1 (List.mem_append_right _ (List.mem_append_right _ (hyL b1 hI))); omega) (fun b _ hI => List.mem_append_right _ (List.mem_append_right _ (hyL b hI)))
      have hbk5 := hc5.heap hbk (fun hI => hbkL bk (hyL bk hI) rfl)
      refine H5.ldS 0 rfl (off := 4) rfl ?_
      refine ⟨by omega, hlt2, ?_⟩
      simp only [nonNil]
      rw [Addr.add_mk, Nat.zero_add]
      refine stN_own H5 hbk5 (fun p hp => by rw [List.mem_singleton.1 hp]; simp only; omega) (fun _ => List.mem_append_right _ (List.mem_append_left _ (List.mem_singleton.2 rfl))) rfl (by omega) (one1_node (.mk 0 emptyB emptyB ⟨#[103, 111, 110, 101]⟩ none 0 0 [] none 0 0 [])) fun w6 hb6 H6 hc6 => ?_
      refine ⟨_, by omega, q + 1, by rw [w64_of] <;> omega, by omega, rfl, H6, fun _ => ⟨bk, _, rest, rfl, hb6, by rw [splice_len2 (n := 6) rfl (by omega)]; exact hcs, ?_⟩, fun x hx => ?_⟩
      · have e6 : (q + 1) * 6 = q * 6 + 6 := by omega
        rw [e6, splice_drop (n := 6) rfl (by omega), ← List.drop_drop, hdr, hdq, rows_cons, List.append_assoc, List.drop_left' hyc]
      · refine ((hks4 x (by rw [hdq]; exact List.mem_cons_of_mem _ hx)).chg hc5 fun b hb hI => ?_).chg hc6 fun b hb hI => ?_
        · exact hdy b hI b (bsL_mem hx hb) rfl
        · exact hbkL b (bsL_mem (hsubL x hx) hb) hI
end
end Go.Proofs.YtkgfbphdmnapdaaGreatDoor

/-
  Things that lie apart in memory, all made since a world: blocks, rows of ints, trees. Steps keep them; the order in which they were made is no matter.
-/
set_option linter.unusedVariables false
set_option linter.unusedSimpArgs false
namespace Go.Proofs.YtkgfbphdmnapdaaGreatDoor
open Go Go.Vc Go.Lib

inductive Itm where
  | blk (b : Nat) (cs : List Value) (e : TypeId)
  | row (p : Option Addr) (l c : Nat) (zs : List Int)
  | tree (v : NV) (n : Nd) (m : Nat)
def Itm.bl : Itm → List Nat
  | .blk b _ _ => [b]
  | .row p _ _ _ => blkL p
  | .tree v _ _ => v.bs
def Itm.holds (w : World) : Itm → Prop
  | .blk b cs e => w.heap[b]? = some (.cells ⟨cs⟩ e (0, 0))
  | .row p l c zs => Row w T_int 1 p l c (rows intC zs)
  | .tree v n m => Own w v ∧ v.nd = n ∧ v.mea = m

theorem Itm.lt {w : World} : ∀ {x : Itm}, x.holds w → ∀ b ∈ x.bl, b < w.heap.size
  | .blk _ _ _, h, b, hb => by rw [List.mem_singleton.1 hb]; exact lt_of_heap h
  | .row p _ _ _, h, b, hb => by
    cases p with
    | none => simp [Itm.bl, blkL] at hb
    | some a => rw [List.mem_singleton.1 hb]; exact Row.lt h a rfl
  | .tree _ _ _, h, b, hb => h.1.lt b hb
theorem Itm.chg {w w' : World} {S : Nat → Prop} (hc : Chg S w w') : ∀ {x : Itm}, x.holds w → (∀ b ∈ x.bl, ¬ S b) → x.holds w'
  | .blk b _ _, h, hn => hc.heap h (hn b (List.mem_singleton.2 rfl))
  | .row p _ _ _, h, hn => Row.chg h hc fun a e => by subst e; exact hn _ (List.mem_singleton.2 rfl)
  | .tree _ _ _, h, hn => ⟨h.1.chg hc hn, h.2⟩

theorem flat_set : ∀ (L : List (List Nat)) (i : Nat) (x y : List Nat), L.flatten.Nodup → L[i]? = some x → y.Nodup → (∀ b ∈ y, b ∈ x ∨ ∀ z ∈ L, b ∉ z) → (L.set i y).flatten.Nodup
  | [], _, _, _, _, h, _, _ => by simp at h
  | z :: M, 0, x, y, hnd, h, hy, hb => by
    simp only [List.getElem?_cons_zero, Option.some.injEq] at h
    subst h
    simp only [List.flatten_cons] at hnd
    obtain ⟨h1, h2, h3⟩ := List.nodup_append.1 hnd
    simp only [List.set_cons_zero, List.flatten_cons]
    refine List.nodup_append.2 ⟨hy, h2, fun b hby c hc e => ?_⟩
    subst e
    rcases hb b hby with hz | hz
    · exact h3 b hz b hc rfl
    · obtain ⟨s, hs, hbs⟩ := List.mem_flatten.1 hc
      exact hz s (List.mem_cons_of_mem _ hs) hbs
  | z :: M, i + 1, x, y, hnd, h, hy, hb => by
    simp only [List.getElem?_cons_succ] at h
    simp only [List.flatten_cons] at hnd
    obtain ⟨h1, h2, h3⟩ := List.nodup_append.1 hnd
    simp only [List.set_cons_succ, List.flatten_cons]
    refine List.nodup_append.2 ⟨h1, flat_set M i x y h2 h hy fun b hby => (hb b hby).imp id fun hz s hs => hz s (List.mem_cons_of_mem _ hs), fun b hbz c hc e => ?_⟩
    subst e
    obtain ⟨s, hs, hbs⟩ := List.mem_flatten.1 hc
    rcases List.mem_or_eq_of_mem_set hs with hs | rfl
    · exact h3 b hbz b (List.mem_flatten.2 ⟨s, hs, hbs⟩) rfl
    · rcases hb b hbs with hx | hz
      · exact h3 b hbz b (List.mem_flatten.2 ⟨x, List.mem_of_getElem? h, hx⟩) rfl
      · exact hz z List.mem_cons_self hbz
theorem flat_ne : ∀ (L : List (List Nat)) (i j : Nat) (x y : List Nat), L.flatten.Nodup → L[i]? = some x → L[j]? = some y → i ≠ j → ∀ b ∈ x, b ∉ y
  | [], _, _, _, _, _, h, _, _, _, _ => by simp at h
  | z :: M, 0, 0, _, _, _, _, _, h, _, _ => absurd rfl h
  | z :: M, 0, j + 1, x, y, hnd, hi, hj, _, b, hb => fun hby => by
    simp only [List.getElem?_cons_zero, Option.some.injEq] at hi
    simp only [List.getElem?_cons_succ] at hj
    subst hi
    simp only [List.flatten_cons] at hnd
    exact (List.nodup_append.1 hnd).2.2 b hb b (List.mem_flatten.2 ⟨y, List.mem_of_getElem? hj, hby⟩) rfl
  | z :: M, i + 1, 0, x, y, hnd, hi, hj, _, b, hb => fun hby => by
    simp only [List.getElem?_cons_zero, Option.some.injEq] at hj
    simp only [List.getElem?_cons_succ] at hi
    subst hj
    simp only [List.flatten_cons] at hnd
    exact (List.nodup_append.1 hnd).2.2 b hby b (List.mem_flatten.2 ⟨x, List.mem_of_getElem? hi, hb⟩) rfl
  | z :: M, i + 1, j + 1, x, y, hnd, hi, hj, hne, b, hb => by
    simp only [List.getElem?_cons_succ] at hi hj
    simp only [List.flatten_cons] at hnd
    exact flat_ne M i j x y (List.nodup_append.1 hnd).2.1 hi hj (by omega) b hb

structure Sp (w0 w : World) (L : List Itm) : Prop where
  chg : Chg No w0 w
  is : ∀ x ∈ L, x.holds w
  nd : ((L.map Itm.bl).flatten).Nodup
  fr : ∀ x ∈ L, ∀ b ∈ x.bl, w0.heap.size ≤ b

section
variable {w0 w w' : World} {L : List Itm} {b : Nat} {cs : List Value} {e : TypeId}
theorem Sp.step0 (S : Sp w0 w L) (hc : Chg No w w') : Sp w0 w' L := ⟨S.chg.trans0 hc, fun x hx => Itm.chg hc (S.is x hx) (fun _ _ h => h), S.nd, S.fr⟩
theorem Sp.add (S : Sp w0 w L) (hc : Chg No w w') (x : Itm) (hx : x.holds w') (hf : ∀ b ∈ x.bl, w.heap.size ≤ b) (hn : x.bl.Nodup) : Sp w0 w' (x :: L) := by
  have S' := S.step0 hc
  refine ⟨S'.chg, fun y hy => ?_, ?_, fun y hy b hb => ?_⟩
  · rcases List.mem_cons.1 hy with rfl | hy
    · exact hx
    · exact S'.is y hy
  · simp only [List.map_cons, List.flatten_cons]
    refine List.nodup_append.2 ⟨hn, S.nd, fun a ha c hc2 e => ?_⟩
    subst e
    obtain ⟨s, hs, has⟩ := List.mem_flatten.1 hc2
    obtain ⟨y, hy, rfl⟩ := List.mem_map.1 hs
    have := Itm.lt (S.is y hy) a has
    have := hf a ha
    omega
  · rcases List.mem_cons.1 hy with rfl | hy
    · exact Nat.le_trans S.chg.size (hf b hb)
    · exact S.fr y hy b hb
theorem Sp.repl (S : Sp w0 w L) (i : Nat) {x : Itm} (hi : L[i]? = some x) (y : Itm) (hc : Chg (· ∈ x.bl) w w') (hy : y.holds w') (hf : ∀ b ∈ y.bl, b ∈ x.bl ∨ w.heap.size ≤ b) (hn : y.bl.Nodup) : Sp w0 w' (L.set i y) := by
  have hxm := List.mem_of_getElem? hi
  have hi' : (L.map Itm.bl)[i]? = some x.bl := by rw [List.getElem?_map, hi]; rfl
  refine ⟨S.chg.trans hc fun b hb hbx => by have := S.fr x hxm b hbx; omega, fun z hz => ?_, ?_, fun z hz b hb => ?_⟩
  · obtain ⟨j, hj⟩ := List.mem_iff_getElem?.1 hz
    rw [List.getElem?_set] at hj
    by_cases hij : i = j
    · rw [if_pos hij] at hj
      split at hj
      · cases hj; exact hy
      · cases hj
    · rw [if_neg hij] at hj
      refine Itm.chg hc (S.is z (List.mem_of_getElem? hj)) fun b hb hbx => ?_
      exact flat_ne _ i j _ _ S.nd hi' (by rw [List.getElem?_map, hj]; rfl) hij b hbx hb
  · rw [List.map_set]
    refine flat_set _ i x.bl y.bl S.nd hi' hn fun b hb => (hf b hb).imp id fun hge s hs hbs => ?_
    obtain ⟨z, hz, rfl⟩ := List.mem_map.1 hs
    have := Itm.lt (S.is z hz) b hbs
    omega
  · rcases List.mem_or_eq_of_mem_set hz with hz | rfl
    · exact S.fr z hz b hb
    · rcases hf b hb with h | h
      · exact S.fr x hxm b h
      · exact Nat.le_trans S.chg.size h
theorem Sp.newB (S : Sp w0 w L) {K : Nat → World → Prop} (k : ∀ b w', Sp w0 w' (.blk b cs e :: L) → K b w') : Vc.newB w (.cells ⟨cs⟩ e) K := by
  refine (Hp.start w No).newB fun b w1 H hb hc => k b w1 (S.add hc _ (H.get 0 rfl) (fun x hx => ?_) (by simp [Itm.bl]))
  rw [List.mem_singleton.1 hx]; exact hb
theorem Sp.newZ (S : Sp w0 w L) {K : Nat → World → Prop}
    (k : ∀ b w', Sp w0 w' (.blk b [.int .i64 0, .string ByteArray.empty, .string ByteArray.empty, .slice none 0 0, .slice none 0 0, .string ByteArray.empty] T_api_Node :: L) → K b w') :
    Vc.newB w (.cells (zeroC Tryz.prog T_api_Node) T_api_Node) K := by
  rw [zeroC_node]; exact S.newB k
theorem Sp.stA (S : Sp w0 w L) (i : Nat) (hi : L[i]? = some (.blk b cs e)) {n : Nat} {vs : List Value} {K : World → Prop} (hn : vs.length = n) (ho : cs.length = n) (h1 : one1 vs)
    (k : ∀ w', Sp w0 w' (L.set i (.blk b vs e)) → K w') : Vc.stN w ⟨b, 0, none⟩ ⟨vs⟩ n K := by
  refine ((Hp.start w (fun x => x = b)).add (S.is _ (List.mem_of_getElem? hi)) (by simp) (fun _ => rfl)).stN 0 rfl (off := 0) hn (by omega) h1 fun w' H hc => k w' ?_
  simp only [List.set_cons_zero] at H
  rw [splice_all (by omega)] at H
  refine S.repl i hi (.blk b vs e) (hc.mono fun x _ h => by subst h; exact List.mem_singleton.2 rfl) (H.get 0 rfl) (fun x hx => .inl hx) (by simp [Itm.bl])
theorem Sp.one (S : Sp w0 w L) (h : Itm.blk b cs e ∈ L) : Hp w (fun x => x = b) w [⟨b, cs, e⟩] :=
  (Hp.start w (fun x => x = b)).add (S.is _ h) (by simp) (fun _ => rfl)
/-- append([]int{}, s...) onto an empty list of the call's own. -/
theorem Sp.app (S : Sp w0 w L) (i : Nat) (hi : L[i]? = some (.blk b [] T_int)) {q : Option Addr} {m c2 : Nat} {zs : List Int} (src : Sl w0 q m 1 (rows intC zs)) (hq : q = none → m = 0) (hm : m ≤ 10000000) {K : Option Addr → Nat → Nat → World → Prop}
    (k : ∀ p' c' w', Sp w0 w' (L.set i (.row p' m c' zs)) → K p' m c' w') :
    appJ Tryz.prog T_sl_int T_sl_int (.slice (some ⟨b, 0, none⟩) 0 0) (.slice q m c2) w K := by
  have hh := S.is _ (List.mem_of_getElem? hi)
  have hr : Row w T_int 1 (some ⟨b, 0, none⟩) 0 0 [] := ⟨by simp, .inr ⟨b, [], rfl, hh, Nat.le_refl _, Nat.zero_le _, by simp⟩⟩
  have one : one1 (rows intC zs) := one1_rows fun x _ => by intro v hv; simp only [intC, List.mem_singleton] at hv; subst hv; rfl
  refine appJ_row slT_int5 hr (src.chg S.chg (off_no _)) one hq (by omega) (by unfold maxLen; omega) fun p' c' w' hr' hc hf => ?_
  rw [Nat.zero_add] at hr' ⊢
  refine k p' c' w' (S.repl i hi (.row p' m c' zs) (hc.mono fun x _ h => ?_) (by simpa [Itm.holds] using hr') (fun x hx => ?_) ?_)
  · obtain ⟨a, ha, rfl⟩ := h; cases ha; exact List.mem_singleton.2 rfl
  · cases p' with
    | none => simp [Itm.bl, blkL] at hx
    | some a =>
      rw [List.mem_singleton.1 hx]
      rcases hf with hf | hf
      · cases hf; exact .inl (List.mem_singleton.2 rfl)
      · exact .inr (hf a rfl)
  · cases p' <;> simp [Itm.bl, blkL]
theorem one1_six {k : Int} {u l t : ByteArray} {ap kp : Option Addr} {al ac kl kc : Nat} : one1 [.int .i64 k, .string u, .string l, .slice ap al ac, .slice kp kl kc, .string t] := one1_node (.mk k u l t ap al ac [] kp kl kc [])
theorem Sp.twin (S : Sp w0 w L) {v : NV} {cs : List Value} (hcs : v.cells = cs) (hv : v.Ok w0) (hm : v.mea ≤ 10000000) {n : Nd} (hn : v.nd = n) {J : Int → ByteArray → ByteArray → Option Addr → Nat → Nat → Option Addr → Nat → Nat → ByteArray → World → Prop}
    (K : ∀ k u l t ap al ac ats kp kl kc ks w', Sp w0 w' (.tree (.mk k u l t ap al ac ats kp kl kc ks) n v.mea :: L) → J k u l ap al ac kp kl kc t w') :
    callJ Tryz.prog fn_ref05_Twin #[.agg ⟨cs⟩] w [.agg [.int .i64, .str, .str, .slice, .slice, .str]] J := by
  subst hcs
  refine Twin_ok v hv S.chg hm fun v' w' hnd hown hbs hfr hme hc => ?_
  have S' := S.add hc (.tree v' n v.mea) ⟨hown, by rw [hnd, hn], hme⟩ hfr hbs
  cases v' with
  | mk k u l t ap al ac ats kp kl kc ks => exact K k u l t ap al ac ats kp kl kc ks w' S'
end
end Go.Proofs.YtkgfbphdmnapdaaGreatDoor

/-
  Chapter 9's statements: EditKeeps.
-/
set_option linter.unusedVariables false
set_option linter.unusedSimpArgs false
namespace Go.Proofs.YtkgfbphdmnapdaaGreatDoor
open Go Go.Vc Go.Lib
section
variable {w w' : World}
theorem evGiv_i {J : Int → Option Addr → Nat → Nat → ByteArray → ByteArray → ByteArray → Int → ByteArray → ByteArray → Option Addr → Nat → Nat → Option Addr → Nat → Nat → ByteArray → World → Prop} {op : Int} {p : Option Addr} {l c : Nat} {pa : List Int} {u n t : ByteArray} {k0 : Int} {u0 l0 t0 : ByteArray} {ap kp : Option Addr} {al ac kl kc : Nat} {ats : List At} {ks : List NV}
    (h : J op p l c u n t k0 u0 l0 ap al ac kp kl kc t0 w) : EV.giv J w ⟨op, p, l, c, pa, u, n, t, .mk k0 u0 l0 t0 ap al ac ats kp kl kc ks⟩ := h
theorem nvGiv_i {J : Int → ByteArray → ByteArray → Option Addr → Nat → Nat → Option Addr → Nat → Nat → ByteArray → World → Prop} {k0 : Int} {u0 l0 t0 : ByteArray} {ap kp : Option Addr} {al ac kl kc : Nat} {ats : List At} {ks : List NV}
    (h : J k0 u0 l0 ap al ac kp kl kc t0 w) : NV.giv J w (.mk k0 u0 l0 t0 ap al ac ats kp kl kc ks) := h
theorem EditKeeps_ok {d : NV} {e : EV} (T : TT w) (hd : d.Ok w) (he : EV.Ok w e) (hm : d.mea + e.mea ≤ 1048576) :
    callJ Tryz.prog fn_law09_EditKeeps #[.agg ⟨d.cells⟩, .agg ⟨e.cells⟩] w [.one .bool] fun r w' => r = true ∧ Chg No w w' := by
  obtain ⟨eop, ep, el, ec, epa, eu, en, et, nv⟩ := e
  obtain ⟨D, hD⟩ : ∃ D, d.nd = D := ⟨_, rfl⟩
  obtain ⟨E, hE⟩ : ∃ E, EV.ed ⟨eop, ep, el, ec, epa, eu, en, et, nv⟩ = E := ⟨_, rfl⟩
  obtain ⟨Z, hZ⟩ : ∃ Z, nv.nd = Z := ⟨_, rfl⟩
  cases d with
  | mk k u l t ap al ac ats kp kl kc ks =>
  cases nv with
  | mk nk nu nl nt nap nal nac nas nkp nkl nkc nks =>
  obtain ⟨M, hM⟩ : ∃ M, (NV.mk k u l t ap al ac ats kp kl kc ks).mea + EV.mea ⟨eop, ep, el, ec, epa, eu, en, et, .mk nk nu nl nt nap nal nac nas nkp nkl nkc nks⟩ = M := ⟨_, rfl⟩
  have hM' : M ≤ 1048576 := by rw [← hM]; exact hm
  have hmd : (NV.mk k u l t ap al ac ats kp kl kc ks).mea ≤ M := by rw [← hM]; omega
  have hme : (NV.mk nk nu nl nt nap nal nac nas nkp nkl nkc nks).mea ≤ M := by rw [← hM]; simp only [EV.mea]; omega
  have hel : el ≤ M := by rw [← hM]; simp only [EV.mea]; omega
  refine c_law09_EditKeeps ?_
  unfold VC_law09_EditKeeps
  refine nodeBox (Hp.start w No) fun b2 w1 H1 hb2 hc1 => ?_
  refine nodeBox H1 fun b3 w2 H2 hb3 hc2 => ?_
  simp only [EV.cells] at H2
  refine Awake9_ok (T.chg H2.chg) fun w3 hc3 => ?_
  have H3 := H2.step0 hc3
  refine condB_i (fun h => by cases h) (fun _ => ?_)
  refine withJ_i fun J5 hJ5 => ?_
  have H3d := H3.drew
  have k5 : ∀ {L : List Itm} {w' : World}, Sp w3.drew w' L → ∀ {x y : NV} {qp : Option Addr} {ql qc b5 b7 : Nat}, .tree x D (NV.mk k u l t ap al ac ats kp kl kc ks).mea ∈ L → .tree y Z (NV.mk nk nu nl nt nap nal nac nas nkp nkl nkc nks).mea ∈ L → .row qp ql qc epa ∈ L →
      .blk b5 x.cells T_api_Node ∈ L → .blk b7 y.cells T_api_Node ∈ L → J5 (some ⟨b5, 0, none⟩) qp ql qc (some ⟨b7, 0, none⟩) w' := by
    intro L w4 S x y qp ql qc b5 b7 htx hty hrow hb5 hb7
    have H4 := H3d.step0 S.chg
    have B5 := S.one hb5
    have B7 := S.one hb7
    obtain ⟨ox, hxn, hxm⟩ := S.is _ htx
    obtain ⟨oy, hyn, hym⟩ := S.is _ hty
    have rq : Row w4 T_int 1 qp ql qc (rows intC epa) := S.is _ hrow
    subst hJ5
    dsimp only
    cases x with
    | mk xk xu xl xt xap xal xac xas xkp xkl xkc xks =>
    cases y with
    | mk sk su sl st sap sal sac sas skp skl skc sks =>
    refine ldBox H4 1 rfl ?_
    refine ldEd H4 0 rfl ?_
    have hs4 : ∀ {x : NV}, Own w4 x → ∀ b ∈ x.bs, b < w4.heap.size := fun h => h.lt
    refine Apply_ok (v := NV.mk k u l t ap al ac ats kp kl kc ks) (e := ⟨eop, ep, el, ec, epa, eu, en, et, .mk nk nu nl nt nap nal nac nas nkp nkl nkc nks⟩) (T.chg H4.chg) (hd.chg0 H4.chg) (he.chg0 H4.chg) (by rw [hM]; omega) fun x4 w5 hc5 hnd5 hown5 hbs5 hge5 hm5 => ?_
    rw [hD, hE] at hnd5 ⊢
    rw [hM] at hm5
    have H5 := H4.step0 hc5
    have hlt5 := hown5.lt
    cases x4 with
    | mk zk zu zl zt zap zal zac zas zkp zkl zkc zks =>
    obtain ⟨X, hX⟩ : ∃ X, NV.mk zk zu zl zt zap zal zac zas zkp zkl zkc zks = X := ⟨_, rfl⟩
    refine nvGiv_i ?_
    refine storeBox H5 fun b8 w7 H7 hb8 hc7 => ?_
    have c47 : Chg No w4 w7 := hc5.trans0 hc7
    have ox7 := hown5.chg0 hc7
    refine ldBox H7 2 rfl ?_
    refine ldEd H7 1 rfl ?_
    refine Back_ok (v := NV.mk k u l t ap al ac ats kp kl kc ks) (e := ⟨eop, ep, el, ec, epa, eu, en, et, .mk nk nu nl nt nap nal nac nas nkp nkl nkc nks⟩) (T.chg H7.chg) (hd.chg0 H7.chg) (he.chg0 H7.chg) (by rw [hM]; omega) fun y8 w8 hc8 hed8 hown8 hm8 => ?_
    rw [hM] at hm8
    rw [hD, hE, backN_fst]
    have H8 := H7.step0 hc8
    obtain ⟨yrow, yfr, yown, ybs, yge, yoff⟩ := hown8
    obtain ⟨yop, yp, yl, yc, ypa, yu, yn, yt, yv⟩ := y8
    cases yv with
    | mk vk vu vl vt vap val vac vas vkp vkl vkc vks =>
    refine evGiv_i ?_
    dsimp only at yrow yfr yown ybs yge yoff
    have ylt := yown.lt
    have ymv : (NV.mk vk vu vl vt vap val vac vas vkp vkl vkc vks).mea ≤ 100000000 := by simp only [EV.mea] at hm8; omega
    have yle : yl ≤ 100000000 := by simp only [EV.mea] at hm8; omega
    refine edBox H8 fun b10 w10 H10 hb10 hc10 => ?_
    have c410 : Chg No w4 w10 := (c47.trans0 hc8).trans0 hc10
    have hl8 := H7.lt 0 rfl
    have s7 := c47.size
    have s5 := hc5.size
    have s77 := hc7.size
    have s8 := hc8.size
    have s10 := hc10.size
    refine ldBox H10 1 rfl ?_
    refine Spoil9_ok (NV.mk zk zu zl zt zap zal zac zas zkp zkl zkc zks) ((ox7.chg0 hc8).chg0 hc10) hbs5 (by omega) fun w11 hc11 => ?_
    have c411 : Chg No w4 w11 := c410.trans hc11 fun b hb h => by have := hge5 b h; omega
    have B10 : Hp w10 No w10 [] := Hp.start w10 No
    have q10 : w10.heap[b10]? = _ := H10.get 0 rfl
    have q11 := hc11.heap q10 (fun h => by have := hlt5 _ h; omega)
    have yown11 := (yown.chg0 hc10).chg hc11 fun b hb h => by have := hlt5 _ h; have := yge b hb; omega
    have yrow11 := (yrow.chg hc10 (off_no _)).chg hc11 fun a e h => by have := hlt5 _ h; have := yfr a e; omega
    have Q11 := (Hp.start w11 (fun x => x = b10)).add q11 (by simp) (fun _ => rfl)
    refine ⟨_, Q11.cell 0 rfl rfl, _, Q11.cell 0 rfl rfl, _, Q11.cell 0 rfl rfl, _, _, _, Q11.cell 0 rfl rfl, _, _, _, Q11.cell 0 rfl rfl, _, Q11.cell 0 rfl rfl, ?_⟩
    refine Spoil9_ok (NV.mk vk vu vl vt vap val vac vas vkp vkl vkc vks) yown11 ybs ymv fun w12 hc12 => ?_
    have c412 : Chg No w4 w12 := c411.trans hc12 fun b hb h => by have := yge b h; omega
    have q12 := hc12.heap q11 (fun h => by have := ylt _ h; omega)
    have yrow12 := yrow11.chg hc12 fun a e h => yoff _ h ⟨a, e, rfl⟩
    have Q12 := (Hp.start w12 (fun x => x = b10)).add q12 (by simp) (fun _ => rfl)
    refine Q12.ldS 0 rfl rfl ?_
    refine ⟨fun i w' m => ∃ q : Nat, i = q ∧ q ≤ yl ∧ m = yl - q ∧ Chg No w4 w' ∧ w'.heap[b10]? = some (.cells ⟨[.int .i64 yop, .slice yp yl yc, .string yu, .string yn, .string yt, .int .i64 vk, .string vu, .string vl, .slice vap val vac, .slice vkp vkl vkc, .string vt]⟩ T_edit_Edit (0, 0)) ∧
      (yl ≠ 0 → ∃ ba cs, yp = some ⟨ba, 0, none⟩ ∧ w'.heap[ba]? = some (.cells ⟨cs⟩ T_int (0, 0)) ∧ yl ≤ cs.length ∧ w4.heap.size ≤ ba ∧ ba ≠ b10), ⟨_, 0, rfl, Nat.zero_le _, rfl, c412, q12, fun h0 => ?_⟩, ?_⟩
    · obtain ⟨ba, rest, e1, e2, e3, _, e4⟩ := yrow12.some0 h0
      have hfa := yfr _ e1
      have hla := yrow.lt _ e1
      dsimp only at hfa hla
      exact ⟨ba, _, e1, e2, by omega, by omega, by omega⟩
    rintro i w13 m ⟨q, rfl, hq, rfl, c413, q13, hat⟩
    have Q13 := (Hp.start w13 (fun x => x = b10)).add q13 (by simp) (fun _ => rfl)
    refine condB_d (fun hlt2 => ?_) (fun hge => ?_)
    · refine Q13.ldS 0 rfl rfl ?_
      obtain ⟨ba, cs, rfl, hba, hcs, hbg, hbn⟩ := hat (by omega)
      refine ⟨by omega, hlt2, ?_⟩
      simp only [nonNil]
      rw [Addr.add_mk, Int.toNat_natCast, Nat.zero_add]
      refine ((Hp.start w13 (fun x => x = ba)).add hba (by simp) (fun _ => rfl)).stV 0 rfl (by omega) fun w14 H14 hc14 => ?_
      simp only [List.set_cons_zero] at H14
      refine ⟨_, by omega, q + 1, by rw [w64_of] <;> omega, by omega, rfl, c413.trans hc14 fun b hb h => by subst h; omega, hc14.heap q13 (fun h => hbn h.symm), fun _ => ⟨ba, _, rfl, H14.get 0 rfl, by rw [List.length_set]; exact hcs, hbg, hbn⟩⟩
    clear hat Q13 q13 Q12 q12 Q11 q11 q10 B10
    have H13 := H4.step0 c413
    refine ldBox H13 1 rfl ?_
    refine ldEd H13 0 rfl ?_
    refine Apply_ok (v := NV.mk k u l t ap al ac ats kp kl kc ks) (e := ⟨eop, ep, el, ec, epa, eu, en, et, .mk nk nu nl nt nap nal nac nas nkp nkl nkc nks⟩) (T.chg H13.chg) (hd.chg0 H13.chg) (he.chg0 H13.chg) (by rw [hM]; omega) fun x15 w15 hc15 hnd15 hown15 _ _ hm15 => ?_
    rw [hD, hE] at hnd15 ⊢
    rw [hM] at hm15
    have H15 := H13.step0 hc15
    cases x15 with
    | mk pk pu pl pt pap pal pac pas pkp pkl pkc pks =>
    refine nvGiv_i ?_
    refine storeBox H15 fun b13 w17 H17 hb13 hc17 => ?_
    have c417 : Chg No w4 w17 := (c413.trans0 hc15).trans0 hc17
    have op17 := hown15.chg0 hc17
    simp only [nonNil, Addr.add_mk, Nat.zero_add]
    refine ldBox (B5.step0 c417) 0 rfl ?_
    refine ⟨_, H17.cell 1 rfl rfl, _, H17.cell 1 rfl rfl, _, H17.cell 1 rfl rfl, _, H17.cell 1 rfl rfl, ?_⟩
    refine ldBox (B7.step0 c417) 0 rfl ?_
    refine ⟨rfl, rfl, ?_⟩
    have rq17 := rq.chg c417 (off_no _)
    have ed17 : EV.ed ⟨eop, qp, ql, qc, epa, eu, en, et, .mk sk su sl st sap sal sac sas skp skl skc sks⟩ = E := by rw [← hE]; simp only [EV.ed, hyn, hZ]
    have ev17 : EV.Ok w17 ⟨eop, qp, ql, qc, epa, eu, en, et, .mk sk su sl st sap sal sac sas skp skl skc sks⟩ := ⟨rq17.sl, fun e => rq17.none0 e, rq17.le.1, oy.ok.chg0 c417⟩
    have hql : ql = el := by have h1 := rq17.sl.row (even_int epa) (by decide); have h2 := he.sl.row (even_int epa) (by decide); dsimp only at h2; omega
    have em17 : (NV.mk xk xu xl xt xap xal xac xas xkp xkl xkc xks).mea + EV.mea ⟨eop, qp, ql, qc, epa, eu, en, et, .mk sk su sl st sap sal sac sas skp skl skc sks⟩ = M := by
      rw [← hM]; simp only [EV.mea]; rw [hxm, hym, hql]
    refine RefApply_ok (v := NV.mk xk xu xl xt xap xal xac xas xkp xkl xkc xks) (e := ⟨eop, qp, ql, qc, epa, eu, en, et, .mk sk su sl st sap sal sac sas skp skl skc sks⟩) (ox.ok.chg0 c417) ev17 (by rw [em17]; omega) fun v w18 hc18 hvn hv _ hvm => ?_
    rw [hxn, ed17] at hvn ⊢
    have H18 := H17.step0 hc18
    cases v with
    | mk rk ru rl rt rap ral rac ras rkp rkl rkc rks =>
    refine nvGiv_i ?_
    refine storeBox H18 fun b15 w20 H20 hb15 hc20 => ?_
    have c420 := (c417.trans0 hc18).trans0 hc20
    refine withJ_i fun J4 hJ4 => ?_
    refine condB_eq (fun _ => ?_) (fun h => absurd rfl h)
    refine condB_eq (fun _ => ?_) (fun h => absurd rfl h)
    refine condB_eq (fun _ => ?_) (fun h => absurd rfl h)
    refine ldBox H20 1 rfl ?_
    refine ldBox H20 0 rfl ?_
    refine Same_ok (NV.mk pk pu pl pt pap pal pac pas pkp pkl pkc pks) (NV.mk rk ru rl rt rap ral rac ras rkp rkl rkc rks) ((op17.ok.chg0 hc18).chg0 hc20) (hv.chg0 hc20) (by omega) fun r w22 hr hc22 => ?_
    have hrt : r = true := hr.2 (by rw [hnd15, hvn])
    subst hrt
    refine condB_i (fun _ => ?_) (fun h => by cases h)
    have H22 := H20.step0 hc22
    have c422 := c420.trans0 hc22
    refine ldBox H22 3 rfl ?_
    refine ldBox (B5.step0 c422) 0 rfl ?_
    refine Same_ok (NV.mk k u l t ap al ac ats kp kl kc ks) (NV.mk xk xu xl xt xap xal xac xas xkp xkl xkc xks) (hd.chg0 H22.chg) (ox.ok.chg0 c422) (by omega) fun r w23 hr hc23 => ?_
    have hrt : r = true := hr.2 (by rw [hD, hxn])
    subst hrt
    refine condB_i (fun _ => ?_) (fun h => by cases h)
    have H23 := H22.step0 hc23
    have c423 := c422.trans0 hc23
    refine H23.ldS 2 rfl rfl ?_
    refine SameInts_ok ((he.chg0 H23.chg).sl) (rq.chg c423 (off_no _)).sl (by omega) fun w24 hc24 => ?_
    simp only [decide_true]
    refine condB_i (fun _ => ?_) (fun h => by cases h)
    have H24 := H23.step0 hc24
    have c424 := c423.trans0 hc24
    refine ⟨_, H24.cell 2 rfl rfl, _, H24.cell 2 rfl rfl, _, H24.cell 2 rfl rfl, _, _, _, H24.cell 2 rfl rfl, _, _, _, H24.cell 2 rfl rfl, _, H24.cell 2 rfl rfl, ?_⟩
    refine ldBox (B7.step0 c424) 0 rfl ?_
    refine Same_ok (NV.mk nk nu nl nt nap nal nac nas nkp nkl nkc nks) (NV.mk sk su sl st sap sal sac sas skp skl skc sks) (he.nd.chg0 H24.chg) (oy.ok.chg0 c424) (by omega) fun r w25 hr hc25 => ?_
    have hrt : r = true := hr.2 (by rw [hZ, hyn])
    subst hrt hJ4
    exact ⟨rfl, H24.chg.trans0 hc25⟩
  clear hJ5
  have hd3 := hd.chg0 H3d.chg
  have he3 := he.chg0 H3d.chg
  have hen3 : NV.Ok w3.drew (NV.mk nk nu nl nt nap nal nac nas nkp nkl nkc nks) := he3.nd
  have hsl3 : Sl w3.drew ep el 1 (rows intC epa) := he3.sl
  have hnil3 : ep = none → el = 0 := he3.nil
  have hcd : (NV.mk k u l t ap al ac ats kp kl kc ks).cells = [.int .i64 k, .string u, .string l, .slice ap al ac, .slice kp kl kc, .string t] := rfl
  have hce : (NV.mk nk nu nl nt nap nal nac nas nkp nkl nkc nks).cells = [.int .i64 nk, .string nu, .string nl, .slice nap nal nac, .slice nkp nkl nkc, .string nt] := rfl
  have hmd7 : (NV.mk k u l t ap al ac ats kp kl kc ks).mea ≤ 10000000 := by omega
  have hme7 : (NV.mk nk nu nl nt nap nal nac nas nkp nkl nkc nks).mea ≤ 10000000 := by omega
  have hel7 : el ≤ 10000000 := by omega
  have S : Sp w3.drew w3.drew [] := ⟨Chg.refl _ _, by simp, by simp, by simp⟩
  refine ldBox H3d 1 rfl ?_
  refine H3d.ldS 0 rfl rfl ?_
  refine ⟨_, H3d.cell 0 rfl rfl, _, H3d.cell 0 rfl rfl, _, H3d.cell 0 rfl rfl, _, _, _, H3d.cell 0 rfl rfl, _, _, _, H3d.cell 0 rfl rfl, _, H3d.cell 0 rfl rfl, ?_⟩
  repeat' first
    | with_reducible refine And.intro ?_ ?_
    | with_reducible refine S.newZ fun b w' S => ?_
    | with_reducible refine S.newB fun b w' S => ?_
    | with_reducible refine S.twin hcd hd3 hmd7 hD fun _ _ _ _ _ _ _ _ _ _ _ _ w' S => ?_
    | with_reducible refine S.twin hce hen3 hme7 hZ fun _ _ _ _ _ _ _ _ _ _ _ _ w' S => ?_
    | (with_reducible apply k5 S
       repeat first
         | exact List.mem_cons_self
         | refine List.mem_cons_of_mem _ ?_)
    | exact (H3d.step0 S.chg).cells 0 rfl 5
    | exact (H3d.step0 S.chg).cells 1 rfl 0
    | exact (H3d.step0 S.chg).cell 0 rfl rfl
    | refine S.stA 0 rfl rfl rfl one1_six fun w' S => ?_
    | refine S.stA 1 rfl rfl rfl one1_six fun w' S => ?_
    | refine S.stA 2 rfl rfl rfl one1_six fun w' S => ?_
    | refine S.stA 3 rfl rfl rfl one1_six fun w' S => ?_
    | refine S.stA 4 rfl rfl rfl one1_six fun w' S => ?_
    | refine S.app 0 rfl hsl3 hnil3 hel7 fun p' c' w' S => ?_
    | refine S.app 1 rfl hsl3 hnil3 hel7 fun p' c' w' S => ?_
    | refine S.app 2 rfl hsl3 hnil3 hel7 fun p' c' w' S => ?_
    | refine S.app 3 rfl hsl3 hnil3 hel7 fun p' c' w' S => ?_
    | refine S.app 4 rfl hsl3 hnil3 hel7 fun p' c' w' S => ?_
end
end Go.Proofs.YtkgfbphdmnapdaaGreatDoor

