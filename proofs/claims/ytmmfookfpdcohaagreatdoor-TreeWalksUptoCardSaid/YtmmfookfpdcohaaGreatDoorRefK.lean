/-
  The document's 'Check': what it asks of each node, and the first error.
-/
import Derived.Test.YtmmfookfpdcohaaGreatDoorBare
set_option linter.unusedVariables false
set_option linter.unusedSimpArgs false
namespace Go.Vc
open Go Go.Lib
theorem any_step {α : Type} {L : List α} {q : Nat} {x : α} (f : α → Bool) (h : L[q]? = some x) : (L.take (q + 1)).any f = ((L.take q).any f || f x) := by
  rw [take_get h, List.any_append, List.any_cons, List.any_nil, Bool.or_false]
theorem any_of {α : Type} {L : List α} {q : Nat} {x : α} {f : α → Bool} (h : L[q]? = some x) (hf : f x = true) : L.any f = true := List.any_eq_true.2 ⟨x, List.mem_of_getElem? h, hf⟩
theorem all_of {α : Type} {L : List α} {f : α → Bool} (h : (L.any fun x => !f x) = false) : L.all f = true := by
  rw [List.all_eq_true]; intro x hx
  have := List.any_eq_false.1 h x hx
  simpa using this
theorem notall_of {α : Type} {L : List α} {f : α → Bool} (h : (L.any fun x => !f x) = true) : L.all f = false := by
  obtain ⟨x, hx, hf⟩ := List.any_eq_true.1 h
  rw [Bool.eq_false_iff]; intro ha
  rw [List.all_eq_true.1 ha x hx] at hf; cases hf
theorem low3_120 : ∀ b : UInt8, low3 b = 120 ↔ (b.toNat = 120 ∨ b.toNat = 88) := by
  intro b
  have h : ∀ n : Fin 256, (low3 (UInt8.ofNat n.val) = 120 ↔ (n.val = 120 ∨ n.val = 88)) := by decide +kernel
  have := h ⟨b.toNat, b.toNat_lt⟩
  simpa using this
theorem low3_109 : ∀ b : UInt8, low3 b = 109 ↔ (b.toNat = 109 ∨ b.toNat = 77) := by
  intro b
  have h : ∀ n : Fin 256, (low3 (UInt8.ofNat n.val) = 109 ↔ (n.val = 109 ∨ n.val = 77)) := by decide +kernel
  have := h ⟨b.toNat, b.toNat_lt⟩
  simpa using this
theorem low3_108 : ∀ b : UInt8, low3 b = 108 ↔ (b.toNat = 108 ∨ b.toNat = 76) := by
  intro b
  have h : ∀ n : Fin 256, (low3 (UInt8.ofNat n.val) = 108 ↔ (n.val = 108 ∨ n.val = 76)) := by decide +kernel
  have := h ⟨b.toNat, b.toNat_lt⟩
  simpa using this
theorem isXml_three (a b c : UInt8) : isXml [a, b, c] = (decide (a.toNat = 120 ∨ a.toNat = 88) && (decide (b.toNat = 109 ∨ b.toNat = 77) && decide (c.toNat = 108 ∨ c.toNat = 76))) := by
  unfold isXml
  rw [Bool.eq_iff_iff]
  simp only [List.map_cons, List.map_nil, decide_eq_true_eq, List.cons.injEq, Bool.and_eq_true, and_true, low3_120, low3_109, low3_108]
theorem isXml_len {l : List UInt8} (h : l.length ≠ 3) : isXml l = false := by
  unfold isXml
  rw [decide_eq_false_iff_not]
  intro e
  have := congrArg List.length e
  rw [List.length_map] at this
  exact h this
/-- Where a word stands in a text. -/
theorem hasS_iff (w : List UInt8) : ∀ s : List UInt8, hasS w s = true ↔ ∃ i, i + w.length ≤ s.length ∧ (s.drop i).take w.length = w
  | [] => by
    simp only [hasS, List.isPrefixOf_iff_prefix, List.prefix_nil, List.length_nil, Nat.le_zero, List.drop_nil, List.take_nil]
    constructor
    · intro h; subst h; exact ⟨0, rfl, rfl⟩
    · rintro ⟨i, _, h⟩; exact h.symm
  | b :: r => by
    simp only [hasS, Bool.or_eq_true, List.isPrefixOf_iff_prefix, hasS_iff w r]
    constructor
    · rintro (h | ⟨i, h1, h2⟩)
      · refine ⟨0, by have := h.length_le; omega, ?_⟩
        rw [List.drop_zero]; exact (List.prefix_iff_eq_take.1 h).symm
      · exact ⟨i + 1, by simp only [List.length_cons]; omega, h2⟩
    · rintro ⟨i, h1, h2⟩
      cases i with
      | zero => left; rw [List.drop_zero] at h2; exact List.prefix_iff_eq_take.2 h2.symm
      | succ i => right; exact ⟨i, by simp only [List.length_cons] at h1; omega, h2⟩
end Go.Vc
namespace Go.Proofs.YtmmfookfpdcohaaGreatDoor
open Go Go.Vc Go.Lib
section
variable {w : World}
/-- An attribute of a list, in a variable of its own. -/
theorem attrVar {w0 : World} {S : Nat → Prop} {Γ : List Blk} (H : Hp w0 S w Γ) {a : Addr} {u0 l0 t0 : ByteArray} (hc : cellsAt w a [.string u0, .string l0, .string t0])
    {K : Nat → World → Prop} (k : ∀ b w', Hp w0 S w' (⟨b, [.string u0, .string l0, .string t0], T_api_Attr⟩ :: Γ) → w.heap.size ≤ b → Chg No w w' → K b w') :
    ldStr w a fun x0 => ldStr w (a.add 1) fun x1 => ldStr w (a.add 2) fun x2 =>
      newB w (.cells (zeroC Tryz.prog T_api_Attr) T_api_Attr) fun b w1 => stN w1 ⟨b, 0, none⟩ ⟨[.string x0, .string x1, .string x2]⟩ 3 fun w2 => K b w2 := by
  refine ldAttr hc ?_
  rw [zeroC_attr]
  refine H.newB fun b w1 H1 hb hc1 => ?_
  refine H1.stN 0 rfl (off := 0) rfl (by simp) (one1_at (u0, l0, t0)) fun w2 H2 hc2 => ?_
  simp only [List.set_cons_zero] at H2
  exact k b w2 H2 hb (hc1.trans hc2 fun x hx e => by subst e; omega)
theorem RefHas_ok {s t : ByteArray} {J : Bool → World → Prop} (hs : s.size ≤ 1000000000) (ht : t.size ≤ 1000) (K : J (hasS (bl t) (bl s)) w) : callJ Tryz.prog fn_ref05_has #[.string s, .string t] w [.one .bool] J := by
  refine c_ref05_has ?_
  unfold VC_ref05_has
  have hsl := bl_len s
  have htl := bl_len t
  refine ⟨fun i w' m => ∃ q : Nat, i = q ∧ q ≤ s.size + 1 ∧ m = s.size + 1 - q ∧ w' = w ∧ ∀ j, j < q → ¬ (j + t.size ≤ s.size ∧ ((bl s).drop j).take t.size = bl t), ⟨_, 0, rfl, Nat.zero_le _, rfl, rfl, by omega⟩, ?_⟩
  rintro i w1 m ⟨q, rfl, hq, rfl, rfl, hno⟩
  have e1 : w64 ((q : Int) + (t.size : Int)) = ((q + t.size : Nat) : Int) := by rw [w64_of] <;> omega
  rw [e1]
  refine condB_d (fun h => ?_) (fun h => ?_)
  · refine slStr_cut (by omega) (by omega) fun z hz _ => ?_
    rw [Nat.add_sub_cancel_left] at hz
    rw [beqS]
    refine condB_d (fun h2 => ?_) (fun h2 => ?_)
    · have : hasS (bl t) (bl s) = true := (hasS_iff _ _).2 ⟨q, by omega, by rw [htl, ← hz, h2]⟩
      rw [this] at K; exact K
    · refine ⟨_, by omega, q + 1, by rw [w64_of] <;> omega, by omega, rfl, rfl, fun j hj => ?_⟩
      rcases Nat.lt_or_ge j q with h3 | h3
      · exact hno j h3
      · obtain rfl : j = q := by omega
        rintro ⟨_, h4⟩
        exact h2 (bl_ext (by rw [hz, h4]))
  · have : hasS (bl t) (bl s) = false := by
      rw [Bool.eq_false_iff]
      intro hh
      obtain ⟨j, h1, h2⟩ := (hasS_iff _ _).1 hh
      rw [htl] at h1 h2
      rw [hsl] at h1
      exact hno j (by omega) ⟨h1, h2⟩
    rw [this] at K; exact K
theorem RefFine_ok {s : ByteArray} {J : Bool → World → Prop} (hs : s.size ≤ 100000000) (K : ∀ w', Chg No w w' → J (fineB s) w') : callJ Tryz.prog fn_ref05_fine #[.string s] w [.one .bool] J := by
  refine c_ref05_fine ?_
  unfold VC_ref05_fine
  refine cvBe fun b c w1 hb _ hc1 => ?_
  refine FaultR_ok hb (by omega) ?_
  have := K w1 hc1
  unfold fineB at this
  rw [show (((flt 0 (bl s)).2 : Int) == 0) = decide ((flt 0 (bl s)).2 = 0) from by rw [Bool.eq_iff_iff, beq_iff_eq, decide_eq_true_eq]; omega]
  exact this
theorem RefCalled_ok {n : Pr} {J : Bool → World → Prop} (h1 : n.1.size ≤ 100000000) (h2 : n.2.size ≤ 100000000) (K : ∀ w', Chg No w w' → J (calledN n) w') : callJ Tryz.prog fn_ref05_called #[.agg ⟨[.string n.1, .string n.2]⟩] w [.one .bool] J := by
  unfold calledN at K
  refine c_ref05_called ?_
  unfold VC_ref05_called
  refine nodeBox (Hp.start w No) fun b w1 H1 hb hc1 => ?_
  simp only [withJ]
  refine H1.ldStr 0 rfl (off := 1) rfl ?_
  refine NameR_ok (by omega) fun w2 hc2 => ?_
  have H2 := H1.step0 hc2
  refine condB_i (fun h => ?_) (fun h => ?_)
  · rw [h, Bool.true_and] at K
    refine H2.ldStr 0 rfl (off := 0) rfl ?_
    refine condB_d (fun h3 => ?_) (fun h3 => ?_)
    · rw [decide_eq_true (show n.1.size ≤ 100 by omega), Bool.true_and] at K
      refine H2.ldStr 0 rfl (off := 0) rfl ?_
      refine RefFine_ok h1 fun w3 hc3 => ?_
      have H3 := H2.step0 hc3
      refine condB_i (fun h4 => ?_) (fun h4 => ?_)
      · rw [h4, Bool.true_and] at K
        refine H3.ldStr 0 rfl (off := 0) rfl ?_
        rw [beqS]
        have := K w3 H3.chg
        rw [decide_not] at this
        exact this
      · rw [h4] at K; exact K w3 H3.chg
    · rw [decide_eq_false (show ¬ n.1.size ≤ 100 by omega)] at K
      exact K w2 H2.chg
  · rw [h] at K
    simp only [Bool.false_and] at K
    exact K w2 H2.chg
theorem RefSize_ok {x : NV} {J : Bool → World → Prop} (hx : x.Ok w) (hm : x.mea ≤ 100000000) (K : ∀ w', Chg No w w' → J (!greatN x.nd) w') : callJ Tryz.prog fn_ref05_size #[.agg ⟨x.cells⟩] w [.one .bool] J := by
  cases hx with
  | @mk k u l t ap al ac ats kp kl kc ks ha hn hac hk hkn hkc hks =>
    have hal := ha.row (even_att ats) (by decide)
    have hmm : al ≤ 100000000 := by
      have := len_atSum ats
      simp only [NV.mea] at hm; omega
    have hg : greatN (NV.mk k u l t ap al ac ats kp kl kc ks).nd = (decide (64 < ats.length) || decide (8192 < t.size) || ats.any (fun a => decide (8192 < a.2.2.size))) := rfl
    rw [hg] at K
    refine c_ref05_size ?_
    unfold VC_ref05_size
    refine nodeBox (Hp.start w No) fun b w1 H1 hb hc1 => ?_
    refine H1.ldS 0 rfl (off := 3) rfl ?_
    refine ⟨fun i w' m => ∃ q : Nat, i = q ∧ q ≤ al ∧ m = al - q ∧ Hp w No w' [⟨b, [.int .i64 k, .string u, .string l, .slice ap al ac, .slice kp kl kc, .string t], T_api_Node⟩] ∧ (ats.take q).any (fun a => decide (8192 < a.2.2.size)) = false, ⟨_, 0, rfl, Nat.zero_le _, rfl, H1, rfl⟩, ?_⟩
    rintro i w2 m ⟨q, rfl, hq, rfl, H2, hno⟩
    refine condB_d (fun hlt => ?_) (fun hge => ?_)
    · refine idx_rows (ha.chg H2.chg (off_no _)) (even_att ats) (by decide) (by omega) hlt fun a y _ hy hcs => ?_
      rw [Int.toNat_natCast] at hy
      refine attrVar H2 hcs fun b4 w4 H4 hb4 hc4 => ?_
      refine H4.ldStr 0 rfl (off := 2) rfl ?_
      refine condB_d (fun h => ?_) (fun h => ?_)
      · have h' : decide (8192 < y.2.2.size) = true := decide_eq_true (by omega)
        rw [any_of (f := fun a : At => decide (8192 < a.2.2.size)) hy h', Bool.or_true] at K
        exact K w4 H4.chg
      · refine ⟨_, by omega, q + 1, by rw [w64_of] <;> omega, by omega, rfl, H2.step0 hc4, ?_⟩
        rw [any_step _ hy, hno, decide_eq_false (by omega)]; rfl
    · rw [List.take_of_length_le (by omega)] at hno
      rw [hno, Bool.or_false] at K
      simp only [withJ]
      refine H2.ldS 0 rfl (off := 3) rfl ?_
      refine condB_d (fun h1 => ?_) (fun h1 => ?_)
      · rw [decide_eq_false (show ¬ 64 < ats.length by omega), Bool.false_or] at K
        refine H2.ldStr 0 rfl (off := 5) rfl ?_
        have := K w2 H2.chg
        rw [← decide_not] at this
        rw [show decide ((t.size : Int) ≤ 8192) = decide (¬ 8192 < t.size) from decide_eq_decide.2 (by omega)]
        exact this
      · rw [decide_eq_true (show 64 < ats.length by omega)] at K
        exact K w2 H2.chg
theorem RefChars_ok {x : NV} {J : Bool → World → Prop} (hx : x.Ok w) (hm : x.mea ≤ 100000000) (K : ∀ w', Chg No w w' → J (charsN x.nd) w') : callJ Tryz.prog fn_ref05_chars #[.agg ⟨x.cells⟩] w [.one .bool] J := by
  cases hx with
  | @mk k u l t ap al ac ats kp kl kc ks ha hn hac hk hkn hkc hks =>
    have hal := ha.row (even_att ats) (by decide)
    have hmm : al ≤ 100000000 := by
      have := len_atSum ats
      simp only [NV.mea] at hm; omega
    have ht : t.size ≤ 100000000 := by simp only [NV.mea] at hm; omega
    have hg : charsN (NV.mk k u l t ap al ac ats kp kl kc ks).nd = (fineB t && ats.all (fun a => fineB a.2.2)) := rfl
    rw [hg] at K
    refine c_ref05_chars ?_
    unfold VC_ref05_chars
    refine nodeBox (Hp.start w No) fun b w1 H1 hb hc1 => ?_
    refine H1.ldS 0 rfl (off := 3) rfl ?_
    refine ⟨fun i w' m => ∃ q : Nat, i = q ∧ q ≤ al ∧ m = al - q ∧ Hp w No w' [⟨b, [.int .i64 k, .string u, .string l, .slice ap al ac, .slice kp kl kc, .string t], T_api_Node⟩] ∧ (ats.take q).any (fun a => !fineB a.2.2) = false, ⟨_, 0, rfl, Nat.zero_le _, rfl, H1, rfl⟩, ?_⟩
    rintro i w2 m ⟨q, rfl, hq, rfl, H2, hno⟩
    refine condB_d (fun hlt => ?_) (fun hge => ?_)
    · refine idx_rows (ha.chg H2.chg (off_no _)) (even_att ats) (by decide) (by omega) hlt fun a y _ hy hcs => ?_
      rw [Int.toNat_natCast] at hy
      have hys : y.2.2.size ≤ 100000000 := by
        have := mem_sum atSize (List.mem_of_getElem? hy)
        unfold atSize at this
        simp only [NV.mea] at hm
        unfold atSize at hm; omega
      refine attrVar H2 hcs fun b4 w4 H4 hb4 hc4 => ?_
      refine H4.ldStr 0 rfl (off := 2) rfl ?_
      refine RefFine_ok hys fun w5 hc5 => ?_
      refine condB_not (fun h => ?_) (fun h => ?_)
      · rw [notall_of (f := fun a : At => fineB a.2.2) (any_of hy (by simp [h])), Bool.and_false] at K
        exact K w5 (H4.step0 hc5).chg
      · refine ⟨_, by omega, q + 1, by rw [w64_of] <;> omega, by omega, rfl, (H2.step0 hc4).step0 hc5, ?_⟩
        rw [any_step _ hy, hno, h]; rfl
    · rw [List.take_of_length_le (by omega)] at hno
      rw [all_of hno, Bool.and_true] at K
      refine H2.ldStr 0 rfl (off := 5) rfl ?_
      exact RefFine_ok ht fun w3 hc3 => K w3 (H2.step0 hc3).chg
theorem RefOrder_ok {x : NV} {J : Bool → World → Prop} (hx : x.Ok w) (hm : x.mea ≤ 100000000) (K : ∀ w', Chg No w w' → J (orderN x.nd) w') : callJ Tryz.prog fn_ref05_order #[.agg ⟨x.cells⟩] w [.one .bool] J := by
  cases hx with
  | @mk k u l t ap al ac ats kp kl kc ks ha hn hac hk hkn hkc hks =>
    have hal := ha.row (even_att ats) (by decide)
    have hmm : al ≤ 100000000 := by
      have := len_atSum ats
      simp only [NV.mea] at hm; omega
    have hg : orderN (NV.mk k u l t ap al ac ats kp kl kc ks).nd = ascB ats := rfl
    rw [hg] at K
    refine c_ref05_order ?_
    unfold VC_ref05_order
    refine nodeBox (Hp.start w No) fun b w1 H1 hb hc1 => ?_
    refine ⟨fun i w' m => ∃ q : Nat, i = ((q + 1 : Nat) : Int) ∧ q ≤ al ∧ m = al - q ∧ Hp w No w' [⟨b, [.int .i64 k, .string u, .string l, .slice ap al ac, .slice kp kl kc, .string t], T_api_Node⟩] ∧ ∀ j x y, j + 1 < q + 1 → ats[j]? = some x → ats[j + 1]? = some y → aLt x y = true, ⟨_, 0, rfl, Nat.zero_le _, rfl, H1, by omega⟩, ?_⟩
    rintro i w2 m ⟨q, rfl, hq, rfl, H2, hup⟩
    refine H2.ldS 0 rfl (off := 3) rfl ?_
    refine condB_d (fun hlt => ?_) (fun hge => ?_)
    · have H2d := H2.drew
      have e1 : w64 (((q + 1 : Nat) : Int) - 1) = (q : Int) := by rw [w64_of] <;> omega
      rw [e1]
      refine H2d.ldS 0 rfl (off := 3) rfl ?_
      refine idx_rows (ha.chg H2d.chg (off_no _)) (even_att ats) (by decide) (by omega) (by omega) fun a x _ hx hcs => ?_
      rw [Int.toNat_natCast] at hx
      refine ldStr_i (cellsAt_head hcs) (ldStr_i (hcs 1 _ rfl) ?_)
      refine H2d.ldS 0 rfl (off := 3) rfl ?_
      refine idx_rows (ha.chg H2d.chg (off_no _)) (even_att ats) (by decide) (by omega) (by omega) fun a' y _ hy hcs' => ?_
      rw [Int.toNat_natCast] at hy
      refine ldStr_i (cellsAt_head hcs') (ldStr_i (hcs' 1 _ rfl) ?_)
      refine Before5_ok (a := (x.1, x.2.1)) (b := (y.1, y.2.1)) fun w4 hc4 => ?_
      have H4 := H2d.step0 hc4
      refine condB_not (fun h => ?_) (fun h => ?_)
      · have : ascB ats = false := by
          rw [Bool.eq_false_iff]; intro hasc
          have h2 := asc_get.1 hasc q x y hx hy
          have h3 : aLt x y = false := h
          rw [h3] at h2; cases h2
        rw [this] at K; exact K w4 H4.chg
      · refine ⟨_, by omega, q + 1, by rw [w64_of] <;> omega, by omega, rfl, H4, ?_⟩
        intro j x' y' hj hx' hy'
        rcases Nat.lt_or_ge (j + 1) (q + 1) with h1 | h1
        · exact hup j x' y' h1 hx' hy'
        · obtain rfl : j = q := by omega
          rw [hx] at hx'; rw [hy] at hy'
          obtain rfl := Option.some.inj hx'
          obtain rfl := Option.some.inj hy'
          exact h
    · have : ascB ats = true := asc_get.2 fun j x y hx hy => hup j x y (by have := (List.getElem?_eq_some_iff.1 hy).1; omega) hx hy
      rw [this] at K
      exact K w2 H2.chg
end
end Go.Proofs.YtmmfookfpdcohaaGreatDoor

