/-
  What Check asks of each node: sizes, names, chars, order, texts.
-/
import Derived.Test.YtmmfookfpdcohaaDoorTreeE
import Derived.Test.YtmmfookfpdcohaaDoorSortW
import Derived.Test.YtmmfookfpdcohaaDoorVTree2
set_option linter.unusedVariables false
set_option linter.unusedSimpArgs false
namespace Go.Vc
open Go Go.Lib
theorem decAny {α : Type} {l : List α} {q : α → Bool} {r : Int} (hr : 0 ≤ r ↔ l.any q = true) : decide (r ≥ 0) = l.any q := by
  rw [Bool.eq_iff_iff, decide_eq_true_eq]; exact hr
theorem not_all {α : Type} (l : List α) (q : α → Bool) : (l.any fun x => !q x) = !l.all q := by
  rw [List.not_all_eq_any_not]
end Go.Vc
namespace Go.Proofs.YtmmfookfpdcohaaDoor
open Go Go.Vc Go.Lib
section
variable {w : World}
theorem AnyAttr_great {p : Option Addr} {l c : Nat} {L : List At} {J : Bool → World → Prop} (h : Sl w p l 3 (rows atc L)) (hm : l ≤ 100000000) (K : ∀ w', Chg No w w' → J (L.any fun a => decide (8192 < a.2.2.size)) w') :
    callJ Tryd.prog fn_slices_ContainsFunc_sl_api_Attr_api_Attr #[.slice p l c, .func (.func 42) #[] #[]] w [.one .bool] J := by
  refine c_slices_ContainsFunc_sl_api_Attr_api_Attr_f1_42 ?_
  unfold VC_slices_ContainsFunc_sl_api_Attr_api_Attr_f1_42
  refine c_slices_IndexFunc_sl_api_Attr_api_Attr_f1_42 ?_
  show IdxAttr (fun cs w' K => callJ Tryd.prog fn_tree_great_1 #[.agg ⟨cs⟩] w' [.one .bool] K) p l w _
  refine IdxAttr_ok (q := fun a => decide (8192 < a.2.2.size)) h hm (fun x hx w' K' hc k => ?_) fun r w' hc hr => by rw [decAny hr]; exact K w' hc
  refine c_tree_great_1 ?_
  unfold VC_tree_great_1
  refine nodeBox (Hp.start w' No) fun b w1 H1 hb hc1 => ?_
  refine H1.ldStr 0 rfl (off := 2) rfl ?_
  rw [show decide ((x.2.2.size : Int) > 8192) = decide (8192 < x.2.2.size) from decide_eq_decide.2 (by omega)]
  exact k w1 (hc.trans0 hc1)
theorem Great_ok {x : NV} {J : Bool → World → Prop} (hx : x.Ok w) (hm : x.mea ≤ 100000000) (K : ∀ w', Chg No w w' → J (greatN x.nd) w') : callJ Tryd.prog fn_tree_great #[.agg ⟨x.cells⟩] w [.one .bool] J := by
  cases hx with
  | @mk k u l t ap al ac ats kp kl kc ks ha hn hac hk hkn hkc hks =>
    have hal := ha.row (even_att ats) (by decide)
    have hmm : al ≤ 100000000 := by
      have := len_atSum ats
      simp only [NV.mea] at hm; omega
    have hg : greatN (NV.mk k u l t ap al ac ats kp kl kc ks).nd = (decide (64 < ats.length) || decide (8192 < t.size) || ats.any (fun a => decide (8192 < a.2.2.size))) := rfl
    rw [hg] at K
    refine c_tree_great ?_
    unfold VC_tree_great
    refine nodeBox (Hp.start w No) fun b w1 H1 hb hc1 => ?_
    simp only [withJ]
    refine H1.ldS 0 rfl (off := 3) rfl ?_
    refine condB_d (fun h1 => ?_) (fun h1 => ?_)
    · rw [decide_eq_true (show 64 < ats.length by omega)] at K; exact K w1 hc1
    rw [decide_eq_false (show ¬ 64 < ats.length by omega)] at K
    refine H1.ldStr 0 rfl (off := 5) rfl ?_
    refine condB_d (fun h2 => ?_) (fun h2 => ?_)
    · rw [decide_eq_true (show 8192 < t.size by omega)] at K; exact K w1 hc1
    rw [decide_eq_false (show ¬ 8192 < t.size by omega)] at K
    refine H1.ldS 0 rfl (off := 3) rfl ?_
    exact AnyAttr_great (ha.chg hc1 (off_no _)) hmm fun w2 hc2 => K w2 (hc1.trans0 hc2)
theorem cvBe {s : ByteArray} {K : Option Addr → Nat → Nat → World → Prop} (k : ∀ b c w', Bytes w' (some ⟨b, 0, none⟩) s.size (bl s) → s.size ≤ c → Chg No w w' → K (some ⟨b, 0, none⟩) s.size c w') :
    cvJ Tryd.prog T_string T_sl_uint8 (.string s) w K := by
  refine ⟨_, _, _, _, Lib.run_convert_string_bytes (P := Tryd.prog) w T_string T_sl_uint8 T_uint8 s (u := .string) (by kernel_rfl) (by kernel_rfl) (by kernel_rfl), k _ _ _ ⟨by rw [bcells_length, bl_len, Nat.mul_one], .inr ⟨_, rfl, ?_⟩⟩ (grownCap_ge _ _ _ _) ?_⟩
  · intro j v hv
    unfold bcells at hv
    rw [List.getElem?_map, Option.map_eq_some_iff] at hv
    obtain ⟨b, hb, rfl⟩ := hv
    have hj : j < s.size := by rw [← bl_len]; exact (List.getElem?_eq_some_iff.1 hb).1
    have := Lib.bytesWorld_cell w T_uint8 s j hj
    rw [Addr.add_mk, Nat.zero_add, this, List.getD_eq_getElem?_getD, hb]; rfl
  · exact ⟨rfl, rfl, rfl, by rw [Lib.bytesWorld_size]; omega, fun b hb _ => Lib.bytesWorld_at_old w T_uint8 s b hb⟩
theorem Bad_ok {s : ByteArray} {J : Bool → World → Prop} (T : Tabs w) (hs : s.size ≤ 100000000) (K : ∀ w', Chg No w w' → J (!fineB s) w') : callJ Tryd.prog fn_tree_bad #[.string s] w [.one .bool] J := by
  refine c_tree_bad ?_
  unfold VC_tree_bad
  refine cvBe fun b c w1 hB hle hc1 => ?_
  refine FaultC_ok hB hle (by omega) (T.chg hc1) fun w2 hc2 => ?_
  have e : ((((flt 0 (bl s)).2 : Nat) : Int) != 0) = !fineB s := by
    unfold fineB
    by_cases h : (flt 0 (bl s)).2 = 0
    · rw [h]; rfl
    · rw [decide_eq_false h, bne_iff_ne.2 (by omega)]; rfl
  rw [e]
  exact K w2 (hc1.trans0 hc2)
theorem WrongName_ok {n : Pr} {J : Bool → World → Prop} (T : Tabs w) (h1 : n.1.size ≤ 100000000) (h2 : n.2.size ≤ 100000000) (K : ∀ w', Chg No w w' → J (!calledN n) w') : callJ Tryd.prog fn_tree_wrongName #[.agg ⟨pr n⟩] w [.one .bool] J := by
  refine c_tree_wrongName ?_
  unfold VC_tree_wrongName
  refine nodeBox (Hp.start w No) fun b w1 H1 hb hc1 => ?_
  simp only [withJ]
  refine H1.ldStr 0 rfl (off := 1) rfl ?_
  refine NameC_ok (T.chg hc1) fun w2 hc2 => ?_
  have c02 := hc1.trans0 hc2
  unfold calledN at K
  refine condB_not (fun hn => ?_) (fun hn => ?_)
  · rw [hn] at K; exact K w2 c02
  rw [hn, Bool.true_and] at K
  have H2 := H1.step0 hc2
  refine H2.ldStr 0 rfl (off := 0) rfl ?_
  refine condB_d (fun h => ?_) (fun h => ?_)
  · rw [decide_eq_false (show ¬ n.1.size ≤ 100 by omega)] at K; exact K w2 c02
  rw [decide_eq_true (show n.1.size ≤ 100 by omega), Bool.true_and] at K
  refine H2.ldStr 0 rfl (off := 0) rfl ?_
  refine Bad_ok (T.chg c02) h1 fun w3 hc3 => ?_
  have c03 := c02.trans0 hc3
  refine condB_not (fun hf => ?_) (fun hf => ?_)
  · rw [hf] at K; exact K w3 c03
  rw [hf, Bool.true_and] at K
  refine (H2.step0 hc3).ldStr 0 rfl (off := 0) rfl ?_
  rw [beqS]
  have := K w3 c03
  rw [show (!decide (n.1 ≠ kXMLNS)) = decide (n.1 = kXMLNS) from by by_cases h : n.1 = kXMLNS <;> simp [h]] at this
  exact this
theorem AnyAttr_mis {p : Option Addr} {l c : Nat} {L : List At} {J : Bool → World → Prop} (T : Tabs w) (h : Sl w p l 3 (rows atc L)) (hm : l ≤ 100000000) (hz : ∀ a ∈ L, atSize a ≤ 100000000) (K : ∀ w', Chg No w w' → J (!L.all attrN) w') :
    callJ Tryd.prog fn_slices_ContainsFunc_sl_api_Attr_api_Attr #[.slice p l c, .func (.func 44) #[] #[]] w [.one .bool] J := by
  refine c_slices_ContainsFunc_sl_api_Attr_api_Attr_f1_44 ?_
  unfold VC_slices_ContainsFunc_sl_api_Attr_api_Attr_f1_44
  refine c_slices_IndexFunc_sl_api_Attr_api_Attr_f1_44 ?_
  show IdxAttr (fun cs w' K => callJ Tryd.prog fn_tree_misnamed_1 #[.agg ⟨cs⟩] w' [.one .bool] K) p l w _
  rw [← not_all] at K
  refine IdxAttr_ok (q := fun a => !attrN a) h hm (fun x hx w' K' hc k => ?_) fun r w' hc hr => by rw [decAny hr]; exact K w' hc
  have hzx := hz x hx
  unfold atSize at hzx
  refine c_tree_misnamed_1 ?_
  unfold VC_tree_misnamed_1
  refine nodeBox (Hp.start w' No) fun b w1 H1 hb hc1 => ?_
  simp only [withJ]
  refine H1.ldStr 0 rfl (off := 0) rfl ?_
  refine H1.ldStr 0 rfl (off := 1) rfl ?_
  refine WrongName_ok (n := (x.1, x.2.1)) ((T.chg hc).chg hc1) (by simp only; omega) (by simp only; omega) fun w2 hc2 => ?_
  have c2 := (hc.trans0 hc1).trans0 hc2
  unfold attrN nameOf at k
  refine condB_not (fun hf => ?_) (fun hf => ?_)
  · rw [hf] at k; exact k w2 c2
  rw [hf, Bool.true_and] at k
  have H2 := H1.step0 hc2
  refine H2.ldStr 0 rfl (off := 0) rfl ?_
  refine H2.ldStr 0 rfl (off := 1) rfl ?_
  have := k w2 c2
  rw [Bool.not_not] at this
  simp only [beqS, Bool.and_true]
  rw [show (decide (x.1 = ByteArray.empty) && decide (x.2.1 = ⟨#[120, 109, 108, 110, 115]⟩)) = decide (x.1 = emptyB ∧ x.2.1 = kXn) from (Bool.decide_and _ _).symm]
  exact this
theorem Misnamed_ok {x : NV} {J : Bool → World → Prop} (T : TT w) (hx : x.Ok w) (hm : x.mea ≤ 100000000) (K : ∀ w', Chg No w w' → J (!nameP x.nd) w') : callJ Tryd.prog fn_tree_misnamed #[.agg ⟨x.cells⟩] w [.one .bool] J := by
  cases hx with
  | @mk k u l t ap al ac ats kp kl kc ks ha hn hac hk hkn hkc hks =>
    have hal := ha.row (even_att ats) (by decide)
    have hmm : al ≤ 100000000 := by
      have := len_atSum ats
      simp only [NV.mea] at hm; omega
    have hz : ∀ a ∈ ats, atSize a ≤ 100000000 := fun a h => by
      have := mem_sum atSize h
      simp only [NV.mea] at hm; omega
    have hu : u.size ≤ 100000000 ∧ l.size ≤ 100000000 := by simp only [NV.mea] at hm; omega
    have hg : nameP (NV.mk k u l t ap al ac ats kp kl kc ks).nd = (if k = 2 then calledN (u, l) && ats.all attrN else if k = 5 then nm (bl l) && !isXml (bl l) else true) := rfl
    rw [hg] at K
    refine c_tree_misnamed ?_
    unfold VC_tree_misnamed
    refine nodeBox (Hp.start w No) fun b w1 H1 hb hc1 => ?_
    refine H1.ldI 0 rfl (off := 0) rfl ?_
    refine condB_eq (fun e2 => ?_) (fun e2 => ?_)
    · rw [if_pos e2] at K
      simp only [withJ]
      refine H1.ldStr 0 rfl (off := 1) rfl ?_
      refine H1.ldStr 0 rfl (off := 2) rfl ?_
      refine WrongName_ok (n := (u, l)) (T.tabs.chg hc1) hu.1 hu.2 fun w2 hc2 => ?_
      have c2 := hc1.trans0 hc2
      refine condB_not (fun hf => ?_) (fun hf => ?_)
      · rw [hf] at K; exact K w2 c2
      rw [hf, Bool.true_and] at K
      refine (H1.step0 hc2).ldS 0 rfl (off := 3) rfl ?_
      exact AnyAttr_mis (T.tabs.chg c2) (ha.chg c2 (off_no _)) hmm hz fun w3 hc3 => K w3 (c2.trans0 hc3)
    · rw [if_neg e2] at K
      refine condB_eq (fun e5 => ?_) (fun e5 => ?_)
      · rw [if_pos e5] at K
        simp only [withJ]
        refine H1.ldStr 0 rfl (off := 2) rfl ?_
        refine NameC_ok (T.tabs.chg hc1) fun w2 hc2 => ?_
        have c2 := hc1.trans0 hc2
        refine condB_not (fun hf => ?_) (fun hf => ?_)
        · rw [hf] at K; exact K w2 c2
        rw [hf, Bool.true_and, Bool.not_not] at K
        refine (H1.step0 hc2).ldStr 0 rfl (off := 2) rfl ?_
        exact EqFold_ok (T.chg c2).fold (by omega) fun w3 hc3 => K w3 (c2.trans0 hc3)
      · rw [if_neg e5] at K; exact K w1 hc1
theorem AnyAttr_spo {p : Option Addr} {l c : Nat} {L : List At} {J : Bool → World → Prop} (T : Tabs w) (h : Sl w p l 3 (rows atc L)) (hm : l ≤ 100000000) (hz : ∀ a ∈ L, atSize a ≤ 100000000) (K : ∀ w', Chg No w w' → J (!L.all fun a => fineB a.2.2) w') :
    callJ Tryd.prog fn_slices_ContainsFunc_sl_api_Attr_api_Attr #[.slice p l c, .func (.func 49) #[] #[]] w [.one .bool] J := by
  refine c_slices_ContainsFunc_sl_api_Attr_api_Attr_f1_49 ?_
  unfold VC_slices_ContainsFunc_sl_api_Attr_api_Attr_f1_49
  refine c_slices_IndexFunc_sl_api_Attr_api_Attr_f1_49 ?_
  show IdxAttr (fun cs w' K => callJ Tryd.prog fn_tree_spoilt_1 #[.agg ⟨cs⟩] w' [.one .bool] K) p l w _
  rw [← not_all] at K
  refine IdxAttr_ok (q := fun a => !fineB a.2.2) h hm (fun x hx w' K' hc k => ?_) fun r w' hc hr => by rw [decAny hr]; exact K w' hc
  have hzx := hz x hx
  unfold atSize at hzx
  refine c_tree_spoilt_1 ?_
  unfold VC_tree_spoilt_1
  refine nodeBox (Hp.start w' No) fun b w1 H1 hb hc1 => ?_
  refine H1.ldStr 0 rfl (off := 2) rfl ?_
  exact Bad_ok ((T.chg hc).chg hc1) (by omega) fun w2 hc2 => k w2 ((hc.trans0 hc1).trans0 hc2)
theorem Spoilt_ok {x : NV} {J : Bool → World → Prop} (T : TT w) (hx : x.Ok w) (hm : x.mea ≤ 100000000) (K : ∀ w', Chg No w w' → J (!charsN x.nd) w') : callJ Tryd.prog fn_tree_spoilt #[.agg ⟨x.cells⟩] w [.one .bool] J := by
  cases hx with
  | @mk k u l t ap al ac ats kp kl kc ks ha hn hac hk hkn hkc hks =>
    have hal := ha.row (even_att ats) (by decide)
    have hmm : al ≤ 100000000 := by
      have := len_atSum ats
      simp only [NV.mea] at hm; omega
    have hz : ∀ a ∈ ats, atSize a ≤ 100000000 := fun a h => by
      have := mem_sum atSize h
      simp only [NV.mea] at hm; omega
    have ht : t.size ≤ 100000000 := by simp only [NV.mea] at hm; omega
    have hg : charsN (NV.mk k u l t ap al ac ats kp kl kc ks).nd = (fineB t && ats.all fun a => fineB a.2.2) := rfl
    rw [hg] at K
    refine c_tree_spoilt ?_
    unfold VC_tree_spoilt
    refine nodeBox (Hp.start w No) fun b w1 H1 hb hc1 => ?_
    simp only [withJ]
    refine H1.ldStr 0 rfl (off := 5) rfl ?_
    refine Bad_ok (T.tabs.chg hc1) ht fun w2 hc2 => ?_
    have c2 := hc1.trans0 hc2
    refine condB_not (fun hf => ?_) (fun hf => ?_)
    · rw [hf] at K; exact K w2 c2
    rw [hf, Bool.true_and] at K
    refine (H1.step0 hc2).ldS 0 rfl (off := 3) rfl ?_
    exact AnyAttr_spo (T.tabs.chg c2) (ha.chg c2 (off_no _)) hmm hz fun w3 hc3 => K w3 (c2.trans0 hc3)
end
end Go.Proofs.YtmmfookfpdcohaaDoor

/-
  Order; the order of attributes; what texts may be; all nodes in a row; Check; Size and Depth.
-/

set_option linter.unusedVariables false
set_option linter.unusedSimpArgs false
namespace Go.Vc
open Go Go.Lib
def cmpS (x y : ByteArray) : Int := if sLt x y = true then -1 else if x = y then 0 else 1
/-- How two names stand. -/
def ordZ (a b : Pr) : Int := if cmpS a.1 b.1 ≠ 0 then cmpS a.1 b.1 else cmpS a.2 b.2
theorem cmpS_cases (x y : ByteArray) : (cmpS x y = -1 ∧ sLt x y = true ∧ x ≠ y ∧ sLt y x = false) ∨ (cmpS x y = 0 ∧ x = y ∧ sLt x y = false) ∨ (cmpS x y = 1 ∧ sLt x y = false ∧ x ≠ y ∧ sLt y x = true) := by
  unfold cmpS
  by_cases h : sLt x y = true
  · left; rw [if_pos h]
    refine ⟨rfl, h, ?_, sLt_asym h⟩
    rintro rfl; rw [sLt_irr] at h; cases h
  · rw [if_neg h]
    by_cases h2 : x = y
    · right; left; rw [if_pos h2]; exact ⟨rfl, h2, by simpa using h⟩
    · right; right; rw [if_neg h2]
      refine ⟨rfl, by simpa using h, h2, ?_⟩
      rcases sLt_tri x y with h3 | h3 | h3
      · exact absurd h3 h
      · exact absurd h3 h2
      · exact h3
theorem ordZ_lt (a b : Pr) : ordZ a b < 0 ↔ nLt a b = true := by
  rw [nLt_iff]
  unfold ordZ
  rcases cmpS_cases a.1 b.1 with ⟨h1, h2, h3, h4⟩ | ⟨h1, h2, h3⟩ | ⟨h1, h2, h3, h4⟩
  · rw [if_pos (by omega), h1]; simp [h2]
  · rw [if_neg (by omega)]
    rcases cmpS_cases a.2 b.2 with ⟨g1, g2, g3, g4⟩ | ⟨g1, g2, g3⟩ | ⟨g1, g2, g3, g4⟩
    · rw [g1]; simp [h2, g2]
    · rw [g1]; simp [h3, g3]
    · rw [g1]; simp [h3, g2]
  · rw [if_pos (by omega), h1]; simp [h2, h3]
theorem ordZ_zero (a b : Pr) : ordZ a b = 0 ↔ a = b := by
  unfold ordZ
  rcases cmpS_cases a.1 b.1 with ⟨h1, h2, h3, h4⟩ | ⟨h1, h2, h3⟩ | ⟨h1, h2, h3, h4⟩
  · rw [if_pos (by omega)]; exact ⟨fun h => by omega, fun h => absurd (by rw [h]) h3⟩
  · rw [if_neg (by omega)]
    rcases cmpS_cases a.2 b.2 with ⟨g1, g2, g3, g4⟩ | ⟨g1, g2, g3⟩ | ⟨g1, g2, g3, g4⟩
    · exact ⟨fun h => by omega, fun h => absurd (by rw [h]) g3⟩
    · exact ⟨fun _ => Prod.ext h2 g2, fun _ => g1⟩
    · exact ⟨fun h => by omega, fun h => absurd (by rw [h]) g3⟩
  · rw [if_pos (by omega)]; exact ⟨fun h => by omega, fun h => absurd (by rw [h]) h3⟩
theorem ordZ_one (a b : Pr) : ordZ a b = -1 ∨ ordZ a b = 0 ∨ ordZ a b = 1 := by
  unfold ordZ
  rcases cmpS_cases a.1 b.1 with ⟨h1, _⟩ | ⟨h1, _⟩ | ⟨h1, _⟩ <;> rcases cmpS_cases a.2 b.2 with ⟨g1, _⟩ | ⟨g1, _⟩ | ⟨g1, _⟩ <;> (split <;> omega)
theorem ordZ_swap (a b : Pr) : ordZ a b = - ordZ b a := by
  have h1 := ordZ_lt a b
  have h2 := ordZ_lt b a
  have z1 := ordZ_zero a b
  have z2 := ordZ_zero b a
  have o1 := ordZ_one a b
  have o2 := ordZ_one b a
  rcases nLt_tri a b with h | h | h
  · have := nLt_asym h
    have : ¬ ordZ b a < 0 := by rw [h2, this]; decide
    have : ordZ a b < 0 := h1.2 h
    have : ordZ b a ≠ 0 := fun e => by have := z2.1 e; subst this; rw [nLt_irr] at h; cases h
    omega
  · have := z1.2 h; have := z2.2 h.symm; omega
  · have := nLt_asym h
    have : ¬ ordZ a b < 0 := by rw [h1, this]; decide
    have : ordZ b a < 0 := h2.2 h
    have : ordZ a b ≠ 0 := fun e => by have := z1.1 e; subst this; rw [nLt_irr] at h; cases h
    omega
/-- Which neighbours don't rise. -/
theorem asc_get : ∀ {l : List At}, ascB l = true ↔ ∀ i a b, l[i]? = some a → l[i + 1]? = some b → aLt a b = true
  | [] => by simp [ascB]
  | [a] => by
    simp only [ascB, true_iff]
    intro i x y h1 h2
    simp at h2
  | a :: b :: r => by
    have ih := asc_get (l := b :: r)
    unfold ascB
    rw [Bool.and_eq_true, ih]
    constructor
    · rintro ⟨h1, h2⟩ i x y hx hy
      cases i with
      | zero => simp at hx hy; subst hx; subst hy; exact h1
      | succ i => exact h2 i x y (by simpa using hx) (by simpa using hy)
    · intro h
      exact ⟨h 0 a b rfl rfl, fun i x y hx hy => h (i + 1) x y (by simpa using hx) (by simpa using hy)⟩
theorem two_get : ∀ {l : List Nd}, twoTexts l = true ↔ ∃ (i : Nat) (a b : Nd), l[i]? = some a ∧ l[i + 1]? = some b ∧ a.kind = 3 ∧ b.kind = 3
  | [] => by simp [twoTexts]
  | [a] => by simp [twoTexts]
  | a :: b :: r => by
    have ih := two_get (l := b :: r)
    unfold twoTexts
    rw [Bool.or_eq_true, ih, Bool.and_eq_true, decide_eq_true_eq, decide_eq_true_eq]
    constructor
    · rintro (⟨h1, h2⟩ | ⟨i, x, y, hx, hy, h1, h2⟩)
      · exact ⟨0, a, b, rfl, rfl, h1, h2⟩
      · exact ⟨i + 1, x, y, by simpa using hx, by simpa using hy, h1, h2⟩
    · rintro ⟨i, x, y, hx, hy, h1, h2⟩
      cases i with
      | zero => simp at hx hy; subst hx; subst hy; exact .inl ⟨h1, h2⟩
      | succ i => exact .inr ⟨i, x, y, by simpa using hx, by simpa using hy, h1, h2⟩
end Go.Vc
namespace Go.Proofs.YtmmfookfpdcohaaDoor
open Go Go.Vc Go.Lib
section
variable {w : World}
theorem Order_ok {a b : Pr} {J : Int → World → Prop} (k : ∀ w', Chg No w w' → J (ordZ a b) w') :
    callJ Tryd.prog fn_tree_Order #[.agg ⟨pr a⟩, .agg ⟨pr b⟩] w [.one (.int .i64)] J := by
  refine c_tree_Order ?_
  unfold VC_tree_Order
  refine (Hp.start w No).newB fun b2 w1 H1 _ _ => ?_
  refine H1.newB fun b3 w2 H2 _ _ => ?_
  have H2d := H2.drew
  refine H2d.ldStr 1 rfl (off := 0) rfl ?_
  refine H2d.ldStr 0 rfl (off := 0) rfl ?_
  refine H2d.ldStr 1 rfl (off := 1) rfl ?_
  refine H2d.ldStr 0 rfl (off := 1) rfl ?_
  refine CompareS_ok ⟨H2d.cell 0 rfl (off := 1) rfl, H2d.cell 1 rfl (off := 1) rfl, CompareS_ok ?_⟩
  generalize hr1 : (if sLt a.1 b.1 = true then (-1 : Int) else if a.1 = b.1 then 0 else 1) = r1
  generalize hr2 : (if sLt a.2 b.2 = true then (-1 : Int) else if a.2 = b.2 then 0 else 1) = r2
  have f1 : cmpS a.1 b.1 = r1 := hr1
  have f2 : cmpS a.2 b.2 = r2 := hr2
  refine newRow (sz := 1) (n := 2) rfl (by decide) fun b19 w5 hr5 _ hc5 => ?_
  refine c_cmp_Or_int ?_
  unfold VC_cmp_Or_int
  have hcell := (cellsAt_heap (off := 0) (e := T_int) (fz := (0, 0)) (b := b19) (cs := [.int .i64 r1, .int .i64 r2]) (w := w5) (by
    obtain ⟨b', rest, e1, e2, _, _, e3⟩ := hr5.some0 (by decide)
    cases e1
    simp at e3
    subst e3
    simpa using e2))
  have fin : ∀ r, (r = r1 ∧ r1 ≠ 0 ∨ r1 = 0 ∧ r = r2) → J r w5 := by
    intro r hr
    have := k w5 (H2d.chg.trans0 hc5)
    unfold ordZ at this
    rw [f1, f2] at this
    rcases hr with ⟨rfl, h⟩ | ⟨h, rfl⟩
    · rw [if_pos h] at this; exact this
    · rw [if_neg (by omega)] at this; exact this
  refine ⟨fun x w' t => ∃ i : Nat, x = i ∧ i ≤ 2 ∧ t = 2 - i ∧ w' = w5 ∧ (1 ≤ i → r1 = 0) ∧ (2 ≤ i → r2 = 0), ⟨_, 0, rfl, by decide, rfl, rfl, by omega, by omega⟩, ?_⟩
  rintro x w' t ⟨i, rfl, hi, rfl, rfl, h1, h2⟩
  refine condB_d (fun hlt => ?_) (fun hge => ?_)
  · refine idxA_i (by omega) hlt ?_
    rw [Addr.add_mk, Int.toNat_natCast, Nat.zero_add, Nat.mul_one]
    have hi2 : i = 0 ∨ i = 1 := by omega
    rcases hi2 with rfl | rfl
    · refine ldI_i (n := r1) (by have := hcell 0 _ rfl; rwa [add_zero'] at this) ?_
      refine condB_ne (fun hne => fin r1 (.inl ⟨rfl, hne⟩)) (fun he => ⟨_, by omega, 1, by rw [w64_of] <;> decide, by omega, rfl, rfl, fun _ => he, fun h => by omega⟩)
    · refine ldI_i (n := r2) (by have := hcell 1 _ rfl; rwa [Addr.add_mk] at this) ?_
      refine condB_ne (fun hne => fin r2 (.inr ⟨h1 (by omega), rfl⟩)) (fun he => ⟨_, by omega, 2, by rw [w64_of] <;> decide, by omega, rfl, rfl, fun _ => h1 (by omega), fun _ => he⟩)
  · exact fin 0 (.inr ⟨h1 (by omega), (h2 (by omega)).symm⟩)
theorem Unordered_ok {x : NV} {J : Bool → World → Prop} (hx : x.Ok w) (hm : x.mea ≤ 100000000) (K : ∀ w', Chg No w w' → J (!orderN x.nd) w') : callJ Tryd.prog fn_tree_unordered #[.agg ⟨x.cells⟩] w [.one .bool] J := by
  cases hx with
  | @mk k u l t ap al ac ats kp kl kc ks ha hn hac hk hkn hkc hks =>
    have hal := ha.row (even_att ats) (by decide)
    have hmm : al ≤ 100000000 := by
      have := len_atSum ats
      simp only [NV.mea] at hm; omega
    have hg : orderN (NV.mk k u l t ap al ac ats kp kl kc ks).nd = ascB ats := rfl
    rw [hg] at K
    refine c_tree_unordered ?_
    unfold VC_tree_unordered
    refine nodeBox (Hp.start w No) fun b w1 H1 hb hc1 => ?_
    refine H1.ldS 0 rfl (off := 3) rfl ?_
    refine ⟨fun i w' m => ∃ q : Nat, i = q ∧ q ≤ al ∧ m = al - q ∧ Hp w No w' [⟨b, [.int .i64 k, .string u, .string l, .slice ap al ac, .slice kp kl kc, .string t], T_api_Node⟩] ∧ ∀ j x y, j + 1 < q → ats[j]? = some x → ats[j + 1]? = some y → aLt x y = true, ⟨_, 0, rfl, Nat.zero_le _, rfl, H1, by omega⟩, ?_⟩
    rintro i w2 m ⟨q, rfl, hq, rfl, H2, hup⟩
    refine condB_d (fun hlt => ?_) (fun hge => ?_)
    · refine withJ_i fun J28 hJ28 => ?_
      have k28 : ∀ (bb : Bool) (w3 : World), Hp w No w3 [⟨b, [.int .i64 k, .string u, .string l, .slice ap al ac, .slice kp kl kc, .string t], T_api_Node⟩] →
          (bb = true → ascB ats = false) → (bb = false → ∀ x y, 0 < q → ats[q - 1]? = some x → ats[q]? = some y → aLt x y = true) → J28 bb w3 := by
        intro bb w3 H3 g1 g2; subst hJ28
        refine condB_i (fun h => ?_) (fun h => ?_)
        · have := g1 h; rw [this] at K; exact K w3 H3.chg
        · refine ⟨_, by omega, q + 1, by rw [w64_of] <;> omega, by omega, rfl, H3, ?_⟩
          intro j x y hj hx hy
          rcases Nat.lt_or_ge (j + 1) q with h1 | h1
          · exact hup j x y h1 hx hy
          · have hjq : j + 1 = q := by omega
            exact g2 h x y (by omega) (by rw [← hjq]; exact hx) (by rw [← hjq]; exact hy)
      clear hJ28
      refine condB_d (fun hpos => ?_) (fun hz => k28 _ _ H2.drew (fun h => by cases h) (fun _ x y h => by omega))
      have H2d := H2.drew
      have e1 : w64 ((q : Int) - 1) = ((q - 1 : Nat) : Int) := by rw [w64_of] <;> omega
      rw [e1]
      refine H2d.ldS 0 rfl (off := 3) rfl ?_
      refine idx_rows (ha.chg H2d.chg (off_no _)) (even_att ats) (by decide) (by omega) (by omega) fun a x _ hx hcs => ?_
      rw [Int.toNat_natCast] at hx
      refine ldStr_i (cellsAt_head hcs) (ldStr_i (hcs 1 _ rfl) ?_)
      refine H2d.ldS 0 rfl (off := 3) rfl ?_
      refine idx_rows (ha.chg H2d.chg (off_no _)) (even_att ats) (by decide) (by omega) (by omega) fun a' y _ hy hcs' => ?_
      rw [Int.toNat_natCast] at hy
      refine ldStr_i (cellsAt_head hcs') (ldStr_i (hcs' 1 _ rfl) ?_)
      refine Order_ok (a := (x.1, x.2.1)) (b := (y.1, y.2.1)) fun w4 hc4 => ?_
      have hlt2 := ordZ_lt (x.1, x.2.1) (y.1, y.2.1)
      refine k28 _ _ (H2d.step0 hc4) (fun h => ?_) (fun h x' y' _ hx' hy' => ?_)
      · have h' := of_decide_eq_true h
        rw [Bool.eq_false_iff]
        intro hasc
        have := asc_get.1 hasc (q - 1) x y hx (by rw [show q - 1 + 1 = q from by omega]; exact hy)
        have := hlt2.2 this
        omega
      · rw [hx] at hx'; rw [hy] at hy'
        obtain rfl := Option.some.inj hx'
        obtain rfl := Option.some.inj hy'
        have h' := of_decide_eq_false h
        exact hlt2.1 (by omega)
    · have : ascB ats = true := asc_get.2 fun j x y hx hy => hup j x y (by have := (List.getElem?_eq_some_iff.1 hy).1; omega) hx hy
      rw [this] at K
      exact K w2 H2.chg
theorem WrongText_ok {x : NV} {J : Bool → World → Prop} (T : TT w) (hx : x.Ok w) (hm : x.mea ≤ 100000000) (K : ∀ w', Chg No w w' → J (!textN x.nd) w') : callJ Tryd.prog fn_tree_wrongText #[.agg ⟨x.cells⟩] w [.one .bool] J := by
  cases hx with
  | @mk k u l t ap al ac ats kp kl kc ks ha hn hac hk hkn hkc hks =>
    have hkl := hk.row (even_node ks) (by decide)
    have hmm : kl ≤ 100000000 := by
      have := len_meaL ks
      simp only [NV.mea] at hm; omega
    have ht : t.size ≤ 100000000 := by simp only [NV.mea] at hm; omega
    rw [nd_kids] at K
    unfold textN at K
    change ∀ w', Chg No w w' → J (!(!twoTexts (ks.map NV.nd) && textQ k t)) w' at K
    have kk : ∀ {i : Nat} {y : NV}, ks[i]? = some y → (ks.map NV.nd)[i]? = some y.nd := fun h => by rw [List.getElem?_map, h]; rfl
    refine c_tree_wrongText ?_
    unfold VC_tree_wrongText
    refine nodeBox (Hp.start w No) fun b w1 H1 hb hc1 => ?_
    refine H1.ldS 0 rfl (off := 4) rfl ?_
    refine ⟨fun i w' m => ∃ q : Nat, i = q ∧ q ≤ kl ∧ m = kl - q ∧ Hp w No w' [⟨b, [.int .i64 k, .string u, .string l, .slice ap al ac, .slice kp kl kc, .string t], T_api_Node⟩] ∧ ∀ j x y, j + 1 < q → ks[j]? = some x → ks[j + 1]? = some y → ¬ (x.kd = 3 ∧ y.kd = 3), ⟨_, 0, rfl, Nat.zero_le _, rfl, H1, by omega⟩, ?_⟩
    rintro i w2 m ⟨q, rfl, hq, rfl, H2, hup⟩
    refine condB_d (fun hlt => ?_) (fun hge => ?_)
    · refine idx_rows (hk.chg H2.chg (off_no _)) (even_node ks) (by decide) (by omega) hlt fun a y _ hy hcs => ?_
      rw [Int.toNat_natCast] at hy
      cases y with
      | mk yk yu yl yt yap yal yac yas ykp ykl ykc yks =>
      refine nodeVar H2 hcs fun b4 w4 H4 _ _ => ?_
      have H4b : Hp w No w4 [⟨b, [.int .i64 k, .string u, .string l, .slice ap al ac, .slice kp kl kc, .string t], T_api_Node⟩] := H4.sub (.cons _ (.refl _))
      refine withJ_i fun J29 hJ29 => ?_
      have k29 : ∀ (bb : Bool), (bb = true → twoTexts (ks.map NV.nd) = true) → (bb = false → ∀ x, 0 < q → ks[q - 1]? = some x → ¬ (x.kd = 3 ∧ yk = 3)) → J29 bb w4 := by
        intro bb g1 g2; subst hJ29
        refine condB_i (fun h => ?_) (fun h => ?_)
        · have := g1 h; rw [this] at K; exact K w4 H4.chg
        · refine ⟨_, by omega, q + 1, by rw [w64_of] <;> omega, by omega, rfl, H4b, ?_⟩
          intro j x y' hj hx hy'
          rcases Nat.lt_or_ge (j + 1) q with h1 | h1
          · exact hup j x y' h1 hx hy'
          · have hjq : j + 1 = q := by omega
            rw [hjq, hy] at hy'
            obtain rfl := Option.some.inj hy'
            exact g2 h x (by omega) (by rw [← hjq]; exact hx)
      clear hJ29
      refine condB_d (fun hpos => ?_) (fun hz => k29 _ (fun h => by cases h) (fun _ x h => by omega))
      refine H4.ldI 0 rfl (off := 0) rfl ?_
      refine condB_eq (fun h3 => ?_) (fun h3 => k29 _ (fun h => by cases h) (fun _ x _ _ h => h3 h.2))
      refine H4.ldS 1 rfl (off := 4) rfl ?_
      have e1 : w64 ((q : Int) - 1) = ((q - 1 : Nat) : Int) := by rw [w64_of] <;> omega
      rw [e1]
      refine idx_rows (hk.chg H4.chg (off_no _)) (even_node ks) (by decide) (by omega) (by omega) fun a' x _ hx hcs' => ?_
      rw [Int.toNat_natCast] at hx
      cases x with
      | mk xk xu xl xt xap xal xac xas xkp xkl xkc xks =>
      refine ldI_i (cellsAt_head hcs') ?_
      refine k29 _ (fun h => ?_) (fun h x' _ hx' => ?_)
      · have h' : xk = 3 := by simpa using h
        exact two_get.2 ⟨q - 1, _, _, kk hx, by rw [show q - 1 + 1 = q from by omega]; exact kk hy, by rw [nd_kind]; exact h', by rw [nd_kind]; exact h3⟩
      · rw [hx] at hx'
        obtain rfl := Option.some.inj hx'
        have h' : xk ≠ 3 := by simpa using h
        exact fun hh => h' hh.1
    · have htt : twoTexts (ks.map NV.nd) = false := by
        rw [Bool.eq_false_iff]
        intro h
        obtain ⟨j, x, y, hx, hy, h1, h2⟩ := two_get.1 h
        rw [List.getElem?_map, Option.map_eq_some_iff] at hx hy
        obtain ⟨x', hx', rfl⟩ := hx
        obtain ⟨y', hy', rfl⟩ := hy
        rw [nd_kind] at h1 h2
        exact hup j x' y' (by have := (List.getElem?_eq_some_iff.1 hy').1; omega) hx' hy' ⟨h1, h2⟩
      rw [htt] at K
      rw [Bool.not_false, Bool.true_and] at K
      change ∀ w', Chg No w w' → J (!textQ k t) w' at K
      unfold textQ at K
      refine H2.ldI 0 rfl (off := 0) rfl ?_
      refine condB_eq (fun e3 => ?_) (fun e3 => ?_)
      · rw [if_pos e3] at K
        refine H2.ldStr 0 rfl (off := 5) rfl ?_
        rw [beqS]
        have := K w2 H2.chg
        rw [show (!decide (t ≠ emptyB)) = decide (t = emptyB) from by by_cases h : t = emptyB <;> simp [h]] at this
        exact this
      rw [if_neg e3] at K
      refine condB_eq (fun e4 => ?_) (fun e4 => ?_)
      · rw [if_pos e4] at K
        simp only [withJ]
        refine H2.ldStr 0 rfl (off := 5) rfl ?_
        refine Contains_ok (T.chg H2.chg) ht ?_
        refine condB_i (fun h => ?_) (fun h => ?_)
        · have : hasS [45, 45] (bl t) = true := h
          rw [this] at K; exact K w2 H2.chg
        have h0 : hasS [45, 45] (bl t) = false := h
        rw [h0] at K
        refine H2.ldStr 0 rfl (off := 5) rfl ?_
        refine HasSuffix_ok ht ?_
        refine condB_d (fun h => ?_) (fun h => ?_)
        · rw [decide_eq_false (fun hh => hh h)] at K
          simp only [Bool.and_false, Bool.not_false] at K
          exact K w2 H2.chg
        rw [decide_eq_true h] at K
        refine H2.ldStr 0 rfl (off := 5) rfl ?_
        refine Contains_ok (T.chg H2.chg) ht ?_
        have := K w2 H2.chg
        simp only [Bool.not_false, Bool.true_and, Bool.and_true, Bool.not_not] at this
        exact this
      rw [if_neg e4] at K
      refine condB_eq (fun e5 => ?_) (fun e5 => ?_)
      · rw [if_pos e5] at K
        have H2d := H2.drew
        simp only [withJ]
        refine H2d.ldStr 0 rfl (off := 5) rfl ?_
        refine Contains_ok (T.chg H2d.chg) ht ?_
        refine condB_i (fun h => ?_) (fun h => ?_)
        · have : hasS [63, 62] (bl t) = true := h
          rw [this] at K; exact K _ H2d.chg
        have h0 : hasS [63, 62] (bl t) = false := h
        rw [h0] at K
        refine H2d.ldStr 0 rfl (off := 5) rfl ?_
        refine Contains_ok (T.chg H2d.chg) ht ?_
        refine condB_i (fun h => ?_) (fun h => ?_)
        · have h1 : hasS [13] (bl t) = true := h
          rw [h1] at K
          exact K _ H2d.chg
        have h1 : hasS [13] (bl t) = false := h
        rw [h1] at K
        refine H2d.ldStr 0 rfl (off := 5) rfl ?_
        refine H2d.ldStr 0 rfl (off := 5) rfl ?_
        refine TrimLeft_ok fun w13 hc13 => ?_
        have H13 := H2d.step0 hc13
        refine ⟨H13.cell 0 rfl rfl, ?_⟩
        rw [beqS]
        have := K w13 H13.chg
        simp only [Bool.not_false, Bool.true_and] at this
        rw [← trim_same] at this
        rw [show decide (t = mkB (Lib.trimLeftS (bl t) [32, 9, 10])) = decide (bl t = Lib.trimLeftS (bl t) [32, 9, 10]) from decide_eq_decide.2 ⟨fun h => by conv => lhs; rw [h, bl_mkB], fun h => bl_ext (by rw [bl_mkB]; exact h)⟩]
        exact this
      · rw [if_neg e5] at K
        exact K w2 H2.chg
end
end Go.Proofs.YtmmfookfpdcohaaDoor

