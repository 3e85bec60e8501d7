/-
  All nodes in a row; Check; Size and Depth.
-/
import Derived.Test.YtkgfbphdmnapdaaGreatDoorTreeC
set_option linter.unusedVariables false
set_option linter.unusedSimpArgs false
namespace Go.Vc
open Go Go.Lib
theorem flatL_take {ks : List NV} {q : Nat} {x : NV} (h : ks[q]? = some x) : NV.flatL (ks.take (q + 1)) = NV.flatL (ks.take q) ++ x.flat := by
  rw [take_get h, flatL_append]; simp [NV.flatL]
theorem len_flatL : ∀ ks : List NV, ks.length ≤ (NV.flatL ks).length
  | [] => Nat.le_refl _
  | x :: r => by
    have := len_flatL r
    have h1 : 1 ≤ x.flat.length := by cases x; simp [NV.flat]
    simp only [NV.flatL, List.length_append, List.length_cons]; omega
theorem flatL_le : ∀ (ks : List NV) (q : Nat), (NV.flatL (ks.take q)).length ≤ (NV.flatL ks).length
  | [], q => by simp
  | x :: r, 0 => by simp [NV.flatL]
  | x :: r, q + 1 => by
    have := flatL_le r q
    simp only [List.take_succ_cons, NV.flatL, List.length_append]; omega
theorem countP_take {α : Type} {p : α → Bool} {l : List α} {q : Nat} {x : α} (h : l[q]? = some x) : (l.take (q + 1)).countP p = (l.take q).countP p + (if p x then 1 else 0) := by
  rw [take_get h, List.countP_append, List.countP_cons, List.countP_nil]; simp
end Go.Vc
namespace Go.Proofs.YtkgfbphdmnapdaaGreatDoor
open Go Go.Vc Go.Lib
section
variable {w : World}
theorem AnyNode_odd {p : Option Addr} {l c : Nat} {L : List NV} {J : Bool → World → Prop} (T : TT w) (h : Sl w p l 6 (rows NV.cells L)) (hm : l ≤ 100000000) (hk : ∀ x ∈ L, x.Ok w ∧ x.mea ≤ 100000000) (K : ∀ w', Chg No w w' → J (L.any fun x => oddP x.nd) w') :
    callJ Tryz.prog fn_slices_ContainsFunc_sl_api_Node_api_Node #[.slice p l c, .func (.func 29) #[] #[]] w [.one .bool] J := by
  refine c_slices_ContainsFunc_sl_api_Node_api_Node_f1_29 ?_
  unfold VC_slices_ContainsFunc_sl_api_Node_api_Node_f1_29
  refine c_slices_IndexFunc_sl_api_Node_api_Node_f1_29 ?_
  show IdxNode (fun cs w' K => callJ Tryz.prog fn_tree_odd #[.agg ⟨cs⟩] w' [.one .bool] K) p l w _
  refine IdxNode_ok (q := fun x => oddP x.nd) h hm (fun x hx w' K' hc k => ?_) fun r w' hc hr => by rw [decAny hr]; exact K w' hc
  obtain ⟨hok, hmx⟩ := hk x hx
  exact Odd_ok (hok.chg0 hc) hmx fun w'' c2 => k w'' (hc.trans0 c2)
theorem AnyNode_great {p : Option Addr} {l c : Nat} {L : List NV} {J : Bool → World → Prop} (T : TT w) (h : Sl w p l 6 (rows NV.cells L)) (hm : l ≤ 100000000) (hk : ∀ x ∈ L, x.Ok w ∧ x.mea ≤ 100000000) (K : ∀ w', Chg No w w' → J (L.any fun x => greatN x.nd) w') :
    callJ Tryz.prog fn_slices_ContainsFunc_sl_api_Node_api_Node #[.slice p l c, .func (.func 31) #[] #[]] w [.one .bool] J := by
  refine c_slices_ContainsFunc_sl_api_Node_api_Node_f1_31 ?_
  unfold VC_slices_ContainsFunc_sl_api_Node_api_Node_f1_31
  refine c_slices_IndexFunc_sl_api_Node_api_Node_f1_31 ?_
  show IdxNode (fun cs w' K => callJ Tryz.prog fn_tree_great #[.agg ⟨cs⟩] w' [.one .bool] K) p l w _
  refine IdxNode_ok (q := fun x => greatN x.nd) h hm (fun x hx w' K' hc k => ?_) fun r w' hc hr => by rw [decAny hr]; exact K w' hc
  obtain ⟨hok, hmx⟩ := hk x hx
  exact Great_ok (hok.chg0 hc) hmx fun w'' c2 => k w'' (hc.trans0 c2)
theorem AnyNode_mis {p : Option Addr} {l c : Nat} {L : List NV} {J : Bool → World → Prop} (T : TT w) (h : Sl w p l 6 (rows NV.cells L)) (hm : l ≤ 100000000) (hk : ∀ x ∈ L, x.Ok w ∧ x.mea ≤ 100000000) (K : ∀ w', Chg No w w' → J (L.any fun x => !nameP x.nd) w') :
    callJ Tryz.prog fn_slices_ContainsFunc_sl_api_Node_api_Node #[.slice p l c, .func (.func 32) #[] #[]] w [.one .bool] J := by
  refine c_slices_ContainsFunc_sl_api_Node_api_Node_f1_32 ?_
  unfold VC_slices_ContainsFunc_sl_api_Node_api_Node_f1_32
  refine c_slices_IndexFunc_sl_api_Node_api_Node_f1_32 ?_
  show IdxNode (fun cs w' K => callJ Tryz.prog fn_tree_misnamed #[.agg ⟨cs⟩] w' [.one .bool] K) p l w _
  refine IdxNode_ok (q := fun x => !nameP x.nd) h hm (fun x hx w' K' hc k => ?_) fun r w' hc hr => by rw [decAny hr]; exact K w' hc
  obtain ⟨hok, hmx⟩ := hk x hx
  exact Misnamed_ok (T.chg hc) (hok.chg0 hc) hmx fun w'' c2 => k w'' (hc.trans0 c2)
theorem AnyNode_spo {p : Option Addr} {l c : Nat} {L : List NV} {J : Bool → World → Prop} (T : TT w) (h : Sl w p l 6 (rows NV.cells L)) (hm : l ≤ 100000000) (hk : ∀ x ∈ L, x.Ok w ∧ x.mea ≤ 100000000) (K : ∀ w', Chg No w w' → J (L.any fun x => !charsN x.nd) w') :
    callJ Tryz.prog fn_slices_ContainsFunc_sl_api_Node_api_Node #[.slice p l c, .func (.func 33) #[] #[]] w [.one .bool] J := by
  refine c_slices_ContainsFunc_sl_api_Node_api_Node_f1_33 ?_
  unfold VC_slices_ContainsFunc_sl_api_Node_api_Node_f1_33
  refine c_slices_IndexFunc_sl_api_Node_api_Node_f1_33 ?_
  show IdxNode (fun cs w' K => callJ Tryz.prog fn_tree_spoilt #[.agg ⟨cs⟩] w' [.one .bool] K) p l w _
  refine IdxNode_ok (q := fun x => !charsN x.nd) h hm (fun x hx w' K' hc k => ?_) fun r w' hc hr => by rw [decAny hr]; exact K w' hc
  obtain ⟨hok, hmx⟩ := hk x hx
  exact Spoilt_ok (T.chg hc) (hok.chg0 hc) hmx fun w'' c2 => k w'' (hc.trans0 c2)
theorem AnyNode_uno {p : Option Addr} {l c : Nat} {L : List NV} {J : Bool → World → Prop} (T : TT w) (h : Sl w p l 6 (rows NV.cells L)) (hm : l ≤ 100000000) (hk : ∀ x ∈ L, x.Ok w ∧ x.mea ≤ 100000000) (K : ∀ w', Chg No w w' → J (L.any fun x => !orderN x.nd) w') :
    callJ Tryz.prog fn_slices_ContainsFunc_sl_api_Node_api_Node #[.slice p l c, .func (.func 34) #[] #[]] w [.one .bool] J := by
  refine c_slices_ContainsFunc_sl_api_Node_api_Node_f1_34 ?_
  unfold VC_slices_ContainsFunc_sl_api_Node_api_Node_f1_34
  refine c_slices_IndexFunc_sl_api_Node_api_Node_f1_34 ?_
  show IdxNode (fun cs w' K => callJ Tryz.prog fn_tree_unordered #[.agg ⟨cs⟩] w' [.one .bool] K) p l w _
  refine IdxNode_ok (q := fun x => !orderN x.nd) h hm (fun x hx w' K' hc k => ?_) fun r w' hc hr => by rw [decAny hr]; exact K w' hc
  obtain ⟨hok, hmx⟩ := hk x hx
  exact Unordered_ok (hok.chg0 hc) hmx fun w'' c2 => k w'' (hc.trans0 c2)
theorem AnyNode_wro {p : Option Addr} {l c : Nat} {L : List NV} {J : Bool → World → Prop} (T : TT w) (h : Sl w p l 6 (rows NV.cells L)) (hm : l ≤ 100000000) (hk : ∀ x ∈ L, x.Ok w ∧ x.mea ≤ 100000000) (K : ∀ w', Chg No w w' → J (L.any fun x => !textN x.nd) w') :
    callJ Tryz.prog fn_slices_ContainsFunc_sl_api_Node_api_Node #[.slice p l c, .func (.func 35) #[] #[]] w [.one .bool] J := by
  refine c_slices_ContainsFunc_sl_api_Node_api_Node_f1_35 ?_
  unfold VC_slices_ContainsFunc_sl_api_Node_api_Node_f1_35
  refine c_slices_IndexFunc_sl_api_Node_api_Node_f1_35 ?_
  show IdxNode (fun cs w' K => callJ Tryz.prog fn_tree_wrongText #[.agg ⟨cs⟩] w' [.one .bool] K) p l w _
  refine IdxNode_ok (q := fun x => !textN x.nd) h hm (fun x hx w' K' hc k => ?_) fun r w' hc hr => by rw [decAny hr]; exact K w' hc
  obtain ⟨hok, hmx⟩ := hk x hx
  exact WrongText_ok (T.chg hc) (hok.chg0 hc) hmx fun w'' c2 => k w'' (hc.trans0 c2)
/-- One node more. -/
theorem appN {w0 wa : World} {p : Option Addr} {l c : Nat} {L : List NV} {x : NV} {K : Option Addr → Nat → Nat → World → Prop} (hr : Row wa T_api_Node 6 p l c (rows NV.cells L)) (hlm : l + 1 ≤ 1000000000) (hf : fresh w0 p) (hc : Chg No w0 wa)
    (k : ∀ p' c' w', Row w' T_api_Node 6 p' (l + 1) c' (rows NV.cells (L ++ [x])) → fresh w0 p' → Chg No w0 w' → Chg (isB p) wa w' → K p' (l + 1) c' w') :
    newB wa (.cells ⟨x.cells⟩ T_api_Node) fun b w1 => appJ Tryz.prog T_sl_api_Node T_sl_api_Node (.slice p l c) (.slice (some ⟨b, 0, none⟩) 1 1) w1 K := by
  refine newRow (sz := 6) (n := 1) (by cases x; rfl) (by decide) fun b w1 hr1 hb hc1 => ?_
  refine appJ_row slT_node (hr.chg hc1 (off_no _)) hr1.sl (one1_node x) (by simp) (by omega) (by simp only [maxLen]; omega) fun p' c' w' hr' hc' hf' => ?_
  have hc2 : Chg (isB p) wa w' := (hc1.mono fun _ _ h => h.elim).trans hc' fun b hb h => h
  refine k p' c' w' ?_ ?_ (hc.trans hc2 fun b hb ⟨a, ha, e⟩ => by have := hf a ha; omega) hc2
  · rw [rows_append, rows_cons, rows_nil, List.append_nil]; exact hr'
  · rcases hf' with rfl | hf'
    · exact hf
    · intro a ha; have := hf' a ha; have := hc.size; have := hc1.size; omega
theorem Flat_ok : ∀ (v : NV) {w0 w : World} {p : Option Addr} {l c : Nat} {L : List NV} {J : Option Addr → Nat → Nat → World → Prop}, v.Ok w0 → Row w T_api_Node 6 p l c (rows NV.cells L) → fresh w0 p → Chg No w0 w → l + v.flat.length ≤ 100000000 →
    (∀ p' c' w', Row w' T_api_Node 6 p' (l + v.flat.length) c' (rows NV.cells (L ++ v.flat)) → fresh w0 p' → Chg No w0 w' → J p' (l + v.flat.length) c' w') →
    callJ Tryz.prog fn_tree_flat #[.agg ⟨v.cells⟩, .slice p l c] w [.one .slice] J := by
  intro v
  induction v using NV.ind with
  | h k u lo t ap al ac ats kp kl kc ks ih =>
    intro w0 w p l c L J hv hr hf hc hm K
    cases hv with
    | mk ha hn hac hk hkn hkc hks =>
    have hkl := hk.row (even_node ks) (by decide)
    have hfl : (NV.mk k u lo t ap al ac ats kp kl kc ks).flat = NV.mk k u lo t ap al ac ats kp kl kc ks :: NV.flatL ks := rfl
    rw [hfl, List.length_cons] at hm
    rw [hfl] at K
    have hkf := len_flatL ks
    refine c_tree_flat ?_
    unfold VC_tree_flat
    refine nodeBox (Hp.start w No) fun b w1 H1 hb hc1 => ?_
    refine ldBox H1 0 rfl ?_
    refine ⟨rfl, ?_⟩
    refine appN (w0 := w0) (x := .mk k u lo t ap al ac ats kp kl kc ks) (hr.chg hc1 (off_no _)) (by omega) hf (hc.trans0 hc1) fun p3 c3 w3 hr3 hf3 hc3 hcb => ?_
    have hcell : w3.cell? ⟨b, 4, none⟩ = some (.slice kp kl kc) := hcb.cell (H1.cell 0 rfl rfl) (by
      rintro ⟨a, ha, e⟩
      have := hr.lt a ha
      simp only at e; omega)
    refine ⟨_, _, _, hcell, ?_⟩
    refine ⟨fun lp ll lc i w' m => ∃ q : Nat, i = q ∧ q ≤ kl ∧ m = kl - q ∧ ll = l + 1 + (NV.flatL (ks.take q)).length ∧ Row w' T_api_Node 6 lp ll lc (rows NV.cells (L ++ [.mk k u lo t ap al ac ats kp kl kc ks] ++ NV.flatL (ks.take q))) ∧ fresh w0 lp ∧ Chg No w0 w',
      ⟨_, 0, rfl, Nat.zero_le _, rfl, rfl, by rw [List.take_zero]; simpa [NV.flatL] using hr3, hf3, hc3⟩, ?_⟩
    rintro lp ll lc i w4 m ⟨q, rfl, hq, rfl, rfl, hr4, hf4, hc4⟩
    refine condB_d (fun hlt => ?_) (fun hge => ?_)
    · refine idx_rows (hk.chg hc4 (off_no _)) (even_node ks) (by decide) (by omega) hlt fun a y _ hy hcs => ?_
      rw [Int.toNat_natCast] at hy
      have hymem := List.mem_of_getElem? hy
      have ihy := @ih y hymem
      have hyok := hks y hymem
      have hft := flatL_take hy
      have hle := flatL_le ks (q + 1)
      rw [hft, List.length_append] at hle
      cases y with
      | mk yk yu yl yt yap yal yac yas ykp ykl ykc yks =>
      refine nodeVar (Hp.start w4 No) hcs fun b6 w6 H6 _ hc6 => ?_
      refine ldBox H6 0 rfl ?_
      refine ihy hyok (hr4.chg hc6 (off_no _)) hf4 (hc4.trans0 hc6) (by omega) fun p7 c7 w7 hr7 hf7 hc7 => ?_
      refine ⟨_, by omega, q + 1, by rw [w64_of] <;> omega, by omega, rfl, ?_, ?_, hf7, hc7⟩
      · rw [hft, List.length_append]; omega
      · rw [hft, ← List.append_assoc]; exact hr7
    · have hqk : q = kl := by omega
      subst hqk
      rw [List.take_of_length_le (by omega)] at hr4 ⊢
      have e1 : l + 1 + (NV.flatL ks).length = l + (NV.mk k u lo t ap al ac ats kp q kc ks :: NV.flatL ks).length := by rw [List.length_cons]; omega
      rw [e1] at hr4 ⊢
      exact K lp lc w4 (by rw [List.append_assoc] at hr4; exact hr4) hf4 hc4
theorem any_nd (L : List NV) (q : Nd → Bool) : (L.any fun x => q x.nd) = (L.map NV.nd).any q := by rw [List.any_map]; rfl
theorem notall_nd (L : List NV) (q : Nd → Bool) : (L.any fun x => !q x.nd) = !(L.map NV.nd).all q := by rw [any_nd L (fun x => !q x), not_all]
/-- What is wrong with a document. -/
theorem Check_ok {x : NV} {J : Int → World → Prop} (T : TT w) (hx : x.Ok w) (hm : x.mea ≤ 10000000) (K : ∀ w', Chg No w w' → J (checkL x.nd) w') : callJ Tryz.prog fn_tree_Check #[.agg ⟨x.cells⟩] w [.one (.int .i64)] J := by
  have hx0 := hx
  have hfl := flat_len x
  have hok : ∀ y ∈ x.flat, y.Ok w ∧ y.mea ≤ 100000000 := fun y hy => ⟨flat_mem hy hx, by have := flat_mea hy; omega⟩
  have hfn := flat_nd x
  have hkind : x.nd.kind = x.kd := nd_kind x
  cases hx with
  | @mk k u l t ap al ac ats kp kl kc ks ha hn hac hk hkn hkc hks =>
    have hkl := hk.row (even_node ks) (by decide)
    refine c_tree_Check ?_
    unfold VC_tree_Check
    refine nodeBox (Hp.start w No) fun b w1 H1 hb hc1 => ?_
    refine ldBox H1 0 rfl ?_
    refine Flat_ok (.mk k u l t ap al ac ats kp kl kc ks) (w0 := w1) (w := w1) (L := []) (hx0.chg0 hc1) (Row.nil _ _ _) (by rintro a ⟨⟩) (Chg.refl _ _) (by omega) fun p2 c2 w2 hr2 hf2 hc2 => ?_
    rw [Nat.zero_add, List.nil_append] at hr2
    rw [Nat.zero_add]
    generalize hL : (NV.mk k u l t ap al ac ats kp kl kc ks).flat = L at *
    have c02 := hc1.trans0 hc2
    have H2 := H1.step0 hc2
    have hokc : ∀ {wx : World}, Chg No w wx → ∀ y ∈ L, y.Ok wx ∧ y.mea ≤ 100000000 := fun hcx y hy => ⟨(hok y hy).1.chg0 hcx, (hok y hy).2⟩
    have hLl : L.length ≤ 10000000 := by omega
    generalize hd : (NV.mk k u l t ap al ac ats kp kl kc ks).nd = d at *
    have hdl : d.flat.length = L.length := by rw [← hfn, List.length_map]
    have hkd : d.kind = k := by rw [hkind]; rfl
    have hdk : d.kids = ks.map NV.nd := by rw [← hd, nd_kids]; rfl
    unfold checkL at K
    refine withJ_i fun J9 hJ9 => ?_
    have k9 : ∀ (bb : Bool) (w3 : World), (bb = true ↔ ¬ d.kind = 1 ∨ d.flat.all kindG = false) → Chg No w2 w3 → J9 bb w3 := by
      intro bb w3 hbb hc3; subst hJ9
      have c03 := c02.trans0 hc3
      refine meetI hbb (fun h => ?_) (fun h => ?_)
      · rw [if_pos h] at K; exact K w3 c03
      rw [if_neg h] at K
      have hall : d.flat.all kindG = true := by
        cases hh : d.flat.all kindG with
        | true => rfl
        | false => exact absurd (.inr hh) h
      have H3 := H2.step0 hc3
      refine ldBox H3 0 rfl ?_
      refine Deep_ok (.mk k u l t ap al ac ats kp kl kc ks) (hx0.chg0 c03) (by omega) (by decide) (by decide) fun w4 hc4 => ?_
      have c04 := c03.trans0 hc4
      have H4 := H3.step0 hc4
      rw [hd]
      refine condB_i (fun h => ?_) (fun h => ?_)
      · rw [if_pos h] at K; exact K w4 c04
      rw [if_neg (by rw [h]; decide)] at K
      have hr4 := (hr2.chg hc3 (off_no _)).chg hc4 (off_no _)
      refine withJ_i fun J20 hJ20 => ?_
      have k20 : ∀ (bb : Bool) (w5 : World), (bb = true ↔ 2001 < d.flat.length ∨ d.flat.any greatN = true) → Chg No w4 w5 → J20 bb w5 := by
        intro bb w5 hbb hc5; subst hJ20
        have c05 := c04.trans0 hc5
        refine meetI hbb (fun h => ?_) (fun h => ?_)
        · rw [if_pos h] at K; exact K w5 c05
        rw [if_neg h] at K
        have hr5 := hr4.chg hc5 (off_no _)
        refine AnyNode_mis (T.chg c05) hr5.sl (by omega) (hokc c05) fun w6 hc6 => ?_
        have c06 := c05.trans0 hc6
        have hr6 := hr5.chg hc6 (off_no _)
        have hname : (L.any fun x => !nameP x.nd) = !d.flat.all nameG := by
          rw [notall_nd, hfn]
          congr 1
          rw [Bool.eq_iff_iff, List.all_eq_true, List.all_eq_true]
          exact ⟨fun h y hy => by rw [← name_eq (List.all_eq_true.1 hall y hy)]; exact h y hy, fun h y hy => by rw [name_eq (List.all_eq_true.1 hall y hy)]; exact h y hy⟩
        rw [hname]
        refine condB_not (fun h => ?_) (fun h => ?_)
        · rw [if_pos h] at K; exact K w6 c06
        rw [if_neg (by rw [h]; decide)] at K
        refine AnyNode_spo (T.chg c06) hr6.sl (by omega) (hokc c06) fun w7 hc7 => ?_
        have c07 := c06.trans0 hc7
        have hr7 := hr6.chg hc7 (off_no _)
        rw [notall_nd, hfn]
        refine condB_not (fun h => ?_) (fun h => ?_)
        · rw [if_pos h] at K; exact K w7 c07
        rw [if_neg (by rw [h]; decide)] at K
        refine AnyNode_uno (T.chg c07) hr7.sl (by omega) (hokc c07) fun w8 hc8 => ?_
        have c08 := c07.trans0 hc8
        have hr8 := hr7.chg hc8 (off_no _)
        rw [notall_nd, hfn]
        refine condB_not (fun h => ?_) (fun h => ?_)
        · rw [if_pos h] at K; exact K w8 c08
        rw [if_neg (by rw [h]; decide)] at K
        refine AnyNode_wro (T.chg c08) hr8.sl (by omega) (hokc c08) fun w9 hc9 => ?_
        have c09 := c08.trans0 hc9
        rw [notall_nd, hfn]
        refine condB_not (fun h => ?_) (fun h => ?_)
        · rw [if_pos h] at K; exact K w9 c09
        rw [if_neg (by rw [h]; decide)] at K
        have H9 : Hp w No w9 [⟨b, [.int .i64 k, .string u, .string l, .slice ap al ac, .slice kp kl kc, .string t], T_api_Node⟩] := ((((H4.step0 hc5).step0 hc6).step0 hc7).step0 hc8).step0 hc9
        refine H9.ldS 0 rfl (off := 4) rfl ?_
        have hkm := len_meaL ks
        have hmm : kl ≤ 10000000 := by simp only [NV.mea] at hm; omega
        refine ⟨fun e i w' m => ∃ q : Nat, i = q ∧ q ≤ kl ∧ m = kl - q ∧ Chg No w w' ∧ e = (((ks.take q).countP fun y => decide (y.kd = 2) : Nat) : Int), ⟨_, 0, rfl, Nat.zero_le _, rfl, c09, rfl⟩, ?_⟩
        rintro e i w10 m ⟨q, rfl, hq, rfl, hc10, rfl⟩
        have hcl := List.countP_le_length (p := fun y : NV => decide (y.kd = 2)) (l := ks.take q)
        rw [List.length_take] at hcl
        refine condB_d (fun hlt => ?_) (fun hge => ?_)
        · refine withJ_i fun J4 hJ4 => ?_
          have k4 : ∀ (e : Int) (w11 : World), e = (((ks.take (q + 1)).countP fun y => decide (y.kd = 2) : Nat) : Int) → Chg No w w11 → J4 e w11 := by
            intro e w11 he c11; subst hJ4
            exact ⟨_, by omega, q + 1, by rw [w64_of] <;> omega, by omega, rfl, c11, he⟩
          clear hJ4
          refine idx_rows (hk.chg hc10 (off_no _)) (even_node ks) (by decide) (by omega) hlt fun a y _ hy hcs => ?_
          rw [Int.toNat_natCast] at hy
          have hct := countP_take (p := fun y : NV => decide (y.kd = 2)) hy
          cases y with
          | mk yk yu yl yt yap yal yac yas ykp ykl ykc yks =>
          refine nodeVar (Hp.start w10 No) hcs fun b6 w13 H13 _ hc13 => ?_
          refine H13.ldI 0 rfl (off := 0) rfl ?_
          refine condB_eq (fun h2 => ?_) (fun h2 => ?_)
          · refine k4 _ _ ?_ (hc10.trans0 hc13)
            rw [hct, if_pos (show decide ((NV.mk yk yu yl yt yap yal yac yas ykp ykl ykc yks).kd = 2) = true from decide_eq_true h2), w64_of (by omega) (by omega)]; omega
          · refine k4 _ _ ?_ (hc10.trans0 hc13)
            rw [hct, if_neg (by rw [decide_eq_false (show ¬ (NV.mk yk yu yl yt yap yal yac yas ykp ykl ykc yks).kd = 2 from h2)]; decide)]; rfl
        · have hroots : rootsN d = (ks.take q).countP fun y => decide (y.kd = 2) := by
            unfold rootsN
            rw [hdk, List.countP_map, List.take_of_length_le (by omega)]
            congr 1
            funext y
            show decide (y.nd.kind = 2) = _
            rw [nd_kind]
          rw [hroots] at K
          refine condB_ne (fun h => ?_) (fun h => ?_)
          · rw [if_pos (by omega)] at K; exact K w10 hc10
          · rw [if_neg (by omega)] at K; exact K w10 hc10
      clear hJ20
      rw [w64_of (by omega) (by omega)]
      refine condB_d (fun h => k20 _ _ (bT (.inl (by omega))) (Chg.refl _ _)) (fun h => ?_)
      refine AnyNode_great (T.chg c04) hr4.sl (by omega) (hokc c04) fun w14 hc14 => ?_
      refine k20 _ _ ?_ hc14
      rw [any_nd, hfn]
      exact ⟨fun hh => .inr hh, fun hh => hh.resolve_left (by omega)⟩
    clear hJ9
    refine H2.ldI 0 rfl (off := 0) rfl ?_
    refine condB_ne (fun h => k9 _ _ (bT (.inl (by rw [hkd]; exact h))) (Chg.refl _ _)) (fun h => ?_)
    refine AnyNode_odd (T.chg c02) hr2.sl (by omega) (hokc c02) fun w15 hc15 => ?_
    refine k9 _ _ ?_ hc15
    have hk1 : d.kind = 1 := by rw [hkd]; exact h
    rw [any_nd, hfn, odd_all hk1]
    simp [hk1]
end
end Go.Proofs.YtkgfbphdmnapdaaGreatDoor

