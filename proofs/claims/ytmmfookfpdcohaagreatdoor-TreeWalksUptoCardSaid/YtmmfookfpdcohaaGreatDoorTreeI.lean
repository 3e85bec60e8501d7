/-
  All nodes in a row; Check; Size and Depth.
-/
import Derived.Test.YtmmfookfpdcohaaGreatDoorTreeC
import Derived.Test.YtmmfookfpdcohaaGreatDoorSortS
import Derived.Shelf.Slices.CompactS
set_option linter.unusedVariables false
set_option linter.unusedSimpArgs false
namespace Go.Vc
open Go Go.Lib
theorem flatL_take {ks : List NV} {q : Nat} {x : NV} (h : ks[q]? = some x) : NV.flatL (ks.take (q + 1)) = NV.flatL (ks.take q) ++ x.flat := by
  rw [take_get h, flatL_append]; simp [NV.flatL]
theorem len_flatL : ∀ ks : List NV, ks.length ≤ (NV.flatL ks).length
  | [] => Nat.le_refl _
  | x :: r => by
    have := len_flatL r
    have h1 : 1 ≤ x.flat.length := by cases x; simp [NV.flat]
    simp only [NV.flatL, List.length_append, List.length_cons]; omega
theorem flatL_le : ∀ (ks : List NV) (q : Nat), (NV.flatL (ks.take q)).length ≤ (NV.flatL ks).length
  | [], q => by simp
  | x :: r, 0 => by simp [NV.flatL]
  | x :: r, q + 1 => by
    have := flatL_le r q
    simp only [List.take_succ_cons, NV.flatL, List.length_append]; omega
theorem countP_take {α : Type} {p : α → Bool} {l : List α} {q : Nat} {x : α} (h : l[q]? = some x) : (l.take (q + 1)).countP p = (l.take q).countP p + (if p x then 1 else 0) := by
  rw [take_get h, List.countP_append, List.countP_cons, List.countP_nil]; simp
mutual
def Nd.size : Nd → Nat
  | .mk _ _ _ _ _ ks => 1 + Nd.sizeL ks
def Nd.sizeL : List Nd → Nat
  | [] => 0
  | x :: r => x.size + Nd.sizeL r
end
mutual
def Nd.depth : Nd → Nat
  | .mk _ _ _ _ _ ks => Nd.depthL ks + 1
def Nd.depthL : List Nd → Nat
  | [] => 0
  | x :: r => max x.depth (Nd.depthL r)
end
theorem sizeL_append : ∀ a b : List Nd, Nd.sizeL (a ++ b) = Nd.sizeL a + Nd.sizeL b
  | [], _ => by simp [Nd.sizeL]
  | x :: r, b => by simp only [List.cons_append, Nd.sizeL, sizeL_append r b]; omega
theorem depthL_append : ∀ a b : List Nd, Nd.depthL (a ++ b) = max (Nd.depthL a) (Nd.depthL b)
  | [], _ => by simp [Nd.depthL]
  | x :: r, b => by simp only [List.cons_append, Nd.depthL, depthL_append r b]; omega
mutual
theorem size_flat : ∀ d : Nd, d.size = d.flat.length
  | .mk k u l t ats ks => by
    have := sizeL_flat ks
    simp only [Nd.size, Nd.flat, List.length_cons]; omega
theorem sizeL_flat : ∀ ks : List Nd, Nd.sizeL ks = (Nd.flatL ks).length
  | [] => rfl
  | x :: r => by
    have := size_flat x; have := sizeL_flat r
    simp only [Nd.sizeL, Nd.flatL, List.length_append]; omega
end
mutual
theorem depth_le : ∀ d : Nd, d.depth ≤ d.size
  | .mk k u l t ats ks => by
    have := depthL_le ks
    simp only [Nd.size, Nd.depth]; omega
theorem depthL_le : ∀ ks : List Nd, Nd.depthL ks ≤ Nd.sizeL ks
  | [] => Nat.le_refl _
  | x :: r => by
    have := depth_le x; have := depthL_le r
    simp only [Nd.sizeL, Nd.depthL]; omega
end
theorem size_mea (v : NV) : v.nd.size ≤ v.mea := by
  rw [size_flat, ← flat_nd, List.length_map]; exact flat_len v
theorem sizeL_take (ks : List Nd) (q : Nat) : Nd.sizeL (ks.take q) ≤ Nd.sizeL ks := by
  have := sizeL_append (ks.take q) (ks.drop q)
  rw [List.take_append_drop] at this; omega
theorem depthL_take (ks : List Nd) (q : Nat) : Nd.depthL (ks.take q) ≤ Nd.depthL ks := by
  have := depthL_append (ks.take q) (ks.drop q)
  rw [List.take_append_drop] at this; omega
end Go.Vc
namespace Go.Proofs.YtmmfookfpdcohaaGreatDoor
open Go Go.Vc Go.Lib
section
variable {w : World}
theorem AnyNode_odd {p : Option Addr} {l c : Nat} {L : List NV} {J : Bool → World → Prop} (T : TT w) (h : Sl w p l 6 (rows NV.cells L)) (hm : l ≤ 100000000) (hk : ∀ x ∈ L, x.Ok w ∧ x.mea ≤ 100000000) (K : ∀ w', Chg No w w' → J (L.any fun x => oddP x.nd) w') :
    callJ Tryz.prog fn_slices_ContainsFunc_sl_api_Node_api_Node #[.slice p l c, .func (.func 28) #[] #[]] w [.one .bool] J := by
  refine c_slices_ContainsFunc_sl_api_Node_api_Node_f1_28 ?_
  unfold VC_slices_ContainsFunc_sl_api_Node_api_Node_f1_28
  refine c_slices_IndexFunc_sl_api_Node_api_Node_f1_28 ?_
  show IdxNode (fun cs w' K => callJ Tryz.prog fn_tree_odd #[.agg ⟨cs⟩] w' [.one .bool] K) p l w _
  refine IdxNode_ok (q := fun x => oddP x.nd) h hm (fun x hx w' K' hc k => ?_) fun r w' hc hr => by rw [decAny hr]; exact K w' hc
  obtain ⟨hok, hmx⟩ := hk x hx
  exact Odd_ok (hok.chg0 hc) hmx fun w'' c2 => k w'' (hc.trans0 c2)
theorem AnyNode_great {p : Option Addr} {l c : Nat} {L : List NV} {J : Bool → World → Prop} (T : TT w) (h : Sl w p l 6 (rows NV.cells L)) (hm : l ≤ 100000000) (hk : ∀ x ∈ L, x.Ok w ∧ x.mea ≤ 100000000) (K : ∀ w', Chg No w w' → J (L.any fun x => greatN x.nd) w') :
    callJ Tryz.prog fn_slices_ContainsFunc_sl_api_Node_api_Node #[.slice p l c, .func (.func 30) #[] #[]] w [.one .bool] J := by
  refine c_slices_ContainsFunc_sl_api_Node_api_Node_f1_30 ?_
  unfold VC_slices_ContainsFunc_sl_api_Node_api_Node_f1_30
  refine c_slices_IndexFunc_sl_api_Node_api_Node_f1_30 ?_
  show IdxNode (fun cs w' K => callJ Tryz.prog fn_tree_great #[.agg ⟨cs⟩] w' [.one .bool] K) p l w _
  refine IdxNode_ok (q := fun x => greatN x.nd) h hm (fun x hx w' K' hc k => ?_) fun r w' hc hr => by rw [decAny hr]; exact K w' hc
  obtain ⟨hok, hmx⟩ := hk x hx
  exact Great_ok (hok.chg0 hc) hmx fun w'' c2 => k w'' (hc.trans0 c2)
theorem AnyNode_mis {p : Option Addr} {l c : Nat} {L : List NV} {J : Bool → World → Prop} (T : TT w) (h : Sl w p l 6 (rows NV.cells L)) (hm : l ≤ 100000000) (hk : ∀ x ∈ L, x.Ok w ∧ x.mea ≤ 100000000) (K : ∀ w', Chg No w w' → J (L.any fun x => !nameP x.nd) w') :
    callJ Tryz.prog fn_slices_ContainsFunc_sl_api_Node_api_Node #[.slice p l c, .func (.func 31) #[] #[]] w [.one .bool] J := by
  refine c_slices_ContainsFunc_sl_api_Node_api_Node_f1_31 ?_
  unfold VC_slices_ContainsFunc_sl_api_Node_api_Node_f1_31
  refine c_slices_IndexFunc_sl_api_Node_api_Node_f1_31 ?_
  show IdxNode (fun cs w' K => callJ Tryz.prog fn_tree_misnamed #[.agg ⟨cs⟩] w' [.one .bool] K) p l w _
  refine IdxNode_ok (q := fun x => !nameP x.nd) h hm (fun x hx w' K' hc k => ?_) fun r w' hc hr => by rw [decAny hr]; exact K w' hc
  obtain ⟨hok, hmx⟩ := hk x hx
  exact Misnamed_ok (T.chg hc) (hok.chg0 hc) hmx fun w'' c2 => k w'' (hc.trans0 c2)
theorem AnyNode_spo {p : Option Addr} {l c : Nat} {L : List NV} {J : Bool → World → Prop} (T : TT w) (h : Sl w p l 6 (rows NV.cells L)) (hm : l ≤ 100000000) (hk : ∀ x ∈ L, x.Ok w ∧ x.mea ≤ 100000000) (K : ∀ w', Chg No w w' → J (L.any fun x => !charsN x.nd) w') :
    callJ Tryz.prog fn_slices_ContainsFunc_sl_api_Node_api_Node #[.slice p l c, .func (.func 32) #[] #[]] w [.one .bool] J := by
  refine c_slices_ContainsFunc_sl_api_Node_api_Node_f1_32 ?_
  unfold VC_slices_ContainsFunc_sl_api_Node_api_Node_f1_32
  refine c_slices_IndexFunc_sl_api_Node_api_Node_f1_32 ?_
  show IdxNode (fun cs w' K => callJ Tryz.prog fn_tree_spoilt #[.agg ⟨cs⟩] w' [.one .bool] K) p l w _
  refine IdxNode_ok (q := fun x => !charsN x.nd) h hm (fun x hx w' K' hc k => ?_) fun r w' hc hr => by rw [decAny hr]; exact K w' hc
  obtain ⟨hok, hmx⟩ := hk x hx
  exact Spoilt_ok (T.chg hc) (hok.chg0 hc) hmx fun w'' c2 => k w'' (hc.trans0 c2)
theorem AnyNode_uno {p : Option Addr} {l c : Nat} {L : List NV} {J : Bool → World → Prop} (T : TT w) (h : Sl w p l 6 (rows NV.cells L)) (hm : l ≤ 100000000) (hk : ∀ x ∈ L, x.Ok w ∧ x.mea ≤ 100000000) (K : ∀ w', Chg No w w' → J (L.any fun x => !orderN x.nd) w') :
    callJ Tryz.prog fn_slices_ContainsFunc_sl_api_Node_api_Node #[.slice p l c, .func (.func 33) #[] #[]] w [.one .bool] J := by
  refine c_slices_ContainsFunc_sl_api_Node_api_Node_f1_33 ?_
  unfold VC_slices_ContainsFunc_sl_api_Node_api_Node_f1_33
  refine c_slices_IndexFunc_sl_api_Node_api_Node_f1_33 ?_
  show IdxNode (fun cs w' K => callJ Tryz.prog fn_tree_unordered #[.agg ⟨cs⟩] w' [.one .bool] K) p l w _
  refine IdxNode_ok (q := fun x => !orderN x.nd) h hm (fun x hx w' K' hc k => ?_) fun r w' hc hr => by rw [decAny hr]; exact K w' hc
  obtain ⟨hok, hmx⟩ := hk x hx
  exact Unordered_ok (hok.chg0 hc) hmx fun w'' c2 => k w'' (hc.trans0 c2)
theorem AnyNode_wro {p : Option Addr} {l c : Nat} {L : List NV} {J : Bool → World → Prop} (T : TT w) (h : Sl w p l 6 (rows NV.cells L)) (hm : l ≤ 100000000) (hk : ∀ x ∈ L, x.Ok w ∧ x.mea ≤ 100000000) (K : ∀ w', Chg No w w' → J (L.any fun x => !textN x.nd) w') :
    callJ Tryz.prog fn_slices_ContainsFunc_sl_api_Node_api_Node #[.slice p l c, .func (.func 34) #[] #[]] w [.one .bool] J := by
  refine c_slices_ContainsFunc_sl_api_Node_api_Node_f1_34 ?_
  unfold VC_slices_ContainsFunc_sl_api_Node_api_Node_f1_34
  refine c_slices_IndexFunc_sl_api_Node_api_Node_f1_34 ?_
  show IdxNode (fun cs w' K => callJ Tryz.prog fn_tree_wrongText #[.agg ⟨cs⟩] w' [.one .bool] K) p l w _
  refine IdxNode_ok (q := fun x => !textN x.nd) h hm (fun x hx w' K' hc k => ?_) fun r w' hc hr => by rw [decAny hr]; exact K w' hc
  obtain ⟨hok, hmx⟩ := hk x hx
  exact WrongText_ok (T.chg hc) (hok.chg0 hc) hmx fun w'' c2 => k w'' (hc.trans0 c2)
/-- One node more. -/
theorem appN {w0 wa : World} {p : Option Addr} {l c : Nat} {L : List NV} {x : NV} {K : Option Addr → Nat → Nat → World → Prop} (hr : Row wa T_api_Node 6 p l c (rows NV.cells L)) (hlm : l + 1 ≤ 1000000000) (hf : fresh w0 p) (hc : Chg No w0 wa)
    (k : ∀ p' c' w', Row w' T_api_Node 6 p' (l + 1) c' (rows NV.cells (L ++ [x])) → fresh w0 p' → Chg No w0 w' → Chg (isB p) wa w' → K p' (l + 1) c' w') :
    newB wa (.cells ⟨x.cells⟩ T_api_Node) fun b w1 => appJ Tryz.prog T_sl_api_Node T_sl_api_Node (.slice p l c) (.slice (some ⟨b, 0, none⟩) 1 1) w1 K := by
  refine newRow (sz := 6) (n := 1) (by cases x; rfl) (by decide) fun b w1 hr1 hb hc1 => ?_
  refine appJ_row slT_node (hr.chg hc1 (off_no _)) hr1.sl (one1_node x) (by simp) (by omega) (by simp only [maxLen]; omega) fun p' c' w' hr' hc' hf' => ?_
  have hc2 : Chg (isB p) wa w' := (hc1.mono fun _ _ h => h.elim).trans hc' fun b hb h => h
  refine k p' c' w' ?_ ?_ (hc.trans hc2 fun b hb ⟨a, ha, e⟩ => by have := hf a ha; omega) hc2
  · rw [rows_append, rows_cons, rows_nil, List.append_nil]; exact hr'
  · rcases hf' with rfl | hf'
    · exact hf
    · intro a ha; have := hf' a ha; have := hc.size; have := hc1.size; omega
theorem Flat_ok : ∀ (v : NV) {w0 w : World} {p : Option Addr} {l c : Nat} {L : List NV} {J : Option Addr → Nat → Nat → World → Prop}, v.Ok w0 → Row w T_api_Node 6 p l c (rows NV.cells L) → fresh w0 p → Chg No w0 w → l + v.flat.length ≤ 100000000 →
    (∀ p' c' w', Row w' T_api_Node 6 p' (l + v.flat.length) c' (rows NV.cells (L ++ v.flat)) → fresh w0 p' → Chg No w0 w' → J p' (l + v.flat.length) c' w') →
    callJ Tryz.prog fn_tree_flat #[.agg ⟨v.cells⟩, .slice p l c] w [.one .slice] J := by
  intro v
  induction v using NV.ind with
  | h k u lo t ap al ac ats kp kl kc ks ih =>
    intro w0 w p l c L J hv hr hf hc hm K
    cases hv with
    | mk ha hn hac hk hkn hkc hks =>
    have hkl := hk.row (even_node ks) (by decide)
    have hfl : (NV.mk k u lo t ap al ac ats kp kl kc ks).flat = NV.mk k u lo t ap al ac ats kp kl kc ks :: NV.flatL ks := rfl
    rw [hfl, List.length_cons] at hm
    rw [hfl] at K
    have hkf := len_flatL ks
    refine c_tree_flat ?_
    unfold VC_tree_flat
    refine nodeBox (Hp.start w No) fun b w1 H1 hb hc1 => ?_
    refine ldBox H1 0 rfl ?_
    refine ⟨rfl, ?_⟩
    refine appN (w0 := w0) (x := .mk k u lo t ap al ac ats kp kl kc ks) (hr.chg hc1 (off_no _)) (by omega) hf (hc.trans0 hc1) fun p3 c3 w3 hr3 hf3 hc3 hcb => ?_
    have hcell : w3.cell? ⟨b, 4, none⟩ = some (.slice kp kl kc) := hcb.cell (H1.cell 0 rfl rfl) (by
      rintro ⟨a, ha, e⟩
      have := hr.lt a ha
      simp only at e; omega)
    refine ⟨_, _, _, hcell, ?_⟩
    refine ⟨fun lp ll lc i w' m => ∃ q : Nat, i = q ∧ q ≤ kl ∧ m = kl - q ∧ ll = l + 1 + (NV.flatL (ks.take q)).length ∧ Row w' T_api_Node 6 lp ll lc (rows NV.cells (L ++ [.mk k u lo t ap al ac ats kp kl kc ks] ++ NV.flatL (ks.take q))) ∧ fresh w0 lp ∧ Chg No w0 w',
      ⟨_, 0, rfl, Nat.zero_le _, rfl, rfl, by rw [List.take_zero]; simpa [NV.flatL] using hr3, hf3, hc3⟩, ?_⟩
    rintro lp ll lc i w4 m ⟨q, rfl, hq, rfl, rfl, hr4, hf4, hc4⟩
    refine condB_d (fun hlt => ?_) (fun hge => ?_)
    · refine idx_rows (hk.chg hc4 (off_no _)) (even_node ks) (by decide) (by omega) hlt fun a y _ hy hcs => ?_
      rw [Int.toNat_natCast] at hy
      have hymem := List.mem_of_getElem? hy
      have ihy := @ih y hymem
      have hyok := hks y hymem
      have hft := flatL_take hy
      have hle := flatL_le ks (q + 1)
      rw [hft, List.length_append] at hle
      cases y with
      | mk yk yu yl yt yap yal yac yas ykp ykl ykc yks =>
      refine nodeVar (Hp.start w4 No) hcs fun b6 w6 H6 _ hc6 => ?_
      refine ldBox H6 0 rfl ?_
      refine ihy hyok (hr4.chg hc6 (off_no _)) hf4 (hc4.trans0 hc6) (by omega) fun p7 c7 w7 hr7 hf7 hc7 => ?_
      refine ⟨_, by omega, q + 1, by rw [w64_of] <;> omega, by omega, rfl, ?_, ?_, hf7, hc7⟩
      · rw [hft, List.length_append]; omega
      · rw [hft, ← List.append_assoc]; exact hr7
    · have hqk : q = kl := by omega
      subst hqk
      rw [List.take_of_length_le (by omega)] at hr4 ⊢
      have e1 : l + 1 + (NV.flatL ks).length = l + (NV.mk k u lo t ap al ac ats kp q kc ks :: NV.flatL ks).length := by rw [List.length_cons]; omega
      rw [e1] at hr4 ⊢
      exact K lp lc w4 (by rw [List.append_assoc] at hr4; exact hr4) hf4 hc4
theorem any_nd (L : List NV) (q : Nd → Bool) : (L.any fun x => q x.nd) = (L.map NV.nd).any q := by rw [List.any_map]; rfl
theorem notall_nd (L : List NV) (q : Nd → Bool) : (L.any fun x => !q x.nd) = !(L.map NV.nd).all q := by rw [any_nd L (fun x => !q x), not_all]
/-- What is wrong with a document. -/
theorem Check_ok {x : NV} {J : Int → World → Prop} (T : TT w) (hx : x.Ok w) (hm : x.mea ≤ 1048576) (K : ∀ w', Chg No w w' → J (checkL x.nd) w') : callJ Tryz.prog fn_tree_Check #[.agg ⟨x.cells⟩] w [.one (.int .i64)] J := by
  have hx0 := hx
  have hfl := flat_len x
  have hok : ∀ y ∈ x.flat, y.Ok w ∧ y.mea ≤ 100000000 := fun y hy => ⟨flat_mem hy hx, by have := flat_mea hy; omega⟩
  have hfn := flat_nd x
  have hkind : x.nd.kind = x.kd := nd_kind x
  cases hx with
  | @mk k u l t ap al ac ats kp kl kc ks ha hn hac hk hkn hkc hks =>
    have hkl := hk.row (even_node ks) (by decide)
    refine c_tree_Check ?_
    unfold VC_tree_Check
    refine nodeBox (Hp.start w No) fun b w1 H1 hb hc1 => ?_
    refine ldBox H1 0 rfl ?_
    refine Flat_ok (.mk k u l t ap al ac ats kp kl kc ks) (w0 := w1) (w := w1) (L := []) (hx0.chg0 hc1) (Row.nil _ _ _) (by rintro a ⟨⟩) (Chg.refl _ _) (by omega) fun p2 c2 w2 hr2 hf2 hc2 => ?_
    rw [Nat.zero_add, List.nil_append] at hr2
    rw [Nat.zero_add]
    generalize hL : (NV.mk k u l t ap al ac ats kp kl kc ks).flat = L at *
    have c02 := hc1.trans0 hc2
    have H2 := H1.step0 hc2
    have hokc : ∀ {wx : World}, Chg No w wx → ∀ y ∈ L, y.Ok wx ∧ y.mea ≤ 100000000 := fun hcx y hy => ⟨(hok y hy).1.chg0 hcx, (hok y hy).2⟩
    have hLl : L.length ≤ 1048576 := by omega
    generalize hd : (NV.mk k u l t ap al ac ats kp kl kc ks).nd = d at *
    have hdl : d.flat.length = L.length := by rw [← hfn, List.length_map]
    have hkd : d.kind = k := by rw [hkind]; rfl
    have hdk : d.kids = ks.map NV.nd := by rw [← hd, nd_kids]; rfl
    unfold checkL at K
    refine withJ_i fun J9 hJ9 => ?_
    have k9 : ∀ (bb : Bool) (w3 : World), (bb = true ↔ ¬ d.kind = 1 ∨ d.flat.all kindG = false) → Chg No w2 w3 → J9 bb w3 := by
      intro bb w3 hbb hc3; subst hJ9
      have c03 := c02.trans0 hc3
      refine meetI hbb (fun h => ?_) (fun h => ?_)
      · rw [if_pos h] at K; exact K w3 c03
      rw [if_neg h] at K
      have hall : d.flat.all kindG = true := by
        cases hh : d.flat.all kindG with
        | true => rfl
        | false => exact absurd (.inr hh) h
      have H3 := H2.step0 hc3
      refine ldBox H3 0 rfl ?_
      refine Deep_ok (.mk k u l t ap al ac ats kp kl kc ks) (hx0.chg0 c03) (by omega) (by decide) (by decide) fun w4 hc4 => ?_
      have c04 := c03.trans0 hc4
      have H4 := H3.step0 hc4
      rw [hd]
      refine condB_i (fun h => ?_) (fun h => ?_)
      · rw [if_pos h] at K; exact K w4 c04
      rw [if_neg (by rw [h]; decide)] at K
      have hr4 := (hr2.chg hc3 (off_no _)).chg hc4 (off_no _)
      refine withJ_i fun J20 hJ20 => ?_
      have k20 : ∀ (bb : Bool) (w5 : World), (bb = true ↔ 2001 < d.flat.length ∨ d.flat.any greatN = true) → Chg No w4 w5 → J20 bb w5 := by
        intro bb w5 hbb hc5; subst hJ20
        have c05 := c04.trans0 hc5
        refine meetI hbb (fun h => ?_) (fun h => ?_)
        · rw [if_pos h] at K; exact K w5 c05
        rw [if_neg h] at K
        have hr5 := hr4.chg hc5 (off_no _)
        refine AnyNode_mis (T.chg c05) hr5.sl (by omega) (hokc c05) fun w6 hc6 => ?_
        have c06 := c05.trans0 hc6
        have hr6 := hr5.chg hc6 (off_no _)
        have hname : (L.any fun x => !nameP x.nd) = !d.flat.all nameG := by
          rw [notall_nd, hfn]
          congr 1
          rw [Bool.eq_iff_iff, List.all_eq_true, List.all_eq_true]
          exact ⟨fun h y hy => by rw [← name_eq (List.all_eq_true.1 hall y hy)]; exact h y hy, fun h y hy => by rw [name_eq (List.all_eq_true.1 hall y hy)]; exact h y hy⟩
        rw [hname]
        refine condB_not (fun h => ?_) (fun h => ?_)
        · rw [if_pos h] at K; exact K w6 c06
        rw [if_neg (by rw [h]; decide)] at K
        refine AnyNode_spo (T.chg c06) hr6.sl (by omega) (hokc c06) fun w7 hc7 => ?_
        have c07 := c06.trans0 hc7
        have hr7 := hr6.chg hc7 (off_no _)
        rw [notall_nd, hfn]
        refine condB_not (fun h => ?_) (fun h => ?_)
        · rw [if_pos h] at K; exact K w7 c07
        rw [if_neg (by rw [h]; decide)] at K
        refine AnyNode_uno (T.chg c07) hr7.sl (by omega) (hokc c07) fun w8 hc8 => ?_
        have c08 := c07.trans0 hc8
        have hr8 := hr7.chg hc8 (off_no _)
        rw [notall_nd, hfn]
        refine condB_not (fun h => ?_) (fun h => ?_)
        · rw [if_pos h] at K; exact K w8 c08
        rw [if_neg (by rw [h]; decide)] at K
        refine AnyNode_wro (T.chg c08) hr8.sl (by omega) (hokc c08) fun w9 hc9 => ?_
        have c09 := c08.trans0 hc9
        rw [notall_nd, hfn]
        refine condB_not (fun h => ?_) (fun h => ?_)
        · rw [if_pos h] at K; exact K w9 c09
        rw [if_neg (by rw [h]; decide)] at K
        have H9 : Hp w No w9 [⟨b, [.int .i64 k, .string u, .string l, .slice ap al ac, .slice kp kl kc, .string t], T_api_Node⟩] := ((((H4.step0 hc5).step0 hc6).step0 hc7).step0 hc8).step0 hc9
        refine H9.ldS 0 rfl (off := 4) rfl ?_
        have hkm := len_meaL ks
        have hmm : kl ≤ 1048576 := by simp only [NV.mea] at hm; omega
        refine ⟨fun e i w' m => ∃ q : Nat, i = q ∧ q ≤ kl ∧ m = kl - q ∧ Chg No w w' ∧ e = (((ks.take q).countP fun y => decide (y.kd = 2) : Nat) : Int), ⟨_, 0, rfl, Nat.zero_le _, rfl, c09, rfl⟩, ?_⟩
        rintro e i w10 m ⟨q, rfl, hq, rfl, hc10, rfl⟩
        have hcl := List.countP_le_length (p := fun y : NV => decide (y.kd = 2)) (l := ks.take q)
        rw [List.length_take] at hcl
        refine condB_d (fun hlt => ?_) (fun hge => ?_)
        · refine withJ_i fun J4 hJ4 => ?_
          have k4 : ∀ (e : Int) (w11 : World), e = (((ks.take (q + 1)).countP fun y => decide (y.kd = 2) : Nat) : Int) → Chg No w w11 → J4 e w11 := by
            intro e w11 he c11; subst hJ4
            exact ⟨_, by omega, q + 1, by rw [w64_of] <;> omega, by omega, rfl, c11, he⟩
          clear hJ4
          refine idx_rows (hk.chg hc10 (off_no _)) (even_node ks) (by decide) (by omega) hlt fun a y _ hy hcs => ?_
          rw [Int.toNat_natCast] at hy
          have hct := countP_take (p := fun y : NV => decide (y.kd = 2)) hy
          cases y with
          | mk yk yu yl yt yap yal yac yas ykp ykl ykc yks =>
          refine nodeVar (Hp.start w10 No) hcs fun b6 w13 H13 _ hc13 => ?_
          refine H13.ldI 0 rfl (off := 0) rfl ?_
          refine condB_eq (fun h2 => ?_) (fun h2 => ?_)
          · refine k4 _ _ ?_ (hc10.trans0 hc13)
            rw [hct, if_pos (show decide ((NV.mk yk yu yl yt yap yal yac yas ykp ykl ykc yks).kd = 2) = true from decide_eq_true h2), w64_of (by omega) (by omega)]; omega
          · refine k4 _ _ ?_ (hc10.trans0 hc13)
            rw [hct, if_neg (by rw [decide_eq_false (show ¬ (NV.mk yk yu yl yt yap yal yac yas ykp ykl ykc yks).kd = 2 from h2)]; decide)]; rfl
        · have hroots : rootsN d = (ks.take q).countP fun y => decide (y.kd = 2) := by
            unfold rootsN
            rw [hdk, List.countP_map, List.take_of_length_le (by omega)]
            congr 1
            funext y
            show decide (y.nd.kind = 2) = _
            rw [nd_kind]
          rw [hroots] at K
          refine condB_ne (fun h => ?_) (fun h => ?_)
          · rw [if_pos (by omega)] at K; exact K w10 hc10
          · rw [if_neg (by omega)] at K; exact K w10 hc10
      clear hJ20
      rw [w64_of (by omega) (by omega)]
      refine condB_d (fun h => k20 _ _ (bT (.inl (by omega))) (Chg.refl _ _)) (fun h => ?_)
      refine AnyNode_great (T.chg c04) hr4.sl (by omega) (hokc c04) fun w14 hc14 => ?_
      refine k20 _ _ ?_ hc14
      rw [any_nd, hfn]
      exact ⟨fun hh => .inr hh, fun hh => hh.resolve_left (by omega)⟩
    clear hJ9
    refine H2.ldI 0 rfl (off := 0) rfl ?_
    refine condB_ne (fun h => k9 _ _ (bT (.inl (by rw [hkd]; exact h))) (Chg.refl _ _)) (fun h => ?_)
    refine AnyNode_odd (T.chg c02) hr2.sl (by omega) (hokc c02) fun w15 hc15 => ?_
    refine k9 _ _ ?_ hc15
    have hk1 : d.kind = 1 := by rw [hkd]; exact h
    rw [any_nd, hfn, odd_all hk1]
    simp [hk1]
theorem Size_ok : ∀ (x : NV) {w : World} {J : Int → World → Prop}, x.Ok w → x.mea ≤ 100000000 → (∀ w', Chg No w w' → J (x.nd.size : Int) w') → callJ Tryz.prog fn_tree_Size #[.agg ⟨x.cells⟩] w [.one (.int .i64)] J := by
  intro x
  induction x using NV.ind with
  | h k u l t ap al ac ats kp kl kc ks ih =>
    intro w J hx hm K
    cases hx with
    | mk ha hn hac hk hkn hkc hks =>
    have hkl := hk.row (even_node ks) (by decide)
    have hsm := size_mea (.mk k u l t ap al ac ats kp kl kc ks)
    rw [nd_kids] at K hsm
    simp only [Nd.size] at K hsm
    have hkm : ∀ y ∈ ks, y.mea ≤ 100000000 := fun y hy => by
      have := mea_kid hy
      simp only [NV.mea] at hm; omega
    have hlm := len_meaL ks
    have hmm : kl ≤ 100000000 := by simp only [NV.mea] at hm; omega
    refine c_tree_Size ?_
    unfold VC_tree_Size
    refine nodeBox (Hp.start w No) fun b w1 H1 hb hc1 => ?_
    refine H1.ldS 0 rfl (off := 4) rfl ?_
    refine ⟨fun s i w' m => ∃ q : Nat, i = q ∧ q ≤ kl ∧ m = kl - q ∧ Chg No w w' ∧ s = ((1 + Nd.sizeL ((ks.map NV.nd).take q) : Nat) : Int), ⟨_, 0, rfl, Nat.zero_le _, rfl, hc1, rfl⟩, ?_⟩
    rintro s i w2 m ⟨q, rfl, hq, rfl, hc2, rfl⟩
    refine condB_d (fun hlt => ?_) (fun hge => ?_)
    · refine idx_rows (hk.chg hc2 (off_no _)) (even_node ks) (by decide) (by omega) hlt fun a y _ hy hcs => ?_
      rw [Int.toNat_natCast] at hy
      have hymem := List.mem_of_getElem? hy
      have ihy := @ih y hymem
      have hyok := hks y hymem
      have hym := hkm y hymem
      have ht : (ks.map NV.nd).take (q + 1) = (ks.map NV.nd).take q ++ [y.nd] := take_get (by rw [List.getElem?_map, hy]; rfl)
      have hs1 := sizeL_take (ks.map NV.nd) (q + 1)
      rw [ht, sizeL_append] at hs1
      simp only [Nd.sizeL] at hs1
      cases y with
      | mk yk yu yl yt yap yal yac yas ykp ykl ykc yks =>
      refine nodeVar (Hp.start w2 No) hcs fun b6 w6 H6 _ hc6 => ?_
      refine ldBox H6 0 rfl ?_
      refine ihy ((hyok.chg0 hc2).chg0 hc6) hym fun w7 hc7 => ?_
      refine ⟨_, by omega, q + 1, by rw [w64_of] <;> omega, by omega, rfl, (hc2.trans0 hc6).trans0 hc7, ?_⟩
      rw [ht, sizeL_append]
      simp only [Nd.sizeL]
      rw [w64_of (by omega) (by omega)]; omega
    · rw [List.take_of_length_le (by rw [List.length_map]; omega)]
      exact K w2 hc2
theorem Depth_ok : ∀ (x : NV) {w : World} {J : Int → World → Prop}, x.Ok w → x.mea ≤ 100000000 → (∀ w', Chg No w w' → J (x.nd.depth : Int) w') → callJ Tryz.prog fn_tree_Depth #[.agg ⟨x.cells⟩] w [.one (.int .i64)] J := by
  intro x
  induction x using NV.ind with
  | h k u l t ap al ac ats kp kl kc ks ih =>
    intro w J hx hm K
    cases hx with
    | mk ha hn hac hk hkn hkc hks =>
    have hkl := hk.row (even_node ks) (by decide)
    have hsm := size_mea (.mk k u l t ap al ac ats kp kl kc ks)
    have hdm := depth_le (NV.mk k u l t ap al ac ats kp kl kc ks).nd
    rw [nd_kids] at K hsm hdm
    simp only [Nd.depth] at K hdm
    have hkm : ∀ y ∈ ks, y.mea ≤ 100000000 := fun y hy => by
      have := mea_kid hy
      simp only [NV.mea] at hm; omega
    have hlm := len_meaL ks
    have hmm : kl ≤ 100000000 := by simp only [NV.mea] at hm; omega
    refine c_tree_Depth ?_
    unfold VC_tree_Depth
    refine nodeBox (Hp.start w No) fun b w1 H1 hb hc1 => ?_
    refine H1.ldS 0 rfl (off := 4) rfl ?_
    refine ⟨fun s i w' m => ∃ q : Nat, i = q ∧ q ≤ kl ∧ m = kl - q ∧ Chg No w w' ∧ s = ((Nd.depthL ((ks.map NV.nd).take q) : Nat) : Int), ⟨_, 0, rfl, Nat.zero_le _, rfl, hc1, rfl⟩, ?_⟩
    rintro s i w2 m ⟨q, rfl, hq, rfl, hc2, rfl⟩
    have hq1 := depthL_take (ks.map NV.nd) q
    refine condB_d (fun hlt => ?_) (fun hge => ?_)
    · refine idx_rows (hk.chg hc2 (off_no _)) (even_node ks) (by decide) (by omega) hlt fun a y _ hy hcs => ?_
      rw [Int.toNat_natCast] at hy
      have hymem := List.mem_of_getElem? hy
      have ihy := @ih y hymem
      have hyok := hks y hymem
      have hym := hkm y hymem
      have ht : (ks.map NV.nd).take (q + 1) = (ks.map NV.nd).take q ++ [y.nd] := take_get (by rw [List.getElem?_map, hy]; rfl)
      cases y with
      | mk yk yu yl yt yap yal yac yas ykp ykl ykc yks =>
      refine nodeVar (Hp.start w2 No) hcs fun b6 w6 H6 _ hc6 => ?_
      refine ldBox H6 0 rfl ?_
      refine ihy ((hyok.chg0 hc2).chg0 hc6) hym fun w7 hc7 => ?_
      refine ⟨_, by omega, q + 1, by rw [w64_of] <;> omega, by omega, rfl, (hc2.trans0 hc6).trans0 hc7, ?_⟩
      rw [ht, depthL_append]
      simp only [Nd.depthL]
      split <;> omega
    · rw [List.take_of_length_le (by rw [List.length_map]; omega)] at hq1 ⊢
      rw [w64_of (by omega) (by omega)]
      exact K w2 hc2
end
end Go.Proofs.YtmmfookfpdcohaaGreatDoor

/-
  slices.Compact of strings that rise; Spaces.
-/

set_option linter.unusedVariables false
set_option linter.unusedSimpArgs false
namespace Go.Proofs
open Go.Shelf
def Tryz.lays194_ren : Go.Shelf.Ren := ⟨fun | 194 => 47 | n => n, fun | 31 => 46 | 9 => 9 | 3 => 3 | 4 => 4 | 0 => 0 | n => n, fun | n => n⟩
theorem Tryz.lays194 : Go.Proofs.Lays.n194 Tryz.prog Tryz.lays194_ren where
  mixed := by kernel_rfl
  f194 := by kernel_rfl
  t0 := by kernel_rfl
  a0 := fun w => by kernel_rfl
  z0 := fun w => by kernel_rfl
  v0 := fun w => by kernel_rfl
  t3 := by kernel_rfl
  a3 := fun w => by kernel_rfl
  z3 := fun w => by kernel_rfl
  v3 := fun w => by kernel_rfl
  t4 := by kernel_rfl
  a4 := fun w => by kernel_rfl
  z4 := fun w => by kernel_rfl
  v4 := fun w => by kernel_rfl
  t9 := by kernel_rfl
  a9 := fun w => by kernel_rfl
  z9 := fun w => by kernel_rfl
  v9 := fun w => by kernel_rfl
  t31 := by kernel_rfl
  a31 := fun w => by kernel_rfl
  z31 := fun w => by kernel_rfl
  v31 := fun w => by kernel_rfl
end Go.Proofs
namespace Go.Vc
open Go Go.Lib
theorem compact_spec {xs : List ByteArray} (hs : xs.Pairwise fun a b => sLt b a = false) : ∃ Y : List ByteArray, Lib.compact (xs.map bl) = Y.map bl ∧ SAsc Y ∧ (∀ s, s ∈ Y ↔ s ∈ xs) ∧ Y.length ≤ xs.length := by
  let g : Nat → ByteArray := fun j => xs.getD j ⟨#[]⟩
  have hd : ∀ j, (xs.map bl).toArray[j]! = bl (g j) := by
    intro j
    show _ = bl (xs.getD j ⟨#[]⟩)
    by_cases hj : j < xs.length
    · rw [List.getD_eq_getElem?_getD, List.getElem?_eq_getElem hj]
      simp [hj]
    · rw [List.getD_eq_getElem?_getD, List.getElem?_eq_none (by omega)]
      simp [hj]; rfl
  have hkeep : ∀ j, Lib.keeps (xs.map bl).toArray j = decide (j = 0 ∨ g j ≠ g (j - 1)) := by
    intro j
    unfold Lib.keeps
    rw [hd, hd]
    exact decide_eq_decide.2 ⟨fun h => h.imp id fun h e => h (by rw [e]), fun h => h.imp id fun h e => h (bl_ext e)⟩
  have hget : ∀ j, j < xs.length → xs[j]? = some (g j) := fun j hj => by
    show _ = some (xs.getD j ⟨#[]⟩)
    rw [List.getD_eq_getElem?_getD, List.getElem?_eq_getElem hj]; rfl
  have hle : ∀ i j, i < j → j < xs.length → sLt (g j) (g i) = false := by
    intro i j hij hj
    have h1 := List.pairwise_iff_getElem.1 hs i j (by omega) hj hij
    have e1 := hget i (by omega)
    have e2 := hget j hj
    rw [List.getElem?_eq_getElem (by omega)] at e1 e2
    rw [← Option.some.inj e1, ← Option.some.inj e2]; exact h1
  refine ⟨((List.range xs.length).filter (Lib.keeps (xs.map bl).toArray)).map g, ?_, ?_, ?_, ?_⟩
  · unfold Lib.compact Lib.compactUpTo
    rw [List.map_map, List.length_map]
    apply List.map_congr_left
    intro j _
    exact hd j
  · unfold SAsc
    rw [List.pairwise_map]
    refine List.Pairwise.imp_of_mem ?_ (List.Pairwise.filter _ List.pairwise_lt_range)
    intro i j hi hj hij
    have hj1 := List.mem_filter.1 hj
    have hjn := List.mem_range.1 hj1.1
    have hk := hj1.2
    rw [hkeep] at hk
    have hne := (of_decide_eq_true hk).resolve_left (by omega)
    have h1 : sLt (g (j - 1)) (g j) = true := by
      rcases sLt_tri (g (j - 1)) (g j) with h | h | h
      · exact h
      · exact absurd h.symm hne
      · rw [hle (j - 1) j (by omega) hjn] at h; cases h
    rcases Nat.lt_or_ge i (j - 1) with h2 | h2
    · rcases sLt_tri (g i) (g (j - 1)) with h | h | h
      · exact sLt_trans h h1
      · rw [h]; exact h1
      · rw [hle i (j - 1) h2 (by omega)] at h; cases h
    · have : i = j - 1 := by omega
      rw [this]; exact h1
  · intro s
    constructor
    · intro h
      obtain ⟨i, hi, rfl⟩ := List.mem_map.1 h
      have := List.mem_range.1 (List.mem_filter.1 hi).1
      exact List.mem_of_getElem? (hget i this)
    · intro h
      obtain ⟨j, hj⟩ := List.mem_iff_getElem?.1 h
      have hjn := (List.getElem?_eq_some_iff.1 hj).1
      rw [hget j hjn] at hj
      obtain rfl := Option.some.inj hj
      have key : ∀ j, j < xs.length → ∃ i, i < xs.length ∧ Lib.keeps (xs.map bl).toArray i = true ∧ g i = g j := by
        intro j
        induction j with
        | zero => intro h; exact ⟨0, h, by rw [hkeep]; simp, rfl⟩
        | succ j ih =>
          intro h
          by_cases he : g (j + 1) = g j
          · obtain ⟨i, h1, h2, h3⟩ := ih (by omega)
            exact ⟨i, h1, h2, by rw [h3, he]⟩
          · exact ⟨j + 1, h, by rw [hkeep]; simp [he], rfl⟩
      obtain ⟨i, h1, h2, h3⟩ := key j hjn
      exact List.mem_map.2 ⟨i, List.mem_filter.2 ⟨List.mem_range.2 h1, h2⟩, h3⟩
  · rw [List.length_map]
    have := List.length_filter_le (Lib.keeps (xs.map bl).toArray) (List.range xs.length)
    rw [List.length_range] at this; exact this
def neB (u : ByteArray) : List ByteArray := if u = emptyB then [] else [u]
mutual
def Nd.spc : Nd → List ByteArray
  | .mk _ u _ _ ats ks => neB u ++ ats.flatMap (fun a => neB a.1) ++ Nd.spcL ks
def Nd.spcL : List Nd → List ByteArray
  | [] => []
  | x :: r => x.spc ++ Nd.spcL r
end
theorem spcL_append : ∀ a b : List Nd, Nd.spcL (a ++ b) = Nd.spcL a ++ Nd.spcL b
  | [], _ => rfl
  | x :: r, b => by simp [Nd.spcL, spcL_append r b]
theorem neB_len (u : ByteArray) : (neB u).length ≤ 1 := by unfold neB; split <;> simp
theorem attrs_len : ∀ ats : List At, (ats.flatMap fun a => neB a.1).length ≤ (ats.map atSize).sum
  | [] => by simp
  | a :: r => by
    have := attrs_len r; have := neB_len a.1
    rw [List.flatMap_cons, List.length_append, List.map_cons, List.sum_cons]
    unfold atSize at *; omega
mutual
theorem spc_len : ∀ v : NV, v.nd.spc.length ≤ v.mea
  | .mk k u l t ap al ac ats kp kl kc ks => by
    have := spcL_len ks; have := neB_len u; have := attrs_len ats
    simp only [NV.nd, Nd.spc, NV.mea, List.length_append]; omega
theorem spcL_len : ∀ ks : List NV, (Nd.spcL (NV.ndL ks)).length ≤ NV.meaL ks
  | [] => Nat.le_refl _
  | x :: r => by
    have := spc_len x; have := spcL_len r
    simp only [NV.ndL, Nd.spcL, NV.meaL, List.length_append]; omega
end
theorem Sl.pre {w : World} {p : Option Addr} {l m sz : Nat} {xs ys : List Value} (h : Sl w p l sz (xs ++ ys)) (hx : xs.length = m * sz) (hs : 0 < sz) : Sl w p m sz xs := by
  refine ⟨hx, ?_⟩
  rcases h.2 with h0 | ⟨a, ha, hc⟩
  · have := h.1
    rw [h0, List.length_append] at this
    left
    have h3 : m * sz = 0 := by omega
    rcases Nat.mul_eq_zero.1 h3 with h4 | h4 <;> omega
  · refine .inr ⟨a, ha, ?_⟩
    have := cellsAt_take xs.length hc
    rwa [List.take_left' rfl] at this
end Go.Vc
namespace Go.Proofs.YtmmfookfpdcohaaGreatDoor
open Go Go.Vc Go.Lib Go.Sort
section
variable {w : World}
theorem Compact_ok {p : Option Addr} {l c : Nat} {xs : List ByteArray} {J : Option Addr → Nat → Nat → World → Prop} (h : Row w T_string 1 p l c (strs xs)) (hs : xs.Pairwise fun a b => sLt b a = false) (hm : l ≤ 1000000000)
    (K : ∀ (Y : List ByteArray) (c' : Nat) w', SAsc Y → (∀ s, s ∈ Y ↔ s ∈ xs) → Sl w' p Y.length 1 (strs Y) → Y.length ≤ l → Chg (isB p) w w' → J p Y.length c' w') :
    callJ Tryz.prog fn_slices_Compact_sl_string_string #[.slice p l c] w [.one .slice] J := by
  have hxl : xs.length = l := by have := h.len; rw [strs_length] at this; omega
  by_cases hl : l = 0
  · subst hl
    have hx : xs = [] := List.eq_nil_of_length_eq_zero hxl
    subst hx
    refine Calls.mono (Any.slices_Compact_string_empty Tryz.lays194 p c w) fun e w' he => ?_
    obtain ⟨rfl, rfl⟩ := he
    exact ⟨_, _, _, rfl, K [] c w' List.Pairwise.nil (fun s => Iff.rfl) (Sl.nil _ _ _) (Nat.le_refl _) (Chg.refl _ _)⟩
  · obtain ⟨b, rest, rfl, hb, h1, h2, h3⟩ := h.some0 hl
    have htake : (strs xs ++ rest).take (xs.map bl).length = (xs.map bl).map encStr := by
      rw [enc_strs, List.length_map, List.take_left' (by rw [strs_length])]
    have hH := holds_of_block (cur := ⟨strs xs ++ rest⟩) (ss := xs.map bl) hb htake
    have hc := Any.slices_Compact_string Tryz.lays194 b 0 c (xs.map bl) w hH (by rw [List.length_map]; omega) (by rw [List.length_map]; omega)
    obtain ⟨Y, hY, hasc, hmem, hlen⟩ := compact_spec hs
    rw [hY] at hc
    simp only [List.length_map] at hc
    rw [hxl] at hc hlen
    refine Calls.mono hc fun e w' he => ?_
    obtain ⟨rfl, q, rfl⟩ := he
    have hlt : (Y.map bl ++ List.replicate (l - Y.length) []).length = (xs.map bl).length := by rw [List.length_append, List.length_map, List.length_replicate, List.length_map]; omega
    have ho := ownsRow_sorted (n := q) (os := #[]) (base := 0) (cap := c) (ss := xs.map bl) (ts := Y.map bl ++ List.replicate (l - Y.length) []) hlt (Nat.zero_le _) hb (by rw [List.length_map]; omega) h2 (by simpa using h3)
    rw [grow_empty] at ho
    have hg := grownBy_sorted (w := w) (g := b) (n := q) (os := #[]) (Y.map bl ++ List.replicate (l - Y.length) []).toArray
    rw [grow_empty] at hg
    obtain ⟨p', c', e4, hr⟩ := Row.of_owns ho
    cases e4
    rw [List.map_append, enc_strs] at hr
    refine ⟨_, _, _, rfl, K Y c _ hasc hmem (Sl.pre hr.sl (by rw [strs_length]; omega) (by decide)) hlen (Chg.of_grown hg fun z hz => by cases hz; exact ⟨_, rfl, rfl⟩)⟩
/-- One string more. -/
theorem appS1 {w0 wa : World} {p : Option Addr} {l c : Nat} {L : List ByteArray} {s : ByteArray} {K : Option Addr → Nat → Nat → World → Prop} (hr : Row wa T_string 1 p l c (strs L)) (hlm : l + 1 ≤ 1000000000) (hf : fresh w0 p) (hc : Chg No w0 wa)
    (k : ∀ p' c' w', Row w' T_string 1 p' (l + 1) c' (strs (L ++ [s])) → fresh w0 p' → Chg No w0 w' → Chg (isB p) wa w' → K p' (l + 1) c' w') :
    newB wa (.cells ⟨[.string s]⟩ T_string) fun b w1 => appJ Tryz.prog T_sl_string T_sl_string (.slice p l c) (.slice (some ⟨b, 0, none⟩) 1 1) w1 K := by
  refine newRow (sz := 1) (n := 1) rfl (by decide) fun b w1 hr1 hb hc1 => ?_
  refine appJ_row slT_string (hr.chg hc1 (off_no _)) hr1.sl (one1_cons rfl one1_nil) (by simp) (by omega) (by simp only [maxLen]; omega) fun p' c' w' hr' hc' hf' => ?_
  have hc2 : Chg (isB p) wa w' := (hc1.mono fun _ _ h => h.elim).trans hc' fun b hb h => h
  refine k p' c' w' ?_ ?_ (hc.trans hc2 fun b hb ⟨a, ha, e⟩ => by have := hf a ha; omega) hc2
  · unfold strs at hr' ⊢; rw [List.map_append]; exact hr'
  · rcases hf' with rfl | hf'
    · exact hf
    · intro a ha; have := hf' a ha; have := hc.size; have := hc1.size; omega
theorem zeroC_attr : zeroC Tryz.prog T_api_Attr = ⟨[.string ByteArray.empty, .string ByteArray.empty, .string ByteArray.empty]⟩ := by kernel_rfl
theorem SpacesIn_ok : ∀ (v : NV) {w0 w : World} {p : Option Addr} {l c : Nat} {L : List ByteArray} {J : Option Addr → Nat → Nat → World → Prop}, v.Ok w0 → v.mea ≤ 100000000 → Row w T_string 1 p l c (strs L) → fresh w0 p → Chg No w0 w → l + v.nd.spc.length ≤ 100000000 →
    (∀ p' c' w', Row w' T_string 1 p' (l + v.nd.spc.length) c' (strs (L ++ v.nd.spc)) → fresh w0 p' → Chg No w0 w' → J p' (l + v.nd.spc.length) c' w') →
    callJ Tryz.prog fn_tree_spaces #[.agg ⟨v.cells⟩, .slice p l c] w [.one .slice] J := by
  intro v
  induction v using NV.ind with
  | h k u lo t ap al ac ats kp kl kc ks ih =>
    intro w0 w p l c L J hv hme hr hf hc hm K
    cases hv with
    | mk ha hn hac hk hkn hkc hks =>
    have hkl := hk.row (even_node ks) (by decide)
    have hal := ha.row (even_att ats) (by decide)
    have hlm := len_meaL ks
    have hla := len_atSum ats
    have hkm : ∀ y ∈ ks, y.mea ≤ 100000000 := fun y hy => by
      have := mea_kid hy
      simp only [NV.mea] at hme; omega
    have hbd : kl ≤ 100000000 ∧ al ≤ 100000000 := by simp only [NV.mea] at hme; omega
    rw [nd_kids] at K hm
    simp only [Nd.spc] at K hm
    simp only [List.length_append] at hm
    refine c_tree_spaces ?_
    unfold VC_tree_spaces
    refine nodeBox (Hp.start w No) fun b w1 H1 hb hc1 => ?_
    have hr1 := hr.chg hc1 (off_no _)
    refine withJ_i fun J1 hJ1 => ?_
    have k1 : ∀ p1 c1 w2, Row w2 T_string 1 p1 (l + (neB u).length) c1 (strs (L ++ neB u)) → fresh w0 p1 → Chg No w0 w2 → w2.cell? ⟨b, 3, none⟩ = some (.slice ap al ac) → w2.cell? ⟨b, 4, none⟩ = some (.slice kp kl kc) → typ w2 b = some T_api_Node → J1 p1 (l + (neB u).length) c1 w2 := by
      intro p1 c1 w2 hr2 hf2 hc2 hx3 hx4 ht; subst hJ1
      refine ⟨_, _, _, hx3, ?_⟩
      refine ⟨fun lp ll lc i w' m => ∃ q : Nat, i = q ∧ q ≤ al ∧ m = al - q ∧ ll = l + (neB u).length + ((ats.take q).flatMap fun a => neB a.1).length ∧ Row w' T_string 1 lp ll lc (strs (L ++ neB u ++ (ats.take q).flatMap fun a => neB a.1)) ∧ fresh w0 lp ∧ Chg No w0 w' ∧ w'.cell? ⟨b, 4, none⟩ = some (.slice kp kl kc) ∧ typ w' b = some T_api_Node,
        ⟨_, 0, rfl, Nat.zero_le _, rfl, rfl, by simpa using hr2, hf2, hc2, hx4, ht⟩, ?_⟩
      rintro lp ll lc i w3 m ⟨q, rfl, hq, rfl, rfl, hr3, hf3, hc3, hx4, ht⟩
      refine condB_d (fun hlt => ?_) (fun hge => ?_)
      · have hq2 : q < ats.length := by omega
        have hx := List.getElem?_eq_getElem hq2
        generalize ats[q] = x at hx
        have htk : ((ats.take (q + 1)).flatMap fun a => neB a.1) = ((ats.take q).flatMap fun a => neB a.1) ++ neB x.1 := by rw [take_get hx, List.flatMap_append]; simp
        have hle : ((ats.take (q + 1)).flatMap fun a => neB a.1).length ≤ (ats.flatMap fun a => neB a.1).length := by
          conv => rhs; rw [← List.take_append_drop (q + 1) ats, List.flatMap_append, List.length_append]
          omega
        rw [htk, List.length_append] at hle
        refine withJ_i fun J11 hJ11 => ?_
        have k11 : ∀ p4 c4 w4, Row w4 T_string 1 p4 (l + (neB u).length + ((ats.take (q + 1)).flatMap fun a => neB a.1).length) c4 (strs (L ++ neB u ++ (ats.take (q + 1)).flatMap fun a => neB a.1)) → fresh w0 p4 → Chg No w0 w4 → w4.cell? ⟨b, 4, none⟩ = some (.slice kp kl kc) → typ w4 b = some T_api_Node →
            J11 p4 (l + (neB u).length + ((ats.take (q + 1)).flatMap fun a => neB a.1).length) c4 w4 := by
          intro p4 c4 w4 g1 g2 g3 g4 g5; subst hJ11
          exact ⟨_, by omega, q + 1, by rw [w64_of] <;> omega, by omega, rfl, rfl, g1, g2, g3, g4, g5⟩
        clear hJ11
        refine idx_rows (ha.chg hc3 (off_no _)) (even_att ats) (by decide) (by omega) hlt fun a y _ hy hcs => ?_
        rw [Int.toNat_natCast, hx] at hy
        obtain rfl := Option.some.inj hy
        refine ldAttr hcs ?_
        rw [zeroC_attr]
        refine (Hp.start w3 No).newB fun b6 w5 H5 _ hc5 => ?_
        refine H5.stN 0 rfl (off := 0) rfl (by simp) (one1_at x) fun w6 H6 _ => ?_
        simp only [List.set_cons_zero] at H6
        have c6 := H6.chg
        have hr6 := hr3.chg c6 (off_no _)
        have hb6 : b < w3.heap.size := typ_lt ht
        have x46 := c6.cell hx4 (fun h => h)
        have t46 := typ_chg c6 ht (fun h => h)
        refine H6.ldStr 0 rfl (off := 0) rfl ?_
        rw [beqS]
        refine condB_not (fun hne => ?_) (fun he => ?_)
        · have hne' : ¬ x.1 = emptyB := of_decide_eq_false hne
          have hn1 : neB x.1 = [x.1] := by unfold neB; rw [if_neg hne']
          rw [htk, hn1] at k11
          rw [hn1] at hle
          refine H6.ldStr 0 rfl (off := 0) rfl ?_
          refine appS1 (w0 := w0) (s := x.1) hr6 (by rw [List.length_singleton] at hle; omega) hf3 (hc3.trans0 c6) fun p8 c8 w8 hr8 hf8 hc8 hcb8 => ?_
          have hnb : ¬ isB lp b := by
            rintro ⟨a, ha', e⟩
            have := hr6.typ a ha'
            rw [e, t46] at this
            exact absurd this (by decide)
          have := k11 p8 c8 w8 (by rw [← List.append_assoc, List.length_append]; exact hr8) hf8 hc8 (hcb8.cell x46 hnb) (typ_chg hcb8 t46 hnb)
          rw [List.length_append] at this
          exact this
        · have he' : x.1 = emptyB := of_decide_eq_true he
          have hn0 : neB x.1 = [] := by unfold neB; rw [if_pos he']
          rw [htk, hn0, List.append_nil] at k11
          exact k11 lp lc w6 hr6 hf3 (hc3.trans0 c6) x46 t46
      · rw [List.take_of_length_le (by omega)] at hr3 ⊢
        refine ⟨_, _, _, hx4, ?_⟩
        refine ⟨fun lp ll lc i w' m => ∃ q : Nat, i = q ∧ q ≤ kl ∧ m = kl - q ∧ ll = l + (neB u).length + (ats.flatMap fun a => neB a.1).length + (Nd.spcL ((ks.map NV.nd).take q)).length ∧ Row w' T_string 1 lp ll lc (strs (L ++ neB u ++ (ats.flatMap fun a => neB a.1) ++ Nd.spcL ((ks.map NV.nd).take q))) ∧ fresh w0 lp ∧ Chg No w0 w',
          ⟨_, 0, rfl, Nat.zero_le _, rfl, rfl, by simpa [Nd.spcL] using hr3, hf3, hc3⟩, ?_⟩
        rintro lp ll lc i w4 m ⟨q', rfl, hq', rfl, rfl, hr4, hf4, hc4⟩
        refine condB_d (fun hlt => ?_) (fun hge => ?_)
        · refine idx_rows (hk.chg hc4 (off_no _)) (even_node ks) (by decide) (by omega) hlt fun a y _ hy hcs => ?_
          rw [Int.toNat_natCast] at hy
          have hymem := List.mem_of_getElem? hy
          have ihy := @ih y hymem
          have hyok := hks y hymem
          have hym := hkm y hymem
          have htk : Nd.spcL ((ks.map NV.nd).take (q' + 1)) = Nd.spcL ((ks.map NV.nd).take q') ++ y.nd.spc := by
            rw [take_get (l := ks.map NV.nd) (c := y.nd) (by rw [List.getElem?_map, hy]; rfl), spcL_append]; simp [Nd.spcL]
          have hle : (Nd.spcL ((ks.map NV.nd).take (q' + 1))).length ≤ (Nd.spcL (ks.map NV.nd)).length := by
            conv => rhs; rw [← List.take_append_drop (q' + 1) (ks.map NV.nd), spcL_append, List.length_append]
            omega
          rw [htk, List.length_append] at hle
          cases y with
          | mk yk yu yl yt yap yal yac yas ykp ykl ykc yks =>
          refine nodeVar (Hp.start w4 No) hcs fun b6 w6 H6 _ hc6 => ?_
          refine ldBox H6 0 rfl ?_
          refine ihy hyok hym (hr4.chg hc6 (off_no _)) hf4 (hc4.trans0 hc6) (by omega) fun p7 c7 w7 hr7 hf7 hc7 => ?_
          refine ⟨_, by omega, q' + 1, by rw [w64_of] <;> omega, by omega, rfl, ?_, ?_, hf7, hc7⟩
          · rw [htk, List.length_append]; omega
          · rw [htk, ← List.append_assoc]; exact hr7
        · rw [List.take_of_length_le (by rw [List.length_map]; omega)] at hr4 ⊢
          have := K lp lc w4 (by
            simp only [List.length_append]
            rw [show l + ((neB u).length + (ats.flatMap fun a => neB a.1).length + (Nd.spcL (ks.map NV.nd)).length) = l + (neB u).length + (ats.flatMap fun a => neB a.1).length + (Nd.spcL (ks.map NV.nd)).length from by omega, ← List.append_assoc, ← List.append_assoc]
            exact hr4) hf4 hc4
          simp only [List.length_append] at this
          rw [show l + ((neB u).length + (ats.flatMap fun a => neB a.1).length + (Nd.spcL (ks.map NV.nd)).length) = l + (neB u).length + (ats.flatMap fun a => neB a.1).length + (Nd.spcL (ks.map NV.nd)).length from by omega] at this
          exact this
    clear hJ1
    have tb := typ_of (H1.get 0 rfl)
    refine H1.ldStr 0 rfl (off := 1) rfl ?_
    rw [beqS]
    refine condB_not (fun hne => ?_) (fun he => ?_)
    · have hne' : ¬ u = emptyB := of_decide_eq_false hne
      have hn1 : neB u = [u] := by unfold neB; rw [if_neg hne']
      rw [hn1] at k1 hm
      refine H1.ldStr 0 rfl (off := 1) rfl ?_
      refine appS1 (w0 := w0) (s := u) hr1 (by rw [List.length_singleton] at hm; omega) hf (hc.trans0 hc1) fun p8 c8 w8 hr8 hf8 hc8 hcb8 => ?_
      have hnb : ¬ isB p b := by
        rintro ⟨a, ha', e⟩
        have := hr1.typ a ha'
        rw [e, tb] at this
        exact absurd this (by decide)
      exact k1 p8 c8 w8 hr8 hf8 hc8 (hcb8.cell (H1.cell 0 rfl rfl) hnb) (hcb8.cell (H1.cell 0 rfl rfl) hnb) (typ_chg hcb8 tb hnb)
    · have he' : u = emptyB := of_decide_eq_true he
      have hn0 : neB u = [] := by unfold neB; rw [if_pos he']
      rw [hn0, List.append_nil] at k1
      exact k1 p c w1 hr1 hf (hc.trans0 hc1) (H1.cell 0 rfl rfl) (H1.cell 0 rfl rfl) tb
theorem Spaces_ok {x : NV} {J : Option Addr → Nat → Nat → World → Prop} (hx : x.Ok w) (hm : x.mea ≤ 10000000)
    (K : ∀ (Y : List ByteArray) p c w', SAsc Y → (∀ s, s ∈ Y ↔ s ∈ x.nd.spc) → Sl w' p Y.length 1 (strs Y) → Y.length ≤ 10000000 → Chg No w w' → J p Y.length c w') :
    callJ Tryz.prog fn_tree_Spaces #[.agg ⟨x.cells⟩] w [.one .slice] J := by
  have hs := spc_len x
  cases x with
  | mk k u l t ap al ac ats kp kl kc ks =>
  refine c_tree_Spaces ?_
  unfold VC_tree_Spaces
  refine nodeBox (Hp.start w No) fun b w1 H1 hb hc1 => ?_
  refine ldBox H1 0 rfl ?_
  refine SpacesIn_ok (.mk k u l t ap al ac ats kp kl kc ks) (w0 := w1) (L := []) (hx.chg0 hc1) (by omega) (Row.nil _ _ _) (by rintro a ⟨⟩) (Chg.refl _ _) (by omega) fun p2 c2 w2 hr2 hf2 hc2 => ?_
  rw [Nat.zero_add, List.nil_append] at hr2
  rw [Nat.zero_add]
  refine SortS_ok hr2 (by omega) fun ys w3 hperm hsort hr3 hc3 => ?_
  have hcs : Chg No w1 w3 := hc2.trans hc3 fun b hb ⟨a, ha, e⟩ => by have := hf2 a ha; omega
  refine Compact_ok hr3 hsort (by omega) fun Y c' w4 hasc hmem hsl hle hc4 => ?_
  have hc14 : Chg No w1 w4 := hcs.trans hc4 fun b hb ⟨a, ha, e⟩ => by have := hf2 a ha; omega
  exact K Y p2 c' w4 hasc (fun s => (hmem s).trans hperm.mem_iff) hsl (by omega) (hc1.trans0 hc14)
end
end Go.Proofs.YtmmfookfpdcohaaGreatDoor

