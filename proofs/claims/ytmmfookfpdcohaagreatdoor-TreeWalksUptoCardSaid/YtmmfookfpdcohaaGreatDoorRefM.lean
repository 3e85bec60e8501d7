/-
  The document's 'Flat', 'deep' and 'Check'; the statement Checks.
-/
import Derived.Test.YtmmfookfpdcohaaGreatDoorRefL
set_option linter.unusedVariables false
set_option linter.unusedSimpArgs false
namespace Go.Proofs.YtmmfookfpdcohaaGreatDoor
open Go Go.Vc Go.Lib
section
variable {w : World}
theorem RefFlat_ok : ∀ (v : NV) {w : World} {J : Option Addr → Nat → Nat → World → Prop}, v.Ok w → v.flat.length ≤ 100000000 →
    (∀ p' c' w', Row w' T_api_Node 6 p' v.flat.length c' (rows NV.cells v.flat) → fresh w p' → Chg No w w' → J p' v.flat.length c' w') →
    callJ Tryz.prog fn_ref05_Flat #[.agg ⟨v.cells⟩] w [.one .slice] J := by
  intro v
  induction v using NV.ind with
  | h k u lo t ap al ac ats kp kl kc ks ih =>
    intro w J hv hm K
    cases hv with
    | mk ha hn hac hk hkn hkc hks =>
    have hkl := hk.row (even_node ks) (by decide)
    have hfl : (NV.mk k u lo t ap al ac ats kp kl kc ks).flat = NV.mk k u lo t ap al ac ats kp kl kc ks :: NV.flatL ks := rfl
    rw [hfl, List.length_cons] at hm
    rw [hfl] at K
    have hkf := len_flatL ks
    refine c_ref05_Flat ?_
    unfold VC_ref05_Flat
    refine nodeBox (Hp.start w No) fun b w1 H1 hb hc1 => ?_
    refine ldBox H1 0 rfl ?_
    refine ⟨rfl, ?_⟩
    refine newRow (sz := 6) (n := 1) (cs := (NV.mk k u lo t ap al ac ats kp kl kc ks).cells) rfl (by decide) fun b7 w2 hr2 hb7 hc2 => ?_
    have H2 := H1.step0 hc2
    refine H2.ldS 0 rfl (off := 4) rfl ?_
    refine ⟨fun lp ll lc i w' m => ∃ q : Nat, i = q ∧ q ≤ kl ∧ m = kl - q ∧ ll = 1 + (NV.flatL (ks.take q)).length ∧ Row w' T_api_Node 6 lp ll lc (rows NV.cells (.mk k u lo t ap al ac ats kp kl kc ks :: NV.flatL (ks.take q))) ∧ fresh w lp ∧ Chg No w w',
      ⟨_, 0, rfl, Nat.zero_le _, rfl, rfl, by rw [List.take_zero, NV.flatL, rows_cons, rows_nil, List.append_nil]; exact hr2, (by intro a e; cases e; have := hc1.size; simp only; omega), H2.chg⟩, ?_⟩
    rintro lp ll lc i w3 m ⟨q, rfl, hq, rfl, rfl, hr3, hf3, hc3⟩
    refine condB_d (fun hlt => ?_) (fun hge => ?_)
    · refine idx_rows (hk.chg hc3 (off_no _)) (even_node ks) (by decide) (by omega) hlt fun a y _ hy hcs => ?_
      rw [Int.toNat_natCast] at hy
      have hymem := List.mem_of_getElem? hy
      have ihy := @ih y hymem
      have hyok := hks y hymem
      have hft := flatL_take hy
      have hle := flatL_le ks (q + 1)
      rw [hft, List.length_append] at hle
      cases y with
      | mk yk yu yl yt yap yal yac yas ykp ykl ykc yks =>
      refine nodeVar (Hp.start w3 No) hcs fun b6 w6 H6 _ hc6 => ?_
      refine ldBox H6 0 rfl ?_
      refine ihy ((hyok.chg0 hc3).chg0 hc6) (by omega) fun p7 c7 w7 hr7 hf7 hc7 => ?_
      have hs3 := hc3.size
      have hs6 := hc6.size
      have hs7 := hc7.size
      have hr3' := (hr3.chg hc6 (off_no _)).chg hc7 (off_no _)
      refine appJ_row slT_node hr3' hr7.sl (one1_rows fun x _ => one1_node x) hr7.none0 (by omega) (by simp only [maxLen]; omega) fun p8 c8 w8 hr8 hc8 hf8 => ?_
      refine ⟨_, by omega, q + 1, by rw [w64_of] <;> omega, by omega, rfl, by rw [hft, List.length_append]; omega, ?_, ?_, ?_⟩
      · rw [hft, ← List.cons_append, rows_append]; exact hr8
      · rcases hf8 with rfl | h
        · exact hf3
        · intro a e; have := h a e; omega
      · exact ((hc3.trans0 hc6).trans0 hc7).trans hc8 fun b hb hI => by
          obtain ⟨a, ea, e⟩ := hI
          have := hf3 a ea; omega
    · have hqk : q = kl := by omega
      subst hqk
      rw [List.take_of_length_le (by omega)] at hr3 ⊢
      have e1 : 1 + (NV.flatL ks).length = (NV.mk k u lo t ap al ac ats kp q kc ks :: NV.flatL ks).length := by rw [List.length_cons]; omega
      rw [e1] at hr3 ⊢
      exact K lp lc w3 hr3 hf3 hc3
theorem RefDeep_ok : ∀ (x : NV) {w : World} {left : Int} {J : Bool → World → Prop}, x.Ok w → x.mea ≤ 100000000 → -1 ≤ left → left ≤ 32 → (∀ w', Chg No w w' → J (deepN (32 - left) x.nd) w') → callJ Tryz.prog fn_ref05_deep #[.agg ⟨x.cells⟩, .int .i64 left] w [.one .bool] J := by
  intro x
  induction x using NV.ind with
  | h k u l t ap al ac ats kp kl kc ks ih =>
    intro w left J hx hm h0 h32 K
    cases hx with
    | mk ha hn hac hk hkn hkc hks =>
    have hkl := hk.row (even_node ks) (by decide)
    have hmm : kl ≤ 100000000 := by
      have := len_meaL ks
      simp only [NV.mea] at hm; omega
    have hkm : ∀ y ∈ ks, y.mea ≤ 100000000 := fun y hy => by
      have := mea_kid hy
      simp only [NV.mea] at hm; omega
    rw [nd_kids] at K
    unfold deepN at K
    have hany : ∀ ab : Int, deepNL ab (ks.map NV.nd) = ks.any fun y => deepN ab y.nd := fun ab => by rw [deepNL_any, List.any_map]; rfl
    rw [hany, hany] at K
    refine c_ref05_deep ?_
    unfold VC_ref05_deep
    refine nodeBox (Hp.start w No) fun b w1 H1 hb hc1 => ?_
    refine withJ_i fun J1 hJ1 => ?_
    have k1 : ∀ lf : Int, -1 ≤ lf → lf ≤ 32 → (∀ w', Chg No w w' → J (ks.any fun y => deepN (32 - lf) y.nd) w') → J1 lf w1 := by
      intro lf g0 g32 K1; subst hJ1
      refine H1.ldS 0 rfl (off := 4) rfl ?_
      refine ⟨fun i w' m => ∃ q : Nat, i = q ∧ q ≤ kl ∧ m = kl - q ∧ Chg No w w' ∧ (ks.take q).any (fun y => deepN (32 - lf) y.nd) = false, ⟨_, 0, rfl, Nat.zero_le _, rfl, hc1, rfl⟩, ?_⟩
      rintro i w3 m ⟨q, rfl, hq, rfl, hc3, hno⟩
      refine condB_d (fun hlt => ?_) (fun hge => ?_)
      · refine idx_rows (hk.chg hc3 (off_no _)) (even_node ks) (by decide) (by omega) hlt fun a y _ hy hcs => ?_
        rw [Int.toNat_natCast] at hy
        have hymem := List.mem_of_getElem? hy
        have ihy := @ih y hymem
        have hyok := hks y hymem
        have hym := hkm y hymem
        have hst := any_step (fun y : NV => deepN (32 - lf) y.nd) hy
        have hof := fun h => any_of (f := fun y : NV => deepN (32 - lf) y.nd) hy h
        cases y with
        | mk yk yu yl yt yap yal yac yas ykp ykl ykc yks =>
        refine nodeVar (Hp.start w3 No) hcs fun b6 w6 H6 _ hc6 => ?_
        refine ldBox H6 0 rfl ?_
        refine ihy ((hyok.chg0 hc3).chg0 hc6) hym g0 g32 fun w7 hc7 => ?_
        have c07 := (hc3.trans0 hc6).trans0 hc7
        refine condB_i (fun h => ?_) (fun h => ?_)
        · rw [hof h] at K1; exact K1 w7 c07
        · exact ⟨_, by omega, q + 1, by rw [w64_of] <;> omega, by omega, rfl, c07, by rw [hst, hno, h]; rfl⟩
      · rw [List.take_of_length_le (by omega)] at hno
        rw [hno] at K1; exact K1 w3 hc3
    clear hJ1
    refine H1.ldI 0 rfl (off := 0) rfl ?_
    refine condB_eq (fun e2 => ?_) (fun e2 => ?_)
    · rw [if_pos e2] at K
      refine condB_d (fun hd => ?_) (fun hd => ?_)
      · rw [if_pos (by omega)] at K; exact K w1 hc1
      · rw [if_neg (by omega)] at K
        rw [w64_of (by omega) (by omega)]
        rw [show (32 - left + 1 : Int) = 32 - (left - 1) from by omega] at K
        exact k1 (left - 1) (by omega) (by omega) K
    · rw [if_neg e2] at K
      exact k1 left h0 h32 K
/-- One of the seven, asked of a node. -/
theorem goodStep {w0 w1 : World} {Γ : List Blk} {b4 b7 : Nat} {gs : List Value} {g r : Bool} {jj : Int} {j i : Nat} {fn : FuncId} {k0 : Int} {u0 l0 t0 : ByteArray} {ap kp : Option Addr} {al ac kl kc : Nat} {e7 : TypeId} (ej : jj = j) (H : Hp w0 No w1 Γ) (hi : Γ[i]? = some ⟨b4, gs, T_7_bool⟩) (hl : gs.length = 7) (hj7 : j < 7) (hj : gs[j]? = some (.bool g))
    {i7 : Nat} (hi7 : Γ[i7]? = some ⟨b7, [.int .i64 k0, .string u0, .string l0, .slice ap al ac, .slice kp kl kc, .string t0], e7⟩) {J : World → Prop}
    (hb : ∀ K : Bool → World → Prop, (∀ w2, Chg No w1 w2 → K r w2) → callJ Tryz.prog fn #[.agg ⟨[.int .i64 k0, .string u0, .string l0, .slice ap al ac, .slice kp kl kc, .string t0]⟩] w1 [.one .bool] K)
    (hJ : ∀ w3, Hp w0 No w3 (Γ.set i ⟨b4, gs.set j (.bool (g && r)), T_7_bool⟩) → Chg (fun x => x = b4) w1 w3 → J w3) :
    idxA (some ⟨b4, 0, none⟩) 7 jj fun a => ldB w1 (a.add (jj.toNat * 1)) fun x => condB x
      (ldI .i64 w1 ⟨b7, 0, none⟩ fun x0 => ldStr w1 ⟨b7, 1, none⟩ fun x1 => ldStr w1 ⟨b7, 2, none⟩ fun x2 => ldS w1 ⟨b7, 3, none⟩ fun p3 l3 c3 => ldS w1 ⟨b7, 4, none⟩ fun p4 l4 c4 => ldStr w1 ⟨b7, 5, none⟩ fun x5 =>
        callJ Tryz.prog fn #[.agg ⟨[.int .i64 x0, .string x1, .string x2, .slice p3 l3 c3, .slice p4 l4 c4, .string x5]⟩] w1 [.one .bool] fun (r2 : Bool) (w2 : World) =>
        idxA (some ⟨b4, 0, none⟩) 7 jj fun a' => stV w2 (a'.add (jj.toNat * 1)) (.bool r2) fun w3 => J w3)
      (idxA (some ⟨b4, 0, none⟩) 7 jj fun a' => stV w1 (a'.add (jj.toNat * 1)) (.bool false) fun w3 => J w3) := by
  subst ej
  have e0 : ∀ n : Nat, (⟨b4, 0, none⟩ : Addr).add ((n : Int).toNat * 1) = ⟨b4, n, none⟩ := fun n => by rw [Addr.add_mk, Int.toNat_natCast]; simp
  refine idxA_i (by omega) (by omega) ?_
  rw [e0]
  refine H.ldB i hi (off := j) hj ?_
  refine condB_i (fun h => ?_) (fun h => ?_)
  · refine ldBox H i7 hi7 ?_
    refine hb _ fun w2 hc2 => ?_
    refine idxA_i (by omega) (by omega) ?_
    rw [e0]
    have H2 := H.step0 hc2
    refine H2.stV i hi (off := j) (by omega) fun w3 H3 hc3 => ?_
    refine hJ w3 ?_ ((hc2.mono fun _ _ h => h.elim).trans hc3 fun _ _ h => h)
    rw [h, Bool.true_and]; exact H3
  · refine idxA_i (by omega) (by omega) ?_
    rw [e0]
    refine H.stV i hi (off := j) (by omega) fun w3 H3 hc3 => ?_
    refine hJ w3 ?_ hc3
    rw [h, Bool.false_and]; exact H3
theorem zeroC_7 : zeroC Tryz.prog T_7_bool = ⟨[.bool false, .bool false, .bool false, .bool false, .bool false, .bool false, .bool false]⟩ := by kernel_rfl
theorem all_step {α : Type} {L : List α} {q : Nat} {x : α} (f : α → Bool) (h : L[q]? = some x) : (L.take (q + 1)).all f = ((L.take q).all f && f x) := by
  rw [take_get h, List.all_append, List.all_cons, List.all_nil, Bool.and_true]
theorem RefCheck_ok {x : NV} {J : Int → World → Prop} (hx : x.Ok w) (hm : x.mea ≤ 10000000) (K : ∀ w', Chg No w w' → J (checkL x.nd) w') : callJ Tryz.prog fn_ref05_Check #[.agg ⟨x.cells⟩] w [.one (.int .i64)] J := by
  have hx0 := hx
  have hfl := flat_len x
  have hok : ∀ y ∈ x.flat, y.Ok w ∧ y.mea ≤ 100000000 := fun y hy => ⟨flat_mem hy hx, by have := flat_mea hy; omega⟩
  have hfn := flat_nd x
  have hkind : x.nd.kind = x.kd := nd_kind x
  cases hx with
  | @mk k u l t ap al ac ats kp kl kc ks ha hn hac hk hkn hkc hks =>
    have hkl := hk.row (even_node ks) (by decide)
    refine c_ref05_Check ?_
    unfold VC_ref05_Check
    refine nodeBox (Hp.start w No) fun b w1 H1 hb hc1 => ?_
    refine H1.ldI 0 rfl (off := 0) rfl ?_
    have hkd : (NV.mk k u l t ap al ac ats kp kl kc ks).nd.kind = k := hkind
    refine condB_ne (fun h1 => ?_) (fun h1 => ?_)
    · have : checkL (NV.mk k u l t ap al ac ats kp kl kc ks).nd = 33 := by unfold checkL; rw [if_pos (.inl (by rw [hkd]; exact h1))]
      rw [this] at K; exact K w1 hc1
    rw [check_first (by rw [hkd]; exact h1), ← hfn, List.length_map, List.all_map, List.all_map, List.all_map, List.all_map, List.all_map, List.all_map] at K
    refine ldBox H1 0 rfl ?_
    refine RefFlat_ok (.mk k u l t ap al ac ats kp kl kc ks) (hx0.chg0 hc1) (by omega) fun p2 c2 w2 hr2 hf2 hc2 => ?_
    have hdk : (NV.mk k u l t ap al ac ats kp kl kc ks).nd.kids = ks.map NV.nd := by rw [nd_kids]; rfl
    have H2 := H1.step0 hc2
    refine ldBox H2 0 rfl ?_
    refine RefDeep_ok (.mk k u l t ap al ac ats kp kl kc ks) (hx0.chg0 H2.chg) (by omega) (by decide) (by decide) fun w3 hc3 => ?_
    rw [show ((32 : Int) - 32) = 0 from rfl]
    generalize hL : (NV.mk k u l t ap al ac ats kp kl kc ks).flat = L at *
    generalize hd : (NV.mk k u l t ap al ac ats kp kl kc ks).nd = d at *
    have H3 := H2.step0 hc3
    have hLl : L.length ≤ 10000000 := by omega
    have hr3 := hr2.chg hc3 (off_no _)
    rw [zeroC_7]
    refine H3.newB fun b4 w4 H4 hb4 hc4 => ?_
    refine H4.stN 0 rfl (off := 0) (vs := [.bool true, .bool (!deepN 0 d), .bool (decide (((L.length : Nat) : Int) ≤ 2001)), .bool true, .bool true, .bool true, .bool true]) rfl (by simp) (by intro v hv; simp only [List.mem_cons, List.not_mem_nil, or_false] at hv; rcases hv with rfl | rfl | rfl | rfl | rfl | rfl | rfl <;> rfl) fun w5 H5 hc5 => ?_
    simp only [List.set_cons_zero] at H5
    have hp4 : ∀ a, p2 = some a → a.block ≠ b4 := fun a e h => by have := hr3.lt a e; omega
    have hs5 : Sl w5 p2 L.length 6 (rows NV.cells L) := ((hr3.chg hc4 (off_no _)).chg hc5 (fun a e h => hp4 a e h)).sl
    have e20 : decide (((L.length : Nat) : Int) ≤ 2001) = decide (L.length ≤ 2001) := decide_eq_decide.2 (by omega)
    rw [e20] at H5
    refine ⟨fun i w' m => ∃ q : Nat, i = q ∧ q ≤ L.length ∧ m = L.length - q ∧ Sl w' p2 L.length 6 (rows NV.cells L) ∧
      Hp w No w' [⟨b4, [.bool ((L.take q).all (fun x => kindG x.nd)), .bool (!deepN 0 d), .bool (decide (L.length ≤ 2001) && (L.take q).all (fun x => !greatN x.nd)), .bool ((L.take q).all (fun x => nameG x.nd)), .bool ((L.take q).all (fun x => charsN x.nd)), .bool ((L.take q).all (fun x => orderN x.nd)), .bool ((L.take q).all (fun x => textN x.nd))], T_7_bool⟩,
        ⟨b, [.int .i64 k, .string u, .string l, .slice ap al ac, .slice kp kl kc, .string t], T_api_Node⟩], ⟨_, 0, rfl, Nat.zero_le _, rfl, hs5, by rw [List.take_zero]; simp only [List.all_nil, Bool.and_true]; exact H5⟩, ?_⟩
    rintro i w6 m ⟨q, rfl, hq, rfl, hs6, H6⟩
    refine condB_d (fun hlt => ?_) (fun hge => ?_)
    · refine withJ_i fun J0 hJ0 => ?_
      have k0 : ∀ w7, Sl w7 p2 L.length 6 (rows NV.cells L) → Hp w No w7 [⟨b4, [.bool ((L.take (q + 1)).all (fun x => kindG x.nd)), .bool (!deepN 0 d), .bool (decide (L.length ≤ 2001) && (L.take (q + 1)).all (fun x => !greatN x.nd)), .bool ((L.take (q + 1)).all (fun x => nameG x.nd)), .bool ((L.take (q + 1)).all (fun x => charsN x.nd)), .bool ((L.take (q + 1)).all (fun x => orderN x.nd)), .bool ((L.take (q + 1)).all (fun x => textN x.nd))], T_7_bool⟩,
        ⟨b, [.int .i64 k, .string u, .string l, .slice ap al ac, .slice kp kl kc, .string t], T_api_Node⟩] → J0 w7 := by
        intro w7 hs7 H7; subst hJ0
        exact ⟨_, by omega, q + 1, by rw [w64_of] <;> omega, by omega, rfl, hs7, H7⟩
      clear hJ0
      refine idx_rows hs6 (even_node L) (by decide) (by omega) hlt fun a y _ hy hcs => ?_
      rw [Int.toNat_natCast] at hy
      have hyo := hok y (List.mem_of_getElem? hy)
      rw [all_step (fun x => kindG x.nd) hy, all_step (fun x => !greatN x.nd) hy, all_step (fun x => nameG x.nd) hy, all_step (fun x => charsN x.nd) hy, all_step (fun x => orderN x.nd) hy, all_step (fun x => textN x.nd) hy] at k0
      generalize (L.take q).all (fun x => kindG x.nd) = g0 at *
      generalize (L.take q).all (fun x => !greatN x.nd) = g2 at *
      generalize (L.take q).all (fun x => nameG x.nd) = g3 at *
      generalize (L.take q).all (fun x => charsN x.nd) = g4 at *
      generalize (L.take q).all (fun x => orderN x.nd) = g5 at *
      generalize (L.take q).all (fun x => textN x.nd) = g6 at *
      rw [← Bool.and_assoc] at k0
      generalize (decide (L.length ≤ 2001) && g2) = g2' at *
      have hyk := fun {w'} (h : y.Ok w') (K : Bool → World → Prop) (g : ∀ w2, Chg No w' w2 → K (kindG y.nd) w2) => RefKind_ok (J := K) h hyo.2 g
      have hys := fun {w'} (h : y.Ok w') (K : Bool → World → Prop) (g : ∀ w2, Chg No w' w2 → K (!greatN y.nd) w2) => RefSize_ok (J := K) h hyo.2 g
      have hyn := fun {w'} (h : y.Ok w') (K : Bool → World → Prop) (g : ∀ w2, Chg No w' w2 → K (nameG y.nd) w2) => RefName_ok (J := K) h hyo.2 g
      have hyc := fun {w'} (h : y.Ok w') (K : Bool → World → Prop) (g : ∀ w2, Chg No w' w2 → K (charsN y.nd) w2) => RefChars_ok (J := K) h hyo.2 g
      have hyr := fun {w'} (h : y.Ok w') (K : Bool → World → Prop) (g : ∀ w2, Chg No w' w2 → K (orderN y.nd) w2) => RefOrder_ok (J := K) h hyo.2 g
      have hyt := fun {w'} (h : y.Ok w') (K : Bool → World → Prop) (g : ∀ w2, Chg No w' w2 → K (textN y.nd) w2) => RefText_ok (J := K) h hyo.2 g
      have hyok := hyo.1
      generalize kindG y.nd = r0 at *
      generalize greatN y.nd = r2 at *
      generalize nameG y.nd = r3 at *
      generalize charsN y.nd = r4 at *
      generalize orderN y.nd = r5 at *
      generalize textN y.nd = r6 at *
      cases y with
      | mk yk yu yl yt yap yal yac yas ykp ykl ykc yks =>
      refine nodeVar H6 hcs fun b7 w9 H9 hb7 hc9 => ?_
      have hs9 := hs6.chg hc9 (off_no _)
      refine withJ_i fun J1 hJ1 => ?_
      refine goodStep (g := g0) (r := r0) (j := 0) rfl H9 (i := 1) rfl rfl (by decide) rfl (i7 := 0) rfl (fun K g => hyk (hyok.chg0 H9.chg) K g) fun w10 H10 hc10 => ?_
      simp only [List.set_cons_succ, List.set_cons_zero] at H10
      have hs10 := hs9.chg hc10 (fun a e h => hp4 a e h)
      subst hJ1
      refine withJ_i fun J2 hJ2 => ?_
      refine goodStep (g := g2') (r := !r2) (j := 2) rfl H10 (i := 1) rfl rfl (by decide) rfl (i7 := 0) rfl (fun K g => hys (hyok.chg0 H10.chg) K g) fun w11 H11 hc11 => ?_
      simp only [List.set_cons_succ, List.set_cons_zero] at H11
      have hs11 := hs10.chg hc11 (fun a e h => hp4 a e h)
      subst hJ2
      refine withJ_i fun J3 hJ3 => ?_
      refine goodStep (g := g3) (r := r3) (j := 3) rfl H11 (i := 1) rfl rfl (by decide) rfl (i7 := 0) rfl (fun K g => hyn (hyok.chg0 H11.chg) K g) fun w12 H12 hc12 => ?_
      simp only [List.set_cons_succ, List.set_cons_zero] at H12
      have hs12 := hs11.chg hc12 (fun a e h => hp4 a e h)
      subst hJ3
      refine withJ_i fun J4 hJ4 => ?_
      refine goodStep (g := g4) (r := r4) (j := 4) rfl H12 (i := 1) rfl rfl (by decide) rfl (i7 := 0) rfl (fun K g => hyc (hyok.chg0 H12.chg) K g) fun w13 H13 hc13 => ?_
      simp only [List.set_cons_succ, List.set_cons_zero] at H13
      have hs13 := hs12.chg hc13 (fun a e h => hp4 a e h)
      subst hJ4
      refine withJ_i fun J5 hJ5 => ?_
      refine goodStep (g := g5) (r := r5) (j := 5) rfl H13 (i := 1) rfl rfl (by decide) rfl (i7 := 0) rfl (fun K g => hyr (hyok.chg0 H13.chg) K g) fun w14 H14 hc14 => ?_
      simp only [List.set_cons_succ, List.set_cons_zero] at H14
      have hs14 := hs13.chg hc14 (fun a e h => hp4 a e h)
      subst hJ5
      refine goodStep (g := g6) (r := r6) (j := 6) rfl H14 (i := 1) rfl rfl (by decide) rfl (i7 := 0) rfl (fun K g => hyt (hyok.chg0 H14.chg) K g) fun w15 H15 hc15 => ?_
      simp only [List.set_cons_succ, List.set_cons_zero] at H15
      exact k0 w15 (hs14.chg hc15 (fun a e h => hp4 a e h)) (H15.sub (.cons _ (.refl _)))
    · rw [List.take_of_length_le (by omega)] at H6
      have hroots : rootsN d = ks.countP fun y => decide (y.kd = 2) := by
        unfold rootsN
        rw [hdk, List.countP_map]
        congr 1
        funext y
        show decide (y.nd.kind = 2) = _
        rw [nd_kind]
      rw [hroots] at K
      refine H6.ldS 1 rfl (off := 4) rfl ?_
      have hkm := len_meaL ks
      have hmm : kl ≤ 10000000 := by simp only [NV.mea] at hm; omega
      change ∀ w', Chg No w w' → J (firstNo [L.all (fun x => kindG x.nd), !deepN 0 d, decide (L.length ≤ 2001) && L.all (fun x => !greatN x.nd), L.all (fun x => nameG x.nd), L.all (fun x => charsN x.nd), L.all (fun x => orderN x.nd), L.all (fun x => textN x.nd)] errs7 (if ((ks.countP fun y => decide (y.kd = 2)) ≠ 1) then 30 else 0)) w' at K
      generalize hG : [L.all (fun x => kindG x.nd), !deepN 0 d, decide (L.length ≤ 2001) && L.all (fun x => !greatN x.nd), L.all (fun x => nameG x.nd), L.all (fun x => charsN x.nd), L.all (fun x => orderN x.nd), L.all (fun x => textN x.nd)] = G at K
      have hGl : G.length = 7 := by rw [← hG]; rfl
      have hGc : [.bool (L.all (fun x => kindG x.nd)), .bool (!deepN 0 d), .bool (decide (L.length ≤ 2001) && L.all (fun x => !greatN x.nd)), .bool (L.all (fun x => nameG x.nd)), .bool (L.all (fun x => charsN x.nd)), .bool (L.all (fun x => orderN x.nd)), .bool (L.all (fun x => textN x.nd))] = G.map Value.bool := by rw [← hG]; rfl
      rw [hGc] at H6
      refine ⟨fun e i w' m => ∃ q : Nat, i = q ∧ q ≤ kl ∧ m = kl - q ∧ Hp w No w' [⟨b4, G.map Value.bool, T_7_bool⟩, ⟨b, [.int .i64 k, .string u, .string l, .slice ap al ac, .slice kp kl kc, .string t], T_api_Node⟩] ∧ e = (((ks.take q).countP fun y => decide (y.kd = 2) : Nat) : Int), ⟨_, 0, rfl, Nat.zero_le _, rfl, H6, rfl⟩, ?_⟩
      rintro e i w10 m ⟨q2, rfl, hq2, rfl, H10, rfl⟩
      have hcl := List.countP_le_length (p := fun y : NV => decide (y.kd = 2)) (l := ks.take q2)
      rw [List.length_take] at hcl
      refine condB_d (fun hlt => ?_) (fun hge2 => ?_)
      · refine withJ_i fun J5 hJ5 => ?_
        have k5 : ∀ (e : Int) (w11 : World), e = (((ks.take (q2 + 1)).countP fun y => decide (y.kd = 2) : Nat) : Int) → Chg No w10 w11 → J5 e w11 := by
          intro e w11 he c11; subst hJ5
          exact ⟨_, by omega, q2 + 1, by rw [w64_of] <;> omega, by omega, rfl, H10.step0 c11, he⟩
        clear hJ5
        refine idx_rows (hk.chg H10.chg (off_no _)) (even_node ks) (by decide) (by omega) hlt fun a y _ hy hcs => ?_
        rw [Int.toNat_natCast] at hy
        have hct := countP_take (p := fun y : NV => decide (y.kd = 2)) hy
        cases y with
        | mk yk yu yl yt yap yal yac yas ykp ykl ykc yks =>
        refine nodeVar (Hp.start w10 No) hcs fun b6 w13 H13 _ hc13 => ?_
        refine H13.ldI 0 rfl (off := 0) rfl ?_
        refine condB_eq (fun h2 => ?_) (fun h2 => ?_)
        · refine k5 _ _ ?_ hc13
          rw [hct, if_pos (show decide ((NV.mk yk yu yl yt yap yal yac yas ykp ykl ykc yks).kd = 2) = true from decide_eq_true h2), w64_of (by omega) (by omega)]; omega
        · refine k5 _ _ ?_ hc13
          rw [hct, if_neg (by rw [decide_eq_false (show ¬ (NV.mk yk yu yl yt yap yal yac yas ykp ykl ykc yks).kd = 2 from h2)]; decide)]; rfl
      · have hqk : q2 = kl := by omega
        rw [List.take_of_length_le (by omega)] at *
        generalize (ks.countP fun y => decide (y.kd = 2)) = rn at *
        generalize hD : (if rn ≠ 1 then (30 : Int) else 0) = D at K
        refine ⟨fun i w' m => ∃ q : Nat, i = q ∧ q ≤ 7 ∧ m = 7 - q ∧ w' = w10 ∧ firstNo G errs7 D = firstNo (G.drop q) (errs7.drop q) D, ⟨_, 0, rfl, Nat.zero_le _, rfl, rfl, rfl⟩, ?_⟩
        rintro i w11 m ⟨q3, rfl, hq3, rfl, rfl, hfi⟩
        refine condB_d (fun hlt => ?_) (fun hge => ?_)
        · have hg : G[q3]? = some G[q3] := List.getElem?_eq_getElem (by omega)
          have hel : q3 < errs7.length := by show q3 < 7; omega
          have he : errs7[q3]? = some errs7[q3] := List.getElem?_eq_getElem hel
          generalize G[q3] = gg at hg
          generalize errs7[q3] = ee at he
          rw [firstNo_drop hg he] at hfi
          refine idxA_i (by omega) (by omega) ?_
          rw [Addr.add_mk, Int.toNat_natCast, Nat.zero_add, Nat.mul_one]
          refine H10.ldB 0 rfl (off := q3) (x := gg) (by rw [List.getElem?_map, hg]; rfl) ?_
          refine condB_not (fun h => ?_) (fun h => ?_)
          · rw [if_neg (by rw [h]; decide)] at hfi
            refine ⟨ee, by omega, by omega, ?_, ?_⟩
            · have : (errs7.map fun z => Value.int .i64 z)[q3]? = some (.int .i64 ee) := by rw [List.getElem?_map, he]; rfl
              rw [Int.toNat_natCast]
              simpa [errs7] using this
            · rw [hfi] at K; exact K w11 H10.chg
          · rw [if_pos h] at hfi
            exact ⟨_, by omega, q3 + 1, by rw [w64_of] <;> omega, by omega, rfl, rfl, hfi⟩
        · obtain rfl : q3 = 7 := by omega
          have hfd : firstNo (G.drop 7) (errs7.drop 7) D = D := by rw [List.drop_eq_nil_of_le (by omega)]; rfl
          rw [hfi, hfd] at K
          refine condB_ne (fun h => ?_) (fun h => ?_)
          · rw [if_pos (by omega)] at hD; rw [← hD] at K; exact K w11 H10.chg
          · rw [if_neg (by omega)] at hD; rw [← hD] at K; exact K w11 H10.chg
end
end Go.Proofs.YtmmfookfpdcohaaGreatDoor

