/-
  The document's 'Check': names, kinds, texts, depth, all nodes; the first error.
-/
import Derived.Test.YtmmfookfpdcohaaGreatDoorRefK
set_option linter.unusedVariables false
set_option linter.unusedSimpArgs false
namespace Go.Vc
open Go Go.Lib
def kindQ (k : Int) (u l t : ByteArray) (ats : List At) (e : Bool) : Bool :=
  if k = 1 then decide (u = emptyB ∧ l = emptyB ∧ t = emptyB ∧ ats = [])
  else if k = 2 then decide (t = emptyB)
  else if k = 3 ∨ k = 4 then decide (u = emptyB ∧ l = emptyB ∧ ats = []) && e
  else if k = 5 then decide (u = emptyB ∧ ats = []) && e
  else false
theorem kindG_nd (k : Int) (u l t : ByteArray) (ap : Option Addr) (al ac : Nat) (ats : List At) (kp : Option Addr) (kl kc : Nat) (ks : List NV) :
    kindG (NV.mk k u l t ap al ac ats kp kl kc ks).nd = ((ks.all fun y => mayK k y.kd) && kindQ k u l t ats ks.isEmpty) := by
  rw [nd_kids]
  show ((ks.map NV.nd).all (fun x => mayK k x.kind) && kindQ k u l t ats (ks.map NV.nd).isEmpty) = _
  rw [List.all_map, List.isEmpty_map]
  congr 2
  funext y
  show mayK k y.nd.kind = _
  rw [nd_kind]
/-- The error of the first that isn't so. -/
def firstNo : List Bool → List Int → Int → Int
  | g :: gs, e :: es, d => if g = true then firstNo gs es d else e
  | _, _, d => d
theorem firstNo_drop {gs : List Bool} {es : List Int} {d : Int} {q : Nat} {g : Bool} {e : Int} (hg : gs[q]? = some g) (he : es[q]? = some e) :
    firstNo (gs.drop q) (es.drop q) d = if g = true then firstNo (gs.drop (q + 1)) (es.drop (q + 1)) d else e := by
  obtain ⟨h1, rfl⟩ := List.getElem?_eq_some_iff.1 hg
  obtain ⟨h2, rfl⟩ := List.getElem?_eq_some_iff.1 he
  rw [List.drop_eq_getElem_cons h1, List.drop_eq_getElem_cons h2, firstNo]
def errs7 : List Int := [33, 31, 5, 24, 21, 34, 32]
theorem check_first {d : Nd} (hk : d.kind = 1) :
    checkL d = firstNo [d.flat.all kindG, !deepN 0 d, decide (d.flat.length ≤ 2001) && d.flat.all (fun x => !greatN x), d.flat.all nameG, d.flat.all charsN, d.flat.all orderN, d.flat.all textN] errs7 (if rootsN d ≠ 1 then 30 else 0) := by
  unfold checkL
  have h3 : (2001 < d.flat.length ∨ d.flat.any greatN = true) ↔ (decide (d.flat.length ≤ 2001) && d.flat.all (fun x => !greatN x)) = false := by
    rw [Bool.and_eq_false_iff, decide_eq_false_iff_not]
    constructor
    · rintro (h | h)
      · exact .inl (by omega)
      · refine .inr (notall_of (f := fun x => !greatN x) ?_)
        simpa using h
    · rintro (h | h)
      · exact .inl (by omega)
      · right
        cases ha : d.flat.any greatN with
        | true => rfl
        | false =>
          have := all_of (f := fun x => !greatN x) (L := d.flat) (by simpa using ha)
          rw [this] at h; cases h
  simp only [firstNo, errs7, hk, not_true_eq_false, false_or, h3, Bool.not_eq_true']
  generalize d.flat.all kindG = b0
  generalize deepN 0 d = b1
  generalize (decide (d.flat.length ≤ 2001) && d.flat.all fun x => !greatN x) = b2
  generalize d.flat.all nameG = b3
  generalize d.flat.all charsN = b4
  generalize d.flat.all orderN = b5
  generalize d.flat.all textN = b6
  cases b0 <;> cases b1 <;> cases b2 <;> cases b3 <;> cases b4 <;> cases b5 <;> cases b6 <;> rfl
end Go.Vc
namespace Go.Proofs.YtmmfookfpdcohaaGreatDoor
open Go Go.Vc Go.Lib
section
variable {w : World}
theorem RefName_ok {x : NV} {J : Bool → World → Prop} (hx : x.Ok w) (hm : x.mea ≤ 100000000) (K : ∀ w', Chg No w w' → J (nameG x.nd) w') : callJ Tryz.prog fn_ref05_name #[.agg ⟨x.cells⟩] w [.one .bool] J := by
  cases hx with
  | @mk k u l t ap al ac ats kp kl kc ks ha hn hac hk hkn hkc hks =>
    have hal := ha.row (even_att ats) (by decide)
    have hmm : al ≤ 100000000 ∧ u.size ≤ 100000000 ∧ l.size ≤ 100000000 := by
      have := len_atSum ats
      simp only [NV.mea] at hm; omega
    have hg : nameG (NV.mk k u l t ap al ac ats kp kl kc ks).nd = ((decide (k ≠ 2) || calledN (u, l)) && ats.all attrN && (decide (k ≠ 5) || (nm (bl l) && !isXml (bl l)))) := rfl
    rw [hg] at K
    refine c_ref05_name ?_
    unfold VC_ref05_name
    refine nodeBox (Hp.start w No) fun b w1 H1 hb hc1 => ?_
    refine withJ_i fun J14 hJ14 => ?_
    have k14 : ∀ bb w2, Hp w No w2 [⟨b, [.int .i64 k, .string u, .string l, .slice ap al ac, .slice kp kl kc, .string t], T_api_Node⟩] → bb = !(decide (k ≠ 2) || calledN (u, l)) → J14 bb w2 := by
      intro bb w2 H2 hbb; subst hJ14
      refine condB_i (fun h => ?_) (fun h => ?_)
      · rw [h] at hbb
        rw [show (decide (k ≠ 2) || calledN (u, l)) = false from by revert hbb; cases (decide (k ≠ 2) || calledN (u, l)) <;> simp] at K
        simp only [Bool.false_and] at K
        exact K w2 H2.chg
      rw [h] at hbb
      rw [show (decide (k ≠ 2) || calledN (u, l)) = true from by revert hbb; cases (decide (k ≠ 2) || calledN (u, l)) <;> simp, Bool.true_and] at K
      refine H2.ldS 0 rfl (off := 3) rfl ?_
      refine ⟨fun i w' m => ∃ q : Nat, i = q ∧ q ≤ al ∧ m = al - q ∧ Hp w No w' [⟨b, [.int .i64 k, .string u, .string l, .slice ap al ac, .slice kp kl kc, .string t], T_api_Node⟩] ∧ (ats.take q).any (fun a => !attrN a) = false, ⟨_, 0, rfl, Nat.zero_le _, rfl, H2, rfl⟩, ?_⟩
      rintro i w3 m ⟨q, rfl, hq, rfl, H3, hno⟩
      refine condB_d (fun hlt => ?_) (fun hge => ?_)
      · refine idx_rows (ha.chg H3.chg (off_no _)) (even_att ats) (by decide) (by omega) hlt fun a y _ hy hcs => ?_
        rw [Int.toNat_natCast] at hy
        have hys : y.1.size ≤ 100000000 ∧ y.2.1.size ≤ 100000000 := by
          have := mem_sum atSize (List.mem_of_getElem? hy)
          simp only [NV.mea] at hm
          unfold atSize at this hm; omega
        refine attrVar H3 hcs fun b4 w5 H5 hb4 hc5 => ?_
        refine withJ_i fun J37 hJ37 => ?_
        have k37 : ∀ bb w6, Chg No w5 w6 → bb = !attrN y → J37 bb w6 := by
          intro bb w6 hc6 hbb; subst hJ37
          have H6 := (H3.step0 hc5).step0 hc6
          refine condB_i (fun h => ?_) (fun h => ?_)
          · rw [h] at hbb
            rw [notall_of (f := attrN) (any_of hy hbb.symm)] at K
            exact K w6 H6.chg
          · refine ⟨_, by omega, q + 1, by rw [w64_of] <;> omega, by omega, rfl, H6, ?_⟩
            rw [any_step _ hy, hno, ← hbb, h]; rfl
        clear hJ37
        have hat : attrN y = (calledN (y.1, y.2.1) && !decide (y.1 = emptyB ∧ y.2.1 = kXn)) := rfl
        rw [hat] at k37
        refine H5.ldStr 0 rfl (off := 0) rfl ?_
        refine H5.ldStr 0 rfl (off := 1) rfl ?_
        refine RefCalled_ok (n := (y.1, y.2.1)) hys.1 hys.2 fun w6 hc6 => ?_
        refine condB_not (fun h => k37 _ _ hc6 (by rw [h]; rfl)) (fun h => ?_)
        rw [h] at k37
        have H6 := H5.step0 hc6
        refine H6.ldStr 0 rfl (off := 0) rfl ?_
        rw [beqS]
        refine condB_d (fun h1 => ?_) (fun h1 => ?_)
        · refine H6.ldStr 0 rfl (off := 1) rfl ?_
          rw [beqS]
          refine k37 _ _ hc6 ?_
          rw [Bool.true_and, Bool.not_not]
          exact decide_eq_decide.2 ⟨fun h2 => ⟨h1, h2⟩, fun h2 => h2.2⟩
        · refine k37 _ _ hc6 ?_
          rw [Bool.true_and, Bool.not_not]
          exact (decide_eq_false fun h2 => h1 h2.1).symm
      · rw [List.take_of_length_le (by omega)] at hno
        rw [all_of hno, Bool.true_and] at K
        refine H3.ldStr 0 rfl (off := 2) rfl ?_
        simp only [withJ]
        refine H3.ldI 0 rfl (off := 0) rfl ?_
        refine condB_ne (fun h5 => ?_) (fun h5 => ?_)
        · rw [decide_eq_true h5] at K; exact K w3 H3.chg
        rw [decide_eq_false (fun hh => hh h5), Bool.false_or] at K
        refine NameR_ok (by omega) fun w9 hc9 => ?_
        have H9 := H3.step0 hc9
        have K9 := K w9 H9.chg
        refine condB_i (fun hn1 => ?_) (fun hn1 => ?_)
        · rw [hn1, Bool.true_and] at K9
          have hll := bl_len l
          refine condB_eq (fun h3 => ?_) (fun h3 => ?_)
          · obtain ⟨a, b', c, habc⟩ : ∃ a b c, bl l = [a, b, c] := by
              have h3' : (bl l).length = 3 := by omega
              match hbl : bl l, h3' with
              | [a, b, c], _ => exact ⟨a, b, c, rfl⟩
            rw [habc, isXml_three] at K9
            have ix0 : ∀ {K : Int → Prop}, K ((a.toNat : Nat) : Int) → idxStr l 0 K := fun {K} h => by
              refine idxStr_b (by decide) (by omega) fun z hz => ?_
              rw [habc] at hz; obtain rfl : a = z := Option.some.inj hz; exact h
            have ix1 : ∀ {K : Int → Prop}, K ((b'.toNat : Nat) : Int) → idxStr l 1 K := fun {K} h => by
              refine idxStr_b (by decide) (by omega) fun z hz => ?_
              rw [habc] at hz; obtain rfl : b' = z := Option.some.inj hz; exact h
            have ix2 : ∀ {K : Int → Prop}, K ((c.toNat : Nat) : Int) → idxStr l 2 K := fun {K} h => by
              refine idxStr_b (by decide) (by omega) fun z hz => ?_
              rw [habc] at hz; obtain rfl : c = z := Option.some.inj hz; exact h
            have f0 : ∀ {bb : Bool}, ¬ (a.toNat = 120 ∨ a.toNat = 88) → bb = true → J bb w9 := fun h1 h2 => by rw [decide_eq_false h1] at K9; rw [h2]; exact K9
            have f1 : ∀ {bb : Bool}, (a.toNat = 120 ∨ a.toNat = 88) → ¬ (b'.toNat = 109 ∨ b'.toNat = 77) → bb = true → J bb w9 := fun h1 h2 h3 => by rw [decide_eq_true h1, decide_eq_false h2] at K9; rw [h3]; exact K9
            have f2 : ∀ {bb : Bool}, (a.toNat = 120 ∨ a.toNat = 88) → (b'.toNat = 109 ∨ b'.toNat = 77) → bb = !decide (c.toNat = 108 ∨ c.toNat = 76) → J bb w9 := fun h1 h2 h3 => by rw [decide_eq_true h1, decide_eq_true h2] at K9; rw [h3]; exact K9
            have last : (a.toNat = 120 ∨ a.toNat = 88) → (b'.toNat = 109 ∨ b'.toNat = 77) → idxStr l 2 fun x => condB (x == 108) (J false w9) (idxStr l 2 fun y => J (!(y == 76)) w9) := fun h1 h2 => by
              refine ix2 ?_
              refine condB_eq (fun h4 => f2 h1 h2 (by rw [decide_eq_true (by omega)]; rfl)) (fun h4 => ?_)
              refine ix2 ?_
              refine f2 h1 h2 ?_
              congr 1
              rw [Bool.eq_iff_iff, beq_iff_eq, decide_eq_true_eq]; omega
            have mid : (a.toNat = 120 ∨ a.toNat = 88) → idxStr l 1 fun x => condB (x == 109) (idxStr l 2 fun x => condB (x == 108) (J false w9) (idxStr l 2 fun y => J (!(y == 76)) w9)) (idxStr l 1 fun x => condB (x == 77) (idxStr l 2 fun x => condB (x == 108) (J false w9) (idxStr l 2 fun y => J (!(y == 76)) w9)) (J true w9)) := fun h1 => by
              refine ix1 ?_
              refine condB_eq (fun h4 => last h1 (by omega)) (fun h4 => ?_)
              refine ix1 ?_
              exact condB_eq (fun h4 => last h1 (by omega)) (fun h5 => f1 h1 (by omega) rfl)
            refine ix0 ?_
            refine condB_eq (fun h4 => mid (by omega)) (fun h4 => ?_)
            refine ix0 ?_
            exact condB_eq (fun h4 => mid (by omega)) (fun h5 => f0 (by omega) rfl)
          · rw [isXml_len (by omega)] at K9; exact K9
        · rw [hn1] at K9; exact K9
    clear hJ14
    refine H1.ldI 0 rfl (off := 0) rfl ?_
    refine condB_eq (fun h2 => ?_) (fun h2 => ?_)
    · refine H1.ldStr 0 rfl (off := 1) rfl ?_
      refine H1.ldStr 0 rfl (off := 2) rfl ?_
      refine RefCalled_ok (n := (u, l)) hmm.2.1 hmm.2.2 fun w2 hc2 => ?_
      refine k14 _ w2 (H1.step0 hc2) ?_
      rw [decide_eq_false (fun h => h h2), Bool.false_or]
    · exact k14 _ w1 H1 (by rw [decide_eq_true h2]; rfl)
theorem RefKind_ok {x : NV} {J : Bool → World → Prop} (hx : x.Ok w) (hm : x.mea ≤ 100000000) (K : ∀ w', Chg No w w' → J (kindG x.nd) w') : callJ Tryz.prog fn_ref05_kind #[.agg ⟨x.cells⟩] w [.one .bool] J := by
  cases hx with
  | @mk k u l t ap al ac ats kp kl kc ks ha hn hac hk hkn hkc hks =>
    have hal := ha.row (even_att ats) (by decide)
    have hkl := hk.row (even_node ks) (by decide)
    have hmm : kl ≤ 100000000 := by
      have := len_meaL ks
      simp only [NV.mea] at hm; omega
    rw [kindG_nd] at K
    refine c_ref05_kind ?_
    unfold VC_ref05_kind
    refine nodeBox (Hp.start w No) fun b w1 H1 hb hc1 => ?_
    refine H1.ldStr 0 rfl (off := 1) rfl ?_
    refine H1.ldStr 0 rfl (off := 2) rfl ?_
    refine H1.ldS 0 rfl (off := 4) rfl ?_
    refine ⟨fun i w' m => ∃ q : Nat, i = q ∧ q ≤ kl ∧ m = kl - q ∧ Hp w No w' [⟨b, [.int .i64 k, .string u, .string l, .slice ap al ac, .slice kp kl kc, .string t], T_api_Node⟩] ∧ (ks.take q).any (fun y => !mayK k y.kd) = false, ⟨_, 0, rfl, Nat.zero_le _, rfl, H1, rfl⟩, ?_⟩
    rintro i w2 m ⟨q, rfl, hq, rfl, H2, hno⟩
    refine condB_d (fun hlt => ?_) (fun hge => ?_)
    · refine idx_rows (hk.chg H2.chg (off_no _)) (even_node ks) (by decide) (by omega) hlt fun a y _ hy hcs => ?_
      rw [Int.toNat_natCast] at hy
      cases y with
      | mk yk yu yl yt yap yal yac yas ykp ykl ykc yks =>
      refine nodeVar H2 hcs fun b5 w4 H4 hb5 hc4 => ?_
      refine withJ_i fun J6 hJ6 => ?_
      have k6 : ∀ inner : Bool, inner = decide (yk = 2 ∨ yk = 4 ∨ yk = 5) → J6 inner w4 := by
        intro inner hin; subst hJ6
        refine withJ_i fun J51 hJ51 => ?_
        have k51 : ∀ bb : Bool, bb = !mayK k yk → J51 bb w4 := by
          intro bb hbb; subst hJ51
          refine condB_i (fun h => ?_) (fun h => ?_)
          · rw [h] at hbb
            rw [notall_of (f := fun y : NV => mayK k y.kd) (any_of hy hbb.symm)] at K
            exact K w4 H4.chg
          · refine ⟨_, by omega, q + 1, by rw [w64_of] <;> omega, by omega, rfl, H2.step0 hc4, ?_⟩
            rw [any_step _ hy, hno]
            show (false || !mayK k yk) = false
            rw [← hbb, h]; rfl
        clear hJ51
        unfold mayK at k51
        refine H4.ldI 1 rfl (off := 0) rfl ?_
        refine condB_eq (fun h1 => ?_) (fun h1 => ?_)
        · refine condB_not (fun hi => ?_) (fun hi => ?_)
          · have hi' := of_decide_eq_false (hin.symm.trans hi)
            refine H4.ldI 1 rfl (off := 0) rfl ?_
            refine condB_eq (fun h2 => by omega) (fun h2 => ?_)
            exact k51 _ (by rw [decide_eq_false (by omega)]; rfl)
          · have hi' := of_decide_eq_true (hin.symm.trans hi)
            exact k51 _ (by rw [decide_eq_true (by omega)]; rfl)
        · refine H4.ldI 1 rfl (off := 0) rfl ?_
          refine condB_eq (fun h2 => ?_) (fun h2 => ?_)
          · refine condB_i (fun hi => ?_) (fun hi => ?_)
            · have hi' := of_decide_eq_true (hin.symm.trans hi)
              exact k51 _ (by rw [decide_eq_true (by omega)]; rfl)
            · have hi' := of_decide_eq_false (hin.symm.trans hi)
              refine H4.ldI 0 rfl (off := 0) rfl ?_
              refine k51 _ ?_
              congr 1
              rw [Bool.eq_iff_iff, beq_iff_eq, decide_eq_true_eq]; omega
          · exact k51 _ (by rw [decide_eq_false (by omega)]; rfl)
      clear hJ6
      refine H4.ldI 0 rfl (off := 0) rfl ?_
      refine condB_eq (fun h => k6 _ (by rw [decide_eq_true (by omega)])) (fun h2 => ?_)
      refine H4.ldI 0 rfl (off := 0) rfl ?_
      refine condB_eq (fun h => k6 _ (by rw [decide_eq_true (by omega)])) (fun h4 => ?_)
      refine H4.ldI 0 rfl (off := 0) rfl ?_
      refine k6 _ ?_
      rw [Bool.eq_iff_iff, beq_iff_eq, decide_eq_true_eq]; omega
    · rw [List.take_of_length_le (by omega)] at hno
      rw [all_of hno, Bool.true_and] at K
      have eA : ats = [] ↔ al = 0 := by rw [← hal]; exact List.length_eq_zero_iff.symm
      have eK : ks.isEmpty = true ↔ kl = 0 := by rw [← hkl, List.isEmpty_iff]; exact List.length_eq_zero_iff.symm
      unfold kindQ at K
      have kk := K w2 H2.chg
      refine H2.ldI 0 rfl (off := 0) rfl ?_
      simp only [beqS, Bool.and_true]
      refine condB_eq (fun e1 => ?_) (fun e1 => ?_)
      · rw [if_pos e1] at kk
        simp only [withJ]
        refine condB_i (fun h => ?_) (fun h => ?_)
        · rw [Bool.and_eq_true, decide_eq_true_eq, decide_eq_true_eq] at h
          refine H2.ldStr 0 rfl (off := 5) rfl ?_
          refine condB_d (fun h5 => ?_) (fun h5 => ?_)
          · refine H2.ldS 0 rfl (off := 3) rfl ?_
            rw [show (((al : Nat) : Int) == 0) = decide (u = emptyB ∧ l = emptyB ∧ t = emptyB ∧ ats = []) from by
              rw [Bool.eq_iff_iff, beq_iff_eq, decide_eq_true_eq]
              exact ⟨fun g => ⟨h.1, h.2, h5, eA.2 (by omega)⟩, fun g => by have := eA.1 g.2.2.2; omega⟩]
            exact kk
          · rw [decide_eq_false (fun g => h5 g.2.2.1)] at kk; exact kk
        · rw [Bool.and_eq_false_iff, decide_eq_false_iff_not, decide_eq_false_iff_not] at h
          rw [decide_eq_false (fun g => h.elim (fun h => h g.1) (fun h => h g.2.1))] at kk; exact kk
      rw [if_neg e1] at kk
      refine condB_eq (fun e2 => ?_) (fun e2 => ?_)
      · rw [if_pos e2] at kk
        refine H2.ldStr 0 rfl (off := 5) rfl ?_
        exact kk
      rw [if_neg e2] at kk
      refine withJ_i fun J74 hJ74 => ?_
      have k74 : ∀ bb : Bool, (bb = true ↔ k = 3 ∨ k = 4) → J74 bb w2 := by
        intro bb hbb; subst hJ74
        refine condB_i (fun h => ?_) (fun h => ?_)
        · rw [if_pos (hbb.1 h)] at kk
          simp only [withJ]
          refine condB_i (fun h => ?_) (fun h => ?_)
          · rw [Bool.and_eq_true, decide_eq_true_eq, decide_eq_true_eq] at h
            refine H2.ldS 0 rfl (off := 3) rfl ?_
            refine condB_eq (fun h5 => ?_) (fun h5 => ?_)
            · refine H2.ldS 0 rfl (off := 4) rfl ?_
              rw [decide_eq_true (show u = emptyB ∧ l = emptyB ∧ ats = [] from ⟨h.1, h.2, eA.2 (by omega)⟩), Bool.true_and] at kk
              rw [show (((kl : Nat) : Int) == 0) = ks.isEmpty from by rw [Bool.eq_iff_iff, beq_iff_eq, eK]; omega]
              exact kk
            · rw [decide_eq_false (fun g => h5 (by have := eA.1 g.2.2; omega))] at kk; exact kk
          · rw [Bool.and_eq_false_iff, decide_eq_false_iff_not, decide_eq_false_iff_not] at h
            rw [decide_eq_false (fun g => h.elim (fun h => h g.1) (fun h => h g.2.1))] at kk; exact kk
        · rw [if_neg (fun g => by rw [hbb.2 g] at h; cases h)] at kk
          refine condB_eq (fun e5 => ?_) (fun e5 => ?_)
          · rw [if_pos e5] at kk
            simp only [withJ]
            refine H2.ldStr 0 rfl (off := 1) rfl ?_
            refine condB_d (fun h => ?_) (fun h => ?_)
            · refine H2.ldS 0 rfl (off := 3) rfl ?_
              refine condB_eq (fun h5 => ?_) (fun h5 => ?_)
              · refine H2.ldS 0 rfl (off := 4) rfl ?_
                rw [decide_eq_true (show u = emptyB ∧ ats = [] from ⟨h, eA.2 (by omega)⟩), Bool.true_and] at kk
                rw [show (((kl : Nat) : Int) == 0) = ks.isEmpty from by rw [Bool.eq_iff_iff, beq_iff_eq, eK]; omega]
                exact kk
              · rw [decide_eq_false (fun g => h5 (by have := eA.1 g.2; omega))] at kk; exact kk
            · rw [decide_eq_false (fun g => h g.1)] at kk; exact kk
          · rw [if_neg e5] at kk; exact kk
      clear hJ74
      refine condB_eq (fun h => k74 _ ⟨fun _ => .inl h, fun _ => by rw [beq_iff_eq]; exact h⟩) (fun h => k74 _ ⟨fun g => .inr (by rwa [beq_iff_eq] at g), fun g => by rw [beq_iff_eq]; omega⟩)
theorem RefText_ok {x : NV} {J : Bool → World → Prop} (hx : x.Ok w) (hm : x.mea ≤ 100000000) (K : ∀ w', Chg No w w' → J (textN x.nd) w') : callJ Tryz.prog fn_ref05_text #[.agg ⟨x.cells⟩] w [.one .bool] J := by
  cases hx with
  | @mk k u l t ap al ac ats kp kl kc ks ha hn hac hk hkn hkc hks =>
    have hkl := hk.row (even_node ks) (by decide)
    have hmm : kl ≤ 100000000 := by
      have := len_meaL ks
      simp only [NV.mea] at hm; omega
    have ht : t.size ≤ 100000000 := by simp only [NV.mea] at hm; omega
    rw [nd_kids] at K
    unfold textN at K
    change ∀ w', Chg No w w' → J (!twoTexts (ks.map NV.nd) && textQ k t) w' at K
    have kk : ∀ {i : Nat} {y : NV}, ks[i]? = some y → (ks.map NV.nd)[i]? = some y.nd := fun h => by rw [List.getElem?_map, h]; rfl
    refine c_ref05_text ?_
    unfold VC_ref05_text
    refine nodeBox (Hp.start w No) fun b w1 H1 hb hc1 => ?_
    refine ⟨fun i w' m => ∃ q : Nat, i = ((q + 1 : Nat) : Int) ∧ q ≤ kl ∧ m = kl - q ∧ Hp w No w' [⟨b, [.int .i64 k, .string u, .string l, .slice ap al ac, .slice kp kl kc, .string t], T_api_Node⟩] ∧ ∀ j x y, j + 1 < q + 1 → ks[j]? = some x → ks[j + 1]? = some y → ¬ (x.kd = 3 ∧ y.kd = 3), ⟨_, 0, rfl, Nat.zero_le _, rfl, H1, by omega⟩, ?_⟩
    rintro i w2 m ⟨q, rfl, hq, rfl, H2, hup⟩
    refine H2.ldS 0 rfl (off := 4) rfl ?_
    refine condB_d (fun hlt => ?_) (fun hge => ?_)
    · refine withJ_i fun J28 hJ28 => ?_
      have k28 : ∀ (bb : Bool), (bb = true → twoTexts (ks.map NV.nd) = true) → (bb = false → ∀ x y, ks[q]? = some x → ks[q + 1]? = some y → ¬ (x.kd = 3 ∧ y.kd = 3)) → J28 bb w2 := by
        intro bb g1 g2; subst hJ28
        refine condB_i (fun h => ?_) (fun h => ?_)
        · rw [g1 h] at K; exact K w2 H2.chg
        · refine ⟨_, by omega, q + 1, by rw [w64_of] <;> omega, by omega, rfl, H2, ?_⟩
          intro j x y' hj hx hy'
          rcases Nat.lt_or_ge (j + 1) (q + 1) with h1 | h1
          · exact hup j x y' h1 hx hy'
          · obtain rfl : j = q := by omega
            exact g2 h x y' hx hy'
      clear hJ28
      refine H2.ldS 0 rfl (off := 4) rfl ?_
      refine idx_rows (hk.chg H2.chg (off_no _)) (even_node ks) (by decide) (by omega) (by omega) fun a y _ hy hcs => ?_
      rw [Int.toNat_natCast] at hy
      cases y with
      | mk yk yu yl yt yap yal yac yas ykp ykl ykc yks =>
      refine ldI_i (cellsAt_head hcs) ?_
      refine condB_eq (fun h3 => ?_) (fun h3 => k28 _ (fun h => by cases h) (fun _ x y _ hy' h => by rw [hy] at hy'; obtain rfl := Option.some.inj hy'; exact h3 h.2))
      refine H2.ldS 0 rfl (off := 4) rfl ?_
      have e1 : w64 (((q + 1 : Nat) : Int) - 1) = (q : Int) := by rw [w64_of] <;> omega
      rw [e1]
      refine idx_rows (hk.chg H2.chg (off_no _)) (even_node ks) (by decide) (by omega) (by omega) fun a' x _ hx hcs' => ?_
      rw [Int.toNat_natCast] at hx
      cases x with
      | mk xk xu xl xt xap xal xac xas xkp xkl xkc xks =>
      refine ldI_i (cellsAt_head hcs') ?_
      refine k28 _ (fun h => ?_) (fun h x' y' hx' _ => ?_)
      · have h' : xk = 3 := by simpa using h
        exact two_get.2 ⟨q, _, _, kk hx, kk hy, by rw [nd_kind]; exact h', by rw [nd_kind]; exact h3⟩
      · rw [hx] at hx'
        obtain rfl := Option.some.inj hx'
        have h' : xk ≠ 3 := by simpa using h
        exact fun hh => h' hh.1
    · have htt : twoTexts (ks.map NV.nd) = false := by
        rw [Bool.eq_false_iff]
        intro h
        obtain ⟨j, x, y, hx, hy, h1, h2⟩ := two_get.1 h
        rw [List.getElem?_map, Option.map_eq_some_iff] at hx hy
        obtain ⟨x', hx', rfl⟩ := hx
        obtain ⟨y', hy', rfl⟩ := hy
        rw [nd_kind] at h1 h2
        exact hup j x' y' (by have := (List.getElem?_eq_some_iff.1 hy').1; omega) hx' hy' ⟨h1, h2⟩
      rw [htt] at K
      rw [Bool.not_false, Bool.true_and] at K
      unfold textQ at K
      have K2 := K w2 H2.chg
      have htl := bl_len t
      refine H2.ldStr 0 rfl (off := 5) rfl ?_
      refine H2.ldI 0 rfl (off := 0) rfl ?_
      refine condB_eq (fun e3 => ?_) (fun e3 => ?_)
      · rw [if_pos e3, decide_not] at K2
        rw [beqS]; exact K2
      rw [if_neg e3] at K2
      refine condB_eq (fun e4 => ?_) (fun e4 => ?_)
      · rw [if_pos e4] at K2
        simp only [withJ]
        refine RefHas_ok (by omega) (by decide) ?_
        refine condB_not (fun h => ?_) (fun h => ?_)
        · have h0 : hasS [45, 45] (bl t) = false := h
          rw [h0, Bool.not_false, Bool.true_and] at K2
          refine RefHas_ok (by omega) (by decide) ?_
          refine condB_not (fun h => ?_) (fun h => ?_)
          · have h0 : hasS [13] (bl t) = false := h
            rw [h0, Bool.not_false, Bool.true_and] at K2
            rw [beqS]
            refine condB_d (fun h5 => ?_) (fun h5 => ?_)
            · rw [decide_eq_true (show (bl t).getLast? ≠ some 45 from by rw [h5]; decide)] at K2
              exact K2
            · have hne : bl t ≠ [] := fun h6 => h5 (bl_ext h6)
              have hpos : 0 < t.size := by rw [← htl]; exact List.length_pos_iff.2 hne
              have e1 : w64 ((t.size : Int) - 1) = ((t.size - 1 : Nat) : Int) := by rw [w64_of] <;> omega
              rw [e1]
              refine idxStr_b (by omega) (by omega) fun z hz => ?_
              rw [Int.toNat_natCast, ← htl] at hz
              rw [List.getLast?_eq_getElem?, hz] at K2
              rw [show (((z.toNat : Nat) : Int) != 45) = decide (some z ≠ some 45) from by
                rw [Bool.eq_iff_iff, bne_iff_ne, decide_eq_true_eq, ne_eq, ne_eq, Option.some.injEq, ← UInt8.toNat_inj]
                show ¬ _ ↔ ¬ z.toNat = 45
                omega]
              exact K2
          · have h0 : hasS [13] (bl t) = true := h
            rw [h0] at K2; exact K2
        · have h0 : hasS [45, 45] (bl t) = true := h
          rw [h0] at K2; exact K2
      rw [if_neg e4] at K2
      refine condB_eq (fun e5 => ?_) (fun e5 => ?_)
      · rw [if_pos e5] at K2
        simp only [withJ]
        refine RefHas_ok (by omega) (by decide) ?_
        refine condB_not (fun h => ?_) (fun h => ?_)
        · have h0 : hasS [63, 62] (bl t) = false := h
          rw [h0, Bool.not_false, Bool.true_and] at K2
          refine RefHas_ok (by omega) (by decide) ?_
          refine condB_not (fun h => ?_) (fun h => ?_)
          · have h0 : hasS [13] (bl t) = false := h
            rw [h0, Bool.not_false, Bool.true_and] at K2
            rw [beqS]
            refine condB_d (fun h5 => ?_) (fun h5 => ?_)
            · rw [decide_eq_true (show (bl t).head? ≠ some 32 ∧ (bl t).head? ≠ some 9 ∧ (bl t).head? ≠ some 10 from by rw [h5]; decide)] at K2
              exact K2
            · have hne : bl t ≠ [] := fun h6 => h5 (bl_ext h6)
              obtain ⟨z, r, hzr⟩ := List.exists_cons_of_ne_nil hne
              have hpos : 0 < t.size := by rw [← htl, hzr]; simp
              have ix : ∀ {K : Int → Prop}, K ((z.toNat : Nat) : Int) → idxStr t 0 K := fun {K} h => by
                refine idxStr_b (by decide) (by omega) fun z' hz => ?_
                rw [hzr] at hz; obtain rfl : z = z' := Option.some.inj hz; exact h
              have ne : ∀ c : UInt8, (some z ≠ some c) ↔ ((z.toNat : Nat) : Int) ≠ ((c.toNat : Nat) : Int) := fun c => by
                rw [ne_eq, ne_eq, Option.some.injEq, ← UInt8.toNat_inj]; omega
              rw [hzr, List.head?_cons] at K2
              have fin : ∀ bb : Bool, (bb = true ↔ ((z.toNat : Nat) : Int) ≠ 32 ∧ ((z.toNat : Nat) : Int) ≠ 9 ∧ ((z.toNat : Nat) : Int) ≠ 10) → J bb w2 := fun bb hbb => by
                rw [show bb = decide (some z ≠ some 32 ∧ some z ≠ some 9 ∧ some z ≠ some 10) from by
                  rw [Bool.eq_iff_iff, decide_eq_true_eq, hbb, ne, ne, ne]; exact Iff.rfl]
                exact K2
              refine ix ?_
              refine condB_ne (fun g1 => ?_) (fun g1 => fin false ⟨fun h => (by cases h), fun h => absurd g1 h.1⟩)
              refine ix ?_
              refine condB_ne (fun g2 => ?_) (fun g2 => fin false ⟨fun h => (by cases h), fun h => absurd g2 h.2.1⟩)
              refine ix ?_
              refine fin _ ?_
              rw [bne_iff_ne]
              exact ⟨fun h => ⟨g1, g2, h⟩, fun h => h.2.2⟩
          · have h0 : hasS [13] (bl t) = true := h
            rw [h0] at K2; exact K2
        · have h0 : hasS [63, 62] (bl t) = true := h
          rw [h0] at K2; exact K2
      · rw [if_neg e5] at K2
        exact K2
end
end Go.Proofs.YtmmfookfpdcohaaGreatDoor

