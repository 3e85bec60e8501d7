/-
  Package char and chapter 1's answers: the sets, Next, Read, Fault.
-/
import Derived.Test.YtkgfbphdmnapdaaGreatDoorU8F
import Derived.Test.YtkgfbphdmnapdaaGreatDoorVChar
import Derived.Test.YtkgfbphdmnapdaaGreatDoorVRef01
namespace Go.Vc
open Go
theorem leafT {J : Bool → World → Prop} {w : World} {p : Prop} [Decidable p] (K : J (decide p) w) (h : p) : J true w := by rw [decide_eq_true h] at K; exact K
theorem leafN {J : Bool → World → Prop} {w : World} {p : Prop} [Decidable p] (K : J (decide p) w) (h : ¬ p) : J false w := by rw [decide_eq_false h] at K; exact K
theorem leafD {J : Bool → World → Prop} {w : World} {p q : Prop} [Decidable p] [Decidable q] (K : J (decide p) w) (h : q ↔ p) : J (decide q) w := by rw [show decide q = decide p from decide_eq_decide.2 h]; exact K
theorem leafX {J : Bool → World → Prop} {w : World} {p : Prop} [Decidable p] {x y : Int} (K : J (decide p) w) (h : x ≠ y ↔ p) : J (x != y) w := by
  rw [show (x != y) = decide p from by rw [Bool.eq_iff_iff]; simp only [bne_iff_ne, decide_eq_true_eq]; exact h]; exact K
/-- A Bool that stands for a proposition, at a meeting. -/
theorem meetI {b : Bool} {p : Prop} {A B : Prop} (hb : b = true ↔ p) (h1 : p → A) (h2 : ¬ p → B) : condB b A B :=
  condB_i (fun h => h1 (hb.1 h)) (fun h => h2 fun hp => by rw [hb.2 hp] at h; cases h)
theorem bT {p : Prop} (h : p) : true = true ↔ p := ⟨fun _ => h, fun _ => rfl⟩
theorem bF {p : Prop} (h : ¬ p) : false = true ↔ p := ⟨fun e => (by cases e), fun hp => absurd hp h⟩
theorem bD {p q : Prop} [Decidable q] (h : q ↔ p) : decide q = true ↔ p := by rw [decide_eq_true_eq]; exact h
theorem bQ {p : Prop} {x y : Int} (h : x = y ↔ p) : (x == y) = true ↔ p := by rw [beq_iff_eq]; exact h
end Go.Vc
namespace Go.Proofs.YtkgfbphdmnapdaaGreatDoor
open Go Go.Vc Go.Lib

section
variable {w : World}

/-! ## Spans -/
def spanC (s : Int × Int) : List Value := [.int .i32 s.1, .int .i32 s.2]
theorem spans_even (L : List (Int × Int)) : Even spanC 2 L := fun _ _ => rfl
theorem zeroC_span : zeroC Tryz.prog T_char_span = ⟨[.int .i32 0, .int .i32 0]⟩ := by kernel_rfl
theorem inL_drop {r : Int} {L : List (Int × Int)} {i : Nat} {s : Int × Int} (h : L[i]? = some s) (hr : ¬ r ≤ s.2) : inL r (L.drop i) = inL r (L.drop (i + 1)) := by
  obtain ⟨hi, rfl⟩ := List.getElem?_eq_some_iff.1 h
  rw [List.drop_eq_getElem_cons hi]
  unfold inL
  rw [if_neg hr]; cases L.drop (i + 1) <;> rfl

theorem in_ok {r : Int} {p : Option Addr} {l c : Nat} {L : List (Int × Int)} {J : Bool → World → Prop} (h : Sl w p l 2 (rows spanC L)) (hm : l ≤ 1000) (K : ∀ w', Chg No w w' → J (inL r L) w') :
    callJ Tryz.prog fn_char_in #[.int .i32 r, .slice p l c] w [.one .bool] J := by
  refine c_char_in ?_
  unfold VC_char_in
  have hl := h.row (spans_even L) (by decide)
  refine ⟨fun x w' m => ∃ i : Nat, x = i ∧ i ≤ l ∧ m = l - i ∧ Chg No w w' ∧ inL r (L.drop i) = inL r L, ⟨_, 0, rfl, Nat.zero_le _, rfl, Chg.refl _ _, rfl⟩, ?_⟩
  rintro x w' m ⟨i, rfl, hi, rfl, hc, he⟩
  refine condB_d (fun hlt => ?_) (fun hlt => ?_)
  · refine idx_rows (h.chg hc (off_no _)) (spans_even L) (by decide) (by omega) hlt fun a s _ hs hcells => ?_
    rw [Int.toNat_natCast] at hs ⊢
    refine ldI_i (n := s.1) (by have := hcells 0 _ rfl; rwa [add_zero'] at this) ?_
    refine ldI_i (n := s.2) (hcells 1 _ rfl) ?_
    rw [zeroC_span]
    refine (Hp.start w' No).newB fun b w6 H6 hb hc6 => ?_
    refine H6.stN 0 rfl (off := 0) rfl (by decide) (by simp [one1, Value.oneCell']) fun w7 H7 hc7 => ?_
    have hcc : Chg No w w7 := hc.trans0 (hc6.trans hc7 fun x hx he => by subst he; omega)
    simp only [splice, List.take_zero, List.nil_append, List.set_cons_zero, List.length_cons, List.length_nil, List.drop_succ_cons, List.drop_nil, List.append_nil, Nat.zero_add] at H7
    refine H7.ldI 0 rfl (off := 1) rfl ?_
    refine condB_d (fun hr => ?_) (fun hr => ?_)
    · refine H7.ldI 0 rfl (off := 0) rfl ?_
      have e : inL r L = decide (r ≥ s.1) := by
        rw [← he]
        obtain ⟨hi', rfl⟩ := List.getElem?_eq_some_iff.1 hs
        rw [List.drop_eq_getElem_cons hi']
        unfold inL
        rw [if_pos hr]
      rw [← e]; exact K _ hcc
    · exact ⟨l - (i + 1), by omega, i + 1, by rw [w64_of] <;> omega, by omega, rfl, hcc, by rw [← inL_drop hs hr, he]⟩
  · have : i = l := by omega
    subst this
    rw [List.drop_of_length_le (by omega)] at he
    have e : inL r L = false := by rw [← he]; rfl
    rw [← e]; exact K _ hc

theorem spanRow {L : List (Int × Int)} {cs : List Value} (hcs : cs = rows spanC L) (hm : L.length ≤ 1000) {K : Nat → World → Prop}
    (k : ∀ b w', Sl w' (some ⟨b, 0, none⟩) L.length 2 (rows spanC L) → Chg No w w' → K b w') : newB w (.cells ⟨cs⟩ T_char_span) K := by
  subst hcs
  exact newRow (sz := 2) (n := L.length) (rows_len (spans_even L)) (by simp only [maxLen]; omega) fun b w' hr _ hc => k b w' hr.sl hc

theorem IsChar_ok {r : Int} {J : Bool → World → Prop} (K : ∀ w', Chg No w w' → J (chr r) w') : callJ Tryz.prog fn_char_IsChar #[.int .i32 r] w [.one .bool] J := by
  refine c_char_IsChar ?_
  unfold VC_char_IsChar
  have K0 := K w (Chg.refl _ _)
  unfold chr at K0
  refine withJ_i fun J2 hJ2 => ?_
  subst hJ2
  refine condB_eq (fun h => leafT K0 (by unfold Chr; omega)) (fun h9 => ?_)
  refine condB_eq (fun h => leafT K0 (by unfold Chr; omega)) (fun h10 => ?_)
  refine condB_eq (fun h => leafT K0 (by unfold Chr; omega)) (fun h13 => ?_)
  refine ⟨rfl, rfl, rfl, ?_⟩
  refine spanRow (L := [(32, 55295), (57344, 65533), (65536, 1114111)]) rfl (by decide) fun b w2 hs hc => ?_
  refine in_ok hs (by decide) fun w3 hc3 => ?_
  have e : inL r [(32, 55295), (57344, 65533), (65536, 1114111)] = chr r := by
    exact inL_dec (by unfold Chr; simp only [inP, and_false, or_false]; omega)
  rw [e]; exact K _ (hc.trans0 hc3)

theorem IsStart_ok {r : Int} {J : Bool → World → Prop} (K : ∀ w', Chg No w w' → J (isSt r) w') : callJ Tryz.prog fn_char_IsStart #[.int .i32 r] w [.one .bool] J := by
  refine c_char_IsStart ?_
  unfold VC_char_IsStart
  have K0 := K w (Chg.refl _ _)
  unfold isSt at K0
  refine condB_d (fun h => ?_) (fun h => ?_)
  · refine withJ_i fun J2 hJ2 => ?_
    subst hJ2
    repeat' refine condB_d (fun _ => ?_) (fun _ => ?_)
    all_goals first | exact leafT K0 (by unfold Sta; omega) | exact leafN K0 (by unfold Sta; omega) | exact leafD K0 (by unfold Sta; omega) | exact leafQ K0 (by unfold Sta; omega)
  · refine ⟨rfl, rfl, rfl, rfl, rfl, rfl, rfl, rfl, rfl, rfl, rfl, rfl, ?_⟩
    refine spanRow (L := [(192, 214), (216, 246), (248, 767), (880, 893), (895, 8191), (8204, 8205), (8304, 8591), (11264, 12271), (12289, 55295), (63744, 64975), (65008, 65533), (65536, 983039)]) rfl (by decide) fun b w2 hs hc => ?_
    refine in_ok hs (by decide) fun w3 hc3 => ?_
    have e : inL r [(192, 214), (216, 246), (248, 767), (880, 893), (895, 8191), (8204, 8205), (8304, 8591), (11264, 12271), (12289, 55295), (63744, 64975), (65008, 65533), (65536, 983039)] = isSt r := by
      exact inL_dec (by unfold Sta; simp only [inP, and_false, or_false]; omega)
    rw [e]; exact K _ (hc.trans0 hc3)

theorem IsPart_ok {r : Int} {J : Bool → World → Prop} (K : ∀ w', Chg No w w' → J (isPt r) w') : callJ Tryz.prog fn_char_IsPart #[.int .i32 r] w [.one .bool] J := by
  refine c_char_IsPart ?_
  unfold VC_char_IsPart
  refine withJ_i fun J2 hJ2 => ?_
  subst hJ2
  refine IsStart_ok fun w2 hc2 => ?_
  have K0 := K w2 hc2
  unfold isPt at K0
  refine condB_i (fun h => leafT K0 (.inl (of_decide_eq_true h))) (fun hs => ?_)
  have hs : ¬ Sta r := of_decide_eq_false hs
  rw [prt_pr2 hs] at K0
  refine condB_eq (fun h => leafT K0 (by unfold Pr2; omega)) (fun h1 => ?_)
  refine condB_eq (fun h => leafT K0 (by unfold Pr2; omega)) (fun h2 => ?_)
  have last : ¬ (48 ≤ r ∧ r ≤ 57) → r ≠ 183 → ∀ w3, Chg No w w3 → J (inL r [(768, 879), (8255, 8256)]) w3 := fun h3 h4 w3 hc3 => by
    have e : inL r [(768, 879), (8255, 8256)] = isPt r := by
      unfold isPt
      rw [prt_pr2 hs]
      exact inL_dec (by unfold Pr2; simp only [inP, and_false, or_false]; omega)
    rw [e]; exact K _ hc3
  refine condB_d (fun h3 => ?_) (fun h3 => ?_)
  · refine condB_d (fun h4 => leafT K0 (by unfold Pr2; omega)) (fun h4 => ?_)
    refine condB_eq (fun h => leafT K0 (by unfold Pr2; omega)) (fun h5 => ?_)
    refine ⟨rfl, rfl, ?_⟩
    refine spanRow (L := [(768, 879), (8255, 8256)]) rfl (by decide) fun b w3 hs hc => ?_
    exact in_ok hs (by decide) fun w4 hc4 => last (by omega) h5 w4 ((hc2.trans0 hc).trans0 hc4)
  · refine condB_eq (fun h => leafT K0 (by unfold Pr2; omega)) (fun h5 => ?_)
    refine ⟨rfl, rfl, ?_⟩
    refine spanRow (L := [(768, 879), (8255, 8256)]) rfl (by decide) fun b w3 hs hc => ?_
    exact in_ok hs (by decide) fun w4 hc4 => last (by omega) h5 w4 ((hc2.trans0 hc).trans0 hc4)

theorem Char_ok {r : Int} {J : Bool → World → Prop} (K0 : J (chr r) w) : callJ Tryz.prog fn_ref01_Char #[.int .i64 r] w [.one .bool] J := by
  refine c_ref01_Char ?_
  unfold VC_ref01_Char
  unfold chr at K0
  refine withJ_i fun J2 hJ2 => ?_
  subst hJ2
  repeat' first | refine condB_eq (fun _ => ?_) (fun _ => ?_) | refine condB_d (fun _ => ?_) (fun _ => ?_)
  all_goals first | exact leafT K0 (by unfold Chr; omega) | exact leafN K0 (by unfold Chr; omega) | exact leafD K0 (by unfold Chr; omega) | exact leafQ K0 (by unfold Chr; omega)

theorem Start_ok {r : Int} {J : Bool → World → Prop} (K0 : J (isSt r) w) : callJ Tryz.prog fn_ref01_Start #[.int .i64 r] w [.one .bool] J := by
  refine c_ref01_Start ?_
  unfold VC_ref01_Start
  unfold isSt at K0
  refine withJ_i fun J3 hJ3 => ?_
  have k3 : ∀ b, (b = true ↔ ((65 ≤ r ∧ r ≤ 90) ∨ r = 95 ∨ (97 ≤ r ∧ r ≤ 122))) → J3 b w := by
    intro b hb; subst hJ3
    refine meetI hb (fun h => leafT K0 (by unfold Sta; omega)) (fun n3 => ?_)
    refine withJ_i fun J18 hJ18 => ?_
    have k18 : ∀ b, (b = true ↔ (192 ≤ r ∧ r ≤ 767)) → J18 b w := by
      intro b hb; subst hJ18
      refine meetI hb (fun h => ?_) (fun n18 => ?_)
      · refine withJ_i fun J2 hJ2 => ?_
        subst hJ2
        refine condB_ne (fun h1 => leafX K0 (by unfold Sta; omega)) (fun h1 => leafN K0 (by unfold Sta; omega))
      refine withJ_i fun J31 hJ31 => ?_
      have k31 : ∀ b, (b = true ↔ (880 ≤ r ∧ r ≤ 8191)) → J31 b w := by
        intro b hb; subst hJ31
        refine meetI hb (fun h => leafX K0 (by unfold Sta; omega)) (fun n31 => ?_)
        refine withJ_i fun J40 hJ40 => ?_
        have k40 : ∀ b, (b = true ↔ (r = 8204 ∨ r = 8205)) → J40 b w := by
          intro b hb; subst hJ40
          refine meetI hb (fun h => leafT K0 (by unfold Sta; omega)) (fun n40 => ?_)
          refine withJ_i fun J45 hJ45 => ?_
          have k45 : ∀ b, (b = true ↔ ((8304 ≤ r ∧ r ≤ 8591) ∨ (11264 ≤ r ∧ r ≤ 12271) ∨ (12289 ≤ r ∧ r ≤ 55295))) → J45 b w := by
            intro b hb; subst hJ45
            refine meetI hb (fun h => leafT K0 (by unfold Sta; omega)) (fun n45 => ?_)
            refine withJ_i fun J64 hJ64 => ?_
            have k64 : ∀ b, (b = true ↔ (63744 ≤ r ∧ r ≤ 65533)) → J64 b w := by
              intro b hb; subst hJ64
              refine meetI hb (fun h => ?_) (fun n64 => ?_)
              · refine withJ_i fun J2 hJ2 => ?_
                subst hJ2
                refine condB_d (fun h1 => leafT K0 (by unfold Sta; omega)) (fun h1 => leafD K0 (by unfold Sta; omega))
              · refine withJ_i fun J2 hJ2 => ?_
                subst hJ2
                refine condB_d (fun h1 => leafD K0 (by unfold Sta; omega)) (fun h1 => leafN K0 (by unfold Sta; omega))
            exact condB_d (fun h => k64 _ (bD (by omega))) (fun h => k64 _ (bF (by omega)))
          refine withJ_i fun J451 hJ451 => ?_
          have k451 : ∀ b, (b = true ↔ (8304 ≤ r ∧ r ≤ 8591)) → J451 b w := by
            intro b hb; subst hJ451
            refine meetI hb (fun h => k45 _ (by rw [hb]; omega)) (fun n => ?_)
            refine withJ_i fun J452 hJ452 => ?_
            have k452 : ∀ b, (b = true ↔ (11264 ≤ r ∧ r ≤ 12271)) → J452 b w := by
              intro b hb; subst hJ452
              refine meetI hb (fun h => k45 _ (by rw [hb]; omega)) (fun n => ?_)
              exact condB_d (fun h => k45 _ (bD (by omega))) (fun h => k45 _ (bF (by omega)))
            exact condB_d (fun h => k452 _ (bD (by omega))) (fun h => k452 _ (bF (by omega)))
          exact condB_d (fun h => k451 _ (bD (by omega))) (fun h => k451 _ (bF (by omega)))
        exact condB_eq (fun h => k40 _ (bQ (by omega))) (fun h => k40 _ (bQ (by omega)))
      exact condB_d (fun h => k31 _ (bD (by omega))) (fun h => k31 _ (bF (by omega)))
    exact condB_d (fun h => k18 _ (bD (by omega))) (fun h => k18 _ (bF (by omega)))
  refine withJ_i fun J31 hJ31 => ?_
  have k31 : ∀ b, (b = true ↔ (65 ≤ r ∧ r ≤ 90)) → J31 b w := by
    intro b hb; subst hJ31
    refine meetI hb (fun h => k3 _ (by rw [hb]; omega)) (fun n => ?_)
    refine condB_eq (fun h => k3 _ (bQ (by omega))) (fun h => ?_)
    exact condB_d (fun h => k3 _ (bD (by omega))) (fun h => k3 _ (bF (by omega)))
  exact condB_d (fun h => k31 _ (bD (by omega))) (fun h => k31 _ (bF (by omega)))

theorem Part_ok {r : Int} {J : Bool → World → Prop} (K0 : J (isPt r) w) : callJ Tryz.prog fn_ref01_Part #[.int .i64 r] w [.one .bool] J := by
  refine c_ref01_Part ?_
  unfold VC_ref01_Part
  unfold isPt at K0
  refine withJ_i fun J2 hJ2 => ?_
  subst hJ2
  refine Start_ok ?_
  refine condB_i (fun h => leafT K0 (.inl (of_decide_eq_true h))) (fun hs => ?_)
  have hs : ¬ Sta r := of_decide_eq_false hs
  rw [prt_pr2 hs] at K0
  repeat' first | refine condB_eq (fun _ => ?_) (fun _ => ?_) | refine condB_d (fun _ => ?_) (fun _ => ?_)
  all_goals first | exact leafT K0 (by unfold Pr2; omega) | exact leafN K0 (by unfold Pr2; omega) | exact leafD K0 (by unfold Pr2; omega) | exact leafQ K0 (by unfold Pr2; omega)
end

end Go.Proofs.YtkgfbphdmnapdaaGreatDoor

