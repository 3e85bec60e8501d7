/-
  Chapter 15: what was laid is taken; 'awake' of the statements; 'SheetDrafts', 'SheetLays', 'SheetHeads'.
-/
import Derived.Test.YtgplflecgnldeaaSheetC
import Derived.Test.YtgplflecgnldeaaVLaw15
import Derived.Test.YtgplflecgnldeaaRef01B
import Derived.Test.YtgplflecgnldeaaRd15
namespace Go.Proofs.Ytgplflecgnldeaa
open Go Go.Vc

theorem count_all {b : List UInt8} {n : Nat} (hl : b.length = n) : b.count 0 = n ↔ b = List.replicate n 0 := by
  constructor
  · intro h
    have h1 : ∀ x ∈ b, 0 = x := List.count_eq_length.1 (by rw [h, hl])
    exact List.eq_replicate_iff.2 ⟨hl, fun x hx => (h1 x hx).symm⟩
  · rintro rfl; simp
theorem pageS_drop16 (n stamp : Nat) (p : List UInt8) : (pageS n stamp p).drop 16 = fillTo 496 p := by
  unfold pageS summedL pageBody
  rw [show be 4 (crc (be 4 n ++ be 8 stamp ++ fillTo 496 p)) ++ (be 4 n ++ be 8 stamp ++ fillTo 496 p) = (be 4 (crc (be 4 n ++ be 8 stamp ++ fillTo 496 p)) ++ be 4 n ++ be 8 stamp) ++ fillTo 496 p by simp]
  exact List.drop_left' (by simp [be_len])
theorem pageS_n (n stamp : Nat) (p : List UInt8) : ((pageS n stamp p).drop 4).take 4 = be 4 n := by
  unfold pageS
  rw [summedL_drop]
  unfold pageBody
  rw [List.append_assoc, List.take_left' (be_len _ _)]
theorem pageS_stamp (n stamp : Nat) (p : List UInt8) : ((pageS n stamp p).drop 8).take 8 = be 8 stamp := by
  unfold pageS
  rw [show 8 = 4 + 4 from rfl, ← List.drop_drop, summedL_drop]
  unfold pageBody
  rw [List.append_assoc, List.drop_left' (be_len _ _), List.take_left' (be_len _ _)]
theorem beVal_zeros (k : Nat) : beVal (List.replicate k 0) = 0 := by
  induction k with
  | zero => rfl
  | succ k ih => rw [List.replicate_succ, beVal_cons, ih]; simp

theorem take_lay {n stamp : Nat} {p : List UInt8} (hn : n < 2 ^ 32) (hs : stamp < 2 ^ 64) (hp : p.length ≤ 496) : takeM n (pageS n stamp p) = ⟨fillTo 496 p, stamp, 0⟩ := by
  have hl := pageS_len (n := n) (stamp := stamp) (p := p) hp
  unfold takeM
  rw [if_neg (by unfold badN; omega), if_neg (by omega)]
  split
  · next hc =>
    have hz := (count_all hl).1 hc
    have h16 := pageS_drop16 n stamp p
    have h8 := pageS_stamp n stamp p
    rw [hz, List.drop_replicate] at h16
    rw [hz, List.drop_replicate, List.take_replicate] at h8
    have h0 := congrArg beVal h8
    rw [beVal_zeros, beVal_be, Nat.mod_eq_of_lt (by omega)] at h0
    rw [← h16, ← h0]
  · rw [if_neg (by simp only [Decidable.not_not]; exact summedL_summed _), pageS_n, pageS_stamp, pageS_drop16, beVal_be, beVal_be, Nat.mod_eq_of_lt (by omega), Nat.mod_eq_of_lt (by omega), if_neg (by simp)]

theorem headS_gen (gen stamp : Nat) : ((headS gen stamp).drop 8).take 4 = be 4 gen := by
  unfold headS
  rw [show 8 = 4 + 4 from rfl, ← List.drop_drop, summedL_drop]
  unfold headBody
  simp only [List.append_assoc]
  rw [List.drop_left' (by rfl), List.take_left' (be_len _ _)]
theorem headS_stamp (gen stamp : Nat) : ((headS gen stamp).drop 12).take 8 = be 8 stamp := by
  unfold headS
  rw [show 12 = 4 + 8 from rfl, ← List.drop_drop, summedL_drop]
  unfold headBody
  rw [show markL ++ be 4 gen ++ be 8 stamp ++ List.replicate 44 0 = (markL ++ be 4 gen) ++ (be 8 stamp ++ List.replicate 44 0) by simp]
  rw [List.drop_left' (by rw [List.length_append, be_len]; rfl), List.take_left' (be_len _ _)]
theorem takeHead_lay {gen stamp : Nat} (h1 : 1 ≤ gen) (h2 : gen < 2 ^ 32) (hs : stamp < 2 ^ 64) : takeHeadM (headS gen stamp) = ⟨gen, stamp, 0⟩ := by
  unfold takeHeadM
  rw [if_neg (by rw [headS_len]; simp), if_neg (by simp only [Decidable.not_not]; exact summedL_summed _), headS_gen, headS_stamp, beVal_be, beVal_be, Nat.mod_eq_of_lt (by omega), Nat.mod_eq_of_lt (by omega)]
  have e : layHeadM gen stamp = ⟨headS gen stamp, 0⟩ := by unfold layHeadM; rw [if_neg (by unfold badG; omega)]; rfl
  rw [e, if_neg (by simp)]

/-- for i := range p { p[i] = v } -/
theorem smash {w : World} {p : Option Addr} {l c : Nat} {xs : List UInt8} {l1 : Nat} {K : World → Prop} {v : UInt8} {vi : Int} (hv : vi = v.toNat) (hr : Row w T_uint8 1 p l1 c (bcells xs)) (hl : l ≤ l1) (hm : l ≤ 140737488355328) (k : ∀ w', Chg (isB p) w w' → K w') :
    ∃ I : Int → World → Nat → Prop, (∃ m, I 0 w m) ∧ ∀ x w' m, I x w' m → condB (decide (x < ((l : Nat) : Int))) (idxA p l x fun a => stV w' (a.add (x.toNat * 1)) (.int .u8 vi) fun w2 => ∃ m', m' < m ∧ I (w64 (x + 1)) w2 m') (K w') := by
  subst hv
  refine ⟨fun x w' m => ∃ (i : Nat) (ys : List UInt8), x = i ∧ i ≤ l ∧ m = l - i ∧ Row w' T_uint8 1 p l1 c (bcells ys) ∧ Chg (isB p) w w', ⟨_, 0, xs, rfl, Nat.zero_le _, rfl, hr, Chg.refl _ _⟩, ?_⟩
  rintro x w' m ⟨i, ys, rfl, hi, rfl, hr', hc⟩
  refine condB_d (fun hlt => ?_) (fun _ => k w' hc)
  obtain ⟨h0, h1, hk⟩ := Row.stB (v := v) (K := fun w2 => ∃ m', m' < l - i ∧ ∃ (i' : Nat) (ys : List UInt8), w64 ((i : Int) + 1) = i' ∧ i' ≤ l ∧ m' = l - i' ∧ Row w2 T_uint8 1 p l1 c (bcells ys) ∧ Chg (isB p) w w2) hr' (i := (i : Int)) (by omega) (by omega) fun w2 hr2 hc2 =>
    ⟨l - (i + 1), by omega, i + 1, _, by rw [w64_of] <;> omega, by omega, rfl, hr2, hc.trans hc2 fun _ _ => id⟩
  exact ⟨h0, by omega, hk⟩

section
variable {w : World}

theorem awake15_ok {J : Bool → World → Prop} (k : ∀ w', Chg No w w' → J true w') : callJ Try.prog fn_law15_awake #[] w [.one .bool] J := by
  refine c_law15_awake ?_
  unfold VC_law15_awake
  rw [zeroC_plan]
  refine Draft_ok (by constructor <;> decide) fun w1 hc1 => ?_
  have hd : draftM 100 = (25, 27, 9, true) := by decide
  rw [hd]
  refine (Hp.of_chg hc1).newB fun b1 w2 H2 _ hc2 => ?_
  refine H2.stN 0 rfl (off := 0) rfl (by decide) (one1_ints3 _ _ _ _ _ _) fun w3 H3 hc3 => ?_
  refine litB (bs := [97]) rfl fun b4 w4 hb4 hn4 hc4 => ?_
  refine Lay_ok (stamp := 7) (by decide) hb4 (by simp) fun q5 d5 w5 hr5 hf5 hc5 => ?_
  have el : layM 1 7 [97] = ⟨pageS 1 7 [97], 0⟩ := rfl
  rw [el] at hr5 ⊢
  have hl512 := pageS_len (n := 1) (stamp := 7) (p := [97]) (by decide)
  dsimp only at hr5 ⊢
  rw [hl512] at hr5 ⊢
  have ht := take_lay (n := 1) (stamp := 7) (p := [97]) (by decide) (by decide) (by decide)
  refine Take_ok (by constructor <;> decide) hr5.bytes hr5.le.1 fun q6 d6 w6 hr6 hf6 hc6 => ?_
  have ht' : takeM 1 (pageS 1 7 [97]) = ⟨fillTo 496 [97], 7, 0⟩ := ht
  rw [ht'] at hr6 ⊢
  dsimp only at hr6 ⊢
  have hl496 : (fillTo 496 [97]).length = 496 := fillTo_len (by decide)
  rw [hl496] at hr6 ⊢
  have H6 := ((H3.step0 hc4).step0 hc5).step0 hc6
  refine withJ_i fun J0 hJ0 => ?_
  refine condB_eq (fun _ => ?_) (fun h => absurd rfl h)
  refine condB_eq (fun _ => ?_) (fun h => absurd rfl h)
  refine condB_eq (fun _ => ?_) (fun h => absurd rfl h)
  refine H6.ldI 0 rfl (off := 0) rfl (H6.ldI 0 rfl (off := 1) rfl (H6.ldI 0 rfl (off := 2) rfl ?_))
  refine condB_i (fun _ => ?_) (fun h => by simp at h)
  refine condB_eq (fun _ => ?_) (fun h => absurd rfl h)
  refine byte_i (hr5.chg hc6 (off_no _)).bytes (by decide) (by decide) fun y hy => ?_
  have hy16 : (pageS 1 7 [97])[16]? = some 97 := by
    have := congrArg (fun l => l[0]?) (pageS_drop16 1 7 [97])
    rw [List.getElem?_drop] at this
    rw [show (16 : Nat) = 16 + 0 from rfl, this]; rfl
  have hy' : y = 97 := by
    have : (pageS 1 7 [97])[16]? = some y := hy
    rw [hy16] at this; cases this; rfl
  subst hy'
  refine condB_eq (fun _ => ?_) (fun h => absurd rfl h)
  refine condB_eq (fun _ => ?_) (fun h => absurd rfl h)
  refine byte_i hr6.bytes (by decide) (by decide) fun z hz => ?_
  have hz' : z = 97 := by
    have : (fillTo 496 [97])[0]? = some z := hz
    have e : (fillTo 496 [97])[0]? = some 97 := rfl
    rw [e] at this; cases this; rfl
  subst hz'
  refine condB_eq (fun _ => ?_) (fun h => absurd rfl h)
  subst hJ0
  exact k w6 H6.chg

/-! ## SheetDrafts -/

theorem SheetDrafts_ok {n : Int} (hn : InI n) : callJ Try.prog fn_law15_SheetDrafts #[.int .i64 n] w [.one .bool] fun r w' => r = true ∧ Chg No w w' := by
  refine c_law15_SheetDrafts ?_
  unfold VC_law15_SheetDrafts
  rw [zeroC_plan]
  refine awake15_ok fun w1 hc1 => ?_
  refine condB_i (fun h => by simp at h) fun _ => ?_
  refine Draft_ok hn fun w2 hc2 => ?_
  refine (Hp.of_chg (hc1.trans0 hc2)).newB fun b3 w3 H3 _ _ => ?_
  refine H3.stN 0 rfl (off := 0) rfl (by decide) (one1_ints3 _ _ _ _ _ _) fun w4 H4 _ => ?_
  refine RDraft_ok hn ?_
  by_cases hb : n < 64 ∨ 16384 < n
  · have e : draftM n = (0, 0, 0, false) := by unfold draftM; rw [if_pos hb]
    rw [e] at H4 ⊢
    refine condB_i (fun _ => ?_) (fun h => by simp at h)
    refine withJ_i fun J2 hJ2 => ?_
    refine condB_eq (fun _ => ?_) (fun h => absurd rfl h)
    refine H4.ldI 0 rfl (off := 0) rfl (H4.ldI 0 rfl (off := 1) rfl (H4.ldI 0 rfl (off := 2) rfl ?_))
    subst hJ2
    exact ⟨rfl, H4.chg⟩
  · have e : draftM n = (n / 4, 2 + n / 4, (n - (2 + n / 4)) / 8, true) := by unfold draftM; rw [if_neg hb]
    rw [e] at H4 ⊢
    dsimp only at H4 ⊢
    refine condB_i (fun h => by simp at h) (fun _ => ?_)
    refine withJ_i fun J2 hJ2 => ?_
    refine condB_eq (fun _ => ?_) (fun h => absurd rfl h)
    refine H4.ldI 0 rfl (off := 0) rfl ?_
    refine condB_eq (fun _ => ?_) (fun h => absurd rfl h)
    refine H4.ldI 0 rfl (off := 1) rfl ?_
    refine condB_eq (fun _ => ?_) (fun h => absurd rfl h)
    refine H4.ldI 0 rfl (off := 2) rfl ?_
    refine condB_eq (fun _ => ?_) (fun h => absurd rfl h)
    refine H4.ldI 0 rfl (off := 1) rfl (H4.ldI 0 rfl (off := 2) rfl ?_)
    rw [w64_of (n := 8 * ((n - (2 + n / 4)) / 8)) (by omega) (by omega), w64_of (by omega) (by omega)]
    refine condB_d (fun _ => ?_) (fun h => absurd (by omega) h)
    refine H4.ldI 0 rfl (off := 1) rfl (H4.ldI 0 rfl (off := 2) rfl ?_)
    rw [w64_of (n := (n - (2 + n / 4)) / 8 + 1) (by omega) (by omega), w64_of (n := 8 * ((n - (2 + n / 4)) / 8 + 1)) (by omega) (by omega), w64_of (by omega) (by omega)]
    subst hJ2
    exact ⟨decide_eq_true (by omega), H4.chg⟩

/-! ## SheetLays -/

theorem takes_ok {n : Int} {p : Option Addr} {l c : Nat} {b : List UInt8} {J : Bool → World → Prop} (hn : InI n) (h : Bytes w p l b) (hp : p = none → l = 0) (hlc : l ≤ c) (hm : l ≤ 140737488351232) (k : ∀ w', Chg No w w' → J true w') :
    callJ Try.prog fn_law15_takes #[.int .i64 n, .slice p l c] w [.one .bool] J := by
  have hbl := h.len
  refine c_law15_takes ?_
  unfold VC_law15_takes
  refine Spare_ok h hp hm fun p2 c2 w2 hr2 hf2 hc2 => ?_
  have hle2 := hr2.le
  refine Take_ok hn (spare_bytes hr2 hbl) (by omega) fun p3 c3 w3 hr3 hf3 hc3 => ?_
  have hc23 := hc2.trans0 hc3
  refine RTake_ok hn (h.chg hc23 (off_no _)) hlc fun p4 c4 w4 hr4 hf4 hc4 => ?_
  have hc24 := hc23.trans0 hc4
  have hr24 := (hr2.chg hc3 (off_no _)).chg hc4 (off_no _)
  have hr34 := hr3.chg hc4 (off_no _)
  refine withJ_i fun J48 hJ48 => ?_
  refine condB_ne (fun h => absurd rfl h) fun _ => ?_
  refine Same_ok hr34.bytes hr4.bytes ?_
  rw [decide_eq_true rfl]
  refine condB_i (fun h => by simp at h) fun _ => ?_
  refine condB_ne (fun h => absurd rfl h) fun _ => ?_
  refine Kept_ok hr24 (h.chg hc24 (off_no _)) hbl ?_
  rw [decide_eq_true rfl]
  subst hJ48
  refine condB_i (fun h => by simp at h) fun _ => ?_
  have hlp : (takeM n b).p.length ≤ 140737488355328 := by
    unfold takeM
    split
    · simp
    · split
      · simp
      · split
        · rw [List.length_replicate]; decide
        · split
          · simp
          · split
            · simp
            · rw [List.length_drop]; omega
  refine smash (v := 4) rfl hr34 (Nat.le_refl _) hlp fun w5 hc5 => ?_
  have hfr : ∀ x, isB p3 x → w2.heap.size ≤ x := by rintro x ⟨a, ha, rfl⟩; exact hf3 a ha
  have hr25 := hr24.chg hc5 (fun a ha hb => by have := hr2.lt a ha; have := hfr _ hb; omega)
  have hc25 : Chg No w w5 := hc24.trans hc5 fun x hx hb => by have := hfr x hb; have := hc2.size; omega
  refine Kept_ok hr25 (h.chg hc25 (off_no _)) hbl ?_
  rw [decide_eq_true rfl]
  exact k w5 hc25

theorem layM_len (n : Int) (stamp : Nat) (bs : List UInt8) : (layM n stamp bs).b.length ≤ 512 := by
  unfold layM
  split
  · simp
  · split
    · simp
    · rw [pageS_len (by omega)]; exact Nat.le_refl _

theorem SheetLays_ok {n stamp : Int} {p b : BV} (hn : InI n) (hs : InU stamp) (hp : p.Ok w) (hb : b.Ok w) :
    callJ Try.prog fn_law15_SheetLays #[.int .i64 n, .int .u64 stamp, .slice p.p p.l p.c, .slice b.p b.l b.c] w [.one .bool] fun r w' => r = true ∧ Chg No w w' := by
  refine c_law15_SheetLays ?_
  unfold VC_law15_SheetLays
  obtain ⟨stamp, rfl, hst⟩ := hs
  refine awake15_ok fun w1 hc1 => ?_
  refine condB_i (fun h => by simp at h) fun _ => ?_
  have hpl := hp.is.len
  refine Spare_ok (hp.is.chg hc1 (off_no _)) hp.nil hp.fits fun p2 c2 w2 hr2 hf2 hc2 => ?_
  have hc12 := hc1.trans0 hc2
  refine Lay_ok hst (spare_bytes hr2 hpl) (fun h => by have := hr2.none0 h; omega) fun p3 c3 w3 hr3 hf3 hc3 => ?_
  have hc13 := hc12.trans0 hc3
  refine RLay_ok hst (hp.is.chg hc13 (off_no _)) fun p4 c4 w4 hr4 hf4 hc4 => ?_
  have hc14 := hc13.trans0 hc4
  refine withJ_i fun J46 hJ46 => ?_
  refine condB_ne (fun h => absurd rfl h) fun _ => ?_
  refine Same_ok (hr3.chg hc4 (off_no _)).bytes hr4.bytes ?_
  rw [decide_eq_true rfl]
  refine condB_i (fun h => by simp at h) fun _ => ?_
  refine Kept_ok ((hr2.chg hc3 (off_no _)).chg hc4 (off_no _)) (hp.is.chg hc14 (off_no _)) hpl ?_
  rw [decide_eq_true rfl]
  subst hJ46
  refine condB_i (fun h => by simp at h) fun _ => ?_
  refine withJ_i fun J8 hJ8 => ?_
  have hll := layM_len n stamp p.bs
  refine takes_ok hn (hb.is.chg hc14 (off_no _)) hb.nil hb.cap hb.fits fun w5 hc5 => ?_
  refine condB_i (fun _ => ?_) (fun h => by simp at h)
  have hr5 := hr4.chg hc5 (off_no _)
  refine takes_ok hn hr5.bytes hr5.none0 hr5.le.1 (by omega) fun w6 hc6 => ?_
  refine condB_i (fun _ => ?_) (fun h => by simp at h)
  have hr6 := hr5.chg hc6 (off_no _)
  refine takes_ok (w64_in _) hr6.bytes hr6.none0 hr6.le.1 (by omega) fun w7 hc7 => ?_
  subst hJ8
  exact ⟨rfl, ((hc14.trans0 hc5).trans0 hc6).trans0 hc7⟩

/-! ## SheetHeads -/

theorem layHeadM_len (gen : Int) (stamp : Nat) : (layHeadM gen stamp).b.length ≤ 64 := by
  unfold layHeadM
  split
  · simp
  · rw [headS_len]; exact Nat.le_refl _

theorem SheetHeads_ok {gen stamp : Int} {b : BV} (_ : InI gen) (hs : InU stamp) (hb : b.Ok w) :
    callJ Try.prog fn_law15_SheetHeads #[.int .i64 gen, .int .u64 stamp, .slice b.p b.l b.c] w [.one .bool] fun r w' => r = true ∧ Chg No w w' := by
  refine c_law15_SheetHeads ?_
  unfold VC_law15_SheetHeads
  rw [zeroC_head, zeroC_rhead]
  obtain ⟨stamp, rfl, hst⟩ := hs
  refine awake15_ok fun w1 hc1 => ?_
  refine condB_i (fun h => by simp at h) fun _ => ?_
  refine LayHead_ok fun p2 c2 w2 hr2 hf2 hc2 => ?_
  refine RLayHead_ok hst fun p3 c3 w3 hr3 hf3 hc3 => ?_
  have hc13 := (hc1.trans0 hc2).trans0 hc3
  refine withJ_i fun J41 hJ41 => ?_
  refine condB_ne (fun h => absurd rfl h) fun _ => ?_
  refine Same_ok (hr2.chg hc3 (off_no _)).bytes hr3.bytes ?_
  rw [decide_eq_true rfl]
  subst hJ41
  refine condB_i (fun h => by simp at h) fun _ => ?_
  refine newRow (sz := 1) (n := 2) rfl (by decide) fun b4 w4 hr4 hb4 hc4 => ?_
  have hle3 := hr3.le.1
  refine ⟨fun x w' m => ∃ i : Nat, x = i ∧ i ≤ 2 ∧ m = 2 - i ∧ Chg No w4 w', ⟨_, 0, rfl, by decide, rfl, Chg.refl _ _⟩, ?_⟩
  rintro x w5 m ⟨i, rfl, hi, rfl, hc5⟩
  have hc15 := (hc13.trans0 hc4).trans0 hc5
  refine condB_d (fun hlt => ?_) (fun _ => ⟨rfl, hc15⟩)
  have hr5 := hr4.chg hc5 (off_no _)
  have one : ∀ (p : Option Addr) (l c : Nat) (bs : List UInt8), Bytes w5 p l bs → l ≤ c → [Value.slice b.p b.l b.c, Value.slice p3 (layHeadM gen stamp).b.length c3][i]? = some (.slice p l c) →
      idxA (some ⟨b4, 0, none⟩) 2 (i : Int) fun a48 => ldS w5 (a48.add ((i : Int).toNat * 1)) fun x49p x49l x49c =>
        callJ Try.prog fn_sheet_TakeHead #[.slice x49p x49l x49c] w5 [.agg [.int .i64, .int .u64], .one (.int .i64)] fun (r52_0_0 : Int) (r52_0_1 : Int) (r52_1 : Int) (w7 : World) =>
        newB w7 (.cells ⟨[.int .i64 0, .int .u64 0]⟩ T_sheet_Head) fun b13 w8 =>
        stN w8 ⟨b13, 0, none⟩ ⟨[.int .i64 r52_0_0, .int .u64 r52_0_1]⟩ 2 fun w9 =>
        callJ Try.prog fn_ref15_TakeHead #[.slice x49p x49l x49c] w9 [.agg [.int .i64, .int .u64], .one (.int .i64)] fun (r57_0_0 : Int) (r57_0_1 : Int) (r57_1 : Int) (w10 : World) =>
        newB w10 (.cells ⟨[.int .i64 0, .int .u64 0]⟩ T_ref15_Head) fun b15 w11 =>
        stN w11 ⟨b15, 0, none⟩ ⟨[.int .i64 r57_0_0, .int .u64 r57_0_1]⟩ 2 fun w12 =>
        withJ (fun (x76 : Bool) (w13 : World) =>
        condB x76 ((fun (r : Bool) w' => r = true ∧ Chg No w w') false w13) (∃ m' : Nat, m' < 2 - i ∧ ∃ i' : Nat, w64 ((i : Int) + 1) = i' ∧ i' ≤ 2 ∧ m' = 2 - i' ∧ Chg No w4 w13)) fun J_76 =>
        condB (r52_1 != r57_1) (
        J_76 true w12) (
        ldI .i64 w12 ⟨b13, 0, none⟩ fun x65 =>
        ldI .i64 w12 ⟨b15, 0, none⟩ fun x67 =>
        condB (x65 != x67) (
        J_76 true w12) (
        ldI .u64 w12 ⟨b13, 1, none⟩ fun x72 =>
        ldI .u64 w12 ⟨b15, 1, none⟩ fun x74 =>
        J_76 (x72 != x74) w12)) := by
    intro p l c bs hbs hlc hcell
    refine idxA_i (by omega) (by omega) ?_
    rw [Addr.add_mk, Nat.zero_add, Nat.mul_one, Int.toNat_natCast]
    obtain ⟨b4', rest, hp4, hh4, _⟩ := hr5.some0 (by decide)
    cases hp4
    refine ldS_i (p := p) (l := l) (c := c) ?_ ?_
    · rw [cell_of_row w5 b4 i _ _ (0, 0) hh4]
      have := hcell
      simp only [List.getElem?_toArray]
      rw [List.getElem?_append_left (by simp; omega)]
      exact this
    refine TakeHead_ok hbs hlc fun w6 hc6 => ?_
    refine (Hp.of_chg hc6).newB fun b7 w7 H7 _ _ => ?_
    refine H7.stN 0 rfl (off := 0) rfl (by decide) (one1_ints2 _ _ _ _) fun w8 H8 _ => ?_
    refine RTakeHead_ok (hbs.chg H8.chg (off_no _)) hlc fun w9 hc9 => ?_
    have H9 := H8.step0 hc9
    refine H9.newB fun b10 w10 H10 _ _ => ?_
    refine H10.stN 0 rfl (off := 0) rfl (by decide) (one1_ints2 _ _ _ _) fun w11 H11 _ => ?_
    refine withJ_i fun J76 hJ76 => ?_
    refine condB_ne (fun h => absurd rfl h) fun _ => ?_
    refine H11.ldI 1 rfl (off := 0) rfl (H11.ldI 0 rfl (off := 0) rfl ?_)
    refine condB_ne (fun h => absurd rfl h) fun _ => ?_
    refine H11.ldI 1 rfl (off := 1) rfl (H11.ldI 0 rfl (off := 1) rfl ?_)
    have eb : (((takeHeadM bs).s : Int) != ((takeHeadM bs).s : Int)) = false := by simp
    rw [eb]
    subst hJ76
    refine condB_i (fun h => by simp at h) fun _ => ?_
    exact ⟨2 - (i + 1), by omega, i + 1, by rw [w64_of] <;> omega, by omega, rfl, hc5.trans0 H11.chg⟩
  rcases (by omega : i = 0 ∨ i = 1) with rfl | rfl
  · exact one b.p b.l b.c b.bs (hb.is.chg hc15 (off_no _)) hb.cap rfl
  · exact one p3 _ c3 _ ((hr3.chg hc4 (off_no _)).chg hc5 (off_no _)).bytes hle3 rfl
end

end Go.Proofs.Ytgplflecgnldeaa
