/-
  Package sheet: Draft, Lay, Take, LayHead, TakeHead; and the document's answers.
-/
import Derived.Test.YtgplflecgnldeaaVSheet
import Derived.Test.YtgplflecgnldeaaVRef15
import Derived.Test.YtgplflecgnldeaaCount
import Derived.Test.YtgplflecgnldeaaNumR
namespace Go.Proofs.Ytgplflecgnldeaa
open Go Go.Vc

/-! ## What the answers are -/

def summedL (b : List UInt8) : List UInt8 := be 4 (crc b) ++ b
def Summed (b : List UInt8) : Prop := b.take 4 = be 4 (crc (b.drop 4))
instance (b : List UInt8) : Decidable (Summed b) := by unfold Summed; exact inferInstance
theorem summedL_len (b : List UInt8) : (summedL b).length = b.length + 4 := by simp [summedL, be_len]; omega
theorem summedL_drop (b : List UInt8) : (summedL b).drop 4 = b := by unfold summedL; exact List.drop_left' (be_len _ _)
theorem summedL_summed (b : List UInt8) : Summed (summedL b) := by
  unfold Summed; rw [summedL_drop]; unfold summedL; exact List.take_left' (be_len _ _)
theorem summed_iff {b : List UInt8} (h : 4 ≤ b.length) : beVal (b.take 4) = crc (b.drop 4) ↔ Summed b := by
  unfold Summed
  constructor
  · intro e
    rw [← e]
    have := be_beVal (b.take 4)
    rw [List.length_take, Nat.min_eq_left h] at this
    exact this.symm
  · intro e
    rw [e, beVal_be]
    exact Nat.mod_eq_of_lt (by have := crc_lt (b.drop 4); omega)
theorem summed_iff2 {b : List UInt8} : summedL (b.drop 4) = b ↔ Summed b := by
  unfold Summed summedL
  constructor
  · intro e
    conv => lhs; rw [← e]
    exact List.take_left' (be_len _ _)
  · intro e
    rw [← e]; exact List.take_append_drop 4 b
theorem turned {b : List UInt8} {k : Nat} {x y : UInt8} (hs : Summed b) (hk : b[k]? = some x) (hy : y ≠ x) : ¬ Summed (b.set k y) := by
  intro h
  unfold Summed at hs h
  have hlt := (List.getElem?_eq_some_iff.1 hk).1
  by_cases h4 : k < 4
  · rw [List.drop_set_of_lt (by omega), ← hs] at h
    have := congrArg (fun l => l[k]?) h
    simp only [List.getElem?_take, if_pos h4, List.getElem?_set, hlt, if_true] at this
    rw [hk] at this
    exact hy (by simpa using this)
  · rw [List.take_set_of_le (by omega), hs, List.drop_set, if_neg (by omega)] at h
    have h1 := be_inj h (by have := crc_lt (b.drop 4); omega) (by have := crc_lt ((b.drop 4).set (k - 4) y); omega)
    refine crc_set (p := b.drop 4) (i := k - 4) (b := x) (c := y) ?_ hy h1.symm
    rw [List.getElem?_drop, show 4 + (k - 4) = k by omega]; exact hk

def badN (n : Int) : Prop := n < 0 ∨ 4294967295 < n
instance (n : Int) : Decidable (badN n) := by unfold badN; exact inferInstance
def badG (n : Int) : Prop := n < 1 ∨ 4294967295 < n
instance (n : Int) : Decidable (badG n) := by unfold badG; exact inferInstance

def pageBody (n stamp : Nat) (p : List UInt8) : List UInt8 := be 4 n ++ be 8 stamp ++ fillTo 496 p
def pageS (n stamp : Nat) (p : List UInt8) : List UInt8 := summedL (pageBody n stamp p)
structure LayR where
  b : List UInt8
  e : Int
def layM (n : Int) (stamp : Nat) (p : List UInt8) : LayR := if badN n then ⟨[], 1⟩ else if 496 < p.length then ⟨[], 6⟩ else ⟨pageS n.toNat stamp p, 0⟩
structure TakeR where
  p : List UInt8
  s : Nat
  e : Int
def takeM (n : Int) (b : List UInt8) : TakeR :=
  if badN n then ⟨[], 0, 1⟩ else if b.length ≠ 512 then ⟨[], 0, 6⟩ else if b.count 0 = 512 then ⟨List.replicate 496 0, 0, 0⟩ else if ¬ Summed b then ⟨[], 0, 10⟩ else
  if (beVal ((b.drop 4).take 4) : Int) ≠ n then ⟨[], 0, 11⟩ else ⟨b.drop 16, beVal ((b.drop 8).take 8), 0⟩
def markL : List UInt8 := [76, 69, 67, 84]
def headBody (gen stamp : Nat) : List UInt8 := markL ++ be 4 gen ++ be 8 stamp ++ List.replicate 44 0
def headS (gen stamp : Nat) : List UInt8 := summedL (headBody gen stamp)
def layHeadM (gen : Int) (stamp : Nat) : LayR := if badG gen then ⟨[], 1⟩ else ⟨headS gen.toNat stamp, 0⟩
structure HeadR where
  g : Int
  s : Nat
  e : Int
def takeHeadM (b : List UInt8) : HeadR :=
  if b.length ≠ 64 then ⟨0, 0, 6⟩ else if ¬ Summed b then ⟨0, 0, 10⟩ else
  if (layHeadM (beVal ((b.drop 8).take 4)) (beVal ((b.drop 12).take 8))).e ≠ 0 ∨ (layHeadM (beVal ((b.drop 8).take 4)) (beVal ((b.drop 12).take 8))).b ≠ b then ⟨0, 0, 11⟩ else
  ⟨beVal ((b.drop 8).take 4), beVal ((b.drop 12).take 8), 0⟩

theorem pageBody_len {n stamp : Nat} {p : List UInt8} (h : p.length ≤ 496) : (pageBody n stamp p).length = 508 := by simp [pageBody, be_len, fillTo_len h]
theorem pageS_len {n stamp : Nat} {p : List UInt8} (h : p.length ≤ 496) : (pageS n stamp p).length = 512 := by rw [pageS, summedL_len, pageBody_len h]
theorem headBody_len {gen stamp : Nat} : (headBody gen stamp).length = 60 := by simp [headBody, be_len, markL]
theorem headS_len {gen stamp : Nat} : (headS gen stamp).length = 64 := by rw [headS, summedL_len, headBody_len]

section
variable {w : World}

/-! ## Draft -/

def draftM (n : Int) : Int × Int × Int × Bool := if n < 64 ∨ 16384 < n then (0, 0, 0, false) else (n / 4, 2 + n / 4, (n - (2 + n / 4)) / 8, true)

theorem zeroC_plan : zeroC Try.prog T_sheet_Plan = ⟨[.int .i64 0, .int .i64 0, .int .i64 0]⟩ := by kernel_rfl
theorem one1_ints3 (a b c : Int) (k k2 k3 : IntKind) : one1 [.int k a, .int k2 b, .int k3 c] := by simp [one1, Value.oneCell']
theorem one1_ints2 (a b : Int) (k k2 : IntKind) : one1 [.int k a, .int k2 b] := by simp [one1, Value.oneCell']

theorem Draft_ok {n : Int} {J : Int → Int → Int → Int → World → Prop} (hn : InI n) (k : ∀ w', Chg No w w' → J (draftM n).1 (draftM n).2.1 (draftM n).2.2.1 (if (draftM n).2.2.2 then 0 else 1) w') :
    callJ Try.prog fn_sheet_Draft #[.int .i64 n] w [.agg [.int .i64, .int .i64, .int .i64], .one (.int .i64)] J := by
  refine c_sheet_Draft ?_
  unfold VC_sheet_Draft
  obtain ⟨n1, n2⟩ := hn
  rw [zeroC_plan]
  refine (Hp.start w No).newB fun b2 w1 H1 _ hc1 => ?_
  refine withJ_i fun J10 hJ10 => ?_
  have bad : (n < 64 ∨ 16384 < n) → J10 true w1 := by
    intro hb
    subst hJ10
    refine condB_i (fun _ => ?_) (fun h => by simp at h)
    refine H1.stN 0 rfl (off := 0) rfl (by decide) (one1_ints3 _ _ _ _ _ _) fun w2 H2 hc2 => ?_
    refine H2.ldI 0 rfl (off := 0) rfl (H2.ldI 0 rfl (off := 1) rfl (H2.ldI 0 rfl (off := 2) rfl ?_))
    have := k w2 H2.chg
    unfold draftM at this
    rw [if_pos hb] at this
    exact this
  have good : ¬ (n < 64 ∨ 16384 < n) → J10 false w1 := by
    intro hb
    subst hJ10
    refine condB_i (fun h => by simp at h) (fun _ => ?_)
    refine ⟨by decide, ?_⟩
    refine H1.newB fun b4 w2 H2 _ hc2 => ?_
    refine H2.stN 0 rfl (off := 0) rfl (by decide) (one1_ints3 _ _ _ _ _ _) fun w3 H3 hc3 => ?_
    have e1 : w64 (Int.tdiv n 4) = n / 4 := by rw [Int.tdiv_eq_ediv_of_nonneg (by omega), w64_of] <;> omega
    rw [e1] at H3
    refine H3.ldI 0 rfl (off := 0) rfl ?_
    refine H3.stV 0 rfl (off := 1) (by simp [splice]) fun w4 H4 hc4 => ?_
    have e2 : w64 (2 + n / 4) = 2 + n / 4 := by rw [w64_of] <;> omega
    rw [e2] at H4
    refine H4.ldI 0 rfl (off := 1) rfl ⟨by decide, ?_⟩
    refine H4.stV 0 rfl (off := 2) (by simp [splice]) fun w5 H5 hc5 => ?_
    have e3 : w64 (Int.tdiv (w64 (n - (2 + n / 4))) 8) = (n - (2 + n / 4)) / 8 := by
      rw [w64_of (n := n - (2 + n / 4)) (by omega) (by omega), Int.tdiv_eq_ediv_of_nonneg (by omega), w64_of] <;> omega
    rw [e3] at H5
    refine H5.ldI 0 rfl (off := 0) rfl (H5.ldI 0 rfl (off := 1) rfl (H5.ldI 0 rfl (off := 2) rfl ?_))
    refine H5.stN 1 rfl (off := 0) rfl (by decide) (one1_ints3 _ _ _ _ _ _) fun w6 H6 hc6 => ?_
    refine H6.ldI 1 rfl (off := 0) rfl (H6.ldI 1 rfl (off := 1) rfl (H6.ldI 1 rfl (off := 2) rfl ?_))
    have := k w6 H6.chg
    unfold draftM at this
    rw [if_neg hb] at this
    exact this
  clear hJ10
  refine condB_d (fun h => bad (.inl h)) (fun h1 => ?_)
  by_cases h2 : n > 16384
  · rw [decide_eq_true h2]; exact bad (.inr h2)
  · rw [decide_eq_false h2]; exact good (by omega)

theorem RDraft_ok {n : Int} {J : Int → Int → Int → Bool → World → Prop} (hn : InI n) (k : J (draftM n).1 (draftM n).2.1 (draftM n).2.2.1 (draftM n).2.2.2 w) :
    callJ Try.prog fn_ref15_Draft #[.int .i64 n] w [.one (.int .i64), .one (.int .i64), .one (.int .i64), .one .bool] J := by
  refine c_ref15_Draft ?_
  unfold VC_ref15_Draft
  obtain ⟨n1, n2⟩ := hn
  refine withJ_i fun J10 hJ10 => ?_
  have bad : (n < 64 ∨ 16384 < n) → J10 true w := by
    intro hb
    subst hJ10
    unfold draftM at k
    rw [if_pos hb] at k
    exact condB_i (fun _ => k) (fun h => by simp at h)
  have good : ¬ (n < 64 ∨ 16384 < n) → J10 false w := by
    intro hb
    subst hJ10
    unfold draftM at k
    rw [if_neg hb] at k
    refine condB_i (fun h => by simp at h) (fun _ => ?_)
    refine ⟨by decide, ?_⟩
    have e1 : w64 (Int.tdiv n 4) = n / 4 := by rw [Int.tdiv_eq_ediv_of_nonneg (by omega), w64_of] <;> omega
    have e2 : w64 (2 + n / 4) = 2 + n / 4 := by rw [w64_of] <;> omega
    rw [e1, e2]
    refine ⟨fun x w' m => ∃ i : Nat, x = i ∧ (i : Int) ≤ (n - (2 + n / 4)) / 8 ∧ m = 16384 - i ∧ w' = w, ⟨_, 0, rfl, by omega, rfl, rfl⟩, ?_⟩
    rintro x w' m ⟨i, rfl, hi, rfl, rfl⟩
    have e3 : w64 ((2 + n / 4) + w64 (8 * w64 ((i : Int) + 1))) = 2 + n / 4 + 8 * (i + 1) := by
      rw [w64_of (n := (i : Int) + 1) (by omega) (by omega), w64_of (n := 8 * ((i : Int) + 1)) (by omega) (by omega), w64_of] <;> omega
    rw [e3]
    refine condB_d (fun h => ?_) (fun h => ?_)
    · exact ⟨16384 - (i + 1), by omega, i + 1, by rw [w64_of] <;> omega, by omega, rfl, rfl⟩
    · have : (i : Int) = (n - (2 + n / 4)) / 8 := by omega
      rw [this]; exact k
  clear hJ10
  refine condB_d (fun h => bad (.inl h)) (fun h1 => ?_)
  by_cases h2 : n > 16384
  · rw [decide_eq_true h2]; exact bad (.inr h2)
  · rw [decide_eq_false h2]; exact good (by omega)

/-! ## Lay -/

theorem Lay_ok {n : Int} {stamp : Nat} {p : Option Addr} {l c : Nat} {bs : List UInt8} {J : Option Addr → Nat → Nat → Int → World → Prop} (_ : stamp < 2 ^ 64) (h : Bytes w p l bs) (hp : p = none → l = 0)
    (k : ∀ q d w', Row w' T_uint8 1 q (layM n stamp bs).b.length d (bcells (layM n stamp bs).b) → fresh w q → Chg No w w' → J q (layM n stamp bs).b.length d (layM n stamp bs).e w') :
    callJ Try.prog fn_sheet_Lay #[.int .i64 n, .int .u64 (stamp : Int), .slice p l c] w [.one .slice, .one (.int .i64)] J := by
  have hbl := h.len
  refine c_sheet_Lay ?_
  unfold VC_sheet_Lay
  refine withJ_i fun J9 hJ9 => ?_
  have bad : badN n → J9 true w := by
    intro hb
    subst hJ9
    unfold layM at k
    rw [if_pos hb] at k
    exact condB_i (fun _ => k none 0 w (Row.nil _ _ _) (by rintro a ⟨⟩) (Chg.refl _ _)) (fun h => by simp at h)
  have good : ¬ badN n → J9 false w := by
    intro hb
    subst hJ9
    unfold layM at k
    rw [if_neg hb] at k
    refine condB_i (fun h => by simp at h) (fun _ => ?_)
    refine condB_d (fun h6 => ?_) (fun h6 => ?_)
    · rw [if_pos (by omega)] at k
      exact k none 0 w (Row.nil _ _ _) (by rintro a ⟨⟩) (Chg.refl _ _)
    rw [if_neg (by omega)] at k
    unfold badN at hb
    rw [zeroC_u8]
    refine (Hp.start w No).mkS rfl (by decide) (by decide) (by decide) (by decide) fun b8 w2 H2 hb8 hc2 => ?_
    have ez : (List.replicate (512 : Int).toNat (#[.int .u8 0] : Array Value).toList).flatten = z64 4 ++ z64 508 := by
      unfold z64; rw [List.flatten_replicate_singleton, List.replicate_append_replicate]; rfl
    rw [ez] at H2
    obtain ⟨n, rfl⟩ := Int.eq_ofNat_of_zero_le (a := n) (by omega)
    rw [wrap_u64_nat (by omega)]
    rw [Int.toNat_natCast] at k
    have hl : ∀ (xs : List Value) (m j : Nat), xs.length = m → m + j = 512 → (xs ++ z64 j).length = 512 := fun xs m j h1 h2 => by simp [z64, h1]; exact h2
    refine Put_room (k := 4) H2 0 rfl (by decide) (hl _ 4 508 (by simp [z64]) rfl) (by decide) fun w3 H3 hc3 => ?_
    simp only [List.set_cons_zero] at H3
    rw [show splice (z64 4 ++ z64 508) 4 (bcells (be 4 n)) = (z64 4 ++ bcells (be 4 n)) ++ z64 504 from splice_at (z64_len 4) (bbe_len 4 n) rfl] at H3
    refine Put_room (k := 8) H3 0 rfl (by decide) (hl _ 8 504 (by simp [z64, be_len, bcells]) rfl) (by decide) fun w4 H4 hc4 => ?_
    simp only [List.set_cons_zero] at H4
    rw [show splice ((z64 4 ++ bcells (be 4 n)) ++ z64 504) 8 (bcells (be 8 stamp)) = (z64 4 ++ bcells (be 4 n) ++ bcells (be 8 stamp)) ++ z64 496 from splice_at (by rw [List.length_append, z64_len, bbe_len]) (bbe_len 8 stamp) rfl] at H4
    refine H4.app 0 rfl slT_u8 (Sl.chg h H4.chg (off_no _)) hp (one1_bcells bs) (by rw [hl _ 16 496 (by simp [z64, be_len, bcells]) rfl]) (by omega) fun w7 H7 hc7 => ?_
    simp only [List.set_cons_zero] at H7
    have e7 : splice ((z64 4 ++ bcells (be 4 n) ++ bcells (be 8 stamp)) ++ z64 496) (16 * 1) (bcells bs) = bcells (List.replicate 4 0 ++ pageBody n stamp bs) := by
      have := splice_end (xs := z64 4 ++ bcells (be 4 n) ++ bcells (be 8 stamp)) (k := 496) (vs := bcells bs) (by rw [bcells_length]; omega)
      rw [show (z64 4 ++ bcells (be 4 n) ++ bcells (be 8 stamp)).length = 16 * 1 from by simp [z64, be_len, bcells]] at this
      rw [this, bcells_length]
      simp [pageBody, fillTo, bcells, z64]
    rw [e7] at H7
    have hsl := pageBody_len (n := n) (stamp := stamp) (p := bs) (by omega)
    have hcl : (bcells (List.replicate 4 0 ++ pageBody n stamp bs)).length = 512 := by rw [bcells_length, List.length_append, hsl]; rfl
    refine slS_pre (j := 512) ⟨_, rfl⟩ (by decide) (by decide) ?_
    have hR7 : Row w7 T_uint8 1 (some ⟨b8, 0, none⟩) 512 512 (bcells (List.replicate 4 0 ++ pageBody n stamp bs)) :=
      H7.asRow 0 rfl (rest := []) (by simp) hcl (Nat.le_refl _) (by decide) hcl
    refine slS_sl (i := 4) (j := 512) hR7.sl rfl rfl (by decide) (by decide) (by decide) fun p9 hs9 _ => ?_
    have e9 : ((bcells (List.replicate 4 0 ++ pageBody n stamp bs)).drop (4 * 1)).take ((512 - 4) * 1) = bcells (pageBody n stamp bs) := by
      rw [show bcells (List.replicate 4 0 ++ pageBody n stamp bs) = bcells (List.replicate 4 0) ++ bcells (pageBody n stamp bs) from by simp [bcells]]
      rw [List.drop_left' (by simp [bcells]), List.take_of_length_le (by rw [bcells_length, hsl]; decide)]
    rw [e9] at hs9
    refine Sum_ok (bs := pageBody n stamp bs) hs9 (by decide) ?_
    have hcrc := crc_lt (pageBody n stamp bs)
    rw [wrap_u64_nat (by omega)]
    refine Put_row (k := 4) (Row.nil _ _ _) (by decide) (by decide) fun p10 c10 w10 hr10 hc10 hf10 => ?_
    rw [List.nil_append] at hr10
    have hc10' : Chg No w7 w10 := hc10.mono fun b _ ⟨a, ha, _⟩ => by cases ha
    have H10 := H7.step0 hc10'
    refine H10.cpy 0 rfl slT_u8 hr10.sl (fun h => absurd (hr10.none0 h) (by decide)) (one1_bcells _) (by rw [hcl]; decide) fun w11 H11 hc11 => ?_
    simp only [List.set_cons_zero] at H11
    have e11 : splice (bcells (List.replicate 4 0 ++ pageBody n stamp bs)) 0 ((bcells (be 4 (crc (pageBody n stamp bs)))).take (min (0 + 4) 512)) = bcells (pageS n stamp bs) := by
      rw [List.take_of_length_le (by rw [bcells_length, be_len]; decide)]
      unfold splice
      rw [show bcells (List.replicate 4 0 ++ pageBody n stamp bs) = bcells (List.replicate 4 0) ++ bcells (pageBody n stamp bs) from by simp [bcells]]
      rw [List.take_zero, List.nil_append, List.drop_left' (by simp [bcells, be_len])]
      simp [pageS, summedL, bcells]
    rw [e11] at H11
    have hpl := pageS_len (n := n) (stamp := stamp) (p := bs) (by omega)
    rw [hpl] at k
    refine k _ _ w11 (H11.asRow 0 rfl (rest := []) (by simp) (by rw [bcells_length, hpl]) (Nat.le_refl _) (by decide) (by rw [bcells_length, hpl])) ?_ H11.chg
    rintro a ⟨⟩
    exact H11.fresh 0 rfl id
  clear hJ9
  refine condB_d (fun h => bad (.inl h)) (fun h1 => ?_)
  by_cases h2 : n > 4294967295
  · rw [decide_eq_true h2]; exact bad (.inr h2)
  · rw [decide_eq_false h2]; exact good (by unfold badN; omega)

theorem summed_ok {p : Option Addr} {l c : Nat} {bs : List UInt8} {J : Option Addr → Nat → Nat → World → Prop} (h : Bytes w p l bs) (hp : p = none → l = 0) (hm : l ≤ 1000000)
    (k : ∀ q d w', Row w' T_uint8 1 q (4 + l) d (bcells (summedL bs)) → fresh w q → Chg No w w' → J q (4 + l) d w') : callJ Try.prog fn_ref15_summed #[.slice p l c] w [.one .slice] J := by
  refine c_ref15_summed ?_
  unfold VC_ref15_summed
  refine RSum_ok h (by omega) ?_
  have hcrc := crc_lt bs
  rw [wrap_u64_nat (by omega)]
  refine Number_ok (k := 4) (by omega) (by decide) fun b2 w2 hr2 hb2 hc2 => ?_
  exact appB hr2 (h.chg hc2 (off_no _)) hp (by omega) (by rintro a ⟨⟩; exact hb2) hc2 k

theorem RLay_ok {n : Int} {stamp : Nat} {p : Option Addr} {l c : Nat} {bs : List UInt8} {J : Option Addr → Nat → Nat → Int → World → Prop} (hs : stamp < 2 ^ 64) (h : Bytes w p l bs)
    (k : ∀ q d w', Row w' T_uint8 1 q (layM n stamp bs).b.length d (bcells (layM n stamp bs).b) → fresh w q → Chg No w w' → J q (layM n stamp bs).b.length d (layM n stamp bs).e w') :
    callJ Try.prog fn_ref15_Lay #[.int .i64 n, .int .u64 (stamp : Int), .slice p l c] w [.one .slice, .one (.int .i64)] J := by
  have hbl := h.len
  refine c_ref15_Lay ?_
  unfold VC_ref15_Lay
  refine withJ_i fun J9 hJ9 => ?_
  have bad : badN n → J9 true w := by
    intro hb
    subst hJ9
    unfold layM at k
    rw [if_pos hb] at k
    exact condB_i (fun _ => k none 0 w (Row.nil _ _ _) (by rintro a ⟨⟩) (Chg.refl _ _)) (fun h => by simp at h)
  have good : ¬ badN n → J9 false w := by
    intro hb
    subst hJ9
    unfold layM at k
    rw [if_neg hb] at k
    refine condB_i (fun h => by simp at h) (fun _ => ?_)
    refine condB_d (fun h6 => ?_) (fun h6 => ?_)
    · rw [if_pos (by omega)] at k
      exact k none 0 w (Row.nil _ _ _) (by rintro a ⟨⟩) (Chg.refl _ _)
    rw [if_neg (by omega)] at k
    unfold badN at hb
    obtain ⟨n, rfl⟩ := Int.eq_ofNat_of_zero_le (a := n) (by omega)
    rw [wrap_u64_nat (by omega)]
    rw [Int.toNat_natCast] at k
    refine Number_ok (k := 4) (by omega) (by decide) fun b2 w2 hr2 hb2 hc2 => ?_
    refine Number_ok (k := 8) (by omega) (by decide) fun b3 w3 hr3 hb3 hc3 => ?_
    refine appB (hr2.chg hc3 (off_no _)) hr3.bytes (by simp) (by decide) (by rintro a ⟨⟩; exact hb2) (hc2.trans0 hc3) fun p4 c4 w4 hr4 f4 hc4 => ?_
    refine Fill_ok (k := 496) (h.chg hc4 (off_no _)) (by omega) (by decide) fun b5 w5 hr5 hb5 hc5 => ?_
    refine appB (hr4.chg hc5 (off_no _)) hr5.bytes (by simp) (by decide) f4 (hc4.trans0 hc5) fun p6 c6 w6 hr6 f6 hc6 => ?_
    refine summed_ok hr6.bytes (fun h => absurd (hr6.none0 h) (by decide)) (by decide) fun p7 c7 w7 hr7 f7 hc7 => ?_
    have hpl := pageS_len (n := n) (stamp := stamp) (p := bs) (by omega)
    rw [hpl] at k
    exact k p7 c7 w7 hr7 (fun a ha => Nat.le_trans hc6.size (f7 a ha)) (hc6.trans0 hc7)
  clear hJ9
  refine condB_d (fun h => bad (.inl h)) (fun h1 => ?_)
  by_cases h2 : n > 4294967295
  · rw [decide_eq_true h2]; exact bad (.inr h2)
  · rw [decide_eq_false h2]; exact good (by unfold badN; omega)
end

end Go.Proofs.Ytgplflecgnldeaa
