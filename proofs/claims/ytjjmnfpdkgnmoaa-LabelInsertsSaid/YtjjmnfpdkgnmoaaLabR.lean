/-
  Labels: the document's own words for bits and bytes.
-/
import Derived.Test.YtjjmnfpdkgnmoaaLabC
import Derived.Test.YtjjmnfpdkgnmoaaStr
import Derived.Test.YtjjmnfpdkgnmoaaVRef12
set_option linter.unusedVariables false
set_option linter.unusedSimpArgs false
namespace Go.Vc
open Go
/-! ## Rows of signs -/
def sgn (b : Bool) : UInt8 := if b then 49 else 48
def SB (s : ByteArray) (bits : List Bool) : Prop := bl s = bits.map sgn
theorem SB.size {s : ByteArray} {x : List Bool} (h : SB s x) : s.size = x.length := by rw [← bl_len, h, List.length_map]
theorem SB.append {s t : ByteArray} {x y : List Bool} (h : SB s x) (k : SB t y) : SB (s ++ t) (x ++ y) := by
  unfold SB; rw [bl_append, h, k, List.map_append]
theorem SB.one : SB ⟨#[49]⟩ [true] := rfl
theorem SB.zero : SB ⟨#[48]⟩ [false] := rfl
theorem SB.nil : SB ⟨#[]⟩ [] := rfl
theorem SB.at {s : ByteArray} {x : List Bool} {i : Int} {K : Int → Prop} (h : SB s x) (h0 : 0 ≤ i) (h1 : i < s.size) (k : ∀ b : Bool, x[i.toNat]? = some b → K ((sgn b).toNat : Int)) : idxStr s i K := by
  refine idxStr_b h0 h1 fun b hb => ?_
  rw [h, List.getElem?_map] at hb
  cases hx : x[i.toNat]? with
  | none => rw [hx] at hb; cases hb
  | some v =>
    rw [hx] at hb
    simp only [Option.map_some, Option.some.injEq] at hb
    subst hb
    exact k v hx
theorem sgn_one (b : Bool) : (((sgn b).toNat : Int) == (49 : Int)) = b := by cases b <;> rfl
theorem sgn_zero (b : Bool) : (((sgn b).toNat : Int) == (48 : Int)) = !b := by cases b <;> rfl
theorem sgn_eq (a b : Bool) : (((sgn a).toNat : Int) == ((sgn b).toNat : Int)) = (a == b) := by cases a <;> cases b <;> rfl
theorem lowB_snoc (n : Nat) : ∀ j, lowB n (j + 1) = lowB (n / 2) j ++ [n.testBit 0]
  | 0 => by simp [lowB]
  | j + 1 => by
    rw [lowB, lowB_snoc n j, lowB, List.cons_append, Nat.testBit_div_two]
theorem blen_half {n : Nat} (h : 2 ≤ n) : blen n = blen (n / 2) + 1 := by
  have := blen_shift (n := n) (s := 1) (by omega)
  rwa [Nat.pow_one] at this
theorem blen_one : blen 1 = 1 := rfl
theorem blen_zero : blen 0 = 0 := rfl
/-- The row of a number. -/
def rowL (n : Nat) : List Bool := lowB n (blen n)
theorem rowL_cons {n : Nat} (h : n ≠ 0) : rowL n = true :: lowB n (blen n - 1) := by
  obtain ⟨j, e, h1, h2⟩ := blen_spec h
  unfold rowL
  rw [e, lowB, Nat.add_sub_cancel]
  congr 1
  rw [Nat.testBit_eq_decide_div_mod_eq]
  have := blen_top h
  rw [e, Nat.add_sub_cancel] at this
  rw [this]; rfl
theorem rowL_half {n : Nat} (h : n ≠ 0) : rowL n = rowL (n / 2) ++ [n.testBit 0] := by
  unfold rowL
  by_cases h2 : 2 ≤ n
  · rw [blen_half h2, lowB_snoc]
  · have : n = 1 := by omega
    subst this; rfl
end Go.Vc
namespace Go.Proofs.Ytjjmnfpdkgnmoaa
open Go Go.Vc

section
variable {w : World}
theorem tmod2 (n : Int) : (Int.tmod n 2 != 0) = oddZ n := by
  unfold oddZ
  rw [Bool.eq_iff_iff]
  simp only [bne_iff_ne, ne_eq, decide_eq_true_eq]
  rcases (show n < 0 ∨ 0 ≤ n by omega) with h | h
  · have e : n = -(-n) := by omega
    rw [e, Int.neg_tmod, Int.tmod_eq_emod_of_nonneg (by omega)]; omega
  · rw [Int.tmod_eq_emod_of_nonneg h]; omega
theorem ROdd_ok {n : Int} {J : Bool → World → Prop} (k : J (oddZ n) w) : callJ Try.prog fn_ref12_odd #[.int .i64 n] w [.one .bool] J := by
  refine c_ref12_odd ?_
  unfold VC_ref12_odd
  rw [tmod2]; exact ⟨by decide, k⟩
theorem RRow_ok {n : Nat} {J : ByteArray → World → Prop} (hn : n ≠ 0) (hs : n < 2 ^ 31) (K : ∀ s, SB s (List.replicate (blen n - 1) true ++ false :: lowB n (blen n - 1)) → J s w) : callJ Try.prog fn_ref12_row #[.int .i64 (n : Int)] w [.one .str] J := by
  refine c_ref12_row ?_
  unfold VC_ref12_row
  have hb31 := blen_le hs
  refine ⟨fun d x w' t => ∃ (m : Nat) (acc : List Bool), x = m ∧ m ≤ n ∧ m = t ∧ w' = w ∧ SB d acc ∧ acc.length + blen m = blen n ∧ rowL m ++ acc = rowL n, ⟨_, n, [], rfl, Nat.le_refl _, rfl, rfl, SB.nil, by simp, by simp⟩, ?_⟩
  rintro d x w' t ⟨m, acc, rfl, hmn, rfl, rfl, hd, hal, hacc⟩
  have hds := hd.size
  refine condB_d (fun hpos => ?_) (fun hpos => ?_)
  · have hm0 : m ≠ 0 := by omega
    have hm1 : 1 ≤ blen m := by obtain ⟨j, e, _⟩ := blen_spec hm0; omega
    have hhalf : blen (m / 2) + 1 = blen m := by
      by_cases h2 : 2 ≤ m
      · exact (blen_half h2).symm
      · have : m = 1 := by omega
        subst this; rfl
    have hrow := rowL_half hm0
    have hb0 : m.testBit 0 = decide (m % 2 = 1) := by rw [Nat.testBit_eq_decide_div_mod_eq]; simp
    refine withJ_i fun J3 hJ3 => ?_
    have k3 : ∀ d', SB d' (m.testBit 0 :: acc) → J3 d' w' := by
      intro d' hd'; subst hJ3
      refine ⟨by decide, m / 2, by omega, m / 2, _, ?_, by omega, rfl, rfl, hd', by rw [List.length_cons]; omega, ?_⟩
      · rw [Int.tdiv_eq_ediv_of_nonneg (by omega), w64_of] <;> omega
      · rw [← hacc, hrow, List.append_assoc]; rfl
    clear hJ3
    have em : Int.tmod ((m : Nat) : Int) 2 = ((m % 2 : Nat) : Int) := by rw [Int.tmod_eq_emod_of_nonneg (by omega)]; omega
    rw [em]
    have hs1 : ((⟨#[49]⟩ : ByteArray).size) = 1 := rfl
    have hs0 : ((⟨#[48]⟩ : ByteArray).size) = 1 := rfl
    refine ⟨by decide, condB_eq (fun h1 => ⟨by rw [hs1, hds]; omega, k3 _ ?_⟩) (fun h1 => ⟨by rw [hs0, hds]; omega, k3 _ ?_⟩)⟩
    · rw [hb0, decide_eq_true (by omega)]; exact SB.one.append hd
    · rw [hb0, decide_eq_false (by omega)]; exact SB.zero.append hd
  · have hm0 : m = 0 := by omega
    subst hm0
    have hacc : acc = rowL n := by rw [← hacc]; rfl
    rw [rowL_cons hn] at hacc
    have hlen : acc.length = blen n := by rw [hacc, List.length_cons, lowB_len]; obtain ⟨j, e, _⟩ := blen_spec hn; omega
    have h1n : 1 ≤ blen n := by obtain ⟨j, e, _⟩ := blen_spec hn; omega
    refine ⟨fun s x w2 t => ∃ i : Nat, x = i ∧ 1 ≤ i ∧ i ≤ blen n ∧ t = blen n - i ∧ w2 = w' ∧ SB s (List.replicate (i - 1) true), ⟨_, 1, rfl, Nat.le_refl _, by omega, rfl, rfl, SB.nil⟩, ?_⟩
    rintro s x w2 t ⟨i, rfl, hi1, hi2, rfl, rfl, hs⟩
    have hss := hs.size
    rw [List.length_replicate] at hss
    rw [hds, hlen]
    have hs1 : ((⟨#[49]⟩ : ByteArray).size) = 1 := rfl
    have hs0 : ((⟨#[48]⟩ : ByteArray).size) = 1 := rfl
    refine condB_d (fun hlt => ?_) (fun hge => ?_)
    · refine ⟨by rw [hss, hs1]; omega, _, by omega, i + 1, by rw [w64_of] <;> omega, by omega, by omega, rfl, rfl, ?_⟩
      have := hs.append SB.one
      rw [← List.replicate_succ'] at this
      rw [show i + 1 - 1 = i - 1 + 1 by omega]; exact this
    · have hie : i = blen n := by omega
      subst hie
      refine ⟨by rw [hss, hs0]; omega, ?_⟩
      refine slStr_drop (i := 1) (by omega) fun z hz hzs => ?_
      have hzB : SB z (lowB n (blen n - 1)) := by
        unfold SB; rw [hz, hd, hacc]; rfl
      refine ⟨by rw [size_append, hss, hs0, hzs]; omega, K _ ?_⟩
      have := (hs.append SB.zero).append hzB
      rw [List.append_assoc] at this
      exact this
theorem RBits_ok {v : Int} {J : ByteArray → World → Prop} (h1 : -1073741824 ≤ v) (h2 : v ≤ 1073741824) (K : ∀ s, SB s (bitsV v) → J s w) : callJ Try.prog fn_ref12_bits #[.int .i64 v] w [.one .str] J := by
  refine c_ref12_bits ?_
  unfold VC_ref12_bits
  refine condB_d (fun hge => ?_) (fun hlt => ?_)
  · have e : w64 (v + 1) = (((v + 1).toNat : Nat) : Int) := by rw [w64_of] <;> omega
    rw [e]
    have hm : (v + 1).toNat ≠ 0 := by omega
    have hs31 : (v + 1).toNat < 2 ^ 31 := by omega
    have hb31 := blen_le hs31
    refine RRow_ok hm hs31 fun s hs => ?_
    have hss := hs.size
    have hs1 : ((⟨#[49]⟩ : ByteArray).size) = 1 := rfl
    refine ⟨?_, K _ ?_⟩
    · rw [hs1, hss, List.length_append, List.length_replicate, List.length_cons, lowB_len]; omega
    · have := SB.one.append hs
      have e2 : bitsV v = [true] ++ (List.replicate (blen (v + 1).toNat - 1) true ++ false :: lowB (v + 1).toNat (blen (v + 1).toNat - 1)) := by
        unfold bitsV
        rw [if_neg (by omega)]
        unfold encN
        obtain ⟨j, ej, _⟩ := blen_spec hm
        rw [ej, List.replicate_succ]
        simp
      rw [e2]; exact this
  · have e : w64 (0 - v) = (((-v).toNat : Nat) : Int) := by rw [w64_of] <;> omega
    rw [e]
    have hm : (-v).toNat ≠ 0 := by omega
    have hs31 : (-v).toNat < 2 ^ 31 := by omega
    have hb31 := blen_le hs31
    refine RRow_ok hm hs31 fun s hs => ?_
    generalize hR : List.replicate (blen (-v).toNat - 1) true ++ false :: lowB (-v).toNat (blen (-v).toNat - 1) = R at hs
    have hRl : R.length ≤ 62 := by rw [← hR, List.length_append, List.length_replicate, List.length_cons, lowB_len]; omega
    have hss := hs.size
    refine ⟨fun s3 x w2 t => ∃ i : Nat, x = i ∧ i ≤ R.length ∧ t = R.length - i ∧ w2 = w ∧ SB s3 (false :: (R.take i).map (!·)), ⟨_, 0, rfl, Nat.zero_le _, rfl, rfl, SB.zero⟩, ?_⟩
    rintro s3 x w2 t ⟨i, rfl, hi, rfl, rfl, h3⟩
    have h3s := h3.size
    rw [List.length_cons, List.length_map, List.length_take, Nat.min_eq_left hi] at h3s
    have hs1 : ((⟨#[49]⟩ : ByteArray).size) = 1 := rfl
    have hs0 : ((⟨#[48]⟩ : ByteArray).size) = 1 := rfl
    rw [hss]
    refine condB_d (fun hlt => ?_) (fun hge => ?_)
    · refine withJ_i fun J3 hJ3 => ?_
      refine hs.at (by omega) (by omega) fun b hb => ?_
      rw [Int.toNat_natCast] at hb
      have k3 : ∀ s', SB s' ((false :: (R.take i).map (!·)) ++ [!b]) → J3 s' w2 := by
        intro s' hs'; subst hJ3
        refine ⟨_, by omega, i + 1, by rw [w64_of] <;> omega, by omega, rfl, rfl, ?_⟩
        rw [take_snoc hb, List.map_append]; exact hs'
      clear hJ3
      rw [sgn_zero]
      refine condB_not (fun hb0 => ⟨by rw [h3s, hs1]; omega, k3 _ ?_⟩) (fun hb1 => ⟨by rw [h3s, hs0]; omega, k3 _ ?_⟩)
      · rw [hb0]; exact h3.append SB.one
      · rw [hb1]; exact h3.append SB.zero
    · have : i = R.length := by omega
      subst this
      rw [List.take_of_length_le (Nat.le_refl _)] at h3
      refine K _ ?_
      have e2 : bitsV v = false :: R.map (!·) := by
        unfold bitsV
        rw [if_pos (by omega), ← hR]
        unfold encN
        obtain ⟨j, ej, _⟩ := blen_spec hm
        rw [ej, List.replicate_succ]
        simp only [List.map_append, List.map_replicate, List.map_cons, Nat.add_sub_cancel, List.cons_append]
        congr 4
        funext b; cases b <;> rfl
      rw [e2]; exact h3

theorem RPacked_ok {s : ByteArray} {bits : List Bool} {J : Option Addr → Nat → Nat → World → Prop} (h : SB s bits) (hn : bits.length ≤ 100000) (K : ∀ q m d w', Row w' T_uint8 1 q m d (bcells (pack bits)) → fresh w q → Chg No w w' → J q m d w') :
    callJ Try.prog fn_ref12_Packed #[.string s] w [.one .slice] J := by
  refine c_ref12_Packed ?_
  unfold VC_ref12_Packed
  have hss := h.size
  refine (Hp.start w No).newB fun b5 w1 H1 hb5 hc1 => ?_
  have hrow : Row w1 T_uint8 1 (some ⟨b5, 0, none⟩) 0 0 (bcells []) := H1.asRow 0 rfl (rest := []) rfl (by simp [bcells]) (Nat.le_refl _) (by decide) (by simp)
  refine ⟨fun q m d x w' t => ∃ (i : Nat) (bs : List UInt8), x = i ∧ i ≤ bits.length ∧ t = bits.length - i ∧ Row w' T_uint8 1 q m d (bcells bs) ∧ fresh w q ∧ Chg No w w' ∧ Rp bs (bits.take i), ⟨_, 0, [], rfl, Nat.zero_le _, rfl, hrow, by rintro a ⟨⟩; exact hb5, hc1, Rp.nil⟩, ?_⟩
  rintro q m d x w2 t ⟨i, bs, rfl, hi, rfl, hr, hf, hc, hp⟩
  have hbm : bs.length = m := hr.bytes.len
  have hpl := hp.1
  rw [List.length_take, Nat.min_eq_left hi] at hpl
  rw [hss]
  refine condB_d (fun hlt => ?_) (fun hge => ?_)
  · obtain ⟨b, hb⟩ : ∃ b, bits[i]? = some b := ⟨bits[i], List.getElem?_eq_getElem (by omega)⟩
    have hput := hp.put b
    rw [List.length_take, Nat.min_eq_left hi, ← take_snoc hb] at hput
    refine withJ_i fun J3 hJ3 => ?_
    have k3 : ∀ q' m' d' w3 r, Rp r (bits.take (i + 1)) → Row w3 T_uint8 1 q' m' d' (bcells r) → fresh w q' → Chg No w w3 → J3 q' m' d' w3 := by
      intro q' m' d' w3 r hr' hrow' hf' hc'; subst hJ3
      exact ⟨_, by omega, i + 1, r, by rw [w64_of] <;> omega, by omega, rfl, hrow', hf', hc', hr'⟩
    clear hJ3
    refine withJ_i fun J31 hJ31 => ?_
    have k31 : ∀ q' m' d' w4 r, r = (if i % 8 = 0 then bs ++ [0] else bs) → Row w4 T_uint8 1 q' m' d' (bcells r) → fresh w q' → Chg No w w4 → J31 q' m' d' w4 := by
      intro q' m' d' w4 r er hr' hf' hc'; subst hJ31
      have hrm : r.length = m' := hr'.bytes.len
      have hrl : r.length = i / 8 + 1 := by
        rw [er]; split
        · rw [List.length_append, List.length_singleton]; omega
        · omega
      refine h.at (by omega) (by omega) fun b' hb' => ?_
      rw [Int.toNat_natCast, hb] at hb'
      cases hb'
      rw [sgn_one]
      refine condB_i (fun hon => ?_) (fun hon => ?_)
      · have hcd := hc'.drew
        have hrd : Row w4.drew T_uint8 1 q' m' d' (bcells r) := hr'.chg (Chg.refl No w4).drew (off_no _)
        rw [tdiv8 (by omega), tmod8]
        refine ⟨by decide, by decide, byte_i hrd.bytes (by omega) (by omega) fun x hx => ⟨by decide, by omega, ?_⟩⟩
        rw [Int.toNat_natCast] at hx
        have hz : x.toNat.testBit (7 - i % 8) = false := by
          have h1 : bitAt r i = false := by
            have h2 : bitAt bs i = false := by rw [hp.2, List.getD_eq_getElem?_getD, List.getElem?_eq_none (by rw [List.length_take]; omega)]; rfl
            rw [er]; split
            · rw [bitAt_push]; exact h2
            · exact h2
          rw [← h1, bitAt_of hx]
        rw [bit_plus x (Nat.mod_lt _ (by decide)) hz]
        refine Row.stB hrd (by omega) (by omega) fun w5 hr5 hc5 => ?_
        rw [Int.toNat_natCast] at hr5
        refine k3 q' m' d' w5 _ ?_ hr5 hf' (hcd.trans hc5 (fresh_no hf'))
        have e : putB bs i b = r.set (i / 8) (setB x (i % 8)) := by
          unfold putB
          simp only [hon, if_true]
          rw [← er, List.getD_eq_getElem?_getD, hx]; rfl
        rw [← e]; exact hput
      · refine k3 q' m' d' w4 r ?_ hr' hf' hc'
        have e : putB bs i b = r := by
          unfold putB
          simp only [hon, Bool.false_eq_true, if_false]
          exact er.symm
        rw [← e]; exact hput
    clear hJ31
    rw [tmod8]
    refine ⟨by decide, condB_eq (fun h0 => ?_) (fun h0 => k31 q m d w2 bs (by rw [if_neg (by omega)]) hr hf hc)⟩
    refine newRow (sz := 1) (n := 1) rfl (by decide) fun b2 w3 hr2 hb2 hc2 => ?_
    refine appB (hr.chg hc2 (off_no _)) (ys := [0]) hr2.sl (by simp) (by omega) hf (hc.trans0 hc2) fun p' c' w' hr' hf' hc' => ?_
    exact k31 p' (m + 1) c' w' (bs ++ [0]) (by rw [if_pos (by omega)]) hr' hf' hc'
  · have hie : i = bits.length := by omega
    subst hie
    rw [List.take_of_length_le (Nat.le_refl _)] at hp
    rw [hp.uniq (pack_rp bits)] at hr
    exact K q m d w2 hr hf hc

theorem RBytes_ok {p : Option Addr} {l c : Nat} {xs : List Int} {J : Option Addr → Nat → Nat → Int → World → Prop} (h : Ints w p l xs) (hm : l ≤ 140737488351232)
    (K : ∀ q m d w', Row w' T_uint8 1 q m d (bcells (lab xs).1) → fresh w q → Chg No w w' → J q m d (lab xs).2 w') : callJ Try.prog fn_ref12_Bytes #[.slice p l c] w [.one .slice, .one (.int .i64)] J := by
  refine c_ref12_Bytes ?_
  unfold VC_ref12_Bytes
  have hl := h.len
  have hbad : badB xs = (xs.any offB || (match xs.getLast? with | some v => decide (v % 2 = 0) | none => false)) := rfl
  have bad : badB xs = true → J none 0 0 11 w := by
    intro hb
    have e : lab xs = ([], 11) := by unfold lab; rw [if_pos hb]
    rw [e] at K
    exact K none 0 0 w (Row.nil _ _ _) (by rintro a ⟨⟩) (Chg.refl _ _)
  refine ⟨fun x w' t => ∃ i : Nat, x = i ∧ i ≤ l ∧ t = l - i ∧ w' = w ∧ (xs.take i).any offB = false ∧ (i = l → badB xs = false), ⟨_, 0, rfl, Nat.zero_le _, rfl, rfl, by simp, fun e => by
    have : xs = [] := List.eq_nil_of_length_eq_zero (by omega)
    rw [this]; rfl⟩, ?_⟩
  rintro x w' t ⟨i, rfl, hi, rfl, rfl, hno, hend⟩
  refine condB_d (fun hlt => ?_) (fun hge => ?_)
  · refine int_i h (by omega) hlt fun n hn => ?_
    rw [Int.toNat_natCast] at hn
    refine withJ_i fun J33 hJ33 => ?_
    have k33 : ∀ b, (b = true → badB xs = true) → (b = false → offB n = false ∧ (i = l - 1 → oddZ n = true)) → J33 b w' := by
      intro b h1 h0; subst hJ33
      refine condB_i (fun hb => bad (h1 hb)) (fun hb => ?_)
      obtain ⟨g1, g2⟩ := h0 hb
      have hany : (xs.take (i + 1)).any offB = false := by rw [take_snoc hn, List.any_append, hno]; simp [g1]
      refine ⟨_, by omega, i + 1, by rw [w64_of] <;> omega, by omega, rfl, rfl, hany, fun e => ?_⟩
      have hodd := oddZ_iff.1 (g2 (by omega))
      rw [e, List.take_of_length_le (by omega)] at hany
      rw [hbad, hany, List.getLast?_eq_getElem?, hl, show l - 1 = i by omega, hn]
      exact decide_eq_false (by omega)
    clear hJ33
    have far : offB n = true → badB xs = true := fun hf => by
      rw [hbad, List.any_eq_true.2 ⟨n, List.mem_of_getElem? hn, hf⟩]; rfl
    refine condB_d (fun h1 => k33 true (fun _ => far (by unfold offB; simp [h1])) (fun h => by cases h)) (fun h1 => ?_)
    refine condB_d (fun h2 => k33 true (fun _ => far (by unfold offB; simp [h2])) (fun h => by cases h)) (fun h2 => ?_)
    have hof : offB n = false := by unfold offB; simp [h1, h2]
    have e1 : w64 ((l : Int) - 1) = ((l - 1 : Nat) : Int) := by rw [w64_of] <;> omega
    rw [e1]
    refine condB_eq (fun hx => ?_) (fun hx => k33 false (fun h => by cases h) (fun _ => ⟨hof, fun e => absurd (by rw [e]) hx⟩))
    refine ROdd_ok (k33 _ (fun hb => ?_) (fun hb => ⟨hof, fun _ => by simpa using hb⟩))
    rw [hbad, List.getLast?_eq_getElem?, hl, show l - 1 = i by omega, hn]
    have : n % 2 = 0 := oddF (by simpa using hb)
    simp [this]
  · have hie : i = l := by omega
    subst hie
    have hb := hend rfl
    have hrange := bad_range hb
    refine ⟨fun s x w2 t => ∃ j : Nat, x = j ∧ j ≤ i ∧ t = i - j ∧ w2 = w' ∧ SB s (flatB (xs.take j)) ∧ (flatB (xs.take j)).length ≤ 960, ⟨_, 0, rfl, Nat.zero_le _, rfl, rfl, by rw [List.take_zero, flatB_nil]; exact SB.nil, by simp [flatB_nil]⟩, ?_⟩
    rintro s x w2 t ⟨j, rfl, hj, rfl, rfl, hs, hlen⟩
    have hss := hs.size
    refine condB_d (fun hlt => ?_) (fun hge2 => ?_)
    · refine int_i h (by omega) hlt fun v hv => ?_
      rw [Int.toNat_natCast] at hv
      have hr := hrange v (List.mem_of_getElem? hv)
      refine RBits_ok hr.1 hr.2 fun z hz => ?_
      have hzs := hz.size
      have hbv : (bitsV v).length ≤ 64 := by
        unfold bitsV
        split
        · rw [encN_len _ (by omega)]; have : blen (-v).toNat ≤ 31 := blen_le (by omega); omega
        · rw [encN_len _ (by omega)]; have : blen (v + 1).toNat ≤ 31 := blen_le (by omega); omega
      have hi1 : flatB (xs.take (j + 1)) = flatB (xs.take j) ++ bitsV v := by
        rw [take_snoc hv, flatB_append, flatB_cons, flatB_nil, List.append_nil]
      have hsz := hs.append hz
      rw [← hi1] at hsz
      have hszs := hsz.size
      refine ⟨by omega, ?_⟩
      refine condB_d (fun hgt => ?_) (fun hle => ?_)
      · have hbig : (flatB xs).length > 960 := by have := flatB_take_le xs (j + 1); omega
        have e : lab xs = ([], 5) := by unfold lab; rw [hb, if_neg (by simp), if_pos hbig]
        rw [e] at K
        exact K none 0 0 w2 (Row.nil _ _ _) (by rintro a ⟨⟩) (Chg.refl _ _)
      · exact ⟨_, by omega, j + 1, by rw [w64_of] <;> omega, by omega, rfl, rfl, hsz, by omega⟩
    · have hje : j = i := by omega
      subst hje
      rw [List.take_of_length_le (by omega)] at hs hlen
      have e : lab xs = (pack (flatB xs), 0) := by unfold lab; rw [hb, if_neg (by simp), if_neg (by omega)]
      rw [e] at K
      exact RPacked_ok hs (by omega) K
end
end Go.Proofs.Ytjjmnfpdkgnmoaa

