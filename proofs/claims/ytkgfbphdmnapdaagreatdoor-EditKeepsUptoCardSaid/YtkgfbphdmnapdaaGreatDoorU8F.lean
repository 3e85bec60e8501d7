/-
  Package unicode/utf8 (DecodeRune, ValidString) by contract; strings as rows of bytes.
-/
import Derived.Test.YtkgfbphdmnapdaaGreatDoorU8
import Derived.Test.YtkgfbphdmnapdaaGreatDoorVU8
import Derived.Test.YtkgfbphdmnapdaaGreatDoorBase
import Derived.Test.YtkgfbphdmnapdaaGreatDoorStr
import Derived.Lib.ValidAsc
import Derived.Lib.EndianBits
import Derived.Laws.BitsAllLaws
import Derived.Shelf.Unicode.DecodeSlow
namespace Go.Vc
open Go Go.Lib

/-! ## Strings -/
theorem get!_gB (s : ByteArray) (i k : Nat) : (s.get! (i + k)).toNat = gB ((bl s).drop i) k := by
  rw [gB_drop, gB, getD_get!']
theorem decode_dec (s : ByteArray) (i : Nat) : Utf8.decode s i = dec ((bl s).drop i) := by
  rw [decode_at, dec, List.length_drop, bl_len]
  have := get!_gB s i 0
  rw [Nat.add_zero] at this
  rw [this, get!_gB, get!_gB, get!_gB]
theorem idxStr_i {s : ByteArray} {i : Nat} {K : Int → Prop} (h : i < s.size) (k : K ((gB (bl s) i : Nat) : Int)) : idxStr s (i : Int) K := by
  have h2 : i < (bl s).length := by rw [bl_len]; exact h
  refine ⟨(bl s)[i], by omega, by rw [Int.toNat_natCast, bl_get, List.getElem?_eq_getElem h2], ?_⟩
  rw [gB_of (List.getElem?_eq_getElem h2)] at k; exact k

/-! ## Words -/
theorem wrap_i32 (n : Int) (h : -2147483648 ≤ n) (h2 : n < 2147483648) : IntKind.i32.wrap n = n := by
  unfold IntKind.wrap; simp [IntKind.signed, IntKind.bits]; omega
theorem or32 {x y : Nat} (i : Nat) (_ : i ≤ 31) (hx : x % 2 ^ i = 0) (hy : y < 2 ^ i) (h : x + y < 2147483648) : bOr .i32 (x : Int) (y : Int) = ((x + y : Nat) : Int) := by
  show bits .or .i32 (x : Int) (y : Int) = _
  have hw : ∀ n : Int, 0 ≤ n → n < 2 ^ 31 → IntKind.i32.wrap n = n := fun n h0 h1 => wrap_i32 n (by omega) (by omega)
  rw [bits_join .i32 31 (by decide) hw i (x : Int) (y : Int) (by omega) (by exact_mod_cast hx) (by omega) (by omega) (by exact_mod_cast hy) (by omega)]
  omega
theorem shl32 (n s : Nat) (hs : s ≤ 31) (h : n * 2 ^ s < 2147483648) : shlI .i32 (n : Int) (s : Int) = ((n * 2 ^ s : Nat) : Int) := by
  unfold shlI
  rw [Int.toNat_natCast, show min s IntKind.i32.bits = s from by simp [IntKind.bits]; omega]
  have e : (n : Int) * 2 ^ s = ((n * 2 ^ s : Nat) : Int) := by push_cast; rfl
  rw [e, wrap_i32 _ (by omega) (by omega)]
set_option maxRecDepth 100000 in
theorem and63' : ∀ x : Fin 256, bAnd .u8 ((x.val : Nat) : Int) 63 = ((x.val % 64 : Nat) : Int) := by decide
set_option maxRecDepth 100000 in
theorem and31' : ∀ x : Fin 256, bAnd .u8 ((x.val : Nat) : Int) 31 = ((x.val % 32 : Nat) : Int) := by decide
set_option maxRecDepth 100000 in
theorem and15' : ∀ x : Fin 256, bAnd .u8 ((x.val : Nat) : Int) 15 = ((x.val % 16 : Nat) : Int) := by decide
set_option maxRecDepth 100000 in
theorem and7' : ∀ x : Fin 256, bAnd .u8 ((x.val : Nat) : Int) 7 = ((x.val % 8 : Nat) : Int) := by decide
theorem and63 {x : Nat} (h : x < 256) : bAnd .u8 (x : Int) 63 = ((x % 64 : Nat) : Int) := and63' ⟨x, h⟩
theorem and31 {x : Nat} (h : x < 256) : bAnd .u8 (x : Int) 31 = ((x % 32 : Nat) : Int) := and31' ⟨x, h⟩
theorem and15 {x : Nat} (h : x < 256) : bAnd .u8 (x : Int) 15 = ((x % 16 : Nat) : Int) := and15' ⟨x, h⟩
theorem and7 {x : Nat} (h : x < 256) : bAnd .u8 (x : Int) 7 = ((x % 8 : Nat) : Int) := and7' ⟨x, h⟩
theorem shr4 (x : Nat) : shrI .u8 (x : Int) 4 = ((x / 16 : Nat) : Int) := by
  unfold shrI
  rw [show min (4 : Int).toNat IntKind.u8.bits = 4 from rfl]
  show (x : Int).fdiv 16 = _
  rw [Int.fdiv_eq_ediv_of_nonneg _ (by decide)]; omega
theorem keep240 {x : Nat} (h : x < 256) : bOr .i32 (bAndNot .i32 (IntKind.i32.wrap (x : Int)) (shrI .i32 (shlI .i32 (IntKind.i32.wrap ((240 : Nat) : Int)) 31) 31)) (bAnd .i32 65533 (shrI .i32 (shlI .i32 (IntKind.i32.wrap ((240 : Nat) : Int)) 31) 31)) = (x : Int) := by
  rw [show shrI .i32 (shlI .i32 (IntKind.i32.wrap ((240 : Nat) : Int)) 31) 31 = 0 from by decide, wrap_i32 _ (by omega) (by omega)]
  exact Proofs.Utf8W.keep_byte ⟨x, h⟩
theorem drop241 {x : Nat} (h : x < 256) : bOr .i32 (bAndNot .i32 (IntKind.i32.wrap (x : Int)) (shrI .i32 (shlI .i32 (IntKind.i32.wrap ((241 : Nat) : Int)) 31) 31)) (bAnd .i32 65533 (shrI .i32 (shlI .i32 (IntKind.i32.wrap ((241 : Nat) : Int)) 31) 31)) = 65533 := by
  rw [show shrI .i32 (shlI .i32 (IntKind.i32.wrap ((241 : Nat) : Int)) 31) 31 = -1 from by decide, wrap_i32 _ (by omega) (by omega)]
  exact Proofs.Utf8W.drop_byte ⟨x, h⟩

theorem leafF {J : Int → Int → World → Prop} {w : World} {x : Nat × Nat} (e : x = (65533, 1)) (h : J (x.1 : Int) (x.2 : Int) w) : J 65533 1 w := by
  rw [e] at h; simpa using h
theorem leaf {J : Int → Int → World → Prop} {w : World} {x : Nat × Nat} {r k : Nat} {k' : Int} (e : x = (r, k)) (hk : (k : Int) = k') (h : J (x.1 : Int) (x.2 : Int) w) : J (r : Int) k' w := by
  rw [e] at h; rw [← hk]; exact h
theorem firstT_ge {b : Nat} : ¬ firstT b < 240 → firstT b = 240 ∨ firstT b = 241 := by
  intro h
  rcases firstT_cases b with h' | h' | h' | h' | h' | h' | h' | h' | h' <;> omega
theorem firstT_small {b : Nat} : firstT b < 240 → firstT b % 8 ≤ 4 ∧ 2 ≤ firstT b % 8 ∧ firstT b / 16 < 16 ∧ firstT b < 256 ∧ 194 ≤ b := by
  intro h
  have h2 := firstT_low h
  rcases firstT_cases b with h' | h' | h' | h' | h' | h' | h' | h' | h' <;> (rw [h'] at h ⊢; omega)

/-! ## Which chars -/
theorem rd0_of_dec {bs : List UInt8} (h : dec bs = (65533, 1)) : (rd bs).2 = 0 := by
  rw [dec_rd] at h
  split at h
  · assumption
  · have h1 := congrArg Prod.fst h
    have h2 := congrArg Prod.snd h
    have := rd_fffd bs h1
    simp only at h2; omega
theorem rd_of_dec {bs : List UInt8} {r k : Nat} (h : dec bs = (r, k)) (hk : 2 ≤ k) : rd bs = (r, k) := by
  rw [dec_rd] at h
  split at h
  · have := congrArg Prod.snd h; simp only at this; omega
  · exact h
theorem dec_of_rd {bs : List UInt8} (h : (rd bs).2 ≠ 0) : dec bs = rd bs := by rw [dec_rd, if_neg h]
theorem vld_drop : ∀ (k : Nat) (bs : List UInt8), (∀ b ∈ bs.take k, b.toNat < 128) → vld bs = vld (bs.drop k)
  | 0, bs, _ => by simp
  | k + 1, [], _ => by simp
  | k + 1, b :: r, h => by
    have hb := h b (by simp)
    have e := rd_ascii_cons b r hb
    rw [vld_step (by simp) (by rw [e]; simp), e]
    simp only [List.drop_succ_cons, List.drop_zero]
    exact vld_drop k r (fun x hx => h x (by simp [hx]))

/-- The tables of the library. -/
def Tabs (w : World) : Prop := Lib.Utf8Tabs 0 1 w
theorem Tabs.chg {w w' : World} (h : Tabs w) (hc : Chg No w w') : Tabs w' :=
  ⟨fun c h1 => hc.cell (h.1 c h1) (fun f => f), fun i hi => ⟨hc.cell (h.2 i hi).1 (fun f => f), hc.cell (h.2 i hi).2 (fun f => f)⟩⟩
end Go.Vc

namespace Go.Proofs.YtkgfbphdmnapdaaGreatDoor
open Go Go.Vc Go.Lib

section
variable {w : World}

theorem zeroC_acc : zeroC Tryz.prog T_utf8_acceptRange = ⟨[.int .u8 0, .int .u8 0]⟩ := by kernel_rfl

set_option maxRecDepth 100000 in
set_option maxHeartbeats 1000000 in
theorem decodeRuneSlow_ok {p : Option Addr} {l c : Nat} {bs : List UInt8} {J : Int → Int → World → Prop} (h : Bytes w p l bs) (hl : l ≠ 0) (T : Tabs w)
    (K : ∀ w', Chg No w w' → J ((dec bs).1 : Int) ((dec bs).2 : Int) w') : callJ Tryz.prog fn_unicode_utf8_decodeRuneSlow #[.slice p l c] w [.one (.int .i32), .one (.int .i64)] J := by
  refine c_unicode_utf8_decodeRuneSlow ?_
  unfold VC_unicode_utf8_decodeRuneSlow
  have hbl := h.len
  refine condB_d (fun hz => absurd hz (by omega)) fun _ => ?_
  refine byte_i h (by decide) (by omega) fun b0 hb0 => ?_
  have g0 := gB_of hb0
  rw [show (0 : Int).toNat = 0 from rfl] at g0
  rw [← g0]
  have l0 := gB_lt bs 0; have l1 := gB_lt bs 1; have l2 := gB_lt bs 2; have l3 := gB_lt bs 3
  refine idxA_i (by omega) (by omega) ?_
  rw [Addr.add_mk, Nat.zero_add, Nat.mul_one, Int.toNat_natCast]
  refine ldI_i (T.1 _ l0) ?_
  refine condB_d (fun hx => ?_) (fun hx => ?_)
  · refine ⟨by decide, by decide, ?_⟩
    refine byte_i h (by decide) (by omega) fun b0' hb0' => ?_
    rw [hb0] at hb0'; cases hb0'
    rw [← g0]
    rcases firstT_ge (b := gB bs 0) (by omega) with hf | hf
    · rw [hf, keep240 l0]
      exact leaf (show dec bs = (gB bs 0, 1) from ascii_eq _ _ _ _ _ hf) rfl (K w (Chg.refl _ _))
    · rw [hf, drop241 l0]
      exact leafF (show dec bs = (65533, 1) from bad_eq _ _ _ _ _ l0 hf) (K w (Chg.refl _ _))
  · have hx : firstT (gB bs 0) < 240 := by omega
    obtain ⟨s4, s2, s16, s256, _⟩ := firstT_small hx
    have hdec : dec bs = slowN bs.length (gB bs 0) (gB bs 1) (gB bs 2) (gB bs 3) (firstT (gB bs 0) % 8) (accLo (firstT (gB bs 0) / 16)) (accHi (firstT (gB bs 0) / 16)) := (slow_eq _ _ _ _ _ (by omega) l1 l2 l3 hx).symm
    rw [hdec] at K
    rw [shr4, and7 s256, w64_of (by omega) (by omega)]
    generalize hsz : firstT (gB bs 0) % 8 = sz at *
    generalize hq : firstT (gB bs 0) / 16 = q at *
    refine ⟨by decide, idxA_i (by omega) (by omega) ?_⟩
    simp only [Addr.add_mk, Nat.zero_add, Int.toNat_natCast]
    have ht := T.2 q s16
    rw [Nat.mul_comm] at ht
    refine ldI_i ht.1 (ldI_i ht.2 ?_)
    rw [zeroC_acc]
    refine (Hp.start w No).newB fun b9 w1 H1 hb9 hc1 => ?_
    refine H1.stN 0 rfl (off := 0) rfl (by decide) (by simp [one1, Value.oneCell']) fun w2 H2 hc2 => ?_
    have hc : Chg No w w2 := hc1.trans hc2 fun x hx he => by subst he; omega
    have hB : Bytes w2 p l bs := h.chg hc (off_no _)
    simp only [splice, List.take_zero, List.nil_append, List.set_cons_zero, List.length_cons, List.length_nil, List.drop_succ_cons, List.drop_nil, List.append_nil, Nat.zero_add] at H2
    refine condB_d (fun hn => ?_) (fun hn => ?_)
    · have e : slowN bs.length (gB bs 0) (gB bs 1) (gB bs 2) (gB bs 3) sz (accLo q) (accHi q) = (65533, 1) := by unfold slowN; rw [if_pos (by omega)]
      exact leafF e (K w2 hc)
    · refine byte_i hB (by decide) (by omega) fun b1 hb1 => ?_
      have g1 := gB_of hb1
      rw [show (1 : Int).toNat = 1 from rfl] at g1
      rw [← g1]
      refine withJ_i fun J60 hJ60 => ?_
      have n1 : ¬ bs.length < sz := by omega
      have fail1 : (gB bs 1 < accLo q ∨ accHi q < gB bs 1) → J60 true w2 := fun hf => by
        subst hJ60
        have e : slowN bs.length (gB bs 0) (gB bs 1) (gB bs 2) (gB bs 3) sz (accLo q) (accHi q) = (65533, 1) := by unfold slowN; rw [if_neg n1, if_pos hf]
        exact leafF e (K w2 hc)
      refine H2.ldI 0 rfl (off := 0) rfl ?_
      refine condB_d (fun hlo => fail1 (.inl (by omega))) (fun hlo => ?_)
      refine H2.ldI 0 rfl (off := 1) rfl ?_
      by_cases hhi : accHi q < gB bs 1
      · rw [decide_eq_true (by omega)]; exact fail1 (.inr hhi)
      rw [decide_eq_false (by omega)]
      have n2 : ¬ (gB bs 1 < accLo q ∨ accHi q < gB bs 1) := by omega
      clear fail1
      subst hJ60
      refine condB_d (fun h2 => ?_) (fun h2 => ?_)
      · have e : slowN bs.length (gB bs 0) (gB bs 1) (gB bs 2) (gB bs 3) sz (accLo q) (accHi q) = (gB bs 0 % 32 * 64 + gB bs 1 % 64, 2) := by unfold slowN; rw [if_neg n1, if_neg n2, if_pos (by omega)]
        refine ⟨by decide, ?_⟩
        rw [and31 l0, and63 l1, wrap_i32 _ (by omega) (by omega), wrap_i32 _ (by omega) (by omega), show (6 : Int) = ((6 : Nat) : Int) from rfl, shl32 _ 6 (by decide) (by omega), or32 6 (by decide) (by omega) (by omega) (by omega)]
        exact leaf e rfl (K w2 hc)
      · refine byte_i hB (by decide) (by omega) fun b2 hb2 => ?_
        have g2 := gB_of hb2
        rw [show (2 : Int).toNat = 2 from rfl] at g2
        rw [← g2]
        refine withJ_i fun J79 hJ79 => ?_
        have fail2 : (gB bs 2 < 128 ∨ 191 < gB bs 2) → J79 true w2 := fun hf => by
          subst hJ79
          have e : slowN bs.length (gB bs 0) (gB bs 1) (gB bs 2) (gB bs 3) sz (accLo q) (accHi q) = (65533, 1) := by unfold slowN; rw [if_neg n1, if_neg n2, if_neg (by omega), if_pos hf]
          exact leafF e (K w2 hc)
        refine condB_d (fun hlo => fail2 (.inl (by omega))) (fun hlo => ?_)
        by_cases hhi : 191 < gB bs 2
        · rw [decide_eq_true (by omega)]; exact fail2 (.inr hhi)
        rw [decide_eq_false (by omega)]
        have n3 : ¬ (gB bs 2 < 128 ∨ 191 < gB bs 2) := by omega
        clear fail2
        subst hJ79
        refine condB_d (fun h3 => ?_) (fun h3 => ?_)
        · have e : slowN bs.length (gB bs 0) (gB bs 1) (gB bs 2) (gB bs 3) sz (accLo q) (accHi q) = (gB bs 0 % 16 * 4096 + gB bs 1 % 64 * 64 + gB bs 2 % 64, 3) := by
            unfold slowN; rw [if_neg n1, if_neg n2, if_neg (by omega), if_neg n3, if_pos (by omega)]
          refine ⟨by decide, by decide, ?_⟩
          rw [and15 l0, and63 l1, and63 l2, wrap_i32 _ (by omega) (by omega), wrap_i32 _ (by omega) (by omega), wrap_i32 _ (by omega) (by omega), show (6 : Int) = ((6 : Nat) : Int) from rfl, show (12 : Int) = ((12 : Nat) : Int) from rfl,
            shl32 _ 12 (by decide) (by omega), shl32 _ 6 (by decide) (by omega), or32 12 (by decide) (by omega) (by omega) (by omega), or32 6 (by decide) (by omega) (by omega) (by omega)]
          exact leaf e rfl (K w2 hc)
        · refine byte_i hB (by decide) (by omega) fun b3 hb3 => ?_
          have g3 := gB_of hb3
          rw [show (3 : Int).toNat = 3 from rfl] at g3
          rw [← g3]
          refine withJ_i fun J103 hJ103 => ?_
          have fail3 : (gB bs 3 < 128 ∨ 191 < gB bs 3) → J103 true w2 := fun hf => by
            subst hJ103
            have e : slowN bs.length (gB bs 0) (gB bs 1) (gB bs 2) (gB bs 3) sz (accLo q) (accHi q) = (65533, 1) := by unfold slowN; rw [if_neg n1, if_neg n2, if_neg (by omega), if_neg n3, if_neg (by omega), if_pos hf]
            exact leafF e (K w2 hc)
          refine condB_d (fun hlo => fail3 (.inl (by omega))) (fun hlo => ?_)
          by_cases hhi : 191 < gB bs 3
          · rw [decide_eq_true (by omega)]; exact fail3 (.inr hhi)
          rw [decide_eq_false (by omega)]
          have n4 : ¬ (gB bs 3 < 128 ∨ 191 < gB bs 3) := by omega
          clear fail3
          subst hJ103
          have e : slowN bs.length (gB bs 0) (gB bs 1) (gB bs 2) (gB bs 3) sz (accLo q) (accHi q) = (gB bs 0 % 8 * 262144 + gB bs 1 % 64 * 4096 + gB bs 2 % 64 * 64 + gB bs 3 % 64, 4) := by
            unfold slowN; rw [if_neg n1, if_neg n2, if_neg (by omega), if_neg n3, if_neg (by omega), if_neg n4]
          refine ⟨by decide, by decide, by decide, ?_⟩
          rw [and7 l0, and63 l1, and63 l2, and63 l3, wrap_i32 _ (by omega) (by omega), wrap_i32 _ (by omega) (by omega), wrap_i32 _ (by omega) (by omega), wrap_i32 _ (by omega) (by omega),
            show (6 : Int) = ((6 : Nat) : Int) from rfl, show (12 : Int) = ((12 : Nat) : Int) from rfl, show (18 : Int) = ((18 : Nat) : Int) from rfl,
            shl32 _ 18 (by decide) (by omega), shl32 _ 12 (by decide) (by omega), shl32 _ 6 (by decide) (by omega), or32 18 (by decide) (by omega) (by omega) (by omega), or32 12 (by decide) (by omega) (by omega) (by omega), or32 6 (by decide) (by omega) (by omega) (by omega)]
          exact leaf e rfl (K w2 hc)

set_option maxRecDepth 100000 in
theorem DecodeRune_ok {p : Option Addr} {l c : Nat} {bs : List UInt8} {J : Int → Int → World → Prop} (h : Bytes w p l bs) (hl : l ≠ 0) (T : Tabs w)
    (K : ∀ w', Chg No w w' → J ((dec bs).1 : Int) ((dec bs).2 : Int) w') : callJ Tryz.prog fn_unicode_utf8_DecodeRune #[.slice p l c] w [.one (.int .i32), .one (.int .i64)] J := by
  refine c_unicode_utf8_DecodeRune ?_
  unfold VC_unicode_utf8_DecodeRune
  refine withJ_i fun J0 hJ0 => ?_
  refine ⟨fun x w' m => x = 0 ∧ w' = w, ⟨0, rfl, rfl⟩, ?_⟩
  rintro x w' m ⟨rfl, rfl⟩
  have go : J0 w' := by subst hJ0; exact decodeRuneSlow_ok h hl T K
  refine condB_d (fun hx => ?_) (fun hx => go)
  refine byte_i h (by decide) (by omega) fun b hb => ?_
  have g0 := gB_of hb
  rw [show (0 : Int).toNat = 0 from rfl] at g0
  refine condB_d (fun h1 => ?_) (fun h1 => go)
  have e : dec bs = (gB bs 0, 1) := by unfold dec decodeN; rw [if_pos (by omega)]
  rw [wrap_i32 _ (by omega) (by omega), ← g0]
  exact leaf e rfl (K w' (Chg.refl _ _))

set_option maxRecDepth 100000 in
set_option maxHeartbeats 1000000 in
theorem word_ok {s : ByteArray} {J : Int → World → Prop} (h : 8 ≤ s.size) (K : ∀ A : Nat, A < 18446744073709551616 → (A &&& 9259542123273814144 = 0 → ∀ b ∈ (bl s).take 8, b.toNat < 128) → J (A : Int) w.drew) :
    callJ Tryz.prog fn_unicode_utf8_word_string #[.string s] w [.one (.int .u64)] J := by
  refine c_unicode_utf8_word_string ?_
  unfold VC_unicode_utf8_word_string
  have hk := K _ (word_lt s) (fun h0 => (word_asc s h).1 h0)
  have q : ∀ i, (s.get! i).toNat = gB (bl s) i := fun i => by rw [gB, getD_get!']
  simp only [Lib.leNat, q] at hk
  have lt := fun i => gB_lt (bl s) i
  refine idxStr_i (i := 0) (by omega) ?_
  refine idxStr_i (i := 1) (by omega) ⟨by decide, ?_⟩
  refine idxStr_i (i := 2) (by omega) ⟨by decide, ?_⟩
  refine idxStr_i (i := 3) (by omega) ⟨by decide, ?_⟩
  refine idxStr_i (i := 4) (by omega) ⟨by decide, ?_⟩
  refine idxStr_i (i := 5) (by omega) ⟨by decide, ?_⟩
  refine idxStr_i (i := 6) (by omega) ⟨by decide, ?_⟩
  refine idxStr_i (i := 7) (by omega) ⟨by decide, ?_⟩
  have h0 := lt 0; have h1 := lt 1; have h2 := lt 2; have h3 := lt 3; have h4 := lt 4; have h5 := lt 5; have h6 := lt 6; have h7 := lt 7
  generalize gB (bl s) 0 = x0 at *; generalize gB (bl s) 1 = x1 at *; generalize gB (bl s) 2 = x2 at *; generalize gB (bl s) 3 = x3 at *
  generalize gB (bl s) 4 = x4 at *; generalize gB (bl s) 5 = x5 at *; generalize gB (bl s) 6 = x6 at *; generalize gB (bl s) 7 = x7 at *
  have sh : ∀ (n : Nat) (k : Int), shlI .u64 (n : Int) k = IntKind.u64.wrap ((n : Int) * 2 ^ (min k.toNat 64)) := fun _ _ => rfl
  have bo : ∀ x y : Int, bOr .u64 x y = bits .or .u64 x y := fun _ _ => rfl
  simp (disch := omega) only [u64_wrap_id, sh, bo]
  simp only [show (8 : Int).toNat = 8 from rfl, show (16 : Int).toNat = 16 from rfl, show (24 : Int).toNat = 24 from rfl, show (32 : Int).toNat = 32 from rfl, show (40 : Int).toNat = 40 from rfl, show (48 : Int).toNat = 48 from rfl, show (56 : Int).toNat = 56 from rfl, show min 8 64 = 8 from rfl, show min 16 64 = 16 from rfl, show min 24 64 = 24 from rfl, show min 32 64 = 32 from rfl, show min 40 64 = 40 from rfl, show min 48 64 = 48 from rfl, show min 56 64 = 56 from rfl, Int.reducePow]
  simp (disch := omega) only [u64_wrap_id, u64_or8, u64_or16, u64_or24, u64_or32, u64_or40, u64_or48, u64_or56]
  have e : (x0 : Int) + (x1 : Int) * 256 + (x2 : Int) * 65536 + (x3 : Int) * 16777216 + (x4 : Int) * 4294967296 + (x5 : Int) * 1099511627776 + (x6 : Int) * 281474976710656 + (x7 : Int) * 72057594037927936
    = ((x0 + 256 * (x1 + 256 * (x2 + 256 * (x3 + 256 * (x4 + 256 * (x5 + 256 * (x6 + 256 * (x7 + 256 * 0))))))) : Nat) : Int) := by push_cast; omega
  rw [e]; exact hk
end

end Go.Proofs.YtkgfbphdmnapdaaGreatDoor

