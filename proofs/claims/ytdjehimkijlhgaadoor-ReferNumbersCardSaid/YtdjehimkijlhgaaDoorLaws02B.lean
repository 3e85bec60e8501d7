/-
  Chapter 2's statements: Numbers, Joins, Plain.
-/
import Derived.Test.YtdjehimkijlhgaaDoorLaws02
set_option linter.unusedVariables false
set_option linter.unusedSimpArgs false
namespace Go.Vc
open Go Go.Lib
theorem w64_nat {n : Nat} (h : n < 9223372036854775808) : w64 (n : Int) = n := w64_of (by omega) (by omega)
theorem chr_of_big {n : Nat} (h : 1114111 < n) : chr (n : Int) = false := chr_big (by omega)
theorem sub_self (v : Bool) : ∀ {s : List UInt8}, (∀ b ∈ s, b ≠ 60 ∧ b ≠ 62 ∧ b ≠ 38 ∧ b ≠ 34 ∧ 32 ≤ b.toNat) → subst (escT v) s = s := by
  intro s h
  refine subst_none _ fun b hb => ?_
  cases hl : lookT (escT v) b with
  | none => rfl
  | some r =>
    exfalso
    obtain ⟨p, hp, rfl, _⟩ := look_mem hl
    have := h p.1 hb
    have hall : ∀ p ∈ escT v, ¬ (p.1 ≠ 60 ∧ p.1 ≠ 62 ∧ p.1 ≠ 38 ∧ p.1 ≠ 34 ∧ 32 ≤ p.1.toNat) := by cases v <;> decide
    exact hall p hp this
def oddB (b : UInt8) : Bool := b == 60 || b == 62 || b == 38 || b == 34 || decide (b.toNat < 32)
theorem oddB_false {b : UInt8} (h : oddB b = false) : b ≠ 60 ∧ b ≠ 62 ∧ b ≠ 38 ∧ b ≠ 34 ∧ 32 ≤ b.toNat := by
  unfold oddB at h
  simp only [Bool.or_eq_false_iff, beq_eq_false_iff_ne, decide_eq_false_iff_not] at h
  exact ⟨h.1.1.1.1, h.1.1.1.2, h.1.1.2, h.1.2, by omega⟩
theorem any_take {l : List UInt8} {k : Nat} {b : UInt8} (p : UInt8 → Bool) (h : l[k]? = some b) : (l.take (k + 1)).any p = ((l.take k).any p || p b) := by
  rw [take_snoc h, List.any_append]; simp
theorem eqI {b : UInt8} (n : UInt8) : (((b.toNat : Nat) : Int) == ((n.toNat : Nat) : Int)) = (b == n) := by
  rw [Bool.eq_iff_iff, beq_iff_eq, beq_iff_eq]
  exact ⟨fun h => u8of n h, fun h => by rw [h]⟩
end Go.Vc
namespace Go.Proofs.YtdjehimkijlhgaaDoor
open Go Go.Vc Go.Lib
section
variable {w : World}
set_option maxRecDepth 100000 in
theorem Digits_ok {n base k : Nat} {cap : Bool} {J : ByteArray → World → Prop} (hn : n < 9223372036854775808) (hb : base = 10 ∨ base = 16) (hk : k ≤ 255)
    (K : ∀ (s : ByteArray) (w' : World), Chg No w w' → bl s ≠ [] → (bl s).all (okD base) = true → val base (bl s) = n → s.size ≤ 400 → J s w') :
    callJ Tryd.prog fn_law02_digits #[.int .i64 (n : Int), .int .i64 (base : Int), .int .i64 (k : Int), .bool cap] w [.one .str] J := by
  refine c_law02_digits ?_
  unfold VC_law02_digits
  refine ⟨fun n0 s9 w1 t => ∃ (m : Nat) (ds : List UInt8), n0 = m ∧ s9 = mkB ds ∧ t = (if ds = [] then 1 else 0) + m ∧ Chg No w w1 ∧ ds.all (okD base) = true ∧ n = m * base ^ ds.length + val base ds ∧ m * 2 ^ ds.length < 9223372036854775808 ∧ ds.length ≤ 64,
    ⟨_, n, [], rfl, rfl, rfl, Chg.refl _ _, rfl, by simp [val_nil], by simpa using hn, by simp⟩, ?_⟩
  rintro n0 s9 w1 t ⟨m, ds, rfl, rfl, rfl, hc, hall, hval, hpow, hlen⟩
  have hb1 : 10 ≤ base := by omega
  have hb2 : base ≤ 16 := by omega
  have hm63 : m < 9223372036854775808 := by
    have : m * 1 ≤ m * 2 ^ ds.length := Nat.mul_le_mul_left _ (Nat.one_le_two_pow)
    omega
  have hsz : ∀ l : List UInt8, (mkB l).size = l.length := fun l => by rw [← bl_len, bl_mkB]
  refine withJ_i fun J18 hJ18 => ?_
  have kT : (0 < m ∨ ds = []) → J18 true w1 := by
    intro hgo; subst hJ18
    refine condB_i (fun _ => ?_) (fun h => by cases h)
    refine ⟨by omega, ?_⟩
    have hd : m % base < base := Nat.mod_lt _ (by omega)
    have ed : Int.tmod (m : Int) (base : Int) = ((m % base : Nat) : Int) := (Int.ofNat_tmod m base).symm
    have eq : Int.tdiv (m : Int) (base : Int) = ((m / base : Nat) : Int) := (Int.ofNat_tdiv m base).symm
    rw [ed, eq]
    have hq : m / base ≤ m := Nat.div_le_self _ _
    have e1 : w64 ((m / base : Nat) : Int) = ((m / base : Nat) : Int) := w64_nat (Nat.lt_of_le_of_lt hq hm63)
    rw [e1]
    refine withJ_i fun J11 hJ11 => ?_
    have k11 : ∀ c11 : Int, (m % base ≤ 9 → c11 = ((digC (m % base) cap).toNat : Int)) → (cap = false → c11 = ((digC (m % base) cap).toNat : Int)) → J11 c11 w1 := by
      intro c11 g1 g2; subst hJ11
      refine withJ_i fun J111 hJ111 => ?_
      have k111 : J111 ((digC (m % base) cap).toNat : Int) w1 := by
        subst hJ111
        refine newRow (sz := 1) (n := 1) (cs := [.int .u8 ((digC (m % base) cap).toNat : Int)]) rfl (by decide) fun b41 w5 hr5 _ hc5 => ?_
        refine bytesOf_i (bs := [digC (m % base) cap]) hr5.sl ?_
        have hms : (⟨[digC (m % base) cap].toArray⟩ : ByteArray) = mkB [digC (m % base) cap] := rfl
        have hap : mkB [digC (m % base) cap] ++ mkB ds = mkB (digC (m % base) cap :: ds) := bl_ext (by rw [bl_mkB, bl_append, bl_mkB, bl_mkB]; rfl)
        rw [hms, hap, hsz, hsz]
        obtain ⟨h1, h2⟩ := digC_ok hd hb2 cap
        refine ⟨by simp only [List.length_singleton]; omega, by omega, (0 : Nat) + m / base, ?_, m / base, _, rfl, rfl, by simp, hc.trans0 hc5, ?_, ?_, ?_, ?_⟩
        · split
          · have : m / base ≤ m := Nat.div_le_self _ _
            omega
          · rename_i hne
            have hm0 : 0 < m := hgo.resolve_right hne
            have := Nat.div_lt_self hm0 (show 1 < base by omega)
            omega
        · rw [List.all_cons, h1, hall]; rfl
        · rw [val_cons, h2, List.length_cons, hval, Nat.pow_succ, ← Nat.add_assoc, Nat.mul_comm (base ^ ds.length) base, ← Nat.mul_assoc, ← Nat.add_mul, Nat.mul_comm (m / base) base, Nat.div_add_mod]
        · rw [List.length_cons, Nat.pow_succ, Nat.mul_comm (2 ^ ds.length) 2, ← Nat.mul_assoc]
          refine Nat.lt_of_le_of_lt (Nat.mul_le_mul_right _ ?_) hpow
          have : m / base ≤ m / 2 := Nat.div_le_div_left (by omega) (by decide)
          omega
        · rw [List.length_cons]
          rcases Nat.lt_or_ge ds.length 64 with h | h
          · omega
          · exfalso
            have h64 : ds.length = 64 := by omega
            have hne : ds ≠ [] := by intro e; rw [e] at h64; cases h64
            have hm0 : 0 < m := hgo.resolve_right hne
            rw [h64] at hpow
            omega
      clear hJ111
      refine withJ_i fun J35 hJ35 => ?_
      have k35t : cap = true → 9 < m % base → J35 true w1 := by
        intro hcap h9; subst hJ35
        refine condB_i (fun _ => ?_) (fun h => by cases h)
        have e5 : IntKind.u8.wrap (w64 ((w64 ((65 : Int) + ((m % base : Nat) : Int))) - (10 : Int))) = ((digC (m % base) cap).toNat : Int) := by
          rw [w64_of (n := (65 : Int) + ((m % base : Nat) : Int)) (by omega) (by omega), w64_of (by omega) (by omega)]
          unfold digC
          rw [if_neg (by omega), if_pos hcap, toNat_of (by omega)]
          simp [IntKind.wrap, IntKind.bits, IntKind.signed] <;> omega
        rw [e5]; exact k111
      have k35f : (m % base ≤ 9 ∨ cap = false) → J35 false w1 := by
        intro h; subst hJ35
        refine condB_i (fun h => by cases h) (fun _ => ?_)
        rcases h with h | h
        · rw [g1 h]; exact k111
        · rw [g2 h]; exact k111
      clear hJ35
      refine condB_d (fun h => ?_) (fun h => k35f (.inl (by omega)))
      cases hcap : cap with
      | true => exact k35t hcap (by omega)
      | false => exact k35f (.inr hcap)
    clear hJ11
    refine condB_d (fun h => ?_) (fun h => ?_)
    · refine k11 _ (fun h9 => by omega) (fun hcap => ?_)
      rw [w64_of (n := (97 : Int) + ((m % base : Nat) : Int)) (by omega) (by omega), w64_of (by omega) (by omega)]
      unfold digC
      rw [if_neg (by omega), if_neg (by rw [hcap]; decide), toNat_of (by omega)]
      simp [IntKind.wrap, IntKind.bits, IntKind.signed] <;> omega
    · have g : IntKind.u8.wrap (w64 ((48 : Int) + ((m % base : Nat) : Int))) = ((digC (m % base) cap).toNat : Int) := by
        rw [w64_of (by omega) (by omega)]
        unfold digC
        rw [if_pos (by omega), toNat_of (by omega)]
        simp [IntKind.wrap, IntKind.bits, IntKind.signed] <;> omega
      exact k11 _ (fun _ => g) (fun _ => g)
  have kF : m = 0 → ds ≠ [] → J18 false w1 := by
    intro hm0 hne; subst hJ18
    subst hm0
    rw [Nat.zero_mul, Nat.zero_add] at hval
    refine condB_i (fun h => by cases h) (fun _ => ?_)
    refine ⟨fun s9 k12 w7 t => ∃ (j : Nat) (es : List UInt8), k12 = j ∧ j ≤ k ∧ t = k - j ∧ s9 = mkB es ∧ w7 = w1 ∧ es ≠ [] ∧ es.all (okD base) = true ∧ val base es = n ∧ es.length ≤ 64 + j,
      ⟨_, 0, ds, rfl, Nat.zero_le _, rfl, rfl, rfl, hne, hall, hval.symm, hlen⟩, ?_⟩
    rintro s9 k12 w7 t ⟨j, es, rfl, hj, rfl, rfl, rfl, hne2, hall2, hval2, hlen2⟩
    refine condB_d (fun hlt => ?_) (fun hge => ?_)
    · have hap : (⟨#[48]⟩ : ByteArray) ++ mkB es = mkB (48 :: es) := bl_ext (by rw [bl_mkB, bl_append, bl_mkB]; rfl)
      obtain ⟨z1, z2⟩ := zero_ok (base := base) (by omega)
      rw [hap, hsz]
      refine ⟨by rw [show (⟨#[48]⟩ : ByteArray).size = 1 from rfl]; omega, _, by omega, j + 1, 48 :: es, by rw [w64_of] <;> omega, by omega, rfl, rfl, rfl, by simp, by rw [List.all_cons, z1, hall2]; rfl, by rw [val_cons, z2, Nat.zero_mul, Nat.zero_add, hval2], by rw [List.length_cons]; omega⟩
    · exact K (mkB es) w7 hc (by rw [bl_mkB]; exact hne2) (by rw [bl_mkB]; exact hall2) (by rw [bl_mkB]; exact hval2) (by rw [hsz]; omega)
  clear hJ18
  refine condB_d (fun h => kT (.inl (by omega))) (fun h => ?_)
  rw [beqS]
  by_cases hds : ds = []
  · rw [decide_eq_true (show mkB ds = ⟨#[]⟩ from by rw [hds]; rfl)]
    exact kT (.inr hds)
  · rw [decide_eq_false (show ¬ mkB ds = ⟨#[]⟩ from fun e => hds (by have := congrArg bl e; rw [bl_mkB] at this; exact this))]
    exact kF (by omega) hds
end
end Go.Proofs.YtdjehimkijlhgaaDoor
namespace Go.Proofs.YtdjehimkijlhgaaDoor
open Go Go.Vc Go.Lib
section
variable {w : World}
theorem ReferNumbers_ok {n k : Int} {cap : Bool} (T : Tabs w) (hn : InI n) (hk : InU8 k) (_ : cap = cap) :
    callJ Tryd.prog fn_law02_ReferNumbers #[.int .i64 n, .int .u8 k, .bool cap] w [.one .bool] fun r w' => r = true ∧ Chg No w w' := by
  refine c_law02_ReferNumbers ?_
  unfold VC_law02_ReferNumbers
  unfold InI at hn
  unfold InU8 at hk
  refine awake02_ok T fun w1 hc1 => ?_
  refine condB_i (fun h => by simp at h) fun _ => ?_
  refine condB_d (fun _ => ⟨rfl, hc1⟩) (fun h0 => ?_)
  obtain ⟨N, rfl⟩ : ∃ N : Nat, n = N := ⟨n.toNat, by omega⟩
  obtain ⟨K, rfl⟩ : ∃ K : Nat, k = K := ⟨k.toNat, by omega⟩
  rw [w64_nat (n := K) (by omega)]
  refine Digits_ok (base := 10) (by omega) (.inl rfl) (by omega) fun s w2 hc2 sne sall sval ssz => ?_
  have c02 := hc1.trans0 hc2
  refine ⟨by show ((2 + s.size : Nat) : Int) ≤ _; omega, ?_⟩
  have hsz1 : ((⟨#[38, 35]⟩ : ByteArray) ++ s ++ ⟨#[59]⟩).size = s.size + 3 := by
    rw [size_append, size_append]; show 2 + s.size + 1 = _; omega
  have hsz0 : ((⟨#[38, 35]⟩ : ByteArray) ++ s).size = s.size + 2 := by rw [size_append]; show 2 + s.size = _; omega
  refine ⟨by rw [hsz0]; show ((s.size + 2 + 1 : Nat) : Int) ≤ _; omega, ?_⟩
  refine Digits_ok (base := 16) (by omega) (.inr rfl) (by omega) fun t w3 hc3 tne tall tval tsz => ?_
  have c03 := c02.trans0 hc3
  refine ⟨by show ((3 + t.size : Nat) : Int) ≤ _; omega, ?_⟩
  have hsz3 : ((⟨#[38, 35, 120]⟩ : ByteArray) ++ t ++ ⟨#[59]⟩).size = t.size + 4 := by
    rw [size_append, size_append]; show 3 + t.size + 1 = _; omega
  have hsz2 : ((⟨#[38, 35, 120]⟩ : ByteArray) ++ t).size = t.size + 3 := by rw [size_append]; show 3 + t.size = _; omega
  refine ⟨by rw [hsz2]; show ((t.size + 3 + 1 : Nat) : Int) ≤ _; omega, ?_⟩
  refine ⟨by rw [hsz1]; show ((1 + (s.size + 3) : Nat) : Int) ≤ _; omega, ?_⟩
  have hsz5 : ((⟨#[120]⟩ : ByteArray) ++ ((⟨#[38, 35]⟩ : ByteArray) ++ s ++ ⟨#[59]⟩)).size = s.size + 4 := by
    rw [size_append, hsz1]; show 1 + (s.size + 3) = _; omega
  refine ⟨by rw [hsz5]; show ((s.size + 4 + 1 : Nat) : Int) ≤ _; omega, ?_⟩
  have hblA : bl ((⟨#[120]⟩ : ByteArray) ++ ((⟨#[38, 35]⟩ : ByteArray) ++ s ++ ⟨#[59]⟩) ++ ⟨#[121]⟩) = 120 :: 38 :: ((35 :: bl s) ++ 59 :: [121]) := by
    rw [bl_append, bl_append, bl_append, bl_append]; simp [bl]
  have hblB : bl ((⟨#[38, 35, 120]⟩ : ByteArray) ++ t ++ ⟨#[59]⟩) = 38 :: ((35 :: 120 :: bl t) ++ 59 :: []) := by
    rw [bl_append, bl_append]; simp [bl]
  have hszA : ((⟨#[120]⟩ : ByteArray) ++ ((⟨#[38, 35]⟩ : ByteArray) ++ s ++ ⟨#[59]⟩) ++ ⟨#[121]⟩).size = s.size + 5 := by
    rw [size_append, hsz5]; rfl
  refine cvBc fun b4 q4 w4 hB4 hle4 hc4 => ?_
  have c04 := c03.trans0 hc4
  rw [hblA] at hB4
  have hsl := bl_len s
  have htl := bl_len t
  refine Expand_ok hB4 hle4 (by omega) (fun hbad => ?_) fun i hi hil hb i5 w5 => ?_
  · exfalso
    rcases hbad with h | h | h
    · omega
    · omega
    · exact h rfl
  obtain rfl : i = 1 := by omega
  have hx : expL (List.drop (1 + 1) (120 :: 38 :: ((35 :: bl s) ++ 59 :: [121]))) = selL (s.size + 1) (if chr (N : Int) then (N, 0) else (0, 21)) := by
    show expL ((35 :: bl s) ++ 59 :: [121]) = _
    rw [expL_eq (by have := ok_semi sall; simp [this]), meant_ten sne sall, sval, List.length_cons, hsl]
  rw [hx]
  have c05 := c04.trans0 w5
  refine cvBc fun b6 q6 w6 hB6 hle6 hc6 => ?_
  have c06 := c05.trans0 hc6
  rw [hblB] at hB6
  refine Expand_ok hB6 hle6 (by omega) (fun hbad => ?_) fun i hi hil hb w7 hc7 => ?_
  · exfalso
    rcases hbad with h | h | h
    · omega
    · omega
    · exact h rfl
  obtain rfl : i = 0 := by omega
  have hy : expL (List.drop (0 + 1) (38 :: ((35 :: 120 :: bl t) ++ 59 :: []))) = selL (t.size + 2) (if chr (N : Int) then (N, 0) else (0, 21)) := by
    show expL ((35 :: 120 :: bl t) ++ 59 :: []) = _
    rw [expL_eq (by have := ok_semi tall; simp [this]), meant_hex tne tall, tval, List.length_cons, List.length_cons, htl]
  rw [hy]
  have c07 := c06.trans0 hc7
  refine withJ_i fun J55 hJ55 => ?_
  have k55 : ∀ (b : Bool) (w8 : World), b = (!chr (N : Int)) → Chg No w w8 → J55 b w8 := by
    intro b w8 hb c8; subst hJ55
    cases hch : chr (N : Int) with
    | false =>
      rw [hb, hch]
      refine condB_i (fun _ => ?_) (fun h => by cases h)
      refine withJ_i fun J6 hJ6 => ?_
      subst hJ6
      refine condB_i (fun _ => ?_) (fun h => by cases h)
      refine condB_i (fun _ => ?_) (fun h => by cases h)
      refine condB_i (fun _ => ?_) (fun h => by cases h)
      exact ⟨rfl, c8⟩
    | true =>
      have hN := chr_le hch
      rw [hb, hch]
      refine condB_i (fun h => by cases h) (fun _ => ?_)
      refine withJ_i fun J6 hJ6 => ?_
      subst hJ6
      simp only [if_true, selL, endI]
      refine condB_i (fun _ => ?_) (fun h => by cases h)
      refine condB_i (fun _ => ?_) (fun h => by cases h)
      rw [w64_nat (n := N) (by omega)]
      refine condB_i (fun _ => ?_) (fun h => by simp at h)
      refine condB_i (fun _ => ?_) (fun h => by simp at h)
      rw [hsz1, hsz3, w64_of (by omega) (by omega)]
      refine condB_eq (fun _ => ?_) (fun h => by omega)
      exact ⟨by rw [beq_iff_eq]; omega, c8⟩
  clear hJ55
  refine condB_d (fun h => k55 _ _ (by rw [chr_of_big (by omega)]; rfl) c07) (fun h => ?_)
  have ew : IntKind.i32.wrap (N : Int) = (N : Int) := wrap_i32 _ (by omega) (by omega)
  rw [ew]
  exact IsChar_ok fun w11 hc11 => k55 _ _ rfl (c07.trans0 hc11)
theorem ReferJoins_ok {a b : BV} (T : Tabs w) (ha : a.Ok w) (hb : b.Ok w) (hs : a.l + b.l ≤ 1048576) :
    callJ Tryd.prog fn_law02_ReferJoins #[.slice a.p a.l a.c, .slice b.p b.l b.c] w [.one .bool] fun r w' => r = true ∧ Chg No w w' := by
  refine c_law02_ReferJoins ?_
  unfold VC_law02_ReferJoins
  have la := ha.is.len
  have lb := hb.is.len
  refine awake02_ok T fun w1 hc1 => ?_
  refine condB_i (fun h => by simp at h) fun _ => ?_
  refine newRow (sz := 1) (n := 0) (cs := []) rfl (by decide) fun b2 w2 hr2 hb2 hc2 => ?_
  have c02 := hc1.trans0 hc2
  refine appG (w0 := w) (xs := []) hr2 (ha.is.chg c02 (off_no _)) ha.nil (by omega) (by rintro x ⟨⟩; have := hc1.size; simp only; omega) c02 fun p3 d3 w3 hr3 hf3 c03 => ?_
  rw [Nat.zero_add, List.nil_append] at hr3
  rw [Nat.zero_add]
  refine appG hr3 (hb.is.chg c03 (off_no _)) hb.nil (by omega) hf3 c03 fun p4 d4 w4 hr4 hf4 c04 => ?_
  refine ReadValue_ok (ha.is.chg c04 (off_no _)) ha.cap (by omega) (T.chg c04) fun w5 hc5 => ?_
  have c05 := c04.trans0 hc5
  refine ReadValue_ok (hb.is.chg c05 (off_no _)) hb.cap (by omega) (T.chg c05) fun w6 hc6 => ?_
  have c06 := c05.trans0 hc6
  have hr6 := (hr4.chg hc5 (off_no _)).chg hc6 (off_no _)
  refine ReadValue_ok hr6.bytes hr6.le.1 (by omega) (T.chg c06) fun w7 hc7 => ?_
  have c07 := c06.trans0 hc7
  have hr7 := hr6.chg hc7 (off_no _)
  have hapm : ∀ x y : List UInt8, mkB x ++ mkB y = mkB (x ++ y) := fun x y => bl_ext (by rw [bl_append, bl_mkB, bl_mkB, bl_mkB])
  have hszm : ∀ x : List UInt8, (mkB x).size = x.length := fun x => by rw [← bl_len, bl_mkB]
  -- what both read
  have key : ∀ v : Bool, (readL v 0 a.bs []).2.2 = 0 → (readL v 0 b.bs []).2.2 = 0 →
      readL v 0 (a.bs ++ b.bs) [] = ((readL v 0 a.bs []).1 ++ (readL v 0 b.bs []).1, 0, 0) ∨ (v = false ∧ ∃ k, readL v 0 (a.bs ++ b.bs) [] = ([], k, 23) ∧ k < a.bs.length ∧ a.bs.length - k ≤ 2 ∧ (a.bs ++ b.bs)[k]? = some 93) := by
    intro v h1 h2
    rcases read_join v b.bs _ a.bs (Nat.le_refl _) 0 [] h1 with h | ⟨hv, k, h3, h4⟩
    · left
      obtain ⟨body, pos, e, hsh⟩ := read_shift v _ b.bs (Nat.le_refl _)
      rw [hsh] at h2
      rw [h, hsh, hsh]
      by_cases he : e = 0
      · rw [if_pos he, if_pos he]; simp
      · rw [if_neg he] at h2; exact absurd h2 he
    · exact .inr ⟨hv, k, by rw [h3, Nat.zero_add], h4⟩
  have hlen : ∀ (v : Bool) (n : Nat) (y : List UInt8), y.length ≤ n → ∀ (i : Nat) (out : List UInt8), (readL v i y out).1.length ≤ out.length + y.length := by
    intro v n
    induction n with
    | zero =>
      intro y hy i out
      have : y = [] := List.eq_nil_of_length_eq_zero (by omega)
      subst this; rw [readL_nil]; simp
    | succ n ih =>
      intro y hy i out
      by_cases hy0 : y = []
      · subst hy0; rw [readL_nil]; simp
      by_cases hst : (stepL v y).2.2 = 0
      · have h1 := stepL_pos hst
        have h2 := stepL_out hst
        have h3 := (stepL_le (value := v) hy0).1
        rw [readL_step hy0 hst]
        have h4 := ih (y.drop (stepL v y).2.1) (by rw [List.length_drop]; have := List.length_pos_iff.2 hy0; omega) (i + (stepL v y).2.1) (out ++ (stepL v y).1)
        rw [List.length_append, List.length_drop] at h4
        omega
      · rw [readL_err hy0 hst]; simp
  have l1 := fun v => hlen v _ a.bs (Nat.le_refl _) 0 []
  have l2 := fun v => hlen v _ b.bs (Nat.le_refl _) 0 []
  simp only [List.length_nil, Nat.zero_add] at l1 l2
  refine withJ_i fun J60 hJ60 => ?_
  have k60 : J60 false w7 := by
    subst hJ60
    refine condB_i (fun h => by cases h) (fun _ => ?_)
    refine ReadText_ok (ha.is.chg c07 (off_no _)) ha.cap (by omega) (T.chg c07) fun w9 hc9 => ?_
    have c09 := c07.trans0 hc9
    refine ReadText_ok (hb.is.chg c09 (off_no _)) hb.cap (by omega) (T.chg c09) fun w10 hc10 => ?_
    have c010 := c09.trans0 hc10
    have hr10 := (hr7.chg hc9 (off_no _)).chg hc10 (off_no _)
    refine ReadText_ok hr10.bytes hr10.le.1 (by omega) (T.chg c010) fun w11 hc11 => ?_
    have c011 := c010.trans0 hc11
    have hr11 := hr10.chg hc11 (off_no _)
    refine withJ_i fun J84 hJ84 => ?_
    have k84 : ∀ x : Bool, (x = false → (readL false 0 a.bs []).2.2 = 0 ∧ (readL false 0 b.bs []).2.2 = 0) → J84 x w11 := by
      intro x hx; subst hJ84
      cases x with
      | true => exact ⟨rfl, c011⟩
      | false =>
        obtain ⟨e1, e2⟩ := hx rfl
        refine condB_i (fun h => by cases h) (fun _ => ?_)
        rcases key false e1 e2 with h | ⟨_, k, h, hk1, hk2, hk3⟩
        · rw [h]
          refine condB_i (fun h => by cases h) (fun _ => ?_)
          refine withJ_i fun J4 hJ4 => ?_
          subst hJ4
          refine condB_i (fun _ => ?_) (fun h => by cases h)
          have := l1 false
          have := l2 false
          refine ⟨by rw [hszm, hszm]; omega, ?_⟩
          rw [beqS, hapm]
          exact ⟨decide_eq_true rfl, c011⟩
        · rw [h]
          refine condB_i (fun _ => ?_) (fun h => by cases h)
          refine withJ_i fun J4 hJ4 => ?_
          subst hJ4
          refine condB_d (fun _ => ?_) (fun h => by simp only at h; omega)
          rw [w64_of (by simp only; omega) (by simp only; omega)]
          refine condB_d (fun _ => ?_) (fun h => by simp only at h; omega)
          refine byte_i hr11.bytes (by simp only; omega) (by simp only; omega) fun c hc => ?_
          simp only [Int.toNat_natCast] at hc
          rw [hk3] at hc
          obtain rfl := Option.some.inj hc
          exact ⟨rfl, c011⟩
    clear hJ84
    refine condB_ne (fun h => k84 _ (fun h => by cases h)) (fun h1 => ?_)
    refine k84 _ fun h2 => ⟨by omega, ?_⟩
    have : ((readL false 0 b.bs []).2.2 : Int) = 0 := by simpa using h2
    omega
  clear hJ60
  refine condB_eq (fun e1 => ?_) (fun _ => k60)
  refine condB_eq (fun e2 => ?_) (fun _ => k60)
  rcases key true (by omega) (by omega) with h | ⟨h, _⟩
  · rw [h]
    refine condB_i (fun h => by cases h) (fun _ => ?_)
    have := l1 true
    have := l2 true
    refine ⟨by rw [hszm, hszm]; omega, ?_⟩
    rw [beqS, hapm, decide_eq_true rfl]
    refine condB_i (fun h => by cases h) (fun _ => ?_)
    exact k60
  · cases h
theorem ReferPlain_ok {s : ByteArray} (T : Tabs w) (hq : InS s) (hs : s.size ≤ 1048576) :
    callJ Tryd.prog fn_law02_ReferPlain #[.string s] w [.one .bool] fun r w' => r = true ∧ Chg No w w' := by
  refine c_law02_ReferPlain ?_
  unfold VC_law02_ReferPlain
  have hsl := bl_len s
  refine awake02_ok T fun w1 hc1 => ?_
  refine condB_i (fun h => by simp at h) fun _ => ?_
  refine Text_ok (by omega) fun w2 hc2 => ?_
  have c02 := hc1.trans0 hc2
  refine Quote_ok (by omega) fun w3 hc3 => ?_
  have c03 := c02.trans0 hc3
  have hTl := subst_le (ps := txtP) (by decide) (bl s)
  have hQl := subst_le (ps := quoP) (by decide) (bl s)
  have hTs : (mkB (subst txtP (bl s))).size = (subst txtP (bl s)).length := by rw [← bl_len, bl_mkB]
  have hQs : (mkB (subst quoP (bl s))).size = (subst quoP (bl s)).length := by rw [← bl_len, bl_mkB]
  have idx : ∀ {x : List UInt8} {i : Nat} {K : Int → Prop}, i < x.length → (∀ b : UInt8, x[i]? = some b → K ((b.toNat : Nat) : Int)) → idxStr (mkB x) (i : Int) K := by
    intro x i K hi k
    refine idxStr_b (by omega) (by rw [← bl_len, bl_mkB]; omega) fun b hb => ?_
    rw [bl_mkB, Int.toNat_natCast] at hb
    exact k b hb
  refine ⟨fun i w' t => ∃ k : Nat, i = k ∧ k ≤ (subst txtP (bl s)).length ∧ t = (subst txtP (bl s)).length - k ∧ w' = w3, ⟨_, 0, rfl, Nat.zero_le _, rfl, rfl⟩, ?_⟩
  rintro i w4 t ⟨k, rfl, hk, rfl, rfl⟩
  rw [hTs]
  refine condB_d (fun hlt => ?_) (fun hge => ?_)
  · have hkl : k < (subst txtP (bl s)).length := by omega
    refine withJ_i fun J36 hJ36 => ?_
    have k36 : J36 false w4 := by
      subst hJ36
      refine condB_i (fun h => by cases h) (fun _ => ?_)
      exact ⟨_, by omega, k + 1, by rw [w64_of] <;> omega, by omega, rfl, rfl⟩
    clear hJ36
    have hfree := sub_free false (bl s)
    have ne : ∀ (b n : UInt8), b ≠ n → (((b.toNat : Nat) : Int) == ((n.toNat : Nat) : Int)) = false := fun b n h => by rw [eqI]; exact beq_eq_false_iff_ne.2 h
    refine idx hkl fun b hb => ?_
    have hf := hfree b (List.mem_of_getElem? hb)
    rw [show (60 : Int) = (((60 : UInt8).toNat : Nat) : Int) from rfl, ne b 60 hf.1]
    refine condB_i (fun h => by cases h) (fun _ => ?_)
    refine idx hkl fun b2 hb2 => ?_
    rw [hb] at hb2; obtain rfl := Option.some.inj hb2
    rw [show (62 : Int) = (((62 : UInt8).toNat : Nat) : Int) from rfl, ne b 62 (hf.2.2.2 rfl)]
    refine condB_i (fun h => by cases h) (fun _ => ?_)
    refine idx hkl fun b2 hb2 => ?_
    rw [hb] at hb2; obtain rfl := Option.some.inj hb2
    rw [show (13 : Int) = (((13 : UInt8).toNat : Nat) : Int) from rfl, ne b 13 hf.2.1]
    exact k36
  refine ⟨fun i w' t => ∃ k : Nat, i = k ∧ k ≤ (subst quoP (bl s)).length ∧ t = (subst quoP (bl s)).length - k ∧ w' = w4, ⟨_, 0, rfl, Nat.zero_le _, rfl, rfl⟩, ?_⟩
  rintro i w6 t ⟨k', rfl, hk', rfl, rfl⟩
  rw [hQs]
  refine condB_d (fun hlt => ?_) (fun hge => ?_)
  · have hkl : k' < (subst quoP (bl s)).length := by omega
    refine withJ_i fun J70 hJ70 => ?_
    have k70 : J70 false w6 := by
      subst hJ70
      refine condB_i (fun h => by cases h) (fun _ => ?_)
      exact ⟨_, by omega, k' + 1, by rw [w64_of] <;> omega, by omega, rfl, rfl⟩
    clear hJ70
    have hfree := sub_free true (bl s)
    have ne : ∀ (b n : UInt8), b ≠ n → (((b.toNat : Nat) : Int) == ((n.toNat : Nat) : Int)) = false := fun b n h => by rw [eqI]; exact beq_eq_false_iff_ne.2 h
    refine idx hkl fun b hb => ?_
    have hf := hfree b (List.mem_of_getElem? hb)
    rw [show (60 : Int) = (((60 : UInt8).toNat : Nat) : Int) from rfl, ne b 60 hf.1]
    refine condB_i (fun h => by cases h) (fun _ => ?_)
    refine idx hkl fun b2 hb2 => ?_
    rw [hb] at hb2; obtain rfl := Option.some.inj hb2
    rw [show (34 : Int) = (((34 : UInt8).toNat : Nat) : Int) from rfl, ne b 34 (hf.2.2.1 rfl).2.2]
    refine condB_i (fun h => by cases h) (fun _ => ?_)
    refine idx hkl fun b2 hb2 => ?_
    rw [hb] at hb2; obtain rfl := Option.some.inj hb2
    rw [show (9 : Int) = (((9 : UInt8).toNat : Nat) : Int) from rfl, ne b 9 (hf.2.2.1 rfl).1]
    refine condB_i (fun h => by cases h) (fun _ => ?_)
    refine idx hkl fun b2 hb2 => ?_
    rw [hb] at hb2; obtain rfl := Option.some.inj hb2
    rw [show (10 : Int) = (((10 : UInt8).toNat : Nat) : Int) from rfl, ne b 10 (hf.2.2.1 rfl).2.1]
    refine condB_i (fun h => by cases h) (fun _ => ?_)
    refine idx hkl fun b2 hb2 => ?_
    rw [hb] at hb2; obtain rfl := Option.some.inj hb2
    rw [show (13 : Int) = (((13 : UInt8).toNat : Nat) : Int) from rfl, ne b 13 hf.2.1]
    exact k70
  refine ⟨fun odd i w' t => ∃ k : Nat, i = k ∧ k ≤ (bl s).length ∧ t = (bl s).length - k ∧ w' = w6 ∧ odd = ((bl s).take k).any oddB, ⟨_, 0, rfl, Nat.zero_le _, rfl, rfl, rfl⟩, ?_⟩
  rintro odd i w8 t ⟨j, rfl, hj, rfl, rfl, hodd⟩
  refine condB_d (fun hlt => ?_) (fun hge => ?_)
  · refine withJ_i fun J5 hJ5 => ?_
    have hb := List.getElem?_eq_getElem (l := bl s) (i := j) (by omega)
    generalize (bl s)[j]'(by omega) = b at hb
    have hany := any_take oddB hb
    rw [← hodd] at hany
    have k5 : ∀ x : Bool, x = (odd || oddB b) → J5 x w8 := by
      intro x hx; subst hJ5
      exact ⟨_, by omega, j + 1, by rw [w64_of] <;> omega, by omega, rfl, rfl, by rw [hany]; exact hx⟩
    clear hJ5
    have ix : ∀ {K : Int → Prop}, K ((b.toNat : Nat) : Int) → idxStr s (j : Int) K := by
      intro K k
      refine idxStr_b (by omega) hlt fun b2 hb2 => ?_
      rw [Int.toNat_natCast, hb] at hb2
      obtain rfl := Option.some.inj hb2
      exact k
    refine condB_i (fun h => k5 _ (by rw [h]; rfl)) (fun ho => ?_)
    rw [ho, Bool.false_or] at k5
    unfold oddB at k5
    refine ix ?_
    rw [show (60 : Int) = (((60 : UInt8).toNat : Nat) : Int) from rfl, eqI]
    refine condB_i (fun h => k5 _ (by rw [h]; rfl)) (fun h1 => ?_)
    refine ix ?_
    rw [show (62 : Int) = (((62 : UInt8).toNat : Nat) : Int) from rfl, eqI]
    refine condB_i (fun h => k5 _ (by rw [h]; simp)) (fun h2 => ?_)
    refine ix ?_
    rw [show (38 : Int) = (((38 : UInt8).toNat : Nat) : Int) from rfl, eqI]
    refine condB_i (fun h => k5 _ (by rw [h]; simp)) (fun h3 => ?_)
    refine ix ?_
    rw [show (34 : Int) = (((34 : UInt8).toNat : Nat) : Int) from rfl, eqI]
    refine condB_i (fun h => k5 _ (by rw [h]; simp)) (fun h4 => ?_)
    refine ix ?_
    refine k5 _ ?_
    rw [h1, h2, h3, h4]
    simp only [Bool.false_or]
    exact decide_eq_decide.2 (by omega)
  · rw [List.take_of_length_le (by omega)] at hodd
    refine withJ_i fun J2 hJ2 => ?_
    subst hJ2
    refine condB_i (fun _ => ⟨rfl, c03⟩) (fun ho => ?_)
    have hall : ∀ b ∈ bl s, b ≠ 60 ∧ b ≠ 62 ∧ b ≠ 38 ∧ b ≠ 34 ∧ 32 ≤ b.toNat := by
      intro b hb
      refine oddB_false ?_
      rw [hodd, List.any_eq_false] at ho
      simpa using ho b hb
    have e1 : subst txtP (bl s) = bl s := sub_self false hall
    have e2 : subst quoP (bl s) = bl s := sub_self true hall
    rw [e1, e2, mkB_bl, beqS, decide_eq_true rfl]
    refine condB_i (fun _ => ?_) (fun h => by cases h)
    exact ⟨rfl, c03⟩
end
end Go.Proofs.YtdjehimkijlhgaaDoor

