/-
  (*strings.Replacer).Replace of a new Replacer: what the table says.
-/
import Derived.Test.YtdjehimkijlhgaaDoorRepl
import Derived.Lib.Bytealg
import Derived.Test.YtdjehimkijlhgaaDoorByt
import Derived.Test.YtdjehimkijlhgaaDoorVRefer
set_option linter.unusedVariables false
set_option linter.unusedSimpArgs false
namespace Go.Vc
open Go Go.Lib
/-- Each byte, or what stands for it. -/
def subst (ps : List BP) (s : List UInt8) : List UInt8 := s.flatMap fun b => (lookT ps b).getD [b]
end Go.Vc
namespace Go.Proofs.YtdjehimkijlhgaaDoor
open Go Go.Vc Go.Lib
section
variable {w : World}
theorem buildOnce_ok {ps : List BP} {b bq q : Nat} {rest : List Value} {rb0 rb1 rb2 rb3 : Value} {J : World → Prop} {w0 : World}
    (H : Hp w0 No w [⟨b, [rb0, rb1, rb2, rb3, .slice (some ⟨bq, 0, none⟩) (2 * ps.length) q], T_strings_Replacer⟩, ⟨bq, strs (olds ps) ++ rest, T_string⟩]) (F : Fit (strs (olds ps)) rest (2 * ps.length) q 1)
    (h2 : 2 ≤ ps.length) (hm : ps.length ≤ 100) (h1 : ∀ p, ps[0]? = some p → p.2.length ≠ 1) (hs : ∀ p ∈ ps, p.2.length ≤ 100)
    (K : ∀ bB bt C ks rt tc w', Hp w0 No w' [⟨b, [rb0, rb1, rb2, .iface T_ptr_strings_byteStringReplacer (.pointer (some ⟨bB, 0, none⟩)), .slice none 0 0], T_strings_Replacer⟩, ⟨bB, C ++ [.slice (some ⟨bt, 0, none⟩) ks.length tc], T_strings_byteStringReplacer⟩, ⟨bt, strs (singles ks) ++ rt, T_string⟩] → Fit (strs (singles ks)) rt ks.length tc 1 → Table w' ps C ks → J w') :
    callJ Tryd.prog fn_strings_Replacer_buildOnce #[.pointer (some ⟨b, 0, none⟩)] w [] J := by
  refine c_strings_Replacer_buildOnce ?_
  unfold VC_strings_Replacer_buildOnce
  refine build_ok H F h2 hm h1 hs fun bB bt C ks rt tc w1 H1 F1 T1 => ?_
  simp only [nonNil, condT, Value.oneCell', Addr.add_mk, Nat.zero_add]
  refine H1.stV 2 rfl (off := 3) (by simp) fun w2 H2 hc2 => ?_
  refine H2.stV 2 rfl (off := 4) (by simp) fun w3 H3 hc3 => ?_
  have t1 : ∀ x, x = b → typ w1 x ≠ some 5 := by
    rintro x rfl h
    rw [typ_of (H1.get 2 rfl)] at h
    exact absurd h (by decide)
  have t2 : ∀ x, x = b → typ w2 x ≠ some 5 := by
    rintro x rfl h
    rw [typ_of (H2.get 2 rfl)] at h
    exact absurd h (by decide)
  refine K bB bt C ks rt tc w3 ?_ F1 ((T1.chg hc2 t1).chg hc3 t2)
  refine Hp.perm (H3.sub (Γ' := [⟨bB, C ++ [.slice (some ⟨bt, 0, none⟩) ks.length tc], T_strings_byteStringReplacer⟩, ⟨bt, strs (singles ks) ++ rt, T_string⟩, ⟨b, [rb0, rb1, rb2, .iface T_ptr_strings_byteStringReplacer (.pointer (some ⟨bB, 0, none⟩)), .slice none 0 0], T_strings_Replacer⟩]) ?_) ?_
  · exact .cons_cons _ (.cons_cons _ (.cons_cons _ (.cons _ (.refl _))))
  · exact (List.Perm.cons _ (List.Perm.swap _ _ _)).trans (List.Perm.swap _ _ _)
end
end Go.Proofs.YtdjehimkijlhgaaDoor

/-
  How long the text with the references is; strings.Count of one byte.
-/

set_option linter.unusedVariables false
set_option linter.unusedSimpArgs false
namespace Go.Vc
open Go Go.Lib
def dI (ps : List BP) (b : UInt8) : Int := match lookT ps b with | some r => (r.length : Int) - 1 | none => 0
def gain (ps : List BP) (l : List UInt8) : Int := (l.map (dI ps)).sum
theorem subst_cons (ps : List BP) (b : UInt8) (l : List UInt8) : subst ps (b :: l) = (lookT ps b).getD [b] ++ subst ps l := by simp [subst]
theorem subst_len (ps : List BP) : ∀ l : List UInt8, ((subst ps l).length : Int) = l.length + gain ps l
  | [] => by simp [subst, gain]
  | b :: l => by
    rw [subst_cons, List.length_append]
    have ih := subst_len ps l
    have e : gain ps (b :: l) = dI ps b + gain ps l := by simp [gain]
    rw [e]
    unfold dI
    cases h : lookT ps b with
    | none => simp; omega
    | some r => simp; omega
theorem subst_none (ps : List BP) : ∀ {l : List UInt8}, (∀ b ∈ l, lookT ps b = none) → subst ps l = l
  | [], _ => rfl
  | b :: l, h => by
    rw [subst_cons, h b (by simp), subst_none ps fun c hc => h c (by simp [hc])]; rfl
def gainK (ps : List BP) (ks l : List UInt8) : Int := (ks.map fun k => (l.count k : Int) * dI ps k).sum
theorem gainK_nil (ps : List BP) (ks : List UInt8) : gainK ps ks [] = 0 := by
  unfold gainK
  induction ks with
  | nil => rfl
  | cons k ks ih => rw [List.map_cons, List.sum_cons, ih]; simp
theorem gainK_cons {ps : List BP} {b : UInt8} {l : List UInt8} : ∀ {ks : List UInt8}, ks.Nodup → gainK ps ks (b :: l) = gainK ps ks l + if b ∈ ks then dI ps b else 0
  | [], _ => by simp [gainK]
  | k :: ks, h => by
    have hn := List.nodup_cons.1 h
    have ih := gainK_cons (ps := ps) (b := b) (l := l) hn.2
    have e : ∀ x, gainK ps (k :: ks) x = (x.count k : Int) * dI ps k + gainK ps ks x := fun x => by simp [gainK]
    rw [e, e, ih]
    by_cases hb : b = k
    · subst hb
      rw [List.count_cons_self, if_neg hn.1, if_pos (by simp)]
      have : ((l.count b + 1 : Nat) : Int) * dI ps b = (l.count b : Int) * dI ps b + dI ps b := by
        rw [Int.natCast_add, Int.add_mul]; simp
      omega
    · rw [List.count_cons_of_ne hb]
      have : (if b ∈ k :: ks then dI ps b else 0) = if b ∈ ks then dI ps b else 0 := by
        by_cases hm : b ∈ ks
        · rw [if_pos hm, if_pos (List.mem_cons_of_mem _ hm)]
        · rw [if_neg hm, if_neg (fun h => (List.mem_cons.1 h).elim hb hm)]
      rw [this]
      omega
theorem gainK_gain {ps : List BP} {ks : List UInt8} (hd : ks.Nodup) (hk : ∀ c, c ∈ ks ↔ lookT ps c ≠ none) : ∀ l, gainK ps ks l = gain ps l
  | [] => by rw [gainK_nil]; rfl
  | b :: l => by
    rw [gainK_cons hd, gainK_gain hd hk l]
    have e : gain ps (b :: l) = dI ps b + gain ps l := by simp [gain]
    rw [e]
    by_cases h : b ∈ ks
    · rw [if_pos h]; omega
    · rw [if_neg h]
      have : lookT ps b = none := by
        apply Classical.byContradiction
        intro hn; exact h ((hk b).2 hn)
      have e0 : dI ps b = 0 := by unfold dI; rw [this]
      rw [e0]; omega
end Go.Vc
namespace Go.Proofs.YtdjehimkijlhgaaDoor
open Go Go.Vc Go.Lib
section
variable {w : World}
theorem Count1_ok {s : ByteArray} {k : UInt8} {J : Int → World → Prop} (K : J ((bl s).count k : Nat) w) : callJ Tryd.prog fn_strings_Count #[.string s, .string (mkB [k])] w [.one (.int .i64)] J := by
  refine c_strings_Count ?_
  unfold VC_strings_Count
  rw [single_size]
  refine condB_i (fun h => absurd h (by decide)) fun _ => ?_
  refine condB_i (fun _ => ?_) (fun h => absurd h (by decide))
  refine ⟨k, by decide, rfl, ?_⟩
  refine ⟨_, _, ?_, _, rfl, K⟩
  rw [run_callFunc_extern (fn := Tryd.prog.funcs[fn_internal_bytealg_CountString]!) (by kernel_rfl) (by kernel_rfl) (by kernel_rfl) (by kernel_rfl) (e := Extern.BytealgCount.count) (by kernel_rfl), Lib.run_countString]
  have e : Lib.countByte s.data.toList ((k.toNat : Int)).toNat.toUInt8 = (bl s).count k := by
    unfold Lib.countByte
    rw [Int.toNat_natCast, show k.toNat.toUInt8 = k from UInt8.ofNat_toNat]
  rw [e]; rfl
end
end Go.Proofs.YtdjehimkijlhgaaDoor

/-
  (*strings.byteStringReplacer).Replace: each byte, or what stands for it.
-/

set_option linter.unusedVariables false
set_option linter.unusedSimpArgs false
namespace Go.Vc
open Go Go.Lib
theorem subst_append (ps : List BP) (a b : List UInt8) : subst ps (a ++ b) = subst ps a ++ subst ps b := by simp [subst]
theorem subst_le {ps : List BP} (h : ∀ p ∈ ps, p.2.length ≤ 100) : ∀ l : List UInt8, (subst ps l).length ≤ 100 * l.length
  | [] => by simp [subst]
  | b :: l => by
    rw [subst_cons, List.length_append]
    have ih := subst_le h l
    have : ((lookT ps b).getD [b]).length ≤ 100 := by
      cases hl : lookT ps b with
      | none => simp
      | some r =>
        unfold lookT at hl
        obtain ⟨p, hp, rfl⟩ := Option.map_eq_some_iff.1 hl
        exact h p (List.mem_of_find?_eq_some hp)
    rw [List.length_cons]; omega
theorem subst_take {ps : List BP} {l : List UInt8} {i : Nat} {b : UInt8} (h : l[i]? = some b) : subst ps (l.take (i + 1)) = subst ps (l.take i) ++ (lookT ps b).getD [b] := by
  obtain ⟨g1, g2⟩ := List.getElem?_eq_some_iff.1 h
  rw [List.take_succ_eq_append_getElem g1, g2, subst_append]
  simp [subst]
theorem subst_take_le (ps : List BP) (l : List UInt8) (i : Nat) : (subst ps (l.take i)).length ≤ (subst ps l).length := by
  conv => rhs; rw [← List.take_append_drop i l, subst_append, List.length_append]
  omega
theorem gain_take {ps : List BP} {l : List UInt8} {i : Nat} {b : UInt8} (h : l[i]? = some b) : gain ps (l.take (i + 1)) = gain ps (l.take i) + dI ps b := by
  obtain ⟨g1, g2⟩ := List.getElem?_eq_some_iff.1 h
  rw [List.take_succ_eq_append_getElem g1, g2]
  simp [gain]
theorem dI_le {ps : List BP} (h : ∀ p ∈ ps, p.2.length ≤ 100) (h1 : ∀ p ∈ ps, 1 ≤ p.2.length) (b : UInt8) : 0 ≤ dI ps b ∧ dI ps b ≤ 100 := by
  unfold dI
  cases hl : lookT ps b with
  | none => simp
  | some r =>
    unfold lookT at hl
    obtain ⟨p, hp, rfl⟩ := Option.map_eq_some_iff.1 hl
    have := h p (List.mem_of_find?_eq_some hp)
    have := h1 p (List.mem_of_find?_eq_some hp)
    simp only; omega
theorem gain_le {ps : List BP} (h : ∀ p ∈ ps, p.2.length ≤ 100) (h1 : ∀ p ∈ ps, 1 ≤ p.2.length) : ∀ l : List UInt8, 0 ≤ gain ps l ∧ gain ps l ≤ 100 * l.length
  | [] => by simp [gain]
  | b :: l => by
    have e : gain ps (b :: l) = dI ps b + gain ps l := by simp [gain]
    have ih := gain_le h h1 l
    have hd := dI_le h h1 b
    rw [e, List.length_cons]; omega
theorem gainK_take {ps : List BP} {ks l : List UInt8} {i : Nat} {b : UInt8} (h : ks[i]? = some b) : gainK ps (ks.take (i + 1)) l = gainK ps (ks.take i) l + (l.count b : Int) * dI ps b := by
  obtain ⟨g1, g2⟩ := List.getElem?_eq_some_iff.1 h
  rw [List.take_succ_eq_append_getElem g1, g2]
  simp [gainK]
theorem gainK_le {ps : List BP} (h : ∀ p ∈ ps, p.2.length ≤ 100) (h1 : ∀ p ∈ ps, 1 ≤ p.2.length) {l : List UInt8} (hl : l.length ≤ 10000000) : ∀ ks : List UInt8, 0 ≤ gainK ps ks l ∧ gainK ps ks l ≤ 1000000000 * ks.length
  | [] => by simp [gainK]
  | k :: ks => by
    have e : gainK ps (k :: ks) l = (l.count k : Int) * dI ps k + gainK ps ks l := by simp [gainK]
    have ih := gainK_le h h1 hl ks
    obtain ⟨d0, d1⟩ := dI_le h h1 k
    have hc := List.count_le_length (a := k) (l := l)
    have a1 : 0 ≤ (l.count k : Int) * dI ps k := Int.mul_nonneg (by omega) d0
    have a2 : (l.count k : Int) * dI ps k ≤ (10000000 : Int) * 100 := Int.mul_le_mul (by omega) d1 d0 (by omega)
    rw [e, List.length_cons]; omega
end Go.Vc
namespace Go.Proofs.YtdjehimkijlhgaaDoor
open Go Go.Vc Go.Lib
section
variable {w : World}
def Sb (bB bt : Nat) : Nat → Prop := fun x => x = bB ∨ x = bt
theorem BSR_ok {ps : List BP} {bB bt tc : Nat} {C rt : List Value} {ks : List UInt8} {s : ByteArray} {J : ByteArray → World → Prop}
    (H : Hp w (Sb bB bt) w [⟨bB, C ++ [.slice (some ⟨bt, 0, none⟩) ks.length tc], T_strings_byteStringReplacer⟩, ⟨bt, strs (singles ks) ++ rt, T_string⟩]) (F : Fit (strs (singles ks)) rt ks.length tc 1) (Tb : Table w ps C ks)
    (hv : ∀ p ∈ ps, p.2.length ≤ 100) (hv1 : ∀ p ∈ ps, 1 ≤ p.2.length) (hm : ps.length ≤ 100) (hs : s.size ≤ 10000000) (K : ∀ w', Chg (Sb bB bt) w w' → J (mkB (subst ps (bl s))) w') :
    callJ Tryd.prog fn_strings_byteStringReplacer_Replace #[.pointer (some ⟨bB, 0, none⟩), .string s] w [.one .str] J := by
  refine c_strings_byteStringReplacer_Replace ?_
  unfold VC_strings_byteStringReplacer_Replace
  have hsl := bl_len s
  have hn := subst_le hv (bl s)
  have hCl := Tb.len
  have hget : ∀ c : UInt8, (C ++ [Value.slice (some ⟨bt, 0, none⟩) ks.length tc])[c.toNat]? = some (C[c.toNat]'(by have := c.toNat_lt; omega)) := fun c => by
    have := c.toNat_lt
    rw [List.getElem?_append_left (by omega), List.getElem?_eq_getElem]
  have hC : ∀ c : UInt8, C[c.toNat]? = some (C[c.toNat]'(by have := c.toNat_lt; omega)) := fun c => List.getElem?_eq_getElem _
  have hT : ∀ x, Sb bB bt x → typ w x ≠ some 5 := by
    rintro x (rfl | rfl) h
    · rw [typ_of (H.get 0 rfl)] at h
      exact absurd h (by decide)
    · rw [typ_of (H.get 1 rfl)] at h
      exact absurd h (by decide)
  -- what stands in the table for a byte
  have ld : ∀ (Γ : List Blk) (i : Nat) (w' : World) (c : UInt8) (J' : Option Addr → Nat → Nat → Prop), Hp w (Sb bB bt) w' Γ → Γ[i]? = some ⟨bB, C ++ [.slice (some ⟨bt, 0, none⟩) ks.length tc], T_strings_byteStringReplacer⟩ →
      (lookT ps c = none → J' none 0 0) → (∀ bs a cc, lookT ps c = some bs → Bytes w' (some a) bs.length bs → J' (some a) bs.length cc) →
      nonNil (some (⟨bB, 0, none⟩ : Addr)) fun a => idxA (some a) 256 ((c.toNat : Nat) : Int) fun a' => ldS w' (a'.add (((c.toNat : Nat) : Int).toNat * 1)) J' := by
    intro Γ i w' c J' H' hi k1 k2
    have hc := c.toNat_lt
    refine ⟨by omega, by omega, ?_⟩
    simp only [nonNil, Addr.add_mk, Int.toNat_natCast]
    have T' := Tb.chg H'.chg hT
    have hcell := T'.cell c _ (hC c)
    have hg := hget c
    cases hl : lookT ps c with
    | none =>
      rw [hl] at hcell
      rw [show C[c.toNat]'(by omega) = .slice none 0 0 from hcell] at hg
      exact H'.ldS i hi (off := 0 + c.toNat * 1) (by rw [Nat.zero_add, Nat.mul_one]; exact hg) (k1 hl)
    | some bs =>
      rw [hl] at hcell
      obtain ⟨a, l, cc, h1, h2, h3, _⟩ := hcell
      subst h3
      rw [h1] at hg
      exact H'.ldS i hi (off := 0 + c.toNat * 1) (by rw [Nat.zero_add, Nat.mul_one]; exact hg) (k2 bs a cc hl h2)
  refine withJ_i fun J5 hJ5 => ?_
  have k5 : ∀ any w1, Chg No w w1 → (any = true ↔ ∃ b ∈ bl s, lookT ps b ≠ none) → J5 (((subst ps (bl s)).length : Nat) : Int) any w1 := by
    intro any w1 hc1 hany; subst hJ5
    refine condB_not (fun hf => ?_) (fun ht => ?_)
    · have e : subst ps (bl s) = bl s := subst_none ps fun b hb => by
        apply Classical.byContradiction
        intro hne
        rw [hany.2 ⟨b, hb, hne⟩] at hf; cases hf
      rw [e, mkB_bl] at K
      exact K w1 (hc1.mono fun _ _ h => h.elim)
    · generalize hN : (subst ps (bl s)).length = n at hn ⊢
      have H1 := H.step0 hc1
      refine H1.mkS (by rw [zeroC_u8]; rfl) (by omega) (by omega) (by omega) (by omega) fun b85 w2 H2 hb85 hc2 => ?_
      have ez : (List.replicate (n : Int).toNat (zeroC Tryd.prog T_uint8).toList).flatten = bcells (List.replicate n 0) := by
        rw [zeroC_u8, Int.toNat_natCast]
        simp [bcells]
      rw [ez] at H2
      refine ⟨fun j i w' t => ∃ (k : Nat) (pad : List UInt8), i = k ∧ k ≤ s.size ∧ t = s.size - k ∧ j = ((subst ps ((bl s).take k)).length : Nat) ∧ (subst ps ((bl s).take k) ++ pad).length = n ∧ Hp w (Sb bB bt) w' [⟨b85, bcells (subst ps ((bl s).take k) ++ pad), T_uint8⟩, ⟨bB, C ++ [.slice (some ⟨bt, 0, none⟩) ks.length tc], T_strings_byteStringReplacer⟩, ⟨bt, strs (singles ks) ++ rt, T_string⟩],
        ⟨_, 0, List.replicate n 0, rfl, Nat.zero_le _, rfl, rfl, by simp [subst], by rw [show subst ps ((bl s).take 0) ++ List.replicate n 0 = List.replicate n 0 from rfl]; exact H2⟩, ?_⟩
      rintro j i w3 t ⟨k, pad, rfl, hk, ht', rfl, hpl, H3⟩
      refine condB_d (fun hlt => ?_) (fun hge => ?_)
      · have hb := List.getElem?_eq_getElem (l := bl s) (i := k) (by omega)
        generalize hbb : (bl s)[k]'(by omega) = b at hb
        have htk := subst_take (ps := ps) hb
        have hle := subst_take_le ps (bl s) (k + 1)
        rw [hN, htk, List.length_append] at hle
        rw [List.length_append] at hpl
        generalize hO : subst ps ((bl s).take k) = out at htk hle hpl H3 ⊢
        refine withJ_i fun J13 hJ13 => ?_
        have k13 : ∀ j' pad' w4, j' = (((out ++ (lookT ps b).getD [b]).length : Nat) : Int) → (out ++ (lookT ps b).getD [b] ++ pad').length = n → Hp w (Sb bB bt) w4 [⟨b85, bcells (out ++ (lookT ps b).getD [b] ++ pad'), T_uint8⟩, ⟨bB, C ++ [.slice (some ⟨bt, 0, none⟩) ks.length tc], T_strings_byteStringReplacer⟩, ⟨bt, strs (singles ks) ++ rt, T_string⟩] → J13 j' w4 := by
          intro j' pad' w4 g1 g2 g3; subst hJ13
          exact ⟨_, by omega, k + 1, pad', by rw [w64_of] <;> omega, by omega, rfl, by rw [htk]; exact g1, by rw [htk]; exact g2, by rw [htk]; exact g3⟩
        clear hJ13
        refine idxStr_b (by omega) hlt fun b' hb' => ?_
        rw [Int.toNat_natCast, hb] at hb'
        obtain rfl := Option.some.inj hb'
        refine ld _ 1 w3 b _ H3 rfl (fun hl => ?_) (fun bs a cc hl hbs => ?_)
        · refine condB_i (fun h => by cases h) (fun _ => ?_)
          rw [hl] at k13 hle
          simp only [Option.getD_none, List.length_singleton] at k13 hle
          obtain ⟨p0, pad', rfl⟩ : ∃ p0 pad', pad = p0 :: pad' := by
            cases pad with
            | nil => simp at hpl; omega
            | cons p0 pad' => exact ⟨p0, pad', rfl⟩
          refine ⟨by omega, by simp only [Int.toNat_natCast]; omega, ?_⟩
          simp only [nonNil, Addr.add_mk, Int.toNat_natCast]
          refine H3.stV 0 rfl (off := 0 + out.length * 1) (by rw [bcells_length]; simp) fun w6 H6 _ => ?_
          have eset : (bcells (out ++ p0 :: pad')).set (0 + out.length * 1) (.int .u8 ((b.toNat : Nat) : Int)) = bcells (out ++ [b] ++ pad') := by
            rw [Nat.zero_add, Nat.mul_one]
            unfold bcells
            rw [List.map_append, List.set_append_right _ _ (by simp)]
            simp
          simp only [List.set_cons_zero] at H6
          rw [eset] at H6
          refine k13 _ pad' w6 ?_ ?_ H6
          · rw [w64_of] <;> first | omega | (simp; omega) | simp
          · simp at hpl ⊢; omega
        · refine condB_i (fun _ => ?_) (fun h => by cases h)
          rw [hl] at k13 hle
          simp only [Option.getD_some] at k13 hle
          have hb1 : 1 ≤ bs.length := by
            unfold lookT at hl
            obtain ⟨p, hp, rfl⟩ := Option.map_eq_some_iff.1 hl
            exact hv1 p (List.mem_of_find?_eq_some hp)
          refine ⟨out.length, n, n, rfl, rfl, rfl, by omega, Nat.le_refl _, Nat.le_refl _, ?_⟩
          rw [if_neg (by omega)]
          have H3d := H3.drew
          refine ld _ 1 w3.drew b _ H3d rfl (fun hl' => by rw [hl] at hl'; cases hl') (fun bs' a' cc' hl' hbs' => ?_)
          rw [hl] at hl'
          obtain rfl := Option.some.inj hl'
          simp only [Option.map_some, Addr.add_mk]
          refine Hp.cpy (b := b85) (cs := bcells (out ++ pad)) (e := T_uint8) H3d 0 rfl slT_u8 (off := 0 + out.length * 1) (l := n - out.length) (m := bs.length) (vs := bcells bs) hbs' (by rintro ⟨⟩) (one1_bcells _) (by rw [bcells_length, List.length_append]; omega) fun w5 H5 _ => ?_
          have hmin : min bs.length (n - out.length) = bs.length := by omega
          rw [hmin] at H5 ⊢
          have esp : splice (bcells (out ++ pad)) (0 + out.length * 1) ((bcells bs).take bs.length) = bcells (out ++ bs ++ pad.drop bs.length) := by
            rw [Nat.zero_add, Nat.mul_one, List.take_of_length_le (by rw [bcells_length]; omega)]
            unfold splice bcells
            simp [List.drop_append]
          simp only [List.set_cons_zero] at H5
          rw [esp] at H5
          refine k13 _ (pad.drop bs.length) w5 ?_ ?_ H5
          · rw [w64_of] <;> first | omega | (simp; omega) | simp
          · simp; omega
      · have hks : k = s.size := by omega
        rw [List.take_of_length_le (by omega)] at hpl H3
        have hpad : pad = [] := by
          rw [List.length_append, hN] at hpl
          exact List.eq_nil_of_length_eq_zero (by omega)
        subst hpad
        rw [List.append_nil] at H3
        have hrow := H3.asRow 0 rfl (sz := 1) (l := n) (c := n) (xs := bcells (subst ps (bl s))) (rest := []) (by simp) (by rw [bcells_length, hN]; omega) (Nat.le_refl _) (by simp only [maxLen]; omega) (by rw [bcells_length, hN]; omega)
        refine bytesOf_i hrow.bytes ?_
        exact K w3 H3.chg
  clear hJ5
  have h256 : (C ++ [Value.slice (some ⟨bt, 0, none⟩) ks.length tc])[256]? = some (.slice (some ⟨bt, 0, none⟩) ks.length tc) := by
    rw [List.getElem?_append_right (by rw [Tb.len]; omega), Tb.len]; rfl
  have hkl := Tb.le
  simp only [nonNil, Addr.add_mk, Nat.zero_add]
  refine H.ldS 0 rfl (off := 256) h256 ?_
  have hlen := subst_len ps (bl s)
  refine condB_d (fun _ => ?_) (fun _ => ?_)
  · refine H.ldS 0 rfl (off := 256) h256 ?_
    refine ⟨fun ns any x w' t => ∃ i : Nat, x = i ∧ i ≤ ks.length ∧ t = ks.length - i ∧ Chg No w w' ∧ ns = (s.size : Int) + gainK ps (ks.take i) (bl s) ∧ (any = true ↔ ∃ k ∈ ks.take i, k ∈ bl s), ⟨_, 0, rfl, Nat.zero_le _, rfl, Chg.refl _ _, by simp [gainK], by simp⟩, ?_⟩
    rintro ns any x w7 t ⟨i, rfl, hi, ht, hc7, rfl, hany⟩
    have H7 := H.step0 hc7
    refine condB_d (fun hlt => ?_) (fun hge => ?_)
    · refine withJ_i fun J51 hJ51 => ?_
      have hk := List.getElem?_eq_getElem (l := ks) (i := i) (by omega)
      generalize hkk : ks[i]'(by omega) = k at hk
      have hgt := gainK_take (ps := ps) (l := bl s) hk
      have hgl := gainK_le hv hv1 (l := bl s) (by omega) (ks.take (i + 1))
      have hgl0 := gainK_le hv hv1 (l := bl s) (by omega) (ks.take i)
      have htl : (ks.take (i + 1)).length ≤ 100 := by rw [List.length_take]; omega
      have htl0 : (ks.take i).length ≤ 100 := by rw [List.length_take]; omega
      have hmem : ∀ c, c ∈ ks.take (i + 1) ↔ c ∈ ks.take i ∨ c = k := by
        intro c
        obtain ⟨g1, g2⟩ := List.getElem?_eq_some_iff.1 hk
        rw [List.take_succ_eq_append_getElem g1, g2]; simp
      have k51 : ∀ ns' any' w8, ns' = (s.size : Int) + gainK ps (ks.take (i + 1)) (bl s) → (any' = true ↔ ∃ k ∈ ks.take (i + 1), k ∈ bl s) → Chg No w7 w8 → J51 ns' any' w8 := by
        intro ns' any' w8 g1 g2 g3; subst hJ51
        exact ⟨_, by omega, i + 1, by rw [w64_of] <;> omega, by omega, rfl, hc7.trans0 g3, g1, g2⟩
      clear hJ51
      refine str_i (H7.slAt 1 rfl F) (by omega) hlt fun x35 hx => ?_
      rw [Int.toNat_natCast] at hx
      unfold singles at hx
      rw [List.getElem?_map, hk] at hx
      obtain rfl := Option.some.inj hx
      refine Count1_ok ?_
      have hcl := List.count_le_length (a := k) (l := bl s)
      refine condB_ne (fun hne => ?_) (fun h0 => ?_)
      · refine ⟨k, by decide, rfl, ?_⟩
        have hkin : k ∈ bl s := List.count_pos_iff.1 (by omega)
        refine ld _ 0 w7.drew k _ H7.drew rfl (fun hl => absurd hl ((Tb.keys k).1 (List.mem_of_getElem? hk))) (fun bs a cc hl _ => ?_)
        have hdk : dI ps k = (bs.length : Int) - 1 := by unfold dI; rw [hl]
        have hbl := dI_le hv hv1 k
        have a2 : ((bl s).count k : Int) * dI ps k ≤ (10000000 : Int) * 100 := Int.mul_le_mul (by omega) hbl.2 hbl.1 (by omega)
        have a1 : 0 ≤ ((bl s).count k : Int) * dI ps k := Int.mul_nonneg (by omega) hbl.1
        refine k51 _ _ _ ?_ ⟨fun _ => ⟨k, (hmem k).2 (.inr rfl), hkin⟩, fun _ => rfl⟩ (Chg.refl _ _).drew
        have e1 : w64 ((bs.length : Int) - 1) = dI ps k := by rw [hdk, w64_of] <;> omega
        have e2 : w64 (((bl s).count k : Int) * dI ps k) = ((bl s).count k : Int) * dI ps k := by rw [w64_of] <;> omega
        rw [e1, e2, hgt, w64_of (by omega) (by omega)]
        omega
      · refine k51 _ _ _ ?_ ?_ (Chg.refl _ _)
        · rw [hgt, h0]; simp
        · rw [hany]
          constructor
          · rintro ⟨c, h1, h2⟩; exact ⟨c, (hmem c).2 (.inl h1), h2⟩
          · rintro ⟨c, h1, h2⟩
            rcases (hmem c).1 h1 with h | rfl
            · exact ⟨c, h, h2⟩
            · exact absurd (List.count_pos_iff.2 h2) (by omega)
    · rw [List.take_of_length_le (by omega)] at hany ⊢
      rw [gainK_gain Tb.nd Tb.keys, ← hsl, ← hlen]
      refine k5 any w7 hc7 ?_
      rw [hany]
      constructor
      · rintro ⟨c, h1, h2⟩; exact ⟨c, h2, (Tb.keys c).1 h1⟩
      · rintro ⟨c, h1, h2⟩; exact ⟨c, (Tb.keys c).2 h2, h1⟩
  · refine ⟨fun ns any x w' t => ∃ i : Nat, x = i ∧ i ≤ s.size ∧ t = s.size - i ∧ Chg No w w' ∧ ns = (s.size : Int) + gain ps ((bl s).take i) ∧ (any = true ↔ ∃ k ∈ (bl s).take i, lookT ps k ≠ none), ⟨_, 0, rfl, Nat.zero_le _, rfl, Chg.refl _ _, by simp [gain], by simp⟩, ?_⟩
    rintro ns any x w7 t ⟨i, rfl, hi, ht, hc7, rfl, hany⟩
    have H7 := H.step0 hc7
    refine condB_d (fun hlt => ?_) (fun hge => ?_)
    · refine withJ_i fun J51 hJ51 => ?_
      have hk := List.getElem?_eq_getElem (l := bl s) (i := i) (by omega)
      generalize hkk : (bl s)[i]'(by omega) = k at hk
      have hgt := gain_take (ps := ps) hk
      have hgl0 := gain_le hv hv1 ((bl s).take i)
      have htl0 : ((bl s).take i).length ≤ s.size := by rw [List.length_take]; omega
      have hmem : ∀ c, c ∈ (bl s).take (i + 1) ↔ c ∈ (bl s).take i ∨ c = k := by
        intro c
        obtain ⟨g1, g2⟩ := List.getElem?_eq_some_iff.1 hk
        rw [List.take_succ_eq_append_getElem g1, g2]; simp
      have k51 : ∀ ns' any' w8, ns' = (s.size : Int) + gain ps ((bl s).take (i + 1)) → (any' = true ↔ ∃ k ∈ (bl s).take (i + 1), lookT ps k ≠ none) → Chg No w7 w8 → J51 ns' any' w8 := by
        intro ns' any' w8 g1 g2 g3; subst hJ51
        exact ⟨_, by omega, i + 1, by rw [w64_of] <;> omega, by omega, rfl, hc7.trans0 g3, g1, g2⟩
      clear hJ51
      refine idxStr_b (by omega) hlt fun b' hb' => ?_
      rw [Int.toNat_natCast, hk] at hb'
      obtain rfl := Option.some.inj hb'
      refine ld _ 0 w7 k _ H7 rfl (fun hl => ?_) (fun bs a cc hl _ => ?_)
      · refine condB_i (fun h => by cases h) (fun _ => ?_)
        refine k51 _ _ _ ?_ ?_ (Chg.refl _ _)
        · rw [hgt]; unfold dI; rw [hl]; simp
        · rw [hany]
          constructor
          · rintro ⟨c, h1, h2⟩; exact ⟨c, (hmem c).2 (.inl h1), h2⟩
          · rintro ⟨c, h1, h2⟩
            rcases (hmem c).1 h1 with h | rfl
            · exact ⟨c, h, h2⟩
            · exact absurd hl h2
      · refine condB_i (fun _ => ?_) (fun h => by cases h)
        refine ld _ 0 w7 k _ H7 rfl (fun hl' => by rw [hl] at hl'; cases hl') (fun bs' a' cc' hl' _ => ?_)
        rw [hl] at hl'
        obtain rfl := Option.some.inj hl'
        have hdk : dI ps k = (bs.length : Int) - 1 := by unfold dI; rw [hl]
        have hbl := dI_le hv hv1 k
        refine k51 _ _ _ ?_ ⟨fun _ => ⟨k, (hmem k).2 (.inr rfl), by rw [hl]; simp⟩, fun _ => rfl⟩ (Chg.refl _ _)
        have e1 : w64 ((bs.length : Int) - 1) = dI ps k := by rw [hdk, w64_of] <;> omega
        rw [e1, hgt, w64_of (by omega) (by omega)]
        omega
    · rw [List.take_of_length_le (by omega)] at hany ⊢
      rw [← hsl, ← hlen]
      exact k5 any w7 hc7 hany
end
end Go.Proofs.YtdjehimkijlhgaaDoor

/-
  refer.Text and refer.Quote: each byte, or the reference that stands for it.
-/

set_option linter.unusedVariables false
set_option linter.unusedSimpArgs false
namespace Go.Vc
open Go Go.Lib
def txtP : List BP := [(38, [38, 97, 109, 112, 59]), (60, [38, 108, 116, 59]), (62, [38, 103, 116, 59]), (13, [38, 35, 49, 51, 59])]
def quoP : List BP := [(38, [38, 97, 109, 112, 59]), (60, [38, 108, 116, 59]), (34, [38, 113, 117, 111, 116, 59]), (9, [38, 35, 57, 59]), (10, [38, 35, 49, 48, 59]), (13, [38, 35, 49, 51, 59])]
end Go.Vc
namespace Go.Proofs.YtdjehimkijlhgaaDoor
open Go Go.Vc Go.Lib
section
variable {w : World}
theorem Replace_ok {ps : List BP} {b bq q : Nat} {rest : List Value} {s : ByteArray} {J : ByteArray → World → Prop} {w0 : World}
    (H : Hp w0 No w [⟨b, [.int .u32 0, .int .i32 0, .int .u32 0, .nilIface, .slice (some ⟨bq, 0, none⟩) (2 * ps.length) q], T_strings_Replacer⟩, ⟨bq, strs (olds ps) ++ rest, T_string⟩]) (F : Fit (strs (olds ps)) rest (2 * ps.length) q 1)
    (h2 : 2 ≤ ps.length) (hm : ps.length ≤ 100) (h1 : ∀ p, ps[0]? = some p → p.2.length ≠ 1) (hv : ∀ p ∈ ps, p.2.length ≤ 100) (hv1 : ∀ p ∈ ps, 1 ≤ p.2.length) (hs : s.size ≤ 10000000)
    (K : ∀ w', Chg No w0 w' → J (mkB (subst ps (bl s))) w') :
    callJ Tryd.prog 53 #[.pointer (some ⟨b, 0, none⟩), .string s] w [.one .str] J := by
  refine Calls.mono (Replace_hand (R := fun e w' => ∃ r, e = .returned (.string r) ∧ J r w') (b := b) (s := s) ?_) fun e w' he => ?_
  · have hO := OnceDo_ok H (J := fun w1 => ∃ bB, w1.cell? ⟨b, 3, none⟩ = some (.iface T_ptr_strings_byteStringReplacer (.pointer (some ⟨bB, 0, none⟩))) ∧
      Calls Tryd.prog 187 #[.pointer (some ⟨bB, 0, none⟩), .string s] w1 fun e w2 => ∃ r, e = .returned (.string r) ∧ ∃ r', Ending.returned (.string r) = .returned (.string r') ∧ J r' w2) fun w1 H1 => by
      refine buildOnce_ok H1 F h2 hm h1 hv fun bB bt C ks rt tc w2 H2 F2 T2 => ?_
      refine ⟨_, _, H2, fun w3 H3 hc3 => ⟨bB, H3.cell 0 rfl rfl, ?_⟩⟩
      have T3 : Table w3 ps C ks := T2.chg hc3 (by
        rintro x rfl h
        rw [typ_of (H2.get 0 rfl)] at h
        exact absurd h (by decide))
      have hS : ∀ x, x < w0.heap.size → Sb bB bt x → No x := by
        rintro x hx (rfl | rfl)
        · have := H3.fresh 1 rfl (fun h => h); omega
        · have := H3.fresh 2 rfl (fun h => h); omega
      have H4 : Hp w3 (Sb bB bt) w3 [⟨bB, C ++ [.slice (some ⟨bt, 0, none⟩) ks.length tc], T_strings_byteStringReplacer⟩, ⟨bt, strs (singles ks) ++ rt, T_string⟩] := by
        refine ((Hp.start w3 (Sb bB bt)).add (H3.get 2 rfl) (by simp) (fun _ => .inr rfl)).add (H3.get 1 rfl) ?_ (fun _ => .inl rfl)
        intro p hp
        rw [List.mem_singleton.1 hp]
        exact (H3.blk_ne (i := 2) (j := 1) rfl rfl (by decide))
      have hB := BSR_ok (s := s) (J := fun r w' => J r w') H4 F2 T3 hv hv1 hm hs fun w' hc' => K w' (H3.chg.trans hc' hS)
      refine Calls.mono hB fun e w' he => ?_
      obtain ⟨r, rfl, hJ⟩ := he
      exact ⟨r, rfl, r, rfl, hJ⟩
    exact Calls.mono hO fun e w' he => ⟨he.1, he.2⟩
  · obtain ⟨r, rfl, hJ⟩ := he
    exact ⟨r, rfl, hJ⟩
theorem Text_ok {s : ByteArray} {J : ByteArray → World → Prop} (hs : s.size ≤ 10000000) (K : ∀ w', Chg No w w' → J (mkB (subst txtP (bl s))) w') :
    callJ Tryd.prog fn_refer_Text #[.string s] w [.one .str] J := by
  refine c_refer_Text ?_
  unfold VC_refer_Text
  refine newRow (e := T_string) (cs := strs (olds txtP)) (sz := 1) (n := 8) rfl (by decide) fun b3 w1 hr1 _ hc1 => ?_
  refine NewReplacer_ok hr1.sl rfl (by decide) (by decide) fun b bq rest q w2 H2 F2 => ?_
  exact Replace_ok (ps := txtP) H2 F2 (by decide) (by decide) (by decide) (by decide) (by decide) hs fun w' hc' => K w' (hc1.trans0 hc')
theorem Quote_ok {s : ByteArray} {J : ByteArray → World → Prop} (hs : s.size ≤ 10000000) (K : ∀ w', Chg No w w' → J (mkB (subst quoP (bl s))) w') :
    callJ Tryd.prog fn_refer_Quote #[.string s] w [.one .str] J := by
  refine c_refer_Quote ?_
  unfold VC_refer_Quote
  refine newRow (e := T_string) (cs := strs (olds quoP)) (sz := 1) (n := 12) rfl (by decide) fun b3 w1 hr1 _ hc1 => ?_
  refine NewReplacer_ok hr1.sl rfl (by decide) (by decide) fun b bq rest q w2 H2 F2 => ?_
  exact Replace_ok (ps := quoP) H2 F2 (by decide) (by decide) (by decide) (by decide) (by decide) hs fun w' hc' => K w' (hc1.trans0 hc')
end
end Go.Proofs.YtdjehimkijlhgaaDoor

/-
  The document's Text and Quote.
-/

set_option linter.unusedVariables false
set_option linter.unusedSimpArgs false
namespace Go.Vc
open Go Go.Lib
theorem lookT_take {ps : List BP} (hd : (ps.map Prod.fst).Nodup) {k : Nat} {p : BP} (h : ps[k]? = some p) (b : UInt8) : lookT (ps.take (k + 1)) b = if b = p.1 then some p.2 else lookT (ps.take k) b := by
  obtain ⟨g1, g2⟩ := List.getElem?_eq_some_iff.1 h
  have e : lookT (ps.take (k + 1)) b = (lookT (ps.take k) b).or (lookT [p] b) := by
    rw [List.take_succ_eq_append_getElem g1, g2]
    unfold lookT
    rw [List.find?_append]
    cases List.find? (fun p => decide (p.1 = b)) (ps.take k) <;> rfl
  rw [e, lookT_cons]
  by_cases hb : b = p.1
  · rw [if_pos hb, if_pos hb.symm]
    have : lookT (ps.take k) b = none := by
      unfold lookT
      rw [Option.map_eq_none_iff, List.find?_eq_none]
      intro x hx hxb
      have hxb' : x.1 = b := by simpa using hxb
      obtain ⟨j, hj⟩ := List.mem_iff_getElem?.1 hx
      rw [List.getElem?_take] at hj
      split at hj
      · next hjk =>
        obtain ⟨q1, q2⟩ := List.getElem?_eq_some_iff.1 hj
        have := List.pairwise_iff_getElem.1 hd j k (by simpa using q1) (by simpa using g1) hjk
        rw [List.getElem_map, List.getElem_map, q2, g2] at this
        exact this (by rw [hxb', hb])
      · cases hj
    rw [this]; rfl
  · rw [if_neg hb, if_neg (fun h => hb h.symm)]
    cases lookT (ps.take k) b <;> rfl
end Go.Vc
namespace Go.Proofs.YtdjehimkijlhgaaDoor
open Go Go.Vc Go.Lib
section
variable {w : World}
theorem Written_ok {ps : List BP} {s ks r0 r1 r2 r3 r4 r5 : ByteArray} {J : ByteArray → World → Prop} (hks : bl ks = ps.map Prod.fst) (hr : ∀ (k : Nat) (p : BP), ps[k]? = some p → [r0, r1, r2, r3, r4, r5][k]? = some (mkB p.2)) (hd : (ps.map Prod.fst).Nodup) (hv : ∀ p ∈ ps, p.2.length ≤ 100) (hs : s.size ≤ 10000000) (hm : ps.length ≤ 6)
    (K : ∀ w', Chg No w w' → J (mkB (subst ps (bl s))) w') :
    callJ Tryd.prog fn_ref02_written #[.string s, .string ks, .agg ⟨[.string r0, .string r1, .string r2, .string r3, .string r4, .string r5]⟩] w [.one .str] J := by
  refine c_ref02_written ?_
  unfold VC_ref02_written
  have hsl := bl_len s
  have hkl : ks.size = ps.length := by rw [← bl_len, hks, List.length_map]
  have hmk : ∀ a b : List UInt8, mkB a ++ mkB b = mkB (a ++ b) := fun a b => bl_ext (by rw [bl_mkB]; unfold bl mkB; simp)
  have hsz : ∀ a : List UInt8, (mkB a).size = a.length := fun a => by rw [← bl_len, bl_mkB]
  refine (Hp.start w No).newB fun b5 w1 H1 _ _ => ?_
  refine ⟨fun out i w' t => ∃ k : Nat, i = k ∧ k ≤ s.size ∧ t = s.size - k ∧ out = mkB (subst ps ((bl s).take k)) ∧ Hp w No w' [⟨b5, [.string r0, .string r1, .string r2, .string r3, .string r4, .string r5], T_6_string⟩], ⟨_, 0, rfl, Nat.zero_le _, rfl, rfl, H1⟩, ?_⟩
  rintro out i w2 t ⟨k, rfl, hk, ht, rfl, H2⟩
  refine condB_d (fun hlt => ?_) (fun hge => ?_)
  · have hb := List.getElem?_eq_getElem (l := bl s) (i := k) (by omega)
    generalize hbb : (bl s)[k]'(by omega) = b at hb
    have htk := subst_take (ps := ps) hb
    have e1 : w64 ((k : Int) + 1) = ((k + 1 : Nat) : Int) := by rw [w64_of] <;> omega
    rw [e1]
    refine slStr_cut (by omega) (by omega) fun s21 h21 _ => ?_
    have e21 : s21 = mkB [b] := by
      apply bl_ext
      rw [h21, bl_mkB, show k + 1 - k = 1 from by omega]
      obtain ⟨g1, g2⟩ := List.getElem?_eq_some_iff.1 hb
      rw [List.drop_eq_getElem_cons g1, g2]; rfl
    subst e21
    refine ⟨fun t9 k10 w' t => ∃ j : Nat, k10 = j ∧ j ≤ ps.length ∧ t = ps.length - j ∧ t9 = mkB ((lookT (ps.take j) b).getD [b]) ∧ Hp w No w' [⟨b5, [.string r0, .string r1, .string r2, .string r3, .string r4, .string r5], T_6_string⟩], ⟨_, 0, rfl, Nat.zero_le _, rfl, rfl, H2⟩, ?_⟩
    rintro t9 k10 w3 t' ⟨j, rfl, hj, ht', rfl, H3⟩
    refine condB_d (fun hlt2 => ?_) (fun hge2 => ?_)
    · have hp := List.getElem?_eq_getElem (l := ps) (i := j) (by omega)
      generalize hpp : ps[j]'(by omega) = p at hp
      have hlt' := lookT_take hd hp b
      refine withJ_i fun J9 hJ9 => ?_
      have k9 : ∀ t10 w4, t10 = mkB ((lookT (ps.take (j + 1)) b).getD [b]) → Hp w No w4 [⟨b5, [.string r0, .string r1, .string r2, .string r3, .string r4, .string r5], T_6_string⟩] → J9 t10 w4 := by
        intro t10 w4 g1 g2; subst hJ9
        exact ⟨_, by omega, j + 1, by rw [w64_of] <;> omega, by omega, rfl, g1, g2⟩
      clear hJ9
      refine idxStr_b (by omega) hlt fun b' hb' => ?_
      rw [Int.toNat_natCast, hb] at hb'
      obtain rfl := Option.some.inj hb'
      refine idxStr_b (by omega) hlt2 fun c hc => ?_
      rw [Int.toNat_natCast, hks, List.getElem?_map, hp] at hc
      obtain rfl := Option.some.inj hc
      by_cases hbp : b = p.1
      · rw [if_pos hbp] at hlt'
        refine condB_i (fun _ => ?_) (fun h => by rw [hbp] at h; simp at h)
        refine ⟨by omega, by omega, ?_⟩
        simp only [nonNil, Addr.add_mk, Int.toNat_natCast]
        have hrk := hr j p hp
        have hget : [Value.string r0, .string r1, .string r2, .string r3, .string r4, .string r5][0 + j * 1]? = some (.string (mkB p.2)) := by
          rw [Nat.zero_add, Nat.mul_one, show [Value.string r0, .string r1, .string r2, .string r3, .string r4, .string r5] = [r0, r1, r2, r3, r4, r5].map Value.string from rfl, List.getElem?_map, hrk]; rfl
        refine H3.drew.ldStr 0 rfl (off := 0 + j * 1) hget ?_
        exact k9 _ _ (by rw [hlt']; rfl) H3.drew
      · rw [if_neg hbp] at hlt'
        refine condB_i (fun h => ?_) (fun _ => k9 _ _ (by rw [hlt']) H3.drew)
        exfalso
        apply hbp
        apply UInt8.toNat_inj.1
        have h' : ((b.toNat : Nat) : Int) = (p.1.toNat : Nat) := by simpa using h
        omega
    · rw [List.take_of_length_le (l := ps) (i := j) (by omega)]
      have hle := subst_le hv ((bl s).take (k + 1))
      have hll : ((bl s).take (k + 1)).length ≤ s.size := by rw [List.length_take]; omega
      rw [htk, List.length_append] at hle
      refine ⟨by rw [hsz, hsz]; omega, _, by omega, k + 1, rfl, by omega, rfl, ?_, H3⟩
      rw [hmk, htk]
  · rw [List.take_of_length_le (by omega)]
    exact K w2 H2.chg
theorem RText_ok {s : ByteArray} {J : ByteArray → World → Prop} (hs : s.size ≤ 10000000) (K : ∀ w', Chg No w w' → J (mkB (subst txtP (bl s))) w') : callJ Tryd.prog fn_ref02_Text #[.string s] w [.one .str] J := by
  refine c_ref02_Text ?_
  unfold VC_ref02_Text
  refine Written_ok (ps := txtP) rfl (fun k p h => ?_) (by decide) (by decide) hs (by decide) K
  match k with
  | 0 | 1 | 2 | 3 => simp [txtP] at h; subst h; rfl
  | k + 4 => simp [txtP] at h
theorem RQuote_ok {s : ByteArray} {J : ByteArray → World → Prop} (hs : s.size ≤ 10000000) (K : ∀ w', Chg No w w' → J (mkB (subst quoP (bl s))) w') : callJ Tryd.prog fn_ref02_Quote #[.string s] w [.one .str] J := by
  refine c_ref02_Quote ?_
  unfold VC_ref02_Quote
  refine Written_ok (ps := quoP) rfl (fun k p h => ?_) (by decide) (by decide) hs (by decide) K
  match k with
  | 0 | 1 | 2 | 3 | 4 | 5 => simp [quoP] at h; subst h; rfl
  | k + 6 => simp [quoP] at h
end
end Go.Proofs.YtdjehimkijlhgaaDoor

