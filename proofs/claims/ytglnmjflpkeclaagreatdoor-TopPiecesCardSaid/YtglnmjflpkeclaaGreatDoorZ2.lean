/- What the statement needs, part 2. -/
import Derived.Test.YtglnmjflpkeclaaGreatDoorZ1
set_option linter.unusedSectionVars false
set_option linter.unusedVariables false
set_option linter.unusedSimpArgs false
set_option maxRecDepth 100000
open List
section
namespace Go.Vc
open Go Go.Lib
def subst (ps : List BP) (s : List UInt8) : List UInt8:=s.flatMap fun b => (Zx2 ps b).getD [b]
end Go.Vc
namespace Go.Proofs.YtglnmjflpkeclaaGreatDoor
open Go Go.Vc Go.Lib
section
variable {w : World}
theorem buildOnce_ok {ps : List BP} {b bq q : Nat} {rest : List Value} {rb0 rb1 rb2 rb3 : Value} {J : World -> Prop} {w0 : World}
  (H : Hp w0 No w [⟨b, [rb0, rb1, rb2, rb3, .slice (some ⟨bq, 0, none⟩) (2 * ps.length) q], ZzQ⟩, ⟨bq, strs (olds ps) ++ rest, Zz8⟩]) (F : Fit (strs (olds ps)) rest (2 * ps.length) q 1)
  (h2 : 2 <= ps.length) (hm : ps.length <= 100) (h1 : ∀ p, ps[0]? = some p -> p.2.length ≠ 1) (hs : ∀ p ∈ ps, p.2.length <= 100)
  (K : ∀ bB bt C ks rt tc w', Hp w0 No w' [⟨b, [rb0, rb1, rb2, .iface Zzu (.pointer (some ⟨bB, 0, none⟩)), .slice none 0 0], ZzQ⟩, ⟨bB, C ++ [.slice (some ⟨bt, 0, none⟩) ks.length tc], Zzg⟩, ⟨bt, strs (singles ks) ++ rt, Zz8⟩] -> Fit (strs (singles ks)) rt ks.length tc 1 -> Table w' ps C ks -> J w') :
  Zz0 Tryz.prog ZyO #[.pointer (some ⟨b, 0, none⟩)] w [] J:=by
 refine YbO ?_
 refine build_ok H F h2 hm h1 hs fun bB bt C ks rt tc w1 H1 F1 T1 => ?_
 simp only [ZzC, condT, Value.oneCell', Addr.add_mk, Nat.zero_add]
 refine H1.stV 2 rfl (off:=3) (by simp) fun w2 H2 hc2 => ?_
 refine H2.stV 2 rfl (off:=4) (by simp) fun w3 H3 hc3 => ?_
 have t1 : ∀ x, x = b -> typ w1 x ≠ some 5:=by
  rintro x rfl h
  rw [Zzy (H1.get 2 rfl)] at h
  exact absurd h (by decide)
 have t2 : ∀ x, x = b -> typ w2 x ≠ some 5:=by
  rintro x rfl h
  rw [Zzy (H2.get 2 rfl)] at h
  exact absurd h (by decide)
 refine K bB bt C ks rt tc w3 ?_ F1 ((T1.chg hc2 t1).chg hc3 t2)
 refine Hp.perm (H3.sub (Γ':=[⟨bB, C ++ [.slice (some ⟨bt, 0, none⟩) ks.length tc], Zzg⟩, ⟨bt, strs (singles ks) ++ rt, Zz8⟩, ⟨b, [rb0, rb1, rb2, .iface Zzu (.pointer (some ⟨bB, 0, none⟩)), .slice none 0 0], ZzQ⟩]) ?_) ?_
 ·exact .cons_cons _ (.cons_cons _ (.cons_cons _ (.cons _ (.refl _))))
 ·exact (List.Perm.cons _ (List.Perm.swap _ _ _)).trans (List.Perm.swap _ _ _)
end
end Go.Proofs.YtglnmjflpkeclaaGreatDoor
namespace Go.Vc
open Go Go.Lib
def dI (ps : List BP) (b : UInt8) : Int:=match Zx2 ps b with | some r => (r.length : Int) - 1 | none => 0
def gain (ps : List BP) (l : List UInt8) : Int:=(l.map (dI ps)).sum
theorem ZxN (ps : List BP) (b : UInt8) (l : List UInt8) : subst ps (b :: l) = (Zx2 ps b).getD [b] ++ subst ps l:=by simp [subst]
theorem subst_len (ps : List BP) : ∀ l : List UInt8, ((subst ps l).length : Int) = l.length + gain ps l
 | [] => by simp [subst, gain]
 | b :: l => by
  rw [ZxN, length_append]
  have ih:=subst_len ps l
  have e : gain ps (b :: l) = dI ps b + gain ps l:=by simp [gain]
  rw [e]
  unfold dI
  cases h : Zx2 ps b with
  | none => simp; omega
  | some r => simp; omega
theorem YfY (ps : List BP) : ∀ {l : List UInt8}, (∀ b ∈ l, Zx2 ps b = none) -> subst ps l = l
 | [], _ => rfl
 | b :: l, h => by
  rw [ZxN, h b (by simp), YfY ps fun c hc => h c (by simp [hc])]; rfl
def YcE (ps : List BP) (ks l : List UInt8) : Int:=(ks.map fun k => (l.count k : Int) * dI ps k).sum
theorem gainK_nil (ps : List BP) (ks : List UInt8) : YcE ps ks [] = 0:=by
 unfold YcE
 induction ks with
 | nil => rfl
 | cons k ks ih => rw [map_cons, sum_cons, ih]; simp
theorem gainK_cons {ps : List BP} {b : UInt8} {l : List UInt8} : ∀ {ks : List UInt8}, ks.Nodup -> YcE ps ks (b :: l) = YcE ps ks l + if b ∈ ks then dI ps b else 0
 | [], _ => by simp [YcE]
 | k :: ks, h => by
  have hn:=nodup_cons.1 h
  have ih:=gainK_cons (ps:=ps) (b:=b) (l:=l) hn.2
  have e : ∀ x, YcE ps (k :: ks) x = (x.count k : Int) * dI ps k + YcE ps ks x:=fun x => by simp [YcE]
  rw [e, e, ih]
  by_cases hb : b = k
  ·subst hb
   rw [count_cons_self, if_neg hn.1, if_pos (by simp)]
   have : ((l.count b + 1 : Nat) : Int) * dI ps b = (l.count b : Int) * dI ps b + dI ps b:=by
    rw [Int.natCast_add, Int.add_mul]; simp
   omega
  ·rw [count_cons_of_ne hb]
   have : (if b ∈ k :: ks then dI ps b else 0) = if b ∈ ks then dI ps b else 0:=by
    by_cases hm : b ∈ ks
    ·rw [if_pos hm, if_pos (mem_cons_of_mem _ hm)]
    ·rw [if_neg hm, if_neg (fun h => (mem_cons.1 h).elim hb hm)]
   rw [this]
   omega
theorem gainK_gain {ps : List BP} {ks : List UInt8} (hd : ks.Nodup) (hk : ∀ c, c ∈ ks ↔ Zx2 ps c ≠ none) : ∀ l, YcE ps ks l = gain ps l
 | [] => by rw [gainK_nil]; rfl
 | b :: l => by
  rw [gainK_cons hd, gainK_gain hd hk l]
  have e : gain ps (b :: l) = dI ps b + gain ps l:=by simp [gain]
  rw [e]
  by_cases h : b ∈ ks
  ·rw [if_pos h]; omega
  ·rw [if_neg h]
   have : Zx2 ps b = none:=by
    apply Classical.byContradiction
    intro hn; exact h ((hk b).2 hn)
   have e0 : dI ps b = 0:=by unfold dI; rw [this]
   rw [e0]; omega
end Go.Vc
namespace Go.Proofs.YtglnmjflpkeclaaGreatDoor
open Go Go.Vc Go.Lib
section
variable {w : World}
theorem Count1_ok {s : ByteArray} {k : UInt8} {J : Int -> World -> Prop} (K : J ((bl s).count k : Nat) w) : Zz0 Tryz.prog Ybm #[.string s, .string (mkB [k])] w [.one (.int .i64)] J:=by
 refine YhZ ?_
 rw [Yhd]
 refine Zz9 (fun h => absurd h (by decide)) fun _ => ?_
 refine Zz9 (fun _ => ?_) (fun h => absurd h (by decide))
 refine ⟨k, by decide, rfl, ?_⟩
 refine ⟨_, _, ?_, _, rfl, K⟩
 rw [run_callFunc_extern (fn:=Tryz.prog.funcs[ZxR]!) (by kernel_rfl) (by kernel_rfl) (by kernel_rfl) (by kernel_rfl) (e:=Extern.BytealgCount.count) (by kernel_rfl), Lib.run_countString]
 have e : Lib.countByte s.data.toList ((k.toNat : Int)).toNat.toUInt8 = (bl s).count k:=by
  unfold Lib.countByte
  rw [Int.toNat_natCast, show k.toNat.toUInt8 = k from UInt8.ofNat_toNat]
 rw [e]; rfl
end
end Go.Proofs.YtglnmjflpkeclaaGreatDoor
namespace Go.Vc
open Go Go.Lib
theorem Ycp (ps : List BP) (a b : List UInt8) : subst ps (a ++ b) = subst ps a ++ subst ps b:=by simp [subst]
theorem subst_le {ps : List BP} (h : ∀ p ∈ ps, p.2.length <= 100) : ∀ l : List UInt8, (subst ps l).length <= 100 * l.length
 | [] => by simp [subst]
 | b :: l => by
  rw [ZxN, length_append]
  have ih:=subst_le h l
  have : ((Zx2 ps b).getD [b]).length <= 100:=by
   cases hl : Zx2 ps b with
   | none => simp
   | some r =>
    unfold Zx2 at hl
    obtain ⟨p, hp, rfl⟩:=Option.map_eq_some_iff.1 hl
    exact h p (mem_of_find?_eq_some hp)
  rw [length_cons]; omega
theorem subst_take {ps : List BP} {l : List UInt8} {i : Nat} {b : UInt8} (h : l[i]? = some b) : subst ps (l.take (i + 1)) = subst ps (l.take i) ++ (Zx2 ps b).getD [b]:=by
  obtain ⟨g1, g2⟩:=List.getElem?_eq_some_iff.1 h
  rw [List.take_succ_eq_append_getElem g1, g2, Ycp]
  simp [subst]
theorem subst_take_le (ps : List BP) (l : List UInt8) (i : Nat) : (subst ps (l.take i)).length <= (subst ps l).length:=by
 conv => rhs; rw [<- take_append_drop i l, Ycp, length_append]
 omega
theorem gain_take {ps : List BP} {l : List UInt8} {i : Nat} {b : UInt8} (h : l[i]? = some b) : gain ps (l.take (i + 1)) = gain ps (l.take i) + dI ps b:=by
  obtain ⟨g1, g2⟩:=List.getElem?_eq_some_iff.1 h
  rw [List.take_succ_eq_append_getElem g1, g2]
  simp [gain]
theorem dI_le {ps : List BP} (h : ∀ p ∈ ps, p.2.length <= 100) (h1 : ∀ p ∈ ps, 1 <= p.2.length) (b : UInt8) : 0 <= dI ps b /\ dI ps b <= 100:=by
 unfold dI
 cases hl : Zx2 ps b with
 | none => simp
 | some r =>
  unfold Zx2 at hl
  obtain ⟨p, hp, rfl⟩:=Option.map_eq_some_iff.1 hl
  have:=h p (mem_of_find?_eq_some hp)
  have:=h1 p (mem_of_find?_eq_some hp)
  simp only; omega
theorem gain_le {ps : List BP} (h : ∀ p ∈ ps, p.2.length <= 100) (h1 : ∀ p ∈ ps, 1 <= p.2.length) : ∀ l : List UInt8, 0 <= gain ps l /\ gain ps l <= 100 * l.length
 | [] => by simp [gain]
 | b :: l => by
  have e : gain ps (b :: l) = dI ps b + gain ps l:=by simp [gain]
  have ih:=gain_le h h1 l
  have hd:=dI_le h h1 b
  rw [e, length_cons]; omega
theorem gainK_take {ps : List BP} {ks l : List UInt8} {i : Nat} {b : UInt8} (h : ks[i]? = some b) : YcE ps (ks.take (i + 1)) l = YcE ps (ks.take i) l + (l.count b : Int) * dI ps b:=by
  obtain ⟨g1, g2⟩:=List.getElem?_eq_some_iff.1 h
  rw [List.take_succ_eq_append_getElem g1, g2]
  simp [YcE]
theorem gainK_le {ps : List BP} (h : ∀ p ∈ ps, p.2.length <= 100) (h1 : ∀ p ∈ ps, 1 <= p.2.length) {l : List UInt8} (hl : l.length <= 10000000) : ∀ ks : List UInt8, 0 <= YcE ps ks l /\ YcE ps ks l <= 1000000000 * ks.length
 | [] => by simp [YcE]
 | k :: ks => by
  have e : YcE ps (k :: ks) l = (l.count k : Int) * dI ps k + YcE ps ks l:=by simp [YcE]
  have ih:=gainK_le h h1 hl ks
  obtain ⟨d0, d1⟩:=dI_le h h1 k
  have hc:=count_le_length (a:=k) (l:=l)
  have a1 : 0 <= (l.count k : Int) * dI ps k:=Int.mul_nonneg (by omega) d0
  have a2 : (l.count k : Int) * dI ps k <= (10000000 : Int) * 100:=Int.mul_le_mul (by omega) d1 d0 (by omega)
  rw [e, length_cons]; omega
end Go.Vc
namespace Go.Proofs.YtglnmjflpkeclaaGreatDoor
open Go Go.Vc Go.Lib
section
variable {w : World}
def Sb (bB bt : Nat) : Nat -> Prop:=fun x => x = bB \/ x = bt
theorem BSR_ok {ps : List BP} {bB bt tc : Nat} {C rt : List Value} {ks : List UInt8} {s : ByteArray} {J : ByteArray -> World -> Prop}
    (H : Hp w (Sb bB bt) w [⟨bB, C ++ [.slice (some ⟨bt, 0, none⟩) ks.length tc], Zzg⟩, ⟨bt, strs (singles ks) ++ rt, Zz8⟩]) (F : Fit (strs (singles ks)) rt ks.length tc 1) (Tb : Table w ps C ks)
    (hv : ∀ p ∈ ps, p.2.length <= 100) (hv1 : ∀ p ∈ ps, 1 <= p.2.length) (hm : ps.length <= 100) (hs : s.size <= 10000000) (K : ∀ w', Chg (Sb bB bt) w w' -> J (mkB (subst ps (bl s))) w') :
    Zz0 Tryz.prog ZyR #[.pointer (some ⟨bB, 0, none⟩), .string s] w [.one .str] J:=by
  refine Yac ?_
  have hsl:=Zzn s
  have hn:=subst_le hv (bl s)
  have hCl:=Tb.len
  have hget : ∀ c : UInt8, (C ++ [Value.slice (some ⟨bt, 0, none⟩) ks.length tc])[c.toNat]? = some (C[c.toNat]'(by have:=c.toNat_lt; omega)):=fun c => by
    have:=c.toNat_lt
    rw [List.getElem?_append_left (by omega), List.getElem?_eq_getElem]
  have hC : ∀ c : UInt8, C[c.toNat]? = some (C[c.toNat]'(by have:=c.toNat_lt; omega)):=fun c => List.getElem?_eq_getElem _
  have hT : ∀ x, Sb bB bt x -> typ w x ≠ some 5:=by
    rintro x (rfl | rfl) h
    · rw [Zzy (H.get 0 rfl)] at h
      exact absurd h (by decide)
    · rw [Zzy (H.get 1 rfl)] at h
      exact absurd h (by decide)
  -- what stands in the table for a byte
  have ld : ∀ (Γ : List Blk) (i : Nat) (w' : World) (c : UInt8) (J' : Option Addr -> Nat -> Nat -> Prop), Hp w (Sb bB bt) w' Γ -> Γ[i]? = some ⟨bB, C ++ [.slice (some ⟨bt, 0, none⟩) ks.length tc], Zzg⟩ ->
      (Zx2 ps c = none -> J' none 0 0) -> (∀ bs a cc, Zx2 ps c = some bs -> Bytes w' (some a) bs.length bs -> J' (some a) bs.length cc) ->
      ZzC (some (⟨bB, 0, none⟩ : Addr)) fun a => ZzS (some a) 256 ((c.toNat : Nat) : Int) fun a' => ldS w' (a'.add (((c.toNat : Nat) : Int).toNat * 1)) J':=by
    intro Γ i w' c J' H' hi k1 k2
    have hc:=c.toNat_lt
    refine ⟨by omega, by omega, ?_⟩
    simp only [ZzC, Addr.add_mk, Int.toNat_natCast]
    have T':=Tb.chg H'.chg hT
    have hcell:=T'.cell c _ (hC c)
    have hg:=hget c
    cases hl : Zx2 ps c with
    | none =>
      rw [hl] at hcell
      rw [show C[c.toNat]'(by omega) = .slice none 0 0 from hcell] at hg
      exact H'.ldS i hi (off:=0 + c.toNat * 1) (by rw [Nat.zero_add, Nat.mul_one]; exact hg) (k1 hl)
    | some bs =>
      rw [hl] at hcell
      obtain ⟨a, l, cc, h1, h2, h3, _⟩:=hcell
      subst h3
      rw [h1] at hg
      exact H'.ldS i hi (off:=0 + c.toNat * 1) (by rw [Nat.zero_add, Nat.mul_one]; exact hg) (k2 bs a cc hl h2)
  refine Zz7 fun J5 hJ5 => ?_
  have k5 : ∀ any w1, Chg No w w1 -> (any = true ↔ ∃ b ∈ bl s, Zx2 ps b ≠ none) -> J5 (((subst ps (bl s)).length : Nat) : Int) any w1:=by
    intro any w1 hc1 hany; subst hJ5
    refine Zzm (fun hf => ?_) (fun ht => ?_)
    · have e : subst ps (bl s) = bl s:=YfY ps fun b hb => by
        apply Classical.byContradiction
        intro hne
        rw [hany.2 ⟨b, hb, hne⟩] at hf; cases hf
      rw [e, Ybv] at K
      exact K w1 (hc1.mono fun _ _ h => h.elim)
    · generalize hN : (subst ps (bl s)).length = n at hn ⊢
      have H1:=H.step0 hc1
      refine H1.mkS (by rw [zeroC_u8]; rfl) (by omega) (by omega) (by omega) (by omega) fun b85 w2 H2 hb85 hc2 => ?_
      have ez : (List.replicate (n : Int).toNat (Zy2 Tryz.prog Zzs).toList).flatten = bcells (List.replicate n 0):=by
        rw [zeroC_u8, Int.toNat_natCast]
        simp [bcells]
      rw [ez] at H2
      refine ⟨fun j i w' t => ∃ (k : Nat) (pad : List UInt8), i = k /\ k <= s.size /\ t = s.size - k /\ j = ((subst ps ((bl s).take k)).length : Nat) /\ (subst ps ((bl s).take k) ++ pad).length = n /\ Hp w (Sb bB bt) w' [⟨b85, bcells (subst ps ((bl s).take k) ++ pad), Zzs⟩, ⟨bB, C ++ [.slice (some ⟨bt, 0, none⟩) ks.length tc], Zzg⟩, ⟨bt, strs (singles ks) ++ rt, Zz8⟩],
        ⟨_, 0, List.replicate n 0, rfl, Nat.zero_le _, rfl, rfl, by simp [subst], by rw [show subst ps ((bl s).take 0) ++ List.replicate n 0 = List.replicate n 0 from rfl]; exact H2⟩, ?_⟩
      rintro j i w3 t ⟨k, pad, rfl, hk, ht', rfl, hpl, H3⟩
      refine Zz4 (fun hlt => ?_) (fun hge => ?_)
      · have hb:=List.getElem?_eq_getElem (l:=bl s) (i:=k) (by omega)
        generalize hbb : (bl s)[k]'(by omega) = b at hb
        have htk:=subst_take (ps:=ps) hb
        have hle:=subst_take_le ps (bl s) (k + 1)
        rw [hN, htk, List.length_append] at hle
        rw [List.length_append] at hpl
        generalize hO : subst ps ((bl s).take k) = out at htk hle hpl H3 ⊢
        refine Zz7 fun J13 hJ13 => ?_
        have k13 : ∀ j' pad' w4, j' = (((out ++ (Zx2 ps b).getD [b]).length : Nat) : Int) -> (out ++ (Zx2 ps b).getD [b] ++ pad').length = n -> Hp w (Sb bB bt) w4 [⟨b85, bcells (out ++ (Zx2 ps b).getD [b] ++ pad'), Zzs⟩, ⟨bB, C ++ [.slice (some ⟨bt, 0, none⟩) ks.length tc], Zzg⟩, ⟨bt, strs (singles ks) ++ rt, Zz8⟩] -> J13 j' w4:=by
          intro j' pad' w4 g1 g2 g3; subst hJ13
          exact ⟨_, by omega, k + 1, pad', by rw [Zzb] <;> omega, by omega, rfl, by rw [htk]; exact g1, by rw [htk]; exact g2, by rw [htk]; exact g3⟩
        clear hJ13
        refine YbE (by omega) hlt fun b' hb' => ?_
        rw [Int.toNat_natCast, hb] at hb'
        obtain rfl:=Option.some.inj hb'
        refine ld _ 1 w3 b _ H3 rfl (fun hl => ?_) (fun bs a cc hl hbs => ?_)
        · refine Zz9 (fun h => by cases h) (fun _ => ?_)
          rw [hl] at k13 hle
          simp only [Option.getD_none, List.length_singleton] at k13 hle
          obtain ⟨p0, pad', rfl⟩ : ∃ p0 pad', pad = p0 :: pad':=by
            cases pad with
            | nil => simp at hpl; omega
            | cons p0 pad' => exact ⟨p0, pad', rfl⟩
          refine ⟨by omega, by simp only [Int.toNat_natCast]; omega, ?_⟩
          simp only [ZzC, Addr.add_mk, Int.toNat_natCast]
          refine H3.stV 0 rfl (off:=0 + out.length * 1) (by rw [Zyc]; simp) fun w6 H6 _ => ?_
          have eset : (bcells (out ++ p0 :: pad')).set (0 + out.length * 1) (.int .u8 ((b.toNat : Nat) : Int)) = bcells (out ++ [b] ++ pad'):=by
            rw [Nat.zero_add, Nat.mul_one]
            unfold bcells
            rw [List.map_append, List.set_append_right _ _ (by simp)]
            simp
          simp only [List.set_cons_zero] at H6
          rw [eset] at H6
          refine k13 _ pad' w6 ?_ ?_ H6
          · rw [Zzb] <;> first | omega | (simp; omega) | simp
          · simp at hpl ⊢; omega
        · refine Zz9 (fun _ => ?_) (fun h => by cases h)
          rw [hl] at k13 hle
          simp only [Option.getD_some] at k13 hle
          have hb1 : 1 <= bs.length:=by
            unfold Zx2 at hl
            obtain ⟨p, hp, rfl⟩:=Option.map_eq_some_iff.1 hl
            exact hv1 p (List.mem_of_find?_eq_some hp)
          refine ⟨out.length, n, n, rfl, rfl, rfl, by omega, Nat.le_refl _, Nat.le_refl _, ?_⟩
          rw [if_neg (by omega)]
          have H3d:=H3.drew
          refine ld _ 1 w3.drew b _ H3d rfl (fun hl' => by rw [hl] at hl'; cases hl') (fun bs' a' cc' hl' hbs' => ?_)
          rw [hl] at hl'
          obtain rfl:=Option.some.inj hl'
          simp only [Option.map_some, Addr.add_mk]
          refine Hp.cpy (b:=b85) (cs:=bcells (out ++ pad)) (e:=Zzs) H3d 0 rfl slT_u8 (off:=0 + out.length * 1) (l:=n - out.length) (m:=bs.length) (vs:=bcells bs) hbs' (by rintro ⟨⟩) (Yf6 _) (by rw [Zyc, List.length_append]; omega) fun w5 H5 _ => ?_
          have hmin : min bs.length (n - out.length) = bs.length:=by omega
          rw [hmin] at H5 ⊢
          have esp : splice (bcells (out ++ pad)) (0 + out.length * 1) ((bcells bs).take bs.length) = bcells (out ++ bs ++ pad.drop bs.length):=by
            rw [Nat.zero_add, Nat.mul_one, List.take_of_length_le (by rw [Zyc]; omega)]
            unfold splice bcells
            simp [List.drop_append]
          simp only [List.set_cons_zero] at H5
          rw [esp] at H5
          refine k13 _ (pad.drop bs.length) w5 ?_ ?_ H5
          · rw [Zzb] <;> first | omega | (simp; omega) | simp
          · simp; omega
      · have hks : k = s.size:=by omega
        rw [List.take_of_length_le (by omega)] at hpl H3
        have hpad : pad = []:=by
          rw [List.length_append, hN] at hpl
          exact List.eq_nil_of_length_eq_zero (by omega)
        subst hpad
        rw [List.append_nil] at H3
        have hrow:=H3.asRow 0 rfl (sz:=1) (l:=n) (c:=n) (xs:=bcells (subst ps (bl s))) (rest:=[]) (by simp) (by rw [Zyc, hN]; omega) (Nat.le_refl _) (by simp only [maxLen]; omega) (by rw [Zyc, hN]; omega)
        refine Zq2 hrow.bytes ?_
        exact K w3 H3.chg
  clear hJ5
  have h256 : (C ++ [Value.slice (some ⟨bt, 0, none⟩) ks.length tc])[256]? = some (.slice (some ⟨bt, 0, none⟩) ks.length tc):=by
    rw [List.getElem?_append_right (by rw [Tb.len]; omega), Tb.len]; rfl
  have hkl:=Tb.le
  simp only [ZzC, Addr.add_mk, Nat.zero_add]
  refine H.ldS 0 rfl (off:=256) h256 ?_
  have hlen:=subst_len ps (bl s)
  refine Zz4 (fun _ => ?_) (fun _ => ?_)
  · refine H.ldS 0 rfl (off:=256) h256 ?_
    refine ⟨fun ns any x w' t => ∃ i : Nat, x = i /\ i <= ks.length /\ t = ks.length - i /\ Chg No w w' /\ ns = (s.size : Int) + YcE ps (ks.take i) (bl s) /\ (any = true ↔ ∃ k ∈ ks.take i, k ∈ bl s), ⟨_, 0, rfl, Nat.zero_le _, rfl, Chg.refl _ _, by simp [YcE], by simp⟩, ?_⟩
    rintro ns any x w7 t ⟨i, rfl, hi, ht, hc7, rfl, hany⟩
    have H7:=H.step0 hc7
    refine Zz4 (fun hlt => ?_) (fun hge => ?_)
    · refine Zz7 fun J51 hJ51 => ?_
      have hk:=List.getElem?_eq_getElem (l:=ks) (i:=i) (by omega)
      generalize hkk : ks[i]'(by omega) = k at hk
      have hgt:=gainK_take (ps:=ps) (l:=bl s) hk
      have hgl:=gainK_le hv hv1 (l:=bl s) (by omega) (ks.take (i + 1))
      have hgl0:=gainK_le hv hv1 (l:=bl s) (by omega) (ks.take i)
      have htl : (ks.take (i + 1)).length <= 100:=by rw [List.length_take]; omega
      have htl0 : (ks.take i).length <= 100:=by rw [List.length_take]; omega
      have hmem : ∀ c, c ∈ ks.take (i + 1) ↔ c ∈ ks.take i \/ c = k:=by
        intro c
        obtain ⟨g1, g2⟩:=List.getElem?_eq_some_iff.1 hk
        rw [List.take_succ_eq_append_getElem g1, g2]; simp
      have k51 : ∀ ns' any' w8, ns' = (s.size : Int) + YcE ps (ks.take (i + 1)) (bl s) -> (any' = true ↔ ∃ k ∈ ks.take (i + 1), k ∈ bl s) -> Chg No w7 w8 -> J51 ns' any' w8:=by
        intro ns' any' w8 g1 g2 g3; subst hJ51
        exact ⟨_, by omega, i + 1, by rw [Zzb] <;> omega, by omega, rfl, hc7.trans0 g3, g1, g2⟩
      clear hJ51
      refine Yhb (H7.slAt 1 rfl F) (by omega) hlt fun x35 hx => ?_
      rw [Int.toNat_natCast] at hx
      unfold singles at hx
      rw [List.getElem?_map, hk] at hx
      obtain rfl:=Option.some.inj hx
      refine Count1_ok ?_
      have hcl:=List.count_le_length (a:=k) (l:=bl s)
      refine Zzi (fun hne => ?_) (fun h0 => ?_)
      · refine ⟨k, by decide, rfl, ?_⟩
        have hkin : k ∈ bl s:=List.count_pos_iff.1 (by omega)
        refine ld _ 0 w7.drew k _ H7.drew rfl (fun hl => absurd hl ((Tb.keys k).1 (List.mem_of_getElem? hk))) (fun bs a cc hl _ => ?_)
        have hdk : dI ps k = (bs.length : Int) - 1:=by unfold dI; rw [hl]
        have hbl:=dI_le hv hv1 k
        have a2 : ((bl s).count k : Int) * dI ps k <= (10000000 : Int) * 100:=Int.mul_le_mul (by omega) hbl.2 hbl.1 (by omega)
        have a1 : 0 <= ((bl s).count k : Int) * dI ps k:=Int.mul_nonneg (by omega) hbl.1
        refine k51 _ _ _ ?_ ⟨fun _ => ⟨k, (hmem k).2 (.inr rfl), hkin⟩, fun _ => rfl⟩ (Chg.refl _ _).drew
        have e1 : w64 ((bs.length : Int) - 1) = dI ps k:=by rw [hdk, Zzb] <;> omega
        have e2 : w64 (((bl s).count k : Int) * dI ps k) = ((bl s).count k : Int) * dI ps k:=by rw [Zzb] <;> omega
        rw [e1, e2, hgt, Zzb (by omega) (by omega)]
        omega
      · refine k51 _ _ _ ?_ ?_ (Chg.refl _ _)
        · rw [hgt, h0]; simp
        · rw [hany]
          constructor
          · rintro ⟨c, h1, h2⟩; exact ⟨c, (hmem c).2 (.inl h1), h2⟩
          · rintro ⟨c, h1, h2⟩
            rcases (hmem c).1 h1 with h | rfl
            · exact ⟨c, h, h2⟩
            · exact absurd (List.count_pos_iff.2 h2) (by omega)
    · rw [List.take_of_length_le (by omega)] at hany ⊢
      rw [gainK_gain Tb.nd Tb.keys, <- hsl, <- hlen]
      refine k5 any w7 hc7 ?_
      rw [hany]
      constructor
      · rintro ⟨c, h1, h2⟩; exact ⟨c, h2, (Tb.keys c).1 h1⟩
      · rintro ⟨c, h1, h2⟩; exact ⟨c, (Tb.keys c).2 h2, h1⟩
  · refine ⟨fun ns any x w' t => ∃ i : Nat, x = i /\ i <= s.size /\ t = s.size - i /\ Chg No w w' /\ ns = (s.size : Int) + gain ps ((bl s).take i) /\ (any = true ↔ ∃ k ∈ (bl s).take i, Zx2 ps k ≠ none), ⟨_, 0, rfl, Nat.zero_le _, rfl, Chg.refl _ _, by simp [gain], by simp⟩, ?_⟩
    rintro ns any x w7 t ⟨i, rfl, hi, ht, hc7, rfl, hany⟩
    have H7:=H.step0 hc7
    refine Zz4 (fun hlt => ?_) (fun hge => ?_)
    · refine Zz7 fun J51 hJ51 => ?_
      have hk:=List.getElem?_eq_getElem (l:=bl s) (i:=i) (by omega)
      generalize hkk : (bl s)[i]'(by omega) = k at hk
      have hgt:=gain_take (ps:=ps) hk
      have hgl0:=gain_le hv hv1 ((bl s).take i)
      have htl0 : ((bl s).take i).length <= s.size:=by rw [List.length_take]; omega
      have hmem : ∀ c, c ∈ (bl s).take (i + 1) ↔ c ∈ (bl s).take i \/ c = k:=by
        intro c
        obtain ⟨g1, g2⟩:=List.getElem?_eq_some_iff.1 hk
        rw [List.take_succ_eq_append_getElem g1, g2]; simp
      have k51 : ∀ ns' any' w8, ns' = (s.size : Int) + gain ps ((bl s).take (i + 1)) -> (any' = true ↔ ∃ k ∈ (bl s).take (i + 1), Zx2 ps k ≠ none) -> Chg No w7 w8 -> J51 ns' any' w8:=by
        intro ns' any' w8 g1 g2 g3; subst hJ51
        exact ⟨_, by omega, i + 1, by rw [Zzb] <;> omega, by omega, rfl, hc7.trans0 g3, g1, g2⟩
      clear hJ51
      refine YbE (by omega) hlt fun b' hb' => ?_
      rw [Int.toNat_natCast, hk] at hb'
      obtain rfl:=Option.some.inj hb'
      refine ld _ 0 w7 k _ H7 rfl (fun hl => ?_) (fun bs a cc hl _ => ?_)
      · refine Zz9 (fun h => by cases h) (fun _ => ?_)
        refine k51 _ _ _ ?_ ?_ (Chg.refl _ _)
        · rw [hgt]; unfold dI; rw [hl]; simp
        · rw [hany]
          constructor
          · rintro ⟨c, h1, h2⟩; exact ⟨c, (hmem c).2 (.inl h1), h2⟩
          · rintro ⟨c, h1, h2⟩
            rcases (hmem c).1 h1 with h | rfl
            · exact ⟨c, h, h2⟩
            · exact absurd hl h2
      · refine Zz9 (fun _ => ?_) (fun h => by cases h)
        refine ld _ 0 w7 k _ H7 rfl (fun hl' => by rw [hl] at hl'; cases hl') (fun bs' a' cc' hl' _ => ?_)
        rw [hl] at hl'
        obtain rfl:=Option.some.inj hl'
        have hdk : dI ps k = (bs.length : Int) - 1:=by unfold dI; rw [hl]
        have hbl:=dI_le hv hv1 k
        refine k51 _ _ _ ?_ ⟨fun _ => ⟨k, (hmem k).2 (.inr rfl), by rw [hl]; simp⟩, fun _ => rfl⟩ (Chg.refl _ _)
        have e1 : w64 ((bs.length : Int) - 1) = dI ps k:=by rw [hdk, Zzb] <;> omega
        rw [e1, hgt, Zzb (by omega) (by omega)]
        omega
    · rw [List.take_of_length_le (by omega)] at hany ⊢
      rw [<- hsl, <- hlen]
      exact k5 any w7 hc7 hany
end
end Go.Proofs.YtglnmjflpkeclaaGreatDoor
namespace Go.Vc
open Go Go.Lib
def txtP : List BP:=[(38, [38, 97, 109, 112, 59]), (60, [38, 108, 116, 59]), (62, [38, 103, 116, 59]), (13, [38, 35, 49, 51, 59])]
def YgQ : List BP:=[(38, [38, 97, 109, 112, 59]), (60, [38, 108, 116, 59]), (34, [38, 113, 117, 111, 116, 59]), (9, [38, 35, 57, 59]), (10, [38, 35, 49, 48, 59]), (13, [38, 35, 49, 51, 59])]
end Go.Vc
namespace Go.Proofs.YtglnmjflpkeclaaGreatDoor
open Go Go.Vc Go.Lib
section
variable {w : World}
theorem Replace_ok {ps : List BP} {b bq q : Nat} {rest : List Value} {s : ByteArray} {J : ByteArray -> World -> Prop} {w0 : World}
  (H : Hp w0 No w [⟨b, [.int .u32 0, .int .i32 0, .int .u32 0, .nilIface, .slice (some ⟨bq, 0, none⟩) (2 * ps.length) q], ZzQ⟩, ⟨bq, strs (olds ps) ++ rest, Zz8⟩]) (F : Fit (strs (olds ps)) rest (2 * ps.length) q 1)
  (h2 : 2 <= ps.length) (hm : ps.length <= 100) (h1 : ∀ p, ps[0]? = some p -> p.2.length ≠ 1) (hv : ∀ p ∈ ps, p.2.length <= 100) (hv1 : ∀ p ∈ ps, 1 <= p.2.length) (hs : s.size <= 10000000)
  (K : ∀ w', Chg No w0 w' -> J (mkB (subst ps (bl s))) w') :
  Zz0 Tryz.prog 90 #[.pointer (some ⟨b, 0, none⟩), .string s] w [.one .str] J:=by
 refine Calls.mono (Replace_hand (R:=fun e w' => ∃ r, e = .returned (.string r) /\ J r w') (b:=b) (s:=s) ?_) fun e w' he => ?_
 ·have hO:=OnceDo_ok H (J:=fun w1 => ∃ bB, w1.cell? ⟨b, 3, none⟩ = some (.iface Zzu (.pointer (some ⟨bB, 0, none⟩))) /\
   Calls Tryz.prog 275 #[.pointer (some ⟨bB, 0, none⟩), .string s] w1 fun e w2 => ∃ r, e = .returned (.string r) /\ ∃ r', Ending.returned (.string r) = .returned (.string r') /\ J r' w2) fun w1 H1 => by
   refine buildOnce_ok H1 F h2 hm h1 hv fun bB bt C ks rt tc w2 H2 F2 T2 => ?_
   refine ⟨_, _, H2, fun w3 H3 hc3 => ⟨bB, H3.cell 0 rfl rfl, ?_⟩⟩
   have T3 : Table w3 ps C ks:=T2.chg hc3 (by
    rintro x rfl h
    rw [Zzy (H2.get 0 rfl)] at h
    exact absurd h (by decide))
   have hS : ∀ x, x < w0.heap.size -> Sb bB bt x -> No x:=by
    rintro x hx (rfl | rfl)
    ·have:=H3.fresh 1 rfl (fun h => h); omega
    ·have:=H3.fresh 2 rfl (fun h => h); omega
   have H4 : Hp w3 (Sb bB bt) w3 [⟨bB, C ++ [.slice (some ⟨bt, 0, none⟩) ks.length tc], Zzg⟩, ⟨bt, strs (singles ks) ++ rt, Zz8⟩]:=by
    refine ((Hp.start w3 (Sb bB bt)).add (H3.get 2 rfl) (by simp) (fun _ => .inr rfl)).add (H3.get 1 rfl) ?_ (fun _ => .inl rfl)
    intro p hp
    rw [mem_singleton.1 hp]
    exact (H3.blk_ne (i:=2) (j:=1) rfl rfl (by decide))
   have hB:=BSR_ok (s:=s) (J:=fun r w' => J r w') H4 F2 T3 hv hv1 hm hs fun w' hc' => K w' (H3.chg.trans hc' hS)
   refine Calls.mono hB fun e w' he => ?_
   obtain ⟨r, rfl, hJ⟩:=he
   exact ⟨r, rfl, r, rfl, hJ⟩
  exact Calls.mono hO fun e w' he => ⟨he.1, he.2⟩
 ·obtain ⟨r, rfl, hJ⟩:=he
  exact ⟨r, rfl, hJ⟩
theorem Text_ok {s : ByteArray} {J : ByteArray -> World -> Prop} (hs : s.size <= 10000000) (K : ∀ w', Chg No w w' -> J (mkB (subst txtP (bl s))) w') :
  Zz0 Tryz.prog Ydv #[.string s] w [.one .str] J:=by
 refine c_refer_Text ?_
 refine newRow (e:=Zz8) (cs:=strs (olds txtP)) (sz:=1) (n:=8) rfl (by decide) fun b3 w1 hr1 _ hc1 => ?_
 refine YeX hr1.sl rfl (by decide) (by decide) fun b bq rest q w2 H2 F2 => ?_
 exact Replace_ok (ps:=txtP) H2 F2 (by decide) (by decide) (by decide) (by decide) (by decide) hs fun w' hc' => K w' (hc1.trans0 hc')
theorem Quote_ok {s : ByteArray} {J : ByteArray -> World -> Prop} (hs : s.size <= 10000000) (K : ∀ w', Chg No w w' -> J (mkB (subst YgQ (bl s))) w') :
  Zz0 Tryz.prog Zqk #[.string s] w [.one .str] J:=by
 refine c_refer_Quote ?_
 refine newRow (e:=Zz8) (cs:=strs (olds YgQ)) (sz:=1) (n:=12) rfl (by decide) fun b3 w1 hr1 _ hc1 => ?_
 refine YeX hr1.sl rfl (by decide) (by decide) fun b bq rest q w2 H2 F2 => ?_
 exact Replace_ok (ps:=YgQ) H2 F2 (by decide) (by decide) (by decide) (by decide) (by decide) hs fun w' hc' => K w' (hc1.trans0 hc')
end
end Go.Proofs.YtglnmjflpkeclaaGreatDoor
namespace Go.Vc
open Go Go.Lib
end Go.Vc
namespace Go.Proofs.YtglnmjflpkeclaaGreatDoor
open Go Go.Vc Go.Lib
section
variable {w : World}
end
end Go.Proofs.YtglnmjflpkeclaaGreatDoor
end
section
namespace Go.Vc
open Go Go.Lib
def hexV (b : UInt8) : Option Nat:=if 48 <= b.toNat /\ b.toNat <= 57 then some (b.toNat - 48) else if 97 <= b.toNat /\ b.toNat <= 102 then some (b.toNat - 87) else if 65 <= b.toNat /\ b.toNat <= 70 then some (b.toNat - 55) else none
theorem hexV_lt {b : UInt8} {d : Nat} (h : hexV b = some d) : d < 16:=by
 unfold hexV at h
 split at h
 ·cases h; omega
 ·split at h
  ·cases h; omega
  ·split at h
   ·cases h; omega
   ·cases h
theorem u8w {n : Nat} {k : Int} {m : Nat} (h : (n : Int) - k = m) (hm : m < 256) : IntKind.u8.wrap ((n : Int) - k) = m:=by
 rw [h]; simp [IntKind.wrap, IntKind.bits, IntKind.signed] <;> omega
end Go.Vc
namespace Go.Proofs.YtglnmjflpkeclaaGreatDoor
open Go Go.Vc Go.Lib
section
variable {w : World}
theorem Digit_ok {c : UInt8} {J : Int -> World -> Prop} (K : J (match hexV c with | some d => (d : Int) | none => 99) w) : Zz0 Tryz.prog Yb7 #[.int .u8 ((c.toNat : Nat) : Int)] w [.one (.int .i64)] J:=by
 refine c_refer_digit ?_
 have hc:=c.toNat_lt
 unfold hexV at K
 refine Zz7 fun J3 hJ3 => ?_
 have k3t : 48 <= c.toNat /\ c.toNat <= 57 -> J3 true w:=by
  intro h; subst hJ3
  rw [if_pos h] at K
  refine Zz9 (fun _ => ?_) (fun h => by cases h)
  rw [u8w (m:=c.toNat - 48) (by omega) (by omega), Zzb (by omega) (by omega)]; exact K
 have k3f : ¬ (48 <= c.toNat /\ c.toNat <= 57) -> J3 false w:=by
  intro h; subst hJ3
  rw [if_neg h] at K
  refine Zz9 (fun h => by cases h) (fun _ => ?_)
  refine Zz7 fun J13 hJ13 => ?_
  have k13t : 97 <= c.toNat /\ c.toNat <= 102 -> J13 true w:=by
   intro h; subst hJ13
   rw [if_pos h] at K
   refine Zz9 (fun _ => ?_) (fun h => by cases h)
   have e : w64 (((c.toNat - 97 : Nat) : Int)) = ((c.toNat - 97 : Nat) : Int):=by rw [Zzb] <;> omega
   rw [u8w (m:=c.toNat - 97) (by omega) (by omega), e, Zzb (by omega) (by omega), show ((c.toNat - 97 : Nat) : Int) + 10 = ((c.toNat - 87 : Nat) : Int) from by omega]; exact K
  have k13f : ¬ (97 <= c.toNat /\ c.toNat <= 102) -> J13 false w:=by
   intro h; subst hJ13
   rw [if_neg h] at K
   refine Zz9 (fun h => by cases h) (fun _ => ?_)
   refine Zz7 fun J24 hJ24 => ?_
   have k24t : 65 <= c.toNat /\ c.toNat <= 70 -> J24 true w:=by
    intro h; subst hJ24
    rw [if_pos h] at K
    refine Zz9 (fun _ => ?_) (fun h => by cases h)
    have e : w64 (((c.toNat - 65 : Nat) : Int)) = ((c.toNat - 65 : Nat) : Int):=by rw [Zzb] <;> omega
    rw [u8w (m:=c.toNat - 65) (by omega) (by omega), e, Zzb (by omega) (by omega), show ((c.toNat - 65 : Nat) : Int) + 10 = ((c.toNat - 55 : Nat) : Int) from by omega]; exact K
   have k24f : ¬ (65 <= c.toNat /\ c.toNat <= 70) -> J24 false w:=by
    intro h; subst hJ24
    rw [if_neg h] at K
    exact Zz9 (fun h => by cases h) (fun _ => K)
   clear hJ24
   refine Zz4 (fun h1 => ?_) (fun h1 => k24f (by omega))
   by_cases h2 : c.toNat <= 70
   ·rw [decide_eq_true (by omega)]; exact k24t ⟨by omega, h2⟩
   ·rw [decide_eq_false (by omega)]; exact k24f (by omega)
  clear hJ13
  refine Zz4 (fun h1 => ?_) (fun h1 => k13f (by omega))
  by_cases h2 : c.toNat <= 102
  ·rw [decide_eq_true (by omega)]; exact k13t ⟨by omega, h2⟩
  ·rw [decide_eq_false (by omega)]; exact k13f (by omega)
 clear hJ3
 refine Zz4 (fun h1 => ?_) (fun h1 => k3f (by omega))
 by_cases h2 : c.toNat <= 57
 ·rw [decide_eq_true (by omega)]; exact k3t ⟨by omega, h2⟩
 ·rw [decide_eq_false (by omega)]; exact k3f (by omega)
theorem HasPrefix_ok {s p : ByteArray} {J : Bool -> World -> Prop} (K : J ((bl p).isPrefixOf (bl s)) w) : Zz0 Tryz.prog Zym #[.string s, .string p] w [.one .bool] J:=by
 refine YaU ?_
 have hs:=Zzn s
 have hp:=Zzn p
 refine Zz7 fun J4 hJ4 => ?_
 subst hJ4
 refine Zz4 (fun h1 => ?_) (fun h1 => ?_)
 ·refine slStr_take (i:=p.size) (by omega) fun t ht _ => ?_
  rw [Ycl]
  have : decide (t = p) = (bl p).isPrefixOf (bl s):=by
   rw [Bool.eq_iff_iff, decide_eq_true_eq, isPrefixOf_iff_prefix, prefix_iff_eq_take, hp]
   exact ⟨fun e => by rw [<- ht, e], fun e => Zqt (by rw [ht, <- e])⟩
  rw [this]; exact K
 ·have : (bl p).isPrefixOf (bl s) = false:=by
   rw [Bool.eq_false_iff]
   intro h
   have:=(isPrefixOf_iff_prefix.1 h).length_le
   omega
  rw [this] at K; exact K
theorem YcB {s p : ByteArray} {J : ByteArray -> Bool -> World -> Prop} (K1 : ∀ t, (bl p).isPrefixOf (bl s) = true -> bl t = (bl s).drop p.size -> J t true w) (K2 : (bl p).isPrefixOf (bl s) = false -> J s false w) : Zz0 Tryz.prog ZyS #[.string s, .string p] w [.one .str, .one .bool] J:=by
 refine Yfl ?_
 refine YaV ?_
 refine HasPrefix_ok ?_
 have hs:=Zzn s
 have hp:=Zzn p
 refine Zzm (fun hf => K2 hf) (fun ht => ?_)
 have:=(isPrefixOf_iff_prefix.1 ht).length_le
 exact Zyw (i:=p.size) (by omega) fun t h1 _ => K1 t ht h1
end
end Go.Proofs.YtglnmjflpkeclaaGreatDoor
namespace Go.Vc
open Go Go.Lib
theorem Yd5 (bs : List UInt8) : Lib.bytesOf (bs.map fun b => (b.toNat : Int)) = bs:=by
 unfold Lib.bytesOf
 rw [map_map]
 conv => rhs; rw [<- map_id bs]
 apply map_congr_left
 intro b _
 simp
theorem run_ixb {P : Program} {w : World} {p : Option Addr} {l c : Nat} {bs : List UInt8} (h : Bytes w p l bs) (v : UInt8) :
  (Extern.BytealgIndexByte.indexByte #[.slice p l c, .int .u8 v.toNat]).run P w = .ok (.int .i64 (Lib.indexByte bs v)) w:=by
 have hs:=Lib.run_indexByteString (P:=P) ⟨bs.toArray⟩ (v.toNat : Int) w
 have hv : ((v.toNat : Int).toNat.toUInt8) = v:=by simp
 rw [hv] at hs
 have hl:=h.len
 have key : (Extern.Bytes.bytesOf (.slice p l c)).run P w = .ok ⟨bs.toArray⟩ w:=by
  cases p with
  | none =>
   have : bs = []:=by
    rcases h.2 with h0 | ⟨a, ha, _⟩
    ·exact eq_nil_of_length_eq_zero (by omega)
    ·cases ha
   subst this
   simp [Extern.Bytes.bytesOf]; rfl
  | some a =>
   have hc : ∀ j x, (bs.map fun b => (b.toNat : Int))[j]? = some x -> w.cell? (a.add j) = some (.int .u8 x):=by
    intro j x hx
    rcases h.2 with h0 | ⟨a', ha, hcs⟩
    ·have : bs = []:=eq_nil_of_length_eq_zero (by omega)
     subst this; simp at hx
    ·cases ha
     refine hcs j _ ?_
     unfold bcells
     rw [getElem?_map] at hx ⊢
     cases hb : bs[j]? with
     | none => simp [hb] at hx
     | some b => simp [hb] at hx ⊢; exact hx
   have:=Lib.run_loadBytesX (P:=P) w (bs.map fun b => (b.toNat : Int)) a .empty hc
   rw [length_map, Yd5, hl] at this
   have he : (⟨ByteArray.empty.data ++ bs.toArray⟩ : ByteArray) = ⟨bs.toArray⟩:=by
    apply ByteArray.ext
    show (#[] : Array UInt8) ++ bs.toArray = bs.toArray
    simp
   rw [he] at this
   simpa [Extern.Bytes.bytesOf] using this
 change Sem.run P (do
  let b <- Extern.Bytes.bytesOf (.slice p l c)
  let c' <- Extern.Bytes.asByte (.int .u8 (v.toNat : Int))
  match (range b.size).find? fun i => b[i]! == c' with
  | some i => pure (goInt i)
  | none => pure (goInt (-1))) w = _
 change Sem.run P (do
  let b <- Extern.Bytes.bytesOf (.string ⟨bs.toArray⟩)
  let c' <- Extern.Bytes.asByte (.int .u8 (v.toNat : Int))
  match (range b.size).find? fun i => b[i]! == c' with
  | some i => pure (goInt i)
  | none => pure (goInt (-1))) w = _ at hs
 simp only [Sem.run_bind, key, Result.andThen] at hs ⊢
 simp only [Extern.Bytes.bytesOf, Sem.run_pure] at hs
 exact hs
end Go.Vc
namespace Go.Proofs.YtglnmjflpkeclaaGreatDoor
open Go Go.Vc Go.Lib
section
variable {w : World}
theorem Yia {p : Option Addr} {l c : Nat} {bs : List UInt8} {v : UInt8} {J : Int -> World -> Prop} (h : Bytes w p l bs) (K : J (Lib.indexByte bs v) w) : Zz0 Tryz.prog Zxo #[.slice p l c, .int .u8 ((v.toNat : Nat) : Int)] w [.one (.int .i64)] J:=by
 refine Ygj ?_
 refine ⟨_, _, ?_, _, rfl, K⟩
 rw [run_callFunc_extern (fn:=Tryz.prog.funcs[Zqg]!) (by kernel_rfl) (by kernel_rfl) (by kernel_rfl) (by kernel_rfl) (e:=Extern.BytealgIndexByte.indexByte) (by kernel_rfl), run_ixb h]
 rfl
theorem YbS {p q : Option Addr} {l c m d : Nat} {bs ps : List UInt8} {J : Bool -> World -> Prop} (h : Bytes w p l bs) (h2 : Bytes w q m ps) (hlc : l <= c) (K : J (ps.isPrefixOf bs) w) : Zz0 Tryz.prog ZyM #[.slice p l c, .slice q m d] w [.one .bool] J:=by
 refine Ygk ?_
 have hl:=h.len
 have hm:=h2.len
 refine Zz7 fun J4 hJ4 => ?_
 subst hJ4
 refine Zz4 (fun h1 => ?_) (fun h1 => ?_)
 ·refine slS_sl (i:=0) (j:=m) h rfl rfl (Nat.zero_le _) (by omega) hlc fun q14 h14 _ => ?_
  have hb : Bytes w q14 (m - 0) (bs.take m):=by
   have e : ((bcells bs).drop (0 * 1)).take ((m - 0) * 1) = bcells (bs.take m):=by simp [bcells]
   rw [e] at h14; exact h14
  refine c_bytes_Equal ?_
  refine Zq2 hb (Zq2 h2 ?_)
  rw [Ycl]
  have : decide ((⟨(bs.take m).toArray⟩ : ByteArray) = ⟨ps.toArray⟩) = ps.isPrefixOf bs:=by
   rw [Bool.eq_iff_iff, decide_eq_true_eq, isPrefixOf_iff_prefix, prefix_iff_eq_take, show ps.length = m from by omega]
   exact ⟨fun e => by have:=congrArg bl e; simpa [bl] using this.symm, fun e => by rw [<- e]⟩
  rw [this]; exact K
 ·have : ps.isPrefixOf bs = false:=by
   rw [Bool.eq_false_iff]
   intro hh
   have:=(isPrefixOf_iff_prefix.1 hh).length_le
   omega
  rw [this] at K; exact K
end
end Go.Proofs.YtglnmjflpkeclaaGreatDoor
end
section
namespace Go.Vc
open Go Go.Lib
theorem appJ_str {P : Program} {t u e : TypeId} (ht : P.underlying t = some (.slice e)) (hu : P.underlying u = some .string) (hI : ∃ i : TypeInfo, P.info? e = some i /\ i.zero = some (.int .u8 0) /\ i.size = 1 /\ i.bytes = 1)
  {w0 w : World} {p : Option Addr} {l c : Nat} {xs : List UInt8} {s : ByteArray} {K : Option Addr -> Nat -> Nat -> World -> Prop} (h : Row w e 1 p l c (bcells xs)) (hlm : l + s.size <= 140737488355328)
  (hf : fresh w0 p) (hc : Chg No w0 w) (k : ∀ p' c' w', Row w' e 1 p' (l + s.size) c' (bcells (xs ++ bl s)) -> fresh w0 p' -> Chg No w0 w' -> K p' (l + s.size) c' w') :
  YeJ P t u (.slice p l c) (.string s) w K:=by
 obtain ⟨i, hi, hz, hsz, hby⟩:=hI
 have hown:=h.owns
 have hxl : (bcells xs).length = l:=by have:=h.1; omega
 obtain ⟨v', w', hr, ho, hg, hnil⟩:=Lib.run_append_own_string (P:=P) w 0 t u 0 e i ht hu hi hz hsz hby (.slice p l c) l (bcells xs) hown s (by simp only [maxLen]; omega) hlm (Nat.zero_le _)
 have hcg : Chg (isB p) w w':=Chg.of_grown hg (fun b hb => by
  cases p with
  | none => simp [Value.ownBlock] at hb
  | some x => simp [Value.ownBlock] at hb; exact ⟨x, rfl, hb⟩)
 obtain ⟨p', c', rfl, hrow⟩:=Row.of_owns ho
 have hce : bcells xs ++ Lib.strCells s = bcells (xs ++ bl s):=by
  unfold bcells Lib.strCells
  rw [map_append]
 rw [hce] at hrow
 refine ⟨p', l + s.size, c', w', fun ty => hr, k p' c' w' hrow ?_ (hc.trans hcg fun b hb ⟨a, ha, e⟩ => by have:=hf a ha; omega)⟩
 have hnew : ∀ q, Value.slice p' (l + s.size) c' = q -> (∃ cc, q = .slice (some ⟨w.heap.size, 0, none⟩) (l + s.size) cc) -> fresh w0 p':=by
  rintro q hq ⟨cc, hcc⟩ a ha
  rw [hcc] at hq
  injection hq with e1
  rw [ha] at e1
  injection e1 with e2
  rw [e2]
  exact hc.size
 rcases h.2 with ⟨rfl, rfl, rfl⟩ | ⟨b, rest, rfl, hh, hlc, hcm, hcs⟩
 ·have hx : xs = []:=eq_nil_of_length_eq_zero (by simpa [bcells] using hxl)
  by_cases h0 : s.size = 0
  ·have:=hnil.2 ⟨rfl, h0⟩
   injection this with e1
   intro a ha; rw [ha] at e1; cases e1
  ·have hr2:=run_append_nil_string (P:=P) w t u 0 e i (.int .u8 0) ht hu hi hz s (by omega) (by omega) (by rw [hby]; omega)
   rw [hr] at hr2
   injection hr2 with e1 e2
   exact hnew _ e1 ⟨_, by rw [Nat.zero_add]⟩
 ·by_cases hroom : l + s.size <= c
  ·have hr2:=Lib.run_append_room_string (P:=P) w t u 0 e i ht hu hi hsz b l c ⟨bcells xs ++ rest⟩ hh s hroom (by simp only [size_toArray]; omega)
   rw [hr] at hr2
   injection hr2 with e1 e2
   injection e1 with e3
   intro a ha; rw [ha] at e3
   exact hf a e3.symm
  ·have holds : ∀ j u, (bcells xs)[j]? = some u -> w.cell? ((⟨b, 0, none⟩ : Addr).add j) = some u:=by
    have:=h.sl
    rcases this.2 with h0 | ⟨a', ha, hc'⟩
    ·intro j u hu
     have hn : bcells xs = []:=eq_nil_of_length_eq_zero (by omega)
     rw [hn] at hu; simp at hu
    ·cases ha; exact hc'
   have hr2:=Lib.run_append_grow_string (P:=P) w t u 0 e i (.int .u8 0) ht hu hi hz ⟨b, 0, none⟩ l c (bcells xs) (by rw [hsz]; exact h.1) holds s (by omega) (by omega) (growslice_fits (by omega) (by rw [hby]; omega))
   rw [hr] at hr2
   injection hr2 with e1 e2
   exact hnew _ e1 ⟨_, rfl⟩
end Go.Vc
namespace Go.Proofs.YtglnmjflpkeclaaGreatDoor
open Go Go.Vc Go.Lib
theorem u8info : ∃ i : TypeInfo, Tryz.prog.info? Zzs = some i /\ i.zero = some (.int .u8 0) /\ i.size = 1 /\ i.bytes = 1:=by
 have h1 : ((Tryz.prog.info? Zzs).map fun i => (match i.zero with | some (.int k n) => k == .u8 && n == 0 | _ => false) && i.size == 1 && i.bytes == 1) = some true:=by kernel_rfl
 obtain ⟨i, h2, h3⟩:=Option.map_eq_some_iff.1 h1
 refine ⟨i, h2, ?_⟩
 simp only [Bool.and_eq_true, beq_iff_eq] at h3
 obtain ⟨⟨h4, h5⟩, h6⟩:=h3
 refine ⟨?_, h5, h6⟩
 split at h4
 ·rename_i k n hz
  rw [Bool.and_eq_true, beq_iff_eq, beq_iff_eq] at h4
  rw [hz, h4.1, h4.2]
 ·cases h4
theorem appStr {w0 w : World} {p : Option Addr} {l c : Nat} {xs : List UInt8} {s : ByteArray} {K : Option Addr -> Nat -> Nat -> World -> Prop} (h : Row w Zzs 1 p l c (bcells xs)) (hlm : l + s.size <= 140737488355328)
  (hf : fresh w0 p) (hc : Chg No w0 w) (k : ∀ p' c' w', Row w' Zzs 1 p' (l + s.size) c' (bcells (xs ++ bl s)) -> fresh w0 p' -> Chg No w0 w' -> K p' (l + s.size) c' w') :
  YeJ Tryz.prog Zzj Zz8 (.slice p l c) (.string s) w K :=
 appJ_str (by kernel_rfl) (by kernel_rfl) u8info h hlm hf hc k
end Go.Proofs.YtglnmjflpkeclaaGreatDoor
end
section
namespace Go.Vc
open Go Go.Lib
def okD (base : Nat) (c : UInt8) : Bool:=match hexV c with | some d => decide (d < base) | none => false
def dig (c : UInt8) : Nat:=(hexV c).getD 0
def val (base : Nat) (ds : List UInt8) : Nat:=ds.foldl (fun n c => n * base + dig c) 0
def numL (base : Nat) (ds : List UInt8) : Nat × Nat :=
 if ds = [] then (0, 22) else if ds.all (okD base) = false then (0, 22) else if chr (val base ds : Nat) then (val base ds, 0) else (0, 21)
def wordsL : List (List UInt8 × Nat):=[([108, 116], 60), ([103, 116], 62), ([97, 109, 112], 38), ([97, 112, 111, 115], 39), ([113, 117, 111, 116], 34)]
def wordL (s : List UInt8) : Option Nat:=(wordsL.find? (fun p => p.1 == s)).map (·.2)
def hashL (s : List UInt8) : Nat × Nat :=
 if [35].isPrefixOf s then (if [120].isPrefixOf (s.drop 1) then numL 16 (s.drop 2) else numL 10 (s.drop 1)) else (0, 22)
def YaC (s : List UInt8) : Nat × Nat:=match wordL s with | some c => (c, 0) | none => hashL s
def selL (n : Nat) (m : Nat × Nat) : Nat × Nat × Nat:=if m.2 = 0 then (m.1, n + 1, 0) else (0, 0, m.2)
def Ygx (x : List UInt8) : Nat × Nat × Nat:=if 59 ∈ x then selL (x.takeWhile (· != 59)).length (YaC (x.takeWhile (· != 59))) else (0, 0, 22)
theorem tw_semi {s r : List UInt8} (h : 59 ∉ s) : (s ++ 59 :: r).takeWhile (· != 59) = s:=by
 rw [takeWhile_append_of_pos (fun a ha => by rw [bne_iff_ne]; rintro rfl; exact h ha)]
 simp
theorem expL_eq {s r : List UInt8} (h : 59 ∉ s) : Ygx (s ++ 59 :: r) = selL s.length (YaC s):=by
 unfold Ygx
 rw [if_pos (by simp), tw_semi h]
theorem YhK {x : List UInt8} (h : 59 ∉ x) : Ygx x = (0, 0, 22):=if_neg h
theorem index_none : ∀ {l : List UInt8} {c : UInt8}, c ∉ l -> indexByte l c = -1
 | [], _, _ => rfl
 | b :: l, c, h => by
  unfold indexByte
  rw [if_neg (by simp; rintro rfl; exact h (by simp)), index_none (fun hm => h (by simp [hm]))]; rfl
theorem index_some : ∀ {s r : List UInt8} {c : UInt8}, c ∉ s -> indexByte (s ++ c :: r) c = s.length
 | [], _, _, _ => by unfold indexByte; simp
 | b :: l, r, c, h => by
  rw [cons_append]
  unfold indexByte
  rw [if_neg (by simp; rintro rfl; exact h (by simp)), index_some (fun hm => h (by simp [hm]))]
  rw [if_neg (by simp <;> omega), length_cons]; rfl
theorem val_snoc (base : Nat) (ds : List UInt8) (c : UInt8) : val base (ds ++ [c]) = val base ds * base + dig c:=by
 unfold val; rw [foldl_append]; rfl
theorem dig_lt (c : UInt8) : dig c < 16:=by
 unfold dig
 cases h : hexV c with
 | none => decide
 | some d => exact hexV_lt h
theorem dig_of {base : Nat} {c : UInt8} (h : okD base c = true) : hexV c = some (dig c) /\ dig c < base:=by
 unfold okD at h
 cases h1 : hexV c with
 | none => rw [h1] at h; cases h
 | some d => rw [h1] at h; unfold dig; rw [h1]; exact ⟨rfl, of_decide_eq_true h⟩
theorem chr_big {n : Nat} (h : 1114112 <= n) : chr (n : Int) = false:=by
 unfold chr; rw [decide_eq_false_iff_not]; unfold Chr; omega
theorem min_chr (n : Nat) : chr ((min n 1114112 : Nat) : Int) = chr (n : Int):=by
 rcases Nat.lt_or_ge n 1114112 with h | h
 ·rw [Nat.min_eq_left (by omega)]
 ·rw [Nat.min_eq_right h, chr_big (Nat.le_refl _), chr_big h]
theorem min_step {n base c : Nat} (hb : 1 <= base) : min (min n 1114112 * base + c) 1114112 = min (n * base + c) 1114112:=by
 rcases Nat.lt_or_ge n 1114112 with h | h
 ·rw [Nat.min_eq_left (a:=n) (by omega)]
 ·rw [Nat.min_eq_right (a:=n) h]
  have h1 : n * 1 <= n * base:=Nat.mul_le_mul_left _ hb
  have h2 : 1114112 * 1 <= 1114112 * base:=Nat.mul_le_mul_left _ hb
  generalize n * base = q at *
  generalize 1114112 * base = q2 at *
  omega
def Zyf (value : Bool) (y : List UInt8) : List UInt8 × Nat × Nat :=
 if (rd y).2 = 0 then ([], 0, 20)
 else if chr (rd y).1 = false then ([], 0, 21)
 else if (rd y).1 = 60 \/ (value = false /\ [93, 93, 62].isPrefixOf y = true) then ([], 0, 23)
 else if (rd y).1 = 38 then (if (Ygx (y.drop 1)).2.2 = 0 then (YeN (Ygx (y.drop 1)).1, 1 + (Ygx (y.drop 1)).2.1, 0) else ([], 0, (Ygx (y.drop 1)).2.2))
 else if value = true /\ ((rd y).1 = 9 \/ (rd y).1 = 10 \/ (rd y).1 = 13) then ([32], (rd y).2, 0)
 else (YeN (rd y).1, (rd y).2, 0)
theorem Yfu {value : Bool} {y : List UInt8} (h : (Zyf value y).2.2 = 0) : 1 <= (Zyf value y).2.1:=by
 unfold Zyf at h ⊢
 by_cases h1 : (rd y).2 = 0
 ·rw [if_pos h1] at h; cases h
 rw [if_neg h1] at h ⊢
 by_cases h2 : chr (rd y).1 = false
 ·rw [if_pos h2] at h; cases h
 rw [if_neg h2] at h ⊢
 split at h
 ·cases h
 ·rename_i h3
  rw [if_neg h3]
  split
  ·split
   ·exact Nat.le_add_right _ _
   ·rename_i h4 h5
    rw [if_pos h4, if_neg h5] at h
    exact absurd h h5
  ·split
   ·show 1 <= (rd y).2; omega
   ·show 1 <= (rd y).2; omega
theorem expL_le (x : List UInt8) : (Ygx x).2.1 <= x.length:=by
 by_cases hx : 59 ∈ x
 ·obtain ⟨s, r, rfl, hs⟩:=eq_append_cons_of_mem hx
  rw [expL_eq hs]
  unfold selL
  split <;> simp
 ·rw [YhK hx]; simp
theorem words_chr : ∀ p ∈ wordsL, chr (p.2 : Int) = true /\ p.2 <= 1114111:=by decide
theorem chr_le {n : Nat} (h : chr (n : Int) = true) : n < 55296 \/ (57344 <= n /\ n <= 1114111):=by
 have:=of_decide_eq_true h
 unfold Chr at this; omega
theorem numL_chr {base : Nat} {s : List UInt8} (h : (numL base s).2 = 0) : chr ((numL base s).1 : Int) = true:=by
 unfold numL at h ⊢
 repeat' split
 all_goals simp_all
theorem meantL_chr {s : List UInt8} (h : (YaC s).2 = 0) : chr ((YaC s).1 : Int) = true:=by
 unfold YaC at h ⊢
 cases hw : wordL s with
 | some c =>
  simp only
  unfold wordL at hw
  obtain ⟨p, hp, rfl⟩:=Option.map_eq_some_iff.1 hw
  exact (words_chr p (mem_of_find?_eq_some hp)).1
 | none =>
  rw [hw] at h
  simp only at h ⊢
  unfold hashL at h ⊢
  split
  ·rename_i h1
   rw [if_pos h1] at h
   split
   ·rename_i h2; rw [if_pos h2] at h; exact numL_chr h
   ·rename_i h2; rw [if_neg h2] at h; exact numL_chr h
  ·rename_i h1; rw [if_neg h1] at h; cases h
theorem expL_chr {x : List UInt8} (h : (Ygx x).2.2 = 0) : chr ((Ygx x).1 : Int) = true:=by
 unfold Ygx at h ⊢
 split
 ·rename_i h1
  rw [if_pos h1] at h
  unfold selL at h ⊢
  split
  ·rename_i h2; exact meantL_chr h2
  ·rename_i h2; rw [if_neg h2] at h; exact absurd h h2
 ·rename_i h1; rw [if_neg h1] at h; cases h
theorem stepL_le {value : Bool} {y : List UInt8} (hy : y ≠ []) : (Zyf value y).2.1 <= y.length /\ (Zyf value y).1.length <= 4:=by
 have h1:=Yfy y hy
 have h2:=expL_le (y.drop 1)
 rw [length_drop] at h2
 have h3 : 0 < y.length:=length_pos_iff.2 hy
 have h4:=YgZ (rd y).1
 have h5:=YgZ (Ygx (y.drop 1)).1
 unfold Zyf
 repeat' split
 all_goals simp_all
 all_goals omega
def ZyB (value : Bool) (i : Nat) (y : List UInt8) (out : List UInt8) : List UInt8 × Nat × Nat :=
 if h : y = [] then (out, 0, 0)
 else if h2 : (Zyf value y).2.2 = 0 then ZyB value (i + (Zyf value y).2.1) (y.drop (Zyf value y).2.1) (out ++ (Zyf value y).1)
 else ([], i, (Zyf value y).2.2)
termination_by y.length
decreasing_by
 have:=Yfu h2
 have:=length_pos_iff.2 h
 rw [length_drop]; omega
theorem Yba (value : Bool) (i : Nat) (out : List UInt8) : ZyB value i [] out = (out, 0, 0):=by unfold ZyB; simp
theorem YcZ {value : Bool} {i : Nat} {y out : List UInt8} (h : y ≠ []) (h2 : (Zyf value y).2.2 = 0) : ZyB value i y out = ZyB value (i + (Zyf value y).2.1) (y.drop (Zyf value y).2.1) (out ++ (Zyf value y).1):=by
 rw [ZyB]; simp [h, h2]
theorem Yef {value : Bool} {i : Nat} {y out : List UInt8} (h : y ≠ []) (h2 : (Zyf value y).2.2 ≠ 0) : ZyB value i y out = ([], i, (Zyf value y).2.2):=by
 unfold ZyB; simp [h, h2]
end Go.Vc
namespace Go.Vc
open Go Go.Lib
theorem word_none {s : ByteArray} (h1 : ¬ s = ⟨#[108, 116]⟩) (h2 : ¬ s = ⟨#[103, 116]⟩) (h3 : ¬ s = ⟨#[97, 109, 112]⟩) (h4 : ¬ s = ⟨#[97, 112, 111, 115]⟩) (h5 : ¬ s = ⟨#[113, 117, 111, 116]⟩) : wordL (bl s) = none:=by
 have g : ∀ l : List UInt8, ¬ s = ⟨l.toArray⟩ -> ¬ l = bl s:=fun l h e => h (Zqt (by rw [<- e]))
 unfold wordL
 rw [Option.map_eq_none_iff, find?_eq_none]
 intro p hp
 rw [beq_iff_eq]
 simp only [wordsL, mem_cons, not_mem_nil, or_false] at hp
 rcases hp with rfl | rfl | rfl | rfl | rfl
 ·exact g [108, 116] h1
 ·exact g [103, 116] h2
 ·exact g [97, 109, 112] h3
 ·exact g [97, 112, 111, 115] h4
 ·exact g [113, 117, 111, 116] h5
theorem take_snoc {l : List UInt8} {k : Nat} {c : UInt8} (h : l[k]? = some c) : l.take (k + 1) = l.take k ++ [c]:=by
  obtain ⟨h1, h2⟩:=List.getElem?_eq_some_iff.1 h
  rw [List.take_succ_eq_append_getElem h1, h2]
theorem all_snoc {p : UInt8 -> Bool} {l : List UInt8} {k : Nat} {c : UInt8} (h : l[k]? = some c) : (l.take (k + 1)).all p = ((l.take k).all p && p c):=by
 rw [take_snoc h, all_append]; simp
theorem all_bad {p : UInt8 -> Bool} {l : List UInt8} {k : Nat} {c : UInt8} (h : l[k]? = some c) (hp : p c = false) : l.all p = false:=by
 rw [Bool.eq_false_iff]
 intro ha
 have:=all_eq_true.1 ha c (mem_of_getElem? h)
 rw [hp] at this; cases this
theorem dig_ge {c : UInt8} {base : Nat} (h : okD base c = false) (hb : base <= 99) : (base : Int) <= (match hexV c with | some d => (d : Int) | none => 99):=by
 unfold okD at h
 cases h1 : hexV c with
 | none => simp only; omega
 | some d => rw [h1] at h; simp only at h ⊢; have:=of_decide_eq_false h; omega
end Go.Vc
namespace Go.Proofs.YtglnmjflpkeclaaGreatDoor
open Go Go.Vc Go.Lib
section
variable {w : World}
set_option maxRecDepth 100000 in
theorem Meant_ok {s : ByteArray} {J : Int -> Int -> World -> Prop} (hs : s.size <= 140737488355328)
  (K : ∀ w', Chg No w w' -> J ((YaC (bl s)).1 : Int) ((YaC (bl s)).2 : Int) w') : Zz0 Tryz.prog YcM #[.string s] w [.one (.int .i32), .one (.int .i64)] J:=by
 refine c_refer_meant ?_
 simp only [Ycl]
 refine Zz4 (fun h => ?_) (fun h1 => ?_)
 ·subst h; have:=K w (Chg.refl _ _); rw [show YaC (bl ⟨#[108, 116]⟩) = (60, 0) from by decide] at this; exact this
 refine Zz4 (fun h => ?_) (fun h2 => ?_)
 ·subst h; have:=K w (Chg.refl _ _); rw [show YaC (bl ⟨#[103, 116]⟩) = (62, 0) from by decide] at this; exact this
 refine Zz4 (fun h => ?_) (fun h3 => ?_)
 ·subst h; have:=K w (Chg.refl _ _); rw [show YaC (bl ⟨#[97, 109, 112]⟩) = (38, 0) from by decide] at this; exact this
 refine Zz4 (fun h => ?_) (fun h4 => ?_)
 ·subst h; have:=K w (Chg.refl _ _); rw [show YaC (bl ⟨#[97, 112, 111, 115]⟩) = (39, 0) from by decide] at this; exact this
 refine Zz4 (fun h => ?_) (fun h5 => ?_)
 ·subst h; have:=K w (Chg.refl _ _); rw [show YaC (bl ⟨#[113, 117, 111, 116]⟩) = (34, 0) from by decide] at this; exact this
 have hm : YaC (bl s) = hashL (bl s):=by unfold YaC; rw [word_none h1 h2 h3 h4 h5]
 rw [hm] at K
 clear hm h1 h2 h3 h4 h5
 unfold hashL at K
 have hsl:=Zzn s
 -- the digits
 have core : ∀ (f : Bool) (J4 : ByteArray -> Int -> World -> Prop), J4 = (fun (digits4 : ByteArray) (base6 : Int) (w2 : World) =>
   Zzf (fun (x41 : Bool) (w3 : World) => Zz1 x41 (J (0 : Int) (22 : Int) w3) (
    cvJ Tryz.prog Zz8 Zzj (.string digits4) w3 fun q43p q43l q43c w4 =>
    ∃ I_9 : Int -> Int -> World -> Nat -> Prop, (∃ m : Nat, I_9 (0 : Int) (0 : Int) w4 m) /\ ∀ (n9 : Int) (x45 : Int) (w5 : World) (m : Nat), I_9 n9 x45 w5 m -> (
    Zz1 (decide (x45 < ((q43l : Nat) : Int))) (
    ZzS q43p q43l x45 fun a47 =>
    ldI .u8 w5 ((a47.add (x45.toNat * 1))) fun x48 =>
    Zz0 Tryz.prog Yb7 #[.int .u8 x48] w5 [.one (.int .i64)] fun (r50 : Int) (w6 : World) =>
    Zz1 (decide (r50 >= base6)) (
    J (0 : Int) (22 : Int) w6) (
    ∃ m' : Nat, m' < m /\ I_9 (if (1114112 : Int) < (w64 ((w64 (n9 * base6)) + r50)) then (1114112 : Int) else (w64 ((w64 (n9 * base6)) + r50))) (w64 (x45 + (1 : Int))) w6 m')) (
    Zz0 Tryz.prog Yaa #[.int .i32 (IntKind.i32.wrap n9)] w5 [.one .bool] fun (r63 : Bool) (w7 : World) =>
    Zz1 (!r63) (
    J (0 : Int) (21 : Int) w7) (
    J (IntKind.i32.wrap n9) (0 : Int) w7)))) : Bool -> World -> Prop) fun J_41 =>
   Zz1 (!f) (J_41 true w2) (J_41 (decide (digits4 = (⟨#[]⟩ : ByteArray))) w2)) ->
   ∀ (d : ByteArray) (base : Nat) (w2 : World), (base = 10 \/ base = 16) -> d.size <= 140737488355328 -> Chg No w w2 ->
    (f = false -> ∀ w', Chg No w w' -> J 0 22 w') -> (f = true -> ∀ w', Chg No w w' -> J ((numL base (bl d)).1 : Int) ((numL base (bl d)).2 : Int) w') -> J4 d (base : Int) w2:=by
  intro f J4 hJ4 d base w2 hb hd hc2 K0 K1
  subst hJ4
  refine Zz7 fun J41 hJ41 => ?_
  have hdl:=Zzn d
  cases f with
  | false => subst hJ41; exact Zz9 (fun _ => K0 rfl w2 hc2) (fun h => by cases h)
  | true =>
   have K1:=K1 rfl
   refine Zz9 (fun h => by cases h) (fun _ => ?_)
   subst hJ41
   refine Zz4 (fun h0 => ?_) (fun h0 => ?_)
   ·subst h0; exact K1 w2 hc2
   have hne : bl d ≠ []:=fun e => h0 (Zqt e)
   refine cvB fun b c w4 hB hb4 hc4 => ?_
   have c04:=hc2.trans0 hc4
   refine ⟨fun n x w' t => ∃ k : Nat, x = k /\ k <= d.size /\ t = d.size - k /\ n = ((min (val base ((bl d).take k)) 1114112 : Nat) : Int) /\ ((bl d).take k).all (okD base) = true /\ w' = w4, ⟨_, 0, rfl, Nat.zero_le _, rfl, rfl, by simp⟩, ?_⟩
   rintro n x w5 t ⟨k, rfl, hk, ht, rfl, hall, rfl⟩
   refine Zz4 (fun hlt => ?_) (fun hge => ?_)
   ·refine Ycb hB (by omega) hlt fun ch hch => ?_
    rw [Int.toNat_natCast] at hch
    refine Digit_ok ?_
    cases hok : okD base ch with
    | false =>
     refine Zz4 (fun _ => ?_) (fun h => absurd (dig_ge hok (by omega)) h)
     have:=K1 w5 c04
     unfold numL at this
     rw [if_neg hne, if_pos (all_bad hch hok)] at this
     exact this
    | true =>
     obtain ⟨g1, g2⟩:=dig_of hok
     rw [g1]
     simp only
     refine Zz4 (fun h => by omega) (fun _ => ?_)
     refine ⟨_, by omega, k + 1, by rw [Zzb] <;> omega, by omega, rfl, ?_, ?_, trivial⟩
     ·rw [take_snoc hch, val_snoc, <- min_step (by omega)]
      generalize val base ((bl d).take k) = v
      have hmul : min v 1114112 * base <= 1114112 * 16:=Nat.mul_le_mul (Nat.min_le_right _ _) (by omega)
      have e1 : ((min v 1114112 : Nat) : Int) * (base : Int) = ((min v 1114112 * base : Nat) : Int):=by rw [Int.natCast_mul]
      rw [e1]
      generalize min v 1114112 * base = q at *
      have hd16:=dig_lt ch
      have e2 : w64 ((q : Nat) : Int) = (q : Int):=Zzb (by omega) (by omega)
      rw [e2]
      have e3 : w64 ((q : Int) + (dig ch : Nat)) = ((q + dig ch : Nat) : Int):=by rw [Zzb] <;> omega
      rw [e3]
      split <;> omega
     ·rw [all_snoc hch, hall, hok]; rfl
   ·have hkk : k = d.size:=by omega
    subst hkk
    rw [take_of_length_le (by omega)] at hall ⊢
    have e1 : IntKind.i32.wrap ((min (val base (bl d)) 1114112 : Nat) : Int) = ((min (val base (bl d)) 1114112 : Nat) : Int):=wrap_i32 _ (by omega) (by omega)
    rw [e1]
    refine IsChar_ok fun w7 hc7 => ?_
    have K1:=K1 w7 (c04.trans0 hc7)
    unfold numL at K1
    rw [if_neg hne, if_neg (by rw [hall]; decide)] at K1
    rw [min_chr]
    refine Zzm (fun hc => ?_) (fun hc => ?_)
    ·rw [hc] at K1; exact K1
    ·rw [hc] at K1
     have hlt : val base (bl d) < 1114112:=by
      rcases Nat.lt_or_ge (val base (bl d)) 1114112 with h | h
      ·exact h
      ·rw [chr_big h] at hc; cases hc
     rw [Nat.min_eq_left (by omega)]
     exact K1
 refine YcB (fun t ht hbt => ?_) (fun hf => ?_)
 ·rw [if_pos ht] at K
  have htl : t.size <= s.size:=by rw [<- Zzn, <- Zzn s, hbt, length_drop]; omega
  have hbt' : bl t = (bl s).drop 1:=hbt
  refine Zz7 fun J4 hJ4 => ?_
  have core:=core true J4 hJ4
  clear hJ4
  refine YcB (fun u hu hbu => ?_) (fun hf => ?_)
  ·have hul : u.size <= t.size:=by rw [<- Zzn, <- Zzn t, hbu, length_drop]; omega
   have hbu' : bl u = (bl s).drop 2:=by
    have : bl u = (bl t).drop 1:=hbu
    rw [this, hbt', drop_drop]
   refine Zz9 (fun _ => ?_) (fun h => by cases h)
   refine core u 16 w (.inr rfl) (by omega) (Chg.refl _ _) (fun h => by cases h) (fun _ => ?_)
   rw [hbu']
   rw [hbt'] at hu
   rw [if_pos hu] at K
   exact K
  ·refine Zz9 (fun h => by cases h) (fun _ => ?_)
   refine core t 10 w (.inl rfl) (by omega) (Chg.refl _ _) (fun h => by cases h) (fun _ => ?_)
   rw [hbt'] at hf ⊢
   rw [if_neg (by rw [show [120].isPrefixOf ((bl s).drop 1) = false from hf]; decide)] at K
   exact K
 ·rw [if_neg (by rw [show [35].isPrefixOf (bl s) = false from hf]; decide)] at K
  refine Zz7 fun J4 hJ4 => ?_
  have core:=core false J4 hJ4
  clear hJ4
  refine YcB (fun u hu hbu => ?_) (fun hf => ?_)
  ·have hul : u.size <= s.size:=by rw [<- Zzn, <- Zzn s, hbu, length_drop]; omega
   refine Zz9 (fun _ => ?_) (fun h => by cases h)
   exact core u 16 w (.inr rfl) (by omega) (Chg.refl _ _) (fun _ => K) (fun h => by cases h)
  ·refine Zz9 (fun h => by cases h) (fun _ => ?_)
   exact core s 10 w (.inl rfl) (by omega) (Chg.refl _ _) (fun _ => K) (fun h => by cases h)
def endI (i : Nat) (x : Nat × Nat × Nat) : Int:=if x.2.2 = 0 then ((i + 1 + x.2.1 : Nat) : Int) else 0
theorem Expand_ok {p : Option Addr} {l c : Nat} {at_ : Int} {bs : List UInt8} {J : Int -> Int -> Int -> World -> Prop} (h : Bytes w p l bs) (hlc : l <= c) (hm : l <= 140737488355328)
    (K1 : (at_ < 0 \/ (l : Int) <= at_ \/ bs[at_.toNat]? ≠ some 38) -> J 0 0 1 w)
    (K2 : ∀ i : Nat, at_ = i -> i < l -> bs[i]? = some 38 -> ∀ w', Chg No w w' -> J ((Ygx (bs.drop (i + 1))).1 : Int) (endI i (Ygx (bs.drop (i + 1)))) ((Ygx (bs.drop (i + 1))).2.2 : Int) w') :
    Zz0 Tryz.prog Yc4 #[.slice p l c, .int .i64 at_] w [.one (.int .i32), .one (.int .i64), .one (.int .i64)] J:=by
  refine c_refer_Expand ?_
  have hbl:=h.len
  refine Zz7 fun J24 hJ24 => ?_
  have kT : (at_ < 0 \/ (l : Int) <= at_ \/ bs[at_.toNat]? ≠ some 38) -> J24 true w:=by
    intro hh; subst hJ24; exact Zz9 (fun _ => K1 hh) (fun h => by cases h)
  have kF : ∀ i : Nat, at_ = i -> i < l -> bs[i]? = some 38 -> J24 false w:=by
    intro i hi hil hb; subst hJ24
    refine Zz9 (fun h => by cases h) (fun _ => ?_)
    have K3:=K2 i hi hil hb
    subst hi
    refine cutB h (i:=i) (j:=l) (by omega) (Nat.le_refl _) hlc rfl rfl fun q27 h27 _ => ?_
    have hd : (bs.drop i).take (l - i) = 38 :: bs.drop (i + 1):=by
      obtain ⟨g1, g2⟩:=List.getElem?_eq_some_iff.1 hb
      rw [List.take_of_length_le (by rw [List.length_drop]; omega), List.drop_eq_getElem_cons g1, g2]
    rw [hd] at h27
    refine Yia (v:=59) h27 ?_
    by_cases hx : 59 ∈ bs.drop (i + 1)
    · obtain ⟨s, r, hsr, hs⟩:=List.eq_append_cons_of_mem hx
      rw [hsr] at h27 K3 ⊢
      rw [expL_eq hs] at K3
      have hlen:=congrArg List.length hsr
      rw [List.length_drop, List.length_append, List.length_cons] at hlen
      rw [show (38 : UInt8) :: (s ++ 59 :: r) = (38 :: s) ++ 59 :: r from rfl, index_some (by simp [hs]), List.length_cons]
      refine Zz4 (fun h => by omega) (fun _ => ?_)
      have e1 : w64 ((i : Int) + 1) = ((i + 1 : Nat) : Int):=by rw [Zzb] <;> omega
      have e2 : w64 ((i : Int) + ((s.length + 1 : Nat) : Int)) = ((i + 1 + s.length : Nat) : Int):=by rw [Zzb] <;> omega
      have e3 : w64 (((i + 1 + s.length : Nat) : Int) + 1) = ((i + 1 + s.length + 1 : Nat) : Int):=by rw [Zzb] <;> omega
      rw [e1, e2, e3]
      refine cutB h (i:=i + 1) (j:=i + 1 + s.length) (by omega) (by omega) hlc rfl rfl fun q38 h38 _ => ?_
      have hs2 : (bs.drop (i + 1)).take (i + 1 + s.length - (i + 1)) = s:=by
        rw [hsr, show i + 1 + s.length - (i + 1) = s.length from by omega, List.take_left' rfl]
      rw [hs2] at h38
      refine Zq2 h38 ?_
      have hsz : (⟨s.toArray⟩ : ByteArray).size = s.length:=by rw [<- Zzn]
      refine Meant_ok (by rw [hsz]; omega) fun w3 hc3 => ?_
      have K3:=K3 w3 hc3
      rw [show bl ⟨s.toArray⟩ = s from rfl]
      unfold selL endI at K3
      refine Zzi (fun hne => ?_) (fun he => ?_)
      · have hne' : ¬ (YaC s).2 = 0:=by omega
        rw [if_neg hne'] at K3
        simp only at K3
        rw [if_neg hne'] at K3
        exact K3
      · have he' : (YaC s).2 = 0:=by omega
        rw [if_pos he'] at K3
        simp only [if_true] at K3
        exact K3
    · rw [YhK hx] at K3
      rw [index_none (by simpa using hx)]
      exact Zz9 (fun _ => K3 w (Chg.refl _ _)) (fun h => by simp at h)
  clear hJ24
  refine Zz4 (fun h1 => kT (.inl h1)) (fun h1 => ?_)
  refine Zz4 (fun h2 => kT (.inr (.inl h2))) (fun h2 => ?_)
  refine Ycb h (by omega) (by omega) fun b hb => ?_
  by_cases h38 : b = 38
  · rw [h38] at hb ⊢
    exact kF at_.toNat (by omega) (by omega) hb
  · have e : (((b.toNat : Nat) : Int) != 38) = true:=by
      rw [bne_iff_ne]
      intro e
      exact h38 (UInt8.toNat_inj.1 (by show b.toNat = 38; omega))
    rw [e]
    refine kT (.inr (.inr ?_))
    rw [hb]
    intro e2; exact h38 (Option.some.inj e2)
end
end Go.Proofs.YtglnmjflpkeclaaGreatDoor
namespace Go.Vc
open Go Go.Lib
theorem drop_get {y : List UInt8} {j k : Nat} : (y.drop j)[k]? = y[j + k]? := by rw [getElem?_drop]
theorem u8of {c : UInt8} (d : UInt8) (h : (c.toNat : Int) = (d.toNat : Nat)) : c = d:=UInt8.toNat_inj.1 (by omega)
end Go.Vc
namespace Go.Proofs.YtglnmjflpkeclaaGreatDoor
open Go Go.Vc Go.Lib
section
variable {w : World}
end
end Go.Proofs.YtglnmjflpkeclaaGreatDoor
namespace Go.Vc
open Go Go.Lib
theorem enc_le {c : Nat} (h : c < 128) : (YeN c).length = 1:=by unfold YeN; rw [if_pos h]; rfl
theorem enc_rd (y : List UInt8) (h : (rd y).2 ≠ 0) : (YeN (rd y).1).length <= (rd y).2:=by
 rcases rd_facts y with ⟨h1, _⟩ | ⟨h1, h2⟩ | h1
 ·exact absurd h1 h
 ·rw [h1]; simp only; rw [enc_le h2]; exact Nat.le_refl _
 ·unfold YeN
  generalize (rd y).1 = c at *
  generalize (rd y).2 = n at *
  repeat' split
  all_goals simp only [length_cons, length_nil]
  all_goals omega
theorem exp_four {x : List UInt8} (h : (Ygx x).2.2 = 0) : 3 <= (Ygx x).2.1:=by
 by_cases hx : 59 ∈ x
 ·obtain ⟨s, r, rfl, hs⟩:=eq_append_cons_of_mem hx
  rw [expL_eq hs] at h ⊢
  unfold selL at h ⊢
  split
  ·rename_i h2
   show 3 <= s.length + 1
   have : 2 <= s.length:=by
    match s, h2 with
    | [], h2 => simp [YaC, wordL, wordsL, hashL] at h2
    | [a], h2 =>
     exfalso
     unfold YaC at h2
     have : wordL [a] = none:=by simp [wordL, wordsL]
     rw [this] at h2
     unfold hashL at h2
     simp only at h2
     split at h2
     ·simp [numL] at h2
     ·cases h2
    | a :: b :: s, _ => simp
   omega
  ·rename_i h2; rw [if_neg h2] at h; exact absurd h h2
 ·rw [YhK hx] at h; cases h
theorem stepL_out {value : Bool} {y : List UInt8} (h : (Zyf value y).2.2 = 0) : (Zyf value y).1.length <= (Zyf value y).2.1:=by
 have h5:=YgZ (Ygx (y.drop 1)).1
 unfold Zyf at h ⊢
 by_cases h1 : (rd y).2 = 0
 ·rw [if_pos h1] at h; cases h
 have h6:=enc_rd y h1
 rw [if_neg h1] at h ⊢
 by_cases h2 : chr (rd y).1 = false
 ·rw [if_pos h2] at h; cases h
 rw [if_neg h2] at h ⊢
 split at h
 ·cases h
 ·rename_i h3
  rw [if_neg h3]
  split
  ·split
   ·rename_i h7; have:=exp_four h7; show (YeN _).length <= 1 + _; omega
   ·rename_i h4 h5
    rw [if_pos h4, if_neg h5] at h
    exact absurd h h5
  ·split
   ·show 1 <= (rd y).2; omega
   ·exact h6
theorem rune32 : bl (Utf8.encode 32) = [32]:=by rw [bl_encode]; decide
theorem pre3 {y : List UInt8} (h : (rd y).1 = 38) (h2 : (rd y).2 ≠ 0) : (rd y).2 = 1 /\ y[0]? = some 38:=by
 rcases rd_facts y with ⟨h1, _⟩ | ⟨h1, h3⟩ | h1
 ·exact absurd h1 h2
 ·rw [h1] at h ⊢
  refine ⟨rfl, ?_⟩
  cases y with
  | nil => simp [gB] at h
  | cons b r =>
   have h' : b.toNat = 38:=h
   rw [getElem?_cons_zero, u8of (c:=b) 38 (by show (b.toNat : Int) = 38; omega)]
 ·omega
end Go.Vc
namespace Go.Proofs.YtglnmjflpkeclaaGreatDoor
open Go Go.Vc Go.Lib
section
variable {w : World}
theorem cvRune2 {r : Int} {K : ByteArray -> World -> Prop} (k : K (Utf8.encode r) w) : cvStrJ Tryz.prog T_int32 Zz8 (.int .i32 r) w K :=
 ⟨_, w, run_convert_int_string w T_int32 Zz8 .i32 r (by kernel_rfl) (by kernel_rfl), k⟩
theorem enc_chr {c : Nat} (h : chr (c : Int) = true) : bl (Utf8.encode (c : Int)) = YeN c:=by
 have:=chr_le h
 rw [bl_encode, if_pos ((valid_iff _).2 (by omega)), Int.toNat_natCast]
set_option maxRecDepth 100000 in
theorem ReadC_ok {p : Option Addr} {l c : Nat} {bs : List UInt8} {value : Bool} {J : ByteArray -> Int -> Int -> World -> Prop} (h : Bytes w p l bs) (hlc : l <= c) (hm : l <= 140737488355328) (T : Tabs w)
  (K : ∀ w', Chg No w w' -> J (mkB (ZyB value 0 bs []).1) ((ZyB value 0 bs []).2.1 : Int) ((ZyB value 0 bs []).2.2 : Int) w') :
  Zz0 Tryz.prog YbJ #[.slice p l c, .bool value] w [.one .str, .one (.int .i64), .one (.int .i64)] J:=by
 refine c_refer_read ?_
 have hbl:=h.len
 refine ⟨fun lp ll lc at8 w' t => ∃ (i : Nat) (out : List UInt8), at8 = i /\ i <= l /\ t = l - i /\ Row w' Zzs 1 lp ll lc (bcells out) /\ ll = out.length /\ out.length <= i /\ fresh w lp /\ Chg No w w' /\ ZyB value 0 bs [] = ZyB value i (bs.drop i) out,
  ⟨_, 0, [], rfl, Nat.zero_le _, rfl, Row.nil _ _ _, rfl, Nat.le_refl _, (by rintro a ⟨⟩), Chg.refl _ _, rfl⟩, ?_⟩
 rintro lp ll lc at8 w1 t ⟨i, out, rfl, hi, rfl, hr, rfl, ho, hf, hc, hrd⟩
 have hB:=h.chg hc (off_no _)
 have hyl : (bs.drop i).length = l - i:=by rw [length_drop, hbl]
 refine Zz4 (fun hlt => ?_) (fun hge => ?_)
 ·refine Next_ok hB hlc hm (T.chg hc) fun w2 hc2 => ?_
  have c2:=hc.trans0 hc2
  have hy : bs.drop i ≠ []:=Yeq (by omega)
  have hn : nxt bs (i : Int) = if (rd (bs.drop i)).2 = 0 then (0, 0, 20) else if chr (rd (bs.drop i)).1 = false then (0, 0, 21) else (((rd (bs.drop i)).1 : Int), (i : Int) + (rd (bs.drop i)).2, (0 : Int)):=by
   unfold nxt
   rw [if_neg (by omega), Int.toNat_natCast]
  have hle:=Yfy _ hy
  have hsl:=stepL_le (value:=value) hy
  have bad : ∀ (e : Nat) (w3 : World), e ≠ 0 -> (Zyf value (bs.drop i)).2.2 = e -> Chg No w w3 -> J ⟨#[]⟩ (i : Int) (e : Int) w3:=by
   intro e w3 he hs c3
   have:=K w3 c3
   rw [hrd, Yef hy (by rw [hs]; exact he), hs] at this
   exact this
  refine Zz7 fun J9 hJ9 => ?_
  have k9 : ∀ (r : Int) (s : ByteArray) (next : Int) (w3 : World), bl (Utf8.encode r) = (Zyf value (bs.drop i)).1 -> (Zyf value (bs.drop i)).2.2 = 0 -> next = ((i + (Zyf value (bs.drop i)).2.1 : Nat) : Int) -> Chg No w1 w3 -> J9 r next w3:=by
   intro r s next w3 hs h0 hnext c3; subst hJ9
   refine cvRune2 ?_
   have hsz : (Utf8.encode r).size = (Zyf value (bs.drop i)).1.length:=by rw [<- Zzn, hs]
   have hpos:=Yfu h0
   have hout:=stepL_out h0
   refine appStr (w0:=w) (hr.chg c3 (off_no _)) (by omega) hf (hc.trans0 c3) fun p' c' w5 hr5 hf5 hc5 => ?_
   refine ⟨_, ?_, i + (Zyf value (bs.drop i)).2.1, out ++ (Zyf value (bs.drop i)).1, hnext, by omega, rfl, ?_, ?_, ?_, hf5, hc5, ?_⟩
   ·omega
   ·rw [<- hs]; exact hr5
   ·rw [length_append, hsz]
   ·rw [length_append]; omega
   ·rw [hrd, YcZ hy h0, drop_drop]
  clear hJ9
  rw [hn]
  by_cases h1 : (rd (bs.drop i)).2 = 0
  ·rw [if_pos h1]
   refine Zz9 (fun _ => ?_) (fun h => by simp at h)
   exact bad 20 w2 (by decide) (by unfold Zyf; rw [if_pos h1]) c2
  rw [if_neg h1]
  by_cases h2 : chr (rd (bs.drop i)).1 = false
  ·rw [if_pos h2]
   refine Zz9 (fun _ => ?_) (fun h => by simp at h)
   exact bad 21 w2 (by decide) (by unfold Zyf; rw [if_neg h1, if_pos h2]) c2
  rw [if_neg h2]
  refine Zz9 (fun h => by simp at h) (fun _ => ?_)
  have h2' : chr (rd (bs.drop i)).1 = true:=by simpa using h2
  refine Zz7 fun J28 hJ28 => ?_
  have k28 : ∀ (b : Bool) (w3 : World), (b = true ↔ ((rd (bs.drop i)).1 = 60 \/ (value = false /\ [93, 93, 62].isPrefixOf (bs.drop i) = true))) -> Chg No w1 w3 -> J28 b w3:=by
   intro b w3 hb c3; subst hJ28
   refine Yan hb (fun hp => ?_) (fun hn => ?_)
   ·exact bad 23 w3 (by decide) (by unfold Zyf; rw [if_neg h1, if_neg h2, if_pos hp]) (hc.trans0 c3)
   refine Zzd (fun h38 => ?_) (fun h38 => ?_)
   ·have h38' : (rd (bs.drop i)).1 = 38:=by omega
    obtain ⟨q1, q2⟩:=pre3 h38' h1
    rw [drop_get, Nat.add_zero] at q2
    have hst : Zyf value (bs.drop i) = if (Ygx (bs.drop (i + 1))).2.2 = 0 then (YeN (Ygx (bs.drop (i + 1))).1, 1 + (Ygx (bs.drop (i + 1))).2.1, 0) else ([], 0, (Ygx (bs.drop (i + 1))).2.2):=by
     unfold Zyf; rw [if_neg h1, if_neg h2, if_neg hn, if_pos h38', drop_drop]
    refine Expand_ok (hB.chg c3 (off_no _)) hlc hm (fun hbad => ?_) fun j hj hjl hb2 w4 hc4 => ?_
    ·exfalso
     rw [Int.toNat_natCast] at hbad
     rcases hbad with h | h | h
     ·omega
     ·omega
     ·exact h q2
    ·have hij : i = j:=by omega
     subst hij
     refine Zzi (fun hne => ?_) (fun he => ?_)
     ·have hne' : ¬ (Ygx (bs.drop (i + 1))).2.2 = 0:=by omega
      rw [if_neg hne'] at hst
      exact bad _ w4 hne' (by rw [hst]) ((hc.trans0 c3).trans0 hc4)
     ·have he' : (Ygx (bs.drop (i + 1))).2.2 = 0:=by omega
      rw [if_pos he'] at hst
      refine k9 _ .empty _ w4 ?_ (by rw [hst]) ?_ (c3.trans0 hc4)
      ·rw [enc_chr (expL_chr he'), hst]
      ·unfold endI; rw [if_pos he', hst, Nat.add_assoc]
   ·have h38' : ¬ (rd (bs.drop i)).1 = 38:=by omega
    refine Zz7 fun J58 hJ58 => ?_
    have k58 : ∀ b : Bool, (b = true ↔ (value = true /\ ((rd (bs.drop i)).1 = 9 \/ (rd (bs.drop i)).1 = 10 \/ (rd (bs.drop i)).1 = 13))) -> J58 b w3:=by
     intro b hb; subst hJ58
     refine Yan hb (fun hp => ?_) (fun hq => ?_)
     ·have hst : Zyf value (bs.drop i) = ([32], (rd (bs.drop i)).2, 0):=by
       unfold Zyf; rw [if_neg h1, if_neg h2, if_neg hn, if_neg h38', if_pos hp]
      exact k9 _ .empty _ w3 (by rw [hst]; exact rune32) (by rw [hst]) (by rw [hst]; simp) c3
     ·have hst : Zyf value (bs.drop i) = (YeN (rd (bs.drop i)).1, (rd (bs.drop i)).2, 0):=by
       unfold Zyf; rw [if_neg h1, if_neg h2, if_neg hn, if_neg h38', if_neg hq]
      exact k9 _ .empty _ w3 (by rw [hst, enc_chr h2']) (by rw [hst]) (by rw [hst]; simp) c3
    clear hJ58
    refine Zz9 (fun hv => ?_) (fun hv => k58 _ (bF (by simp [hv])))
    refine Zzd (fun h => k58 _ (bT ⟨hv, by omega⟩)) (fun g1 => ?_)
    refine Zzd (fun h => k58 _ (bT ⟨hv, by omega⟩)) (fun g2 => ?_)
    exact k58 _ (bQ ⟨fun h => ⟨hv, by omega⟩, fun h => by have:=h.2; omega⟩)
  clear hJ28
  refine Zzd (fun h => k28 _ _ (bT (.inl (by omega))) hc2) (fun g1 => ?_)
  refine Zzm (fun hv => ?_) (fun hv => k28 _ _ (bF (by rw [hv]; simp; omega)) hc2)
  refine cutB (hB.chg hc2 (off_no _)) (i:=i) (j:=l) (by omega) (Nat.le_refl _) hlc rfl rfl fun q37 h37 _ => ?_
  rw [take_of_length_le (by omega)] at h37
  refine litB (bs:=[93, 93, 62]) rfl fun b39 w10 hB10 _ hc10 => ?_
  refine YbS (h37.chg hc10 (off_no _)) hB10 (by omega) ?_
  refine k28 _ _ ?_ (hc2.trans0 hc10)
  constructor
  ·intro hp; exact .inr ⟨hv, hp⟩
  ·rintro (h | h)
   ·omega
   ·exact h.2
 ·have hil : i = l:=by omega
  subst hil
  rw [drop_of_length_le (by omega), Yba] at hrd
  refine Zq2 hr.bytes ?_
  have:=K w1 hc
  rw [hrd] at this
  exact this
end
end Go.Proofs.YtglnmjflpkeclaaGreatDoor
namespace Go.Vc
open Go Go.Lib
theorem ofN {n : Nat} {a : UInt8} (h : n = a.toNat) : UInt8.ofNat n = a:=by subst h; simp
theorem Yd0 {y : List UInt8} (hy : y ≠ []) (h : (rd y).2 ≠ 0) : YeN (rd y).1 = y.take (rd y).2 /\ ((rd y).1 < 55296 \/ (57344 <= (rd y).1 /\ (rd y).1 <= 1114111)):=by
 match y, hy with
 | a :: r, _ =>
  have ha:=a.toNat_lt
  by_cases c0 : a.toNat < 128
  ·rw [ZzI a r c0]
   refine ⟨?_, .inl (by simp only; omega)⟩
   unfold YeN
   simp only
   rw [if_pos c0, ofN rfl]; rfl
  unfold rd rdN at h ⊢
  rw [Ydr] at h ⊢
  rw [if_neg c0] at h ⊢
  by_cases c1 : a.toNat < 192
  ·rw [if_pos c1] at h; exact absurd rfl h
  rw [if_neg c1] at h ⊢
  by_cases c2 : a.toNat < 224
  ·rw [if_pos c2] at h ⊢
   split at h
   ·rename_i g
    rw [if_pos g]
    match r, g with
    | [], g => simp at g
    | b :: r, g =>
     rw [YeE] at g ⊢
     have hb:=b.toNat_lt
     refine ⟨?_, .inl (by simp only; omega)⟩
     unfold YeN
     simp only
     rw [if_neg (by omega), if_pos (by omega), ofN (a:=a) (by omega), ofN (a:=b) (by omega)]; rfl
   ·exact absurd rfl h
  rw [if_neg c2] at h ⊢
  by_cases c3 : a.toNat < 240
  ·rw [if_pos c3] at h ⊢
   split at h
   ·rename_i g
    rw [if_pos g]
    match r, g with
    | [], g => simp at g
    | [_], g => simp at g
    | b :: c :: r, g =>
     rw [YeE, YgW] at g ⊢
     have hb:=b.toNat_lt
     have hc:=c.toNat_lt
     refine ⟨?_, by simp only; omega⟩
     unfold YeN
     simp only
     rw [if_neg (by omega), if_neg (by omega), if_pos (by omega), ofN (a:=a) (by omega), ofN (a:=b) (by omega), ofN (a:=c) (by omega)]; rfl
   ·exact absurd rfl h
  rw [if_neg c3] at h ⊢
  by_cases c4 : a.toNat < 248
  ·rw [if_pos c4] at h ⊢
   split at h
   ·rename_i g
    rw [if_pos g]
    match r, g with
    | [], g => simp at g
    | [_], g => simp at g
    | [_, _], g => simp at g
    | b :: c :: d :: r, g =>
     rw [YeE, YgW, gB_cons3] at g ⊢
     have hb:=b.toNat_lt
     have hc:=c.toNat_lt
     have hd:=d.toNat_lt
     refine ⟨?_, by simp only; omega⟩
     unfold YeN
     simp only
     rw [if_neg (by omega), if_neg (by omega), if_neg (by omega), ofN (a:=a) (by omega), ofN (a:=b) (by omega), ofN (a:=c) (by omega), ofN (a:=d) (by omega)]; rfl
   ·exact absurd rfl h
  ·rw [if_neg c4] at h; exact absurd rfl h
theorem rd_same {y z : List UInt8} (hy : y ≠ []) (h : (rd y).2 ≠ 0) (hz : z.take (rd y).2 = y.take (rd y).2) : rd z = rd y:=by
 obtain ⟨h1, h2⟩:=Yd0 hy h
 have h3 : (YeN (rd y).1).length = (rd y).2:=by rw [h1, length_take]; have:=Yfy y hy; omega
 have:=rd_enc (rd y).1 h2 (z.drop (rd y).2)
 rw [h1, <- hz, take_append_drop] at this
 rw [this, hz, <- h1, h3]
def Yab : Bool -> List BP
 | false => txtP
 | true => YgQ
theorem esc_key (v : Bool) : ∀ p ∈ Yab v, p.1.toNat < 128:=by cases v <;> decide
theorem esc_val (v : Bool) : ∀ p ∈ Yab v, ∀ x ∈ p.2, x.toNat < 128:=by cases v <;> decide
theorem esc_ne (v : Bool) : ∀ p ∈ Yab v, p.2 ≠ []:=by cases v <;> decide
theorem Ydp {ps : List BP} {b : UInt8} {r : List UInt8} (h : Zx2 ps b = some r) : ∃ p ∈ ps, p.1 = b /\ p.2 = r:=by
 unfold Zx2 at h
 obtain ⟨p, hp, rfl⟩:=Option.map_eq_some_iff.1 h
 exact ⟨p, mem_of_find?_eq_some hp, by simpa using find?_some hp, rfl⟩
theorem look_big (v : Bool) {b : UInt8} (h : 128 <= b.toNat) : Zx2 (Yab v) b = none:=by
 cases hl : Zx2 (Yab v) b with
 | none => rfl
 | some r =>
  obtain ⟨p, hp, rfl, _⟩:=Ydp hl
  have:=esc_key v p hp; omega
theorem sub_high (v : Bool) : ∀ (n : Nat) (s : List UInt8), (∀ j, j < n -> 128 <= gB (subst (Yab v) s) j) -> s.take n = (subst (Yab v) s).take n /\ n <= s.length
 | 0, _, _ => by simp
 | n + 1, [], h => by have:=h 0 (by omega); simp [subst, gB] at this
 | n + 1, b :: s, h => by
  rw [ZxN] at h ⊢
  cases hl : Zx2 (Yab v) b with
  | some r =>
   exfalso
   rw [hl] at h
   obtain ⟨p, hp, rfl, rfl⟩:=Ydp hl
   have h0:=h 0 (by omega)
   have hne:=esc_ne v p hp
   have hv:=esc_val v p hp
   cases hr : p.2 with
   | nil => exact hne hr
   | cons x r =>
    rw [hr] at h0 hv
    simp only [Option.getD_some, cons_append] at h0
    rw [Ydr] at h0
    have:=hv x (by simp); omega
  | none =>
   rw [hl] at h
   simp only [Option.getD_none, cons_append, nil_append] at h ⊢
   have ih:=sub_high v n s (fun j hj => by
    have:=h (j + 1) (by omega)
    simpa [gB] using this)
   exact ⟨by rw [take_succ_cons, take_succ_cons, ih.1], by have:=ih.2; simp; omega⟩
theorem sub_ne (v : Bool) {s : List UInt8} (hs : s ≠ []) : subst (Yab v) s ≠ []:=by
 match s, hs with
 | b :: r, _ =>
  rw [ZxN]
  intro e
  have h1:=append_eq_nil_iff.1 e
  cases hl : Zx2 (Yab v) b with
  | none => rw [hl] at h1; simp at h1
  | some m =>
   rw [hl] at h1
   obtain ⟨p, hp, rfl, rfl⟩:=Ydp hl
   exact esc_ne v p hp h1.1
theorem rd_sub_bad (v : Bool) {s : List UInt8} (hs : s ≠ []) (h : (rd s).2 = 0) : (rd (subst (Yab v) s)).2 = 0:=by
 rcases Nat.eq_zero_or_pos (rd (subst (Yab v) s)).2 with h0 | h0
 ·exact h0
 exfalso
 have hne : (rd (subst (Yab v) s)).2 ≠ 0:=by omega
 have hsn : subst (Yab v) s ≠ []:=sub_ne v hs
 match s, hs with
 | b :: s, _ =>
  by_cases hb : b.toNat < 128
  ·rw [ZzI b s hb] at h; cases h
  have hall : ∀ j, j < (rd (subst (Yab v) (b :: s))).2 -> 128 <= gB (subst (Yab v) (b :: s)) j:=by
   have h1 : 128 <= gB (subst (Yab v) (b :: s)) 0:=by
    rw [ZxN, look_big v (by omega)]
    show 128 <= gB (b :: subst (Yab v) s) 0
    rw [Ydr]; omega
   intro j hj
   rcases rd_facts (subst (Yab v) (b :: s)) with ⟨q, _⟩ | ⟨q, _⟩ | q | q | q
   ·exact absurd q hne
   ·rw [q] at hj; simp only at hj; obtain rfl : j = 0:=by omega
    exact h1
   ·have hj2 : j = 0 \/ j = 1:=by omega
    rcases hj2 with rfl | rfl
    ·exact h1
    ·exact q.2.2.2.1
   ·have hj2 : j = 0 \/ j = 1 \/ j = 2:=by omega
    rcases hj2 with rfl | rfl | rfl
    ·exact h1
    ·exact q.2.2.2.1
    ·exact q.2.2.2.2.1
   ·have hj2 : j = 0 \/ j = 1 \/ j = 2 \/ j = 3:=by omega
    rcases hj2 with rfl | rfl | rfl | rfl
    ·exact h1
    ·exact q.2.2.2.1
    ·exact q.2.2.2.2.1
    ·exact q.2.2.2.2.2.1
  have:=sub_high v _ _ hall
  have e:=rd_same hsn hne this.1
  rw [e] at h
  exact hne h
theorem Yha {y : List UInt8} (hy : y ≠ []) (h : (rd y).2 ≠ 0) : (∀ x ∈ y.take (rd y).2, 128 <= x.toNat) \/ ∃ b r, y = b :: r /\ b.toNat < 128 /\ rd y = (b.toNat, 1):=by
 match y, hy with
 | b :: r, _ =>
  by_cases hb : b.toNat < 128
  ·exact .inr ⟨b, r, rfl, hb, ZzI b r hb⟩
  ·left
   have key : ∀ j, j < (rd (b :: r)).2 -> 128 <= gB (b :: r) j:=by
    intro j hj
    have h1 : 128 <= gB (b :: r) 0:=by rw [Ydr]; omega
    rcases rd_facts (b :: r) with ⟨q, _⟩ | ⟨q, q2⟩ | q | q | q
    ·exact absurd q h
    ·omega
    ·have hj2 : j = 0 \/ j = 1:=by omega
     rcases hj2 with rfl | rfl
     ·exact h1
     ·exact q.2.2.2.1
    ·have hj2 : j = 0 \/ j = 1 \/ j = 2:=by omega
     rcases hj2 with rfl | rfl | rfl
     ·exact h1
     ·exact q.2.2.2.1
     ·exact q.2.2.2.2.1
    ·have hj2 : j = 0 \/ j = 1 \/ j = 2 \/ j = 3:=by omega
     rcases hj2 with rfl | rfl | rfl | rfl
     ·exact h1
     ·exact q.2.2.2.1
     ·exact q.2.2.2.2.1
     ·exact q.2.2.2.2.2.1
   intro x hx
   obtain ⟨j, hj⟩:=mem_iff_getElem?.1 hx
   rw [getElem?_take] at hj
   split at hj
   ·rename_i hlt
    have:=key j hlt
    rwa [YhE hj] at this
   ·cases hj
theorem esc_step (v : Bool) : ∀ p ∈ Yab v, ∃ m, p.2 = 38 :: m ++ [59] /\ (59 : UInt8) ∉ m /\ YaC m = (p.1.toNat, 0):=by
 intro p hp
 cases v with
 | false =>
  simp only [Yab, txtP, mem_cons, not_mem_nil, or_false] at hp
  rcases hp with rfl | rfl | rfl | rfl
  ·exact ⟨[97, 109, 112], rfl, by decide, by decide⟩
  ·exact ⟨[108, 116], rfl, by decide, by decide⟩
  ·exact ⟨[103, 116], rfl, by decide, by decide⟩
  ·exact ⟨[35, 49, 51], rfl, by decide, by decide⟩
 | true =>
  simp only [Yab, YgQ, mem_cons, not_mem_nil, or_false] at hp
  rcases hp with rfl | rfl | rfl | rfl | rfl | rfl
  ·exact ⟨[97, 109, 112], rfl, by decide, by decide⟩
  ·exact ⟨[108, 116], rfl, by decide, by decide⟩
  ·exact ⟨[113, 117, 111, 116], rfl, by decide, by decide⟩
  ·exact ⟨[35, 57], rfl, by decide, by decide⟩
  ·exact ⟨[35, 49, 48], rfl, by decide, by decide⟩
  ·exact ⟨[35, 49, 51], rfl, by decide, by decide⟩
theorem esc_chr (v : Bool) : ∀ p ∈ Yab v, chr (p.1.toNat : Int) = true:=by cases v <;> decide
theorem esc_all (v : Bool) : ∀ b : UInt8, Zx2 (Yab v) b = none -> b ≠ 38 /\ b ≠ 60 /\ b ≠ 13 /\ (v = true -> b ≠ 9 /\ b ≠ 10 /\ b ≠ 34) /\ (v = false -> b ≠ 62):=by
 intro b hb
 refine ⟨?_, ?_, ?_, ?_, ?_⟩
 ·rintro rfl; cases v <;> revert hb <;> decide
 ·rintro rfl; cases v <;> revert hb <;> decide
 ·rintro rfl; cases v <;> revert hb <;> decide
 ·rintro rfl; refine ⟨?_, ?_, ?_⟩ <;> (rintro rfl; revert hb; decide)
 ·rintro rfl; rintro rfl; revert hb; decide
theorem esc_vals (v : Bool) : ∀ p ∈ Yab v, ∀ x ∈ p.2, x ≠ 60 /\ x ≠ 62 /\ x ≠ 13 /\ x ≠ 34 /\ x ≠ 9 /\ x ≠ 10:=by cases v <;> decide
theorem Yft (v : Bool) : ∀ (s : List UInt8), ∀ x ∈ subst (Yab v) s, x ≠ 60 /\ x ≠ 13 /\ (v = true -> x ≠ 9 /\ x ≠ 10 /\ x ≠ 34) /\ (v = false -> x ≠ 62)
 | [], x, h => by simp [subst] at h
 | b :: s, x, h => by
  rw [ZxN, mem_append] at h
  rcases h with h | h
  ·cases hl : Zx2 (Yab v) b with
   | some r =>
    rw [hl] at h
    obtain ⟨p, hp, rfl, rfl⟩:=Ydp hl
    have:=esc_vals v p hp x h
    exact ⟨this.1, this.2.2.1, fun _ => ⟨this.2.2.2.2.1, this.2.2.2.2.2, this.2.2.2.1⟩, fun _ => this.2.1⟩
   | none =>
    rw [hl] at h
    obtain rfl : x = b:=by simpa using h
    have:=esc_all v x hl
    exact this.2
  ·exact Yft v s x h
theorem pre_mem {w x : List UInt8} {a : UInt8} (h : w.isPrefixOf x = true) (ha : a ∈ w) : a ∈ x:=(isPrefixOf_iff_prefix.1 h).subset ha
theorem sub_pre (v : Bool) (s : List UInt8) : ¬ (v = false /\ [93, 93, 62].isPrefixOf (subst (Yab v) s) = true):=by
 rintro ⟨hv, hp⟩
 exact (Yft v s 62 (pre_mem hp (by simp))).2.2.2 hv rfl
theorem step_sub (v : Bool) {s : List UInt8} (hs : s ≠ []) :
  ((rd s).2 = 0 /\ (Zyf v (subst (Yab v) s)).2.2 = 20) \/ ((rd s).2 ≠ 0 /\ chr (rd s).1 = false /\ (Zyf v (subst (Yab v) s)).2.2 = 21)
  \/ ((rd s).2 ≠ 0 /\ chr (rd s).1 = true /\ (Zyf v (subst (Yab v) s)).2.2 = 0 /\ (Zyf v (subst (Yab v) s)).1 = s.take (rd s).2 /\ (subst (Yab v) s).drop (Zyf v (subst (Yab v) s)).2.1 = subst (Yab v) (s.drop (rd s).2)):=by
 by_cases h0 : (rd s).2 = 0
 ·exact .inl ⟨h0, by unfold Zyf; rw [if_pos (rd_sub_bad v hs h0)]⟩
 right
 have hpre:=sub_pre v s
 by_cases hsp : ∃ b r m, s = b :: r /\ Zx2 (Yab v) b = some m
 ·obtain ⟨b, r, q, rfl, hl⟩:=hsp
  obtain ⟨p, hp, rfl, rfl⟩:=Ydp hl
  have hk:=esc_key v p hp
  have hch:=esc_chr v p hp
  obtain ⟨m, hm, h59, hmt⟩:=esc_step v p hp
  have hrd:=ZzI p.1 r hk
  have hsub : subst (Yab v) (p.1 :: r) = 38 :: (m ++ 59 :: subst (Yab v) r):=by
   rw [ZxN, hl, Option.getD_some, hm]; simp
  rw [hsub] at hpre ⊢
  rw [hrd]
  refine .inr ⟨Nat.one_ne_zero, hch, ?_⟩
  have hr38 : rd (38 :: (m ++ 59 :: subst (Yab v) r)) = (38, 1):=ZzI 38 _ (by decide)
  have hex : Ygx (m ++ 59 :: subst (Yab v) r) = (p.1.toNat, m.length + 1, 0):=by
   rw [expL_eq h59, hmt]; rfl
  have hst : Zyf v (38 :: (m ++ 59 :: subst (Yab v) r)) = (YeN p.1.toNat, 1 + (m.length + 1), 0):=by
   unfold Zyf
   rw [hr38]
   simp only
   rw [if_neg (by decide), if_neg (by decide), if_neg (fun h => h.elim (fun h => absurd h (by decide)) hpre), if_pos trivial]
   simp only [drop_succ_cons, drop_zero]
   rw [hex]; rfl
  rw [hst]
  refine ⟨rfl, ?_, ?_⟩
  ·unfold YeN
   simp only
   rw [if_pos hk, ofN rfl]; rfl
  ·simp only [drop_succ_cons, drop_zero]
   rw [show 1 + (m.length + 1) = (m.length + 1) + 1 from by omega, drop_succ_cons, show m ++ 59 :: subst (Yab v) r = (m ++ [59]) ++ subst (Yab v) r from by simp]
   exact drop_left' (by simp)
 ·have hnone : ∀ x ∈ s.take (rd s).2, Zx2 (Yab v) x = none:=by
   intro x hx
   rcases Yha hs h0 with h | ⟨b, r, rfl, hb, hrd⟩
   ·exact look_big v (h x hx)
   ·rw [hrd] at hx
    obtain rfl : x = b:=by simpa using hx
    cases hl : Zx2 (Yab v) x with
    | none => rfl
    | some m => exact absurd ⟨x, r, m, rfl, hl⟩ hsp
  have hsub : subst (Yab v) s = s.take (rd s).2 ++ subst (Yab v) (s.drop (rd s).2):=by
   conv => lhs; rw [<- take_append_drop (rd s).2 s, Ycp, YfY _ hnone]
  have hlen : (s.take (rd s).2).length = (rd s).2:=by rw [length_take]; have:=Yfy s hs; omega
  have hsame : rd (subst (Yab v) s) = rd s:=by
   refine rd_same hs h0 ?_
   rw [hsub, take_left' hlen]
  cases hc : chr ((rd s).1 : Int) with
  | false => exact .inl ⟨h0, rfl, by unfold Zyf; rw [hsame, if_neg h0, if_pos hc]⟩
  | true =>
   refine .inr ⟨h0, rfl, ?_⟩
   have hsp2 : (rd s).1 ≠ 38 /\ (rd s).1 ≠ 60 /\ (v = true -> ¬ ((rd s).1 = 9 \/ (rd s).1 = 10 \/ (rd s).1 = 13)):=by
    rcases Yha hs h0 with h | ⟨b, r, rfl, hb, hrd⟩
    ·have hy:=(Yd0 hs h0).1
     have : 128 <= (rd s).1:=by
      rcases Nat.lt_or_ge (rd s).1 128 with hlt | hge
      ·exfalso
       unfold YeN at hy
       rw [if_pos hlt] at hy
       have:=h (UInt8.ofNat (rd s).1) (by rw [<- hy]; simp)
       rw [ZxK (by omega)] at this
       omega
      ·exact hge
     refine ⟨by omega, by omega, fun _ => by omega⟩
    ·rw [hrd]
     have:=esc_all v b (hnone b (by rw [hrd]; simp))
     have cv : ∀ n : UInt8, b ≠ n -> b.toNat ≠ n.toNat:=fun n hn e => hn (UInt8.toNat_inj.1 e)
     have q38:=cv 38 this.1
     have q60:=cv 60 this.2.1
     have q13:=cv 13 this.2.2.1
     refine ⟨q38, q60, fun hv => ?_⟩
     have q9:=cv 9 (this.2.2.2.1 hv).1
     have q10:=cv 10 (this.2.2.2.1 hv).2.1
     rintro (h | h | h)
     ·exact q9 h
     ·exact q10 h
     ·exact q13 h
   have hst : Zyf v (subst (Yab v) s) = (YeN (rd s).1, (rd s).2, 0):=by
    unfold Zyf
    rw [hsame, if_neg h0, if_neg (by rw [hc]; decide), if_neg (fun h => h.elim hsp2.2.1 hpre), if_neg hsp2.1, if_neg (fun h => hsp2.2.2 h.1 h.2)]
   rw [hst]
   exact ⟨rfl, (Yd0 hs h0).1, by simp only; rw [hsub, drop_left' hlen]⟩
theorem read_back (v : Bool) : ∀ (s : List UInt8), ∀ (j i : Nat) (out : List UInt8),
  ((flt j s).2 = 0 -> ZyB v i (subst (Yab v) s) out = (out ++ s, 0, 0)) /\ ((flt j s).2 ≠ 0 -> (ZyB v i (subst (Yab v) s) out).1 = [] /\ (ZyB v i (subst (Yab v) s) out).2.2 = (flt j s).2):=by
 refine Yfz ?_ ?_ ?_
 ·intro j i out
  rw [Yga]
  refine ⟨fun _ => ?_, fun h => absurd rfl h⟩
  rw [show subst (Yab v) [] = [] from rfl, Yba, append_nil]
 ·intro s hs h0 j i out
  rcases step_sub v hs with ⟨_, h⟩ | ⟨h, _⟩ | ⟨h, _⟩
  ·rw [YhG hs h0, Yef (sub_ne v hs) (by rw [h]; decide), h]
   exact ⟨fun h => (by cases h), fun _ => ⟨rfl, rfl⟩⟩
  ·exact absurd h0 h
  ·exact absurd h0 h
 ·intro s hs h0 ih j i out
  rcases step_sub v hs with ⟨h, _⟩ | ⟨_, hc, h⟩ | ⟨_, hc, h1, h2, h3⟩
  ·exact absurd h h0
  ·rw [Ygb hs h0 hc, Yef (sub_ne v hs) (by rw [h]; decide), h]
   exact ⟨fun h => (by cases h), fun _ => ⟨rfl, rfl⟩⟩
  ·rw [YbM hs h0 hc, YcZ (sub_ne v hs) h1, h2, h3]
   have:=ih (j + (rd s).2) (i + (Zyf v (subst (Yab v) s)).2.1) (out ++ s.take (rd s).2)
   refine ⟨fun hz => ?_, this.2⟩
   rw [this.1 hz, append_assoc, take_append_drop]
end Go.Vc
namespace Go.Vc
open Go Go.Lib
end Go.Vc
end
section
namespace Go.Proofs.YtglnmjflpkeclaaGreatDoor
open Go Go.Vc
theorem Zx6 {a : Option Addr} {b c : Nat} {w : World} {J : World -> Prop} (h :
 Zz0 Tryz.prog ZxF #[.slice a b c, .int .i64 (b : Int), .func (.func 123) #[] #[]] w [] fun d =>
 J d) : Zz0 Tryz.prog ZzL #[.slice a b c, .func (.func 123) #[] #[]] w [] J:=Zz3 Tryz.func122 (.o) (Eq.mpr (by kernel_rfl) h)
theorem ZqO {a : Option Addr} {b c : Nat} {d : Int} {w : World} {J : World -> Prop} (h :
 ∃ r : Int -> Int -> World -> Nat -> Prop, (∃ s, r (0 : Int) (20 : Int) w s) /\ ∀ (k : Int) (l : Int) (m : World) (s : Nat), r k l m s -> (
 Zz1 (decide (l <= d)) (
 Zz0 Tryz.prog ZzD #[.slice a b c, .int .i64 k, .int .i64 l, .func (.func 123) #[] #[]] m [] fun e =>
 ∃ t, t < s /\ r l (w64 (l + (20 : Int))) e t) (
 Zz0 Tryz.prog ZzD #[.slice a b c, .int .i64 k, .int .i64 d, .func (.func 123) #[] #[]] m [] fun f =>
 ∃ u : Int -> World -> Nat -> Prop, (∃ s, u (20 : Int) f s) /\ ∀ v x y, u v x y -> (
 Zz1 (decide (v < d)) (
 ∃ z : Int -> Int -> World -> Nat -> Prop, (∃ s, z (0 : Int) (w64 ((2 : Int) * v)) x s) /\ ∀ (n : Int) (o : Int) (p : World) (m_2 : Nat), z n o p m_2 -> (
 Zz1 (decide (o <= d)) (
 Zz0 Tryz.prog Zzx #[.slice a b c, .int .i64 n, .int .i64 (w64 (n + v)), .int .i64 o, .func (.func 123) #[] #[]] p [] fun g =>
 ∃ t, t < m_2 /\ z o (w64 (o + (w64 ((2 : Int) * v)))) g t) (
 Zzf (fun (q : World) =>
 ∃ t, t < y /\ u (w64 (v * (2 : Int))) q t) fun i =>
 Zz1 (decide ((w64 (n + v)) < d)) (
 Zz0 Tryz.prog Zzx #[.slice a b c, .int .i64 n, .int .i64 (w64 (n + v)), .int .i64 d, .func (.func 123) #[] #[]] p [] fun j =>
 i j) (
 i p)))) (
 J x))))) : Zz0 Tryz.prog ZxF #[.slice a b c, .int .i64 d, .func (.func 123) #[] #[]] w [] J:=Zz3 Tryz.func158 (.s .o (.s .o (.s (.b (.l [(7, .int .i64), (8, .int .i64)] (.s (.s .o (.c .o .o)) (.b (.s .o (.s .o .o)))))) (.s .o (.b (.l [(6, .int .i64)] (.s (.s .o (.c .o .o)) (.b (.s .o (.s (.b (.l [(7, .int .i64), (8, .int .i64)] (.s (.s .o (.c .o .o)) (.b (.s .o (.s .o .o)))))) (.j [] (.s .o (.s .o (.c .o .o))) .o))))))))))) (Eq.mpr (by kernel_rfl) h)
theorem ZxS {a : Option Addr} {b c : Nat} {d e : Int} {w : World} {J : World -> Prop} (h :
 ∃ ag : Int -> World -> Nat -> Prop, (∃ ai, ag (w64 (d + (1 : Int))) w ai) /\ ∀ aj ak ai, ag aj ak ai -> (
 Zz1 (decide (aj < e)) (
 ∃ al : Int -> World -> Nat -> Prop, (∃ ai, al aj ak ai) /\ ∀ am an ao, al am an ao -> (
 Zzf (fun (ae : Bool) (af : World) =>
 Zz1 ae (
 ZzS a b (w64 (am - (1 : Int))) fun f =>
 ldStr af.drew ((f.add ((w64 (am - (1 : Int))).toNat * 3))) fun g =>
 ldStr af.drew (((f.add ((w64 (am - (1 : Int))).toNat * 3)).add 1)) fun i =>
 ldStr af.drew (((f.add ((w64 (am - (1 : Int))).toNat * 3)).add 2)) fun j =>
 ZzS a b am fun k =>
 ldStr af.drew ((k.add (am.toNat * 3))) fun l =>
 ldStr af.drew (((k.add (am.toNat * 3)).add 1)) fun m =>
 ldStr af.drew (((k.add (am.toNat * 3)).add 2)) fun n =>
 ZzS a b am fun o =>
 stN af.drew ((o.add (am.toNat * 3))) ⟨[.string g, .string i, .string j]⟩ 3 fun p =>
 ZzS a b (w64 (am - (1 : Int))) fun q =>
 stN p ((q.add ((w64 (am - (1 : Int))).toNat * 3))) ⟨[.string l, .string m, .string n]⟩ 3 fun r =>
 ∃ ap, ap < ao /\ al (w64 (am - (1 : Int))) r ap) (
 ∃ ap, ap < ai /\ ag (w64 (aj + (1 : Int))) af ap)) fun s =>
 Zz1 (decide (am > d)) (
 ZzS a b am fun t =>
 ldStr an.drew ((t.add (am.toNat * 3))) fun u =>
 ldStr an.drew (((t.add (am.toNat * 3)).add 1)) fun v =>
 ldStr an.drew (((t.add (am.toNat * 3)).add 2)) fun x =>
 ZzS a b (w64 (am - (1 : Int))) fun y =>
 ldStr an.drew ((y.add ((w64 (am - (1 : Int))).toNat * 3))) fun z =>
 ldStr an.drew (((y.add ((w64 (am - (1 : Int))).toNat * 3)).add 1)) fun aa =>
 ldStr an.drew (((y.add ((w64 (am - (1 : Int))).toNat * 3)).add 2)) fun ab =>
 Zz0 Tryz.prog ZzY #[.agg ⟨[.string u, .string v, .string x]⟩, .agg ⟨[.string z, .string aa, .string ab]⟩] an.drew [.one (.int .i64)] fun ac ad =>
 s (decide (ac < (0 : Int))) ad) (
 s false an.drew))) (
 J ak))) : Zz0 Tryz.prog ZzD #[.slice a b c, .int .i64 d, .int .i64 e, .func (.func 123) #[] #[]] w [] J:=Zz3 Tryz.func189 (.s .o (.b (.l [(8, .int .i64)] (.s (.s .o (.c .o .o)) (.s (.b (.s .o (.b (.l [(9, .int .i64)] (.s (.j [(34, .bool)] (.d (.take 0 (.take 1 (.take 2 (.take 3 (.take 4 (.take 5 (.take 6 (.take 7 (.take 8 (.take 9 (.take 10 (.take 11 (.take 12 (.take 13 (.eff 14 (.take 15 (.take 16 .done)) .none)))))))))))))))) (.c .o .o)) (.s (.b (.d (.take 0 (.take 1 (.take 2 (.take 3 (.take 4 (.take 5 (.take 6 (.take 7 (.take 8 (.take 9 (.take 10 (.take 11 (.take 12 (.take 13 (.take 14 (.eff 15 (.take 16 (.eff 17 .done .none)) .none)))))))))))))))))) .o)))))) .o))))) (Eq.mpr (by kernel_rfl) h)
theorem Zqu {a : Option Addr} {b c : Nat} {d e f : Int} {w : World} {J : World -> Prop} (h :
 Zz1 ((w64 (e - d)) == (1 : Int)) (
 ∃ ca : Int -> Int -> World -> Nat -> Prop, (∃ cb, ca e f w cb) /\ ∀ (bo : Int) (bp : Int) (bq : World) (cb : Nat), ca bo bp bq cb -> (
 Zz1 (decide (bo < bp)) (
 0 <= (1 : Int) /\
 ZzS a b (w64 (Ya3 .u64 (IntKind.u64.wrap (w64 (bo + bp))) (1 : Int))) fun g =>
 ldStr bq.drew ((g.add ((w64 (Ya3 .u64 (IntKind.u64.wrap (w64 (bo + bp))) (1 : Int))).toNat * 3))) fun i =>
 ldStr bq.drew (((g.add ((w64 (Ya3 .u64 (IntKind.u64.wrap (w64 (bo + bp))) (1 : Int))).toNat * 3)).add 1)) fun j =>
 ldStr bq.drew (((g.add ((w64 (Ya3 .u64 (IntKind.u64.wrap (w64 (bo + bp))) (1 : Int))).toNat * 3)).add 2)) fun k =>
 ZzS a b d fun l =>
 ldStr bq.drew ((l.add (d.toNat * 3))) fun m =>
 ldStr bq.drew (((l.add (d.toNat * 3)).add 1)) fun n =>
 ldStr bq.drew (((l.add (d.toNat * 3)).add 2)) fun o =>
 Zz0 Tryz.prog ZzY #[.agg ⟨[.string i, .string j, .string k]⟩, .agg ⟨[.string m, .string n, .string o]⟩] bq.drew [.one (.int .i64)] fun p q =>
 Zz1 (decide (p < (0 : Int))) (
 ∃ cc, cc < cb /\ ca (w64 ((w64 (Ya3 .u64 (IntKind.u64.wrap (w64 (bo + bp))) (1 : Int))) + (1 : Int))) bp q cc) (
 ∃ cc, cc < cb /\ ca bo (w64 (Ya3 .u64 (IntKind.u64.wrap (w64 (bo + bp))) (1 : Int))) q cc)) (
 ∃ cd : Int -> World -> Nat -> Prop, (∃ cb, cd d bq cb) /\ ∀ ce cf cg, cd ce cf cg -> (
 Zz1 (decide (ce < (w64 (bo - (1 : Int))))) (
 ZzS a b (w64 (ce + (1 : Int))) fun r =>
 ldStr cf.drew ((r.add ((w64 (ce + (1 : Int))).toNat * 3))) fun s =>
 ldStr cf.drew (((r.add ((w64 (ce + (1 : Int))).toNat * 3)).add 1)) fun t =>
 ldStr cf.drew (((r.add ((w64 (ce + (1 : Int))).toNat * 3)).add 2)) fun u =>
 ZzS a b ce fun v =>
 ldStr cf.drew ((v.add (ce.toNat * 3))) fun x =>
 ldStr cf.drew (((v.add (ce.toNat * 3)).add 1)) fun y =>
 ldStr cf.drew (((v.add (ce.toNat * 3)).add 2)) fun z =>
 ZzS a b ce fun aa =>
 stN cf.drew ((aa.add (ce.toNat * 3))) ⟨[.string s, .string t, .string u]⟩ 3 fun ab =>
 ZzS a b (w64 (ce + (1 : Int))) fun ac =>
 stN ab ((ac.add ((w64 (ce + (1 : Int))).toNat * 3))) ⟨[.string x, .string y, .string z]⟩ 3 fun ad =>
 ∃ cc, cc < cg /\ cd (w64 (ce + (1 : Int))) ad cc) (
 J cf))))) (
 Zz1 ((w64 (f - e)) == (1 : Int)) (
 ∃ ci : Int -> Int -> World -> Nat -> Prop, (∃ cb, ci d e w cb) /\ ∀ (br : Int) (bs : Int) (bt : World) (m_2 : Nat), ci br bs bt m_2 -> (
 Zz1 (decide (br < bs)) (
 0 <= (1 : Int) /\
 ZzS a b e fun ae =>
 ldStr bt.drew ((ae.add (e.toNat * 3))) fun af =>
 ldStr bt.drew (((ae.add (e.toNat * 3)).add 1)) fun ag =>
 ldStr bt.drew (((ae.add (e.toNat * 3)).add 2)) fun ai =>
 ZzS a b (w64 (Ya3 .u64 (IntKind.u64.wrap (w64 (br + bs))) (1 : Int))) fun aj =>
 ldStr bt.drew ((aj.add ((w64 (Ya3 .u64 (IntKind.u64.wrap (w64 (br + bs))) (1 : Int))).toNat * 3))) fun ak =>
 ldStr bt.drew (((aj.add ((w64 (Ya3 .u64 (IntKind.u64.wrap (w64 (br + bs))) (1 : Int))).toNat * 3)).add 1)) fun al =>
 ldStr bt.drew (((aj.add ((w64 (Ya3 .u64 (IntKind.u64.wrap (w64 (br + bs))) (1 : Int))).toNat * 3)).add 2)) fun am =>
 Zz0 Tryz.prog ZzY #[.agg ⟨[.string af, .string ag, .string ai]⟩, .agg ⟨[.string ak, .string al, .string am]⟩] bt.drew [.one (.int .i64)] fun an ao =>
 Zz1 (!(decide (an < (0 : Int)))) (
 ∃ cc, cc < m_2 /\ ci (w64 ((w64 (Ya3 .u64 (IntKind.u64.wrap (w64 (br + bs))) (1 : Int))) + (1 : Int))) bs ao cc) (
 ∃ cc, cc < m_2 /\ ci br (w64 (Ya3 .u64 (IntKind.u64.wrap (w64 (br + bs))) (1 : Int))) ao cc)) (
 ∃ cj : Int -> World -> Nat -> Prop, (∃ cb, cj e bt cb) /\ ∀ ck cl cm, cj ck cl cm -> (
 Zz1 (decide (ck > br)) (
 ZzS a b (w64 (ck - (1 : Int))) fun ap =>
 ldStr cl.drew ((ap.add ((w64 (ck - (1 : Int))).toNat * 3))) fun aq =>
 ldStr cl.drew (((ap.add ((w64 (ck - (1 : Int))).toNat * 3)).add 1)) fun ar =>
 ldStr cl.drew (((ap.add ((w64 (ck - (1 : Int))).toNat * 3)).add 2)) fun au =>
 ZzS a b ck fun av =>
 ldStr cl.drew ((av.add (ck.toNat * 3))) fun ax =>
 ldStr cl.drew (((av.add (ck.toNat * 3)).add 1)) fun ay =>
 ldStr cl.drew (((av.add (ck.toNat * 3)).add 2)) fun az =>
 ZzS a b ck fun a0 =>
 stN cl.drew ((a0.add (ck.toNat * 3))) ⟨[.string aq, .string ar, .string au]⟩ 3 fun a1 =>
 ZzS a b (w64 (ck - (1 : Int))) fun a2 =>
 stN a1 ((a2.add ((w64 (ck - (1 : Int))).toNat * 3))) ⟨[.string ax, .string ay, .string az]⟩ 3 fun a3 =>
 ∃ cc, cc < cm /\ cj (w64 (ck - (1 : Int))) a3 cc) (
 J cl))))) (
 0 <= (1 : Int) /\
 Zzf (fun (bu : Int) (bv : Int) (bx : World) =>
 ∃ cn : Int -> Int -> World -> Nat -> Prop, (∃ cb, cn bu bv bx cb) /\ ∀ (bz : Int) (b0 : Int) (b1 : World) (m_4 : Nat), cn bz b0 b1 m_4 -> (
 Zz1 (decide (bz < b0)) (
 0 <= (1 : Int) /\
 ZzS a b (w64 ((w64 ((w64 ((w64 (Ya3 .u64 (IntKind.u64.wrap (w64 (d + f))) (1 : Int))) + e)) - (1 : Int))) - (w64 (Ya3 .u64 (IntKind.u64.wrap (w64 (bz + b0))) (1 : Int))))) fun a4 =>
 ldStr b1.drew ((a4.add ((w64 ((w64 ((w64 ((w64 (Ya3 .u64 (IntKind.u64.wrap (w64 (d + f))) (1 : Int))) + e)) - (1 : Int))) - (w64 (Ya3 .u64 (IntKind.u64.wrap (w64 (bz + b0))) (1 : Int))))).toNat * 3))) fun a5 =>
 ldStr b1.drew (((a4.add ((w64 ((w64 ((w64 ((w64 (Ya3 .u64 (IntKind.u64.wrap (w64 (d + f))) (1 : Int))) + e)) - (1 : Int))) - (w64 (Ya3 .u64 (IntKind.u64.wrap (w64 (bz + b0))) (1 : Int))))).toNat * 3)).add 1)) fun a6 =>
 ldStr b1.drew (((a4.add ((w64 ((w64 ((w64 ((w64 (Ya3 .u64 (IntKind.u64.wrap (w64 (d + f))) (1 : Int))) + e)) - (1 : Int))) - (w64 (Ya3 .u64 (IntKind.u64.wrap (w64 (bz + b0))) (1 : Int))))).toNat * 3)).add 2)) fun a7 =>
 ZzS a b (w64 (Ya3 .u64 (IntKind.u64.wrap (w64 (bz + b0))) (1 : Int))) fun a8 =>
 ldStr b1.drew ((a8.add ((w64 (Ya3 .u64 (IntKind.u64.wrap (w64 (bz + b0))) (1 : Int))).toNat * 3))) fun a9 =>
 ldStr b1.drew (((a8.add ((w64 (Ya3 .u64 (IntKind.u64.wrap (w64 (bz + b0))) (1 : Int))).toNat * 3)).add 1)) fun ba =>
 ldStr b1.drew (((a8.add ((w64 (Ya3 .u64 (IntKind.u64.wrap (w64 (bz + b0))) (1 : Int))).toNat * 3)).add 2)) fun bb =>
 Zz0 Tryz.prog ZzY #[.agg ⟨[.string a5, .string a6, .string a7]⟩, .agg ⟨[.string a9, .string ba, .string bb]⟩] b1.drew [.one (.int .i64)] fun bc bd =>
 Zz1 (!(decide (bc < (0 : Int)))) (
 ∃ cc, cc < m_4 /\ cn (w64 ((w64 (Ya3 .u64 (IntKind.u64.wrap (w64 (bz + b0))) (1 : Int))) + (1 : Int))) b0 bd cc) (
 ∃ cc, cc < m_4 /\ cn bz (w64 (Ya3 .u64 (IntKind.u64.wrap (w64 (bz + b0))) (1 : Int))) bd cc)) (
 Zzf (fun (b2 : World) =>
 Zzf (fun (b3 : World) =>
 Zzf (fun (b4 : Bool) (b5 : World) =>
 Zz1 b4 (
 Zz0 Tryz.prog Zzx #[.slice a b c, .int .i64 (w64 (Ya3 .u64 (IntKind.u64.wrap (w64 (d + f))) (1 : Int))), .int .i64 (w64 ((w64 ((w64 (Ya3 .u64 (IntKind.u64.wrap (w64 (d + f))) (1 : Int))) + e)) - bz)), .int .i64 f, .func (.func 123) #[] #[]] b5 [] fun be =>
 J be) (
 J b5)) fun bf =>
 Zz1 (decide ((w64 (Ya3 .u64 (IntKind.u64.wrap (w64 (d + f))) (1 : Int))) < (w64 ((w64 ((w64 (Ya3 .u64 (IntKind.u64.wrap (w64 (d + f))) (1 : Int))) + e)) - bz)))) (
 bf (decide ((w64 ((w64 ((w64 (Ya3 .u64 (IntKind.u64.wrap (w64 (d + f))) (1 : Int))) + e)) - bz)) < f)) b3) (
 bf false b3)) fun bg =>
 Zzf (fun (b6 : Bool) (b7 : World) =>
 Zz1 b6 (
 Zz0 Tryz.prog Zzx #[.slice a b c, .int .i64 d, .int .i64 bz, .int .i64 (w64 (Ya3 .u64 (IntKind.u64.wrap (w64 (d + f))) (1 : Int))), .func (.func 123) #[] #[]] b7 [] fun bi =>
 bg bi) (
 bg b7)) fun bj =>
 Zz1 (decide (d < bz)) (
 bj (decide (bz < (w64 (Ya3 .u64 (IntKind.u64.wrap (w64 (d + f))) (1 : Int))))) b2) (
 bj false b2)) fun bk =>
 Zzf (fun (b8 : Bool) (b9 : World) =>
 Zz1 b8 (
 Zz0 Tryz.prog Zyt #[.slice a b c, .int .i64 bz, .int .i64 e, .int .i64 (w64 ((w64 ((w64 (Ya3 .u64 (IntKind.u64.wrap (w64 (d + f))) (1 : Int))) + e)) - bz)), .func (.func 123) #[] #[]] b9 [] fun bl =>
 bk bl) (
 bk b9)) fun bm =>
 Zz1 (decide (bz < e)) (
 bm (decide (e < (w64 ((w64 ((w64 (Ya3 .u64 (IntKind.u64.wrap (w64 (d + f))) (1 : Int))) + e)) - bz)))) b1) (
 bm false b1)))) fun bn =>
 Zz1 (decide (e > (w64 (Ya3 .u64 (IntKind.u64.wrap (w64 (d + f))) (1 : Int))))) (
 bn (w64 ((w64 ((w64 (Ya3 .u64 (IntKind.u64.wrap (w64 (d + f))) (1 : Int))) + e)) - f)) (w64 (Ya3 .u64 (IntKind.u64.wrap (w64 (d + f))) (1 : Int))) w) (
 bn d e w)))) : Zz0 Tryz.prog Zzx #[.slice a b c, .int .i64 d, .int .i64 e, .int .i64 f, .func (.func 123) #[] #[]] w [] J:=Zz3 Tryz.func190 (.s (.s .o (.c (.s .o (.s .o (.s (.b (.l [(10, .int .i64), (11, .int .i64)] (.s (.s .o (.c .o .o)) (.b (.s .o (.s (.d (.take 0 (.take 1 (.take 2 (.take 3 (.take 4 (.take 5 (.take 6 (.take 7 (.take 8 (.eff 9 (.take 10 .done) .none))))))))))) (.c .o .o))))))) (.s (.s .o (.b (.l [(13, .int .i64)] (.s (.s .o (.c .o .o)) (.s (.b (.d (.take 0 (.take 1 (.take 2 (.take 3 (.take 4 (.take 5 (.take 6 (.take 7 (.take 8 (.take 9 (.take 10 (.take 11 (.take 12 (.take 13 (.take 14 (.eff 15 (.take 16 (.eff 17 .done .none)) .none)))))))))))))))))) .o))))) .o)))) .o)) (.s (.s .o (.c (.s .o (.s .o (.s (.b (.l [(14, .int .i64), (15, .int .i64)] (.s (.s .o (.c .o .o)) (.b (.s .o (.s (.d (.take 0 (.take 1 (.take 2 (.take 3 (.take 4 (.take 5 (.take 6 (.take 7 (.take 8 (.eff 9 (.take 10 (.take 11 .done)) .none))))))))))) (.c .o .o))))))) (.s (.s .o (.b (.l [(17, .int .i64)] (.s (.s .o (.c .o .o)) (.s (.b (.d (.take 0 (.take 1 (.take 2 (.take 3 (.take 4 (.take 5 (.take 6 (.take 7 (.take 8 (.take 9 (.take 10 (.take 11 (.take 12 (.take 13 (.take 14 (.eff 15 (.take 16 (.eff 17 .done .none)) .none)))))))))))))))))) .o))))) .o)))) .o)) (.s .o (.s .o (.s .o (.j [(20, .int .i64), (21, .int .i64)] (.s .o (.c (.s .o .o) (.s .o .o))) (.s .o (.s (.b (.l [(20, .int .i64), (21, .int .i64)] (.s (.s .o (.c .o .o)) (.b (.s .o (.s (.d (.take 0 (.take 1 (.take 2 (.take 3 (.take 4 (.take 5 (.take 6 (.take 7 (.take 8 (.take 9 (.take 10 (.eff 11 (.take 12 (.take 13 .done)) .none))))))))))))) (.c .o .o))))))) (.s .o (.j [] (.j [(185, .bool)] .o (.c .o .o)) (.j [] (.j [(199, .bool)] .o (.c .o .o)) (.j [(213, .bool)] .o (.c .o .o))))))))))))) (Eq.mpr (by kernel_rfl) h)
theorem ZqP {a : Option Addr} {b c : Nat} {d e f : Int} {w : World} {J : World -> Prop} (h :
 ∃ n : Int -> Int -> World -> Nat -> Prop, (∃ o, n (w64 (e - d)) (w64 (f - e)) w o) /\ ∀ (k : Int) (l : Int) (m : World) (o : Nat), n k l m o -> (
 Zz1 (k != l) (
 Zz1 (decide (k > l)) (
 Zz0 Tryz.prog ZzA #[.slice a b c, .int .i64 (w64 (e - k)), .int .i64 e, .int .i64 l, .func (.func 123) #[] #[]] m [] fun g =>
 ∃ p, p < o /\ n (w64 (k - l)) l g p) (
 Zz0 Tryz.prog ZzA #[.slice a b c, .int .i64 (w64 (e - k)), .int .i64 (w64 ((w64 (e + l)) - k)), .int .i64 k, .func (.func 123) #[] #[]] m [] fun i =>
 ∃ p, p < o /\ n k (w64 (l - k)) i p)) (
 Zz0 Tryz.prog ZzA #[.slice a b c, .int .i64 (w64 (e - k)), .int .i64 e, .int .i64 k, .func (.func 123) #[] #[]] m [] fun j =>
 J j))) : Zz0 Tryz.prog Zyt #[.slice a b c, .int .i64 d, .int .i64 e, .int .i64 f, .func (.func 123) #[] #[]] w [] J:=Zz3 Tryz.func208 (.s .o (.s .o (.s (.b (.l [(10, .int .i64), (11, .int .i64)] (.s (.s .o (.c .o .o)) (.b (.s .o (.c (.s .o .o) (.s .o .o))))))) .o))) (Eq.mpr (by kernel_rfl) h)
theorem Zqp {a : Option Addr} {b c : Nat} {d e f : Int} {w : World} {J : World -> Prop} (h :
 ∃ t : Int -> World -> Nat -> Prop, (∃ u, t (0 : Int) w u) /\ ∀ v x u, t v x u -> (
 Zz1 (decide (v < f)) (
 ZzS a b (w64 (e + v)) fun g =>
 ldStr x.drew ((g.add ((w64 (e + v)).toNat * 3))) fun i =>
 ldStr x.drew (((g.add ((w64 (e + v)).toNat * 3)).add 1)) fun j =>
 ldStr x.drew (((g.add ((w64 (e + v)).toNat * 3)).add 2)) fun k =>
 ZzS a b (w64 (d + v)) fun l =>
 ldStr x.drew ((l.add ((w64 (d + v)).toNat * 3))) fun m =>
 ldStr x.drew (((l.add ((w64 (d + v)).toNat * 3)).add 1)) fun n =>
 ldStr x.drew (((l.add ((w64 (d + v)).toNat * 3)).add 2)) fun o =>
 ZzS a b (w64 (d + v)) fun p =>
 stN x.drew ((p.add ((w64 (d + v)).toNat * 3))) ⟨[.string i, .string j, .string k]⟩ 3 fun q =>
 ZzS a b (w64 (e + v)) fun r =>
 stN q ((r.add ((w64 (e + v)).toNat * 3))) ⟨[.string m, .string n, .string o]⟩ 3 fun s =>
 ∃ y, y < u /\ t (w64 (v + (1 : Int))) s y) (
 J x))) : Zz0 Tryz.prog ZzA #[.slice a b c, .int .i64 d, .int .i64 e, .int .i64 f, .func (.func 123) #[] #[]] w [] J:=Zz3 Tryz.func222 (.s .o (.b (.l [(10, .int .i64)] (.s (.s .o (.c .o .o)) (.s (.b (.d (.take 0 (.take 1 (.take 2 (.take 3 (.take 4 (.take 5 (.take 6 (.take 7 (.take 8 (.take 9 (.take 10 (.take 11 (.take 12 (.take 13 (.take 14 (.take 15 (.take 16 (.take 17 (.take 18 (.take 19 (.take 20 (.eff 21 (.take 22 (.eff 23 .done .none)) .none)))))))))))))))))))))))) .o))))) (Eq.mpr (by kernel_rfl) h)
theorem YeQ {a b : ByteArray} {w : World} {J : Int -> World -> Prop} (h :
 Zz0 Tryz.prog Yar #[.string a] w [.one .bool] fun c d =>
 Zz0 Tryz.prog Yar #[.string b] d [.one .bool] fun e f =>
 Zz1 c (
 Zz1 e (
 J (0 : Int) f) (
 J (-1 : Int) f)) (
 Zz1 e (
 J (1 : Int) f) (
 Zz1 (Op.bytesLess a.toList b.toList) (
 J (-1 : Int) f) (
 Zz1 (!((Op.bytesLess a.toList b.toList) || (a.toList == b.toList))) (
 J (1 : Int) f) (
 J (0 : Int) f))))) : Zz0 Tryz.prog Zyg #[.string a, .string b] w [.one (.int .i64)] J:=Zz3 Tryz.func125 (.s .o (.s .o (.s .o (.s (.s .o (.c (.s (.s .o (.c (.s .o .o) .o)) (.s .o .o)) .o)) (.s (.s .o (.c (.s .o .o) .o)) (.s (.s .o (.c (.s .o .o) .o)) (.s (.s .o (.c (.s .o .o) .o)) (.s .o .o)))))))) (Eq.mpr (by kernel_rfl) h)
theorem YcA {a : ByteArray} {w : World} {J : Bool -> World -> Prop} (h :
 J (!(a.toList == a.toList)) w) : Zz0 Tryz.prog Yar #[.string a] w [.one .bool] J:=Zz3 Tryz.func159 (.s .o (.s .o .o)) (Eq.mpr (by kernel_rfl) h)
theorem YgB {a : Option Addr} {b c : Nat} {w : World} {J : Int -> World -> Prop} (h :
 ∃ f : Int -> World -> Nat -> Prop, (∃ g, f (0 : Int) w g) /\ ∀ i j g, f i j g -> (
 Zz1 (decide (i < (b : Int))) (
 ZzS a b i fun d =>
 ldI .i64 j ((d.add (i.toNat * 1))) fun e =>
 Zz1 (e != (0 : Int)) (
 J e j) (
 ∃ k, k < g /\ f (w64 (i + (1 : Int))) j k)) (
 J (0 : Int) j))) : Zz0 Tryz.prog Ydz #[.slice a b c] w [.one (.int .i64)] J:=Zz3 Tryz.func124 (.s .o (.s .o (.s (.s .o (.b (.l [(8, .int .i64)] (.s .o (.s (.c .o .o) (.s (.b (.s .o (.s .o (.c (.s .o .o) .o)))) .o)))))) (.s .o .o)))) (Eq.mpr (by kernel_rfl) h)
end Go.Proofs.YtglnmjflpkeclaaGreatDoor
end
section
namespace Go.Vc
section
variable {α : Type} [Inhabited α]
def pf (X : List α) : Nat -> α:=fun k => X.getD k default
def swl (X : List α) (i j : Nat) : List α:=(X.set i (pf X j)).set j (pf X i)
def swf (g : Nat -> α) (i j : Nat) : Nat -> α:=fun k => if k = j then g i else if k = i then g j else g k
theorem swl_len (X : List α) (i j : Nat) : (swl X i j).length = X.length:=by simp [swl]
theorem YeS {X : List α} {i : Nat} (h : i < X.length) : X[i]? = some (pf X i):=by
 unfold pf; rw [getD_eq_getElem?_getD, getElem?_eq_getElem h]; rfl
theorem swl_pf {X : List α} {i j : Nat} (hi : i < X.length) (hj : j < X.length) : pf (swl X i j) = swf (pf X) i j:=by
 funext k
 unfold swf swl
 show ((X.set i (pf X j)).set j (pf X i)).getD k default = _
 rw [getD_eq_getElem?_getD, getElem?_set]
 by_cases h1 : j = k
 ·subst h1; simp [hj]
 ·rw [if_neg h1, if_neg (Ne.symm h1), getElem?_set]
  by_cases h2 : i = k
  ·subst h2; simp [hi]
  ·rw [if_neg h2, if_neg (Ne.symm h2)]
   unfold pf
   rw [getD_eq_getElem?_getD]
theorem set_perm {X : List α} {i : Nat} (h : i < X.length) (v : α) : (pf X i :: X.set i v).Perm (v :: X):=by
 induction X generalizing i with
 | nil => simp at h
 | cons x X ih =>
  cases i with
  | zero => exact List.Perm.swap _ _ _
  | succ i =>
   have h' : i < X.length:=by simpa using h
   have e : pf (x :: X) (i + 1) = pf X i:=by unfold pf; simp
   rw [e, set_cons_succ]
   exact ((List.Perm.swap _ _ _).trans (.cons _ (ih h'))).trans (List.Perm.swap _ _ _)
theorem swl_perm {X : List α} {i j : Nat} (hi : i < X.length) (hj : j < X.length) : (swl X i j).Perm X:=by
 by_cases hij : i = j
 ·subst hij
  have e : swl X i i = X:=by
   apply ext_getElem?
   intro k
   unfold swl
   rw [set_set, getElem?_set]
   by_cases h : i = k
   ·subst h; rw [if_pos rfl, YeS hi, if_pos hi]
   ·rw [if_neg h]
  rw [e]
 ·have h1:=set_perm hi (pf X j)
  have hj2 : j < (X.set i (pf X j)).length:=by simpa using hj
  have h2:=set_perm hj2 (pf X i)
  have e : pf (X.set i (pf X j)) j = pf X j:=by
   unfold pf
   rw [getD_eq_getElem?_getD, getD_eq_getElem?_getD, getElem?_set, if_neg hij]
  rw [e] at h2
  exact (h2.trans h1).cons_inv
inductive Sw (a b : Nat) (X : List α) : List α -> Prop
 | refl : Sw a b X X
 | step {Y : List α} {i j : Nat} (h : Sw a b X Y) (hi : a <= i /\ i < b) (hj : a <= j /\ j < b) (hb : b <= X.length) : Sw a b X (swl Y i j)
variable {a b c d : Nat} {X Y Z : List α}
theorem Sw.len (h : Sw a b X Y) : Y.length = X.length:=by
 induction h with
 | refl => rfl
 | step _ _ _ _ ih => rw [swl_len, ih]
theorem Sw.trans (h : Sw a b X Y) (k : Sw a b Y Z) : Sw a b X Z:=by
 induction k with
 | refl => exact h
 | step _ hi hj hb ih => exact .step ih hi hj (by rw [<- h.len]; exact hb)
theorem Sw.mono (h : Sw a b X Y) (hc : c <= a) (hd : b <= d) (hl : d <= X.length) : Sw c d X Y:=by
 induction h with
 | refl => exact .refl
 | step _ hi hj hb ih => exact .step ih ⟨by omega, by omega⟩ ⟨by omega, by omega⟩ hl
theorem Sw.perm (h : Sw a b X Y) : Y.Perm X:=by
 induction h with
 | refl => exact .refl _
 | step h hi hj hb ih => exact (swl_perm (by rw [h.len]; omega) (by rw [h.len]; omega)).trans ih
theorem Sw.out (h : Sw a b X Y) {k : Nat} (hk : k < a \/ b <= k) : pf Y k = pf X k:=by
 induction h with
 | refl => rfl
 | step h hi hj hb ih =>
  rw [swl_pf (by rw [h.len]; omega) (by rw [h.len]; omega)]
  unfold swf
  rw [if_neg (by omega), if_neg (by omega)]; exact ih
theorem Sw.all (h : Sw a b X Y) {p : α -> Prop} (hp : ∀ k, a <= k -> k < b -> p (pf X k)) : ∀ k, a <= k -> k < b -> p (pf Y k):=by
 induction h with
 | refl => exact hp
 | step h hi hj hb ih =>
  intro k h1 h2
  rw [swl_pf (by rw [h.len]; omega) (by rw [h.len]; omega)]
  unfold swf
  split
  ·exact ih _ hi.1 hi.2
  ·split
   ·exact ih _ hj.1 hj.2
   ·exact ih _ h1 h2
structure SWOrd (lt : α -> α -> Bool) : Prop where
 irr : ∀ x, lt x x = false
 trans : ∀ x y z, lt x y = true -> lt y z = true -> lt x z = true
 neg : ∀ x y z, lt y x = false -> lt z y = false -> lt z x = false
variable {lt : α -> α -> Bool}
def Up (lt : α -> α -> Bool) (g : Nat -> α) (a b : Nat) : Prop := ∀ i j, a <= i -> i < j -> j < b -> lt (g j) (g i) = false
theorem SWOrd.asym (o : SWOrd lt) {x y : α} (h : lt x y = true) : lt y x = false:=by
 cases hb : lt y x with
 | false => rfl
 | true => have:=o.trans x y x h hb; rw [o.irr] at this; cases this
theorem Up.le (o : SWOrd lt) {g : Nat -> α} (h : Up lt g a b) {i j : Nat} (h1 : a <= i) (h2 : i <= j) (h3 : j < b) : lt (g j) (g i) = false:=by
 by_cases e : i = j
 ·subst e; exact o.irr _
 ·exact h i j h1 (by omega) h3
theorem Up.sub {g : Nat -> α} (h : Up lt g a b) (hc : a <= c) (hd : d <= b) : Up lt g c d:=fun i j h1 h2 h3 => h i j (by omega) h2 (by omega)
theorem Up.congr {g h : Nat -> α} (hu : Up lt g a b) (e : ∀ k, a <= k -> k < b -> h k = g k) : Up lt h a b:=fun i j h1 h2 h3 => by
 rw [e i h1 (by omega), e j (by omega) h3]; exact hu i j h1 h2 h3
theorem Up.join {g : Nat -> α} {m : Nat} (h1 : Up lt g a m) (h2 : Up lt g m b) (h : ∀ i j, a <= i -> i < m -> m <= j -> j < b -> lt (g j) (g i) = false) : Up lt g a b:=by
 intro i j hi hij hj
 by_cases hjm : j < m
 ·exact h1 i j hi hij hjm
 ·by_cases him : m <= i
  ·exact h2 i j him hij hj
  ·exact h i j hi (by omega) (by omega) hj
theorem Up.adj (o : SWOrd lt) {g : Nat -> α} (h : ∀ i, a <= i -> i + 1 < b -> lt (g (i + 1)) (g i) = false) : Up lt g a b:=by
 intro i j hi hij hj
 obtain ⟨k, rfl⟩ : ∃ k, j = i + 1 + k:=⟨j - i - 1, by omega⟩
 induction k with
 | zero => exact h i hi hj
 | succ k ih => exact o.neg _ _ _ (ih (by omega) (by omega)) (h (i + 1 + k) (by omega) (by omega))
def swR (g : Nat -> α) (a b n : Nat) : Nat -> α:=fun k => if a <= k /\ k < a + n then g (k - a + b) else if b <= k /\ k < b + n then g (k - b + a) else g k
def Yhi (g : Nat -> α) (a m b : Nat) : Nat -> α:=fun k => if a <= k /\ k < a + (b - m) then g (k - a + m) else if a + (b - m) <= k /\ k < b then g (k - (b - m)) else g k
theorem swR_zero (g : Nat -> α) (a b : Nat) : swR g a b 0 = g:=by
 funext k; unfold swR; rw [if_neg (by omega), if_neg (by omega)]
theorem swR_succ (g : Nat -> α) {a b n : Nat} (h : a + n < b) : swf (swR g a b n) (a + n) (b + n) = swR g a b (n + 1):=by
 funext k
 unfold swf swR
 repeat' split
 all_goals first | rfl | (exfalso; omega) | (congr 1; omega)
theorem rot_left (g : Nat -> α) {i j m : Nat} (h : j < i) (him : i <= m) : Yhi (swR g (m - i) m j) (m - (i - j)) m (m + j) = Yhi g (m - i) m (m + j):=by
 funext k
 unfold Yhi swR
 repeat' split
 all_goals first | rfl | (exfalso; omega) | (congr 1; omega)
theorem rot_right (g : Nat -> α) {i j m : Nat} (h : i < j) (him : i <= m) : Yhi (swR g (m - i) (m + j - i) i) (m - i) m (m + (j - i)) = Yhi g (m - i) m (m + j):=by
 funext k
 unfold Yhi swR
 repeat' split
 all_goals first | rfl | (exfalso; omega) | (congr 1; omega)
theorem rot_same (g : Nat -> α) {i m : Nat} (him : i <= m) : swR g (m - i) m i = Yhi g (m - i) m (m + i):=by
 funext k
 unfold Yhi swR
 repeat' split
 all_goals first | rfl | (exfalso; omega) | (congr 1; omega)
theorem rot_id {g : Nat -> α} {a m b : Nat} (h1 : a <= m) (h2 : m <= b) (h : a = m \/ m = b) : Yhi g a m b = g:=by
 funext k
 unfold Yhi
 rcases h with rfl | rfl
 all_goals repeat' split
 all_goals first | rfl | (exfalso; omega) | (congr 1; omega)
theorem sym_turn (o : SWOrd lt) {g : Nat -> α} {a m b mid s e : Nat} (h1 : Up lt g a m) (h2 : Up lt g m b) (ham : a < m) (hmb : m < b) (hmid : mid = (a + b) / 2) (he : e = mid + m - s)
  (hs : (mid < m /\ mid + m - b <= s /\ s <= mid) \/ (m <= mid /\ a <= s /\ s <= m))
  (hlo : ∀ c, (if mid < m then mid + m - b else a) <= c -> c < s -> lt (g (mid + m - 1 - c)) (g c) = false)
  (hhi : ∀ c, s <= c -> c < (if mid < m then mid else m) -> lt (g (mid + m - 1 - c)) (g c) = true) :
  let h:=Yhi g s m e
  Up lt h a s /\ Up lt h s mid /\ Up lt h mid e /\ Up lt h e b /\ a <= s /\ s <= mid /\ mid <= e /\ e <= b /\ s <= m /\ m <= e /\ (∀ i j, a <= i -> i < mid -> mid <= j -> j < b -> lt (h j) (h i) = false):=by
 intro h
 have b1 : a <= s:=by omega
 have b2 : s <= mid:=by omega
 have b3 : mid <= e:=by omega
 have b4 : e <= b:=by omega
 have b5 : s <= m:=by omega
 have b6 : m <= e:=by omega
 have hem : s + (e - m) = mid:=by omega
 have v1 : ∀ k, k < s -> h k = g k:=fun k hk => by
  show Yhi g s m e k = _
  unfold Yhi; rw [if_neg (by omega), if_neg (by omega)]
 have v2 : ∀ k, s <= k -> k < mid -> h k = g (k - s + m):=fun k hk1 hk2 => by
  show Yhi g s m e k = _
  unfold Yhi; rw [if_pos (by omega)]
 have v3 : ∀ k, mid <= k -> k < e -> h k = g (k - (e - m)):=fun k hk1 hk2 => by
  show Yhi g s m e k = _
  unfold Yhi; rw [if_neg (by omega), if_pos (by omega)]
 have v4 : ∀ k, e <= k -> h k = g k:=fun k hk => by
  show Yhi g s m e k = _
  unfold Yhi; rw [if_neg (by omega), if_neg (by omega)]
 refine ⟨fun i j x1 x2 x3 => ?_, fun i j x1 x2 x3 => ?_, fun i j x1 x2 x3 => ?_, fun i j x1 x2 x3 => ?_, b1, b2, b3, b4, b5, b6, ?_⟩
 ·rw [v1 i (by omega), v1 j (by omega)]; exact h1 i j x1 x2 (by omega)
 ·rw [v2 i x1 (by omega), v2 j (by omega) x3]; exact h2 _ _ (by omega) (by omega) (by omega)
 ·rw [v3 i x1 (by omega), v3 j (by omega) x3]; exact h1 _ _ (by omega) (by omega) (by omega)
 ·rw [v4 i x1, v4 j (by omega)]; exact h2 i j (by omega) x2 x3
 · -- x, y on the left; x', y' on the right
  have xx : ∀ x x', a <= x -> x < s -> s <= x' -> x' < m -> lt (g x') (g x) = false:=fun x x' y1 y2 y3 y4 => h1 x x' y1 (by omega) y4
  have yy : ∀ y y', m <= y -> y < e -> e <= y' -> y' < b -> lt (g y') (g y) = false:=fun y y' y1 y2 y3 y4 => h2 y y' y1 (by omega) y4
  have xy : ∀ x y', a <= x -> x < s -> e <= y' -> y' < b -> lt (g y') (g x) = false:=fun x y' y1 y2 y3 y4 => by
   have hc:=hlo (s - 1) (by split <;> omega) (by omega)
   rw [show mid + m - 1 - (s - 1) = e by omega] at hc
   exact o.neg _ _ _ (o.neg _ _ _ (h1.le o y1 (by omega) (by omega)) hc) (h2.le o b6 y3 y4)
  have yx : ∀ y x', m <= y -> y < e -> s <= x' -> x' < m -> lt (g x') (g y) = false:=fun y x' y1 y2 y3 y4 => by
   have hc:=hhi s (Nat.le_refl _) (by split <;> omega)
   rw [show mid + m - 1 - s = e - 1 by omega] at hc
   exact o.neg _ _ _ (o.neg _ _ _ (h2.le o y1 (by omega) (by omega)) (o.asym hc)) (h1.le o b1 y3 y4)
  intro i j x1 x2 x3 x4
  by_cases c1 : i < s
  ·rw [v1 i c1]
   by_cases c2 : j < e
   ·rw [v3 j x3 c2]; exact xx _ _ x1 c1 (by omega) (by omega)
   ·rw [v4 j (by omega)]; exact xy _ _ x1 c1 (by omega) x4
  ·rw [v2 i (by omega) x2]
   by_cases c2 : j < e
   ·rw [v3 j x3 c2]; exact yx _ _ (by omega) (by omega) (by omega) (by omega)
   ·rw [v4 j (by omega)]; exact yy _ _ (by omega) (by omega) (by omega) x4
end
end Go.Vc
end
section
namespace Go.Proofs.YtglnmjflpkeclaaGreatDoor
open Go Go.Vc Go.Lib
section
variable {w : World}
theorem Bound_ok {p : Option Addr} {l c : Nat} {B : List Pr} {v : ByteArray} {J : ByteArray -> Bool -> World -> Prop} (h : Sl w p l 2 (rows pr B)) (hm : l <= 1000000000) (K : ∀ w', Chg No w w' -> J (Zzl B v).1 (Zzl B v).2 w') :
    Zz0 Tryz.prog ZqV #[.agg ⟨[.slice p l c]⟩, .string v] w [.one .str, .one .bool] J:=by
  refine Yfm ?_
  rw [show (⟨#[120, 109, 108]⟩ : ByteArray) = kXml from rfl, show (⟨#[]⟩ : ByteArray) = kE from rfl,
    show (⟨#[104, 116, 116, 112, 58, 47, 47, 119, 119, 119, 46, 119, 51, 46, 111, 114, 103, 47, 88, 77, 76, 47, 49, 57, 57, 56, 47, 110, 97, 109, 101, 115, 112, 97, 99, 101]⟩ : ByteArray) = Zys from rfl]
  simp only [Ycl]
  have hl:=h.row (YdC B) (by decide)
  refine (Hp.start w No).newB fun b2 w1 H1 _ hc1 => ?_
  unfold Zzl at K
  refine Zz4 (fun hx => by rw [if_pos hx] at K; exact K w1 hc1) (fun hx => ?_)
  rw [if_neg hx] at K
  refine H1.ldS 0 rfl (off:=0) rfl ?_
  refine ⟨fun x w' t => ∃ i : Nat, x = i /\ i <= l /\ t = l - i /\ Chg No w w' /\ B.find? (fun b => decide (b.1 = v)) = (B.drop i).find? (fun b => decide (b.1 = v)), ⟨_, 0, rfl, Nat.zero_le _, rfl, hc1, rfl⟩, ?_⟩
  rintro x w2 t ⟨i, rfl, hi, rfl, hc, hfind⟩
  refine Zz4 (fun hlt => ?_) (fun hge => ?_)
  · refine pr_i (h.chg hc (off_no _)) (by omega) hlt fun a y hy h1 h2 => ?_
    rw [Int.toNat_natCast] at hy
    obtain ⟨g1, g2⟩:=List.getElem?_eq_some_iff.1 hy
    rw [List.drop_eq_getElem_cons g1, g2, List.find?_cons] at hfind
    refine ZzB h1 (ZzB h2 ?_)
    rw [zeroC_bind]
    refine (Hp.start w2 No).newB fun b7 w3 H3 _ _ => ?_
    refine H3.stN 0 rfl (off:=0) rfl (by simp) (YaZ _) fun w4 H4 _ => ?_
    have e5 : splice [Value.string ByteArray.empty, Value.string ByteArray.empty] 0 (pr y) = pr y:=ZyK rfl
    have H4' : Hp w2 No w4 [⟨b7, pr y, Zzp⟩]:=by rw [<- e5]; exact H4
    have hc4:=hc.trans0 H4'.chg
    refine H4'.ldStr 0 rfl (off:=0) rfl ?_
    refine Zz4 (fun he => ?_) (fun hne => ?_)
    · refine H4'.ldStr 0 rfl (off:=1) rfl ?_
      rw [decide_eq_true he] at hfind
      simp only at hfind
      rw [hfind] at K
      exact K w4 hc4
    · rw [decide_eq_false hne] at hfind
      exact ⟨_, by omega, i + 1, by rw [Zzb] <;> omega, by omega, rfl, hc4, hfind⟩
  · rw [List.drop_of_length_le (by omega), List.find?_nil] at hfind
    rw [hfind] at K
    exact K w2 hc
theorem nameAns {w0 w1 : World} {b : Nat} {Γ : List Blk} {u l : ByteArray} {cs : List Value} {e : TypeId} {K : ByteArray -> ByteArray -> World -> Prop} (i : Nat) (H : Hp w0 No w1 Γ) (hi : Γ[i]? = some ⟨b, cs, e⟩) (hl : cs.length = 2) (k : ∀ w', Chg No w0 w' -> K u l w') :
    stN w1 ⟨b, 0, none⟩ ⟨[.string u, .string l]⟩ 2 fun w4 => ldStr w4 ⟨b, 0, none⟩ fun r0 => ldStr w4 ⟨b, 1, none⟩ fun r1 => K r0 r1 w4:=by
  refine H.stN i hi (off:=0) rfl (by omega) (YaZ (u, l)) fun w4 H4 _ => ?_
  have e5 : splice cs 0 (pr (u, l)) = pr (u, l):=ZyK (by rw [hl]; rfl)
  have hlt:=(List.getElem?_eq_some_iff.1 hi).1
  have hg : (Γ.set i ⟨b, splice cs 0 (pr (u, l)), e⟩)[i]? = some ⟨b, pr (u, l), e⟩:=by rw [List.getElem?_set_self hlt, e5]
  refine H4.ldStr i hg (off:=0) rfl ?_
  refine H4.ldStr i hg (off:=1) rfl ?_
  exact k w4 H4.chg
theorem Element_ok {p : Option Addr} {l c : Nat} {B : List Pr} {q : ByteArray} {J : ByteArray -> ByteArray -> Int -> World -> Prop} (h : Sl w p l 2 (rows pr B)) (hm : l <= 1000000000) (hq : q.size <= 9223372036854775806) (T : Tabs w)
  (K : ∀ w', Chg No w w' -> J (YaR (Zzl B) q).1.1 (YaR (Zzl B) q).1.2 (YaR (Zzl B) q).2 w') :
  Zz0 Tryz.prog Zx8 #[.agg ⟨[.slice p l c]⟩, .string q] w [.agg [.str, .str], .one (.int .i64)] J:=by
 refine Yet ?_
 rw [show (⟨#[120, 109, 108, 110, 115]⟩ : ByteArray) = Zqf from rfl, YfW]
 simp only [Ycl]
 refine (Hp.start w No).newB fun b2 w1 H1 _ hc1 => ?_
 refine H1.newB fun b4 w2 H2 _ hc2 => ?_
 have hc02:=hc1.trans0 hc2
 refine YfS hq (T.chg hc02) fun a b ok w3 hc3 hsp => ?_
 have H3:=H2.step0 hc3
 unfold Spl at hsp
 have ea : bl a = (spl (bl q)).1:=congrArg Prod.fst hsp
 have eb : bl b = (spl (bl q)).2.1:=congrArg (fun z => z.2.1) hsp
 have eo : ok = (spl (bl q)).2.2:=congrArg (fun z => z.2.2) hsp
 unfold YaR at K
 rw [mkB_eq ea, mkB_eq eb, <- eo] at K
 refine Zzm (fun hf => ?_) (fun ht => ?_)
 ·rw [if_pos hf] at K
  exact nameAns 0 H3 rfl rfl fun w' hc => K w' hc
 rw [if_neg (by simp [ht])] at K
 refine Zz4 (fun he => ?_) (fun hne => ?_)
 ·rw [if_pos he] at K
  exact nameAns 0 H3 rfl rfl fun w' hc => K w' hc
 rw [if_neg hne] at K
 refine H3.ldS 1 rfl (off:=0) rfl ?_
 refine Bound_ok (h.chg H3.chg (off_no _)) hm fun w6 hc6 => ?_
 have H6:=H3.step0 hc6
 refine Zzm (fun hf => ?_) (fun ht => ?_)
 ·rw [if_pos hf] at K
  exact nameAns 0 H6 rfl rfl fun w' hc => K w' hc
 ·rw [if_neg (by simp [ht])] at K
  exact nameAns 0 H6 rfl rfl fun w' hc => K w' hc
theorem openP_drop {L : List Pr} {i : Nat} {x : Pr} (h : L[i]? = some x) (had : List ByteArray) (B : List Pr) : ZyD (L.drop i) had B = match decl x with
    | none => ZyD (L.drop (i + 1)) had B
    | some p => if Yco p x.2 ≠ 0 then ([], Yco p x.2) else if memB p had = true then ([], 27) else ZyD (L.drop (i + 1)) (had ++ [p]) (putP B p x.2):=by
  obtain ⟨g1, g2⟩:=List.getElem?_eq_some_iff.1 h
  rw [List.drop_eq_getElem_cons g1, g2]; rfl
theorem Open_ok {p q : Option Addr} {l c m d : Nat} {B L : List Pr} {J : Option Addr -> Nat -> Nat -> Int -> World -> Prop} (h : Sl w p l 2 (rows pr B)) (hp : p = none -> l = 0) (hL : Sl w q m 2 (rows pr L)) (hs : ∀ x ∈ L, x.1.size <= 9223372036854775806) (hm : l + m <= 100000000) (T : Tabs w)
  (K : ∀ p' l' c' w', Row w' Zzp 2 p' l' c' (rows pr (ZyD L [] B).1) -> fresh w p' -> Chg No w w' -> l' <= l + m -> J p' l' c' (ZyD L [] B).2 w') :
  Zz0 Tryz.prog Zyz #[.agg ⟨[.slice p l c]⟩, .slice q m d] w [.agg [.slice], .one (.int .i64)] J:=by
 refine YfP ?_
 rw [show (⟨#[120, 109, 108]⟩ : ByteArray) = kXml from rfl, show (⟨#[]⟩ : ByteArray) = kE from rfl, YeY, YfV, Ye8]
 simp only [Ycl]
 have hll:=hL.row (YdC L) (by decide)
 refine (Hp.start w No).newB fun b2 w1 H1 _ hc1 => ?_
 refine H1.newB fun b4 w2 H2 _ hc2 => ?_
 refine H2.ldS 1 rfl (off:=0) rfl ?_
 refine BindClone_ok (h.chg H2.chg (off_no _)) hp (by omega) fun p3 c3 w3 hr3 hf3 hc3 => ?_
 have H3:=H2.step0 hc3
 have hf3' : fresh w p3:=fun a ha => by have:=hf3 a ha; have:=H2.chg.size; omega
 -- what is answered
 have ans : ∀ {w0 : World} {b2 b4 : Nat} {cs2 : List Value} {e2 : TypeId} (s : Value) (hs1 : s.oneCell' = true) (w11 : World) (Kx : Option Addr -> Nat -> Nat -> World -> Prop) (q0 : Option Addr) (l0 c0 : Nat), s = .slice q0 l0 c0 -> Hp w No w11 [⟨b4, [.slice none 0 0], Zzh⟩, ⟨b2, cs2, e2⟩] -> (∀ w', Chg No w11 w' \/ Chg (fun x => x = b4) w11 w' -> Chg No w w' -> Kx q0 l0 c0 w') ->
   stN w11 ⟨b4, 0, none⟩ ⟨[s]⟩ 1 fun w12 => ldS w12 ⟨b4, 0, none⟩ fun r0 r1 r2 => Kx r0 r1 r2 w12:=by
  intro w0 b2 b4 cs2 e2 s hs1 w11 Kx q0 l0 c0 e H k
  subst e
  refine H.stN 0 rfl (off:=0) rfl (by simp) (Ya5 rfl YeB) fun w12 H12 hc12 => ?_
  refine H12.ldS 0 rfl (off:=0) rfl ?_
  exact k w12 (.inr hc12) H12.chg
 refine ⟨fun hp' hl' hc' bp bl' bc x w' t => ∃ (i : Nat) (had : List ByteArray) (B' : List Pr), x = i /\ i <= m /\ t = m - i /\ Hp w No w' [⟨b4, [.slice none 0 0], Zzh⟩, ⟨b2, [.slice p l c], Zzh⟩] /\ Row w' Zz8 1 hp' hl' hc' (strs had) /\ fresh w hp' /\ hl' <= i /\
   Row w' Zzp 2 bp bl' bc (rows pr B') /\ fresh w bp /\ bl' <= l + i /\ ZyD (L.drop i) had B' = ZyD L [] B,
  ⟨_, 0, [], B, rfl, Nat.zero_le _, rfl, H3, Row.nil _ _ _, (by rintro a ⟨⟩), Nat.le_refl _, hr3, hf3', by omega, rfl⟩, ?_⟩
 rintro hp' hl' hc' bp bl' bc x w4 t ⟨i, had, B', rfl, hi, rfl, H4, hrh, hfh, hhi, hrb, hfb, hbi, hop⟩
 have t4 : typ w4 b4 = some Zzh:=Zzy (H4.get 0 rfl)
 refine Zz4 (fun hlt => ?_) (fun hge => ?_)
 ·refine Zz7 fun J6 hJ6 => ?_
  have k6 : ∀ hp2 hl2 hc2 bp2 bl2 bc2 w5 had2 B2, Hp w No w5 [⟨b4, [.slice none 0 0], Zzh⟩, ⟨b2, [.slice p l c], Zzh⟩] -> Row w5 Zz8 1 hp2 hl2 hc2 (strs had2) -> fresh w hp2 -> hl2 <= i + 1 ->
    Row w5 Zzp 2 bp2 bl2 bc2 (rows pr B2) -> fresh w bp2 -> bl2 <= l + (i + 1) -> ZyD (L.drop (i + 1)) had2 B2 = ZyD L [] B -> J6 hp2 hl2 hc2 bp2 bl2 bc2 w5:=by
   intro hp2 hl2 hc2 bp2 bl2 bc2 w5 had2 B2 g1 g2 g3 g4 g5 g6 g7 g8; subst hJ6
   exact ⟨_, by omega, i + 1, had2, B2, by rw [Zzb] <;> omega, by omega, rfl, g1, g2, g3, g4, g5, g6, g7, g8⟩
  clear hJ6
  refine pr_i (H4.oldSl hL (off_no _)) (by omega) hlt fun a y hy h1 h2 => ?_
  rw [Int.toNat_natCast] at hy
  rw [openP_drop hy] at hop
  refine ZzB h1 (ZzB h2 ?_)
  refine H4.newB fun b9 w6 H6 hb9 hc6 => ?_
  refine H6.stN 0 rfl (off:=0) rfl (by simp) (YaZ _) fun w7 H7 hc7 => ?_
  have e5 : splice [Value.string ByteArray.empty, Value.string ByteArray.empty] 0 (pr y) = pr y:=ZyK rfl
  have H7' : Hp w No w7 [⟨b9, pr y, Zzo⟩, ⟨b4, [.slice none 0 0], Zzh⟩, ⟨b2, [.slice p l c], Zzh⟩]:=by rw [<- e5]; exact H7
  refine H7'.ldStr 0 rfl (off:=0) rfl ?_
  refine H7'.ldStr 0 rfl (off:=1) rfl ?_
  have hc47 : Chg No w4 w7:=hc6.trans hc7 fun b hb e => by subst e; omega
  refine DeclP_ok (hs y (mem_of_getElem? hy)) (T.chg H7'.chg) fun dp w8 hc8 hdp => ?_
  have H8:=H7'.step0 hc8
  have hc48:=hc47.trans0 hc8
  refine H8.newB fun b10 w9 H9 hb10 hc9 => ?_
  refine H9.stV 0 rfl (off:=0) (by simp) fun w10 H10 hc10 => ?_
  simp only [set_cons_zero] at H10
  have hc8_10 : Chg No w8 w10:=hc9.trans hc10 fun b hb e => by subst e; omega
  have hc4_10:=hc48.trans0 hc8_10
  have hrh10:=hrh.chg hc4_10 (off_no _)
  have hrb10:=hrb.chg hc4_10 (off_no _)
  have drop2 : ∀ {w' : World}, Hp w No w' [⟨b10, [.string dp], Zz8⟩, ⟨b9, pr y, Zzo⟩, ⟨b4, [.slice none 0 0], Zzh⟩, ⟨b2, [.slice p l c], Zzh⟩] -> Hp w No w' [⟨b4, [.slice none 0 0], Zzh⟩, ⟨b2, [.slice p l c], Zzh⟩] :=
   fun H => ⟨H.chg, fun z hz => H.is z (mem_cons_of_mem _ (mem_cons_of_mem _ hz)), (nodup_cons.1 (nodup_cons.1 H.nd).2).2, fun z hz => H.own z (mem_cons_of_mem _ (mem_cons_of_mem _ hz))⟩
  refine Zzm (fun hnd => ?_) (fun hd => ?_)
  ·have hnone : decl y = none:=by cases hdd : decl y with | none => rfl | some z => rw [hdd] at hnd; cases hnd
   rw [hnone] at hop
   exact k6 hp' hl' hc' bp bl' bc w10 had B' (drop2 H10) hrh10 hfh (by omega) hrb10 hfb (by omega) hop
  ·obtain ⟨z, hz⟩ : ∃ z, decl y = some z:=by cases hdd : decl y with | none => rw [hdd] at hd; cases hd | some z => exact ⟨z, rfl⟩
   obtain rfl:=hdp z hz
   rw [hz] at hop
   simp only at hop
   refine H10.ldStr 0 rfl (off:=0) rfl ?_
   refine H10.ldStr 1 rfl (off:=1) rfl ?_
   refine Wrong_ok ?_
   refine Zzi (fun hne => ?_) (fun he => ?_)
   ·rw [if_pos hne] at hop
    rw [<- hop] at K
    refine ans (w0:=w) _ rfl w10 (fun a b c' w' => J a b c' (Yco dp y.2) w') none 0 0 rfl (drop2 H10) fun w' _ hc => ?_
    exact K none 0 0 w' (Row.nil _ _ _) (by rintro a ⟨⟩) hc (Nat.zero_le _)
   ·rw [if_neg (fun h => h he)] at hop
    refine H10.ldStr 0 rfl (off:=0) rfl ?_
    refine SIndex_ok hrh10.sl (by omega) ?_
    refine Zz9 (fun hin => ?_) (fun hnin => ?_)
    ·rw [if_pos hin] at hop
     rw [<- hop] at K
     refine ans (w0:=w) _ rfl w10 (fun a b c' w' => J a b c' 27 w') none 0 0 rfl (drop2 H10) fun w' _ hc => ?_
     exact K none 0 0 w' (Row.nil _ _ _) (by rintro a ⟨⟩) hc (Nat.zero_le _)
    ·rw [if_neg (by simp [hnin])] at hop
     refine H10.ldStr 0 rfl (off:=0) rfl ?_
     refine newRow (sz:=1) (n:=1) rfl (by decide) fun b43 w15 hr15 hb43 hc15 => ?_
     have H15:=H10.step0 hc15
     refine YbR YcX (hrh10.chg hc15 (off_no _)) hr15.sl (Yhr [dp]) (by simp) (by omega) (by simp only [maxLen]; omega) fun p16 c16 w16 hr16 hc16 hf16 => ?_
     have hlth : ∀ a, hp' = some a -> a.block < w8.heap.size:=fun a ha => by have:=hrh.lt a ha; have:=hc48.size; omega
     have noH : ∀ z, isB hp' z -> z ≠ b10:=by
      rintro z ⟨a, ha, rfl⟩ e
      have:=hlth a ha
      omega
     have H16:=H15.step hc16 (fun z hz => by
      rintro ⟨a, ha, e⟩
      have ht:=hrh10.typ a ha
      have hlt':=hlth a ha
      simp at hz
      rcases hz with rfl | rfl | rfl | rfl
      ·simp only at e; omega
      ·simp only at e; rw [e] at ht; exact absurd (ht.symm.trans (Zzy (H10.get 1 rfl))) (by decide)
      ·simp only at e; rw [e] at ht; exact absurd (ht.symm.trans (Zzy (H10.get 2 rfl))) (by decide)
      ·simp only at e; rw [e] at ht; exact absurd (ht.symm.trans (Zzy (H10.get 3 rfl))) (by decide)) (YfH hfh)
     have hf16' : fresh w p16:=by
      rcases hf16 with rfl | hf
      ·exact hfh
      ·intro a ha; have:=hf a ha; have:=H15.chg.size; omega
     have e16 : strs had ++ [Value.string dp] = strs (had ++ [dp]):=by simp [strs]
     rw [e16] at hr16
     have hrb16 : Row w16 Zzp 2 bp bl' bc (rows pr B'):=(hrb10.chg hc15 (off_no _)).chg hc16 fun a ha hz => by
      obtain ⟨a2, ha2, e⟩:=hz
      have t1:=hrb10.typ a ha
      have t2:=hrh10.typ a2 ha2
      rw [e] at t2
      exact absurd (t1.symm.trans t2) (by decide)
     have tb10 : typ w16 b10 = some Zz8:=Zzy (H16.get 0 rfl)
     refine Del_ok hrb16 (by omega) (H16.cell 0 rfl (off:=0) rfl) tb10 fun l17 w17 hr17 hc17 hl17 => ?_
     have H17:=H16.step hc17 (fun z hz => by
      rintro ⟨a, ha, e⟩
      have ht:=hrb16.typ a ha
      simp at hz
      rcases hz with rfl | rfl | rfl | rfl
      ·simp only at e; rw [e] at ht; exact absurd (ht.symm.trans tb10) (by decide)
      ·simp only at e; rw [e] at ht; exact absurd (ht.symm.trans (Zzy (H16.get 1 rfl))) (by decide)
      ·simp only at e; rw [e] at ht; exact absurd (ht.symm.trans (Zzy (H16.get 2 rfl))) (by decide)
      ·simp only at e; rw [e] at ht; exact absurd (ht.symm.trans (Zzy (H16.get 3 rfl))) (by decide)) (YfH hfb)
     have hr16' : Row w17 Zz8 1 p16 (hl' + 1) c16 (strs (had ++ [dp])):=hr16.chg hc17 fun a ha hz => by
      obtain ⟨a2, ha2, e⟩:=hz
      have t1:=hr16.typ a ha
      have t2:=hrb16.typ a2 ha2
      rw [e] at t2
      exact absurd (t1.symm.trans t2) (by decide)
     refine Zz7 fun J54 hJ54 => ?_
     have k54 : ∀ b, (b = true ↔ (dp ≠ kXml /\ y.2 ≠ kE)) -> J54 b w17:=by
      intro b hb; subst hJ54
      refine Yan hb (fun hh => ?_) (fun hn => ?_)
      ·refine H17.ldStr 0 rfl (off:=0) rfl ?_
       refine H17.ldStr 1 rfl (off:=1) rfl ?_
       refine ⟨rfl, newRow (sz:=2) (n:=1) rfl (by decide) fun b60 w19 hr19 hb60 hc19 => ?_⟩
       have H19:=H17.step0 hc19
       refine YbR slT_bind (hr17.chg hc19 (off_no _)) hr19.sl (YaZ (dp, y.2)) (by simp) (by omega) (by simp only [maxLen]; omega) fun p20 c20 w20 hr20 hc20 hf20 => ?_
       have H20:=H19.step hc20 (fun z hz => by
        rintro ⟨a, ha, e⟩
        have ht:=hr17.typ a ha
        simp at hz
        rcases hz with rfl | rfl | rfl | rfl
        ·simp only at e; rw [e] at ht; exact absurd (ht.symm.trans (Zzy (H17.get 0 rfl))) (by decide)
        ·simp only at e; rw [e] at ht; exact absurd (ht.symm.trans (Zzy (H17.get 1 rfl))) (by decide)
        ·simp only at e; rw [e] at ht; exact absurd (ht.symm.trans (Zzy (H17.get 2 rfl))) (by decide)
        ·simp only at e; rw [e] at ht; exact absurd (ht.symm.trans (Zzy (H17.get 3 rfl))) (by decide)) (YfH hfb)
       have hf20' : fresh w p20:=by
        rcases hf20 with rfl | hf
        ·exact hfb
        ·intro a ha; have:=hf a ha; have:=H19.chg.size; omega
       have e20 : rows pr (B'.filter fun b => !decide (b.1 = dp)) ++ [Value.string dp, Value.string y.2] = rows pr (putP B' dp y.2):=by
        unfold putP; rw [if_pos hh, Zyx]; rfl
       rw [e20] at hr20
       have hr16'' : Row w20 Zz8 1 p16 (hl' + 1) c16 (strs (had ++ [dp])):=(hr16'.chg hc19 (off_no _)).chg hc20 fun a ha hz => by
        obtain ⟨a2, ha2, e⟩:=hz
        have t1:=hr16'.typ a ha
        have t2:=hr17.typ a2 ha2
        rw [e] at t2
        exact absurd (t1.symm.trans t2) (by decide)
       exact k6 p16 (hl' + 1) c16 p20 (l17 + 1) c20 w20 _ _ (drop2 H20) hr16'' hf16' (by omega) hr20 hf20' (by omega) hop
      ·have e17 : (B'.filter fun b => !decide (b.1 = dp)) = putP B' dp y.2:=by unfold putP; rw [if_neg hn, append_nil]
       rw [e17] at hr17
       exact k6 p16 (hl' + 1) c16 bp l17 bc w17 _ _ (drop2 H17) hr16' hf16' (by omega) hr17 hfb (by omega) hop
     clear hJ54
     refine H17.ldStr 0 rfl (off:=0) rfl ?_
     refine Zzm (fun hx => ?_) (fun hx => k54 false (bF fun h => h.1 (of_decide_eq_true hx)))
     refine H17.ldStr 1 rfl (off:=1) rfl (k54 _ ?_)
     rw [Bool.not_eq_true', decide_eq_false_iff_not]
     exact ⟨fun e => ⟨of_decide_eq_false hx, e⟩, fun e => e.2⟩
 ·rw [drop_of_length_le (by omega)] at hop
  have hop' : (B', (0 : Int)) = ZyD L [] B:=hop
  rw [<- hop'] at K
  refine ans (w0:=w) _ rfl w4 (fun a b c' w' => J a b c' 0 w') bp bl' bc rfl H4 fun w' hcc hc => ?_
  refine K bp bl' bc w' ?_ hfb hc (by omega)
  rcases hcc with hcc | hcc
  ·exact hrb.chg hcc (off_no _)
  ·exact hrb.chg hcc fun a ha e => by
    have:=hrb.typ a ha
    rw [e] at this
    exact absurd (this.symm.trans t4) (by decide)
end
end Go.Proofs.YtglnmjflpkeclaaGreatDoor
end
section
namespace Go.Vc
open Go Go.Lib
theorem bls_irr : ∀ x : List UInt8, Op.bytesLess x x = false
 | [] => rfl
 | a :: x => by unfold Op.bytesLess; simp [bls_irr x]
theorem bls_trans : ∀ {x y z : List UInt8}, Op.bytesLess x y = true -> Op.bytesLess y z = true -> Op.bytesLess x z = true
 | [], [], _, h, _ => by simp [Op.bytesLess] at h
 | [], _ :: _, [], _, h => by simp [Op.bytesLess] at h
 | [], _ :: _, _ :: _, _, _ => rfl
 | _ :: _, [], _, h, _ => by simp [Op.bytesLess] at h
 | _ :: _, _ :: _, [], _, h => by simp [Op.bytesLess] at h
 | a :: x, b :: y, c :: z, h, k => by
  unfold Op.bytesLess at h k ⊢
  simp only [Bool.or_eq_true, decide_eq_true_eq, Bool.and_eq_true, beq_iff_eq] at h k ⊢
  rcases h with h | ⟨rfl, h⟩
  ·rcases k with k | ⟨rfl, k⟩
   ·left; rw [UInt8.lt_iff_toNat_lt] at *; omega
   ·exact .inl h
  ·rcases k with k | ⟨rfl, k⟩
   ·exact .inl k
   ·exact .inr ⟨rfl, bls_trans h k⟩
theorem bls_tri : ∀ (x y : List UInt8), Op.bytesLess x y = true \/ x = y \/ Op.bytesLess y x = true
 | [], [] => .inr (.inl rfl)
 | [], _ :: _ => .inl rfl
 | _ :: _, [] => .inr (.inr rfl)
 | a :: x, b :: y => by
  unfold Op.bytesLess
  simp only [Bool.or_eq_true, decide_eq_true_eq, Bool.and_eq_true, beq_iff_eq, cons.injEq]
  rcases Nat.lt_trichotomy a.toNat b.toNat with h | h | h
  ·exact .inl (.inl (UInt8.lt_iff_toNat_lt.2 h))
  ·have e : a = b:=UInt8.toNat_inj.1 h
   subst e
   rcases bls_tri x y with h | h | h
   ·exact .inl (.inr ⟨rfl, h⟩)
   ·exact .inr (.inl ⟨rfl, h⟩)
   ·exact .inr (.inr (.inr ⟨rfl, h⟩))
  ·exact .inr (.inr (.inl (UInt8.lt_iff_toNat_lt.2 h)))
def sLt (x y : ByteArray) : Bool:=Op.bytesLess x.toList y.toList
theorem Ybj (x : ByteArray) : sLt x x = false:=bls_irr _
theorem Yfv {x y z : ByteArray} (h : sLt x y = true) (k : sLt y z = true) : sLt x z = true:=bls_trans h k
theorem Yhf (x y : ByteArray) : sLt x y = true \/ x = y \/ sLt y x = true:=by
 unfold sLt
 rw [Ya1, Ya1]
 rcases bls_tri (bl x) (bl y) with h | h | h
 ·exact .inl h
 ·exact .inr (.inl (Zqt h))
 ·exact .inr (.inr h)
theorem sLt_asym {x y : ByteArray} (h : sLt x y = true) : sLt y x = false:=by
 cases hb : sLt y x with
 | false => rfl
 | true => have:=Yfv h hb; rw [Ybj] at this; cases this
def nLt (x y : Pr) : Bool:=sLt x.1 y.1 || (decide (x.1 = y.1) && sLt x.2 y.2)
theorem nLt_irr (x : Pr) : nLt x x = false:=by unfold nLt; rw [Ybj, Ybj]; simp
theorem Yhw {x y : Pr} : nLt x y = true ↔ sLt x.1 y.1 = true \/ (x.1 = y.1 /\ sLt x.2 y.2 = true):=by
 unfold nLt; simp only [Bool.or_eq_true, Bool.and_eq_true, decide_eq_true_eq]
theorem YfD {x y z : Pr} (h : nLt x y = true) (k : nLt y z = true) : nLt x z = true:=by
 rw [Yhw] at *
 rcases h with h | ⟨e, h⟩
 ·rcases k with k | ⟨e', k⟩
  ·exact .inl (Yfv h k)
  ·rw [<- e']; exact .inl h
 ·rcases k with k | ⟨e', k⟩
  ·rw [e]; exact .inl k
  ·exact .inr ⟨e.trans e', Yfv h k⟩
theorem Yhv (x y : Pr) : nLt x y = true \/ x = y \/ nLt y x = true:=by
 rw [Yhw, Yhw]
 rcases Yhf x.1 y.1 with h | h | h
 ·exact .inl (.inl h)
 ·rcases Yhf x.2 y.2 with k | k | k
  ·exact .inl (.inr ⟨h, k⟩)
  ·exact .inr (.inl (Prod.ext h k))
  ·exact .inr (.inr (.inr ⟨h.symm, k⟩))
 ·exact .inr (.inr (.inl h))
theorem nLt_asym {x y : Pr} (h : nLt x y = true) : nLt y x = false:=by
 cases hb : nLt y x with
 | false => rfl
 | true => have:=YfD h hb; rw [nLt_irr] at this; cases this
abbrev At:=ByteArray × ByteArray × ByteArray
def atc (x : At) : List Value:=[.string x.1, .string x.2.1, .string x.2.2]
def nameOf (x : At) : Pr:=(x.1, x.2.1)
theorem YaK (L : List At) : Ygo atc 3 L:=fun _ _ => rfl
theorem Yg7 (x : At) : one1 (atc x):=Ya5 rfl (Ya5 rfl (Ya5 rfl YeB))
def aLt (x y : At) : Bool:=nLt (nameOf x) (nameOf y)
theorem ZyI : SWOrd aLt:=⟨fun x => nLt_irr _, fun x y z h k => YfD h k, fun x y z h k => by
 unfold aLt at *
 rcases Yhv (nameOf x) (nameOf y) with h1 | h1 | h1
 ·rcases Yhv (nameOf y) (nameOf z) with h2 | h2 | h2
  ·exact nLt_asym (YfD h1 h2)
  ·rw [<- h2]; exact nLt_asym h1
  ·rw [h2] at k; cases k
 ·rw [h1]; exact k
 ·rw [h1] at h; cases h⟩
theorem at_i {w : World} {p : Option Addr} {l : Nat} {xs : List At} {i : Int} {n : Nat} {K : Addr -> Prop} (h : Sl w p l 3 (rows atc xs)) (hi : i = n) (h1 : n < l) (k : ∀ (a : Addr), w.cell? (a.add (i.toNat * 3)) = some (.string (pf xs n).1) -> w.cell? ((a.add (i.toNat * 3)).add 1) = some (.string (pf xs n).2.1) -> w.cell? ((a.add (i.toNat * 3)).add 2) = some (.string (pf xs n).2.2) -> K a) : ZzS p l i K:=by
 subst hi
 have hl:=h.row (YaK xs) (by decide)
 refine ZzT h (YaK xs) (by decide) (by omega) (by omega) fun a x _ hx hc => ?_
 rw [Int.toNat_natCast, YeS (by omega)] at hx
 cases hx
 exact k a (ZzG hc) (Yfh hc 1 rfl) (Yfh hc 2 rfl)
end Go.Vc
namespace Go.Proofs.YtglnmjflpkeclaaGreatDoor
open Go Go.Vc Go.Lib
theorem slT_attr : SlT Tryz.prog YdO ZzO 3 48 #[.string ByteArray.empty, .string ByteArray.empty, .string ByteArray.empty]:=SlT.of (by kernel_rfl) (by kernel_rfl) rfl (by decide)
section
variable {w : World}
theorem YdT {x y : ByteArray} {J : Int -> World -> Prop} (k : J (if sLt x y = true then -1 else if x = y then 0 else 1) w) : Zz0 Tryz.prog Zyg #[.string x, .string y] w [.one (.int .i64)] J:=by
 refine YeQ ?_
 refine YcA ?_
 refine YcA ?_
 refine Zz9 (fun h => by simp at h) fun _ => Zz9 (fun h => by simp at h) fun _ => ?_
 unfold sLt at k
 refine Zz9 (fun h => by rw [if_pos h] at k; exact k) (fun h => ?_)
 rw [if_neg (by simp [h]), ] at k
 rw [h, Bool.false_or, Ycl]
 refine Zzm (fun h2 => by rw [if_neg (of_decide_eq_false h2)] at k; exact k) (fun h2 => by rw [if_pos (of_decide_eq_true h2)] at k; exact k)
theorem CmpA_ok {a b : At} {J : Int -> World -> Prop} (k : ∀ r w', (r < 0 ↔ aLt a b = true) -> Chg No w w' -> J r w') :
  Zz0 Tryz.prog ZzY #[.agg ⟨[.string a.1, .string a.2.1, .string a.2.2]⟩, .agg ⟨[.string b.1, .string b.2.1, .string b.2.2]⟩] w [.one (.int .i64)] J:=by
 refine Yeu ?_
 refine (Hp.start w No).newB fun b2 w1 H1 _ _ => ?_
 refine H1.newB fun b3 w2 H2 _ _ => ?_
 have H2d:=H2.drew
 refine H2d.ldStr 1 rfl (off:=0) rfl ?_
 refine H2d.ldStr 0 rfl (off:=0) rfl ?_
 refine H2d.ldStr 1 rfl (off:=1) rfl ?_
 refine H2d.ldStr 0 rfl (off:=1) rfl ?_
 refine YdT ⟨H2d.cell 0 rfl (off:=1) rfl, H2d.cell 1 rfl (off:=1) rfl, YdT ?_⟩
 generalize hr1 : (if sLt a.1 b.1 = true then (-1 : Int) else if a.1 = b.1 then 0 else 1) = r1
 generalize hr2 : (if sLt a.2.1 b.2.1 = true then (-1 : Int) else if a.2.1 = b.2.1 then 0 else 1) = r2
 have f1 : (r1 < 0 ↔ sLt a.1 b.1 = true) /\ (r1 = 0 ↔ a.1 = b.1):=by
  by_cases h : sLt a.1 b.1 = true
  ·rw [if_pos h] at hr1; subst hr1
   refine ⟨by simp [h], fun e => absurd e (by decide), fun e => ?_⟩
   rw [e, Ybj] at h; cases h
  ·rw [if_neg h] at hr1
   by_cases h2 : a.1 = b.1
   ·rw [if_pos h2] at hr1; subst hr1; simp [h2, Ybj]
   ·rw [if_neg h2] at hr1; subst hr1; simp [h, h2]
 have f2 : r2 < 0 ↔ sLt a.2.1 b.2.1 = true:=by
  by_cases h : sLt a.2.1 b.2.1 = true
  ·rw [if_pos h] at hr2; subst hr2; simp [h]
  ·rw [if_neg h] at hr2
   split at hr2 <;> subst hr2 <;> simp [h]
 refine newRow (sz:=1) (n:=2) rfl (by decide) fun b19 w5 hr5 _ hc5 => ?_
 refine YgB ?_
 have hcell:=(Ybc (off:=0) (e:=T_int) (fz:=(0, 0)) (b:=b19) (cs:=[.int .i64 r1, .int .i64 r2]) (w:=w5) (by
  obtain ⟨b', rest, e1, e2, _, _, e3⟩:=hr5.some0 (by decide)
  cases e1
  simp at e3
  subst e3
  simpa using e2))
 have fin : ∀ r, (r = r1 /\ r1 ≠ 0 \/ r1 = 0 /\ r = r2) -> J r w5:=by
  intro r hr
  refine k r w5 ?_ (H2d.chg.trans0 hc5)
  unfold aLt
  rw [Yhw]
  show r < 0 ↔ sLt a.1 b.1 = true \/ a.1 = b.1 /\ sLt a.2.1 b.2.1 = true
  rw [<- f1.1, <- f1.2, <- f2]
  rcases hr with ⟨rfl, h⟩ | ⟨h, rfl⟩ <;> omega
 refine ⟨fun x w' t => ∃ i : Nat, x = i /\ i <= 2 /\ t = 2 - i /\ w' = w5 /\ (1 <= i -> r1 = 0) /\ (2 <= i -> r2 = 0), ⟨_, 0, rfl, by decide, rfl, rfl, by omega, by omega⟩, ?_⟩
 rintro x w' t ⟨i, rfl, hi, rfl, rfl, h1, h2⟩
 refine Zz4 (fun hlt => ?_) (fun hge => ?_)
 ·refine Ygv (by omega) hlt ?_
  rw [Addr.add_mk, Int.toNat_natCast, Nat.zero_add, Nat.mul_one]
  have hi2 : i = 0 \/ i = 1:=by omega
  rcases hi2 with rfl | rfl
  ·refine ZxJ (n:=r1) (by have:=hcell 0 _ rfl; rwa [add_zero'] at this) ?_
   refine Zzi (fun hne => fin r1 (.inl ⟨rfl, hne⟩)) (fun he => ⟨_, by omega, 1, by rw [Zzb] <;> decide, by omega, rfl, rfl, fun _ => he, fun h => by omega⟩)
  ·refine ZxJ (n:=r2) (by have:=hcell 1 _ rfl; rwa [Addr.add_mk] at this) ?_
   refine Zzi (fun hne => fin r2 (.inr ⟨h1 (by omega), rfl⟩)) (fun he => ⟨_, by omega, 2, by rw [Zzb] <;> decide, by omega, rfl, rfl, fun _ => h1 (by omega), fun _ => he⟩)
 ·exact fin 0 (.inr ⟨h1 (by omega), (h2 (by omega)).symm⟩)
theorem cmp_at {p : Option Addr} {l : Nat} {X : List At} {i j : Int} {ni nj : Nat} {wd : World} {K : Int -> World -> Prop} (h : Sl wd p l 3 (rows atc X)) (hi : i = ni) (hj : j = nj) (li : ni < l) (lj : nj < l)
  (k : ∀ r w', (r < 0 ↔ aLt (pf X ni) (pf X nj) = true) -> Chg No wd w' -> K r w') :
  ZzS p l i fun a => ldStr wd (a.add (i.toNat * 3)) fun x0 => ldStr wd ((a.add (i.toNat * 3)).add 1) fun x1 => ldStr wd ((a.add (i.toNat * 3)).add 2) fun x2 =>
   ZzS p l j fun a' => ldStr wd (a'.add (j.toNat * 3)) fun y0 => ldStr wd ((a'.add (j.toNat * 3)).add 1) fun y1 => ldStr wd ((a'.add (j.toNat * 3)).add 2) fun y2 =>
    Zz0 Tryz.prog ZzY #[.agg ⟨[.string x0, .string x1, .string x2]⟩, .agg ⟨[.string y0, .string y1, .string y2]⟩] wd [.one (.int .i64)] K:=by
 refine at_i h hi li fun a e0 e1 e2 => ZzB e0 (ZzB e1 (ZzB e2 ?_))
 refine at_i h hj lj fun a' f0 f1 f2 => ZzB f0 (ZzB f1 (ZzB f2 ?_))
 exact CmpA_ok k
theorem swap_at {p : Option Addr} {l c : Nat} {X : List At} {i j : Int} {ni nj : Nat} {K : World -> Prop} (hr : Row w ZzO 3 p l c (rows atc X)) (hi : i = ni) (hj : j = nj) (li : ni < l) (lj : nj < l)
  (k : ∀ w', Row w' ZzO 3 p l c (rows atc (swl X ni nj)) -> Chg (isB p) w w' -> K w') :
  ZzS p l j fun a => ldStr w (a.add (j.toNat * 3)) fun x0 => ldStr w ((a.add (j.toNat * 3)).add 1) fun x1 => ldStr w ((a.add (j.toNat * 3)).add 2) fun x2 =>
   ZzS p l i fun a' => ldStr w (a'.add (i.toNat * 3)) fun y0 => ldStr w ((a'.add (i.toNat * 3)).add 1) fun y1 => ldStr w ((a'.add (i.toNat * 3)).add 2) fun y2 =>
    ZzS p l i fun a51 => stN w (a51.add (i.toNat * 3)) ⟨[.string x0, .string x1, .string x2]⟩ 3 fun w4 =>
     ZzS p l j fun a52 => stN w4 (a52.add (j.toNat * 3)) ⟨[.string y0, .string y1, .string y2]⟩ 3 fun w5 => K w5:=by
 subst hi; subst hj
 refine at_i hr.sl rfl lj fun a e0 e1 e2 => ZzB e0 (ZzB e1 (ZzB e2 ?_))
 refine at_i hr.sl rfl li fun a' f0 f1 f2 => ZzB f0 (ZzB f1 (ZzB f2 ?_))
 refine Row.stE (YaK X) hr (by omega) (by omega) (x:=pf X nj) rfl (Yg7 _) (by decide) fun w4 hr4 hc4 => ?_
 rw [Int.toNat_natCast] at hr4
 refine Row.stE (YaK _) hr4 (by omega) (by omega) (x:=pf X ni) rfl (Yg7 _) (by decide) fun w5 hr5 hc5 => ?_
 rw [Int.toNat_natCast] at hr5
 exact k w5 hr5 (hc4.trans hc5 fun _ _ h => h)
abbrev RA (w : World) (p : Option Addr) (l c : Nat) (X : List At) : Prop:=Row w ZzO 3 p l c (rows atc X)
theorem RA.n {p : Option Addr} {l c : Nat} {X : List At} (h : RA w p l c X) : X.length = l:=h.sl.row (YaK X) (by decide)
theorem RA.drew {p : Option Addr} {l c : Nat} {X : List At} (h : RA w p l c X) : RA w.drew p l c X:=h.chg (Chg.refl No w).drew (off_no _)
theorem InsSort_ok {p : Option Addr} {l c a b : Nat} {X : List At} {J : World -> Prop} (hr : RA w p l c X) (hm : l <= 1000000000) (hb : b <= l) (hab : a <= b)
  (K : ∀ X' w', RA w' p l c X' -> Sw a b X X' -> Up aLt (pf X') a b -> Chg (isB p) w w' -> J w') :
  Zz0 Tryz.prog ZzD #[.slice p l c, .int .i64 (a : Int), .int .i64 (b : Int), .func (.func 123) #[] #[]] w [] J:=by
 refine ZxS ?_
 have hXl:=hr.n
 refine ⟨fun x w' t => ∃ (i : Nat) (Y : List At), x = i /\ a + 1 <= i /\ (i <= b \/ i = a + 1) /\ t = b + 1 - i /\ RA w' p l c Y /\ Sw a b X Y /\ Up aLt (pf Y) a i /\ Chg (isB p) w w',
  ⟨_, a + 1, X, by rw [Zzb] <;> omega, Nat.le_refl _, .inr rfl, rfl, hr, .refl, fun i j h1 h2 h3 => by omega, Chg.refl _ _⟩, ?_⟩
 rintro x w1 t ⟨i, Y, rfl, hi1, hi2, rfl, hr1, hsw, hup, hc1⟩
 refine Zz4 (fun hlt => ?_) (fun hge => K Y w1 hr1 hsw (hup.sub (Nat.le_refl _) (by omega)) hc1)
 have hib : i < b:=by omega
 -- the element goes down
 refine ⟨fun x w' t => ∃ (j : Nat) (Z : List At), x = j /\ a <= j /\ j <= i /\ j = t /\ RA w' p l c Z /\ Sw a b X Z /\ Up aLt (pf Z) a j /\ (∀ u v, a <= u -> u < v -> v <= i -> u ≠ j -> v ≠ j -> aLt (pf Z v) (pf Z u) = false) /\ (∀ v, j < v -> v <= i -> aLt (pf Z v) (pf Z j) = false) /\ Chg (isB p) w w',
  ⟨_, i, Y, rfl, by omega, Nat.le_refl _, rfl, hr1, hsw, hup, fun u v h1 h2 h3 h4 h5 => hup u v h1 h2 (by omega), fun v h1 h2 => by omega, hc1⟩, ?_⟩
 rintro x w2 t ⟨j, Z, rfl, haj, hji, rfl, hr2, hsz, hupj, hoth, habv, hc2⟩
 have hZl:=hr2.n
 refine Zz7 fun J34 hJ34 => ?_
 have k34 : ∀ b' w3, (b' = true -> a < j /\ aLt (pf Z j) (pf Z (j - 1)) = true) -> (b' = false -> a < j -> aLt (pf Z j) (pf Z (j - 1)) = false) -> Chg No w2 w3 -> J34 b' w3:=by
  intro b' w3 h1 h0 hc3; subst hJ34
  have hr3 : RA w3 p l c Z:=hr2.chg hc3 (off_no _)
  have hc03:=hc2.trans0 hc3
  refine Zz9 (fun hb' => ?_) (fun hb' => ?_)
  ·obtain ⟨g1, g2⟩:=h1 hb'
   have e1 : w64 ((j : Int) - 1) = ((j - 1 : Nat) : Int):=by rw [Zzb] <;> omega
   rw [e1]
   refine swap_at (i:=(j : Int)) (j:=((j - 1 : Nat) : Int)) hr3.drew rfl rfl (by omega) (by omega) fun w5 hr5 hc5 => ?_
   have hc05:=hc03.drew.trans hc5 fun _ _ h => h
   have hg : pf (swl Z j (j - 1)) = swf (pf Z) j (j - 1):=swl_pf (by omega) (by omega)
   refine ⟨j - 1, by omega, j - 1, _, rfl, by omega, by omega, rfl, hr5, .step hsz ⟨by omega, by omega⟩ ⟨by omega, by omega⟩ (by omega), ?_, ?_, ?_, hc05⟩
   ·rw [hg]
    intro u v q1 q2 q3
    unfold swf
    rw [if_neg (by omega), if_neg (by omega), if_neg (by omega), if_neg (by omega)]
    exact hupj u v q1 q2 (by omega)
   ·rw [hg]
    intro u v q1 q2 q3 q4 q5
    unfold swf
    rw [if_neg q5, if_neg q4]
    by_cases hu : u = j
    ·rw [if_pos hu, if_neg (by omega)]
     exact hoth (j - 1) v (by omega) (by omega) q3 (by omega) (by omega)
    ·rw [if_neg hu]
     by_cases hv : v = j
     ·rw [if_pos hv]
      exact hupj u (j - 1) q1 (by omega) (by omega)
     ·rw [if_neg hv]
      exact hoth u v q1 q2 q3 hu hv
   ·rw [hg]
    intro v q1 q2
    unfold swf
    rw [if_pos rfl, if_neg (by omega)]
    by_cases hv : v = j
    ·rw [if_pos hv]; exact ZyI.asym g2
    ·rw [if_neg hv]; exact habv v (by omega) q2
  ·refine ⟨b + 1 - (i + 1), by omega, i + 1, Z, by rw [Zzb] <;> omega, by omega, .inl (by omega), rfl, hr3, hsz, ?_, hc03⟩
   refine Up.adj ZyI fun u q1 q2 => ?_
   by_cases hu : u = j
   ·subst hu; exact habv (u + 1) (by omega) (by omega)
   ·by_cases hv : u + 1 = j
    ·have:=h0 hb' (by omega)
     rw [<- hv] at this
     simpa using this
    ·exact hoth u (u + 1) q1 (by omega) (by omega) hu hv
 clear hJ34
 refine Zz4 (fun hgt => ?_) (fun hle => k34 false _ (fun h => by cases h) (fun _ h => by omega) (Chg.refl No w2).drew)
 have e1 : w64 ((j : Int) - 1) = ((j - 1 : Nat) : Int):=by rw [Zzb] <;> omega
 rw [e1]
 refine cmp_at (i:=(j : Int)) (j:=((j - 1 : Nat) : Int)) hr2.drew.sl rfl rfl (by omega) (by omega) fun r w6 hr6 hc6 => ?_
 refine k34 _ w6 (fun h => ⟨by omega, hr6.1 (of_decide_eq_true h)⟩) (fun h _ => ?_) ((Chg.refl No w2).drew.trans0 hc6)
 cases hb2 : aLt (pf Z j) (pf Z (j - 1)) with
 | false => rfl
 | true => exact absurd (hr6.2 hb2) (of_decide_eq_false h)
theorem SwapR_ok {p : Option Addr} {l c a b n : Nat} {X : List At} {J : World -> Prop} (hr : RA w p l c X) (hm : l <= 1000000000) (hab : a + n <= b) (hb : b + n <= l)
  (K : ∀ X' w', RA w' p l c X' -> Sw a (b + n) X X' -> pf X' = swR (pf X) a b n -> Chg (isB p) w w' -> J w') :
  Zz0 Tryz.prog ZzA #[.slice p l c, .int .i64 (a : Int), .int .i64 (b : Int), .int .i64 (n : Int), .func (.func 123) #[] #[]] w [] J:=by
 refine Zqp ?_
 have hXl:=hr.n
 refine ⟨fun x w' t => ∃ (i : Nat) (Y : List At), x = i /\ i <= n /\ t = n - i /\ RA w' p l c Y /\ Sw a (b + n) X Y /\ pf Y = swR (pf X) a b i /\ Chg (isB p) w w', ⟨_, 0, X, rfl, Nat.zero_le _, rfl, hr, .refl, (swR_zero _ _ _).symm, Chg.refl _ _⟩, ?_⟩
 rintro x w1 t ⟨i, Y, rfl, hi, rfl, hr1, hsw, hpf, hc1⟩
 refine Zz4 (fun hlt => ?_) (fun hge => ?_)
 ·have e1 : w64 ((b : Int) + (i : Int)) = ((b + i : Nat) : Int):=by rw [Zzb] <;> omega
  have e2 : w64 ((a : Int) + (i : Int)) = ((a + i : Nat) : Int):=by rw [Zzb] <;> omega
  rw [e1, e2]
  refine swap_at (i:=((a + i : Nat) : Int)) (j:=((b + i : Nat) : Int)) hr1.drew rfl rfl (by omega) (by omega) fun w3 hr3 hc3 => ?_
  have hYl:=hr1.n
  refine ⟨n - (i + 1), by omega, i + 1, _, by rw [Zzb] <;> omega, by omega, rfl, hr3, .step hsw ⟨by omega, by omega⟩ ⟨by omega, by omega⟩ (by omega), ?_, hc1.drew.trans hc3 fun _ _ h => h⟩
  rw [swl_pf (by omega) (by omega), hpf, swR_succ _ (by omega)]
 ·have : i = n:=by omega
  subst this
  exact K Y w1 hr1 hsw hpf hc1
theorem Rotate_ok {p : Option Addr} {l c a m b : Nat} {X : List At} {J : World -> Prop} (hr : RA w p l c X) (hm : l <= 1000000000) (ham : a < m) (hmb : m < b) (hb : b <= l)
  (K : ∀ X' w', RA w' p l c X' -> Sw a b X X' -> pf X' = Yhi (pf X) a m b -> Chg (isB p) w w' -> J w') :
  Zz0 Tryz.prog Zyt #[.slice p l c, .int .i64 (a : Int), .int .i64 (m : Int), .int .i64 (b : Int), .func (.func 123) #[] #[]] w [] J:=by
 refine ZqP ?_
 have hXl:=hr.n
 refine ⟨fun x y w' t => ∃ (i j : Nat) (Y : List At), x = i /\ y = j /\ 1 <= i /\ 1 <= j /\ i <= m - a /\ j <= b - m /\ t = i + j /\ RA w' p l c Y /\ Sw a b X Y /\ Yhi (pf Y) (m - i) m (m + j) = Yhi (pf X) a m b /\ Chg (isB p) w w',
  ⟨_, m - a, b - m, X, by rw [Zzb] <;> omega, by rw [Zzb] <;> omega, by omega, by omega, Nat.le_refl _, Nat.le_refl _, rfl, hr, .refl, by rw [show m - (m - a) = a by omega, show m + (b - m) = b by omega], Chg.refl _ _⟩, ?_⟩
 rintro x y w1 t ⟨i, j, Y, rfl, rfl, hi1, hj1, hi, hj, rfl, hr1, hsw, hrot, hc1⟩
 have hYl:=hr1.n
 have e1 : w64 ((m : Int) - (i : Int)) = ((m - i : Nat) : Int):=by rw [Zzb] <;> omega
 refine Zzi (fun hne => ?_) (fun he => ?_)
 ·rw [e1]
  refine Zz4 (fun hgt => ?_) (fun hle => ?_)
  ·refine SwapR_ok hr1 hm (by omega) (by omega) fun X' w2 hr2 hsw2 hpf hc2 => ?_
   refine ⟨_, by omega, i - j, j, X', by rw [Zzb] <;> omega, rfl, by omega, hj1, by omega, hj, rfl, hr2, hsw.trans (hsw2.mono (by omega) (by omega) (by omega)), ?_, hc1.trans hc2 fun _ _ h => h⟩
   rw [hpf, rot_left _ (by omega) (by omega), hrot]
  ·have e2 : w64 (w64 ((m : Int) + (j : Int)) - (i : Int)) = ((m + j - i : Nat) : Int):=by
    rw [Zzb (n:=(m : Int) + (j : Int)) (by omega) (by omega), Zzb] <;> omega
   rw [e2]
   have hij : i < j:=by omega
   refine SwapR_ok hr1 hm (by omega) (by omega) fun X' w2 hr2 hsw2 hpf hc2 => ?_
   refine ⟨i + (j - i), by omega, i, j - i, X', rfl, by rw [Zzb] <;> omega, hi1, by omega, hi, by omega, rfl, hr2, hsw.trans (hsw2.mono (by omega) (by omega) (by omega)), ?_, hc1.trans hc2 fun _ _ h => h⟩
   rw [hpf, rot_right _ hij (by omega), hrot]
 ·have hij : i = j:=by omega
  subst hij
  rw [e1]
  refine SwapR_ok hr1 hm (by omega) (by omega) fun X' w2 hr2 hsw2 hpf hc2 => ?_
  refine K X' w2 hr2 (hsw.trans (hsw2.mono (by omega) (by omega) (by omega))) ?_ (hc1.trans hc2 fun _ _ h => h)
  rw [hpf, rot_same _ (by omega), hrot]
end
end Go.Proofs.YtglnmjflpkeclaaGreatDoor
end
section
namespace Go.Vc
open Go Go.Lib
inductive Nd where
 | mk (kind : Int) (uri loc text : ByteArray) (attrs : List At) (kids : List Nd)
inductive NV where
 | mk (kind : Int) (uri loc text : ByteArray) (ap : Option Addr) (al ac : Nat) (attrs : List At) (kp : Option Addr) (kl kc : Nat) (kids : List NV)
theorem NV.ind {P : NV -> Prop} (h : ∀ k u l t ap al ac ats kp kl kc ks, (∀ x ∈ ks, P x) -> P (.mk k u l t ap al ac ats kp kl kc ks)) (v : NV) : P v :=
  NV.rec (motive_1:=P) (motive_2:=fun ks => ∀ x ∈ ks, P x) (fun k u l t ap al ac ats kp kl kc ks ih => h k u l t ap al ac ats kp kl kc ks ih) (by simp)
    (fun x r hx hr y hy => by rcases List.mem_cons.1 hy with rfl | hy; · exact hx
                              · exact hr y hy) v
theorem Nd.ind {P : Nd -> Prop} (h : ∀ k u l t ats ks, (∀ x ∈ ks, P x) -> P (.mk k u l t ats ks)) (v : Nd) : P v :=
  Nd.rec (motive_1:=P) (motive_2:=fun ks => ∀ x ∈ ks, P x) (fun k u l t ats ks ih => h k u l t ats ks ih) (by simp)
    (fun x r hx hr y hy => by rcases List.mem_cons.1 hy with rfl | hy; · exact hx
                              · exact hr y hy) v
def NV.cells : NV -> List Value
 | .mk k u l t ap al ac _ kp kl kc _ => [.int .i64 k, .string u, .string l, .slice ap al ac, .slice kp kl kc, .string t]
theorem Zzw (L : List NV) : Ygo NV.cells 6 L:=fun x _ => by cases x; rfl
theorem Zqe (x : NV) : one1 x.cells:=by
 cases x
 intro v hv
 simp only [NV.cells, mem_cons, not_mem_nil, or_false] at hv
 rcases hv with rfl | rfl | rfl | rfl | rfl | rfl <;> rfl
mutual
def NV.nd : NV -> Nd
 | .mk k u l t _ _ _ ats _ _ _ ks => .mk k u l t ats (NV.ndL ks)
def NV.ndL : List NV -> List Nd
 | [] => []
 | x :: r => x.nd :: NV.ndL r
end
theorem Yf7 : ∀ ks, NV.ndL ks = ks.map NV.nd
 | [] => rfl
 | x :: r => by simp [NV.ndL, Yf7 r]
def ZxI (a : At) : Nat:=1 + a.1.size + a.2.1.size + a.2.2.size
mutual
def NV.mea : NV -> Nat
 | .mk _ u l t _ _ _ ats _ _ _ ks => 1 + u.size + l.size + t.size + (ats.map ZxI).sum + NV.meaL ks
def NV.meaL : List NV -> Nat
 | [] => 0
 | x :: r => x.mea + NV.meaL r
end
theorem meaL_sum : ∀ ks, NV.meaL ks = (ks.map NV.mea).sum
 | [] => rfl
 | x :: r => by simp [NV.meaL, meaL_sum r]
theorem Yhx {α : Type} (f : α -> Nat) : ∀ {l : List α} {x : α}, x ∈ l -> f x <= (l.map f).sum
 | y :: l, x, h => by
  rw [map_cons, sum_cons]
  rcases mem_cons.1 h with rfl | h
  ·omega
  ·have:=Yhx f h; omega
theorem Yf8 {x : NV} {ks : List NV} (h : x ∈ ks) : x.mea <= NV.meaL ks:=by rw [meaL_sum]; exact Yhx NV.mea h
theorem mea_pos (v : NV) : 1 <= v.mea:=by cases v; simp only [NV.mea]; omega
theorem YbC : ∀ ks : List NV, ks.length <= NV.meaL ks
 | [] => Nat.le_refl _
 | x :: r => by have:=YbC r; have:=mea_pos x; simp only [NV.meaL, length_cons]; omega
theorem YbZ : ∀ ats : List At, ats.length <= (ats.map ZxI).sum
 | [] => Nat.le_refl _
 | x :: r => by
  have:=YbZ r
  rw [map_cons, sum_cons, length_cons]
  unfold ZxI at *; omega
inductive NV.Ok (w : World) : NV -> Prop
 | mk {k : Int} {u l t : ByteArray} {ap : Option Addr} {al ac : Nat} {ats : List At} {kp : Option Addr} {kl kc : Nat} {ks : List NV}
   (ha : Sl w ap al 3 (rows atc ats)) (hn : ap = none -> al = 0) (hac : al <= ac) (hk : Sl w kp kl 6 (rows NV.cells ks)) (hkn : kp = none -> kl = 0) (hkc : kl <= kc) (hks : ∀ x ∈ ks, NV.Ok w x) : NV.Ok w (.mk k u l t ap al ac ats kp kl kc ks)
inductive NV.Off (S : Nat -> Prop) : NV -> Prop
 | mk {k : Int} {u l t : ByteArray} {ap : Option Addr} {al ac : Nat} {ats : List At} {kp : Option Addr} {kl kc : Nat} {ks : List NV}
   (ha : off ap S) (hk : off kp S) (hks : ∀ x ∈ ks, NV.Off S x) : NV.Off S (.mk k u l t ap al ac ats kp kl kc ks)
theorem NV.off_no (v : NV) : NV.Off No v:=by
 induction v using NV.ind with
 | h k u l t ap al ac ats kp kl kc ks ih => exact .mk (Vc.off_no _) (Vc.off_no _) ih
theorem NV.Ok.chg {w w' : World} {S : Nat -> Prop} (hc : Chg S w w') : ∀ {v : NV}, NV.Ok w v -> NV.Off S v -> NV.Ok w' v:=by
 intro v
 induction v using NV.ind with
 | h k u l t ap al ac ats kp kl kc ks ih =>
  intro h ho
  cases h with
  | mk ha hn hac hk hkn hkc hks =>
   cases ho with
   | mk oa ok oks => exact .mk (ha.chg hc oa) hn hac (hk.chg hc ok) hkn hkc fun x hx => ih x hx (hks x hx) (oks x hx)
theorem NV.Ok.chg0 {w w' : World} {v : NV} (h : NV.Ok w v) (hc : Chg No w w') : NV.Ok w' v:=h.chg hc v.off_no
mutual
def NV.flat : NV -> List NV
 | .mk k u l t ap al ac ats kp kl kc ks => .mk k u l t ap al ac ats kp kl kc ks :: NV.flatL ks
def NV.flatL : List NV -> List NV
 | [] => []
 | x :: r => x.flat ++ NV.flatL r
end
mutual
def Nd.flat : Nd -> List Nd
 | .mk k u l t ats ks => .mk k u l t ats ks :: Nd.flatL ks
def Nd.flatL : List Nd -> List Nd
 | [] => []
 | x :: r => x.flat ++ Nd.flatL r
end
theorem Ygw : ∀ a b : List NV, NV.flatL (a ++ b) = NV.flatL a ++ NV.flatL b
 | [], _ => rfl
 | x :: r, b => by simp [NV.flatL, Ygw r b]
mutual
theorem flat_len : ∀ v : NV, v.flat.length <= v.mea
 | .mk k u l t ap al ac ats kp kl kc ks => by
  have:=flatL_len ks
  simp only [NV.flat, NV.mea, length_cons]; omega
theorem flatL_len : ∀ ks : List NV, (NV.flatL ks).length <= NV.meaL ks
 | [] => Nat.le_refl _
 | x :: r => by
  have:=flat_len x; have:=flatL_len r
  simp only [NV.flatL, NV.meaL, length_append]; omega
end
mutual
theorem flat_nd : ∀ v : NV, v.flat.map NV.nd = v.nd.flat
 | .mk k u l t ap al ac ats kp kl kc ks => by
  have:=flatL_nd ks
  simp only [NV.flat, NV.nd, Nd.flat, map_cons, this]
theorem flatL_nd : ∀ ks : List NV, (NV.flatL ks).map NV.nd = Nd.flatL (NV.ndL ks)
 | [] => rfl
 | x :: r => by
  have:=flat_nd x; have:=flatL_nd r
  simp only [NV.flatL, NV.ndL, Nd.flatL, map_append, *]
end
theorem flat_mem {v x : NV} (h : x ∈ v.flat) : ∀ {w : World}, NV.Ok w v -> NV.Ok w x:=by
 intro w
 induction v using NV.ind with
 | h k u l t ap al ac ats kp kl kc ks ih =>
  intro hv
  simp only [NV.flat, mem_cons] at h
  rcases h with rfl | h
  ·exact hv
  ·cases hv with
   | mk ha hn hac hk hkn hkc hks =>
    have key : ∀ ks' : List NV, (∀ y ∈ ks', y ∈ ks) -> x ∈ NV.flatL ks' -> NV.Ok w x:=by
     intro ks'
     induction ks' with
     | nil => intro _ h; cases h
     | cons y r ihr =>
      intro hs h
      simp only [NV.flatL, mem_append] at h
      rcases h with h | h
      ·exact ih y (hs y (by simp)) h (hks y (hs y (by simp)))
      ·exact ihr (fun z hz => hs z (by simp [hz])) h
    exact key ks (fun y hy => hy) h
theorem flat_mea {v x : NV} (h : x ∈ v.flat) : x.mea <= v.mea:=by
 induction v using NV.ind with
 | h k u l t ap al ac ats kp kl kc ks ih =>
  simp only [NV.flat, mem_cons] at h
  rcases h with rfl | h
  ·exact Nat.le_refl _
  ·have key : ∀ ks' : List NV, (∀ y ∈ ks', y ∈ ks) -> x ∈ NV.flatL ks' -> x.mea <= NV.meaL ks':=by
    intro ks'
    induction ks' with
    | nil => intro _ h; cases h
    | cons y r ihr =>
     intro hs h
     simp only [NV.flatL, mem_append] at h
     simp only [NV.meaL]
     rcases h with h | h
     ·have:=ih y (hs y (by simp)) h; omega
     ·have:=ihr (fun z hz => hs z (by simp [hz])) h; omega
   have:=key ks (fun y hy => hy) h
   simp only [NV.mea]; omega
end Go.Vc
namespace Go.Vc
open Go Go.Lib
def Nd.kind : Nd -> Int | .mk k _ _ _ _ _ => k
def Nd.uri : Nd -> ByteArray | .mk _ u _ _ _ _ => u
def Nd.loc : Nd -> ByteArray | .mk _ _ l _ _ _ => l
def Nd.text : Nd -> ByteArray | .mk _ _ _ t _ _ => t
def Nd.attrs : Nd -> List At | .mk _ _ _ _ ats _ => ats
def Nd.kids : Nd -> List Nd | .mk _ _ _ _ _ ks => ks
theorem flatL_mem {x : Nd} : ∀ {ks : List Nd}, x ∈ Nd.flatL ks ↔ ∃ k ∈ ks, x ∈ k.flat
 | [] => by simp [Nd.flatL]
 | y :: r => by simp [Nd.flatL, flatL_mem (ks:=r)]
theorem YfJ (d : Nd) : d ∈ d.flat:=by cases d; simp [Nd.flat]
theorem Zxp {x d : Nd} : x ∈ d.flat ↔ x = d \/ ∃ k ∈ d.kids, x ∈ k.flat:=by
 cases d with
 | mk k u l t ats ks => simp only [Nd.flat, mem_cons, flatL_mem, Nd.kids]
theorem flat_parent {d x : Nd} (h : x ∈ d.flat) : x = d \/ ∃ y ∈ d.flat, x ∈ y.kids:=by
 induction d using Nd.ind with
 | h k u l t ats ks ih =>
  rcases Zxp.1 h with rfl | ⟨c, hc, hx⟩
  ·exact .inl rfl
  ·right
   rcases ih c hc hx with rfl | ⟨y, hy, hxy⟩
   ·exact ⟨_, YfJ _, hc⟩
   ·exact ⟨y, Zxp.2 (.inr ⟨c, hc, hy⟩), hxy⟩
theorem flat_kid {d y x : Nd} (hy : y ∈ d.flat) (hx : x ∈ y.kids) : x ∈ d.flat:=by
 induction d using Nd.ind with
 | h k u l t ats ks ih =>
  rcases Zxp.1 hy with rfl | ⟨c, hc, hyc⟩
  ·exact Zxp.2 (.inr ⟨x, hx, YfJ x⟩)
  ·exact Zxp.2 (.inr ⟨c, hc, ih c hc hyc⟩)
theorem flat_trans {d y x : Nd} (hy : y ∈ d.flat) (hx : x ∈ y.flat) : x ∈ d.flat:=by
 induction d using Nd.ind with
 | h k u l t ats ks ih =>
  rcases Zxp.1 hy with rfl | ⟨c, hc, hyc⟩
  ·exact hx
  ·exact Zxp.2 (.inr ⟨c, hc, ih c hc hyc⟩)
def YfE (p k : Int) : Bool:=decide ((p = 1 /\ (k = 2 \/ k = 4 \/ k = 5)) \/ (p = 2 /\ 2 <= k /\ k <= 5))
def ZzN : ByteArray:=⟨#[]⟩
def YaP (n : Nd) : Bool :=
 n.kids.all (fun k => YfE n.kind k.kind) &&
 (if n.kind = 1 then decide (n.uri = ZzN /\ n.loc = ZzN /\ n.text = ZzN /\ n.attrs = [])
  else if n.kind = 2 then decide (n.text = ZzN)
  else if n.kind = 3 \/ n.kind = 4 then decide (n.uri = ZzN /\ n.loc = ZzN /\ n.attrs = []) && n.kids.isEmpty
  else if n.kind = 5 then decide (n.uri = ZzN /\ n.attrs = []) && n.kids.isEmpty
  else false)
def oddQ (k : Int) (u l t : ByteArray) (ats : List At) : Bool :=
 if k = 1 then decide (ats ≠ []) || decide (¬ (u = ZzN /\ l = ZzN)) || decide (t ≠ ZzN)
 else if k = 2 then decide (t ≠ ZzN)
 else if k = 5 then decide (ats ≠ []) || decide (u ≠ ZzN)
 else decide (ats ≠ []) || decide (¬ (u = ZzN /\ l = ZzN))
def oddP (n : Nd) : Bool:=oddQ n.kind n.uri n.loc n.text n.attrs || n.kids.any (fun k => !YfE n.kind k.kind)
theorem Yd3 {p k : Int} (h : YfE p k = true) : (p = 1 \/ p = 2) /\ (k = 2 \/ k = 3 \/ k = 4 \/ k = 5):=by
 have:=of_decide_eq_true h; omega
theorem kind_odd {n : Nd} (h : YaP n = true) : oddP n = false:=by
 unfold YaP at h
 rw [Bool.and_eq_true] at h
 have hk : n.kids.any (fun k => !YfE n.kind k.kind) = false:=by
  rw [any_eq_false]
  intro x hx
  have:=all_eq_true.1 h.1 x hx
  simp [this]
 unfold oddP oddQ
 rw [hk, Bool.or_false]
 have h2:=h.2
 by_cases e1 : n.kind = 1
 ·rw [if_pos e1] at h2 ⊢
  have:=of_decide_eq_true h2
  simp [this.1, this.2.1, this.2.2.1, this.2.2.2]
 rw [if_neg e1] at h2 ⊢
 by_cases e2 : n.kind = 2
 ·rw [if_pos e2] at h2 ⊢
  have:=of_decide_eq_true h2
  simp [this]
 rw [if_neg e2] at h2 ⊢
 by_cases e3 : n.kind = 3 \/ n.kind = 4
 ·rw [if_pos e3, Bool.and_eq_true] at h2
  have:=of_decide_eq_true h2.1
  rw [if_neg (by omega)]
  simp [this.1, this.2.1, this.2.2]
 rw [if_neg e3] at h2
 by_cases e5 : n.kind = 5
 ·rw [if_pos e5, Bool.and_eq_true] at h2
  rw [if_pos e5]
  have:=of_decide_eq_true h2.1
  simp [this.1, this.2]
 ·rw [if_neg e5] at h2; cases h2
theorem odd_kind {n : Nd} (hk : n.kind = 1 \/ n.kind = 2 \/ n.kind = 3 \/ n.kind = 4 \/ n.kind = 5) (h : oddP n = false) : YaP n = true:=by
 unfold oddP oddQ at h
 rw [Bool.or_eq_false_iff] at h
 have hall : n.kids.all (fun k => YfE n.kind k.kind) = true:=by
  rw [all_eq_true]
  intro x hx
  have:=any_eq_false.1 h.2 x hx
  simpa using this
 unfold YaP
 rw [hall, Bool.true_and]
 have noK : ¬ (n.kind = 1 \/ n.kind = 2) -> n.kids.isEmpty = true:=by
  intro hn
  cases hks : n.kids with
  | nil => rfl
  | cons x r =>
   have:=all_eq_true.1 hall x (by rw [hks]; simp)
   exact absurd (Yd3 this).1 hn
 have h2:=h.1
 by_cases e1 : n.kind = 1
 ·rw [if_pos e1] at h2 ⊢
  simp only [Bool.or_eq_false_iff, decide_eq_false_iff_not, Decidable.not_not] at h2
  exact decide_eq_true ⟨h2.1.2.1, h2.1.2.2, h2.2, h2.1.1⟩
 rw [if_neg e1] at h2 ⊢
 by_cases e2 : n.kind = 2
 ·rw [if_pos e2] at h2 ⊢
  simp only [decide_eq_false_iff_not, Decidable.not_not] at h2
  exact decide_eq_true h2
 rw [if_neg e2] at h2 ⊢
 have hemp:=noK (by omega)
 by_cases e3 : n.kind = 3 \/ n.kind = 4
 ·rw [if_neg (by omega)] at h2
  simp only [Bool.or_eq_false_iff, decide_eq_false_iff_not, Decidable.not_not] at h2
  rw [if_pos e3, hemp, Bool.and_true]
  exact decide_eq_true ⟨h2.2.1, h2.2.2, h2.1⟩
 ·have e5 : n.kind = 5:=by omega
  rw [if_pos e5] at h2
  simp only [Bool.or_eq_false_iff, decide_eq_false_iff_not, Decidable.not_not] at h2
  rw [if_neg e3, if_pos e5, hemp, Bool.and_true]
  exact decide_eq_true ⟨h2.2, h2.1⟩
theorem odd_all {d : Nd} (hd : d.kind = 1) : d.flat.any oddP = !d.flat.all YaP:=by
 cases hall : d.flat.all YaP with
 | true =>
  rw [Bool.not_true, any_eq_false]
  intro x hx
  rw [kind_odd (all_eq_true.1 hall x hx)]; decide
 | false =>
  rw [Bool.not_false]
  rcases hany : d.flat.any oddP with _ | _
  ·exfalso
   rw [Bool.eq_false_iff] at hall
   apply hall
   rw [all_eq_true]
   have hno : ∀ x ∈ d.flat, oddP x = false:=fun x hx => by simpa using any_eq_false.1 hany x hx
   intro x hx
   refine odd_kind ?_ (hno x hx)
   rcases flat_parent hx with rfl | ⟨y, hy, hxy⟩
   ·exact .inl hd
   ·have h1:=hno y hy
    unfold oddP oddQ at h1
    rw [Bool.or_eq_false_iff] at h1
    have h2:=any_eq_false.1 h1.2 x hxy
    have:=(Yd3 (p:=y.kind) (k:=x.kind) (by simpa using h2)).2
    omega
  ·rfl
mutual
def Ych (above : Int) : Nd -> Bool
 | .mk k _ _ _ _ ks => if k = 2 then (if above > 32 then true else Yer (above + 1) ks) else Yer above ks
def Yer (above : Int) : List Nd -> Bool
 | [] => false
 | x :: r => Ych above x || Yer above r
end
theorem YeG (above : Int) : ∀ ks, Yer above ks = ks.any (Ych above)
 | [] => rfl
 | x :: r => by simp [Yer, YeG above r]
def Ycr (n : Nd) : Bool:=decide (64 < n.attrs.length) || decide (8192 < n.text.size) || n.attrs.any (fun a => decide (8192 < a.2.2.size))
def YdB (s : ByteArray) : Bool:=decide ((flt 0 (bl s)).2 = 0)
def kXMLNS : ByteArray:=⟨#[104, 116, 116, 112, 58, 47, 47, 119, 119, 119, 46, 119, 51, 46, 111, 114, 103, 47, 50, 48, 48, 48, 47, 120, 109, 108, 110, 115, 47]⟩
def kXn : ByteArray:=⟨#[120, 109, 108, 110, 115]⟩
def Zqc (n : Pr) : Bool:=nm (bl n.2) && decide (n.1.size <= 100) && YdB n.1 && decide (n.1 ≠ kXMLNS)
def YdM (a : At) : Bool:=Zqc (nameOf a) && !decide (a.1 = ZzN /\ a.2.1 = kXn)
def low3 (b : UInt8) : UInt8:=if 65 <= b.toNat /\ b.toNat <= 90 then b + 32 else b
def Ydq (l : List UInt8) : Bool:=decide (l.map low3 = [120, 109, 108])
def nameP (n : Nd) : Bool:=if n.kind = 2 then Zqc (n.uri, n.loc) && n.attrs.all YdM else if n.kind = 5 then nm (bl n.loc) && !Ydq (bl n.loc) else true
def Yhu (n : Nd) : Bool:=(decide (n.kind ≠ 2) || Zqc (n.uri, n.loc)) && n.attrs.all YdM && (decide (n.kind ≠ 5) || (nm (bl n.loc) && !Ydq (bl n.loc)))
theorem name_eq {n : Nd} (h : YaP n = true) : nameP n = Yhu n:=by
 unfold nameP Yhu
 by_cases e2 : n.kind = 2
 ·rw [if_pos e2]
  have : decide (n.kind ≠ 5) = true:=by rw [decide_eq_true_eq]; omega
  rw [this]; simp [e2]
 ·rw [if_neg e2]
  have ha : n.attrs = []:=by
   unfold YaP at h
   rw [Bool.and_eq_true] at h
   have h2:=h.2
   by_cases e1 : n.kind = 1
   ·rw [if_pos e1] at h2; exact (of_decide_eq_true h2).2.2.2
   rw [if_neg e1, if_neg e2] at h2
   by_cases e3 : n.kind = 3 \/ n.kind = 4
   ·rw [if_pos e3, Bool.and_eq_true] at h2; exact (of_decide_eq_true h2.1).2.2
   rw [if_neg e3] at h2
   by_cases e5 : n.kind = 5
   ·rw [if_pos e5, Bool.and_eq_true] at h2; exact (of_decide_eq_true h2.1).2
   ·rw [if_neg e5] at h2; cases h2
  rw [ha]
  by_cases e5 : n.kind = 5
  ·rw [if_pos e5]; simp [e2, e5]
  ·rw [if_neg e5]; simp [e2, e5]
def YeW (n : Nd) : Bool:=YdB n.text && n.attrs.all (fun a => YdB a.2.2)
def ascB : List At -> Bool
 | a :: b :: r => aLt a b && ascB (b :: r)
 | _ => true
def Ygu (n : Nd) : Bool:=ascB n.attrs
def ZzP : List Nd -> Bool
 | a :: b :: r => (decide (a.kind = 3) && decide (b.kind = 3)) || ZzP (b :: r)
 | _ => false
def YeT (w s : List UInt8) : Bool:=match s with
 | [] => w.isPrefixOf []
 | b :: r => w.isPrefixOf (b :: r) || YeT w r
def Yb9 (k : Int) (t : ByteArray) : Bool :=
 if k = 3 then decide (t ≠ ZzN)
 else if k = 4 then !YeT [45, 45] (bl t) && !YeT [13] (bl t) && decide ((bl t).getLast? ≠ some 45)
 else if k = 5 then !YeT [63, 62] (bl t) && !YeT [13] (bl t) && decide ((bl t).head? ≠ some 32 /\ (bl t).head? ≠ some 9 /\ (bl t).head? ≠ some 10)
 else true
def Yh7 (n : Nd) : Bool := !ZzP n.kids && Yb9 n.kind n.text
def Yhj (d : Nd) : Nat:=d.kids.countP fun k => decide (k.kind = 2)
def YgA (d : Nd) : Int :=
 if ¬ d.kind = 1 \/ d.flat.all YaP = false then 33
 else if Ych 0 d = true then 31
 else if 2001 < d.flat.length \/ d.flat.any Ycr = true then 5
 else if d.flat.all Yhu = false then 24
 else if d.flat.all YeW = false then 21
 else if d.flat.all Ygu = false then 34
 else if d.flat.all Yh7 = false then 32
 else if Yhj d ≠ 1 then 30 else 0
structure Right (d : Nd) : Prop where
 kind : d.kind = 1
 kinds : ∀ x ∈ d.flat, YaP x = true
 deep : Ych 0 d = false
 few : d.flat.length <= 2001
 great : ∀ x ∈ d.flat, Ycr x = false
 names : ∀ x ∈ d.flat, Yhu x = true
 chars : ∀ x ∈ d.flat, YeW x = true
 order : ∀ x ∈ d.flat, Ygu x = true
 texts : ∀ x ∈ d.flat, Yh7 x = true
 roots : Yhj d = 1
theorem YhS {d : Nd} : YgA d = 0 ↔ Right d:=by
 have ae : ∀ (p : Nd -> Bool), d.flat.all p = false ↔ ¬ ∀ x ∈ d.flat, p x = true:=fun p => by rw [<- all_eq_true, Bool.eq_false_iff]
 constructor
 ·intro h
  unfold YgA at h
  split at h
  ·cases h
  rename_i h1
  split at h
  ·cases h
  rename_i h2
  split at h
  ·cases h
  rename_i h3
  split at h
  ·cases h
  rename_i h4
  split at h
  ·cases h
  rename_i h5
  split at h
  ·cases h
  rename_i h6
  split at h
  ·cases h
  rename_i h7
  split at h
  ·cases h
  rename_i h8
  rw [ae] at h1 h4 h5 h6 h7
  refine ⟨by omega, ?_, by simpa using h2, by omega, ?_, Decidable.not_not.1 h4, Decidable.not_not.1 h5, Decidable.not_not.1 h6, Decidable.not_not.1 h7, by omega⟩
  ·exact Decidable.not_not.1 fun hn => h1 (.inr hn)
  ·intro x hx
   have : ¬ d.flat.any Ycr = true:=fun hn => h3 (.inr hn)
   rw [Bool.not_eq_true, any_eq_false] at this
   simpa using this x hx
 ·intro h
  unfold YgA
  have a1 : d.flat.all YaP = true:=all_eq_true.2 h.kinds
  have a4 : d.flat.all Yhu = true:=all_eq_true.2 h.names
  have a5 : d.flat.all YeW = true:=all_eq_true.2 h.chars
  have a6 : d.flat.all Ygu = true:=all_eq_true.2 h.order
  have a7 : d.flat.all Yh7 = true:=all_eq_true.2 h.texts
  have a3 : d.flat.any Ycr = false:=any_eq_false.2 fun x hx => by rw [h.great x hx]; decide
  have:=h.few
  have:=h.roots
  rw [if_neg (by rw [a1]; simp [h.kind]), if_neg (by rw [h.deep]; decide), if_neg (by rw [a3]; simp; omega), if_neg (by rw [a4]; decide), if_neg (by rw [a5]; decide), if_neg (by rw [a6]; decide), if_neg (by rw [a7]; decide), if_neg (by omega)]
end Go.Vc
end
section
namespace Go.Vc
open Go Go.Lib
structure TokQ where
 kind : Int
 at_ : Nat
 name : ByteArray
 pairs : List Pr
 text : ByteArray
 refs : Nat
def Yfq (b : UInt8) : Bool:=b == 32 || b == 9 || b == 10 || b == 13
def ZzE (r : List UInt8) : List UInt8:=r.dropWhile Yfq
theorem ZxP {b : UInt8} {r : List UInt8} (h : Yfq b = false) : ZzE (b :: r) = b :: r:=by unfold ZzE; rw [dropWhile_cons]; simp [h]
theorem Yf3 {b : UInt8} {r : List UInt8} (h : Yfq b = true) : ZzE (b :: r) = ZzE r:=by unfold ZzE; rw [dropWhile_cons]; simp [h]
def YcP (w : List UInt8) : List UInt8 -> Option Nat
 | [] => if w = [] then some 0 else none
 | b :: r => if w.isPrefixOf (b :: r) = true then some 0 else (YcP w r).map (· + 1)
abbrev Res (α : Type):=Except Int (α × List UInt8)
def Yea (w r : List UInt8) : Res (List UInt8) :=
 match YcP w r with
 | some n => .ok (r.take n, r.drop (n + w.length))
 | none => .error 23
def YbV (w r : List UInt8) : Except Int (List UInt8):=if w.isPrefixOf r = true then .ok (r.drop w.length) else .error 23
theorem dec_pos (r : List UInt8) : 1 <= (dec r).2:=by
 rw [YeV]
 split
 ·decide
 ·omega
theorem dec_le {r : List UInt8} (h : r ≠ []) : (dec r).2 <= r.length:=by
 rw [YeV]
 split
 ·have:=length_pos_iff.2 h; simp only; omega
 ·exact Yfy r h
def nmC (first : Bool) (c : Nat) : Bool:=decide (c = 58) || (isPt (c : Int) && (!first || isSt (c : Int)))
def nmL (first : Bool) (r : List UInt8) : Nat :=
 if h : r = [] then 0 else if nmC first (dec r).1 = true then (dec r).2 + nmL false (r.drop (dec r).2) else 0
termination_by r.length
decreasing_by
 have h1:=dec_pos r
 have h2:=length_pos_iff.2 h
 rw [length_drop]; omega
theorem nmL_nil (f : Bool) : nmL f [] = 0:=by unfold nmL; simp
theorem nmL_stop {f : Bool} {r : List UInt8} (hc : nmC f (dec r).1 = false) : nmL f r = 0:=by
 unfold nmL
 by_cases h : r = []
 ·rw [dif_pos h]
 ·rw [dif_neg h, if_neg (by rw [hc]; decide)]
theorem YfB {f : Bool} {r : List UInt8} (h : r ≠ []) (hc : nmC f (dec r).1 = true) : nmL f r = (dec r).2 + nmL false (r.drop (dec r).2):=by
 rw [nmL, dif_neg h, if_pos hc]
theorem nmL_le : ∀ (n : Nat) (f : Bool) (r : List UInt8), r.length <= n -> nmL f r <= r.length
 | 0, f, r, h => by
  have : r = []:=eq_nil_of_length_eq_zero (by omega)
  subst this; rw [nmL_nil]; exact Nat.le_refl _
 | n + 1, f, r, h => by
  by_cases hr : r = []
  ·subst hr; rw [nmL_nil]; exact Nat.le_refl _
  cases hc : nmC f (dec r).1 with
  | false => rw [nmL_stop hc]; omega
  | true =>
   rw [YfB hr hc]
   have h1:=dec_pos r
   have h2:=dec_le hr
   have:=nmL_le n false (r.drop (dec r).2) (by rw [length_drop]; omega)
   rw [length_drop] at this
   omega
def YbB (r : List UInt8) : Res (List UInt8) :=
 if nmL true r = 0 then .error 23 else if (spl (r.take (nmL true r))).2.2 = false then .error 24 else .ok (r.take (nmL true r), r.drop (nmL true r))
def Yat (r : List UInt8) : Except Int (List UInt8):=if [61].isPrefixOf (ZzE r) = true then .ok (ZzE ((ZzE r).drop 1)) else .error 23
def ZqR (r : List UInt8) : Res (List UInt8) :=
 match r with
 | [] => .error 23
 | q :: s => if (q = 39 \/ q = 34) /\ q ∈ s then .ok (s.takeWhile (· != q), s.drop ((s.takeWhile (· != q)).length + 1)) else .error 23
def isLt (b : UInt8) : Bool:=(decide (65 <= b.toNat) && decide (b.toNat <= 90)) || (decide (97 <= b.toNat) && decide (b.toNat <= 122))
def isDg (b : UInt8) : Bool:=decide (48 <= b.toNat) && decide (b.toNat <= 57)
def isEn (b : UInt8) : Bool:=isLt b || isDg b || b == 46 || b == 95 || b == 45
def YeD : List UInt8:=[118, 101, 114, 115, 105, 111, 110]
def Yc0 : List UInt8:=[101, 110, 99, 111, 100, 105, 110, 103]
def Yhz : List UInt8:=[115, 116, 97, 110, 100, 97, 108, 111, 110, 101]
def fitsL (w v : List UInt8) : Bool :=
 if w = YeD then [49, 46].isPrefixOf v && decide (v.drop 2 ≠ []) && (v.drop 2).all isDg
 else if w = Yc0 then (match v with | [] => false | b :: _ => isLt b) && v.all isEn
 else decide (v = [121, 101, 115] \/ v = [110, 111])
def isUtf8 (l : List UInt8) : Bool:=decide (l.map low3 = [117, 116, 102, 45, 56])
def Yaj (w r : List UInt8) : Except Int (Option (List UInt8) × List UInt8) :=
 if (ZzE r).length = r.length \/ w.isPrefixOf (ZzE r) = false then (if w = YeD then .error 23 else .ok (none, r))
 else match Yat ((ZzE r).drop w.length) with
  | .error _ => .error 23
  | .ok r2 => match ZqR r2 with
   | .error _ => .error 23
   | .ok (v, r3) => if fitsL w v = false then .error 23 else .ok (some v, r3)
def Yc8 (w : List UInt8) (o : Option (List UInt8)) : List Pr:=match o with | some v => [(mkB w, mkB v)] | none => []
def YdF (w : List UInt8) (o : Option (List UInt8)) (last : List UInt8) : List UInt8:=if w = Yc0 then o.getD last else last
def Ybt : List (List UInt8) -> List UInt8 -> List Pr -> List UInt8 -> Except Int (List Pr × List UInt8 × List UInt8)
 | [], r, acc, last => .ok (acc, last, r)
 | w :: ws, r, acc, last => match Yaj w r with
  | .error e => .error e
  | .ok (o, r2) => Ybt ws r2 (acc ++ Yc8 w o) (YdF w o last)
def Yge (r : List UInt8) : Res (List Pr) :=
 match Ybt [YeD, Yc0, Yhz] r [] [] with
 | .error e => .error e
 | .ok (l, last, r3) => match YbV [63, 62] (ZzE r3) with
  | .error e => .error e
  | .ok r4 => if last ≠ [] /\ isUtf8 last = false then .error 25 else .ok (l, r4)
def YdW (r : List UInt8) : Except Int (List UInt8 × List UInt8 × List UInt8) :=
 match YbB r with
 | .error e => .error e
 | .ok (n, r2) =>
  if nm n = false then .error 24 else if Ydq n = true then .error 29
  else if [63, 62].isPrefixOf r2 = true then .ok (n, [], r2.drop 2)
  else if (ZzE r2).length = r2.length then .error 23
  else match Yea [63, 62] (ZzE r2) with
   | .error e => .error e
   | .ok (t, r3) => .ok (n, t, r3)
def Yak (r : List UInt8) : Res (List UInt8) :=
 match YbB r with
 | .error e => .error e
 | .ok (n, r2) => match YbV [62] (ZzE r2) with
  | .error e => .error e
  | .ok r3 => .ok (n, r3)
def YeL (r : List UInt8) : Res Pr :=
 match YbB r with
 | .error e => .error e
 | .ok (n, r2) => match Yat r2 with
  | .error e => .error e
  | .ok r3 => match ZqR r3 with
   | .error e => .error e
   | .ok (v, r4) => if (ZyB true 0 v []).2.2 ≠ 0 then .error ((ZyB true 0 v []).2.2 : Nat) else .ok ((mkB n, mkB (ZyB true 0 v []).1), r4)
def ZxE : Nat -> List UInt8 -> List Pr -> Except Int (Int × List Pr × List UInt8)
 | 0, _, _ => .error 23
 | n + 1, r, acc =>
  if [47, 62].isPrefixOf (ZzE r) = true then .ok (4, acc, (ZzE r).drop 2)
  else if [62].isPrefixOf (ZzE r) = true then .ok (2, acc, (ZzE r).drop 1)
  else if (ZzE r).length = r.length then .error 23
  else match YeL (ZzE r) with
   | .error e => .error e
   | .ok (p, r2) => if acc.any (fun q => decide (q.1 = p.1)) = true then .error 27 else ZxE n r2 (acc ++ [p])
def Yez (first : Bool) (r : List UInt8) : Res TokQ :=
 if first = true /\ [60, 63, 120, 109, 108].isPrefixOf r = true /\ (ZzE (r.drop 5)).length ≠ (r.drop 5).length then
  match Yge (r.drop 5) with
  | .error e => .error e
  | .ok (l, r2) => .ok (⟨1, 0, kE, l, kE, 0⟩, r2)
 else if [60, 33, 45, 45].isPrefixOf r = true then
  match Yea [45, 45] (r.drop 4) with
  | .error e => .error e
  | .ok (t, r2) => match YbV [62] r2 with
   | .error e => .error e
   | .ok r3 => .ok (⟨7, 0, kE, [], mkB t, 0⟩, r3)
 else if [60, 33, 91, 67, 68, 65, 84, 65, 91].isPrefixOf r = true then
  match Yea [93, 93, 62] (r.drop 9) with
  | .error e => .error e
  | .ok (t, r2) => .ok (⟨6, 0, kE, [], mkB t, 0⟩, r2)
 else if [60, 33, 68, 79, 67, 84, 89, 80, 69].isPrefixOf r = true then .error 25
 else if [60, 33].isPrefixOf r = true then .error 23
 else if [60, 63].isPrefixOf r = true then
  match YdW (r.drop 2) with
  | .error e => .error e
  | .ok (n, t, r2) => .ok (⟨8, 0, mkB n, [], mkB t, 0⟩, r2)
 else if [60, 47].isPrefixOf r = true then
  match Yak (r.drop 2) with
  | .error e => .error e
  | .ok (n, r2) => .ok (⟨3, 0, mkB n, [], kE, 0⟩, r2)
 else if [60].isPrefixOf r = true then
  match YbB (r.drop 1) with
  | .error e => .error e
  | .ok (n, r2) => match ZxE (r.length + 1) r2 [] with
   | .error e => .error e
   | .ok (k, l, r3) => .ok (⟨k, 0, mkB n, l, kE, 0⟩, r3)
 else if (ZyB false 0 (r.takeWhile (· != 60)) []).2.2 ≠ 0 then .error ((ZyB false 0 (r.takeWhile (· != 60)) []).2.2 : Nat)
 else .ok (⟨5, 0, kE, [], mkB (ZyB false 0 (r.takeWhile (· != 60)) []).1, (r.takeWhile (· != 60)).count 38⟩, r.drop (r.takeWhile (· != 60)).length)
def Ybh (n : Nat) : Nat -> List UInt8 -> List TokQ -> Except (Nat × Int) (List TokQ)
 | 0, _, _ => .error (0, 23)
 | k + 1, r, acc => if r = [] then .ok acc else
  match Yez (decide (r.length = n)) r with
  | .error e => .error (n - r.length, e)
  | .ok (t, r2) => Ybh n k r2 (acc ++ [{ t with at_:=n - r.length }])
def bomL : List UInt8:=[239, 187, 191]
def Zyv (b : List UInt8) : List UInt8:=lns false (if bomL.isPrefixOf b = true then b.drop 3 else b)
def allR (b : List UInt8) : Except (Nat × Int) (List TokQ) :=
 if 65536 < b.length then .error (0, 6)
 else if (flt 0 (Zyv b)).2 ≠ 0 then .error ((flt 0 (Zyv b)).1, ((flt 0 (Zyv b)).2 : Nat))
 else Ybh (Zyv b).length ((Zyv b).length + 1) (Zyv b) []
end Go.Vc
end
section
namespace Go.Proofs.YtglnmjflpkeclaaGreatDoor
open Go Go.Vc Go.Lib
section
variable {w : World}
theorem half {x y : Int} {i j : Nat} (hx : x = i) (hy : y = j) (h : i + j <= 4000000000) : w64 (Ya3 .u64 (IntKind.u64.wrap (w64 (x + y))) (1 : Int)) = (((i + j) / 2 : Nat) : Int):=by
 subst hx; subst hy
 rw [Zzb (n:=(i : Int) + (j : Int)) (by omega) (by omega)]
 have e : IntKind.u64.wrap ((i : Int) + (j : Int)) = ((i + j : Nat) : Int):=by rw [wrap_u64]; omega
 have e2 : Ya3 .u64 ((i + j : Nat) : Int) 1 = (((i + j) / 2 : Nat) : Int):=by
  unfold Ya3
  show Int.fdiv ((i + j : Nat) : Int) (2 ^ 1) = _
  rw [Int.fdiv_eq_ediv_of_nonneg _ (by decide)]; omega
 rw [e, e2, Zzb] <;> omega
set_option maxHeartbeats 1000000 in
theorem YdP : ∀ (N : Nat) {w : World} {p : Option Addr} {l c a m b : Nat} {X : List At} {J : World -> Prop}, b - a <= N -> RA w p l c X -> l <= 1000000000 -> a < m -> m < b -> b <= l -> Up aLt (pf X) a m -> Up aLt (pf X) m b ->
  (∀ X' w', RA w' p l c X' -> Sw a b X X' -> Up aLt (pf X') a b -> Chg (isB p) w w' -> J w') ->
  Zz0 Tryz.prog Zzx #[.slice p l c, .int .i64 (a : Int), .int .i64 (m : Int), .int .i64 (b : Int), .func (.func 123) #[] #[]] w [] J
 | 0, w, p, l, c, a, m, b, X, J, hN, hr, hm, ham, hmb, hb, h1, h2, K => by omega
 | N + 1, w, p, l, c, a, m, b, X, J, hN, hr, hm, ham, hmb, hb, h1, h2, K => by
  refine Zqu ?_
  have hXl:=hr.n
  have em : w64 ((m : Int) - (a : Int)) = ((m - a : Nat) : Int):=by rw [Zzb] <;> omega
  have eb : w64 ((b : Int) - (m : Int)) = ((b - m : Nat) : Int):=by rw [Zzb] <;> omega
  rw [em, eb]
  refine Zzd (fun hone => ?_) (fun hmany => ?_)
  ·have hma : m = a + 1:=by omega
   refine ⟨fun x y w' t => ∃ i j : Nat, x = i /\ y = j /\ m <= i /\ i <= j /\ j <= b /\ t = j - i /\ RA w' p l c X /\ Chg No w w' /\ (∀ k, m <= k -> k < i -> aLt (pf X k) (pf X a) = true) /\ (∀ k, j <= k -> k < b -> aLt (pf X k) (pf X a) = false),
    ⟨_, m, b, rfl, rfl, Nat.le_refl _, by omega, Nat.le_refl _, rfl, hr, Chg.refl _ _, fun k h1 h2 => by omega, fun k h1 h2 => by omega⟩, ?_⟩
   rintro x y w1 t ⟨i, j, rfl, rfl, hi, hij, hj, rfl, hr1, hc1, hlo, hhi⟩
   refine Zz4 (fun hlt => ?_) (fun hge => ?_)
   ·have eh:=half (x:=(i : Int)) (y:=(j : Int)) rfl rfl (by omega)
    rw [eh]
    refine ⟨by decide, cmp_at (i:=(((i + j) / 2 : Nat) : Int)) (j:=(a : Int)) hr1.drew.sl rfl rfl (by omega) (by omega) fun r w2 hr2 hc2 => ?_⟩
    have hc02:=hc1.drew.trans0 hc2
    have hr2' : RA w2 p l c X:=hr.chg hc02 (off_no _)
    refine Zz4 (fun hneg => ?_) (fun hnn => ?_)
    ·refine ⟨_, by omega, (i + j) / 2 + 1, j, by rw [Zzb] <;> omega, rfl, by omega, by omega, hj, rfl, hr2', hc02, fun k q1 q2 => ?_, hhi⟩
     have hh:=hr2.1 hneg
     by_cases e : k = (i + j) / 2
     ·rw [e]; exact hh
     ·have q3:=h2 k ((i + j) / 2) q1 (by omega) (by omega)
      cases hb2 : aLt (pf X k) (pf X a) with
      | true => rfl
      | false => rw [ZyI.neg _ _ _ hb2 q3] at hh; cases hh
    ·refine ⟨_, by omega, i, (i + j) / 2, rfl, rfl, hi, by omega, by omega, rfl, hr2', hc02, hlo, fun k q1 q2 => ?_⟩
     have hh : aLt (pf X ((i + j) / 2)) (pf X a) = false:=by
      cases hb2 : aLt (pf X ((i + j) / 2)) (pf X a) with
      | false => rfl
      | true => exact absurd (hr2.2 hb2) hnn
     exact ZyI.neg _ _ _ hh (h2.le ZyI (by omega) q1 q2)
   ·have hije : i = j:=by omega
    subst hije
    -- up to the place i - 1
    refine ⟨fun x w' t => ∃ (k : Nat) (Z : List At), x = k /\ a <= k /\ k <= i - 1 /\ t = i - 1 - k /\ RA w' p l c Z /\ Sw a b X Z /\ Chg (isB p) w w' /\ (∀ u, a <= u -> u < k -> pf Z u = pf X (u + 1)) /\ pf Z k = pf X a /\ (∀ u, k < u -> pf Z u = pf X u),
     ⟨_, a, X, rfl, Nat.le_refl _, by omega, rfl, hr1, .refl, hc1.mono fun _ _ h => h.elim, fun u q1 q2 => by omega, rfl, fun u _ => rfl⟩, ?_⟩
    rintro x w3 t ⟨k, Z, rfl, hk1, hk2, rfl, hr3, hsz, hc3, z1, z2, z3⟩
    have hZl:=hr3.n
    have ei : w64 ((i : Int) - 1) = ((i - 1 : Nat) : Int):=by rw [Zzb] <;> omega
    rw [ei]
    refine Zz4 (fun hlt2 => ?_) (fun hge2 => ?_)
    ·have ek : w64 ((k : Int) + 1) = ((k + 1 : Nat) : Int):=by rw [Zzb] <;> omega
     rw [ek]
     refine swap_at (i:=(k : Int)) (j:=((k + 1 : Nat) : Int)) hr3.drew rfl rfl (by omega) (by omega) fun w5 hr5 hc5 => ?_
     have hg : pf (swl Z k (k + 1)) = swf (pf Z) k (k + 1):=swl_pf (by omega) (by omega)
     refine ⟨_, by omega, k + 1, _, rfl, by omega, by omega, rfl, hr5, .step hsz ⟨by omega, by omega⟩ ⟨by omega, by omega⟩ (by omega), hc3.drew.trans hc5 fun _ _ h => h, fun u q1 q2 => ?_, ?_, fun u q1 => ?_⟩
     ·rw [hg]; unfold swf
      rw [if_neg (by omega)]
      by_cases e : u = k
      ·rw [if_pos e, e]; exact z3 _ (by omega)
      ·rw [if_neg e]; exact z1 u q1 (by omega)
     ·rw [hg]; unfold swf; rw [if_pos rfl]; exact z2
     ·rw [hg]; unfold swf; rw [if_neg (by omega), if_neg (by omega)]; exact z3 u (by omega)
    ·have hki : k = i - 1:=by omega
     subst hki
     refine K Z w3 hr3 hsz ?_ hc3
     refine Up.adj ZyI fun u q1 q2 => ?_
     by_cases c1 : u + 1 < i - 1
     ·rw [z1 u q1 (by omega), z1 (u + 1) (by omega) c1]; exact h2 _ _ (by omega) (by omega) (by omega)
     ·by_cases c2 : u + 1 = i - 1
      ·rw [z1 u q1 (by omega), c2, z2]
       exact ZyI.asym (hlo (i - 1) (by omega) (by omega))
      ·by_cases c3 : u = i - 1
       ·rw [c3, z2, show i - 1 + 1 = i by omega, z3 i (by omega)]
        exact hhi i (Nat.le_refl _) (by omega)
       ·rw [z3 u (by omega), z3 (u + 1) (by omega)]; exact h2 _ _ (by omega) (by omega) (by omega)
  refine Zzd (fun hone => ?_) (fun hmany2 => ?_)
  ·have hbm : b = m + 1:=by omega
   refine ⟨fun x y w' t => ∃ i j : Nat, x = i /\ y = j /\ a <= i /\ i <= j /\ j <= m /\ t = j - i /\ RA w' p l c X /\ Chg No w w' /\ (∀ k, a <= k -> k < i -> aLt (pf X m) (pf X k) = false) /\ (∀ k, j <= k -> k < m -> aLt (pf X m) (pf X k) = true),
    ⟨_, a, m, rfl, rfl, Nat.le_refl _, by omega, Nat.le_refl _, rfl, hr, Chg.refl _ _, fun k h1 h2 => by omega, fun k h1 h2 => by omega⟩, ?_⟩
   rintro x y w1 t ⟨i, j, rfl, rfl, hi, hij, hj, rfl, hr1, hc1, hlo, hhi⟩
   refine Zz4 (fun hlt => ?_) (fun hge => ?_)
   ·have eh:=half (x:=(i : Int)) (y:=(j : Int)) rfl rfl (by omega)
    rw [eh]
    refine ⟨by decide, cmp_at (i:=(m : Int)) (j:=(((i + j) / 2 : Nat) : Int)) hr1.drew.sl rfl rfl (by omega) (by omega) fun r w2 hr2 hc2 => ?_⟩
    have hc02:=hc1.drew.trans0 hc2
    have hr2' : RA w2 p l c X:=hr.chg hc02 (off_no _)
    refine Zzm (fun hnn => ?_) (fun hneg => ?_)
    ·refine ⟨_, by omega, (i + j) / 2 + 1, j, by rw [Zzb] <;> omega, rfl, by omega, by omega, hj, rfl, hr2', hc02, fun k q1 q2 => ?_, hhi⟩
     have hh : aLt (pf X m) (pf X ((i + j) / 2)) = false:=by
      cases hb2 : aLt (pf X m) (pf X ((i + j) / 2)) with
      | false => rfl
      | true => exact absurd (hr2.2 hb2) (of_decide_eq_false hnn)
     exact ZyI.neg _ _ _ (h1.le ZyI q1 (by omega) (by omega)) hh
    ·refine ⟨_, by omega, i, (i + j) / 2, rfl, rfl, hi, by omega, by omega, rfl, hr2', hc02, hlo, fun k q1 q2 => ?_⟩
     have hh:=hr2.1 (of_decide_eq_true hneg)
     have q3:=h1.le ZyI (i:=(i + j) / 2) (j:=k) (by omega) q1 q2
     cases hb2 : aLt (pf X m) (pf X k) with
     | true => rfl
     | false => rw [ZyI.neg _ _ _ q3 hb2] at hh; cases hh
   ·have hije : i = j:=by omega
    subst hije
    refine ⟨fun x w' t => ∃ (k : Nat) (Z : List At), x = k /\ i <= k /\ k <= m /\ k - i = t /\ RA w' p l c Z /\ Sw a b X Z /\ Chg (isB p) w w' /\ (∀ u, u < k -> pf Z u = pf X u) /\ pf Z k = pf X m /\ (∀ u, k < u -> u <= m -> pf Z u = pf X (u - 1)),
     ⟨_, m, X, rfl, by omega, Nat.le_refl _, rfl, hr1, .refl, hc1.mono fun _ _ h => h.elim, fun u q1 => rfl, rfl, fun u q1 q2 => by omega⟩, ?_⟩
    rintro x w8 t ⟨k, Z, rfl, hk1, hk2, rfl, hr3, hsz, hc3, z1, z2, z3⟩
    have hZl:=hr3.n
    refine Zz4 (fun hlt2 => ?_) (fun hge2 => ?_)
    ·have ek : w64 ((k : Int) - 1) = ((k - 1 : Nat) : Int):=by rw [Zzb] <;> omega
     rw [ek]
     refine swap_at (i:=(k : Int)) (j:=((k - 1 : Nat) : Int)) hr3.drew rfl rfl (by omega) (by omega) fun w5 hr5 hc5 => ?_
     have hg : pf (swl Z k (k - 1)) = swf (pf Z) k (k - 1):=swl_pf (by omega) (by omega)
     refine ⟨_, by omega, k - 1, _, rfl, by omega, by omega, rfl, hr5, .step hsz ⟨by omega, by omega⟩ ⟨by omega, by omega⟩ (by omega), hc3.drew.trans hc5 fun _ _ h => h, fun u q1 => ?_, ?_, fun u q1 q2 => ?_⟩
     ·rw [hg]; unfold swf; rw [if_neg (by omega), if_neg (by omega)]; exact z1 u (by omega)
     ·rw [hg]; unfold swf; rw [if_pos rfl]; exact z2
     ·rw [hg]; unfold swf
      rw [if_neg (by omega)]
      by_cases e : u = k
      ·rw [if_pos e, e]; exact z1 _ (by omega)
      ·rw [if_neg e]; exact z3 u (by omega) q2
    ·have hki : k = i:=by omega
     subst hki
     refine K Z w8 hr3 hsz ?_ hc3
     refine Up.adj ZyI fun u q1 q2 => ?_
     by_cases c1 : u + 1 < k
     ·rw [z1 u (by omega), z1 (u + 1) c1]; exact h1 _ _ (by omega) (by omega) (by omega)
     ·by_cases c2 : u + 1 = k
      ·rw [z1 u (by omega), c2, z2]; exact hlo u q1 (by omega)
      ·by_cases c3 : u = k
       ·subst c3
        rw [z2, z3 (u + 1) (by omega) (by omega), Nat.add_sub_cancel]
        exact ZyI.asym (hhi u (Nat.le_refl _) (by omega))
       ·rw [z3 u (by omega) (by omega), z3 (u + 1) (by omega) (by omega)]; exact h1 _ _ (by omega) (by omega) (by omega)
  -- the general merge
  have emid:=half (x:=(a : Int)) (y:=(b : Int)) rfl rfl (by omega)
  generalize hmid : (a + b) / 2 = mid at emid
  rw [emid]
  have en : w64 ((mid : Int) + (m : Int)) = ((mid + m : Nat) : Int):=by rw [Zzb] <;> omega
  have ep : w64 (((mid + m : Nat) : Int) - 1) = ((mid + m - 1 : Nat) : Int):=by rw [Zzb] <;> omega
  rw [en, ep]
  refine ⟨by decide, Zz7 fun J20 hJ20 => ?_⟩
  have k20 : ∀ s r : Nat, (s = if mid < m then mid + m - b else a) -> (r = if mid < m then mid else m) -> J20 (s : Int) (r : Int) w:=by
   intro s0 r0 es er; subst hJ20
   refine ⟨fun x y w' t => ∃ s r : Nat, x = s /\ y = r /\ s0 <= s /\ s <= r /\ r <= r0 /\ t = r - s /\ RA w' p l c X /\ Chg No w w' /\ (∀ q, s0 <= q -> q < s -> aLt (pf X (mid + m - 1 - q)) (pf X q) = false) /\ (∀ q, r <= q -> q < r0 -> aLt (pf X (mid + m - 1 - q)) (pf X q) = true),
    ⟨_, s0, r0, rfl, rfl, Nat.le_refl _, by rw [es, er]; split <;> omega, Nat.le_refl _, rfl, hr, Chg.refl _ _, fun q q1 q2 => by omega, fun q q1 q2 => by omega⟩, ?_⟩
   rintro x y w12 t ⟨s, r, rfl, rfl, hs0, hsr, hr0, rfl, hr1, hc1, hlo, hhi⟩
   have rng : (mid < m /\ s0 = mid + m - b /\ r0 = mid) \/ (m <= mid /\ s0 = a /\ r0 = m):=by
    by_cases c : mid < m
    ·rw [if_pos c] at es er; exact .inl ⟨c, es, er⟩
    ·rw [if_neg c] at es er; exact .inr ⟨by omega, es, er⟩
   refine Zz4 (fun hlt => ?_) (fun hge => ?_)
   ·have eh:=half (x:=(s : Int)) (y:=(r : Int)) rfl rfl (by omega)
    rw [eh]
    have epc : w64 (((mid + m - 1 : Nat) : Int) - (((s + r) / 2 : Nat) : Int)) = ((mid + m - 1 - (s + r) / 2 : Nat) : Int):=by rw [Zzb] <;> omega
    rw [epc]
    refine ⟨by decide, cmp_at (i:=((mid + m - 1 - (s + r) / 2 : Nat) : Int)) (j:=(((s + r) / 2 : Nat) : Int)) hr1.drew.sl rfl rfl (by omega) (by omega) fun z w2 hz hc2 => ?_⟩
    have hc02:=hc1.drew.trans0 hc2
    have hr2' : RA w2 p l c X:=hr.chg hc02 (off_no _)
    refine Zzm (fun hnn => ?_) (fun hneg => ?_)
    ·refine ⟨_, by omega, (s + r) / 2 + 1, r, by rw [Zzb] <;> omega, rfl, by omega, by omega, hr0, rfl, hr2', hc02, fun q q1 q2 => ?_, hhi⟩
     have hh : aLt (pf X (mid + m - 1 - (s + r) / 2)) (pf X ((s + r) / 2)) = false:=by
      cases hb2 : aLt (pf X (mid + m - 1 - (s + r) / 2)) (pf X ((s + r) / 2)) with
      | false => rfl
      | true => exact absurd (hz.2 hb2) (of_decide_eq_false hnn)
     have g1:=h1.le ZyI (i:=q) (j:=(s + r) / 2) (by omega) (by omega) (by omega)
     have g2:=h2.le ZyI (i:=mid + m - 1 - (s + r) / 2) (j:=mid + m - 1 - q) (by omega) (by omega) (by omega)
     exact ZyI.neg _ _ _ (ZyI.neg _ _ _ g1 hh) g2
    ·refine ⟨_, by omega, s, (s + r) / 2, rfl, rfl, hs0, by omega, by omega, rfl, hr2', hc02, hlo, fun q q1 q2 => ?_⟩
     have hh:=hz.1 (of_decide_eq_true hneg)
     have g1:=h1.le ZyI (i:=(s + r) / 2) (j:=q) (by omega) q1 (by omega)
     have g2:=h2.le ZyI (i:=mid + m - 1 - q) (j:=mid + m - 1 - (s + r) / 2) (by omega) (by omega) (by omega)
     cases hb2 : aLt (pf X (mid + m - 1 - q)) (pf X q) with
     | true => rfl
     | false => rw [ZyI.neg _ _ _ (ZyI.neg _ _ _ g1 hb2) g2] at hh; cases hh
   ·have hse : s = r:=by omega
    subst hse
    have ee : w64 (((mid + m : Nat) : Int) - (s : Int)) = ((mid + m - s : Nat) : Int):=by rw [Zzb] <;> omega
    rw [ee]
    generalize he : mid + m - s = e
    obtain ⟨u1, u2, u3, u4, b1, b2, b3, b4, b5, b6, hcross⟩:=sym_turn ZyI h1 h2 ham hmb hmid.symm he.symm (by omega) (fun q q1 q2 => hlo q (by rw [es]; exact q1) q2) (fun q q1 q2 => hhi q q1 (by rw [er]; exact q2))
    refine Zz7 fun J0 hJ0 => ?_
    have k0 : ∀ Y w14, RA w14 p l c Y -> Sw a b X Y -> pf Y = Yhi (pf X) s m e -> Chg (isB p) w w14 -> J0 w14:=by
     intro Y w14 hrY hsY hpY hcY; subst hJ0
     have hYl:=hrY.n
     rw [<- hpY] at u1 u2 u3 u4 hcross
     refine Zz7 fun J01 hJ01 => ?_
     have k01 : ∀ Z w15, RA w15 p l c Z -> Sw a mid Y Z -> Up aLt (pf Z) a mid -> Chg (isB p) w w15 -> J01 w15:=by
      intro Z w15 hrZ hsZ huZ hcZ; subst hJ01
      have hZl:=hrZ.n
      refine Zz7 fun J213 hJ213 => ?_
      have oz : ∀ k, mid <= k -> pf Z k = pf Y k:=fun k hk => hsZ.out (.inr hk)
      have cz : ∀ i j, a <= i -> i < mid -> mid <= j -> j < b -> aLt (pf Z j) (pf Z i) = false:=fun i j q1 q2 q3 q4 => by
       rw [oz j q3]
       exact hsZ.all (p:=fun v => aLt (pf Y j) v = false) (fun k y1 y2 => hcross k j y1 y2 q3 q4) i q1 q2
      have k213 : ∀ bb, (bb = true ↔ mid < e /\ e < b) -> J213 bb w15:=by
       intro bb hbb; subst hJ213
       refine Yan hbb (fun hh => ?_) (fun hn => ?_)
       ·refine YdP N (a:=mid) (m:=e) (b:=b) (by omega) hrZ hm hh.1 hh.2 hb (u3.congr fun k y1 y2 => oz k y1) (u4.congr fun k y1 y2 => oz k (by omega)) fun V w17 hrV hsV huV hcV => ?_
        refine K V w17 hrV ((hsY.trans (hsZ.mono (Nat.le_refl _) (by omega) (by omega))).trans (hsV.mono (by omega) (Nat.le_refl _) (by omega))) ?_ (hcZ.trans hcV fun _ _ h => h)
        refine Up.join (m:=mid) (huZ.congr fun k y1 y2 => hsV.out (.inl y2)) huV fun i j q1 q2 q3 q4 => ?_
        rw [hsV.out (.inl q2)]
        exact hsV.all (p:=fun v => aLt v (pf Z i) = false) (fun k y1 y2 => cz i k q1 q2 y1 y2) j q3 q4
       ·refine K Z w15 hrZ (hsY.trans (hsZ.mono (Nat.le_refl _) (by omega) (by omega))) ?_ hcZ
        refine Up.join (m:=mid) huZ ?_ cz
        by_cases hmid' : mid = e
        ·rw [hmid']; exact u4.congr fun k y1 y2 => oz k (by omega)
        ·have : e = b:=by omega
         rw [<- this]; exact u3.congr fun k y1 y2 => oz k y1
      clear hJ213
      refine Zz4 (fun h => k213 _ (bD ⟨fun q => ⟨by omega, by omega⟩, fun q => by omega⟩)) (fun h => k213 false (bF fun q => by omega))
     clear hJ01
     refine Zz7 fun J199 hJ199 => ?_
     have k199 : ∀ bb, (bb = true ↔ a < s /\ s < mid) -> J199 bb w14:=by
      intro bb hbb; subst hJ199
      refine Yan hbb (fun hh => ?_) (fun hn => ?_)
      ·refine YdP N (a:=a) (m:=s) (b:=mid) (by omega) hrY hm hh.1 hh.2 (by omega) u1 u2 fun V w17 hrV hsV huV hcV => ?_
       exact k01 V w17 hrV hsV huV (hcY.trans hcV fun _ _ h => h)
      ·refine k01 Y w14 hrY .refl ?_ hcY
       by_cases has : a = s
       ·rw [has]; exact u2
       ·have : s = mid:=by omega
        rw [<- this]; exact u1
     clear hJ199
     refine Zz4 (fun h => k199 _ (bD ⟨fun q => ⟨by omega, by omega⟩, fun q => by omega⟩)) (fun h => k199 false (bF fun q => by omega))
    clear hJ0
    refine Zz7 fun J185 hJ185 => ?_
    have hcb : Chg (isB p) w w12:=hc1.mono fun _ _ h => h.elim
    have k185 : ∀ bb, (bb = true ↔ s < m /\ m < e) -> J185 bb w12:=by
     intro bb hbb; subst hJ185
     refine Yan hbb (fun hh => ?_) (fun hn => ?_)
     ·refine Rotate_ok hr1 hm hh.1 hh.2 (by omega) fun V w17 hrV hsV hpV hcV => ?_
      exact k0 V w17 hrV (hsV.mono b1 b4 (by omega)) hpV (hcb.trans hcV fun _ _ h => h)
     ·exact k0 X w12 hr1 .refl (rot_id b5 b6 (by omega)).symm hcb
    clear hJ185
    refine Zz4 (fun h => k185 _ (bD ⟨fun q => ⟨by omega, by omega⟩, fun q => by omega⟩)) (fun h => k185 false (bF fun q => by omega))
  clear hJ20
  refine Zz4 (fun hgt => ?_) (fun hle => ?_)
  ·have e1 : w64 (((mid + m : Nat) : Int) - (b : Int)) = ((mid + m - b : Nat) : Int):=by rw [Zzb] <;> omega
   rw [e1]
   exact k20 _ _ (by rw [if_pos (by omega)]) (by rw [if_pos (by omega)])
  ·exact k20 _ _ (by rw [if_neg (by omega)]) (by rw [if_neg (by omega)])
def Blks (g : Nat -> At) (s n : Nat) : Prop := ∀ k, Up aLt g (k * s) (min ((k + 1) * s) n)
theorem Stable_ok {p : Option Addr} {l c : Nat} {X : List At} {J : World -> Prop} (hr : RA w p l c X) (hm : l <= 100000000)
  (K : ∀ X' w', RA w' p l c X' -> X'.Perm X -> Up aLt (pf X') 0 l -> Chg (isB p) w w' -> J w') :
  Zz0 Tryz.prog ZzL #[.slice p l c, .func (.func 123) #[] #[]] w [] J:=by
 refine Zx6 ?_
 refine ZqO ?_
 have hXl:=hr.n
 refine ⟨fun x y w' t => ∃ (k : Nat) (Y : List At), x = ((k * 20 : Nat) : Int) /\ y = ((k * 20 + 20 : Nat) : Int) /\ k * 20 <= l /\ t = l - k * 20 /\ RA w' p l c Y /\ Sw 0 l X Y /\ (∀ j, j < k -> Up aLt (pf Y) (j * 20) ((j + 1) * 20)) /\ Chg (isB p) w w',
  ⟨_, 0, X, rfl, rfl, Nat.zero_le _, rfl, hr, .refl, fun j hj => by omega, Chg.refl _ _⟩, ?_⟩
 rintro x y w1 t ⟨k, Y, rfl, rfl, hk, rfl, hr1, hsw, hup, hc1⟩
 have hYl:=hr1.n
 refine Zz4 (fun hle => ?_) (fun hgt => ?_)
 ·refine InsSort_ok (a:=k * 20) (b:=k * 20 + 20) hr1 (by omega) (by omega) (by omega) fun Z w2 hr2 hsz hu hc2 => ?_
  refine ⟨_, by omega, k + 1, Z, by omega, by rw [Zzb] <;> omega, by omega, rfl, hr2, hsw.trans (hsz.mono (Nat.zero_le _) (by omega) (by omega)), fun j hj => ?_, hc1.trans hc2 fun _ _ h => h⟩
  by_cases hjk : j = k
  ·subst hjk
   rw [show (j + 1) * 20 = j * 20 + 20 by omega]; exact hu
  ·exact (hup j (by omega)).congr fun q q1 q2 => hsz.out (.inl (by omega))
 ·refine InsSort_ok (a:=k * 20) (b:=l) hr1 (by omega) (Nat.le_refl _) hk fun Z w2 hr2 hsz hu hc2 => ?_
  have hblk : Blks (pf Z) 20 l:=by
   intro j
   by_cases hjk : j < k
   ·rw [show min ((j + 1) * 20) l = (j + 1) * 20 by omega]
    exact (hup j hjk).congr fun q q1 q2 => hsz.out (.inl (by omega))
   ·exact hu.sub (by omega) (by omega)
  refine ⟨fun x w' t => ∃ (s : Nat) (V : List At), x = s /\ 1 <= s /\ s <= 2 * l + 20 /\ t = 2 * l + 20 - s /\ RA w' p l c V /\ Sw 0 l X V /\ Blks (pf V) s l /\ Chg (isB p) w w',
   ⟨_, 20, Z, rfl, by decide, by omega, rfl, hr2, hsw.trans (hsz.mono (Nat.zero_le _) (Nat.le_refl _) (by omega)), hblk, hc1.trans hc2 fun _ _ h => h⟩, ?_⟩
  rintro x w4 t ⟨s, V, rfl, hs1, hs2, rfl, hr4, hsv, hb4, hc4⟩
  have hVl:=hr4.n
  refine Zz4 (fun hlt => ?_) (fun hge => ?_)
  ·have e2 : w64 ((2 : Int) * (s : Int)) = ((2 * s : Nat) : Int):=by rw [Zzb] <;> omega
   rw [e2]
   refine ⟨fun x y w' t => ∃ (k : Nat) (U : List At), x = ((k * (2 * s) : Nat) : Int) /\ y = ((k * (2 * s) + 2 * s : Nat) : Int) /\ k * (2 * s) <= l /\ t = l - k * (2 * s) /\ RA w' p l c U /\ Sw 0 l X U /\ (∀ j, j < k -> Up aLt (pf U) (j * (2 * s)) (j * (2 * s) + 2 * s)) /\ (∀ q, k * (2 * s) <= q -> pf U q = pf V q) /\ Chg (isB p) w w',
    ⟨_, 0, V, by simp, by simp, by simp, rfl, hr4, hsv, fun j hj => by omega, fun q _ => rfl, hc4⟩, ?_⟩
   rintro x y w5 t ⟨k, U, rfl, rfl, hk5, rfl, hr5, hsu, hu5, hsame, hc5⟩
   have hUl:=hr5.n
   have em : w64 (((k * (2 * s) : Nat) : Int) + (s : Int)) = ((k * (2 * s) + s : Nat) : Int):=by rw [Zzb] <;> omega
   rw [em]
   have mul1 : (2 * k) * s = k * (2 * s):=by rw [Nat.mul_comm 2 k, Nat.mul_assoc]
   have mul2 : (2 * k + 1) * s = k * (2 * s) + s:=by rw [Nat.succ_mul, mul1]
   have mul3 : (2 * k + 1 + 1) * s = k * (2 * s) + 2 * s:=by rw [Nat.succ_mul, mul2]; omega
   have mulk : (k + 1) * (2 * s) = k * (2 * s) + 2 * s:=Nat.succ_mul _ _
   have blk1 : Up aLt (pf U) (k * (2 * s)) (min (k * (2 * s) + s) l):=by
    have:=hb4 (2 * k)
    rw [mul1, mul2] at this
    exact this.congr fun q q1 q2 => hsame q q1
   have blk2 : Up aLt (pf U) (k * (2 * s) + s) (min (k * (2 * s) + 2 * s) l):=by
    have:=hb4 (2 * k + 1)
    rw [mul2, mul3] at this
    exact this.congr fun q q1 q2 => hsame q (by omega)
   refine Zz4 (fun hle5 => ?_) (fun hgt5 => ?_)
   ·rw [show min (k * (2 * s) + s) l = k * (2 * s) + s by omega] at blk1
    rw [show min (k * (2 * s) + 2 * s) l = k * (2 * s) + 2 * s by omega] at blk2
    refine YdP _ (Nat.le_refl _) hr5 (by omega) (by omega) (by omega) (by omega) blk1 blk2 fun Q w6 hr6 hsq huq hc6 => ?_
    have e7 : w64 (((k * (2 * s) + 2 * s : Nat) : Int) + ((2 * s : Nat) : Int)) = (((k + 1) * (2 * s) + 2 * s : Nat) : Int):=by rw [mulk, Zzb] <;> omega
    rw [e7]
    refine ⟨_, by omega, k + 1, Q, by rw [mulk], rfl, by omega, rfl, hr6, hsu.trans (hsq.mono (Nat.zero_le _) (by omega) (by omega)), fun j hj => ?_, fun q q1 => ?_, hc5.trans hc6 fun _ _ h => h⟩
    ·by_cases hjk : j = k
     ·subst hjk; exact huq
     ·have hjm : (j + 1) * (2 * s) <= k * (2 * s):=Nat.mul_le_mul_right _ (by omega)
      rw [Nat.succ_mul] at hjm
      exact (hu5 j (by omega)).congr fun q q1 q2 => hsq.out (.inl (by omega))
    ·rw [mulk] at q1
     rw [hsq.out (.inr q1)]; exact hsame q (by omega)
   ·refine Zz7 fun J0 hJ0 => ?_
    have k0 : ∀ Q w7, RA w7 p l c Q -> Sw 0 l X Q -> (∀ q, q < k * (2 * s) -> pf Q q = pf U q) -> Up aLt (pf Q) (k * (2 * s)) l -> Chg (isB p) w w7 -> J0 w7:=by
     intro Q w7 hr7 hsq hsm huq hc7; subst hJ0
     refine ⟨_, by omega, 2 * s, Q, by rw [Zzb] <;> omega, by omega, by omega, rfl, hr7, hsq, fun j => ?_, hc7⟩
     by_cases hjk : j < k
     ·have hjm : (j + 1) * (2 * s) <= k * (2 * s):=Nat.mul_le_mul_right _ (by omega)
      rw [show min ((j + 1) * (2 * s)) l = (j + 1) * (2 * s) by omega]
      have e8 : (j + 1) * (2 * s) = j * (2 * s) + 2 * s:=Nat.succ_mul _ _
      rw [e8] at hjm ⊢
      exact (hu5 j hjk).congr fun q q1 q2 => hsm q (by omega)
     ·have hjm : k * (2 * s) <= j * (2 * s):=Nat.mul_le_mul_right _ (by omega)
      exact huq.sub (by omega) (by omega)
    clear hJ0
    rw [show min (k * (2 * s) + 2 * s) l = l by omega] at blk2
    refine Zz4 (fun hml => ?_) (fun hml => ?_)
    ·rw [show min (k * (2 * s) + s) l = k * (2 * s) + s by omega] at blk1
     refine YdP _ (Nat.le_refl _) hr5 (by omega) (by omega) (by omega) (Nat.le_refl _) blk1 blk2 fun Q w6 hr6 hsq huq hc6 => ?_
     exact k0 Q w6 hr6 (hsu.trans (hsq.mono (Nat.zero_le _) (Nat.le_refl _) (by omega))) (fun q q1 => hsq.out (.inl q1)) huq (hc5.trans hc6 fun _ _ h => h)
    ·rw [show min (k * (2 * s) + s) l = l by omega] at blk1
     exact k0 U w5 hr5 hsu (fun q _ => rfl) blk1 hc5
  ·refine K V w4 hr4 hsv.perm ?_ hc4
   have:=hb4 0
   rw [Nat.zero_mul, show min ((0 + 1) * s) l = l by omega] at this
   exact this
end
end Go.Proofs.YtglnmjflpkeclaaGreatDoor
end
section
namespace Go.Vc
open Go Go.WideShapes
section
variable {H : Type} {enc : TypeId × Value -> H} {P : Program} {w : World}
def Rd (P : Program) (w : World) (t : TypeId) {α : Type} (f : α -> List Value) (good : α -> Prop) : Prop :=
 ∀ (H : Type) (enc : TypeId × Value -> H) (fuel : Nat) (cs : List Value) (x : DataW H × List MemPlace), DataW.trod enc P w 0 (fun _ => true) true fuel t cs = some x ->
  (∀ n ∈ DataW.weights P t x.1, n <= reachBytes) -> ∃ a, cs = f a /\ good a
theorem wf_int {k : IntKind} {n : Int} (h : (Lit.int k n).wf = true) : k.min <= n /\ n <= k.max:=by simpa [Lit.wf] using h
theorem Rd.int {t : TypeId} {k : IntKind} (ht : P.underlying t = some (.int k)) : Rd P w t (fun n : Int => [.int k n]) (fun n => k.min <= n /\ n <= k.max):=by
 intro H enc fuel cs x h _
 obtain ⟨n, rfl, _, hw⟩:=DataW.trod_int ht h
 exact ⟨n, rfl, wf_int hw⟩
theorem Rd.u8 {t : TypeId} (ht : P.underlying t = some (.int .u8)) : Rd P w t (fun b : UInt8 => [.int .u8 b.toNat]) (fun _ => True):=by
 intro H enc fuel cs x h hw
 obtain ⟨n, h1, h2⟩:=Rd.int ht H enc fuel cs x h hw
 simp [IntKind.min, IntKind.max, IntKind.signed, IntKind.bits] at h2
 refine ⟨UInt8.ofNat n.toNat, ?_, trivial⟩
 rw [h1]
 have : (UInt8.ofNat n.toNat).toNat = n.toNat:=by simp [UInt8.toNat_ofNat']; omega
 simp only [this]; congr 2; omega
theorem Rd.str {t : TypeId} (ht : P.underlying t = some .string) : Rd P w t (fun s : ByteArray => [.string s]) (fun s => s.size <= 140737488351232):=by
 intro H enc fuel cs x h hw
 obtain ⟨s, rfl, hx, _⟩:=DataW.trod_string ht h
 refine ⟨s, rfl, ?_⟩
 subst hx
 have:=hw s.data.toList.length (by simp [DataW.weights])
 simpa [reachBytes] using this
structure SlV (α : Type) where
 p : Option Addr
 l : Nat
 c : Nat
 xs : List α
def SlV.cells {α : Type} (s : SlV α) : List Value:=[.slice s.p s.l s.c]
structure SlV.Ok {α : Type} (s : SlV α) (w : World) (sz bytes : Nat) (f : α -> List Value) (good : α -> Prop) : Prop where
 sl : Sl w s.p s.l sz (rows f s.xs)
 len : s.xs.length = s.l
 nil : s.p = none -> s.l = 0
 cap : s.l <= s.c
 max : s.c <= maxLen
 fits : s.l * bytes <= 140737488351232
 even : Ygo f sz s.xs
 all : ∀ x ∈ s.xs, good x
theorem YeR {e : TypeId} {n : Nat} : ∀ {ds : List (DataW H)} {d : DataW H}, d ∈ ds -> n ∈ DataW.weights P e d -> n ∈ DataW.weightsAll P e ds
 | d0 :: r, d, hd, hn => by
  simp only [DataW.weightsAll, mem_append]
  rcases mem_cons.1 hd with rfl | hd
  ·exact .inl hn
  ·exact .inr (YeR hd hn)
theorem choose_list {α : Type} {n : Nat} {R : Nat -> α -> Prop} (h : ∀ i, i < n -> ∃ a, R i a) : ∃ l : List α, l.length = n /\ ∀ i a, l[i]? = some a -> R i a:=by
  induction n with
  | zero => exact ⟨[], rfl, by simp⟩
  | succ n ih =>
    obtain ⟨l, hl, hr⟩:=ih (fun i hi => h i (by omega))
    obtain ⟨a, ha⟩:=h n (by omega)
    refine ⟨l ++ [a], by simp [hl], fun i b hb => ?_⟩
    rw [List.getElem?_append] at hb
    split at hb
    · exact hr i b hb
    · have h0 : i - l.length = 0:=by
        have:=(List.getElem?_eq_some_iff.1 hb).1
        simp at this; omega
      rw [h0] at hb
      simp at hb
      subst hb
      rw [show i = n by omega]; exact ha
theorem Rd.slice {t e : TypeId} {α : Type} {f : α -> List Value} {good : α -> Prop} {sz bytes : Nat} (ht : P.underlying t = some (.slice e)) (hc : P.cellsOf e = sz) (hb : P.bytesOf e = bytes) (h : Rd P w e f good) :
    Rd P w t SlV.cells (fun s : SlV α => s.Ok w sz bytes f good):=by
  intro H enc fuel cs x hx hw
  rcases DataW.trod_slice ht hx with ⟨rfl, _⟩ | ⟨a, len, cap, elems, rest, n, rfl, rfl, hxe, hba, hl, hm, hel, hget, hspare, _⟩
  · exact ⟨⟨none, 0, 0, []⟩, rfl, ⟨Sl.nil _ _ _, rfl, fun _ => rfl, Nat.le_refl _, Nat.zero_le _, by simp, by intro x hx; simp at hx, by simp⟩⟩
  · obtain ⟨hrl, -⟩:=hspare rfl
    subst hxe
    have hw' : ∀ m ∈ ((elems.map (·.1)).length + (rest.map (·.1)).length) * P.bytesOf e :: (DataW.weightsAll P e (elems.map (·.1)) ++ DataW.weightsAll P e (rest.map (·.1))), m <= reachBytes:=by
      intro m hm
      refine hw m ?_
      simp only [DataW.weights, ht]
      exact hm
    have hbytes:=hw' _ (List.mem_cons_self)
    simp only [List.length_map, hel, hrl, hb] at hbytes
    have hlb : len * bytes <= 140737488351232:=by
      refine Nat.le_trans (Nat.mul_le_mul_right _ ?_) hbytes
      omega
    obtain ⟨asx, hal, has⟩:=choose_list (n:=len) (R:=fun i y => good y /\ w.cells? 0 (a.add (i * sz)) sz = some (f y)) (fun i hi => by
      have hg:=hget i hi
      have hlt : i < elems.length:=by omega
      rw [List.getElem?_eq_getElem hlt] at hg
      rw [Option.bind_eq_some_iff] at hg
      obtain ⟨cs', h1, h2⟩:=hg
      obtain ⟨y, rfl, hy⟩:=h H enc n cs' _ h2 (fun m hm => hw' m (List.mem_cons_of_mem _ (List.mem_append_left _ (YeR (List.mem_map_of_mem (List.getElem_mem hlt)) hm))))
      rw [hc] at h1
      exact ⟨y, hy, h1⟩)
    have hev : Ygo f sz asx:=fun y hy => by
      obtain ⟨i, hi⟩:=List.mem_iff_getElem?.1 hy
      have:=(World.cells?_some (has i y hi).2).2.1
      exact this
    refine ⟨⟨some a, len, cap, asx⟩, rfl, ⟨⟨?_, ?_⟩, hal, by simp, hl, hm, hlb, hev, ?_⟩⟩
    · rw [Yag hev, hal]
    · by_cases h0 : len = 0
      · exact .inl h0
      · right
        refine ⟨a, rfl, ?_⟩
        intro j v hv
        simp only at hv
        have hjl : j < len * sz:=by
          have:=(List.getElem?_eq_some_iff.1 hv).1
          rw [Yag hev, hal] at this; exact this
        have hsz : 0 < sz:=by
          rcases Nat.eq_zero_or_pos sz with h | h
          · subst h; simp at hjl
          · exact h
        have hi : j / sz < asx.length:=by rw [hal]; exact Nat.div_lt_of_lt_mul (by rw [Nat.mul_comm]; exact hjl)
        have hy:=List.getElem?_eq_getElem hi
        have hmod : j % sz < sz:=Nat.mod_lt _ hsz
        have hj : j / sz * sz + j % sz = j:=by rw [Nat.mul_comm]; exact Nat.div_add_mod j sz
        have h2:=rows_at hev hy hmod
        rw [hj] at h2
        rw [h2] at hv
        obtain ⟨_, q1, q3⟩:=World.cells?_some (has _ _ hy).2
        have h3:=q3 (j % sz) hmod
        rw [hv] at h3
        have hspot : a.spot = none:=by
          have hz : 0 < asx.length:=by omega
          obtain ⟨_, r1, r3⟩:=World.cells?_some (has 0 _ (List.getElem?_eq_getElem hz)).2
          have h4:=r3 0 hsz
          rw [Nat.zero_mul, add_zero', add_zero', List.getElem?_eq_getElem (by rw [r1]; exact hsz)] at h4
          exact World.cell?_spot h4
        rw [<- h3, Addr.add_add _ _ hspot, hj]
    · intro y hy
      obtain ⟨i, hi⟩:=List.mem_iff_getElem?.1 hy
      exact (has i y hi).1
theorem Rd.map {t : TypeId} {α β : Type} {f : α -> List Value} {good : α -> Prop} {f2 : β -> List Value} {good2 : β -> Prop} (h : Rd P w t f good) (g : α -> β) (hf : ∀ a, good a -> f a = f2 (g a)) (hg : ∀ a, good a -> good2 (g a)) : Rd P w t f2 good2:=by
 intro H enc fuel cs x hx hw
 obtain ⟨a, ha, ga⟩:=h H enc fuel cs x hx hw
 exact ⟨g a, by rw [ha, hf a ga], hg a ga⟩
structure BV where
 p : Option Addr
 l : Nat
 c : Nat
 bs : List UInt8
def BV.cells (b : BV) : List Value:=[.slice b.p b.l b.c]
structure BV.Ok (b : BV) (w : World) : Prop where
 is : Bytes w b.p b.l b.bs
 nil : b.p = none -> b.l = 0
 fits : b.l <= 140737488351232
 cap : b.l <= b.c
 max : b.c <= maxLen
theorem rows_bytes (bs : List UInt8) : rows (fun b : UInt8 => [Value.int .u8 b.toNat]) bs = bcells bs:=by
 induction bs with
 | nil => rfl
 | cons b bs ih => rw [YaB, ih]; rfl
theorem Rd.bytes {t e : TypeId} (ht : P.underlying t = some (.slice e)) (he : P.underlying e = some (.int .u8)) (hc : P.cellsOf e = 1) (hb : P.bytesOf e = 1) : Rd P w t BV.cells (fun b => b.Ok w) :=
 (Rd.slice ht hc hb (Rd.u8 he)).map (fun s => ⟨s.p, s.l, s.c, s.xs⟩) (fun _ _ => rfl) (fun s h => ⟨by have:=h.sl; rw [rows_bytes] at this; exact this, h.nil, by have:=h.fits; simpa using this, h.cap, h.max⟩)
theorem Rd.open {t : TypeId} {α : Type} {f : α -> List Value} {good : α -> Prop} (h : Rd P w t f good) {v : Value} {d : DataW H} {ps : List MemPlace} (ho : DataW.Trod enc P w 0 (fun _ => true) true t v d ps)
  (hw : ∀ n ∈ DataW.weights P t d, n <= reachBytes) : ∃ a, v.cells.toList = f a /\ good a:=by
 obtain ⟨fuel, hf⟩:=ho
 exact h H enc fuel _ _ hf hw
end
end Go.Vc
end
section
namespace Go.Vc
open Go Go.Lib
def lookB (B : List Pr) (p : ByteArray) : Option ByteArray:=(B.find? fun b => decide (b.1 = p)).map Prod.snd
theorem find_filter_ne {B : List Pr} {p q : ByteArray} (h : q ≠ p) : (B.filter fun b => !decide (b.1 = p)).find? (fun b => decide (b.1 = q)) = B.find? (fun b => decide (b.1 = q)):=by
 induction B with
 | nil => rfl
 | cons b B ih =>
  rw [filter_cons]
  by_cases hb : b.1 = p
  ·rw [if_neg (by simp [hb]), find?_cons, decide_eq_false (by rw [hb]; exact Ne.symm h), ih]
  ·rw [if_pos (by simp [hb]), find?_cons, find?_cons, ih]
theorem lookB_put {B : List Pr} {p u q : ByteArray} : lookB (putP B p u) q = if q = p then (if p ≠ kXml /\ u ≠ kE then some u else none) else lookB B q:=by
 unfold lookB putP
 rw [find?_append]
 by_cases h : q = p
 ·subst h
  rw [if_pos rfl]
  have e : (B.filter fun b => !decide (b.1 = q)).find? (fun b => decide (b.1 = q)) = none:=by
   rw [find?_eq_none]
   intro x hx
   have:=(mem_filter.1 hx).2
   simpa using this
  rw [e]
  by_cases hc : q ≠ kXml /\ u ≠ kE
  ·rw [if_pos hc, if_pos hc]; simp
  ·rw [if_neg hc, if_neg hc]; simp
 ·rw [if_neg h, find_filter_ne h]
  have e : (if p ≠ kXml /\ u ≠ kE then [(p, u)] else []).find? (fun b => decide (b.1 = q)) = none:=by
   split
   ·rw [find?_cons, decide_eq_false (Ne.symm h)]; rfl
   ·rfl
  rw [e]; simp
end Go.Vc
namespace Go.Proofs.YtglnmjflpkeclaaGreatDoor
open Go Go.Vc Go.Lib
section
variable {w : World}
end
end Go.Proofs.YtglnmjflpkeclaaGreatDoor
end
section
namespace Go.Proofs.YtglnmjflpkeclaaGreatDoor
open Go Go.Vc
def InS (s : ByteArray) : Prop:=s.size <= 140737488351232
section
variable {w : World}
theorem Yhl : Rd Tryz.prog w Zz8 (fun s : ByteArray => [.string s]) InS:=Rd.str (by kernel_rfl)
end
end Go.Proofs.YtglnmjflpkeclaaGreatDoor
end
section
namespace Go.Vc
open Go Go.Lib
theorem Yah {b : UInt8} {r : List UInt8} (h : b.toNat < 128) : prt (b :: r) = (isPt (b.toNat : Nat) && prt r):=by
 have e:=ZzI b r h
 rw [Yby (by simp) (by rw [e]; simp), e]; rfl
theorem nm_a : nm [97] = true:=by
 unfold nm; rw [ZzI _ _ (by decide), Yah (by decide), Yg2]; decide
theorem YeC : nm [120, 109, 108, 110, 115] = true:=by
 unfold nm; rw [ZzI _ _ (by decide), Yah (by decide), Yah (by decide), Yah (by decide), Yah (by decide), Yah (by decide), Yg2]; decide
def kU : ByteArray:=⟨#[117]⟩
def kA : ByteArray:=⟨#[97]⟩
theorem decl_x (u : ByteArray) : decl (Zqf, u) = some kE:=by unfold decl; rw [if_pos rfl]
end Go.Vc
namespace Go.Proofs.YtglnmjflpkeclaaGreatDoor
open Go Go.Vc Go.Lib
section
variable {w : World}
theorem nameVar {w0 w1 : World} {Γ : List Blk} {u l : ByteArray} {K : Nat -> World -> Prop} (H : Hp w0 No w1 Γ) (k : ∀ b w', Hp w0 No w' (⟨b, pr (u, l), Zyr⟩ :: Γ) -> Chg No w1 w' -> K b w') :
  newB w1 (.cells (Zy2 Tryz.prog Zyr) Zyr) fun b3 w7 => stN w7 ⟨b3, 0, none⟩ ⟨[.string u, .string l]⟩ 2 fun w8 => K b3 w8:=by
 rw [YfW]
 refine H.newB fun b w7 H7 hb hc7 => ?_
 refine H7.stN 0 rfl (off:=0) rfl (by simp) (YaZ (u, l)) fun w8 H8 hc8 => ?_
 have e5 : splice [Value.string ByteArray.empty, Value.string ByteArray.empty] 0 (pr (u, l)) = pr (u, l):=ZyK rfl
 simp only [set_cons_zero] at H8
 rw [show splice [Value.string ByteArray.empty, Value.string ByteArray.empty] 0 [Value.string u, Value.string l] = pr (u, l) from e5] at H8
 exact k b w8 H8 (hc7.trans hc8 fun x hx e => by subst e; omega)
end
end Go.Proofs.YtglnmjflpkeclaaGreatDoor
end
section
namespace Go.Vc
open Go Go.Lib
abbrev BoundF:=ByteArray -> ByteArray × Bool
def attr1 (bound : BoundF) (x : Pr) : At × Int :=
 if (spl (bl x.1)).2.2 = false then ((kE, kE, kE), 24) else if (spl (bl x.1)).1 = [] then ((kE, mkB (spl (bl x.1)).2.1, x.2), 0)
 else if (bound (mkB (spl (bl x.1)).1)).2 = false then ((kE, kE, kE), 28) else (((bound (mkB (spl (bl x.1)).1)).1, mkB (spl (bl x.1)).2.1, x.2), 0)
def Zyb (bound : BoundF) : List Pr -> List At -> List At × Int
 | [], acc => (acc, 0)
 | x :: L, acc => if (decl x).isSome = true then Zyb bound L acc else if (attr1 bound x).2 ≠ 0 then ([], (attr1 bound x).2) else Zyb bound L (acc ++ [(attr1 bound x).1])
theorem attrsA_drop {bound : BoundF} {L : List Pr} {i : Nat} {x : Pr} (h : L[i]? = some x) (acc : List At) : Zyb bound (L.drop i) acc = if (decl x).isSome = true then Zyb bound (L.drop (i + 1)) acc else if (attr1 bound x).2 ≠ 0 then ([], (attr1 bound x).2) else Zyb bound (L.drop (i + 1)) (acc ++ [(attr1 bound x).1]):=by
  obtain ⟨g1, g2⟩:=List.getElem?_eq_some_iff.1 h
  rw [List.drop_eq_getElem_cons g1, g2]; rfl
def names (X : List At) : List Pr:=X.map nameOf
def Asc (X : List At) : Prop:=X.Pairwise fun a b => aLt a b = true
def Dup (X : List At) : Prop := ¬ (names X).Nodup
theorem asc_uniq : ∀ {X Y : List At}, Asc X -> Asc Y -> X.Perm Y -> X = Y
 | [], Y, _, _, h => (List.Perm.eq_nil h.symm).symm
 | x :: X, [], _, _, h => by have:=h.length_eq; simp at this
 | x :: X, y :: Y, hx, hy, h => by
  have h1:=pairwise_cons.1 hx
  have h2:=pairwise_cons.1 hy
  have e : x = y:=by
   have m1 : x ∈ y :: Y:=h.mem_iff.1 (by simp)
   have m2 : y ∈ x :: X:=h.mem_iff.2 (by simp)
   rcases mem_cons.1 m1 with e | m1
   ·exact e
   ·rcases mem_cons.1 m2 with e | m2
    ·exact e.symm
    ·have a1:=h2.1 x m1
     have a2:=h1.1 y m2
     rw [ZyI.asym a1] at a2; cases a2
  subst e
  rw [asc_uniq h1.2 h2.2 h.cons_inv]
theorem up_asc {X : List At} {l : Nat} (hl : X.length = l) (hu : Up aLt (pf X) 0 l) (hd : (names X).Nodup) : Asc X:=by
 refine pairwise_iff_getElem.2 fun i j hi hj hij => ?_
 have e1:=YeS hi
 have e2:=YeS hj
 rw [getElem?_eq_getElem hi] at e1
 rw [getElem?_eq_getElem hj] at e2
 have h1:=hu i j (Nat.zero_le _) hij (by omega)
 have hp : nameOf X[i] ≠ nameOf X[j]:=by
  have:=pairwise_iff_getElem.1 hd i j (by simpa [names] using hi) (by simpa [names] using hj) hij
  simpa [names] using this
 rw [Option.some.inj e1, Option.some.inj e2] at hp ⊢
 unfold aLt at h1 ⊢
 rcases Yhv (nameOf (pf X i)) (nameOf (pf X j)) with h | h | h
 ·exact h
 ·exact absurd h hp
 ·rw [h] at h1; cases h1
theorem Yi5 {X : List At} (h : Asc X) : (names X).Nodup:=by
 refine List.Pairwise.map _ (fun a b hab e => ?_) h
 unfold aLt at hab
 rw [e, nLt_irr] at hab; cases hab
theorem perm_names {X Y : List At} (h : X.Perm Y) : (names X).Nodup ↔ (names Y).Nodup:=(h.map nameOf).nodup_iff
end Go.Vc
namespace Go.Proofs.YtglnmjflpkeclaaGreatDoor
open Go Go.Vc Go.Lib
theorem zeroC_attr : Zy2 Tryz.prog ZzO = #[.string ByteArray.empty, .string ByteArray.empty, .string ByteArray.empty]:=by kernel_rfl
section
variable {w : World}
theorem boundP_kE (B : List Pr) : (Zzl B kE).2 = true:=by
 unfold Zzl
 rw [if_neg (by decide +kernel)]
 split
 ·rfl
 ·show decide (kE = kE) = true
  exact decide_eq_true rfl
theorem elem_attr {B : List Pr} {x : Pr} (hd : decl x = none) : (YaR (Zzl B) x.1).2 = (attr1 (Zzl B) x).2 /\ ((attr1 (Zzl B) x).2 = 0 -> (spl (bl x.1)).2.2 = true /\ (attr1 (Zzl B) x).1 = ((if (spl (bl x.1)).1 = [] then kE else (YaR (Zzl B) x.1).1.1), (YaR (Zzl B) x.1).1.2, x.2)):=by
 unfold YaR attr1
 unfold decl at hd
 split at hd
 ·cases hd
 ·next hn =>
  split at hd
  ·cases hd
  ·next hn2 =>
   by_cases h1 : (spl (bl x.1)).2.2 = false
   ·rw [if_pos h1, if_pos h1]; exact ⟨rfl, fun h => by cases h⟩
   ·have h1' : (spl (bl x.1)).2.2 = true:=by simpa using h1
    rw [if_neg h1, if_neg h1]
    have hx : mkB (spl (bl x.1)).1 ≠ Zqf:=fun e => hn2 ⟨h1', by rw [<- e, ZzH]⟩
    rw [if_neg hx]
    by_cases h2 : (spl (bl x.1)).1 = []
    ·rw [if_pos h2, h2]
     have hb:=boundP_kE B
     rw [show mkB [] = kE from rfl, if_neg (by rw [hb]; simp)]
     exact ⟨rfl, fun _ => ⟨h1', by simp⟩⟩
    ·rw [if_neg h2]
     by_cases h3 : (Zzl B (mkB (spl (bl x.1)).1)).2 = false
     ·rw [if_pos h3, if_pos h3]; exact ⟨rfl, fun h => by cases h⟩
     ·rw [if_neg h3, if_neg h3]; exact ⟨rfl, fun _ => ⟨h1', by rw [if_neg h2]⟩⟩
theorem Attrs_ok {p q : Option Addr} {l c m d : Nat} {B L : List Pr} {J : Option Addr -> Nat -> Nat -> Int -> World -> Prop} (h : Sl w p l 2 (rows pr B)) (hl : l <= 1000000000) (hL : Sl w q m 2 (rows pr L)) (hs : ∀ x ∈ L, x.1.size <= 9223372036854775806) (hm : m <= 100000000) (T : Tabs w)
  (K1 : (Zyb (Zzl B) L []).2 ≠ 0 -> ∀ w', Chg No w w' -> J none 0 0 (Zyb (Zzl B) L []).2 w')
  (K2 : (Zyb (Zzl B) L []).2 = 0 -> Dup (Zyb (Zzl B) L []).1 -> ∀ w', Chg No w w' -> J none 0 0 27 w')
  (K3 : (Zyb (Zzl B) L []).2 = 0 -> ∀ X, X.Perm (Zyb (Zzl B) L []).1 -> Asc X -> ∀ p' l' c' w', RA w' p' l' c' X -> fresh w p' -> Chg No w w' -> J p' l' c' 0 w') :
  Zz0 Tryz.prog ZqW #[.agg ⟨[.slice p l c]⟩, .slice q m d] w [.one .slice, .one (.int .i64)] J:=by
 refine Yfn ?_
 rw [YfV]
 rw [show (⟨#[]⟩ : ByteArray) = kE from rfl]
 have hll:=hL.row (YdC L) (by decide)
 refine (Hp.start w No).newB fun b2 w1 H1 _ hc1 => ?_
 refine ⟨fun op ol oc x w' t => ∃ (i : Nat) (acc : List At), x = i /\ i <= m /\ t = m - i /\ Hp w No w' [⟨b2, [.slice p l c], Zzh⟩] /\ RA w' op ol oc acc /\ fresh w op /\ ol <= i /\ Zyb (Zzl B) (L.drop i) acc = Zyb (Zzl B) L [],
  ⟨_, 0, [], rfl, Nat.zero_le _, rfl, H1, Row.nil _ _ _, by rintro a ⟨⟩, Nat.le_refl _, rfl⟩, ?_⟩
 rintro op ol oc x w2 t ⟨i, acc, rfl, hi, rfl, H2, hr2, hf2, hol, hat⟩
 refine Zz4 (fun hlt => ?_) (fun hge => ?_)
 ·refine Zz7 fun J6 hJ6 => ?_
  have k6 : ∀ op' ol' oc' acc' w3, Hp w No w3 [⟨b2, [.slice p l c], Zzh⟩] -> RA w3 op' ol' oc' acc' -> fresh w op' -> ol' <= i + 1 -> Zyb (Zzl B) (L.drop (i + 1)) acc' = Zyb (Zzl B) L [] -> J6 op' ol' oc' w3:=by
   intro op' ol' oc' acc' w3 g1 g2 g3 g4 g5; subst hJ6
   exact ⟨_, by omega, i + 1, acc', by rw [Zzb] <;> omega, by omega, rfl, g1, g2, g3, g4, g5⟩
  clear hJ6
  refine pr_i (H2.oldSl hL (off_no _)) (by omega) hlt fun a y hy h1 h2 => ?_
  rw [Int.toNat_natCast] at hy
  rw [attrsA_drop hy] at hat
  have hsy:=hs y (mem_of_getElem? hy)
  refine ZzB h1 (ZzB h2 ?_)
  refine H2.newB fun b8 w4 H4 hb8 hc4 => ?_
  refine H4.stN 0 rfl (off:=0) rfl (by simp) (YaZ _) fun w5 H5 hc5 => ?_
  have e5 : splice [Value.string ByteArray.empty, Value.string ByteArray.empty] 0 (pr y) = pr y:=ZyK rfl
  simp only [set_cons_zero] at H5
  rw [show splice [Value.string ByteArray.empty, Value.string ByteArray.empty] 0 [Value.string y.1, Value.string y.2] = pr y from e5] at H5
  have c25 : Chg No w2 w5:=hc4.trans hc5 fun b hb e => by subst e; omega
  refine H5.ldStr 0 rfl (off:=0) rfl ?_
  refine H5.ldStr 0 rfl (off:=1) rfl ?_
  refine DeclP_ok hsy (T.chg H5.chg) fun dp w6 hc6 _ => ?_
  have H6:=H5.step0 hc6
  have c26:=c25.trans0 hc6
  refine Zz9 (fun hd => ?_) (fun hd => ?_)
  ·rw [if_pos hd] at hat
   exact k6 op ol oc acc w6 (H6.sub (sublist_cons_self _ _)) (hr2.chg c26 (off_no _)) hf2 (by omega) hat
  rw [if_neg (by simp [hd])] at hat
  have hnone : decl y = none:=by cases hdd : decl y with | none => rfl | some z => rw [hdd] at hd; cases hd
  obtain ⟨he1, he2⟩:=elem_attr (B:=B) hnone
  refine H6.ldS 1 rfl (off:=0) rfl ?_
  refine H6.ldStr 0 rfl (off:=0) rfl ?_
  refine Element_ok (q:=y.1) (h.chg H6.chg (off_no _)) hl hsy (T.chg H6.chg) fun w7 hc7 => ?_
  refine nameVar (H6.step0 hc7) fun b11 w9 H9 hc9 => ?_
  have c29:=(c26.trans0 hc7).trans0 hc9
  rw [he1]
  refine Zzi (fun hne => ?_) (fun hz => ?_)
  ·rw [if_pos hne] at hat
   have:=K1 (by rw [<- hat]; exact hne) w9 H9.chg
   rw [<- hat] at this; exact this
  rw [if_neg (fun h => h hz)] at hat
  obtain ⟨hok, hattr⟩:=he2 hz
  have hr9 : RA w9 op ol oc acc:=hr2.chg c29 (off_no _)
  refine Zz7 fun J0 hJ0 => ?_
  have k0 : ∀ u w10, u = (attr1 (Zzl B) y).1.1 -> Hp w No w10 [⟨b11, pr (u, (YaR (Zzl B) y.1).1.2), Zyr⟩, ⟨b8, pr y, Zzo⟩, ⟨b2, [.slice p l c], Zzh⟩] -> RA w10 op ol oc acc -> J0 w10:=by
   intro u w10 hu H10 hr10; subst hJ0
   refine H10.ldStr 0 rfl (off:=0) rfl ?_
   refine H10.ldStr 0 rfl (off:=1) rfl ?_
   refine H10.ldStr 1 rfl (off:=1) rfl ⟨rfl, rfl, ?_⟩
   refine newRow (sz:=3) (n:=1) rfl (by decide) fun b54 w11 hr11 _ hc11 => ?_
   have H11:=H10.step0 hc11
   refine YbR slT_attr (hr10.chg hc11 (off_no _)) hr11.sl (Yg7 (u, (YaR (Zzl B) y.1).1.2, y.2)) (by simp) (by omega) (by simp only [maxLen]; omega) fun p' c' w' hr' hc' hf' => ?_
   have e : rows atc acc ++ [Value.string u, Value.string (YaR (Zzl B) y.1).1.2, Value.string y.2] = rows atc (acc ++ [(attr1 (Zzl B) y).1]):=by
    rw [Zyx, hattr, hu, hattr]; rfl
   rw [e] at hr'
   have H':=H11.step hc' (fun z hz => by
    rintro ⟨a, ha, e⟩
    have ht:=(hr10.chg hc11 (off_no _)).typ a ha
    simp at hz
    rcases hz with rfl | rfl | rfl
    ·simp only at e; rw [e] at ht; exact absurd (ht.symm.trans (Zzy (H11.get 0 rfl))) (by decide)
    ·simp only at e; rw [e] at ht; exact absurd (ht.symm.trans (Zzy (H11.get 1 rfl))) (by decide)
    ·simp only at e; rw [e] at ht; exact absurd (ht.symm.trans (Zzy (H11.get 2 rfl))) (by decide)) (YfH hf2)
   refine k6 p' (ol + 1) c' _ w' (H'.sub (.cons _ (.cons _ (.refl _)))) hr' ?_ (by omega) hat
   rcases hf' with rfl | hf'
   ·exact hf2
   ·intro a ha; have:=hf' a ha; have:=H11.chg.size; omega
  clear hJ0
  refine H9.ldStr 1 rfl (off:=0) rfl ?_
  refine YfS hsy (T.chg H9.chg) fun sa sb sok w13 hc13 hsp => ?_
  have H13:=H9.step0 hc13
  have hr13 : RA w13 op ol oc acc:=hr9.chg hc13 (off_no _)
  unfold Spl at hsp
  have ea : bl sa = (spl (bl y.1)).1:=congrArg Prod.fst hsp
  rw [Ycl]
  refine Zz4 (fun hE => ?_) (fun hE => ?_)
  ·have hnil : (spl (bl y.1)).1 = []:=by rw [<- ea, hE]; rfl
   rw [if_pos hnil] at hattr
   have t11 : typ w13 b11 = some Zyr:=Zzy (H13.get 0 rfl)
   refine H13.stV 0 rfl (off:=0) (by simp [pr]) fun w14 H14 hc14 => ?_
   refine k0 kE w14 (by rw [hattr]) H14 (hr13.chg hc14 fun a ha e => ?_)
   have:=hr13.typ a ha
   rw [e] at this; exact absurd (this.symm.trans t11) (by decide)
  ·have hnn : (spl (bl y.1)).1 ≠ []:=fun e => hE (Zqt (by rw [ea, e]; rfl))
   rw [if_neg hnn] at hattr
   exact k0 _ w13 (by rw [hattr]) H13 hr13
 ·rw [drop_of_length_le (by omega)] at hat
  have hat' : Zyb (Zzl B) L [] = (acc, 0):=hat.symm
  rw [hat'] at K1 K2 K3
  refine Stable_ok hr2 (by omega) fun X w15 hr15 hperm hup hc15 => ?_
  have H15 : Hp w No w15 []:=(H2.sub (nil_sublist _)).step hc15 (by simp) (YfH hf2)
  have hXl:=hr15.n
  refine ⟨fun x w' t => ∃ i : Nat, x = i /\ i <= ol /\ t = ol - i /\ Chg No w15 w' /\ ∀ k, k + 1 < i -> nameOf (pf X (k + 1)) ≠ nameOf (pf X k), ⟨_, 0, rfl, Nat.zero_le _, rfl, Chg.refl _ _, fun k h => by omega⟩, ?_⟩
  rintro x w16 t ⟨i, rfl, hi2, rfl, hc16, hne⟩
  have hc16d:=hc16.drew
  have hr16 : RA w16.drew op ol oc X:=hr15.chg hc16d (off_no _)
  refine Zz4 (fun hlt => ?_) (fun hge2 => ?_)
  ·refine Zz7 fun J79 hJ79 => ?_
   have k79 : ∀ b, (b = true ↔ 0 < i /\ nameOf (pf X i) = nameOf (pf X (i - 1))) -> J79 b w16.drew:=by
    intro b hb; subst hJ79
    refine Yan hb (fun hh => ?_) (fun hn => ?_)
    ·refine K2 rfl (fun hnd => ?_) w16.drew (H15.chg.trans0 hc16d)
     have hnd':=(perm_names hperm).2 hnd
     have hp:=pairwise_iff_getElem.1 hnd' (i - 1) i (by simp [names]; omega) (by simp [names]; omega) (by omega)
     replace hp : nameOf (X[i - 1]'(by omega)) ≠ nameOf (X[i]'(by omega)):=by simpa [names] using hp
     have e1:=YeS (X:=X) (i:=i - 1) (by omega)
     have e2:=YeS (X:=X) (i:=i) (by omega)
     rw [getElem?_eq_getElem (by omega)] at e1 e2
     rw [Option.some.inj e1, Option.some.inj e2] at hp
     exact hp hh.2.symm
    ·refine ⟨_, by omega, i + 1, by rw [Zzb] <;> omega, by omega, rfl, hc16d, fun k hk => ?_⟩
     by_cases e : k + 1 = i
     ·intro e2
      refine hn ⟨by omega, ?_⟩
      rw [<- e, Nat.add_sub_cancel]; exact e2
     ·exact hne k (by omega)
   clear hJ79
   refine Zz4 (fun hpos => ?_) (fun hz => k79 false (bF fun h => by omega))
   refine at_i hr16.sl (n:=i) rfl (by omega) fun a e0 e1 _ => ZzB e0 (ZzB e1 ?_)
   have ei : w64 ((i : Int) - 1) = ((i - 1 : Nat) : Int):=by rw [Zzb] <;> omega
   rw [ei]
   refine at_i hr16.sl (n:=i - 1) rfl (by omega) fun a' f0 f1 _ => ZzB f0 (ZzB f1 ?_)
   refine k79 _ ?_
   simp only [Ycl, Bool.and_true, Bool.and_eq_true, decide_eq_true_eq]
   refine ⟨fun e => ⟨by omega, Prod.ext e.1 e.2⟩, fun e => ?_⟩
   have h:=e.2
   unfold nameOf at h
   simpa using h
  ·have hnd : (names X).Nodup:=by
    apply pairwise_iff_getElem.2
    intro i' j hi' hj hij
    have hi'' : i' < X.length:=by simpa [names] using hi'
    have hj' : j < X.length:=by simpa [names] using hj
    have q : nameOf X[i'] ≠ nameOf X[j] -> (names X)[i'] ≠ (names X)[j]:=by intro h; simpa [names] using h
    apply q
    have e1:=YeS hi''
    have e2:=YeS hj'
    rw [getElem?_eq_getElem hi''] at e1
    rw [getElem?_eq_getElem hj'] at e2
    rw [Option.some.inj e1, Option.some.inj e2]
    intro e
    have a1:=hne i' (by omega)
    have a2:=hup i' (i' + 1) (Nat.zero_le _) (by omega) (by omega)
    have a3:=hup.le ZyI (i:=i' + 1) (j:=j) (Nat.zero_le _) (by omega) (by omega)
    unfold aLt at a2 a3
    rw [<- e] at a3
    rcases Yhv (nameOf (pf X i')) (nameOf (pf X (i' + 1))) with h | h | h
    ·rw [h] at a3; cases a3
    ·exact a1 h.symm
    ·rw [h] at a2; cases a2
   exact K3 rfl X hperm (up_asc hXl hup hnd) op ol oc w16 (hr15.chg hc16 (off_no _)) hf2 (H15.chg.trans0 hc16)
end
end Go.Proofs.YtglnmjflpkeclaaGreatDoor
end
section
namespace Go.Vc
open Go Go.Lib
def insA (a : At) : List At -> List At
 | [] => [a]
 | b :: r => if aLt b a = true then b :: insA a r else a :: b :: r
def srtA : List At -> List At
 | [] => []
 | a :: r => insA a (srtA r)
structure Opn where
 kind : Int
 name : Pr
 attrs : List At
 kids : List Nd
 raw : ByteArray
 binds : List Pr
def Opn.nd (o : Opn) : Nd := .mk o.kind o.name.1 o.name.2 kE o.attrs o.kids
def Opn.add (o : Opn) (n : Nd) : Opn:={ o with kids:=o.kids ++ [n] }
structure PSt where
 top : Opn
 rest : List Opn
 nodes : Nat
 done : Bool
def putM (n : Nd) (s : PSt) : Except Int PSt:=if 8192 < n.text.size then .error 5 else .ok { s with top:=s.top.add n, nodes:=s.nodes + 1 }
def YdV (t : ByteArray) : Nd := .mk 3 kE kE t [] []
def Ybr (ks : List Nd) (t : ByteArray) : Option (List Nd × ByteArray) :=
 match ks.getLast? with
 | some (.mk k u l x ats s) => if k = 3 then some (ks.dropLast ++ [.mk k u l (x ++ t) ats s], x ++ t) else none
 | none => none
def Yh8 (kind : Int) (refs : Nat) (t : ByteArray) (s : PSt) : Except Int PSt :=
 if s.rest = [] then (if kind = 6 \/ 0 < refs \/ (bl t).all Yfq = false then .error 30 else .ok s)
 else if t = kE then .ok s
 else match Ybr s.top.kids t with
  | some (ks, x) => if 8192 < x.size then .error 5 else .ok { s with top:={ s.top with kids:=ks } }
  | none => putM (YdV t) s
def YdX (X : List At) : Bool:=decide (X ≠ []) && (decide (64 < X.length) || X.any fun a => decide (8192 < a.2.2.size))
def YaX (name : ByteArray) (pairs : List Pr) (s : PSt) : Except Int PSt :=
  if s.rest = [] /\ s.done = true then .error 30
  else if 32 < s.rest.length then .error 31
  else if (ZyD pairs [] s.top.binds).2 ≠ 0 then .error (ZyD pairs [] s.top.binds).2
  else if (YaR (Zzl (ZyD pairs [] s.top.binds).1) name).2 ≠ 0 then .error (YaR (Zzl (ZyD pairs [] s.top.binds).1) name).2
  else if (Zyb (Zzl (ZyD pairs [] s.top.binds).1) pairs []).2 ≠ 0 then .error (Zyb (Zzl (ZyD pairs [] s.top.binds).1) pairs []).2
  else if ¬ (names (Zyb (Zzl (ZyD pairs [] s.top.binds).1) pairs []).1).Nodup then .error 27
  else if YdX (srtA (Zyb (Zzl (ZyD pairs [] s.top.binds).1) pairs []).1) = true then .error 5
  else .ok { top:=⟨2, (YaR (Zzl (ZyD pairs [] s.top.binds).1) name).1, srtA (Zyb (Zzl (ZyD pairs [] s.top.binds).1) pairs []).1, [], name, (ZyD pairs [] s.top.binds).1⟩,
             rest:=s.top :: s.rest, nodes:=s.nodes + 1, done:=s.done }
def Yc9 (s : PSt) : PSt :=
 match s.rest with
 | [] => s
 | o :: r => { top:=o.add s.top.nd, rest:=r, nodes:=s.nodes, done:=s.done || r.isEmpty }
def Zxe (t : TokQ) (s : PSt) : Except Int PSt :=
 if t.kind = 7 then putM (.mk 4 kE kE t.text [] []) s
 else if t.kind = 8 then putM (.mk 5 kE t.name t.text [] []) s
 else if t.kind = 5 \/ t.kind = 6 then Yh8 t.kind t.refs t.text s
 else if t.kind = 2 then YaX t.name t.pairs s
 else if t.kind = 4 then (match YaX t.name t.pairs s with | .ok s' => .ok (Yc9 s') | .error e => .error e)
 else if t.kind = 3 then (if s.rest = [] \/ s.top.raw ≠ t.name then .error 26 else .ok (Yc9 s))
 else .ok s
def YgF (t : TokQ) (s : PSt) : Except Int PSt :=
 match Zxe t s with
 | .error e => .error e
 | .ok s' => if 2000 < s'.nodes then .error 5 else .ok s'
def ZyQ : List TokQ -> PSt -> Except (Nat × Int) PSt
 | [], s => .ok s
 | t :: l, s => match YgF t s with
  | .error e => .error (t.at_, e)
  | .ok s' => ZyQ l s'
def ZxO : PSt:=⟨⟨1, (kE, kE), [], [], kE, []⟩, [], 0, false⟩
def Ybu (b : List UInt8) : Except (Nat × Int) Nd :=
 match allR b with
 | .error e => .error e
 | .ok l => match ZyQ l ZxO with
  | .error e => .error e
  | .ok s => if s.rest ≠ [] then .error ((Zyv b).length, 26) else if s.done = false then .error ((Zyv b).length, 30) else .ok s.top.nd
end Go.Vc
end
section
namespace Go.Vc
open Go Go.Lib
def Yh0 (n : Nat) : List UInt8:=if h : n < 10 then [UInt8.ofNat (48 + n)] else Yh0 (n / 10) ++ [UInt8.ofNat (48 + n % 10)]
termination_by n
decreasing_by omega
def Ycf (k : Nat) : List UInt8:=110 :: Yh0 (k + 1)
def Yb2 (P : List ByteArray) (u : ByteArray) : Nat:=P.findIdx (fun x => decide (x = u))
def ZzW (P : List ByteArray) (n : Pr) : List UInt8 :=
 if n.1 = kE then bl n.2 else if n.1 = Zys then [120, 109, 108, 58] ++ bl n.2 else Ycf (Yb2 P n.1) ++ [58] ++ bl n.2
def attrW (P : List ByteArray) (a : At) : List UInt8:=[32] ++ ZzW P (nameOf a) ++ [61, 34] ++ subst YgQ (bl a.2.2) ++ [34]
def declW (k : Nat) (u : ByteArray) : List UInt8:=[32, 120, 109, 108, 110, 115, 58] ++ Ycf k ++ [61, 34] ++ subst YgQ (bl u) ++ [34]
def Zxq : Nat -> List ByteArray -> List UInt8
 | _, [] => []
 | k, u :: r => declW k u ++ Zxq (k + 1) r
def Zqi (P : List ByteArray) : List At -> List UInt8
 | [] => []
 | a :: r => attrW P a ++ Zqi P r
mutual
def Zy3 (P : List ByteArray) (top : Bool) : Nd -> List UInt8
 | .mk k u l t ats ks =>
  if k = 3 then subst txtP (bl t)
  else if k = 4 then [60, 33, 45, 45] ++ bl t ++ [45, 45, 62]
  else if k = 5 then [60, 63] ++ bl l ++ (if t ≠ kE then 32 :: bl t else []) ++ [63, 62]
  else if k = 2 then [60] ++ ZzW P (u, l) ++ (if top = true then Zxq 0 P else []) ++ Zqi P ats ++ [62] ++ ZyL P ks ++ [60, 47] ++ ZzW P (u, l) ++ [62]
  else []
def ZyL (P : List ByteArray) : List Nd -> List UInt8
 | [] => []
 | x :: r => Zy3 P false x ++ ZyL P r
end
def Zq7 (P : List ByteArray) : List Nd -> List UInt8
 | [] => []
 | x :: r => Zy3 P true x ++ [10] ++ Zq7 P r
end Go.Vc
end
