/-
  A tree without its comments and instructions: what 'bare' returns.
-/
import Derived.Test.YtmmfookfpdcohaaDoorLaws05
set_option linter.unusedVariables false
set_option linter.unusedSimpArgs false
namespace Go.Vc
open Go Go.Lib
mutual
def bareN : Nd → Nd
  | .mk k u l t ats ks => .mk k u l t ats (bareL ks)
def bareL : List Nd → List Nd
  | [] => []
  | x :: r => if x.kind = 4 ∨ x.kind = 5 then bareL r else bareN x :: bareL r
end
theorem bareL_append : ∀ a b : List Nd, bareL (a ++ b) = bareL a ++ bareL b
  | [], _ => by simp [bareL]
  | x :: r, b => by
    simp only [List.cons_append, bareL, bareL_append r b]
    split <;> rfl
theorem bareL_one (x : Nd) : bareL [x] = if x.kind = 4 ∨ x.kind = 5 then [] else [bareN x] := by simp only [bareL]
/-- Where the slices of a tree lie that hold something. -/
inductive NV.Bd (P : Nat → Prop) : NV → Prop
  | mk {k : Int} {u l t : ByteArray} {ap : Option Addr} {al ac : Nat} {ats : List At} {kp : Option Addr} {kl kc : Nat} {ks : List NV}
      (ha : al = 0 ∨ ∀ a, ap = some a → P a.block) (hk : kl = 0 ∨ ∀ a, kp = some a → P a.block) (hks : ∀ x ∈ ks, NV.Bd P x) : NV.Bd P (.mk k u l t ap al ac ats kp kl kc ks)
theorem NV.Bd.and {P Q R : Nat → Prop} (hR : ∀ b, P b → Q b → R b) : ∀ {v : NV}, NV.Bd P v → NV.Bd Q v → NV.Bd R v := by
  intro v
  induction v using NV.ind with
  | h k u l t ap al ac ats kp kl kc ks ih =>
    intro h g
    cases h with
    | mk ha hk hks =>
      cases g with
      | mk ga gk gks =>
        refine .mk ?_ ?_ fun x hx => ih x hx (hks x hx) (gks x hx)
        · exact ha.elim .inl fun ha => ga.imp id fun ga a e => hR _ (ha a e) (ga a e)
        · exact hk.elim .inl fun hk => gk.imp id fun gk a e => hR _ (hk a e) (gk a e)
theorem NV.Bd.mono {P R : Nat → Prop} (hR : ∀ b, P b → R b) {v : NV} (h : NV.Bd P v) : NV.Bd R v := h.and (fun b hb _ => hR b hb) h
theorem Sl.bd {w : World} {p : Option Addr} {l sz : Nat} {xs : List Value} (h : Sl w p l sz xs) (hz : 0 < sz) : l = 0 ∨ ∀ a, p = some a → a.block < w.heap.size := by
  by_cases hl : l = 0
  · exact .inl hl
  · right
    intro a ha
    obtain ⟨a', e, hc⟩ := h.at hl
    rw [e] at ha; cases ha
    refine cellsAt_lt hc fun e => ?_
    have := h.len
    rw [e] at this
    have hp : 0 < l * sz := Nat.mul_pos (by omega) hz
    simp at this; omega
theorem NV.Ok.bd {w : World} : ∀ {v : NV}, NV.Ok w v → NV.Bd (fun b => b < w.heap.size) v := by
  intro v
  induction v using NV.ind with
  | h k u l t ap al ac ats kp kl kc ks ih =>
    intro h
    cases h with
    | mk ha hn hac hk hkn hkc hks => exact .mk (ha.bd (by decide)) (hk.bd (by decide)) fun x hx => ih x hx (hks x hx)
theorem Sl.chgB {w w' : World} {S : Nat → Prop} {p : Option Addr} {l sz : Nat} {xs : List Value} (h : Sl w p l sz xs) (hc : Chg S w w') (hn : l = 0 ∨ ∀ a, p = some a → ¬ S a.block) : Sl w' p l sz xs := by
  rcases hn with hl | hn
  · exact ⟨h.1, .inl hl⟩
  · exact h.chg hc hn
theorem NV.Ok.chgB {w w' : World} {S : Nat → Prop} (hc : Chg S w w') : ∀ {v : NV}, NV.Ok w v → NV.Bd (fun b => ¬ S b) v → NV.Ok w' v := by
  intro v
  induction v using NV.ind with
  | h k u l t ap al ac ats kp kl kc ks ih =>
    intro h ho
    cases h with
    | mk ha hn hac hk hkn hkc hks =>
      cases ho with
      | mk oa ok oks => exact .mk (ha.chgB hc oa) hn hac (hk.chgB hc ok) hkn hkc fun x hx => ih x hx (hks x hx) (oks x hx)
/-- A tree as a function gives it back. -/
def NV.giv (J : Int → ByteArray → ByteArray → Option Addr → Nat → Nat → Option Addr → Nat → Nat → ByteArray → World → Prop) (w : World) : NV → Prop
  | .mk k u l t ap al ac _ kp kl kc _ => J k u l ap al ac kp kl kc t w
theorem meaL_append : ∀ a b : List NV, NV.meaL (a ++ b) = NV.meaL a + NV.meaL b
  | [], _ => by simp [NV.meaL]
  | x :: r, b => by simp only [List.cons_append, NV.meaL, meaL_append r b]; omega
theorem meaL_take : ∀ (ks : List NV) (q : Nat), NV.meaL (ks.take q) ≤ NV.meaL ks
  | [], q => by simp
  | x :: r, 0 => by simp [NV.meaL]
  | x :: r, q + 1 => by have := meaL_take r q; simp only [List.take_succ_cons, NV.meaL]; omega
end Go.Vc
namespace Go.Proofs.YtmmfookfpdcohaaDoor
open Go Go.Vc Go.Lib
section
theorem newZ {w0 w : World} {S : Nat → Prop} {Γ : List Blk} (H : Hp w0 S w Γ) {K : Nat → World → Prop}
    (k : ∀ b w', Hp w0 S w' (⟨b, [.int .i64 0, .string ByteArray.empty, .string ByteArray.empty, .slice none 0 0, .slice none 0 0, .string ByteArray.empty], T_api_Node⟩ :: Γ) → w.heap.size ≤ b → Chg No w w' → K b w') :
    newB w (.cells (zeroC Tryd.prog T_api_Node) T_api_Node) K := by
  rw [zeroC_node]; exact H.newB k
theorem Bare_ok : ∀ (v : NV) {w0 w : World} {J : Int → ByteArray → ByteArray → Option Addr → Nat → Nat → Option Addr → Nat → Nat → ByteArray → World → Prop}, v.Ok w0 → Chg No w0 w → v.mea ≤ 10000000 →
    (∀ v' w', v'.nd = bareN v.nd → NV.Ok w' v' → v'.Bd (fun b => b < w0.heap.size ∨ w.heap.size ≤ b) → v'.mea ≤ v.mea → Chg No w w' → v'.giv J w') →
    callJ Tryd.prog fn_law05_bare #[.agg ⟨v.cells⟩] w [.agg [.int .i64, .str, .str, .slice, .slice, .str]] J := by
  intro v
  induction v using NV.ind with
  | h k u l t ap al ac ats kp kl kc ks ih =>
    intro w0 w J hv hc0 hm K
    have hbv := hv.bd
    cases hv with
    | mk ha hn hac hk hkn hkc hks =>
    have hkl := hk.row (even_node ks) (by decide)
    have hlm := len_meaL ks
    have hmm : NV.meaL ks < 10000000 := by simp only [NV.mea] at hm; omega
    have hs0 := hc0.size
    refine c_law05_bare ?_
    unfold VC_law05_bare
    refine (Hp.start w No).newB fun b1 w1 H1 hb1 hc1 => ?_
    refine newZ H1 fun b2 w2 H2 hb2 hc2 => ?_
    refine H2.ldS 1 rfl (off := 4) rfl ?_
    refine H2.stV 1 rfl (off := 4) (by simp) fun w3 H3 hc3 => ?_
    simp only [List.set_cons_succ, List.set_cons_zero] at H3
    have hb1' : b1 < w2.heap.size := H2.lt 1 rfl
    have hb2' : b2 < w2.heap.size := H2.lt 0 rfl
    have hb12 : b1 < b2 := by have := H1.lt 0 rfl; omega
    have hs2 : w.heap.size ≤ w2.heap.size := H2.chg.size
    have hs3 := hc3.size
    refine ⟨fun i w' m => ∃ (q : Nat) (p : Option Addr) (c : Nat) (L : List NV), i = q ∧ q ≤ kl ∧ m = kl - q ∧
        Hp w No w' [⟨b2, [.int .i64 0, .string ByteArray.empty, .string ByteArray.empty, .slice none 0 0, .slice none 0 0, .string ByteArray.empty], T_api_Node⟩, ⟨b1, [.int .i64 k, .string u, .string l, .slice ap al ac, .slice p L.length c, .string t], T_api_Node⟩] ∧
        Row w' T_api_Node 6 p L.length c (rows NV.cells L) ∧ fresh w2 p ∧ w2.heap.size ≤ w'.heap.size ∧ L.map NV.nd = bareL ((ks.map NV.nd).take q) ∧
        (∀ x ∈ L, NV.Ok w' x ∧ x.Bd (fun b => b < w0.heap.size ∨ (w2.heap.size ≤ b ∧ ¬ isB p b))) ∧ NV.meaL L ≤ NV.meaL (ks.take q),
      ⟨_, 0, none, 0, [], rfl, Nat.zero_le _, rfl, H3, Row.nil _ _ _, (by intro a e; cases e), hs3, by simp [bareL], by simp, by simp [NV.meaL]⟩, ?_⟩
    rintro i w4 m ⟨q, p, c, L, rfl, hq, rfl, H4, hr4, hf4, hs4, hnd4, hL4, hme4⟩
    have c04 := hc0.trans0 H4.chg
    have hlL := len_meaL L
    have htk := meaL_take ks q
    have hp12 : ∀ b, isB p b → b ≠ b1 ∧ b ≠ b2 ∧ w2.heap.size ≤ b := by
      rintro b ⟨a, ha, rfl⟩
      have := hf4 a ha; omega
    refine condB_d (fun hlt => ?_) (fun hge => ?_)
    · refine withJ_i fun J0 hJ0 => ?_
      refine idx_rows (hk.chg c04 (off_no _)) (even_node ks) (by decide) (by omega) hlt fun a y _ hy hcs => ?_
      rw [Int.toNat_natCast] at hy
      have hymem := List.mem_of_getElem? hy
      have ihy := @ih y hymem
      have hyok := hks y hymem
      have hym := mea_kid hymem
      have ht : (ks.map NV.nd).take (q + 1) = (ks.map NV.nd).take q ++ [y.nd] := take_get (by rw [List.getElem?_map, hy]; rfl)
      have htm : NV.meaL (ks.take (q + 1)) = NV.meaL (ks.take q) + y.mea := by rw [take_get hy, meaL_append]; simp [NV.meaL]
      have htk1 := meaL_take ks (q + 1)
      have hkd := nd_kind y
      cases y with
      | mk yk yu yl yt yap yal yac yas ykp ykl ykc yks =>
      have hkd' : (NV.mk yk yu yl yt yap yal yac yas ykp ykl ykc yks).nd.kind = yk := hkd
      refine nodeVar H4 hcs fun b5 w6 H6 hb5 hc6 => ?_
      refine withJ_i fun J22 hJ22 => ?_
      have k22 : ∀ bl, (bl = true ↔ ¬ (yk = 4 ∨ yk = 5)) → J22 bl w6 := by
        intro bl hbl
        subst hJ22
        refine condB_i (fun e => ?_) (fun e => ?_)
        · have hno := hbl.1 e
          have H6d := H6.drew
          refine H6d.ldS 2 rfl (off := 4) rfl ?_
          refine ldBox H6d 0 rfl ?_
          refine ihy hyok ((c04.trans0 hc6).drew) (by omega) fun v' w9 hnd hok hbd hmea hc9 => ?_
          cases v' with
          | mk zk zu zl zt zap zal zac zas zkp zkl zkc zks =>
          show _ ∧ _
          have H9 := H6d.step0 hc9
          refine ⟨H9.cell 2 rfl rfl, rfl, ?_⟩
          have hL9 : ∀ x ∈ L, NV.Ok w9 x := fun x hx => ((hL4 x hx).1.chg0 hc6).chg0 (Chg.drew (Chg.refl No w6) |>.trans0 hc9)
          have hr9 : Row w9 T_api_Node 6 p L.length c (rows NV.cells L) := (hr4.chg hc6 (off_no _)).chg (Chg.drew (Chg.refl No w6) |>.trans0 hc9) (off_no _)
          have hsz6 := hc6.size
          have hsz9 : w6.heap.size ≤ w9.heap.size := hc9.size
          refine newRow (sz := 6) (n := 1) (cs := (NV.mk zk zu zl zt zap zal zac zas zkp zkl zkc zks).cells) rfl (by decide) fun b27 w10 hr10 hb27 hc10 => ?_
          have H10 := H9.step0 hc10
          have hsz10 := hc10.size
          refine ⟨H10.cell 2 rfl rfl, ?_⟩
          have hr10' := hr9.chg hc10 (off_no _)
          refine appJ_row slT_node hr10' hr10.sl (one1_node (.mk zk zu zl zt zap zal zac zas zkp zkl zkc zks)) (by simp) (by omega) (by simp only [maxLen]; omega) fun p' c' w11 hr11 hc11 hf11 => ?_
          have H11 := H10.step hc11 (by
            intro B hB hI
            have h3 := hp12 _ hI
            simp only [List.mem_cons, List.not_mem_nil, or_false] at hB
            rcases hB with rfl | rfl | rfl
            · have h5 := hr4.lt
              obtain ⟨a, ha, e⟩ := hI
              have := h5 a ha
              simp only at e; omega
            · exact h3.2.1 rfl
            · exact h3.1 rfl) (fun b hb hI => by have := (hp12 _ hI).2.2; omega)
          refine H11.stV 2 rfl (off := 4) (by simp) fun w12 H12 hc12 => ?_
          simp only [List.set_cons_succ, List.set_cons_zero] at H12
          have hsz11 := hc11.size
          have hsz12 := hc12.size
          have hpf : ∀ b, isB p' b → isB p b ∨ w10.heap.size ≤ b := by
            rintro b ⟨a, ha, rfl⟩
            rcases hf11 with rfl | hf11
            · exact .inl ⟨a, ha, rfl⟩
            · exact .inr (hf11 a ha)
          have hnew : NV.Ok w12 (.mk zk zu zl zt zap zal zac zas zkp zkl zkc zks) ∧ NV.Bd (fun b => b < w0.heap.size ∨ (w2.heap.size ≤ b ∧ ¬ isB p' b)) (.mk zk zu zl zt zap zal zac zas zkp zkl zkc zks) := by
            have hall : NV.Bd (fun b => b < w9.heap.size ∧ (b < w0.heap.size ∨ w6.heap.size ≤ b)) (.mk zk zu zl zt zap zal zac zas zkp zkl zkc zks) := hok.bd.and (fun b h1 h2 => ⟨h1, h2⟩) hbd
            have hpl : ∀ b, isB p b → b < w4.heap.size := by rintro b ⟨a, ha, rfl⟩; exact hr4.lt a ha
            refine ⟨((hok.chg0 hc10).chgB hc11 (hall.mono fun b h hI => ?_)).chgB hc12 (hall.mono fun b h hI => ?_), hall.mono fun b h => ?_⟩
            · have h1 := (hp12 _ hI).2.2; have h2 := hpl _ hI; omega
            · subst hI; omega
            · rcases h.2 with h2 | h2
              · exact .inl h2
              · refine .inr ⟨by omega, fun hI => ?_⟩
                rcases hpf _ hI with h3 | h3
                · have := hpl _ h3; omega
                · omega
          have hold : ∀ x ∈ L, NV.Ok w12 x ∧ x.Bd (fun b => b < w0.heap.size ∨ (w2.heap.size ≤ b ∧ ¬ isB p' b)) := fun x hx => by
            have hall : NV.Bd (fun b => b < w9.heap.size ∧ (b < w0.heap.size ∨ (w2.heap.size ≤ b ∧ ¬ isB p b))) x := (hL9 x hx).bd.and (fun b h1 h2 => ⟨h1, h2⟩) (hL4 x hx).2
            refine ⟨(((hL9 x hx).chg0 hc10).chgB hc11 (hall.mono fun b h hI => ?_)).chgB hc12 (hall.mono fun b h hI => ?_), hall.mono fun b h => ?_⟩
            · rcases h.2 with h2 | h2
              · have h1 := (hp12 _ hI).2.2; omega
              · exact h2.2 hI
            · subst hI; omega
            · rcases h.2 with h2 | h2
              · exact .inl h2
              · refine .inr ⟨h2.1, fun hI => ?_⟩
                rcases hpf _ hI with h3 | h3
                · exact h2.2 h3
                · omega
          subst hJ0
          refine ⟨_, by omega, q + 1, p', c', L ++ [.mk zk zu zl zt zap zal zac zas zkp zkl zkc zks], by rw [w64_of] <;> omega, by omega, rfl, ?_, ?_, ?_, by omega, ?_, ?_, ?_⟩
          · rw [List.length_append]
            exact ⟨H12.chg, fun B hB => H12.is B (List.mem_cons_of_mem _ hB), (List.nodup_cons.1 H12.nd).2, fun B hB => H12.own B (List.mem_cons_of_mem _ hB)⟩
          · rw [List.length_append, rows_append, rows_cons, rows_nil, List.append_nil]
            refine hr11.chg hc12 fun a e h => ?_
            rcases hpf a.block ⟨a, e, rfl⟩ with h3 | h3
            · exact (hp12 _ h3).1 h
            · omega
          · intro a e
            rcases hpf a.block ⟨a, e, rfl⟩ with h3 | h3
            · exact (hp12 _ h3).2.2
            · omega
          · rw [List.map_append, hnd4, ht, bareL_append, bareL_one, hkd', if_neg hno]
            simp only [List.map_cons, List.map_nil, hnd]
          · intro x hx
            rcases List.mem_append.1 hx with hx | hx
            · exact hold x hx
            · rw [List.mem_singleton.1 hx]; exact hnew
          · rw [meaL_append, htm]
            simp only [NV.meaL]; omega
        · have hyes : yk = 4 ∨ yk = 5 := Classical.not_not.1 fun h => by rw [hbl.2 h] at e; cases e
          subst hJ0
          refine ⟨_, by omega, q + 1, p, c, L, by rw [w64_of] <;> omega, by omega, rfl, H4.step0 hc6, hr4.chg hc6 (off_no _), hf4, Nat.le_trans hs4 hc6.size, ?_, fun x hx => ⟨(hL4 x hx).1.chg0 hc6, (hL4 x hx).2⟩, by omega⟩
          rw [hnd4, ht, bareL_append, bareL_one, hkd', if_pos hyes, List.append_nil]
      clear hJ22
      refine H6.ldI 0 rfl (off := 0) rfl ?_
      refine condB_ne (fun h4 => ?_) (fun h4 => k22 false (by simp [h4]))
      refine H6.ldI 0 rfl (off := 0) rfl ?_
      exact k22 _ (by rw [bne_iff_ne]; omega)
    · have hqk : q = kl := by omega
      subst hqk
      rw [List.take_of_length_le (by rw [List.length_map]; omega)] at hnd4
      refine ldBox H4 1 rfl ?_
      refine H4.stN 0 rfl (off := 0) rfl (by simp) (one1_node (.mk k u l t ap al ac [] p L.length c [])) fun w13 H13 hc13 => ?_
      simp only [List.set_cons_zero] at H13
      have hsz13 := hc13.size
      refine ldBox H13 0 rfl ?_
      refine K (.mk k u l t ap al ac ats p L.length c L) w13 ?_ ?_ ?_ ?_ H13.chg
      · rw [nd_kids, nd_kids, hnd4]; simp only [bareN]
      · have hr13 : Row w13 T_api_Node 6 p L.length c (rows NV.cells L) := hr4.chg hc13 fun a e h => (hp12 a.block ⟨a, e, rfl⟩).2.1 h
        refine .mk (ha.chg (hc0.trans0 H13.chg) (off_no _)) hn hac hr13.sl hr13.none0 hr13.le.1 fun x hx => ?_
        exact (hL4 x hx).1.chgB hc13 ((hL4 x hx).1.bd.and (fun b h1 h2 hI => by subst hI; omega) (hL4 x hx).2)
      · cases hbv with
        | mk hba hbk hbks =>
        refine .mk (hba.imp id fun h a e => .inl (h a e)) (.inr fun a e => .inr ?_) fun x hx => ?_
        · have := hf4 a e; omega
        · exact (hL4 x hx).2.mono fun b h => h.imp id fun h => by omega
      · simp only [NV.mea] at hme4 ⊢; omega
end
end Go.Proofs.YtmmfookfpdcohaaDoor

