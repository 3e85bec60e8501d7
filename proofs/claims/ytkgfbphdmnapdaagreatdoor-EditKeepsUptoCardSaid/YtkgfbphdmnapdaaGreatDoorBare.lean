/-
  A tree without its comments and instructions: what 'bare' returns.
-/
import Derived.Test.YtkgfbphdmnapdaaGreatDoorPre5
import Derived.Test.YtkgfbphdmnapdaaGreatDoorVLaw05
import Derived.Test.YtkgfbphdmnapdaaGreatDoorVRef05
set_option linter.unusedVariables false
set_option linter.unusedSimpArgs false
namespace Go.Vc
open Go Go.Lib
/-- Where the slices of a tree lie that hold something. -/
inductive NV.Bd (P : Nat → Prop) : NV → Prop
  | mk {k : Int} {u l t : ByteArray} {ap : Option Addr} {al ac : Nat} {ats : List At} {kp : Option Addr} {kl kc : Nat} {ks : List NV}
      (ha : al = 0 ∨ ∀ a, ap = some a → P a.block) (hk : kl = 0 ∨ ∀ a, kp = some a → P a.block) (hks : ∀ x ∈ ks, NV.Bd P x) : NV.Bd P (.mk k u l t ap al ac ats kp kl kc ks)
theorem NV.Bd.and {P Q R : Nat → Prop} (hR : ∀ b, P b → Q b → R b) : ∀ {v : NV}, NV.Bd P v → NV.Bd Q v → NV.Bd R v := by
  intro v
  induction v using NV.ind with
  | h k u l t ap al ac ats kp kl kc ks ih =>
    intro h g
    cases h with
    | mk ha hk hks =>
      cases g with
      | mk ga gk gks =>
        refine .mk ?_ ?_ fun x hx => ih x hx (hks x hx) (gks x hx)
        · exact ha.elim .inl fun ha => ga.imp id fun ga a e => hR _ (ha a e) (ga a e)
        · exact hk.elim .inl fun hk => gk.imp id fun gk a e => hR _ (hk a e) (gk a e)
theorem NV.Bd.mono {P R : Nat → Prop} (hR : ∀ b, P b → R b) {v : NV} (h : NV.Bd P v) : NV.Bd R v := h.and (fun b hb _ => hR b hb) h
theorem Sl.bd {w : World} {p : Option Addr} {l sz : Nat} {xs : List Value} (h : Sl w p l sz xs) (hz : 0 < sz) : l = 0 ∨ ∀ a, p = some a → a.block < w.heap.size := by
  by_cases hl : l = 0
  · exact .inl hl
  · right
    intro a ha
    obtain ⟨a', e, hc⟩ := h.at hl
    rw [e] at ha; cases ha
    refine cellsAt_lt hc fun e => ?_
    have := h.len
    rw [e] at this
    have hp : 0 < l * sz := Nat.mul_pos (by omega) hz
    simp at this; omega
theorem NV.Ok.bd {w : World} : ∀ {v : NV}, NV.Ok w v → NV.Bd (fun b => b < w.heap.size) v := by
  intro v
  induction v using NV.ind with
  | h k u l t ap al ac ats kp kl kc ks ih =>
    intro h
    cases h with
    | mk ha hn hac hk hkn hkc hks => exact .mk (ha.bd (by decide)) (hk.bd (by decide)) fun x hx => ih x hx (hks x hx)
theorem Sl.chgB {w w' : World} {S : Nat → Prop} {p : Option Addr} {l sz : Nat} {xs : List Value} (h : Sl w p l sz xs) (hc : Chg S w w') (hn : l = 0 ∨ ∀ a, p = some a → ¬ S a.block) : Sl w' p l sz xs := by
  rcases hn with hl | hn
  · exact ⟨h.1, .inl hl⟩
  · exact h.chg hc hn
theorem NV.Ok.chgB {w w' : World} {S : Nat → Prop} (hc : Chg S w w') : ∀ {v : NV}, NV.Ok w v → NV.Bd (fun b => ¬ S b) v → NV.Ok w' v := by
  intro v
  induction v using NV.ind with
  | h k u l t ap al ac ats kp kl kc ks ih =>
    intro h ho
    cases h with
    | mk ha hn hac hk hkn hkc hks =>
      cases ho with
      | mk oa ok oks => exact .mk (ha.chgB hc oa) hn hac (hk.chgB hc ok) hkn hkc fun x hx => ih x hx (hks x hx) (oks x hx)
/-- A tree as a function gives it back. -/
def NV.giv (J : Int → ByteArray → ByteArray → Option Addr → Nat → Nat → Option Addr → Nat → Nat → ByteArray → World → Prop) (w : World) : NV → Prop
  | .mk k u l t ap al ac _ kp kl kc _ => J k u l ap al ac kp kl kc t w
theorem meaL_append : ∀ a b : List NV, NV.meaL (a ++ b) = NV.meaL a + NV.meaL b
  | [], _ => by simp [NV.meaL]
  | x :: r, b => by simp only [List.cons_append, NV.meaL, meaL_append r b]; omega
theorem meaL_take : ∀ (ks : List NV) (q : Nat), NV.meaL (ks.take q) ≤ NV.meaL ks
  | [], q => by simp
  | x :: r, 0 => by simp [NV.meaL]
  | x :: r, q + 1 => by have := meaL_take r q; simp only [List.take_succ_cons, NV.meaL]; omega
end Go.Vc
namespace Go.Proofs.YtkgfbphdmnapdaaGreatDoor
open Go Go.Vc Go.Lib
section
theorem newZ {w0 w : World} {S : Nat → Prop} {Γ : List Blk} (H : Hp w0 S w Γ) {K : Nat → World → Prop}
    (k : ∀ b w', Hp w0 S w' (⟨b, [.int .i64 0, .string ByteArray.empty, .string ByteArray.empty, .slice none 0 0, .slice none 0 0, .string ByteArray.empty], T_api_Node⟩ :: Γ) → w.heap.size ≤ b → Chg No w w' → K b w') :
    newB w (.cells (zeroC Tryz.prog T_api_Node) T_api_Node) K := by
  rw [zeroC_node]; exact H.newB k
end
end Go.Proofs.YtkgfbphdmnapdaaGreatDoor

/-
  A tree in memory of its own; 'spoil' writes it over.
-/

set_option linter.unusedVariables false
set_option linter.unusedSimpArgs false
namespace Go.Vc
open Go Go.Lib
def blkL : Option Addr → List Nat
  | none => []
  | some a => [a.block]
mutual
/-- The blocks in which a tree lies. -/
def NV.bs : NV → List Nat
  | .mk _ _ _ _ ap _ _ _ kp _ _ ks => blkL ap ++ (blkL kp ++ NV.bsL ks)
def NV.bsL : List NV → List Nat
  | [] => []
  | x :: r => x.bs ++ NV.bsL r
end
theorem bsL_append : ∀ a b : List NV, NV.bsL (a ++ b) = NV.bsL a ++ NV.bsL b
  | [], _ => rfl
  | x :: r, b => by simp only [List.cons_append, NV.bsL, bsL_append r b, List.append_assoc]
theorem bsL_mem {x : NV} {b : Nat} : ∀ {ks : List NV}, x ∈ ks → b ∈ x.bs → b ∈ NV.bsL ks
  | y :: r, h, hb => by
    simp only [NV.bsL, List.mem_append]
    rcases List.mem_cons.1 h with rfl | h
    · exact .inl hb
    · exact .inr (bsL_mem h hb)
theorem bsL_drop {ks : List NV} {q : Nat} {x : NV} (h : ks[q]? = some x) : NV.bsL (ks.drop q) = x.bs ++ NV.bsL (ks.drop (q + 1)) := by
  obtain ⟨hq, rfl⟩ := List.getElem?_eq_some_iff.1 h
  rw [List.drop_eq_getElem_cons hq, NV.bsL]
theorem splice_len2 {cs vs : List Value} {off n : Nat} (hl : vs.length = n) (ho : off + n ≤ cs.length) : (splice cs off vs).length = cs.length := by
  unfold splice; simp only [List.length_append, List.length_take, List.length_drop]; omega
theorem splice_drop {cs vs : List Value} {off n : Nat} (hl : vs.length = n) (ho : off + n ≤ cs.length) : (splice cs off vs).drop (off + n) = cs.drop (off + n) := by
  unfold splice
  rw [List.drop_append_of_le_length (by simp only [List.length_append, List.length_take]; omega), List.drop_eq_nil_of_le (by simp only [List.length_append, List.length_take]; omega), List.nil_append, hl]
theorem stN_own {w0 w : World} {S : Nat → Prop} {Γ : List Blk} (H : Hp w0 S w Γ) {b off n : Nat} {vs cs : List Value} {e : TypeId} {K : World → Prop} (hb : w.heap[b]? = some (.cells ⟨cs⟩ e (0, 0))) (hn : ∀ p ∈ Γ, p.b ≠ b) (hS : b < w0.heap.size → S b)
    (hl : vs.length = n) (ho : off + n ≤ cs.length) (h1 : one1 vs) (k : ∀ w', w'.heap[b]? = some (.cells ⟨splice cs off vs⟩ e (0, 0)) → Hp w0 S w' Γ → Chg (fun x => x = b) w w' → K w') : stN w ⟨b, off, none⟩ ⟨vs⟩ n K := by
  refine (H.add hb hn hS).stN 0 rfl hl ho h1 fun w' H' hc => ?_
  simp only [List.set_cons_zero] at H'
  exact k w' (H'.get 0 rfl) ⟨H'.chg, fun B hB => H'.is B (List.mem_cons_of_mem _ hB), (List.nodup_cons.1 H'.nd).2, fun B hB => H'.own B (List.mem_cons_of_mem _ hB)⟩ hc
end Go.Vc
namespace Go.Proofs.YtkgfbphdmnapdaaGreatDoor
open Go Go.Vc Go.Lib
/-- A tree whose slices begin blocks of their own. -/
inductive Own (w : World) : NV → Prop
  | mk {k : Int} {u l t : ByteArray} {ap : Option Addr} {al ac : Nat} {ats : List At} {kp : Option Addr} {kl kc : Nat} {ks : List NV}
      (ha : Row w T_api_Attr 3 ap al ac (rows atc ats)) (hk : Row w T_api_Node 6 kp kl kc (rows NV.cells ks)) (hks : ∀ x ∈ ks, Own w x) : Own w (.mk k u l t ap al ac ats kp kl kc ks)
theorem Own.ok {w : World} : ∀ {v : NV}, Own w v → NV.Ok w v := by
  intro v
  induction v using NV.ind with
  | h k u l t ap al ac ats kp kl kc ks ih =>
    intro h
    cases h with
    | mk ha hk hks => exact .mk ha.sl ha.none0 ha.le.1 hk.sl hk.none0 hk.le.1 fun x hx => ih x hx (hks x hx)
theorem Own.lt {w : World} : ∀ {v : NV}, Own w v → ∀ b ∈ v.bs, b < w.heap.size := by
  intro v
  induction v using NV.ind with
  | h k u l t ap al ac ats kp kl kc ks ih =>
    intro h b hb
    cases h with
    | mk ha hk hks =>
      have hL : ∀ L : List NV, (∀ x ∈ L, x ∈ ks) → b ∈ NV.bsL L → b < w.heap.size := by
        intro L
        induction L with
        | nil => intro _ h; simp [NV.bsL] at h
        | cons x r ihr =>
          intro hs h
          simp only [NV.bsL, List.mem_append] at h
          rcases h with h | h
          · exact ih x (hs x List.mem_cons_self) (hks x (hs x List.mem_cons_self)) b h
          · exact ihr (fun y hy => hs y (List.mem_cons_of_mem _ hy)) h
      simp only [NV.bs, List.mem_append] at hb
      rcases hb with hb | hb | hb
      · cases ap with
        | none => simp [blkL] at hb
        | some a => rw [List.mem_singleton.1 hb]; exact ha.lt a rfl
      · cases kp with
        | none => simp [blkL] at hb
        | some a => rw [List.mem_singleton.1 hb]; exact hk.lt a rfl
      · exact hL ks (fun _ h => h) hb
theorem Own.chg {w w' : World} {S : Nat → Prop} (hc : Chg S w w') : ∀ {v : NV}, Own w v → (∀ b ∈ v.bs, ¬ S b) → Own w' v := by
  intro v
  induction v using NV.ind with
  | h k u l t ap al ac ats kp kl kc ks ih =>
    intro h hn
    cases h with
    | mk ha hk hks =>
      simp only [NV.bs, List.mem_append] at hn
      refine .mk (ha.chg hc fun a e => ?_) (hk.chg hc fun a e => ?_) fun x hx => ih x hx (hks x hx) fun b hb => hn b (.inr (.inr (bsL_mem hx hb)))
      · subst e; exact hn _ (.inl (List.mem_singleton.2 rfl))
      · subst e; exact hn _ (.inr (.inl (List.mem_singleton.2 rfl)))
section
end
end Go.Proofs.YtkgfbphdmnapdaaGreatDoor

/-
  A tree in new memory: the document's 'Twin'.
-/

set_option linter.unusedVariables false
set_option linter.unusedSimpArgs false
namespace Go.Proofs.YtkgfbphdmnapdaaGreatDoor
open Go Go.Vc Go.Lib
section
theorem four {w0 w : World} {S : Nat → Prop} {Γ : List Blk} {b1 : Nat} {k : Int} {u l t : ByteArray} {ap kp : Option Addr} {al ac kl kc : Nat} (H : Hp w0 S w Γ) (i : Nat) (hi : Γ[i]? = some ⟨b1, [.int .i64 k, .string u, .string l, .slice ap al ac, .slice kp kl kc, .string t], T_api_Node⟩) :
    w.cell? ⟨b1, 3, none⟩ = some (.slice ap al ac) ∧ w.cell? ⟨b1, 5, none⟩ = some (.string t) ∧ cellsAt w ⟨b1, 1, none⟩ [.string u, .string l] ∧ w.cell? ⟨b1, 0, none⟩ = some (.int .i64 k) :=
  ⟨H.cell i hi rfl, H.cell i hi rfl, cellsAt_take 2 (H.cells i hi 1), H.cell i hi rfl⟩
theorem Twin_ok : ∀ (v : NV) {w0 w : World} {J : Int → ByteArray → ByteArray → Option Addr → Nat → Nat → Option Addr → Nat → Nat → ByteArray → World → Prop}, v.Ok w0 → Chg No w0 w → v.mea ≤ 10000000 →
    (∀ v' w', v'.nd = v.nd → Own w' v' → v'.bs.Nodup → (∀ b ∈ v'.bs, w.heap.size ≤ b) → v'.mea = v.mea → Chg No w w' → v'.giv J w') →
    callJ Tryz.prog fn_ref05_Twin #[.agg ⟨v.cells⟩] w [.agg [.int .i64, .str, .str, .slice, .slice, .str]] J := by
  intro v
  induction v using NV.ind with
  | h k u l t ap al ac ats kp kl kc ks ih =>
    intro w0 w J hv hc0 hm K
    cases hv with
    | mk ha hn hac hk hkn hkc hks =>
    have hkl := hk.row (even_node ks) (by decide)
    have hal := ha.row (even_at ats) (by decide)
    have hlm := len_meaL ks
    have hla := len_atSum ats
    have hmm : NV.meaL ks < 10000000 ∧ al < 10000000 := by simp only [NV.mea] at hm; omega
    refine c_ref05_Twin ?_
    unfold VC_ref05_Twin
    refine (Hp.start w No).newB fun b1 w1 H1 hb1 hc1 => ?_
    refine newZ H1 fun b2 w2 H2 hb2 hc2 => ?_
    refine withJ_i fun J3 hJ3 => ?_
    have k3 : ∀ (b3 : Nat) (p : Option Addr) (c : Nat) (w3 : World), Hp w No w3 [⟨b3, [.int .i64 k, .string u, .string l, .slice p al c, .slice none 0 0, .string t], T_api_Node⟩, ⟨b2, [.int .i64 0, .string ByteArray.empty, .string ByteArray.empty, .slice none 0 0, .slice none 0 0, .string ByteArray.empty], T_api_Node⟩, ⟨b1, [.int .i64 k, .string u, .string l, .slice ap al ac, .slice kp kl kc, .string t], T_api_Node⟩] →
        Row w3 T_api_Attr 3 p al c (rows atc ats) → fresh w2 p → (∀ a, p = some a → a.block ≠ b3) → w2.heap.size ≤ b3 → J3 (some ⟨b3, 0, none⟩) w3 := by
      intro b3 p c w3 H3 hra hfa hpa3 hb3
      subst hJ3
      have l1 := H3.lt 2 rfl
      have l2 := H3.lt 1 rfl
      have l3 := H3.lt 0 rfl
      have l21 := H2.lt 0 rfl
      have l11 := H2.lt 1 rfl
      have l4 := hra.lt
      have hs3 : w.heap.size ≤ w3.heap.size := H3.chg.size
      have hs2 : w.heap.size ≤ w2.heap.size := H2.chg.size
      refine H3.ldS 2 rfl (off := 4) rfl ?_
      refine ⟨fun i w' m => ∃ (q : Nat) (p' : Option Addr) (c' : Nat) (L : List NV), i = q ∧ q ≤ kl ∧ m = kl - q ∧
          Hp w No w' [⟨b3, [.int .i64 k, .string u, .string l, .slice p al c, .slice p' L.length c', .string t], T_api_Node⟩, ⟨b2, [.int .i64 0, .string ByteArray.empty, .string ByteArray.empty, .slice none 0 0, .slice none 0 0, .string ByteArray.empty], T_api_Node⟩, ⟨b1, [.int .i64 k, .string u, .string l, .slice ap al ac, .slice kp kl kc, .string t], T_api_Node⟩] ∧
          Row w' T_api_Attr 3 p al c (rows atc ats) ∧ Row w' T_api_Node 6 p' L.length c' (rows NV.cells L) ∧ fresh w3 p' ∧ w3.heap.size ≤ w'.heap.size ∧ L.map NV.nd = (ks.map NV.nd).take q ∧
          (∀ x ∈ L, Own w' x) ∧ (NV.bsL L).Nodup ∧ (∀ b ∈ NV.bsL L, w3.heap.size ≤ b ∧ ¬ isB p' b ∧ b < w'.heap.size) ∧ NV.meaL L = NV.meaL (ks.take q),
        ⟨_, 0, none, 0, [], rfl, Nat.zero_le _, rfl, H3, hra, Row.nil _ _ _, (by intro a e; cases e), Nat.le_refl _, by simp, by simp, by simp [NV.bsL], by simp [NV.bsL], by simp [NV.meaL]⟩, ?_⟩
      rintro i w4 m ⟨q, p', c', L, rfl, hq, rfl, H4, hra4, hr4, hf4, hs4, hnd4, hL4, hno4, hbs4, hme4⟩
      have c04 := hc0.trans0 H4.chg
      have hlL := len_meaL L
      have htk := meaL_take ks q
      have hp3 : ∀ b, isB p' b → w3.heap.size ≤ b := by rintro b ⟨a, ha, rfl⟩; exact hf4 a ha
      refine condB_d (fun hlt => ?_) (fun hge => ?_)
      · refine idx_rows (hk.chg c04 (off_no _)) (even_node ks) (by decide) (by omega) hlt fun a y _ hy hcs => ?_
        rw [Int.toNat_natCast] at hy
        have hymem := List.mem_of_getElem? hy
        have ihy := @ih y hymem
        have hyok := hks y hymem
        have hym := mea_kid hymem
        have ht : (ks.map NV.nd).take (q + 1) = (ks.map NV.nd).take q ++ [y.nd] := take_get (by rw [List.getElem?_map, hy]; rfl)
        have htm : NV.meaL (ks.take (q + 1)) = NV.meaL (ks.take q) + y.mea := by rw [take_get hy, meaL_append]; simp [NV.meaL]
        have htk1 := meaL_take ks (q + 1)
        cases y with
        | mk yk yu yl yt yap yal yac yas ykp ykl ykc yks =>
        refine nodeVar H4 hcs fun b5 w6 H6 hb5 hc6 => ?_
        simp only [nonNil]
        have H6d := H6.drew
        refine H6d.ldS 1 rfl (off := 4) rfl ?_
        refine ldBox H6d 0 rfl ?_
        refine ihy hyok ((c04.trans0 hc6).drew) (by omega) fun v' w9 hnd hok hbn hbl hmea hc9 => ?_
        cases v' with
        | mk zk zu zl zt zap zal zac zas zkp zkl zkc zks =>
        show _ ∧ _
        have H9 := H6d.step0 hc9
        have c49 : Chg No w4 w9 := (hc6.drew).trans0 hc9
        have hsz9 := c49.size
        have hsz6 := hc6.size
        have hbl' : ∀ b ∈ (NV.mk zk zu zl zt zap zal zac zas zkp zkl zkc zks).bs, w4.heap.size ≤ b := fun b hb => Nat.le_trans hsz6 (hbl b hb)
        have hbt := hok.lt
        refine ⟨H9.cell 1 rfl rfl, rfl, ?_⟩
        refine newRow (sz := 6) (n := 1) (cs := (NV.mk zk zu zl zt zap zal zac zas zkp zkl zkc zks).cells) rfl (by decide) fun b27 w10 hr10 hb27 hc10 => ?_
        have H10 := H9.step0 hc10
        have hsz10 := hc10.size
        refine ⟨H10.cell 1 rfl rfl, ?_⟩
        have hr10' := (hr4.chg c49 (off_no _)).chg hc10 (off_no _)
        refine appJ_row slT_node hr10' hr10.sl (one1_node (.mk zk zu zl zt zap zal zac zas zkp zkl zkc zks)) (by simp) (by omega) (by simp only [maxLen]; omega) fun p2 c2 w11 hr11 hc11 hf11 => ?_
        have hpl : ∀ b, isB p' b → b < w4.heap.size := by rintro b ⟨a, ha, rfl⟩; exact hr4.lt a ha
        have H11 := H10.step hc11 (by
          intro B hB hI
          have h3 := hp3 _ hI
          have h4 := hpl _ hI
          simp only [List.mem_cons, List.not_mem_nil, or_false] at hB
          rcases hB with rfl | rfl | rfl | rfl <;> (simp only at h3 h4; omega)) (fun b hb hI => by have := hp3 _ hI; omega)
        refine H11.stV 1 rfl (off := 4) (by simp) fun w12 H12 hc12 => ?_
        simp only [List.set_cons_succ, List.set_cons_zero] at H12
        have hsz11 := hc11.size
        have hsz12 := hc12.size
        have hpf : ∀ b, isB p2 b → isB p' b ∨ w10.heap.size ≤ b := by
          rintro b ⟨a, ha, rfl⟩
          rcases hf11 with rfl | hf11
          · exact .inl ⟨a, ha, rfl⟩
          · exact .inr (hf11 a ha)
        refine ⟨_, by omega, q + 1, p2, c2, L ++ [.mk zk zu zl zt zap zal zac zas zkp zkl zkc zks], by rw [w64_of] <;> omega, by omega, rfl, ?_, ?_, ?_, ?_, by omega, ?_, ?_, ?_, ?_, ?_⟩
        · rw [List.length_append]
          exact ⟨H12.chg, fun B hB => H12.is B (List.mem_cons_of_mem _ hB), (List.nodup_cons.1 H12.nd).2, fun B hB => H12.own B (List.mem_cons_of_mem _ hB)⟩
        · refine (((hra4.chg c49 (off_no _)).chg hc10 (off_no _)).chg hc11 fun a e hI => ?_).chg hc12 fun a e h => hpa3 a e h
          have := hp3 _ hI; have := l4 a e; omega
        · rw [List.length_append, rows_append, rows_cons, rows_nil, List.append_nil]
          refine hr11.chg hc12 fun a e h => ?_
          rcases hpf a.block ⟨a, e, rfl⟩ with h3 | h3
          · have := hp3 _ h3; omega
          · omega
        · intro a e
          rcases hpf a.block ⟨a, e, rfl⟩ with h3 | h3
          · exact hp3 _ h3
          · omega
        · rw [List.map_append, hnd4, ht]
          simp only [List.map_cons, List.map_nil, hnd]
        · intro x hx
          rcases List.mem_append.1 hx with hx | hx
          · refine ((((hL4 x hx).chg c49 fun _ _ h => h.elim).chg hc10 fun _ _ h => h.elim).chg hc11 fun b hb hI => (hbs4 b (bsL_mem hx hb)).2.1 hI).chg hc12 fun b hb h => ?_
            have := (hbs4 b (bsL_mem hx hb)).1; omega
          · rw [List.mem_singleton.1 hx]
            refine ((hok.chg hc10 fun _ _ h => h.elim).chg hc11 fun b hb hI => ?_).chg hc12 fun b hb h => ?_
            · have := hbl' b hb; have := hpl b hI; omega
            · have := hbl' b hb; omega
        · rw [bsL_append]
          simp only [NV.bsL, List.append_nil]
          refine List.nodup_append.2 ⟨hno4, hbn, fun a ha b hb e => ?_⟩
          subst e
          have := (hbs4 a ha).2.2; have := hbl' a hb; omega
        · intro b hb
          rw [bsL_append, List.mem_append] at hb
          simp only [NV.bsL, List.append_nil] at hb
          rcases hb with hb | hb
          · obtain ⟨h1, h2, h3⟩ := hbs4 b hb
            refine ⟨h1, fun hI => ?_, by omega⟩
            rcases hpf b hI with h | h
            · exact h2 h
            · omega
          · have h1 := hbl' b hb
            have h2 := hbt b hb
            refine ⟨by omega, fun hI => ?_, by omega⟩
            rcases hpf b hI with h | h
            · have := hpl b h; omega
            · omega
        · rw [meaL_append, htm, hme4]
          simp only [NV.meaL]; omega
      · have hqk : q = kl := by omega
        subst hqk
        rw [List.take_of_length_le (by rw [List.length_map]; omega)] at hnd4
        rw [List.take_of_length_le (by omega)] at hme4
        simp only [nonNil]
        refine ldBox H4 0 rfl ?_
        refine H4.stN 1 rfl (off := 0) rfl (by simp) (one1_node (.mk k u l t p al c [] p' L.length c' [])) fun w13 H13 hc13 => ?_
        simp only [List.set_cons_succ, List.set_cons_zero] at H13
        refine ldBox H13 1 rfl ?_
        have ebs : (NV.mk k u l t p al c ats p' L.length c' L).bs = blkL p ++ (blkL p' ++ NV.bsL L) := by simp only [NV.bs]
        have hA : ∀ b ∈ blkL p, w2.heap.size ≤ b ∧ b < w3.heap.size := by
          intro b hb
          cases p with
          | none => simp [blkL] at hb
          | some a => rw [List.mem_singleton.1 hb]; exact ⟨hfa a rfl, l4 a rfl⟩
        have hB : ∀ b ∈ blkL p', w3.heap.size ≤ b ∧ isB p' b := by
          intro b hb
          cases p' with
          | none => simp [blkL] at hb
          | some a => rw [List.mem_singleton.1 hb]; exact ⟨hf4 a rfl, ⟨a, rfl, rfl⟩⟩
        refine K (.mk k u l t p al c ats p' L.length c' L) w13 ?_ ?_ ?_ ?_ ?_ H13.chg
        · rw [nd_kids, nd_kids, hnd4]
        · refine .mk (hra4.chg hc13 fun a e h => ?_) (hr4.chg hc13 fun a e h => ?_) fun x hx => (hL4 x hx).chg hc13 fun b hb h => ?_
          · have := hfa a e; omega
          · have := hf4 a e; omega
          · have := (hbs4 b (bsL_mem hx hb)).1; omega
        · rw [ebs]
          refine List.nodup_append.2 ⟨by cases p <;> simp [blkL], List.nodup_append.2 ⟨by cases p' <;> simp [blkL], hno4, fun a ha b hb e => ?_⟩, fun a ha b hb e => ?_⟩
          · subst e; exact (hbs4 a hb).2.1 (hB a ha).2
          · subst e
            have := (hA a ha).2
            rcases List.mem_append.1 hb with hb | hb
            · have := (hB a hb).1; omega
            · have := (hbs4 a hb).1; omega
        · rw [ebs]
          intro b hb
          rcases List.mem_append.1 hb with hb | hb
          · have := (hA b hb).1; omega
          · rcases List.mem_append.1 hb with hb | hb
            · have := (hB b hb).1; omega
            · have := (hbs4 b hb).1; omega
        · simp only [NV.mea]; omega
    clear hJ3
    have l21 := H2.lt 0 rfl
    have l11 := H2.lt 1 rfl
    have hs2 : w.heap.size ≤ w2.heap.size := H2.chg.size
    have kapp : ∀ (w' : World) (b12 : Nat) (Γ : List Blk) (Kk : Option Addr → Nat → Nat → World → Prop), Hp w No w' (⟨b12, [], T_api_Attr⟩ :: Γ) → w2.heap.size ≤ b12 → w2.heap.size ≤ w'.heap.size →
        (∀ p c w'', Hp w No w'' Γ → Row w'' T_api_Attr 3 p al c (rows atc ats) → fresh w2 p → (∀ a, p = some a → a.block = b12 ∨ w'.heap.size ≤ a.block) → w'.heap.size ≤ w''.heap.size → Kk p al c w'') →
        appJ Tryz.prog T_sl_api_Attr T_sl_api_Attr (.slice (some ⟨b12, 0, none⟩) 0 0) (.slice ap al ac) w' Kk := by
      intro w' b12 Γ Kk H hb12 hs' kk
      have hr := H.asRow (sz := 3) (l := 0) (c := 0) 0 rfl (xs := []) (rest := []) rfl (by simp) (Nat.le_refl _) (Nat.zero_le _) (by simp)
      refine appJ_row slT_attr hr (ha.chg (hc0.trans0 H.chg) (off_no _)) (one1_rows fun x _ => one1_at x) hn (by omega) (by simp only [maxLen]; omega) fun p c w'' hr' hc' hf' => ?_
      simp only [Nat.zero_add, List.nil_append] at hr' ⊢
      have HT : Hp w No w' Γ := ⟨H.chg, fun B hB => H.is B (List.mem_cons_of_mem _ hB), (List.nodup_cons.1 H.nd).2, fun B hB => H.own B (List.mem_cons_of_mem _ hB)⟩
      refine kk p c w'' (HT.step hc' (fun B hB hI => ?_) (fun b hb hI => ?_)) hr' (fun a e => ?_) (fun a e => ?_) hc'.size
      · obtain ⟨a, e, h⟩ := hI
        cases e
        refine (List.nodup_cons.1 H.nd).1 ?_
        have h' : b12 = B.b := h
        simp only [h']
        exact List.mem_map_of_mem hB
      · obtain ⟨a, e, h⟩ := hI
        cases e
        have h' : b12 = b := h
        omega
      · rcases hf' with e2 | hf'
        · rw [e2] at e; cases e; exact hb12
        · have := hf' a e; omega
      · rcases hf' with e2 | hf'
        · rw [e2] at e; cases e; exact .inl rfl
        · exact .inr (hf' a e)
    have H2d := H2.drew
    refine H2d.ldI 1 rfl (off := 0) rfl ?_
    refine H2d.ldStr 1 rfl (off := 1) rfl ?_
    refine H2d.ldStr 1 rfl (off := 2) rfl ?_
    refine H2d.ldStr 1 rfl (off := 5) rfl ?_
    refine H2d.ldS 1 rfl (off := 3) rfl ?_
    refine ⟨?_, ?_⟩
    · refine H2d.newB fun b12 w12 H12 hb12 hc12 => ?_
      have hb12' : w2.heap.size ≤ b12 := hb12
      have hs12 : w2.heap.size ≤ w12.heap.size := hc12.size
      have l12 := H12.lt 0 rfl
      have f := four H12 2 rfl
      refine ⟨f.1, f.2.1, f.2.2.1, f.2.2.2, ?_, ?_⟩
      · refine kapp w12 b12 _ _ H12 hb12' hs12 fun p c w13 H13 hr13 hf13 hp13 hs13 => ?_
        have f := four H13 1 rfl
        refine ⟨f.2.1, f.2.2.1, f.2.2.2, rfl, ?_⟩
        refine newZ H13 fun b3 w14 H14 hb3 hc14 => ?_
        have f := four H14 2 rfl
        refine ⟨f.1, f.2.1, f.2.2.1, f.2.2.2, ?_⟩
        refine H14.stN 0 rfl (off := 0) rfl (by simp) (one1_node (.mk k u l t p al c [] none 0 0 [])) fun w15 H15 hc15 => ?_
        simp only [List.set_cons_zero] at H15
        exact k3 b3 p c w15 H15 ((hr13.chg hc14 (off_no _)).chg hc15 fun a e h => by have := hr13.lt a e; omega) hf13 (fun a e h => by have := hr13.lt a e; omega) (by omega)
      · have HT : Hp w No w12 _ := ⟨H12.chg, fun B hB => H12.is B (List.mem_cons_of_mem _ hB), (List.nodup_cons.1 H12.nd).2, fun B hB => H12.own B (List.mem_cons_of_mem _ hB)⟩
        refine newZ HT fun b3 w16 H16 hb3 hc16 => ?_
        have f := four H16 2 rfl
        refine ⟨f.1, f.2.1, f.2.2.1, f.2.2.2, ?_⟩
        have hs16 := hc16.size
        have l16 := H16.lt 0 rfl
        have HA := H16.add (hc16.heap (H12.get 0 rfl) (fun h => h.elim)) (by
          intro B hB
          simp only [List.mem_cons, List.not_mem_nil, or_false] at hB
          rcases hB with rfl | rfl | rfl <;> (simp only; omega)) (fun h => by omega)
        refine kapp w16 b12 _ _ HA hb12' (by omega) fun p c w17 H17 hr17 hf17 hp17 hs17 => ?_
        have f := four H17 2 rfl
        refine ⟨f.2.1, f.2.2.1, f.2.2.2, rfl, ?_⟩
        refine H17.stN 0 rfl (off := 0) rfl (by simp) (one1_node (.mk k u l t p al c [] none 0 0 [])) fun w18 H18 hc18 => ?_
        simp only [List.set_cons_zero] at H18
        exact k3 b3 p c w18 H18 (hr17.chg hc18 fun a e h => by have := hp17 a e; omega) hf17 (fun a e h => by have := hp17 a e; omega) (by omega)
    · refine newZ H2d fun b3 w19 H19 hb3 hc19 => ?_
      have hb3' : w2.heap.size ≤ b3 := hb3
      have hs19 : w2.heap.size ≤ w19.heap.size := hc19.size
      have l19 := H19.lt 0 rfl
      have f := four H19 2 rfl
      refine ⟨f.1, f.2.1, f.2.2.1, f.2.2.2, ?_⟩
      refine H19.newB fun b12 w20 H20 hb12 hc20 => ?_
      have hs20 := hc20.size
      have f := four H20 3 rfl
      refine ⟨f.1, f.2.1, f.2.2.1, f.2.2.2, ?_⟩
      refine kapp w20 b12 _ _ H20 (by omega) (by omega) fun p c w21 H21 hr21 hf21 hp21 hs21 => ?_
      have f := four H21 2 rfl
      refine ⟨f.2.1, f.2.2.1, f.2.2.2, rfl, ?_⟩
      refine H21.stN 0 rfl (off := 0) rfl (by simp) (one1_node (.mk k u l t p al c [] none 0 0 [])) fun w22 H22 hc22 => ?_
      simp only [List.set_cons_zero] at H22
      exact k3 b3 p c w22 H22 (hr21.chg hc22 fun a e h => by have := hp21 a e; omega) hf21 (fun a e h => by have := hp21 a e; omega) (by omega)
end
end Go.Proofs.YtkgfbphdmnapdaaGreatDoor

/-
  The document's 'Same'.
-/

set_option linter.unusedVariables false
set_option linter.unusedSimpArgs false
namespace Go.Proofs.YtkgfbphdmnapdaaGreatDoor
open Go Go.Vc Go.Lib
section
variable {w : World}
theorem SameAttrs5_ok {p q : Option Addr} {l c l2 c2 : Nat} {X Y : List At} {J : Bool → World → Prop} (h : Sl w p l 3 (rows atc X)) (h2 : Sl w q l2 3 (rows atc Y)) (hm : l ≤ 1000000000) (k : ∀ w', Chg No w w' → J (decide (X = Y)) w') :
    callJ Tryz.prog fn_ref04_SameAttrs #[.slice p l c, .slice q l2 c2] w [.one .bool] J := by
  refine c_ref04_SameAttrs ?_
  unfold VC_ref04_SameAttrs
  have hl := h.row (even_at X) (by decide)
  have hl2 := h2.row (even_at Y) (by decide)
  refine condB_ne (fun hne => ?_) (fun he => ?_)
  · have e : decide (X = Y) = false := decide_eq_false fun e => hne (by rw [← hl, ← hl2, e])
    rw [e] at k; exact k w (Chg.refl _ _)
  have hll : l = l2 := by omega
  subst hll
  refine ⟨fun x w' t => ∃ i : Nat, x = i ∧ i ≤ l ∧ t = l - i ∧ Chg No w w' ∧ ∀ k, k < i → pf X k = pf Y k, ⟨_, 0, rfl, Nat.zero_le _, rfl, Chg.refl _ _, fun k h => by omega⟩, ?_⟩
  rintro x w' t ⟨i, rfl, hi, rfl, hc, hs⟩
  have hcd := hc.drew
  refine condB_d (fun hlt => ?_) (fun hge => ?_)
  · refine at_i (h.chg hcd (off_no _)) (n := i) rfl (by omega) fun a e0 e1 e2 => ldStr_i e0 (ldStr_i e1 (ldStr_i e2 ?_))
    refine at_i (h2.chg hcd (off_no _)) (n := i) rfl (by omega) fun a' f0 f1 f2 => ldStr_i f0 (ldStr_i f1 (ldStr_i f2 ?_))
    simp only [beqS, Bool.and_true]
    refine condB_not (fun hf => ?_) (fun ht => ?_)
    · have e : decide (X = Y) = false := decide_eq_false fun e => by
        rw [e] at hf; simp at hf
      rw [e] at k; exact k _ hcd
    · refine ⟨_, by omega, i + 1, by rw [w64_of] <;> omega, by omega, rfl, hcd, fun k hk => ?_⟩
      by_cases e : k = i
      · subst e
        simp only [Bool.and_eq_true, decide_eq_true_eq] at ht
        exact Prod.ext ht.1.1 (Prod.ext ht.1.2 ht.2)
      · exact hs k (by omega)
  · have e : decide (X = Y) = true := decide_eq_true (by
      apply List.ext_getElem?
      intro k
      by_cases hk : k < l
      · rw [pf_get (by omega), pf_get (by omega), hs k (by omega)]
      · rw [List.getElem?_eq_none (by omega), List.getElem?_eq_none (by omega)])
    rw [e] at k; exact k w' hc
theorem Same_ok : ∀ (x y : NV) {w : World} {J : Bool → World → Prop}, x.Ok w → y.Ok w → x.mea ≤ 100000000 → (∀ r w', (r = true ↔ x.nd = y.nd) → Chg No w w' → J r w') → callJ Tryz.prog fn_ref05_Same #[.agg ⟨x.cells⟩, .agg ⟨y.cells⟩] w [.one .bool] J := by
  intro x
  induction x using NV.ind with
  | h k u l t ap al ac ats kp kl kc ks ih =>
    intro y w J hx hy hm K
    cases y with
    | mk k' u' l' t' ap' al' ac' ats' kp' kl' kc' ks' =>
    have hE : (NV.mk k u l t ap al ac ats kp kl kc ks).nd = (NV.mk k' u' l' t' ap' al' ac' ats' kp' kl' kc' ks').nd ↔ k = k' ∧ u = u' ∧ l = l' ∧ t = t' ∧ ats = ats' ∧ ks.map NV.nd = ks'.map NV.nd := by rw [nd_kids, nd_kids, Nd.mk.injEq]
    cases hx with
    | mk ha hn hac hk hkn hkc hks =>
    cases hy with
    | mk ha' hn' hac' hk' hkn' hkc' hks' =>
    have hkl := hk.row (even_node ks) (by decide)
    have hkl' := hk'.row (even_node ks') (by decide)
    have hal := ha.row (even_at ats) (by decide)
    have hlm := len_meaL ks
    have hla := len_atSum ats
    have hmm : NV.meaL ks ≤ 100000000 ∧ al ≤ 100000000 := by simp only [NV.mea] at hm; omega
    refine c_ref05_Same ?_
    unfold VC_ref05_Same
    refine (Hp.start w No).newB fun b2 w1 H1 hb2 hc1 => ?_
    refine H1.newB fun b3 w2 H2 hb3 hc2 => ?_
    refine withJ_i fun J41 hJ41 => ?_
    have hT : ∀ b w3, Chg No w2 w3 → (b = true → ¬ (NV.mk k u l t ap al ac ats kp kl kc ks).nd = (NV.mk k' u' l' t' ap' al' ac' ats' kp' kl' kc' ks').nd) → (b = false → (k = k' ∧ u = u' ∧ l = l' ∧ t = t' ∧ ats = ats') ∧ kl = kl') → J41 b w3 := by
      intro b w3 hc3 h1 h2
      subst hJ41
      have H3 := H2.step0 hc3
      refine condB_i (fun h => K false w3 ⟨fun g => (by cases g), fun e => absurd e (h1 h)⟩ H3.chg) (fun h => ?_)
      obtain ⟨hs, hll⟩ := h2 h
      refine H3.ldS 1 rfl (off := 4) rfl ?_
      refine ⟨fun i w' m => ∃ q : Nat, i = q ∧ q ≤ kl ∧ m = kl - q ∧ Chg No w3 w' ∧ (ks.map NV.nd).take q = (ks'.map NV.nd).take q, ⟨_, 0, rfl, Nat.zero_le _, rfl, Chg.refl _ _, by simp⟩, ?_⟩
      rintro i w4 m ⟨q, rfl, hq, rfl, hc4, hpre⟩
      have H4 := H3.step0 hc4
      have H4d := H4.drew
      have c04 := H4d.chg
      refine condB_d (fun hlt => ?_) (fun hge => ?_)
      · refine H4d.ldS 1 rfl (off := 4) rfl ?_
        refine idx_rows (hk.chg c04 (off_no _)) (even_node ks) (by decide) (by omega) hlt fun a y1 _ hy1 hcs1 => ?_
        have hy1' : ks[q]? = some y1 := hy1
        have hm1 := List.mem_of_getElem? hy1'
        have hmea := mea_kid hm1
        have t1 : (ks.map NV.nd).take (q + 1) = (ks.map NV.nd).take q ++ [y1.nd] := take_get (by rw [List.getElem?_map, hy1']; rfl)
        have g1 : (ks.map NV.nd)[q]? = some y1.nd := by rw [List.getElem?_map, hy1']; rfl
        have ih1 := @ih y1 hm1
        have ok1 := (hks y1 hm1).chg0 c04
        cases y1 with
        | mk yk yu yl yt yap yal yac yas ykp ykl ykc yks =>
        refine ldNode hcs1 ?_
        refine H4d.ldS 0 rfl (off := 4) rfl ?_
        refine idx_rows (hk'.chg c04 (off_no _)) (even_node ks') (by decide) (by omega) (by omega) fun a' y2 _ hy2 hcs2 => ?_
        have hy2' : ks'[q]? = some y2 := hy2
        have hm2 := List.mem_of_getElem? hy2'
        have t2 : (ks'.map NV.nd).take (q + 1) = (ks'.map NV.nd).take q ++ [y2.nd] := take_get (by rw [List.getElem?_map, hy2']; rfl)
        have g2 : (ks'.map NV.nd)[q]? = some y2.nd := by rw [List.getElem?_map, hy2']; rfl
        have ok2 := (hks' y2 hm2).chg0 c04
        cases y2 with
        | mk zk zu zl zt zap zal zac zas zkp zkl zkc zks =>
        refine ldNode hcs2 ?_
        refine ih1 (NV.mk zk zu zl zt zap zal zac zas zkp zkl zkc zks) ok1 ok2 (by omega) fun r w5 hr hc5 => ?_
        refine condB_not (fun hf => ?_) (fun ht => ?_)
        · refine K false w5 ⟨fun g => (by cases g), fun e => ?_⟩ (c04.trans0 hc5)
          have e6 := (hE.1 e).2.2.2.2.2
          rw [e6, g2] at g1
          rw [hr.2 (Option.some.inj g1).symm] at hf; cases hf
        · exact ⟨_, by omega, q + 1, by rw [w64_of] <;> omega, by omega, rfl, (hc4.drew).trans0 hc5, by rw [t1, t2, hpre, hr.1 ht]⟩
      · have hqk : q = kl := by omega
        subst hqk
        rw [List.take_of_length_le (by rw [List.length_map]; omega), List.take_of_length_le (by rw [List.length_map]; omega)] at hpre
        exact K true w4 ⟨fun _ => hE.2 ⟨hs.1, hs.2.1, hs.2.2.1, hs.2.2.2.1, hs.2.2.2.2, hpre⟩, fun _ => rfl⟩ H4.chg
    clear hJ41
    refine H2.ldI 1 rfl (off := 0) rfl ?_
    refine H2.ldI 0 rfl (off := 0) rfl ?_
    refine condB_ne (fun h => hT true w2 (Chg.refl _ _) (fun _ e => h (hE.1 e).1) (fun h => by cases h)) (fun e1 => ?_)
    refine H2.ldStr 1 rfl (off := 1) rfl ?_
    refine H2.ldStr 1 rfl (off := 2) rfl ?_
    refine H2.ldStr 0 rfl (off := 1) rfl ?_
    refine H2.ldStr 0 rfl (off := 2) rfl ?_
    simp only [beqS, Bool.and_true]
    refine condB_not (fun hf => hT true w2 (Chg.refl _ _) (fun _ e => ?_) (fun h => by cases h)) (fun e2 => ?_)
    · obtain ⟨_, h1, h2, _⟩ := hE.1 e
      rw [decide_eq_true h1, decide_eq_true h2] at hf; cases hf
    rw [Bool.and_eq_true, decide_eq_true_eq, decide_eq_true_eq] at e2
    refine H2.ldStr 1 rfl (off := 5) rfl ?_
    refine H2.ldStr 0 rfl (off := 5) rfl ?_
    refine condB_not (fun hf => hT true w2 (Chg.refl _ _) (fun _ e => ?_) (fun h => by cases h)) (fun e3 => ?_)
    · rw [decide_eq_true (hE.1 e).2.2.2.1] at hf; cases hf
    rw [decide_eq_true_eq] at e3
    refine H2.ldS 1 rfl (off := 3) rfl ?_
    refine H2.ldS 0 rfl (off := 3) rfl ?_
    refine SameAttrs5_ok (ha.chg H2.chg (off_no _)) (ha'.chg H2.chg (off_no _)) (by omega) fun w6 hc6 => ?_
    have H6 := H2.step0 hc6
    refine condB_not (fun hf => hT true w6 hc6 (fun _ e => ?_) (fun h => by cases h)) (fun e4 => ?_)
    · rw [decide_eq_true (hE.1 e).2.2.2.2.1] at hf; cases hf
    rw [decide_eq_true_eq] at e4
    refine H6.ldS 1 rfl (off := 4) rfl ?_
    refine H6.ldS 0 rfl (off := 4) rfl ?_
    refine hT _ w6 hc6 (fun h e => ?_) (fun h => ⟨⟨e1, e2.1, e2.2, e3, e4⟩, ?_⟩)
    · have e6 := congrArg List.length (hE.1 e).2.2.2.2.2
      rw [List.length_map, List.length_map, hkl, hkl'] at e6
      rw [bne_iff_ne] at h; omega
    · rw [bne_eq_false_iff_eq] at h; omega
end
end Go.Proofs.YtkgfbphdmnapdaaGreatDoor

/-
  The program's 'Copy'.
-/

set_option linter.unusedVariables false
set_option linter.unusedSimpArgs false
namespace Go.Proofs.YtkgfbphdmnapdaaGreatDoor
open Go Go.Vc Go.Lib
section
theorem Copy_ok : ∀ (v : NV) {w0 w : World} {J : Int → ByteArray → ByteArray → Option Addr → Nat → Nat → Option Addr → Nat → Nat → ByteArray → World → Prop}, v.Ok w0 → Chg No w0 w → v.mea ≤ 10000000 →
    (∀ v' w', v'.nd = v.nd → Own w' v' → v'.bs.Nodup → (∀ b ∈ v'.bs, w.heap.size ≤ b) → v'.mea = v.mea → Chg No w w' → v'.giv J w') →
    callJ Tryz.prog fn_tree_Copy #[.agg ⟨v.cells⟩] w [.agg [.int .i64, .str, .str, .slice, .slice, .str]] J := by
  intro v
  induction v using NV.ind with
  | h k u l t ap al ac ats kp kl kc ks ih =>
    intro w0 w J hv hc0 hm K
    cases hv with
    | mk ha hn hac hk hkn hkc hks =>
    have hkl := hk.row (even_node ks) (by decide)
    have hal := ha.row (even_at ats) (by decide)
    have hlm := len_meaL ks
    have hla := len_atSum ats
    have hmm : NV.meaL ks < 10000000 ∧ al < 10000000 := by simp only [NV.mea] at hm; omega
    refine c_tree_Copy ?_
    unfold VC_tree_Copy
    refine (Hp.start w No).newB fun b1 w1 H1 hb1 hc1 => ?_
    refine newZ H1 fun b2 w2 H2 hb2 hc2 => ?_
    have l21 := H2.lt 0 rfl
    have l11 := H2.lt 1 rfl
    have hs2 : w.heap.size ≤ w2.heap.size := H2.chg.size
    refine H2.ldS 1 rfl (off := 3) rfl ?_
    refine appJ_row slT_attr (Row.nil w2 T_api_Attr 3) (ha.chg (hc0.trans0 H2.chg) (off_no _)) (one1_rows fun x _ => one1_at x) hn (by omega) (by simp only [maxLen]; omega) fun p c wa hra0 hca hfa0 => ?_
    simp only [Nat.zero_add, List.nil_append] at hra0 ⊢
    have hfa : fresh w2 p := by
      rcases hfa0 with rfl | h
      · intro a e; cases e
      · exact h
    have Ha := H2.step hca (fun B _ hI => by obtain ⟨a, e, _⟩ := hI; cases e) (fun b _ hI => by obtain ⟨a, e, _⟩ := hI; cases e)
    refine Ha.stV 1 rfl (off := 3) (by simp) fun wb Hb hcb => ?_
    refine Hb.ldS 1 rfl (off := 4) rfl ?_
    refine Hb.stV 1 rfl (off := 4) (by simp) fun w3 H3 hc3 => ?_
    simp only [List.set_cons_succ, List.set_cons_zero] at H3
    have hra : Row w3 T_api_Attr 3 p al c (rows atc ats) := (hra0.chg hcb fun a e h => by have := hfa a e; omega).chg hc3 fun a e h => by have := hfa a e; omega
    have hpa3 : ∀ a, p = some a → a.block ≠ b1 := fun a e h => by have := hfa a e; omega
    have l1 := H3.lt 1 rfl
    have l2 := H3.lt 0 rfl
    have l4 := hra.lt
    have hs3 : w.heap.size ≤ w3.heap.size := H3.chg.size
    refine ⟨fun i w' m => ∃ (q : Nat) (p' : Option Addr) (c' : Nat) (L : List NV), i = q ∧ q ≤ kl ∧ m = kl - q ∧
        Hp w No w' [⟨b2, [.int .i64 0, .string ByteArray.empty, .string ByteArray.empty, .slice none 0 0, .slice none 0 0, .string ByteArray.empty], T_api_Node⟩, ⟨b1, [.int .i64 k, .string u, .string l, .slice p al c, .slice p' L.length c', .string t], T_api_Node⟩] ∧
        Row w' T_api_Attr 3 p al c (rows atc ats) ∧ Row w' T_api_Node 6 p' L.length c' (rows NV.cells L) ∧ fresh w3 p' ∧ w3.heap.size ≤ w'.heap.size ∧ L.map NV.nd = (ks.map NV.nd).take q ∧
        (∀ x ∈ L, Own w' x) ∧ (NV.bsL L).Nodup ∧ (∀ b ∈ NV.bsL L, w3.heap.size ≤ b ∧ ¬ isB p' b ∧ b < w'.heap.size) ∧ NV.meaL L = NV.meaL (ks.take q),
      ⟨_, 0, none, 0, [], rfl, Nat.zero_le _, rfl, H3, hra, Row.nil _ _ _, (by intro a e; cases e), Nat.le_refl _, by simp, by simp, by simp [NV.bsL], by simp [NV.bsL], by simp [NV.meaL]⟩, ?_⟩
    rintro i w4 m ⟨q, p', c', L, rfl, hq, rfl, H4, hra4, hr4, hf4, hs4, hnd4, hL4, hno4, hbs4, hme4⟩
    have c04 := hc0.trans0 H4.chg
    have hlL := len_meaL L
    have htk := meaL_take ks q
    have hp3 : ∀ b, isB p' b → w3.heap.size ≤ b := by rintro b ⟨a, ha, rfl⟩; exact hf4 a ha
    refine condB_d (fun hlt => ?_) (fun hge => ?_)
    · refine idx_rows (hk.chg c04 (off_no _)) (even_node ks) (by decide) (by omega) hlt fun a y _ hy hcs => ?_
      rw [Int.toNat_natCast] at hy
      have hymem := List.mem_of_getElem? hy
      have ihy := @ih y hymem
      have hyok := hks y hymem
      have hym := mea_kid hymem
      have ht : (ks.map NV.nd).take (q + 1) = (ks.map NV.nd).take q ++ [y.nd] := take_get (by rw [List.getElem?_map, hy]; rfl)
      have htm : NV.meaL (ks.take (q + 1)) = NV.meaL (ks.take q) + y.mea := by rw [take_get hy, meaL_append]; simp [NV.meaL]
      have htk1 := meaL_take ks (q + 1)
      cases y with
      | mk yk yu yl yt yap yal yac yas ykp ykl ykc yks =>
      refine nodeVar H4 hcs fun b5 w6 H6 hb5 hc6 => ?_
      have H6d := H6.drew
      refine H6d.ldS 2 rfl (off := 4) rfl ?_
      refine ldBox H6d 0 rfl ?_
      refine ihy hyok ((c04.trans0 hc6).drew) (by omega) fun v' w9 hnd hok hbn hbl hmea hc9 => ?_
      cases v' with
      | mk zk zu zl zt zap zal zac zas zkp zkl zkc zks =>
      show _ ∧ _
      have H9 := H6d.step0 hc9
      have c49 : Chg No w4 w9 := (hc6.drew).trans0 hc9
      have hsz9 := c49.size
      have hsz6 := hc6.size
      have hbl' : ∀ b ∈ (NV.mk zk zu zl zt zap zal zac zas zkp zkl zkc zks).bs, w4.heap.size ≤ b := fun b hb => Nat.le_trans hsz6 (hbl b hb)
      have hbt := hok.lt
      refine ⟨H9.cell 2 rfl rfl, rfl, ?_⟩
      refine newRow (sz := 6) (n := 1) (cs := (NV.mk zk zu zl zt zap zal zac zas zkp zkl zkc zks).cells) rfl (by decide) fun b27 w10 hr10 hb27 hc10 => ?_
      have H10 := H9.step0 hc10
      have hsz10 := hc10.size
      refine ⟨H10.cell 2 rfl rfl, ?_⟩
      have hr10' := (hr4.chg c49 (off_no _)).chg hc10 (off_no _)
      refine appJ_row slT_node hr10' hr10.sl (one1_node (.mk zk zu zl zt zap zal zac zas zkp zkl zkc zks)) (by simp) (by omega) (by simp only [maxLen]; omega) fun p2 c2 w11 hr11 hc11 hf11 => ?_
      have hpl : ∀ b, isB p' b → b < w4.heap.size := by rintro b ⟨a, ha, rfl⟩; exact hr4.lt a ha
      have H11 := H10.step hc11 (by
        intro B hB hI
        have h3 := hp3 _ hI
        have h4 := hpl _ hI
        simp only [List.mem_cons, List.not_mem_nil, or_false] at hB
        rcases hB with rfl | rfl | rfl <;> (simp only at h3 h4; omega)) (fun b hb hI => by have := hp3 _ hI; omega)
      refine H11.stV 2 rfl (off := 4) (by simp) fun w12 H12 hc12 => ?_
      simp only [List.set_cons_succ, List.set_cons_zero] at H12
      have hsz11 := hc11.size
      have hsz12 := hc12.size
      have hpf : ∀ b, isB p2 b → isB p' b ∨ w10.heap.size ≤ b := by
        rintro b ⟨a, ha, rfl⟩
        rcases hf11 with rfl | hf11
        · exact .inl ⟨a, ha, rfl⟩
        · exact .inr (hf11 a ha)
      refine ⟨_, by omega, q + 1, p2, c2, L ++ [.mk zk zu zl zt zap zal zac zas zkp zkl zkc zks], by rw [w64_of] <;> omega, by omega, rfl, ?_, ?_, ?_, ?_, by omega, ?_, ?_, ?_, ?_, ?_⟩
      · rw [List.length_append]
        exact ⟨H12.chg, fun B hB => H12.is B (List.mem_cons_of_mem _ hB), (List.nodup_cons.1 H12.nd).2, fun B hB => H12.own B (List.mem_cons_of_mem _ hB)⟩
      · refine (((hra4.chg c49 (off_no _)).chg hc10 (off_no _)).chg hc11 fun a e hI => ?_).chg hc12 fun a e h => hpa3 a e h
        have := hp3 _ hI; have := l4 a e; omega
      · rw [List.length_append, rows_append, rows_cons, rows_nil, List.append_nil]
        refine hr11.chg hc12 fun a e h => ?_
        rcases hpf a.block ⟨a, e, rfl⟩ with h3 | h3
        · have := hp3 _ h3; omega
        · omega
      · intro a e
        rcases hpf a.block ⟨a, e, rfl⟩ with h3 | h3
        · exact hp3 _ h3
        · omega
      · rw [List.map_append, hnd4, ht]
        simp only [List.map_cons, List.map_nil, hnd]
      · intro x hx
        rcases List.mem_append.1 hx with hx | hx
        · refine ((((hL4 x hx).chg c49 fun _ _ h => h.elim).chg hc10 fun _ _ h => h.elim).chg hc11 fun b hb hI => (hbs4 b (bsL_mem hx hb)).2.1 hI).chg hc12 fun b hb h => ?_
          have := (hbs4 b (bsL_mem hx hb)).1; omega
        · rw [List.mem_singleton.1 hx]
          refine ((hok.chg hc10 fun _ _ h => h.elim).chg hc11 fun b hb hI => ?_).chg hc12 fun b hb h => ?_
          · have := hbl' b hb; have := hpl b hI; omega
          · have := hbl' b hb; omega
      · rw [bsL_append]
        simp only [NV.bsL, List.append_nil]
        refine List.nodup_append.2 ⟨hno4, hbn, fun a ha b hb e => ?_⟩
        subst e
        have := (hbs4 a ha).2.2; have := hbl' a hb; omega
      · intro b hb
        rw [bsL_append, List.mem_append] at hb
        simp only [NV.bsL, List.append_nil] at hb
        rcases hb with hb | hb
        · obtain ⟨h1, h2, h3⟩ := hbs4 b hb
          refine ⟨h1, fun hI => ?_, by omega⟩
          rcases hpf b hI with h | h
          · exact h2 h
          · omega
        · have h1 := hbl' b hb
          have h2 := hbt b hb
          refine ⟨by omega, fun hI => ?_, by omega⟩
          rcases hpf b hI with h | h
          · have := hpl b h; omega
          · omega
      · rw [meaL_append, htm, hme4]
        simp only [NV.meaL]; omega
    · have hqk : q = kl := by omega
      subst hqk
      rw [List.take_of_length_le (by rw [List.length_map]; omega)] at hnd4
      rw [List.take_of_length_le (by omega)] at hme4
      refine ldBox H4 1 rfl ?_
      refine H4.stN 0 rfl (off := 0) rfl (by simp) (one1_node (.mk k u l t p al c [] p' L.length c' [])) fun w13 H13 hc13 => ?_
      simp only [List.set_cons_zero] at H13
      refine ldBox H13 0 rfl ?_
      have ebs : (NV.mk k u l t p al c ats p' L.length c' L).bs = blkL p ++ (blkL p' ++ NV.bsL L) := by simp only [NV.bs]
      have hA : ∀ b ∈ blkL p, w2.heap.size ≤ b ∧ b < w3.heap.size := by
        intro b hb
        cases p with
        | none => simp [blkL] at hb
        | some a => rw [List.mem_singleton.1 hb]; exact ⟨hfa a rfl, l4 a rfl⟩
      have hB : ∀ b ∈ blkL p', w3.heap.size ≤ b ∧ isB p' b := by
        intro b hb
        cases p' with
        | none => simp [blkL] at hb
        | some a => rw [List.mem_singleton.1 hb]; exact ⟨hf4 a rfl, ⟨a, rfl, rfl⟩⟩
      refine K (.mk k u l t p al c ats p' L.length c' L) w13 ?_ ?_ ?_ ?_ ?_ H13.chg
      · rw [nd_kids, nd_kids, hnd4]
      · refine .mk (hra4.chg hc13 fun a e h => ?_) (hr4.chg hc13 fun a e h => ?_) fun x hx => (hL4 x hx).chg hc13 fun b hb h => ?_
        · have := hfa a e; omega
        · have := hf4 a e; omega
        · have := (hbs4 b (bsL_mem hx hb)).1; omega
      · rw [ebs]
        refine List.nodup_append.2 ⟨by cases p <;> simp [blkL], List.nodup_append.2 ⟨by cases p' <;> simp [blkL], hno4, fun a ha b hb e => ?_⟩, fun a ha b hb e => ?_⟩
        · subst e; exact (hbs4 a hb).2.1 (hB a ha).2
        · subst e
          have := (hA a ha).2
          rcases List.mem_append.1 hb with hb | hb
          · have := (hB a hb).1; omega
          · have := (hbs4 a hb).1; omega
      · rw [ebs]
        intro b hb
        rcases List.mem_append.1 hb with hb | hb
        · have := (hA b hb).1; omega
        · rcases List.mem_append.1 hb with hb | hb
          · have := (hB b hb).1; omega
          · have := (hbs4 b hb).1; omega
      · simp only [NV.mea]; omega
end
end Go.Proofs.YtkgfbphdmnapdaaGreatDoor

/-
  The node at a path: the document's 'At'.
-/

set_option linter.unusedVariables false
set_option linter.unusedSimpArgs false
namespace Go.Vc
open Go Go.Lib
def NV.kidz : NV → List NV
  | .mk _ _ _ _ _ _ _ _ _ _ _ ks => ks
def kidV (v : NV) (i : Int) : Option NV := if i < 0 then none else v.kidz[i.toNat]?
def atV : NV → List Int → Option NV
  | v, [] => some v
  | v, i :: r => match kidV v i with
    | some y => atV y r
    | none => none
def intC (n : Int) : List Value := [.int .i64 n]
end Go.Vc
namespace Go.Proofs.YtkgfbphdmnapdaaGreatDoor
open Go Go.Vc Go.Lib
section
variable {w : World}
theorem TreeAt_ok {v : NV} {pp : Option Addr} {pl pc : Nat} {zs : List Int} {J : Int → ByteArray → ByteArray → Option Addr → Nat → Nat → Option Addr → Nat → Nat → ByteArray → Int → World → Prop} (hv : v.Ok w) (hmv : v.mea ≤ 10000000) (hp : Sl w pp pl 1 (rows intC zs)) (hm : pl ≤ 100000000)
    (K1 : ∀ y v' w', atV v zs = some y → v'.nd = y.nd → Own w' v' → v'.bs.Nodup → (∀ b ∈ v'.bs, w.heap.size ≤ b) → v'.mea ≤ v.mea → Chg No w w' → v'.giv (fun a b c p l d q m e t w => J a b c p l d q m e t 0 w) w')
    (K2 : ∀ w', atV v zs = none → Chg No w w' → J 0 ByteArray.empty ByteArray.empty none 0 0 none 0 0 ByteArray.empty 35 w') :
    callJ Tryz.prog fn_tree_At #[.agg ⟨v.cells⟩, .slice pp pl pc] w [.agg [.int .i64, .str, .str, .slice, .slice, .str], .one (.int .i64)] J := by
  have hpl : zs.length = pl := hp.row (fun _ _ => rfl) (by decide)
  cases v with
  | mk k u l t ap al ac ats kp kl kc ks =>
  refine c_tree_At ?_
  unfold VC_tree_At
  refine (Hp.start w No).newB fun b2 w1 H1 hb2 hc1 => ?_
  refine newZ H1 fun b4 w2 H2 hb4 hc2 => ?_
  refine ⟨fun i w' m => ∃ (q : Nat) (y : NV), i = q ∧ q ≤ pl ∧ m = pl - q ∧ NV.Ok w y ∧ y.mea ≤ (NV.mk k u l t ap al ac ats kp kl kc ks).mea ∧ atV (NV.mk k u l t ap al ac ats kp kl kc ks) zs = atV y (zs.drop q) ∧
    Hp w No w' [⟨b4, [.int .i64 0, .string ByteArray.empty, .string ByteArray.empty, .slice none 0 0, .slice none 0 0, .string ByteArray.empty], T_api_Node⟩, ⟨b2, y.cells, T_api_Node⟩], ⟨_, 0, _, rfl, Nat.zero_le _, rfl, hv, Nat.le_refl _, rfl, H2⟩, ?_⟩
  rintro i w3 m ⟨q, y, rfl, hq, rfl, hy, hym, hat, H3⟩
  cases y with
  | mk yk yu yl yt yap yal yac yas ykp ykl ykc yks =>
  have hy0 := hy
  cases hy with
  | mk ha hn hac hk hkn hkc hks =>
  have hkl := hk.row (even_node yks) (by decide)
  refine condB_d (fun hlt => ?_) (fun hge => ?_)
  · refine idx_rows (f := intC) (hp.chg H3.chg (off_no _)) (fun _ _ => rfl) (by decide) (by omega) hlt fun a z _ hz hcs => ?_
    have hz' : zs[q]? = some z := hz
    have hdz : zs.drop q = z :: zs.drop (q + 1) := by
      obtain ⟨h1, rfl⟩ := List.getElem?_eq_some_iff.1 hz'
      exact List.drop_eq_getElem_cons h1
    rw [hdz] at hat
    refine ⟨_, cellsAt_head hcs, ?_⟩
    refine withJ_i fun J22 hJ22 => ?_
    have k22 : ∀ b : Bool, (b = true ↔ kidV (NV.mk yk yu yl yt yap yal yac yas ykp ykl ykc yks) z = none) → J22 b w3 := by
      intro b hb
      subst hJ22
      refine condB_i (fun e => ?_) (fun e => ?_)
      · refine H3.stN 0 rfl (off := 0) rfl (by simp) (one1_node (.mk 0 emptyB emptyB emptyB none 0 0 [] none 0 0 [])) fun w5 H5 hc5 => ?_
        simp only [List.set_cons_zero] at H5
        refine ldBox H5 0 rfl ?_
        exact K2 w5 (by rw [hat, atV, hb.1 e]) H5.chg
      · have hne : kidV (NV.mk yk yu yl yt yap yal yac yas ykp ykl ykc yks) z ≠ none := fun h => by rw [hb.2 h] at e; cases e
        obtain ⟨x, hx⟩ := Option.ne_none_iff_exists'.1 hne
        have hx0 := hx
        unfold kidV at hx
        split at hx
        · cases hx
        · next hz0 =>
          have hx' : yks[z.toNat]? = some x := hx
          have hlt' := (List.getElem?_eq_some_iff.1 hx').1
          refine H3.ldS 1 rfl (off := 4) rfl ?_
          refine idx_rows (hk.chg H3.chg (off_no _)) (even_node yks) (by decide) (by omega) (by omega) fun a' x2 _ hx2 hcs2 => ?_
          obtain rfl : x2 = x := by rw [hx'] at hx2; exact (Option.some.inj hx2).symm
          have hxm := List.mem_of_getElem? hx'
          have hxok := hks x2 hxm
          cases x2 with
          | mk xk xu xl xt xap xal xac xas xkp xkl xkc xks =>
          refine ldNode hcs2 ?_
          refine H3.stN 1 rfl (off := 0) rfl (by simp [NV.cells]) (one1_node (.mk xk xu xl xt xap xal xac [] xkp xkl xkc [])) fun w6 H6 hc6 => ?_
          simp only [List.set_cons_succ, List.set_cons_zero] at H6
          exact ⟨_, by omega, q + 1, _, by rw [w64_of] <;> omega, by omega, rfl, hxok, by have := mea_kid hxm; simp only [NV.mea] at this hym ⊢; omega, by rw [hat, atV, hx0], H6⟩
    clear hJ22
    refine condB_d (fun h => k22 true ⟨fun _ => by unfold kidV; rw [if_pos h], fun _ => rfl⟩) (fun h => ?_)
    refine H3.ldS 1 rfl (off := 4) rfl ?_
    refine k22 _ ?_
    unfold kidV
    rw [if_neg h, decide_eq_true_eq]
    show _ ↔ yks[z.toNat]? = none
    rw [List.getElem?_eq_none_iff]
    omega
  · have hqk : q = pl := by omega
    rw [List.drop_eq_nil_of_le (by omega)] at hat
    refine ldBox H3 1 rfl ?_
    refine Copy_ok (NV.mk yk yu yl yt yap yal yac yas ykp ykl ykc yks) hy0 H3.chg (by omega) fun v' w7 hnd hown hnod hbl hmea hc7 => ?_
    cases v' with
    | mk zk zu zl zt zap zal zac zas zkp zkl zkc zks =>
    have H7 := H3.step0 hc7
    simp only [NV.giv]
    refine H7.stN 0 rfl (off := 0) rfl (by simp) (one1_node (.mk zk zu zl zt zap zal zac [] zkp zkl zkc [])) fun w8 H8 hc8 => ?_
    simp only [List.set_cons_zero] at H8
    refine ldBox H8 0 rfl ?_
    have hb4 := H3.lt 0 rfl
    exact K1 _ (NV.mk zk zu zl zt zap zal zac zas zkp zkl zkc zks) w8 (by rw [hat, atV]) hnd (hown.chg hc8 fun b hb e => by have := hbl b hb; omega) hnod (fun b hb => Nat.le_trans H3.chg.size (hbl b hb)) (by omega) H8.chg
end
end Go.Proofs.YtkgfbphdmnapdaaGreatDoor

