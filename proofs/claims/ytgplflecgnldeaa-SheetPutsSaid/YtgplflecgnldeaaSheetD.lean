/-
  Package sheet on a drum: where, Put, Get, PutHead, GetHead.
-/
import Derived.Test.YtgplflecgnldeaaSheetC
import Derived.Test.YtgplflecgnldeaaCalm
namespace Go.Proofs.Ytgplflecgnldeaa
open Go Go.Vc

structure WhereR where
  at_ : Int
  e : Int
def whereM (len n : Int) : WhereR := if len < 64 ∨ n < 0 ∨ (len - (2 + len / 4)) / 8 ≤ n then ⟨0, 1⟩ else ⟨2 + len / 4 + 8 * n, 0⟩
theorem nd_plan : notDrum T_sheet_Plan := ⟨by decide, by decide, by decide⟩

section
variable {w0 w w' : World} {d : Nat} {F : List Nat} {D : DS}

theorem where_ok {n : Int} {J : Int → Int → World → Prop} (h : DrumAt w d F D) (hn : InI n) (k : ∀ w', Chg No w w' → J (whereM D.safe.length n).at_ (whereM D.safe.length n).e w') :
    callJ Try.prog fn_sheet_where #[.pointer (some ⟨d, 0, none⟩), .int .i64 n] w [.one (.int .i64), .one (.int .i64)] J := by
  obtain ⟨n1, n2⟩ := hn
  have hmax := h.ok.max
  refine c_sheet_where ?_
  unfold VC_sheet_where
  rw [zeroC_plan]
  refine condB_i (fun h => by simp at h) fun _ => ?_
  refine Sectors_ok h ?_
  refine Draft_ok (by constructor <;> omega) fun w2 hc2 => ?_
  refine (Hp.of_chg hc2).newB fun b3 w3 H3 _ _ => ?_
  refine H3.stN 0 rfl (off := 0) rfl (by decide) (one1_ints3 _ _ _ _ _ _) fun w4 H4 _ => ?_
  unfold whereM at k
  by_cases hb : (D.safe.length : Int) < 64 ∨ 16384 < (D.safe.length : Int)
  · have e : draftM D.safe.length = (0, 0, 0, false) := by unfold draftM; rw [if_pos hb]
    rw [e]
    refine condB_ne (fun _ => ?_) (fun h => absurd h (by decide))
    have := k w4 H4.chg
    rw [if_pos (by omega)] at this
    exact this
  have e : draftM D.safe.length = ((D.safe.length : Int) / 4, 2 + (D.safe.length : Int) / 4, ((D.safe.length : Int) - (2 + (D.safe.length : Int) / 4)) / 8, true) := by unfold draftM; rw [if_neg hb]
  rw [e] at H4 ⊢
  dsimp only at H4 ⊢
  refine condB_ne (fun h => absurd rfl h) (fun _ => ?_)
  refine withJ_i fun J26 hJ26 => ?_
  have bad : (n < 0 ∨ ((D.safe.length : Int) - (2 + (D.safe.length : Int) / 4)) / 8 ≤ n) → J26 true w4 := by
    intro hb2
    subst hJ26
    have := k w4 H4.chg
    rw [if_pos (.inr hb2)] at this
    exact condB_i (fun _ => this) (fun h => by simp at h)
  have good : ¬ (n < 0 ∨ ((D.safe.length : Int) - (2 + (D.safe.length : Int) / 4)) / 8 ≤ n) → J26 false w4 := by
    intro hb2
    subst hJ26
    have := k w4 H4.chg
    rw [if_neg (by omega)] at this
    refine condB_i (fun h => by simp at h) fun _ => ?_
    refine H4.ldI 0 rfl (off := 1) rfl ?_
    have e2 : w64 (2 + (D.safe.length : Int) / 4 + w64 (n * 8)) = 2 + (D.safe.length : Int) / 4 + 8 * n := by rw [w64_of (n := n * 8) (by omega) (by omega), w64_of] <;> omega
    rw [e2]; exact this
  clear hJ26
  refine condB_d (fun h => bad (.inl h)) (fun h1 => ?_)
  refine H4.ldI 0 rfl (off := 2) rfl ?_
  by_cases h2 : n ≥ ((D.safe.length : Int) - (2 + (D.safe.length : Int) / 4)) / 8
  · rw [decide_eq_true h2]; exact bad (.inr h2)
  · rw [decide_eq_false h2]; exact good (by omega)

/-! ## Heads -/

structure DR where
  D : DS
  e : Int
def putHeadM (D : DS) (gen : Int) (stamp : Nat) : DR := if (D.safe.length : Int) < 64 ∨ badG gen then ⟨D, 1⟩ else ⟨(D.write (gen % 2) (headS gen.toNat stamp)).1, (D.write (gen % 2) (headS gen.toNat stamp)).2⟩

theorem PutHead_own {gen : Int} {stamp : Nat} {J : Int → World → Prop} (h : Own w0 w d F D) (hcount : D.loose.length < 1000000000)
    (k : ∀ w' F', Own w0 w' d F' (putHeadM D gen stamp).D → Chg (· ∈ F) w w' → (∀ b ∈ F', b ∈ F ∨ w.heap.size ≤ b) → J (putHeadM D gen stamp).e w') :
    callJ Try.prog fn_sheet_PutHead #[.pointer (some ⟨d, 0, none⟩), .agg ⟨[.int .i64 gen, .int .u64 (stamp : Int)]⟩] w [.one (.int .i64)] J := by
  refine c_sheet_PutHead ?_
  unfold VC_sheet_PutHead
  refine (Hp.start w No).newB fun b1 w1 H1 hb1 hc1 => ?_
  have h1 := h.step0 hc1
  have hmax := h.at_.ok.max
  refine where_ok h1.at_ (by constructor <;> decide) fun w2 hc2 => ?_
  have h2 := h1.step0 hc2
  have H2 := H1.step0 hc2
  have nochg : ∀ w', Chg No w w' → Chg (· ∈ F) w w' := fun w' hc => hc.mono fun _ _ h => h.elim
  unfold putHeadM at k
  by_cases hlen : (D.safe.length : Int) < 64
  · have e : whereM D.safe.length 0 = ⟨0, 1⟩ := by unfold whereM; rw [if_pos (.inl hlen)]
    rw [e]
    rw [if_pos (.inl hlen)] at k
    exact condB_ne (fun _ => k w2 F h2 (nochg _ H2.chg) (fun _ => .inl)) (fun h => absurd h (by decide))
  have e : whereM D.safe.length 0 = ⟨2 + (D.safe.length : Int) / 4 + 8 * 0, 0⟩ := by unfold whereM; rw [if_neg (by omega)]
  rw [e]
  refine condB_ne (fun h => absurd rfl h) fun _ => ?_
  refine H2.ldI 0 rfl (off := 0) rfl (H2.ldI 0 rfl (off := 1) rfl ?_)
  refine LayHead_ok fun q3 c3 w3 hr3 hf3 hc3 => ?_
  have h3 := h2.step0 hc3
  have H3 := H2.step0 hc3
  by_cases hg : badG gen
  · have e : layHeadM gen stamp = ⟨[], 1⟩ := by unfold layHeadM; rw [if_pos hg]
    rw [if_pos (.inr hg)] at k
    rw [e]
    exact condB_ne (fun _ => k w3 F h3 (nochg _ H3.chg) (fun _ => .inl)) (fun h => absurd (show (1 : Int) = 0 from h) (by decide))
  rw [if_neg (by rintro (h | h); exact hlen h; exact hg h)] at k
  have e : layHeadM gen stamp = ⟨headS gen.toNat stamp, 0⟩ := by unfold layHeadM; rw [if_neg hg]
  rw [e] at hr3 ⊢
  dsimp only at hr3 ⊢
  refine condB_ne (fun h => absurd rfl h) fun _ => ?_
  refine H3.ldI 0 rfl (off := 0) rfl ⟨by decide, ?_⟩
  unfold badG at hg
  have em : Int.tmod gen 2 = gen % 2 := Int.tmod_eq_emod_of_nonneg (by omega)
  rw [em]
  refine Write_own h3 hr3.bytes hr3.none0 (h3.at_.rowOff hr3 nd_u8) hcount fun w4 F4 h4 hc4 hF4 => ?_
  refine k w4 F4 h4 ((nochg _ H3.chg).trans hc4 fun _ _ => id) fun b hb => ?_
  rcases hF4 b hb with hb | hb
  · exact .inl hb
  · right; have := H3.chg.size; omega

def bestM (b : HeadR) (x : List UInt8) : HeadR := if (takeHeadM x).e = 0 ∧ b.g < (takeHeadM x).g then ⟨(takeHeadM x).g, (takeHeadM x).s, 0⟩ else b
def getHeadM (len : Int) (now : List (List UInt8)) : HeadR :=
  if len < 64 then ⟨0, 0, 1⟩ else
  if (bestM (bestM ⟨0, 0, 0⟩ ((now[0]?).getD [])) ((now[1]?).getD [])).g = 0 then ⟨0, 0, 11⟩ else bestM (bestM ⟨0, 0, 0⟩ ((now[0]?).getD [])) ((now[1]?).getD [])
theorem bestM_e {b : HeadR} {x : List UInt8} (h : b.e = 0) : (bestM b x).e = 0 := by unfold bestM; split; rfl; exact h

theorem GetHead_own {J : Int → Int → Int → World → Prop} (h : Own w0 w d F D) (hcalm : Calm D)
    (k : ∀ w' j, Own w0 w' d F (D.took j) → Chg (· ∈ F) w w' → J (getHeadM D.safe.length D.now).g ((getHeadM D.safe.length D.now).s : Int) (getHeadM D.safe.length D.now).e w') :
    callJ Try.prog fn_sheet_GetHead #[.pointer (some ⟨d, 0, none⟩)] w [.agg [.int .i64, .int .u64], .one (.int .i64)] J := by
  refine c_sheet_GetHead ?_
  unfold VC_sheet_GetHead
  rw [zeroC_head]
  have hmax := h.at_.ok.max
  have nochg : ∀ {w'}, Chg No w w' → Chg (· ∈ F) w w' := fun hc => hc.mono fun _ _ h => h.elim
  refine (Hp.start w (· ∈ F)).newB fun b1 w1 H1 hb1 hc1 => ?_
  have h1 := h.step0 hc1
  refine where_ok h1.at_ (by constructor <;> decide) fun w2 hc2 => ?_
  have h2 := h1.step0 hc2
  have H2 := H1.step0 hc2
  unfold getHeadM at k
  by_cases hlen : (D.safe.length : Int) < 64
  · have e : whereM D.safe.length 0 = ⟨0, 1⟩ := by unfold whereM; rw [if_pos (.inl hlen)]
    rw [e]
    rw [if_pos hlen] at k
    refine condB_ne (fun _ => ?_) (fun h => absurd h (by decide))
    refine H2.stN 0 rfl (off := 0) rfl (by decide) (one1_ints2 _ _ _ _) fun w3 H3 hc3 => ?_
    refine H3.ldI 0 rfl (off := 0) rfl (H3.ldI 0 rfl (off := 1) rfl ?_)
    have hb1F : b1 ∉ F := fun hb => by have := h.lt _ hb; omega
    exact k w3 0 (h2.step hc3 (fun x hx e => by subst e; exact hb1F hx) (fun x e => by subst e; exact Nat.le_trans h.chg.size hb1)) H3.chg
  rw [if_neg hlen] at k
  have e : whereM D.safe.length 0 = ⟨2 + (D.safe.length : Int) / 4 + 8 * 0, 0⟩ := by unfold whereM; rw [if_neg (by omega)]
  rw [e]
  refine condB_ne (fun h => absurd rfl h) fun _ => ?_
  refine H2.newB fun b3 w3 H3 hb3 hc3 => ?_
  have h3 := h2.step0 hc3
  have nd2 := H3.nd
  simp only [List.map_cons, List.map_nil, List.nodup_cons, List.mem_singleton] at nd2
  have hb31 : b3 ≠ b1 := nd2.1
  have hbF : ∀ x ∈ F, x ≠ b1 ∧ x ≠ b3 := fun x hx => by
    have l1 := h.lt _ hx
    have s1 := hc1.size
    have s2 := hc2.size
    constructor <;> omega
  have hf1 : w0.heap.size ≤ b1 := Nat.le_trans h.chg.size hb1
  have hf3 : w0.heap.size ≤ b3 := Nat.le_trans h2.chg.size hb3
  have hnl := D.now_len
  -- what is best after so many sectors
  obtain ⟨B1, hB1⟩ : ∃ B1, B1 = bestM ⟨0, 0, 0⟩ ((D.now[0]?).getD []) := ⟨_, rfl⟩
  obtain ⟨B2, hB2⟩ : ∃ B2, B2 = bestM B1 ((D.now[1]?).getD []) := ⟨_, rfl⟩
  obtain ⟨bst, hb0, q1, hb2⟩ : ∃ bst : Nat → HeadR, bst 0 = ⟨0, 0, 0⟩ ∧ bst 1 = B1 ∧ bst 2 = B2 := ⟨fun i => match i with | 0 => ⟨0, 0, 0⟩ | 1 => B1 | _ => B2, rfl, rfl, rfl⟩
  have hb1' : ∀ i, i < 2 → bst (i + 1) = bestM (bst i) ((D.now[i]?).getD []) := by
    intro i hi
    rcases (by omega : i = 0 ∨ i = 1) with rfl | rfl
    · rw [hb0, q1, hB1]
    · rw [q1, hb2, hB2]
  have hb2' : bst 2 = bestM (bestM ⟨0, 0, 0⟩ ((D.now[0]?).getD [])) ((D.now[1]?).getD []) := by rw [hb2, hB2, hB1]
  have hbe : ∀ i, i ≤ 2 → (bst i).e = 0 := by
    intro i hi
    rcases (by omega : i = 0 ∨ i = 1 ∨ i = 2) with rfl | rfl | rfl
    · rw [hb0]
    · rw [hb1' 0 (by decide), hb0]; exact bestM_e rfl
    · rw [hb2']; exact bestM_e (bestM_e rfl)
  rw [← hb2'] at k
  refine ⟨fun x w' m => ∃ i : Nat, x = i ∧ i ≤ 2 ∧ m = 2 - i ∧ Own w0 w' d F (D.took i) ∧ Hp w (· ∈ F) w' [⟨b3, [.int .i64 (bst i).g, .int .u64 ((bst i).s : Int)], T_sheet_Head⟩, ⟨b1, [.int .i64 0, .int .u64 0], T_sheet_Head⟩],
    ⟨_, 0, rfl, by decide, rfl, h3, by rw [hb0]; exact H3⟩, ?_⟩
  rintro x w4 m ⟨i, rfl, hi, rfl, h4, H4⟩
  refine condB_d (fun hlt => ?_) (fun hlt => ?_)
  · refine withJ_i fun J0 hJ0 => ?_
    refine Read_own h4 fun p5 c5 w5 h5 hr5 hf5 hc5 => ?_
    rw [(took_calm hcalm i).read (by rw [took_safe]; omega), took_now] at h5 hr5 ⊢
    change Own w0 w5 d F (D.took (i + 1)) at h5
    dsimp only at hr5 ⊢
    refine condB_ne (fun h => absurd rfl h) fun _ => ?_
    have H5 := H4.step hc5 (fun q hq hqF => by
      simp only [List.mem_cons, List.not_mem_nil, or_false] at hq
      rcases hq with rfl | rfl
      · exact (hbF _ hqF).2 rfl
      · exact (hbF _ hqF).1 rfl) (fun _ _ => id)
    have hstep := hb1' i (by omega)
    generalize hy : (D.now[i]?).getD [] = y at *
    refine TakeHead_ok hr5.bytes hr5.le.1 fun w6 hc6 => ?_
    have h6 := h5.step0 hc6
    have H6 := H5.step0 hc6
    refine H6.newB fun b7 w7 H7 hb7 hc7 => ?_
    have h7 := h6.step0 hc7
    refine H7.stN 0 rfl (off := 0) rfl (by decide) (one1_ints2 _ _ _ _) fun w8 H8 hc8 => ?_
    have h8 := h7.step hc8 (fun x hx e => by subst e; have := h6.lt _ hx; omega) (fun x e => by subst e; exact Nat.le_trans h6.chg.size hb7)
    have drop3 : ∀ {w' : World} {a b c : Blk}, Hp w (· ∈ F) w' [a, b, c] → Hp w (· ∈ F) w' [b, c] := fun H => ⟨H.chg, fun p hp => H.is p (List.mem_cons_of_mem _ hp), by have := H.nd; simp only [List.map_cons, List.nodup_cons] at this ⊢; exact this.2, fun p hp => H.own p (List.mem_cons_of_mem _ hp)⟩
    refine withJ_i fun J47 hJ47 => ?_
    have keep : ¬ ((takeHeadM y).e = 0 ∧ (bst i).g < (takeHeadM y).g) → J47 false w8 := by
      intro hn
      subst hJ47
      refine condB_i (fun h => by simp at h) fun _ => ?_
      subst hJ0
      refine ⟨2 - (i + 1), by omega, i + 1, by rw [w64_of] <;> omega, by omega, rfl, h8, ?_⟩
      rw [hstep]
      unfold bestM
      rw [if_neg hn]
      exact drop3 H8
    have take : ((takeHeadM y).e = 0 ∧ (bst i).g < (takeHeadM y).g) → J47 true w8 := by
      intro hn
      subst hJ47
      refine condB_i (fun _ => ?_) (fun h => by simp at h)
      refine H8.ldI 0 rfl (off := 0) rfl (H8.ldI 0 rfl (off := 1) rfl ?_)
      refine H8.stN 1 rfl (off := 0) rfl (by simp) (one1_ints2 _ _ _ _) fun w9 H9 hc9 => ?_
      have h9 := h8.step hc9 (fun x hx e => (hbF x hx).2 e) (fun x e => by subst e; exact hf3)
      subst hJ0
      refine ⟨2 - (i + 1), by omega, i + 1, by rw [w64_of] <;> omega, by omega, rfl, h9, ?_⟩
      rw [hstep]
      unfold bestM
      rw [if_pos hn]
      exact drop3 H9
    clear hJ47
    refine condB_eq (fun he => ?_) (fun he => keep fun h => he h.1)
    refine H8.ldI 0 rfl (off := 0) rfl (H8.ldI 1 rfl (off := 0) rfl ?_)
    by_cases hgt : (takeHeadM y).g > (bst i).g
    · rw [decide_eq_true hgt]; exact take ⟨he, hgt⟩
    · rw [decide_eq_false hgt]; exact keep fun h => hgt h.2
  · have hi2 : i = 2 := by omega
    subst hi2
    refine H4.ldI 0 rfl (off := 0) rfl ?_
    refine condB_eq (fun h0 => ?_) (fun h0 => ?_)
    · rw [if_pos h0] at k
      refine H4.stN 1 rfl (off := 0) rfl (by decide) (one1_ints2 _ _ _ _) fun w5 H5 hc5 => ?_
      refine H5.ldI 1 rfl (off := 0) rfl (H5.ldI 1 rfl (off := 1) rfl ?_)
      exact k w5 2 (h4.step hc5 (fun x hx e => (hbF x hx).1 e) (fun x e => by subst e; exact hf1)) H5.chg
    · rw [if_neg h0] at k
      refine H4.ldI 0 rfl (off := 0) rfl (H4.ldI 0 rfl (off := 1) rfl ?_)
      refine H4.stN 1 rfl (off := 0) rfl (by decide) (one1_ints2 _ _ _ _) fun w5 H5 hc5 => ?_
      refine H5.ldI 1 rfl (off := 0) rfl (H5.ldI 1 rfl (off := 1) rfl ?_)
      rw [hbe 2 (by decide)] at k
      exact k w5 2 (h4.step hc5 (fun x hx e => (hbF x hx).1 e) (fun x e => by subst e; exact hf1)) H5.chg
end

end Go.Proofs.Ytgplflecgnldeaa

