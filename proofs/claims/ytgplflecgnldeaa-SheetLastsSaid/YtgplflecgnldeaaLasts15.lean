/-
  Chapter 15: 'SheetLasts'.
-/
import Derived.Test.YtgplflecgnldeaaAwake15
import Derived.Test.YtgplflecgnldeaaSheetD
namespace Go.Proofs.Ytgplflecgnldeaa
open Go Go.Vc

theorem takeHead_zero : (takeHeadM zsec).e = 10 := by
  have h : ¬ Summed zsec := by
    have e : be 4 (crc (zsec.drop 4)) ≠ zsec.take 4 := by decide +kernel
    exact fun h => e h.symm
  unfold takeHeadM
  rw [if_neg (by rw [zsec_len]; simp), if_pos h]

theorem best_zero (b : HeadR) : bestM b zsec = b := by
  unfold bestM
  rw [if_neg (by rw [takeHead_zero]; rintro ⟨h, _⟩; cases h)]
theorem best_head {b : HeadR} {g s : Nat} (h1 : 1 ≤ g) (h2 : g < 2 ^ 32) (hs : s < 2 ^ 64) (hb : b.g < g) : bestM b (headS g s) = ⟨g, s, 0⟩ := by
  unfold bestM
  rw [takeHead_lay h1 h2 hs, if_pos ⟨rfl, hb⟩]
theorem best_less {b : HeadR} {g s : Nat} (h1 : 1 ≤ g) (h2 : g < 2 ^ 32) (hs : s < 2 ^ 64) (hb : (g : Int) ≤ b.g) : bestM b (headS g s) = b := by
  unfold bestM
  rw [takeHead_lay h1 h2 hs, if_neg (by rintro ⟨_, h⟩; simp only at h; omega)]

/-- Where one head stands, and where two do. -/
theorem get_old {S : List (List UInt8)} {g a : Nat} (h1 : 1 ≤ g) (h2 : g < 2 ^ 32) (ha : a < 2 ^ 64) (e1 : S[g % 2]? = some (headS g a)) (e2 : S[(g + 1) % 2]? = some zsec) : getHeadM 64 S = ⟨g, a, 0⟩ := by
  unfold getHeadM
  rw [if_neg (by decide)]
  have e : bestM (bestM ⟨0, 0, 0⟩ ((S[0]?).getD [])) ((S[1]?).getD []) = ⟨g, a, 0⟩ := by
    rcases Nat.mod_two_eq_zero_or_one g with hg | hg
    · rw [hg] at e1
      rw [show (g + 1) % 2 = 1 by omega] at e2
      rw [e1, e2, Option.getD_some, Option.getD_some, best_zero, best_head h1 h2 ha (by simp only; omega)]
    · rw [hg] at e1
      rw [show (g + 1) % 2 = 0 by omega] at e2
      rw [e1, e2, Option.getD_some, Option.getD_some, best_zero, best_head h1 h2 ha (by simp only; omega)]
  rw [e, if_neg (by simp only; omega)]
theorem get_new {S : List (List UInt8)} {g a b : Nat} (h1 : 1 ≤ g) (h2 : g + 1 < 2 ^ 32) (ha : a < 2 ^ 64) (hb : b < 2 ^ 64) (e1 : S[g % 2]? = some (headS g a)) (e2 : S[(g + 1) % 2]? = some (headS (g + 1) b)) : getHeadM 64 S = ⟨((g + 1 : Nat) : Int), b, 0⟩ := by
  unfold getHeadM
  rw [if_neg (by decide)]
  have e : bestM (bestM ⟨0, 0, 0⟩ ((S[0]?).getD [])) ((S[1]?).getD []) = ⟨((g + 1 : Nat) : Int), b, 0⟩ := by
    rcases Nat.mod_two_eq_zero_or_one g with hg | hg
    · rw [hg] at e1
      rw [show (g + 1) % 2 = 1 by omega] at e2
      rw [e1, e2, Option.getD_some, Option.getD_some, best_head h1 (by omega) ha (by simp only; omega), best_head (by omega) h2 hb (by simp only; omega)]
    · rw [hg] at e1
      rw [show (g + 1) % 2 = 0 by omega] at e2
      rw [e1, e2, Option.getD_some, Option.getD_some, best_head (by omega) h2 hb (by simp only; omega), best_less h1 (by omega) ha (by simp only; omega)]
  rw [e, if_neg (by simp only; omega)]

theorem put_nat {D : DS} {g s : Nat} (hl : 64 ≤ D.safe.length) (h1 : 1 ≤ g) (h2 : g < 2 ^ 32) : putHeadM D (g : Int) s = ⟨(D.write ((g % 2 : Nat) : Int) (headS g s)).1, (D.write ((g % 2 : Nat) : Int) (headS g s)).2⟩ := by
  unfold putHeadM
  rw [if_neg (by unfold badG; omega), Int.toNat_natCast]
  rw [show (g : Int) % 2 = ((g % 2 : Nat) : Int) by omega]

structure AfterCut (D : DS) (S1 : List (List UInt8)) (g b k : Nat) (R : DR) : Prop where
  e : R.e = 0 ↔ 0 < k
  f : R.D.flush.2 = 0 ↔ 1 < k
  len : R.D.safe.length = 64
  now : ∀ ks, (R.D.flush.1.crash ks).now = S1.set ((g + 1) % 2) (headS (g + 1) b) ∨ ((R.D.flush.1.crash ks).now = S1 ∧ R.D.flush.2 ≠ 0)
  loose : R.D.loose.length ≤ 1

theorem flush_bad {D : DS} (h : D.fuse = 0 ∨ D.down = true) : D.flush = ({ D with down := true }, 9) := by unfold DS.flush; rw [DS.step_bad h]; rfl
theorem flush_good {D : DS} (h : ¬ (D.fuse = 0 ∨ D.down = true)) : D.flush.2 = 0 ∧ D.flush.1.safe = D.now ∧ D.flush.1.loose = [] := by
  have hst := DS.step_good h
  have e2 : D.flush.2 = 0 := by unfold DS.flush; rw [hst]
  have e1 : D.flush.1 = D.step.1.stand (fun _ => true) := by unfold DS.flush; rw [hst]; simp
  rw [e1]
  refine ⟨e2, ?_, rfl⟩
  show D.step.1.now = D.now
  exact DS.step_now D
theorem crash_now (D : DS) (ks : List Bool) : (D.crash ks).now = standL D.safe D.loose fun i => (ks[i]?).getD false := rfl

theorem cut_law {E : DS} {S1 : List (List UInt8)} {g b k : Nat} (hs : E.safe = S1) (hlo : E.loose = []) (hd : E.down = false) (hf : E.fuse = (k : Int)) (hS : S1.length = 64) (h2 : g + 1 < 2 ^ 32) (hk : k ≤ 2) :
    AfterCut E S1 g b k (putHeadM E ((g + 1 : Nat) : Int) b) := by
  have hlt : (g + 1) % 2 < 64 := by omega
  rw [put_nat (by rw [hs]; omega) (by omega) h2]
  have hin : (g + 1) % 2 < E.safe.length := by rw [hs]; omega
  by_cases hk0 : k = 0
  · subst hk0
    rw [write_dead hf hin headS_len]
    generalize hE : ({ E with down := true } : DS) = E'
    have f1 : E'.safe = S1 := by rw [← hE]; exact hs
    have f2 : E'.loose = [] := by rw [← hE]; exact hlo
    have f3 : E'.down = true := by rw [← hE]
    have hfl := flush_bad (.inr f3)
    refine ⟨by simp, ?_, by simp only [f1]; exact hS, fun ks => .inr ⟨?_, ?_⟩, by simp [f2]⟩
    · simp only [hfl]; simp
    · simp only [hfl, crash_now, f1, f2]; rfl
    · simp only [hfl]; simp
  rw [write_live hd (by rw [hf]; omega) hin headS_len]
  generalize hE : ({ E with steps := w64 (E.steps + 1), fuse := if 0 < E.fuse then E.fuse - 1 else E.fuse, loose := E.loose ++ [((g + 1) % 2, headS (g + 1) b)] } : DS) = E'
  have f1 : E'.safe = S1 := by rw [← hE]; exact hs
  have f2 : E'.loose = [((g + 1) % 2, headS (g + 1) b)] := by rw [← hE]; simp [hlo]
  have f3 : E'.down = false := by rw [← hE]; exact hd
  have f4 : E'.fuse = (k : Int) - 1 := by rw [← hE]; simp only [hf]; rw [if_pos (by omega)]
  by_cases hk1 : k = 1
  · subst hk1
    have hfl := flush_bad (D := E') (.inl (by rw [f4]; rfl))
    refine ⟨by simp, ?_, by simp only [f1]; exact hS, fun ks => ?_, by simp [f2]⟩
    · simp only [hfl]; simp
    · simp only [hfl, crash_now, f1, f2]
      have e : ∀ f : Nat → Bool, standL S1 [((g + 1) % 2, headS (g + 1) b)] f = if f 0 then S1.set ((g + 1) % 2) (headS (g + 1) b) else S1 := fun _ => rfl
      rw [e]
      split
      · exact .inl rfl
      · exact .inr ⟨rfl, by simp⟩
  · have hk2 : k = 2 := by omega
    subst hk2
    obtain ⟨g1, g2, g3⟩ := flush_good (D := E') (by rw [f4, f3]; simp)
    refine ⟨by simp, ?_, by simp only [f1]; exact hS, fun ks => .inl ?_, by simp [f2]⟩
    · simp only [g1]; simp
    · have e0 : E'.now = S1.set ((g + 1) % 2) (headS (g + 1) b) := by unfold DS.now; rw [f1, f2]; rfl
      show (E'.flush.1.crash ks).now = _
      rw [crash_now, g3, g2, e0]; rfl

set_option maxRecDepth 20000 in
theorem SheetLasts_ok {w : World} {gen a b fuse : Int} {keep : SlV Bool} (_ : InI gen) (ha : InU a) (hb : InU b) (_ : InI fuse) (hkeep : BoolsOk w keep) :
    callJ Try.prog fn_law15_SheetLasts #[.int .i64 gen, .int .u64 a, .int .u64 b, .int .i64 fuse, .slice keep.p keep.l keep.c] w [.one .bool] fun r w' => r = true ∧ Chg No w w' := by
  refine c_law15_SheetLasts ?_
  unfold VC_law15_SheetLasts
  rw [zeroC_head]
  obtain ⟨a, rfl, ha⟩ := ha
  obtain ⟨b, rfl, hb⟩ := hb
  obtain ⟨k, hk, hk3⟩ : ∃ k : Nat, w64 (Int.tmod (IntKind.u64.wrap fuse) 3) = (k : Int) ∧ k ≤ 2 := by
    have h0 : 0 ≤ IntKind.u64.wrap fuse := by rw [wrap_u64]; omega
    have h1 : Int.tmod (IntKind.u64.wrap fuse) 3 = IntKind.u64.wrap fuse % 3 := Int.tmod_eq_emod_of_nonneg h0
    refine ⟨(IntKind.u64.wrap fuse % 3).toNat, ?_, by omega⟩
    rw [h1, w64_of] <;> omega
  rw [hk]
  refine awake15_ok fun w1 hc1 => ?_
  refine condB_i (fun h => by simp at h) fun _ => ?_
  refine withJ_i fun J27 hJ27 => ?_
  have bad : J27 true w1 := by subst hJ27; exact condB_i (fun _ => ⟨rfl, hc1⟩) (fun h => by simp at h)
  suffices go : 1 ≤ gen → gen < 4294967295 → J27 false w1 by
    clear hJ27
    refine condB_d (fun _ => bad) (fun q1 => ?_)
    by_cases q2 : gen ≥ 4294967295
    · rw [decide_eq_true q2]; exact bad
    · rw [decide_eq_false q2]; exact go (by omega) (by omega)
  intro q1 q2
  clear bad
  obtain ⟨g, rfl⟩ := Int.eq_ofNat_of_zero_le (a := gen) (by omega)
  subst hJ27
  refine condB_i (fun h => by simp at h) fun _ => ?_
  have eg : w64 ((g : Int) + 1) = ((g + 1 : Nat) : Int) := by rw [w64_of] <;> omega
  rw [eg]
  refine New_own (by decide) (by decide) hc1 fun w2 d F h2 hc2 hf2 => ?_
  rw [show (64 : Int).toNat = 64 from rfl] at h2
  have hnl : (DS.new 64).safe.length = 64 := by simp [DS.new]
  refine withJ_i fun J50 hJ50 => ?_
  refine condB_ne (fun h => absurd rfl h) fun _ => condB_i (fun h => by simp at h) fun _ => ?_
  refine PutHead_own h2 (by decide) fun w3 F3 h3 hc3 hF3 => ?_
  rw [put_nat (by rw [hnl]; decide) (by omega) (by omega), (Calm.new 64).write (by rw [hnl]; omega) headS_len] at h3 ⊢
  dsimp only at h3 ⊢
  refine condB_ne (fun h => absurd rfl h) fun _ => ?_
  refine Flush_own h3 fun w4 F4 h4 hc4 hF4 => ?_
  generalize hD3 : ({ DS.new 64 with steps := w64 ((DS.new 64).steps + 1), loose := (DS.new 64).loose ++ [(g % 2, headS g a)] } : DS) = D3 at h4 ⊢
  have hcalm3 : Calm D3 := by rw [← hD3]; exact Calm.new 64
  have hfl : D3.flush = ({ D3.stand (fun _ => true) with steps := w64 (D3.steps + 1) }, 0) := by unfold DS.flush; rw [hcalm3.step]; rfl
  rw [hfl] at h4 ⊢
  dsimp only at h4 ⊢
  have hS1 : (D3.stand fun _ => true).safe = (List.replicate 64 zsec).set (g % 2) (headS g a) := by rw [← hD3]; rfl
  generalize hD4 : ({ D3.stand (fun _ => true) with steps := w64 (D3.steps + 1) } : DS) = D4 at h4
  have hs4 : D4.safe = (List.replicate 64 zsec).set (g % 2) (headS g a) := by rw [← hD4]; exact hS1
  have hl4 : D4.loose = [] := by rw [← hD4]; rfl
  have hc4' : Calm D4 := by rw [← hD4]; exact hcalm3
  generalize hSS : (List.replicate 64 zsec).set (g % 2) (headS g a) = S1 at *
  have hSl : S1.length = 64 := by rw [← hSS, List.length_set, List.length_replicate]
  have hS_a : S1[g % 2]? = some (headS g a) := by rw [← hSS, List.getElem?_set]; simp; omega
  have hS_b : S1[(g + 1) % 2]? = some zsec := by rw [← hSS, List.getElem?_set_ne (by omega), List.getElem?_replicate, if_pos (by omega)]
  have eb : ((0 : Int) != 0) = false := rfl
  simp only [eb]
  subst hJ50
  refine condB_i (fun h => by simp at h) fun _ => ?_
  refine ⟨by decide, ?_⟩
  refine Fuse_own h4 (by constructor <;> omega) fun w5 h5 hc5 => ?_
  have hfu : D4.fuseTo (k : Int) = ({ D4 with fuse := (k : Int) }, 0) := by unfold DS.fuseTo; rw [if_neg (by omega)]
  rw [hfu] at h5
  dsimp only at h5
  obtain ⟨ce, cf, cl, cn, clo⟩ := cut_law (E := { D4 with fuse := (k : Int) }) (b := b) hs4 hl4 hc4'.2 rfl hSl (by omega : g + 1 < 2 ^ 32) hk3
  refine PutHead_own h5 (by simp [hl4]) fun w6 F6 h6 hc6 hF6 => ?_
  generalize putHeadM { D4 with fuse := (k : Int) } ((g + 1 : Nat) : Int) b = R at *
  refine Flush_own h6 fun w7 F7 h7 hc7 hF7 => ?_
  refine withJ_i fun J85 hJ85 => ?_
  have e1 : (R.e == 0) = decide ((k : Int) > 0) := by
    rw [Bool.eq_iff_iff, beq_iff_eq, decide_eq_true_iff, ce]; omega
  have e2 : (R.D.flush.2 == 0) = decide ((k : Int) > 1) := by
    rw [Bool.eq_iff_iff, beq_iff_eq, decide_eq_true_iff, cf]; omega
  rw [e1, e2]
  refine condB_i (fun h => by simp at h) fun _ => condB_i (fun h => by simp at h) fun _ => ?_
  have hkl := hkeep.fits
  refine twin_row slT_bool (hkeep.is.chg h7.chg (off_no _)) (one1_bools _) hkeep.nil (by omega) (by simp only [maxLen]; omega) fun p8 c8 w8 hr8 hf8 hc8 => ?_
  have h8 := h7.step0 hc8
  refine Crash_own h8 hr8.sl (h8.at_.rowOff hr8 ⟨by decide, by decide, by decide⟩) fun w9 F9 h9 hc9 hF9 => ?_
  simp only [eb]
  subst hJ85
  refine condB_i (fun h => by simp at h) fun _ => ?_
  have hcalm9 : Calm (R.D.flush.1.crash keep.xs) := crash_calm _ _
  have hlen9 : (R.D.flush.1.crash keep.xs).safe.length = 64 := by rw [crash_len, DS.flush_len, cl]
  have hnow := cn keep.xs
  refine GetHead_own h9 hcalm9 fun w10 j10 h10 hc10 => ?_
  rw [hlen9]
  rw [show ((64 : Nat) : Int) = 64 from rfl]
  have hres : getHeadM 64 (R.D.flush.1.crash keep.xs).now = ⟨((g + 1 : Nat) : Int), b, 0⟩ ∨ (getHeadM 64 (R.D.flush.1.crash keep.xs).now = ⟨(g : Int), a, 0⟩ ∧ R.D.flush.2 ≠ 0) := by
    rcases hnow with e | ⟨e, hne⟩
    · left
      rw [e]
      refine get_new (a := a) (by omega) (by omega) ha hb ?_ ?_
      · rw [List.getElem?_set_ne (by omega)]; exact hS_a
      · rw [List.getElem?_set]; simp; omega
    · right
      rw [e]
      exact ⟨get_old (by omega) (by omega) ha hS_a hS_b, hne⟩
  generalize getHeadM 64 (R.D.flush.1.crash keep.xs).now = H at *
  have he : H.e = 0 := by rcases hres with h | ⟨h, _⟩ <;> rw [h]
  refine (Hp.start w10 No).newB fun b11 w11 H11 _ _ => ?_
  refine H11.stN 0 rfl (off := 0) rfl (by decide) (one1_ints2 _ _ _ _) fun w12 H12 _ => ?_
  refine H12.newB fun b13 w13 H13 _ _ => ?_
  refine H13.newB fun b14 w14 H14 _ _ => ?_
  refine H14.stN 1 rfl (off := 0) rfl (by decide) (one1_ints2 _ _ _ _) fun w15 H15 _ => ?_
  refine H15.stN 0 rfl (off := 0) rfl (by decide) (one1_ints2 _ _ _ _) fun w16 H16 _ => ?_
  have fin : Chg No w w16 := h10.chg.trans0 H16.chg
  refine withJ_i fun J10 hJ10 => ?_
  refine condB_eq (fun _ => ?_) (fun h => absurd he h)
  refine H16.ldI 2 rfl (off := 0) rfl (H16.ldI 2 rfl (off := 1) rfl (H16.ldI 0 rfl (off := 0) rfl (H16.ldI 0 rfl (off := 1) rfl ?_)))
  refine condB_i (fun _ => ?_) (fun hno => ?_)
  · subst hJ10; exact ⟨rfl, fin⟩
  refine H16.ldI 2 rfl (off := 0) rfl (H16.ldI 2 rfl (off := 1) rfl (H16.ldI 1 rfl (off := 0) rfl (H16.ldI 1 rfl (off := 1) rfl ?_)))
  rcases hres with h | ⟨h, hne⟩
  · rw [h] at hno; simp at hno
  · rw [h]
    refine condB_i (fun _ => ?_) (fun hno2 => by simp at hno2)
    subst hJ10
    exact ⟨by simpa using hne, fin⟩

end Go.Proofs.Ytgplflecgnldeaa

