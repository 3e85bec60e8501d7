/-
  Chapter 1's statements, of the calls: Sets, Reads, Names, Faults, Lines.
-/
import Derived.Test.YtpcoekemdgmicaaDoorChrD
import Derived.Test.YtpcoekemdgmicaaDoorRd01
import Derived.Test.YtpcoekemdgmicaaDoorVLaw01
namespace Go.Vc
open Go Go.Lib
theorem prt_cons {b : UInt8} {r : List UInt8} (h : b.toNat < 128) : prt (b :: r) = (isPt (b.toNat : Nat) && prt r) := by
  have e := rd_ascii_cons b r h
  rw [prt_step (by simp) (by rw [e]; simp), e]; rfl
theorem i32_range (n : Int) : -2147483648 ≤ IntKind.i32.wrap n ∧ IntKind.i32.wrap n < 2147483648 := by
  unfold IntKind.wrap; simp [IntKind.signed, IntKind.bits]; omega
end Go.Vc
namespace Go.Proofs.YtpcoekemdgmicaaDoor
open Go Go.Vc Go.Lib

section
variable {w : World}

theorem nm_lit1 : nm [97, 45, 49] = true := by
  unfold nm; rw [rd_ascii_cons _ _ (by decide), prt_cons (by decide), prt_cons (by decide), prt_cons (by decide), prt_nil]; decide
theorem nm_lit2 : nm [49, 97] = false := by
  unfold nm; rw [rd_ascii_cons _ _ (by decide), show isSt ((49 : UInt8).toNat, 1).1 = false from by decide]; rfl
theorem nm_a : nm [97] = true := by
  unfold nm; rw [rd_ascii_cons _ _ (by decide), prt_cons (by decide), prt_nil]; decide
theorem nm_b : nm [98] = true := by
  unfold nm; rw [rd_ascii_cons _ _ (by decide), prt_cons (by decide), prt_nil]; decide
theorem spl_lit : spl [97, 58, 98] = ([97], [98], true) := by
  unfold spl
  rw [show colon [97, 58, 98] = some 1 from by decide]
  simp only [List.take_succ_cons, List.take_zero, List.drop_succ_cons, List.drop_zero]
  rw [nm_a, nm_b]; rfl
theorem beq_bl {s : ByteArray} {l : List UInt8} (h : bl s = l) : (s.toList == (⟨l.toArray⟩ : ByteArray).toList) = true := by
  rw [toList_bl, toList_bl, h]; simp

theorem awake01_ok {J : Bool → World → Prop} (T : Tabs w) (k : ∀ w', Chg No w w' → J true w') : callJ Tryd.prog fn_law01_awake #[] w [.one .bool] J := by
  refine c_law01_awake ?_
  unfold VC_law01_awake
  refine newRow (sz := 1) (n := 2) rfl (by decide) fun b8 w1 hr1 _ hc1 => ?_
  have hB : Bytes w1 (some ⟨b8, 0, none⟩) 2 [195, 169] := hr1.sl
  refine Next_ok hB (by decide) (by decide) (T.chg hc1) fun w2 hc2 => ?_
  rw [show nxt [195, 169] 0 = (233, 2, 0) from by decide]
  have hc02 := hc1.trans0 hc2
  refine SplitC_ok (by decide) (T.chg hc02) fun a b ok w3 hc3 hs => ?_
  unfold Spl at hs
  rw [show bl ⟨#[97, 58, 98]⟩ = [97, 58, 98] from rfl, spl_lit] at hs
  have ha : bl a = [97] := congrArg Prod.fst hs
  have hb : bl b = [98] := congrArg (fun x => x.2.1) hs
  have hok : ok = true := congrArg (fun x => x.2.2) hs
  subst hok
  have hc03 := hc02.trans0 hc3
  refine withJ_i fun J0 hJ0 => ?_
  subst hJ0
  refine condB_i (fun _ => ?_) (fun h => absurd h (by decide))
  refine condB_i (fun _ => ?_) (fun h => absurd h (by decide))
  refine condB_i (fun _ => ?_) (fun h => absurd h (by decide))
  refine condB_i (fun _ => ?_) (fun h => absurd (h.symm.trans (beq_bl ha)) (by decide))
  refine condB_i (fun _ => ?_) (fun h => absurd (h.symm.trans (beq_bl hb)) (by decide))
  refine condB_i (fun _ => ?_) (fun h => by cases h)
  refine NameC_ok (T.chg hc03) fun w5 hc5 => ?_
  rw [show bl ⟨#[97, 45, 49]⟩ = [97, 45, 49] from rfl, nm_lit1]
  refine condB_i (fun _ => ?_) (fun h => by cases h)
  have hc05 := hc03.trans0 hc5
  refine NameC_ok (T.chg hc05) fun w6 hc6 => ?_
  rw [show bl ⟨#[49, 97]⟩ = [49, 97] from rfl, nm_lit2]
  exact k w6 (hc05.trans0 hc6)

theorem CharSets_ok {r : Int} (T : Tabs w) (_ : In32 r) : callJ Tryd.prog fn_law01_CharSets #[.int .i32 r] w [.one .bool] fun r w' => r = true ∧ Chg No w w' := by
  refine c_law01_CharSets ?_
  unfold VC_law01_CharSets
  refine awake01_ok T fun w1 hc1 => ?_
  refine condB_i (fun h => by simp at h) fun _ => ?_
  refine ⟨fun x w' m => ∃ i : Nat, x = i ∧ i ≤ 64 ∧ m = 64 - i ∧ Chg No w w', ⟨_, 0, rfl, by decide, rfl, hc1⟩, ?_⟩
  rintro x w2 m ⟨i, rfl, hi, rfl, hc2⟩
  refine condB_d (fun hlt => ?_) (fun _ => ⟨rfl, hc2⟩)
  have hx := i32_range (r + i)
  generalize IntKind.i32.wrap (r + (i : Int)) = x at *
  rw [w64_of (by omega) (by omega)]
  refine withJ_i fun J34 hJ34 => ?_
  have k34 : ∀ w3, Chg No w w3 → J34 false w3 := fun w3 hc3 => by
    subst hJ34
    exact ⟨64 - (i + 1), by omega, i + 1, by rw [wrap_i32 _ (by omega) (by omega)]; rfl, by omega, rfl, hc3⟩
  clear hJ34
  refine IsChar_ok fun w4 hc4 => Char_ok ?_
  refine condB_i (fun h => by simp at h) fun _ => ?_
  refine IsStart_ok fun w6 hc6 => Start_ok ?_
  refine condB_i (fun h => by simp at h) fun _ => ?_
  refine IsPart_ok fun w8 hc8 => Part_ok ?_
  rw [beq_self_eq_true]
  exact k34 _ (((hc2.trans0 hc4).trans0 hc6).trans0 hc8)

theorem CharReads_ok {b : BV} {at_ : Int} (T : Tabs w) (hb : b.Ok w) (hat : InI at_) : callJ Tryd.prog fn_law01_CharReads #[.slice b.p b.l b.c, .int .i64 at_] w [.one .bool] fun r w' => r = true ∧ Chg No w w' := by
  refine c_law01_CharReads ?_
  unfold VC_law01_CharReads
  have hl := hb.is.len
  have hf := hb.fits
  refine awake01_ok T fun w1 hc1 => ?_
  refine condB_i (fun h => by simp at h) fun _ => ?_
  refine Next_ok (hb.is.chg hc1 (off_no _)) hb.cap (by omega) (T.chg hc1) fun w2 hc2 => ?_
  have hc02 := hc1.trans0 hc2
  refine withJ_i fun J26 hJ26 => ?_
  have k26 : ∀ x, (x = true ↔ (at_ < 0 ∨ (b.bs.length : Int) ≤ at_)) → J26 x w2 := by
    intro x hx; subst hJ26
    refine meetI hx (fun hh => ?_) (fun hn => ?_)
    · have e : nxt b.bs at_ = (0, 0, 1) := by unfold nxt; rw [if_pos hh]
      rw [e]
      exact ⟨rfl, hc02⟩
    · obtain ⟨i, rfl⟩ : ∃ i : Nat, at_ = i := ⟨at_.toNat, by omega⟩
      refine Read_ok (hb.is.chg hc02 (off_no _)) (by omega) (by omega) ?_
      unfold nxt
      rw [if_neg hn, Int.toNat_natCast]
      have hr := rd_rune (b.bs.drop i)
      have hk4 := rd_four (b.bs.drop i)
      refine condB_eq (fun hk => ?_) (fun hk => ?_)
      · rw [if_pos (by omega)]
        exact ⟨rfl, hc02⟩
      rw [if_neg (by omega)]
      refine Char_ok ?_
      refine condB_not (fun hch => ?_) (fun hch => ?_)
      · rw [if_pos hch]
        exact ⟨rfl, hc02⟩
      · rw [if_neg (by rw [hch]; simp)]
        simp only
        rw [w64_of (by omega) (by omega), w64_of (by omega) (by omega)]
        simp only [withJ, beq_self_eq_true, condB]
        exact ⟨trivial, hc02⟩
  clear hJ26
  exact condB_d (fun h => k26 _ (bT (by omega))) (fun h => k26 _ (bD (by omega)))

theorem CharFaults_ok {b : BV} (T : Tabs w) (hb : b.Ok w) : callJ Tryd.prog fn_law01_CharFaults #[.slice b.p b.l b.c] w [.one .bool] fun r w' => r = true ∧ Chg No w w' := by
  refine c_law01_CharFaults ?_
  unfold VC_law01_CharFaults
  have hf := hb.fits
  refine awake01_ok T fun w1 hc1 => ?_
  refine condB_i (fun h => by simp at h) fun _ => ?_
  refine FaultC_ok (hb.is.chg hc1 (off_no _)) hb.cap (by omega) (T.chg hc1) fun w2 hc2 => ?_
  have hc02 := hc1.trans0 hc2
  refine FaultR_ok (hb.is.chg hc02 (off_no _)) (by omega) ?_
  simp only [withJ, beq_self_eq_true, condB]
  exact ⟨trivial, hc02⟩

theorem CharNames_ok {s : ByteArray} (T : Tabs w) (hs : InS s) : callJ Tryd.prog fn_law01_CharNames #[.string s] w [.one .bool] fun r w' => r = true ∧ Chg No w w' := by
  refine c_law01_CharNames ?_
  unfold VC_law01_CharNames
  unfold InS at hs
  refine awake01_ok T fun w1 hc1 => ?_
  refine condB_i (fun h => by simp at h) fun _ => ?_
  refine SplitC_ok (by omega) (T.chg hc1) fun a b ok w2 hc2 h1 => ?_
  refine SplitR_ok (by omega) fun a' b' ok' w3 hc3 h2 => ?_
  have hc03 := (hc1.trans0 hc2).trans0 hc3
  have he := h1.trans h2.symm
  have ha : bl a = bl a' := congrArg Prod.fst he
  have hb : bl b = bl b' := congrArg (fun x => x.2.1) he
  have hok : ok = ok' := congrArg (fun x => x.2.2) he
  obtain rfl := bl_ext ha
  obtain rfl := bl_ext hb
  subst hok
  refine withJ_i fun J2 hJ2 => ?_
  subst hJ2
  refine NameC_ok (T.chg hc03) fun w5 hc5 => ?_
  refine NameR_ok (by omega) fun w6 hc6 => ?_
  simp only [beq_self_eq_true, condB]
  exact ⟨trivial, (hc03.trans0 hc5).trans0 hc6⟩

theorem CharLines_ok {b : BV} (T : Tabs w) (hb : b.Ok w) : callJ Tryd.prog fn_law01_CharLines #[.slice b.p b.l b.c] w [.one .bool] fun r w' => r = true ∧ Chg No w w' := by
  refine c_law01_CharLines ?_
  unfold VC_law01_CharLines
  have hf := hb.fits
  have hl := hb.is.len
  refine awake01_ok T fun w1 hc1 => ?_
  refine condB_i (fun h => by simp at h) fun _ => ?_
  refine Spare_ok (hb.is.chg hc1 (off_no _)) hb.nil hf fun p2 c2 w2 hr2 hf2 hc2 => ?_
  have hc02 := hc1.trans0 hc2
  refine LinesC_ok (spare_bytes hr2 hl) (by omega) fun p3 l3 c3 w3 hr3 hf3 hc3 => ?_
  have hc03 := hc02.trans0 hc3
  refine LinesC_ok ((spare_bytes hr2 hl).chg hc3 (off_no _)) (by omega) fun p4 l4 c4 w4 hr4 hf4 hc4 => ?_
  have hc04 := hc03.trans0 hc4
  have hc24 := hc3.trans0 hc4
  refine withJ_i fun J25 hJ25 => ?_
  have k25 : ∀ w5, Chg No w4 w5 → J25 false w5 := by
    intro w5 hc5; subst hJ25
    refine condB_i (fun h => by cases h) fun _ => ?_
    have hc35 := hc4.trans0 hc5
    have hl3 := hr3.len
    rw [bcells_length, Nat.mul_one] at hl3
    refine ⟨fun x w' m => ∃ (i : Nat) (xs : List UInt8), x = i ∧ i ≤ l3 ∧ m = l3 - i ∧ Row w' T_uint8 1 p3 l3 c3 (bcells xs) ∧ Chg (isB p3) w5 w', ⟨_, 0, _, rfl, Nat.zero_le _, rfl, hr3.chg hc35 (off_no _), Chg.refl _ _⟩, ?_⟩
    rintro x w6 m ⟨i, xs, rfl, hi, rfl, hr6, hc6⟩
    have hlt3 := hr3.lt
    refine condB_d (fun hlt => ?_) (fun _ => ?_)
    · refine Row.stB hr6 (i := (i : Int)) (v := 7) (by omega) hlt fun w7 hr7 hc7 => ?_
      rw [show (w64 ((i : Int) + 1)) = ((i + 1 : Nat) : Int) from by have := hr6.le; simp only [maxLen] at this; rw [w64_of] <;> omega]
      exact ⟨l3 - (i + 1), by omega, i + 1, _, rfl, by omega, rfl, hr7, hc6.trans hc7 fun _ _ h => h⟩
    · have hc26 : Chg No w2 w6 := (hc24.trans0 hc5).trans hc6 fun b hb ⟨a, ha, e⟩ => by have := hf3 a ha; omega
      have hc06 : Chg No w w6 := hc02.trans0 hc26
      have hr46 : Row w6 T_uint8 1 p4 l4 c4 (bcells (lns false b.bs)) := (hr4.chg hc5 (off_no _)).chg hc6 (by
        rintro a ha ⟨a', ha', e⟩
        have h1 := hf4 a ha
        have h2 := hlt3 a' ha'
        omega)
      refine withJ_i fun J2 hJ2 => ?_
      subst hJ2
      refine Kept_ok (hr2.chg hc26 (off_no _)) (hb.is.chg hc06 (off_no _)) hl ?_
      refine condB_i (fun _ => ?_) (fun h => by simp at h)
      refine LinesR_ok (hb.is.chg hc06 (off_no _)) (by omega) fun p7 l7 c7 w7 hr7 hf7 hc7 => ?_
      refine Same_ok (hr46.chg hc7 (off_no _)).bytes hr7.bytes ?_
      exact ⟨by simp, hc06.trans0 hc7⟩
  clear hJ25
  refine LinesR_ok (hb.is.chg hc04 (off_no _)) (by omega) fun p7 l7 c7 w7 hr7 hf7 hc7 => ?_
  refine Same_ok ((hr3.chg hc4 (off_no _)).chg hc7 (off_no _)).bytes hr7.bytes ?_
  refine condB_i (fun h => by simp at h) fun _ => ?_
  refine Kept_ok (hr2.chg (hc24.trans0 hc7) (off_no _)) (hb.is.chg (hc04.trans0 hc7) (off_no _)) hl ?_
  rw [decide_eq_true rfl]
  exact k25 _ hc7
end

end Go.Proofs.YtpcoekemdgmicaaDoor

