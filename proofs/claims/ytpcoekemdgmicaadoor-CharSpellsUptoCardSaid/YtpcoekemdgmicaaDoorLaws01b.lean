/-
  Chapter 1's statements, of the calls: Spells, Parts, Joins, Ends.
-/
import Derived.Test.YtpcoekemdgmicaaDoorChrE
import Derived.Test.YtpcoekemdgmicaaDoorLaws01
import Derived.Laws.Runes
namespace Go.Proofs.YtpcoekemdgmicaaDoor
open Go Go.Vc Go.Lib

section
variable {w : World}

theorem cvRune {r : Int} {K : ByteArray → World → Prop} (k : K (Utf8.encode r) w) : cvStrJ Tryd.prog T_int32 T_string (.int .i32 r) w K :=
  ⟨_, w, run_convert_int_string w T_int32 T_string .i32 r (by kernel_rfl) (by kernel_rfl), k⟩

theorem CharJoins_ok {a b : BV} (T : Tabs w) (ha : a.Ok w) (hb : b.Ok w) (hs : a.l + b.l ≤ 1048576) :
    callJ Tryd.prog fn_law01_CharJoins #[.slice a.p a.l a.c, .slice b.p b.l b.c] w [.one .bool] fun r w' => r = true ∧ Chg No w w' := by
  refine c_law01_CharJoins ?_
  unfold VC_law01_CharJoins
  have la := ha.is.len
  have lb := hb.is.len
  refine awake01_ok T fun w1 hc1 => ?_
  refine condB_i (fun h => by simp at h) fun _ => ?_
  refine FaultC_ok (ha.is.chg hc1 (off_no _)) ha.cap (by omega) (T.chg hc1) fun w2 hc2 => ?_
  have hc02 := hc1.trans0 hc2
  refine FaultC_ok (hb.is.chg hc02 (off_no _)) hb.cap (by omega) (T.chg hc02) fun w3 hc3 => ?_
  have hc03 := hc02.trans0 hc3
  refine newRow (sz := 1) (n := 0) (cs := []) rfl (by decide) fun b4 w4 hr4 hb4 hc4 => ?_
  have hc04 := hc03.trans0 hc4
  refine appG (w0 := w) (xs := []) hr4 (ha.is.chg hc04 (off_no _)) ha.nil (by omega) (by rintro x ⟨⟩; have := hc03.size; simp only; omega) hc04 fun p5 c5 w5 hr5 hf5 hc5 => ?_
  rw [Nat.zero_add, List.nil_append] at hr5
  rw [Nat.zero_add]
  refine appG hr5 (hb.is.chg hc5 (off_no _)) hb.nil (by omega) hf5 hc5 fun p6 c6 w6 hr6 hf6 hc6 => ?_
  refine FaultC_ok hr6.bytes hr6.le.1 (by omega) (T.chg hc6) fun w7 hc7 => ?_
  have hc07 := hc6.trans0 hc7
  have hj := flt_join b.bs a.bs 0
  have hs := flt_shift b.bs (0 + a.bs.length)
  rw [la] at hj hs
  rcases hj with ⟨h1, h2⟩ | ⟨h1, h2⟩ | ⟨h1, h2⟩
  · rw [h2]
    refine condB_eq (fun _ => ?_) (fun h => absurd (by rw [h1]; rfl) h)
    simp only [withJ, beq_self_eq_true, condB]
    exact ⟨trivial, hc07⟩
  · refine condB_eq (fun h => absurd h (by rw [h1]; decide)) (fun _ => ?_)
    refine condB_ne (fun _ => ?_) (fun h => absurd h (by rw [h1]; decide))
    refine withJ_i fun J4 hJ4 => ?_
    subst hJ4
    refine condB_eq (fun _ => ⟨rfl, hc07⟩) (fun h => ⟨?_, hc07⟩)
    rcases h2 with h2 | h2
    · exact absurd (by rw [h2]; rfl) h
    · exact decide_eq_true (by omega)
  · rw [h1, h2]
    refine condB_eq (fun h => absurd h (by decide)) (fun _ => ?_)
    refine condB_ne (fun h => absurd rfl h) (fun _ => ?_)
    rcases hs with ⟨s1, s2, s3⟩ | ⟨s1, s2⟩
    · rw [s2, s3]
      refine condB_ne (fun h => absurd rfl h) (fun _ => ?_)
      exact ⟨rfl, hc07⟩
    · rw [s2] at s1 ⊢
      simp only at s1 ⊢
      refine condB_ne (fun _ => ?_) (fun h => absurd h (by omega))
      have hle := flt_len b.bs 0
      rw [w64_of (by omega) (by omega), show (((0 + a.l + (flt 0 b.bs).1 : Nat)) : Int) = (a.l : Int) + ((flt 0 b.bs).1 : Nat) by omega]
      simp only [withJ, beq_self_eq_true, condB]
      exact ⟨trivial, hc07⟩

theorem CharSpells_ok {r : Int} {a b : BV} (T : Tabs w) (hr : In32 r) (ha : a.Ok w) (hb : b.Ok w) (hs : a.l + b.l ≤ 1048576) :
    callJ Tryd.prog fn_law01_CharSpells #[.int .i32 r, .slice a.p a.l a.c, .slice b.p b.l b.c] w [.one .bool] fun r w' => r = true ∧ Chg No w w' := by
  refine c_law01_CharSpells ?_
  unfold VC_law01_CharSpells
  have la := ha.is.len
  have lb := hb.is.len
  refine awake01_ok T fun w1 hc1 => ?_
  refine condB_i (fun h => by simp at h) fun _ => ?_
  refine cvRune ?_
  have he := bl_encode r
  have hlen := bl_len (Utf8.encode r)
  refine cvB fun b3 c3 w3 hB3 _ hc3 => ?_
  have hc03 := hc1.trans0 hc3
  generalize hc : (if Utf8.valid r then r.toNat else 65533) = c at he
  have hv : c < 55296 ∨ (57344 ≤ c ∧ c ≤ 1114111) := by
    rw [← hc]
    split
    · next h => have := (valid_iff r).1 h; omega
    · omega
  have h4 := encL_len c
  rw [he] at hlen hB3
  have hb3 : b3 < w3.heap.size := by
    obtain ⟨x, hx, hcs⟩ := hB3.at (by omega)
    cases hx
    exact cellsAt_lt hcs (by intro e; have := congrArg List.length e; rw [bcells_length] at this; simp at this; rw [this] at h4; simp at h4)
  refine newRow (sz := 1) (n := 0) (cs := []) rfl (by decide) fun b4 w4 hr4 hb4 hc4 => ?_
  have hc04 := hc03.trans0 hc4
  have hf4 : fresh w (some ⟨b4, 0, none⟩) := by rintro x ⟨⟩; have := hc03.size; simp only; omega
  refine appJ_row slT_u8 hr4 (ha.is.chg hc04 (off_no _)) (one1_bcells _) ha.nil (by omega) (by simp only [maxLen]; omega) fun p5 c5 w5 hr5 hc5' hg5 => ?_
  rw [Nat.zero_add, List.nil_append] at hr5
  rw [Nat.zero_add]
  have hc05 : Chg No w w5 := hc04.trans hc5' fun x hx ⟨y, hy, e⟩ => by have := hf4 y hy; omega
  have hf5 : fresh w p5 := by
    rcases hg5 with rfl | hg5
    · exact hf4
    · intro x hx; have := hg5 x hx; have := hc04.size; omega
  have hB5 : Bytes w5 (some ⟨b3, 0, none⟩) (Utf8.encode r).size (encL c) := by
    refine (hB3.chg hc4 (off_no _)).chg hc5' ?_
    rintro x ⟨⟩ ⟨y, hy, e⟩
    cases hy
    simp only at e
    omega
  refine appG hr5 hB5 (by simp) (by omega) hf5 hc05 fun p6 c6 w6 hr6 hf6 hc6 => ?_
  refine appG hr6 (hb.is.chg hc6 (off_no _)) hb.nil (by omega) hf6 hc6 fun p7 c7 w7 hr7 hf7 hc7 => ?_
  refine Next_ok hr7.bytes hr7.le.1 (by omega) (T.chg hc7) fun w8 hc8 => ?_
  have hc08 := hc7.trans0 hc8
  refine IsChar_ok fun w9 hc9 => ?_
  have hc09 := hc08.trans0 hc9
  have hdrop : (a.bs ++ encL c ++ b.bs).drop a.l = encL c ++ b.bs := by rw [List.append_assoc, ← la, List.drop_left]
  have hn : nxt (a.bs ++ encL c ++ b.bs) (a.l : Int) = if chr c = false then (0, 0, 21) else ((c : Int), (a.l : Int) + (encL c).length, 0) := by
    unfold nxt
    rw [if_neg (by simp only [List.length_append]; omega), Int.toNat_natCast, hdrop, rd_enc c hv]
    rw [if_neg (by simp only; omega)]
  rw [hn]
  have hin : chr r = true → Utf8.valid r = true := fun h => by
    rw [valid_iff]
    have := of_decide_eq_true h
    unfold Chr at this
    omega
  refine condB_i (fun hch => ?_) (fun hch => ?_)
  · have hrc : (c : Int) = r := by
      rw [← hc, if_pos (hin hch)]
      have := (valid_iff r).1 (hin hch); omega
    rw [hrc, if_neg (by rw [hch]; simp)]
    rw [w64_of (by omega) (by omega), ← hlen]
    simp only [withJ, beq_self_eq_true, condB]
    exact ⟨trivial, hc09⟩
  · refine withJ_i fun J63 hJ63 => ?_
    have k63 : ∀ x, (x = true ↔ ¬ Utf8.valid r = true) → J63 x w9 := by
      intro x hx; subst hJ63
      refine meetI hx (fun hnv => ?_) (fun hval => ?_)
      · have hc65 : c = 65533 := by rw [← hc, if_neg hnv]
        rw [hc65, show chr ((65533 : Nat) : Int) = true from by decide, if_neg (by simp)]
        exact ⟨rfl, hc09⟩
      · have hval := Decidable.not_not.1 hval
        have hrc : (c : Int) = r := by
          rw [← hc, if_pos hval]
          have := (valid_iff r).1 hval; omega
        rw [hrc, hch, if_pos rfl]
        exact ⟨rfl, hc09⟩
    have hvi := valid_iff r
    clear hJ63
    refine condB_d (fun h => k63 _ (bT (by rw [hvi]; omega))) (fun h1 => ?_)
    refine condB_d (fun h => k63 _ (bT (by rw [hvi]; omega))) (fun h2 => ?_)
    refine condB_d (fun h => k63 _ (bD (by rw [hvi]; omega))) (fun h3 => k63 _ (bF (by rw [hvi]; omega)))

theorem CharParts_ok {p l : ByteArray} {r : Int} (T : Tabs w) (hp : InS p) (hl : InS l) (_ : In32 r) :
    callJ Tryd.prog fn_law01_CharParts #[.string p, .string l, .int .i32 r] w [.one .bool] fun r w' => r = true ∧ Chg No w w' := by
  refine c_law01_CharParts ?_
  unfold VC_law01_CharParts
  unfold InS at hp hl
  have hblp := bl_len p
  have hbll := bl_len l
  have e1 : bl (p ++ ⟨#[58]⟩ ++ l) = bl p ++ [58] ++ bl l := by simp [bl, ByteArray.data_append]
  have z1 : (p ++ ⟨#[58]⟩).size = p.size + 1 := by rw [ByteArray.size_append]; rfl
  refine awake01_ok T fun w1 hc1 => ?_
  refine condB_i (fun h => by simp at h) fun _ => ?_
  refine ⟨by rw [show (⟨#[58]⟩ : ByteArray).size = 1 from rfl]; omega, by rw [z1]; omega, ?_⟩
  refine SplitC_ok (by rw [ByteArray.size_append, z1]; omega) (T.chg hc1) fun x y ok w2 hc2 hspl => ?_
  unfold Spl at hspl
  rw [e1, spl_colon] at hspl
  have hc02 := hc1.trans0 hc2
  refine withJ_i fun J54 hJ54 => ?_
  have k54 : ∀ w3, Chg No w w3 → J54 false w3 := by
    intro w3 hc3; subst hJ54
    refine condB_i (fun h => by cases h) fun _ => ?_
    refine cvRune ?_
    have h4 := encL_len (if Utf8.valid r then r.toNat else 65533)
    rw [← bl_encode, bl_len] at h4
    refine ⟨by omega, ?_⟩
    refine withJ_i fun J6 hJ6 => ?_
    subst hJ6
    refine NameC_ok (T.chg hc3) fun w6 hc6 => ?_
    have hc06 := hc3.trans0 hc6
    refine condB_not (fun _ => ⟨rfl, hc06⟩) (fun hn => ?_)
    refine IsPart_ok fun w7 hc7 => ?_
    have hc07 := hc06.trans0 hc7
    refine condB_not (fun _ => ⟨rfl, hc07⟩) (fun hpt => ?_)
    refine NameC_ok (T.chg hc07) fun w8 hc8 => ?_
    have e2 : bl (p ++ Utf8.encode r) = bl p ++ bl (Utf8.encode r) := by simp [bl, ByteArray.data_append]
    rw [e2, nm_append hn hpt, ← e2, bl_len]
    refine ⟨?_, hc07.trans0 hc8⟩
    rw [beq_iff_eq, decide_eq_decide]
    omega
  clear hJ54
  have hok : ok = (nm (bl p) && nm (bl l)) := by
    have := congrArg (fun x => x.2.2) hspl
    simp only at this
    rw [this]
    cases nm (bl p) && nm (bl l) <;> rfl
  have hx : bl x = if nm (bl p) && nm (bl l) then bl p else [] := by
    have := congrArg Prod.fst hspl
    simp only at this
    rw [this]
    cases nm (bl p) && nm (bl l) <;> rfl
  have hy : bl y = if nm (bl p) && nm (bl l) then bl l else [] := by
    have := congrArg (fun x => x.2.1) hspl
    simp only at this
    rw [this]
    cases nm (bl p) && nm (bl l) <;> rfl
  have tail : ∀ w10, Chg No w w10 → ∀ q : Bool, q = (nm (bl p) && nm (bl l)) →
      condB (!(ok == q)) (J54 true w10) (condB ok (condB (!(x.toList == p.toList)) (J54 true w10) (condB (!(y.toList == l.toList)) (J54 true w10) (condB (!ok) (condB (!(x.toList == (⟨#[]⟩ : ByteArray).toList)) (J54 true w10) (J54 (!(y.toList == (⟨#[]⟩ : ByteArray).toList)) w10)) (J54 false w10))))
        (condB (!ok) (condB (!(x.toList == (⟨#[]⟩ : ByteArray).toList)) (J54 true w10) (J54 (!(y.toList == (⟨#[]⟩ : ByteArray).toList)) w10)) (J54 false w10))) := by
    intro w10 hc10 q hq
    subst hq
    rw [← hok]
    rw [beq_self_eq_true]
    simp only [toList_bl, hx, hy, ← hok]
    have e0 : bl ⟨#[]⟩ = [] := rfl
    cases ok with
    | true => simp only [if_true, beq_self_eq_true, Bool.not_true, condB]; exact k54 _ hc10
    | false => simp only [Bool.false_eq_true, if_false, e0, beq_self_eq_true, Bool.not_true, Bool.not_false, condB]; exact k54 _ hc10
  refine NameC_ok (T.chg hc02) fun w9 hc9 => ?_
  have hc09 := hc02.trans0 hc9
  refine condB_i (fun hn => ?_) (fun hn => ?_)
  · refine NameC_ok (T.chg hc09) fun w10 hc10 => ?_
    exact tail w10 (hc09.trans0 hc10) _ (by rw [hn, Bool.true_and])
  · exact tail w9 hc09 false (by rw [hn, Bool.false_and])

theorem CharEnds_ok {a b : BV} (T : Tabs w) (ha : a.Ok w) (hb : b.Ok w) (hs : a.l + b.l ≤ 1048576) :
    callJ Tryd.prog fn_law01_CharEnds #[.slice a.p a.l a.c, .slice b.p b.l b.c] w [.one .bool] fun r w' => r = true ∧ Chg No w w' := by
  refine c_law01_CharEnds ?_
  unfold VC_law01_CharEnds
  have la := ha.is.len
  have lb := hb.is.len
  refine awake01_ok T fun w1 hc1 => ?_
  refine condB_i (fun h => by simp at h) fun _ => ?_
  refine LinesC_ok (ha.is.chg hc1 (off_no _)) (by omega) fun p2 l2 c2 w2 hr2 hf2 hc2 => ?_
  have hc02 := hc1.trans0 hc2
  have hl2 := hr2.len
  rw [bcells_length, Nat.mul_one] at hl2
  have hlen := lns_len false a.bs
  have hhalf := lns_half false a.bs
  simp only [Bool.false_eq_true, if_false, Nat.add_zero] at hhalf
  refine ⟨fun x w' m => ∃ i : Nat, x = i ∧ i ≤ l2 ∧ m = l2 - i ∧ w' = w2, ⟨_, 0, rfl, Nat.zero_le _, rfl, rfl⟩, ?_⟩
  rintro x w3 m ⟨i, rfl, hi, rfl, rfl⟩
  refine condB_d (fun hlt => ?_) (fun _ => ?_)
  · refine byte_i hr2.bytes (by omega) hlt fun c hc => ?_
    refine condB_eq (fun h13 => ?_) (fun _ => ⟨l2 - (i + 1), by omega, i + 1, by rw [w64_of] <;> omega, by omega, rfl, rfl⟩)
    have : c = 13 := UInt8.toNat_inj.1 (Int.ofNat_inj.1 h13)
    subst this
    exact absurd (List.mem_of_getElem? hc) (lns_no13 _ _)
  refine withJ_i fun J40 hJ40 => ?_
  have k40 : ∀ w4, Chg No w3 w4 → J40 false w4 := by
    intro w4 hc4; subst hJ40
    refine condB_i (fun h => by cases h) fun _ => ?_
    have hc04 := hc02.trans0 hc4
    have hA := ha.is.chg hc04 (off_no _)
    have hB := hb.is.chg hc04 (off_no _)
    refine withJ_i fun J63 hJ63 => ?_
    have k63 : ∀ x, (x = true ↔ (a.bs[a.bs.length - 1]? = some 13 ∧ b.bs[0]? = some 10)) → J63 x w4 := by
      intro x hx; subst hJ63
      refine meetI hx (fun _ => ⟨rfl, hc04⟩) (fun hno => ?_)
      refine newRow (sz := 1) (n := 0) (cs := []) rfl (by decide) fun b5 w5 hr5 hb5 hc5 => ?_
      have hc05 := hc04.trans0 hc5
      have h45 := hc4.trans0 hc5
      refine appG (w0 := w4) (xs := []) hr5 (hA.chg hc5 (off_no _)) ha.nil (by omega) (by rintro x ⟨⟩; exact hb5) hc5 fun p6 c6 w6 hr6 hf6 hc6 => ?_
      rw [Nat.zero_add, List.nil_append] at hr6
      rw [Nat.zero_add]
      refine appG hr6 (hB.chg hc6 (off_no _)) hb.nil (by omega) hf6 hc6 fun p7 c7 w7 hr7 hf7 hc7 => ?_
      refine LinesC_ok hr7.bytes (by omega) fun p8 l8 c8 w8 hr8 hf8 hc8 => ?_
      have hc48 := hc7.trans0 hc8
      refine LinesC_ok ((hB.chg hc48 (off_no _))) (by omega) fun p9 l9 c9 w9 hr9 hf9 hc9 => ?_
      have hc49 := hc48.trans0 hc9
      have hc39 := hc4.trans0 hc49
      have hl9 := hr9.len
      rw [bcells_length, Nat.mul_one] at hl9
      have hlen9 := lns_len false b.bs
      have hlt2 := hr2.lt
      refine appJ_row slT_u8 (hr2.chg hc39 (off_no _)) hr9.sl (one1_bcells _) hr9.none0 (by omega) (by simp only [maxLen]; omega) fun p10 c10 w10 hr10 hc10 hg10 => ?_
      have hr8' := (hr8.chg hc9 (off_no _)).chg hc10 (by
        rintro x hx ⟨y, hy, e⟩
        have h1 := hf8 x hx
        have h2 := hlt2 y hy
        have h3 := hc4.size
        have h4 := hc7.size
        omega)
      have hc010 : Chg No w w10 := (hc04.trans0 hc49).trans hc10 fun x hx ⟨y, hy, e⟩ => by have := hf2 y hy; have := hc1.size; omega
      rw [show bcells (lns false a.bs) ++ bcells (lns false b.bs) = bcells (lns false (a.bs ++ b.bs)) from by rw [lns_joins hno]; simp [bcells]] at hr10
      refine Same_ok hr8'.bytes hr10.bytes ?_
      exact ⟨by simp, hc010⟩
    clear hJ63
    refine condB_d (fun h1 => ?_) (fun h1 => k63 _ (bF fun hh => ?_))
    · refine condB_d (fun h2 => ?_) (fun h2 => k63 _ (bF fun hh => ?_))
      · rw [w64_of (by omega) (by omega)]
        refine byte_i hA (by omega) (by omega) fun c hc => ?_
        rw [show ((a.l : Int) - 1).toNat = a.bs.length - 1 by omega] at hc
        refine condB_eq (fun h13 => ?_) (fun h13 => k63 _ (bF fun hh => h13 ?_))
        · refine byte_i hB (by decide) (by omega) fun d hd => k63 _ (bQ ?_)
          rw [hc, show b.bs[0]? = some d from hd]
          have : c = 13 := UInt8.toNat_inj.1 (Int.ofNat_inj.1 h13)
          subst this
          exact ⟨fun e => ⟨rfl, by rw [show d = 10 from UInt8.toNat_inj.1 (Int.ofNat_inj.1 e)]⟩, fun e => by cases e.2; rfl⟩
        · have := hh.1
          rw [hc] at this; cases this; rfl
      · have := (List.getElem?_eq_some_iff.1 hh.2).1
        omega
    · have := (List.getElem?_eq_some_iff.1 hh.1).1
      omega
  clear hJ40
  refine LinesC_ok hr2.bytes (by omega) fun p3 l3 c3 w4 hr3 hf3 hc3 => ?_
  rw [lns_same _ (lns_no13 _ _)] at hr3
  refine Same_ok hr3.bytes (hr2.chg hc3 (off_no _)).bytes ?_
  rw [decide_eq_true rfl]
  refine condB_i (fun h => by cases h) fun _ => ?_
  refine condB_d (fun h => absurd h (by omega)) fun _ => ?_
  rw [w64_of (by omega) (by omega), decide_eq_false (by omega)]
  exact k40 _ hc3
end

end Go.Proofs.YtpcoekemdgmicaaDoor

