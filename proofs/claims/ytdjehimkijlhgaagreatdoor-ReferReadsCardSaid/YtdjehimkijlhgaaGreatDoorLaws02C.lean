/-
  Chapter 2's statement Reads.
-/
import Derived.Test.YtdjehimkijlhgaaGreatDoorLaws02
import Derived.Test.YtdjehimkijlhgaaGreatDoorRef01B
set_option linter.unusedVariables false
set_option linter.unusedSimpArgs false
namespace Go.Vc
open Go Go.Lib
theorem pre_three {y : List UInt8} {a b c : UInt8} : [a, b, c].isPrefixOf y = true ↔ (y[0]? = some a ∧ y[1]? = some b ∧ y[2]? = some c) := by
  rw [List.isPrefixOf_iff_prefix]
  constructor
  · rintro ⟨t, rfl⟩; exact ⟨rfl, rfl, rfl⟩
  · rintro ⟨h1, h2, h3⟩
    match y, h1, h2, h3 with
    | x :: x2 :: x3 :: r, h1, h2, h3 =>
      simp at h1 h2 h3
      subst h1; subst h2; subst h3
      exact ⟨r, rfl⟩
theorem rd_head {y : List UInt8} {c : UInt8} (hy : y ≠ []) (h : (rd y).2 ≠ 0) (hc : c.toNat < 128) (he : (rd y).1 = c.toNat) : y[0]? = some c := by
  rcases rd_facts y with ⟨h1, _⟩ | ⟨h1, h3⟩ | h1
  · exact absurd h1 h
  · rw [h1] at he
    match y, hy with
    | b :: r, _ => rw [gB_cons0] at he; rw [List.getElem?_cons_zero, UInt8.toNat_inj.1 he]
  · omega
theorem rd_head_iff {y : List UInt8} {c : UInt8} (hy : y ≠ []) (h : (rd y).2 ≠ 0) (hc : c.toNat < 128) : y[0]? = some c ↔ (rd y).1 = c.toNat := by
  refine ⟨fun hh => ?_, rd_head hy h hc⟩
  match y, hy with
  | b :: r, _ =>
    obtain rfl : b = c := by simpa using hh
    rw [rd_ascii_cons b r hc]
end Go.Vc
namespace Go.Proofs.YtdjehimkijlhgaaGreatDoor
open Go Go.Vc Go.Lib
section
variable {w : World}
set_option maxRecDepth 100000 in
theorem RRead_ok {p : Option Addr} {l c : Nat} {bs : List UInt8} {value : Bool} {J : ByteArray → Int → Int → World → Prop} (h : Bytes w p l bs) (hlc : l ≤ c) (hm : l ≤ 140737488355328)
    (K : ∀ w', Chg No w w' → J (mkB (readL value 0 bs []).1) ((readL value 0 bs []).2.1 : Int) ((readL value 0 bs []).2.2 : Int) w') :
    callJ Tryz.prog fn_ref02_Read #[.slice p l c, .bool value] w [.one .str, .one (.int .i64), .one (.int .i64)] J := by
  refine c_ref02_Read ?_
  unfold VC_ref02_Read
  have hbl := h.len
  refine newRow (sz := 1) (n := 0) (cs := []) rfl (by decide) fun b13 w0 hr0 hb0 hc0 => ?_
  refine ⟨fun lp ll lc at8 w' t => ∃ (i : Nat) (out : List UInt8), at8 = i ∧ i ≤ l ∧ t = l - i ∧ Row w' T_uint8 1 lp ll lc (bcells out) ∧ ll = out.length ∧ out.length ≤ i ∧ fresh w lp ∧ Chg No w w' ∧ readL value 0 bs [] = readL value i (bs.drop i) out,
    ⟨_, 0, [], rfl, Nat.zero_le _, rfl, hr0, rfl, Nat.le_refl _, (by rintro a ⟨⟩; exact hb0), hc0, rfl⟩, ?_⟩
  rintro lp ll lc at8 w1 t ⟨i, out, rfl, hi, rfl, hr, rfl, ho, hf, hc, hrd⟩
  have hB := h.chg hc (off_no _)
  have hyl : (bs.drop i).length = l - i := by rw [List.length_drop, hbl]
  refine condB_d (fun hlt => ?_) (fun hge => ?_)
  · have hil : i < l := by omega
    refine Read_ok hB hil hm ?_
    have hy : bs.drop i ≠ [] := drop_ne (by omega)
    have hle := rd_le _ hy
    have hr4 := rd_four (bs.drop i)
    have hsl := stepL_le (value := value) hy
    have hrune := rd_rune (bs.drop i)
    have bad : ∀ (e : Nat) (w3 : World), e ≠ 0 → (stepL value (bs.drop i)).2.2 = e → Chg No w w3 → J ⟨#[]⟩ (i : Int) (e : Int) w3 := by
      intro e w3 he hs c3
      have := K w3 c3
      rw [hrd, readL_err hy (by rw [hs]; exact he), hs] at this
      exact this
    refine condB_eq (fun h1 => ?_) (fun h1 => ?_)
    · exact bad 20 w1 (by decide) (by unfold stepL; rw [if_pos (by omega)]) hc
    have h1 : ¬ (rd (bs.drop i)).2 = 0 := by omega
    refine Char_ok ?_
    refine condB_not (fun h2 => ?_) (fun h2 => ?_)
    · exact bad 21 w1 (by decide) (by unfold stepL; rw [if_neg h1, if_pos h2]) hc
    have h2' : ¬ chr ((rd (bs.drop i)).1 : Int) = false := by rw [h2]; decide
    refine withJ_i fun J63 hJ63 => ?_
    have k63 : ∀ (b : Bool), (b = true ↔ ((rd (bs.drop i)).1 = 60 ∨ (value = false ∧ [93, 93, 62].isPrefixOf (bs.drop i) = true))) → J63 b w1 := by
      intro b hb; subst hJ63
      refine meetI hb (fun hp => ?_) (fun hn => ?_)
      · exact bad 23 w1 (by decide) (by unfold stepL; rw [if_neg h1, if_neg h2', if_pos hp]) hc
      refine withJ_i fun J9 hJ9 => ?_
      have k9 : ∀ (r : Nat) (next : Int), bl (Utf8.encode (r : Int)) = (stepL value (bs.drop i)).1 → r ≤ 1114111 → (stepL value (bs.drop i)).2.2 = 0 → next = ((i + (stepL value (bs.drop i)).2.1 : Nat) : Int) → J9 (r : Int) next w1 := by
        intro r next hs hr11 h0 hnext; subst hJ9
        have ew : IntKind.i32.wrap (r : Int) = (r : Int) := wrap_i32 _ (by omega) (by omega)
        show cvStrJ Tryz.prog T_int32 T_string (.int .i32 (IntKind.i32.wrap (r : Int))) _ _
        rw [ew]
        refine cvRune2 ?_
        have hsz : (Utf8.encode (r : Int)).size = (stepL value (bs.drop i)).1.length := by rw [← bl_len, hs]
        have hpos := stepL_pos h0
        have hout := stepL_out h0
        refine cvBc fun b98 c98 w8 hB8 hle8 hc8 => ?_
        refine appG (w0 := w) (hr.chg hc8 (off_no _)) hB8 (by simp) (by omega) hf (hc.trans0 hc8) fun p' c' w9 hr9 hf9 hc9 => ?_
        refine ⟨_, ?_, i + (stepL value (bs.drop i)).2.1, out ++ (stepL value (bs.drop i)).1, hnext, by omega, rfl, ?_, ?_, ?_, hf9, hc9, ?_⟩
        · omega
        · rw [← hs]; exact hr9
        · rw [List.length_append, hsz]
        · rw [List.length_append]; omega
        · rw [hrd, readL_step hy h0, List.drop_drop]
      clear hJ9
      refine condB_eq (fun h38 => ?_) (fun h38 => ?_)
      · have h38' : (rd (bs.drop i)).1 = 38 := by omega
        have hst : stepL value (bs.drop i) = if (expL (bs.drop (i + 1))).2.2 = 0 then (encL (expL (bs.drop (i + 1))).1, 1 + (expL (bs.drop (i + 1))).2.1, 0) else ([], 0, (expL (bs.drop (i + 1))).2.2) := by
          unfold stepL; rw [if_neg h1, if_neg h2', if_neg hn, if_pos h38', List.drop_drop]
        refine RExpand_ok hB hlc hm hil ?_
        refine condB_ne (fun hne => ?_) (fun he => ?_)
        · have hne' : ¬ (expL (bs.drop (i + 1))).2.2 = 0 := by omega
          rw [if_neg hne'] at hst
          exact bad _ w1 hne' (by rw [hst]) hc
        · have he' : (expL (bs.drop (i + 1))).2.2 = 0 := by omega
          rw [if_pos he'] at hst
          have hcl := chr_le (expL_chr he')
          refine k9 _ _ ?_ (by omega) (by rw [hst]) ?_
          · rw [enc_chr (expL_chr he'), hst]
          · unfold endI; rw [if_pos he', hst, Nat.add_assoc]
      · have h38' : ¬ (rd (bs.drop i)).1 = 38 := by omega
        have ew : w64 ((i : Int) + ((rd (bs.drop i)).2 : Nat)) = ((i + (rd (bs.drop i)).2 : Nat) : Int) := by rw [w64_of] <;> omega
        rw [ew]
        refine withJ_i fun J58 hJ58 => ?_
        have k58 : ∀ b : Bool, (b = true ↔ (value = true ∧ ((rd (bs.drop i)).1 = 9 ∨ (rd (bs.drop i)).1 = 10 ∨ (rd (bs.drop i)).1 = 13))) → J58 b w1 := by
          intro b hb; subst hJ58
          refine meetI hb (fun hp => ?_) (fun hq => ?_)
          · have hst : stepL value (bs.drop i) = ([32], (rd (bs.drop i)).2, 0) := by
              unfold stepL; rw [if_neg h1, if_neg h2', if_neg hn, if_neg h38', if_pos hp]
            exact k9 32 _ (by rw [hst]; exact rune32) (by decide) (by rw [hst]) (by rw [hst])
          · have hst : stepL value (bs.drop i) = (encL (rd (bs.drop i)).1, (rd (bs.drop i)).2, 0) := by
              unfold stepL; rw [if_neg h1, if_neg h2', if_neg hn, if_neg h38', if_neg hq]
            exact k9 _ _ (by rw [hst, enc_chr h2]) hrune (by rw [hst]) (by rw [hst])
        clear hJ58
        refine condB_i (fun hv => ?_) (fun hv => k58 _ (bF (by simp [hv])))
        refine condB_eq (fun h => k58 _ (bT ⟨hv, by omega⟩)) (fun g1 => ?_)
        refine condB_eq (fun h => k58 _ (bT ⟨hv, by omega⟩)) (fun g2 => ?_)
        exact k58 _ (bQ ⟨fun h => ⟨hv, by omega⟩, fun h => by have := h.2; omega⟩)
    clear hJ63
    refine condB_eq (fun h => k63 _ (bT (.inl (by omega)))) (fun g1 => ?_)
    have g1' : ¬ (rd (bs.drop i)).1 = 60 := by omega
    refine condB_not (fun hv => ?_) (fun hv => k63 _ (bF (by rw [hv]; simp; exact g1')))
    have hz : (bs.drop i)[0]? = some 93 ↔ (rd (bs.drop i)).1 = 93 := rd_head_iff (c := 93) hy h1 (by decide)
    have no : ∀ {x : Nat} {d : UInt8}, (bs.drop i)[x]? ≠ some d → ([93, 93, 62].isPrefixOf (bs.drop i) = true → (bs.drop i)[x]? = some d) → ¬ ((rd (bs.drop i)).1 = 60 ∨ (value = false ∧ [93, 93, 62].isPrefixOf (bs.drop i) = true)) := by
      intro x d hne himp h
      rcases h with h | h
      · exact g1' h
      · exact hne (himp h.2)
    refine condB_eq (fun h93 => ?_) (fun h93 => ?_)
    · have h0 := hz.2 (by omega)
      have e2 : w64 ((i : Int) + 2) = ((i + 2 : Nat) : Int) := by rw [w64_of] <;> omega
      have e1 : w64 ((i : Int) + 1) = ((i + 1 : Nat) : Int) := by rw [w64_of] <;> omega
      rw [e1, e2]
      refine condB_d (fun hlt2 => ?_) (fun hge2 => ?_)
      · refine byte_i hB (by omega) (by omega) fun c1 hc1 => ?_
        rw [Int.toNat_natCast] at hc1
        refine condB_eq (fun hq => ?_) (fun hq => ?_)
        · obtain rfl : c1 = 93 := u8of 93 hq
          refine byte_i hB (by omega) (by omega) fun c2 hc2 => ?_
          rw [Int.toNat_natCast] at hc2
          refine k63 _ ?_
          rw [beq_iff_eq]
          constructor
          · intro hq2
            obtain rfl : c2 = 62 := u8of 62 hq2
            exact .inr ⟨hv, pre_three.2 ⟨h0, by rw [drop_get]; exact hc1, by rw [drop_get]; exact hc2⟩⟩
          · rintro (h | h)
            · exact absurd h g1'
            · have := (pre_three.1 h.2).2.2
              rw [drop_get, hc2] at this
              obtain rfl := Option.some.inj this
              rfl
        · refine k63 _ (bF (no (x := 1) (d := 93) ?_ fun h => (pre_three.1 h).2.1))
          rw [drop_get, hc1]
          intro e; obtain rfl := Option.some.inj e; exact hq rfl
      · refine k63 _ (bF (no (x := 2) (d := 62) ?_ fun h => (pre_three.1 h).2.2))
        rw [drop_get, List.getElem?_eq_none (by omega)]; simp
    · refine k63 _ (bF (no (x := 0) (d := 93) ?_ fun h => (pre_three.1 h).1))
      rw [Ne, hz]; omega
  · have hil : i = l := by omega
    subst hil
    rw [List.drop_of_length_le (by omega), readL_nil] at hrd
    refine bytesOf_i hr.bytes ?_
    have := K w1 hc
    rw [hrd] at this
    exact this
theorem ReferReads_ok {b : BV} (T : Tabs w) (hb : b.Ok w) :
    callJ Tryz.prog fn_law02_ReferReads #[.slice b.p b.l b.c] w [.one .bool] fun r w' => r = true ∧ Chg No w w' := by
  refine c_law02_ReferReads ?_
  unfold VC_law02_ReferReads
  have hm := hb.fits
  have hbl := hb.is.len
  refine awake02_ok T fun w1 hc1 => ?_
  refine condB_i (fun h => by simp at h) fun _ => ?_
  refine Spare_ok (hb.is.chg hc1 (off_no _)) hb.nil (by omega) fun p2 c2 w2 hr2 hf2 hc2 => ?_
  have c02 := hc1.trans0 hc2
  have hB : ∀ {wx : World}, Row wx T_uint8 1 p2 (b.l + 1) c2 (bcells (b.bs ++ [165])) → Bytes wx p2 b.l b.bs := by
    intro wx hx
    have := hx.bytes
    refine ⟨by simp [bcells, hbl], ?_⟩
    rcases this.2 with h0 | ⟨a, ha, hcs⟩
    · omega
    · refine .inr ⟨a, ha, fun j v hv => hcs j v ?_⟩
      unfold bcells at hv ⊢
      rw [List.map_append, List.getElem?_append_left (by have := (List.getElem?_eq_some_iff.1 hv).1; exact this)]
      exact hv
  have hle := hr2.le.1
  refine ReadText_ok (hB hr2) (by omega) (by omega) (T.chg c02) fun w3 hc3 => ?_
  have c03 := c02.trans0 hc3
  have hr3 := hr2.chg hc3 (off_no _)
  refine RRead_ok (hb.is.chg c03 (off_no _)) hb.cap (by omega) fun w4 hc4 => ?_
  have c04 := c03.trans0 hc4
  have hr4 := hr3.chg hc4 (off_no _)
  refine ReadValue_ok (hB hr4) (by omega) (by omega) (T.chg c04) fun w5 hc5 => ?_
  have c05 := c04.trans0 hc5
  have hr5 := hr4.chg hc5 (off_no _)
  refine RRead_ok (hb.is.chg c05 (off_no _)) hb.cap (by omega) fun w6 hc6 => ?_
  have c06 := c05.trans0 hc6
  have hr6 := hr5.chg hc6 (off_no _)
  refine withJ_i fun J2 hJ2 => ?_
  subst hJ2
  simp only [beqS, decide_true, beq_self_eq_true]
  refine condB_i (fun _ => ?_) (fun h => by cases h)
  refine condB_i (fun _ => ?_) (fun h => by cases h)
  refine condB_i (fun _ => ?_) (fun h => by cases h)
  refine condB_i (fun _ => ?_) (fun h => by cases h)
  refine condB_i (fun _ => ?_) (fun h => by cases h)
  refine condB_i (fun _ => ?_) (fun h => by cases h)
  refine Kept_ok hr6 (hb.is.chg c06 (off_no _)) hbl ?_
  exact ⟨decide_eq_true rfl, c06⟩
end
end Go.Proofs.YtdjehimkijlhgaaGreatDoor

