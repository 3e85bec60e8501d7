/-
  Chapter 15: 'SheetPuts', the whole.
-/
import Derived.Test.YtgplflecgnldeaaPutsLaw
namespace Go.Proofs.Ytgplflecgnldeaa
open Go Go.Vc

set_option maxRecDepth 20000 in
theorem SheetPuts_ok {w : World} {n : Int} {ops : SlV OpV} {heads : SlV Int} (hn : InI n) (hops : OpsOk w ops) (hheads : IntsOk w heads) :
    callJ Try.prog fn_law15_SheetPuts #[.int .i64 n, .slice ops.p ops.l ops.c, .slice heads.p heads.l heads.c] w [.one .bool] fun r w' => r = true ∧ Chg No w w' := by
  refine c_law15_SheetPuts ?_
  unfold VC_law15_SheetPuts
  rw [zeroC_head, zeroC_rhead]
  refine awake15_ok fun w1 hc1 => ?_
  refine condB_i (fun h => by simp at h) fun _ => ?_
  refine withJ_i fun J45 hJ45 => ?_
  have bad : J45 true w1 := by
    subst hJ45
    exact condB_i (fun _ => Put_nil ⟨rfl, hc1⟩) (fun h => by simp at h)
  suffices go : 1 ≤ n → n ≤ 400 → J45 false w1 by
    clear hJ45
    refine condB_d (fun _ => bad) (fun q1 => ?_)
    by_cases q2 : n > 400
    · rw [decide_eq_true q2]; exact bad
    · rw [decide_eq_false q2]; exact go (by omega) (by omega)
  intro q1 q2
  clear bad
  obtain ⟨N, rfl⟩ := Int.eq_ofNat_of_zero_le (a := n) (by omega)
  subst hJ45
  refine condB_i (fun h => by simp at h) fun _ => ?_
  refine New_own (by omega) (by omega) hc1 fun w2 d F h2 hc2 hf2 => ?_
  rw [Int.toNat_natCast] at h2
  have hlen0 : (DS.new N).safe.length = N := by simp [DS.new]
  refine withJ_i fun J59 hJ59 => ?_
  subst hJ59
  refine condB_ne (fun h => absurd rfl h) fun _ => condB_i (fun h => by simp at h) fun _ => ?_
  refine RDraft_ok hn ?_
  have hp := plan_of (N := N) (by omega)
  generalize (draftM (N : Int)).1 = lg at *
  generalize (draftM (N : Int)).2.1 = base at *
  generalize (draftM (N : Int)).2.2.1 = pages at *
  generalize (draftM (N : Int)).2.2.2 = ok at *
  have e64 : w64 ((64 : Int) * (N : Int)) = ((64 * N : Nat) : Int) := by rw [w64_of] <;> omega
  rw [e64, Int.toNat_natCast, zeroC_u8]
  refine (Hp.start w2 No).mkS rfl (by omega) (by omega) (by omega) (by omega) fun b69 w3 H3 hb3 hc3 => ?_
  have ez : (List.replicate (((64 * N : Nat) : Int)).toNat (#[.int .u8 0] : Array Value).toList).flatten = bcells (DS.new N).now.flatten := by
    have e1 : (DS.new N).now.flatten = List.replicate (64 * N) 0 := by
      show (List.replicate N (List.replicate 64 0)).flatten = _
      rw [List.flatten_replicate_replicate, Nat.mul_comm]
    rw [e1, Int.toNat_natCast, List.flatten_replicate_singleton]; simp [bcells]
  rw [ez] at H3
  refine H3.newB fun b14 w4 H4 hb4 hc4 => ?_
  refine H4.stN 0 rfl (off := 0) rfl (by decide) (one1_ints2 _ _ _ _) fun w5 H5 hc5 => ?_
  have h5 := h2.step0 H5.chg
  have P5 : PS w w5 d b69 b14 (DS.new N).now.flatten ⟨0, 0, 0⟩ F (DS.new N) := ⟨h5, Calm.new _, H5.get 1 rfl, by simpa [splice] using H5.get 0 rfl, Nat.le_trans h2.chg.size hb3, Nat.le_trans h2.chg.size (Nat.le_trans hc3.size hb4)⟩
  have hl5 : (DS.new N).loose.length = 0 := rfl
  generalize DS.new N = D5 at *
  have flen : ∀ {D : DS} {hd F w'}, PS w w' d b69 b14 D.now.flatten hd F D → D.safe.length = N → D.now.flatten.length = 64 * N := fun {D _ _ _} h hl => by
    rw [flat_len _ h.own.at_.ok.now, D.now_len, hl]
  refine withJ_i fun J0 hJ0 => ?_
  -- behind the pages that are put
  have rest1 : ∀ w' F D, PS w w' d b69 b14 D.now.flatten ⟨0, 0, 0⟩ F D → D.safe.length = N → D.loose.length ≤ 400 → J0 w' := by
    intro w' F D h hlen hloose
    subst hJ0
    refine withJ_i fun J01 hJ01 => ?_
    have rest2 : ∀ w' F D, PS w w' d b69 b14 D.now.flatten ⟨0, 0, 0⟩ F D → D.safe.length = N → J01 w' := by
      intro w' F D h hlen
      have hW := flen h hlen
      have hnl := D.now_len
      subst hJ01
      refine ⟨fun x w3 m => ∃ i : Nat, x = i ∧ i ≤ 2 ∧ m = 2 - i ∧ PS w w3 d b69 b14 D.now.flatten (bstN D.now N i) F D, ⟨_, 0, rfl, by decide, rfl, h⟩, ?_⟩
      rintro x w3 m ⟨i, rfl, hi, rfl, h3⟩
      refine condB_d (fun hlt => ?_) (fun hlt => ?_)
      · refine withJ_i fun J02 hJ02 => ?_
        have em : (if w64 ((N : Int) - 1) < (i : Int) then w64 ((N : Int) - 1) else (i : Int)) = ((min i (N - 1) : Nat) : Int) := by
          rw [w64_of (by omega) (by omega)]; split <;> omega
        rw [em]
        generalize hmm : min i (N - 1) = mm at *
        have eo : w64 ((64 : Int) * (mm : Int)) = ((64 * mm : Nat) : Int) := by rw [w64_of] <;> omega
        rw [eo]
        have eo2 : w64 (((64 * mm : Nat) : Int) + 64) = ((64 * mm + 64 : Nat) : Int) := by rw [w64_of] <;> omega
        rw [eo2]
        have hrow := h3.row (by omega)
        rw [hW] at hrow
        refine cutB hrow.bytes (i := 64 * mm) (j := 64 * mm + 64) (by omega) (by omega) (Nat.le_refl _) rfl rfl fun q4 hq4 _ => ?_
        obtain ⟨y, hy⟩ : ∃ y, D.now[mm]? = some y := ⟨D.now[mm]'(by omega), List.getElem?_eq_getElem (by omega)⟩
        rw [show 64 * mm + 64 - 64 * mm = 64 by omega, flat_get h.own.at_.ok.now hy] at hq4
        rw [show 64 * mm + 64 - 64 * mm = 64 by omega]
        have hstep : bstN D.now N (i + 1) = bestM (bstN D.now N i) y := by
          show bestM (bstN D.now N i) ((D.now[min i (N - 1)]?).getD []) = _
          rw [hmm, hy]; rfl
        generalize bstN D.now N i = B at *
        refine RTakeHead_ok hq4 (by omega) fun w5 hc5 => ?_
        refine (Hp.of_chg hc5).newB fun b6 w6 H6 hb6 hc6 => ?_
        refine H6.stN 0 rfl (off := 0) rfl (by decide) (one1_ints2 _ _ _ _) fun w7 H7 hc7 => ?_
        have P7 := h3.step0 H7.chg
        refine withJ_i fun J191 hJ191 => ?_
        have keep : ¬ ((takeHeadM y).e = 0 ∧ B.g < (takeHeadM y).g) → J191 false w7 := by
          intro hn
          subst hJ191
          refine condB_i (fun h => by simp at h) fun _ => ?_
          subst hJ02
          refine ⟨2 - (i + 1), by omega, i + 1, by rw [w64_of] <;> omega, by omega, rfl, ?_⟩
          rw [hstep]; unfold bestM; rw [if_neg hn]; exact P7
        have take : ((takeHeadM y).e = 0 ∧ B.g < (takeHeadM y).g) → J191 true w7 := by
          intro hn
          subst hJ191
          refine condB_i (fun _ => ?_) (fun h => by simp at h)
          refine H7.ldI 0 rfl (off := 0) rfl (H7.ldI 0 rfl (off := 1) rfl ?_)
          refine P7.head ⟨(takeHeadM y).g, (takeHeadM y).s, 0⟩ fun w8 P8 hc8 => ?_
          subst hJ02
          refine ⟨2 - (i + 1), by omega, i + 1, by rw [w64_of] <;> omega, by omega, rfl, ?_⟩
          rw [hstep]; unfold bestM; rw [if_pos hn]; exact P8
        clear hJ191
        refine condB_eq (fun he => ?_) (fun he => keep fun h => he h.1)
        refine H7.ldI 0 rfl (off := 0) rfl (P7.lastG ?_)
        by_cases hgt : (takeHeadM y).g > B.g
        · rw [decide_eq_true hgt]; exact take ⟨he, hgt⟩
        · rw [decide_eq_false hgt]; exact keep fun h => hgt h.2
      · have hi2 : i = 2 := by omega
        subst hi2
        refine GetHead_own h3.own h3.calm fun w4 j4 h4 hc4 => ?_
        have P4 := h3.upd h4 hc4 (took_calm h3.calm j4)
        rw [hlen]
        refine (Hp.start w4 No).newB fun b5 w5 H5 _ _ => ?_
        refine H5.stN 0 rfl (off := 0) rfl (by decide) (one1_ints2 _ _ _ _) fun w6 H6 _ => ?_
        have P6 := P4.step0 H6.chg
        refine withJ_i fun J237 hJ237 => ?_
        have pg : J237 false w6 := by
          subst hJ237
          refine condB_i (fun h => by simp at h) fun _ => ?_
          have P6' : PS w w6 d b69 b14 (D.took j4).now.flatten (bstN D.now N 2) F (D.took j4) := by rw [took_now]; exact P6
          exact puts_pages (J := fun r w' => r = true ∧ Chg No w w') hp (by omega) (by omega) P6' (by rw [took_safe]; exact hlen) fun w7 hc => ⟨rfl, hc⟩
        clear hJ237
        cases ok with
        | true =>
          obtain ⟨g1, g2, g3⟩ := hp.good rfl
          obtain ⟨k1, k2, k3, k4⟩ := got_ok (now := D.now) g1
          have k0 := (bstN_g D.now N 2).2
          generalize getHeadM (N : Int) D.now = H at *
          generalize bstN D.now N 2 = B at *
          refine condB_i (fun _ => ?_) (fun h => by simp at h)
          refine H6.ldI 0 rfl (off := 0) rfl (P6.lastG ?_)
          refine condB_ne (fun h => absurd k1 h) fun _ => ?_
          refine H6.ldI 0 rfl (off := 1) rfl (P6.lastS ?_)
          refine condB_ne (fun h => absurd (by rw [k2]) h) fun _ => ?_
          refine P6.lastG ?_
          have e3 : (H.e == 0) = decide (B.g > 0) := by rw [Bool.eq_iff_iff, beq_iff_eq, decide_eq_true_iff, k3]
          rw [e3]
          refine condB_i (fun h => by simp at h) fun _ => ?_
          refine condB_ne (fun hne => ?_) (fun _ => ?_)
          · refine condB_ne (fun h => absurd (k4.resolve_left hne) h) fun _ => ?_
            exact condB_i (fun h => by simp at h) fun _ => pg
          · exact condB_i (fun h => by simp at h) fun _ => pg
        | false =>
          have hbadN := (hp.bad rfl).1
          have eH : getHeadM (N : Int) D.now = ⟨0, 0, 1⟩ := by unfold getHeadM; rw [if_pos (by omega)]
          rw [eH]
          refine condB_i (fun h => by simp at h) (fun _ => ?_)
          exact condB_i (fun _ => pg) (fun h => by simp at h)
    clear hJ01
    have hcap := hheads.cap
    have hmx := hheads.max
    simp only [maxLen] at hmx
    refine ⟨fun x w' m => ∃ (i : Nat) (F : List Nat) (D : DS), x = i ∧ i ≤ heads.l ∧ i ≤ 10 ∧ m = heads.l - i ∧ PS w w' d b69 b14 D.now.flatten ⟨0, 0, 0⟩ F D ∧ D.safe.length = N ∧ D.loose.length ≤ 400 + i,
      ⟨_, 0, F, D, rfl, Nat.zero_le _, by decide, rfl, h, hlen, by omega⟩, ?_⟩
    rintro x w3 m ⟨i, F, D, rfl, hi, hi10, rfl, h3, hlen, hloose⟩
    have hW := flen h3 hlen
    have hnl := D.now_len
    refine condB_d (fun hlt => ?_) (fun _ => rest2 _ _ _ h3 hlen)
    refine withJ_i fun J03 hJ03 => ?_
    have next : ∀ w' F D, i < 10 → PS w w' d b69 b14 D.now.flatten ⟨0, 0, 0⟩ F D → D.safe.length = N → D.loose.length ≤ 400 + (i + 1) → J03 w' := by
      intro w' F D h10 hP hl hlo
      subst hJ03
      exact ⟨heads.l - (i + 1), by omega, i + 1, F, D, by rw [w64_of] <;> omega, by omega, by omega, rfl, hP, hl, by omega⟩
    clear hJ03
    refine idx_rows (hheads.sl.chg h3.chg (off_no _)) hheads.even (by decide) (by omega) (by omega) fun a g _ hg hcells => ?_
    refine ldI_i (n := g) (by have := hcells 0 _ rfl; rwa [add_zero'] at this) ?_
    have hgI := hheads.all g (List.mem_of_getElem? hg)
    refine condB_d (fun _ => rest2 _ _ _ h3 hlen) (fun h10 => ?_)
    rw [wrap_u64_nat (by omega)]
    refine RLayHead_ok (by omega) fun q4 c4 w4 hr4 hf4 hc4 => ?_
    have P4 := h3.step0 hc4
    refine withJ_i fun J22 hJ22 => ?_
    have put22 : ∀ f : Int, (f = if ok = true then (layHeadM g i).e else 1) → J22 f w4 := by
      intro f hf
      subst hJ22
      refine PutHead_own P4.own (by omega) fun w5 F5 h5 hc5 hF5 => ?_
      by_cases hgood : ok = true ∧ ¬ badG g
      · obtain ⟨hok, hgd⟩ := hgood
        obtain ⟨g1, g2, g3⟩ := hp.good hok
        have eL : layHeadM g i = ⟨headS g.toNat i, 0⟩ := by unfold layHeadM; rw [if_neg hgd]
        rw [if_pos hok, eL] at hf
        subst hf
        rw [eL] at hr4
        rw [eL]
        dsimp only at hr4 ⊢
        have hgd' := hgd
        unfold badG at hgd'
        obtain ⟨gn, rfl⟩ := Int.eq_ofNat_of_zero_le (a := g) (by omega)
        rw [Int.toNat_natCast] at hr4 ⊢
        have eP : putHeadM D (gn : Int) i = ⟨{ D with steps := w64 (D.steps + 1), loose := D.loose ++ [(gn % 2, headS gn i)] }, 0⟩ := by
          unfold putHeadM
          rw [if_neg (by rintro (h | h); omega; exact hgd h), Int.toNat_natCast, show (gn : Int) % 2 = ((gn % 2 : Nat) : Int) by omega, h3.calm.write (by omega) headS_len]
        rw [eP] at h5 ⊢
        dsimp only at h5 ⊢
        refine condB_ne (fun h => absurd rfl h) fun _ => condB_eq (fun _ => ?_) fun h => absurd rfl h
        refine ⟨by decide, ?_⟩
        have P5 := P4.upd h5 hc5 (show Calm { D with steps := w64 (D.steps + 1), loose := D.loose ++ [(gn % 2, headS gn i)] } from h3.calm)
        have em : Int.tmod (gn : Int) 2 = ((gn % 2 : Nat) : Int) := by rw [Int.tmod_eq_emod_of_nonneg (by omega)]; omega
        rw [em]
        have eo : w64 ((64 : Int) * ((gn % 2 : Nat) : Int)) = ((64 * (gn % 2) : Nat) : Int) := by rw [w64_of] <;> omega
        rw [eo, headS_len] at *
        have hr5 := hr4.chg hc5 (P4.own.at_.rowOff hr4 nd_u8)
        refine P5.copy hW hr5.bytes (fun h => absurd (hr5.none0 h) (by decide)) (by omega) (by decide) fun _ w6 P6 hc6 => ?_
        have hwr : Wrote D { D with steps := w64 (D.steps + 1), loose := D.loose ++ [(gn % 2, headS gn i)] } (gn % 2) [headS gn i] := ⟨h3.calm, rfl, by rw [now_snoc, putAt_one (by omega)], by simp⟩
        have hfl := wrote_flat h3.own.at_.ok hwr (by intro s hs; simp only [List.mem_singleton] at hs; subst hs; exact headS_len) (List.flatten_singleton)
        rw [headS_len] at hfl
        rw [hfl] at P6
        exact next w6 F5 _ (by omega) P6 hlen (by simp; omega)
      · have hf1 : f = 1 := by
          rw [hf]
          split
          · next hok => unfold layHeadM; rw [if_pos (Decidable.not_not.1 fun h => hgood ⟨hok, h⟩)]
          · rfl
        subst hf1
        have eP : putHeadM D g i = ⟨D, 1⟩ := by
          unfold putHeadM
          rw [if_pos ?_]
          cases hok : ok with
          | true => exact .inr (Decidable.not_not.1 fun h => hgood ⟨hok, h⟩)
          | false => left; have := hp.bad hok; omega
        rw [eP] at h5 ⊢
        refine condB_ne (fun h => absurd rfl h) fun _ => condB_eq (fun h => absurd h (by decide)) fun _ => ?_
        exact next w5 F5 D (by omega) (P4.upd h5 hc5 h3.calm) hlen (by omega)
    clear hJ22
    cases hok : ok with
    | true => exact condB_i (fun h => by simp at h) fun _ => put22 _ (by rw [if_pos hok])
    | false => exact condB_i (fun _ => put22 1 (by rw [if_neg (by rw [hok]; simp)])) (fun h => by simp at h)
  clear hJ0
  have hcap := hops.cap
  have hmx := hops.max
  simp only [maxLen] at hmx
  refine ⟨fun x w' m => ∃ (i : Nat) (F : List Nat) (D : DS), x = i ∧ i ≤ ops.l ∧ i ≤ 40 ∧ m = ops.l - i ∧ PS w w' d b69 b14 D.now.flatten ⟨0, 0, 0⟩ F D ∧ D.safe.length = N ∧ D.loose.length ≤ 8 * i,
    ⟨_, 0, F, D5, rfl, Nat.zero_le _, by decide, rfl, P5, hlen0, by omega⟩, ?_⟩
  rintro x w3 m ⟨i, F, D, rfl, hi, hi40, rfl, h3, hlen, hloose⟩
  have hW := flen h3 hlen
  have hnl := D.now_len
  refine condB_d (fun hlt => ?_) (fun _ => rest1 _ _ _ h3 hlen (by omega))
  refine withJ_i fun J04 hJ04 => ?_
  have next : ∀ w' F D, i < 40 → PS w w' d b69 b14 D.now.flatten ⟨0, 0, 0⟩ F D → D.safe.length = N → D.loose.length ≤ 8 * (i + 1) → J04 w' := by
    intro w' F D h10 hP hl hlo
    subst hJ04
    exact ⟨ops.l - (i + 1), by omega, i + 1, F, D, by rw [w64_of] <;> omega, by omega, by omega, rfl, hP, hl, by omega⟩
  clear hJ04
  refine pickOp hops h3.chg (by omega) (by omega) fun o b w4 ho hok H4 hb4 hc4 => ?_
  have P4 := h3.step0 hc4
  refine condB_d (fun _ => rest1 _ _ _ P4 hlen (by omega)) (fun h40 => ?_)
  obtain ⟨st, hst, hst2⟩ := hok.stamp
  have hbl := hok.p.is.len
  have H4c : ∀ v k, (opCells o)[k]? = some v → ∀ {w'}, Chg No w4 w' → w'.cell? ⟨b, k, none⟩ = some v := by
    intro v k hv w' hc
    have H := H4.step0 hc
    exact H.cell 0 rfl hv
  refine H4.ldI 0 rfl (off := 0) rfl (H4.ldI 0 rfl (off := 1) rfl (H4.ldS 0 rfl (off := 2) rfl ?_))
  rw [hst]
  refine RLay_ok hst2 (hok.p.is.chg P4.chg (off_no _)) fun q5 c5 w5 hr5 hf5 hc5 => ?_
  have P5 := P4.step0 hc5
  have hcell : o.stamp = (st : Int) := hst
  refine withJ_i fun J17 hJ17 => ?_
  -- what the drum is behind Put
  have after : ∀ (bp : Option Addr) (bl bc : Nat) (f : Int), ((whereM N o.n).e ≠ 0 ∧ f = 1 ∨ (whereM N o.n).e = 0 ∧ f = (layM o.n st o.p.bs).e ∧ bp = q5 ∧ bl = (layM o.n st o.p.bs).b.length ∧ bc = c5) → J17 bp bl bc f w5 := by
    intro bp bl bc f hf
    subst hJ17
    have H5 := H4.step0 hc5
    refine H5.ldI 0 rfl (off := 0) rfl (H5.ldI 0 rfl (off := 1) rfl (H5.ldS 0 rfl (off := 2) rfl ?_))
    rw [hst]
    refine Put_own P5.own P5.calm hok.n hst2 (hok.p.is.chg P5.chg (off_no _)) hok.p.nil (by omega) fun w6 F6 D6 e h6 hc6 hF6 ho6 => ?_
    rw [← hlen] at hf
    have hb6 : w6.heap[b]? = some (.cells ⟨opCells o⟩ T_law15_Op (0, 0)) := hc6.heap (H5.get 0 rfl) (P5.own.at_.apart (typ_of (H5.get 0 rfl)) ⟨by decide, by decide, by decide⟩)
    cases ho6 with
    | no hw =>
      have hf1 : f = 1 := by
        rcases hf with ⟨_, h⟩ | ⟨h, _⟩
        · exact h
        · exact absurd h hw
      subst hf1
      refine condB_ne (fun h => absurd rfl h) fun _ => condB_eq (fun h => absurd h (by decide)) fun _ => ?_
      exact next w6 F6 D (by omega) (P5.upd h6 hc6 P5.calm) hlen (by omega)
    | lay hw he =>
      have hf1 : f = (layM o.n st o.p.bs).e := by
        rcases hf with ⟨h, _⟩ | ⟨_, h, _⟩
        · exact absurd hw h
        · exact h
      subst hf1
      refine condB_ne (fun h => absurd rfl h) fun _ => condB_eq (fun h => absurd h he) fun _ => ?_
      exact next w6 F6 D (by omega) (P5.upd h6 hc6 P5.calm) hlen (by omega)
    | done _ at_ hw he hat hwr =>
      obtain ⟨hf1, rfl, rfl, rfl⟩ : f = (layM o.n st o.p.bs).e ∧ bp = q5 ∧ bl = (layM o.n st o.p.bs).b.length ∧ bc = c5 := by
        rcases hf with ⟨h, _⟩ | ⟨_, h⟩
        · exact absurd hw h
        · exact h
      rw [he] at hf1
      subst hf1
      have hl512 := layM_ok he
      rw [hlen] at hw hat
      have hab := hp.at_ hw
      obtain ⟨a', ha', ha8, hn0, _⟩ := whereM_at hw
      have haa : at_ = a' := by rw [hat] at ha'; omega
      subst haa
      rw [hat] at hab
      refine condB_ne (fun h => absurd rfl h) fun _ => condB_eq (fun _ => ?_) fun h => absurd rfl h
      refine ldI_i (n := o.n) (by rw [cell_of_row w6 b 0 _ _ (0, 0) hb6]; rfl) ?_
      have eo : w64 ((64 : Int) * w64 (base + w64 ((8 : Int) * o.n))) = ((64 * at_ : Nat) : Int) := by
        rw [w64_of (n := (8 : Int) * o.n) (by omega) (by omega), w64_of (n := base + 8 * o.n) (by omega) (by omega), w64_of] <;> omega
      rw [eo]
      have P6 := P5.upd h6 hc6 hwr.calm
      have hr6 := hr5.chg hc6 (P5.own.at_.rowOff hr5 nd_u8)
      rw [hl512] at hr6 ⊢
      refine P6.copy hW hr6.bytes (fun h => absurd (hr6.none0 h) (by decide)) (by omega) (by decide) fun _ w7 P7 hc7 => ?_
      have hfl := wrote_flat h3.own.at_.ok hwr (chunks_64 hl512) (chunks_flat hl512)
      rw [hl512] at hfl
      rw [hfl] at P7
      refine next w7 F6 D6 (by omega) P7 (by rw [hwr.safe]; exact hlen) ?_
      rw [hwr.loose, chunks_len]; omega
  clear hJ17
  refine withJ_i fun J102 hJ102 => ?_
  have yes : (whereM N o.n).e ≠ 0 → J102 true w5 := by
    intro h
    subst hJ102
    exact condB_i (fun _ => after none 0 0 1 (.inl ⟨h, rfl⟩)) (fun h => by simp at h)
  have no : (whereM N o.n).e = 0 → J102 false w5 := by
    intro h
    subst hJ102
    exact condB_i (fun h => by simp at h) fun _ => after _ _ _ _ (.inr ⟨h, rfl, rfl, rfl, rfl⟩)
  clear hJ102
  have hwh := hp.where_ o.n
  have H5 := H4.step0 hc5
  refine condB_i (fun hno => ?_) (fun hyes => ?_)
  · exact yes fun h => by have := (hwh.1 h).1; rw [this] at hno; simp at hno
  · have hok' : ok = true := by simpa using hyes
    refine H5.ldI 0 rfl (off := 0) rfl ?_
    refine condB_d (fun hneg => yes fun h => by have := (hwh.1 h).2.1; omega) (fun hneg => ?_)
    refine H5.ldI 0 rfl (off := 0) rfl ?_
    by_cases hge : o.n ≥ pages
    · rw [decide_eq_true hge]; exact yes fun h => by have := (hwh.1 h).2.2; omega
    · rw [decide_eq_false hge]; exact no (hwh.2 ⟨hok', by omega, by omega⟩)

end Go.Proofs.Ytgplflecgnldeaa

