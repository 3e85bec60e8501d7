/-
  Chapter 14: 'TapeTurns'.
-/
import Derived.Test.YtfhmnodoahcmnaaScan
import Derived.Test.YtfhmnodoahcmnaaSums
namespace Go.Proofs.Ytfhmnodoahcmnaa
open Go Go.Vc

def endsOf : Nat → List (List UInt8) → List Nat
  | _, [] => []
  | p, x :: r => (p + nsec x.length) :: endsOf (p + nsec x.length) r
theorem endsOf_len : ∀ (gs : List (List UInt8)) (p : Nat), (endsOf p gs).length = gs.length
  | [], _ => rfl
  | x :: r, p => by simp [endsOf, endsOf_len r]
theorem endsOf_snoc : ∀ (gs : List (List UInt8)) (p : Nat) (x : List UInt8), endsOf p (gs ++ [x]) = endsOf p gs ++ [p + secsOf gs + nsec x.length]
  | [], p, x => by simp [endsOf, secsOf]
  | y :: r, p, x => by
    rw [List.cons_append, endsOf, endsOf, endsOf_snoc r]
    simp [secsOf]; omega
theorem endsOf_get : ∀ (gs : List (List UInt8)) (p i v : Nat), (endsOf p gs)[i]? = some v → v = p + secsOf (gs.take (i + 1))
  | [], p, i, v, h => by simp [endsOf] at h
  | x :: r, p, 0, v, h => by simp [endsOf] at h; subst h; simp [secsOf]
  | x :: r, p, i + 1, v, h => by
    simp only [endsOf, List.getElem?_cons_succ] at h
    have := endsOf_get r _ _ _ h
    simp [secsOf] at this ⊢; omega
/-- The groups that end within 'q' sectors are counted one by one. -/
theorem cnt_spec : ∀ (gs : List (List UInt8)) (q i : Nat), (i < cnt gs q ↔ i < gs.length ∧ secsOf (gs.take (i + 1)) ≤ q)
  | [], q, i => by simp [cnt]
  | x :: r, q, 0 => by
    simp only [cnt]
    split
    · next h => simp [secsOf, h]
    · next h => simp [secsOf, h]
  | x :: r, q, i + 1 => by
    simp only [cnt]
    split
    · next h =>
      have := cnt_spec r (q - nsec x.length) i
      simp only [List.take_succ_cons, secsOf, List.map_cons, List.sum_cons, List.length_cons] at this ⊢
      omega
    · next h =>
      simp only [List.take_succ_cons, secsOf, List.map_cons, List.sum_cons, List.length_cons]
      omega

theorem slT_int : SlT Try.prog T_sl_int T_int 1 8 #[.int .i64 0] := SlT.of (by kernel_rfl) (by kernel_rfl) rfl (by decide)
def n1 (n : Nat) : List Value := [.int .i64 n]
theorem even_n1 (L : List Nat) : Even n1 1 L := fun _ _ => rfl
theorem one1_n1 (L : List Nat) : one1 (rows n1 L) := one1_rows fun x _ => by intro v hv; simp only [n1, List.mem_singleton] at hv; subst hv; rfl
theorem nd_int : notDrum T_int := ⟨by decide, by decide, by decide⟩

theorem now_putAt_zeros {L zs : List (List UInt8)} {G : List (List UInt8)} {k : Nat} (hz : zs = List.replicate k zsec) (_ : G.length ≤ k) : putAt (L ++ zs) L.length G = (L ++ G) ++ List.replicate (k - G.length) zsec := by
  subst hz
  unfold putAt
  rw [List.take_left, List.drop_append, List.drop_of_length_le (by omega)]
  simp

set_option maxRecDepth 20000 in
theorem TapeTurns_ok {w : World} {groups : SlV BV} {at_ by_ : Int} (hg : BVsOk w groups) (_ : InI at_) (hby : InB by_) :
    callJ Try.prog fn_law14_TapeTurns #[.slice groups.p groups.l groups.c, .int .i64 at_, .int .u8 by_] w [.one .bool] fun r w' => r = true ∧ Chg No w w' := by
  refine c_law14_TapeTurns ?_
  unfold VC_law14_TapeTurns
  obtain ⟨y, rfl⟩ := hby
  refine awake14_ok fun w1 hc1 => ?_
  refine condB_i (fun h => by simp at h) fun _ => ?_
  refine New_own (by decide) (by decide) hc1 fun w2 d F h2 hc2 hf2 => ?_
  refine withJ_i fun J34 hJ34 => ?_
  subst hJ34
  refine condB_i (fun h => by simp at h) fun _ => condB_i (fun h => by simp at h) fun _ => ?_
  refine TOpen_none (lo := 0) (hi := 60) (gen := 3) h2 (Calm.new _) (by decide) (by decide) (by decide) (by decide) (opened_new (by decide) (by decide)) fun w3 t p3 c3 j h3 ht hc3 => ?_
  refine withJ_i fun J46 hJ46 => ?_
  subst hJ46
  refine condB_ne (fun h => absurd rfl h) fun _ => condB_i (fun h => by simp at h) fun _ => ?_
  have hgl := hg.fits
  refine ⟨fun ep el ec x w' m => ∃ (i : Nat) (gs : List (List UInt8)) (F' : List Nat) (D' : DS), x = i ∧ i ≤ groups.l ∧ m = groups.l - i ∧ secsOf gs ≤ 60 ∧ TOwn w w' t ⟨d, 0, 60, 3, secsOf gs, gs.length, false⟩ F' D' ∧ Calm D' ∧
      D'.now = lays 3 0 0 gs ++ List.replicate (60 - secsOf gs) zsec ∧ D'.safe.length = 60 ∧ D'.loose.length = secsOf gs ∧ (∀ x ∈ gs, nsec x.length ≤ 60000) ∧
      Row w' T_int 1 ep el ec (rows n1 (endsOf 0 gs)) ∧ fresh w ep,
    ⟨_, 0, [], F, _, rfl, Nat.zero_le _, rfl, by decide, h3, calm_took (Calm.new _) j, by rw [took_now]; rfl, by rw [took_safe]; rfl, by rw [took_loose]; rfl, by simp, Row.nil _ _ _, by rintro a ⟨⟩⟩, ?_⟩
  rintro ep el ec x w4 m ⟨i, gs, F4, D4, rfl, hi, rfl, hs60, h4, hcalm, hnow, hsafe, hloose, hnx, hrow, hfe⟩
  have hel : el = gs.length := by
    have := hrow.len
    rw [rows_len (even_n1 _), endsOf_len] at this; omega
  have hsg := secsOf_ge gs
  refine condB_d (fun hlt => ?_) (fun hlt => ?_)
  · refine withJ_i fun J12 hJ12 => ?_
    refine idx_rows (hg.sl.chg h4.chg (off_no _)) (even_BV _) (by decide) (by omega) (by omega) fun a g _ hga hcells => ?_
    rw [Int.toNat_natCast] at hga
    refine ldS_i (p := g.p) (l := g.l) (c := g.c) (by have := hcells 0 _ rfl; rwa [add_zero'] at this) ?_
    have hgk := hg.all g (List.mem_of_getElem? hga)
    refine Twin_ok (hgk.is.chg h4.chg (off_no _)) hgk.nil hgk.fits fun p5 c5 w5 hr5 hf5 hc5 => ?_
    have h5 := h4.step0 hc5
    have hbl := hgk.is.len
    have hfit := hgk.fits
    refine Append_own h5 hr5.bytes hr5.none0 hr5.le.1 (by omega) (h5.row hr5 nd_u8 (by decide)) (by omega) fun w6 F6 h6 hc6 hF6 => ?_
    have hrow6 : Row w6 T_int 1 ep el ec (rows n1 (endsOf 0 gs)) := (hrow.chg hc5 (off_no _)).chg hc6 (h5.row (hrow.chg hc5 (off_no _)) nd_int (by decide))
    have ei : w64 ((i : Int) + 1) = ((i + 1 : Nat) : Int) := by rw [w64_of] <;> omega
    by_cases hroom : secsOf gs + nsec g.bs.length ≤ 60
    · obtain ⟨D7, e7, q7⟩ := append_calm (bs := g.bs) h5.ok hcalm (by omega)
      rw [e7] at h6 ⊢
      dsimp only at h6 ⊢
      refine condB_eq (fun _ => ?_) (fun h => absurd rfl h)
      refine TFree_ok h6.at_ h6.ok h6.drum.at_.ok.max ?_
      dsimp only
      have h6d := h6.drew
      refine newRow (sz := 1) (n := 1) rfl (by decide) fun b8 w8 hr8 hb8 hc8 => ?_
      have h8 := h6d.step0 hc8
      have hrow8 := (hrow6.chg ((Chg.refl No w6).drew) (off_no _)).chg hc8 (off_no _)
      refine appJ_row slT_int hrow8 hr8.sl (by intro v hv; simp only [List.mem_singleton] at hv; subst hv; rfl) (by simp) (by omega) (by simp only [maxLen]; omega) fun p9 c9 w9 hr9 hc9 hf9 => ?_
      have hB : ∀ x, isB ep x → typ w8 x = some T_int := by rintro x ⟨a, ha, rfl⟩; exact hrow8.typ a ha
      have h9 := h8.step hc9 (fun x hx hb => h8.drum.at_.apart (hB x hb) nd_int hx) (fun hb => typ_ne (hB t hb) (typ_of h8.at_) (by decide) rfl) (by rintro x ⟨a, ha, rfl⟩; exact hfe a ha)
      subst hJ12
      have e60 : w64 ((60 : Int) - ((60 - 0 - (secsOf gs + nsec g.bs.length) : Nat) : Int)) = ((secsOf gs + nsec g.bs.length : Nat) : Int) := by rw [w64_of] <;> omega
      refine ⟨groups.l - (i + 1), by omega, i + 1, gs ++ [g.bs], F6, D7, ei, by omega, rfl, by rw [secsOf_snoc]; exact hroom, ?_, q7.calm, ?_, by rw [q7.safe]; exact hsafe, by rw [q7.loose, grp_len, secsOf_snoc, hloose], ?_, ?_, ?_⟩
      · rw [secsOf_snoc, List.length_append]; exact h9
      · rw [q7.now, hnow, lays_snoc, secsOf_snoc]
        have hll : (lays 3 0 0 gs).length = secsOf gs := lays_len _ _ _ _
        have := now_putAt_zeros (L := lays 3 0 0 gs) (G := grp 3 (secsOf gs) gs.length g.bs) (k := 60 - secsOf gs) rfl (by rw [grp_len]; omega)
        rw [hll] at this
        rw [Nat.zero_add, this, grp_len]
        simp only [Nat.zero_add]
        congr 2; omega
      · intro x hx
        rcases List.mem_append.1 hx with hx | hx
        · exact hnx x hx
        · simp only [List.mem_singleton] at hx; subst hx; omega
      · rw [e60] at hr9
        rw [endsOf_snoc, rows_append, Nat.zero_add]
        simpa [rows, n1] using hr9
      · rcases hf9 with rfl | hf9
        · exact hfe
        · intro a ha; have := hf9 a ha; have := h8.chg.size; omega
    · rw [append_full (by omega)] at h6 ⊢
      dsimp only at h6 ⊢
      refine condB_eq (fun h => absurd h (by decide)) (fun _ => ?_)
      subst hJ12
      exact ⟨groups.l - (i + 1), by omega, i + 1, gs, F6, D4, ei, by omega, rfl, hs60, h6, hcalm, hnow, hsafe, hloose, hnx, hrow6, hfe⟩
  · refine TFree_ok h4.at_ h4.ok h4.drum.at_.ok.max ?_
    dsimp only
    have h4d := h4.drew
    have hrowd := hrow.chg ((Chg.refl No w4).drew) (off_no _)
    have e60 : w64 ((60 : Int) - ((60 - 0 - secsOf gs : Nat) : Int)) = ((secsOf gs : Nat) : Int) := by rw [w64_of] <;> omega
    rw [e60]
    refine withJ_i fun J73 hJ73 => ?_
    subst hJ73
    refine condB_eq (fun _ => condB_i (fun _ => ⟨rfl, h4d.chg⟩) (fun h => by simp at h)) (fun h0 => ?_)
    refine condB_eq (fun _ => ⟨rfl, h4d.chg⟩) (fun hy => ?_)
    have e64 : w64 (((secsOf gs : Nat) : Int) * 64) = ((secsOf gs * 64 : Nat) : Int) := by rw [w64_of] <;> omega
    rw [e64]
    obtain ⟨k, hk, hkl, hne⟩ := placeOf (at_ := at_) (n := secsOf gs * 64) (by omega) (by omega)
    rw [hk]
    have eq1 : w64 (Int.tdiv (k : Int) 64) = ((k / 64 : Nat) : Int) := by rw [Int.tdiv_eq_ediv_of_nonneg (by omega), w64_of] <;> omega
    have er1 : Int.tmod (k : Int) 64 = ((k % 64 : Nat) : Int) := by rw [Int.tmod_eq_emod_of_nonneg (by omega)]; omega
    rw [eq1, er1]
    generalize hq : k / 64 = q at *
    generalize hr : k % 64 = r at *
    have hq2 : q < secsOf gs := by omega
    refine ⟨hne, by decide, ?_⟩
    refine Read_own h4d.drum fun p5 c5 w5 h5 hr5 hf5 hc5 => ?_
    rw [hcalm.read (n := q) (by omega)] at h5 hr5 ⊢
    dsimp only at h5 hr5 ⊢
    refine condB_ne (fun h => absurd rfl h) fun _ => ?_
    have hll : (lays 3 0 0 gs).length = secsOf gs := lays_len _ _ _ _
    have hnl : q < D4.now.length := by rw [D4.now_len]; omega
    have hb : D4.now[q]? = some (D4.now[q]'hnl) := List.getElem?_eq_getElem hnl
    have h64 := h4.drum.at_.ok.now _ (List.getElem_mem hnl)
    have hsum : Summed (D4.now[q]'hnl) := by
      have hmem : (D4.now[q]'hnl) ∈ lays 3 0 0 gs := by
        have h1 : D4.now[q]? = (lays 3 0 0 gs)[q]? := by rw [hnow, List.getElem?_append_left (by omega)]
        rw [hb] at h1
        exact List.mem_of_getElem? h1.symm
      have aux : ∀ (l : List (List UInt8)) (p g : Nat), ∀ s ∈ lays 3 p g l, Summed s := by
        intro l
        induction l with
        | nil => intro p g s hs; simp [lays] at hs
        | cons x l ih =>
          intro p g s hs
          rcases List.mem_append.1 hs with hs | hs
          · simp only [grp, List.mem_map] at hs
            obtain ⟨i, _, rfl⟩ := hs
            exact sec_summed
          · exact ih _ _ s hs
      exact aux _ _ _ _ hmem
    generalize hbb : D4.now[q]'hnl = b at *
    rw [hb, Option.getD_some, h64] at hr5 ⊢
    refine ⟨by decide, byte_i hr5.bytes (by omega) (by omega) fun z hz => ?_⟩
    rw [Int.toNat_natCast] at hz
    rw [bXor_u8]
    refine Row.stB hr5 (by omega) (by omega) fun w6 hr6 hc6 => ⟨by decide, ?_⟩
    rw [Int.toNat_natCast] at hr6
    have hns : ¬ Summed (b.set r (z ^^^ y)) := turned hsum hz (xor_ne (x := z) (y := y) (by rintro rfl; exact hy rfl))
    have h6 := h5.step hc6 (fun x hx ⟨a, ha, e⟩ => by subst e; have := hf5 a ha; have := h4d.drum.lt _ hx; omega) (fun x ⟨a, ha, e⟩ => by subst e; have := hf5 a ha; have := h4d.chg.size; omega)
    have hcalm6 : Calm { D4 with steps := w64 (D4.steps + 1) } := hcalm
    refine Write_own h6 hr6.bytes hr6.none0 (h6.at_.rowOff hr6 nd_u8) (by simp only; omega) fun w7 F7 h7 hc7 hF7 => ?_
    rw [hcalm6.write (n := q) (by simp only; omega) (by rw [List.length_set]; exact h64)] at h7 ⊢
    dsimp only at h7 ⊢
    refine condB_ne (fun h => absurd rfl h) fun _ => ?_
    have hrow5 := hrowd.chg hc5 (h4d.drum.at_.rowOff hrowd nd_int)
    have hrow6 : Row w6 T_int 1 ep el ec (rows n1 (endsOf 0 gs)) := hrow5.chg hc6 fun a ha ⟨a', ha', e⟩ => typ_ne (hr5.typ a' ha') (hrow5.typ a ha) (by decide) e
    have hrow7 := hrow6.chg hc7 (h6.at_.rowOff hrow6 nd_int)
    have hcl := cnt_le gs q
    refine ⟨fun x w' m => ∃ i : Nat, x = i ∧ i ≤ cnt gs q ∧ m = cnt gs q - i ∧ w' = w7, ⟨_, 0, rfl, Nat.zero_le _, rfl, rfl⟩, ?_⟩
    rintro x w' m ⟨i, rfl, hi, rfl, rfl⟩
    refine withJ_i fun J116 hJ116 => ?_
    have hspec := cnt_spec gs q i
    have more : i < cnt gs q → J116 true w' := by
      intro hlt
      subst hJ116
      refine condB_i (fun _ => ?_) (fun h => by simp at h)
      exact ⟨cnt gs q - (i + 1), by omega, i + 1, by rw [w64_of] <;> omega, by omega, rfl, rfl⟩
    have stop : ¬ i < cnt gs q → J116 false w' := by
      intro hnlt
      have hic : i = cnt gs q := by omega
      subst hJ116
      refine condB_i (fun h => by simp at h) fun _ => ?_
      refine TOpen_own (lo := 0) (hi := 60) (gen := 3) h7 hcalm6 (by decide) (by simp only; omega) (by decide) (by decide) fun w8 t8 p8 l8 c8 hs8 j8 st hst h8 hj8 ht8 hR8 hc8 => ?_
      refine withJ_i fun J6 hJ6 => ?_
      subst hJ6
      refine condB_eq (fun _ => ?_) (fun h => absurd rfl h)
      refine ⟨?_, h8.chg⟩
      have hnow7 : ((DS.now { D4 with steps := w64 (w64 (D4.steps + 1) + 1), loose := D4.loose ++ [(q, b.set r (z ^^^ y))] }).drop 0).take (60 - 0) = (lays 3 0 0 gs).take q ++ (b.set r (z ^^^ y) :: D4.now.drop (q + 1)) := by
        rw [now_snoc, List.drop_zero, List.take_of_length_le (by rw [List.length_set, D4.now_len]; omega), List.set_eq_take_append_cons_drop, if_pos hnl]
        congr 1
        rw [hnow, List.take_append_of_le_length (by omega)]
      have hEnds : Ends 3 (b.set r (z ^^^ y) :: D4.now.drop (q + 1)) := by
        intro b' r' e st i hgood
        simp only [List.cons.injEq] at e
        obtain ⟨rfl, _⟩ := e
        exact hns (good_summed hgood)
      have hall := opened_lays hEnds (gs := gs) (m := q) hnx (by omega)
      have hst2 : st.all = gs.take (cnt gs q) := by rw [hst, ← hall]; exact congrArg (fun s => (opened 3 s).all) hnow7
      have hl := hR8.len
      rw [hst2, List.length_take] at hl
      simp only [beq_iff_eq]
      omega
    clear hJ116
    refine condB_d (fun hlt2 => ?_) (fun hlt2 => ?_)
    · refine idx_rows hrow7.sl (even_n1 _) (by decide) (by omega) hlt2 fun a v _ hv hcells => ?_
      rw [Int.toNat_natCast] at hv
      refine ldI_i (n := (v : Int)) (by have := hcells 0 _ rfl; rwa [add_zero'] at this) ⟨by decide, ?_⟩
      have hve := endsOf_get _ _ _ _ hv
      by_cases hle : (v : Int) ≤ ((q : Nat) : Int)
      · rw [decide_eq_true hle]; exact more (hspec.2 ⟨by omega, by omega⟩)
      · rw [decide_eq_false hle]; exact stop fun h => by have := (hspec.1 h).2; omega
    · exact stop fun h => by have := (hspec.1 h).1; omega

end Go.Proofs.Ytfhmnodoahcmnaa
