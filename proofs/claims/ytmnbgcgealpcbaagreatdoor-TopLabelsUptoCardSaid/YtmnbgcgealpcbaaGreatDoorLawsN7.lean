/- LawsM7 LawsN7 -/
import Derived.Test.YtmnbgcgealpcbaaGreatDoorEve
import Derived.Test.YtmnbgcgealpcbaaGreatDoorReadsF
/-
  TopLabels.
-/
set_option linter.unusedVariables false
set_option linter.unusedSimpArgs false
namespace Go.Proofs.YtmnbgcgealpcbaaGreatDoor
open Go Go.Vc Go.Lib
def lab0 : SlV Int := ⟨none, 0, 0, []⟩
theorem rowsS {α : Type} (L : List (SlV α)) : rows SlV.cells L = L.map fun s => Value.slice s.p s.l s.c := by
  induction L with
  | nil => rfl
  | cons x L ih => rw [rows_cons, ih]; rfl
def kz (K : List Nat) : List Int := K.map fun n : Nat => (n : Int)
section
variable {w0 w w' : World} {pp : Option Addr} {pc : Nat} {PL LL : List (SlV Int)} {b : Nat}
/-- A label as it lies. -/
structure LabOk (w : World) (s : SlV Int) : Prop where
  row : Row w T_int 1 s.p s.l s.c (ints s.xs)
  small : s.l ≤ 480
theorem LabOk.ints {s : SlV Int} (h : LabOk w s) : Ints w s.p s.l s.xs := h.row.sl
theorem LabOk.len {s : SlV Int} (h : LabOk w s) : s.xs.length = s.l := by have := h.ints.len; exact this
theorem LabOk.zero (w : World) : LabOk w lab0 := ⟨Row.nil _ _ _, by decide⟩
theorem LabOk.e0 {s : SlV Int} (h : LabOk w s) : (((s.l : Nat) : Int) == 0) = decide (s.xs = []) := by
  have := h.len
  by_cases hx : s.xs = []
  · rw [decide_eq_true hx]; rw [hx] at this; simp at this; simp [← this]
  · rw [decide_eq_false hx]
    have := List.length_pos_iff.2 hx
    simp; omega
theorem LabOk.gt {s : SlV Int} (h : LabOk w s) : (decide (((s.l : Nat) : Int) > 0)) = decide (s.xs ≠ []) := by
  have := h.len
  apply decide_eq_decide.2
  constructor
  · intro h1 e; rw [e] at this; simp at this; omega
  · intro h1; have := List.length_pos_iff.2 h1; omega
/-- Paths and labels as they lie. -/
structure LS (w0 w : World) (pp : Option Addr) (pc : Nat) (PL : List (SlV Int)) (b : Nat) (LL : List (SlV Int)) : Prop where
  chg : Chg No w0 w
  pm : PM w pp pc PL
  hb : w.heap[b]? = some (.cells ⟨rows SlV.cells LL⟩ T_sl_int (0, 0))
  lo : ∀ s ∈ LL, LabOk w s
  ne : off pp (fun x => x = b)
  nb : w0.heap.size ≤ b
  len : LL.length = PL.length
theorem LS.step0 (h : LS w0 w pp pc PL b LL) (hc : Chg No w w') : LS w0 w' pp pc PL b LL :=
  ⟨h.chg.trans0 hc, h.pm.chg hc, hc.heap h.hb (fun f => f), fun s hs => ⟨(h.lo s hs).row.chg hc (off_no _), (h.lo s hs).small⟩, h.ne, h.nb, h.len⟩
theorem LS.get (h : LS w0 w pp pc PL b LL) {j : Nat} (hj : j < PL.length) : ∃ s, LL[j]? = some s ∧ LabOk w s ∧ (LL.map (·.xs)).getD j [] = s.xs := by
  have hj' : j < LL.length := by rw [h.len]; exact hj
  refine ⟨LL[j], List.getElem?_eq_getElem hj', h.lo _ (List.getElem_mem hj'), ?_⟩
  rw [List.getD_eq_getElem?_getD, List.getElem?_map, List.getElem?_eq_getElem hj']; rfl
theorem LS.ld (h : LS w0 w pp pc PL b LL) {i : Int} {j : Nat} (hi : i = j) (hj : j < PL.length) {K : Option Addr → Nat → Nat → Prop} (k : ∀ s, LL[j]? = some s → LabOk w s → (LL.map (·.xs)).getD j [] = s.xs → K s.p s.l s.c) :
    idxA (some ⟨b, 0, none⟩) (((PL.length : Nat) : Int).toNat) i fun a => ldS w (a.add (i.toNat * 1)) K := by
  subst hi
  obtain ⟨s, h1, h2, h3⟩ := h.get hj
  refine ⟨by omega, by rw [Int.toNat_natCast]; omega, _, _, _, ?_, k s h1 h2 h3⟩
  rw [Int.toNat_natCast, Nat.mul_one, Addr.add_mk, Nat.zero_add, cell_of_row w b j _ _ (0, 0) h.hb]
  simp [rowsS, h1]
theorem LS.set (h : LS w0 w pp pc PL b LL) {i : Int} {j : Nat} (hi : i = j) (hj : j < PL.length) {q : Option Addr} {m d : Nat} {xs : List Int} (hr : LabOk w ⟨q, m, d, xs⟩) {K : World → Prop} (k : ∀ w', LS w0 w' pp pc PL b (LL.set j ⟨q, m, d, xs⟩) → Chg (fun x => x = b) w w' → K w') :
    idxA (some ⟨b, 0, none⟩) (((PL.length : Nat) : Int).toNat) i fun a => stV w (a.add (i.toNat * 1)) (.slice q m d) K := by
  subst hi
  have H : Hp w0 No w [⟨b, rows SlV.cells LL, T_sl_int⟩] := (Hp.of_chg h.chg).add h.hb (by simp) (fun hb => by have := h.nb; omega)
  refine ⟨by omega, by rw [Int.toNat_natCast]; omega, ?_⟩
  rw [Int.toNat_natCast, Nat.mul_one]
  show stV w (Addr.add ⟨b, 0, none⟩ j) _ K
  rw [Addr.add_mk, Nat.zero_add]
  refine H.stV 0 rfl (off := j) (by rw [rowsS, List.length_map, h.len]; exact hj) fun w' H' hc => k w' ⟨H'.chg, h.pm.chgB hc h.hb h.ne, ?_, fun s hs => ?_, h.ne, h.nb, by rw [List.length_set]; exact h.len⟩ hc
  · have := H'.get 0 rfl
    rw [rowsS] at this ⊢
    rw [List.map_set]
    exact this
  · have hk : ∀ t : SlV Int, LabOk w t → LabOk w' t := fun t ht => ⟨ht.row.chg hc (rowOff ht.row h.hb (by decide)), ht.small⟩
    rcases List.mem_or_eq_of_mem_set hs with h1 | h1
    · exact hk s (h.lo s h1)
    · rw [h1]; exact hk _ hr
theorem xs_set {LL : List (SlV Int)} {j : Nat} {s : SlV Int} : (LL.set j s).map (·.xs) = (LL.map (·.xs)).set j s.xs := by rw [List.map_set]
theorem mod_step {k t n : Nat} (hk : k < n) (ht : 0 < t) : (((k + 1) % n) + (t - 1)) % n = (k + t) % n := by
  rw [Nat.mod_add_mod]
  congr 1; omega
theorem hole_dist {k h n : Nat} (hk : k < n) (hh : h < n) : (k + (h + n - k) % n) % n = h := by
  rw [Nat.add_mod_mod, show k + (h + n - k) = h + n by omega, Nat.add_mod_right, Nat.mod_eq_of_lt hh]
theorem kidsOf_len (Ps : List (List Int)) (i n : Nat) : (kidsOf Ps i n).length ≤ n := by
  unfold kidsOf
  have := List.length_filter_le (fun j => decide (i ≤ j) && decide (parI Ps j = parI Ps i) && decide ((Ps.getD j []).length = (Ps.getD i []).length)) (List.range n)
  rw [List.length_range] at this
  exact this
theorem kz_get {K : List Nat} {s : Nat} {x : Int} (h : (kz K)[s]? = some x) : ∃ j, K[s]? = some j ∧ x = j := by
  unfold kz at h
  rw [List.getElem?_map, Option.map_eq_some_iff] at h
  obtain ⟨j, h1, h2⟩ := h
  exact ⟨j, h1, h2.symm⟩
end
section
variable {w : World}
set_option maxRecDepth 100000 in
set_option maxHeartbeats 4000000 in
theorem TopLabels_go {x : NV} {op : Option Addr} {ol oc : Nat} {os : List Int} (T : TT w) (hx : x.Ok w) (hm : x.mea ≤ 10000000) (ho : Ints w op ol os) :
    callJ Tryz.prog fn_top_TopLabels #[.agg ⟨x.cells⟩, .slice op ol oc] w [.one .bool] fun r w' => r = true ∧ Chg No w w' := by
  have hx0 := hx
  have hflat := paths_len x
  have hlong := paths_long x
  have hP := paths_ok x
  have hfm : x.flat.length ≤ 100000000 := by have := flat_len x; omega
  cases x with
  | mk k u l t ap al ac ats kp kl kc ks =>
  refine c_top_TopLabels ?_
  unfold VC_top_TopLabels
  refine nodeBox (Hp.start w No) fun b2 w1 H1 _ hc1 => ?_
  refine reads_ok (T.chg hc1).maxl fun w2 hc2 => ?_
  have H2 := H1.step0 hc2
  refine condB_i (fun h => by simp at h) fun _ => ?_
  refine withJ_i fun J34 hJ34 => ?_
  have k34 : ∀ (bb : Bool) w3, Hp w No w3 [⟨b2, (NV.mk k u l t ap al ac ats kp kl kc ks).cells, T_api_Node⟩] → (bb = false → (NV.mk k u l t ap al ac ats kp kl kc ks).flat.length ≤ 60) → J34 bb w3 := by
    intro bb w3 H3 hbb
    subst hJ34
    refine condB_i (fun _ => ⟨rfl, H3.chg⟩) fun hf => ?_
    have hn60 := hbb hf
    refine ldBox H3 0 rfl ?_
    refine RefPaths_ok (NV.mk k u l t ap al ac ats kp kl kc ks) (hx0.chg0 H3.chg) hm fun pp pc w4 PL hPL hrow hfr hown hc4 => ?_
    have hn : PL.length ≤ 60 := by
      have := congrArg List.length hPL
      rw [List.length_map, hflat] at this
      omega
    have H4 := H3.step0 hc4
    refine H4.mkS (hz := rfl) (by omega) (Int.le_refl _) (by omega) (by omega) fun b39 w5 H5 hb5 hc5 => ?_
    rw [Int.toNat_natCast] at H5
    have ez : (List.replicate PL.length (zeroC Tryz.prog T_sl_int).toList).flatten = rows SlV.cells (List.replicate PL.length lab0) := by
      rw [rowsS, List.map_replicate]
      have : (zeroC Tryz.prog T_sl_int).toList = [.slice none 0 0] := by kernel_rfl
      rw [this]
      induction PL.length with
      | zero => rfl
      | succ n ih => rw [List.replicate_succ, List.replicate_succ, List.flatten_cons, ih]; rfl
    rw [ez] at H5
    have pm4 : PM w4 pp pc PL := ⟨hrow, fun s hs => (hown s hs).1, fun s hs => by
      have := hlong s.xs (by rw [← hPL]; exact List.mem_map.2 ⟨s, hs, rfl⟩)
      omega⟩
    have S5 : LS w w5 pp pc PL b39 (List.replicate PL.length lab0) := ⟨H5.chg, pm4.chg hc5, H5.get 0 rfl, fun s hs => by
      rw [List.eq_of_mem_replicate hs]; exact LabOk.zero _, fun a ha e => by have := hrow.lt a ha; omega, by have := H4.chg.size; omega, by simp⟩
    have hPs : PathsOk (PL.map (·.xs)) := by rw [hPL]; exact hP
    have hPsl : (PL.map (·.xs)).length = PL.length := List.length_map _
    generalize hPP : PL.map (·.xs) = Ps at hPs hPsl
    refine ⟨fun x w' t => ∃ (i : Nat) (LL : List (SlV Int)), x = i ∧ i ≤ PL.length ∧ t = PL.length - i ∧ LS w w' pp pc PL b39 LL ∧ OInv Ps (LL.map (·.xs)) i, ⟨_, 0, _, rfl, Nat.zero_le _, rfl, S5, by
      rw [List.map_replicate]
      exact OInv.start PL.length hPsl⟩, ?_⟩
    rintro x w6 t ⟨i, LL, rfl, hi, rfl, S6, hO⟩
    refine condB_d (fun hlt => ?_) (fun hge => ?_)
    · -- a node
      have hiL : i < PL.length := by omega
      refine withJ_i fun J0 hJ0 => ?_
      have k0 : ∀ w7 LL', LS w w7 pp pc PL b39 LL' → OInv Ps (LL'.map (·.xs)) (i + 1) → J0 w7 := by
        intro w7 LL' S7 hO7
        subst hJ0
        exact ⟨_, by omega, i + 1, LL', by rw [w64_of] <;> omega, by omega, rfl, S7, hO7⟩
      clear hJ0
      refine condB_eq (fun h0 => k0 _ _ S6 (hO.skip (.inl (by omega)))) fun h0 => ?_
      have h0 : i ≠ 0 := by omega
      refine S6.ld rfl hiL fun si hsi hli hxi => ?_
      rw [hli.gt]
      refine condB_d (fun hne => k0 _ _ S6 (hO.skip (.inr (by rw [hxi]; exact hne)))) fun hne => ?_
      have he : (LL.map (·.xs)).getD i [] = [] := by rw [hxi]; exact Decidable.not_not.1 hne
      refine Parent_ok S6.pm hiL (by omega) fun w8 hc8 => ?_
      rw [hPP]
      have S8 := S6.step0 hc8
      obtain ⟨hpl, hpe⟩ := parI_of hPs (List.getElem?_eq_getElem (by rw [hPsl]; exact hiL)) h0
      refine newRow (sz := 1) (n := 0) (cs := []) rfl (by decide) fun b56 w9 hr9 hb9 hc9 => ?_
      refine ⟨fun kp kl kc j w' t => ∃ jn : Nat, j = jn ∧ i ≤ jn ∧ jn ≤ PL.length ∧ t = PL.length - jn ∧ kl = (kidsOf Ps i jn).length ∧ Chg No w8 w' ∧ Row w' T_int 1 kp kl kc (ints (kz (kidsOf Ps i jn))) ∧ fresh w8 kp,
        ⟨_, i, rfl, Nat.le_refl _, hi, rfl, by rw [kidsOf_small _ _ _ (Nat.le_refl _)]; rfl, hc9, by rw [kidsOf_small _ _ _ (Nat.le_refl _)]; exact hr9, fun a ha => by cases ha; exact hb9⟩, ?_⟩
      rintro kp kl kc j w10 t ⟨jn, rfl, hij, hjn, rfl, rfl, hc10, hr10, hf10⟩
      refine condB_d (fun hjlt => ?_) (fun hjge => ?_)
      · -- one more node looked at
        have hjL : jn < PL.length := by omega
        refine withJ_i fun J9 hJ9 => ?_
        have k9 : ∀ kp' kl' kc' w11, kl' = (kidsOf Ps i (jn + 1)).length → Chg No w8 w11 → Row w11 T_int 1 kp' kl' kc' (ints (kz (kidsOf Ps i (jn + 1)))) → fresh w8 kp' → J9 kp' kl' kc' w11 := by
          intro kp' kl' kc' w11 h1 h2 h3 h4
          subst hJ9
          exact ⟨_, by omega, jn + 1, by rw [w64_of] <;> omega, by omega, by omega, rfl, h1, h2, h3, h4⟩
        clear hJ9
        refine withJ_i fun J81 hJ81 => ?_
        have k81 : ∀ bb w12, Chg No w10 w12 → bb = (decide (i ≤ jn) && decide (parI Ps jn = parI Ps i) && decide ((Ps.getD jn []).length = (Ps.getD i []).length)) → J81 bb w12 := by
          intro bb w12 hc12 hbb
          subst hJ81
          have hsucc := kidsOf_succ Ps i jn
          rw [← hbb] at hsucc
          have hr12 := hr10.chg hc12 (off_no _)
          refine condB_i (fun ht => ?_) (fun hf => ?_)
          · rw [ht, if_pos rfl] at hsucc
            refine newRow (sz := 1) (n := 1) (cs := [.int .i64 (jn : Int)]) rfl (by decide) fun b84 w13 hr13 hb13 hc13 => ?_
            have hkl := kidsOf_len Ps i jn
            refine appJ_row Lb.slT_int (hr12.chg hc13 (off_no _)) hr13.sl (one1_cons rfl one1_nil) (fun e => by cases e) (by omega) (by simp only [maxLen]; omega) fun p' c' w14 hr14 hc14 hf14 => ?_
            have hc8' : Chg No w8 w14 := ((hc10.trans0 hc12).trans0 hc13).trans hc14 fun b hb ⟨a, ha, e⟩ => by have := hf10 a ha; omega
            refine k9 p' _ c' w14 (by rw [hsucc, List.length_append]; rfl) hc8' ?_ ?_
            · rw [hsucc]
              have : ints (kz (kidsOf Ps i jn ++ [jn])) = ints (kz (kidsOf Ps i jn)) ++ [.int .i64 (jn : Int)] := by simp [kz, ints]
              rw [this]; exact hr14
            · rcases hf14 with rfl | hf14
              · exact hf10
              · intro a ha; have := hf14 a ha; have := ((hc10.trans0 hc12).trans0 hc13).size; omega
          · rw [hf] at hsucc
            simp only [Bool.false_eq_true, if_false, List.append_nil] at hsucc
            exact k9 kp _ kc w12 (by rw [hsucc]) (hc10.trans0 hc12) (by rw [hsucc]; exact hr12) hf10
        clear hJ81
        have S10 := S8.step0 hc10
        refine Parent_ok (S10.pm.chg (Chg.refl No _).drew) hjL (by omega) fun w15 hc15 => ?_
        rw [hPP]
        have hc15' : Chg No w10 w15 := (Chg.refl No _).drew.trans0 hc15
        have S15 := S10.step0 hc15'
        refine condB_eq (fun hp => ?_) (fun hp => ?_)
        · refine S15.pm.ld (by omega) (by omega) fun sj hsj => ?_
          refine S15.pm.ld (by omega) (by omega) fun si' hsi' => ?_
          rw [Int.toNat_natCast] at hsj hsi'
          refine k81 _ _ hc15' ?_
          obtain ⟨e1, _, l1, _⟩ := S15.pm.path hsj
          obtain ⟨e2, _, l2, _⟩ := S15.pm.path hsi'
          rw [hPP] at e1 e2
          rw [e1, e2, decide_eq_true hij, decide_eq_true (show parI Ps jn = parI Ps i by omega), Bool.true_and, Bool.true_and, l1, l2]
          by_cases hll : sj.xs.length = si'.xs.length
          · rw [decide_eq_true hll, hll]; simp
          · rw [decide_eq_false hll]; simp; omega
        · refine k81 _ _ hc15' ?_
          rw [decide_eq_false (show ¬ parI Ps jn = parI Ps i by omega)]; simp
      · -- the group is known
        have hjeq : jn = PL.length := by omega
        subst hjeq
        have hPL2 : kidsOf Ps i PL.length = kidsOf Ps i Ps.length := by rw [hPsl]
        rw [hPL2] at hr10 ⊢
        have S10 := S8.step0 hc10
        have hiP : i < Ps.length := by rw [hPsl]; exact hiL
        obtain ⟨hmem, hnone, hlabu, hup⟩ := hO.group hPs h0 hiP he
        obtain ⟨hI0, hfull0⟩ := IInv.start hPs hO h0 hiP he
        have hasc := kidsOf_asc Ps i Ps.length
        have hKlen := kidsOf_len Ps i Ps.length
        have hKlt : ∀ j ∈ kidsOf Ps i Ps.length, j < PL.length := fun j hj => by have := ((hmem j).1 hj).2.2.2.1; omega
        have hKi : i ∈ kidsOf Ps i Ps.length := (hmem i).2 ⟨h0, h0, hiP, hiP, rfl⟩
        have hKpos : 0 < (kidsOf Ps i Ps.length).length := List.length_pos_of_mem hKi
        generalize hK : kidsOf Ps i Ps.length = K at *
        refine ⟨fun x w' t => ∃ (s : Nat) (MM : List (SlV Int)), x = s ∧ s ≤ K.length ∧ t = K.length - s ∧ LS w w' pp pc PL b39 MM ∧ Row w' T_int 1 kp K.length kc (ints (kz K)) ∧ IInv Ps (LL.map (·.xs)) K ((LL.map (·.xs)).getD (parI Ps i) []) (MM.map (·.xs)) ∧ fullN (K.map fun j => (MM.map (·.xs)).getD j []) = s ∧ Chg No w w',
          ⟨_, 0, LL, rfl, Nat.zero_le _, rfl, S10, hr10, hI0, hfull0, S10.chg⟩, ?_⟩
        rintro x w16 t ⟨s, MM, rfl, hs, rfl, S16, hr16, hI, hfull, hcw⟩
        have hki : Ints w16 kp K.length (kz K) := hr16.sl
        refine condB_d (fun hslt => ?_) (fun hsge => ?_)
        · -- one more label
          refine withJ_i fun J12 hJ12 => ?_
          have hXlen : (K.map fun j => (MM.map (·.xs)).getD j []).length = K.length := List.length_map _
          have hget : ∀ (s : Nat) (j : Nat), K[s]? = some j → (K.map fun j => (MM.map (·.xs)).getD j []).getD s [] = (MM.map (·.xs)).getD j [] := fun s j hj => by rw [getD_map, hj]
          have k12 : ∀ k0 : Nat, k0 < K.length → J12 (k0 : Int) w16 := by
            intro k0 hk0
            subst hJ12
            obtain ⟨hh, hhl, hh0⟩ := full_hole (X := K.map fun j => (MM.map (·.xs)).getD j []) (by rw [hfull, hXlen]; omega)
            rw [hXlen] at hhl
            refine ⟨fun k w' t => w' = w16 ∧ ∃ k0 : Nat, k = k0 ∧ k0 < K.length ∧ (K.map fun j => (MM.map (·.xs)).getD j []).getD ((k0 + t) % K.length) [] = [], ⟨(hh + K.length - k0) % K.length, rfl, k0, rfl, hk0, by rw [hole_dist hk0 hhl]; exact hh0⟩, ?_⟩
            rintro k w18 t ⟨rfl, k1, rfl, hk1, hhole⟩
            refine int_i hki (by omega) (by omega) fun z hz => ?_
            rw [Int.toNat_natCast] at hz
            obtain ⟨j, hj, rfl⟩ := kz_get hz
            have hjL := hKlt j (List.mem_of_getElem? hj)
            refine S16.ld rfl hjL fun sj hsj hlj hxj => ?_
            rw [hlj.gt]
            refine condB_d (fun hne => ?_) (fun hemp => ?_)
            · refine ⟨by omega, t - 1, ?_, rfl, (k1 + 1) % K.length, ?_, Nat.mod_lt _ hKpos, ?_⟩
              · rcases Nat.eq_zero_or_pos t with rfl | ht
                · exfalso
                  rw [Nat.add_zero, Nat.mod_eq_of_lt hk1, hget _ _ hj, hxj] at hhole
                  exact hne hhole
                · omega
              · rw [w64_of (by omega) (by omega)]
                have : Int.tmod ((k1 : Int) + 1) (K.length : Int) = (((k1 + 1) % K.length : Nat) : Int) := by
                  rw [show ((k1 : Int) + 1) = ((k1 + 1 : Nat) : Int) by omega]; rfl
                exact this
              · rcases Nat.eq_zero_or_pos t with rfl | ht
                · exfalso
                  rw [Nat.add_zero, Nat.mod_eq_of_lt hk1, hget _ _ hj, hxj] at hhole
                  exact hne hhole
                · rw [mod_step hk1 ht]; exact hhole
            · -- the place
              have hempty : (K.map fun j => (MM.map (·.xs)).getD j []).getD k1 [] = [] := by rw [hget _ _ hj, hxj]; exact Decidable.not_not.1 hemp
              generalize hXX : (K.map fun j => (MM.map (·.xs)).getD j []) = X at hXlen hget hhole hempty hfull
              refine ⟨fun lp ll lc j w' t => w' = w18 ∧ ∃ (jn : Nat) (s : SlV Int), j = (jn : Int) - 1 ∧ jn ≤ k1 ∧ t = jn ∧ lp = s.p ∧ ll = s.l ∧ lc = s.c ∧ LabOk w18 s ∧ lastN X k1 = (if s.xs ≠ [] then s.xs else lastN X jn), ⟨_, rfl, k1, lab0, by rw [w64_of] <;> omega, Nat.le_refl _, rfl, rfl, rfl, rfl, LabOk.zero _, by simp [lab0]⟩, ?_⟩
              rintro lp ll lc j15 w19 t2 ⟨rfl, jn, sl, rfl, hjk, rfl, rfl, rfl, rfl, hlsl, hlast⟩
              refine withJ_i fun J128 hJ128 => ?_
              have kR : lastN X k1 = sl.xs → J128 false w19 := by
                intro hL
                subst hJ128
                refine condB_i (fun h => by cases h) fun _ => ?_
                refine ⟨fun rp rl rc j w' t => w' = w19 ∧ ∃ (jn : Nat) (s : SlV Int), j = (jn : Int) ∧ k1 + 1 ≤ jn ∧ jn ≤ K.length ∧ t = K.length - jn ∧ rp = s.p ∧ rl = s.l ∧ rc = s.c ∧ LabOk w19 s ∧ firstN (X.drop (k1 + 1)) = (if s.xs ≠ [] then s.xs else firstN (X.drop jn)), ⟨_, rfl, k1 + 1, lab0, by rw [w64_of] <;> omega, Nat.le_refl _, by omega, rfl, rfl, rfl, rfl, LabOk.zero _, by simp [lab0]⟩, ?_⟩
                rintro rp rl rc j16 w21 t3 ⟨rfl, jr, sr, rfl, hjr1, hjr2, rfl, rfl, rfl, rfl, hlsr, hfirst⟩
                refine withJ_i fun J148 hJ148 => ?_
                have kB : firstN (X.drop (k1 + 1)) = sr.xs → J148 false w21 := by
                  intro hR
                  subst hJ148
                  refine condB_i (fun h => by cases h) fun _ => ?_
                  refine S16.ld rfl (by omega) fun su hsu hlu hxu => ?_
                  have hu1 : (MM.map (·.xs)).getD (parI Ps i) [] = (LL.map (·.xs)).getD (parI Ps i) [] := hI.out _ hup
                  refine Lb.Between_ok hlu.ints hlsl.ints hlsr.ints (hlu.row.none0) (by have := hlu.small; omega) (by have := hlsl.small; omega) (by have := hlsr.small; omega) (Row.le hlu.row).1 (Row.le hlsl.row).1 (Row.le hlsr.row).1 fun q m d w23 hr23 hf23 hc23 => ?_
                  have hstep := KX.step hI.kx hlabu (k := k1) (by rw [hXX, hXlen]; exact hk1) (by rw [hXX]; exact hempty)
                  rw [hXX, hL, hR, ← hu1, hxu] at hstep
                  rcases hstep with h5 | ⟨mm, hbet, hmm, hkx⟩
                  · rw [h5]
                    refine condB_i (fun _ => ⟨rfl, hcw.trans0 hc23⟩) (fun h => by simp at h)
                  · rw [hbet] at hr23 ⊢
                    refine condB_i (fun h => by simp at h) fun _ => ?_
                    refine int_i (hki.chg hc23 (off_no _)) (by omega) (by omega) fun z hz => ?_
                    rw [Int.toNat_natCast] at hz
                    obtain ⟨j', hj', rfl⟩ := kz_get hz
                    rw [hj] at hj'
                    cases hj'
                    have hml := hr23.len
                    rw [Nat.mul_one] at hml
                    have hmlen : mm.length = m := by simpa [ints] using hml
                    have hkid : kidB su.xs mm = true := by
                      have := hkx.kid k1 (by rw [getD_set (by rw [hXlen]; exact hk1), if_pos rfl]; exact hmm)
                      rw [getD_set (by rw [hXlen]; exact hk1), if_pos rfl] at this
                      exact this
                    have hm480 : m ≤ 480 := by rw [← hmlen]; exact lab_len (Lb.kid_lab hkid)
                    refine (S16.step0 hc23).set rfl hjL (xs := mm) ⟨hr23, hm480⟩ fun w24 S24 hc24 => ?_
                    have hkr24 : Row w24 T_int 1 kp K.length kc (ints (kz K)) := (hr16.chg hc23 (off_no _)).chg hc24 (rowOff (hr16.chg hc23 (off_no _)) (S16.step0 hc23).hb (by decide))
                    refine ⟨_, by omega, s + 1, _, by rw [w64_of] <;> omega, by omega, rfl, S24, hkr24, ?_, ?_, S24.chg⟩
                    · rw [xs_set]
                      refine hI.step hasc hj (by rw [List.length_map, S16.len]; exact hjL) ?_
                      rw [hXX, ← hu1, hxu]
                      exact hkx
                    · rw [xs_set, map_set_kid hasc hj (by rw [List.length_map, S16.len]; exact hjL), hXX, fullN_set (by rw [hXlen]; exact hk1) hempty hmm, hfull]
                refine condB_d (fun hjlt3 => ?_) (fun hjge3 => ?_)
                · rw [hlsr.e0]
                  by_cases hs0 : sr.xs = []
                  · rw [decide_eq_true hs0]
                    subst hJ148
                    refine condB_i (fun _ => ?_) (fun h => by cases h)
                    refine int_i hki (by omega) (by omega) fun z hz => ?_
                    rw [Int.toNat_natCast] at hz
                    obtain ⟨j2, hj2, rfl⟩ := kz_get hz
                    refine S16.ld rfl (hKlt j2 (List.mem_of_getElem? hj2)) fun s2 hs2 hl2 hx2 => ?_
                    refine ⟨_, by omega, rfl, jr + 1, s2, by rw [w64_of] <;> omega, by omega, by omega, rfl, rfl, rfl, rfl, hl2, ?_⟩
                    rw [hfirst, if_neg (fun h => h hs0)]
                    have hjrX : jr < X.length := by rw [hXlen]; omega
                    have e2 : X[jr] = s2.xs := by
                      have := hget jr j2 hj2
                      rw [hx2, List.getD_eq_getElem?_getD, List.getElem?_eq_getElem hjrX] at this
                      exact this
                    rw [List.drop_eq_getElem_cons hjrX, firstN, e2]
                  · rw [decide_eq_false hs0]
                    refine kB ?_
                    rw [hfirst, if_pos hs0]
                · refine kB ?_
                  have hjK : jr = K.length := by omega
                  rw [hfirst]
                  by_cases hs0 : sr.xs = []
                  · rw [if_neg (fun h => h hs0), hs0, List.drop_eq_nil_of_le (by rw [hXlen]; omega)]; rfl
                  · rw [if_pos hs0]
              refine condB_d (fun hjge2 => ?_) (fun hjlt2 => ?_)
              · rw [hlsl.e0]
                by_cases hs0 : sl.xs = []
                · rw [decide_eq_true hs0]
                  subst hJ128
                  refine condB_i (fun _ => ?_) (fun h => by cases h)
                  refine int_i hki (by omega) (by omega) fun z hz => ?_
                  rw [show ((t2 : Int) - 1).toNat = t2 - 1 by omega] at hz
                  obtain ⟨j2, hj2, rfl⟩ := kz_get hz
                  refine S16.ld rfl (hKlt j2 (List.mem_of_getElem? hj2)) fun s2 hs2 hl2 hx2 => ?_
                  refine ⟨t2 - 1, by omega, rfl, t2 - 1, s2, by rw [w64_of] <;> omega, by omega, rfl, rfl, rfl, rfl, hl2, ?_⟩
                  rw [hlast, if_neg (fun h => h hs0)]
                  obtain ⟨j3, rfl⟩ : ∃ j3, t2 = j3 + 1 := ⟨t2 - 1, by omega⟩
                  rw [Nat.add_sub_cancel] at hj2 ⊢
                  rw [lastN, hget _ _ hj2, hx2]
                · rw [decide_eq_false hs0]
                  refine kR ?_
                  rw [hlast, if_pos hs0]
              · refine kR ?_
                have hj0 : t2 = 0 := by omega
                rw [hlast]
                by_cases hs0 : sl.xs = []
                · rw [if_neg (fun h => h hs0), hs0, hj0]; rfl
                · rw [if_pos hs0]
          clear hJ12
          refine condB_d (fun hord => ?_) (fun hord => ?_)
          · refine int_i (ho.chg hcw (off_no _)) (by omega) hord fun z hz => ?_
            have hKw : IntKind.u64.wrap ((K.length : Nat) : Int) = (K.length : Int) := by rw [wrap_u64]; omega
            rw [hKw]
            refine ⟨by omega, ?_⟩
            have hz2 : 0 ≤ IntKind.u64.wrap z := by rw [wrap_u64]; omega
            obtain ⟨zn, hzn⟩ : ∃ zn : Nat, IntKind.u64.wrap z = (zn : Int) := ⟨_, (Int.toNat_of_nonneg hz2).symm⟩
            rw [hzn]
            have : Int.tmod (zn : Int) (K.length : Int) = ((zn % K.length : Nat) : Int) := rfl
            have hmod := Nat.mod_lt zn hKpos
            rw [this, w64_of (by omega) (by omega)]
            exact k12 _ hmod
          · exact k12 _ (by omega)
        · have hsK : s = K.length := by omega
          refine k0 _ _ S16 (IInv.done hPs hO h0 hiP he (by rw [hK]; exact hI) (by rw [hK, hfull, hsK]))
    · -- all have theirs
      have hiE : i = PL.length := by omega
      subst hiE
      have hLO : LabelsOk Ps (LL.map (·.xs)) := OInv.final hPs (by rw [hPsl]; exact hO)
      refine ⟨fun x w' t => ∃ p : Nat, x = p ∧ p ≤ PL.length ∧ t = PL.length - p ∧ LS w w' pp pc PL b39 LL, ⟨_, 0, rfl, Nat.zero_le _, rfl, S6⟩, ?_⟩
      rintro x w25 t ⟨p, rfl, hp, rfl, S25⟩
      refine condB_d (fun hplt => ?_) (fun hpge => ⟨rfl, S25.chg⟩)
      have hpL : p < PL.length := by omega
      refine S25.pm.ld (by omega) (by omega) fun sp hsp => ?_
      rw [Int.toNat_natCast] at hsp
      obtain ⟨ep, ip, lp, mp, cp⟩ := S25.pm.path hsp
      rw [hPP] at ep
      have hpsp : Ps[p]? = some sp.xs := by rw [← hPP, List.getElem?_map, hsp]; rfl
      refine ⟨fun x w' t => ∃ q : Nat, x = q ∧ q ≤ PL.length ∧ t = PL.length - q ∧ LS w w' pp pc PL b39 LL ∧ Chg No w25 w', ⟨_, 0, rfl, Nat.zero_le _, rfl, S25, Chg.refl _ _⟩, ?_⟩
      rintro x w26 t ⟨q, rfl, hq, rfl, S26, hc26⟩
      refine condB_d (fun hqlt => ?_) (fun hqge => ?_)
      · have hqL : q < PL.length := by omega
        refine S26.pm.ld (by omega) (by omega) fun sq hsq => ?_
        rw [Int.toNat_natCast] at hsq
        obtain ⟨eq, iq, lq, mq, cq⟩ := S26.pm.path hsq
        rw [hPP] at eq
        have hpsq : Ps[q]? = some sq.xs := by rw [← hPP, List.getElem?_map, hsq]; rfl
        have ez : zeroC Tryz.prog T_trail_Trail = ⟨[.slice none 0 0, .bool false, .string ByteArray.empty, .string ByteArray.empty]⟩ := by kernel_rfl
        rw [ez]
        refine (Hp.start w26 No).newB fun b23 w27 H27 _ _ => H27.newB fun b24 w28 H28 _ _ => ?_
        refine H28.stN 1 rfl (off := 0) rfl (by decide) (by intro v hv; simp at hv; rcases hv with rfl | rfl | rfl <;> rfl) fun w29 H29 _ => ?_
        refine H29.stN 0 rfl (off := 0) rfl (by decide) (by intro v hv; simp at hv; rcases hv with rfl | rfl | rfl <;> rfl) fun w30 H30 _ => ?_
        have H31 : Hp w26 No w30.drew [⟨b24, boxT sq, T_trail_Trail⟩, ⟨b23, boxT sp, T_trail_Trail⟩] := H30.drew
        refine withJ_i fun J231 hJ231 => ?_
        have k231 : ∀ w31, Chg No w26 w31 → J231 false w31 := by
          intro w31 hc31
          subst hJ231
          refine condB_i (fun h => by cases h) fun _ => ?_
          exact ⟨_, by omega, q + 1, by rw [w64_of] <;> omega, by omega, rfl, S26.step0 hc31, hc26.trans0 hc31⟩
        clear hJ231
        have S31 := S26.step0 H31.chg
        refine S31.ld rfl hpL fun s1 hs1 hl1 hx1 => ?_
        refine S31.ld rfl hqL fun s2 hs2 hl2 hx2 => ?_
        have hst := LabelsOk.stand hPs hLO (p := sp.xs) (q := sq.xs) (l := s1.xs) (m := s2.xs) ⟨p, hpsp, by rw [List.getElem?_map, hs1]; rfl⟩ ⟨q, hpsq, by rw [List.getElem?_map, hs2]; rfl⟩
        refine ⟨_, _, _, H31.cell 1 rfl rfl, _, H31.cell 1 rfl rfl, _, H31.cell 1 rfl rfl, _, H31.cell 1 rfl rfl, _, _, _, H31.cell 0 rfl rfl, _, H31.cell 0 rfl rfl, _, H31.cell 0 rfl rfl, _, H31.cell 0 rfl rfl, ?_⟩
        refine Lb.Compare_ok hl1.ints hl2.ints (by have := hl1.small; omega) ?_
        refine ⟨H31.cells 0 rfl 0, H31.cells 1 rfl 0, ?_⟩
        refine TCompare_ok (a := sp) (b := sq) (ip.chg (hc26.trans0 H31.chg) (off_no _)) (iq.chg H31.chg (off_no _)) mp mq fun w33 hc33 => ?_
        rw [hst.1]
        refine condB_ne (fun h => absurd rfl h) fun _ => ?_
        have S33 := S31.step0 hc33
        have H33 := H31.step0 hc33
        refine S33.ld rfl hpL fun s1' hs1' hl1' hx1' => ?_
        refine S33.ld rfl hqL fun s2' hs2' hl2' hx2' => ?_
        rw [hs1] at hs1'
        cases hs1'
        rw [hs2] at hs2'
        cases hs2'
        refine Lb.Above_ok hl1'.ints hl2'.ints (Row.le hl2'.row).1 (by have := hl1.small; omega) fun w34 hc34 => ?_
        have H34 := H33.step0 hc34
        rw [hst.2]
        refine condB_ne (fun hne => ?_) (fun heq => ?_)
        · refine ⟨_, _, _, H34.cell 1 rfl rfl, _, H34.cell 1 rfl rfl, _, H34.cell 1 rfl rfl, _, H34.cell 1 rfl rfl, _, _, _, H34.cell 0 rfl rfl, _, H34.cell 0 rfl rfl, _, H34.cell 0 rfl rfl, _, H34.cell 0 rfl rfl, ?_⟩
          refine TUnder_ok (a := sp) (b := sq) (ip.chg (hc26.trans0 H34.chg) (off_no _)) (iq.chg H34.chg (off_no _)) mp mq cq fun w35 hc35 => ?_
          have hpq : sp.xs ≠ sq.xs := fun e => by
            have : p = q := hPs.inj hpsp (by rw [e]; exact hpsq)
            omega
          rw [decide_eq_true hpq, Bool.true_and]
          have e : (!(decide (sp.xs.length ≤ sq.xs.length ∧ sp.xs = sq.xs.take sp.xs.length) == decide (sp.xs.length ≤ sq.xs.length ∧ sp.xs = sq.xs.take sp.xs.length))) = false := by simp
          rw [e]
          exact k231 _ (H34.chg.trans0 hc35)
        · have hpq : p = q := by omega
          subst hpq
          rw [hsp] at hsq
          cases hsq
          have e : (decide (sp.xs ≠ sp.xs)) = false := by simp
          rw [e, Bool.false_and]
          exact k231 _ H34.chg
      · refine S26.ld rfl hpL fun s1 hs1 hl1 hx1 => ?_
        refine Lb.Level_ok hl1.ints (by have := hl1.small; omega) ?_
        have hlev := LabelsOk.lev hPs hLO sp.xs s1.xs ⟨p, hpsp, by rw [List.getElem?_map, hs1]; rfl⟩
        rw [hlev, lp]
        refine condB_ne (fun h => absurd rfl h) fun _ => ?_
        exact ⟨_, by omega, p + 1, by rw [w64_of] <;> omega, by omega, rfl, S26⟩
  clear hJ34
  refine ldBox H2 0 rfl ?_
  refine Check_ok (x := NV.mk k u l t ap al ac ats kp kl kc ks) (T.chg H2.chg) (hx0.chg0 H2.chg) hm fun w3 hc3 => ?_
  have H3 := H2.step0 hc3
  refine condB_ne (fun _ => k34 true _ H3 (fun h => by cases h)) fun _ => ?_
  refine ldBox H3 0 rfl ?_
  refine Small_ok (x := NV.mk k u l t ap al ac ats kp kl kc ks) (hx0.chg0 H3.chg) hfm fun w4 hc4 => ?_
  refine k34 _ _ (H3.step0 hc4) fun h => ?_
  have : ((NV.mk k u l t ap al ac ats kp kl kc ks).flat.length : Int) ≤ 60 := by simpa using h
  omega
end
end Go.Proofs.YtmnbgcgealpcbaaGreatDoor


/-
  TopLabels, as the row asks it.
-/
set_option linter.unusedVariables false
namespace Go.Proofs.YtmnbgcgealpcbaaGreatDoor
open Go Go.Vc Go.Lib Go.Shelf
section
variable {w : World}
abbrev TP (w : World) : Prop := TT w
theorem tp_of_laid {W : World} (h : laidMet Tryz.prog [("math/bits.deBruijn32tab", Rows.laid_math_bits_deBruijn32tab), ("math/bits.deBruijn64tab", Rows.laid_math_bits_deBruijn64tab), ("internal/strconv.uint64pow10", Rows.laid_internal_strconv_uint64pow10), ("unicode/utf8.acceptRanges", Rows.laid_unicode_utf8_acceptRanges), ("unicode.asciiFold", Rows.laid_unicode_asciiFold), ("unicode.caseOrbit", Rows.laid_unicode_caseOrbit), ("unicode.CaseRanges", Rows.laid_unicode_CaseRanges), ("unicode/utf8.first", Rows.laid_unicode_utf8_first)] W) (hs : W.ShapedOpen Tryz.prog) : TP W :=
  ⟨utf8Tabs_of_readsT (ρ := ren8) u8Types u8Extra (first_eq ▸ laidMet.reads h (by simp)) (accept_eq ▸ laidMet.reads h (by simp)),
    fold_of_reads (fold_eq ▸ laidMet.reads h (by simp)), maxl_of_shape hs⟩
theorem rd_sl_int : Rd Tryz.prog w T_sl_int SlV.cells (fun s : SlV Int => s.Ok w 1 8 intC InI) := Rd.slice (e := T_int) (sz := 1) (bytes := 8) (by kernel_rfl) (by kernel_rfl) (by kernel_rfl) rd_int
theorem TopLabels_ok {x : NV} {pp : Option Addr} {pl pc : Nat} {zs : List Int} (T : TP w) (hx : x.Ok w) (hp : SlV.Ok ⟨pp, pl, pc, zs⟩ w 1 8 intC InI) (hm : x.mea ≤ 1048576) :
    callJ Tryz.prog fn_top_TopLabels #[.agg ⟨x.cells⟩, .slice pp pl pc] w [.one .bool] fun r w' => r = true ∧ Chg No w w' :=
  TopLabels_go T hx (by omega) (by have := hp.sl; rw [rowsI] at this; exact this)
end
end Go.Proofs.YtmnbgcgealpcbaaGreatDoor

