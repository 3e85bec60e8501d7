/-
  The merge of two neighbours, and the whole sort.
-/
import Derived.Test.YtdjehimkijlhgaaDoorSortW
set_option linter.unusedVariables false
set_option linter.unusedSimpArgs false
namespace Go.Proofs.YtdjehimkijlhgaaDoor
open Go Go.Vc Go.Lib
section
variable {w : World}
theorem half {x y : Int} {i j : Nat} (hx : x = i) (hy : y = j) (h : i + j ≤ 4000000000) : w64 (shrI .u64 (IntKind.u64.wrap (w64 (x + y))) (1 : Int)) = (((i + j) / 2 : Nat) : Int) := by
  subst hx; subst hy
  rw [w64_of (n := (i : Int) + (j : Int)) (by omega) (by omega)]
  have e : IntKind.u64.wrap ((i : Int) + (j : Int)) = ((i + j : Nat) : Int) := by rw [wrap_u64]; omega
  have e2 : shrI .u64 ((i + j : Nat) : Int) 1 = (((i + j) / 2 : Nat) : Int) := by
    unfold shrI
    show Int.fdiv ((i + j : Nat) : Int) (2 ^ 1) = _
    rw [Int.fdiv_eq_ediv_of_nonneg _ (by decide)]; omega
  rw [e, e2, w64_of] <;> omega

set_option maxHeartbeats 1000000 in
theorem SymMerge_ok : ∀ (N : Nat) {w : World} {p : Option Addr} {l c a m b : Nat} {X : List At} {J : World → Prop}, b - a ≤ N → RA w p l c X → l ≤ 1000000000 → a < m → m < b → b ≤ l → Up aLt (pf X) a m → Up aLt (pf X) m b →
    (∀ X' w', RA w' p l c X' → Sw a b X X' → Up aLt (pf X') a b → Chg (isB p) w w' → J w') →
    callJ Tryd.prog fn_slices_symMergeCmpFunc_api_Attr #[.slice p l c, .int .i64 (a : Int), .int .i64 (m : Int), .int .i64 (b : Int), .func (.func 58) #[] #[]] w [] J
  | 0, w, p, l, c, a, m, b, X, J, hN, hr, hm, ham, hmb, hb, h1, h2, K => by omega
  | N + 1, w, p, l, c, a, m, b, X, J, hN, hr, hm, ham, hmb, hb, h1, h2, K => by
    refine c_slices_symMergeCmpFunc_api_Attr_f4_58 ?_
    unfold VC_slices_symMergeCmpFunc_api_Attr_f4_58
    have hXl := hr.n
    have em : w64 ((m : Int) - (a : Int)) = ((m - a : Nat) : Int) := by rw [w64_of] <;> omega
    have eb : w64 ((b : Int) - (m : Int)) = ((b - m : Nat) : Int) := by rw [w64_of] <;> omega
    rw [em, eb]
    refine condB_eq (fun hone => ?_) (fun hmany => ?_)
    · have hma : m = a + 1 := by omega
      refine ⟨fun x y w' t => ∃ i j : Nat, x = i ∧ y = j ∧ m ≤ i ∧ i ≤ j ∧ j ≤ b ∧ t = j - i ∧ RA w' p l c X ∧ Chg No w w' ∧ (∀ k, m ≤ k → k < i → aLt (pf X k) (pf X a) = true) ∧ (∀ k, j ≤ k → k < b → aLt (pf X k) (pf X a) = false),
        ⟨_, m, b, rfl, rfl, Nat.le_refl _, by omega, Nat.le_refl _, rfl, hr, Chg.refl _ _, fun k h1 h2 => by omega, fun k h1 h2 => by omega⟩, ?_⟩
      rintro x y w1 t ⟨i, j, rfl, rfl, hi, hij, hj, rfl, hr1, hc1, hlo, hhi⟩
      refine condB_d (fun hlt => ?_) (fun hge => ?_)
      · have eh := half (x := (i : Int)) (y := (j : Int)) rfl rfl (by omega)
        rw [eh]
        refine ⟨by decide, cmp_at (i := (((i + j) / 2 : Nat) : Int)) (j := (a : Int)) hr1.drew.sl rfl rfl (by omega) (by omega) fun r w2 hr2 hc2 => ?_⟩
        have hc02 := hc1.drew.trans0 hc2
        have hr2' : RA w2 p l c X := hr.chg hc02 (off_no _)
        refine condB_d (fun hneg => ?_) (fun hnn => ?_)
        · refine ⟨_, by omega, (i + j) / 2 + 1, j, by rw [w64_of] <;> omega, rfl, by omega, by omega, hj, rfl, hr2', hc02, fun k q1 q2 => ?_, hhi⟩
          have hh := hr2.1 hneg
          by_cases e : k = (i + j) / 2
          · rw [e]; exact hh
          · have q3 := h2 k ((i + j) / 2) q1 (by omega) (by omega)
            cases hb2 : aLt (pf X k) (pf X a) with
            | true => rfl
            | false => rw [aLt_ord.neg _ _ _ hb2 q3] at hh; cases hh
        · refine ⟨_, by omega, i, (i + j) / 2, rfl, rfl, hi, by omega, by omega, rfl, hr2', hc02, hlo, fun k q1 q2 => ?_⟩
          have hh : aLt (pf X ((i + j) / 2)) (pf X a) = false := by
            cases hb2 : aLt (pf X ((i + j) / 2)) (pf X a) with
            | false => rfl
            | true => exact absurd (hr2.2 hb2) hnn
          exact aLt_ord.neg _ _ _ hh (h2.le aLt_ord (by omega) q1 q2)
      · have hije : i = j := by omega
        subst hije
        -- up to the place i - 1
        refine ⟨fun x w' t => ∃ (k : Nat) (Z : List At), x = k ∧ a ≤ k ∧ k ≤ i - 1 ∧ t = i - 1 - k ∧ RA w' p l c Z ∧ Sw a b X Z ∧ Chg (isB p) w w' ∧ (∀ u, a ≤ u → u < k → pf Z u = pf X (u + 1)) ∧ pf Z k = pf X a ∧ (∀ u, k < u → pf Z u = pf X u),
          ⟨_, a, X, rfl, Nat.le_refl _, by omega, rfl, hr1, .refl, hc1.mono fun _ _ h => h.elim, fun u q1 q2 => by omega, rfl, fun u _ => rfl⟩, ?_⟩
        rintro x w3 t ⟨k, Z, rfl, hk1, hk2, rfl, hr3, hsz, hc3, z1, z2, z3⟩
        have hZl := hr3.n
        have ei : w64 ((i : Int) - 1) = ((i - 1 : Nat) : Int) := by rw [w64_of] <;> omega
        rw [ei]
        refine condB_d (fun hlt2 => ?_) (fun hge2 => ?_)
        · have ek : w64 ((k : Int) + 1) = ((k + 1 : Nat) : Int) := by rw [w64_of] <;> omega
          rw [ek]
          refine swap_at (i := (k : Int)) (j := ((k + 1 : Nat) : Int)) hr3.drew rfl rfl (by omega) (by omega) fun w5 hr5 hc5 => ?_
          have hg : pf (swl Z k (k + 1)) = swf (pf Z) k (k + 1) := swl_pf (by omega) (by omega)
          refine ⟨_, by omega, k + 1, _, rfl, by omega, by omega, rfl, hr5, .step hsz ⟨by omega, by omega⟩ ⟨by omega, by omega⟩ (by omega), hc3.drew.trans hc5 fun _ _ h => h, fun u q1 q2 => ?_, ?_, fun u q1 => ?_⟩
          · rw [hg]; unfold swf
            rw [if_neg (by omega)]
            by_cases e : u = k
            · rw [if_pos e, e]; exact z3 _ (by omega)
            · rw [if_neg e]; exact z1 u q1 (by omega)
          · rw [hg]; unfold swf; rw [if_pos rfl]; exact z2
          · rw [hg]; unfold swf; rw [if_neg (by omega), if_neg (by omega)]; exact z3 u (by omega)
        · have hki : k = i - 1 := by omega
          subst hki
          refine K Z w3 hr3 hsz ?_ hc3
          refine Up.adj aLt_ord fun u q1 q2 => ?_
          by_cases c1 : u + 1 < i - 1
          · rw [z1 u q1 (by omega), z1 (u + 1) (by omega) c1]; exact h2 _ _ (by omega) (by omega) (by omega)
          · by_cases c2 : u + 1 = i - 1
            · rw [z1 u q1 (by omega), c2, z2]
              exact aLt_ord.asym (hlo (i - 1) (by omega) (by omega))
            · by_cases c3 : u = i - 1
              · rw [c3, z2, show i - 1 + 1 = i by omega, z3 i (by omega)]
                exact hhi i (Nat.le_refl _) (by omega)
              · rw [z3 u (by omega), z3 (u + 1) (by omega)]; exact h2 _ _ (by omega) (by omega) (by omega)
    refine condB_eq (fun hone => ?_) (fun hmany2 => ?_)
    · have hbm : b = m + 1 := by omega
      refine ⟨fun x y w' t => ∃ i j : Nat, x = i ∧ y = j ∧ a ≤ i ∧ i ≤ j ∧ j ≤ m ∧ t = j - i ∧ RA w' p l c X ∧ Chg No w w' ∧ (∀ k, a ≤ k → k < i → aLt (pf X m) (pf X k) = false) ∧ (∀ k, j ≤ k → k < m → aLt (pf X m) (pf X k) = true),
        ⟨_, a, m, rfl, rfl, Nat.le_refl _, by omega, Nat.le_refl _, rfl, hr, Chg.refl _ _, fun k h1 h2 => by omega, fun k h1 h2 => by omega⟩, ?_⟩
      rintro x y w1 t ⟨i, j, rfl, rfl, hi, hij, hj, rfl, hr1, hc1, hlo, hhi⟩
      refine condB_d (fun hlt => ?_) (fun hge => ?_)
      · have eh := half (x := (i : Int)) (y := (j : Int)) rfl rfl (by omega)
        rw [eh]
        refine ⟨by decide, cmp_at (i := (m : Int)) (j := (((i + j) / 2 : Nat) : Int)) hr1.drew.sl rfl rfl (by omega) (by omega) fun r w2 hr2 hc2 => ?_⟩
        have hc02 := hc1.drew.trans0 hc2
        have hr2' : RA w2 p l c X := hr.chg hc02 (off_no _)
        refine condB_not (fun hnn => ?_) (fun hneg => ?_)
        · refine ⟨_, by omega, (i + j) / 2 + 1, j, by rw [w64_of] <;> omega, rfl, by omega, by omega, hj, rfl, hr2', hc02, fun k q1 q2 => ?_, hhi⟩
          have hh : aLt (pf X m) (pf X ((i + j) / 2)) = false := by
            cases hb2 : aLt (pf X m) (pf X ((i + j) / 2)) with
            | false => rfl
            | true => exact absurd (hr2.2 hb2) (of_decide_eq_false hnn)
          exact aLt_ord.neg _ _ _ (h1.le aLt_ord q1 (by omega) (by omega)) hh
        · refine ⟨_, by omega, i, (i + j) / 2, rfl, rfl, hi, by omega, by omega, rfl, hr2', hc02, hlo, fun k q1 q2 => ?_⟩
          have hh := hr2.1 (of_decide_eq_true hneg)
          have q3 := h1.le aLt_ord (i := (i + j) / 2) (j := k) (by omega) q1 q2
          cases hb2 : aLt (pf X m) (pf X k) with
          | true => rfl
          | false => rw [aLt_ord.neg _ _ _ q3 hb2] at hh; cases hh
      · have hije : i = j := by omega
        subst hije
        refine ⟨fun x w' t => ∃ (k : Nat) (Z : List At), x = k ∧ i ≤ k ∧ k ≤ m ∧ k - i = t ∧ RA w' p l c Z ∧ Sw a b X Z ∧ Chg (isB p) w w' ∧ (∀ u, u < k → pf Z u = pf X u) ∧ pf Z k = pf X m ∧ (∀ u, k < u → u ≤ m → pf Z u = pf X (u - 1)),
          ⟨_, m, X, rfl, by omega, Nat.le_refl _, rfl, hr1, .refl, hc1.mono fun _ _ h => h.elim, fun u q1 => rfl, rfl, fun u q1 q2 => by omega⟩, ?_⟩
        rintro x w8 t ⟨k, Z, rfl, hk1, hk2, rfl, hr3, hsz, hc3, z1, z2, z3⟩
        have hZl := hr3.n
        refine condB_d (fun hlt2 => ?_) (fun hge2 => ?_)
        · have ek : w64 ((k : Int) - 1) = ((k - 1 : Nat) : Int) := by rw [w64_of] <;> omega
          rw [ek]
          refine swap_at (i := (k : Int)) (j := ((k - 1 : Nat) : Int)) hr3.drew rfl rfl (by omega) (by omega) fun w5 hr5 hc5 => ?_
          have hg : pf (swl Z k (k - 1)) = swf (pf Z) k (k - 1) := swl_pf (by omega) (by omega)
          refine ⟨_, by omega, k - 1, _, rfl, by omega, by omega, rfl, hr5, .step hsz ⟨by omega, by omega⟩ ⟨by omega, by omega⟩ (by omega), hc3.drew.trans hc5 fun _ _ h => h, fun u q1 => ?_, ?_, fun u q1 q2 => ?_⟩
          · rw [hg]; unfold swf; rw [if_neg (by omega), if_neg (by omega)]; exact z1 u (by omega)
          · rw [hg]; unfold swf; rw [if_pos rfl]; exact z2
          · rw [hg]; unfold swf
            rw [if_neg (by omega)]
            by_cases e : u = k
            · rw [if_pos e, e]; exact z1 _ (by omega)
            · rw [if_neg e]; exact z3 u (by omega) q2
        · have hki : k = i := by omega
          subst hki
          refine K Z w8 hr3 hsz ?_ hc3
          refine Up.adj aLt_ord fun u q1 q2 => ?_
          by_cases c1 : u + 1 < k
          · rw [z1 u (by omega), z1 (u + 1) c1]; exact h1 _ _ (by omega) (by omega) (by omega)
          · by_cases c2 : u + 1 = k
            · rw [z1 u (by omega), c2, z2]; exact hlo u q1 (by omega)
            · by_cases c3 : u = k
              · subst c3
                rw [z2, z3 (u + 1) (by omega) (by omega), Nat.add_sub_cancel]
                exact aLt_ord.asym (hhi u (Nat.le_refl _) (by omega))
              · rw [z3 u (by omega) (by omega), z3 (u + 1) (by omega) (by omega)]; exact h1 _ _ (by omega) (by omega) (by omega)
    -- the general merge
    have emid := half (x := (a : Int)) (y := (b : Int)) rfl rfl (by omega)
    generalize hmid : (a + b) / 2 = mid at emid
    rw [emid]
    have en : w64 ((mid : Int) + (m : Int)) = ((mid + m : Nat) : Int) := by rw [w64_of] <;> omega
    have ep : w64 (((mid + m : Nat) : Int) - 1) = ((mid + m - 1 : Nat) : Int) := by rw [w64_of] <;> omega
    rw [en, ep]
    refine ⟨by decide, withJ_i fun J20 hJ20 => ?_⟩
    have k20 : ∀ s r : Nat, (s = if mid < m then mid + m - b else a) → (r = if mid < m then mid else m) → J20 (s : Int) (r : Int) w := by
      intro s0 r0 es er; subst hJ20
      refine ⟨fun x y w' t => ∃ s r : Nat, x = s ∧ y = r ∧ s0 ≤ s ∧ s ≤ r ∧ r ≤ r0 ∧ t = r - s ∧ RA w' p l c X ∧ Chg No w w' ∧ (∀ q, s0 ≤ q → q < s → aLt (pf X (mid + m - 1 - q)) (pf X q) = false) ∧ (∀ q, r ≤ q → q < r0 → aLt (pf X (mid + m - 1 - q)) (pf X q) = true),
        ⟨_, s0, r0, rfl, rfl, Nat.le_refl _, by rw [es, er]; split <;> omega, Nat.le_refl _, rfl, hr, Chg.refl _ _, fun q q1 q2 => by omega, fun q q1 q2 => by omega⟩, ?_⟩
      rintro x y w12 t ⟨s, r, rfl, rfl, hs0, hsr, hr0, rfl, hr1, hc1, hlo, hhi⟩
      have rng : (mid < m ∧ s0 = mid + m - b ∧ r0 = mid) ∨ (m ≤ mid ∧ s0 = a ∧ r0 = m) := by
        by_cases c : mid < m
        · rw [if_pos c] at es er; exact .inl ⟨c, es, er⟩
        · rw [if_neg c] at es er; exact .inr ⟨by omega, es, er⟩
      refine condB_d (fun hlt => ?_) (fun hge => ?_)
      · have eh := half (x := (s : Int)) (y := (r : Int)) rfl rfl (by omega)
        rw [eh]
        have epc : w64 (((mid + m - 1 : Nat) : Int) - (((s + r) / 2 : Nat) : Int)) = ((mid + m - 1 - (s + r) / 2 : Nat) : Int) := by rw [w64_of] <;> omega
        rw [epc]
        refine ⟨by decide, cmp_at (i := ((mid + m - 1 - (s + r) / 2 : Nat) : Int)) (j := (((s + r) / 2 : Nat) : Int)) hr1.drew.sl rfl rfl (by omega) (by omega) fun z w2 hz hc2 => ?_⟩
        have hc02 := hc1.drew.trans0 hc2
        have hr2' : RA w2 p l c X := hr.chg hc02 (off_no _)
        refine condB_not (fun hnn => ?_) (fun hneg => ?_)
        · refine ⟨_, by omega, (s + r) / 2 + 1, r, by rw [w64_of] <;> omega, rfl, by omega, by omega, hr0, rfl, hr2', hc02, fun q q1 q2 => ?_, hhi⟩
          have hh : aLt (pf X (mid + m - 1 - (s + r) / 2)) (pf X ((s + r) / 2)) = false := by
            cases hb2 : aLt (pf X (mid + m - 1 - (s + r) / 2)) (pf X ((s + r) / 2)) with
            | false => rfl
            | true => exact absurd (hz.2 hb2) (of_decide_eq_false hnn)
          have g1 := h1.le aLt_ord (i := q) (j := (s + r) / 2) (by omega) (by omega) (by omega)
          have g2 := h2.le aLt_ord (i := mid + m - 1 - (s + r) / 2) (j := mid + m - 1 - q) (by omega) (by omega) (by omega)
          exact aLt_ord.neg _ _ _ (aLt_ord.neg _ _ _ g1 hh) g2
        · refine ⟨_, by omega, s, (s + r) / 2, rfl, rfl, hs0, by omega, by omega, rfl, hr2', hc02, hlo, fun q q1 q2 => ?_⟩
          have hh := hz.1 (of_decide_eq_true hneg)
          have g1 := h1.le aLt_ord (i := (s + r) / 2) (j := q) (by omega) q1 (by omega)
          have g2 := h2.le aLt_ord (i := mid + m - 1 - q) (j := mid + m - 1 - (s + r) / 2) (by omega) (by omega) (by omega)
          cases hb2 : aLt (pf X (mid + m - 1 - q)) (pf X q) with
          | true => rfl
          | false => rw [aLt_ord.neg _ _ _ (aLt_ord.neg _ _ _ g1 hb2) g2] at hh; cases hh
      · have hse : s = r := by omega
        subst hse
        have ee : w64 (((mid + m : Nat) : Int) - (s : Int)) = ((mid + m - s : Nat) : Int) := by rw [w64_of] <;> omega
        rw [ee]
        generalize he : mid + m - s = e
        obtain ⟨u1, u2, u3, u4, b1, b2, b3, b4, b5, b6, hcross⟩ := sym_turn aLt_ord h1 h2 ham hmb hmid.symm he.symm (by omega) (fun q q1 q2 => hlo q (by rw [es]; exact q1) q2) (fun q q1 q2 => hhi q q1 (by rw [er]; exact q2))
        refine withJ_i fun J0 hJ0 => ?_
        have k0 : ∀ Y w14, RA w14 p l c Y → Sw a b X Y → pf Y = rotF (pf X) s m e → Chg (isB p) w w14 → J0 w14 := by
          intro Y w14 hrY hsY hpY hcY; subst hJ0
          have hYl := hrY.n
          rw [← hpY] at u1 u2 u3 u4 hcross
          refine withJ_i fun J01 hJ01 => ?_
          have k01 : ∀ Z w15, RA w15 p l c Z → Sw a mid Y Z → Up aLt (pf Z) a mid → Chg (isB p) w w15 → J01 w15 := by
            intro Z w15 hrZ hsZ huZ hcZ; subst hJ01
            have hZl := hrZ.n
            refine withJ_i fun J213 hJ213 => ?_
            have oz : ∀ k, mid ≤ k → pf Z k = pf Y k := fun k hk => hsZ.out (.inr hk)
            have cz : ∀ i j, a ≤ i → i < mid → mid ≤ j → j < b → aLt (pf Z j) (pf Z i) = false := fun i j q1 q2 q3 q4 => by
              rw [oz j q3]
              exact hsZ.all (p := fun v => aLt (pf Y j) v = false) (fun k y1 y2 => hcross k j y1 y2 q3 q4) i q1 q2
            have k213 : ∀ bb, (bb = true ↔ mid < e ∧ e < b) → J213 bb w15 := by
              intro bb hbb; subst hJ213
              refine meetI hbb (fun hh => ?_) (fun hn => ?_)
              · refine SymMerge_ok N (a := mid) (m := e) (b := b) (by omega) hrZ hm hh.1 hh.2 hb (u3.congr fun k y1 y2 => oz k y1) (u4.congr fun k y1 y2 => oz k (by omega)) fun V w17 hrV hsV huV hcV => ?_
                refine K V w17 hrV ((hsY.trans (hsZ.mono (Nat.le_refl _) (by omega) (by omega))).trans (hsV.mono (by omega) (Nat.le_refl _) (by omega))) ?_ (hcZ.trans hcV fun _ _ h => h)
                refine Up.join (m := mid) (huZ.congr fun k y1 y2 => hsV.out (.inl y2)) huV fun i j q1 q2 q3 q4 => ?_
                rw [hsV.out (.inl q2)]
                exact hsV.all (p := fun v => aLt v (pf Z i) = false) (fun k y1 y2 => cz i k q1 q2 y1 y2) j q3 q4
              · refine K Z w15 hrZ (hsY.trans (hsZ.mono (Nat.le_refl _) (by omega) (by omega))) ?_ hcZ
                refine Up.join (m := mid) huZ ?_ cz
                by_cases hmid' : mid = e
                · rw [hmid']; exact u4.congr fun k y1 y2 => oz k (by omega)
                · have : e = b := by omega
                  rw [← this]; exact u3.congr fun k y1 y2 => oz k y1
            clear hJ213
            refine condB_d (fun h => k213 _ (bD ⟨fun q => ⟨by omega, by omega⟩, fun q => by omega⟩)) (fun h => k213 false (bF fun q => by omega))
          clear hJ01
          refine withJ_i fun J199 hJ199 => ?_
          have k199 : ∀ bb, (bb = true ↔ a < s ∧ s < mid) → J199 bb w14 := by
            intro bb hbb; subst hJ199
            refine meetI hbb (fun hh => ?_) (fun hn => ?_)
            · refine SymMerge_ok N (a := a) (m := s) (b := mid) (by omega) hrY hm hh.1 hh.2 (by omega) u1 u2 fun V w17 hrV hsV huV hcV => ?_
              exact k01 V w17 hrV hsV huV (hcY.trans hcV fun _ _ h => h)
            · refine k01 Y w14 hrY .refl ?_ hcY
              by_cases has : a = s
              · rw [has]; exact u2
              · have : s = mid := by omega
                rw [← this]; exact u1
          clear hJ199
          refine condB_d (fun h => k199 _ (bD ⟨fun q => ⟨by omega, by omega⟩, fun q => by omega⟩)) (fun h => k199 false (bF fun q => by omega))
        clear hJ0
        refine withJ_i fun J185 hJ185 => ?_
        have hcb : Chg (isB p) w w12 := hc1.mono fun _ _ h => h.elim
        have k185 : ∀ bb, (bb = true ↔ s < m ∧ m < e) → J185 bb w12 := by
          intro bb hbb; subst hJ185
          refine meetI hbb (fun hh => ?_) (fun hn => ?_)
          · refine Rotate_ok hr1 hm hh.1 hh.2 (by omega) fun V w17 hrV hsV hpV hcV => ?_
            exact k0 V w17 hrV (hsV.mono b1 b4 (by omega)) hpV (hcb.trans hcV fun _ _ h => h)
          · exact k0 X w12 hr1 .refl (rot_id b5 b6 (by omega)).symm hcb
        clear hJ185
        refine condB_d (fun h => k185 _ (bD ⟨fun q => ⟨by omega, by omega⟩, fun q => by omega⟩)) (fun h => k185 false (bF fun q => by omega))
    clear hJ20
    refine condB_d (fun hgt => ?_) (fun hle => ?_)
    · have e1 : w64 (((mid + m : Nat) : Int) - (b : Int)) = ((mid + m - b : Nat) : Int) := by rw [w64_of] <;> omega
      rw [e1]
      exact k20 _ _ (by rw [if_pos (by omega)]) (by rw [if_pos (by omega)])
    · exact k20 _ _ (by rw [if_neg (by omega)]) (by rw [if_neg (by omega)])

/-- All blocks of so many are up. -/
def Blks (g : Nat → At) (s n : Nat) : Prop := ∀ k, Up aLt g (k * s) (min ((k + 1) * s) n)
theorem Stable_ok {p : Option Addr} {l c : Nat} {X : List At} {J : World → Prop} (hr : RA w p l c X) (hm : l ≤ 100000000)
    (K : ∀ X' w', RA w' p l c X' → X'.Perm X → Up aLt (pf X') 0 l → Chg (isB p) w w' → J w') :
    callJ Tryd.prog fn_slices_SortStableFunc_sl_api_Attr_api_Attr #[.slice p l c, .func (.func 58) #[] #[]] w [] J := by
  refine c_slices_SortStableFunc_sl_api_Attr_api_Attr_f1_58 ?_
  unfold VC_slices_SortStableFunc_sl_api_Attr_api_Attr_f1_58
  refine c_slices_stableCmpFunc_api_Attr_f2_58 ?_
  unfold VC_slices_stableCmpFunc_api_Attr_f2_58
  have hXl := hr.n
  refine ⟨fun x y w' t => ∃ (k : Nat) (Y : List At), x = ((k * 20 : Nat) : Int) ∧ y = ((k * 20 + 20 : Nat) : Int) ∧ k * 20 ≤ l ∧ t = l - k * 20 ∧ RA w' p l c Y ∧ Sw 0 l X Y ∧ (∀ j, j < k → Up aLt (pf Y) (j * 20) ((j + 1) * 20)) ∧ Chg (isB p) w w',
    ⟨_, 0, X, rfl, rfl, Nat.zero_le _, rfl, hr, .refl, fun j hj => by omega, Chg.refl _ _⟩, ?_⟩
  rintro x y w1 t ⟨k, Y, rfl, rfl, hk, rfl, hr1, hsw, hup, hc1⟩
  have hYl := hr1.n
  refine condB_d (fun hle => ?_) (fun hgt => ?_)
  · refine InsSort_ok (a := k * 20) (b := k * 20 + 20) hr1 (by omega) (by omega) (by omega) fun Z w2 hr2 hsz hu hc2 => ?_
    refine ⟨_, by omega, k + 1, Z, by omega, by rw [w64_of] <;> omega, by omega, rfl, hr2, hsw.trans (hsz.mono (Nat.zero_le _) (by omega) (by omega)), fun j hj => ?_, hc1.trans hc2 fun _ _ h => h⟩
    by_cases hjk : j = k
    · subst hjk
      rw [show (j + 1) * 20 = j * 20 + 20 by omega]; exact hu
    · exact (hup j (by omega)).congr fun q q1 q2 => hsz.out (.inl (by omega))
  · refine InsSort_ok (a := k * 20) (b := l) hr1 (by omega) (Nat.le_refl _) hk fun Z w2 hr2 hsz hu hc2 => ?_
    have hblk : Blks (pf Z) 20 l := by
      intro j
      by_cases hjk : j < k
      · rw [show min ((j + 1) * 20) l = (j + 1) * 20 by omega]
        exact (hup j hjk).congr fun q q1 q2 => hsz.out (.inl (by omega))
      · exact hu.sub (by omega) (by omega)
    refine ⟨fun x w' t => ∃ (s : Nat) (V : List At), x = s ∧ 1 ≤ s ∧ s ≤ 2 * l + 20 ∧ t = 2 * l + 20 - s ∧ RA w' p l c V ∧ Sw 0 l X V ∧ Blks (pf V) s l ∧ Chg (isB p) w w',
      ⟨_, 20, Z, rfl, by decide, by omega, rfl, hr2, hsw.trans (hsz.mono (Nat.zero_le _) (Nat.le_refl _) (by omega)), hblk, hc1.trans hc2 fun _ _ h => h⟩, ?_⟩
    rintro x w4 t ⟨s, V, rfl, hs1, hs2, rfl, hr4, hsv, hb4, hc4⟩
    have hVl := hr4.n
    refine condB_d (fun hlt => ?_) (fun hge => ?_)
    · have e2 : w64 ((2 : Int) * (s : Int)) = ((2 * s : Nat) : Int) := by rw [w64_of] <;> omega
      rw [e2]
      refine ⟨fun x y w' t => ∃ (k : Nat) (U : List At), x = ((k * (2 * s) : Nat) : Int) ∧ y = ((k * (2 * s) + 2 * s : Nat) : Int) ∧ k * (2 * s) ≤ l ∧ t = l - k * (2 * s) ∧ RA w' p l c U ∧ Sw 0 l X U ∧ (∀ j, j < k → Up aLt (pf U) (j * (2 * s)) (j * (2 * s) + 2 * s)) ∧ (∀ q, k * (2 * s) ≤ q → pf U q = pf V q) ∧ Chg (isB p) w w',
        ⟨_, 0, V, by simp, by simp, by simp, rfl, hr4, hsv, fun j hj => by omega, fun q _ => rfl, hc4⟩, ?_⟩
      rintro x y w5 t ⟨k, U, rfl, rfl, hk5, rfl, hr5, hsu, hu5, hsame, hc5⟩
      have hUl := hr5.n
      have em : w64 (((k * (2 * s) : Nat) : Int) + (s : Int)) = ((k * (2 * s) + s : Nat) : Int) := by rw [w64_of] <;> omega
      rw [em]
      have mul1 : (2 * k) * s = k * (2 * s) := by rw [Nat.mul_comm 2 k, Nat.mul_assoc]
      have mul2 : (2 * k + 1) * s = k * (2 * s) + s := by rw [Nat.succ_mul, mul1]
      have mul3 : (2 * k + 1 + 1) * s = k * (2 * s) + 2 * s := by rw [Nat.succ_mul, mul2]; omega
      have mulk : (k + 1) * (2 * s) = k * (2 * s) + 2 * s := Nat.succ_mul _ _
      have blk1 : Up aLt (pf U) (k * (2 * s)) (min (k * (2 * s) + s) l) := by
        have := hb4 (2 * k)
        rw [mul1, mul2] at this
        exact this.congr fun q q1 q2 => hsame q q1
      have blk2 : Up aLt (pf U) (k * (2 * s) + s) (min (k * (2 * s) + 2 * s) l) := by
        have := hb4 (2 * k + 1)
        rw [mul2, mul3] at this
        exact this.congr fun q q1 q2 => hsame q (by omega)
      refine condB_d (fun hle5 => ?_) (fun hgt5 => ?_)
      · rw [show min (k * (2 * s) + s) l = k * (2 * s) + s by omega] at blk1
        rw [show min (k * (2 * s) + 2 * s) l = k * (2 * s) + 2 * s by omega] at blk2
        refine SymMerge_ok _ (Nat.le_refl _) hr5 (by omega) (by omega) (by omega) (by omega) blk1 blk2 fun Q w6 hr6 hsq huq hc6 => ?_
        have e7 : w64 (((k * (2 * s) + 2 * s : Nat) : Int) + ((2 * s : Nat) : Int)) = (((k + 1) * (2 * s) + 2 * s : Nat) : Int) := by rw [mulk, w64_of] <;> omega
        rw [e7]
        refine ⟨_, by omega, k + 1, Q, by rw [mulk], rfl, by omega, rfl, hr6, hsu.trans (hsq.mono (Nat.zero_le _) (by omega) (by omega)), fun j hj => ?_, fun q q1 => ?_, hc5.trans hc6 fun _ _ h => h⟩
        · by_cases hjk : j = k
          · subst hjk; exact huq
          · have hjm : (j + 1) * (2 * s) ≤ k * (2 * s) := Nat.mul_le_mul_right _ (by omega)
            rw [Nat.succ_mul] at hjm
            exact (hu5 j (by omega)).congr fun q q1 q2 => hsq.out (.inl (by omega))
        · rw [mulk] at q1
          rw [hsq.out (.inr q1)]; exact hsame q (by omega)
      · refine withJ_i fun J0 hJ0 => ?_
        have k0 : ∀ Q w7, RA w7 p l c Q → Sw 0 l X Q → (∀ q, q < k * (2 * s) → pf Q q = pf U q) → Up aLt (pf Q) (k * (2 * s)) l → Chg (isB p) w w7 → J0 w7 := by
          intro Q w7 hr7 hsq hsm huq hc7; subst hJ0
          refine ⟨_, by omega, 2 * s, Q, by rw [w64_of] <;> omega, by omega, by omega, rfl, hr7, hsq, fun j => ?_, hc7⟩
          by_cases hjk : j < k
          · have hjm : (j + 1) * (2 * s) ≤ k * (2 * s) := Nat.mul_le_mul_right _ (by omega)
            rw [show min ((j + 1) * (2 * s)) l = (j + 1) * (2 * s) by omega]
            have e8 : (j + 1) * (2 * s) = j * (2 * s) + 2 * s := Nat.succ_mul _ _
            rw [e8] at hjm ⊢
            exact (hu5 j hjk).congr fun q q1 q2 => hsm q (by omega)
          · have hjm : k * (2 * s) ≤ j * (2 * s) := Nat.mul_le_mul_right _ (by omega)
            exact huq.sub (by omega) (by omega)
        clear hJ0
        rw [show min (k * (2 * s) + 2 * s) l = l by omega] at blk2
        refine condB_d (fun hml => ?_) (fun hml => ?_)
        · rw [show min (k * (2 * s) + s) l = k * (2 * s) + s by omega] at blk1
          refine SymMerge_ok _ (Nat.le_refl _) hr5 (by omega) (by omega) (by omega) (Nat.le_refl _) blk1 blk2 fun Q w6 hr6 hsq huq hc6 => ?_
          exact k0 Q w6 hr6 (hsu.trans (hsq.mono (Nat.zero_le _) (Nat.le_refl _) (by omega))) (fun q q1 => hsq.out (.inl q1)) huq (hc5.trans hc6 fun _ _ h => h)
        · rw [show min (k * (2 * s) + s) l = l by omega] at blk1
          exact k0 U w5 hr5 hsu (fun q _ => rfl) blk1 hc5
    · refine K V w4 hr4 hsv.perm ?_ hc4
      have := hb4 0
      rw [Nat.zero_mul, show min ((0 + 1) * s) l = l by omega] at this
      exact this
end
end Go.Proofs.YtdjehimkijlhgaaDoor

