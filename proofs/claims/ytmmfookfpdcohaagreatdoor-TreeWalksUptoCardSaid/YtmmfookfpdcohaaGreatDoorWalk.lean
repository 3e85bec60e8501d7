/-
  Paths of all nodes; going through all nodes with a reader.
-/
import Derived.Test.YtmmfookfpdcohaaGreatDoorRefM
import Derived.Test.YtmmfookfpdcohaaGreatDoorVWalks
set_option linter.unusedVariables false
set_option linter.unusedSimpArgs false
namespace Go.Vc
open Go Go.Lib
mutual
/-- The paths of all nodes, each ahead of its kids'. -/
def pathsV : NV → List (List Int)
  | .mk _ _ _ _ _ _ _ _ _ _ _ ks => [] :: pathsK 0 ks
def pathsK (i : Nat) : List NV → List (List Int)
  | [] => []
  | x :: r => (pathsV x).map ((i : Int) :: ·) ++ pathsK (i + 1) r
end
theorem pathsK_append : ∀ (a b : List NV) (i : Nat), pathsK i (a ++ b) = pathsK i a ++ pathsK (i + a.length) b
  | [], b, i => by simp [pathsK]
  | x :: r, b, i => by
    simp only [List.cons_append, pathsK, pathsK_append r b (i + 1), List.append_assoc, List.length_cons]
    rw [show i + 1 + r.length = i + (r.length + 1) by omega]
mutual
theorem paths_len : ∀ v : NV, (pathsV v).length = v.flat.length
  | .mk k u l t ap al ac ats kp kl kc ks => by
    have := pathsK_len ks 0
    simp only [pathsV, NV.flat, List.length_cons, this]
theorem pathsK_len : ∀ (ks : List NV) (i : Nat), (pathsK i ks).length = (NV.flatL ks).length
  | [], _ => rfl
  | x :: r, i => by
    have := paths_len x
    have := pathsK_len r (i + 1)
    simp only [pathsK, NV.flatL, List.length_append, List.length_map, *]
end
mutual
theorem paths_long : ∀ (v : NV), ∀ zs ∈ pathsV v, zs.length < v.mea
  | .mk k u l t ap al ac ats kp kl kc ks, zs, h => by
    simp only [pathsV, List.mem_cons] at h
    rcases h with rfl | h
    · simp only [NV.mea, List.length_nil]; omega
    · have := pathsK_long ks 0 zs h
      simp only [NV.mea]; omega
theorem pathsK_long : ∀ (ks : List NV) (i : Nat), ∀ zs ∈ pathsK i ks, zs.length ≤ NV.meaL ks
  | [], _, zs, h => by simp [pathsK] at h
  | x :: r, i, zs, h => by
    simp only [pathsK, List.mem_append, List.mem_map] at h
    rcases h with ⟨z, hz, rfl⟩ | h
    · have := paths_long x z hz
      simp only [NV.meaL, List.length_cons]; omega
    · have := pathsK_long r (i + 1) zs h
      simp only [NV.meaL]; omega
end
theorem even_int (L : List Int) : Even intC 1 L := fun _ _ => rfl
theorem even_slv {α : Type} (L : List (SlV α)) : Even SlV.cells 1 L := fun _ _ => rfl
theorem one1_ints (L : List Int) : one1 (rows intC L) := one1_rows fun x _ => one1_cons rfl one1_nil
end Go.Vc
namespace Go.Proofs.YtmmfookfpdcohaaGreatDoor
open Go Go.Vc Go.Lib
section
variable {w : World}
theorem slT_int5 : SlT Tryz.prog T_sl_int T_int 1 8 #[.int .i64 0] := SlT.of (by kernel_rfl) (by kernel_rfl) rfl (by decide)
theorem slT_sl_int5 : SlT Tryz.prog T_sl_sl_int T_sl_int 1 24 #[.slice none 0 0] := SlT.of (by kernel_rfl) (by kernel_rfl) rfl (by decide)
theorem CloneI_ok {p : Option Addr} {l c : Nat} {xs : List Int} {J : Option Addr → Nat → Nat → World → Prop} (h : Sl w p l 1 (rows intC xs)) (hn : p = none → l = 0) (hm : l ≤ 1000000000)
    (K : ∀ p' c' w', Row w' T_int 1 p' l c' (rows intC xs) → fresh w p' → Chg No w w' → J p' l c' w') : callJ Tryz.prog fn_slices_Clone_sl_int_int #[.slice p l c] w [.one .slice] J := by
  refine c_slices_Clone_sl_int_int ?_
  unfold VC_slices_Clone_sl_int_int
  refine condB_i (fun e => ?_) (fun e => ?_)
  · have hp : p = none := by cases p with | none => rfl | some a => cases e
    have h0 := hn hp
    subst h0
    have hx : xs = [] := List.eq_nil_of_length_eq_zero (h.row (even_int xs) (by decide))
    subst hx
    exact K none 0 w (Row.nil _ _ _) (by rintro a ⟨⟩) (Chg.refl _ _)
  · refine newRow (sz := 1) (n := 0) (cs := []) rfl (by decide) fun b5 w1 hr1 hb1 hc1 => ?_
    refine appJ_row slT_int5 hr1 (h.chg hc1 (off_no _)) (one1_ints xs) hn (by omega) (by simp only [maxLen]; omega) fun p' c' w' hr' hc' hf' => ?_
    simp only [Nat.zero_add, List.nil_append] at hr' ⊢
    refine K p' c' w' hr' ?_ ((hc1.mono fun _ _ h => h.elim).trans hc' fun b hb ⟨a, e, hab⟩ => by cases e; simp only at hab; omega)
    rcases hf' with rfl | hf'
    · intro a e; cases e; exact hb1
    · intro a e; have := hf' a e; have := hc1.size; omega
theorem SameInts_ok {p q : Option Addr} {l c l2 c2 : Nat} {X Y : List Int} {J : Bool → World → Prop} (h : Sl w p l 1 (rows intC X)) (h2 : Sl w q l2 1 (rows intC Y)) (hm : l ≤ 1000000000) (k : ∀ w', Chg No w w' → J (decide (X = Y)) w') :
    callJ Tryz.prog fn_ref05_SameInts #[.slice p l c, .slice q l2 c2] w [.one .bool] J := by
  refine c_ref05_SameInts ?_
  unfold VC_ref05_SameInts
  have hl := h.row (even_int X) (by decide)
  have hl2 := h2.row (even_int Y) (by decide)
  refine condB_ne (fun hne => ?_) (fun he => ?_)
  · have e : decide (X = Y) = false := decide_eq_false fun e => hne (by rw [← hl, ← hl2, e])
    rw [e] at k; exact k w (Chg.refl _ _)
  have hll : l = l2 := by omega
  subst hll
  refine ⟨fun x w' t => ∃ i : Nat, x = i ∧ i ≤ l ∧ t = l - i ∧ Chg No w w' ∧ X.take i = Y.take i, ⟨_, 0, rfl, Nat.zero_le _, rfl, Chg.refl _ _, rfl⟩, ?_⟩
  rintro x w' t ⟨i, rfl, hi, rfl, hc, hs⟩
  have hcd := hc.drew
  refine condB_d (fun hlt => ?_) (fun hge => ?_)
  · refine idx_rows (f := intC) (h.chg hcd (off_no _)) (even_int X) (by decide) (by omega) hlt fun a x _ hx hcx => ⟨_, cellsAt_head hcx, ?_⟩
    refine idx_rows (f := intC) (h2.chg hcd (off_no _)) (even_int Y) (by decide) (by omega) hlt fun a' y _ hy hcy => ⟨_, cellsAt_head hcy, ?_⟩
    rw [Int.toNat_natCast] at hx hy
    refine condB_ne (fun hf => ?_) (fun ht => ?_)
    · have e : decide (X = Y) = false := decide_eq_false fun e => by
        rw [e, hy] at hx; exact hf (Option.some.inj hx).symm
      rw [e] at k; exact k _ hcd
    · exact ⟨_, by omega, i + 1, by rw [w64_of] <;> omega, by omega, rfl, hcd, by rw [take_get hx, take_get hy, hs, ht]⟩
  · have e : decide (X = Y) = true := decide_eq_true (by
      rw [List.take_of_length_le (by omega), List.take_of_length_le (by omega)] at hs; exact hs)
    rw [e] at k; exact k w' hc
/-- A list of numbers in a block of its own. -/
def OwnI (w : World) (s : SlV Int) : Prop := Row w T_int 1 s.p s.l s.c (rows intC s.xs)
theorem OwnI.ne {s : SlV Int} (h : OwnI w s) {p : Option Addr} {l c : Nat} {xs : List Value} (hr : Row w T_sl_int 1 p l c xs) : off s.p (isB p) := by
  rintro a ha ⟨a', ha', e⟩
  have h1 := Row.typ h a ha
  have h2 := hr.typ a' ha'
  rw [e, h1] at h2
  exact absurd h2 (by decide)
theorem RefPaths_ok : ∀ (v : NV) {w : World} {J : Option Addr → Nat → Nat → World → Prop}, v.Ok w → v.mea ≤ 10000000 →
    (∀ p' c' w' (PL : List (SlV Int)), PL.map (·.xs) = pathsV v → Row w' T_sl_int 1 p' PL.length c' (rows SlV.cells PL) → fresh w p' → (∀ s ∈ PL, OwnI w' s ∧ fresh w s.p) → Chg No w w' → J p' PL.length c' w') →
    callJ Tryz.prog fn_ref05_Paths #[.agg ⟨v.cells⟩] w [.one .slice] J := by
  intro v
  induction v using NV.ind with
  | h k u lo t ap al ac ats kp kl kc ks ih =>
    intro w J hv hm K
    cases hv with
    | mk ha hn hac hk hkn hkc hks =>
    have hkl := hk.row (even_node ks) (by decide)
    have hlm := len_meaL ks
    have hpk := fun q => pathsK_len (ks.take q) 0
    have hfk := fun q => flatL_le ks q
    have hfl := flatL_len ks
    have hmm : NV.meaL ks < 10000000 := by simp only [NV.mea] at hm; omega
    refine c_ref05_Paths ?_
    unfold VC_ref05_Paths
    refine nodeBox (Hp.start w No) fun b1 w1 H1 hb1 hc1 => ?_
    refine newRow (sz := 1) (n := 0) (cs := []) rfl (by decide) fun b8 w2 hr2 hb8 hc2 => ?_
    have H2 := H1.step0 hc2
    refine newRow (sz := 1) (n := 1) rfl (by decide) fun b9 w3 hr3 hb9 hc3 => ?_
    have H3 := H2.step0 hc3
    have s1 := hc1.size
    have s2 := hc2.size
    refine H3.ldS 0 rfl (off := 4) rfl ?_
    refine ⟨fun op ol oc i w' m => ∃ (q : Nat) (OL : List (SlV Int)), i = q ∧ q ≤ kl ∧ m = kl - q ∧ ol = OL.length ∧ OL.map (·.xs) = [] :: pathsK 0 (ks.take q) ∧ Row w' T_sl_int 1 op ol oc (rows SlV.cells OL) ∧ fresh w op ∧ (∀ s ∈ OL, OwnI w' s ∧ fresh w s.p) ∧ Chg No w w',
      ⟨_, 0, [⟨some ⟨b8, 0, none⟩, 0, 0, []⟩], rfl, Nat.zero_le _, rfl, rfl, by simp [pathsK], hr3, (by rintro a ⟨⟩; simp only; omega), (by
        intro s hs
        rw [List.mem_singleton.1 hs]
        exact ⟨hr2.chg hc3 (off_no _), by rintro a ⟨⟩; simp only; omega⟩), H3.chg⟩, ?_⟩
    rintro op ol oc i w4 m ⟨q, OL, rfl, hq, rfl, rfl, hOL, hr4, hf4, hs4, hc4⟩
    have hOLl : OL.length ≤ 10000000 := by
      have := congrArg List.length hOL
      rw [List.length_map, List.length_cons, hpk] at this
      have := hfk q; omega
    refine condB_d (fun hlt => ?_) (fun hge => ?_)
    · refine idx_rows (hk.chg hc4 (off_no _)) (even_node ks) (by decide) (by omega) hlt fun a y _ hy hcs => ?_
      rw [Int.toNat_natCast] at hy
      have hymem := List.mem_of_getElem? hy
      have ihy := @ih y hymem
      have hyok := hks y hymem
      have hym := mea_kid hymem
      have hylong := paths_long y
      have hyl := paths_len y
      have hyfl := flat_len y
      have htq : pathsK 0 (ks.take (q + 1)) = pathsK 0 (ks.take q) ++ (pathsV y).map ((q : Int) :: ·) := by
        rw [take_get hy, pathsK_append, List.length_take, Nat.zero_add, show min q ks.length = q by omega]
        simp [pathsK]
      cases y with
      | mk yk yu yl yt yap yal yac yas ykp ykl ykc yks =>
      refine nodeVar (Hp.start w4 No) hcs fun b6 w6 H6 _ hc6 => ?_
      refine ldBox H6 0 rfl ?_
      refine ihy ((hyok.chg0 hc4).chg0 hc6) (by omega) fun p7 c7 w7 PL hPL hr7 hf7 hs7 hc7 => ?_
      have hPLl : PL.length ≤ 10000000 := by
        have := congrArg List.length hPL
        rw [List.length_map, hyl] at this; omega
      have z4 := hc4.size
      have z6 := hc6.size
      have z7 := hc7.size
      have c07 := (hc4.trans0 hc6).trans0 hc7
      refine ⟨fun op' ol' oc' i w' m => ∃ (n : Nat) (OL' : List (SlV Int)), i = n ∧ n ≤ PL.length ∧ m = PL.length - n ∧ ol' = OL'.length ∧ OL'.length = OL.length + n ∧ OL'.map (·.xs) = [] :: pathsK 0 (ks.take q) ++ ((PL.take n).map (·.xs)).map ((q : Int) :: ·) ∧ Row w' T_sl_int 1 op' ol' oc' (rows SlV.cells OL') ∧ fresh w op' ∧
          (∀ s ∈ OL', OwnI w' s ∧ fresh w s.p) ∧ Chg No w w' ∧ Row w' T_sl_int 1 p7 PL.length c7 (rows SlV.cells PL) ∧ (∀ s ∈ PL, OwnI w' s) ∧ off p7 (isB op'),
        ⟨_, 0, OL, rfl, Nat.zero_le _, rfl, rfl, rfl, by simpa using hOL, (hr4.chg hc6 (off_no _)).chg hc7 (off_no _), hf4, (fun s hs => ⟨((hs4 s hs).1.chg hc6 (off_no _)).chg hc7 (off_no _), (hs4 s hs).2⟩), c07, hr7, (fun s hs => (hs7 s hs).1), (by
          rintro a ha ⟨a', ha', e⟩
          have := hf7 a ha
          have := hr4.lt a' ha'
          omega)⟩, ?_⟩
      rintro op ol oc i w8 m ⟨n, OL', rfl, hn8, rfl, rfl, hOLl', hOL8, hr8, hf8, hs8, hc8, hr78, hs78, hoff8⟩
      refine condB_d (fun hlt2 => ?_) (fun hge2 => ?_)
      · refine idx_rows hr78.sl (even_slv PL) (by decide) (by omega) hlt2 fun a z _ hz hcz => ?_
        rw [Int.toNat_natCast] at hz
        have hzm := List.mem_of_getElem? hz
        have hzo := hs78 z hzm
        have hzl : z.xs.length = z.l := hzo.sl.row (even_int _) (by decide)
        have hzlt := hylong z.xs (by rw [← hPL]; exact List.mem_map_of_mem hzm)
        refine ⟨_, _, _, cellsAt_head hcz, ?_⟩
        refine newRow (sz := 1) (n := 1) (cs := [.int .i64 (q : Int)]) rfl (by decide) fun b27 w9 hr9 hb27 hc9 => ?_
        refine appJ_row slT_int5 hr9 (hzo.sl.chg hc9 (off_no _)) (one1_ints z.xs) hzo.none0 (by omega) (by simp only [maxLen]; omega) fun p10 c10 w10 hr10 hc10 hf10 => ?_
        have n27 : ∀ b, b < w8.heap.size → ¬ isB (some (⟨b27, 0, none⟩ : Addr)) b := by
          rintro b hb ⟨a, e, hab⟩; cases e; simp only at hab; omega
        have c810 : Chg No w8 w10 := (hc9.mono fun _ _ h => h.elim).trans hc10 fun b hb h => (n27 b hb h).elim
        have z9 := hc9.size
        have z10 := hc10.size
        have hf10' : fresh w8 p10 := by
          rcases hf10 with rfl | h
          · intro a e; cases e; exact hb27
          · intro a e; have := h a e; omega
        refine newRow (sz := 1) (n := 1) (cs := [.slice p10 (1 + z.l) c10]) rfl (by decide) fun b30 w11 hr11 hb30 hc11 => ?_
        have c811 := c810.trans0 hc11
        refine appJ_row slT_sl_int5 (hr8.chg c811 (off_no _)) hr11.sl (one1_cons rfl one1_nil) (by simp) (by omega) (by simp only [maxLen]; omega) fun p12 c12 w12 hr12 hc12 hf12 => ?_
        have z11 := hc11.size
        have z12 := hc12.size
        have z8 := hc8.size
        refine ⟨_, by omega, n + 1, OL' ++ [⟨p10, 1 + z.l, c10, (q : Int) :: z.xs⟩], by rw [w64_of] <;> omega, by omega, rfl, by rw [List.length_append]; rfl, by rw [List.length_append, List.length_singleton]; omega, ?_, ?_, ?_, ?_, ?_, ?_, ?_, ?_⟩
        · rw [List.map_append, hOL8, take_get hz]
          simp only [List.map_append, List.map_cons, List.map_nil, List.append_assoc]
        · rw [rows_append, rows_cons, rows_nil, List.append_nil]; exact hr12
        · rcases hf12 with rfl | h
          · exact hf8
          · intro a e; have := h a e; omega
        · intro s hs
          rcases List.mem_append.1 hs with hs | hs
          · have h1 := (hs8 s hs).1
            exact ⟨(Row.chg h1 c811 (off_no _)).chg hc12 (OwnI.ne h1 hr8), (hs8 s hs).2⟩
          · rw [List.mem_singleton.1 hs]
            have h1 : OwnI w11 ⟨p10, 1 + z.l, c10, (q : Int) :: z.xs⟩ := by
              have := hr10.chg hc11 (off_no _)
              unfold OwnI
              rw [rows_cons]; exact this
            exact ⟨Row.chg h1 hc12 (OwnI.ne h1 (hr8.chg c811 (off_no _))), fun a e => by have := hf10' a e; omega⟩
        · exact (hc8.trans0 c811).trans hc12 fun b hb ⟨a, ea, e⟩ => by have := hf8 a ea; omega
        · exact (hr78.chg c811 (off_no _)).chg hc12 hoff8
        · intro s hs
          have h1 := hs78 s hs
          exact (Row.chg h1 c811 (off_no _)).chg hc12 (OwnI.ne h1 hr8)
        · rintro a ha ⟨a', ha', e⟩
          rcases hf12 with rfl | h
          · exact hoff8 a ha ⟨a', ha', e⟩
          · have := h a' ha'
            have := hr78.lt a ha
            omega
      · have hnP : n = PL.length := by omega
        subst hnP
        rw [List.take_of_length_le (Nat.le_refl _), hPL] at hOL8
        exact ⟨_, by omega, q + 1, OL', by rw [w64_of] <;> omega, by omega, rfl, rfl, by rw [hOL8, htq]; rfl, hr8, hf8, hs8, hc8⟩
    · have hqk : q = kl := by omega
      subst hqk
      rw [List.take_of_length_le (by omega)] at hOL
      exact K op oc w4 OL (by rw [hOL, pathsV]) hr4 hf4 hs4 hc4
end
end Go.Proofs.YtmmfookfpdcohaaGreatDoor

