/-
  The document's scopes: Open, Bound, Element.
-/
import Derived.Test.YtdjehimkijlhgaaDoorScopeB
import Derived.Test.YtdjehimkijlhgaaDoorVRef04
import Derived.Test.YtdjehimkijlhgaaDoorHpx
set_option linter.unusedVariables false
set_option linter.unusedSimpArgs false
namespace Go.Vc
open Go Go.Lib
/-- What a slice's block is of. -/
def tyP (w : World) (e : TypeId) (p : Option Addr) : Prop := ∀ a, p = some a → typ w a.block = some e
theorem tyP.chg {w w' : World} {e : TypeId} {p : Option Addr} (h : tyP w e p) (hc : Chg No w w') : tyP w' e p := fun a ha => typ_chg hc (h a ha) (fun h => h)
theorem tyP.off {w : World} {e e' : TypeId} {p : Option Addr} (h : tyP w e p) {b : Nat} (hb : typ w b = some e') (hne : e ≠ e') : off p (fun x => x = b) := fun a ha e1 => by
  have h1 := h a ha
  simp only at e1
  rw [e1, hb] at h1; cases h1; exact hne rfl
theorem tyP.chg1 {w w' : World} {e e' : TypeId} {p : Option Addr} {b : Nat} (h : tyP w e p) (hb : typ w b = some e') (hne : e ≠ e') (hc : Chg (fun x => x = b) w w') : tyP w' e p := fun a ha => typ_chg hc (h a ha) (h.off hb hne a ha)
def openR : List Pr → List ByteArray → List Pr → List Pr × Int
  | [], _, R => (R, 0)
  | x :: L, had, R => match decl x with
    | none => openR L had R
    | some p => if wrongZ p x.2 ≠ 0 then ([], wrongZ p x.2) else if memB p had = true then ([], 27) else openR L (had ++ [p]) (R ++ [(p, x.2)])
def boundR (R : List Pr) (p : ByteArray) : ByteArray × Bool := if p = kXml then (kSXml, true) else match R.reverse.find? (fun b => decide (b.1 = p)) with | some b => (b.2, true) | none => (kE, decide (p = kE))
theorem openR_drop {L : List Pr} {i : Nat} {x : Pr} (h : L[i]? = some x) (had : List ByteArray) (B : List Pr) : openR (L.drop i) had B = match decl x with
    | none => openR (L.drop (i + 1)) had B
    | some p => if wrongZ p x.2 ≠ 0 then ([], wrongZ p x.2) else if memB p had = true then ([], 27) else openR (L.drop (i + 1)) (had ++ [p]) (B ++ [(p, x.2)]) := by
  obtain ⟨g1, g2⟩ := List.getElem?_eq_some_iff.1 h
  rw [List.drop_eq_getElem_cons g1, g2]; rfl
theorem nonNil_i {a : Addr} {K : Addr → Prop} (h : K a) : nonNil (some a) K := h
theorem find_rev_take {R : List Pr} {i : Nat} {x : Pr} {P : Pr → Bool} (h : R[i]? = some x) : (R.take (i + 1)).reverse.find? P = if P x then some x else (R.take i).reverse.find? P := by
  obtain ⟨g1, g2⟩ := List.getElem?_eq_some_iff.1 h
  rw [List.take_succ_eq_append_getElem g1, g2, List.reverse_append, List.reverse_singleton, List.singleton_append, List.find?_cons]
  cases P x <;> rfl
end Go.Vc
namespace Go.Proofs.YtdjehimkijlhgaaDoor
open Go Go.Vc Go.Lib

theorem zeroC_rscope : zeroC Tryd.prog T_ref04_Scope = #[.slice none 0 0, .slice none 0 0] := by kernel_rfl
theorem zeroC_rpair : zeroC Tryd.prog T_ref03_Pair = #[.string ByteArray.empty, .string ByteArray.empty] := by kernel_rfl
section
variable {w : World}

theorem DeclR_ok {x : Pr} {J : ByteArray → Bool → World → Prop} (hs : x.1.size ≤ 140737488355328) (K : ∀ p w', Chg No w w' → (∀ y, decl x = some y → p = y) → J p (decl x).isSome w') :
    callJ Tryd.prog fn_ref04_declares #[.agg ⟨[.string x.1, .string x.2]⟩] w [.one .str, .one .bool] J := by
  refine c_ref04_declares ?_
  unfold VC_ref04_declares
  rw [show (⟨#[120, 109, 108, 110, 115]⟩ : ByteArray) = kXmlns from rfl, show (⟨#[]⟩ : ByteArray) = kE from rfl]
  simp only [beqS]
  refine (Hp.start w No).newB fun b1 w1 H1 _ hc1 => ?_
  refine H1.ldStr 0 rfl (off := 0) rfl ?_
  refine condB_d (fun he => ?_) (fun hne => ?_)
  · have e : decl x = some kE := by unfold decl; rw [if_pos he]
    have := K kE w1 H1.chg (fun y hy => by rw [e] at hy; exact Option.some.inj hy)
    rw [e] at this; exact this
  refine H1.ldStr 0 rfl (off := 0) rfl ?_
  refine SplitR_ok hs fun a b ok w2 hc2 hsp => ?_
  have H2 := H1.step0 hc2
  unfold Spl at hsp
  have ea : bl a = (spl (bl x.1)).1 := congrArg Prod.fst hsp
  have eb : bl b = (spl (bl x.1)).2.1 := congrArg (fun z => z.2.1) hsp
  have eo : ok = (spl (bl x.1)).2.2 := congrArg (fun z => z.2.2) hsp
  refine withJ_i fun J2 hJ2 => ?_
  have k2 : ∀ c, (c = true ↔ ((spl (bl x.1)).2.2 = true ∧ (spl (bl x.1)).1 = bl kXmlns)) → J2 b c w2 := by
    intro c hcc; subst hJ2
    by_cases hh : (spl (bl x.1)).2.2 = true ∧ (spl (bl x.1)).1 = bl kXmlns
    · have e : decl x = some b := by unfold decl; rw [if_neg hne, if_pos hh, mkB_eq eb]
      have := K b w2 H2.chg (fun y hy => by rw [e] at hy; exact Option.some.inj hy)
      rw [e] at this; rw [hcc.2 hh]; exact this
    · have e : decl x = none := by unfold decl; rw [if_neg hne, if_neg hh]
      have := K b w2 H2.chg (fun y hy => by rw [e] at hy; cases hy)
      rw [e] at this
      have hcf : c = false := by cases c with | false => rfl | true => exact absurd (hcc.1 rfl) hh
      rw [hcf]; exact this
  clear hJ2
  refine condB_i (fun ht => k2 _ ?_) (fun hf => k2 false (bF fun h => by rw [← eo, hf] at h; cases h.1))
  refine bD ?_
  rw [← ea, ← eo, ht]
  exact ⟨fun e => ⟨rfl, by rw [e]⟩, fun e => bl_ext e.2⟩

theorem RBound_ok {p q : Option Addr} {l c d : Nat} {R : List Pr} {v : ByteArray} {J : ByteArray → Bool → World → Prop} (h1 : Sl w p l 1 (strs (R.map Prod.fst))) (h2 : Sl w q l 1 (strs (R.map Prod.snd))) (hm : l ≤ 140737488355328) (K : ∀ w', Chg No w w' → J (boundR R v).1 (boundR R v).2 w') :
    callJ Tryd.prog fn_ref04_Bound #[.agg ⟨[.slice p l c, .slice q l d]⟩, .string v] w [.one .str, .one .bool] J := by
  refine c_ref04_Bound ?_
  unfold VC_ref04_Bound
  rw [show (⟨#[120, 109, 108]⟩ : ByteArray) = kXml from rfl, show (⟨#[]⟩ : ByteArray) = kE from rfl,
    show (⟨#[104, 116, 116, 112, 58, 47, 47, 119, 119, 119, 46, 119, 51, 46, 111, 114, 103, 47, 88, 77, 76, 47, 49, 57, 57, 56, 47, 110, 97, 109, 101, 115, 112, 97, 99, 101]⟩ : ByteArray) = kSXml from rfl]
  simp only [beqS]
  have hl : R.length = l := by have := h1.1; rw [strs_length, List.length_map] at this; omega
  refine (Hp.start w No).newB fun b2 w1 H1 _ hc1 => ?_
  unfold boundR at K
  refine condB_d (fun hx => by rw [if_pos hx] at K; exact K w1 hc1) (fun hx => ?_)
  rw [if_neg hx] at K
  refine H1.ldS 0 rfl (off := 0) rfl ?_
  refine ⟨fun x w' t => ∃ i : Nat, x = (i : Int) - 1 ∧ i ≤ l ∧ i = t ∧ w' = w1 ∧ R.reverse.find? (fun b => decide (b.1 = v)) = (R.take i).reverse.find? (fun b => decide (b.1 = v)), ⟨_, l, by rw [w64_of] <;> omega, Nat.le_refl _, rfl, rfl, by rw [List.take_of_length_le (by omega)]⟩, ?_⟩
  rintro x w2 t ⟨i, rfl, hi, rfl, rfl, hfind⟩
  refine condB_d (fun hge => ?_) (fun hlt => ?_)
  · obtain ⟨j, rfl⟩ : ∃ j, i = j + 1 := ⟨i - 1, by omega⟩
    have ej : (((j + 1 : Nat) : Int) - 1) = (j : Int) := by omega
    rw [ej]
    have hy : R[j]? = some R[j] := List.getElem?_eq_getElem (by omega)
    rw [find_rev_take hy] at hfind
    refine H1.ldS 0 rfl (off := 0) rfl ?_
    refine str_i (h1.chg hc1 (off_no _)) (by omega) (by omega) fun s hs => ?_
    rw [Int.toNat_natCast, List.getElem?_map, hy] at hs
    cases hs
    refine condB_d (fun he => ?_) (fun hne => ?_)
    · refine H1.ldS 0 rfl (off := 1) rfl ?_
      refine str_i (h2.chg hc1 (off_no _)) (by omega) (by omega) fun s hs => ?_
      rw [Int.toNat_natCast, List.getElem?_map, hy] at hs
      cases hs
      rw [if_pos (decide_eq_true he)] at hfind
      rw [hfind] at K
      exact K w2 hc1
    · rw [if_neg (by simp [hne])] at hfind
      exact ⟨j, by omega, j, by rw [w64_of] <;> omega, by omega, rfl, rfl, hfind⟩
  · have hi0 : i = 0 := by omega
    subst hi0
    rw [List.take_zero, List.reverse_nil, List.find?_nil] at hfind
    rw [hfind] at K
    exact K w2 hc1

theorem RElement_ok {p q0 : Option Addr} {l c d : Nat} {R : List Pr} {q : ByteArray} {J : ByteArray → ByteArray → Int → World → Prop} (h1 : Sl w p l 1 (strs (R.map Prod.fst))) (h2 : Sl w q0 l 1 (strs (R.map Prod.snd))) (hm : l ≤ 140737488355328) (hq : q.size ≤ 140737488355328)
    (K : ∀ w', Chg No w w' → J (elemL (boundR R) q).1.1 (elemL (boundR R) q).1.2 (elemL (boundR R) q).2 w') :
    callJ Tryd.prog fn_ref04_Element #[.agg ⟨[.slice p l c, .slice q0 l d]⟩, .string q] w [.agg [.str, .str], .one (.int .i64)] J := by
  refine c_ref04_Element ?_
  unfold VC_ref04_Element
  rw [show (⟨#[120, 109, 108, 110, 115]⟩ : ByteArray) = kXmlns from rfl, zeroC_name]
  simp only [beqS]
  refine (Hp.start w No).newB fun b2 w1 H1 _ hc1 => ?_
  refine H1.newB fun b4 w2 H2 _ hc2 => ?_
  refine SplitR_ok hq fun a b ok w3 hc3 hsp => ?_
  have H3 := H2.step0 hc3
  unfold Spl at hsp
  have ea : bl a = (spl (bl q)).1 := congrArg Prod.fst hsp
  have eb : bl b = (spl (bl q)).2.1 := congrArg (fun z => z.2.1) hsp
  have eo : ok = (spl (bl q)).2.2 := congrArg (fun z => z.2.2) hsp
  unfold elemL at K
  rw [mkB_eq ea, mkB_eq eb, ← eo] at K
  refine condB_not (fun hf => ?_) (fun ht => ?_)
  · rw [if_pos hf] at K
    exact nameAns 0 H3 rfl rfl fun w' hc => K w' hc
  rw [if_neg (by simp [ht])] at K
  refine condB_d (fun he => ?_) (fun hne => ?_)
  · rw [if_pos he] at K
    exact nameAns 0 H3 rfl rfl fun w' hc => K w' hc
  rw [if_neg hne] at K
  refine H3.ldS 1 rfl (off := 0) rfl ?_
  refine H3.ldS 1 rfl (off := 1) rfl ?_
  refine RBound_ok (h1.chg H3.chg (off_no _)) (h2.chg H3.chg (off_no _)) hm fun w6 hc6 => ?_
  have H6 := H3.step0 hc6
  refine condB_not (fun hf => ?_) (fun ht => ?_)
  · rw [if_pos hf] at K
    exact nameAns 0 H6 rfl rfl fun w' hc => K w' hc
  · rw [if_neg (by simp [ht])] at K
    exact nameAns 0 H6 rfl rfl fun w' hc => K w' hc

theorem map_fst_snoc (R : List Pr) (p u : ByteArray) : strs (R.map Prod.fst) ++ [Value.string p] = strs ((R ++ [(p, u)]).map Prod.fst) := by simp [strs]
theorem map_snd_snoc (R : List Pr) (p u : ByteArray) : strs (R.map Prod.snd) ++ [Value.string u] = strs ((R ++ [(p, u)]).map Prod.snd) := by simp [strs]

set_option maxHeartbeats 800000 in
theorem ROpen_ok {p q pl : Option Addr} {l c d m dl : Nat} {R L : List Pr} {J : Option Addr → Nat → Nat → Option Addr → Nat → Nat → Int → World → Prop} (h1 : Sl w p l 1 (strs (R.map Prod.fst))) (h2 : Sl w q l 1 (strs (R.map Prod.snd))) (n1 : p = none → l = 0) (n2 : q = none → l = 0)
    (hL : Sl w pl m 2 (rows pr L)) (hs : ∀ x ∈ L, x.1.size ≤ 140737488355328) (hm : l + m ≤ 100000000)
    (K : ∀ p' q' l' c' d' w', Sl w' p' l' 1 (strs ((openR L [] R).1.map Prod.fst)) → Sl w' q' l' 1 (strs ((openR L [] R).1.map Prod.snd)) → (p' = none → l' = 0) → (q' = none → l' = 0) → tyP w' T_string p' → tyP w' T_string q' → Chg No w w' → l' ≤ l + m → J p' l' c' q' l' d' (openR L [] R).2 w') :
    callJ Tryd.prog fn_ref04_Open #[.agg ⟨[.slice p l c, .slice q l d]⟩, .slice pl m dl] w [.agg [.slice, .slice], .one (.int .i64)] J := by
  refine c_ref04_Open ?_
  unfold VC_ref04_Open
  rw [show (⟨#[120, 109, 108, 110, 115]⟩ : ByteArray) = kXmlns from rfl, show (⟨#[]⟩ : ByteArray) = kE from rfl, show (⟨#[120, 109, 108]⟩ : ByteArray) = kXml from rfl,
    show (⟨#[104, 116, 116, 112, 58, 47, 47, 119, 119, 119, 46, 119, 51, 46, 111, 114, 103, 47, 50, 48, 48, 48, 47, 120, 109, 108, 110, 115, 47]⟩ : ByteArray) = kSX from rfl,
    show (⟨#[104, 116, 116, 112, 58, 47, 47, 119, 119, 119, 46, 119, 51, 46, 111, 114, 103, 47, 88, 77, 76, 47, 49, 57, 57, 56, 47, 110, 97, 109, 101, 115, 112, 97, 99, 101]⟩ : ByteArray) = kSXml from rfl, zeroC_rscope, zeroC_rpair]
  simp only [beqS]
  have hRl : R.length = l := by have := h1.1; rw [strs_length, List.length_map] at this; omega
  have hll := hL.row (even_pr L) (by decide)
  refine (Hp.start w No).newB fun b2 w1 H1 _ hc1 => ?_
  refine H1.newB fun b4 w2 H2 _ hc2 => ?_
  have H2d := H2.drew
  refine withJ_i fun J6 hJ6 => ?_
  have k6 : ∀ b6 bP rP cP bU rU cU w3, Hp w No w3 [⟨b6, [.slice (some ⟨bP, 0, none⟩) l cP, .slice (some ⟨bU, 0, none⟩) l cU], T_ref04_Scope⟩, ⟨bP, strs (R.map Prod.fst) ++ rP, T_string⟩, ⟨bU, strs (R.map Prod.snd) ++ rU, T_string⟩, ⟨b4, [.slice none 0 0, .slice none 0 0], T_ref04_Scope⟩, ⟨b2, [.slice p l c, .slice q l d], T_ref04_Scope⟩] →
      Fit (strs (R.map Prod.fst)) rP l cP 1 → Fit (strs (R.map Prod.snd)) rU l cU 1 → J6 (some ⟨b6, 0, none⟩) w3 := by
    intro b6 bP rP cP bU rU cU w3 H3 FP FU; subst hJ6
    refine H3.newB fun b23 w4 H4 hb23 hc4 => ?_
    refine ⟨fun hp hl hc x w' t => ∃ (i : Nat) (had : List ByteArray) (R' : List Pr) (bH : Nat) (rH : List Value) (bP : Nat) (rP : List Value) (cP bU : Nat) (rU : List Value) (cU n : Nat), x = i ∧ i ≤ m ∧ t = m - i ∧ hp = some ⟨bH, 0, none⟩ ∧
        Hp w No w' [⟨bH, strs had ++ rH, T_string⟩, ⟨b6, [.slice (some ⟨bP, 0, none⟩) n cP, .slice (some ⟨bU, 0, none⟩) n cU], T_ref04_Scope⟩, ⟨bP, strs (R'.map Prod.fst) ++ rP, T_string⟩, ⟨bU, strs (R'.map Prod.snd) ++ rU, T_string⟩, ⟨b4, [.slice none 0 0, .slice none 0 0], T_ref04_Scope⟩, ⟨b2, [.slice p l c, .slice q l d], T_ref04_Scope⟩] ∧
        Fit (strs had) rH hl hc 1 ∧ Fit (strs (R'.map Prod.fst)) rP n cP 1 ∧ Fit (strs (R'.map Prod.snd)) rU n cU 1 ∧ hl ≤ i ∧ n ≤ l + i ∧ openR (L.drop i) had R' = openR L [] R,
      ⟨_, 0, [], R, b23, [], bP, rP, cP, bU, rU, cU, l, rfl, Nat.zero_le _, rfl, rfl, H4, Fit.nil 1, FP, FU, Nat.le_refl _, Nat.le_refl _, rfl⟩, ?_⟩
    rintro hp hl hc x w5 t ⟨i, had, R', bH, rH, bP, rP, cP, bU, rU, cU, n, rfl, hi, rfl, rfl, H5, FH, FP, FU, hhi, hni, hop⟩
    refine condB_d (fun hlt => ?_) (fun hge => ?_)
    · refine withJ_i fun J7 hJ7 => ?_
      have k7 : ∀ had R' bH rH bP rP cP bU rU cU n hl hc w', Hp w No w' [⟨bH, strs had ++ rH, T_string⟩, ⟨b6, [.slice (some ⟨bP, 0, none⟩) n cP, .slice (some ⟨bU, 0, none⟩) n cU], T_ref04_Scope⟩, ⟨bP, strs (R'.map Prod.fst) ++ rP, T_string⟩, ⟨bU, strs (R'.map Prod.snd) ++ rU, T_string⟩, ⟨b4, [.slice none 0 0, .slice none 0 0], T_ref04_Scope⟩, ⟨b2, [.slice p l c, .slice q l d], T_ref04_Scope⟩] →
          Fit (strs had) rH hl hc 1 → Fit (strs (R'.map Prod.fst)) rP n cP 1 → Fit (strs (R'.map Prod.snd)) rU n cU 1 → hl ≤ i + 1 → n ≤ l + (i + 1) → openR (L.drop (i + 1)) had R' = openR L [] R → J7 (some ⟨bH, 0, none⟩) hl hc w' := by
        intro had R' bH rH bP rP cP bU rU cU n hl hc w' g1 g2 g3 g4 g5 g6 g7; subst hJ7
        exact ⟨_, by omega, i + 1, had, R', bH, rH, bP, rP, cP, bU, rU, cU, n, by rw [w64_of] <;> omega, by omega, rfl, rfl, g1, g2, g3, g4, g5, g6, g7⟩
      clear hJ7
      refine pr_i (H5.oldSl hL (off_no _)) (by omega) hlt fun a y hy e1 e2 => ?_
      rw [Int.toNat_natCast] at hy
      rw [openR_drop hy] at hop
      refine ldStr_i e1 (ldStr_i e2 ?_)
      refine H5.newB fun b9 w7 H7 hb9 hc7 => ?_
      refine H7.stN 0 rfl (off := 0) rfl (by simp) (one1_pr _) fun w8 H8 hc8 => ?_
      have e5 : splice [Value.string ByteArray.empty, Value.string ByteArray.empty] 0 (pr y) = pr y := splice_all rfl
      simp only [List.set_cons_zero] at H8
      rw [show splice [Value.string ByteArray.empty, Value.string ByteArray.empty] 0 [Value.string y.1, Value.string y.2] = pr y from e5] at H8
      refine H8.ldStr 0 rfl (off := 0) rfl ?_
      refine H8.ldStr 0 rfl (off := 1) rfl ?_
      refine DeclR_ok (hs y (List.mem_of_getElem? hy)) fun dp w9 hc9 hdp => ?_
      have H9 := H8.step0 hc9
      refine condB_not (fun hnd => ?_) (fun hd => ?_)
      · have hnone : decl y = none := by cases hdd : decl y with | none => rfl | some z => rw [hdd] at hnd; cases hnd
        rw [hnone] at hop
        exact k7 had R' bH rH bP rP cP bU rU cU n hl hc w9 (H9.sub (List.sublist_cons_self _ _)) FH FP FU (by omega) (by omega) hop
      obtain ⟨z, hz⟩ : ∃ z, decl y = some z := by cases hdd : decl y with | none => rw [hdd] at hd; cases hd | some z => exact ⟨z, rfl⟩
      obtain rfl := hdp z hz
      rw [hz] at hop
      simp only at hop
      -- an error is answered
      have err : ∀ (e : Int) w10, Chg No w9 w10 → openR L [] R = ([], e) → stN w10 ⟨b4, 0, none⟩ ⟨[.slice none 0 0, .slice none 0 0]⟩ 2 fun w11 => ldS w11 ⟨b4, 0, none⟩ fun r0 r1 r2 => ldS w11 ⟨b4, 1, none⟩ fun s0 s1 s2 => J r0 r1 r2 s0 s1 s2 e w11 := by
        intro e w10 hc10 he
        have H10 := H9.step0 hc10
        refine H10.stN 5 rfl (off := 0) rfl (by simp) (one1_cons rfl (one1_cons rfl one1_nil)) fun w11 H11 _ => ?_
        refine H11.ldS 5 rfl (off := 0) rfl ?_
        refine H11.ldS 5 rfl (off := 1) rfl ?_
        have := K none none 0 0 0 w11 (by rw [he]; exact Sl.nil _ _ _) (by rw [he]; exact Sl.nil _ _ _) (fun _ => rfl) (fun _ => rfl) (by rintro a ⟨⟩) (by rintro a ⟨⟩) H11.chg (Nat.zero_le _)
        rw [he] at this; exact this
      refine withJ_i fun J61 hJ61 => ?_
      have k61 : ∀ b, (b = true ↔ (dp = kXmlns ∨ y.2 = kSX ∨ (decide (dp = kXml) ≠ decide (y.2 = kSXml)))) → J61 b w9 := by
        intro b hb; subst hJ61
        unfold wrongZ at hop
        refine meetI hb (fun hh => ?_) (fun hn => ?_)
        · rw [if_pos hh, if_pos (by decide)] at hop
          exact err 29 w9 (Chg.refl _ _) hop.symm
        rw [if_neg hn] at hop
        refine withJ_i fun J69 hJ69 => ?_
        have k69 : ∀ b, (b = true ↔ (dp ≠ kE ∧ y.2 = kE)) → J69 b w9 := by
          intro b hb; subst hJ69
          refine meetI hb (fun hh => ?_) (fun hn => ?_)
          · rw [if_pos hh, if_pos (by decide)] at hop
            exact err 28 w9 (Chg.refl _ _) hop.symm
          rw [if_neg hn] at hop
          refine H9.ldStr 0 rfl (off := 1) rfl ?_
          refine condB_d (fun hbig => ?_) (fun hsm => ?_)
          · rw [if_pos (show y.2.size > 100 by omega), if_pos (by decide)] at hop
            exact err 6 w9 (Chg.refl _ _) hop.symm
          rw [if_neg (show ¬ y.2.size > 100 by omega), if_neg (fun h => h rfl)] at hop
          have hSH : Sl w9 (some ⟨bH, 0, none⟩) hl 1 (strs had) := H9.slAt 1 rfl FH
          have hhl : had.length = hl := by have := FH.len; rw [strs_length] at this; omega
          refine ⟨fun x w' t => ∃ j : Nat, x = j ∧ j ≤ hl ∧ t = hl - j ∧ w' = w9 ∧ dp ∉ had.take j, ⟨_, 0, rfl, Nat.zero_le _, rfl, rfl, by simp⟩, ?_⟩
          rintro x w15 t ⟨j, rfl, hj, rfl, rfl, hno⟩
          refine condB_d (fun hlt2 => ?_) (fun hge2 => ?_)
          · refine str_i hSH (by omega) hlt2 fun s hs' => ?_
            rw [Int.toNat_natCast] at hs'
            refine condB_d (fun he => ?_) (fun hne => ?_)
            · rw [if_pos (memB_iff.2 (by rw [← he]; exact List.mem_of_getElem? hs'))] at hop
              exact err 27 w15 (Chg.refl _ _) hop.symm
            · refine ⟨_, by omega, j + 1, by rw [w64_of] <;> omega, by omega, rfl, rfl, ?_⟩
              obtain ⟨g1, g2⟩ := List.getElem?_eq_some_iff.1 hs'
              rw [List.take_succ_eq_append_getElem g1, g2, List.mem_append, not_or]
              exact ⟨hno, fun hm => hne (List.mem_singleton.1 hm).symm⟩
          · have hje : j = hl := by omega
            subst hje
            rw [List.take_of_length_le (by omega)] at hno
            rw [if_neg (fun h => hno (memB_iff.1 h))] at hop
            refine newRow (sz := 1) (n := 1) rfl (by decide) fun b89 w17 hr17 hb89 hc17 => ?_
            have H17 := H9.step0 hc17
            refine H17.appG slT_string 1 rfl FH hr17.sl (one1_strs [dp]) (by simp) (by omega) (by simp only [maxLen]; omega) fun bH' rH' cH' w18 H18 FH' _ _ => ?_
            simp only [List.set_cons_succ, List.set_cons_zero] at H18
            have eh : strs had ++ [Value.string dp] = strs (had ++ [dp]) := by simp [strs]
            rw [eh] at H18 FH'
            refine nonNil_i (H18.ldS 2 rfl (off := 0) rfl ?_)
            refine newRow (sz := 1) (n := 1) rfl (by decide) fun b94 w19 hr19 hb94 hc19 => ?_
            have H19 := H18.step0 hc19
            refine H19.appG slT_string 3 rfl FP hr19.sl (one1_strs [dp]) (by simp) (by omega) (by simp only [maxLen]; omega) fun bP' rP' cP' w20 H20 FP' _ _ => ?_
            simp only [List.set_cons_succ, List.set_cons_zero] at H20
            rw [map_fst_snoc R' dp y.2] at H20 FP'
            refine nonNil_i (H20.stV 2 rfl (off := 0) (by simp) fun w21 H21 _ => nonNil_i ?_)
            rw [Addr.add_mk, Nat.zero_add]
            simp only [List.set_cons_succ, List.set_cons_zero] at H21
            refine H21.ldS 2 rfl (off := 1) rfl ?_
            refine H21.ldStr 0 rfl (off := 1) rfl ?_
            refine newRow (sz := 1) (n := 1) rfl (by decide) fun b101 w22 hr22 hb101 hc22 => ?_
            have H22 := H21.step0 hc22
            refine H22.appG slT_string 4 rfl FU hr22.sl (one1_strs [y.2]) (by simp) (by omega) (by simp only [maxLen]; omega) fun bU' rU' cU' w23 H23 FU' _ _ => ?_
            simp only [List.set_cons_succ, List.set_cons_zero] at H23
            rw [map_snd_snoc R' dp y.2] at H23 FU'
            refine nonNil_i ?_
            rw [Addr.add_mk, Nat.zero_add]
            refine H23.stV 2 rfl (off := 1) (by simp) fun w24 H24 _ => ?_
            simp only [List.set_cons_succ, List.set_cons_zero] at H24
            exact k7 (had ++ [dp]) (R' ++ [(dp, y.2)]) bH' rH' bP' rP' cP' bU' rU' cU' (n + 1) _ cH' w24 (H24.sub (List.sublist_cons_self _ _)) FH' FP' FU' (by omega) (by omega) hop
        clear hJ69
        refine condB_not (fun h => ?_) (fun h => k69 false (bF fun e => e.1 (of_decide_eq_true h)))
        exact H9.ldStr 0 rfl (off := 1) rfl (k69 _ (bD ⟨fun e => ⟨of_decide_eq_false h, e⟩, fun e => e.2⟩))
      clear hJ61
      refine condB_d (fun h => k61 true (bT (.inl h))) (fun h1 => ?_)
      refine H9.ldStr 0 rfl (off := 1) rfl ?_
      refine condB_d (fun h => k61 true (bT (.inr (.inl h)))) (fun h2 => ?_)
      refine condB_d (fun h3 => ?_) (fun h3 => ?_)
      · refine H9.ldStr 0 rfl (off := 1) rfl ?_
        refine condB_not (fun h4 => k61 true (bT (.inr (.inr ?_)))) (fun h4 => ?_)
        · rw [decide_eq_true h3, h4]; decide
        · rw [decide_eq_true h3]
          refine k61 false (bF ?_)
          rintro (h | h | h)
          · exact h1 h
          · exact h2 h
          · rw [decide_eq_true h3, h4] at h; exact h rfl
      · rw [decide_eq_false h3]
        refine H9.ldStr 0 rfl (off := 1) rfl (k61 _ ?_)
        rw [decide_eq_false h3]
        refine bD ⟨fun e => .inr (.inr (by rw [decide_eq_true e]; decide)), ?_⟩
        rintro (h | h | h)
        · exact absurd h h1
        · exact absurd h h2
        · cases hd' : decide (y.2 = kSXml) with
          | true => exact of_decide_eq_true hd'
          | false => rw [hd'] at h; exact absurd rfl h
    · rw [List.drop_of_length_le (by omega)] at hop
      have hop' : (R', (0 : Int)) = openR L [] R := hop
      refine nonNil_i (H5.ldS 1 rfl (off := 0) rfl ?_)
      rw [Addr.add_mk, Nat.zero_add]
      refine H5.ldS 1 rfl (off := 1) rfl ?_
      refine H5.stN 4 rfl (off := 0) rfl (by simp) (one1_cons rfl (one1_cons rfl one1_nil)) fun w25 H25 _ => ?_
      refine H25.ldS 4 rfl (off := 0) rfl ?_
      refine H25.ldS 4 rfl (off := 1) rfl ?_
      have := K (some ⟨bP, 0, none⟩) (some ⟨bU, 0, none⟩) n cP cU w25 (by rw [← hop']; exact H25.slAt 2 rfl FP) (by rw [← hop']; exact H25.slAt 3 rfl FU) (by simp) (by simp) (by rintro a ⟨⟩; exact typ_of (H25.get 2 rfl)) (by rintro a ⟨⟩; exact typ_of (H25.get 3 rfl)) H25.chg (by omega)
      rw [← hop'] at this; exact this
  clear hJ6
  refine H2d.ldS 1 rfl (off := 0) rfl ?_
  refine H2d.ldS 1 rfl (off := 1) rfl ?_
  have c0 : w2.drew.cell? ⟨b2, 0, none⟩ = some (.slice p l c) := H2d.cell 1 rfl (off := 0) rfl
  have c1 : w2.drew.cell? ⟨b2, 1, none⟩ = some (.slice q l d) := H2d.cell 1 rfl (off := 1) rfl
  have sP := h1.chg H2d.chg (off_no _)
  have sU := h2.chg H2d.chg (off_no _)
  have HB : Hp w2.drew No w2.drew [] := Hp.start _ _
  have leaf : ∀ wk b6 bP rP cP bU rU cU Γ, Hp w2.drew No wk Γ → Γ.Perm [⟨b6, [.slice none 0 0, .slice none 0 0], T_ref04_Scope⟩, ⟨bP, strs (R.map Prod.fst) ++ rP, T_string⟩, ⟨bU, strs (R.map Prod.snd) ++ rU, T_string⟩] → Fit (strs (R.map Prod.fst)) rP l cP 1 → Fit (strs (R.map Prod.snd)) rU l cU 1 →
      stN wk ⟨b6, 0, none⟩ ⟨[.slice (some ⟨bP, 0, none⟩) l cP, .slice (some ⟨bU, 0, none⟩) l cU]⟩ 2 fun w31 => J6 (some ⟨b6, 0, none⟩) w31 := by
    intro wk b6 bP rP cP bU rU cU Γ H hperm FP FU
    refine (H.perm hperm).stN 0 rfl (off := 0) rfl (by simp) (one1_cons rfl (one1_cons rfl one1_nil)) fun w31 H31 _ => ?_
    exact k6 b6 bP rP cP bU rU cU w31 (H2d.back H31) FP FU
  have bnd : (0 + l) * 16 ≤ 140737488355328 := by omega
  have bnd2 : 0 + l ≤ maxLen := by simp only [maxLen]; omega
  rw [Nat.zero_add] at bnd bnd2
  have aP : ∀ {Γ : List Blk} {wk : World} (i : Nat) {b cx : Nat} {Kx : Option Addr → Nat → Nat → World → Prop}, Hp w2.drew No wk Γ → Γ[i]? = some ⟨b, [], T_string⟩ →
      (∀ b' rest' c' w', Hp w2.drew No w' (Γ.set i ⟨b', strs (R.map Prod.fst) ++ rest', T_string⟩) → Fit (strs (R.map Prod.fst)) rest' l c' 1 → Kx (some ⟨b', 0, none⟩) l c' w') → appJ Tryd.prog T_sl_string T_sl_string (.slice (some ⟨b, 0, none⟩) 0 0) (.slice p l cx) wk Kx := by
    intro Γ wk i b cx Kx H hi k
    refine H.appG slT_string i (xs := []) (rest := []) hi (Fit.nil 1) (sP.chg H.chg (off_no _)) (one1_strs _) n1 (by omega) (by omega) fun b' rest' c' w' H' F _ _ => ?_
    rw [List.nil_append] at H' F
    rw [Nat.zero_add] at F ⊢
    exact k b' rest' c' w' H' F
  have aU : ∀ {Γ : List Blk} {wk : World} (i : Nat) {b cx : Nat} {Kx : Option Addr → Nat → Nat → World → Prop}, Hp w2.drew No wk Γ → Γ[i]? = some ⟨b, [], T_string⟩ →
      (∀ b' rest' c' w', Hp w2.drew No w' (Γ.set i ⟨b', strs (R.map Prod.snd) ++ rest', T_string⟩) → Fit (strs (R.map Prod.snd)) rest' l c' 1 → Kx (some ⟨b', 0, none⟩) l c' w') → appJ Tryd.prog T_sl_string T_sl_string (.slice (some ⟨b, 0, none⟩) 0 0) (.slice q l cx) wk Kx := by
    intro Γ wk i b cx Kx H hi k
    refine H.appG slT_string i (xs := []) (rest := []) hi (Fit.nil 1) (sU.chg H.chg (off_no _)) (one1_strs _) n2 (by omega) (by omega) fun b' rest' c' w' H' F _ _ => ?_
    rw [List.nil_append] at H' F
    rw [Nat.zero_add] at F ⊢
    exact k b' rest' c' w' H' F
  have perm : ∀ (x y z : Blk), [x, z, y].Perm [x, y, z] ∧ [y, x, z].Perm [x, y, z] ∧ [z, x, y].Perm [x, y, z] ∧ [y, z, x].Perm [x, y, z] ∧ [z, y, x].Perm [x, y, z] := by
    intro x y z
    refine ⟨.cons _ (.swap _ _ _), .swap _ _ _, ?_, ?_, ?_⟩
    · exact (List.Perm.swap x z [y]).trans (.cons _ (.swap _ _ _))
    · exact (List.Perm.cons y (.swap _ _ _)).trans (.swap _ _ _)
    · exact ((List.Perm.swap y z [x]).trans (.cons y (.swap _ _ _))).trans (.swap _ _ _)
  have aP0 : ∀ {Γ : List Blk} {wk : World} {b cx : Nat} {Kx : Option Addr → Nat → Nat → World → Prop}, Hp w2.drew No wk (⟨b, [], T_string⟩ :: Γ) →
      (∀ b' rest' c' w', Hp w2.drew No w' (⟨b', strs (R.map Prod.fst) ++ rest', T_string⟩ :: Γ) → Fit (strs (R.map Prod.fst)) rest' l c' 1 → Kx (some ⟨b', 0, none⟩) l c' w') → appJ Tryd.prog T_sl_string T_sl_string (.slice (some ⟨b, 0, none⟩) 0 0) (.slice p l cx) wk Kx :=
    fun H k => aP 0 H rfl k
  have aP1 : ∀ {Γ : List Blk} {wk : World} {b cx : Nat} {x : Blk} {Kx : Option Addr → Nat → Nat → World → Prop}, Hp w2.drew No wk (x :: ⟨b, [], T_string⟩ :: Γ) →
      (∀ b' rest' c' w', Hp w2.drew No w' (x :: ⟨b', strs (R.map Prod.fst) ++ rest', T_string⟩ :: Γ) → Fit (strs (R.map Prod.fst)) rest' l c' 1 → Kx (some ⟨b', 0, none⟩) l c' w') → appJ Tryd.prog T_sl_string T_sl_string (.slice (some ⟨b, 0, none⟩) 0 0) (.slice p l cx) wk Kx :=
    fun H k => aP 1 H rfl k
  have aP2 : ∀ {Γ : List Blk} {wk : World} {b cx : Nat} {x : Blk} {y : Blk} {Kx : Option Addr → Nat → Nat → World → Prop}, Hp w2.drew No wk (x :: y :: ⟨b, [], T_string⟩ :: Γ) →
      (∀ b' rest' c' w', Hp w2.drew No w' (x :: y :: ⟨b', strs (R.map Prod.fst) ++ rest', T_string⟩ :: Γ) → Fit (strs (R.map Prod.fst)) rest' l c' 1 → Kx (some ⟨b', 0, none⟩) l c' w') → appJ Tryd.prog T_sl_string T_sl_string (.slice (some ⟨b, 0, none⟩) 0 0) (.slice p l cx) wk Kx :=
    fun H k => aP 2 H rfl k
  have aU0 : ∀ {Γ : List Blk} {wk : World} {b cx : Nat} {Kx : Option Addr → Nat → Nat → World → Prop}, Hp w2.drew No wk (⟨b, [], T_string⟩ :: Γ) →
      (∀ b' rest' c' w', Hp w2.drew No w' (⟨b', strs (R.map Prod.snd) ++ rest', T_string⟩ :: Γ) → Fit (strs (R.map Prod.snd)) rest' l c' 1 → Kx (some ⟨b', 0, none⟩) l c' w') → appJ Tryd.prog T_sl_string T_sl_string (.slice (some ⟨b, 0, none⟩) 0 0) (.slice q l cx) wk Kx :=
    fun H k => aU 0 H rfl k
  have aU1 : ∀ {Γ : List Blk} {wk : World} {b cx : Nat} {x : Blk} {Kx : Option Addr → Nat → Nat → World → Prop}, Hp w2.drew No wk (x :: ⟨b, [], T_string⟩ :: Γ) →
      (∀ b' rest' c' w', Hp w2.drew No w' (x :: ⟨b', strs (R.map Prod.snd) ++ rest', T_string⟩ :: Γ) → Fit (strs (R.map Prod.snd)) rest' l c' 1 → Kx (some ⟨b', 0, none⟩) l c' w') → appJ Tryd.prog T_sl_string T_sl_string (.slice (some ⟨b, 0, none⟩) 0 0) (.slice q l cx) wk Kx :=
    fun H k => aU 1 H rfl k
  have aU2 : ∀ {Γ : List Blk} {wk : World} {b cx : Nat} {x : Blk} {y : Blk} {Kx : Option Addr → Nat → Nat → World → Prop}, Hp w2.drew No wk (x :: y :: ⟨b, [], T_string⟩ :: Γ) →
      (∀ b' rest' c' w', Hp w2.drew No w' (x :: y :: ⟨b', strs (R.map Prod.snd) ++ rest', T_string⟩ :: Γ) → Fit (strs (R.map Prod.snd)) rest' l c' 1 → Kx (some ⟨b', 0, none⟩) l c' w') → appJ Tryd.prog T_sl_string T_sl_string (.slice (some ⟨b, 0, none⟩) 0 0) (.slice q l cx) wk Kx :=
    fun H k => aU 2 H rfl k
  have leaf0 : ∀ {wk : World} {b6 bP : Nat} {rP : List Value} {cP bU : Nat} {rU : List Value} {cU : Nat}, Hp w2.drew No wk [⟨b6, [.slice none 0 0, .slice none 0 0], T_ref04_Scope⟩, ⟨bP, strs (R.map Prod.fst) ++ rP, T_string⟩, ⟨bU, strs (R.map Prod.snd) ++ rU, T_string⟩] → Fit (strs (R.map Prod.fst)) rP l cP 1 → Fit (strs (R.map Prod.snd)) rU l cU 1 →
      stN wk ⟨b6, 0, none⟩ ⟨[.slice (some ⟨bP, 0, none⟩) l cP, .slice (some ⟨bU, 0, none⟩) l cU]⟩ 2 fun w31 => J6 (some ⟨b6, 0, none⟩) w31 :=
    fun H F G => leaf _ _ _ _ _ _ _ _ _ H (.refl _) F G
  have leaf1 : ∀ {wk : World} {b6 bP : Nat} {rP : List Value} {cP bU : Nat} {rU : List Value} {cU : Nat}, Hp w2.drew No wk [⟨b6, [.slice none 0 0, .slice none 0 0], T_ref04_Scope⟩, ⟨bU, strs (R.map Prod.snd) ++ rU, T_string⟩, ⟨bP, strs (R.map Prod.fst) ++ rP, T_string⟩] → Fit (strs (R.map Prod.fst)) rP l cP 1 → Fit (strs (R.map Prod.snd)) rU l cU 1 →
      stN wk ⟨b6, 0, none⟩ ⟨[.slice (some ⟨bP, 0, none⟩) l cP, .slice (some ⟨bU, 0, none⟩) l cU]⟩ 2 fun w31 => J6 (some ⟨b6, 0, none⟩) w31 :=
    fun H F G => leaf _ _ _ _ _ _ _ _ _ H (perm _ _ _).1 F G
  have leaf2 : ∀ {wk : World} {b6 bP : Nat} {rP : List Value} {cP bU : Nat} {rU : List Value} {cU : Nat}, Hp w2.drew No wk [⟨bP, strs (R.map Prod.fst) ++ rP, T_string⟩, ⟨b6, [.slice none 0 0, .slice none 0 0], T_ref04_Scope⟩, ⟨bU, strs (R.map Prod.snd) ++ rU, T_string⟩] → Fit (strs (R.map Prod.fst)) rP l cP 1 → Fit (strs (R.map Prod.snd)) rU l cU 1 →
      stN wk ⟨b6, 0, none⟩ ⟨[.slice (some ⟨bP, 0, none⟩) l cP, .slice (some ⟨bU, 0, none⟩) l cU]⟩ 2 fun w31 => J6 (some ⟨b6, 0, none⟩) w31 :=
    fun H F G => leaf _ _ _ _ _ _ _ _ _ H (perm _ _ _).2.1 F G
  have leaf3 : ∀ {wk : World} {b6 bP : Nat} {rP : List Value} {cP bU : Nat} {rU : List Value} {cU : Nat}, Hp w2.drew No wk [⟨bU, strs (R.map Prod.snd) ++ rU, T_string⟩, ⟨b6, [.slice none 0 0, .slice none 0 0], T_ref04_Scope⟩, ⟨bP, strs (R.map Prod.fst) ++ rP, T_string⟩] → Fit (strs (R.map Prod.fst)) rP l cP 1 → Fit (strs (R.map Prod.snd)) rU l cU 1 →
      stN wk ⟨b6, 0, none⟩ ⟨[.slice (some ⟨bP, 0, none⟩) l cP, .slice (some ⟨bU, 0, none⟩) l cU]⟩ 2 fun w31 => J6 (some ⟨b6, 0, none⟩) w31 :=
    fun H F G => leaf _ _ _ _ _ _ _ _ _ H (perm _ _ _).2.2.1 F G
  have leaf4 : ∀ {wk : World} {b6 bP : Nat} {rP : List Value} {cP bU : Nat} {rU : List Value} {cU : Nat}, Hp w2.drew No wk [⟨bP, strs (R.map Prod.fst) ++ rP, T_string⟩, ⟨bU, strs (R.map Prod.snd) ++ rU, T_string⟩, ⟨b6, [.slice none 0 0, .slice none 0 0], T_ref04_Scope⟩] → Fit (strs (R.map Prod.fst)) rP l cP 1 → Fit (strs (R.map Prod.snd)) rU l cU 1 →
      stN wk ⟨b6, 0, none⟩ ⟨[.slice (some ⟨bP, 0, none⟩) l cP, .slice (some ⟨bU, 0, none⟩) l cU]⟩ 2 fun w31 => J6 (some ⟨b6, 0, none⟩) w31 :=
    fun H F G => leaf _ _ _ _ _ _ _ _ _ H (perm _ _ _).2.2.2.1 F G
  have leaf5 : ∀ {wk : World} {b6 bP : Nat} {rP : List Value} {cP bU : Nat} {rU : List Value} {cU : Nat}, Hp w2.drew No wk [⟨bU, strs (R.map Prod.snd) ++ rU, T_string⟩, ⟨bP, strs (R.map Prod.fst) ++ rP, T_string⟩, ⟨b6, [.slice none 0 0, .slice none 0 0], T_ref04_Scope⟩] → Fit (strs (R.map Prod.fst)) rP l cP 1 → Fit (strs (R.map Prod.snd)) rU l cU 1 →
      stN wk ⟨b6, 0, none⟩ ⟨[.slice (some ⟨bP, 0, none⟩) l cP, .slice (some ⟨bU, 0, none⟩) l cU]⟩ 2 fun w31 => J6 (some ⟨b6, 0, none⟩) w31 :=
    fun H F G => leaf _ _ _ _ _ _ _ _ _ H (perm _ _ _).2.2.2.2 F G
  have newS : ∀ {Γ : List Blk} {wk : World} {cs : List Value} {e : TypeId} {Kx : Nat → World → Prop}, Hp w2.drew No wk Γ → (∀ b w', Hp w2.drew No w' (⟨b, cs, e⟩ :: Γ) → Kx b w') → newB wk (.cells ⟨cs⟩ e) Kx :=
    fun H k => H.newB fun b w' H' _ _ => k b w' H'
  have cell0 : ∀ {Γ : List Blk} {wk : World}, Hp w2.drew No wk Γ → wk.cell? ⟨b2, 0, none⟩ = some (.slice p l c) := fun H => H.chg.cell c0 (fun h => h)
  have cell1 : ∀ {Γ : List Blk} {wk : World}, Hp w2.drew No wk Γ → wk.cell? ⟨b2, 1, none⟩ = some (.slice q l d) := fun H => H.chg.cell c1 (fun h => h)
  clear leaf aP aU perm k6 c0 c1 sP sU H1 H2 H2d hc1 hc2 K
  with_reducible repeat' first
    | refine And.intro ?_ ?_
    | exact cell0 (by assumption)
    | exact cell1 (by assumption)
    | refine newS (by assumption) (fun b w' H => ?_)
    | refine aP0 (by assumption) (fun b' rest' c' w' H F => ?_)
    | refine aP1 (by assumption) (fun b' rest' c' w' H F => ?_)
    | refine aP2 (by assumption) (fun b' rest' c' w' H F => ?_)
    | refine aU0 (by assumption) (fun b' rest' c' w' H F => ?_)
    | refine aU1 (by assumption) (fun b' rest' c' w' H F => ?_)
    | refine aU2 (by assumption) (fun b' rest' c' w' H F => ?_)
    | exact leaf0 (by assumption) (by assumption) (by assumption)
    | exact leaf1 (by assumption) (by assumption) (by assumption)
    | exact leaf2 (by assumption) (by assumption) (by assumption)
    | exact leaf3 (by assumption) (by assumption) (by assumption)
    | exact leaf4 (by assumption) (by assumption) (by assumption)
    | exact leaf5 (by assumption) (by assumption) (by assumption)
end
end Go.Proofs.YtdjehimkijlhgaaDoor

