/-
  slices.Insert, slices.Delete, slices.BinarySearchFunc of rows that are the call's own.
-/
import Derived.Test.YtkgfbphdmnapdaaGreatDoorBare
import Derived.Test.YtkgfbphdmnapdaaGreatDoorVIns
import Derived.Test.YtkgfbphdmnapdaaGreatDoorRowE
import Derived.Lib.Overlaps
import Derived.Lib.AppendZerosOnto
import Derived.Test.YtkgfbphdmnapdaaGreatDoorEd
set_option linter.unusedVariables false
set_option linter.unusedSimpArgs false
namespace Go.Vc
open Go Go.RowKit Go.Lib
/-- The builtin append, onto a row of the call's own: in place, or in a new block. -/
theorem appJ_row3 {P : Program} {t e : TypeId} {sz by_ : Nat} {z : Array Value} (T : SlT P t e sz by_ z) {w : World} {p q : Option Addr} {l c m c2 : Nat} {xs news : List Value}
    {K : Option Addr → Nat → Nat → World → Prop} (h : Row w e sz p l c xs) (src : Sl w q m sz news) (h1 : one1 news) (hm : q = none → m = 0) (hb : (l + m) * by_ ≤ 140737488355328) (hmax : l + m ≤ maxLen)
    (k : ∀ p' c' w', Row w' e sz p' (l + m) c' (xs ++ news) → Chg (isB p) w w' → ((p' = p ∧ c' = c) ∨ (fresh w p' ∧ c < l + m)) → K p' (l + m) c' w') :
    appJ P t t (.slice p l c) (.slice q m c2) w K := by
  obtain ⟨i, v, hi, hz, hsz, hby, hv⟩ := T.info
  have hown := h.owns
  have fin : ∀ v' w', (∀ ty, (Builtin.append_ #[t, t] ty #[.slice p l c, .slice q m c2]).run P w = .ok v' w') → w'.ownsRow 0 e sz v' (l + m) (xs ++ news) → Chg (isB p) w w' →
      (v' = .slice p (l + m) c ∨ ∀ p' c', v' = .slice p' (l + m) c' → (fresh w p' ∧ c < l + m)) → appJ P t t (.slice p l c) (.slice q m c2) w K := by
    intro v' w' hr ho hc hf
    obtain ⟨p', c', rfl, hrow⟩ := Row.of_owns ho
    refine ⟨p', l + m, c', w', hr, k p' c' w' hrow hc ?_⟩
    rcases hf with hf | hf
    · left; injection hf with h1 h2 h3; exact ⟨h1, h3⟩
    · exact .inr (hf p' c' rfl)
  cases q with
  | none =>
    have h0 := hm rfl
    subst h0
    have hn : news = [] := List.eq_nil_of_length_eq_zero (by simpa using src.1)
    subst hn
    refine fin (.slice p l c) w (fun ty => ?_) (by simpa using hown) (Chg.refl _ _) (.inl rfl)
    have hle := h.le.1
    cases p with
    | none => simp [Builtin.append_, run_underlying T.hu, sizeOf, typeInfo, hi, Builtin.lenOf, Builtin.firstCells, hle]
    | some a => simp [Builtin.append_, run_underlying T.hu, sizeOf, typeInfo, hi, Builtin.lenOf, Builtin.firstCells, hle, storeCells]
  | some ad =>
    have hnews : ∀ j u, news[j]? = some u → w.cell? (ad.add j) = some u := by
      rcases src.2 with h0 | ⟨a, ha, hc⟩
      · intro j u hu
        have hn : news = [] := List.eq_nil_of_length_eq_zero (by have := src.1; rw [h0] at this; simpa using this)
        subst hn; simp at hu
      · cases ha; exact hc
    have fz : v.cells.size = sz := by rw [hv]; exact T.hz
    obtain ⟨v', w', hr, ho, hg, hnil⟩ := run_append_own (P := P) w 0 t 0 e i v sz by_ (T.hu) hi hz hsz hby fz T.pos (.slice p l c) l xs hown ad m c2 news src.1 hnews h1 hmax hb (Nat.zero_le _)
    have hr' : ∀ ty, (Builtin.append_ #[t, t] ty #[.slice p l c, .slice (some ad) m c2]).run P w = .ok v' w' := fun ty => hr
    have hcg : Chg (isB p) w w' := Chg.of_grown hg (fun b hb => by
      cases p with
      | none => simp [Value.ownBlock] at hb
      | some x => simp [Value.ownBlock] at hb; exact ⟨x, rfl, hb⟩)
    -- where the new row lies
    by_cases hroom : l + m ≤ c
    · -- in place
      rcases h.2 with ⟨h0, h2, h3⟩ | ⟨b, rest, hp, hh, hlc, hcm, hcs⟩
      · subst h0; subst h2; subst h3
        have hm0 : m = 0 := by omega
        subst hm0
        have := hnil.2 ⟨rfl, rfl⟩
        subst this
        exact fin _ _ hr' ho hcg (.inl rfl)
      · subst hp
        subst hsz
        have hroomr := run_append_room (P := P) w t 0 e i T.hu hi b l c ⟨xs ++ rest⟩ hh ad m c2 news src.1 hnews h1 hroom (by
          rw [src.1, ← Nat.add_mul]; simp only [List.size_toArray]; rw [hcs]; exact Nat.mul_le_mul_right _ hroom)
        rw [hr] at hroomr
        injection hroomr with e1 e2
        exact fin _ _ hr' ho hcg (.inl e1)
    · -- a new block
      refine fin _ _ hr' ho hcg (.inr ?_)
      intro p' c' hp'
      refine ⟨?_, by omega⟩
      intro a ha
      subst hp'
      obtain ⟨p2, c2', e1, hrow⟩ := Row.of_owns ho
      have hp2 : p' = p2 := by injection e1
      subst hp2
      -- the block's cells are more than the old ones: else it lies where it was; decided by the run itself
      rcases h.2 with ⟨h0, h2, h3⟩ | ⟨b, rest, hp, hh, hlc, hcm, hcs⟩
      · subst h0; subst h2; subst h3
        have hr2 := run_append_nil (P := P) w t 0 e i v T.hu hi hz ad m c2 news (by rw [hsz]; exact src.1) hnews (by omega) (by simp only [maxLen] at hmax; omega) (by rw [hby]; have hb' := hb; simp only [Nat.zero_add] at hb'; omega)
        rw [hr] at hr2
        injection hr2 with e2 e3
        injection e2 with e4
        rw [ha] at e4
        injection e4 with e5
        rw [e5]
        exact Nat.le_refl _
      · subst hp
        subst hsz
        have holds : ∀ j u, xs[j]? = some u → w.cell? ((⟨b, 0, none⟩ : Addr).add j) = some u := by
          have := h.sl
          rcases this.2 with h0 | ⟨a', ha', hc'⟩
          · intro j u hu
            have hn : xs = [] := List.eq_nil_of_length_eq_zero (by have := h.1; rw [h0] at this; simpa using this)
            subst hn; simp at hu
          · cases ha'; exact hc'
        have hr2 := run_append_grow (P := P) w t 0 e i v T.hu hi hz ⟨b, 0, none⟩ l c xs h.1 holds ad m c2 news src.1 hnews (by omega) (by simp only [maxLen] at hmax; omega) (growslice_fits (by omega) (by rw [hby]; exact hb))
        rw [hr] at hr2
        injection hr2 with e2 e3
        injection e2 with e4
        rw [ha] at e4
        injection e4 with e5
        rw [e5]
        exact Nat.le_refl _
theorem splice_at {A R V : List Value} {n : Nat} (h : A.length = n) : splice (A ++ R) n V = A ++ (V ++ R.drop V.length) := by
  unfold splice
  rw [List.take_left' h, ← List.drop_drop, List.drop_left' h, List.append_assoc]
theorem slS_from {b off l c sz i : Nat} {K : Option Addr → Nat → Nat → Prop} (hi : i ≤ l) (hl : l ≤ c) (hc : i < c) (k : K (some ⟨b, off + i * sz, none⟩) (l - i) (c - i)) : slS (some ⟨b, off, none⟩) l c sz (some (i : Int)) none none K := by
  refine ⟨i, l, c, rfl, rfl, rfl, hi, hl, Nat.le_refl _, ?_⟩
  rw [if_neg (show ¬ c = i by omega)]
  simp only [Option.map_some, Addr.add_mk]
  exact k
theorem slS_to {b off l c sz j : Nat} {K : Option Addr → Nat → Nat → Prop} (hj : j ≤ c) (hc : c ≠ 0) (k : K (some ⟨b, off, none⟩) j c) : slS (some ⟨b, off, none⟩) l c sz none (some (j : Int)) none K := by
  refine ⟨0, j, c, rfl, rfl, rfl, Nat.zero_le _, hj, Nat.le_refl _, ?_⟩
  simp only [Nat.sub_zero, hc, if_false, Nat.zero_mul, Option.map_some, Addr.add_mk, Nat.add_zero]
  exact k
/-- copy into a block that is known. -/
theorem cpyN {P : Program} {t e e' : TypeId} {sz by_ : Nat} {z : Array Value} (T : SlT P t e sz by_ z) {w : World} {b off l c m c2 k : Nat} {q : Addr} {cs vs : List Value} {K : Int → World → Prop} (hh : w.heap[b]? = some (.cells ⟨cs⟩ e' (0, 0))) (hm : Nat.min m l = k)
    (src : cellsAt w q vs) (hv : vs.length = k * sz) (h1 : one1 vs) (fit : off + k * sz ≤ cs.length) (kk : K (k : Int) (w.setRow b ⟨splice cs off vs⟩)) : cpyJ P t t (.slice (some ⟨b, off, none⟩) l c) (.slice (some q) m c2) w K := by
  obtain ⟨ti, v, hti, hz, hsz, hby, hv'⟩ := T.info
  have hl := run_loadCells_list (P := P) w q vs src
  have hst := run_storeCells_at P b off e' vs 0 ⟨cs⟩ w hh (by rw [Nat.add_zero, hv]; exact fit) h1
  rw [hv] at hl
  refine ⟨(k : Int), w.setRow b ⟨splice cs off vs⟩, fun ty => ?_, kk⟩
  have e1 : ((⟨cs⟩ : Array Value).toList.take off ++ vs ++ (⟨cs⟩ : Array Value).toList.drop (off + vs.length)).toArray = ⟨splice cs off vs⟩ := rfl
  simp [Builtin.copy_, run_underlying T.hu, Builtin.lenOf, Builtin.firstCells, sizeOf, typeInfo, hti, hsz, hm, hl, hst, goInt, splice]
/-- append(s[:i], make(S, k)...) where there is no room: a new block. -/
theorem appZ {P : Program} {t tn e : TypeId} {kn : IntKind} {sz by_ : Nat} {z : Array Value} (T : SlT P t e sz by_ z) (htn : P.underlying tn = some (.int kn)) {w : World} {b i c k : Nat} {xs : List Value} {kq : IntKind} {K : Option Addr → Nat → Nat → World → Prop}
    (hx : cellsAt w ⟨b, 0, none⟩ xs) (hl : xs.length = i * sz) (h0 : 0 < k) (hroom : c < i + k) (hic : i ≤ c) (hb : (i + k) * by_ ≤ 140737488355328) (hmax : i + k ≤ 1000000000000)
    (kk : ∀ b' c' rest w', w.heap.size ≤ b' → w'.heap[b']? = some (.cells ⟨xs ++ rest⟩ e (0, 0)) → (xs ++ rest).length = c' * sz → i + k ≤ c' → c' ≤ maxLen → Chg No w w' → K (some ⟨b', 0, none⟩) (i + k) c' w') :
    appJ P t tn (.slice (some ⟨b, 0, none⟩) i c) (.int kq (k : Int)) w K := by
  obtain ⟨ti, v, hti, hz, hsz, hby, hv⟩ := T.info
  have hold : (Builtin.firstCells ti.size i (.slice (some ⟨b, 0, none⟩) i c)).run P w.drew = .ok xs.toArray w.drew := by
    rw [hsz]
    exact run_firstCells_some w.drew sz i ⟨b, 0, none⟩ i c xs hl hx
  have hrun := fun ty => run_append_grow_zeros w t tn ty e ti v kq kn T.hu htn hti hz (some ⟨b, 0, none⟩) i c xs hold k h0 (by rw [hsz]; exact T.pos) hroom (by omega) (by
    rw [hby]
    have : k * by_ ≤ (i + k) * by_ := Nat.mul_le_mul_right _ (by omega)
    omega) (by rw [hby]; exact growslice_fits hroom hb)
  refine ⟨_, _, _, _, hrun, ?_⟩
  have hge := grownCap_ge w (i + k) c e
  have hzl : ∀ n, (Builtin.zeroCells v.cells n).toList.length = n * sz := fun n => by
    unfold Builtin.zeroCells
    rw [hv, zrow_eq z n]
    simp only [List.length_flatten, List.map_replicate, List.sum_replicate_nat, Array.length_toList, T.hz]
  refine kk w.heap.size (grownCap w (i + k) c e) ((Builtin.zeroCells v.cells k).toList ++ (Builtin.zeroCells v.cells (grownCap w (i + k) c e - (i + k))).toList) _ (Nat.le_refl _) ?_ ?_ hge ?_ ?_
  · have := heap_alloc_new w.drew (.cells (xs.toArray ++ Builtin.zeroCells v.cells k ++ Builtin.zeroCells v.cells (grownCap w (i + k) c e - (i + k))) e)
    have e2 : xs.toArray ++ Builtin.zeroCells v.cells k ++ Builtin.zeroCells v.cells (grownCap w (i + k) c e - (i + k)) = ⟨xs ++ ((Builtin.zeroCells v.cells k).toList ++ (Builtin.zeroCells v.cells (grownCap w (i + k) c e - (i + k))).toList)⟩ := by
      apply Array.ext'; simp
    rw [e2] at this
    rw [e2]
    exact this
  · rw [List.length_append, List.length_append, hzl, hzl, hl, ← Nat.add_mul, ← Nat.add_mul]
    congr 1; omega
  · exact grownCap_le_maxLen w (i + k) c e (by simp only [maxLen]; omega)
  · exact ((Chg.refl No w).drew).alloc _
/-- A row, at its full length. -/
theorem Row.heap0 {w : World} {e : TypeId} {sz l c : Nat} {p : Option Addr} {xs : List Value} (h : Row w e sz p l c xs) (hl : c ≠ 0) : ∃ b rest, p = some ⟨b, 0, none⟩ ∧ w.heap[b]? = some (.cells ⟨xs ++ rest⟩ e (0, 0)) ∧ l ≤ c ∧ c ≤ maxLen ∧ (xs ++ rest).length = c * sz := by
  rcases h.2 with ⟨_, _, h0⟩ | h
  · exact absurd h0 hl
  · exact h
theorem Row.mk0 {w : World} {e : TypeId} {sz l c b : Nat} {xs rest : List Value} (hh : w.heap[b]? = some (.cells ⟨xs ++ rest⟩ e (0, 0))) (hl : xs.length = l * sz) (h1 : l ≤ c) (h2 : c ≤ maxLen) (h3 : (xs ++ rest).length = c * sz) : Row w e sz (some ⟨b, 0, none⟩) l c xs := ⟨hl, .inr ⟨b, rest, rfl, hh, h1, h2, h3⟩⟩
/-- slices.Delete, as the reading of its code prints it. -/
def DelVC (P : Program) (t : TypeId) (sz : Nat) (s0p : Option Addr) (s0l s0c : Nat) (i1 j2 : Int) (w : World) (J : Option Addr → Nat → Nat → World → Prop) : Prop :=
  slS s0p s0l s0c sz (some i1) (some j2) (some ((s0l : Nat) : Int)) fun q13p q13l q13c =>
  condB (i1 == j2) (
  J s0p s0l s0c w) (
  slS s0p s0l s0c sz none (some i1) none fun q22p q22l q22c =>
  slS s0p s0l s0c sz (some j2) none none fun q25p q25l q25c =>
  appJ P t t (.slice q22p q22l q22c) (.slice q25p q25l q25c) w.drew fun q26p q26l q26c w1 =>
  slS q26p q26l q26c sz (some ((q26l : Nat) : Int)) (some ((s0l : Nat) : Int)) none fun q31p q31l q31c =>
  clrJ P t (.slice q31p q31l q31c) w1 fun w2 =>
  J q26p q26l q26c w2)
theorem DelVC_ok {P : Program} {t e : TypeId} {sz by_ : Nat} {z : Array Value} (T : SlT P t e sz by_ z) (hz1 : one1 z.toList) {w : World} {p : Option Addr} {l c i : Nat} {xs : List Value} {J : Option Addr → Nat → Nat → World → Prop}
    (h : Row w e sz p l c xs) (h1 : one1 xs) (hi : i < l) (hb : l * by_ ≤ 140737488355328) (hmax : l ≤ 1000000000000)
    (K : ∀ w', Row w' e sz p (l - 1) c (xs.take (i * sz) ++ xs.drop ((i + 1) * sz)) → Chg (isB p) w w' → J p (l - 1) c w') : DelVC P t sz p l c (i : Int) ((i + 1 : Nat) : Int) w J := by
  obtain ⟨b, rest, rfl, hh, hle, hmx, hcs⟩ := h.some0 (by omega)
  have hxl := h.len
  have hiz : (i + 1) * sz ≤ l * sz := Nat.mul_le_mul_right _ hi
  have hiz0 : i * sz ≤ l * sz := Nat.mul_le_mul_right _ (by omega)
  have hiz2 : (i + 1) * sz = i * sz + sz := Nat.succ_mul i sz
  have hlz : (l - 1) * sz + sz = l * sz := by rw [← Nat.succ_mul, Nat.succ_eq_add_one, Nat.sub_add_cancel (by omega)]
  unfold DelVC
  refine ⟨i, i + 1, l, rfl, rfl, rfl, by omega, hi, hle, ?_⟩
  refine condB_eq (fun h => by omega) (fun _ => ?_)
  refine slS_to (by omega) (by omega) ?_
  refine slS_sl (i := i + 1) (j := l) h.sl rfl rfl hi (Nat.le_refl _) hle fun q25 h25 _ => ?_
  have hd : ((xs.drop ((i + 1) * sz)).take ((l - (i + 1)) * sz)) = xs.drop ((i + 1) * sz) := List.take_of_length_le (by rw [List.length_drop, hxl, Nat.sub_mul]; exact Nat.le_refl _)
  rw [hd] at h25
  have hA : (xs.take (i * sz)).length = i * sz := by rw [List.length_take, hxl]; omega
  have hR : Row w.drew e sz (some ⟨b, 0, none⟩) i c (xs.take (i * sz)) := by
    refine Row.mk0 (rest := xs.drop (i * sz) ++ rest) ?_ hA (by omega) hmx ?_
    · rw [← List.append_assoc, List.take_append_drop]; exact hh
    · rw [← List.append_assoc, List.take_append_drop]; exact hcs
  refine appJ_row3 T hR (h25.chg (Chg.refl No w).drew (off_no _)) (fun v hv => h1 v (List.mem_of_mem_drop hv)) (fun e => ?_) (Nat.le_trans (Nat.mul_le_mul_right _ (by omega)) hb) (by simp only [maxLen]; omega) fun p' c' w1 hr1 hc1 hf1 => ?_
  · by_cases h0 : l - (i + 1) = 0
    · exact h0
    · obtain ⟨a, ha, _⟩ := h25.at h0
      rw [e] at ha; cases ha
  have hil : i + (l - (i + 1)) = l - 1 := by omega
  rw [hil] at hr1 hf1 ⊢
  rcases hf1 with ⟨rfl, rfl⟩ | ⟨_, hlt⟩
  rotate_left
  · omega
  -- what stands behind: at least one element
  obtain ⟨b2, rest2, e2, hh2, hle2, hmx2, hcs2⟩ := hr1.heap0 (by omega)
  cases e2
  have hA2 : (xs.take (i * sz) ++ xs.drop ((i + 1) * sz)).length = (l - 1) * sz := hr1.len
  have hrl : sz ≤ rest2.length := by
    rw [List.length_append, hA2] at hcs2
    have : l * sz ≤ c' * sz := Nat.mul_le_mul_right _ hle
    omega
  have hfull : Row w1 e sz (some ⟨b, 0, none⟩) l c' ((xs.take (i * sz) ++ xs.drop ((i + 1) * sz)) ++ rest2.take sz) := by
    refine Row.mk0 (rest := rest2.drop sz) ?_ ?_ hle hmx2 ?_
    · rw [List.append_assoc (xs.take (i * sz) ++ xs.drop ((i + 1) * sz)), List.take_append_drop]; exact hh2
    · rw [List.length_append, hA2, List.length_take]; omega
    · rw [List.append_assoc (xs.take (i * sz) ++ xs.drop ((i + 1) * sz)), List.take_append_drop]; exact hcs2
  have hcl := clr_row (P := P) (t := t) T hz1 (i := l - 1) hfull hA2 (by omega) (K := fun w2 => J (some ⟨b, 0, none⟩) (l - 1) c' w2) fun w2 hr2 hc2 => K w2 hr2 (((Chg.refl _ w).drew.trans hc1 fun _ _ h => h).trans hc2 fun _ _ h => h)
  exact hcl
/-- slices.Insert, as the reading of its code prints it. -/
def InsVC (P : Program) (t tn : TypeId) (fo fr : FuncId) (sz : Nat) (s0p : Option Addr) (s0l s0c : Nat) (i1 : Int) (v2p : Option Addr) (v2l v2c : Nat) (w : World) (J : Option Addr → Nat → Nat → World → Prop) : Prop :=
  slS s0p s0l s0c sz (some i1) none none fun q12p q12l q12c =>
  condB (((v2l : Nat) : Int) == (0 : Int)) (
  J s0p s0l s0c w) (
  condB (i1 == ((s0l : Nat) : Int)) (
  appJ P t t (.slice s0p s0l s0c) (.slice v2p v2l v2c) w fun q25p q25l q25c w1 =>
  J q25p q25l q25c w1) (
  condB (decide ((w64 (((s0l : Nat) : Int) + ((v2l : Nat) : Int))) > ((s0c : Nat) : Int))) (
  slS s0p s0l s0c sz none (some i1) none fun q34p q34l q34c =>
  appJ P t tn (.slice q34p q34l q34c) (.int .i64 (w64 ((w64 (((s0l : Nat) : Int) + ((v2l : Nat) : Int))) - i1))) w fun q40p q40l q40c w2 =>
  slS q40p q40l q40c sz (some i1) none none fun q43p q43l q43c =>
  cpyJ P t t (.slice q43p q43l q43c) (.slice v2p v2l v2c) w2 fun x45 w3 =>
  slS q40p q40l q40c sz (some (w64 (i1 + ((v2l : Nat) : Int)))) none none fun q50p q50l q50c =>
  slS s0p s0l s0c sz (some i1) none none fun q53p q53l q53c =>
  cpyJ P t t (.slice q50p q50l q50c) (.slice q53p q53l q53c) w3.drew fun x54 w4 =>
  J q40p q40l q40c w4) (
  slS s0p s0l s0c sz none (some (w64 (((s0l : Nat) : Int) + ((v2l : Nat) : Int)))) none fun q60p q60l q60c =>
  slS q60p q60l q60c sz (some (w64 (i1 + ((v2l : Nat) : Int)))) none none fun q66p q66l q66c =>
  extJ P fo #[.slice v2p v2l v2c, .slice q66p q66l q66c] w [.one .bool] fun (r67 : Bool) (w5 : World) =>
  condB (!r67) (
  slS q60p q60l q60c sz (some (w64 (i1 + ((v2l : Nat) : Int)))) none none fun q73p q73l q73c =>
  slS q60p q60l q60c sz (some i1) none none fun q76p q76l q76c =>
  cpyJ P t t (.slice q73p q73l q73c) (.slice q76p q76l q76c) w5.drew fun x77 w6 =>
  slS q60p q60l q60c sz (some i1) none none fun q80p q80l q80c =>
  cpyJ P t t (.slice q80p q80l q80c) (.slice v2p v2l v2c) w6 fun x82 w7 =>
  J q60p q60l q60c w7) (
  slS q60p q60l q60c sz (some ((s0l : Nat) : Int)) none none fun q86p q86l q86c =>
  cpyJ P t t (.slice q86p q86l q86c) (.slice v2p v2l v2c) w5 fun x88 w8 =>
  slS q60p q60l q60c sz (some i1) none none fun q91p q91l q91c =>
  callJ P fr #[.slice q91p q91l q91c, .int .i64 ((v2l : Nat) : Int)] w8 [] fun (w9 : World) =>
  J q60p q60l q60c w9))))
theorem InsVC_ok {P : Program} {t tn e : TypeId} {kn : IntKind} {fo fr : FuncId} {sz by_ : Nat} {z : Array Value} (T : SlT P t e sz by_ z) (htn : P.underlying tn = some (.int kn)) {w : World} {p : Option Addr} {l c i bv : Nat} {xs ys : List Value} {J : Option Addr → Nat → Nat → World → Prop}
    (hov : ∀ {bv b o lb cb} {cv cs : List Value}, bv ≠ b → w.heap[bv]? = some (.cells ⟨cv⟩ e (0, 0)) → w.heap[b]? = some (.cells ⟨cs⟩ e (0, 0)) → cs ≠ [] → (callFunc fo #[.slice (some ⟨bv, 0, none⟩) 1 1, .slice (some ⟨b, o, none⟩) lb cb]).run P w = .ok (.value (.bool false)) w)
    (h : Row w e sz p l c xs) (h1 : one1 xs) (hv : w.heap[bv]? = some (.cells ⟨ys⟩ e (0, 0))) (hy : ys.length = sz) (hy1 : one1 ys) (hne : ∀ a, p = some a → a.block ≠ bv) (hi : i ≤ l) (hb : (l + 1) * by_ ≤ 140737488355328) (hmax : l ≤ 1000000000)
    (K : ∀ p' c' w', Row w' e sz p' (l + 1) c' (xs.take (i * sz) ++ ys ++ xs.drop (i * sz)) → Chg (isB p) w w' → (p' = p ∨ fresh w p') → J p' (l + 1) c' w') : InsVC P t tn fo fr sz p l c (i : Int) (some ⟨bv, 0, none⟩) 1 1 w J := by
  have hxl := h.len
  have hpos := T.pos
  have hsv : Sl w (some ⟨bv, 0, none⟩) 1 sz ys := ⟨by rw [hy, Nat.one_mul], .inr ⟨_, rfl, by simpa using cellsAt_heap (off := 0) hv⟩⟩
  unfold InsVC
  refine slS_sl (i := i) (j := l) h.sl rfl rfl hi (Nat.le_refl _) h.le.1 fun _ _ _ => ?_
  refine condB_eq (fun h => by omega) (fun _ => ?_)
  refine condB_eq (fun hil => ?_) (fun hil => ?_)
  · have hil' : i = l := by omega
    subst hil'
    refine appJ_row T h hsv hy1 (by simp) hb (by simp only [maxLen]; omega) fun p' c' w' hr hc hf => ?_
    refine K p' c' w' ?_ hc hf
    rw [List.take_of_length_le (by omega), List.drop_of_length_le (by omega), List.append_nil]; exact hr
  have hil' : i < l := by omega
  obtain ⟨b, rest, rfl, hh, hle, hmx, hcs⟩ := h.some0 (by omega)
  have hbne : b ≠ bv := hne _ rfl
  have hiz : (i + 1) * sz ≤ l * sz := Nat.mul_le_mul_right _ hil'
  have hiz2 : (i + 1) * sz = i * sz + sz := Nat.succ_mul i sz
  have e1 : w64 ((l : Int) + ((1 : Nat) : Int)) = ((l + 1 : Nat) : Int) := by rw [w64_of] <;> omega
  have e2 : w64 ((i : Int) + ((1 : Nat) : Int)) = ((i + 1 : Nat) : Int) := by rw [w64_of] <;> omega
  rw [e1, e2]
  have e3 : w64 (((l + 1 : Nat) : Int) - (i : Int)) = ((l + 1 - i : Nat) : Int) := by rw [w64_of] <;> omega
  rw [e3]
  generalize hAe : xs.take (i * sz) = A at *
  generalize hDe : xs.drop (i * sz) = D at *
  have hAD : xs = A ++ D := by rw [← hAe, ← hDe, List.take_append_drop]
  have hAl : A.length = i * sz := by rw [← hAe, List.length_take]; omega
  have hDl : D.length = (l - i) * sz := by rw [← hDe, List.length_drop, hxl, Nat.sub_mul]
  have hDl1 : (l - i) * sz + i * sz = l * sz := by rw [← Nat.add_mul]; congr 1; omega
  have hA1 : one1 A := fun v hv => h1 v (by rw [hAD]; exact List.mem_append_left _ hv)
  have hD1 : one1 D := fun v hv => h1 v (by rw [hAD]; exact List.mem_append_right _ hv)
  have hcA : cellsAt w ⟨b, 0, none⟩ A := by
    have := cellsAt_take A.length (cellsAt_heap (off := 0) hh)
    rw [List.drop_zero, hAD, List.append_assoc, List.take_left] at this; exact this
  have hcD : cellsAt w ⟨b, 0 + i * sz, none⟩ D := by
    have := cellsAt_take D.length (cellsAt_heap (off := 0 + i * sz) hh)
    rw [hAD, List.append_assoc, Nat.zero_add, List.drop_left' hAl, List.take_left] at this
    rw [Nat.zero_add]; exact this
  refine condB_d (fun hroom => ?_) (fun hroom => ?_)
  · refine slS_to (by omega) (by omega) ?_
    refine appZ T htn hcA hAl (by omega) (by omega) (by omega) (by rw [show i + (l + 1 - i) = l + 1 by omega]; exact hb) (by omega) fun b' c' rest' w2 hb' hh2 hcs2 hle2 hmx2 hc2 => ?_
    rw [show i + (l + 1 - i) = l + 1 by omega] at hle2 ⊢
    have hrl : (l + 1 - i) * sz ≤ rest'.length := by
      rw [List.length_append, hAl] at hcs2
      have : (l + 1) * sz ≤ c' * sz := Nat.mul_le_mul_right _ hle2
      have : (l + 1 - i) * sz + i * sz = (l + 1) * sz := by rw [← Nat.add_mul]; congr 1; omega
      omega
    have hrs : (l + 1 - i) * sz = (l - i) * sz + sz := by rw [← Nat.succ_mul]; congr 1; omega
    refine slS_from (by omega) (by omega) (by omega) ?_
    refine cpyN (k := 1) T hh2 (by show min 1 (l + 1 - i) = 1; omega) ((hsv.chg hc2 (off_no _)).at (by decide) |>.elim fun a ha => by cases ha.1; exact ha.2) (by rw [hy, Nat.one_mul]) hy1 (by rw [List.length_append, hAl]; omega) ?_
    have hh3 := setRow_heap w2 b' _ ⟨splice (A ++ rest') (0 + i * sz) ys⟩ e (0, 0) hh2
    rw [Nat.zero_add, splice_at hAl, hy] at hh3 ⊢
    generalize hw3 : w2.setRow b' ⟨A ++ (ys ++ rest'.drop sz)⟩ = w3 at hh3 ⊢
    have hc3 : Chg (fun x => x = b') w2 w3 := by rw [← hw3]; exact chg_setRow _ _ _
    refine slS_from (by omega) (by omega) (by omega) ?_
    refine slS_from (by omega) hle (by omega) ?_
    have hb'b : b' ≠ b := fun e => by have := lt_of_heap hh; omega
    have hcD3 : cellsAt w3.drew ⟨b, 0 + i * sz, none⟩ D := hc3.cells (hc2.cells hcD (fun h => h)) (fun e => hb'b e.symm)
    refine cpyN (k := l - i) T (cs := A ++ (ys ++ rest'.drop sz)) (show w3.drew.heap[b']? = _ from hh3) (by show min (l - i) (l + 1 - (i + 1)) = l - i; omega) hcD3 hDl hD1 (by rw [List.length_append, List.length_append, List.length_drop, hAl, hy]; omega) ?_
    have hh4 := setRow_heap w3.drew b' _ ⟨splice (A ++ (ys ++ rest'.drop sz)) (0 + (i + 1) * sz) D⟩ e (0, 0) hh3
    have hAy : (A ++ ys).length = (i + 1) * sz := by rw [List.length_append, hAl, hy]; omega
    rw [Nat.zero_add, ← List.append_assoc, splice_at hAy] at hh4 ⊢
    refine K (some ⟨b', 0, none⟩) c' _ (Row.mk0 (rest := (rest'.drop sz).drop D.length) ?_ ?_ (by omega) hmx2 ?_) ?_ (.inr (by rintro a ⟨⟩; exact hb'))
    · rw [List.append_assoc (A ++ ys)]; exact hh4
    · rw [List.length_append, hAy, hDl, Nat.add_comm, ← Nat.add_mul]; congr 1; omega
    · rw [List.length_append, List.length_append, hAy, hDl, List.length_drop, List.length_drop]
      rw [List.length_append, hAl] at hcs2; omega
    · refine ((hc2.mono fun _ _ h => h.elim).trans hc3 fun x hx e => ?_).trans ((Chg.refl (fun x => x = b') w3).drew.trans (chg_setRow _ _ _) fun _ _ h => h) fun x hx e => ?_
      · omega
      · omega
  · have hcc : l + 1 ≤ c := by omega
    refine slS_to hcc (by omega) ?_
    refine slS_from (by omega) hcc (by omega) ?_
    refine ⟨_, w, hov (Ne.symm hbne) hv hh (by intro e0; rw [e0] at hcs; simp only [List.length_nil] at hcs; have := Nat.mul_pos (show 0 < c by omega) hpos; omega), ?_⟩
    refine ⟨false, rfl, ?_⟩
    refine condB_i (fun _ => ?_) (fun h => by cases h)
    refine slS_from (by omega) hcc (by omega) ?_
    refine slS_from (by omega) hcc (by omega) ?_
    have hrl : sz ≤ rest.length := by
      rw [List.length_append, hxl] at hcs
      have : (l + 1) * sz ≤ c * sz := Nat.mul_le_mul_right _ hcc
      rw [Nat.succ_mul] at this; omega
    have hhd : w.drew.heap[b]? = some (.cells ⟨xs ++ rest⟩ e (0, 0)) := hh
    refine cpyN (k := l - i) T hhd (by show min (l + 1 - i) (l + 1 - (i + 1)) = l - i; omega) (show cellsAt w.drew ⟨b, 0 + i * sz, none⟩ D from hcD) hDl hD1 (by rw [List.length_append, hxl]; omega) ?_
    have hh6 := setRow_heap w.drew b _ ⟨splice (xs ++ rest) (0 + (i + 1) * sz) D⟩ e (0, 0) hhd
    generalize hw6 : w.drew.setRow b ⟨splice (xs ++ rest) (0 + (i + 1) * sz) D⟩ = w6 at hh6 ⊢
    have hc6 : Chg (fun x => x = b) w w6 := by rw [← hw6]; exact (Chg.refl _ w).drew.trans (chg_setRow _ _ _) fun _ _ h => h
    have hsp : splice (xs ++ rest) (0 + (i + 1) * sz) D = A ++ ((D ++ rest).take sz ++ (D ++ rest.drop sz)) := by
      have e4 : xs ++ rest = (A ++ (D ++ rest).take sz) ++ (D ++ rest).drop sz := by rw [List.append_assoc, List.take_append_drop, hAD, List.append_assoc]
      have e5 : (A ++ (D ++ rest).take sz).length = 0 + (i + 1) * sz := by rw [List.length_append, hAl, List.length_take, List.length_append]; omega
      rw [e4, splice_at e5, List.append_assoc]
      congr 3
      rw [List.drop_drop, Nat.add_comm sz D.length, ← List.drop_drop, List.drop_left]
    rw [hsp] at hh6
    refine slS_from (by omega) hcc (by omega) ?_
    refine cpyN (k := 1) T hh6 (by show min 1 (l + 1 - i) = 1; omega) ((hsv.chg hc6 (by rintro a ⟨⟩ e; exact hbne e.symm)).at (by decide) |>.elim fun a ha => by cases ha.1; exact ha.2) (by rw [hy, Nat.one_mul]) hy1 (by rw [List.length_append, List.length_append, List.length_take, List.length_append, hAl]; omega) ?_
    have hh7 := setRow_heap w6 b _ ⟨splice (A ++ ((D ++ rest).take sz ++ (D ++ rest.drop sz))) (0 + i * sz) ys⟩ e (0, 0) hh6
    have ht : ((D ++ rest).take sz).length = sz := by rw [List.length_take, List.length_append]; omega
    rw [Nat.zero_add, splice_at hAl, hy, List.drop_left' ht] at hh7 ⊢
    refine K (some ⟨b, 0, none⟩) c _ (Row.mk0 (rest := rest.drop sz) ?_ ?_ hcc hmx ?_) ?_ (.inl rfl)
    · rw [List.append_assoc, List.append_assoc]; exact hh7
    · rw [List.length_append, List.length_append, hAl, hy, hDl, Nat.succ_mul]; omega
    · rw [List.length_append, List.length_append, List.length_append, List.length_drop, hAl, hy, hDl]
      rw [List.length_append, hxl] at hcs; omega
    · exact (hc6.trans (chg_setRow _ _ _) fun _ _ h => h).mono fun x hx e => ⟨_, rfl, e.symm⟩
end Go.Vc

/-
  The insertions, deletions and the search of this program's lists.
-/
set_option linter.unusedVariables false
set_option linter.unusedSimpArgs false
namespace Go.Proofs.YtkgfbphdmnapdaaGreatDoor
open Go Go.Vc Go.Lib Go.RowKit
section
variable {w : World}
theorem ovNode {bv b o lb cb : Nat} {cv cs : List Value} (hne : bv ≠ b) (hv : w.heap[bv]? = some (.cells ⟨cv⟩ T_api_Node (0, 0))) (hb : w.heap[b]? = some (.cells ⟨cs⟩ T_api_Node (0, 0))) (hcs : cs ≠ []) :
    (callFunc fn_slices_overlaps_api_Node #[.slice (some ⟨bv, 0, none⟩) 1 1, .slice (some ⟨b, o, none⟩) lb cb]).run Tryz.prog w = .ok (.value (.bool false)) w := by
  have hz : ∀ w, (Go.sizeOf T_api_Node).run Tryz.prog w = .ok 6 w := fun w => by
    obtain ⟨i, v, hi, _, hs, _⟩ := slT_node.info
    simp [Go.sizeOf, Go.typeInfo, hi, hs]
  have hc0 : cs.length ≠ 0 := fun h => hcs (List.eq_nil_of_length_eq_zero h)
  rw [run_callFunc_extern (fn := Tryz.f66) Tryz.func66 (by kernel_rfl) (by kernel_rfl) (by kernel_rfl) (e := Extern.SlicesOverlaps.overlaps #[T_sl_api_Node, T_sl_api_Node] #[T_bool]) (by kernel_rfl),
    run_overlaps_apart w T_sl_api_Node T_bool T_api_Node slT_node.hu 6 hz ⟨bv, 0, none⟩ ⟨b, o, none⟩ 1 1 lb cb hne T_api_Node T_api_Node cv.length cs.length (by unfold World.shape?; rw [hv]; rfl) (by unfold World.shape?; rw [hb]; rfl) hc0 (frozen_of_row w bv 0 _ _ hv) (frozen_of_row w bv cv.length _ _ hv)]
  rfl
theorem slT_attr9 : SlT Tryz.prog T_sl_api_Attr T_api_Attr 3 48 #[.string ByteArray.empty, .string ByteArray.empty, .string ByteArray.empty] := SlT.of (by kernel_rfl) (by kernel_rfl) rfl (by decide)
theorem ovAttr {bv b o lb cb : Nat} {cv cs : List Value} (hne : bv ≠ b) (hv : w.heap[bv]? = some (.cells ⟨cv⟩ T_api_Attr (0, 0))) (hb : w.heap[b]? = some (.cells ⟨cs⟩ T_api_Attr (0, 0))) (hcs : cs ≠ []) :
    (callFunc fn_slices_overlaps_api_Attr #[.slice (some ⟨bv, 0, none⟩) 1 1, .slice (some ⟨b, o, none⟩) lb cb]).run Tryz.prog w = .ok (.value (.bool false)) w := by
  have hz : ∀ w, (Go.sizeOf T_api_Attr).run Tryz.prog w = .ok 3 w := fun w => by
    obtain ⟨i, v, hi, _, hs, _⟩ := slT_attr9.info
    simp [Go.sizeOf, Go.typeInfo, hi, hs]
  have hc0 : cs.length ≠ 0 := fun h => hcs (List.eq_nil_of_length_eq_zero h)
  rw [run_callFunc_extern (fn := Tryz.f93) Tryz.func93 (by kernel_rfl) (by kernel_rfl) (by kernel_rfl) (e := Extern.SlicesOverlaps.overlaps #[T_sl_api_Attr, T_sl_api_Attr] #[T_bool]) (by kernel_rfl),
    run_overlaps_apart w T_sl_api_Attr T_bool T_api_Attr slT_attr9.hu 3 hz ⟨bv, 0, none⟩ ⟨b, o, none⟩ 1 1 lb cb hne T_api_Attr T_api_Attr cv.length cs.length (by unfold World.shape?; rw [hv]; rfl) (by unfold World.shape?; rw [hb]; rfl) hc0 (frozen_of_row w bv 0 _ _ hv) (frozen_of_row w bv cv.length _ _ hv)]
  rfl
theorem InsNode_ok {p : Option Addr} {l c i bv : Nat} {L : List NV} {x : NV} {J : Option Addr → Nat → Nat → World → Prop} (h : Row w T_api_Node 6 p l c (rows NV.cells L)) (hv : w.heap[bv]? = some (.cells ⟨x.cells⟩ T_api_Node (0, 0))) (hne : ∀ a, p = some a → a.block ≠ bv) (hi : i ≤ l) (hl : l ≤ 100000000)
    (K : ∀ p' c' w', Row w' T_api_Node 6 p' (l + 1) c' (rows NV.cells (L.take i ++ x :: L.drop i)) → Chg (isB p) w w' → (p' = p ∨ fresh w p') → J p' (l + 1) c' w') :
    callJ Tryz.prog fn_slices_Insert_sl_api_Node_api_Node #[.slice p l c, .int .i64 (i : Int), .slice (some ⟨bv, 0, none⟩) 1 1] w [.one .slice] J := by
  refine c_slices_Insert_sl_api_Node_api_Node ?_
  show InsVC Tryz.prog T_sl_api_Node T_int fn_slices_overlaps_api_Node fn_slices_rotateRight_api_Node 6 p l c (i : Int) (some ⟨bv, 0, none⟩) 1 1 w J
  refine InsVC_ok (kn := .i64) slT_node (by kernel_rfl) ovNode h (one1_rows fun x _ => one1_node x) hv (by cases x; rfl) (one1_node x) hne hi (by omega) (by omega) fun p' c' w' hr hc hf => K p' c' w' ?_ hc hf
  rw [rows_take (even_node L), rows_drop (even_node L)] at hr
  rw [rows_append, rows_cons, ← List.append_assoc]; exact hr
theorem InsAttr_ok {p : Option Addr} {l c i bv : Nat} {L : List At} {x : At} {J : Option Addr → Nat → Nat → World → Prop} (h : Row w T_api_Attr 3 p l c (rows atc L)) (hv : w.heap[bv]? = some (.cells ⟨atc x⟩ T_api_Attr (0, 0))) (hne : ∀ a, p = some a → a.block ≠ bv) (hi : i ≤ l) (hl : l ≤ 100000000)
    (K : ∀ p' c' w', Row w' T_api_Attr 3 p' (l + 1) c' (rows atc (L.take i ++ x :: L.drop i)) → Chg (isB p) w w' → (p' = p ∨ fresh w p') → J p' (l + 1) c' w') :
    callJ Tryz.prog fn_slices_Insert_sl_api_Attr_api_Attr #[.slice p l c, .int .i64 (i : Int), .slice (some ⟨bv, 0, none⟩) 1 1] w [.one .slice] J := by
  refine c_slices_Insert_sl_api_Attr_api_Attr ?_
  show InsVC Tryz.prog T_sl_api_Attr T_int fn_slices_overlaps_api_Attr fn_slices_rotateRight_api_Attr 3 p l c (i : Int) (some ⟨bv, 0, none⟩) 1 1 w J
  refine InsVC_ok (kn := .i64) slT_attr9 (by kernel_rfl) ovAttr h (one1_rows fun x _ => one1_at x) hv rfl (one1_at x) hne hi (by omega) (by omega) fun p' c' w' hr hc hf => K p' c' w' ?_ hc hf
  rw [rows_take (even_at L), rows_drop (even_at L)] at hr
  rw [rows_append, rows_cons, ← List.append_assoc]; exact hr
theorem DelNode_ok {p : Option Addr} {l c i : Nat} {L : List NV} {J : Option Addr → Nat → Nat → World → Prop} (h : Row w T_api_Node 6 p l c (rows NV.cells L)) (hi : i < l) (hl : l ≤ 100000000)
    (K : ∀ w', Row w' T_api_Node 6 p (l - 1) c (rows NV.cells (L.take i ++ L.drop (i + 1))) → Chg (isB p) w w' → J p (l - 1) c w') :
    callJ Tryz.prog fn_slices_Delete_sl_api_Node_api_Node #[.slice p l c, .int .i64 (i : Int), .int .i64 ((i + 1 : Nat) : Int)] w [.one .slice] J := by
  refine c_slices_Delete_sl_api_Node_api_Node ?_
  show DelVC Tryz.prog T_sl_api_Node 6 p l c (i : Int) ((i + 1 : Nat) : Int) w J
  refine DelVC_ok slT_node (one1_node (.mk 0 emptyB emptyB emptyB none 0 0 [] none 0 0 [])) h (one1_rows fun x _ => one1_node x) hi (by omega) (by omega) fun w' hr hc => K w' ?_ hc
  rw [rows_take (even_node L), rows_drop (even_node L)] at hr
  rw [rows_append]; exact hr
theorem DelAttr_ok {p : Option Addr} {l c i : Nat} {L : List At} {J : Option Addr → Nat → Nat → World → Prop} (h : Row w T_api_Attr 3 p l c (rows atc L)) (hi : i < l) (hl : l ≤ 100000000)
    (K : ∀ w', Row w' T_api_Attr 3 p (l - 1) c (rows atc (L.take i ++ L.drop (i + 1))) → Chg (isB p) w w' → J p (l - 1) c w') :
    callJ Tryz.prog fn_slices_Delete_sl_api_Attr_api_Attr #[.slice p l c, .int .i64 (i : Int), .int .i64 ((i + 1 : Nat) : Int)] w [.one .slice] J := by
  refine c_slices_Delete_sl_api_Attr_api_Attr ?_
  show DelVC Tryz.prog T_sl_api_Attr 3 p l c (i : Int) ((i + 1 : Nat) : Int) w J
  refine DelVC_ok slT_attr9 (one1_at (emptyB, emptyB, emptyB)) h (one1_rows fun x _ => one1_at x) hi (by omega) (by omega) fun w' hr hc => K w' ?_ hc
  rw [rows_take (even_at L), rows_drop (even_at L)] at hr
  rw [rows_append]; exact hr
theorem half_u64 {n : Nat} (h : n ≤ 1000000000) : w64 (shrI .u64 (IntKind.u64.wrap (w64 (n : Int))) 1) = ((n / 2 : Nat) : Int) := by
  have e1 : w64 (n : Int) = n := by rw [w64_of] <;> omega
  have e2 : IntKind.u64.wrap (n : Int) = n := by rw [IntKind.wrap_u64]; omega
  rw [e1, e2]
  unfold shrI
  rw [show (min (1 : Int).toNat IntKind.u64.bits) = 1 from rfl, Int.fdiv_eq_ediv_of_nonneg _ (by decide)]
  rw [w64_of] <;> omega
theorem Attr1_ok {a : At} {n : Pr} {J : Int → World → Prop} (k : ∀ w', Chg No w w' → J (ordZ (nameOf a) n) w') : callJ Tryz.prog fn_edit_attr_1 #[.agg ⟨atc a⟩, .agg ⟨[.string n.1, .string n.2]⟩] w [.one (.int .i64)] J := by
  refine c_edit_attr_1 ?_
  unfold VC_edit_attr_1
  refine (Hp.start w No).newB fun b2 w1 H1 _ _ => ?_
  refine H1.newB fun b3 w2 H2 _ _ => ?_
  refine H2.ldStr 1 rfl (off := 0) rfl ?_
  refine H2.ldStr 1 rfl (off := 1) rfl ?_
  refine H2.ldStr 0 rfl (off := 0) rfl ?_
  refine H2.ldStr 0 rfl (off := 1) rfl ?_
  exact Order_ok (a := nameOf a) (b := n) fun w3 hc3 => k w3 (H2.step0 hc3).chg
/-- The search of a name among attributes that rise. -/
theorem Search_ok {p : Option Addr} {l c : Nat} {L : List At} {n : Pr} {J : Int → Bool → World → Prop} (h : Sl w p l 3 (rows atc L)) (hm : l ≤ 100000000) (hasc : L.Pairwise fun a b => aLt a b = true)
    (K : ∀ (i : Nat) (b : Bool) w', i ≤ l → (∀ j a, j < i → L[j]? = some a → nLt (nameOf a) n = true) → (∀ j a, i ≤ j → L[j]? = some a → nLt (nameOf a) n = false) → (b = true ↔ ∃ a, L[i]? = some a ∧ nameOf a = n) → Chg No w w' → J (i : Int) b w') :
    callJ Tryz.prog fn_slices_BinarySearchFunc_sl_api_Attr_api_Attr_api_Name #[.slice p l c, .agg ⟨[.string n.1, .string n.2]⟩, .func (.func 69) #[] #[]] w [.one (.int .i64), .one .bool] J := by
  have hl := h.row (even_at L) (by decide)
  refine c_slices_BinarySearchFunc_sl_api_Attr_api_Attr_api_Name_f2_69 ?_
  unfold VC_slices_BinarySearchFunc_sl_api_Attr_api_Attr_api_Name_f2_69
  refine (Hp.start w No).newB fun b4 w1 H1 hb4 hc1 => ?_
  refine ⟨fun i j w' m => ∃ a b : Nat, i = a ∧ j = b ∧ a ≤ b ∧ b ≤ l ∧ m = b - a ∧ Hp w No w' [⟨b4, [.string n.1, .string n.2], T_api_Name⟩] ∧ (∀ k x, k < a → L[k]? = some x → nLt (nameOf x) n = true) ∧ (∀ k x, b ≤ k → L[k]? = some x → nLt (nameOf x) n = false),
    ⟨_, 0, l, rfl, rfl, Nat.zero_le _, Nat.le_refl _, rfl, H1, by omega, fun k x hk hx => by have := (List.getElem?_eq_some_iff.1 hx).1; omega⟩, ?_⟩
  rintro i j w2 m ⟨a, b, rfl, rfl, hab, hbl, rfl, H2, hlo, hhi⟩
  have H2d := H2.drew
  refine condB_d (fun hlt => ?_) (fun hge => ?_)
  · refine ⟨by decide, ?_⟩
    rw [show ((a : Int) + (b : Int)) = ((a + b : Nat) : Int) by omega, half_u64 (by omega)]
    generalize hh : (a + b) / 2 = m
    refine idx_rows (h.chg H2d.chg (off_no _)) (even_at L) (by decide) (by omega) (by omega) fun ad x _ hx hcx => ?_
    rw [Int.toNat_natCast] at hx
    refine ldAttr hcx ?_
    refine H2d.ldStr 0 rfl (off := 0) rfl ?_
    refine H2d.ldStr 0 rfl (off := 1) rfl ?_
    refine Attr1_ok (a := x) (n := n) fun w3 hc3 => ?_
    have H3 := H2d.step0 hc3
    have hoz := ordZ_lt (nameOf x) n
    refine condB_d (fun hl => ?_) (fun hg => ?_)
    · have hx1 := hoz.1 hl
      refine ⟨_, ?_, m + 1, b, by rw [w64_of] <;> omega, rfl, by omega, hbl, rfl, H3, fun k y hk hy => ?_, hhi⟩
      · omega
      · rcases Nat.lt_or_ge k m with h1 | h1
        · have h2 := List.pairwise_iff_getElem.1 hasc k m (List.getElem?_eq_some_iff.1 hy).1 (List.getElem?_eq_some_iff.1 hx).1 h1
          rw [(List.getElem?_eq_some_iff.1 hy).2, (List.getElem?_eq_some_iff.1 hx).2] at h2
          exact nLt_trans h2 hx1
        · obtain rfl : k = m := by omega
          obtain rfl := Option.some.inj (hx.symm.trans hy)
          exact hx1
    · have hx1 : nLt (nameOf x) n = false := by
        cases hb : nLt (nameOf x) n with
        | false => rfl
        | true => exact absurd (hoz.2 hb) hg
      refine ⟨_, ?_, a, m, rfl, rfl, by omega, by omega, rfl, H3, hlo, fun k y hk hy => ?_⟩
      · omega
      · rcases Nat.lt_or_ge m k with h1 | h1
        · have h2 := List.pairwise_iff_getElem.1 hasc m k (List.getElem?_eq_some_iff.1 hx).1 (List.getElem?_eq_some_iff.1 hy).1 h1
          rw [(List.getElem?_eq_some_iff.1 hy).2, (List.getElem?_eq_some_iff.1 hx).2] at h2
          cases hb : nLt (nameOf y) n with
          | false => rfl
          | true =>
            have := nLt_trans h2 hb
            unfold nameOf at hx1 this
            rw [hx1] at this; cases this
        · obtain rfl : k = m := by omega
          obtain rfl := Option.some.inj (hx.symm.trans hy)
          exact hx1
  · have hab' : a = b := by omega
    subst hab'
    simp only [withJ]
    refine condB_d (fun hlt => ?_) (fun hge2 => ?_)
    · refine idx_rows (h.chg H2d.chg (off_no _)) (even_at L) (by decide) (by omega) hlt fun ad x _ hx hcx => ?_
      rw [Int.toNat_natCast] at hx
      refine ldAttr hcx ?_
      refine H2d.ldStr 0 rfl (off := 0) rfl ?_
      refine H2d.ldStr 0 rfl (off := 1) rfl ?_
      refine Attr1_ok (a := x) (n := n) fun w3 hc3 => ?_
      refine K a _ w3 hbl hlo hhi ?_ (H2d.step0 hc3).chg
      rw [beq_iff_eq, ordZ_zero]
      exact ⟨fun e => ⟨x, hx, e⟩, fun ⟨y, hy, e⟩ => by obtain rfl := Option.some.inj (hx.symm.trans hy); exact e⟩
    · refine K a false _ hbl hlo hhi ⟨fun e => (by cases e), fun ⟨y, hy, e⟩ => ?_⟩ H2d.chg
      have := (List.getElem?_eq_some_iff.1 hy).1; omega
end
end Go.Proofs.YtkgfbphdmnapdaaGreatDoor

