/- What the statement needs, part 3. -/
import Derived.Test.YtjlgopfceebdcaaGreatDoorZ2
set_option linter.unusedSectionVars false
set_option linter.unusedVariables false
set_option linter.unusedSimpArgs false
set_option maxRecDepth 100000
open List
section
namespace Go.Vc
open Go Go.RowKit Go.Lib
theorem appJ_row3 {P : Program} {t e : TypeId} {sz by_ : Nat} {z : Array Value} (T : SlT P t e sz by_ z) {w : World} {p q : Option Addr} {l c m c2 : Nat} {xs news : List Value}
  {K : Option Addr -> Nat -> Nat -> World -> Prop} (h : Row w e sz p l c xs) (src : Sl w q m sz news) (h1 : one1 news) (hm : q = none -> m = 0) (hb : (l + m) * by_ <= 140737488355328) (hmax : l + m <= maxLen)
  (k : ∀ p' c' w', Row w' e sz p' (l + m) c' (xs ++ news) -> Chg (isB p) w w' -> ((p' = p /\ c' = c) \/ (fresh w p' /\ c < l + m)) -> K p' (l + m) c' w') :
  YbM P t t (.slice p l c) (.slice q m c2) w K := by
 obtain ⟨i, v, hi, hz, hsz, hby, hv⟩ := T.info
 have hown := h.owns
 have fin : ∀ v' w', (∀ ty, (Builtin.append_ #[t, t] ty #[.slice p l c, .slice q m c2]).run P w = .ok v' w') -> w'.ownsRow 0 e sz v' (l + m) (xs ++ news) -> Chg (isB p) w w' ->
   (v' = .slice p (l + m) c \/ ∀ p' c', v' = .slice p' (l + m) c' -> (fresh w p' /\ c < l + m)) -> YbM P t t (.slice p l c) (.slice q m c2) w K := by
  intro v' w' hr ho hc hf
  obtain ⟨p', c', rfl, hrow⟩ := Row.of_owns ho
  refine ⟨p', l + m, c', w', hr, k p' c' w' hrow hc ?_⟩
  rcases hf with hf | hf
  ·left; injection hf with h1 h2 h3; exact ⟨h1, h3⟩
  ·exact .inr (hf p' c' rfl)
 cases q with
 | none =>
  have h0 := hm rfl
  subst h0
  have hn : news = [] := eq_nil_of_length_eq_zero (by simpa using src.1)
  subst hn
  refine fin (.slice p l c) w (fun ty => ?_) (by simpa using hown) (Chg.refl _ _) (.inl rfl)
  have hle := h.le.1
  cases p with
  | none => simp [Builtin.append_, run_underlying T.hu, sizeOf, typeInfo, hi, Builtin.lenOf, Builtin.firstCells, hle]
  | some a => simp [Builtin.append_, run_underlying T.hu, sizeOf, typeInfo, hi, Builtin.lenOf, Builtin.firstCells, hle, storeCells]
 | some ad =>
  have hnews : ∀ j u, news[j]? = some u -> w.cell? (ad.add j) = some u := by
   rcases src.2 with h0 | ⟨a, ha, hc⟩
   ·intro j u hu
    have hn : news = [] := eq_nil_of_length_eq_zero (by have := src.1; rw [h0] at this; simpa using this)
    subst hn; simp at hu
   ·cases ha; exact hc
  have fz : v.cells.size = sz := by rw [hv]; exact T.hz
  obtain ⟨v', w', hr, ho, hg, hnil⟩ := run_append_own (P := P) w 0 t 0 e i v sz by_ (T.hu) hi hz hsz hby fz T.pos (.slice p l c) l xs hown ad m c2 news src.1 hnews h1 hmax hb (Nat.zero_le _)
  have hr' : ∀ ty, (Builtin.append_ #[t, t] ty #[.slice p l c, .slice (some ad) m c2]).run P w = .ok v' w' := fun ty => hr
  have hcg : Chg (isB p) w w' := Chg.of_grown hg (fun b hb => by
   cases p with
   | none => simp [Value.ownBlock] at hb
   | some x => simp [Value.ownBlock] at hb; exact ⟨x, rfl, hb⟩)
   -- where the new row lies
  by_cases hroom : l + m <= c
  · -- in place
   rcases h.2 with ⟨h0, h2, h3⟩ | ⟨b, rest, hp, hh, hlc, hcm, hcs⟩
   ·subst h0; subst h2; subst h3
    have hm0 : m = 0 := by omega
    subst hm0
    have := hnil.2 ⟨rfl, rfl⟩
    subst this
    exact fin _ _ hr' ho hcg (.inl rfl)
   ·subst hp
    subst hsz
    have hroomr := run_append_room (P := P) w t 0 e i T.hu hi b l c ⟨xs ++ rest⟩ hh ad m c2 news src.1 hnews h1 hroom (by
     rw [src.1, <- Nat.add_mul]; simp only [size_toArray]; rw [hcs]; exact Nat.mul_le_mul_right _ hroom)
    rw [hr] at hroomr
    injection hroomr with e1 e2
    exact fin _ _ hr' ho hcg (.inl e1)
  · -- a new block
   refine fin _ _ hr' ho hcg (.inr ?_)
   intro p' c' hp'
   refine ⟨?_, by omega⟩
   intro a ha
   subst hp'
   obtain ⟨p2, c2', e1, hrow⟩ := Row.of_owns ho
   have hp2 : p' = p2 := by injection e1
   subst hp2
    -- the block's cells are more than the old ones: else it lies where it was; decided by the run itself
   rcases h.2 with ⟨h0, h2, h3⟩ | ⟨b, rest, hp, hh, hlc, hcm, hcs⟩
   ·subst h0; subst h2; subst h3
    have hr2 := run_append_nil (P := P) w t 0 e i v T.hu hi hz ad m c2 news (by rw [hsz]; exact src.1) hnews (by omega) (by simp only [maxLen] at hmax; omega) (by rw [hby]; have hb' := hb; simp only [Nat.zero_add] at hb'; omega)
    rw [hr] at hr2
    injection hr2 with e2 e3
    injection e2 with e4
    rw [ha] at e4
    injection e4 with e5
    rw [e5]
    exact Nat.le_refl _
   ·subst hp
    subst hsz
    have holds : ∀ j u, xs[j]? = some u -> w.cell? ((⟨b, 0, none⟩ : Addr).add j) = some u := by
     have := h.sl
     rcases this.2 with h0 | ⟨a', ha', hc'⟩
     ·intro j u hu
      have hn : xs = [] := eq_nil_of_length_eq_zero (by have := h.1; rw [h0] at this; simpa using this)
      subst hn; simp at hu
     ·cases ha'; exact hc'
    have hr2 := run_append_grow (P := P) w t 0 e i v T.hu hi hz ⟨b, 0, none⟩ l c xs h.1 holds ad m c2 news src.1 hnews (by omega) (by simp only [maxLen] at hmax; omega) (growslice_fits (by omega) (by rw [hby]; exact hb))
    rw [hr] at hr2
    injection hr2 with e2 e3
    injection e2 with e4
    rw [ha] at e4
    injection e4 with e5
    rw [e5]
    exact Nat.le_refl _
theorem Yem {A R V : List Value} {n : Nat} (h : A.length = n) : splice (A ++ R) n V = A ++ (V ++ R.drop V.length) := by
 unfold splice
 rw [take_left' h, <- drop_drop, drop_left' h, append_assoc]
theorem YbU {b off l c sz i : Nat} {K : Option Addr -> Nat -> Nat -> Prop} (hi : i <= l) (hl : l <= c) (hc : i < c) (k : K (some ⟨b, off + i * sz, none⟩) (l - i) (c - i)) : slS (some ⟨b, off, none⟩) l c sz (some (i : Int)) none none K := by
 refine ⟨i, l, c, rfl, rfl, rfl, hi, hl, Nat.le_refl _, ?_⟩
 rw [if_neg (show ¬ c = i by omega)]
 simp only [Option.map_some, Addr.add_mk]
 exact k
theorem slS_to {b off l c sz j : Nat} {K : Option Addr -> Nat -> Nat -> Prop} (hj : j <= c) (hc : c ≠ 0) (k : K (some ⟨b, off, none⟩) j c) : slS (some ⟨b, off, none⟩) l c sz none (some (j : Int)) none K := by
 refine ⟨0, j, c, rfl, rfl, rfl, Nat.zero_le _, hj, Nat.le_refl _, ?_⟩
 simp only [Nat.sub_zero, hc, if_false, Nat.zero_mul, Option.map_some, Addr.add_mk, Nat.add_zero]
 exact k
theorem cpyN {P : Program} {t e e' : TypeId} {sz by_ : Nat} {z : Array Value} (T : SlT P t e sz by_ z) {w : World} {b off l c m c2 k : Nat} {q : Addr} {cs vs : List Value} {K : Int -> World -> Prop} (hh : w.heap[b]? = some (.cells ⟨cs⟩ e' (0, 0))) (hm : Nat.min m l = k)
  (src : Zzh w q vs) (hv : vs.length = k * sz) (h1 : one1 vs) (fit : off + k * sz <= cs.length) (kk : K (k : Int) (w.setRow b ⟨splice cs off vs⟩)) : cpyJ P t t (.slice (some ⟨b, off, none⟩) l c) (.slice (some q) m c2) w K := by
 obtain ⟨ti, v, hti, hz, hsz, hby, hv'⟩ := T.info
 have hl := run_loadCells_list (P := P) w q vs src
 have hst := run_storeCells_at P b off e' vs 0 ⟨cs⟩ w hh (by rw [Nat.add_zero, hv]; exact fit) h1
 rw [hv] at hl
 refine ⟨(k : Int), w.setRow b ⟨splice cs off vs⟩, fun ty => ?_, kk⟩
 have e1 : ((⟨cs⟩ : Array Value).toList.take off ++ vs ++ (⟨cs⟩ : Array Value).toList.drop (off + vs.length)).toArray = ⟨splice cs off vs⟩ := rfl
 simp [Builtin.copy_, run_underlying T.hu, Builtin.lenOf, Builtin.firstCells, sizeOf, typeInfo, hti, hsz, hm, hl, hst, goInt, splice]
theorem appZ {P : Program} {t tn e : TypeId} {kn : IntKind} {sz by_ : Nat} {z : Array Value} (T : SlT P t e sz by_ z) (htn : P.underlying tn = some (.int kn)) {w : World} {b i c k : Nat} {xs : List Value} {kq : IntKind} {K : Option Addr -> Nat -> Nat -> World -> Prop}
  (hx : Zzh w ⟨b, 0, none⟩ xs) (hl : xs.length = i * sz) (h0 : 0 < k) (hroom : c < i + k) (hic : i <= c) (hb : (i + k) * by_ <= 140737488355328) (hmax : i + k <= 1000000000000)
  (kk : ∀ b' c' rest w', w.heap.size <= b' -> w'.heap[b']? = some (.cells ⟨xs ++ rest⟩ e (0, 0)) -> (xs ++ rest).length = c' * sz -> i + k <= c' -> c' <= maxLen -> Chg No w w' -> K (some ⟨b', 0, none⟩) (i + k) c' w') :
  YbM P t tn (.slice (some ⟨b, 0, none⟩) i c) (.int kq (k : Int)) w K := by
 obtain ⟨ti, v, hti, hz, hsz, hby, hv⟩ := T.info
 have hold : (Builtin.firstCells ti.size i (.slice (some ⟨b, 0, none⟩) i c)).run P w.drew = .ok xs.toArray w.drew := by
  rw [hsz]
  exact run_firstCells_some w.drew sz i ⟨b, 0, none⟩ i c xs hl hx
 have hrun := fun ty => run_append_grow_zeros w t tn ty e ti v kq kn T.hu htn hti hz (some ⟨b, 0, none⟩) i c xs hold k h0 (by rw [hsz]; exact T.pos) hroom (by omega) (by
  rw [hby]
  have : k * by_ <= (i + k) * by_ := Nat.mul_le_mul_right _ (by omega)
  omega) (by rw [hby]; exact growslice_fits hroom hb)
 refine ⟨_, _, _, _, hrun, ?_⟩
 have hge := grownCap_ge w (i + k) c e
 have hzl : ∀ n, (Builtin.zeroCells v.cells n).toList.length = n * sz := fun n => by
  unfold Builtin.zeroCells
  rw [hv, zrow_eq z n]
  simp only [length_flatten, map_replicate, sum_replicate_nat, Array.length_toList, T.hz]
 refine kk w.heap.size (grownCap w (i + k) c e) ((Builtin.zeroCells v.cells k).toList ++ (Builtin.zeroCells v.cells (grownCap w (i + k) c e - (i + k))).toList) _ (Nat.le_refl _) ?_ ?_ hge ?_ ?_
 ·have := heap_alloc_new w.drew (.cells (xs.toArray ++ Builtin.zeroCells v.cells k ++ Builtin.zeroCells v.cells (grownCap w (i + k) c e - (i + k))) e)
  have e2 : xs.toArray ++ Builtin.zeroCells v.cells k ++ Builtin.zeroCells v.cells (grownCap w (i + k) c e - (i + k)) = ⟨xs ++ ((Builtin.zeroCells v.cells k).toList ++ (Builtin.zeroCells v.cells (grownCap w (i + k) c e - (i + k))).toList)⟩ := by
   apply Array.ext'; simp
  rw [e2] at this
  rw [e2]
  exact this
 ·rw [length_append, length_append, hzl, hzl, hl, <- Nat.add_mul, <- Nat.add_mul]
  congr 1; omega
 ·exact grownCap_le_maxLen w (i + k) c e (by simp only [maxLen]; omega)
 ·exact ((Chg.refl No w).drew).alloc _
theorem Row.heap0 {w : World} {e : TypeId} {sz l c : Nat} {p : Option Addr} {xs : List Value} (h : Row w e sz p l c xs) (hl : c ≠ 0) : ∃ b rest, p = some ⟨b, 0, none⟩ /\ w.heap[b]? = some (.cells ⟨xs ++ rest⟩ e (0, 0)) /\ l <= c /\ c <= maxLen /\ (xs ++ rest).length = c * sz := by
 rcases h.2 with ⟨_, _, h0⟩ | h
 ·exact absurd h0 hl
 ·exact h
theorem Row.mk0 {w : World} {e : TypeId} {sz l c b : Nat} {xs rest : List Value} (hh : w.heap[b]? = some (.cells ⟨xs ++ rest⟩ e (0, 0))) (hl : xs.length = l * sz) (h1 : l <= c) (h2 : c <= maxLen) (h3 : (xs ++ rest).length = c * sz) : Row w e sz (some ⟨b, 0, none⟩) l c xs := ⟨hl, .inr ⟨b, rest, rfl, hh, h1, h2, h3⟩⟩
def DelVC (P : Program) (t : TypeId) (sz : Nat) (s0p : Option Addr) (s0l s0c : Nat) (i1 j2 : Int) (w : World) (J : Option Addr -> Nat -> Nat -> World -> Prop) : Prop :=
 slS s0p s0l s0c sz (some i1) (some j2) (some ((s0l : Nat) : Int)) fun q13p q13l q13c =>
 Zz2 (i1 == j2) (
 J s0p s0l s0c w) (
 slS s0p s0l s0c sz none (some i1) none fun q22p q22l q22c =>
 slS s0p s0l s0c sz (some j2) none none fun q25p q25l q25c =>
 YbM P t t (.slice q22p q22l q22c) (.slice q25p q25l q25c) w.drew fun q26p q26l q26c w1 =>
 slS q26p q26l q26c sz (some ((q26l : Nat) : Int)) (some ((s0l : Nat) : Int)) none fun q31p q31l q31c =>
 clrJ P t (.slice q31p q31l q31c) w1 fun w2 =>
 J q26p q26l q26c w2)
theorem DelVC_ok {P : Program} {t e : TypeId} {sz by_ : Nat} {z : Array Value} (T : SlT P t e sz by_ z) (hz1 : one1 z.toList) {w : World} {p : Option Addr} {l c i : Nat} {xs : List Value} {J : Option Addr -> Nat -> Nat -> World -> Prop}
  (h : Row w e sz p l c xs) (h1 : one1 xs) (hi : i < l) (hb : l * by_ <= 140737488355328) (hmax : l <= 1000000000000)
  (K : ∀ w', Row w' e sz p (l - 1) c (xs.take (i * sz) ++ xs.drop ((i + 1) * sz)) -> Chg (isB p) w w' -> J p (l - 1) c w') : DelVC P t sz p l c (i : Int) ((i + 1 : Nat) : Int) w J := by
 obtain ⟨b, rest, rfl, hh, hle, hmx, hcs⟩ := h.some0 (by omega)
 have hxl := h.len
 have hiz : (i + 1) * sz <= l * sz := Nat.mul_le_mul_right _ hi
 have hiz0 : i * sz <= l * sz := Nat.mul_le_mul_right _ (by omega)
 have hiz2 : (i + 1) * sz = i * sz + sz := Nat.succ_mul i sz
 have hlz : (l - 1) * sz + sz = l * sz := by rw [<- Nat.succ_mul, Nat.succ_eq_add_one, Nat.sub_add_cancel (by omega)]
 unfold DelVC
 refine ⟨i, i + 1, l, rfl, rfl, rfl, by omega, hi, hle, ?_⟩
 refine Zzj (fun h => by omega) (fun _ => ?_)
 refine slS_to (by omega) (by omega) ?_
 refine slS_sl (i := i + 1) (j := l) h.sl rfl rfl hi (Nat.le_refl _) hle fun q25 h25 _ => ?_
 have hd : ((xs.drop ((i + 1) * sz)).take ((l - (i + 1)) * sz)) = xs.drop ((i + 1) * sz) := take_of_length_le (by rw [length_drop, hxl, Nat.sub_mul]; exact Nat.le_refl _)
 rw [hd] at h25
 have hA : (xs.take (i * sz)).length = i * sz := by rw [length_take, hxl]; omega
 have hR : Row w.drew e sz (some ⟨b, 0, none⟩) i c (xs.take (i * sz)) := by
  refine Row.mk0 (rest := xs.drop (i * sz) ++ rest) ?_ hA (by omega) hmx ?_
  ·rw [<- append_assoc, take_append_drop]; exact hh
  ·rw [<- append_assoc, take_append_drop]; exact hcs
 refine appJ_row3 T hR (h25.chg (Chg.refl No w).drew (off_no _)) (fun v hv => h1 v (mem_of_mem_drop hv)) (fun e => ?_) (Nat.le_trans (Nat.mul_le_mul_right _ (by omega)) hb) (by simp only [maxLen]; omega) fun p' c' w1 hr1 hc1 hf1 => ?_
 ·by_cases h0 : l - (i + 1) = 0
  ·exact h0
  ·obtain ⟨a, ha, _⟩ := h25.at h0
   rw [e] at ha; cases ha
 have hil : i + (l - (i + 1)) = l - 1 := by omega
 rw [hil] at hr1 hf1 ⊢
 rcases hf1 with ⟨rfl, rfl⟩ | ⟨_, hlt⟩
 rotate_left
 ·omega
  -- what stands behind: at least one element
 obtain ⟨b2, rest2, e2, hh2, hle2, hmx2, hcs2⟩ := hr1.heap0 (by omega)
 cases e2
 have hA2 : (xs.take (i * sz) ++ xs.drop ((i + 1) * sz)).length = (l - 1) * sz := hr1.len
 have hrl : sz <= rest2.length := by
  rw [length_append, hA2] at hcs2
  have : l * sz <= c' * sz := Nat.mul_le_mul_right _ hle
  omega
 have hfull : Row w1 e sz (some ⟨b, 0, none⟩) l c' ((xs.take (i * sz) ++ xs.drop ((i + 1) * sz)) ++ rest2.take sz) := by
  refine Row.mk0 (rest := rest2.drop sz) ?_ ?_ hle hmx2 ?_
  ·rw [append_assoc (xs.take (i * sz) ++ xs.drop ((i + 1) * sz)), take_append_drop]; exact hh2
  ·rw [length_append, hA2, length_take]; omega
  ·rw [append_assoc (xs.take (i * sz) ++ xs.drop ((i + 1) * sz)), take_append_drop]; exact hcs2
 have hcl := clr_row (P := P) (t := t) T hz1 (i := l - 1) hfull hA2 (by omega) (K := fun w2 => J (some ⟨b, 0, none⟩) (l - 1) c' w2) fun w2 hr2 hc2 => K w2 hr2 (((Chg.refl _ w).drew.trans hc1 fun _ _ h => h).trans hc2 fun _ _ h => h)
 exact hcl
def InsVC (P : Program) (t tn : TypeId) (fo fr : FuncId) (sz : Nat) (s0p : Option Addr) (s0l s0c : Nat) (i1 : Int) (v2p : Option Addr) (v2l v2c : Nat) (w : World) (J : Option Addr -> Nat -> Nat -> World -> Prop) : Prop :=
 slS s0p s0l s0c sz (some i1) none none fun q12p q12l q12c =>
 Zz2 (((v2l : Nat) : Int) == (0 : Int)) (
 J s0p s0l s0c w) (
 Zz2 (i1 == ((s0l : Nat) : Int)) (
 YbM P t t (.slice s0p s0l s0c) (.slice v2p v2l v2c) w fun q25p q25l q25c w1 =>
 J q25p q25l q25c w1) (
 Zz2 (decide ((w64 (((s0l : Nat) : Int) + ((v2l : Nat) : Int))) > ((s0c : Nat) : Int))) (
 slS s0p s0l s0c sz none (some i1) none fun q34p q34l q34c =>
 YbM P t tn (.slice q34p q34l q34c) (.int .i64 (w64 ((w64 (((s0l : Nat) : Int) + ((v2l : Nat) : Int))) - i1))) w fun q40p q40l q40c w2 =>
 slS q40p q40l q40c sz (some i1) none none fun q43p q43l q43c =>
 cpyJ P t t (.slice q43p q43l q43c) (.slice v2p v2l v2c) w2 fun x45 w3 =>
 slS q40p q40l q40c sz (some (w64 (i1 + ((v2l : Nat) : Int)))) none none fun q50p q50l q50c =>
 slS s0p s0l s0c sz (some i1) none none fun q53p q53l q53c =>
 cpyJ P t t (.slice q50p q50l q50c) (.slice q53p q53l q53c) w3.drew fun x54 w4 =>
 J q40p q40l q40c w4) (
 slS s0p s0l s0c sz none (some (w64 (((s0l : Nat) : Int) + ((v2l : Nat) : Int)))) none fun q60p q60l q60c =>
 slS q60p q60l q60c sz (some (w64 (i1 + ((v2l : Nat) : Int)))) none none fun q66p q66l q66c =>
 extJ P fo #[.slice v2p v2l v2c, .slice q66p q66l q66c] w [.one .bool] fun (r67 : Bool) (w5 : World) =>
 Zz2 (!r67) (
 slS q60p q60l q60c sz (some (w64 (i1 + ((v2l : Nat) : Int)))) none none fun q73p q73l q73c =>
 slS q60p q60l q60c sz (some i1) none none fun q76p q76l q76c =>
 cpyJ P t t (.slice q73p q73l q73c) (.slice q76p q76l q76c) w5.drew fun x77 w6 =>
 slS q60p q60l q60c sz (some i1) none none fun q80p q80l q80c =>
 cpyJ P t t (.slice q80p q80l q80c) (.slice v2p v2l v2c) w6 fun x82 w7 =>
 J q60p q60l q60c w7) (
 slS q60p q60l q60c sz (some ((s0l : Nat) : Int)) none none fun q86p q86l q86c =>
 cpyJ P t t (.slice q86p q86l q86c) (.slice v2p v2l v2c) w5 fun x88 w8 =>
 slS q60p q60l q60c sz (some i1) none none fun q91p q91l q91c =>
 Zz1 P fr #[.slice q91p q91l q91c, .int .i64 ((v2l : Nat) : Int)] w8 [] fun (w9 : World) =>
 J q60p q60l q60c w9))))
theorem InsVC_ok {P : Program} {t tn e : TypeId} {kn : IntKind} {fo fr : FuncId} {sz by_ : Nat} {z : Array Value} (T : SlT P t e sz by_ z) (htn : P.underlying tn = some (.int kn)) {w : World} {p : Option Addr} {l c i bv : Nat} {xs ys : List Value} {J : Option Addr -> Nat -> Nat -> World -> Prop}
  (hov : ∀ {bv b o lb cb} {cv cs : List Value}, bv ≠ b -> w.heap[bv]? = some (.cells ⟨cv⟩ e (0, 0)) -> w.heap[b]? = some (.cells ⟨cs⟩ e (0, 0)) -> cs ≠ [] -> (callFunc fo #[.slice (some ⟨bv, 0, none⟩) 1 1, .slice (some ⟨b, o, none⟩) lb cb]).run P w = .ok (.value (.bool false)) w)
  (h : Row w e sz p l c xs) (h1 : one1 xs) (hv : w.heap[bv]? = some (.cells ⟨ys⟩ e (0, 0))) (hy : ys.length = sz) (hy1 : one1 ys) (hne : ∀ a, p = some a -> a.block ≠ bv) (hi : i <= l) (hb : (l + 1) * by_ <= 140737488355328) (hmax : l <= 1000000000)
  (K : ∀ p' c' w', Row w' e sz p' (l + 1) c' (xs.take (i * sz) ++ ys ++ xs.drop (i * sz)) -> Chg (isB p) w w' -> (p' = p \/ fresh w p') -> J p' (l + 1) c' w') : InsVC P t tn fo fr sz p l c (i : Int) (some ⟨bv, 0, none⟩) 1 1 w J := by
 have hxl := h.len
 have hpos := T.pos
 have hsv : Sl w (some ⟨bv, 0, none⟩) 1 sz ys := ⟨by rw [hy, Nat.one_mul], .inr ⟨_, rfl, by simpa using Zy0 (off := 0) hv⟩⟩
 unfold InsVC
 refine slS_sl (i := i) (j := l) h.sl rfl rfl hi (Nat.le_refl _) h.le.1 fun _ _ _ => ?_
 refine Zzj (fun h => by omega) (fun _ => ?_)
 refine Zzj (fun hil => ?_) (fun hil => ?_)
 ·have hil' : i = l := by omega
  subst hil'
  refine Zx3 T h hsv hy1 (by simp) hb (by simp only [maxLen]; omega) fun p' c' w' hr hc hf => ?_
  refine K p' c' w' ?_ hc hf
  rw [take_of_length_le (by omega), drop_of_length_le (by omega), append_nil]; exact hr
 have hil' : i < l := by omega
 obtain ⟨b, rest, rfl, hh, hle, hmx, hcs⟩ := h.some0 (by omega)
 have hbne : b ≠ bv := hne _ rfl
 have hiz : (i + 1) * sz <= l * sz := Nat.mul_le_mul_right _ hil'
 have hiz2 : (i + 1) * sz = i * sz + sz := Nat.succ_mul i sz
 have e1 : w64 ((l : Int) + ((1 : Nat) : Int)) = ((l + 1 : Nat) : Int) := by rw [Zzt] <;> omega
 have e2 : w64 ((i : Int) + ((1 : Nat) : Int)) = ((i + 1 : Nat) : Int) := by rw [Zzt] <;> omega
 rw [e1, e2]
 have e3 : w64 (((l + 1 : Nat) : Int) - (i : Int)) = ((l + 1 - i : Nat) : Int) := by rw [Zzt] <;> omega
 rw [e3]
 generalize hAe : xs.take (i * sz) = A at *
 generalize hDe : xs.drop (i * sz) = D at *
 have hAD : xs = A ++ D := by rw [<- hAe, <- hDe, take_append_drop]
 have hAl : A.length = i * sz := by rw [<- hAe, length_take]; omega
 have hDl : D.length = (l - i) * sz := by rw [<- hDe, length_drop, hxl, Nat.sub_mul]
 have hDl1 : (l - i) * sz + i * sz = l * sz := by rw [<- Nat.add_mul]; congr 1; omega
 have hA1 : one1 A := fun v hv => h1 v (by rw [hAD]; exact mem_append_left _ hv)
 have hD1 : one1 D := fun v hv => h1 v (by rw [hAD]; exact mem_append_right _ hv)
 have hcA : Zzh w ⟨b, 0, none⟩ A := by
  have := ZzR A.length (Zy0 (off := 0) hh)
  rw [drop_zero, hAD, append_assoc, take_left] at this; exact this
 have hcD : Zzh w ⟨b, 0 + i * sz, none⟩ D := by
  have := ZzR D.length (Zy0 (off := 0 + i * sz) hh)
  rw [hAD, append_assoc, Nat.zero_add, drop_left' hAl, take_left] at this
  rw [Nat.zero_add]; exact this
 refine Zz5 (fun hroom => ?_) (fun hroom => ?_)
 ·refine slS_to (by omega) (by omega) ?_
  refine appZ T htn hcA hAl (by omega) (by omega) (by omega) (by rw [show i + (l + 1 - i) = l + 1 by omega]; exact hb) (by omega) fun b' c' rest' w2 hb' hh2 hcs2 hle2 hmx2 hc2 => ?_
  rw [show i + (l + 1 - i) = l + 1 by omega] at hle2 ⊢
  have hrl : (l + 1 - i) * sz <= rest'.length := by
   rw [length_append, hAl] at hcs2
   have : (l + 1) * sz <= c' * sz := Nat.mul_le_mul_right _ hle2
   have : (l + 1 - i) * sz + i * sz = (l + 1) * sz := by rw [<- Nat.add_mul]; congr 1; omega
   omega
  have hrs : (l + 1 - i) * sz = (l - i) * sz + sz := by rw [<- Nat.succ_mul]; congr 1; omega
  refine YbU (by omega) (by omega) (by omega) ?_
  refine cpyN (k := 1) T hh2 (by show min 1 (l + 1 - i) = 1; omega) ((hsv.chg hc2 (off_no _)).at (by decide) |>.elim fun a ha => by cases ha.1; exact ha.2) (by rw [hy, Nat.one_mul]) hy1 (by rw [length_append, hAl]; omega) ?_
  have hh3 := setRow_heap w2 b' _ ⟨splice (A ++ rest') (0 + i * sz) ys⟩ e (0, 0) hh2
  rw [Nat.zero_add, Yem hAl, hy] at hh3 ⊢
  generalize hw3 : w2.setRow b' ⟨A ++ (ys ++ rest'.drop sz)⟩ = w3 at hh3 ⊢
  have hc3 : Chg (fun x => x = b') w2 w3 := by rw [<- hw3]; exact ZqE _ _ _
  refine YbU (by omega) (by omega) (by omega) ?_
  refine YbU (by omega) hle (by omega) ?_
  have hb'b : b' ≠ b := fun e => by have := Zy8 hh; omega
  have hcD3 : Zzh w3.drew ⟨b, 0 + i * sz, none⟩ D := hc3.cells (hc2.cells hcD (fun h => h)) (fun e => hb'b e.symm)
  refine cpyN (k := l - i) T (cs := A ++ (ys ++ rest'.drop sz)) (show w3.drew.heap[b']? = _ from hh3) (by show min (l - i) (l + 1 - (i + 1)) = l - i; omega) hcD3 hDl hD1 (by rw [length_append, length_append, length_drop, hAl, hy]; omega) ?_
  have hh4 := setRow_heap w3.drew b' _ ⟨splice (A ++ (ys ++ rest'.drop sz)) (0 + (i + 1) * sz) D⟩ e (0, 0) hh3
  have hAy : (A ++ ys).length = (i + 1) * sz := by rw [length_append, hAl, hy]; omega
  rw [Nat.zero_add, <- append_assoc, Yem hAy] at hh4 ⊢
  refine K (some ⟨b', 0, none⟩) c' _ (Row.mk0 (rest := (rest'.drop sz).drop D.length) ?_ ?_ (by omega) hmx2 ?_) ?_ (.inr (by rintro a ⟨⟩; exact hb'))
  ·rw [append_assoc (A ++ ys)]; exact hh4
  ·rw [length_append, hAy, hDl, Nat.add_comm, <- Nat.add_mul]; congr 1; omega
  ·rw [length_append, length_append, hAy, hDl, length_drop, length_drop]
   rw [length_append, hAl] at hcs2; omega
  ·refine ((hc2.mono fun _ _ h => h.elim).trans hc3 fun x hx e => ?_).trans ((Chg.refl (fun x => x = b') w3).drew.trans (ZqE _ _ _) fun _ _ h => h) fun x hx e => ?_
   ·omega
   ·omega
 ·have hcc : l + 1 <= c := by omega
  refine slS_to hcc (by omega) ?_
  refine YbU (by omega) hcc (by omega) ?_
  refine ⟨_, w, hov (Ne.symm hbne) hv hh (by intro e0; rw [e0] at hcs; simp only [length_nil] at hcs; have := Nat.mul_pos (show 0 < c by omega) hpos; omega), ?_⟩
  refine ⟨false, rfl, ?_⟩
  refine Zzd (fun _ => ?_) (fun h => by cases h)
  refine YbU (by omega) hcc (by omega) ?_
  refine YbU (by omega) hcc (by omega) ?_
  have hrl : sz <= rest.length := by
   rw [length_append, hxl] at hcs
   have : (l + 1) * sz <= c * sz := Nat.mul_le_mul_right _ hcc
   rw [Nat.succ_mul] at this; omega
  have hhd : w.drew.heap[b]? = some (.cells ⟨xs ++ rest⟩ e (0, 0)) := hh
  refine cpyN (k := l - i) T hhd (by show min (l + 1 - i) (l + 1 - (i + 1)) = l - i; omega) (show Zzh w.drew ⟨b, 0 + i * sz, none⟩ D from hcD) hDl hD1 (by rw [length_append, hxl]; omega) ?_
  have hh6 := setRow_heap w.drew b _ ⟨splice (xs ++ rest) (0 + (i + 1) * sz) D⟩ e (0, 0) hhd
  generalize hw6 : w.drew.setRow b ⟨splice (xs ++ rest) (0 + (i + 1) * sz) D⟩ = w6 at hh6 ⊢
  have hc6 : Chg (fun x => x = b) w w6 := by rw [<- hw6]; exact (Chg.refl _ w).drew.trans (ZqE _ _ _) fun _ _ h => h
  have hsp : splice (xs ++ rest) (0 + (i + 1) * sz) D = A ++ ((D ++ rest).take sz ++ (D ++ rest.drop sz)) := by
   have e4 : xs ++ rest = (A ++ (D ++ rest).take sz) ++ (D ++ rest).drop sz := by rw [append_assoc, take_append_drop, hAD, append_assoc]
   have e5 : (A ++ (D ++ rest).take sz).length = 0 + (i + 1) * sz := by rw [length_append, hAl, length_take, length_append]; omega
   rw [e4, Yem e5, append_assoc]
   congr 3
   rw [drop_drop, Nat.add_comm sz D.length, <- drop_drop, drop_left]
  rw [hsp] at hh6
  refine YbU (by omega) hcc (by omega) ?_
  refine cpyN (k := 1) T hh6 (by show min 1 (l + 1 - i) = 1; omega) ((hsv.chg hc6 (by rintro a ⟨⟩ e; exact hbne e.symm)).at (by decide) |>.elim fun a ha => by cases ha.1; exact ha.2) (by rw [hy, Nat.one_mul]) hy1 (by rw [length_append, length_append, length_take, length_append, hAl]; omega) ?_
  have hh7 := setRow_heap w6 b _ ⟨splice (A ++ ((D ++ rest).take sz ++ (D ++ rest.drop sz))) (0 + i * sz) ys⟩ e (0, 0) hh6
  have ht : ((D ++ rest).take sz).length = sz := by rw [length_take, length_append]; omega
  rw [Nat.zero_add, Yem hAl, hy, drop_left' ht] at hh7 ⊢
  refine K (some ⟨b, 0, none⟩) c _ (Row.mk0 (rest := rest.drop sz) ?_ ?_ hcc hmx ?_) ?_ (.inl rfl)
  ·rw [append_assoc, append_assoc]; exact hh7
  ·rw [length_append, length_append, hAl, hy, hDl, Nat.succ_mul]; omega
  ·rw [length_append, length_append, length_append, length_drop, hAl, hy, hDl]
   rw [length_append, hxl] at hcs; omega
  ·exact (hc6.trans (ZqE _ _ _) fun _ _ h => h).mono fun x hx e => ⟨_, rfl, e.symm⟩
end Go.Vc
namespace Go.Proofs.YtjlgopfceebdcaaGreatDoor
open Go Go.Vc Go.Lib Go.RowKit
section
variable {w : World}
theorem ovNode {bv b o lb cb : Nat} {cv cs : List Value} (hne : bv ≠ b) (hv : w.heap[bv]? = some (.cells ⟨cv⟩ Zz3 (0, 0))) (hb : w.heap[b]? = some (.cells ⟨cs⟩ Zz3 (0, 0))) (hcs : cs ≠ []) :
  (callFunc Zyy #[.slice (some ⟨bv, 0, none⟩) 1 1, .slice (some ⟨b, o, none⟩) lb cb]).run Tryz.prog w = .ok (.value (.bool false)) w := by
 have hz : ∀ w, (Go.sizeOf Zz3).run Tryz.prog w = .ok 6 w := fun w => by
  obtain ⟨i, v, hi, _, hs, _⟩ := Yd7.info
  simp [Go.sizeOf, Go.typeInfo, hi, hs]
 have hc0 : cs.length ≠ 0 := fun h => hcs (eq_nil_of_length_eq_zero h)
 rw [run_callFunc_extern (fn := Tryz.f90) Tryz.func90 (by kernel_rfl) (by kernel_rfl) (by kernel_rfl) (e := Extern.SlicesOverlaps.overlaps #[Zzg, Zzg] #[T_bool]) (by kernel_rfl),
  run_overlaps_apart w Zzg T_bool Zz3 Yd7.hu 6 hz ⟨bv, 0, none⟩ ⟨b, o, none⟩ 1 1 lb cb hne Zz3 Zz3 cv.length cs.length (by unfold World.shape?; rw [hv]; rfl) (by unfold World.shape?; rw [hb]; rfl) hc0 (frozen_of_row w bv 0 _ _ hv) (frozen_of_row w bv cv.length _ _ hv)]
 rfl
theorem Yeq : SlT Tryz.prog Zzi Zzo 3 48 #[.string ByteArray.empty, .string ByteArray.empty, .string ByteArray.empty] := SlT.of (by kernel_rfl) (by kernel_rfl) rfl (by decide)
theorem ovAttr {bv b o lb cb : Nat} {cv cs : List Value} (hne : bv ≠ b) (hv : w.heap[bv]? = some (.cells ⟨cv⟩ Zzo (0, 0))) (hb : w.heap[b]? = some (.cells ⟨cs⟩ Zzo (0, 0))) (hcs : cs ≠ []) :
  (callFunc Zyz #[.slice (some ⟨bv, 0, none⟩) 1 1, .slice (some ⟨b, o, none⟩) lb cb]).run Tryz.prog w = .ok (.value (.bool false)) w := by
 have hz : ∀ w, (Go.sizeOf Zzo).run Tryz.prog w = .ok 3 w := fun w => by
  obtain ⟨i, v, hi, _, hs, _⟩ := Yeq.info
  simp [Go.sizeOf, Go.typeInfo, hi, hs]
 have hc0 : cs.length ≠ 0 := fun h => hcs (eq_nil_of_length_eq_zero h)
 rw [run_callFunc_extern (fn := Tryz.f157) Tryz.func157 (by kernel_rfl) (by kernel_rfl) (by kernel_rfl) (e := Extern.SlicesOverlaps.overlaps #[Zzi, Zzi] #[T_bool]) (by kernel_rfl),
  run_overlaps_apart w Zzi T_bool Zzo Yeq.hu 3 hz ⟨bv, 0, none⟩ ⟨b, o, none⟩ 1 1 lb cb hne Zzo Zzo cv.length cs.length (by unfold World.shape?; rw [hv]; rfl) (by unfold World.shape?; rw [hb]; rfl) hc0 (frozen_of_row w bv 0 _ _ hv) (frozen_of_row w bv cv.length _ _ hv)]
 rfl
theorem InsNode_ok {p : Option Addr} {l c i bv : Nat} {L : List NV} {x : NV} {J : Option Addr -> Nat -> Nat -> World -> Prop} (h : Row w Zz3 6 p l c (rows NV.cells L)) (hv : w.heap[bv]? = some (.cells ⟨x.cells⟩ Zz3 (0, 0))) (hne : ∀ a, p = some a -> a.block ≠ bv) (hi : i <= l) (hl : l <= 100000000)
  (K : ∀ p' c' w', Row w' Zz3 6 p' (l + 1) c' (rows NV.cells (L.take i ++ x :: L.drop i)) -> Chg (isB p) w w' -> (p' = p \/ fresh w p') -> J p' (l + 1) c' w') :
  Zz1 Tryz.prog ZzW #[.slice p l c, .int .i64 (i : Int), .slice (some ⟨bv, 0, none⟩) 1 1] w [.one .slice] J := by
 refine Zqh ?_
 show InsVC Tryz.prog Zzg Zqz Zyy Zxv 6 p l c (i : Int) (some ⟨bv, 0, none⟩) 1 1 w J
 refine InsVC_ok (kn := .i64) Yd7 (by kernel_rfl) ovNode h (Yan fun x _ => Zy2 x) hv (by cases x; rfl) (Zy2 x) hne hi (by omega) (by omega) fun p' c' w' hr hc hf => K p' c' w' ?_ hc hf
 rw [YaZ (Zzp L), Yb0 (Zzp L)] at hr
 rw [Zzw, ZyM, <- append_assoc]; exact hr
theorem InsAttr_ok {p : Option Addr} {l c i bv : Nat} {L : List At} {x : At} {J : Option Addr -> Nat -> Nat -> World -> Prop} (h : Row w Zzo 3 p l c (rows atc L)) (hv : w.heap[bv]? = some (.cells ⟨atc x⟩ Zzo (0, 0))) (hne : ∀ a, p = some a -> a.block ≠ bv) (hi : i <= l) (hl : l <= 100000000)
  (K : ∀ p' c' w', Row w' Zzo 3 p' (l + 1) c' (rows atc (L.take i ++ x :: L.drop i)) -> Chg (isB p) w w' -> (p' = p \/ fresh w p') -> J p' (l + 1) c' w') :
  Zz1 Tryz.prog ZzX #[.slice p l c, .int .i64 (i : Int), .slice (some ⟨bv, 0, none⟩) 1 1] w [.one .slice] J := by
 refine Zqi ?_
 show InsVC Tryz.prog Zzi Zqz Zyz Zxw 3 p l c (i : Int) (some ⟨bv, 0, none⟩) 1 1 w J
 refine InsVC_ok (kn := .i64) Yeq (by kernel_rfl) ovAttr h (Yan fun x _ => YgK x) hv rfl (YgK x) hne hi (by omega) (by omega) fun p' c' w' hr hc hf => K p' c' w' ?_ hc hf
 rw [YaZ (Yac L), Yb0 (Yac L)] at hr
 rw [Zzw, ZyM, <- append_assoc]; exact hr
theorem DelNode_ok {p : Option Addr} {l c i : Nat} {L : List NV} {J : Option Addr -> Nat -> Nat -> World -> Prop} (h : Row w Zz3 6 p l c (rows NV.cells L)) (hi : i < l) (hl : l <= 100000000)
  (K : ∀ w', Row w' Zz3 6 p (l - 1) c (rows NV.cells (L.take i ++ L.drop (i + 1))) -> Chg (isB p) w w' -> J p (l - 1) c w') :
  Zz1 Tryz.prog ZzY #[.slice p l c, .int .i64 (i : Int), .int .i64 ((i + 1 : Nat) : Int)] w [.one .slice] J := by
 refine Zqj ?_
 show DelVC Tryz.prog Zzg 6 p l c (i : Int) ((i + 1 : Nat) : Int) w J
 refine DelVC_ok Yd7 (Zy2 (.mk 0 Zza Zza Zza none 0 0 [] none 0 0 [])) h (Yan fun x _ => Zy2 x) hi (by omega) (by omega) fun w' hr hc => K w' ?_ hc
 rw [YaZ (Zzp L), Yb0 (Zzp L)] at hr
 rw [Zzw]; exact hr
theorem DelAttr_ok {p : Option Addr} {l c i : Nat} {L : List At} {J : Option Addr -> Nat -> Nat -> World -> Prop} (h : Row w Zzo 3 p l c (rows atc L)) (hi : i < l) (hl : l <= 100000000)
  (K : ∀ w', Row w' Zzo 3 p (l - 1) c (rows atc (L.take i ++ L.drop (i + 1))) -> Chg (isB p) w w' -> J p (l - 1) c w') :
  Zz1 Tryz.prog ZzZ #[.slice p l c, .int .i64 (i : Int), .int .i64 ((i + 1 : Nat) : Int)] w [.one .slice] J := by
 refine Zqk ?_
 show DelVC Tryz.prog Zzi 3 p l c (i : Int) ((i + 1 : Nat) : Int) w J
 refine DelVC_ok Yeq (YgK (Zza, Zza, Zza)) h (Yan fun x _ => YgK x) hi (by omega) (by omega) fun w' hr hc => K w' ?_ hc
 rw [YaZ (Yac L), Yb0 (Yac L)] at hr
 rw [Zzw]; exact hr
theorem half_u64 {n : Nat} (h : n <= 1000000000) : w64 (Ycf .u64 (IntKind.u64.wrap (w64 (n : Int))) 1) = ((n / 2 : Nat) : Int) := by
 have e1 : w64 (n : Int) = n := by rw [Zzt] <;> omega
 have e2 : IntKind.u64.wrap (n : Int) = n := by rw [IntKind.wrap_u64]; omega
 rw [e1, e2]
 unfold Ycf
 rw [show (min (1 : Int).toNat IntKind.u64.bits) = 1 from rfl, Int.fdiv_eq_ediv_of_nonneg _ (by decide)]
 rw [Zzt] <;> omega
theorem Attr1_ok {a : At} {n : Pr} {J : Int -> World -> Prop} (k : ∀ w', Chg No w w' -> J (ordZ (nameOf a) n) w') : Zz1 Tryz.prog Yaj #[.agg ⟨atc a⟩, .agg ⟨[.string n.1, .string n.2]⟩] w [.one (.int .i64)] J := by
 refine c_edit_attr_1 ?_
 refine (Hp.start w No).newB fun b2 w1 H1 _ _ => ?_
 refine H1.newB fun b3 w2 H2 _ _ => ?_
 refine H2.ldStr 1 rfl (off := 0) rfl ?_
 refine H2.ldStr 1 rfl (off := 1) rfl ?_
 refine H2.ldStr 0 rfl (off := 0) rfl ?_
 refine H2.ldStr 0 rfl (off := 1) rfl ?_
 exact Order_ok (a := nameOf a) (b := n) fun w3 hc3 => k w3 (H2.step0 hc3).chg
theorem Search_ok {p : Option Addr} {l c : Nat} {L : List At} {n : Pr} {J : Int -> Bool -> World -> Prop} (h : Sl w p l 3 (rows atc L)) (hm : l <= 100000000) (hasc : L.Pairwise fun a b => aLt a b = true)
    (K : ∀ (i : Nat) (b : Bool) w', i <= l -> (∀ j a, j < i -> L[j]? = some a -> nLt (nameOf a) n = true) -> (∀ j a, i <= j -> L[j]? = some a -> nLt (nameOf a) n = false) -> (b = true ↔ ∃ a, L[i]? = some a /\ nameOf a = n) -> Chg No w w' -> J (i : Int) b w') :
    Zz1 Tryz.prog Zzq #[.slice p l c, .agg ⟨[.string n.1, .string n.2]⟩, .func (.func 93) #[] #[]] w [.one (.int .i64), .one .bool] J := by
  have hl := h.row (Yac L) (by decide)
  refine Zye ?_
  refine (Hp.start w No).newB fun b4 w1 H1 hb4 hc1 => ?_
  refine ⟨fun i j w' m => ∃ a b : Nat, i = a /\ j = b /\ a <= b /\ b <= l /\ m = b - a /\ Hp w No w' [⟨b4, [.string n.1, .string n.2], Zzs⟩] /\ (∀ k x, k < a -> L[k]? = some x -> nLt (nameOf x) n = true) /\ (∀ k x, b <= k -> L[k]? = some x -> nLt (nameOf x) n = false),
    ⟨_, 0, l, rfl, rfl, Nat.zero_le _, Nat.le_refl _, rfl, H1, by omega, fun k x hk hx => by have := (List.getElem?_eq_some_iff.1 hx).1; omega⟩, ?_⟩
  rintro i j w2 m ⟨a, b, rfl, rfl, hab, hbl, rfl, H2, hlo, hhi⟩
  have H2d := H2.drew
  refine Zz5 (fun hlt => ?_) (fun hge => ?_)
  · refine ⟨by decide, ?_⟩
    rw [show ((a : Int) + (b : Int)) = ((a + b : Nat) : Int) by omega, half_u64 (by omega)]
    generalize hh : (a + b) / 2 = m
    refine Zzu (h.chg H2d.chg (off_no _)) (Yac L) (by decide) (by omega) (by omega) fun ad x _ hx hcx => ?_
    rw [Int.toNat_natCast] at hx
    refine ldAttr hcx ?_
    refine H2d.ldStr 0 rfl (off := 0) rfl ?_
    refine H2d.ldStr 0 rfl (off := 1) rfl ?_
    refine Attr1_ok (a := x) (n := n) fun w3 hc3 => ?_
    have H3 := H2d.step0 hc3
    have hoz := ordZ_lt (nameOf x) n
    refine Zz5 (fun hl => ?_) (fun hg => ?_)
    · have hx1 := hoz.1 hl
      refine ⟨_, ?_, m + 1, b, by rw [Zzt] <;> omega, rfl, by omega, hbl, rfl, H3, fun k y hk hy => ?_, hhi⟩
      · omega
      · rcases Nat.lt_or_ge k m with h1 | h1
        · have h2 := List.pairwise_iff_getElem.1 hasc k m (List.getElem?_eq_some_iff.1 hy).1 (List.getElem?_eq_some_iff.1 hx).1 h1
          rw [(List.getElem?_eq_some_iff.1 hy).2, (List.getElem?_eq_some_iff.1 hx).2] at h2
          exact YcA h2 hx1
        · obtain rfl : k = m := by omega
          obtain rfl := Option.some.inj (hx.symm.trans hy)
          exact hx1
    · have hx1 : nLt (nameOf x) n = false := by
        cases hb : nLt (nameOf x) n with
        | false => rfl
        | true => exact absurd (hoz.2 hb) hg
      refine ⟨_, ?_, a, m, rfl, rfl, by omega, by omega, rfl, H3, hlo, fun k y hk hy => ?_⟩
      · omega
      · rcases Nat.lt_or_ge m k with h1 | h1
        · have h2 := List.pairwise_iff_getElem.1 hasc m k (List.getElem?_eq_some_iff.1 hx).1 (List.getElem?_eq_some_iff.1 hy).1 h1
          rw [(List.getElem?_eq_some_iff.1 hy).2, (List.getElem?_eq_some_iff.1 hx).2] at h2
          cases hb : nLt (nameOf y) n with
          | false => rfl
          | true =>
            have := YcA h2 hb
            unfold nameOf at hx1 this
            rw [hx1] at this; cases this
        · obtain rfl : k = m := by omega
          obtain rfl := Option.some.inj (hx.symm.trans hy)
          exact hx1
  · have hab' : a = b := by omega
    subst hab'
    simp only [Zzl]
    refine Zz5 (fun hlt => ?_) (fun hge2 => ?_)
    · refine Zzu (h.chg H2d.chg (off_no _)) (Yac L) (by decide) (by omega) hlt fun ad x _ hx hcx => ?_
      rw [Int.toNat_natCast] at hx
      refine ldAttr hcx ?_
      refine H2d.ldStr 0 rfl (off := 0) rfl ?_
      refine H2d.ldStr 0 rfl (off := 1) rfl ?_
      refine Attr1_ok (a := x) (n := n) fun w3 hc3 => ?_
      refine K a _ w3 hbl hlo hhi ?_ (H2d.step0 hc3).chg
      rw [beq_iff_eq, ordZ_zero]
      exact ⟨fun e => ⟨x, hx, e⟩, fun ⟨y, hy, e⟩ => by obtain rfl := Option.some.inj (hx.symm.trans hy); exact e⟩
    · refine K a false _ hbl hlo hhi ⟨fun e => (by cases e), fun ⟨y, hy, e⟩ => ?_⟩ H2d.chg
      have := (List.getElem?_eq_some_iff.1 hy).1; omega
end
end Go.Proofs.YtjlgopfceebdcaaGreatDoor
end
section
namespace Go.Proofs.YtjlgopfceebdcaaGreatDoor
open Go Go.Vc
theorem c_edit_Apply {a : Int} {b c : ByteArray} {d : Option Addr} {e f : Nat} {g : Option Addr} {i j : Nat} {k : ByteArray} {l : Int} {m : Option Addr} {n o : Nat} {p q r : ByteArray} {s : Int} {t u : ByteArray} {v : Option Addr} {x y : Nat} {z : Option Addr} {aa ab : Nat} {ac : ByteArray} {w : World} {J : Int -> ByteArray -> ByteArray -> Option Addr -> Nat -> Nat -> Option Addr -> Nat -> Nat -> ByteArray -> Int -> World -> Prop} (h :
 newB w (.cells ⟨[.int .i64 a, .string b, .string c, .slice d e f, .slice g i j, .string k]⟩ Zz3) fun ad ae =>
 newB ae (.cells ⟨[.int .i64 l, .slice m n o, .string p, .string q, .string r, .int .i64 s, .string t, .string u, .slice v x y, .slice z aa ab, .string ac]⟩ Yeg) fun af ag =>
 newB ag (.cells (Zy6 Tryz.prog Zz3) Zz3) fun ai aj =>
 ldI .i64 aj ⟨ad, 0, none⟩ fun ak =>
 ldStr aj ⟨ad, 1, none⟩ fun al =>
 ldStr aj ⟨ad, 2, none⟩ fun am =>
 ldS aj ⟨ad, 3, none⟩ fun an ao ap =>
 ldS aj ⟨ad, 4, none⟩ fun aq ar au =>
 ldStr aj ⟨ad, 5, none⟩ fun av =>
 Zz1 Tryz.prog Zq0 #[.agg ⟨[.int .i64 ak, .string al, .string am, .slice an ao ap, .slice aq ar au, .string av]⟩] aj [.one (.int .i64)] fun ax ay =>
 Zz2 (ax != (0 : Int)) (
 stN ay ⟨ai, 0, none⟩ ⟨[.int .i64 0, .string ByteArray.empty, .string ByteArray.empty, .slice none 0 0, .slice none 0 0, .string ByteArray.empty]⟩ 6 fun az =>
 ldI .i64 az ⟨ai, 0, none⟩ fun a0 =>
 ldStr az ⟨ai, 1, none⟩ fun a1 =>
 ldStr az ⟨ai, 2, none⟩ fun a2 =>
 ldS az ⟨ai, 3, none⟩ fun a3 a4 a5 =>
 ldS az ⟨ai, 4, none⟩ fun a6 a7 a8 =>
 ldStr az ⟨ai, 5, none⟩ fun a9 =>
 J a0 a1 a2 a3 a4 a5 a6 a7 a8 a9 ax az) (
 ldI .i64 ay ⟨ad, 0, none⟩ fun ba =>
 ldStr ay ⟨ad, 1, none⟩ fun bb =>
 ldStr ay ⟨ad, 2, none⟩ fun bc =>
 ldS ay ⟨ad, 3, none⟩ fun bd be bf =>
 ldS ay ⟨ad, 4, none⟩ fun bg bi bj =>
 ldStr ay ⟨ad, 5, none⟩ fun bk =>
 Zz1 Tryz.prog ZxL #[.agg ⟨[.int .i64 ba, .string bb, .string bc, .slice bd be bf, .slice bg bi bj, .string bk]⟩] ay [.agg [.int .i64, .str, .str, .slice, .slice, .str]] fun bl bm bn bo bp bq br bs bt bu bv =>
 stN bv ⟨ad, 0, none⟩ ⟨[.int .i64 bl, .string bm, .string bn, .slice bo bp bq, .slice br bs bt, .string bu]⟩ 6 fun bx =>
 ldI .i64 bx ⟨af, 0, none⟩ fun bz =>
 ldS bx ⟨af, 1, none⟩ fun b0 b1 b2 =>
 ldStr bx ⟨af, 2, none⟩ fun b3 =>
 ldStr bx ⟨af, 3, none⟩ fun b4 =>
 ldStr bx ⟨af, 4, none⟩ fun b5 =>
 ldI .i64 bx ⟨af, 5, none⟩ fun b6 =>
 ldStr bx ⟨af, 6, none⟩ fun b7 =>
 ldStr bx ⟨af, 7, none⟩ fun b8 =>
 ldS bx ⟨af, 8, none⟩ fun b9 ca cb =>
 ldS bx ⟨af, 9, none⟩ fun cc cd ce =>
 ldStr bx ⟨af, 10, none⟩ fun cf =>
 Zz1 Tryz.prog Yfm #[.pointer (some ⟨ad, 0, none⟩), .agg ⟨[.int .i64 bz, .slice b0 b1 b2, .string b3, .string b4, .string b5, .int .i64 b6, .string b7, .string b8, .slice b9 ca cb, .slice cc cd ce, .string cf]⟩] bx [.one (.int .i64)] fun cg ci =>
 Zz2 (cg != (0 : Int)) (
 stN ci ⟨ai, 0, none⟩ ⟨[.int .i64 0, .string ByteArray.empty, .string ByteArray.empty, .slice none 0 0, .slice none 0 0, .string ByteArray.empty]⟩ 6 fun cj =>
 ldI .i64 cj ⟨ai, 0, none⟩ fun ck =>
 ldStr cj ⟨ai, 1, none⟩ fun cl =>
 ldStr cj ⟨ai, 2, none⟩ fun cm =>
 ldS cj ⟨ai, 3, none⟩ fun cn co cp =>
 ldS cj ⟨ai, 4, none⟩ fun cq cr cs =>
 ldStr cj ⟨ai, 5, none⟩ fun ct =>
 J ck cl cm cn co cp cq cr cs ct cg cj) (
 ldI .i64 ci ⟨ad, 0, none⟩ fun cu =>
 ldStr ci ⟨ad, 1, none⟩ fun cv =>
 ldStr ci ⟨ad, 2, none⟩ fun cx =>
 ldS ci ⟨ad, 3, none⟩ fun cy cz c0 =>
 ldS ci ⟨ad, 4, none⟩ fun c1 c2 c3 =>
 ldStr ci ⟨ad, 5, none⟩ fun c4 =>
 Zz1 Tryz.prog Zq0 #[.agg ⟨[.int .i64 cu, .string cv, .string cx, .slice cy cz c0, .slice c1 c2 c3, .string c4]⟩] ci [.one (.int .i64)] fun c5 c6 =>
 Zz2 (c5 != (0 : Int)) (
 stN c6 ⟨ai, 0, none⟩ ⟨[.int .i64 0, .string ByteArray.empty, .string ByteArray.empty, .slice none 0 0, .slice none 0 0, .string ByteArray.empty]⟩ 6 fun c7 =>
 ldI .i64 c7 ⟨ai, 0, none⟩ fun c8 =>
 ldStr c7 ⟨ai, 1, none⟩ fun c9 =>
 ldStr c7 ⟨ai, 2, none⟩ fun da =>
 ldS c7 ⟨ai, 3, none⟩ fun db dc dd =>
 ldS c7 ⟨ai, 4, none⟩ fun de df dg =>
 ldStr c7 ⟨ai, 5, none⟩ fun di =>
 J c8 c9 da db dc dd de df dg di c5 c7) (
 ldI .i64 c6 ⟨ad, 0, none⟩ fun dj =>
 ldStr c6 ⟨ad, 1, none⟩ fun dk =>
 ldStr c6 ⟨ad, 2, none⟩ fun dl =>
 ldS c6 ⟨ad, 3, none⟩ fun dm dn dp =>
 ldS c6 ⟨ad, 4, none⟩ fun dq dr ds =>
 ldStr c6 ⟨ad, 5, none⟩ fun dt =>
 stN c6 ⟨ai, 0, none⟩ ⟨[.int .i64 dj, .string dk, .string dl, .slice dm dn dp, .slice dq dr ds, .string dt]⟩ 6 fun du =>
 ldI .i64 du ⟨ai, 0, none⟩ fun dv =>
 ldStr du ⟨ai, 1, none⟩ fun dx =>
 ldStr du ⟨ai, 2, none⟩ fun dy =>
 ldS du ⟨ai, 3, none⟩ fun dz d0 d1 =>
 ldS du ⟨ai, 4, none⟩ fun d2 d3 d4 =>
 ldStr du ⟨ai, 5, none⟩ fun d5 =>
 J dv dx dy dz d0 d1 d2 d3 d4 d5 (0 : Int) du)))) : Zz1 Tryz.prog YaP #[.agg ⟨[.int .i64 a, .string b, .string c, .slice d e f, .slice g i j, .string k]⟩, .agg ⟨[.int .i64 l, .slice m n o, .string p, .string q, .string r, .int .i64 s, .string t, .string u, .slice v x y, .slice z aa ab, .string ac]⟩] w [.agg [.int .i64, .str, .str, .slice, .slice, .str], .one (.int .i64)] J := Zz6 Tryz.func5 (.s .o (.s (.s .o (.s .o (.c (.s .o .o) .o))) (.s .o (.s (.s .o (.s .o (.c (.s .o .o) .o))) (.s (.s .o (.s .o (.c (.s .o .o) .o))) (.s .o .o)))))) (Eq.mpr (by kernel_rfl) h)
theorem c_edit_find {a b : Option Addr} {c d : Nat} {w : World} {J : Option Addr -> Bool -> World -> Prop} (h :
 ∃ v : Option Addr -> Int -> World -> Nat -> Prop, (∃ x, v a (0 : Int) w x) /\ ∀ (a : Option Addr) (r : Int) (s : World) (x : Nat), v a r s x -> (
 Zz2 (decide (r < (c : Int))) (
 ZyN b c r fun e =>
 ldI .i64 s ((e.add (r.toNat * 1))) fun f =>
 Zzl (fun (t : Bool) (u : World) =>
 Zz2 t (
 J none false u) (
 Zyn a fun g =>
 ldS u ((g.add 4)) fun i j k =>
 ZyN i j f fun l =>
 ∃ y, y < x /\ v (some ((l.add (f.toNat * 6)))) (w64 (r + (1 : Int))) u y)) fun m =>
 Zz2 (decide (f < (0 : Int))) (
 m true s) (
 Zyn a fun n =>
 ldS s ((n.add 4)) fun o p q =>
 m (decide (f >= (p : Int))) s)) (
 J a true s))) : Zz1 Tryz.prog YcI #[.pointer a, .slice b c d] w [.one .ptr, .one .bool] J := Zz6 Tryz.func42 (.s .o (.s (.s .o (.b (.l [(0, .ptr), (10, .int .i64)] (.s .o (.s (.c .o .o) (.s (.b (.s .o (.s (.j [(24, .bool)] .o (.c (.s .o .o) .o)) .o))) .o)))))) (.s .o .o))) (Eq.mpr (by kernel_rfl) h)
theorem c_edit_do {a : Option Addr} {b : Int} {c : Option Addr} {d e : Nat} {f g i : ByteArray} {j : Int} {k l : ByteArray} {m : Option Addr} {n o : Nat} {p : Option Addr} {q r : Nat} {s : ByteArray} {w : World} {J : Int -> World -> Prop} (h :
 newB w (.cells ⟨[.int .i64 b, .slice c d e, .string f, .string g, .string i, .int .i64 j, .string k, .string l, .slice m n o, .slice p q r, .string s]⟩ Yeg) fun t u =>
 Zzl (fun (ei : Bool) (ej : World) =>
 Zz2 ei (
 J (1 : Int) ej) (
 ldS ej ⟨t, 1, none⟩ fun v x y =>
 Zz2 ((x : Int) == (0 : Int)) (
 J (35 : Int) ej) (
 ldS ej ⟨t, 1, none⟩ fun z aa ab =>
 ldS ej ⟨t, 1, none⟩ fun ac ad ae =>
 ZyN z aa (w64 ((ad : Int) - (1 : Int))) fun af =>
 ldI .i64 ej ((af.add ((w64 ((ad : Int) - (1 : Int))).toNat * 1))) fun ag =>
 ldS ej ⟨t, 1, none⟩ fun ai aj ak =>
 ldS ej ⟨t, 1, none⟩ fun al am an =>
 slS ai aj ak 1 none (some (w64 ((am : Int) - (1 : Int)))) none fun ao ap aq =>
 Zz1 Tryz.prog YcI #[.pointer a, .slice ao ap aq] ej [.one .ptr, .one .bool] fun ar au av =>
 Zzl (fun (ek : Bool) (el : World) =>
 Zz2 ek (
 J (35 : Int) el) (
 Zzl (fun (em : World) =>
 J (0 : Int) em) fun ax =>
 ldI .i64 el ⟨t, 0, none⟩ fun ay =>
 Zz2 (ay == (1 : Int)) (
 Zyn ar fun az =>
 ldS el.drew ((az.add 4)) fun a0 a1 a2 =>
 ldI .i64 el.drew ⟨t, 5, none⟩ fun a3 =>
 ldStr el.drew ⟨t, 6, none⟩ fun a4 =>
 ldStr el.drew ⟨t, 7, none⟩ fun a5 =>
 ldS el.drew ⟨t, 8, none⟩ fun a6 a7 a8 =>
 ldS el.drew ⟨t, 9, none⟩ fun a9 ba bb =>
 ldStr el.drew ⟨t, 10, none⟩ fun bc =>
 Zz1 Tryz.prog ZxL #[.agg ⟨[.int .i64 a3, .string a4, .string a5, .slice a6 a7 a8, .slice a9 ba bb, .string bc]⟩] el.drew [.agg [.int .i64, .str, .str, .slice, .slice, .str]] fun bd be bf bg bi bj bk bl bm bn bo =>
 bo.cell? ((az.add 4)) = some (.slice a0 a1 a2) /\
 Array.size (⟨[.int .i64 bd, .string be, .string bf, .slice bg bi bj, .slice bk bl bm, .string bn]⟩ : Array Value) = 6 /\
 newB bo (.cells ⟨[.int .i64 bd, .string be, .string bf, .slice bg bi bj, .slice bk bl bm, .string bn]⟩ Zz3) fun bp bq =>
 bq.cell? ((az.add 4)) = some (.slice a0 a1 a2) /\
 Zz1 Tryz.prog ZzW #[.slice a0 a1 a2, .int .i64 ag, .slice (some ⟨bp, 0, none⟩) 1 1] bq [.one .slice] fun br bs bt bu =>
 Zyn ar fun bv =>
 stV bu ((bv.add 4)) (.slice br bs bt) fun bx =>
 ax bx) (
 Zz2 (ay == (2 : Int)) (
 Zyn ar fun bz =>
 ldS el ((bz.add 4)) fun b0 b1 b2 =>
 Zz1 Tryz.prog ZzY #[.slice b0 b1 b2, .int .i64 ag, .int .i64 (w64 (ag + (1 : Int)))] el [.one .slice] fun b3 b4 b5 b6 =>
 Zyn ar fun b7 =>
 stV b6 ((b7.add 4)) (.slice b3 b4 b5) fun b8 =>
 ax b8) (
 Zz2 (ay == (3 : Int)) (
 Zyn ar fun b9 =>
 ldS el.drew ((b9.add 4)) fun ca cb cc =>
 ldI .i64 el.drew ⟨t, 5, none⟩ fun cd =>
 ldStr el.drew ⟨t, 6, none⟩ fun ce =>
 ldStr el.drew ⟨t, 7, none⟩ fun cf =>
 ldS el.drew ⟨t, 8, none⟩ fun cg ci cj =>
 ldS el.drew ⟨t, 9, none⟩ fun ck cl cm =>
 ldStr el.drew ⟨t, 10, none⟩ fun cn =>
 Zz1 Tryz.prog ZxL #[.agg ⟨[.int .i64 cd, .string ce, .string cf, .slice cg ci cj, .slice ck cl cm, .string cn]⟩] el.drew [.agg [.int .i64, .str, .str, .slice, .slice, .str]] fun co cp cq cr cs ct cu cv cx cy cz =>
 cz.cell? ((b9.add 4)) = some (.slice ca cb cc) /\
 ZyN ca cb ag fun c0 =>
 stN cz ((c0.add (ag.toNat * 6))) ⟨[.int .i64 co, .string cp, .string cq, .slice cr cs ct, .slice cu cv cx, .string cy]⟩ 6 fun c1 =>
 ax c1) (
 Zz2 (ay == (6 : Int)) (
 Zyn ar fun c2 =>
 ldS el ((c2.add 4)) fun c3 c4 c5 =>
 ZyN c3 c4 ag fun c6 =>
 Zzl (fun (en : Bool) (eo : World) =>
 Zz2 en (
 J (33 : Int) eo) (
 ldStr eo ⟨t, 4, none⟩ fun c7 =>
 stV eo (((c6.add (ag.toNat * 6)).add 5)) (.string c7) fun c8 =>
 ax c8)) fun c9 =>
 ldI .i64 el ((c6.add (ag.toNat * 6))) fun da =>
 Zz2 (da != (3 : Int)) (
 ldI .i64 el ((c6.add (ag.toNat * 6))) fun db =>
 Zz2 (db != (4 : Int)) (
 ldI .i64 el ((c6.add (ag.toNat * 6))) fun dc =>
 c9 (dc != (5 : Int)) el) (
 c9 false el)) (
 c9 false el)) (
 Zyn ar fun dd =>
 ldS el.drew ((dd.add 4)) fun de df dg =>
 ZyN de df ag fun di =>
 ldI .i64 el.drew ⟨t, 0, none⟩ fun dj =>
 ldS el.drew ⟨t, 1, none⟩ fun dk dl dm =>
 ldStr el.drew ⟨t, 2, none⟩ fun dn =>
 ldStr el.drew ⟨t, 3, none⟩ fun dp =>
 ldStr el.drew ⟨t, 4, none⟩ fun dq =>
 ldI .i64 el.drew ⟨t, 5, none⟩ fun dr =>
 ldStr el.drew ⟨t, 6, none⟩ fun ds =>
 ldStr el.drew ⟨t, 7, none⟩ fun dt =>
 ldS el.drew ⟨t, 8, none⟩ fun du dv dx =>
 ldS el.drew ⟨t, 9, none⟩ fun dy dz d0 =>
 ldStr el.drew ⟨t, 10, none⟩ fun d1 =>
 Zz1 Tryz.prog YcJ #[.pointer (some ((di.add (ag.toNat * 6)))), .agg ⟨[.int .i64 dj, .slice dk dl dm, .string dn, .string dp, .string dq, .int .i64 dr, .string ds, .string dt, .slice du dv dx, .slice dy dz d0, .string d1]⟩] el.drew [.one (.int .i64)] fun d2 d3 =>
 J d2 d3)))))) fun d4 =>
 Zz2 (!au) (
 d4 true av) (
 Zz2 (decide (ag < (0 : Int))) (
 d4 true av) (
 Zyn ar fun d5 =>
 ldS av ((d5.add 4)) fun d6 d7 d8 =>
 Zz2 (decide (ag > (d7 : Int))) (
 d4 true av) (
 ldI .i64 av ⟨t, 0, none⟩ fun d9 =>
 Zz2 (d9 != (1 : Int)) (
 Zyn ar fun ea =>
 ldS av ((ea.add 4)) fun eb ec ed =>
 d4 (ag == (ec : Int)) av) (
 d4 false av))))))) fun ee =>
 ldI .i64 u ⟨t, 0, none⟩ fun ef =>
 Zz2 (decide (ef < (1 : Int))) (
 ee true u) (
 ldI .i64 u ⟨t, 0, none⟩ fun eg =>
 ee (decide (eg > (6 : Int))) u)) : Zz1 Tryz.prog Yfm #[.pointer a, .agg ⟨[.int .i64 b, .slice c d e, .string f, .string g, .string i, .int .i64 j, .string k, .string l, .slice m n o, .slice p q r, .string s]⟩] w [.one (.int .i64)] J := Zz6 Tryz.func13 (.s .o (.s (.b (.j [(9, .bool)] .o (.c (.s .o .o) (.s .o (.c (.s .o .o) .o))))) (.s .o (.s .o (.s (.j [(71, .bool)] .o (.c (.s .o .o) .o)) (.j [] (.s .o (.b (.s .o (.c (.d (.take 0 (.take 1 (.take 2 (.take 3 (.take 4 (.take 5 (.take 6 (.take 7 (.eff 8 (.eff 9 (.eff 10 (.take 11 (.take 12 (.eff 13 .done .none))) .none) .none) .none)))))))))) (.s .o (.c .o (.s .o (.c (.d (.take 0 (.take 1 (.take 2 (.take 3 (.take 4 (.take 5 (.take 6 (.eff 7 (.take 8 (.eff 9 .done .none)) .none))))))))) (.s .o (.c (.s .o (.s (.j [(147, .bool)] .o (.c (.s .o .o) .o)) .o)) (.s (.d (.take 0 (.take 1 (.take 2 (.take 3 (.take 4 (.take 5 (.take 6 (.eff 7 (.take 8 .done) .none))))))))) .o))))))))))) (.s .o .o))))))) (Eq.mpr (by kernel_rfl) h)
theorem c_edit_attr_n0 {a : Addr} {b : Int} {c : Option Addr} {d e : Nat} {f g i : ByteArray} {j : Int} {k l : ByteArray} {m : Option Addr} {n o : Nat} {p : Option Addr} {q r : Nat} {s : ByteArray} {w : World} {J : Int -> World -> Prop} (h :
 newB w (.cells ⟨[.int .i64 b, .slice c d e, .string f, .string g, .string i, .int .i64 j, .string k, .string l, .slice m n o, .slice p q r, .string s]⟩ Yeg) fun t u =>
 ldI .i64 u a fun v =>
 Zz2 (v != (2 : Int)) (
 J (33 : Int) u) (
 ldS u.drew ((a.add 3)) fun x y z =>
 ldStr u.drew ⟨t, 2, none⟩ fun aa =>
 ldStr u.drew ⟨t, 3, none⟩ fun ab =>
 Zz1 Tryz.prog Zzq #[.slice x y z, .agg ⟨[.string aa, .string ab]⟩, .func (.func 93) #[] #[]] u.drew [.one (.int .i64), .one .bool] fun ac ad ae =>
 Zzl (fun (be : World) =>
 J (0 : Int) be) fun af =>
 Zzl (fun (bf : Bool) (bg : World) =>
 Zz2 bf (
 ldS bg.drew ((a.add 3)) fun ag ai aj =>
 ldStr bg.drew ⟨t, 4, none⟩ fun ak =>
 ZyN ag ai ac fun al =>
 stV bg.drew (((al.add (ac.toNat * 3)).add 2)) (.string ak) fun am =>
 af am) (
 ldI .i64 bg ⟨t, 0, none⟩ fun an =>
 Zz2 (an == (4 : Int)) (
 ldS bg.drew ((a.add 3)) fun ao ap aq =>
 ldStr bg.drew ⟨t, 2, none⟩ fun ar =>
 ldStr bg.drew ⟨t, 3, none⟩ fun au =>
 ldStr bg.drew ⟨t, 4, none⟩ fun av =>
 Array.size (⟨[.string ar, .string au]⟩ : Array Value) = 2 /\
 Array.size (⟨[.string ar, .string au, .string av]⟩ : Array Value) = 3 /\
 newB bg.drew (.cells ⟨[.string ar, .string au, .string av]⟩ Zzo) fun ax ay =>
 ay.cell? ((a.add 3)) = some (.slice ao ap aq) /\
 Zz1 Tryz.prog ZzX #[.slice ao ap aq, .int .i64 ac, .slice (some ⟨ax, 0, none⟩) 1 1] ay [.one .slice] fun az a0 a1 a2 =>
 stV a2 ((a.add 3)) (.slice az a0 a1) fun a3 =>
 af a3) (
 Zz2 ad (
 ldS bg ((a.add 3)) fun a4 a5 a6 =>
 Zz1 Tryz.prog ZzZ #[.slice a4 a5 a6, .int .i64 ac, .int .i64 (w64 (ac + (1 : Int)))] bg [.one .slice] fun a7 a8 a9 ba =>
 stV ba ((a.add 3)) (.slice a7 a8 a9) fun bb =>
 af bb) (
 J (7 : Int) bg)))) fun bc =>
 ldI .i64 ae ⟨t, 0, none⟩ fun bd =>
 Zz2 (bd == (4 : Int)) (
 bc ad ae) (
 bc false ae))) : Zz1 Tryz.prog YcJ #[.pointer (some a), .agg ⟨[.int .i64 b, .slice c d e, .string f, .string g, .string i, .int .i64 j, .string k, .string l, .slice m n o, .slice p q r, .string s]⟩] w [.one (.int .i64)] J := Zz6 Tryz.func45 (.s .o (.s (.s .o (.c (.s .o .o) .o)) (.s (.d (.take 0 (.take 1 (.take 2 (.take 3 (.take 4 (.take 5 (.eff 6 (.take 7 (.take 8 (.take 9 (.take 10 (.take 11 .done))))) .none)))))))) (.j [] (.b (.j [(22, .bool)] .o (.c (.d (.take 0 (.take 1 (.take 2 (.take 3 (.take 4 (.take 5 (.take 6 (.take 7 (.take 8 (.eff 9 .done .none))))))))))) (.s .o (.c (.d (.take 0 (.take 1 (.take 2 (.take 3 (.take 4 (.take 5 (.take 6 (.take 7 (.take 8 (.take 9 (.take 10 (.eff 11 (.eff 12 (.take 13 (.take 14 (.eff 15 .done .none))) .none) .none))))))))))))) (.s .o (.c .o (.s .o .o)))))))) (.s .o .o))))) (Eq.mpr (by kernel_rfl) h)
end Go.Proofs.YtjlgopfceebdcaaGreatDoor
end
section
namespace Go.Proofs.YtjlgopfceebdcaaGreatDoor
open Go Go.Vc
theorem Yby {a : Option Addr} {b c : Nat} {w : World} {J : Option Addr -> Nat -> Nat -> World -> Prop} (h :
 Zz2 a.isNone (
 J none 0 0 w) (
 newB w (.cells ⟨[]⟩ Zqz) fun d e =>
 YbM Tryz.prog Zqr Zqr (.slice (some ⟨d, 0, none⟩) 0 0) (.slice a b c) e fun f g i j =>
 J f g i j)) : Zz1 Tryz.prog Zzx #[.slice a b c] w [.one .slice] J := Zz6 Tryz.func49 (.s .o (.s (.s .o (.c (.s .o .o) .o)) (.s .o .o))) (Eq.mpr (by kernel_rfl) h)
end Go.Proofs.YtjlgopfceebdcaaGreatDoor
end
section
namespace Go.Vc
open Go Go.Lib
structure EV where
 op : Int
 p : Option Addr
 l : Nat
 c : Nat
 pa : List Int
 u : ByteArray
 n : ByteArray
 t : ByteArray
 nd : NV
def EV.cells (e : EV) : List Value := .int .i64 e.op :: .slice e.p e.l e.c :: .string e.u :: .string e.n :: .string e.t :: e.nd.cells
def EV.ed (e : EV) : Ed := ⟨e.op, e.pa, (e.u, e.n), e.t, e.nd.nd⟩
def EV.mea (e : EV) : Nat := 1 + e.l + e.u.size + e.n.size + e.t.size + e.nd.mea
structure EV.Ok (w : World) (e : EV) : Prop where
 sl : Sl w e.p e.l 1 (rows YbR e.pa)
 nil : e.p = none -> e.l = 0
 cap : e.l <= e.c
 nd : NV.Ok w e.nd
theorem EV.Ok.chg0 {w w' : World} {e : EV} (h : EV.Ok w e) (hc : Chg No w w') : EV.Ok w' e := ⟨h.sl.chg hc (off_no _), h.nil, h.cap, h.nd.chg0 hc⟩
theorem Yf9 {cs vs : List Value} {off k : Nat} {v : Value} (hc : ∀ j, j < vs.length -> cs[off + j]? = vs[j]?) (ho : off + vs.length <= cs.length) (hk : k < vs.length) : cs.set (off + k) v = splice cs off (vs.set k v) := by
 refine ext_getElem? fun j => ?_
 rw [Yd5 (by rw [length_set]; exact ho), length_set, getElem?_set]
 by_cases h1 : off + k = j
 ·subst h1
  rw [if_pos rfl, if_pos (by omega), if_pos (by omega), Nat.add_sub_cancel_left, getElem?_set_self hk]
 ·rw [if_neg h1]
  by_cases h2 : off <= j /\ j < off + vs.length
  ·rw [if_pos h2, getElem?_set_ne (by omega), <- hc _ (by omega)]
   congr 1; omega
  ·rw [if_neg h2]
theorem splice_same {cs vs : List Value} {off : Nat} (hc : ∀ j, j < vs.length -> cs[off + j]? = vs[j]?) (ho : off + vs.length <= cs.length) : splice cs off vs = cs := by
 refine ext_getElem? fun j => ?_
 rw [Yd5 ho]
 split
 ·next h => rw [<- hc _ (by omega)]; congr 1; omega
 ·rfl
theorem set_mid {A B : List Value} {x0 x1 x2 v : Value} {n : Nat} (h : A.length = n) : (A ++ (x0 :: x1 :: x2 :: B)).set (n + 2) v = A ++ (x0 :: x1 :: v :: B) := by
 subst h
 rw [set_append_right _ _ (by omega), Nat.add_sub_cancel_left]
 rfl
mutual
/-- A tree's bulk. -/
def Nd.mea : Nd -> Nat
 | .mk _ u l t ats ks => 1 + u.size + l.size + t.size + (ats.map ZxI).sum + Nd.meaL ks
def Nd.meaL : List Nd -> Nat
 | [] => 0
 | x :: r => x.mea + Nd.meaL r
end
mutual
theorem YgN : ∀ v : NV, v.nd.mea = v.mea
 | .mk k u l t ap al ac ats kp kl kc ks => by
  have := nd_meaL ks
  simp only [NV.nd, Nd.mea, NV.mea, this]
theorem nd_meaL : ∀ ks : List NV, Nd.meaL (NV.ndL ks) = NV.meaL ks
 | [] => rfl
 | x :: r => by
  have := YgN x; have := nd_meaL r
  simp only [NV.ndL, Nd.meaL, NV.meaL, *]
end
theorem Zxx : ∀ a b : List Nd, Nd.meaL (a ++ b) = Nd.meaL a + Nd.meaL b
 | [], b => by simp [Nd.meaL]
 | x :: r, b => by simp only [cons_append, Nd.meaL, Zxx r b]; omega
theorem YgM {ks : List Nd} {i : Nat} {x y : Nd} (h : ks[i]? = some x) : Nd.meaL (ks.set i y) + x.mea = Nd.meaL ks + y.mea := by
  obtain ⟨hi, rfl⟩ := List.getElem?_eq_some_iff.1 h
  have e1 : Nd.meaL (ks.set i y) = Nd.meaL (ks.take i) + (y.mea + Nd.meaL (ks.drop (i + 1))) := by
    rw [List.set_eq_take_append_cons_drop, if_pos hi, Zxx, Nd.meaL]
  have e2 : Nd.meaL ks = Nd.meaL (ks.take i) + (ks[i].mea + Nd.meaL (ks.drop (i + 1))) := by
    conv => lhs; rw [<- List.take_append_drop i ks, List.drop_eq_getElem_cons hi]
    rw [Zxx, Nd.meaL]
  omega
theorem Yew : ∀ {r : List Int} {d x z : Nd}, nodeAt d r = some x -> (setAt d r z).mea + x.mea = d.mea + z.mea
 | [], d, x, z, h => by rw [Option.some.inj h]; show z.mea + _ = _; omega
 | i :: r, .mk k u l t ats ks, x, z, h => by
  rw [YbW] at h
  split at h
  ·cases h
  split at h
  ·next c hc =>
   have ih := Yew (z := z) h
   have h1 := YgM (y := setAt c r z) hc
   rw [ZxF hc]
   simp only [ZxZ, Nd.kids, Nd.mea] at h1 ⊢
   omega
  ·cases h
theorem Yg1 (a b : List At) : ((a ++ b).map ZxI).sum = (a.map ZxI).sum + (b.map ZxI).sum := by rw [map_append, sum_append]
theorem YcT (p : At -> Bool) : ∀ l : List At, ((l.filter p).map ZxI).sum <= (l.map ZxI).sum
 | [] => Nat.le_refl _
 | x :: r => by
  have := YcT p r
  rw [filter_cons]
  split
  ·simp only [map_cons, sum_cons]; omega
  ·simp only [map_cons, sum_cons]; omega
theorem atSum_put (ats : List At) (n : Pr) (v : ByteArray) : ((Zqx ats n v).map ZxI).sum <= (ats.map ZxI).sum + (1 + n.1.size + n.2.size + v.size) := by
 have h1 := YcT (fun a => decide (nameOf a ≠ n)) ats
 have e := takeWhile_append_dropWhile (p := fun a => nLt (nameOf a) n) (l := ZzM ats n)
 have h2 := congrArg (fun l => (l.map ZxI).sum) e
 simp only [Yg1] at h2
 unfold Zqx
 rw [Yg1, map_cons, sum_cons]
 have h3 : ZxI (newAt n v) = 1 + n.1.size + n.2.size + v.size := rfl
 unfold ZzM at h2 ⊢
 omega
def Ed.mea (e : Ed) : Nat := 1 + e.name.1.size + e.name.2.size + e.text.size + e.node.mea
theorem chgd_mea (x : Nd) (e : Ed) : (chgd x e).2.mea <= x.mea + e.mea := by
 cases x with
 | mk k u l t ats ks =>
  have h1 := atSum_put ats e.name e.text
  have h2 := YcT (fun a => decide (nameOf a ≠ e.name)) ats
  simp only [chgd]
  unfold Ed.mea
  split
  ·split <;> (simp only [Nd.mea]; omega)
  split
  ·simp only [Nd.mea]; omega
  split
  ·simp only [Nd.mea]; unfold ZzM; omega
  ·simp only [Nd.mea]; omega
theorem here_mea (up : Nd) (i : Int) (e : Ed) : (Yau up i e).2.mea <= up.mea + e.mea := by
 cases up with
 | mk k u l t ats ks =>
  simp only [Yau]
  have e1 : Nd.meaL ks = Nd.meaL (ks.take i.toNat) + Nd.meaL (ks.drop i.toNat) := by rw [<- Zxx, take_append_drop]
  have e2 : Nd.meaL ks = Nd.meaL (ks.take (i.toNat + 1)) + Nd.meaL (ks.drop (i.toNat + 1)) := by rw [<- Zxx, take_append_drop]
  split
  ·simp only [Nd.mea]; omega
  split
  ·simp only [Nd.mea, Zxx, Nd.meaL]; unfold Ed.mea; omega
  split
  ·have e3 : Nd.meaL (ks.drop (i.toNat + 1)) <= Nd.meaL (ks.drop i.toNat) := by
    have : ks.drop (i.toNat + 1) = (ks.drop i.toNat).drop 1 := by rw [drop_drop]
    rw [this]
    cases ks.drop i.toNat with
    | nil => exact Nat.le_refl _
    | cons x r => simp only [drop_succ_cons, drop_zero, Nd.meaL]; omega
   simp only [Nd.mea, Zxx]; omega
  split
  ·cases hx : ks[i.toNat]? with
   | none => rw [set_eq_of_length_le (getElem?_eq_none_iff.1 hx)]; simp only [Nd.mea]; omega
   | some x =>
    have := YgM (y := e.node) hx
    simp only [Nd.mea]; unfold Ed.mea; omega
  ·split
   ·next x hx =>
    have := YgM (y := (chgd x e).2) hx
    have := chgd_mea x e
    simp only [Nd.mea]; omega
   ·simp only [Nd.mea]; omega
theorem ed_mea {d n : Nd} {p : List Int} {e : Ed} (hp : p ≠ []) (h : edN d p e = (0, n)) : n.mea <= d.mea + e.mea := by
 obtain ⟨r, i, rfl⟩ := Yd9 hp
 cases hup : nodeAt d r with
 | none =>
  have h1 := Ygp (e := e) (i := i) hup
  rw [h] at h1; exact absurd (show (0 : Int) = 35 from h1) (by decide)
 | some up =>
  rw [YeO hup] at h
  have h2 : setAt d r (Yau up i e).2 = n := congrArg Prod.snd h
  have h3 := Yew (z := (Yau up i e).2) hup
  have h4 := here_mea up i e
  rw [<- h2]; omega
theorem asc_attrs {d x : Nd} {r : List Int} (h : Right d) (hx : nodeAt d r = some x) : ascB x.attrs = true := h.order x (Zqt hx)
end Go.Vc
namespace Go.Proofs.YtjlgopfceebdcaaGreatDoor
open Go Go.Vc Go.Lib
section
variable {w w' : World}
theorem Yhl {a : Addr} : ∀ {r : List Int} {a : Addr} {v : NV}, Own w v -> (addrAt a v r).map (fun x => x.2.nd) = nodeAt v.nd r
  | [], a, v, _ => rfl
  | i :: r, a, .mk k u l t ap al ac ats kp kl kc ks, h => by
    cases h with
    | mk ha hk hks =>
    have hkl := hk.sl.row (Zzp ks) (by decide)
    rw [Zy7]
    simp only [addrAt, nodeAt]
    split
    · rfl
    rw [List.getElem?_map]
    cases hx : ks[i.toNat]? with
    | none => rfl
    | some x =>
      have hlt := (List.getElem?_eq_some_iff.1 hx).1
      cases kp with
      | none => have := hk.none0 rfl; omega
      | some c =>
        simp only [Option.map_some]
        exact Yhl (a := a) (hks x (List.mem_of_getElem? hx))
structure Place (w : World) (b : Addr) (y : NV) (cs : List Value) (e : TypeId) : Prop where
 ta : TreeAt w b y
 sp : b.spot = none
 hb : w.heap[b.block]? = some (.cells ⟨cs⟩ e (0, 0))
 ho : b.off + 6 <= cs.length
theorem Place.get {b : Addr} {y : NV} {cs : List Value} {e : TypeId} (P : Place w b y cs e) : ∀ j, j < y.cells.length -> cs[b.off + j]? = y.cells[j]? := by
 intro j hj
 have h1 := P.ta.cs j _ (getElem?_eq_getElem hj)
 obtain ⟨bb, bo, bs⟩ := b
 have := P.sp
 simp only at this
 subst this
 rw [Addr.add_mk, cell_of_row w bb (bo + j) _ e (0, 0) P.hb] at h1
 rw [getElem?_eq_getElem hj]
 simpa using h1
theorem Place.at {e : TypeId} : ∀ {r : List Int} {a b : Addr} {v y : NV} {cs : List Value} {e : TypeId}, Place w a v cs e -> addrAt a v r = some (b, y) -> ∃ cs' e', Place w b y cs' e'
  | [], a, b, v, y, cs, e, P, h => by
    simp only [addrAt, Option.some.injEq, Prod.mk.injEq] at h
    obtain ⟨rfl, rfl⟩ := h
    exact ⟨cs, e, P⟩
  | i :: r, a, b, .mk k u l t ap al ac ats kp kl kc ks, y, cs, e, P, h => by
    simp only [addrAt] at h
    split at h
    · cases h
    split at h
    rotate_left
    · cases h
    rename_i x c hx
    obtain ⟨⟨hTc, hTo, hTn, hTf⟩, hsp, hb, ho⟩ := P
    cases hTo with
    | mk ha hk hks =>
    have hxm := List.mem_of_getElem? hx
    have hkl := hk.sl.row (Zzp ks) (by decide)
    have hil := (List.getElem?_eq_some_iff.1 hx).1
    obtain ⟨kb, rest, e1, hkb, hlc, hcm, hcl⟩ := hk.some0 (show kl ≠ 0 by omega)
    cases e1
    simp only [Nat.zero_add] at h
    have hrl : (rows NV.cells ks).length = ks.length * 6 := Zya (Zzp ks)
    have hi6 : i.toNat * 6 + 6 <= ks.length * 6 := by have := Nat.mul_le_mul_right 6 (show i.toNat + 1 <= ks.length from hil); omega
    have ebs : (NV.mk k u l t ap al ac ats (some ⟨kb, 0, none⟩) kl kc ks).bs = Yam ap ++ ([kb] ++ NV.bsL ks) := by simp only [NV.bs, Yam]
    rw [ebs] at hTn
    obtain ⟨hnA, hnR, hdA⟩ := List.nodup_append.1 hTn
    obtain ⟨hnK, hnL, hdK⟩ := List.nodup_append.1 hnR
    have eL := bsL_get hx
    rw [eL] at hnL
    obtain ⟨hn1, hn2, hd1⟩ := List.nodup_append.1 hnL
    obtain ⟨hn3, hn4, hd2⟩ := List.nodup_append.1 hn2
    refine Place.at (e := e) (r := r) (a := ⟨kb, i.toNat * 6, none⟩) ⟨⟨?_, hks x hxm, hn3, fun hI => hdK kb (List.mem_singleton.2 rfl) kb (ZyK hxm hI) rfl⟩, rfl, hkb, by rw [List.length_append, hrl]; simp only; omega⟩ h
    have h2 := ZzR 6 (Zy0 (off := i.toNat * 6) hkb)
    intro j z hz
    have hj := (List.getElem?_eq_some_iff.1 hz).1
    rw [Zyq] at hj
    refine h2 j z ?_
    rw [List.getElem?_take_of_lt hj, List.getElem?_drop, List.getElem?_append_left (by rw [hrl]; omega), Yfd (Zzp ks) hx hj]
    exact hz
structure Turned (w w' : World) (b : Addr) (y y' : NV) (cs : List Value) (e : TypeId) : Prop where
 hc : Chg (fun z => z = b.block \/ z ∈ y.bs) w w'
 hb : w'.heap[b.block]? = some (.cells ⟨splice cs b.off y'.cells⟩ e (0, 0))
 own : Own w' y'
 nd : y'.bs.Nodup
 bs : ∀ z ∈ y'.bs, z ∈ y.bs \/ w.heap.size <= z
theorem Turned.tree {a b : Addr} {v y y' : NV} {cs : List Value} {e : TypeId} {r : List Int} (h : Turned w w' b y y' cs e) (hP : Place w b y cs e) (hs : a.spot = none) (hT : TreeAt w a v) (hr : addrAt a v r = some (b, y)) :
  ∃ v', TreeAt w' a v' /\ v'.nd = setAt v.nd r y'.nd /\ (∀ z ∈ v'.bs, z ∈ v.bs \/ w.heap.size <= z) :=
 TreeAt.upd h.hc hP.hb h.hb hP.ho h.own h.nd h.bs hs hT hr
theorem Find_ok {a : Addr} {v : NV} {cs : List Value} {e : TypeId} {pp : Option Addr} {pl pc : Nat} {r : List Int} {J : Option Addr -> Bool -> World -> Prop} (hP : Place w a v cs e) (hp : Sl w pp pl 1 (rows YbR r)) (hm : pl <= 100000000)
    (K1 : ∀ b y w', addrAt a v r = some (b, y) -> Chg No w w' -> J (some b) true w') (K2 : ∀ w', addrAt a v r = none -> Chg No w w' -> J none false w') :
    Zz1 Tryz.prog YcI #[.pointer (some a), .slice pp pl pc] w [.one .ptr, .one .bool] J := by
  have hpl : r.length = pl := hp.row (fun _ _ => rfl) (by decide)
  refine c_edit_find ?_
  refine ⟨fun d i w' m => ∃ (q : Nat) (b : Addr) (y : NV), d = some b /\ i = q /\ q <= pl /\ m = pl - q /\ (∃ cs e, Place w b y cs e) /\ addrAt a v r = addrAt b y (r.drop q) /\ Chg No w w', ⟨_, 0, a, v, rfl, rfl, Nat.zero_le _, rfl, ⟨_, _, hP⟩, rfl, Chg.refl _ _⟩, ?_⟩
  rintro d i w1 m ⟨q, b, y, rfl, rfl, hq, rfl, ⟨cs', e', hPb⟩, hat, hc1⟩
  refine Zz5 (fun hlt => ?_) (fun hge => ?_)
  · refine Zzu (f := YbR) (hp.chg hc1 (off_no _)) (fun _ _ => rfl) (by decide) (by omega) hlt fun ad z _ hz hcs => ?_
    have hz' : r[q]? = some z := hz
    have hdz : r.drop q = z :: r.drop (q + 1) := by
      obtain ⟨h1, rfl⟩ := List.getElem?_eq_some_iff.1 hz'
      exact List.drop_eq_getElem_cons h1
    rw [hdz] at hat
    refine ⟨_, ZzC hcs, ?_⟩
    cases y with
    | mk k u l t ap al ac ats kp kl kc ks =>
    obtain ⟨bb, bo, bsp⟩ := b
    have hsp := hPb.sp
    simp only at hsp
    subst hsp
    have hown := hPb.ta.own
    have hcell : w1.cell? ⟨bb, bo + 4, none⟩ = some (.slice kp kl kc) := by
      have := hc1.cells hPb.ta.cs (fun h => h) 4 _ rfl
      rwa [Addr.add_mk] at this
    cases hown with
    | mk ha hk hks =>
    have hkl := hk.sl.row (Zzp ks) (by decide)
    refine Zzf fun J24 hJ24 => ?_
    have k24t : addrAt ⟨bb, bo, none⟩ (.mk k u l t ap al ac ats kp kl kc ks) (z :: r.drop (q + 1)) = none -> J24 true w1 := by
      intro h; subst hJ24
      exact Zzd (fun _ => K2 w1 (hat.trans h) hc1) (fun h => by cases h)
    have k24f : 0 <= z -> z < kl -> J24 false w1 := by
      intro h0 h1; subst hJ24
      refine Zzd (fun h => by cases h) (fun _ => ?_)
      simp only [Zyn]
      rw [Addr.add_mk]
      refine ⟨_, _, _, hcell, ?_⟩
      obtain ⟨kb, rest, e1, _⟩ := hk.some0 (show kl ≠ 0 by omega)
      subst e1
      refine YbF h0 h1 ?_
      rw [Addr.add_mk]
      have hget : ks[z.toNat]? = some ks[z.toNat] := List.getElem?_eq_getElem (by omega)
      have had : addrAt ⟨bb, bo, none⟩ (.mk k u l t ap al ac ats (some ⟨kb, 0, none⟩) kl kc ks) [z] = some (⟨kb, 0 + z.toNat * 6, none⟩, ks[z.toNat]) := by
        simp only [addrAt]
        rw [if_neg (by omega), hget]
      refine ⟨_, by omega, q + 1, ⟨kb, 0 + z.toNat * 6, none⟩, ks[z.toNat], rfl, by rw [Zzt] <;> omega, by omega, rfl, Place.at (e := e') hPb had, ?_, hc1⟩
      rw [hat]
      simp only [addrAt]
      rw [if_neg (by omega), hget]
    clear hJ24
    refine Zz5 (fun h => k24t (by simp only [addrAt]; rw [if_pos h])) (fun h => ?_)
    simp only [Zyn]
    rw [Addr.add_mk]
    refine ⟨_, _, _, hcell, ?_⟩
    show J24 (decide (z >= ((kl : Nat) : Int))) w1
    by_cases h1 : z < kl
    · rw [decide_eq_false (by omega)]; exact k24f (by omega) h1
    · rw [decide_eq_true (by omega)]
      refine k24t ?_
      simp only [addrAt]
      rw [if_neg h, List.getElem?_eq_none (by omega)]
  · have hqk : q = pl := by omega
    rw [List.drop_eq_nil_of_le (by omega)] at hat
    exact K1 b y w1 hat hc1
end
end Go.Proofs.YtjlgopfceebdcaaGreatDoor
namespace Go.Vc
open Go Go.Lib
structure Srch (L : List At) (n : Pr) (i : Nat) (b : Bool) : Prop where
 le : i <= L.length
 lo : ∀ j a, j < i -> L[j]? = some a -> nLt (nameOf a) n = true
 hi : ∀ j a, i <= j -> L[j]? = some a -> nLt (nameOf a) n = false
 f : b = true ↔ ∃ a, L[i]? = some a /\ nameOf a = n
theorem Srch.has {L : List At} {n : Pr} {i : Nat} {b : Bool} (h : Srch L n i b) (hasc : L.Pairwise fun a b => aLt a b = true) : b = YfC L n := by
  rw [Bool.eq_iff_iff, h.f, has_iff]
  constructor
  · rintro ⟨a, h1, h2⟩; exact ⟨a, List.mem_of_getElem? h1, h2⟩
  · rintro ⟨a, h1, h2⟩
    obtain ⟨j, hj⟩ := List.mem_iff_getElem?.1 h1
    rcases Nat.lt_trichotomy j i with h3 | h3 | h3
    · have := h.lo j a h3 hj
      rw [h2, YcB] at this; cases this
    · subst h3; exact ⟨a, hj, h2⟩
    · have hjl := (List.getElem?_eq_some_iff.1 hj).1
      have h4 := h.hi i L[i] (Nat.le_refl _) (List.getElem?_eq_getElem (by omega))
      have h5 := List.pairwise_iff_getElem.1 hasc i j (by omega) hjl h3
      rw [(List.getElem?_eq_some_iff.1 hj).2] at h5
      unfold aLt at h5
      rw [h2] at h5; rw [h5] at h4; cases h4
theorem mem_tail {L : List At} {i : Nat} {s : At} (h : s ∈ L.drop (i + 1)) (hasc : L.Pairwise fun a b => aLt a b = true) {a : At} (ha : L[i]? = some a) : aLt a s = true := by
  obtain ⟨j, hj⟩ := List.mem_iff_getElem?.1 h
  rw [List.getElem?_drop] at hj
  have h5 := List.pairwise_iff_getElem.1 hasc i (i + 1 + j) (List.getElem?_eq_some_iff.1 ha).1 (List.getElem?_eq_some_iff.1 hj).1 (by omega)
  rw [(List.getElem?_eq_some_iff.1 ha).2, (List.getElem?_eq_some_iff.1 hj).2] at h5
  exact h5
theorem YgC {L : List At} {n : Pr} {i : Nat} {b : Bool} (h : Srch L n i b) {s : At} (hs : s ∈ L.take i) : nLt (nameOf s) n = true := by
 obtain ⟨j, hj⟩ := mem_iff_getElem?.1 hs
 rw [getElem?_take] at hj
 split at hj
 ·next h1 => exact h.lo j s h1 hj
 ·cases hj
theorem ne_of_lt {s : At} {n : Pr} (h : nLt (nameOf s) n = true) : nameOf s ≠ n := fun e => by rw [e, YcB] at h; cases h
theorem drop_gt {L : List At} {n : Pr} {i : Nat} {b : Bool} (h : Srch L n i b) (hno : ¬ ∃ a, L[i]? = some a /\ nameOf a = n) (hasc : L.Pairwise fun a b => aLt a b = true) {s : At} (hs : s ∈ L.drop i) : nLt n (nameOf s) = true := by
  obtain ⟨j, hj⟩ := List.mem_iff_getElem?.1 hs
  rw [List.getElem?_drop] at hj
  have h1 := h.hi (i + j) s (by omega) hj
  rcases nLt_tri (nameOf s) n with h2 | h2 | h2
  · rw [h1] at h2; cases h2
  · by_cases hj0 : j = 0
    · subst hj0; exact absurd ⟨s, hj, h2⟩ hno
    · have hjl := (List.getElem?_eq_some_iff.1 hj).1
      have h3 := h.hi i L[i] (Nat.le_refl _) (List.getElem?_eq_getElem (by omega))
      have h5 := List.pairwise_iff_getElem.1 hasc i (i + j) (by omega) hjl (by omega)
      rw [(List.getElem?_eq_some_iff.1 hj).2] at h5
      unfold aLt at h5
      rw [h2] at h5; rw [h5] at h3; cases h3
  · exact h2
theorem found_set {L : List At} {n : Pr} {i : Nat} {b : Bool} (h : Srch L n i b) (hasc : L.Pairwise fun a b => aLt a b = true) {a : At} (ha : L[i]? = some a) (hn : nameOf a = n) (v : ByteArray) : L.set i (newAt n v) = Zqx L n v := by
  have hi := (List.getElem?_eq_some_iff.1 ha).1
  have hset : L.set i (newAt n v) = L.take i ++ newAt n v :: L.drop (i + 1) := by rw [List.set_eq_take_append_cons_drop, if_pos hi]
  have eL : L = L.take i ++ a :: L.drop (i + 1) := by
    have := (List.getElem?_eq_some_iff.1 ha).2
    rw [<- this, <- List.drop_eq_getElem_cons hi, List.take_append_drop]
  have hgt : ∀ s ∈ L.drop (i + 1), nLt n (nameOf s) = true := fun s hs => by
    have := mem_tail hs hasc ha
    unfold aLt at this
    rw [hn] at this; exact this
  refine Ygt ?_ (put_asc hasc) fun s => ?_
  · rw [hset]
    have h2 := hasc
    rw [eL] at h2
    obtain ⟨p1, p2, p3⟩ := List.pairwise_append.1 h2
    obtain ⟨p4, p5⟩ := List.pairwise_cons.1 p2
    refine List.pairwise_append.2 ⟨p1, List.pairwise_cons.2 ⟨hgt, p5⟩, fun x hx y hy => ?_⟩
    rcases List.mem_cons.1 hy with rfl | hy
    · exact YgC h hx
    · exact p3 x hx y (List.mem_cons_of_mem _ hy)
  · rw [hset, put_mem, List.mem_append, List.mem_cons]
    constructor
    · rintro (h1 | h1 | h1)
      · exact .inr ⟨List.mem_of_mem_take h1, ne_of_lt (YgC h h1)⟩
      · exact .inl h1
      · exact .inr ⟨List.mem_of_mem_drop h1, fun e => by have := hgt s h1; rw [e, YcB] at this; cases this⟩
    · rintro (h1 | ⟨h1, h2⟩)
      · exact .inr (.inl h1)
      · rw [eL, List.mem_append, List.mem_cons] at h1
        rcases h1 with h1 | h1 | h1
        · exact .inl h1
        · exact absurd (by rw [h1]; exact hn) h2
        · exact .inr (.inr h1)
theorem found_ins {L : List At} {n : Pr} {i : Nat} {b : Bool} (h : Srch L n i b) (hasc : L.Pairwise fun a b => aLt a b = true) (hno : ¬ ∃ a, L[i]? = some a /\ nameOf a = n) (v : ByteArray) : L.take i ++ newAt n v :: L.drop i = Zqx L n v := by
 refine Ygt ?_ (put_asc hasc) fun s => ?_
 ·have h2 := hasc
  rw [<- take_append_drop i L] at h2
  obtain ⟨p1, p2, p3⟩ := pairwise_append.1 h2
  refine pairwise_append.2 ⟨p1, pairwise_cons.2 ⟨fun y hy => drop_gt h hno hasc hy, p2⟩, fun x hx y hy => ?_⟩
  rcases mem_cons.1 hy with rfl | hy
  ·exact YgC h hx
  ·exact p3 x hx y hy
 ·rw [put_mem, mem_append, mem_cons]
  have hm : s ∈ L ↔ s ∈ L.take i \/ s ∈ L.drop i := by rw [<- mem_append, take_append_drop]
  rw [hm]
  constructor
  ·rintro (h1 | h1 | h1)
   ·exact .inr ⟨.inl h1, ne_of_lt (YgC h h1)⟩
   ·exact .inl h1
   ·exact .inr ⟨.inr h1, fun e => by have := drop_gt h hno hasc h1; rw [e, YcB] at this; cases this⟩
  ·rintro (h1 | ⟨h1 | h1, _⟩)
   ·exact .inr (.inl h1)
   ·exact .inl h1
   ·exact .inr (.inr h1)
theorem found_del {L : List At} {n : Pr} {i : Nat} {b : Bool} (h : Srch L n i b) (hasc : L.Pairwise fun a b => aLt a b = true) {a : At} (ha : L[i]? = some a) (hn : nameOf a = n) : L.take i ++ L.drop (i + 1) = ZzM L n := by
  have hi := (List.getElem?_eq_some_iff.1 ha).1
  have eL : L = L.take i ++ a :: L.drop (i + 1) := by
    have := (List.getElem?_eq_some_iff.1 ha).2
    rw [<- this, <- List.drop_eq_getElem_cons hi, List.take_append_drop]
  have hgt : ∀ s ∈ L.drop (i + 1), nLt n (nameOf s) = true := fun s hs => by
    have := mem_tail hs hasc ha
    unfold aLt at this
    rw [hn] at this; exact this
  refine Ygt ?_ (drop_asc hasc) fun s => ?_
  · have h2 := hasc
    rw [eL] at h2
    obtain ⟨p1, p2, p3⟩ := List.pairwise_append.1 h2
    exact List.pairwise_append.2 ⟨p1, (List.pairwise_cons.1 p2).2, fun x hx y hy => p3 x hx y (List.mem_cons_of_mem _ hy)⟩
  · rw [YeP, List.mem_append]
    constructor
    · rintro (h1 | h1)
      · exact ⟨List.mem_of_mem_take h1, ne_of_lt (YgC h h1)⟩
      · exact ⟨List.mem_of_mem_drop h1, fun e => by have := hgt s h1; rw [e, YcB] at this; cases this⟩
    · rintro ⟨h1, h2⟩
      rw [eL, List.mem_append, List.mem_cons] at h1
      rcases h1 with h1 | h1 | h1
      · exact .inl h1
      · exact absurd (by rw [h1]; exact hn) h2
      · exact .inr h1
theorem rows_setcell {L : List At} {i : Nat} {a : At} (ha : L[i]? = some a) (rest : List Value) (v : ByteArray) : (rows atc L ++ rest).set (i * 3 + 2) (.string v) = rows atc (L.set i (newAt (nameOf a) v)) ++ rest := by
  obtain ⟨hi, rfl⟩ := List.getElem?_eq_some_iff.1 ha
  have e1 : rows atc L = rows atc (L.take i) ++ (atc L[i] ++ rows atc (L.drop (i + 1))) := by
    conv => lhs; rw [<- List.take_append_drop i L, List.drop_eq_getElem_cons hi]
    rw [Zzw, ZyM]
  have e2 : rows atc (L.set i (newAt (nameOf L[i]) v)) = rows atc (L.take i) ++ (atc (newAt (nameOf L[i]) v) ++ rows atc (L.drop (i + 1))) := by
    rw [List.set_eq_take_append_cons_drop, if_pos hi, Zzw, ZyM]
  have hl : (rows atc (L.take i)).length = i * 3 := by rw [Zya (Yac _), List.length_take, Nat.min_eq_left (by omega)]
  rw [e1, e2]
  simp only [List.append_assoc]
  exact set_mid (x0 := .string L[i].1) (x1 := .string L[i].2.1) (x2 := .string L[i].2.2) (v := .string v) (B := rows atc (L.drop (i + 1)) ++ rest) hl
theorem chgd_at {k : Int} {u l t : ByteArray} {ats : List At} {ks : List Nd} {e : Ed} (h6 : e.op ≠ 6) : chgd (.mk k u l t ats ks) e = if k ≠ 2 then (33, .mk k u l t ats ks) else if e.op = 5 then (if YfC ats e.name = true then 0 else 7, .mk k u l t (ZzM ats e.name) ks) else (0, .mk k u l t (Zqx ats e.name e.text) ks) := by
 simp only [chgd]; rw [if_neg h6]
end Go.Vc
namespace Go.Proofs.YtjlgopfceebdcaaGreatDoor
open Go Go.Vc Go.Lib
section
variable {w : World}
def AttrPost (w : World) (b : Addr) (y : NV) (cs : List Value) (t : TypeId) (e : EV) (J : Int -> World -> Prop) : Prop :=
 (∀ w', (chgd y.nd e.ed).1 ≠ 0 -> Chg (fun z => z = b.block \/ z ∈ y.bs) w w' -> J (chgd y.nd e.ed).1 w') /\ (∀ w' y', (chgd y.nd e.ed).1 = 0 -> Turned w w' b y y' cs t -> y'.nd = (chgd y.nd e.ed).2 -> J 0 w')
theorem Attr_ok {b : Addr} {y : NV} {cs : List Value} {t : TypeId} {e : EV} {J : Int -> World -> Prop} (hP : Place w b y cs t) (hop : e.op = 4 \/ e.op = 5) (hym : y.mea <= 100000000) (hasc : ascB y.nd.attrs = true) (K : AttrPost w b y cs t e J) :
    Zz1 Tryz.prog YcJ #[.pointer (some b), .agg ⟨e.cells⟩] w [.one (.int .i64)] J := by
  obtain ⟨eop, ep, el, ec, epa, eu, en, et, end_⟩ := e
  cases end_ with
  | mk nk nu nl nt nap nal nac nas nkp nkl nkc nks =>
  obtain ⟨K1, K2⟩ := K
  have hown := hP.ta.own
  have hbs := hP.ta.nd
  have hoff := hP.ta.off
  have hown0 := hown
  have hget := hP.get
  have hlt9 := hown.lt
  obtain ⟨bb, bo, bsp⟩ := b
  have hsp := hP.sp
  simp only at hsp
  subst hsp
  have hbk : w.heap[bb]? = some (.cells ⟨cs⟩ t (0, 0)) := hP.hb
  have hbo : bo + 6 <= cs.length := hP.ho
  have hbblt := Zy8 hbk
  cases y with
  | mk k u l tx ap al ac ats kp kl kc ks =>
  cases hown with
  | mk ha hk hks =>
  have hal := ha.sl.row (Yac ats) (by decide)
  have hla := ZqM ats
  have hmm : al <= 100000000 := by simp only [NV.mea] at hym; omega
  have hasc' : ats.Pairwise fun a b => aLt a b = true := Ydf (by rw [Zy7] at hasc; exact hasc)
  rw [Zy7] at K1 K2
  simp only at hop
  obtain ⟨E, hE, hE1, hE2, hE3⟩ : ∃ E, EV.ed ⟨eop, ep, el, ec, epa, eu, en, et, .mk nk nu nl nt nap nal nac nas nkp nkl nkc nks⟩ = E /\ E.op = eop /\ E.name = (eu, en) /\ E.text = et := ⟨_, rfl, rfl, rfl, rfl⟩
  rw [hE, chgd_at (by omega), hE2, hE3] at K1
  rw [hE, chgd_at (by omega), hE2, hE3] at K2
  have ebs : (NV.mk k u l tx ap al ac ats kp kl kc ks).bs = Yam ap ++ (Yam kp ++ NV.bsL ks) := by simp only [NV.bs]
  refine c_edit_attr_n0 ?_
  refine (Hp.start w (fun z => z = bb \/ z ∈ (NV.mk k u l tx ap al ac ats kp kl kc ks).bs)).newB fun b3 w1 H1 hb3 hc1 => ?_
  have cell : ∀ {wx : World} {j : Nat} {v : Value}, Chg No w wx -> (NV.mk k u l tx ap al ac ats kp kl kc ks).cells[j]? = some v -> wx.cell? ⟨bb, bo + j, none⟩ = some v := fun hc hv => by
    have := hc.cells hP.ta.cs (fun h => h) _ _ hv
    rwa [Addr.add_mk] at this
  refine Zyw (cell (j := 0) hc1 rfl) ?_
  refine ZzL (fun hk2 => ?_) (fun hk2 => ?_)
  · rw [if_pos hk2] at K1
    exact K1 w1 (show (33 : Int) ≠ 0 by decide) H1.chg
  rw [if_neg (fun h => h hk2)] at K1
  rw [if_neg (fun h => h hk2)] at K2
  have H1d := H1.drew
  have c1d : Chg No w w1.drew := hc1.drew
  simp only [Addr.add_mk]
  refine ⟨_, _, _, cell (j := 3) c1d rfl, ?_⟩
  refine H1d.ldStr 0 rfl (off := 2) rfl ?_
  refine H1d.ldStr 0 rfl (off := 3) rfl ?_
  refine Search_ok (n := (eu, en)) (ha.sl.chg c1d (off_no _)) hmm hasc' fun i found w2 hi hlo hhi hf hc2 => ?_
  have H2 := H1d.step0 hc2
  have c2 := c1d.trans0 hc2
  have F : Srch ats (eu, en) i found := ⟨by omega, hlo, hhi, hf⟩
  have hhas := F.has hasc'
  have hs1 := hc1.size
  have hs2 : w.heap.size <= w2.heap.size := c2.size
  have b3lt := H2.lt 0 rfl
  refine Zzf fun J0 hJ0 => ?_
  subst hJ0
  refine Zzf fun J22 hJ22 => ?_
  -- the node's own cells
  have hN : ∀ {wx : World}, Chg No w wx -> wx.heap[bb]? = some (.cells ⟨cs⟩ t (0, 0)) := fun hc => hc.heap hbk (fun h => h)
  have hroom : bo + (NV.mk k u l tx ap al ac ats kp kl kc ks).cells.length <= cs.length := hbo
  obtain ⟨hnA, hnR, hdA⟩ := List.nodup_append.1 (ebs ▸ hbs)
  have hoff' : ¬ bb ∈ Yam ap ++ (Yam kp ++ NV.bsL ks) := ebs ▸ hoff
  have hkidblk : ∀ z ∈ Yam kp ++ NV.bsL ks, ¬ z ∈ Yam ap := fun z hz hz2 => hdA z hz2 z hz rfl
  -- set where there is one
  have k22t : eop = 4 -> found = true -> J22 true w2 := by
    intro h4 hft; subst hJ22
    refine Zzd (fun _ => ?_) (fun h => by cases h)
    obtain ⟨a, hai, han⟩ := F.f.1 hft
    have hil := (List.getElem?_eq_some_iff.1 hai).1
    have H2d := H2.drew
    have c2d := c2.drew
    refine ⟨_, _, _, cell (j := 3) c2d rfl, ?_⟩
    refine H2d.ldStr 0 rfl (off := 4) rfl ?_
    obtain ⟨ab, rest, rfl, hab, _, hacm, hacl⟩ := ha.some0 (show al ≠ 0 by omega)
    refine YbF (by omega) (by omega) ?_
    rw [Addr.add_mk, Addr.add_mk, Int.toNat_natCast, Nat.zero_add]
    have hab2 := c2d.heap hab (fun h => h)
    have hbab : bb ≠ ab := fun e => hoff' (by rw [e]; exact List.mem_append_left _ (List.mem_singleton.2 rfl))
    have hrl : (rows atc ats ++ rest).length = ac * 3 := hacl
    have hac : al * 3 <= ac * 3 := Nat.mul_le_mul_right _ ha.le.1
    have hi3 : i * 3 + 3 <= al * 3 := by have := Nat.mul_le_mul_right 3 (show i + 1 <= al by omega); omega
    refine ((Hp.start w2.drew (fun x => x = ab)).add hab2 (by simp) (fun _ => rfl)).stV 0 rfl (off := i * 3 + 2) (by omega) fun w5 H5 hc5 => ?_
    simp only [List.set_cons_zero] at H5
    have hg5 := H5.get 0 rfl
    rw [rows_setcell hai, han, found_set F hasc' hai han] at hg5
    have hput : (Zqx ats (eu, en) et).length = al := by rw [<- found_set F hasc' hai han et, List.length_set]; exact hal
    have hc05 : Chg (fun z => z = ab) w w5 := (c2d.mono fun _ _ h => h.elim).trans hc5 fun _ _ h => h
    refine K2 w5 (.mk k u l tx (some ⟨ab, 0, none⟩) al ac (Zqx ats (eu, en) et) kp kl kc ks) ?_ ⟨?_, ?_, ?_, ?_, ?_⟩ ?_
    · rw [if_neg (show ¬ E.op = 5 by omega)]
    · exact hc05.mono fun z _ hz => .inr (by rw [ebs, hz]; exact List.mem_append_left _ (List.mem_singleton.2 rfl))
    · have h1 : w5.heap[bb]? = some (.cells ⟨cs⟩ t (0, 0)) := hc05.heap hbk hbab
      rw [show splice cs bo (NV.mk k u l tx (some ⟨ab, 0, none⟩) al ac (Zqx ats (eu, en) et) kp kl kc ks).cells = cs from splice_same hget hroom]
      exact h1
    · refine .mk ?_ (hk.chg hc05 fun a e h => ?_) fun x hx => (hks x hx).chg hc05 fun z hz h => ?_
      · refine Row.mk0 (rest := rest) hg5 (by rw [Zya (Yac _), hput]) ha.le.1 hacm ?_
        rw [List.length_append, Zya (Yac _), hput]
        rw [List.length_append, Zya (Yac _), hal] at hrl; exact hrl
      · subst e; exact hkidblk ab (List.mem_append_left _ (by rw [<- h]; exact List.mem_singleton.2 rfl)) (List.mem_singleton.2 rfl)
      · exact hkidblk z (List.mem_append_right _ (ZyK hx hz)) (by rw [h]; exact List.mem_singleton.2 rfl)
    · exact hbs
    · intro z hz; exact .inl hz
    · rw [Zy7, if_neg (show ¬ E.op = 5 by omega)]
  -- set where there is none, drop, or nothing to drop
  have k22f : (eop = 4 -> found = false) -> J22 false w2 := by
    intro h4f; subst hJ22
    refine Zzd (fun h => by cases h) (fun _ => ?_)
    refine H2.ldI 0 rfl (off := 0) rfl ?_
    -- the list's new head, written
    have fin : ∀ (L' : List At) (p' : Option Addr) (l' c' : Nat) (w7 : World) (J' : World -> Prop), Row w7 Zzo 3 p' l' c' (rows atc L') -> Chg (isB ap) w w7 -> (p' = ap \/ fresh w p') -> (NV.mk k u l tx p' l' c' L' kp kl kc ks).nd = (NV.mk k u l tx ap al ac L' kp kl kc ks).nd -> (∀ w8, Turned w w8 ⟨bb, bo, none⟩ (.mk k u l tx ap al ac ats kp kl kc ks) (.mk k u l tx p' l' c' L' kp kl kc ks) cs t -> J' w8) ->
        stV w7 ⟨bb, bo + 3, none⟩ (.slice p' l' c') J' := by
      intro L' p' l' c' w7 J' hr7 hc7 hf7 _ kk
      have hbap : ∀ a, ap = some a -> a.block ≠ bb := fun a e h => hoff' (by subst e; rw [<- h]; exact List.mem_append_left _ (List.mem_singleton.2 rfl))
      have hb7 := hc7.heap hbk (by rintro ⟨a, e, h⟩; exact hbap a e h)
      refine ((Hp.start w7 (fun x => x = bb)).add hb7 (by simp) (fun _ => rfl)).stV 0 rfl (off := bo + 3) (by omega) fun w8 H8 hc8 => ?_
      simp only [List.set_cons_zero] at H8
      have hg8 := H8.get 0 rfl
      rw [Yf9 (vs := (NV.mk k u l tx ap al ac ats kp kl kc ks).cells) hget hroom (by show 3 < 6; decide)] at hg8
      have hapL : ∀ z, isB ap z -> z ∈ Yam ap := by rintro z ⟨a, e, h⟩; subst e; rw [<- h]; exact List.mem_singleton.2 rfl
      have hc08 : Chg (fun z => z = bb \/ isB ap z) w w8 := (hc7.mono fun z _ h => .inr h).trans hc8 fun z _ h => .inl h
      have hp'b : ∀ a, p' = some a -> a.block ≠ bb := fun a e h => by
        rcases hf7 with rfl | hf7
        · exact hbap a e h
        · have := hf7 a e; omega
      refine kk w8 ⟨?_, hg8, ?_, ?_, ?_⟩
      · exact hc08.mono fun z _ h => h.imp id fun h => by rw [ebs]; exact List.mem_append_left _ (hapL z h)
      · refine .mk (hr7.chg hc8 fun a e h => hp'b a e h) (hk.chg hc08 fun a e h => ?_) fun x hx => (hks x hx).chg hc08 fun z hz h => ?_
        · subst e
          rcases h with h | h
          · exact hoff' (List.mem_append_right _ (List.mem_append_left _ (by rw [<- h]; exact List.mem_singleton.2 rfl)))
          · exact hkidblk _ (List.mem_append_left _ (List.mem_singleton.2 rfl)) (hapL _ h)
        · rcases h with h | h
          · exact hoff' (List.mem_append_right _ (List.mem_append_right _ (by rw [<- h]; exact ZyK hx hz)))
          · exact hkidblk z (List.mem_append_right _ (ZyK hx hz)) (hapL z h)
      · have e9 : (NV.mk k u l tx p' l' c' L' kp kl kc ks).bs = Yam p' ++ (Yam kp ++ NV.bsL ks) := by simp only [NV.bs]
        rw [e9]
        rcases hf7 with rfl | hf7
        · exact ebs ▸ hbs
        · refine List.nodup_append.2 ⟨by cases p' <;> simp [Yam], hnR, fun a h1 b h2 e => ?_⟩
          subst e
          cases p' with
          | none => simp [Yam] at h1
          | some a' =>
            rw [List.mem_singleton.1 h1] at h2
            have := hf7 a' rfl
            have := hlt9 a'.block (by rw [ebs]; exact List.mem_append_right _ h2)
            omega
      · have e9 : (NV.mk k u l tx p' l' c' L' kp kl kc ks).bs = Yam p' ++ (Yam kp ++ NV.bsL ks) := by simp only [NV.bs]
        rw [e9, ebs]
        intro z hz
        rcases List.mem_append.1 hz with hz | hz
        · rcases hf7 with rfl | hf7
          · exact .inl (List.mem_append_left _ hz)
          · right
            cases p' with
            | none => simp [Yam] at hz
            | some a' => rw [List.mem_singleton.1 hz]; exact hf7 a' rfl
        · exact .inl (List.mem_append_right _ hz)
    refine Zzj (fun h4 => ?_) (fun h4 => ?_)
    · replace h4 : eop = 4 := h4
      have hno : ¬ ∃ a, ats[i]? = some a /\ nameOf a = (eu, en) := fun h => by have := F.f.2 h; rw [h4f h4] at this; cases this
      have H2d := H2.drew
      have c2d := c2.drew
      refine ⟨_, _, _, cell (j := 3) c2d rfl, ?_⟩
      refine H2d.ldStr 0 rfl (off := 2) rfl ?_
      refine H2d.ldStr 0 rfl (off := 3) rfl ?_
      refine H2d.ldStr 0 rfl (off := 4) rfl ?_
      refine ⟨rfl, rfl, ?_⟩
      refine H2d.newB (cs := atc (newAt (eu, en) et)) fun b53 w6 H6 hb53 hc6 => ?_
      have c6 := c2d.trans0 hc6
      have s2d : w2.drew.heap.size = w2.heap.size := rfl
      refine ⟨cell (j := 3) c6 rfl, ?_⟩
      refine InsAttr_ok (x := newAt (eu, en) et) (ha.chg c6 (off_no _)) (H6.get 0 rfl) (fun a e h => by have := ha.lt a e; omega) hi hmm fun p' c' w7 hr7 hc7 hf7 => ?_
      refine fin (Zqx ats (eu, en) et) p' (al + 1) c' w7 _ ?_ (c6.mono (fun _ _ h => h.elim) |>.trans hc7 fun _ _ h => h) (hf7.imp id fun h a e => by have := h a e; have := c6.size; omega) (by rw [Zy7, Zy7]) fun w8 hT => K2 w8 _ ?_ hT ?_
      · rw [found_ins F hasc' hno] at hr7; exact hr7
      · rw [if_neg (show ¬ E.op = 5 by omega)]
      · rw [Zy7, if_neg (show ¬ E.op = 5 by omega)]
    · replace h4 : ¬ eop = 4 := h4
      have h5 : eop = 5 := by omega
      rw [if_pos (hE1.trans h5)] at K1
      rw [if_pos (hE1.trans h5)] at K2
      refine Zzd (fun hft => ?_) (fun hff => ?_)
      · obtain ⟨a, hai, han⟩ := F.f.1 hft
        have hil := (List.getElem?_eq_some_iff.1 hai).1
        refine ⟨_, _, _, cell (j := 3) c2 rfl, ?_⟩
        rw [show w64 ((i : Int) + 1) = ((i + 1 : Nat) : Int) from by rw [Zzt] <;> omega]
        refine DelAttr_ok (ha.chg c2 (off_no _)) (by omega) hmm fun w9 hr9 hc9 => ?_
        refine fin (ZzM ats (eu, en)) ap (al - 1) ac w9 _ ?_ ((c2.mono fun _ _ h => h.elim).trans hc9 fun _ _ h => h) (.inl rfl) (by rw [Zy7, Zy7]) fun w10 hT => K2 w10 _ ?_ hT ?_
        · rw [found_del F hasc' hai han] at hr9; exact hr9
        · rw [<- hhas, hft]; rfl
        · rw [Zy7]
      · rw [<- hhas, hff] at K1
        exact K1 w2 (show (7 : Int) ≠ 0 by decide) (c2.mono fun _ _ h => h.elim)
  clear hJ22
  refine H2.ldI 0 rfl (off := 0) rfl ?_
  refine Zzj (fun h4 => ?_) (fun h4 => k22f fun h => absurd h h4)
  cases found with
  | true => exact k22t h4 rfl
  | false => exact k22f fun _ => rfl
end
end Go.Proofs.YtjlgopfceebdcaaGreatDoor
namespace Go.Vc
open Go Go.Lib
def doN (v : Nd) (e : Ed) : Int × Nd := if e.op < 1 \/ 6 < e.op then (1, v) else if e.pa = [] then (35, v) else edN v e.pa e
theorem YeT {s : List Int} : ∀ {r : List Int} {a b : Addr} {v y : NV}, addrAt a v r = some (b, y) -> addrAt a v (r ++ s) = addrAt b y s
 | [], a, b, v, y, h => by
  simp only [addrAt, Option.some.injEq, Prod.mk.injEq] at h
  obtain ⟨rfl, rfl⟩ := h; rfl
 | i :: r, a, b, .mk k u l t ap al ac ats kp kl kc ks, y, h => by
  simp only [addrAt] at h
  simp only [cons_append, addrAt]
  split at h
  ·cases h
  next hi =>
  rw [if_neg hi]
  split at h
  ·exact YeT h
  ·cases h
end Go.Vc
namespace Go.Proofs.YtjlgopfceebdcaaGreatDoor
open Go Go.Vc Go.Lib
section
variable {w w' w0 : World}
theorem Own.chg0 {v : NV} (h : Own w v) (hc : Chg No w w') : Own w' v := h.chg hc fun _ _ h => h
theorem Place.chg0 {b : Addr} {y : NV} {cs : List Value} {e : TypeId} (P : Place w b y cs e) (hc : Chg No w w') : Place w' b y cs e :=
 ⟨⟨hc.cells P.ta.cs (fun h => h), P.ta.own.chg0 hc, P.ta.nd, P.ta.off⟩, P.sp, hc.heap P.hb (fun h => h), P.ho⟩
theorem Turned.from0 {b : Addr} {y y' : NV} {cs : List Value} {e : TypeId} (h : Turned w0 w' b y y' cs e) (hc : Chg No w w0) : Turned w w' b y y' cs e :=
 ⟨(hc.mono fun _ _ h => h.elim).trans h.hc fun _ _ h => h, h.hb, h.own, h.nd, fun z hz => (h.bs z hz).imp id fun h => Nat.le_trans hc.size h⟩
theorem headK {bb bo : Nat} {k : Int} {u l tx : ByteArray} {ap : Option Addr} {al ac : Nat} {ats : List At} {kp : Option Addr} {kl kc : Nat} {ks : List NV} {cs : List Value} {t : TypeId} (hP : Place w ⟨bb, bo, none⟩ (.mk k u l tx ap al ac ats kp kl kc ks) cs t)
  {L' : List NV} {p' : Option Addr} {l' c' : Nat} {w7 : World} {J' : World -> Prop} (hr7 : Row w7 Zz3 6 p' l' c' (rows NV.cells L')) (hc7 : Chg (isB kp) w w7) (hf7 : p' = kp \/ fresh w p') (ho7 : ∀ x ∈ L', Own w7 x) (hn7 : (NV.bsL L').Nodup) (hb7 : ∀ z ∈ NV.bsL L', z ∈ NV.bsL ks \/ w.heap.size <= z) (hd7 : ∀ z ∈ NV.bsL L', ¬ isB p' z)
  (kk : ∀ w8, Turned w w8 ⟨bb, bo, none⟩ (.mk k u l tx ap al ac ats kp kl kc ks) (.mk k u l tx ap al ac ats p' l' c' L') cs t -> J' w8) :
  stV w7 ⟨bb, bo + 4, none⟩ (.slice p' l' c') J' := by
 have hget := hP.get
 have hbk : w.heap[bb]? = some (.cells ⟨cs⟩ t (0, 0)) := hP.hb
 have hbo : bo + 6 <= cs.length := hP.ho
 have hroom : bo + (NV.mk k u l tx ap al ac ats kp kl kc ks).cells.length <= cs.length := hbo
 have hoff := hP.ta.off
 have hbs := hP.ta.nd
 have hlt9 := hP.ta.own.lt
 have hbblt := Zy8 hbk
 have ebs : (NV.mk k u l tx ap al ac ats kp kl kc ks).bs = Yam ap ++ (Yam kp ++ NV.bsL ks) := by simp only [NV.bs]
 rw [ebs] at hoff hbs hlt9
 obtain ⟨hnA, hnR, hdA⟩ := nodup_append.1 hbs
 obtain ⟨hnK, hnL, hdK⟩ := nodup_append.1 hnR
 have hkL : ∀ z, isB kp z -> z ∈ Yam kp := by rintro z ⟨a, e, h⟩; subst e; rw [<- h]; exact mem_singleton.2 rfl
 have hnb : ∀ z, isB kp z -> z ≠ bb := fun z hz e => hoff (mem_append_right _ (mem_append_left _ (e ▸ hkL z hz)))
 have hown := hP.ta.own
 cases hown with
 | mk ha hk hks =>
 have hb7' := hc7.heap hbk (fun h => hnb bb h rfl)
 refine ((Hp.start w7 (fun x => x = bb)).add hb7' (by simp) (fun _ => rfl)).stV 0 rfl (off := bo + 4) (by omega) fun w8 H8 hc8 => ?_
 simp only [set_cons_zero] at H8
 have hg8 := H8.get 0 rfl
 rw [Yf9 (vs := (NV.mk k u l tx ap al ac ats kp kl kc ks).cells) hget hroom (by show 4 < 6; decide)] at hg8
 have hc08 : Chg (fun z => z = bb \/ isB kp z) w w8 := (hc7.mono fun z _ h => .inr h).trans hc8 fun z _ h => .inl h
 have hp'b : ∀ a, p' = some a -> a.block ≠ bb := fun a e h => by
  rcases hf7 with rfl | hf7
  ·exact hnb _ ⟨a, e, rfl⟩ h
  ·have := hf7 a e; omega
 have hzb : ∀ z ∈ NV.bsL L', z ≠ bb := fun z hz e => by
  rcases hb7 z hz with h | h
  ·exact hoff (mem_append_right _ (mem_append_right _ (e ▸ h)))
  ·omega
 have e9 : (NV.mk k u l tx ap al ac ats p' l' c' L').bs = Yam ap ++ (Yam p' ++ NV.bsL L') := by simp only [NV.bs]
 have hp'1 : ∀ z ∈ Yam p', isB p' z := fun z hz => by
  cases p' with
  | none => simp [Yam] at hz
  | some a => exact ⟨a, rfl, (mem_singleton.1 hz).symm⟩
 have hp'2 : ∀ z ∈ Yam p', z ∈ Yam kp \/ w.heap.size <= z := fun z hz => by
  rcases hf7 with rfl | hf7
  ·exact .inl hz
  ·obtain ⟨a, e, h⟩ := hp'1 z hz
   rw [<- h]; exact .inr (hf7 a e)
 refine kk w8 ⟨?_, hg8, ?_, ?_, ?_⟩
 ·exact hc08.mono fun z _ h => h.imp id fun h => by rw [ebs]; exact mem_append_right _ (mem_append_left _ (hkL z h))
 ·refine .mk (ha.chg hc08 fun a e h => ?_) (hr7.chg hc8 fun a e h => hp'b a e h) fun x hx => (ho7 x hx).chg hc8 fun z hz h => hzb z (ZyK hx hz) h
  subst e
  rcases h with h | h
  ·exact hoff (mem_append_left _ (by rw [<- h]; exact mem_singleton.2 rfl))
  ·exact hdA a.block (mem_singleton.2 rfl) _ (mem_append_left _ (hkL _ h)) rfl
 ·rw [e9]
  refine nodup_append.2 ⟨hnA, nodup_append.2 ⟨by cases p' <;> simp [Yam], hn7, fun a h1 b h2 e => ?_⟩, fun a h1 b h2 e => ?_⟩
  ·subst e; exact hd7 a h2 (hp'1 a h1)
  ·subst e
   have hlta := hlt9 a (mem_append_left _ h1)
   rcases mem_append.1 h2 with h2 | h2
   ·rcases hp'2 a h2 with h | h
    ·exact hdA a h1 a (mem_append_left _ h) rfl
    ·omega
   ·rcases hb7 a h2 with h | h
    ·exact hdA a h1 a (mem_append_right _ h) rfl
    ·omega
 ·rw [e9, ebs]
  intro z hz
  rcases mem_append.1 hz with hz | hz
  ·exact .inl (mem_append_left _ hz)
  rcases mem_append.1 hz with hz | hz
  ·exact (hp'2 z hz).imp (fun h => mem_append_right _ (mem_append_left _ h)) id
  ·exact (hb7 z hz).imp (fun h => mem_append_right _ (mem_append_right _ h)) id
theorem Do_ok {ab : Nat} {v : NV} {cs : List Value} {t : TypeId} {e : EV} {J : Int -> World -> Prop} (hP : Place w ⟨ab, 0, none⟩ v cs t) (he : EV.Ok w e) (hR : Right v.nd) (hm : v.mea + e.mea <= 10000000)
  (K1 : ∀ w', (doN v.nd e.ed).1 ≠ 0 -> Chg (fun z => z = ab \/ z ∈ v.bs) w w' -> J (doN v.nd e.ed).1 w')
  (K2 : ∀ w' v', (doN v.nd e.ed).1 = 0 -> TreeAt w' ⟨ab, 0, none⟩ v' -> v'.nd = (doN v.nd e.ed).2 -> (∀ z ∈ v'.bs, z ∈ v.bs \/ w.heap.size <= z) -> Chg (fun z => z = ab \/ z ∈ v.bs) w w' -> J 0 w') :
  Zz1 Tryz.prog Yfm #[.pointer (some ⟨ab, 0, none⟩), .agg ⟨e.cells⟩] w [.one (.int .i64)] J := by
 obtain ⟨eop, ep, el, ec, epa, eu, en, et, nv⟩ := e
 have hnode := he.nd
 have hpath : Sl w ep el 1 (rows YbR epa) := he.sl
 have hcap : el <= ec := he.cap
 have hpl : epa.length = el := hpath.row (fun _ _ => rfl) (by decide)
 obtain ⟨E, hE, hE1, hE2, hE3, hE4, hE5⟩ : ∃ E, EV.ed ⟨eop, ep, el, ec, epa, eu, en, et, nv⟩ = E /\ E.op = eop /\ E.pa = epa /\ E.name = (eu, en) /\ E.text = et /\ E.node = nv.nd := ⟨_, rfl, rfl, rfl, rfl, rfl, rfl⟩
 rw [hE] at K1 K2
 unfold EV.mea at hm
 simp only at hm hnode
 have he0 := he
 cases nv with
 | mk nk nu nl nt nap nal nac nas nkp nkl nkc nks =>
 unfold doN at K1 K2
 refine c_edit_do ?_
 refine Zxc (Hp.start w No) fun b3 w1 H1 hb3 hc1 => ?_
 simp only [EV.cells] at H1
 have hel : el <= 10000000 := by omega
 replace hcap : el <= ec := hcap
 refine Zzf fun J9 hJ9 => ?_
 have k9t : (eop < 1 \/ 6 < eop) -> J9 true w1 := by
  intro hb; subst hJ9
  refine Zzd (fun _ => ?_) (fun h => by cases h)
  rw [if_pos (show E.op < 1 \/ 6 < E.op by omega)] at K1
  exact K1 w1 (show (1 : Int) ≠ 0 by decide) (hc1.mono fun _ _ h => h.elim)
 have k9f : 1 <= eop -> eop <= 6 -> J9 false w1 := by
  intro ho1 ho6; subst hJ9
  rw [if_neg (show ¬ (E.op < 1 \/ 6 < E.op) by omega)] at K1
  rw [if_neg (show ¬ (E.op < 1 \/ 6 < E.op) by omega)] at K2
  refine Zzd (fun h => by cases h) (fun _ => ?_)
  refine H1.ldS 0 rfl (off := 1) rfl ?_
  refine Zzj (fun h0 => ?_) (fun h0 => ?_)
  ·replace h0 : (el : Int) = 0 := h0
   have : epa = [] := eq_nil_of_length_eq_zero (by omega)
   rw [if_pos (hE2.trans this)] at K1
   exact K1 w1 (show (35 : Int) ≠ 0 by decide) (hc1.mono fun _ _ h => h.elim)
  have hne : epa ≠ [] := fun h => h0 (by rw [<- hpl, h]; rfl)
  rw [if_neg (show ¬ E.pa = [] by rw [hE2]; exact hne), hE2] at K1
  rw [if_neg (show ¬ E.pa = [] by rw [hE2]; exact hne), hE2] at K2
  obtain ⟨r, i, hri⟩ := Yd9 hne
  have hrl : r.length + 1 = el := by rw [<- hpl, hri]; simp
  rw [hri] at K1 K2
  refine H1.ldS 0 rfl (off := 1) rfl ?_
  refine H1.ldS 0 rfl (off := 1) rfl ?_
  have e1 : w64 ((el : Int) - 1) = ((el - 1 : Nat) : Int) := by rw [Zzt] <;> omega
  rw [e1]
  have hp1 := hpath.chg hc1 (off_no _)
  refine Zzu (f := YbR) hp1 (fun _ _ => rfl) (by decide) (by omega) (by omega) fun ad z _ hz hcs => ?_
  rw [Int.toNat_natCast, hri, getElem?_append_right (by omega), show el - 1 - r.length = 0 by omega] at hz
  obtain rfl : i = z := Option.some.inj hz
  refine ⟨_, ZzC hcs, ?_⟩
  refine H1.ldS 0 rfl (off := 1) rfl ?_
  refine H1.ldS 0 rfl (off := 1) rfl ?_
  refine slS_sl (i := 0) (j := el - 1) hp1 rfl e1 (Nat.zero_le _) (by omega) hcap fun q39 h39 _ => ?_
  have e39 : ((rows YbR epa).drop (0 * 1)).take ((el - 1 - 0) * 1) = rows YbR r := by
   rw [Nat.zero_mul, drop_zero, Nat.sub_zero, YaZ (fun _ _ => rfl : ∀ x ∈ epa, (YbR x).length = 1), hri, take_left' (by omega)]
  rw [e39] at h39
  refine Find_ok (hP.chg0 hc1) h39 (by omega) (fun b y w3 hat hc3 => ?_) (fun w3 hat hc3 => ?_)
  rotate_left
  ·refine Zzf fun J71 hJ71 => ?_
   refine Zzd (fun _ => ?_) (fun h => by cases h)
   subst hJ71
   refine Zzd (fun _ => ?_) (fun h => by cases h)
   have hno := @Yhl w ⟨ab, 0, none⟩ r ⟨ab, 0, none⟩ v hP.ta.own
   rw [hat] at hno
   have h35 := Ygp (e := E) (i := i) (show nodeAt v.nd r = none from hno.symm)
   have := K1 w3 (by rw [h35]; decide) ((hc1.trans0 hc3).mono fun _ _ h => h.elim)
   rw [h35] at this; exact this
  obtain ⟨cs', t', P⟩ := Place.at (e := t) hP hat
  have hnd := @Yhl w ⟨ab, 0, none⟩ r ⟨ab, 0, none⟩ v hP.ta.own
  rw [hat] at hnd
  have hnd' : nodeAt v.nd r = some y.nd := hnd.symm
  rw [YeO hnd'] at K1 K2
  have hymea := Yew (z := y.nd) hnd'
  have hynode := Zqt hnd'
  have hsub : ∀ z, (z = b.block \/ z ∈ y.bs) -> z = ab \/ z ∈ v.bs := fun z hz => by
   rcases YcW (v := v) hat with ⟨_, rfl, rfl⟩ | ⟨g1, g2⟩
   ·exact hz
   ·rcases hz with rfl | hz
    ·exact .inr g1
    ·exact .inr (g2 z hz)
  have K2' : ∀ w8 y', Turned w w8 b y y' cs' t' -> Yau y.nd i E = (0, y'.nd) -> J 0 w8 := fun w8 y' hT h => by
   obtain ⟨v', a1, a2, a3⟩ := hT.tree P rfl hP.ta hat
   exact K2 w8 v' (by rw [h]) a1 (by rw [h]; exact a2) a3 (hT.hc.mono fun z _ hz => hsub z hz)
  have K4 := K2
  have K1' : ∀ w8 f, Chg (fun z => z = b.block \/ z ∈ y.bs) w w8 -> f ≠ 0 -> (Yau y.nd i E).1 = f -> J f w8 := fun w8 f hc hf h => by
   subst h
   exact K1 w8 hf (hc.mono fun z _ hz => hsub z hz)
  clear K1 K2
  have hH3 := H1.step0 hc3
  have c13 := hH3.chg
  have hyR : ∀ x : NV, nodeAt v.nd (r ++ [i]) = some x.nd -> ascB x.nd.attrs = true := fun x hx => asc_attrs hR hx
  have hna : nodeAt v.nd (r ++ [i]) = nodeAt y.nd [i] := by rw [YaM, hnd']; rfl
  obtain ⟨bb, bo, bsp⟩ := b
  have hsp := P.sp
  simp only at hsp
  subst hsp
  cases y with
  | mk k u l tx ap al ac ats kp kl kc ks =>
  have hyl : (NV.mk k u l tx ap al ac ats kp kl kc ks).mea <= 10000000 := by
   have h1 := YgN v
   have h2 := YgN (NV.mk k u l tx ap al ac ats kp kl kc ks)
   have h3 : (NV.mk k u l tx ap al ac ats kp kl kc ks).nd.mea <= v.nd.mea := by
    have h4 := Yew (z := Ya2) hnd'
    have : 1 <= (setAt v.nd r Ya2).mea := by
     cases hs : setAt v.nd r Ya2 with
     | mk k u l t a s => simp only [Nd.mea]; omega
    have h5 : Ya2.mea = 1 := by simp only [Ya2, Nd.mea, Nd.meaL]; decide
    omega
   omega
  have hown := P.ta.own
  have hown0 := hown
  cases hown with
  | mk ha hk hks =>
  have hkl := hk.sl.row (Zzp ks) (by decide)
  have hlm := Yag ks
  have hkm : kl <= 10000000 /\ NV.meaL ks <= 10000000 := by simp only [NV.mea] at hyl; omega
  have cell : ∀ {wx : World} {j : Nat} {v : Value}, Chg No w wx -> (NV.mk k u l tx ap al ac ats kp kl kc ks).cells[j]? = some v -> wx.cell? ⟨bb, bo + j, none⟩ = some v := fun hc hv => by
   have := hc.cells P.ta.cs (fun h => h) _ _ hv
   rwa [Addr.add_mk] at this
  have hHere : ¬ (i < 0 \/ (kl : Int) < i \/ (i = kl /\ eop ≠ 1)) -> Yau (NV.mk k u l tx ap al ac ats kp kl kc ks).nd i E = if E.op = 1 then (0, .mk k u l tx ats ((ks.map NV.nd).take i.toNat ++ E.node :: (ks.map NV.nd).drop i.toNat)) else if E.op = 2 then (0, .mk k u l tx ats ((ks.map NV.nd).take i.toNat ++ (ks.map NV.nd).drop (i.toNat + 1))) else if E.op = 3 then (0, .mk k u l tx ats ((ks.map NV.nd).set i.toNat E.node)) else match (ks.map NV.nd)[i.toNat]? with
    | some x => ((chgd x E).1, .mk k u l tx ats ((ks.map NV.nd).set i.toNat (chgd x E).2))
    | none => (35, .mk k u l tx ats (ks.map NV.nd)) := by
   intro h
   rw [Zy7]
   simp only [Yau]
   rw [if_neg (by rw [length_map, hkl, hE1]; exact h)]
   rfl
  refine Zzf fun J71 hJ71 => ?_
  have k71 : ∀ bl : Bool, (bl = true ↔ (i < 0 \/ (kl : Int) < i \/ (i = kl /\ eop ≠ 1))) -> J71 bl w3 := by
   intro bl hbl; subst hJ71
   refine Zzd (fun h => ?_) (fun h => ?_)
   ·have hbad := hbl.1 h
    refine K1' w3 35 (c13.mono fun _ _ h => h.elim) (by decide) ?_
    rw [Zy7]
    simp only [Yau]
    rw [if_pos (by rw [length_map, hkl, hE1]; exact hbad)]
   have hgood : ¬ (i < 0 \/ (kl : Int) < i \/ (i = kl /\ eop ≠ 1)) := fun g => by rw [hbl.2 g] at h; cases h
   have hH := hHere hgood
   clear hHere hbl
   obtain ⟨n, rfl⟩ : ∃ n : Nat, i = n := ⟨i.toNat, by omega⟩
   simp only [Int.toNat_natCast] at hH
   have hnk : n <= kl := by omega
   refine Zzf fun J0 hJ0 => ?_
   subst hJ0
   refine hH3.ldI 0 rfl (off := 0) rfl ?_
   refine Zzj (fun h1 => ?_) (fun h1 => ?_)
   · -- a node is put in
    replace h1 : eop = 1 := h1
    rw [if_pos (hE1.trans h1)] at hH
    have H3d := hH3.drew
    have c3d := c13.drew
    simp only [Zyn]
    rw [Addr.add_mk]
    refine ⟨_, _, _, cell (j := 4) c3d rfl, ?_⟩
    refine H3d.ldI 0 rfl (off := 5) rfl ?_
    refine H3d.ldStr 0 rfl (off := 6) rfl ?_
    refine H3d.ldStr 0 rfl (off := 7) rfl ?_
    refine H3d.ldS 0 rfl (off := 8) rfl ?_
    refine H3d.ldS 0 rfl (off := 9) rfl ?_
    refine H3d.ldStr 0 rfl (off := 10) rfl ?_
    refine Copy_ok (NV.mk nk nu nl nt nap nal nac nas nkp nkl nkc nks) hnode c3d (by omega) fun xv w6 hxnd hxown hxno hxbl hxm hc6 => ?_
    have c6 := c3d.trans0 hc6
    have hxlt := hxown.lt
    have hxc := Zy2 xv
    have hxnd' : xv.nd = E.node := hxnd.trans hE5.symm
    cases xv with
    | mk zk zu zl zt zap zal zac zas zkp zkl zkc zks =>
    refine ⟨cell (j := 4) c6 rfl, rfl, ?_⟩
    refine Zxc (Hp.start w6 No) (cs := (NV.mk zk zu zl zt zap zal zac zas zkp zkl zkc zks).cells) fun b93 w7 H7 hb93 hc7 => ?_
    have c7 := c6.trans0 hc7
    have z3d : w.heap.size <= w3.drew.heap.size := c3d.size
    have z6 := hc6.size
    have z7 := hc7.size
    refine ⟨cell (j := 4) c7 rfl, ?_⟩
    refine InsNode_ok (x := NV.mk zk zu zl zt zap zal zac zas zkp zkl zkc zks) (hk.chg c7 (off_no _)) (H7.get 0 rfl) (fun a e h => by have := hk.lt a e; omega) hnk (by omega) fun p' c' w8 hr8 hc8 hf8 => ?_
    have hklt : ∀ z, isB kp z -> z < w.heap.size := by rintro z ⟨a, e, h⟩; rw [<- h]; exact hk.lt a e
    have hkd : ∀ z ∈ NV.bsL ks, ¬ isB kp z := by
     have ebs : (NV.mk k u l tx ap al ac ats kp kl kc ks).bs = Yam ap ++ (Yam kp ++ NV.bsL ks) := by simp only [NV.bs]
     have hnn := P.ta.nd
     rw [ebs] at hnn
     obtain ⟨_, hnR, _⟩ := nodup_append.1 hnn
     obtain ⟨_, _, hdK⟩ := nodup_append.1 hnR
     rintro z hz ⟨a, e, h⟩
     subst e
     exact hdK a.block (mem_singleton.2 rfl) z hz h
    have hksn : (NV.bsL ks).Nodup := by
     have ebs : (NV.mk k u l tx ap al ac ats kp kl kc ks).bs = Yam ap ++ (Yam kp ++ NV.bsL ks) := by simp only [NV.bs]
     have hnn := P.ta.nd
     rw [ebs] at hnn
     exact (nodup_append.1 (nodup_append.1 hnn).2.1).2.1
    have hkslt : ∀ z ∈ NV.bsL ks, z < w.heap.size := fun z hz => hown0.lt z (by simp only [NV.bs]; exact mem_append_right _ (mem_append_right _ hz))
    have eL : NV.bsL ks = NV.bsL (ks.take n) ++ NV.bsL (ks.drop n) := by rw [<- Yad, take_append_drop]
    have eL' : NV.bsL (ks.take n ++ NV.mk zk zu zl zt zap zal zac zas zkp zkl zkc zks :: ks.drop n) = NV.bsL (ks.take n) ++ ((NV.mk zk zu zl zt zap zal zac zas zkp zkl zkc zks).bs ++ NV.bsL (ks.drop n)) := by rw [Yad, NV.bsL]
    have hmem : ∀ z ∈ NV.bsL (ks.take n ++ NV.mk zk zu zl zt zap zal zac zas zkp zkl zkc zks :: ks.drop n), z ∈ NV.bsL ks \/ z ∈ (NV.mk zk zu zl zt zap zal zac zas zkp zkl zkc zks).bs := fun z hz => by
     rw [eL'] at hz
     rw [eL]
     rcases mem_append.1 hz with hz | hz
     ·exact .inl (mem_append_left _ hz)
     rcases mem_append.1 hz with hz | hz
     ·exact .inr hz
     ·exact .inl (mem_append_right _ hz)
    have c08 : Chg (isB kp) w w8 := (c7.mono fun _ _ h => h.elim).trans hc8 fun _ _ h => h
    refine headK P (L' := ks.take n ++ NV.mk zk zu zl zt zap zal zac zas zkp zkl zkc zks :: ks.drop n) hr8 c08 (hf8.imp id fun h a e => by have := h a e; omega) (fun x hx => ?_) ?_ (fun z hz => ?_) (fun z hz => ?_) fun w9 hT => ?_
    ·rcases mem_append.1 hx with hx | hx
     ·have hxm := mem_of_mem_take hx
      exact (hks x hxm).chg c08 fun z hz h => hkd z (ZyK hxm hz) h
     ·rcases mem_cons.1 hx with rfl | hx
      ·exact (hxown.chg0 hc7).chg hc8 fun z hz h => by have := hxbl z hz; have := hklt z h; omega
      ·have hxm := mem_of_mem_drop hx
       exact (hks x hxm).chg c08 fun z hz h => hkd z (ZyK hxm hz) h
    ·rw [eL']
     rw [eL] at hksn hkslt
     obtain ⟨q1, q2, q3⟩ := nodup_append.1 hksn
     refine nodup_append.2 ⟨q1, nodup_append.2 ⟨hxno, q2, fun a h1 b h2 e => ?_⟩, fun a h1 b h2 e => ?_⟩
     ·subst e
      have := hxbl a h1; have := hkslt a (mem_append_right _ h2); omega
     ·subst e
      rcases mem_append.1 h2 with h2 | h2
      ·have := hxbl a h2; have := hkslt a (mem_append_left _ h1); omega
      ·exact q3 a h1 a h2 rfl
    ·exact (hmem z hz).imp id fun h => by have := hxbl z h; omega
    ·rcases hmem z hz with h | h
     ·rcases hf8 with rfl | hf8
      ·exact hkd z h
      ·rintro ⟨a, e, g⟩
       have := hf8 a e; have := hkslt z h; omega
     ·rcases hf8 with rfl | hf8
      ·intro g; have := hxbl z h; have := hklt z g; omega
      ·rintro ⟨a, e, g⟩
       have := hf8 a e; have := hxlt z h; omega
    ·refine K2' w9 _ hT ?_
     rw [hH, Zy7, map_append, map_cons, map_take, map_drop, hxnd']
   rw [if_neg (fun g => h1 (hE1.symm.trans g))] at hH
   replace h1 : ¬ eop = 1 := h1
   have hnlt : n < kl := by omega
   have hxget : ks[n]? = some ks[n] := getElem?_eq_getElem (by omega)
   generalize hxe : ks[n] = x at hxget
   clear hxe
   have hxm := mem_of_getElem? hxget
   obtain ⟨kb, rest, hkp, _⟩ := hk.some0 (show kl ≠ 0 by omega)
   refine Zzj (fun h2 => ?_) (fun h2 => ?_)
   · -- a node is struck
    replace h2 : eop = 2 := h2
    rw [if_pos (hE1.trans h2)] at hH
    simp only [Zyn]
    rw [Addr.add_mk]
    refine ⟨_, _, _, cell (j := 4) c13 rfl, ?_⟩
    rw [show w64 ((n : Int) + 1) = ((n + 1 : Nat) : Int) from by rw [Zzt] <;> omega]
    refine DelNode_ok (hk.chg c13 (off_no _)) hnlt (by omega) fun w10 hr10 hc10 => ?_
    have c010 : Chg (isB kp) w w10 := (c13.mono fun _ _ h => h.elim).trans hc10 fun _ _ h => h
    have ebs : (NV.mk k u l tx ap al ac ats kp kl kc ks).bs = Yam ap ++ (Yam kp ++ NV.bsL ks) := by simp only [NV.bs]
    have hnn := P.ta.nd
    rw [ebs] at hnn
    obtain ⟨_, hnR, _⟩ := nodup_append.1 hnn
    obtain ⟨_, hksn, hdK⟩ := nodup_append.1 hnR
    have hkd : ∀ z ∈ NV.bsL ks, ¬ isB kp z := by
     rintro z hz ⟨a, e, h⟩
     rw [e] at hdK
     exact hdK a.block (mem_singleton.2 rfl) z hz h
    have eL := bsL_get hxget
    have eL' : NV.bsL (ks.take n ++ ks.drop (n + 1)) = NV.bsL (ks.take n) ++ NV.bsL (ks.drop (n + 1)) := Yad _ _
    have hmem : ∀ z ∈ NV.bsL (ks.take n ++ ks.drop (n + 1)), z ∈ NV.bsL ks := fun z hz => by
     rw [eL'] at hz
     rw [eL]
     rcases mem_append.1 hz with hz | hz
     ·exact mem_append_left _ hz
     ·exact mem_append_right _ (mem_append_right _ hz)
    refine headK P (L' := ks.take n ++ ks.drop (n + 1)) hr10 c010 (.inl rfl) (fun x hx => ?_) ?_ (fun z hz => .inl (hmem z hz)) (fun z hz => hkd z (hmem z hz)) fun w11 hT => ?_
    ·have hxm : x ∈ ks := by
      rcases mem_append.1 hx with hx | hx
      ·exact mem_of_mem_take hx
      ·exact mem_of_mem_drop hx
     exact (hks x hxm).chg c010 fun z hz h => hkd z (ZyK hxm hz) h
    ·rw [eL']
     rw [eL] at hksn
     obtain ⟨q1, q2, q3⟩ := nodup_append.1 hksn
     exact nodup_append.2 ⟨q1, (nodup_append.1 q2).2.1, fun a h1 b h2 e => q3 a h1 b (mem_append_right _ h2) e⟩
    ·refine K2' w11 _ hT ?_
     rw [hH, Zy7, map_append, map_take, map_drop]
   rw [if_neg (fun g => h2 (hE1.symm.trans g))] at hH
   replace h2 : ¬ eop = 2 := h2
   subst hkp
   have hat2 : addrAt ⟨ab, 0, none⟩ v (r ++ [(n : Int)]) = some (⟨kb, 0 + n * 6, none⟩, x) := by
    rw [YeT hat]
    simp only [addrAt]
    rw [if_neg (by omega), Int.toNat_natCast, hxget]
   obtain ⟨cs2, t2, P2⟩ := Place.at (e := t) hP hat2
   have hxin : ∀ z, (z = kb \/ z ∈ x.bs) -> z = bb \/ z ∈ (NV.mk k u l tx ap al ac ats (some ⟨kb, 0, none⟩) kl kc ks).bs := fun z hz => by
    right
    simp only [NV.bs, Yam, mem_append, mem_singleton]
    rcases hz with hz | hz
    ·exact .inr (.inl hz)
    ·exact .inr (.inr (ZyK hxm hz))
   have hmget : (ks.map NV.nd)[n]? = some x.nd := by rw [getElem?_map, hxget]; rfl
    -- what is changed at the kid
   have K3 : ∀ w8 x', Turned w w8 ⟨kb, 0 + n * 6, none⟩ x x' cs2 t2 -> Yau (NV.mk k u l tx ap al ac ats (some ⟨kb, 0, none⟩) kl kc ks).nd (n : Int) E = (0, .mk k u l tx ats ((ks.map NV.nd).set n x'.nd)) -> J 0 w8 := fun w8 x' hT h => by
    obtain ⟨v', a1, a2, a3⟩ := hT.tree P2 rfl hP.ta hat2
    have e5 : setAt v.nd (r ++ [(n : Int)]) x'.nd = setAt v.nd r (.mk k u l tx ats ((ks.map NV.nd).set n x'.nd)) := by
     rw [Ybl hnd', Zy7, ZxF (n := .mk k u l tx ats (ks.map NV.nd)) (x := x.nd) (i := (n : Int)) (by rw [Int.toNat_natCast]; exact hmget)]
     rfl
    exact K4 w8 v' (by rw [h]) a1 (by rw [h, a2, e5]) a3 (hT.hc.mono fun z _ hz => hsub z (hxin z hz))
   refine Zzj (fun h3 => ?_) (fun h3 => ?_)
   ·replace h3 : eop = 3 := h3
    rw [if_pos (hE1.trans h3)] at hH
    have H3d := hH3.drew
    have c3d := c13.drew
    simp only [Zyn]
    rw [Addr.add_mk]
    refine ⟨_, _, _, cell (j := 4) c3d rfl, ?_⟩
    refine H3d.ldI 0 rfl (off := 5) rfl ?_
    refine H3d.ldStr 0 rfl (off := 6) rfl ?_
    refine H3d.ldStr 0 rfl (off := 7) rfl ?_
    refine H3d.ldS 0 rfl (off := 8) rfl ?_
    refine H3d.ldS 0 rfl (off := 9) rfl ?_
    refine H3d.ldStr 0 rfl (off := 10) rfl ?_
    refine Copy_ok (NV.mk nk nu nl nt nap nal nac nas nkp nkl nkc nks) hnode c3d (by omega) fun xv w12 hxnd hxown hxno hxbl hxm' hc12 => ?_
    have c12 := c3d.trans0 hc12
    have hxnd' : xv.nd = E.node := hxnd.trans hE5.symm
    have z3d : w.heap.size <= w3.drew.heap.size := c3d.size
    have hxlt := hxown.lt
    have h1x := Zy2 xv
    have hxcl := Zyq xv
    have hput : ∀ J' : World -> Prop, (∀ w13, Turned w w13 ⟨kb, 0 + n * 6, none⟩ x xv cs2 t2 -> J' w13) -> stN w12 ⟨kb, 0 + n * 6, none⟩ ⟨xv.cells⟩ 6 J' := fun J' kk => by
     have hg12 := c12.heap P2.hb (fun h => h)
     refine ((Hp.start w12 (fun z => z = kb)).add hg12 (by simp) (fun _ => rfl)).stN 0 rfl hxcl P2.ho h1x fun w13 H13 hc13 => ?_
     simp only [set_cons_zero] at H13
     refine kk w13 ⟨?_, H13.get 0 rfl, ?_, hxno, fun z hz => .inr (by have := hxbl z hz; omega)⟩
     ·exact ((c12.mono fun _ _ h => h.elim).trans hc13 fun _ _ h => h).mono fun z _ h => .inl h
     ·have hkblt := Zy8 P2.hb
      simp only at hkblt
      exact hxown.chg hc13 fun z hz h => by replace h : z = kb := h; have := hxbl z hz; omega
    cases xv with
    | mk zk zu zl zt zap zal zac zas zkp zkl zkc zks =>
    refine ⟨cell (j := 4) c12 rfl, ?_⟩
    refine YbF (by omega) (by omega) ?_
    rw [Addr.add_mk, Int.toNat_natCast]
    refine hput _ fun w13 hT => K3 w13 _ hT ?_
    rw [hH, hxnd']
   rw [if_neg (fun g => h3 (hE1.symm.trans g)), hmget] at hH
   replace h3 : ¬ eop = 3 := h3
   simp only at hH
   refine Zzj (fun h6 => ?_) (fun h6 => ?_)
   ·replace h6 : eop = 6 := h6
    simp only [Zyn]
    rw [Addr.add_mk]
    refine ⟨_, _, _, cell (j := 4) c13 rfl, ?_⟩
    refine YbF (by omega) (by omega) ?_
    rw [Addr.add_mk, Addr.add_mk, Int.toNat_natCast]
    have hget2 := P2.get
    have hbs2 := P2.ta.nd
    have hof2 := P2.ta.off
    have hown2 := P2.ta.own
    have hlt2 := hown2.lt
    have hc2cell : ∀ j v, x.cells[j]? = some v -> w3.cell? ⟨kb, 0 + n * 6 + j, none⟩ = some v := fun j v hv => by
     have := c13.cells P2.ta.cs (fun h => h) _ _ hv
     rwa [Addr.add_mk] at this
    cases x with
    | mk xk xu xl xt xap xal xac xas xkp xkl xkc xks =>
    rw [Zy7, Zy7] at hH
    simp only [chgd] at hH
    rw [if_pos (hE1.trans h6)] at hH
    refine Zzf fun J147 hJ147 => ?_
    have k147 : ∀ bl : Bool, (bl = true ↔ ¬ (xk = 3 \/ xk = 4 \/ xk = 5)) -> J147 bl w3 := by
     intro bl hbl; subst hJ147
     refine Zzd (fun h => ?_) (fun h => ?_)
     ·rw [if_neg (hbl.1 h)] at hH
      exact K1' w3 33 (c13.mono fun _ _ h => h.elim) (by decide) (by rw [Zy7, hH])
     ·have hyes : xk = 3 \/ xk = 4 \/ xk = 5 := Classical.not_not.1 fun g => by rw [hbl.2 g] at h; cases h
      rw [if_pos hyes] at hH
      refine hH3.ldStr 0 rfl (off := 4) rfl ?_
      have hg3 := c13.heap P2.hb (fun h => h)
      have hroom2 : 0 + n * 6 + (NV.mk xk xu xl xt xap xal xac xas xkp xkl xkc xks).cells.length <= cs2.length := P2.ho
      have ho2 := P2.ho
      simp only at ho2
      refine ((Hp.start w3 (fun z => z = kb)).add hg3 (by simp) (fun _ => rfl)).stV 0 rfl (off := 0 + n * 6 + 5) (by omega) fun w15 H15 hc15 => ?_
      simp only [set_cons_zero] at H15
      have hg15 := H15.get 0 rfl
      rw [Yf9 (vs := (NV.mk xk xu xl xt xap xal xac xas xkp xkl xkc xks).cells) hget2 hroom2 (by show 5 < 6; decide)] at hg15
      have c015 : Chg (fun z => z = kb) w w15 := (c13.mono fun _ _ h => h.elim).trans hc15 fun _ _ h => h
      refine K3 w15 (.mk xk xu xl et xap xal xac xas xkp xkl xkc xks) ⟨c015.mono fun z _ h => .inl h, hg15, ?_, hbs2, fun z hz => .inl hz⟩ ?_
      ·cases hown2 with
       | mk ha2 hk2 hks2 =>
        refine .mk (ha2.chg c015 fun a e h => hof2 ?_) (hk2.chg c015 fun a e h => hof2 ?_) fun y hy => (hks2 y hy).chg c015 fun z hz h => hof2 ?_
        ·subst e; simp only [NV.bs, Yam]; rw [<- h]; exact mem_append_left _ (mem_singleton.2 rfl)
        ·subst e; simp only [NV.bs, Yam]; rw [<- h]; exact mem_append_right _ (mem_append_left _ (mem_singleton.2 rfl))
        ·simp only [NV.bs]; rw [<- h]; exact mem_append_right _ (mem_append_right _ (ZyK hy hz))
      ·rw [Zy7, hH, Zy7, hE4]
    clear hJ147
    refine Zyw (hc2cell 0 _ rfl) ?_
    refine ZzL (fun g3 => ?_) (fun g3 => k147 false ⟨fun h => (by cases h), fun h => absurd (.inl g3) h⟩)
    refine Zyw (hc2cell 0 _ rfl) ?_
    refine ZzL (fun g4 => ?_) (fun g4 => k147 false ⟨fun h => (by cases h), fun h => absurd (.inr (.inl g4)) h⟩)
    refine Zyw (hc2cell 0 _ rfl) ?_
    refine k147 _ ?_
    rw [bne_iff_ne]; omega
   ·replace h6 : ¬ eop = 6 := h6
    have H3d := hH3.drew
    have c3d := c13.drew
    simp only [Zyn]
    rw [Addr.add_mk]
    refine ⟨_, _, _, cell (j := 4) c3d rfl, ?_⟩
    refine YbF (by omega) (by omega) ?_
    rw [Addr.add_mk, Int.toNat_natCast]
    refine H3d.ldI 0 rfl (off := 0) rfl ?_
    refine H3d.ldS 0 rfl (off := 1) rfl ?_
    refine H3d.ldStr 0 rfl (off := 2) rfl ?_
    refine H3d.ldStr 0 rfl (off := 3) rfl ?_
    refine H3d.ldStr 0 rfl (off := 4) rfl ?_
    refine H3d.ldI 0 rfl (off := 5) rfl ?_
    refine H3d.ldStr 0 rfl (off := 6) rfl ?_
    refine H3d.ldStr 0 rfl (off := 7) rfl ?_
    refine H3d.ldS 0 rfl (off := 8) rfl ?_
    refine H3d.ldS 0 rfl (off := 9) rfl ?_
    refine H3d.ldStr 0 rfl (off := 10) rfl ?_
    have hxmea := YdI hxm
    refine Attr_ok (e := ⟨eop, ep, el, ec, epa, eu, en, et, .mk nk nu nl nt nap nal nac nas nkp nkl nkc nks⟩) (P2.chg0 c3d) (show eop = 4 \/ eop = 5 by omega) (by omega) ?_ ?_
    ·refine hyR x ?_
     rw [hna, Zy7, Yda, if_neg (by omega), Int.toNat_natCast]; exact hmget
    ·rw [AttrPost, hE]
     refine ⟨fun w16 hf hc16 => ?_, fun w16 x' hf hT hx' => ?_⟩
     ·refine K1' w16 _ ?_ hf (by rw [hH])
      exact (c3d.mono fun _ _ h => h.elim).trans hc16 fun z _ hz => hxin z hz
     ·refine K3 w16 x' (hT.from0 c3d) ?_
      rw [hH, hx', hf]
  clear hJ71
  refine Zzd (fun h => by cases h) (fun _ => ?_)
  refine Zz5 (fun h => k71 true ⟨fun _ => .inl h, fun _ => rfl⟩) (fun h => ?_)
  simp only [Zyn]
  rw [Addr.add_mk]
  refine ⟨_, _, _, cell (j := 4) c13 rfl, ?_⟩
  refine Zz5 (fun h2 => k71 true ⟨fun _ => .inr (.inl (by omega)), fun _ => rfl⟩) (fun h2 => ?_)
  refine hH3.ldI 0 rfl (off := 0) rfl ?_
  refine ZzL (fun h3 => ?_) (fun h3 => k71 false ⟨fun g => (by cases g), fun g => ?_⟩)
  ·refine ⟨_, _, _, cell (j := 4) c13 rfl, ?_⟩
   refine k71 _ ?_
   rw [beq_iff_eq]
   replace h3 : eop ≠ 1 := h3
   omega
  ·replace h3 : eop = 1 := h3
   omega
 clear hJ9
 refine H1.ldI 0 rfl (off := 0) rfl ?_
 refine Zz5 (fun h => k9t (.inl h)) (fun h => ?_)
 refine H1.ldI 0 rfl (off := 0) rfl ?_
 replace h : ¬ eop < 1 := h
 show J9 (decide (eop > 6)) w1
 by_cases h6 : eop > 6
 ·rw [decide_eq_true h6]; exact k9t (.inr h6)
 ·rw [decide_eq_false h6]; exact k9f (by omega) (by omega)
end
end Go.Proofs.YtjlgopfceebdcaaGreatDoor
namespace Go.Proofs.YtjlgopfceebdcaaGreatDoor
open Go Go.Vc Go.Lib
section
variable {w w' : World}
theorem ldCs {b : Nat} {k0 : Int} {u0 l0 t0 : ByteArray} {ap kp : Option Addr} {al ac kl kc : Nat} {ats : List At} {ks : List NV} (h : Zzh w ⟨b, 0, none⟩ (NV.mk k0 u0 l0 t0 ap al ac ats kp kl kc ks).cells)
  {K : Int -> ByteArray -> ByteArray -> Option Addr -> Nat -> Nat -> Option Addr -> Nat -> Nat -> ByteArray -> Prop} (k : K k0 u0 l0 ap al ac kp kl kc t0) :
  ldI .i64 w ⟨b, 0, none⟩ fun x0 => ldStr w ⟨b, 1, none⟩ fun x1 => ldStr w ⟨b, 2, none⟩ fun x2 => ldS w ⟨b, 3, none⟩ fun p3 l3 c3 => ldS w ⟨b, 4, none⟩ fun p4 l4 c4 => ldStr w ⟨b, 5, none⟩ fun x5 => K x0 x1 x2 p3 l3 c3 p4 l4 c4 x5 := by
 have g : ∀ j v, (NV.mk k0 u0 l0 t0 ap al ac ats kp kl kc ks).cells[j]? = some v -> w.cell? ⟨b, j, none⟩ = some v := fun j v hv => by
  have := h j v hv
  rwa [Addr.add_mk, Nat.zero_add] at this
 exact ⟨_, g 0 _ rfl, _, g 1 _ rfl, _, g 2 _ rfl, _, _, _, g 3 _ rfl, _, _, _, g 4 _ rfl, _, g 5 _ rfl, k⟩
theorem ldEd {w0 : World} {S : Nat -> Prop} {Γ : List Blk} {b : Nat} {e : TypeId} (H : Hp w0 S w Γ) (i : Nat) {eop : Int} {ep : Option Addr} {el ec : Nat} {eu en et : ByteArray} {k0 : Int} {u0 l0 t0 : ByteArray} {ap kp : Option Addr} {al ac kl kc : Nat}
  (hi : Γ[i]? = some ⟨b, [.int .i64 eop, .slice ep el ec, .string eu, .string en, .string et, .int .i64 k0, .string u0, .string l0, .slice ap al ac, .slice kp kl kc, .string t0], e⟩)
  {K : Int -> Option Addr -> Nat -> Nat -> ByteArray -> ByteArray -> ByteArray -> Int -> ByteArray -> ByteArray -> Option Addr -> Nat -> Nat -> Option Addr -> Nat -> Nat -> ByteArray -> Prop} (k : K eop ep el ec eu en et k0 u0 l0 ap al ac kp kl kc t0) :
  ldI .i64 w ⟨b, 0, none⟩ fun y0 => ldS w ⟨b, 1, none⟩ fun q1 m1 d1 => ldStr w ⟨b, 2, none⟩ fun y2 => ldStr w ⟨b, 3, none⟩ fun y3 => ldStr w ⟨b, 4, none⟩ fun y4 =>
  ldI .i64 w ⟨b, 5, none⟩ fun x0 => ldStr w ⟨b, 6, none⟩ fun x1 => ldStr w ⟨b, 7, none⟩ fun x2 => ldS w ⟨b, 8, none⟩ fun p3 l3 c3 => ldS w ⟨b, 9, none⟩ fun p4 l4 c4 => ldStr w ⟨b, 10, none⟩ fun x5 => K y0 q1 m1 d1 y2 y3 y4 x0 x1 x2 p3 l3 c3 p4 l4 c4 x5 :=
 ⟨_, H.cell i hi rfl, _, _, _, H.cell i hi rfl, _, H.cell i hi rfl, _, H.cell i hi rfl, _, H.cell i hi rfl, _, H.cell i hi rfl, _, H.cell i hi rfl, _, H.cell i hi rfl, _, _, _, H.cell i hi rfl, _, _, _, H.cell i hi rfl, _, H.cell i hi rfl, k⟩
def zeroV : NV := .mk 0 ByteArray.empty ByteArray.empty ByteArray.empty none 0 0 [] none 0 0 []
theorem Ygj : zeroV.nd = Ya2 := by unfold zeroV; rw [Zy7]; rfl
theorem Ygu : Own w zeroV := .mk (Row.nil _ _ _) (Row.nil _ _ _) (fun x hx => by cases hx)
theorem zeroV_bs : zeroV.bs = [] := by unfold zeroV; simp [NV.bs, Yam, NV.bsL]
theorem Ygv : zeroV.mea = 1 := by rw [<- YgN, Ygj]; simp only [Ya2, Nd.mea, Nd.meaL]; decide
def ApPost (w : World) (d : Nd) (e : Ed) (m : Nat) (J : Int -> ByteArray -> ByteArray -> Option Addr -> Nat -> Nat -> Option Addr -> Nat -> Nat -> ByteArray -> Int -> World -> Prop) : Prop :=
 ∀ (x : NV) (w' : World), Chg No w w' -> x.nd = (applyN d e).2 -> Own w' x -> x.bs.Nodup -> (∀ z ∈ x.bs, w.heap.size <= z) -> x.mea <= m -> x.giv (fun a b c p l d1 q m n t w => J a b c p l d1 q m n t (applyN d e).1 w) w'
theorem Apply_ok {v : NV} {e : EV} {J : Int -> ByteArray -> ByteArray -> Option Addr -> Nat -> Nat -> Option Addr -> Nat -> Nat -> ByteArray -> Int -> World -> Prop} (T : TT w) (hv : v.Ok w) (he : EV.Ok w e) (hm : v.mea + e.mea <= 10000000) (K : ApPost w v.nd e.ed (v.mea + e.mea) J) :
  Zz1 Tryz.prog YaP #[.agg ⟨v.cells⟩, .agg ⟨e.cells⟩] w [.agg [.int .i64, .str, .str, .slice, .slice, .str], .one (.int .i64)] J := by
 obtain ⟨eop, ep, el, ec, epa, eu, en, et, nv⟩ := e
 obtain ⟨D, hD⟩ : ∃ D, v.nd = D := ⟨_, rfl⟩
 obtain ⟨E, hE⟩ : ∃ E, EV.ed ⟨eop, ep, el, ec, epa, eu, en, et, nv⟩ = E := ⟨_, rfl⟩
 have hEm : E.mea <= (EV.mea ⟨eop, ep, el, ec, epa, eu, en, et, nv⟩) := by rw [<- hE]; unfold EV.mea Ed.mea EV.ed; simp only [YgN]; omega
 rw [hE, hD] at K
 obtain ⟨M, hM⟩ : ∃ M, EV.mea ⟨eop, ep, el, ec, epa, eu, en, et, nv⟩ = M := ⟨_, rfl⟩
 rw [hM] at hm K hEm
 have K0 : ∀ f w', Chg No w w' -> f ≠ 0 -> (applyN D E).1 = f -> J 0 ByteArray.empty ByteArray.empty none 0 0 none 0 0 ByteArray.empty f w' := fun f w' hc hf h => by
  have h2 := apply_err (d := D) (e := E) (by rw [h]; exact hf)
  have := K zeroV w' hc (by rw [h2, Ygj]) Ygu (by rw [zeroV_bs]; exact nodup_nil) (by rw [zeroV_bs]; intro z hz; cases hz) (by
   rw [Ygv]
   cases v with
   | mk k u l t ap al ac ats kp kl kc ks => simp only [NV.mea]; omega)
  rw [h] at this
  exact this
 have hmv : v.mea <= 10000000 := by omega
 cases v with
 | mk k u l t ap al ac ats kp kl kc ks =>
 cases nv with
 | mk nk nu nl nt nap nal nac nas nkp nkl nkc nks =>
 refine c_edit_Apply ?_
 refine Zxc (Hp.start w No) fun b2 w1 H1 hb2 hc1 => ?_
 refine Zxc H1 fun b3 w2 H2 hb3 hc2 => ?_
 refine newZ H2 fun b4 w3 H3 hb4 hc3 => ?_
 have n22 := H2.lt 1 rfl
 have n23 := H2.lt 0 rfl
 have n2 := H3.lt 2 rfl
 have n3 := H3.lt 1 rfl
 have n4 := H3.lt 0 rfl
 have s1 := hc1.size
 have s2 := hc2.size
 refine Ya3 H3 2 rfl ?_
 refine Check_ok (x := NV.mk k u l t ap al ac ats kp kl kc ks) (T.chg H3.chg) (hv.chg0 H3.chg) hmv fun w4 hc4 => ?_
 have H4 := H3.step0 hc4
 rw [hD]
 have fail : ∀ {f : Int} {wx : World} {Γ : List Blk}, Hp w No wx (⟨b4, [.int .i64 0, .string ByteArray.empty, .string ByteArray.empty, .slice none 0 0, .slice none 0 0, .string ByteArray.empty], Zz3⟩ :: Γ) -> f ≠ 0 -> (applyN D E).1 = f ->
   stN wx ⟨b4, 0, none⟩ ⟨[.int .i64 (0 : Int), .string ByteArray.empty, .string ByteArray.empty, .slice none 0 0, .slice none 0 0, .string ByteArray.empty]⟩ 6 fun w5 =>
   ldI .i64 w5 ⟨b4, 0, none⟩ fun x0 => ldStr w5 ⟨b4, 1, none⟩ fun x1 => ldStr w5 ⟨b4, 2, none⟩ fun x2 => ldS w5 ⟨b4, 3, none⟩ fun p3 l3 c3 => ldS w5 ⟨b4, 4, none⟩ fun p4 l4 c4 => ldStr w5 ⟨b4, 5, none⟩ fun x5 => J x0 x1 x2 p3 l3 c3 p4 l4 c4 x5 f w5 := by
  intro f wx Γ H hf h
  refine H.stN 0 rfl (off := 0) rfl (by simp) (Zy2 zeroV) fun w5 H5 hc5 => ?_
  simp only [set_cons_zero] at H5
  refine Ya3 H5 0 rfl ?_
  exact K0 f w5 H5.chg hf h
 refine ZzL (fun hne => fail H4 hne (by unfold applyN; rw [if_pos hne])) (fun h0 => ?_)
 have hR : Right D := ZxR.1 h0
 refine Ya3 H4 2 rfl ?_
 refine Copy_ok (NV.mk k u l t ap al ac ats kp kl kc ks) hv H4.chg hmv fun v6 w6 hnd6 hown6 hnod6 hbl6 hmea6 hc6 => ?_
 have H6 := H4.step0 hc6
 have h4s := hc4.size
 have h6n : ∀ z ∈ v6.bs, z ≠ b2 /\ z ≠ b3 /\ z ≠ b4 /\ w.heap.size <= z := fun z hz => by have := hbl6 z hz; omega
 cases v6 with
 | mk zk zu zl zt zap zal zac zas zkp zkl zkc zks =>
 simp only [NV.giv]
 refine H6.stN 2 rfl (off := 0) rfl (by simp) (Zy2 (.mk zk zu zl zt zap zal zac [] zkp zkl zkc [])) fun w7 H7 hc7 => ?_
 simp only [set_cons_succ, set_cons_zero] at H7
 have hown7 := hown6.chg hc7 fun z hz h => (h6n z hz).1 h
 refine ldEd H7 1 rfl ?_
 have P : Place w7 ⟨b2, 0, none⟩ (.mk zk zu zl zt zap zal zac zas zkp zkl zkc zks) (NV.mk zk zu zl zt zap zal zac zas zkp zkl zkc zks).cells Zz3 :=
  ⟨⟨H7.cells 2 rfl 0, hown7, hnod6, fun h => (h6n b2 h).1 rfl⟩, rfl, H7.get 2 rfl, Nat.le_refl _⟩
 have n74 := H7.lt 0 rfl
 have HH : ∀ w8, Chg (fun z => z = b2 \/ z ∈ (NV.mk zk zu zl zt zap zal zac zas zkp zkl zkc zks).bs) w7 w8 -> Hp w No w8 [⟨b4, [.int .i64 0, .string ByteArray.empty, .string ByteArray.empty, .slice none 0 0, .slice none 0 0, .string ByteArray.empty], Zz3⟩] := fun w8 hc8 => by
  have G : Hp w No w7 [⟨b4, [.int .i64 0, .string ByteArray.empty, .string ByteArray.empty, .slice none 0 0, .slice none 0 0, .string ByteArray.empty], Zz3⟩] :=
   ⟨H7.chg, fun p hp => by rw [mem_singleton.1 hp]; exact H7.get 0 rfl, by simp, fun p hp hl => by rw [mem_singleton.1 hp] at hl ⊢; simp only at hl; omega⟩
  exact G.step hc8 (fun p hp h => by
   rw [mem_singleton.1 hp] at h
   rcases h with h | h
   ·simp only at h; omega
   ·exact (h6n b4 h).2.2.1 rfl) (fun z hl h => by
   rcases h with h | h
   ·omega
   ·have := (h6n z h).2.2.2; omega)
 refine Do_ok (e := ⟨eop, ep, el, ec, epa, eu, en, et, .mk nk nu nl nt nap nal nac nas nkp nkl nkc nks⟩) P (he.chg0 H7.chg) (by rw [hnd6, hD]; exact hR) (by rw [hmea6, hM]; exact hm) (fun w8 hf hc8 => ?_) (fun w8 v8 hf hta hnd8 hbl8 hc8 => ?_)
 ·rw [hnd6, hE, hD] at hf ⊢
  have H8 := HH w8 hc8
  refine ZzL (fun hne => fail H8 hne ?_) (fun h => absurd h hf)
  unfold doN at hf ⊢
  unfold applyN
  rw [if_neg (by rw [h0]; simp)]
  split
  ·rfl
  next h1 =>
  split
  ·rfl
  next h2 =>
  rw [if_neg h1, if_neg h2] at hf
  rw [if_pos hf]
 ·refine ZzL (fun hne => absurd rfl hne) (fun _ => ?_)
  rw [hnd6, hE, hD] at hf hnd8
  unfold doN at hf hnd8
  split at hf
  ·exact absurd (show (1 : Int) = 0 from hf) (by decide)
  next g1 =>
  rw [if_neg g1] at hnd8
  split at hf
  ·exact absurd (show (35 : Int) = 0 from hf) (by decide)
  next g2 =>
  rw [if_neg g2] at hnd8
  have hed : edN D E.pa E = (0, v8.nd) := Prod.ext hf hnd8.symm
  have hmea8 : v8.mea <= (NV.mk k u l t ap al ac ats kp kl kc ks).mea + M := by
   have := ed_mea g2 hed
   rw [YgN, <- hD, YgN] at this; omega
  have h7s : w7.heap.size = w7.heap.size := rfl
  have n72 := H7.lt 2 rfl
  have n74 := H7.lt 0 rfl
  have nz4 : ∀ z ∈ v8.bs, z ≠ b4 /\ w.heap.size <= z := fun z hz => by
   rcases hbl8 z hz with h | h
   ·have := h6n z h; omega
   ·have := H7.chg.size; omega
  have H8 := HH w8 hc8
  have hown8 := hta.own
  have hnod8 := hta.nd
  have hcs8 := hta.cs
  cases v8 with
  | mk yk yu yl yt yap yal yac yas ykp ykl ykc yks =>
  refine ldCs hcs8 ?_
  refine Check_ok (x := NV.mk yk yu yl yt yap yal yac yas ykp ykl ykc yks) (T.chg H8.chg) hown8.ok (by omega) fun w10 hc10 => ?_
  have H10 := H8.step0 hc10
  have hap : ∀ c, c = Yci (NV.mk yk yu yl yt yap yal yac yas ykp ykl ykc yks).nd -> applyN D E = if c ≠ 0 then (c, Ya2) else (0, (NV.mk yk yu yl yt yap yal yac yas ykp ykl ykc yks).nd) := fun c hc => by
   subst hc
   unfold applyN
   rw [if_neg (by rw [h0]; simp), if_neg g1, if_neg g2, if_neg (by rw [hf]; simp), hed]
  refine ZzL (fun hne => fail H10 hne (by rw [hap _ rfl, if_pos hne])) (fun hz => ?_)
  have hcs10 := hc10.cells hcs8 (fun h => h)
  refine ldCs hcs10 ?_
  refine H10.stN 0 rfl (off := 0) rfl (by simp) (Zy2 (.mk yk yu yl yt yap yal yac [] ykp ykl ykc [])) fun w12 H12 hc12 => ?_
  simp only [set_cons_zero] at H12
  refine Ya3 H12 0 rfl ?_
  have := K (NV.mk yk yu yl yt yap yal yac yas ykp ykl ykc yks) w12 H12.chg (by rw [hap _ rfl, if_neg (by rw [hz]; simp)]) ((hown8.chg0 hc10).chg hc12 fun z hz h => (nz4 z hz).1 h) hnod8 (fun z hz => (nz4 z hz).2) hmea8
  rw [hap _ rfl, if_neg (by rw [hz]; simp)] at this
  exact this
end
end Go.Proofs.YtjlgopfceebdcaaGreatDoor
namespace Go.Vc
open Go Go.Lib
theorem YeI (L : List Int) : Yej YbR 1 L := fun _ _ => rfl
theorem one1_ints (L : List Int) : one1 (rows YbR L) := Yan fun x _ => Zz9 rfl Zy4
end Go.Vc
namespace Go.Proofs.YtjlgopfceebdcaaGreatDoor
open Go Go.Vc Go.Lib
section
variable {w : World}
theorem Yep : SlT Tryz.prog Zqr Zqz 1 8 #[.int .i64 0] := SlT.of (by kernel_rfl) (by kernel_rfl) rfl (by decide)
theorem Yd4 {p : Option Addr} {l c : Nat} {xs : List Int} {J : Option Addr -> Nat -> Nat -> World -> Prop} (h : Sl w p l 1 (rows YbR xs)) (hn : p = none -> l = 0) (hm : l <= 1000000000)
  (K : ∀ p' c' w', Row w' Zqz 1 p' l c' (rows YbR xs) -> fresh w p' -> Chg No w w' -> J p' l c' w') : Zz1 Tryz.prog Zzx #[.slice p l c] w [.one .slice] J := by
 refine Yby ?_
 refine Zzd (fun e => ?_) (fun e => ?_)
 ·have hp : p = none := by cases p with | none => rfl | some a => cases e
  have h0 := hn hp
  subst h0
  have hx : xs = [] := eq_nil_of_length_eq_zero (h.row (YeI xs) (by decide))
  subst hx
  exact K none 0 w (Row.nil _ _ _) (by rintro a ⟨⟩) (Chg.refl _ _)
 ·refine newRow (sz := 1) (n := 0) (cs := []) rfl (by decide) fun b5 w1 hr1 hb1 hc1 => ?_
  refine Zx3 Yep hr1 (h.chg hc1 (off_no _)) (one1_ints xs) hn (by omega) (by simp only [maxLen]; omega) fun p' c' w' hr' hc' hf' => ?_
  simp only [Nat.zero_add, nil_append] at hr' ⊢
  refine K p' c' w' hr' ?_ ((hc1.mono fun _ _ h => h.elim).trans hc' fun b hb ⟨a, e, hab⟩ => by cases e; simp only at hab; omega)
  rcases hf' with rfl | hf'
  ·intro a e; cases e; exact hb1
  ·intro a e; have := hf' a e; have := hc1.size; omega
theorem SameInts_ok {p q : Option Addr} {l c l2 c2 : Nat} {X Y : List Int} {J : Bool -> World -> Prop} (h : Sl w p l 1 (rows YbR X)) (h2 : Sl w q l2 1 (rows YbR Y)) (hm : l <= 1000000000) (k : ∀ w', Chg No w w' -> J (decide (X = Y)) w') :
  Zz1 Tryz.prog Ya7 #[.slice p l c, .slice q l2 c2] w [.one .bool] J := by
 refine Yga ?_
 have hl := h.row (YeI X) (by decide)
 have hl2 := h2.row (YeI Y) (by decide)
 refine ZzL (fun hne => ?_) (fun he => ?_)
 ·have e : decide (X = Y) = false := decide_eq_false fun e => hne (by rw [<- hl, <- hl2, e])
  rw [e] at k; exact k w (Chg.refl _ _)
 have hll : l = l2 := by omega
 subst hll
 refine ⟨fun x w' t => ∃ i : Nat, x = i /\ i <= l /\ t = l - i /\ Chg No w w' /\ X.take i = Y.take i, ⟨_, 0, rfl, Nat.zero_le _, rfl, Chg.refl _ _, rfl⟩, ?_⟩
 rintro x w' t ⟨i, rfl, hi, rfl, hc, hs⟩
 have hcd := hc.drew
 refine Zz5 (fun hlt => ?_) (fun hge => ?_)
 ·refine Zzu (f := YbR) (h.chg hcd (off_no _)) (YeI X) (by decide) (by omega) hlt fun a x _ hx hcx => ⟨_, ZzC hcx, ?_⟩
  refine Zzu (f := YbR) (h2.chg hcd (off_no _)) (YeI Y) (by decide) (by omega) hlt fun a' y _ hy hcy => ⟨_, ZzC hcy, ?_⟩
  rw [Int.toNat_natCast] at hx hy
  refine ZzL (fun hf => ?_) (fun ht => ?_)
  ·have e : decide (X = Y) = false := decide_eq_false fun e => by
    rw [e, hy] at hx; exact hf (Option.some.inj hx).symm
   rw [e] at k; exact k _ hcd
  ·exact ⟨_, by omega, i + 1, by rw [Zzt] <;> omega, by omega, rfl, hcd, by rw [Ybk hx, Ybk hy, hs, ht]⟩
 ·have e : decide (X = Y) = true := decide_eq_true (by
   rw [take_of_length_le (by omega), take_of_length_le (by omega)] at hs; exact hs)
  rw [e] at k; exact k w' hc
end
end Go.Proofs.YtjlgopfceebdcaaGreatDoor
namespace Go.Vc
open Go Go.Lib
theorem atV_nd : ∀ {r : List Int} {v : NV}, (atV v r).map NV.nd = nodeAt v.nd r
 | [], v => rfl
 | i :: r, .mk k u l t ap al ac ats kp kl kc ks => by
  rw [Zy7]
  simp only [atV, kidV, NV.kidz, nodeAt]
  by_cases hi : i < 0
  ·rw [if_pos hi, if_pos hi]; rfl
  rw [if_neg hi, if_neg hi, getElem?_map]
  cases hx : ks[i.toNat]? with
  | none => rfl
  | some x => exact atV_nd (r := r) (v := x)
end Go.Vc
namespace Go.Proofs.YtjlgopfceebdcaaGreatDoor
open Go Go.Vc Go.Lib
section
variable {w w' : World}
end
end Go.Proofs.YtjlgopfceebdcaaGreatDoor
namespace Go.Vc
open Go Go.Lib
end Go.Vc
namespace Go.Proofs.YtjlgopfceebdcaaGreatDoor
open Go Go.Vc Go.Lib
section
variable {w w' : World}
end
end Go.Proofs.YtjlgopfceebdcaaGreatDoor
namespace Go.Vc
open Go Go.Lib
end Go.Vc
namespace Go.Proofs.YtjlgopfceebdcaaGreatDoor
open Go Go.Vc Go.Lib
section
variable {w : World}
end
end Go.Proofs.YtjlgopfceebdcaaGreatDoor
end
section
namespace Go.Proofs.YtjlgopfceebdcaaGreatDoor
open Go Go.Vc Go.Lib
structure LessT (x y : Nd) : Prop where
 kind : x.kind = y.kind
 uri : x.uri = y.uri
 loc : x.loc = y.loc
 text : x.text = y.text
 ats : x.attrs.Sublist y.attrs
 kk : x.kids.map Nd.kind = y.kids.map Nd.kind
theorem LessT.refl (x : Nd) : LessT x x := ⟨rfl, rfl, rfl, rfl, List.Sublist.refl _, rfl⟩
theorem Ybm {α β : Type} {f : α -> β} {L : List α} {i : Nat} {x z : α} (h : L[i]? = some x) (e : f z = f x) : (L.set i z).map f = L.map f := by
  obtain ⟨hi, rfl⟩ := List.getElem?_eq_some_iff.1 h
  rw [List.map_set, e, <- List.getElem_map (h := by rw [List.length_map]; exact hi) f, List.set_getElem_self]
theorem any_of_map {α : Type} (p : α -> Bool) (L : List α) : L.any p = (L.map p).any id := by rw [any_map]; rfl
theorem YcM (ks : List Nd) : (Nd.flatL ks).length = (ks.map fun k => k.flat.length).sum := by
 induction ks with
 | nil => rfl
 | cons x r ih => simp [Nd.flatL, ih]
theorem Ygq (a : Int) (n : Nd) : Yc7 a n = if n.kind = 2 then (if a > 32 then true else n.kids.any (Yc7 (a + 1))) else n.kids.any (Yc7 a) := by
 cases n with
 | mk k u l t ats ks =>
  simp only [Yc7, Nd.kind, Nd.kids, Yfr]
  rfl
theorem wk_kind (n : Nd) (ks : List Nd) : (ZxZ n ks).kind = n.kind := by cases n; rfl
theorem wk_uri (n : Nd) (ks : List Nd) : (ZxZ n ks).uri = n.uri := by cases n; rfl
theorem wk_loc (n : Nd) (ks : List Nd) : (ZxZ n ks).loc = n.loc := by cases n; rfl
theorem wk_text (n : Nd) (ks : List Nd) : (ZxZ n ks).text = n.text := by cases n; rfl
theorem wk_attrs (n : Nd) (ks : List Nd) : (ZxZ n ks).attrs = n.attrs := by cases n; rfl
theorem Yaa (n : Nd) : n.flat = n :: Nd.flatL n.kids := by cases n; rfl
theorem Yb1 {d y : Nd} {i : Int} {r : List Int} (h : nodeAt d (i :: r) = some y) : 0 <= i /\ ∃ x, d.kids[i.toNat]? = some x /\ nodeAt x r = some y := by
 rw [YbW] at h
 split at h
 ·cases h
 next hi =>
 split at h
 ·next x hx => exact ⟨by omega, x, hx, h⟩
 ·cases h
theorem less_set {y y' : Nd} (hl : LessT y' y) (hk : y'.kids = y.kids) : ∀ {r : List Int} {d : Nd}, nodeAt d r = some y ->
  LessT (setAt d r y') d /\ (∀ x ∈ (setAt d r y').flat, ∃ x0 ∈ d.flat, LessT x x0) /\ (∀ a, Yc7 a (setAt d r y') = Yc7 a d) /\ (setAt d r y').flat.length = d.flat.length
 | [], d, h => by
  have e : d = y := Option.some.inj h
  subst e
  have es : setAt d [] y' = y' := by cases d; rfl
  rw [es]
  refine ⟨hl, fun x hx => ?_, fun a => ?_, ?_⟩
  ·rw [Yaa, hk, mem_cons] at hx
   rcases hx with rfl | hx
   ·exact ⟨d, YeH d, hl⟩
   ·exact ⟨x, by rw [Yaa]; exact mem_cons_of_mem _ hx, LessT.refl x⟩
  ·rw [Ygq, Ygq, hl.kind, hk]
  ·rw [Yaa, Yaa d, hk]; rfl
 | i :: r, d, h => by
  obtain ⟨hi, x, hx, h'⟩ := Yb1 h
  obtain ⟨h1, h2, h3, h4⟩ := less_set hl hk h'
  rw [ZxF hx]
  refine ⟨⟨wk_kind _ _, wk_uri _ _, wk_loc _ _, wk_text _ _, by rw [wk_attrs]; exact List.Sublist.refl _, by rw [ZxY]; exact Ybm hx h1.kind⟩, fun z hz => ?_, fun a => ?_, ?_⟩
  ·rw [Yaa, ZxY, mem_cons] at hz
   rcases hz with rfl | hz
   ·exact ⟨d, YeH d, ⟨wk_kind _ _, wk_uri _ _, wk_loc _ _, wk_text _ _, by rw [wk_attrs]; exact List.Sublist.refl _, by rw [ZxY]; exact Ybm hx h1.kind⟩⟩
   ·obtain ⟨c, hc, hzc⟩ := YcL.1 hz
    rcases mem_or_eq_of_mem_set hc with hc | rfl
    ·exact ⟨z, by rw [Yaa]; exact mem_cons_of_mem _ (YcL.2 ⟨c, hc, hzc⟩), LessT.refl z⟩
    ·obtain ⟨x0, hx0, hle⟩ := h2 z hzc
     exact ⟨x0, by rw [Yaa]; exact mem_cons_of_mem _ (YcL.2 ⟨x, mem_of_getElem? hx, hx0⟩), hle⟩
  ·rw [Ygq, Ygq a d, wk_kind, ZxY]
   have e : ∀ b, (d.kids.set i.toNat (setAt x r y')).any (Yc7 b) = d.kids.any (Yc7 b) := fun b => by
    rw [any_of_map, any_of_map (Yc7 b) d.kids, Ybm hx (h3 b)]
   rw [e, e]
  ·rw [Yaa, Yaa d, ZxY, length_cons, length_cons, YcM, YcM, Ybm hx h4]
theorem all_sub {α : Type} {p : α -> Bool} {X Y : List α} (h : X.Sublist Y) (hy : Y.all p = true) : X.all p = true := by
 rw [all_eq_true] at hy ⊢
 exact fun x hx => hy x (h.subset hx)
theorem any_sub {α : Type} {p : α -> Bool} {X Y : List α} (h : X.Sublist Y) (hy : Y.any p = false) : X.any p = false := by
 rw [any_eq_false] at hy ⊢
 exact fun x hx => hy x (h.subset hx)
theorem sub_nil {α : Type} {X Y : List α} (h : X.Sublist Y) (hy : Y = []) : X = [] := by subst hy; exact sublist_nil.1 h
theorem YfS : ∀ {X Y : List Nd}, X.map Nd.kind = Y.map Nd.kind -> Zqo X = Zqo Y
 | [], [], _ => rfl
 | [_], [_], _ => rfl
 | [_], _ :: _ :: _, h => by simp at h
 | _ :: _ :: _, [_], h => by simp at h
 | [], _ :: _, h => by simp at h
 | _ :: _, [], h => by simp at h
 | a :: b :: r, c :: d :: s, h => by
  have h1 : a.kind = c.kind := by simp at h; exact h.1
  have h2 : b.kind = d.kind := by simp at h; exact h.2.1
  have h3 : (b :: r).map Nd.kind = (d :: s).map Nd.kind := by simp at h ⊢; exact h.2
  simp only [Zqo, h1, h2, YfS h3]
theorem LessT.kindG {x y : Nd} (h : LessT x y) (k : kindG y = true) : kindG x = true := by
 unfold Go.Vc.kindG at k ⊢
 have e1 : (x.kids.all fun k => mayK x.kind k.kind) = y.kids.all fun k => mayK y.kind k.kind := by
  have ex : (x.kids.all fun k => mayK x.kind k.kind) = (x.kids.map Nd.kind).all (mayK x.kind) := by rw [all_map]; rfl
  have ey : (y.kids.all fun k => mayK y.kind k.kind) = (y.kids.map Nd.kind).all (mayK y.kind) := by rw [all_map]; rfl
  rw [ex, ey, h.kk, h.kind]
 have e2 : x.kids.isEmpty = y.kids.isEmpty := by
  have := congrArg length h.kk
  rw [length_map, length_map] at this
  cases hx : x.kids <;> cases hy : y.kids <;> simp_all
 rw [e1, h.kind, h.uri, h.loc, h.text, e2]
 rw [Bool.and_eq_true] at k ⊢
 refine ⟨k.1, ?_⟩
 have k2 := k.2
 split at k2
 ·next h1 => rw [if_pos h1]; rw [decide_eq_true_eq] at k2 ⊢; exact ⟨k2.1, k2.2.1, k2.2.2.1, sub_nil h.ats k2.2.2.2⟩
 next h1 =>
 rw [if_neg h1]
 split at k2
 ·next h2 => rw [if_pos h2]; exact k2
 next h2 =>
 rw [if_neg h2]
 split at k2
 ·next h3 =>
  rw [if_pos h3]
  rw [Bool.and_eq_true, decide_eq_true_eq] at k2 ⊢
  exact ⟨⟨k2.1.1, k2.1.2.1, sub_nil h.ats k2.1.2.2⟩, k2.2⟩
 next h3 =>
 rw [if_neg h3]
 split at k2
 ·next h4 =>
  rw [if_pos h4]
  rw [Bool.and_eq_true, decide_eq_true_eq] at k2 ⊢
  exact ⟨⟨k2.1.1, sub_nil h.ats k2.1.2⟩, k2.2⟩
 ·cases k2
theorem LessT.right {d : Nd} {r : List Int} {y y' : Nd} (hl : LessT y' y) (hk : y'.kids = y.kids) (hn : nodeAt d r = some y) (hR : Right d) : Right (setAt d r y') := by
 obtain ⟨h1, h2, h3, h4⟩ := less_set hl hk hn
 have e : ∀ (p : Nd -> Bool), (∀ x z, LessT x z -> p z = true -> p x = true) -> (∀ x ∈ d.flat, p x = true) -> ∀ x ∈ (setAt d r y').flat, p x = true := fun p hp ha x hx => by
  obtain ⟨x0, m, l⟩ := h2 x hx
  exact hp x x0 l (ha x0 m)
 refine ⟨by rw [h1.kind]; exact hR.kind, e _ (fun x z l => l.kindG) hR.kinds, by rw [h3]; exact hR.deep, by rw [h4]; exact hR.few, fun x hx => ?_, e _ (fun x z l k => ?_) hR.names, e _ (fun x z l k => ?_) hR.chars, e _ (fun x z l k => ?_) hR.order, e _ (fun x z l k => ?_) hR.texts, ?_⟩
 ·obtain ⟨x0, m, l⟩ := h2 x hx
  have g := hR.great x0 m
  unfold YcC at g ⊢
  rw [Bool.or_eq_false_iff, Bool.or_eq_false_iff, decide_eq_false_iff_not, decide_eq_false_iff_not] at g ⊢
  have := l.ats.length_le
  exact ⟨⟨by omega, by rw [l.text]; exact g.1.2⟩, any_sub l.ats g.2⟩
 ·unfold nameG at k ⊢
  rw [Bool.and_eq_true, Bool.and_eq_true] at k ⊢
  rw [l.kind, l.uri, l.loc]
  exact ⟨⟨k.1.1, all_sub l.ats k.1.2⟩, k.2⟩
 ·unfold YfZ at k ⊢
  rw [Bool.and_eq_true] at k ⊢
  rw [l.text]
  exact ⟨k.1, all_sub l.ats k.2⟩
 ·unfold YfT at k ⊢
  exact pair_asc (List.Pairwise.sublist l.ats (Ydf k))
 ·unfold textN at k ⊢
  rw [YfS l.kk, l.kind, l.text]
  exact k
 ·have ex : ∀ n : Nd, rootsN n = (n.kids.map Nd.kind).countP fun k => decide (k = 2) := fun n => by unfold rootsN; rw [countP_map]; rfl
  rw [ex, h1.kk, <- ex]; exact hR.roots
def kidN (P : Nd -> Bool) : List Nd -> List Int -> Nat -> List (List Int × Nd)
 | [], _, _ => []
 | k :: ks, p, i => (if P k then [(p ++ [(i : Int)], k)] else []) ++ kidN P ks p (i + 1)
mutual
def Ye3 (P : Nd -> Bool) : Nd -> List Int -> List (List Int × Nd)
 | .mk _ _ _ _ _ ks, p => kidN P ks p 0 ++ belL P ks p 0
def belL (P : Nd -> Bool) : List Nd -> List Int -> Nat -> List (List Int × Nd)
 | [], _, _ => []
 | k :: ks, p, i => Ye3 P k (p ++ [(i : Int)]) ++ belL P ks p (i + 1)
end
theorem kidN_mem {P : Nd -> Bool} {q : List Int} {y : Nd} : ∀ {ks : List Nd} {p : List Int} {i : Nat}, (q, y) ∈ kidN P ks p i ↔ ∃ j : Nat, ks[j]? = some y /\ q = p ++ [((i + j : Nat) : Int)] /\ P y = true
 | [], p, i => by simp [kidN]
 | k :: ks, p, i => by
  rw [kidN, mem_append, kidN_mem (ks := ks)]
  constructor
  ·rintro (h | ⟨j, h1, h2, h3⟩)
   ·split at h
    ·next hk => simp only [mem_singleton, Prod.mk.injEq] at h; exact ⟨0, by simp [h.2], by simp [h.1], by rw [h.2]; exact hk⟩
    ·cases h
   ·exact ⟨j + 1, by simpa using h1, by rw [h2]; congr 3; omega, h3⟩
  ·rintro ⟨j, h1, h2, h3⟩
   cases j with
   | zero =>
    left
    simp only [getElem?_cons_zero, Option.some.injEq] at h1
    subst h1
    rw [if_pos h3, h2]; simp
   | succ j => right; exact ⟨j, by simpa using h1, by rw [h2]; congr 3; omega, h3⟩
mutual
theorem Yde {P : Nd -> Bool} {q : List Int} {y : Nd} : ∀ (n : Nd) {p : List Int}, (q, y) ∈ Ye3 P n p ↔ ∃ r, r ≠ [] /\ q = p ++ r /\ nodeAt n r = some y /\ P y = true
 | .mk k u l t ats ks, p => by
  rw [Ye3, mem_append, kidN_mem, belL_mem ks]
  constructor
  ·rintro (⟨j, h1, h2, h3⟩ | ⟨j, r, x, h0, h1, h2, h3, h4⟩)
   ·refine ⟨[(j : Int)], by simp, by rw [h2, Nat.zero_add], ?_, h3⟩
    rw [Yda, if_neg (by omega)]; simpa using h1
   ·refine ⟨(j : Int) :: r, by simp, by rw [h2, Nat.zero_add, append_assoc]; rfl, ?_, h4⟩
    rw [YbW, if_neg (by omega), Int.toNat_natCast]
    show (match ks[j]? with | some x => nodeAt x r | none => none) = _
    rw [h1]; exact h3
  ·rintro ⟨r, h0, h1, h2, h3⟩
   cases r with
   | nil => exact absurd rfl h0
   | cons i r =>
    obtain ⟨hi, x, hx, hr⟩ := Yb1 h2
    have ei : ((i.toNat : Nat) : Int) = i := Int.toNat_of_nonneg hi
    cases r with
    | nil =>
     left
     have e : x = y := Option.some.inj hr
     subst e
     exact ⟨i.toNat, hx, by rw [Nat.zero_add, ei]; exact h1, h3⟩
    | cons i2 r2 => right; exact ⟨i.toNat, i2 :: r2, x, by simp, hx, by rw [Nat.zero_add, ei, append_assoc]; exact h1, hr, h3⟩
theorem belL_mem {P : Nd -> Bool} {q : List Int} {y : Nd} : ∀ (ks : List Nd) {p : List Int} {i : Nat}, (q, y) ∈ belL P ks p i ↔ ∃ (j : Nat) (r : List Int) (x : Nd), r ≠ [] /\ ks[j]? = some x /\ q = (p ++ [((i + j : Nat) : Int)]) ++ r /\ nodeAt x r = some y /\ P y = true
 | [], p, i => by simp [belL]
 | k :: ks, p, i => by
  rw [belL, mem_append, Yde k, belL_mem ks]
  constructor
  ·rintro (⟨r, h0, h1, h2, h3⟩ | ⟨j, r, x, h0, h1, h2, h3, h4⟩)
   ·exact ⟨0, r, k, h0, rfl, h1, h2, h3⟩
   ·exact ⟨j + 1, r, x, h0, by simpa using h1, by rw [h2]; congr 4; omega, h3, h4⟩
  ·rintro ⟨j, r, x, h0, h1, h2, h3, h4⟩
   cases j with
   | zero =>
    left
    simp only [getElem?_cons_zero, Option.some.injEq] at h1
    subst h1
    exact ⟨r, h0, h2, h3, h4⟩
   | succ j => right; exact ⟨j, r, x, h0, by simpa using h1, by rw [h2]; congr 4; omega, h3, h4⟩
end
theorem kidN_len (P : Nd -> Bool) : ∀ (ks : List Nd) (p : List Int) (i : Nat), (kidN P ks p i).length = ks.countP P
 | [], _, _ => rfl
 | k :: ks, p, i => by
  rw [kidN, length_append, kidN_len P ks, countP_cons]
  split <;> simp <;> omega
theorem YgX (P : Nd -> Bool) (ks : List Nd) : (Nd.flatL ks).countP P = (ks.map fun k => k.flat.countP P).sum := by
 induction ks with
 | nil => rfl
 | cons x r ih => simp [Nd.flatL, ih]
theorem Yab (P : Nd -> Bool) (n : Nd) : n.flat.countP P = (Nd.flatL n.kids).countP P + (if P n = true then 1 else 0) := by
 rw [Yaa, countP_cons]
mutual
theorem Ygs (P : Nd -> Bool) : ∀ (n : Nd) (p : List Int), (Ye3 P n p).length = (Nd.flatL n.kids).countP P
 | .mk k u l t ats ks, p => by
  rw [Ye3, length_append, kidN_len, belL_len P ks, Nd.kids]
theorem belL_len (P : Nd -> Bool) : ∀ (ks : List Nd) (p : List Int) (i : Nat), ks.countP P + (belL P ks p i).length = (Nd.flatL ks).countP P
 | [], _, _ => rfl
 | k :: ks, p, i => by
  have h1 := Ygs P k (p ++ [(i : Int)])
  have h2 := belL_len P ks p (i + 1)
  rw [belL, length_append, countP_cons, Nd.flatL, countP_append, h1, Yab P k]
  omega
end
theorem sum_set {L : List Nat} {i : Nat} {x z : Nat} (h : L[i]? = some x) : (L.set i z).sum + x = L.sum + z := by
  obtain ⟨hi, rfl⟩ := List.getElem?_eq_some_iff.1 h
  rw [List.set_eq_take_append_cons_drop, if_pos hi, List.sum_append, List.sum_cons]
  have : L.sum = (L.take i).sum + (L[i] + (L.drop (i + 1)).sum) := by
    conv => lhs; rw [<- List.take_append_drop i L, List.drop_eq_getElem_cons hi]
    rw [List.sum_append, List.sum_cons]
  omega
theorem count_set {P : Nd -> Bool} (hP : ∀ n ks, P (ZxZ n ks) = P n) {y y' : Nd} (hk : y'.kids = y.kids) : ∀ {r : List Int} {d : Nd}, nodeAt d r = some y ->
  (setAt d r y').flat.countP P + (if P y = true then 1 else 0) = d.flat.countP P + (if P y' = true then 1 else 0)
 | [], d, h => by
  have e : d = y := Option.some.inj h
  subst e
  have es : setAt d [] y' = y' := by cases d; rfl
  rw [es, Yab P y', Yab P d, hk]; omega
 | i :: r, d, h => by
  obtain ⟨hi, x, hx, h'⟩ := Yb1 h
  have ih := count_set hP hk h'
  rw [ZxF hx, Yab, Yab P d, ZxY, hP, YgX, YgX, map_set]
  have := sum_set (L := d.kids.map fun k => k.flat.countP P) (i := i.toNat) (x := x.flat.countP P) (z := (setAt x r y').flat.countP P) (by rw [getElem?_map, hx]; rfl)
  omega
theorem bel_set {P : Nd -> Bool} (hP : ∀ n ks, P (ZxZ n ks) = P n) {y y' : Nd} (hk : y'.kids = y.kids) {r : List Int} {d : Nd} (hr : r ≠ []) (hn : nodeAt d r = some y) (p q : List Int) :
  (Ye3 P (setAt d r y') p).length + (if P y = true then 1 else 0) = (Ye3 P d q).length + (if P y' = true then 1 else 0) := by
 have h := count_set hP hk hn
 rw [Yab, Yab P d] at h
 rw [Ygs, Ygs]
 cases r with
 | nil => exact absurd rfl hr
 | cons i r =>
  obtain ⟨hi, x, hx, _⟩ := Yb1 hn
  rw [ZxF hx, hP, <- ZxF hx] at h
  omega
def ZzT (ats : List At) (n : Pr) : Option ByteArray := (ats.find? fun a => decide (nameOf a = n)).map (·.2.2)
def isEl (x : Nd) : Bool := decide (x.kind = 2)
def Ybb (n : Pr) (v : ByteArray) (x : Nd) : Bool := isEl x && decide (ZzT x.attrs n = some v)
theorem isEl_wk (n : Nd) (ks : List Nd) : isEl (ZxZ n ks) = isEl n := by unfold isEl; rw [wk_kind]
theorem hasV_wk (m : Pr) (v : ByteArray) (n : Nd) (ks : List Nd) : Ybb m v (ZxZ n ks) = Ybb m v n := by unfold Ybb; rw [isEl_wk, wk_attrs]
theorem YdK (P Q : Nd -> Bool) : ∀ (ks : List Nd) (p : List Int) (i : Nat), (kidN P ks p i).filter (fun s => Q s.2) = kidN (fun x => P x && Q x) ks p i
 | [], _, _ => rfl
 | k :: ks, p, i => by
  rw [kidN, kidN, filter_append, YdK P Q ks]
  by_cases h : P k = true
  ·by_cases h2 : Q k = true <;> simp [h, h2]
  ·simp [h]
mutual
theorem Yhh (P Q : Nd -> Bool) : ∀ (n : Nd) (p : List Int), (Ye3 P n p).filter (fun s => Q s.2) = Ye3 (fun x => P x && Q x) n p
 | .mk k u l t ats ks, p => by rw [Ye3, Ye3, filter_append, YdK, Yhi P Q ks]
theorem Yhi (P Q : Nd -> Bool) : ∀ (ks : List Nd) (p : List Int) (i : Nat), (belL P ks p i).filter (fun s => Q s.2) = belL (fun x => P x && Q x) ks p i
 | [], _, _ => rfl
 | k :: ks, p, i => by rw [belL, belL, filter_append, Yhh P Q k, Yhi P Q ks]
end
theorem first_mem {ats : List At} (h : ats.Pairwise fun a b => aLt a b = true) {n : Pr} {v : ByteArray} : ZzT ats n = some v ↔ newAt n v ∈ ats := by
 unfold ZzT
 constructor
 ·intro e
  obtain ⟨a, ha, rfl⟩ := Option.map_eq_some_iff.1 e
  have h1 := find?_some ha
  have h2 := mem_of_find?_eq_some ha
  rw [decide_eq_true_eq] at h1
  subst h1
  exact h2
 ·intro hm
  cases hf : ats.find? fun a => decide (nameOf a = n) with
  | none =>
   have := find?_eq_none.1 hf _ hm
   exact absurd (by rw [decide_eq_true_eq]; rfl) this
  | some a =>
   have h1 := find?_some hf
   rw [decide_eq_true_eq] at h1
   have h2 := mem_of_find?_eq_some hf
   have := asc_name h h2 hm (by rw [h1]; rfl)
   rw [this]; rfl
theorem first_none {ats : List At} {n : Pr} : ZzT ats n = none ↔ ∀ a ∈ ats, nameOf a ≠ n := by
 unfold ZzT
 rw [Option.map_eq_none_iff, find?_eq_none]
 constructor
 ·intro h a ha e; exact h a ha (by rw [decide_eq_true_eq]; exact e)
 ·intro h a ha e; rw [decide_eq_true_eq] at e; exact h a ha e
def Ybr (n : Pr) (E : List (List Int × Nd)) : List (List Int × Pr) := E.flatMap fun s => (s.2.attrs.filter fun a => decide (nameOf a = n)).map fun a => (s.1, nameOf a)
def ZqK (x : Nd) (t : List Int × Pr) : Option ByteArray := (nodeAt x t.1).bind fun y => if y.kind = 2 then ZzT y.attrs t.2 else none
theorem asc_one {ats : List At} (h : ats.Pairwise fun a b => aLt a b = true) (n : Pr) : (ats.filter fun a => decide (nameOf a = n)) = match ZzT ats n with | some v => [newAt n v] | none => [] := by
 induction ats with
 | nil => rfl
 | cons a r ih =>
  have hr := (pairwise_cons.1 h).2
  by_cases e : nameOf a = n
  ·have h0 : (r.filter fun a => decide (nameOf a = n)) = [] := by
    rw [filter_eq_nil_iff]
    intro b hb hn
    rw [decide_eq_true_eq] at hn
    have h1 := (pairwise_cons.1 h).1 b hb
    have := asc_name h (mem_cons_self) (mem_cons_of_mem _ hb) (e.trans hn.symm)
    subst this
    rw [aLt_irr] at h1; cases h1
   have hf : ZzT (a :: r) n = some a.2.2 := by unfold ZzT; rw [find?_cons_of_pos (by simp [e])]; rfl
   rw [filter_cons_of_pos (by simp [e]), h0, hf, <- e]
   rfl
  ·have hf : ZzT (a :: r) n = ZzT r n := by unfold ZzT; rw [find?_cons_of_neg (by simp [e])]
   rw [filter_cons_of_neg (by simp [e]), hf, ih hr]
theorem Yhk {x : Nd} {n : Pr} {v : ByteArray} : ∀ {E : List (List Int × Nd)}, (∀ s ∈ E, nodeAt x s.1 = some s.2 /\ s.2.kind = 2 /\ s.2.attrs.Pairwise fun a b => aLt a b = true) ->
  (Ybr n E).countP (fun t => decide (ZqK x t = some v)) = E.countP fun s => Ybb n v s.2
 | [], _ => rfl
 | s :: E, h => by
  have ih := Yhk (n := n) (v := v) fun s hs => h s (mem_cons_of_mem _ hs)
  obtain ⟨h1, h2, h3⟩ := h s mem_cons_self
  unfold Ybr at ih ⊢
  rw [flatMap_cons, countP_append, ih, countP_cons, asc_one h3]
  have hv : Ybb n v s.2 = decide (ZzT s.2.attrs n = some v) := by unfold Ybb isEl; rw [decide_eq_true h2, Bool.true_and]
  rw [hv]
  cases hf : ZzT s.2.attrs n with
  | none => simp
  | some z =>
   have : ZqK x (s.1, n) = some z := by unfold ZqK; rw [h1]; show (if s.2.kind = 2 then _ else _) = _; rw [if_pos h2, hf]
   simp only [map_cons, map_nil, countP_cons, countP_nil, newAt_name, this]
   omega
theorem attrs_ok {x : Nd} {n : Pr} {E : List (List Int × Nd)} (h : ∀ s ∈ E, nodeAt x s.1 = some s.2 /\ s.2.kind = 2) : ∀ t ∈ Ybr n E, ∃ v, ZqK x t = some v := by
 intro t ht
 obtain ⟨s, hs, ht⟩ := mem_flatMap.1 ht
 obtain ⟨a, ha, rfl⟩ := mem_map.1 ht
 obtain ⟨h1, h2⟩ := h s hs
 rw [mem_filter] at ha
 unfold ZqK
 rw [h1]
 show ∃ v, (if s.2.kind = 2 then ZzT s.2.attrs (nameOf a) else none) = some v
 rw [if_pos h2]
 cases hf : ZzT s.2.attrs (nameOf a) with
 | some v => exact ⟨v, rfl⟩
 | none => exact absurd rfl (first_none.1 hf a ha.1)
theorem ed_mod2 {d x : Nd} {p : List Int} {e : Ed} (hop : 4 <= e.op) (hp : p ≠ []) (h : nodeAt d p = some x) : edN d p e = ((chgd x e).1, setAt d p (chgd x e).2) := by
  obtain ⟨r, i, rfl⟩ := Yd9 hp
  rw [YaM] at h
  cases hup : nodeAt d r with
  | none => rw [hup] at h; cases h
  | some up =>
    rw [hup] at h
    replace h : nodeAt up [i] = some x := h
    rw [YeO hup, Ybl hup]
    cases up with
    | mk k u l t ats ks =>
    rw [Yda] at h
    split at h
    · cases h
    next hi =>
    obtain ⟨hlt, hx⟩ := List.getElem?_eq_some_iff.1 h
    rw [ZxF (n := .mk k u l t ats ks) (x := x) h]
    simp only [Yau]
    rw [if_neg (by omega), if_neg (by omega), if_neg (by omega), if_neg (by omega), h]
    have es : setAt x [] (chgd x e).2 = (chgd x e).2 := by cases x; rfl
    rw [es]; rfl
theorem chgd_drop {u l t : ByteArray} {ats : List At} {ks : List Nd} {e : Ed} (h5 : e.op = 5) (hh : YfC ats e.name = true) : chgd (.mk 2 u l t ats ks) e = (0, .mk 2 u l t (ZzM ats e.name) ks) := by
 simp [chgd, h5, hh]
theorem values_law {d x : Nd} {pa : List Int} {n v : ByteArray} (h : ApOk d ⟨4, pa, (Zza, n), v, Ya2⟩ x) :
  (∃ y, (pa, y) ∈ Ye3 (Ybb (Zza, n) v) x []) /\ ∃ y', ApOk x ⟨5, pa, (Zza, n), Zza, Ya2⟩ y' /\ (Ye3 (Ybb (Zza, n) v) y' []).length + 1 = (Ye3 (Ybb (Zza, n) v) x []).length := by
 have hpa : pa ≠ [] := h.pa
 obtain ⟨x0, hx0, hc, hx⟩ := ed_mod (e := ⟨4, pa, (Zza, n), v, Ya2⟩) (show (4 : Int) <= 4 by decide) hpa h.ed
 have hasc0 := Ydf ((ZxR.1 h.cd).order x0 (Zqt hx0))
 obtain ⟨u, l, t, ats, ks, rfl, hch⟩ := chgd_sets (e := ⟨4, pa, (Zza, n), v, Ya2⟩) (show (4 : Int) ≠ 6 by decide) hc
 rw [hch] at hx
 replace hasc0 : ats.Pairwise fun a b => aLt a b = true := hasc0
 have hasc := ed_asc (e := ⟨4, pa, (Zza, n), v, Ya2⟩) hasc0
 have hnew : newAt (Zza, n) v ∈ Yg0 ats ⟨4, pa, (Zza, n), v, Ya2⟩ := ed_mem.2 (.inl ⟨show (4 : Int) ≠ 5 by decide, rfl⟩)
 generalize Yg0 ats ⟨4, pa, (Zza, n), v, Ya2⟩ = A at hx hasc hnew
 have hn : nodeAt x pa = some (.mk 2 u l t A ks) := by rw [hx]; exact YfV hx0
 have hP : Ybb (Zza, n) v (.mk 2 u l t A ks) = true := by
  unfold Ybb isEl
  rw [Bool.and_eq_true, decide_eq_true_eq, decide_eq_true_eq]
  exact ⟨rfl, (first_mem hasc).2 hnew⟩
 refine ⟨⟨_, (Yde x).2 ⟨pa, hpa, rfl, hn, hP⟩⟩, setAt x pa (.mk 2 u l t (ZzM A (Zza, n)) ks), ⟨h.cn, ⟨show (1 : Int) <= 5 by decide, show (5 : Int) <= 6 by decide⟩, hpa, ?_, ?_⟩, ?_⟩
 ·show edN x pa _ = _
  rw [ed_mod2 (e := ⟨5, pa, (Zza, n), Zza, Ya2⟩) (show (4 : Int) <= 5 by decide) hpa hn]
  have : chgd (.mk 2 u l t A ks) ⟨5, pa, (Zza, n), Zza, Ya2⟩ = (0, .mk 2 u l t (ZzM A (Zza, n)) ks) := chgd_drop (e := ⟨5, pa, (Zza, n), Zza, Ya2⟩) rfl (has_iff.2 ⟨_, hnew, rfl⟩)
  rw [this]
 ·exact ZxR.2 (LessT.right (y := .mk 2 u l t A ks) (y' := .mk 2 u l t (ZzM A (Zza, n)) ks) ⟨rfl, rfl, rfl, rfl, filter_sublist, rfl⟩ rfl hn (ZxR.1 h.cn))
 ·have hP2 : Ybb (Zza, n) v (.mk 2 u l t (ZzM A (Zza, n)) ks) = false := by
   unfold Ybb
   have : ZzT (ZzM A (Zza, n)) (Zza, n) = none := first_none.2 fun a ha => (YeP.1 ha).2
   show (_ && decide (ZzT (ZzM A (Zza, n)) (Zza, n) = some v)) = false
   rw [this]; simp
  have := bel_set (P := Ybb (Zza, n) v) (hasV_wk _ _) (y := .mk 2 u l t A ks) (y' := .mk 2 u l t (ZzM A (Zza, n)) ks) rfl hpa hn [] []
  rw [hP, hP2] at this
  simpa using this
theorem bel_el {x : Nd} (hR : Right x) : ∀ s ∈ Ye3 isEl x [], nodeAt x s.1 = some s.2 /\ s.2.kind = 2 /\ s.2.attrs.Pairwise fun a b => aLt a b = true := by
 rintro ⟨q, y⟩ hs
 obtain ⟨r, h0, h1, h2, h3⟩ := (Yde x).1 hs
 rw [nil_append] at h1
 subst h1
 exact ⟨h2, of_decide_eq_true h3, Ydf (hR.order y (Zqt h2))⟩
theorem bel_count (n : Pr) (v : ByteArray) (x : Nd) (p : List Int) : (Ye3 isEl x p).countP (fun s => Ybb n v s.2) = (Ye3 (Ybb n v) x p).length := by
 rw [countP_eq_length_filter, Yhh]
 congr 2
 funext z
 unfold Ybb
 cases isEl z <;> rfl
end Go.Proofs.YtjlgopfceebdcaaGreatDoor
end
section
namespace Go.Vc
open Go Go.Lib
structure SpV where
 p : Option Addr
 l : Nat
 c : Nat
 path : List Int
 v : NV
def SpV.cells (s : SpV) : List Value := .slice s.p s.l s.c :: s.v.cells
theorem nv_len (v : NV) : v.cells.length = 6 := by cases v; rfl
theorem ZyD (L : List SpV) : Yej SpV.cells 7 L := fun x _ => by simp [SpV.cells, nv_len]
theorem YbV (x : SpV) : one1 x.cells := Zz9 rfl (Zy2 x.v)
def SpV.pr (s : SpV) : List Int × NV := (s.path, s.v)
def fitB (nd : Bool) (x : NV) : Bool := nd || decide (x.kd = 2)
def Zys (nd : Bool) : List NV -> List Int -> Nat -> List (List Int × NV)
 | [], _, _ => []
 | k :: ks, p, i => (if fitB nd k = true then [(p ++ [(i : Int)], k)] else []) ++ Zys nd ks p (i + 1)
theorem YdE {nd : Bool} {p : List Int} {x : NV} : ∀ (ks : List NV) (i : Nat), Zys nd (ks ++ [x]) p i = Zys nd ks p i ++ (if fitB nd x = true then [(p ++ [((i + ks.length : Nat) : Int)], x)] else [])
 | [], i => by simp [Zys]
 | k :: ks, i => by
  rw [cons_append, Zys, Zys, YdE ks (i + 1), append_assoc, length_cons, show i + 1 + ks.length = i + (ks.length + 1) by omega]
section
variable {w : World}
theorem IdxAttr_find {call : List Value -> World -> (Bool -> World -> Prop) -> Prop} {p : Option Addr} {l : Nat} {L : List At} {q : At -> Bool} {J : Int -> World -> Prop} (h : Sl w p l 3 (rows atc L)) (hm : l <= 100000000)
    (hcall : ∀ x ∈ L, ∀ (w' : World) (K : Bool -> World -> Prop), Chg No w w' -> (∀ w'', Chg No w w'' -> K (q x) w'') -> call (atc x) w' K)
    (K1 : ∀ (k : Nat) x w', Chg No w w' -> L[k]? = some x -> L.find? q = some x -> J k w') (K0 : ∀ w', Chg No w w' -> L.find? q = none -> J (-1) w') : YfO call p l w J := by
  have hl := h.row (ZyR L) (by decide)
  refine ⟨fun i w' t => ∃ k : Nat, i = k /\ k <= l /\ t = l - k /\ Chg No w w' /\ L.find? q = (L.drop k).find? q, ⟨_, 0, rfl, Nat.zero_le _, rfl, Chg.refl _ _, rfl⟩, ?_⟩
  rintro i w1 t ⟨k, rfl, hk, rfl, hc, hno⟩
  refine Zz5 (fun hlt => ?_) (fun hge => ?_)
  · refine Zzu (h.chg hc (off_no _)) (ZyR L) (by decide) (by omega) hlt fun a x _ hx hcs => ?_
    rw [Int.toNat_natCast] at hx
    have hmem := List.mem_of_getElem? hx
    obtain ⟨g1, g2⟩ := List.getElem?_eq_some_iff.1 hx
    rw [List.drop_eq_getElem_cons g1, g2, List.find?_cons] at hno
    refine ldAttr hcs ?_
    refine hcall x hmem w1 _ hc fun w2 c2 => ?_
    refine Zzd (fun hq => ?_) (fun hq => ?_)
    · rw [hq] at hno
      exact K1 k x w2 c2 hx hno
    · rw [hq] at hno
      exact ⟨_, by omega, k + 1, by rw [Zzt] <;> omega, by omega, rfl, c2, hno⟩
  · rw [List.drop_of_length_le (by omega), List.find?_nil] at hno
    exact K0 w1 hc hno
end
end Go.Vc
namespace Go.Proofs.YtjlgopfceebdcaaGreatDoor
open Go Go.Vc Go.Lib
def YdX : List Cd -> List (List Int × NV) -> List (List Int × NV)
 | [], l => l
 | .eq n v :: _, l => l.filter fun s => Ybb (Zza, n) v s.2.nd
 | .idx _ k :: _, l => if k > l.length then [] else (l.drop (k - 1)).take 1
mutual
def YgF (nd : Bool) (cs : List Cd) : NV -> List Int -> List (List Int × NV)
 | .mk _ _ _ _ _ _ _ _ _ _ _ ks, p => YdX cs (Zys nd ks p 0) ++ YaJ nd cs ks p 0
def YaJ (nd : Bool) (cs : List Cd) : List NV -> List Int -> Nat -> List (List Int × NV)
 | [], _, _ => []
 | k :: ks, p, i => YgF nd cs k (p ++ [(i : Int)]) ++ YaJ nd cs ks p (i + 1)
end
theorem YgE {nd : Bool} {cs : List Cd} {p : List Int} {x : NV} : ∀ (ks : List NV) (i : Nat), YaJ nd cs (ks ++ [x]) p i = YaJ nd cs ks p i ++ YgF nd cs x (p ++ [((i + ks.length : Nat) : Int)])
 | [], i => by simp [YaJ]
 | k :: ks, i => by
  rw [cons_append, YaJ, YaJ, YgE ks (i + 1), append_assoc, length_cons, show i + 1 + ks.length = i + (ks.length + 1) by omega]
theorem Yeo : SlT Tryz.prog Zzn Zz8 7 128 #[.slice none 0 0, .int .i64 0, .string ByteArray.empty, .string ByteArray.empty, .slice none 0 0, .slice none 0 0, .string ByteArray.empty] := SlT.of (by kernel_rfl) (by kernel_rfl) rfl (by decide)
theorem YbC : Zy6 Tryz.prog Zz8 = ⟨[.slice none 0 0, .int .i64 0, .string ByteArray.empty, .string ByteArray.empty, .slice none 0 0, .slice none 0 0, .string ByteArray.empty]⟩ := by kernel_rfl
def PathOk (w : World) (s : SpV) : Prop := Row w Zqz 1 s.p s.l s.c (rows YbR s.path)
section
variable {w w' : World}
theorem Fits_ok {s : StV} {nd : Bool} {x : NV} {J : Bool -> World -> Prop} (hs : s.test = if nd then Yao else YdL) (K : ∀ w', Chg No w w' -> J (fitB nd x) w') :
  Zz1 Tryz.prog Ya8 #[.agg ⟨s.cells⟩, .agg ⟨x.cells⟩] w [.one .bool] J := by
 obtain ⟨sd, sa, st, sn, sp, sl, sc, scs⟩ := s
 cases x with
 | mk k u l t ap al ac ats kp kl kc ks =>
  simp only at hs
  refine Ygc ?_
  refine (Hp.start w No).newB fun b2 w1 H1 _ hc1 => ?_
  refine H1.newB fun b3 w2 H2 _ hc2 => ?_
  refine H2.ldStr 1 rfl (off := 2) rfl ?_
  simp only [beqS]
  subst hs
  cases nd with
  | false =>
   refine Zz5 (fun _ => ?_) (fun h => absurd rfl h)
   refine H2.ldI 0 rfl (off := 0) rfl ?_
   exact leafQ (p := k = 2) (by have := K w2 H2.chg; rw [show fitB false (NV.mk k u l t ap al ac ats kp kl kc ks) = decide (k = 2) from rfl] at this; exact this) Iff.rfl
  | true =>
   refine Zz5 (fun h => absurd h (by decide)) (fun _ => ?_)
   refine Zz5 (fun h => absurd h (by decide)) (fun _ => ?_)
   refine Zz5 (fun h => absurd h (by decide)) (fun _ => ?_)
   refine Zz5 (fun _ => ?_) (fun h => absurd rfl h)
   exact K w2 H2.chg
theorem Holds_ok {n v : ByteArray} {x : NV} {J : Bool -> World -> Prop} (hx : x.Ok w) (hm : x.mea <= 100000000) (K : ∀ w', Chg No w w' -> J (Ybb (Zza, n) v x.nd) w') :
    Zz1 Tryz.prog ZqR #[.agg ⟨CV.cells ⟨61, 0, n, v⟩⟩, .agg ⟨x.cells⟩] w [.one .bool] J := by
  cases hx with
  | @mk k u l t ap al ac ats kp kl kc ks ha hn hac hk hkn hkc hks =>
    have hal := ha.row (ZyR ats) (by decide)
    have hmm : al <= 100000000 := by
      have := ZqM ats
      simp only [NV.mea] at hm; omega
    have hV : Ybb (Zza, n) v (NV.mk k u l t ap al ac ats kp kl kc ks).nd = (decide (k = 2) && decide (ZzT ats (Zza, n) = some v)) := rfl
    rw [hV] at K
    refine Yfy ?_
    refine (Hp.start w No).newB fun b2 w1 H1 _ hc1 => ?_
    refine H1.newB fun b3 w2 H2 _ hc2 => ?_
    refine H2.ldS 0 rfl (off := 3) rfl ?_
    refine ZyT ?_
    show YfO (fun cs w' K => Zz1 Tryz.prog Zqb #[.agg ⟨cs⟩, .pointer (some ⟨b2, 0, none⟩)] w' [.one .bool] K) ap al w2 _
    have ha2 := ha.chg H2.chg (off_no _)
    refine IdxAttr_find (q := fun a => decide (nameOf a = (Zza, n))) ha2 hmm (fun y hy w' K' hc kk => ?_) (fun i y w3 hc3 hy hf => ?_) (fun w3 hc3 hf => ?_)
    · refine Ye2 ?_
      have H' := H2.step0 hc
      refine H'.newB fun b4 w4 H4 _ hc4 => ?_
      refine H4.ldStr 0 rfl (off := 0) rfl ?_
      refine H4.ldStr 0 rfl (off := 1) rfl ?_
      simp only [Addr.add_mk, Nat.zero_add]
      refine H4.ldStr 2 rfl (off := 2) rfl ?_
      refine H4.ldStr 2 rfl (off := 3) rfl ?_
      simp only [beqS]
      have e : (decide (y.1 = ByteArray.empty) && (decide (y.2.1 = n) && true)) = decide (nameOf y = (Zza, n)) := by
        rw [Bool.and_true, <- Bool.decide_and]
        refine decide_eq_decide.2 ?_
        unfold nameOf
        rw [Prod.mk.injEq]
        exact Iff.rfl
      rw [e]
      exact kk w4 (hc.trans0 hc4)
    · have H3 := H2.step0 hc3
      have hv0 : ZzT ats (Zza, n) = some y.2.2 := by unfold ZzT; rw [hf]; rfl
      refine Zzf fun J23 hJ23 => ?_
      have k23 : J23 (decide (k ≠ 2)) w3 := by
        subst hJ23
        refine Zz5 (fun h => ?_) (fun h => ?_)
        · have := K w3 H3.chg
          rw [decide_eq_false h] at this; exact this
        · have h2 : k = 2 := by omega
          refine H3.ldS 0 rfl (off := 3) rfl ?_
          refine Zzu (ha2.chg hc3 (off_no _)) (ZyR ats) (by decide) (by omega) (by have := (List.getElem?_eq_some_iff.1 hy).1; omega) fun a z hpa hz hcs => ?_
          rw [Int.toNat_natCast, hy] at hz
          obtain rfl := Option.some.inj hz
          refine Zyv (Yh7 hcs 2 rfl) ?_
          refine H3.ldI 1 rfl (off := 0) rfl ?_
          refine Zzj (fun _ => ?_) (fun h => absurd rfl h)
          refine H3.ldStr 1 rfl (off := 4) rfl ?_
          rw [beqS]
          have := K w3 H3.chg
          rw [decide_eq_true h2, hv0, Bool.true_and] at this
          rw [show decide (y.2.2 = v) = decide (some y.2.2 = some v) from decide_eq_decide.2 (by rw [Option.some.injEq])]
          exact this
      clear hJ23
      refine Zz5 (fun h => by omega) (fun _ => ?_)
      refine H3.ldI 0 rfl (off := 0) rfl ?_
      rw [show ((k != 2) = decide (k ≠ 2)) by simp [bne]; rfl]
      exact k23
    · have H3 := H2.step0 hc3
      have hv0 : ZzT ats (Zza, n) = none := by unfold ZzT; rw [hf]; rfl
      refine Zzf fun J23 hJ23 => ?_
      subst hJ23
      refine Zz5 (fun _ => ?_) (fun h => absurd (by decide) h)
      refine Zzd (fun _ => ?_) (fun h => by cases h)
      have := K w3 H3.chg
      rw [hv0] at this
      simpa using this
end
end Go.Proofs.YtjlgopfceebdcaaGreatDoor
end
section
namespace Go.Vc
open Go Go.Lib
section
variable {w : World}
theorem ldSpot {a : Addr} {p0 : Option Addr} {l0 c0 : Nat} {k1 : Int} {u2 l3 t6 : ByteArray} {ap kp : Option Addr} {al ac kl kc : Nat} (hc : Zzh w a [.slice p0 l0 c0, .int .i64 k1, .string u2, .string l3, .slice ap al ac, .slice kp kl kc, .string t6])
  {K : Option Addr -> Nat -> Nat -> Int -> ByteArray -> ByteArray -> Option Addr -> Nat -> Nat -> Option Addr -> Nat -> Nat -> ByteArray -> Prop} (k : K p0 l0 c0 k1 u2 l3 ap al ac kp kl kc t6) :
  ldS w a fun x0 x1 x2 => ldI .i64 w (a.add 1) fun y1 => ldStr w (a.add 2) fun y2 => ldStr w (a.add 3) fun y3 => ldS w (a.add 4) fun p4 l4 c4 => ldS w (a.add 5) fun p5 l5 c5 => ldStr w (a.add 6) fun y6 => K x0 x1 x2 y1 y2 y3 p4 l4 c4 p5 l5 c5 y6 :=
 ⟨_, _, _, ZzC hc, _, hc 1 _ rfl, _, hc 2 _ rfl, _, hc 3 _ rfl, _, _, _, hc 4 _ rfl, _, _, _, hc 5 _ rfl, _, hc 6 _ rfl, k⟩
theorem Yhf {w0 : World} {S : Nat -> Prop} {Γ : List Blk} {b : Nat} {e : TypeId} (H : Hp w0 S w Γ) (i : Nat) {p0 : Option Addr} {l0 c0 : Nat} {k1 : Int} {u2 l3 t6 : ByteArray} {ap kp : Option Addr} {al ac kl kc : Nat}
  (hi : Γ[i]? = some ⟨b, [.slice p0 l0 c0, .int .i64 k1, .string u2, .string l3, .slice ap al ac, .slice kp kl kc, .string t6], e⟩)
  {K : Option Addr -> Nat -> Nat -> Int -> ByteArray -> ByteArray -> Option Addr -> Nat -> Nat -> Option Addr -> Nat -> Nat -> ByteArray -> Prop} (k : K p0 l0 c0 k1 u2 l3 ap al ac kp kl kc t6) :
  ldS w ⟨b, 0, none⟩ fun x0 x1 x2 => ldI .i64 w ⟨b, 1, none⟩ fun y1 => ldStr w ⟨b, 2, none⟩ fun y2 => ldStr w ⟨b, 3, none⟩ fun y3 => ldS w ⟨b, 4, none⟩ fun p4 l4 c4 => ldS w ⟨b, 5, none⟩ fun p5 l5 c5 => ldStr w ⟨b, 6, none⟩ fun y6 => K x0 x1 x2 y1 y2 y3 p4 l4 c4 p5 l5 c5 y6 :=
 ⟨_, _, _, H.cell i hi rfl, _, H.cell i hi rfl, _, H.cell i hi rfl, _, H.cell i hi rfl, _, _, _, H.cell i hi rfl, _, _, _, H.cell i hi rfl, _, H.cell i hi rfl, k⟩
theorem spl7 {a b c d e f g a' b' c' d' e' f' g' : Value} : splice [a, b, c, d, e, f, g] 0 [a', b', c', d', e', f', g'] = [a', b', c', d', e', f', g'] := ZqB rfl
end
end Go.Vc
namespace Go.Proofs.YtjlgopfceebdcaaGreatDoor
open Go Go.Vc Go.Lib
section
variable {w w' : World}
theorem CloP_ok {n v : ByteArray} {x : SpV} {b : Nat} {J : Bool -> World -> Prop} (hx : x.v.Ok w) (hm : x.v.mea <= 100000000) (hc : w.heap[b]? = some (.cells ⟨CV.cells ⟨61, 0, n, v⟩⟩ Zzy (0, 0))) (K : ∀ w', Chg No w w' -> J (!Ybb (Zza, n) v x.v.nd) w') :
  Zz1 Tryz.prog Zq2 #[.agg ⟨x.cells⟩, .pointer (some ⟨b, 0, none⟩)] w [.one .bool] J := by
 obtain ⟨xp, xl, xc, xpath, xv⟩ := x
 cases xv with
 | mk k u l t ap al ac ats kp kl kc ks =>
  refine Ygb ?_
  simp only [Addr.add_mk, Nat.zero_add]
  refine (Hp.start w No).newB fun b2 w1 H1 _ hc1 => ?_
  have Hc := (Hp.of_chg (w0 := w1) (S := No) (Chg.refl No w1))
  have hb := hc1.heap hc (fun f => f)
  have cell : ∀ j v', (CV.cells ⟨61, 0, n, v⟩)[j]? = some v' -> w1.cell? ⟨b, j, none⟩ = some v' := fun j v' hv => by
   rw [cell_of_row w1 b j _ Zzy (0, 0) hb]; simpa using hv
  refine Zyw (cell 0 _ rfl) (Zyw (cell 1 _ rfl) (Zyv (cell 2 _ rfl) (Zyv (cell 3 _ rfl) (Zyv (cell 4 _ rfl) (ldV_i (cell 5 _ rfl) ?_)))))
  refine H1.ldI 0 rfl (off := 1) rfl ?_
  refine H1.ldStr 0 rfl (off := 2) rfl ?_
  refine H1.ldStr 0 rfl (off := 3) rfl ?_
  refine H1.ldS 0 rfl (off := 4) rfl ?_
  refine H1.ldS 0 rfl (off := 5) rfl ?_
  refine H1.ldStr 0 rfl (off := 6) rfl ?_
  exact Holds_ok (x := .mk k u l t ap al ac ats kp kl kc ks) (hx.chg0 hc1) hm fun w2 hc2 => K w2 (hc1.trans0 hc2)
theorem SpIdx_ok {n v : ByteArray} {p : Option Addr} {l c : Nat} {S : List SpV} {b : Nat} {J : Int -> World -> Prop} (h : Sl w p l 7 (rows SpV.cells S)) (hm : l <= 100000000) (hS : ∀ s ∈ S, s.v.Ok w /\ s.v.mea <= 100000000)
    (hc : w.heap[b]? = some (.cells ⟨CV.cells ⟨61, 0, n, v⟩⟩ Zzy (0, 0)))
    (k0 : (∀ s ∈ S, Ybb (Zza, n) v s.v.nd = true) -> ∀ w', Chg No w w' -> J (-1) w') (k1 : ∀ (i : Nat) s, S[i]? = some s -> Ybb (Zza, n) v s.v.nd = false -> (∀ s ∈ S.take i, Ybb (Zza, n) v s.v.nd = true) -> ∀ w', Chg No w w' -> J i w') :
    Zz1 Tryz.prog ZzH #[.slice p l c, .func (.func 53) #[] #[.pointer (some ⟨b, 0, none⟩)]] w [.one (.int .i64)] J := by
  refine ZyJ ?_
  have hl := h.row (ZyD S) (by decide)
  refine ⟨fun x w' t => ∃ i : Nat, x = i /\ i <= l /\ t = l - i /\ Chg No w w' /\ ∀ s ∈ S.take i, Ybb (Zza, n) v s.v.nd = true, ⟨_, 0, rfl, Nat.zero_le _, rfl, Chg.refl _ _, by simp⟩, ?_⟩
  rintro x w1 t ⟨i, rfl, hi, rfl, hc1, hno⟩
  refine Zz5 (fun hlt => ?_) (fun hge => ?_)
  · refine Zzu (h.chg hc1 (off_no _)) (ZyD S) (by decide) (by omega) hlt fun a y hpa hy hcs => ?_
    rw [Int.toNat_natCast] at hy
    have hyS := hS y (List.mem_of_getElem? hy)
    have goalK : ∀ w2, Chg No w1 w2 -> Zz2 (!Ybb (Zza, n) v y.v.nd) (J (i : Int) w2) (∃ m' : Nat, m' < l - i /\ ∃ i' : Nat, w64 ((i : Int) + 1) = i' /\ i' <= l /\ m' = l - i' /\ Chg No w w2 /\ ∀ s ∈ S.take i', Ybb (Zza, n) v s.v.nd = true) := by
      intro w2 hc2
      refine ZzU (fun he => k1 i y hy he hno w2 (hc1.trans0 hc2)) (fun ht => ?_)
      refine ⟨_, by omega, i + 1, by rw [Zzt] <;> omega, by omega, rfl, hc1.trans0 hc2, ?_⟩
      obtain ⟨g1, g2⟩ := List.getElem?_eq_some_iff.1 hy
      intro s hs
      rw [List.take_succ_eq_append_getElem g1, List.mem_append] at hs
      rcases hs with hs | hs
      · exact hno s hs
      · rw [List.mem_singleton.1 hs, g2]; exact ht
    have hx1 := hyS.1.chg0 hc1
    have hm1 := hyS.2
    have hb1 := hc1.heap hc (fun f => f)
    obtain ⟨yp, yl, yc, ypath, yv⟩ := y
    cases yv with
    | mk k u l' t ap al ac ats kp kl kc ks =>
      refine ldSpot hcs ?_
      exact CloP_ok (x := ⟨yp, yl, yc, ypath, .mk k u l' t ap al ac ats kp kl kc ks⟩) hx1 hm1 hb1 goalK
  · have : i = l := by omega
    subst this
    rw [List.take_of_length_le (by omega)] at hno
    exact k0 hno w1 hc1
set_option maxHeartbeats 1000000 in
theorem SpDel_ok {n v : ByteArray} {w0 : World} {p : Option Addr} {l c : Nat} {S : List SpV} {b : Nat} {J : Option Addr -> Nat -> Nat -> World -> Prop} (h : Row w Zz8 7 p l c (rows SpV.cells S)) (hm : l <= 100000000) (h0 : Chg No w0 w) (hf : fresh w0 p) (hS : ∀ s ∈ S, s.v.Ok w0 /\ s.v.mea <= 100000000)
    (hc : w.heap[b]? = some (.cells ⟨CV.cells ⟨61, 0, n, v⟩⟩ Zzy (0, 0)))
    (k : ∀ l' w', Row w' Zz8 7 p l' c (rows SpV.cells (S.filter fun s => Ybb (Zza, n) v s.v.nd)) -> Chg (isB p) w w' -> l' <= l -> J p l' c w') :
    Zz1 Tryz.prog ZzF #[.slice p l c, .func (.func 53) #[] #[.pointer (some ⟨b, 0, none⟩)]] w [.one .slice] J := by
  refine ZyE ?_
  have hl := h.sl.row (ZyD S) (by decide)
  have tcp := YaX hc
  have offcp : ∀ x, isB p x -> ¬ x = b := by
    rintro x ⟨a, ha, rfl⟩ e
    have := h.typ a ha
    rw [e, tcp] at this
    exact absurd (Option.some.inj this) (by decide)
  have back : ∀ {w'}, Chg (isB p) w w' -> Chg No w0 w' := fun hc => h0.trans hc fun x hx => by
    rintro ⟨a, ha, rfl⟩
    have := hf a ha
    omega
  refine SpIdx_ok h.sl hm (fun s hs => ⟨(hS s hs).1.chg0 h0, (hS s hs).2⟩) hc (fun hno w1 hc1 => ?_) (fun r y hy hyv hno w1 hc1 => ?_)
  · refine Zzd (fun _ => ?_) (fun h => absurd h (by decide))
    have e : (S.filter fun s => Ybb (Zza, n) v s.v.nd) = S := List.filter_eq_self.2 hno
    refine k l w1 ?_ (hc1.mono fun _ _ h => h.elim) (Nat.le_refl _)
    rw [e]; exact h.chg hc1 (off_no _)
  · have hr1 := h.chg hc1 (off_no _)
    obtain ⟨hrl, ey⟩ := List.getElem?_eq_some_iff.1 hy
    refine Zzj (fun h => by omega) fun _ => ?_
    have e1 : w64 ((r : Int) + 1) = ((r + 1 : Nat) : Int) := by rw [Zzt] <;> omega
    rw [e1]
    refine ⟨fun x y w' t => ∃ (i j : Nat) (X : List SpV), x = i /\ y = j /\ i < j /\ j <= l /\ t = l - j /\ Chg (isB p) w w' /\ Row w' Zz8 7 p l c (rows SpV.cells X) /\ X.length = l /\ X.take i = ((S.take j).filter fun s => Ybb (Zza, n) v s.v.nd) /\ X.drop j = S.drop j,
      ⟨_, r, r + 1, S, rfl, rfl, by omega, by omega, rfl, hc1.mono fun _ _ h => h.elim, hr1, hl, ?_, rfl⟩, ?_⟩
    · rw [YaG hy]
      have e2 : ((S.take r).filter fun s => Ybb (Zza, n) v s.v.nd) = S.take r := List.filter_eq_self.2 hno
      rw [e2, hyv]; simp
    rintro x y w2 t ⟨i, j, X, rfl, rfl, hij, hj, rfl, hc2, hr2, hXl, hXt, hXd⟩
    refine Zz5 (fun hlt => ?_) (fun hge => ?_)
    · refine Zzf fun J5 hJ5 => ?_
      have hBj : S[j]? = some S[j] := List.getElem?_eq_getElem (by omega)
      have hXj : X[j]? = S[j]? := by
        have := congrArg (fun z => z[0]?) hXd
        simpa using this
      have k5 : ∀ (i' : Nat) w3 X', i' <= j -> Chg (isB p) w w3 -> Row w3 Zz8 7 p l c (rows SpV.cells X') -> X'.length = l -> X'.take i' = ((S.take (j + 1)).filter fun s => Ybb (Zza, n) v s.v.nd) -> X'.drop (j + 1) = S.drop (j + 1) -> J5 (i' : Int) w3 := by
        intro i' w3 X' h0 h1 h2 h3 h4 h5; subst hJ5
        exact ⟨_, by omega, i', j + 1, X', rfl, by rw [Zzt] <;> omega, by omega, by omega, rfl, h1, h2, h3, h4, h5⟩
      clear hJ5
      refine Zzu hr2.sl (ZyD X) (by decide) (by omega) hlt fun a z hpa hz hcs => ?_
      rw [Int.toNat_natCast, hXj, hBj] at hz
      obtain rfl := Option.some.inj hz
      have hzS := hS _ (List.getElem_mem (by omega : j < S.length))
      generalize hgz : S[j] = z at *
      have hzc : ∃ k u l' t ap al ac kp kl kc, z.cells = [.slice z.p z.l z.c, .int .i64 k, .string u, .string l', .slice ap al ac, .slice kp kl kc, .string t] := by
        obtain ⟨zp, zl, zc, zpath, zv⟩ := z
        cases zv with
        | mk k u l' t ap al ac ats kp kl kc ks => exact ⟨_, _, _, _, _, _, _, _, _, _, rfl⟩
      obtain ⟨zk, zu, zl', zt, zap, zal, zac, zkp, zkl, zkc, hze⟩ := hzc
      rw [hze] at hcs
      refine ldSpot hcs ?_
      rw [YbC]
      refine (Hp.start w2 No).newB fun b7 w4 H4 hb7 hc4 => ?_
      have hone : one1 [.slice z.p z.l z.c, .int .i64 zk, .string zu, .string zl', .slice zap zal zac, .slice zkp zkl zkc, .string zt] := by rw [<- hze]; exact YbV z
      refine H4.stN 0 rfl (off := 0) rfl (by simp) hone fun w5 H5 hc5 => ?_
      simp only [List.set_cons_zero, spl7] at H5
      refine Yhf H5 0 rfl ?_
      have cpc : ∀ {w'}, Chg (isB p) w w' -> w'.heap[b]? = some (.cells ⟨CV.cells ⟨61, 0, n, v⟩⟩ Zzy (0, 0)) := fun hc' => hc'.heap hc fun hb => offcp _ hb rfl
      have hc25 := hc2.trans0 H5.chg
      rw [<- hze]
      refine CloP_ok (x := z) (hzS.1.chg0 (back hc25)) hzS.2 (cpc hc25) fun w6 hc6 => ?_
      have H6 := H5.step0 hc6
      have hr6 := hr2.chg H6.chg (off_no _)
      have hc06 := hc2.trans0 H6.chg
      rw [Bool.not_not]
      refine Zzd (fun hkeep => ?_) (fun hdel => ?_)
      · refine Yhf H6 0 rfl ?_
        rw [<- hze]
        refine Row.stE (ZyD X) hr6 (by omega) (by omega) (x := z) (ZyD [z] z (by simp)) (YbV z) (by decide) fun w7 hr7 hc7 => ?_
        rw [Int.toNat_natCast] at hr7
        have ei : w64 ((i : Int) + 1) = ((i + 1 : Nat) : Int) := by rw [Zzt] <;> omega
        rw [ei]
        refine k5 (i + 1) w7 _ (by omega) (hc06.trans hc7 fun _ _ h => h) hr7 (by rw [List.length_set]; exact hXl) ?_ ?_
        · rw [YaG hBj, <- hXt, if_pos hkeep]
          have hs : (X.set i z)[i]? = some z := by rw [List.getElem?_set_self (by omega)]
          obtain ⟨g1, g2⟩ := List.getElem?_eq_some_iff.1 hs
          rw [List.take_succ_eq_append_getElem g1, g2, List.take_set_of_le (Nat.le_refl _)]
        · rw [List.drop_set_of_lt (by omega)]
          have := congrArg (List.drop 1) hXd
          rw [List.drop_drop, List.drop_drop] at this
          exact this
      · refine k5 i w6 X (by omega) hc06 hr6 hXl ?_ ?_
        · rw [YaG hBj, <- hXt, if_neg (by rw [hdel]; decide)]; simp
        · have := congrArg (List.drop 1) hXd
          rw [List.drop_drop, List.drop_drop] at this
          exact this
    · have hjl : j = l := by omega
      subst hjl
      have hXt' : X.take i = S.filter fun s => Ybb (Zza, n) v s.v.nd := by rw [hXt, List.take_of_length_le (by omega)]
      have hsplit : rows SpV.cells X = rows SpV.cells (X.take i) ++ rows SpV.cells (X.drop i) := by rw [<- Zzw, List.take_append_drop]
      rw [hsplit, hXt'] at hr2
      have hfl : (rows SpV.cells (S.filter fun s => Ybb (Zza, n) v s.v.nd)).length = i * 7 := by
        rw [Zya (ZyD _), <- hXt', List.length_take, hXl]; congr 1; omega
      refine clr_row Yeo (Zz9 rfl (Zz9 rfl (Zz9 rfl (Zz9 rfl (Zz9 rfl (Zz9 rfl (Zz9 rfl Zy4))))))) hr2 hfl (by omega) fun w8 hr8 hc8 => ?_
      have hle := hr2.le
      refine slS_pre (hr2.at0 (by omega)) (by omega) (by omega) ?_
      exact k i w8 hr8 (hc2.trans hc8 fun _ _ h => h) (by omega)
end
end Go.Proofs.YtjlgopfceebdcaaGreatDoor
end
section
namespace Go.Vc
open Go Go.Lib
theorem Yd6 (nd : Bool) : ∀ (ks : List NV) (p : List Int) (i : Nat), (Zys nd ks p i).length <= ks.length
 | [], _, _ => Nat.le_refl _
 | k :: ks, p, i => by
  have := Yd6 nd ks p (i + 1)
  rw [Zys, length_append, length_cons]
  split <;> simp <;> omega
theorem kid_ok {w : World} {x : NV} (h : x.Ok w) : ∃ k u l t ap al ac ats kp kl kc ks, x = .mk k u l t ap al ac ats kp kl kc ks /\ Sl w kp kl 6 (rows NV.cells ks) /\ (kp = none -> kl = 0) /\ (∀ y ∈ ks, y.Ok w) /\ ks.length = kl /\ (∀ y ∈ ks, y.mea <= x.mea) /\ kl <= x.mea := by
 cases h with
 | @mk k u l t ap al ac ats kp kl kc ks ha hn hac hk hkn hkc hks =>
  have hl := hk.row (Zzp ks) (by decide)
  refine ⟨k, u, l, t, ap, al, ac, ats, kp, kl, kc, ks, rfl, hk, hkn, hks, hl, fun y hy => ?_, ?_⟩
  ·have := YdI hy; simp only [NV.mea]; omega
  ·have := Yag ks; simp only [NV.mea]; omega
theorem fresh_of_off {w : World} {p q : Option Addr} (h : fresh w p) (ho : ∀ S, off p S -> off q S) : fresh w q := fun a ha =>
 Nat.le_of_not_lt (ho (fun b => b < w.heap.size) (fun a ha => Nat.not_lt_of_le (h a ha)) a ha)
theorem typ_of_off {w : World} {p q : Option Addr} {e : TypeId} (h : ∀ a, p = some a -> typ w a.block = some e) (ho : ∀ S, off p S -> off q S) : ∀ a, q = some a -> typ w a.block = some e := fun a ha =>
 Classical.byContradiction fun hn => ho (fun b => typ w b ≠ some e) (fun a ha hn => hn (h a ha)) a ha hn
def NV.kidsV : NV -> List NV | .mk _ _ _ _ _ _ _ _ _ _ _ ks => ks
end Go.Vc
namespace Go.Proofs.YtjlgopfceebdcaaGreatDoor
open Go Go.Vc Go.Lib
def ofV (nd : Bool) (cs : List Cd) (x : NV) (p : List Int) : List (List Int × NV) := YdX cs (Zys nd x.kidsV p 0)
section
variable {w w' : World}
structure SpsOk (w0 w : World) (S : List SpV) : Prop where
 path : ∀ y ∈ S, PathOk w y
 fr : ∀ y ∈ S, fresh w0 y.p
 ok : ∀ y ∈ S, y.v.Ok w0 /\ y.v.mea <= 100000000
theorem SpsOk.nil (w0 w : World) : SpsOk w0 w [] := ⟨by simp, by simp, by simp⟩
theorem SpsOk.app {w0 : World} {S U : List SpV} (h : SpsOk w0 w S) (k : SpsOk w0 w U) : SpsOk w0 w (S ++ U) :=
 ⟨fun y hy => (mem_append.1 hy).elim (h.path y) (k.path y), fun y hy => (mem_append.1 hy).elim (h.fr y) (k.fr y), fun y hy => (mem_append.1 hy).elim (h.ok y) (k.ok y)⟩
theorem SpsOk.sub {w0 : World} {S U : List SpV} (h : SpsOk w0 w S) (k : ∀ y ∈ U, y ∈ S) : SpsOk w0 w U :=
 ⟨fun y hy => h.path y (k y hy), fun y hy => h.fr y (k y hy), fun y hy => h.ok y (k y hy)⟩
theorem SpsOk.chg {w0 : World} {S : List SpV} {X : Nat -> Prop} (h : SpsOk w0 w S) (hc : Chg X w w') (hX : ∀ b, X b -> typ w b ≠ some Zqz) : SpsOk w0 w' S :=
 ⟨fun y hy => (h.path y hy).chg hc fun a ha hb => hX _ hb ((h.path y hy).typ a ha), h.fr, h.ok⟩
theorem SpsOk.chg0 {w0 : World} {S : List SpV} (h : SpsOk w0 w S) (hc : Chg No w w') : SpsOk w0 w' S := h.chg hc fun _ f => f.elim
theorem SpsOk.up {w0 w1 : World} {S : List SpV} (h : SpsOk w1 w S) (h1 : w0.heap.size <= w1.heap.size) (hv : ∀ y ∈ S, y.v.Ok w0) : SpsOk w0 w S :=
 ⟨h.path, fun y hy a ha => Nat.le_trans h1 (h.fr y hy a ha), fun y hy => ⟨hv y hy, (h.ok y hy).2⟩⟩
def OfTail (b7 : Nat) (cs : List Value) (lp : Option Addr) (ll lc : Nat) (J : Option Addr -> Nat -> Nat -> World -> Prop) (qp : Option Addr) (ql qc : Nat) (w10 : World) : Prop :=
 Zzh w10 ⟨b7, 0, none⟩ cs /\ Array.size (⟨cs⟩ : Array Value) = 6 /\ Array.size (⟨.slice qp ql qc :: cs⟩ : Array Value) = 7 /\
 newB w10 (.cells ⟨.slice qp ql qc :: cs⟩ Zz8) fun b31 w11 => YbM Tryz.prog Zzn Zzn (.slice lp ll lc) (.slice (some ⟨b31, 0, none⟩) 1 1) w11 J
set_option maxHeartbeats 4000000 in
theorem Of_ok {s : StV} {d nd : Bool} {cs : List Cd} {x : SpV} {J : Option Addr -> Nat -> Nat -> World -> Prop} (hs : (Sp.all d nd cs).Is s) (hcs : cs.length <= 1) (hF : ∀ c ∈ cs, c.Fit) (hst : Sl w s.p s.l 6 (rows CV.cells s.cs))
  (hx : x.v.Ok w) (hm : x.v.mea <= 100000000) (hp : Sl w x.p x.l 1 (rows YbR x.path)) (hpn : x.p = none -> x.l = 0) (hpl : x.l <= 200000000)
  (K : ∀ p l c S w', Sl w' p l 7 (rows SpV.cells S) -> (p = none -> l = 0) -> l <= c -> fresh w p -> (∀ a, p = some a -> typ w' a.block = some Zz8) -> (cs = [] \/ (∃ n v, cs = [.eq n v]) -> Row w' Zz8 7 p l c (rows SpV.cells S)) -> SpsOk w w' S -> S.map SpV.pr = ofV nd cs x.v x.path -> Chg No w w' -> J p l c w') :
  Zz1 Tryz.prog ZqQ #[.agg ⟨s.cells⟩, .agg ⟨x.cells⟩] w [.one .slice] J := by
 obtain ⟨sd, sa, st, sn, sp, sl, sc, scs⟩ := s
 obtain ⟨xp, xl, xc, xpath, xv⟩ := x
 obtain ⟨k, u, l', t, ap, al, ac, ats, kp, kl, kc, ks, rfl, hk, hkn, hks, hkl, hkm, hklm⟩ := kid_ok hx
 obtain ⟨rfl, rfl, hst2, hcs2⟩ := hs
 simp only at hst2 hcs2 hp hpn hpl hst
 replace hm : (NV.mk k u l' t ap al ac ats kp kl kc ks).mea <= 100000000 := hm
 replace hklm : kl <= (NV.mk k u l' t ap al ac ats kp kl kc ks).mea := hklm
 replace hkm : ∀ y ∈ ks, y.mea <= (NV.mk k u l' t ap al ac ats kp kl kc ks).mea := hkm
 subst hst2 hcs2
 have hof : ofV nd cs (NV.mk k u l' t ap al ac ats kp kl kc ks) xpath = YdX cs (Zys nd ks xpath 0) := rfl
 refine c_pick_step_of ?_
 refine (Hp.start w No).newB fun b2 w1 H1 hb2 hc1 => ?_
 refine H1.newB fun b3 w2 H2 hb3 hc2 => ?_
 have hb2l : b2 < w2.heap.size := H2.lt 1 rfl
 have hb3l : b3 < w2.heap.size := H2.lt 0 rfl
 have hw2 := H2.chg.size
 refine H2.ldS 0 rfl (off := 5) rfl ?_
 simp only [SpV.cells, NV.cells, StV.cells] at H2
 generalize hXC : ([.slice xp xl xc, .int .i64 k, .string u, .string l', .slice ap al ac, .slice kp kl kc, .string t] : List Value) = XC at *
 generalize hSC : ([.bool sd, .bool false, .string (if nd = true then Yao else YdL), .string ByteArray.empty, .string sn, .slice sp sl sc] : List Value) = SC at *
 refine ⟨fun lp ll lc i w' m => ∃ (j : Nat) (S : List SpV), i = j /\ j <= kl /\ m = kl - j /\ Hp w No w' [⟨b3, XC, Zz8⟩, ⟨b2, SC, Zzc⟩] /\
   Row w' Zz8 7 lp ll lc (rows SpV.cells S) /\ fresh w2 lp /\ SpsOk w w' S /\ S.map SpV.pr = Zys nd (ks.take j) xpath 0 /\ w2.heap.size <= w'.heap.size,
  ⟨_, 0, [], rfl, Nat.zero_le _, rfl, H2, Row.nil _ _ _, (by rintro a ⟨⟩), SpsOk.nil _ _, rfl, Nat.le_refl _⟩, ?_⟩
 rintro lp ll lc i w3 m ⟨j, S, rfl, hj, rfl, H3, hrow, hfr, hSok, hSm, hsz23⟩
 have hll : S.length = ll := hrow.sl.row (ZyD S) (by decide)
 have hlen : ll <= kl := by
  have h1 := congrArg length hSm
  rw [length_map] at h1
  have h2 := Yd6 nd (ks.take j) xpath 0
  rw [length_take] at h2
  omega
 refine Zz5 (fun hlt => ?_) (fun hge => ?_)
 · -- a kid
  refine Zzf fun J5 hJ5 => ?_
  have hkj : ks[j]? = some ks[j] := getElem?_eq_getElem (by omega)
  have htake : ks.take (j + 1) = ks.take j ++ [ks[j]] := take_succ_eq_append_getElem (by omega)
  have k5 : ∀ (lp' : Option Addr) (ll' lc' : Nat) (S' : List SpV) (w' : World), Hp w No w' [⟨b3, XC, Zz8⟩, ⟨b2, SC, Zzc⟩] -> Row w' Zz8 7 lp' ll' lc' (rows SpV.cells S') -> fresh w2 lp' -> SpsOk w w' S' -> S'.map SpV.pr = Zys nd (ks.take (j + 1)) xpath 0 -> w2.heap.size <= w'.heap.size -> J5 lp' ll' lc' w' := by
   intro lp' ll' lc' S' w' g1 g2 g3 g4 g5 g6; subst hJ5
   exact ⟨_, by omega, j + 1, S', by rw [Zzt] <;> omega, by omega, rfl, g1, g2, g3, g4, g5, g6⟩
  clear hJ5
  have hkid := hks _ (mem_of_getElem? hkj)
  have hkidm := hkm _ (mem_of_getElem? hkj)
  refine Zzu (hk.chg H3.chg (off_no _)) (Zzp ks) (by decide) (by omega) hlt fun a z hpa hz hcells => ?_
  rw [Int.toNat_natCast, hkj] at hz
  obtain rfl := Option.some.inj hz
  generalize hgz : ks[j] = z at *
  have hzc : ∃ zk zu zl zt zap zal zac zkp zkl zkc, z.cells = [.int .i64 zk, .string zu, .string zl, .slice zap zal zac, .slice zkp zkl zkc, .string zt] := by
   cases z with
   | mk k u l' t ap al ac ats kp kl kc ks => exact ⟨_, _, _, _, _, _, _, _, _, _, rfl⟩
  obtain ⟨zk, zu, zl', zt, zap, zal, zac, zkp, zkl, zkc, hze⟩ := hzc
  rw [hze] at hcells
  refine ldNode hcells ?_
  rw [YaW]
  have hone : one1 [.int .i64 zk, .string zu, .string zl', .slice zap zal zac, .slice zkp zkl zkc, .string zt] := by rw [<- hze]; exact Zy2 z
  refine H3.newB fun b7 w5 H5 hb7 hc5 => ?_
  refine H5.stN 0 rfl (off := 0) rfl (by simp) hone fun w6 H6 hc6 => ?_
  simp only [set_cons_zero, spl6] at H6
  have hc36 : Chg No w3 w6 := hc5.trans hc6 fun b hb e => by subst e; omega
  rw [<- hSC] at H6
  refine H6.ldB 2 rfl (off := 0) rfl ?_
  refine H6.ldB 2 rfl (off := 1) rfl ?_
  refine H6.ldStr 2 rfl (off := 2) rfl ?_
  refine H6.ldStr 2 rfl (off := 3) rfl ?_
  refine H6.ldStr 2 rfl (off := 4) rfl ?_
  refine H6.ldS 2 rfl (off := 5) rfl ?_
  refine Ya3 H6 0 rfl ?_
  rw [<- hze]
  refine Fits_ok (s := ⟨sd, false, if nd = true then Yao else YdL, sn, sp, sl, sc, cs.map Cd.cv⟩) (x := z) rfl fun w7 hc7 => ?_
  have H7 := H6.step0 hc7
  have hc37 := hc36.trans0 hc7
  have base : ∀ {w'}, Hp w No w' [⟨b7, [.int .i64 zk, .string zu, .string zl', .slice zap zal zac, .slice zkp zkl zkc, .string zt], Zz3⟩, ⟨b3, XC, Zz8⟩, ⟨b2, [.bool sd, .bool false, .string (if nd = true then Yao else YdL), .string ByteArray.empty, .string sn, .slice sp sl sc], Zzc⟩] ->
    Hp w No w' [⟨b3, XC, Zz8⟩, ⟨b2, SC, Zzc⟩] := fun H => by
   have := H.sub (sublist_cons_self _ _)
   rw [hSC] at this; exact this
  refine Zzd (fun hfit => ?_) (fun hno => ?_)
  rotate_left
  ·refine k5 lp ll lc S w7 (base H7) (hrow.chg hc37 (off_no _)) hfr (hSok.chg0 hc37) ?_ (by have := hc37.size; omega)
   rw [htake, YdE, if_neg (by rw [hno]; decide), append_nil]; exact hSm
  have H7d := H7.drew
  have hc37d : Chg No w3 w7.drew := hc37.drew
  rw [<- hXC] at H7d
  refine H7d.ldS 1 rfl (off := 0) rfl ?_
  refine Ya3 H7d 0 rfl ?_
  rw [hXC] at H7d
  have hpath7 : Sl w7.drew xp xl 1 (rows YbR xpath) := hp.chg H7d.chg (off_no _)
   -- behind the path
  have tail : ∀ (w10 : World) (qp : Option Addr) (qc : Nat), Chg No w7.drew w10 -> Row w10 Zqz 1 qp (xl + 1) qc (rows YbR (xpath ++ [(j : Int)])) -> fresh w2 qp ->
    OfTail b7 [.int .i64 zk, .string zu, .string zl', .slice zap zal zac, .slice zkp zkl zkc, .string zt] lp ll lc J5 qp (xl + 1) qc w10 := by
   intro w10 qp qc hc10 hrq hfq
   have H10 := H7d.step0 hc10
   have hr10 := hrow.chg (hc37d.trans0 hc10) (off_no _)
   have hS10 := hSok.chg0 (hc37d.trans0 hc10)
   refine ⟨H10.cells 0 rfl 0, rfl, rfl, ?_⟩
   have hce : (.slice qp (xl + 1) qc :: [.int .i64 zk, .string zu, .string zl', .slice zap zal zac, .slice zkp zkl zkc, .string zt] : List Value) = SpV.cells ⟨qp, xl + 1, qc, xpath ++ [(j : Int)], z⟩ := by unfold SpV.cells; rw [hze]
   rw [hce]
   refine newRow (sz := 7) (n := 1) (ZyD [⟨qp, xl + 1, qc, xpath ++ [(j : Int)], z⟩] _ (by simp)) (by decide) fun b31 w11 hr11 hb31 hc11 => ?_
   have H11 := H10.step0 hc11
   refine Zx3 Yeo (hr10.chg hc11 (off_no _)) hr11.sl (YbV _) (by simp) (by omega) (by simp only [maxLen]; omega) fun p12 c12 w12 hr12 hc12 hf12 => ?_
   have ty := (hr10.chg hc11 (off_no _)).typ
   have H12 : Hp w No w12 [⟨b3, XC, Zz8⟩, ⟨b2, SC, Zzc⟩] := (base H11).step hc12 (fun y hy => by
    rintro ⟨a, ha, eb⟩
    have h1 := hfr a ha
    simp only [mem_cons, not_mem_nil, or_false] at hy
    rcases hy with rfl | rfl
    ·simp only at eb; omega
    ·simp only at eb; omega) (fun b hb => by
    rintro ⟨a, ha, rfl⟩
    have := hfr a ha
    omega)
   refine k5 p12 (ll + 1) c12 (S ++ [⟨qp, xl + 1, qc, xpath ++ [(j : Int)], z⟩]) w12 H12 ?_ ?_ ?_ ?_ (by have := hc12.size; have := hc11.size; have := hc10.size; have := hc37d.size; omega)
   ·rw [Zzw]
    have e1 : rows SpV.cells [⟨qp, xl + 1, qc, xpath ++ [(j : Int)], z⟩] = SpV.cells ⟨qp, xl + 1, qc, xpath ++ [(j : Int)], z⟩ := by simp [rows]
    rw [e1]; exact hr12
   ·rcases hf12 with rfl | hf
    ·exact hfr
    ·intro a ha
     have := hf a ha
     have e1 := H11.chg.size
     have e2 := (hc37d.trans0 hc10).size
     have e3 := hc11.size
     have e4 := hc10.size
     have e5 := hc37d.size
     omega
   ·have hnew : SpsOk w w11 [⟨qp, xl + 1, qc, xpath ++ [(j : Int)], z⟩] := ⟨fun y hy => by
      rw [mem_singleton] at hy; subst hy
      exact hrq.chg hc11 (off_no _), fun y hy a ha => by
      rw [mem_singleton] at hy; subst hy
      have := hfq a ha
      omega, fun y hy => by
      rw [mem_singleton] at hy; subst hy
      exact ⟨hkid, by simp only; omega⟩⟩
    refine ((hS10.chg0 hc11).app hnew).chg hc12 ?_
    rintro b ⟨a, ha, rfl⟩
    rw [ty a ha]; decide
   ·rw [htake, YdE, if_pos hfit, map_append, hSm, length_take, Nat.min_eq_left (by omega), Nat.zero_add]
    rfl
  have frw : ∀ {wx : World} {q : Option Addr}, Chg No w7.drew wx -> fresh wx q -> fresh w2 q := fun {wx q} hc hf a ha => by
   have h1 := hf a ha
   have h2 := hc.size
   have h3 := hc37d.size
   omega
  refine ⟨?_, ?_⟩
  ·refine Yd4 hpath7 hpn (by omega) fun p8 c8 w8 hr8 hf8 hc8 => ?_
   have H8 := H7d.step0 hc8
   refine ⟨H8.cells 0 rfl 0, ?_⟩
   refine newRow (sz := 1) (n := 1) rfl (by decide) fun b27 w9 hr9 hb27 hc9 => ?_
   have H9 := H8.step0 hc9
   refine ⟨H9.cells 0 rfl 0, by rw [<- hXC] at H9; exact H9.cell 1 rfl rfl, ?_⟩
   refine Zx3 Yep (hr8.chg hc9 (off_no _)) hr9.sl (Zz9 rfl Zy4) (by simp) (by omega) (by simp only [maxLen]; omega) fun p10 c10 w10 hr10 hc10 hf10 => ?_
   have hc710 : Chg No w7.drew w10 := (hc8.trans0 hc9).trans hc10 fun b hb => by
    rintro ⟨a, ha, rfl⟩
    have := hf8 a ha
    omega
   refine tail w10 p10 c10 hc710 ?_ ?_
   ·rw [Zzw]; exact hr10
   ·rcases hf10 with rfl | hf
    ·exact frw (Chg.refl _ _) hf8
    ·exact frw (hc8.trans0 hc9) hf
  ·refine newRow (sz := 1) (n := 1) rfl (by decide) fun b27 w8 hr8 hb27 hc8 => ?_
   have H8 := H7d.step0 hc8
   refine ⟨H8.cells 0 rfl 0, by rw [<- hXC] at H8; exact H8.cell 1 rfl rfl, ?_⟩
   refine Yd4 (hpath7.chg hc8 (off_no _)) hpn (by omega) fun p9 c9 w9 hr9 hf9 hc9 => ?_
   have H9 := H8.step0 hc9
   refine ⟨H9.cells 0 rfl 0, ?_⟩
   refine Zx3 Yep hr9 (hr8.chg hc9 (off_no _)).sl (Zz9 rfl Zy4) (by simp) (by omega) (by simp only [maxLen]; omega) fun p10 c10 w10 hr10 hc10 hf10 => ?_
   have hc710 : Chg No w7.drew w10 := (hc8.trans0 hc9).trans hc10 fun b hb => by
    rintro ⟨a, ha, rfl⟩
    have := hf9 a ha
    have := hc8.size
    omega
   refine tail w10 p10 c10 hc710 ?_ ?_
   ·rw [Zzw]; exact hr10
   ·rcases hf10 with rfl | hf
    ·exact frw hc8 hf9
    ·exact frw (hc8.trans0 hc9) hf
 · -- the conditions
  have hjk : j = kl := by omega
  subst hjk
  rw [take_of_length_le (by omega)] at hSm
  have hlv : ∀ y ∈ S, y.v.Ok w /\ y.v.mea <= 100000000 := hSok.ok
  have hfrw : fresh w lp := fun a ha => by have := hfr a ha; omega
  rw [<- hSC] at H3
  refine H3.ldS 1 rfl (off := 5) rfl ?_
  have hslen := hst.row (even_cv _) (by decide)
  rw [length_map] at hslen
  refine ⟨fun lp' ll' lc' i w' m => (i = 0 /\ m = 1 /\ lp' = lp /\ ll' = ll /\ lc' = lc /\ w' = w3) \/
    (i = (sl : Int) /\ m = 0 /\ ∃ S', Sl w' lp' ll' 7 (rows SpV.cells S') /\ (lp' = none -> ll' = 0) /\ ll' <= lc' /\ fresh w lp' /\ (∀ a, lp' = some a -> typ w' a.block = some Zz8) /\ (cs = [] \/ (∃ n v, cs = [.eq n v]) -> Row w' Zz8 7 lp' ll' lc' (rows SpV.cells S')) /\ SpsOk w w' S' /\ S'.map SpV.pr = YdX cs (Zys nd ks xpath 0) /\ Chg No w w'),
   ⟨1, .inl ⟨rfl, rfl, rfl, rfl, rfl, rfl⟩⟩, ?_⟩
  rintro lp' ll' lc' i w18 m h18
  have done : ∀ {lp' ll' lc' w'}, (∃ S', Sl w' lp' ll' 7 (rows SpV.cells S') /\ (lp' = none -> ll' = 0) /\ ll' <= lc' /\ fresh w lp' /\ (∀ a, lp' = some a -> typ w' a.block = some Zz8) /\ (cs = [] \/ (∃ n v, cs = [.eq n v]) -> Row w' Zz8 7 lp' ll' lc' (rows SpV.cells S')) /\ SpsOk w w' S' /\ S'.map SpV.pr = YdX cs (Zys nd ks xpath 0) /\ Chg No w w') -> J lp' ll' lc' w' := by
   rintro lp' ll' lc' w' ⟨S', g1, g2, g3, g4, g5, g6, g7, g8, g9⟩
   exact K lp' ll' lc' S' w' g1 g2 g3 g4 g5 g6 g7 (by rw [hof]; exact g8) g9
  rcases h18 with ⟨rfl, rfl, rfl, rfl, rfl, rfl⟩ | ⟨rfl, rfl, h18⟩
  rotate_left
  ·refine Zz5 (fun h => by omega) (fun _ => done h18)
  have hle := hrow.le
  cases cs with
  | nil =>
   simp only [length_nil] at hslen
   refine Zz5 (fun h => by omega) (fun _ => done ?_)
   exact ⟨S, hrow.sl, hrow.none0, hle.1, hfrw, hrow.typ, fun _ => hrow, hSok, hSm, H3.chg⟩
  | cons c0 rest =>
   have hrest : rest = [] := by
    cases rest with
    | nil => rfl
    | cons _ _ => simp at hcs
   subst hrest
   simp only [length_cons, length_nil] at hslen
   have hc0F : c0.Fit := hF c0 (by simp)
   refine Zz5 (fun _ => ?_) (fun h => by omega)
   refine Zzf fun J5 hJ5 => ?_
   have k5 : ∀ {lp' ll' lc' w'}, (∃ S', Sl w' lp' ll' 7 (rows SpV.cells S') /\ (lp' = none -> ll' = 0) /\ ll' <= lc' /\ fresh w lp' /\ (∀ a, lp' = some a -> typ w' a.block = some Zz8) /\ ([c0] = [] \/ (∃ n v, [c0] = [.eq n v]) -> Row w' Zz8 7 lp' ll' lc' (rows SpV.cells S')) /\ SpsOk w w' S' /\ S'.map SpV.pr = YdX [c0] (Zys nd ks xpath 0) /\ Chg No w w') -> J5 lp' ll' lc' w' := by
    intro lp' ll' lc' w' h; subst hJ5
    exact ⟨0, by decide, .inr ⟨by rw [<- hslen]; decide, rfl, h⟩⟩
   clear hJ5
   refine Zzu (hst.chg H3.chg (off_no _)) (even_cv _) (by decide) (by decide) (by omega) fun a z hpa hz hcells => ?_
   simp only [map_cons, map_nil, Int.toNat_zero, getElem?_cons_zero, Option.some.injEq] at hz
   subst hz
   simp only [Int.toNat_zero, Nat.zero_mul] at hcells ⊢
   refine Zyw (ZzC hcells) (Zyw (hcells 1 _ rfl) (Zyv (hcells 2 _ rfl) (Zyv (hcells 3 _ rfl) (Zyv (hcells 4 _ rfl) (ldV_i (hcells 5 _ rfl) ?_)))))
   rw [Yf6]
   refine H3.newB fun b9 w20 H20 hb9 hc20 => ?_
   refine H20.stN 0 rfl (off := 0) rfl (by simp) (Yff c0.cv) fun w21 H21 hc21 => ?_
   simp only [set_cons_zero, spl6] at H21
   have hc321 : Chg No w18 w21 := hc20.trans hc21 fun b hb e => by subst e; omega
   have hr21 := hrow.chg hc321 (off_no _)
   have hS21 := hSok.chg0 hc321
   cases c0 with
   | eq n v =>
    change Hp w No w21 (⟨b9, [.int .u8 61, .int .i64 0, .string ByteArray.empty, .string n, .string v, .complex .f64 0 0], Zzy⟩ :: _) at H21
    refine H21.ldI 0 rfl (off := 0) rfl ?_
    refine ZzL (fun _ => ?_) (fun h => absurd h (by decide))
    refine SpDel_ok hr21 (by omega) H21.chg hfrw hlv (H21.get 0 rfl) fun l22 w22 hr22 hc22 hl22 => ?_
    refine k5 ⟨_, hr22.sl, hr22.none0, hr22.le.1, hfrw, hr22.typ, fun _ => hr22, ?_, ?_, ?_⟩
    ·refine (hS21.chg hc22 ?_).sub fun y hy => (mem_filter.1 hy).1
     rintro b ⟨a, ha, rfl⟩
     rw [hr21.typ a ha]; decide
    ·show _ = (Zys nd ks xpath 0).filter _
     rw [<- hSm, filter_map]; rfl
    ·exact H21.chg.trans hc22 fun b hb => by
      rintro ⟨a, ha, rfl⟩
      have := hfrw a ha
      omega
   | idx ds kk =>
    obtain ⟨f1, f2, f3, f4, f5⟩ := hc0F
    have hk1 : 1 <= kk := by
     obtain ⟨d0, dr, hds⟩ := exists_cons_of_ne_nil f1
     rw [<- f5, hds]
     have hd0 := f3 d0 (by rw [hds]; simp)
     have hd1 : d0 ≠ 48 := by intro e; rw [hds, e] at f4; exact f4 rfl
     have hd2 : d0.toNat ≠ 48 := by intro e; exact hd1 (UInt8.toNat_inj.1 e)
     have hge : ∀ (r : List UInt8) (a : Nat), a <= r.foldl (fun a d => 10 * a + (d.toNat - 48)) a := by
      intro r
      induction r with
      | nil => intro a; exact Nat.le_refl _
      | cons y r ih => intro a; rw [foldl_cons]; have := ih (10 * a + (y.toNat - 48)); omega
     have := hge dr (10 * 0 + (d0.toNat - 48))
     unfold valD
     rw [foldl_cons]; omega
    have hk6 : kk < 1000000 := by
     rw [<- f5]
     have := valD_lt ds f3
     have h3 : 10 ^ ds.length <= 10 ^ 6 := Nat.pow_le_pow_right (by decide) f2
     omega
    change Hp w No w21 (⟨b9, [.int .u8 91, .int .i64 (kk : Int), .string ByteArray.empty, .string ByteArray.empty, .string ByteArray.empty, .complex .f64 0 0], Zzy⟩ :: _) at H21
    refine H21.ldI 0 rfl (off := 0) rfl ?_
    refine ZzL (fun h => absurd rfl h) (fun _ => ?_)
    refine H21.ldI 0 rfl (off := 1) rfl ?_
    have hml : S.length = (Zys nd ks xpath 0).length := by rw [<- hSm, length_map]
    refine Zz5 (fun hgt => ?_) (fun hle2 => ?_)
    ·refine K none 0 0 [] w21 (Sl.nil _ _ _) (fun _ => rfl) (Nat.le_refl _) (by rintro a ⟨⟩) (by rintro a ⟨⟩) (fun _ => Row.nil _ _ _) (SpsOk.nil _ _) ?_ H21.chg
     rw [hof]
     show [] = if kk > _ then [] else _
     rw [if_pos (by omega)]
    ·refine H21.ldI 0 rfl (off := 1) rfl ?_
     refine H21.ldI 0 rfl (off := 1) rfl ?_
     rw [Zzt (by omega) (by omega), show (kk : Int) - 1 = ((kk - 1 : Nat) : Int) by omega]
     refine slS_sl (i := kk - 1) (j := kk) hr21.sl rfl rfl (by omega) (by omega) hle.1 fun q hq ho => ?_
     have hqe : ((rows SpV.cells S).drop ((kk - 1) * 7)).take ((kk - (kk - 1)) * 7) = rows SpV.cells ((S.drop (kk - 1)).take 1) := by
      rw [Yb0 (ZyD S), show kk - (kk - 1) = 1 by omega, YaZ ((ZyD S).drop _)]
     rw [hqe] at hq
     have hq0 : q = none -> kk - (kk - 1) = 0 := fun h0 => by
      exfalso
      rcases hq.2 with h1 | ⟨a, ha, _⟩
      ·omega
      ·rw [h0] at ha; cases ha
     refine k5 ⟨_, hq, hq0, by omega, ?_, ?_, ?_, hS21.sub fun y hy => mem_of_mem_drop (mem_of_mem_take hy), ?_, H21.chg⟩
     ·exact fresh_of_off hfrw ho
     ·exact typ_of_off hr21.typ ho
     ·rintro (h | ⟨n, v, h⟩)
      ·cases h
      ·cases h
     ·show _ = if kk > _ then [] else _
      rw [if_neg (by omega), <- hSm, <- map_drop, <- map_take]
end
end Go.Proofs.YtjlgopfceebdcaaGreatDoor
end
section
namespace Go.Proofs.YtjlgopfceebdcaaGreatDoor
open Go Go.Vc Go.Lib
theorem spKids_mem {nd : Bool} : ∀ {ks : List NV} {p : List Int} {i : Nat} {s : List Int × NV}, s ∈ Zys nd ks p i -> s.2 ∈ ks
 | [], _, _, _, h => by cases h
 | k :: ks, p, i, s, h => by
  rw [Zys, mem_append] at h
  rcases h with h | h
  ·split at h
   ·rw [mem_singleton] at h; subst h; exact mem_cons_self
   ·cases h
  ·exact mem_cons_of_mem _ (spKids_mem h)
theorem condL_mem {cs : List Cd} {l : List (List Int × NV)} {s : List Int × NV} (h : s ∈ YdX cs l) : s ∈ l := by
 cases cs with
 | nil => exact h
 | cons c r =>
  cases c with
  | eq n v => exact (mem_filter.1 h).1
  | idx ds k =>
   change s ∈ (if k > l.length then [] else (l.drop (k - 1)).take 1) at h
   split at h
   ·cases h
   ·exact mem_of_mem_drop (mem_of_mem_take h)
theorem condL_len (cs : List Cd) (l : List (List Int × NV)) : (YdX cs l).length <= l.length := by
 cases cs with
 | nil => exact Nat.le_refl _
 | cons c r =>
  cases c with
  | eq n v => exact length_filter_le _ _
  | idx ds k =>
   show (if k > l.length then [] else (l.drop (k - 1)).take 1).length <= l.length
   split
   ·exact Nat.zero_le _
   ·rw [length_take, length_drop]; omega
mutual
theorem spBel_len (nd : Bool) (cs : List Cd) : ∀ (v : NV) (p : List Int), (YgF nd cs v p).length + 1 <= v.mea
 | .mk k u l t ap al ac ats kp kl kc ks, p => by
  have h1 := condL_len cs (Zys nd ks p 0)
  have h2 := Yd6 nd ks p 0
  have h3 := Yfc nd cs ks p 0
  rw [YgF, length_append]
  simp only [NV.mea]; omega
theorem Yfc (nd : Bool) (cs : List Cd) : ∀ (ks : List NV) (p : List Int) (i : Nat), (YaJ nd cs ks p i).length + ks.length <= NV.meaL ks
 | [], _, _ => Nat.le_refl _
 | k :: ks, p, i => by
  have h1 := spBel_len nd cs k (p ++ [(i : Int)])
  have h2 := Yfc nd cs ks p (i + 1)
  rw [YaJ, length_append, length_cons]
  simp only [NV.meaL]; omega
end
theorem YbE (ks : List NV) (j : Nat) : NV.meaL (ks.take j) <= NV.meaL ks := by
 have h := take_append_drop j ks
 rw [YbX, YbX]
 conv => rhs; rw [<- h, map_append, sum_append]
 omega
section
variable {w w' : World}
def BelTail (b7 : Nat) (cs : List Value) (b2 : Nat) (SC : List Value) (lp : Option Addr) (ll lc : Nat) (J : Option Addr -> Nat -> Nat -> World -> Prop) (qp : Option Addr) (ql qc : Nat) (w10 : World) : Prop :=
 Zzh w10 ⟨b7, 0, none⟩ cs /\ Zzh w10 ⟨b2, 0, none⟩ SC /\ Array.size (⟨cs⟩ : Array Value) = 6 /\
 Zz1 Tryz.prog Zyo #[.agg ⟨SC⟩, .agg ⟨.slice qp ql qc :: cs⟩] w10 [.one .slice] fun (r30p : Option Addr) (r30l : Nat) (r30c : Nat) (w11 : World) =>
 YbM Tryz.prog Zzn Zzn (.slice lp ll lc) (.slice r30p r30l r30c) w11 J
set_option maxHeartbeats 4000000 in
theorem Below_ok {s : StV} {d nd : Bool} {cs : List Cd} (hs : (Sp.all d nd cs).Is s) (hce : cs = [] \/ ∃ n v, cs = [.eq n v]) (hF : ∀ c ∈ cs, c.Fit) : ∀ (xv : NV) {w w0 : World} {xp : Option Addr} {xl xc : Nat} {xpath : List Int} {J : Option Addr -> Nat -> Nat -> World -> Prop},
  Chg No w0 w -> Sl w s.p s.l 6 (rows CV.cells s.cs) -> xv.Ok w0 -> xv.mea <= 100000000 -> Sl w xp xl 1 (rows YbR xpath) -> (xp = none -> xl = 0) -> xl + xv.mea <= 200000000 ->
  (∀ p l c S w', Row w' Zz8 7 p l c (rows SpV.cells S) -> fresh w0 p -> SpsOk w0 w' S -> S.map SpV.pr = YgF nd cs xv xpath -> Chg No w w' -> J p l c w') ->
  Zz1 Tryz.prog Zyo #[.agg ⟨s.cells⟩, .agg ⟨SpV.cells ⟨xp, xl, xc, xpath, xv⟩⟩] w [.one .slice] J := by
 intro xv
 induction xv using NV.ind with
 | h k u l' t ap al ac ats kp kl kc ks ih =>
 intro w w0 xp xl xc xpath J h0 hst hx0 hm hp hpn hpl K
 have hx := hx0.chg0 h0
 have hkids0 : ∀ y ∈ ks, y.Ok w0 := by cases hx0 with | mk ha hn hac hk hkn hkc hks => exact hks
 obtain ⟨hk, hkn, hks⟩ : Sl w kp kl 6 (rows NV.cells ks) /\ (kp = none -> kl = 0) /\ (∀ y ∈ ks, y.Ok w) := by cases hx with | mk ha hn hac hk hkn hkc hks => exact ⟨hk, hkn, hks⟩
 have hkl : ks.length = kl := hk.row (Zzp ks) (by decide)
 have hmL : NV.meaL ks + 1 <= (NV.mk k u l' t ap al ac ats kp kl kc ks).mea := by simp only [NV.mea]; omega
 have hkm : ∀ y ∈ ks, y.mea + 1 <= (NV.mk k u l' t ap al ac ats kp kl kc ks).mea := fun y hy => by have := YdI hy; omega
 have hklm := Yag ks
 obtain ⟨sd, sa, st, sn, sp, sl, sc, scs⟩ := s
 have hs' := hs
 obtain ⟨rfl, rfl, hst2, hcs2⟩ := hs
 simp only at hst2 hcs2 hst
 subst hst2 hcs2
 have hc1' : cs.length <= 1 := by rcases hce with rfl | ⟨n, v, rfl⟩ <;> simp
 have hbel : YgF nd cs (NV.mk k u l' t ap al ac ats kp kl kc ks) xpath = YdX cs (Zys nd ks xpath 0) ++ YaJ nd cs ks xpath 0 := by rw [YgF]
 rw [hbel] at K
 refine Yfx ?_
 refine (Hp.start w No).newB fun b2 w1 H1 hb2 hc1 => ?_
 refine H1.newB fun b3 w2 H2 hb3 hc2 => ?_
 have hb2l : b2 < w2.heap.size := H2.lt 1 rfl
 have hb3l : b3 < w2.heap.size := H2.lt 0 rfl
 have hw2 := H2.chg.size
 refine H2.ldB 1 rfl (off := 0) rfl ?_
 refine H2.ldB 1 rfl (off := 1) rfl ?_
 refine H2.ldStr 1 rfl (off := 2) rfl ?_
 refine H2.ldStr 1 rfl (off := 3) rfl ?_
 refine H2.ldStr 1 rfl (off := 4) rfl ?_
 refine H2.ldS 1 rfl (off := 5) rfl ?_
 refine Yhf H2 0 rfl ?_
 have hc02 : Chg No w0 w2 := h0.trans0 H2.chg
 refine Of_ok (s := ⟨sd, false, if nd = true then Yao else YdL, sn, sp, sl, sc, cs.map Cd.cv⟩) (x := ⟨xp, xl, xc, xpath, .mk k u l' t ap al ac ats kp kl kc ks⟩) hs' hc1' hF (hst.chg H2.chg (off_no _)) (hx.chg0 H2.chg) hm (hp.chg H2.chg (off_no _)) hpn (by simp only; omega) fun p3 l3 c3 S3 w3 _ _ _ hf3 _ hrow3 hS3 hm3 hc3 => ?_
 replace hrow3 := hrow3 hce
 have hS3' : SpsOk w0 w3 S3 := hS3.up hc02.size fun y hy => by
  have h1 : y.pr ∈ S3.map SpV.pr := mem_map_of_mem hy
  rw [hm3] at h1
  exact hkids0 _ (spKids_mem (condL_mem h1))
 have H3 := H2.step0 hc3
 refine H3.ldS 0 rfl (off := 5) rfl ?_
 simp only [SpV.cells, NV.cells, StV.cells] at H3
 generalize hXC : ([.slice xp xl xc, .int .i64 k, .string u, .string l', .slice ap al ac, .slice kp kl kc, .string t] : List Value) = XC at *
 have hm3' : S3.map SpV.pr = YdX cs (Zys nd ks xpath 0) ++ YaJ nd cs (ks.take 0) xpath 0 := by rw [hm3]; simp [YaJ, ofV, NV.kidsV]
 refine ⟨fun lp ll lc i w' m => ∃ (j : Nat) (S : List SpV), i = j /\ j <= kl /\ m = kl - j /\ Hp w No w' [⟨b3, XC, Zz8⟩, ⟨b2, [.bool sd, .bool false, .string (if nd = true then Yao else YdL), .string ByteArray.empty, .string sn, .slice sp sl sc], Zzc⟩] /\
   Row w' Zz8 7 lp ll lc (rows SpV.cells S) /\ fresh w2 lp /\ SpsOk w0 w' S /\ S.map SpV.pr = YdX cs (Zys nd ks xpath 0) ++ YaJ nd cs (ks.take j) xpath 0 /\ w2.heap.size <= w'.heap.size,
  ⟨_, 0, S3, rfl, Nat.zero_le _, rfl, H3, hrow3, hf3, hS3', hm3', hc3.size⟩, ?_⟩
 rintro lp ll lc i w4 m ⟨j, S, rfl, hj, rfl, H4, hrow, hfr, hSok, hSm, hsz⟩
 have hll : S.length = ll := hrow.sl.row (ZyD S) (by decide)
 have hlen : ll + (ks.take j).length <= ks.length + NV.meaL (ks.take j) := by
  have h1 := congrArg length hSm
  rw [length_map, length_append] at h1
  have h2 := condL_len cs (Zys nd ks xpath 0)
  have h3 := Yd6 nd ks xpath 0
  have h4 := Yfc nd cs (ks.take j) xpath 0
  omega
 have htk := YbE ks j
 refine Zz5 (fun hlt => ?_) (fun hge => ?_)
 ·refine Zzf fun J5 hJ5 => ?_
  have hkj : ks[j]? = some ks[j] := getElem?_eq_getElem (by omega)
  have htake : ks.take (j + 1) = ks.take j ++ [ks[j]] := take_succ_eq_append_getElem (by omega)
  have k5 : ∀ (lp' : Option Addr) (ll' lc' : Nat) (S' : List SpV) (w' : World), Hp w No w' [⟨b3, XC, Zz8⟩, ⟨b2, [.bool sd, .bool false, .string (if nd = true then Yao else YdL), .string ByteArray.empty, .string sn, .slice sp sl sc], Zzc⟩] -> Row w' Zz8 7 lp' ll' lc' (rows SpV.cells S') -> fresh w2 lp' -> SpsOk w0 w' S' -> S'.map SpV.pr = YdX cs (Zys nd ks xpath 0) ++ YaJ nd cs (ks.take (j + 1)) xpath 0 -> w2.heap.size <= w'.heap.size -> J5 lp' ll' lc' w' := by
   intro lp' ll' lc' S' w' g1 g2 g3 g4 g5 g6; subst hJ5
   exact ⟨_, by omega, j + 1, S', by rw [Zzt] <;> omega, by omega, rfl, g1, g2, g3, g4, g5, g6⟩
  clear hJ5
  have hzmem := mem_of_getElem? hkj
  have ihz := @ih _ hzmem
  have hkid := hkids0 _ hzmem
  have hkidm := hkm _ hzmem
  have hzL := YdI hzmem
  refine Zzu (hk.chg H4.chg (off_no _)) (Zzp ks) (by decide) (by omega) hlt fun a z hpa hz hcells => ?_
  rw [Int.toNat_natCast, hkj] at hz
  obtain rfl := Option.some.inj hz
  have htakeM : NV.meaL (ks.take j) + ks[j].mea <= NV.meaL ks := by
   have := YbE ks (j + 1)
   rw [htake] at this
   rw [YbX, map_append, sum_append, <- YbX] at this
   simpa using this
  generalize hgz : ks[j] = z at *
  have hzc : ∃ zk zu zl zt zap zal zac zkp zkl zkc, z.cells = [.int .i64 zk, .string zu, .string zl, .slice zap zal zac, .slice zkp zkl zkc, .string zt] := by
   cases z with
   | mk k u l' t ap al ac ats kp kl kc ks => exact ⟨_, _, _, _, _, _, _, _, _, _, rfl⟩
  obtain ⟨zk, zu, zl', zt, zap, zal, zac, zkp, zkl, zkc, hze⟩ := hzc
  rw [hze] at hcells
  refine ldNode hcells ?_
  rw [YaW]
  have hone : one1 [.int .i64 zk, .string zu, .string zl', .slice zap zal zac, .slice zkp zkl zkc, .string zt] := by rw [<- hze]; exact Zy2 z
  refine H4.newB fun b7 w6 H6 hb7 hc6 => ?_
  refine H6.stN 0 rfl (off := 0) rfl (by simp) hone fun w7 H7 hc7 => ?_
  simp only [set_cons_zero, spl6] at H7
  have hc47 : Chg No w4 w7 := hc6.trans hc7 fun b hb e => by subst e; omega
  have H7d := H7.drew
  have hc47d : Chg No w4 w7.drew := hc47.drew
  refine H7d.ldB 2 rfl (off := 0) rfl ?_
  refine H7d.ldB 2 rfl (off := 1) rfl ?_
  refine H7d.ldStr 2 rfl (off := 2) rfl ?_
  refine H7d.ldStr 2 rfl (off := 3) rfl ?_
  refine H7d.ldStr 2 rfl (off := 4) rfl ?_
  refine H7d.ldS 2 rfl (off := 5) rfl ?_
  rw [<- hXC] at H7d
  refine H7d.ldS 1 rfl (off := 0) rfl ?_
  refine Ya3 H7d 0 rfl ?_
  rw [hXC] at H7d
  have base : ∀ {w'}, Hp w No w' [⟨b7, [.int .i64 zk, .string zu, .string zl', .slice zap zal zac, .slice zkp zkl zkc, .string zt], Zz3⟩, ⟨b3, XC, Zz8⟩, ⟨b2, [.bool sd, .bool false, .string (if nd = true then Yao else YdL), .string ByteArray.empty, .string sn, .slice sp sl sc], Zzc⟩] ->
    Hp w No w' [⟨b3, XC, Zz8⟩, ⟨b2, [.bool sd, .bool false, .string (if nd = true then Yao else YdL), .string ByteArray.empty, .string sn, .slice sp sl sc], Zzc⟩] := fun H => H.sub (sublist_cons_self _ _)
  have hpath7 : Sl w7.drew xp xl 1 (rows YbR xpath) := hp.chg H7d.chg (off_no _)
  have tail : ∀ (w10 : World) (qp : Option Addr) (qc : Nat), Chg No w7.drew w10 -> Row w10 Zqz 1 qp (xl + 1) qc (rows YbR (xpath ++ [(j : Int)])) ->
    BelTail b7 [.int .i64 zk, .string zu, .string zl', .slice zap zal zac, .slice zkp zkl zkc, .string zt] b2 [.bool sd, .bool false, .string (if nd = true then Yao else YdL), .string ByteArray.empty, .string sn, .slice sp sl sc] lp ll lc J5 qp (xl + 1) qc w10 := by
   intro w10 qp qc hc10 hrq
   have H10 := H7d.step0 hc10
   refine ⟨H10.cells 0 rfl 0, H10.cells 2 rfl 0, rfl, ?_⟩
   have hce2 : (.slice qp (xl + 1) qc :: [.int .i64 zk, .string zu, .string zl', .slice zap zal zac, .slice zkp zkl zkc, .string zt] : List Value) = SpV.cells ⟨qp, xl + 1, qc, xpath ++ [(j : Int)], z⟩ := by unfold SpV.cells; rw [hze]
   rw [hce2]
   refine ihz (h0.trans0 H10.chg) (hst.chg H10.chg (off_no _)) hkid (by omega) hrq.sl hrq.none0 (by omega) fun p11 l11 c11 S11 w11 hr11 hf11 hS11 hm11 hc11 => ?_
   have H11 := H10.step0 hc11
   have hr4 := hrow.chg ((hc47d.trans0 hc10).trans0 hc11) (off_no _)
   have hl11 : S11.length = l11 := hr11.sl.row (ZyD S11) (by decide)
   have hl11' : l11 + 1 <= z.mea := by
    have := spBel_len nd cs z (xpath ++ [(j : Int)])
    rw [<- hm11, length_map] at this; omega
   refine Zx3 Yeo hr4 hr11.sl (Yan fun x _ => YbV x) hr11.none0 (by omega) (by simp only [maxLen]; omega) fun p12 c12 w12 hr12 hc12 hf12 => ?_
   have H12 := (base H11).step hc12 (fun y hy => by
    rintro ⟨a, ha, eb⟩
    have h1 := hfr a ha
    simp only [mem_cons, not_mem_nil, or_false] at hy
    rcases hy with rfl | rfl
    ·simp only at eb; omega
    ·simp only at eb; omega) (fun b hb => by
    rintro ⟨a, ha, rfl⟩
    have := hfr a ha
    omega)
   refine k5 p12 (ll + l11) c12 (S ++ S11) w12 H12 ?_ ?_ ?_ ?_ (by have := hc12.size; have := hc11.size; have := hc10.size; have := hc47d.size; omega)
   ·rw [Zzw]; exact hr12
   ·rcases hf12 with rfl | hf
    ·exact hfr
    ·intro a ha
     have := hf a ha
     have := hc11.size; have := hc10.size; have := hc47d.size
     omega
   ·refine ((hSok.chg0 ((hc47d.trans0 hc10).trans0 hc11)).app hS11).chg hc12 ?_
    rintro b ⟨a, ha, rfl⟩
    rw [hr4.typ a ha]; decide
   ·rw [map_append, hSm, hm11, htake, YgE, length_take, Nat.min_eq_left (by omega), Nat.zero_add, append_assoc]
  refine ⟨?_, ?_⟩
  ·refine Yd4 hpath7 hpn (by omega) fun p8 c8 w8 hr8 hf8 hc8 => ?_
   have H8 := H7d.step0 hc8
   refine ⟨H8.cells 0 rfl 0, H8.cells 2 rfl 0, ?_⟩
   refine newRow (sz := 1) (n := 1) rfl (by decide) fun b27 w9 hr9 hb27 hc9 => ?_
   have H9 := H8.step0 hc9
   refine ⟨H9.cells 0 rfl 0, by rw [<- hXC] at H9; exact H9.cell 1 rfl rfl, H9.cells 2 rfl 0, ?_⟩
   refine Zx3 Yep (hr8.chg hc9 (off_no _)) hr9.sl (Zz9 rfl Zy4) (by simp) (by omega) (by simp only [maxLen]; omega) fun p10 c10 w10 hr10 hc10 hf10 => ?_
   have hc710 : Chg No w7.drew w10 := (hc8.trans0 hc9).trans hc10 fun b hb => by
    rintro ⟨a, ha, rfl⟩
    have := hf8 a ha
    omega
   refine tail w10 p10 c10 hc710 ?_
   rw [Zzw]; exact hr10
  ·refine newRow (sz := 1) (n := 1) rfl (by decide) fun b27 w8 hr8 hb27 hc8 => ?_
   have H8 := H7d.step0 hc8
   refine ⟨H8.cells 0 rfl 0, by rw [<- hXC] at H8; exact H8.cell 1 rfl rfl, H8.cells 2 rfl 0, ?_⟩
   refine Yd4 (hpath7.chg hc8 (off_no _)) hpn (by omega) fun p9 c9 w9 hr9 hf9 hc9 => ?_
   have H9 := H8.step0 hc9
   refine ⟨H9.cells 0 rfl 0, H9.cells 2 rfl 0, ?_⟩
   refine Zx3 Yep hr9 (hr8.chg hc9 (off_no _)).sl (Zz9 rfl Zy4) (by simp) (by omega) (by simp only [maxLen]; omega) fun p10 c10 w10 hr10 hc10 hf10 => ?_
   have hc710 : Chg No w7.drew w10 := (hc8.trans0 hc9).trans hc10 fun b hb => by
    rintro ⟨a, ha, rfl⟩
    have := hf9 a ha
    have := hc8.size
    omega
   refine tail w10 p10 c10 hc710 ?_
   rw [Zzw]; exact hr10
 ·have hjk : j = kl := by omega
  subst hjk
  rw [take_of_length_le (by omega)] at hSm
  exact K lp ll lc S w4 hrow (fun a ha => by have := hfr a ha; have := hc02.size; omega) hSok hSm H4.chg
end
end Go.Proofs.YtjlgopfceebdcaaGreatDoor
end
section
namespace Go.Proofs.YtjlgopfceebdcaaGreatDoor
open Go Go.Vc Go.Lib
section
variable {w w' : World}
theorem Outer_ok {x : SpV} {p : Option Addr} {c : Nat} {J : Option Addr -> Nat -> Nat -> World -> Prop} (h : Sl w p 1 7 (rows SpV.cells [x]))
  (K : ∀ p' c' w', Row w' Zz8 7 p' 1 c' (rows SpV.cells [x]) -> fresh w p' -> Chg No w w' -> J p' 1 c' w') :
  Zz1 Tryz.prog Yc1 #[.slice p 1 c] w [.one .slice] J := by
 refine c_pick_outer ?_
 refine ⟨fun op ol oc i w' m => Chg No w w' /\ ((i = 0 /\ m = 1 /\ op = none /\ ol = 0 /\ oc = 0) \/ (i = 1 /\ m = 0 /\ ol = 1 /\ Row w' Zz8 7 op 1 oc (rows SpV.cells [x]) /\ fresh w op)),
  ⟨_, Chg.refl _ _, .inl ⟨rfl, rfl, rfl, rfl, rfl⟩⟩, ?_⟩
 rintro op ol oc i w1 m ⟨hc1, ⟨rfl, rfl, rfl, rfl, rfl⟩ | ⟨rfl, rfl, rfl, hrow, hf⟩⟩
 ·refine Zz5 (fun hlt => ?_) (fun hge => by omega)
  refine Zzf fun J3 hJ3 => ?_
  refine Zzu (h.chg hc1 (off_no _)) (ZyD [x]) (by decide) (by omega) hlt fun a y hpa hy hcs => ?_
  have hxy : x = y := by simpa using hy
  subst hxy
  obtain ⟨xp, xl, xc, xpath, xv⟩ := x
  have hzc : ∃ zk zu zl zt zap zal zac zkp zkl zkc, xv.cells = [.int .i64 zk, .string zu, .string zl, .slice zap zal zac, .slice zkp zkl zkc, .string zt] := by
   cases xv with
   | mk k u l' t ap al ac ats kp kl kc ks => exact ⟨_, _, _, _, _, _, _, _, _, _, rfl⟩
  obtain ⟨zk, zu, zl', zt, zap, zal, zac, zkp, zkl, zkc, hze⟩ := hzc
  have hsp : SpV.cells ⟨xp, xl, xc, xpath, xv⟩ = [.slice xp xl xc, .int .i64 zk, .string zu, .string zl', .slice zap zal zac, .slice zkp zkl zkc, .string zt] := by unfold SpV.cells; rw [hze]
  have hone : one1 [.slice xp xl xc, .int .i64 zk, .string zu, .string zl', .slice zap zal zac, .slice zkp zkl zkc, .string zt] := by rw [<- hsp]; exact YbV _
  rw [hsp] at hcs
  refine ldSpot hcs ?_
  rw [YbC]
  refine (Hp.start w1 No).newB fun b5 w3 H3 hb5 hc3 => ?_
  refine H3.stN 0 rfl (off := 0) rfl (by simp) hone fun w4 H4 hc4 => ?_
  simp only [set_cons_zero, spl7] at H4
  have hc14 : Chg No w1 w4 := hc3.trans hc4 fun b hb e => by subst e; omega
  refine Zzf fun J49 hJ49 => ?_
  have H4d := H4.drew
  refine Zzd (fun _ => ?_) (fun hf => absurd hf (by decide))
  rw [hJ49]
  refine Zzd (fun _ => ?_) (fun hf => absurd hf (by decide))
  refine Yhf H4d 0 rfl ?_
  refine ⟨rfl, ?_⟩
  refine newRow (sz := 7) (n := 1) rfl (by decide) fun b6 w6 hr6 hb6 hc6 => ?_
  refine Zx3 Yeo (Row.nil _ _ _) hr6.sl hone (by simp) (by omega) (by simp only [maxLen]; omega) fun p7 c7 w7 hr7 hc7 hf7 => ?_
  rw [hJ3]
  have hcd : Chg No w1 w4.drew := hc14.drew
  have hc17 : Chg No w1 w7 := (hcd.trans0 hc6).trans hc7 fun b hb => by
   rintro ⟨a, ha, _⟩; cases ha
  refine ⟨0, by omega, hc1.trans0 hc17, .inr ⟨by decide, rfl, rfl, ?_, ?_⟩⟩
  ·have e1 : rows SpV.cells [⟨xp, xl, xc, xpath, xv⟩] = SpV.cells ⟨xp, xl, xc, xpath, xv⟩ := by simp [rows]
   rw [e1, hsp]; exact hr7
  ·rcases hf7 with rfl | hf
   ·rintro a ⟨⟩
   ·intro a ha
    have := hf a ha
    have := hc1.size; have := hcd.size; have := hc6.size
    omega
 ·refine Zz5 (fun hlt => by omega) (fun hge => ?_)
  exact K op oc w1 hrow hf hc1
end
end Go.Proofs.YtjlgopfceebdcaaGreatDoor
end
section
namespace Go.Proofs
open Go.Shelf
def Tryz.lays6_ren : Go.Shelf.Ren := ⟨fun | 6 => 19 | 14 => 55 | 15 => 56 | 20 => 106 | 21 => 107 | 22 => 108 | 23 => 109 | 24 => 110 | 25 => 111 | 26 => 112 | 27 => 113 | 28 => 114 | 29 => 115 | 46 => 167 | 47 => 168 | 48 => 169 | 49 => 170 | 50 => 171 | 57 => 218 | n => n, fun | 0 => 0 | 3 => 3 | 4 => 4 | 5 => 5 | 9 => 9 | 22 => 58 | 24 => 57 | 25 => 67 | 39 => 127 | 45 => 171 | 46 => 172 | 50 => 154 | 53 => 178 | 55 => 180 | 66 => 238 | 70 => 242 | 76 => 310 | 77 => 311 | n => n, fun | n => n⟩
theorem Tryz.lays6 : Go.Proofs.SlLaysF0.n6 Tryz.prog Tryz.lays6_ren where
 mixed := by kernel_rfl
 f6 := ⟨(Tryz.f19).name, by kernel_rfl, by kernel_rfl⟩
 f14 := ⟨(Tryz.f55).name, by kernel_rfl, by kernel_rfl⟩
 f15 := by kernel_rfl
 f20 := ⟨(Tryz.f106).name, by kernel_rfl, by kernel_rfl⟩
 f21 := ⟨(Tryz.f107).name, by kernel_rfl, by kernel_rfl⟩
 f22 := ⟨(Tryz.f108).name, by kernel_rfl, by kernel_rfl⟩
 f23 := ⟨(Tryz.f109).name, by kernel_rfl, by kernel_rfl⟩
 f24 := ⟨(Tryz.f110).name, by kernel_rfl, by kernel_rfl⟩
 f25 := ⟨(Tryz.f111).name, by kernel_rfl, by kernel_rfl⟩
 f26 := ⟨(Tryz.f112).name, by kernel_rfl, by kernel_rfl⟩
 f27 := ⟨(Tryz.f113).name, by kernel_rfl, by kernel_rfl⟩
 f28 := by kernel_rfl
 f29 := by kernel_rfl
 f46 := ⟨(Tryz.f167).name, by kernel_rfl, by kernel_rfl⟩
 f47 := by kernel_rfl
 f48 := by kernel_rfl
 f49 := ⟨(Tryz.f170).name, by kernel_rfl, by kernel_rfl⟩
 f50 := ⟨(Tryz.f171).name, by kernel_rfl, by kernel_rfl⟩
 f57 := ⟨(Tryz.f218).name, by kernel_rfl, by kernel_rfl⟩
 t0 := by kernel_rfl
 a0 := fun w => by kernel_rfl
 z0 := fun w => by kernel_rfl
 v0 := fun w => by kernel_rfl
 t3 := by kernel_rfl
 a3 := fun w => by kernel_rfl
 z3 := fun w => by kernel_rfl
 v3 := fun w => by kernel_rfl
 t4 := by kernel_rfl
 a4 := fun w => by kernel_rfl
 z4 := fun w => by kernel_rfl
 v4 := fun w => by kernel_rfl
 t5 := by kernel_rfl
 a5 := fun w => by kernel_rfl
 z5 := fun w => by kernel_rfl
 v5 := fun w => by kernel_rfl
 t9 := by kernel_rfl
 a9 := fun w => by kernel_rfl
 z9 := fun w => by kernel_rfl
 v9 := fun w => by kernel_rfl
 t22 := by kernel_rfl
 a22 := fun w => by kernel_rfl
 z22 := fun w => by kernel_rfl
 v22 := fun w => by kernel_rfl
 t25 := by kernel_rfl
 a25 := fun w => by kernel_rfl
 z25 := fun w => by kernel_rfl
 v25 := fun w => by kernel_rfl
 t39 := by kernel_rfl
 a39 := fun w => by kernel_rfl
 z39 := fun w => by kernel_rfl
 v39 := fun w => by kernel_rfl
 t45 := by kernel_rfl
 a45 := fun w => by kernel_rfl
 z45 := fun w => by kernel_rfl
 v45 := fun w => by kernel_rfl
 t46 := by kernel_rfl
 a46 := fun w => by kernel_rfl
 z46 := fun w => by kernel_rfl
 v46 := fun w => by kernel_rfl
 t50 := by kernel_rfl
 a50 := fun w => by kernel_rfl
 z50 := fun w => by kernel_rfl
 v50 := fun w => by kernel_rfl
 t53 := by kernel_rfl
 a53 := fun w => by kernel_rfl
 z53 := fun w => by kernel_rfl
 v53 := fun w => by kernel_rfl
 t55 := by kernel_rfl
 a55 := fun w => by kernel_rfl
 z55 := fun w => by kernel_rfl
 v55 := fun w => by kernel_rfl
 t66 := by kernel_rfl
 a66 := fun w => by kernel_rfl
 z66 := fun w => by kernel_rfl
 v66 := fun w => by kernel_rfl
 t70 := by kernel_rfl
 a70 := fun w => by kernel_rfl
 z70 := fun w => by kernel_rfl
 v70 := fun w => by kernel_rfl
 t76 := by kernel_rfl
 a76 := fun w => by kernel_rfl
 z76 := fun w => by kernel_rfl
 v76 := fun w => by kernel_rfl
 t77 := by kernel_rfl
 a77 := fun w => by kernel_rfl
 z77 := fun w => by kernel_rfl
 v77 := fun w => by kernel_rfl
end Go.Proofs
end
section
namespace Go.Proofs.YtjlgopfceebdcaaGreatDoor
open Go Go.Vc
theorem Zx8 {a : Option Addr} {b c : Nat} {w : World} {J : World -> Prop} (h :
 Zz1 Tryz.prog YaB #[.int .u64 (IntKind.u64.wrap (b : Int))] w [.one (.int .i64)] fun d e =>
 Zz1 Tryz.prog ZzK #[.slice a b c, .int .i64 0, .int .i64 (b : Int), .int .i64 d, .func (.func 20) #[] #[]] e [] fun f =>
 J f) : Zz1 Tryz.prog ZzN #[.slice a b c, .func (.func 20) #[] #[]] w [] J := Zz6 Tryz.func19 (.s .o .o) (Eq.mpr (by kernel_rfl) h)
theorem ZxT {a : Option Addr} {b c : Nat} {d e f : Int} {w : World} {J : World -> Prop} (h :
 ∃ bp : Int -> Int -> Int -> Bool -> Bool -> World -> Nat -> Prop, (∃ bq, bp d e f true true w bq) /\ ∀ (d : Int) (e : Int) (f : Int) (bb : Bool) (bc : Bool) (bd : World) (bq : Nat), bp d e f bb bc bd bq -> (
 Zz2 (decide ((w64 (e - d)) <= (12 : Int))) (
 Zz1 Tryz.prog Zyi #[.slice a b c, .int .i64 d, .int .i64 e, .func (.func 20) #[] #[]] bd [] fun g =>
 J g) (
 Zz2 (f == (0 : Int)) (
 Zz1 Tryz.prog Zqu #[.slice a b c, .int .i64 d, .int .i64 e, .func (.func 20) #[] #[]] bd [] fun i =>
 J i) (
 Zzl (fun (be : Int) (bf : World) =>
 Zz1 Tryz.prog Zq1 #[.slice a b c, .int .i64 d, .int .i64 e, .func (.func 20) #[] #[]] bf [.one (.int .i64), .one (.int .i64)] fun j k l =>
 Zzl (fun (bg : Int) (bi : Int) (bj : World) =>
 Zzl (fun (bk : World) =>
 Zzl (fun (bl : Bool) (bm : World) =>
 Zz2 bl (
 Zz1 Tryz.prog ZxG #[.slice a b c, .int .i64 d, .int .i64 e, .int .i64 bg, .func (.func 20) #[] #[]] bm [.one (.int .i64)] fun m n =>
 ∃ br, br < bq /\ bp m e be bb bc n br) (
 Zz1 Tryz.prog Zqf #[.slice a b c, .int .i64 d, .int .i64 e, .int .i64 bg, .func (.func 20) #[] #[]] bm [.one (.int .i64), .one .bool] fun o p q =>
 (8 : Int) ≠ 0 /\
 Zz2 (decide ((w64 (o - d)) < (w64 (e - o)))) (
 Zz1 Tryz.prog ZzK #[.slice a b c, .int .i64 d, .int .i64 o, .int .i64 be, .func (.func 20) #[] #[]] q [] fun r =>
 ∃ br, br < bq /\ bp (w64 (o + (1 : Int))) e be (decide ((w64 (o - d)) >= (w64 (Int.tdiv (w64 (e - d)) (8 : Int))))) p r br) (
 Zz1 Tryz.prog ZzK #[.slice a b c, .int .i64 (w64 (o + (1 : Int))), .int .i64 e, .int .i64 be, .func (.func 20) #[] #[]] q [] fun s =>
 ∃ br, br < bq /\ bp d o be (decide ((w64 (e - o)) >= (w64 (Int.tdiv (w64 (e - d)) (8 : Int))))) p s br))) fun t =>
 Zz2 (decide (d > (0 : Int))) (
 ZyN a b (w64 (d - (1 : Int))) fun u =>
 ldS bk.drew ((u.add ((w64 (d - (1 : Int))).toNat * 7))) fun v x y =>
 ldI .i64 bk.drew (((u.add ((w64 (d - (1 : Int))).toNat * 7)).add 1)) fun z =>
 ldStr bk.drew (((u.add ((w64 (d - (1 : Int))).toNat * 7)).add 2)) fun aa =>
 ldStr bk.drew (((u.add ((w64 (d - (1 : Int))).toNat * 7)).add 3)) fun ab =>
 ldS bk.drew (((u.add ((w64 (d - (1 : Int))).toNat * 7)).add 4)) fun ac ad ae =>
 ldS bk.drew (((u.add ((w64 (d - (1 : Int))).toNat * 7)).add 5)) fun af ag ai =>
 ldStr bk.drew (((u.add ((w64 (d - (1 : Int))).toNat * 7)).add 6)) fun aj =>
 ZyN a b bg fun ak =>
 ldS bk.drew ((ak.add (bg.toNat * 7))) fun al am an =>
 ldI .i64 bk.drew (((ak.add (bg.toNat * 7)).add 1)) fun ao =>
 ldStr bk.drew (((ak.add (bg.toNat * 7)).add 2)) fun ap =>
 ldStr bk.drew (((ak.add (bg.toNat * 7)).add 3)) fun aq =>
 ldS bk.drew (((ak.add (bg.toNat * 7)).add 4)) fun ar au av =>
 ldS bk.drew (((ak.add (bg.toNat * 7)).add 5)) fun ax ay az =>
 ldStr bk.drew (((ak.add (bg.toNat * 7)).add 6)) fun a0 =>
 Zz1 Tryz.prog Yai #[.agg ⟨[.slice v x y, .int .i64 z, .string aa, .string ab, .slice ac ad ae, .slice af ag ai, .string aj]⟩, .agg ⟨[.slice al am an, .int .i64 ao, .string ap, .string aq, .slice ar au av, .slice ax ay az, .string a0]⟩] bk.drew [.one (.int .i64)] fun a1 a2 =>
 t (!(decide (a1 < (0 : Int)))) a2) (
 t false bk.drew)) fun a3 =>
 Zzl (fun (bn : Bool) (bo : World) =>
 Zz2 bn (
 Zz1 Tryz.prog Zx4 #[.slice a b c, .int .i64 d, .int .i64 e, .func (.func 20) #[] #[]] bo [.one .bool] fun a4 a5 =>
 Zz2 a4 (
 J a5) (
 a3 a5)) (
 a3 bo)) fun a6 =>
 Zz2 bb (
 Zz2 bc (
 a6 (bi == (1 : Int)) bj) (
 a6 false bj)) (
 a6 false bj)) fun a7 =>
 Zz2 (k == (2 : Int)) (
 Zz1 Tryz.prog ZxN #[.slice a b c, .int .i64 d, .int .i64 e, .func (.func 20) #[] #[]] l [] fun a8 =>
 a7 (w64 ((w64 (e - (1 : Int))) - (w64 (j - d)))) (1 : Int) a8) (
 a7 j k l)) fun a9 =>
 Zz2 (!bb) (
 Zz1 Tryz.prog ZxJ #[.slice a b c, .int .i64 d, .int .i64 e, .func (.func 20) #[] #[]] bd [] fun ba =>
 a9 (w64 (f - (1 : Int))) ba) (
 a9 f bd))))) : Zz1 Tryz.prog ZzK #[.slice a b c, .int .i64 d, .int .i64 e, .int .i64 f, .func (.func 20) #[] #[]] w [] J := Zz6 Tryz.func55 (.s .o (.s .o (.b (.l [(1, .int .i64), (2, .int .i64), (3, .int .i64), (10, .bool), (11, .bool)] (.b (.s .o (.s (.s .o (.c (.s .o .o) .o)) (.s (.s .o (.c (.s .o .o) .o)) (.j [(3, .int .i64)] (.s .o (.c (.s .o .o) .o)) (.s .o (.j [(13, .int .i64), (14, .int .i64)] (.s .o (.c (.s .o (.s .o .o)) .o)) (.j [] (.j [(75, .bool)] .o (.c (.s .o (.c .o .o)) .o)) (.s (.j [(97, .bool)] (.d (.take 0 (.take 1 (.take 2 (.take 3 (.take 4 (.take 5 (.take 6 (.take 7 (.take 8 (.take 9 (.take 10 (.take 11 (.take 12 (.eff 13 (.take 14 (.take 15 (.take 16 .done))) .none))))))))))))))) (.c (.s .o (.s .o .o)) .o)) (.s .o (.s .o (.s .o (.s .o (.s .o (.c (.s .o (.s .o .o)) (.s .o (.s .o .o))))))))))))))))))))) (Eq.mpr (by kernel_rfl) h)
theorem Zxi {a : Option Addr} {b c : Nat} {d e : Int} {w : World} {J : World -> Prop} (h :
 ∃ bp : Int -> World -> Nat -> Prop, (∃ bq, bp (w64 (d + (1 : Int))) w bq) /\ ∀ br bs bq, bp br bs bq -> (
 Zz2 (decide (br < e)) (
 ∃ bt : Int -> World -> Nat -> Prop, (∃ bq, bt br bs bq) /\ ∀ bu bv bx, bt bu bv bx -> (
 Zzl (fun (bn : Bool) (bo : World) =>
 Zz2 bn (
 ZyN a b (w64 (bu - (1 : Int))) fun f =>
 ldS bo.drew ((f.add ((w64 (bu - (1 : Int))).toNat * 7))) fun g i j =>
 ldI .i64 bo.drew (((f.add ((w64 (bu - (1 : Int))).toNat * 7)).add 1)) fun k =>
 ldStr bo.drew (((f.add ((w64 (bu - (1 : Int))).toNat * 7)).add 2)) fun l =>
 ldStr bo.drew (((f.add ((w64 (bu - (1 : Int))).toNat * 7)).add 3)) fun m =>
 ldS bo.drew (((f.add ((w64 (bu - (1 : Int))).toNat * 7)).add 4)) fun n o p =>
 ldS bo.drew (((f.add ((w64 (bu - (1 : Int))).toNat * 7)).add 5)) fun q r s =>
 ldStr bo.drew (((f.add ((w64 (bu - (1 : Int))).toNat * 7)).add 6)) fun t =>
 ZyN a b bu fun u =>
 ldS bo.drew ((u.add (bu.toNat * 7))) fun v x y =>
 ldI .i64 bo.drew (((u.add (bu.toNat * 7)).add 1)) fun z =>
 ldStr bo.drew (((u.add (bu.toNat * 7)).add 2)) fun aa =>
 ldStr bo.drew (((u.add (bu.toNat * 7)).add 3)) fun ab =>
 ldS bo.drew (((u.add (bu.toNat * 7)).add 4)) fun ac ad ae =>
 ldS bo.drew (((u.add (bu.toNat * 7)).add 5)) fun af ag ai =>
 ldStr bo.drew (((u.add (bu.toNat * 7)).add 6)) fun aj =>
 ZyN a b bu fun ak =>
 stN bo.drew ((ak.add (bu.toNat * 7))) ⟨[.slice g i j, .int .i64 k, .string l, .string m, .slice n o p, .slice q r s, .string t]⟩ 7 fun al =>
 ZyN a b (w64 (bu - (1 : Int))) fun am =>
 stN al ((am.add ((w64 (bu - (1 : Int))).toNat * 7))) ⟨[.slice v x y, .int .i64 z, .string aa, .string ab, .slice ac ad ae, .slice af ag ai, .string aj]⟩ 7 fun an =>
 ∃ bz, bz < bx /\ bt (w64 (bu - (1 : Int))) an bz) (
 ∃ bz, bz < bq /\ bp (w64 (br + (1 : Int))) bo bz)) fun ao =>
 Zz2 (decide (bu > d)) (
 ZyN a b bu fun ap =>
 ldS bv.drew ((ap.add (bu.toNat * 7))) fun aq ar au =>
 ldI .i64 bv.drew (((ap.add (bu.toNat * 7)).add 1)) fun av =>
 ldStr bv.drew (((ap.add (bu.toNat * 7)).add 2)) fun ax =>
 ldStr bv.drew (((ap.add (bu.toNat * 7)).add 3)) fun ay =>
 ldS bv.drew (((ap.add (bu.toNat * 7)).add 4)) fun az a0 a1 =>
 ldS bv.drew (((ap.add (bu.toNat * 7)).add 5)) fun a2 a3 a4 =>
 ldStr bv.drew (((ap.add (bu.toNat * 7)).add 6)) fun a5 =>
 ZyN a b (w64 (bu - (1 : Int))) fun a6 =>
 ldS bv.drew ((a6.add ((w64 (bu - (1 : Int))).toNat * 7))) fun a7 a8 a9 =>
 ldI .i64 bv.drew (((a6.add ((w64 (bu - (1 : Int))).toNat * 7)).add 1)) fun ba =>
 ldStr bv.drew (((a6.add ((w64 (bu - (1 : Int))).toNat * 7)).add 2)) fun bb =>
 ldStr bv.drew (((a6.add ((w64 (bu - (1 : Int))).toNat * 7)).add 3)) fun bc =>
 ldS bv.drew (((a6.add ((w64 (bu - (1 : Int))).toNat * 7)).add 4)) fun bd be bf =>
 ldS bv.drew (((a6.add ((w64 (bu - (1 : Int))).toNat * 7)).add 5)) fun bg bi bj =>
 ldStr bv.drew (((a6.add ((w64 (bu - (1 : Int))).toNat * 7)).add 6)) fun bk =>
 Zz1 Tryz.prog Yai #[.agg ⟨[.slice aq ar au, .int .i64 av, .string ax, .string ay, .slice az a0 a1, .slice a2 a3 a4, .string a5]⟩, .agg ⟨[.slice a7 a8 a9, .int .i64 ba, .string bb, .string bc, .slice bd be bf, .slice bg bi bj, .string bk]⟩] bv.drew [.one (.int .i64)] fun bl bm =>
 ao (decide (bl < (0 : Int))) bm) (
 ao false bv.drew))) (
 J bs))) : Zz1 Tryz.prog Zyi #[.slice a b c, .int .i64 d, .int .i64 e, .func (.func 20) #[] #[]] w [] J := Zz6 Tryz.func106 (.s .o (.b (.l [(8, .int .i64)] (.s (.s .o (.c .o .o)) (.s (.b (.s .o (.b (.l [(9, .int .i64)] (.s (.j [(34, .bool)] (.d (.take 0 (.take 1 (.take 2 (.take 3 (.take 4 (.take 5 (.take 6 (.take 7 (.take 8 (.take 9 (.take 10 (.take 11 (.take 12 (.take 13 (.eff 14 (.take 15 (.take 16 .done)) .none)))))))))))))))) (.c .o .o)) (.s (.b (.d (.take 0 (.take 1 (.take 2 (.take 3 (.take 4 (.take 5 (.take 6 (.take 7 (.take 8 (.take 9 (.take 10 (.take 11 (.take 12 (.take 13 (.take 14 (.eff 15 (.take 16 (.eff 17 .done .none)) .none)))))))))))))))))) .o)))))) .o))))) (Eq.mpr (by kernel_rfl) h)
end Go.Proofs.YtjlgopfceebdcaaGreatDoor
end
section
namespace Go.Proofs.YtjlgopfceebdcaaGreatDoor
open Go Go.Vc
theorem Yhc {a : Int} {w : World} {J : Int -> World -> Prop} (h :
 Zz1 Tryz.prog ZqS #[.int .u64 a] w [.one (.int .i64)] fun b c =>
 J b c) : Zz1 Tryz.prog YaB #[.int .u64 a] w [.one (.int .i64)] J := Zz6 Tryz.func56 (.s .o (.s (.c .u .o) (.s .o .o))) (Eq.mpr (by kernel_rfl) h)
theorem Yfz {a : Int} {w : World} {J : Int -> World -> Prop} (h :
 Zzl (fun (a : Int) (f : Int) (g : World) =>
 Zzl (fun (i : Int) (j : Int) (k : World) =>
 Zzl (fun (l : Int) (m : Int) (n : World) =>
 Zy9 ⟨#[0, 1, 2, 2, 3, 3, 3, 3, 4, 4, 4, 4, 4, 4, 4, 4, 5, 5, 5, 5, 5, 5, 5, 5, 5, 5, 5, 5, 5, 5, 5, 5, 6, 6, 6, 6, 6, 6, 6, 6, 6, 6, 6, 6, 6, 6, 6, 6, 6, 6, 6, 6, 6, 6, 6, 6, 6, 6, 6, 6, 6, 6, 6, 6, 7, 7, 7, 7, 7, 7, 7, 7, 7, 7, 7, 7, 7, 7, 7, 7, 7, 7, 7, 7, 7, 7, 7, 7, 7, 7, 7, 7, 7, 7, 7, 7, 7, 7, 7, 7, 7, 7, 7, 7, 7, 7, 7, 7, 7, 7, 7, 7, 7, 7, 7, 7, 7, 7, 7, 7, 7, 7, 7, 7, 7, 7, 7, 7, 8, 8, 8, 8, 8, 8, 8, 8, 8, 8, 8, 8, 8, 8, 8, 8, 8, 8, 8, 8, 8, 8, 8, 8, 8, 8, 8, 8, 8, 8, 8, 8, 8, 8, 8, 8, 8, 8, 8, 8, 8, 8, 8, 8, 8, 8, 8, 8, 8, 8, 8, 8, 8, 8, 8, 8, 8, 8, 8, 8, 8, 8, 8, 8, 8, 8, 8, 8, 8, 8, 8, 8, 8, 8, 8, 8, 8, 8, 8, 8, 8, 8, 8, 8, 8, 8, 8, 8, 8, 8, 8, 8, 8, 8, 8, 8, 8, 8, 8, 8, 8, 8, 8, 8, 8, 8, 8, 8, 8, 8, 8, 8, 8, 8, 8, 8, 8, 8, 8, 8, 8, 8, 8, 8, 8, 8, 8, 8]⟩ (IntKind.u8.wrap l) fun b =>
 J (w64 (m + (w64 b))) n) fun c =>
 Zz2 (decide (i >= (256 : Int))) (
 0 <= (8 : Int) /\
 c (Ycf .u64 i (8 : Int)) (w64 (j + (8 : Int))) k) (
 c i j k)) fun d =>
 Zz2 (decide (a >= (65536 : Int))) (
 0 <= (16 : Int) /\
 d (Ycf .u64 a (16 : Int)) (w64 (f + (16 : Int))) g) (
 d a f g)) fun e =>
 Zz2 (decide (a >= (4294967296 : Int))) (
 0 <= (32 : Int) /\
 e (Ycf .u64 a (32 : Int)) (32 : Int) w) (
 e a (0 : Int) w)) : Zz1 Tryz.prog ZqS #[.int .u64 a] w [.one (.int .i64)] J := Zz6 Tryz.func115 (.s .o (.j [(0, .int .u64), (2, .int .i64)] (.s .o (.c (.s .o .o) .o)) (.j [(0, .int .u64), (2, .int .i64)] (.s .o (.c (.s .o .o) .o)) (.j [(0, .int .u64), (2, .int .i64)] (.s .o (.c (.s .o .o) .o)) (.s .o .o))))) (Eq.mpr (by kernel_rfl) h)
end Go.Proofs.YtjlgopfceebdcaaGreatDoor
end
