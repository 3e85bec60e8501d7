/-
  Chapter 15: 'SheetPuts'.
-/
import Derived.Test.YtgplflecgnldeaaAwake15
import Derived.Test.YtgplflecgnldeaaPuts15
namespace Go.Proofs.Ytgplflecgnldeaa
open Go Go.Vc

theorem where_nil {w : World} {n : Int} {J : Int → Int → World → Prop} (k : J 0 2 w) : callJ Try.prog fn_sheet_where #[.pointer none, .int .i64 n] w [.one (.int .i64), .one (.int .i64)] J := by
  refine c_sheet_where ?_
  unfold VC_sheet_where
  exact condB_i (fun _ => k) (fun h => by simp at h)
theorem Put_nil {w : World} {n s : Int} {p : Option Addr} {l c : Nat} {J : Int → World → Prop} (k : J 2 w) : callJ Try.prog fn_sheet_Put #[.pointer none, .int .i64 n, .int .u64 s, .slice p l c] w [.one (.int .i64)] J := by
  refine c_sheet_Put ?_
  unfold VC_sheet_Put
  exact where_nil (condB_ne (fun _ => k) (fun h => absurd h (by decide)))

/-- Where the law stands: the drum, what it wants of it, the last head. -/
structure PS (w w' : World) (d b69 b14 : Nat) (W : List UInt8) (hd : HeadR) (F : List Nat) (D : DS) : Prop where
  own : Own w w' d F D
  calm : Calm D
  want : w'.heap[b69]? = some (.cells ⟨bcells W⟩ T_uint8 (0, 0))
  last : w'.heap[b14]? = some (.cells ⟨[.int .i64 hd.g, .int .u64 (hd.s : Int)]⟩ T_ref15_Head (0, 0))
  n69 : w.heap.size ≤ b69
  n14 : w.heap.size ≤ b14
theorem nd_rhead : notDrum T_ref15_Head := ⟨by decide, by decide, by decide⟩

section
variable {w w' w'' : World} {d b69 b14 : Nat} {W : List UInt8} {hd : HeadR} {F : List Nat} {D : DS}
theorem PS.step0 (h : PS w w' d b69 b14 W hd F D) (hc : Chg No w' w'') : PS w w'' d b69 b14 W hd F D := ⟨h.own.step0 hc, h.calm, hc.heap h.want id, hc.heap h.last id, h.n69, h.n14⟩
theorem PS.upd (h : PS w w' d b69 b14 W hd F D) {F' : List Nat} {D' : DS} (ho : Own w w'' d F' D') (hc : Chg (· ∈ F) w' w'') (hcalm : Calm D') : PS w w'' d b69 b14 W hd F' D' :=
  ⟨ho, hcalm, hc.heap h.want (h.own.at_.apart (typ_of h.want) nd_u8), hc.heap h.last (h.own.at_.apart (typ_of h.last) nd_rhead), h.n69, h.n14⟩
theorem PS.row (h : PS w w' d b69 b14 W hd F D) (hl : W.length ≤ 100000) : Row w' T_uint8 1 (some ⟨b69, 0, none⟩) W.length W.length (bcells W) :=
  ⟨by rw [bcells_length, Nat.mul_one], .inr ⟨b69, [], rfl, by rw [List.append_nil]; exact h.want, Nat.le_refl _, by simp only [maxLen]; omega, by rw [List.append_nil, bcells_length, Nat.mul_one]⟩⟩

/-- copy(want[off:], b) -/
theorem PS.copy (h : PS w w' d b69 b14 W hd F D) {L : Nat} (hL : W.length = L) {off : Nat} {q : Option Addr} {m c : Nat} {b : List UInt8} (hq : Bytes w' q m b) (hqn : q = none → m = 0) (hoff : off + m ≤ L) (hm : 1 ≤ m) {K : Int → World → Prop}
    (k : ∀ x w'', PS w w'' d b69 b14 (W.take off ++ b ++ W.drop (off + m)) hd F D → Chg (fun x => x = b69) w' w'' → K x w'') :
    slS (some ⟨b69, 0, none⟩) L L 1 (some (off : Int)) none none fun p l c' => cpyJ Try.prog T_sl_uint8 T_sl_uint8 (.slice p l c') (.slice q m c) w' K := by
  subst hL
  refine ⟨off, W.length, W.length, rfl, rfl, rfl, by omega, Nat.le_refl _, Nat.le_refl _, ?_⟩
  rw [if_neg (by omega)]
  simp only [Option.map_some, Addr.add_mk, Nat.zero_add, Nat.mul_one]
  have hbl := hq.len
  have H := (Hp.start w' (fun x => x = b69)).add h.want (by simp) (fun _ => rfl)
  refine H.cpy 0 rfl slT_u8 hq hqn (one1_bcells b) (by rw [bcells_length]; omega) fun w2 H2 hc2 => ?_
  have e : splice (bcells W) off ((bcells b).take (min m (W.length - off))) = bcells (W.take off ++ b ++ W.drop (off + m)) := by
    rw [List.take_of_length_le (by rw [bcells_length]; omega)]
    unfold splice
    rw [bcells_length, hbl]
    unfold bcells
    rw [← List.map_take, ← List.map_drop, ← List.map_append, ← List.map_append]
  simp only [List.set_cons_zero] at H2
  rw [e] at H2
  have h69F : b69 ∉ F := h.own.at_.apart (typ_of h.want) nd_u8
  have hne : b14 ≠ b69 := typ_ne (typ_of h.last) (typ_of h.want) (by decide)
  exact k _ w2 ⟨h.own.step hc2 (fun x hx e => h69F (e ▸ hx)) (fun x e => e ▸ h.n69), h.calm, H2.get 0 rfl, hc2.heap h.last hne, h.n69, h.n14⟩ hc2

/-- Another head is the last. -/
theorem PS.head (h : PS w w' d b69 b14 W hd F D) (hd' : HeadR) {K : World → Prop} (k : ∀ w'', PS w w'' d b69 b14 W hd' F D → Chg (fun x => x = b14) w' w'' → K w'') :
    stN w' ⟨b14, 0, none⟩ ⟨[.int .i64 hd'.g, .int .u64 (hd'.s : Int)]⟩ 2 K := by
  have H := (Hp.start w' (fun x => x = b14)).add h.last (by simp) (fun _ => rfl)
  refine H.stN 0 rfl (off := 0) rfl (by simp) (one1_ints2 _ _ _ _) fun w2 H2 hc2 => ?_
  have hF : b14 ∉ F := h.own.at_.apart (typ_of h.last) nd_rhead
  have hne : b69 ≠ b14 := typ_ne (typ_of h.want) (typ_of h.last) (by decide)
  exact k w2 ⟨h.own.step hc2 (fun x hx e => hF (e ▸ hx)) (fun x e => e ▸ h.n14), h.calm, hc2.heap h.want hne, by simpa [splice] using H2.get 0 rfl, h.n69, h.n14⟩ hc2
theorem PS.lastG (h : PS w w' d b69 b14 W hd F D) {K : Int → Prop} (k : K hd.g) : ldI .i64 w' ⟨b14, 0, none⟩ K := ldI_i (by rw [cell_of_row w' b14 0 _ _ (0, 0) h.last]; rfl) k
theorem PS.lastS (h : PS w w' d b69 b14 W hd F D) {K : Int → Prop} (k : K (hd.s : Int)) : ldI .u64 w' ⟨b14, 1, none⟩ K := ldI_i (by rw [cell_of_row w' b14 1 _ _ (0, 0) h.last]; rfl) k
theorem PS.chg (h : PS w w' d b69 b14 W hd F D) : Chg No w w' := h.own.chg
end

theorem took_took (D : DS) (i : Nat) : ∀ j, D.took (i + j) = (D.took i).took j
  | 0 => rfl
  | j + 1 => by
    show DS.took D (i + j + 1) = DS.took (D.took i) (j + 1)
    simp only [DS.took]
    rw [took_took D i j]
theorem wrote_flat {D D' : DS} {n : Nat} {G : List (List UInt8)} {b : List UInt8} (ok : D.Ok) (h : Wrote D D' n G) (hG : All64 G) (hb : G.flatten = b) :
    D.now.flatten.take (64 * n) ++ b ++ D.now.flatten.drop (64 * n + b.length) = D'.now.flatten := by
  have hL : All64 D.now := ok.now
  rw [h.now]
  unfold putAt
  have hg := flat_len G hG
  rw [hb] at hg
  rw [hg, show 64 * n + 64 * G.length = 64 * (n + G.length) by omega, flat_take n _ hL, flat_drop _ _ hL, ← hb]
  simp

theorem best_g0 {b : HeadR} {x : List UInt8} (hb : b.g = 0 → b.s = 0) (hg : 0 ≤ b.g) : ((bestM b x).g = 0 → (bestM b x).s = 0) ∧ 0 ≤ (bestM b x).g := by
  unfold bestM
  split
  · next h => exact ⟨fun h0 => by simp only at h0; omega, by simp only; omega⟩
  · exact ⟨hb, hg⟩

/-- The newest head of the first sectors, as the law reckons it. -/
def bstN (now : List (List UInt8)) (N : Nat) : Nat → HeadR
  | 0 => ⟨0, 0, 0⟩
  | i + 1 => bestM (bstN now N i) ((now[min i (N - 1)]?).getD [])
theorem bstN_g (now : List (List UInt8)) (N : Nat) : ∀ i, ((bstN now N i).g = 0 → (bstN now N i).s = 0) ∧ 0 ≤ (bstN now N i).g
  | 0 => ⟨fun _ => rfl, Int.le_refl _⟩
  | i + 1 => best_g0 (bstN_g now N i).1 (bstN_g now N i).2
theorem bstN_e (now : List (List UInt8)) (N : Nat) : ∀ i, (bstN now N i).e = 0
  | 0 => rfl
  | i + 1 => bestM_e (bstN_e now N i)
structure GotK (H B : HeadR) : Prop where
  g : H.g = B.g
  s : H.s = B.s
  e0 : H.e = 0 ↔ 0 < B.g
  e : H.e = 0 ∨ H.e = 11
theorem got_ok {now : List (List UInt8)} {N : Nat} (h : 64 ≤ N) : GotK (getHeadM N now) (bstN now N 2) := by
  have e2 : bstN now N 2 = bestM (bestM ⟨0, 0, 0⟩ ((now[0]?).getD [])) ((now[1]?).getD []) := by
    show bestM (bestM ⟨0, 0, 0⟩ ((now[min 0 (N - 1)]?).getD [])) ((now[min 1 (N - 1)]?).getD []) = _
    rw [Nat.min_eq_left (by omega), Nat.min_eq_left (by omega)]
  have he := bstN_e now N 2
  obtain ⟨h1, h2⟩ := bstN_g now N 2
  unfold getHeadM
  rw [if_neg (by omega), ← e2]
  generalize bstN now N 2 = B at *
  split
  · next h0 => exact ⟨h0.symm, (h1 h0).symm, by simp only; omega, .inr rfl⟩
  · next h0 => exact ⟨rfl, rfl, by omega, .inl he⟩

/-- What is laid out by the document's plan. -/
structure PlanK (N : Nat) (base pages : Int) (ok : Bool) : Prop where
  good : ok = true → 64 ≤ N ∧ base = 2 + (N : Int) / 4 ∧ pages = ((N : Int) - (2 + (N : Int) / 4)) / 8
  bad : ok = false → N < 64 ∧ pages = 0
theorem plan_of {N : Nat} (h : N ≤ 16384) : PlanK N (draftM N).2.1 (draftM N).2.2.1 (draftM N).2.2.2 := by
  by_cases hb : (N : Int) < 64 ∨ 16384 < (N : Int)
  · have e : draftM N = (0, 0, 0, false) := by unfold draftM; rw [if_pos hb]
    rw [e]
    exact ⟨fun h => (by cases h), fun _ => ⟨by omega, rfl⟩⟩
  · have e : draftM N = ((N : Int) / 4, 2 + (N : Int) / 4, ((N : Int) - (2 + (N : Int) / 4)) / 8, true) := by unfold draftM; rw [if_neg hb]
    rw [e]
    exact ⟨fun _ => ⟨by omega, rfl, rfl⟩, fun h => (by cases h)⟩
theorem PlanK.where_ {N : Nat} {base pages : Int} {ok : Bool} (h : PlanK N base pages ok) (n : Int) : (whereM N n).e = 0 ↔ ok = true ∧ 0 ≤ n ∧ n < pages := by
  unfold whereM
  cases ok with
  | true =>
    obtain ⟨h1, h2, h3⟩ := h.good rfl
    rw [← h3]
    split <;> simp <;> omega
  | false =>
    obtain ⟨h1, h2⟩ := h.bad rfl
    rw [if_pos (by omega)]; simp
theorem PlanK.at_ {N : Nat} {base pages : Int} {ok : Bool} (h : PlanK N base pages ok) {n : Int} (hn : (whereM N n).e = 0) : (whereM N n).at_ = base + 8 * n := by
  obtain ⟨h1, h2, h3⟩ := (h.where_ n).1 hn
  obtain ⟨g1, g2, g3⟩ := h.good h1
  unfold whereM
  rw [if_neg (by omega), g2]

section
variable {w : World}

/-- Behind the steps: the heads' loop's end, GetHead, the pages, the sectors. -/
theorem puts_pages {d b69 b14 N : Nat} {base pages : Int} {ok : Bool} (hp : PlanK N base pages ok) (hN1 : 1 ≤ N) (hN : N ≤ 400) {w' : World} {hd : HeadR} {F : List Nat} {D : DS} (h : PS w w' d b69 b14 D.now.flatten hd F D) (hlen : D.safe.length = N) {J : Bool → World → Prop} (k : ∀ w'', Chg No w w'' → J true w'') :
    ∃ I_239 : Int → World → Nat → Prop, (∃ m : Nat, I_239 (0 : Int) w' m) ∧ ∀ (x239 : Int) (w23 : World) (m_1 : Nat), I_239 x239 w23 m_1 → (
    condB (decide (x239 < pages)) (
    callJ Try.prog fn_sheet_Get #[.pointer (some ⟨d, 0, none⟩), .int .i64 x239] w23 [.one .slice, .one (.int .u64), .one (.int .i64)] fun (r245_0p : Option Addr) (r245_0l : Nat) (r245_0c : Nat) (r245_1 : Int) (r245_2 : Int) (w24 : World) =>
    slS (some ⟨b69, 0, none⟩) (64 * N) (64 * N) 1 (some (w64 ((64 : Int) * (w64 (base + (w64 ((8 : Int) * x239))))))) (some (w64 ((w64 ((64 : Int) * (w64 (base + (w64 ((8 : Int) * x239)))))) + (512 : Int)))) none fun q263p q263l q263c =>
    callJ Try.prog fn_ref15_Take #[.int .i64 x239, .slice q263p q263l q263c] w24 [.one .slice, .one (.int .u64), .one (.int .i64)] fun (r264_0p : Option Addr) (r264_0l : Nat) (r264_0c : Nat) (r264_1 : Int) (r264_2 : Int) (w25 : World) =>
    withJ (fun (x281 : Bool) (w26 : World) =>
    condB x281 (
    J false w26) (
    ∃ m' : Nat, m' < m_1 ∧ I_239 (w64 (x239 + (1 : Int))) w26 m')) fun J_281 =>
    condB (r245_2 != r264_2) (
    J_281 true w25) (
    condB (r245_1 != r264_1) (
    J_281 true w25) (
    callJ Try.prog fn_ref01_Same #[.slice r245_0p r245_0l r245_0c, .slice r264_0p r264_0l r264_0c] w25 [.one .bool] fun (r279 : Bool) (w27 : World) =>
    J_281 (!r279) w27))) (
    ∃ I_284 : Int → World → Nat → Prop, (∃ m : Nat, I_284 (0 : Int) w23 m) ∧ ∀ (x284 : Int) (w28 : World) (m_2 : Nat), I_284 x284 w28 m_2 → (
    condB (decide (x284 < (N : Int))) (
    callJ Try.prog fn_drum_Drum_Read #[.pointer (some ⟨d, 0, none⟩), .int .i64 x284] w28 [.one .slice, .one (.int .i64)] fun (r290_0p : Option Addr) (r290_0l : Nat) (r290_0c : Nat) (r290_1 : Int) (w29 : World) =>
    withJ (fun (x306 : Bool) (w30 : World) =>
    condB x306 (
    J false w30) (
    ∃ m' : Nat, m' < m_2 ∧ I_284 (w64 (x284 + (1 : Int))) w30 m')) fun J_306 =>
    condB (r290_1 != (0 : Int)) (
    J_306 true w29) (
    slS (some ⟨b69, 0, none⟩) (64 * N) (64 * N) 1 (some (w64 ((64 : Int) * x284))) (some (w64 ((w64 ((64 : Int) * x284)) + (64 : Int)))) none fun q303p q303l q303c =>
    callJ Try.prog fn_ref01_Same #[.slice r290_0p r290_0l r290_0c, .slice q303p q303l q303c] w29 [.one .bool] fun (r304 : Bool) (w31 : World) =>
    J_306 (!r304) w31)) (
    J true w28)))) := by
  have hall : All64 D.now := h.own.at_.ok.now
  have hnl := D.now_len
  have hWl : D.now.flatten.length = 64 * N := by rw [flat_len _ hall]; omega
  generalize hW : D.now.flatten = W at *
  refine ⟨fun x w2 m => ∃ (i j : Nat), x = i ∧ (i : Int) ≤ pages ∧ m = 400 - i ∧ PS w w2 d b69 b14 W hd F (D.took j), ⟨_, 0, 0, rfl, ?_, rfl, h⟩, ?_⟩
  · cases ok with
    | true => have := hp.good rfl; omega
    | false => have := hp.bad rfl; omega
  rintro x w2 m ⟨i, j, rfl, hi, rfl, h2⟩
  refine condB_d (fun hlt => ?_) (fun hlt => ?_)
  · have hcm := took_calm h.calm j
    have hwe : (whereM (D.took j).safe.length (i : Int)).e = 0 := by
      rw [took_safe, hlen, hp.where_]
      refine ⟨?_, by omega, hlt⟩
      cases ok with
      | true => rfl
      | false => have := hp.bad rfl; omega
    have hwe' : (whereM N (i : Int)).e = 0 := by rw [took_safe, hlen] at hwe; exact hwe
    obtain ⟨a, ha, ha8, _, _⟩ := whereM_at hwe'
    have hab := hp.at_ hwe'
    rw [ha] at hab
    refine Get_own h2.own hcm (by constructor <;> omega) fun q3 c3 w3 j3 h3 hc3 hr3 hf3 => ?_
    have hget : getM (D.took j) (i : Int) = takeM (i : Int) ((D.now.drop a).take 8).flatten := by
      unfold getM
      rw [if_neg (by rw [hwe]; simp), took_now, took_safe, hlen, ha, Int.toNat_natCast]
    rw [hget] at hr3 ⊢
    have hP3 : PS w w3 d b69 b14 W hd F ((D.took j).took j3) := h2.upd h3 hc3 (took_calm hcm j3)
    have eo : w64 ((64 : Int) * w64 (base + w64 ((8 : Int) * (i : Int)))) = ((64 * a : Nat) : Int) := by
      rw [w64_of (n := (8 : Int) * (i : Int)) (by omega) (by omega), w64_of (n := base + 8 * (i : Int)) (by omega) (by omega), w64_of] <;> omega
    rw [eo]
    have eo2 : w64 (((64 * a : Nat) : Int) + 512) = ((64 * a + 512 : Nat) : Int) := by rw [w64_of] <;> omega
    rw [eo2]
    have hrow := hP3.row (by omega)
    rw [hWl] at hrow
    refine cutB hrow.bytes (i := 64 * a) (j := 64 * a + 512) (by omega) (by omega) (Nat.le_refl _) rfl rfl fun q4 hq4 _ => ?_
    rw [show 64 * a + 512 - 64 * a = 512 by omega, ← hW, flat_eight hall] at hq4
    rw [show 64 * a + 512 - 64 * a = 512 by omega]
    refine RTake_ok (by constructor <;> omega) hq4 (by omega) fun q5 c5 w5 hr5 hf5 hc5 => ?_
    refine withJ_i fun J281 hJ281 => ?_
    refine condB_ne (fun h => absurd rfl h) fun _ => condB_ne (fun h => absurd rfl h) fun _ => ?_
    refine Same_ok (hr3.chg hc5 (off_no _)).bytes hr5.bytes ?_
    rw [decide_eq_true rfl]
    subst hJ281
    refine condB_i (fun h => by simp at h) fun _ => ?_
    have hpb : pages ≤ 400 := by
      cases ok with
      | true => have := hp.good rfl; omega
      | false => have := hp.bad rfl; omega
    exact ⟨400 - (i + 1), by omega, i + 1, j + j3, by rw [w64_of] <;> omega, by omega, rfl, by rw [took_took]; exact hP3.step0 hc5⟩
  · refine ⟨fun x w3 m => ∃ (i j : Nat), x = i ∧ i ≤ N ∧ m = N - i ∧ PS w w3 d b69 b14 W hd F (D.took j), ⟨_, 0, j, rfl, Nat.zero_le _, rfl, h2⟩, ?_⟩
    rintro x w3 m ⟨i, j, rfl, hi, rfl, h3⟩
    refine condB_d (fun hlt => ?_) (fun _ => k w3 h3.chg)
    have hcm := took_calm h.calm j
    refine Read_own h3.own fun p4 c4 w4 h4 hr4 hf4 hc4 => ?_
    rw [hcm.read (by rw [took_safe]; omega), took_now] at h4 hr4 ⊢
    change Own w w4 d F (D.took (j + 1)) at h4
    dsimp only at hr4 ⊢
    refine withJ_i fun J306 hJ306 => ?_
    refine condB_ne (fun h => absurd rfl h) fun _ => ?_
    obtain ⟨b, hb⟩ : ∃ b, D.now[i]? = some b := ⟨D.now[i]'(by omega), List.getElem?_eq_getElem (by omega)⟩
    rw [hb, Option.getD_some] at hr4 ⊢
    have hP4 := h3.upd h4 hc4 (took_calm h.calm (j + 1))
    have eo : w64 ((64 : Int) * (i : Int)) = ((64 * i : Nat) : Int) := by rw [w64_of] <;> omega
    rw [eo]
    have eo2 : w64 (((64 * i : Nat) : Int) + 64) = ((64 * i + 64 : Nat) : Int) := by rw [w64_of] <;> omega
    rw [eo2]
    have hrow := hP4.row (by omega)
    rw [hWl] at hrow
    refine cutB hrow.bytes (i := 64 * i) (j := 64 * i + 64) (by omega) (by omega) (Nat.le_refl _) rfl rfl fun q5 hq5 _ => ?_
    rw [show 64 * i + 64 - 64 * i = 64 by omega, ← hW, flat_get hall hb] at hq5
    rw [show 64 * i + 64 - 64 * i = 64 by omega]
    refine Same_ok hr4.bytes hq5 ?_
    rw [decide_eq_true rfl]
    subst hJ306
    refine condB_i (fun h => by simp at h) fun _ => ?_
    exact ⟨N - (i + 1), by omega, i + 1, j + 1, by rw [w64_of] <;> omega, by omega, rfl, hP4⟩
end

end Go.Proofs.Ytgplflecgnldeaa

