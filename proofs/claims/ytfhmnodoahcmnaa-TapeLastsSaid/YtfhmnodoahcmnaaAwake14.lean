/-
  Chapter 14: a drum whose power stays; 'awake' of the statements; 'TapeNil'.
-/
import Derived.Test.YtfhmnodoahcmnaaTapeD
import Derived.Test.YtfhmnodoahcmnaaVLaw14
namespace Go.Proofs.Ytfhmnodoahcmnaa
open Go Go.Vc

/-! ## Writes while the power stays -/

def putAt {α : Type} (L : List α) (n : Nat) (G : List α) : List α := L.take n ++ G ++ L.drop (n + G.length)
theorem putAt_nil {α : Type} (L : List α) (n : Nat) : putAt L n [] = L := by simp [putAt]
theorem putAt_len {α : Type} {L : List α} {n : Nat} {G : List α} (h : n + G.length ≤ L.length) : (putAt L n G).length = L.length := by simp [putAt]; omega
theorem putAt_cons {α : Type} {L : List α} {n : Nat} {x : α} {G : List α} (h : n + (G.length + 1) ≤ L.length) : putAt (L.set n x) (n + 1) G = putAt L n (x :: G) := by
  unfold putAt
  have e : L.set n x = L.take n ++ x :: L.drop (n + 1) := by rw [List.set_eq_take_append_cons_drop, if_pos (by omega)]
  have hl : (L.take n).length = n := by rw [List.length_take]; omega
  rw [e]
  have e1 : (L.take n ++ x :: L.drop (n + 1)).take (n + 1) = L.take n ++ [x] := by
    rw [List.take_append, hl, List.take_of_length_le (by omega), show n + 1 - n = 1 by omega]; simp
  have e2 : (L.take n ++ x :: L.drop (n + 1)).drop (n + 1 + G.length) = L.drop (n + (x :: G).length) := by
    rw [List.drop_append, hl, List.drop_of_length_le (by omega), List.nil_append, show n + 1 + G.length - n = G.length + 1 by omega, List.drop_succ_cons, List.drop_drop]
    congr 1; simp; omega
  rw [e1, e2]; simp

theorem pad_id {p : List UInt8} (h : p.length = 64) : pad p = p := by simp [pad, h]
theorem Calm.write {D : DS} (h : Calm D) {n : Nat} {p : List UInt8} (hn : n < D.safe.length) (hp : p.length = 64) :
    D.write n p = ({ D with steps := w64 (D.steps + 1), loose := D.loose ++ [(n, p)] }, 0) := by
  unfold DS.write
  rw [if_neg (by omega), if_neg (by omega), h.step]
  simp [pad_id hp]
theorem now_snoc (D : DS) (n : Nat) (p : List UInt8) (s : Int) : DS.now { D with steps := s, loose := D.loose ++ [(n, p)] } = D.now.set n p := standL_snoc _ _ _

structure Wrote (D D' : DS) (n : Nat) (G : List (List UInt8)) : Prop where
  calm : Calm D'
  safe : D'.safe = D.safe
  now : D'.now = putAt D.now n G
  loose : D'.loose.length = D.loose.length + G.length

theorem writes_calm : ∀ (G : List (List UInt8)) (D : DS) (n : Nat), Calm D → n + G.length ≤ D.safe.length → (∀ s ∈ G, s.length = 64) → (D.writes n G).2 = 0 ∧ Wrote D (D.writes n G).1 n G
  | [], D, n, h, _, _ => ⟨rfl, h, rfl, (putAt_nil _ _).symm, rfl⟩
  | s :: G, D, n, h, hn, h64 => by
    simp only [List.length_cons] at hn
    have hw := h.write (n := n) (p := s) (by omega) (h64 s (by simp))
    rw [DS.writes, hw, if_pos rfl]
    obtain ⟨e, c1, c2, c3, c4⟩ := writes_calm G { D with steps := w64 (D.steps + 1), loose := D.loose ++ [(n, s)] } (n + 1) h (by simp only; omega) (fun x hx => h64 x (by simp [hx]))
    refine ⟨e, c1, c2, ?_, ?_⟩
    · rw [c3, now_snoc, putAt_cons (by rw [DS.now_len]; omega)]
    · rw [c4]; simp; omega

theorem grp_64 (gen place group : Nat) (bs : List UInt8) : ∀ s ∈ grp gen place group bs, s.length = 64 := by
  intro s hs
  simp only [grp, List.mem_map] at hs
  obtain ⟨i, _, rfl⟩ := hs
  exact grpS_len _ _ _ _ _

/-- Append while the power stays. -/
theorem append_calm {d lo hi gen place groups : Nat} {D : DS} {bs : List UInt8} (hok : TS.Ok ⟨d, lo, hi, gen, place, groups, false⟩ D.safe.length) (h : Calm D) (hr : place + nsec bs.length ≤ hi - lo) :
    ∃ D', tapeAppend ⟨d, lo, hi, gen, place, groups, false⟩ D bs = ⟨⟨d, lo, hi, gen, place + nsec bs.length, groups + 1, false⟩, D', 0⟩ ∧ Wrote D D' (lo + place) (grp gen place groups bs) := by
  obtain ⟨k1, k2, k3, k4, k5⟩ := hok
  simp only at k1 k2 k3 k4 k5
  obtain ⟨e, hw⟩ := writes_calm (grp gen place groups bs) D (lo + place) h (by rw [grp_len]; omega) (grp_64 _ _ _ _)
  refine ⟨_, ?_, hw⟩
  unfold tapeAppend
  rw [if_neg (by simp), if_neg (by simp only; omega), if_pos e]
theorem append_full {d lo hi gen place groups : Nat} {D : DS} {bs : List UInt8} (hr : hi - lo < place + nsec bs.length) : tapeAppend ⟨d, lo, hi, gen, place, groups, false⟩ D bs = ⟨⟨d, lo, hi, gen, place, groups, false⟩, D, 4⟩ := by
  unfold tapeAppend
  rw [if_neg (by simp), if_pos hr]

theorem calm_took {D : DS} (h : Calm D) (j : Nat) : Calm (D.took j) := took_calm h j

/-! ## On a new drum nothing stands -/

theorem now_new (n : Nat) : (DS.new n).now = List.replicate n zsec := rfl
theorem hdS_zsec : hdS zsec = 0 := by decide
theorem hdL_zsec : hdL zsec = 0 := by decide

theorem sec_gen {gen place group left size : Nat} {p : List UInt8} : ((sec gen place group left size p).drop 4).take 4 = be 4 gen := by
  unfold sec
  rw [List.drop_left' (be_len _ _)]
  unfold secBody
  simp only [List.append_assoc]
  rw [List.take_left' (be_len _ _)]

theorem good_gen {st : SC} {gen i : Nat} {b : List UInt8} (h : st.good gen i b) (hg : gen < 2 ^ 32) : beVal ((b.drop 4).take 4) = gen := by
  rw [← h.2, sec_gen, beVal_be, Nat.mod_eq_of_lt (by omega)]
theorem opened_other {gen : Nat} {secs : List (List UInt8)} (hg : gen < 2 ^ 32) (h : ∀ b, secs[0]? = some b → beVal ((b.drop 4).take 4) ≠ gen) : opened gen secs = SC.zero := by
  unfold opened
  cases secs with
  | nil => rfl
  | cons b r =>
    rw [scan, if_neg]
    intro hgood
    exact h b rfl (good_gen hgood hg)
theorem opened_new {gen lo n k : Nat} (h1 : 1 ≤ gen) (h2 : gen < 2 ^ 32) : opened gen (((DS.new n).now.drop lo).take k) = SC.zero := by
  refine opened_other h2 fun b hb => ?_
  have : b ∈ (DS.new n).now := List.mem_of_mem_drop (List.mem_of_mem_take (List.mem_of_getElem? hb))
  rw [now_new, List.mem_replicate] at this
  rw [this.2]
  have e : beVal ((zsec.drop 4).take 4) = 0 := by decide
  omega

section
variable {w : World}


/-- Open on a drum where nothing of the generation stands. -/
theorem TOpen_none {w0 : World} {d : Nat} {F : List Nat} {D : DS} {lo hi gen : Nat} {J : Option Addr → Option Addr → Nat → Nat → Int → World → Prop} (h : Own w0 w d F D) (hcalm : Calm D) (h1 : lo < hi) (h2 : hi ≤ D.safe.length) (h3 : 1 ≤ gen) (h4 : gen < 2 ^ 32)
    (hno : opened gen ((D.now.drop lo).take (hi - lo)) = SC.zero)
    (k : ∀ w' t p c j, TOwn w0 w' t ⟨d, lo, hi, gen, 0, 0, false⟩ F (D.took j) → w.heap.size ≤ t → Chg (· ∈ F) w w' → J (some ⟨t, 0, none⟩) p 0 c 0 w') :
    callJ Try.prog fn_tape_Open #[.pointer (some ⟨d, 0, none⟩), .int .i64 (lo : Int), .int .i64 (hi : Int), .int .i64 (gen : Int)] w [.one .ptr, .one .slice, .one (.int .i64)] J := by
  refine TOpen_own h hcalm h1 h2 h3 h4 fun w2 t p2 l2 c2 hs j st hst h2 hj ht hR hc2 => ?_
  rw [hno] at hst
  subst hst
  have hl := hR.len
  have hl0 : l2 = 0 := by rw [← hl]; rfl
  subst hl0
  exact k w2 t p2 c2 j h2 ht hc2

theorem zeros49 : nsec (List.replicate 49 (0 : UInt8)).length = 2 := by decide

/-- make([]byte, n) -/
theorem mk_zeros {n : Nat} {K : Nat → World → Prop} (hn : n ≤ 140737488355328)
    (k : ∀ b w', Row w' T_uint8 1 (some ⟨b, 0, none⟩) n n (bcells (List.replicate n 0)) → w.heap.size ≤ b → Chg No w w' → K b w') :
    mkS w T_uint8 (zeroC Try.prog T_uint8) 1 1 (n : Int) (n : Int) K := by
  rw [zeroC_u8]
  refine (Hp.start w No).mkS rfl (by omega) (by omega) (by omega) (by omega) fun b w' H hb hc => ?_
  rw [show (List.replicate (n : Int).toNat (#[.int .u8 0] : Array Value).toList).flatten = bcells (List.replicate n 0) from by rw [Int.toNat_natCast]; simp [bcells, List.flatten_replicate_singleton]] at H
  exact k b w' (H.asRow 0 rfl (rest := []) (by simp) (by simp [bcells]) (Nat.le_refl _) (by simp only [maxLen]; omega) (by simp [bcells])) hb hc

theorem check_sum : crc [49, 50, 51, 52, 53, 54, 55, 56, 57] = 3421780262 := by kernel_rfl

theorem offT {w0 : World} {t : Nat} {T : TS} {F : List Nat} {D : DS} (h : TOwn w0 w t T F D) {p : Option Addr} (hf : fresh w p) : off p (fun b => b ∈ F ∨ b = t) := fun a ha hm => by
  have h1 := hf a ha
  rcases hm with hm | hm
  · have := h.drum.lt _ hm; omega
  · have := h.lt; omega
theorem offN (S : Nat → Prop) : off none S := by rintro a ⟨⟩
theorem TOwn.row {w0 : World} {t : Nat} {T : TS} {F : List Nat} {D : DS} (h : TOwn w0 w t T F D) {e : TypeId} {sz : Nat} {p : Option Addr} {l c : Nat} {xs : List Value} (hr : Row w e sz p l c xs) (he : notDrum e) (ht : e ≠ T_tape_Tape) : off p (fun b => b ∈ F ∨ b = t) := fun a ha hm => by
  rcases hm with hm | hm
  · exact h.drum.at_.rowOff hr he a ha hm
  · exact typ_ne (hr.typ a ha) (typ_of h.at_) ht hm

theorem awake14_ok {J : Bool → World → Prop} (k : ∀ w', Chg No w w' → J true w') : callJ Try.prog fn_law14_awake #[] w [.one .bool] J := by
  refine c_law14_awake ?_
  unfold VC_law14_awake
  refine New_own (by decide) (by decide) (Chg.refl _ _) fun w1 d F h1 hc1 hf1 => ?_
  refine withJ_i fun J17 hJ17 => ?_
  subst hJ17
  refine condB_i (fun h => by simp at h) fun _ => condB_i (fun h => by simp at h) fun _ => ?_
  refine TOpen_none (lo := 0) (hi := 4) (gen := 1) h1 (Calm.new _) (by decide) (by decide) (by decide) (by decide) (opened_new (by decide) (by decide)) fun w2 t p2 c2 j h2 ht hc2 => ?_
  refine withJ_i fun J34 hJ34 => ?_
  subst hJ34
  refine condB_ne (fun h => absurd rfl h) fun _ => condB_i (fun h => by simp at h) fun _ => condB_ne (fun h => absurd rfl h) fun _ => ?_
  refine mk_zeros (n := 49) (by decide) fun b3 w3 hr3 hb3 hc3 => ?_
  have h3 := h2.step0 hc3
  have hlo : ((DS.new (Int.toNat 4)).took j).loose.length = 0 := by rw [took_loose]; rfl
  obtain ⟨D4, e4, q4⟩ := append_calm (bs := List.replicate 49 0) h3.ok (calm_took (Calm.new _) j) (by rw [zeros49]; decide)
  rw [zeros49] at e4
  refine Append_own h3 hr3.bytes (by simp) (Nat.le_refl _) (by decide) (h3.row hr3 nd_u8 (by decide)) (by omega) fun w4 F4 h4 hc4 hF4 => ?_
  rw [e4] at h4 ⊢
  dsimp only at h4 ⊢
  obtain ⟨D5, e5, q5⟩ := append_calm (bs := []) h4.ok q4.calm (by decide)
  rw [show nsec ([] : List UInt8).length = 1 from rfl] at e5
  have hlo5 : D4.loose.length = 2 := by rw [q4.loose, grp_len, zeros49, hlo]
  refine Append_own h4 (Bytes.nil w4 none) (by simp) (Nat.le_refl _) (by decide) (offN _) (by omega) fun w5 F5 h5 hc5 hF5 => ?_
  rw [e5] at h5 ⊢
  dsimp only at h5 ⊢
  refine withJ_i fun J0 hJ0 => ?_
  refine litB (bs := [49, 50, 51, 52, 53, 54, 55, 56, 57]) rfl fun b6 w6 hb6 hn6 hc6 => ?_
  refine Sum_ok hb6 (by decide) ?_
  have h6 := h5.step0 hc6
  rw [check_sum]
  refine condB_eq (fun _ => ?_) (fun h => absurd rfl h)
  refine condB_eq (fun _ => ?_) (fun h => absurd rfl h)
  refine condB_eq (fun _ => ?_) (fun h => absurd rfl h)
  have hs5 : D5.safe.length ≤ 16384 := h6.drum.at_.ok.max
  refine TFree_ok h6.at_ h6.ok hs5 ?_
  refine condB_eq (fun _ => ?_) (fun h => absurd rfl h)
  refine TGroups_ok h6.drew.at_ ?_
  refine condB_eq (fun _ => ?_) (fun h => absurd rfl h)
  have h6d := h6.drew
  refine mk_zeros (n := 49) (by decide) fun b7 w7 hr7 hb7 hc7 => ?_
  have h7 := h6d.step0 hc7
  have hlo7 : D5.loose.length = 3 := by rw [q5.loose, grp_len, hlo5]; rfl
  refine Append_own h7 hr7.bytes (by simp) (Nat.le_refl _) (by decide) (h7.row hr7 nd_u8 (by decide)) (by omega) fun w8 F8 h8 hc8 hF8 => ?_
  rw [append_full (by rw [zeros49]; decide)] at h8 ⊢
  subst hJ0
  exact k _ h8.chg

/-! ## The nil tape -/

theorem TAppend_nil {p : Option Addr} {l c : Nat} {J : Int → World → Prop} (k : J 2 w) : callJ Try.prog fn_tape_Tape_Append #[.pointer none, .slice p l c] w [.one (.int .i64)] J := c_tape_Tape_Append k
theorem TFlush_nil {J : Int → World → Prop} (k : J 2 w) : callJ Try.prog fn_tape_Tape_Flush #[.pointer none] w [.one (.int .i64)] J := c_tape_Tape_Flush k
theorem TGroups_nil {J : Int → World → Prop} (k : J 0 w) : callJ Try.prog fn_tape_Tape_Groups #[.pointer none] w [.one (.int .i64)] J := c_tape_Tape_Groups k
theorem TFree_nil {J : Int → World → Prop} (k : J 0 w) : callJ Try.prog fn_tape_Tape_Free #[.pointer none] w [.one (.int .i64)] J := c_tape_Tape_Free k

/-! ## TapeNil -/

theorem TapeNil_ok {p : BV} {lo hi gen : Int} (_ : p.Ok w) (_ : InI lo) (_ : InI hi) (_ : InI gen) :
    callJ Try.prog fn_law14_TapeNil #[.slice p.p p.l p.c, .int .i64 lo, .int .i64 hi, .int .i64 gen] w [.one .bool] fun r w' => r = true ∧ Chg No w w' := by
  refine c_law14_TapeNil ?_
  unfold VC_law14_TapeNil
  refine awake14_ok fun w1 hc => ?_
  refine condB_i (fun h => by simp at h) fun _ => ?_
  refine TOpen_nil ?_
  refine withJ_i fun J8 hJ8 => ?_
  refine TAppend_nil (condB_eq (fun _ => ?_) (fun h => absurd rfl h))
  refine TFlush_nil (condB_eq (fun _ => ?_) (fun h => absurd rfl h))
  refine TGroups_nil (condB_eq (fun _ => ?_) (fun h => absurd rfl h))
  refine TFree_nil (condB_eq (fun _ => ?_) (fun h => absurd rfl h))
  refine condB_i (fun _ => ?_) (fun h => by simp at h)
  refine condB_eq (fun _ => ?_) (fun h => absurd rfl h)
  subst hJ8
  exact ⟨rfl, hc⟩
end
end Go.Proofs.Ytfhmnodoahcmnaa
