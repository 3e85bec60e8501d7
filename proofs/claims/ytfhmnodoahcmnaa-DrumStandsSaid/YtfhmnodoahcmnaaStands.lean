/-
  Chapter 13: 'DrumStands'.
-/
import Derived.Test.YtfhmnodoahcmnaaAwake13
import Derived.Test.YtfhmnodoahcmnaaRef01
import Derived.Test.YtfhmnodoahcmnaaHand
namespace Go.Proofs.Ytfhmnodoahcmnaa
open Go Go.Vc

/-! ## The plain law -/

theorem stand_pick (loose : List (Nat × List UInt8)) (sel : Nat → Bool) (safe : List (List UInt8)) (k : Nat) (v : List UInt8) (h : (standL safe loose sel)[k]? = some v) :
    safe[k]? = some v ∨ ∃ x ∈ loose, x.1 = k ∧ x.2 = v := by
  unfold standL at h
  have hz : ∀ x ∈ loose.zipIdx, x.1 ∈ loose := fun x hx => by
    have := List.mem_zipIdx hx
    rw [this.2.2]; exact List.getElem_mem _
  generalize loose.zipIdx = l at h hz
  induction l generalizing safe with
  | nil => exact .inl h
  | cons x l ih =>
    simp only [List.foldl_cons] at h
    rcases ih _ h (fun y hy => hz y (by simp [hy])) with h1 | h1
    · split at h1
      · rw [List.getElem?_set] at h1
        split at h1
        · next he =>
          split at h1
          · cases h1; exact .inr ⟨x.1, hz x (by simp), he, rfl⟩
          · cases h1
        · exact .inl h1
      · exact .inl h1
    · exact .inr h1

theorem Calm.read {D : DS} (h : Calm D) {n : Int} (h0 : 0 ≤ n) (h1 : n < D.safe.length) : D.read n = ({ D with steps := w64 (D.steps + 1) }, (D.now[n.toNat]?).getD [], 0) := by
  unfold DS.read
  rw [if_neg (by omega), h.step, if_pos rfl]
theorem Calm.flush {D : DS} (h : Calm D) : D.flush = (DS.stand { D with steps := w64 (D.steps + 1) } (fun _ => true), 0) := by
  unfold DS.flush
  rw [h.step, if_pos rfl]
theorem Calm.write {D : DS} (h : Calm D) (n : Int) (p : List UInt8) : ((D.write n p).1 = D ∧ (D.write n p).2 ≠ 0) ∨
    (0 ≤ n ∧ n < D.safe.length ∧ D.write n p = ({ D with steps := w64 (D.steps + 1), loose := D.loose ++ [(n.toNat, pad p)] }, 0)) := by
  unfold DS.write
  split
  · exact .inl ⟨rfl, fun h => by cases h⟩
  · split
    · exact .inl ⟨rfl, fun h => by cases h⟩
    · refine .inr ⟨by omega, by omega, ?_⟩
      rw [h.step, if_pos rfl]

/-! ## The walk -/

/-- The slots of 'may': a slice of slices of bytes each. -/
structure May where
  p : Option Addr
  l : Nat
  c : Nat
  hs : List BV
def May.cells (m : May) : List Value := [.slice m.p m.l m.c]
structure May.Ok (w : World) (m : May) : Prop where
  row : Row w T_sl_uint8 1 m.p m.l m.c (rows BV.cells m.hs)
  hs : ∀ h ∈ m.hs, HandOk w h
theorem even_May (L : List May) : Even May.cells 1 L := fun _ _ => rfl
theorem May.Ok.chg {w w' : World} {S : Nat → Prop} {m : May} (hm : m.Ok w) (hc : Chg S w w') (h1 : ∀ b, typ w b = some T_uint8 → ¬ S b) (h2 : ∀ a, m.p = some a → ¬ S a.block) : m.Ok w' :=
  ⟨hm.row.chg hc h2, fun h hh => (hm.hs h hh).chg hc h1⟩
theorem May.Ok.len {w : World} {m : May} (hm : m.Ok w) : m.hs.length = m.l := hm.row.sl.row (even_BV _) (by decide)
def Apart (L : List May) : Prop := ∀ (i j : Nat) (m n : May) (a b : Addr), i ≠ j → L[i]? = some m → L[j]? = some n → m.p = some a → n.p = some b → a.block ≠ b.block
theorem Apart.set {L : List May} (h : Apart L) {k : Nat} {m m' : May} (hk : L[k]? = some m) {w : World} (hlt : ∀ x ∈ L, ∀ a, x.p = some a → a.block < w.heap.size) (hp : m'.p = m.p ∨ fresh w m'.p) : Apart (L.set k m') := by
  have hkl := (List.getElem?_eq_some_iff.1 hk).1
  have key : ∀ (j : Nat) (n : May) (a b : Addr), k ≠ j → L[j]? = some n → m'.p = some a → n.p = some b → a.block ≠ b.block := by
    intro j n a b hij hj ha hb
    rcases hp with hp | hp
    · exact h k j m n a b hij hk hj (by rw [← hp]; exact ha) hb
    · have := hp a ha
      have := hlt n (List.mem_of_getElem? hj) b hb
      omega
  intro i j x y a b hij hi hj ha hb
  rw [List.getElem?_set] at hi hj
  simp only [hkl, if_true] at hi hj
  split at hi
  · next e =>
    subst e
    cases hi
    rw [if_neg hij] at hj
    exact key j y a b hij hj ha hb
  · split at hj
    · next e =>
      subst e
      cases hj
      exact Ne.symm (key i x b a (Ne.symm hij) hi hb ha)
    · exact h i j x y a b hij hi hj ha hb

/-- What the loops of 'DrumStands' keep, once 'was' is read. -/
structure St (w w' : World) (d b11 b13 : Nat) (F : List Nat) (D : DS) (wv : List BV) (ml : List May) (S : List (List UInt8)) : Prop where
  own : Own w w' d F D
  H : Hp w No w' [⟨b11, rows BV.cells wv, T_8_sl_uint8⟩, ⟨b13, rows May.cells ml, T_8_sl_sl_uint8⟩]
  hs : ∀ h ∈ wv, HandOk w' h
  was : wv.map (·.bs) = S
  ok : ∀ m ∈ ml, m.Ok w'
  apart : Apart ml
  len : ml.length = 8
  new : ∀ m ∈ ml, ∀ a, m.p = some a → w.heap.size ≤ a.block

theorem St.lt {w w' : World} {d b11 b13 : Nat} {F : List Nat} {D : DS} {wv : List BV} {ml : List May} {S : List (List UInt8)} (h : St w w' d b11 b13 F D wv ml S) : ∀ x ∈ ml, ∀ a, x.p = some a → a.block < w'.heap.size :=
  fun x hx a ha => (h.ok x hx).row.lt a ha

/-- Something changed that is none of these: blocks of the drum, new ones. -/
theorem St.step {w w' w2 : World} {d b11 b13 : Nat} {F F' : List Nat} {D D' : DS} {wv : List BV} {ml : List May} {S : List (List UInt8)} (h : St w w' d b11 b13 F D wv ml S) (hc : Chg (· ∈ F) w' w2) (ho : Own w w2 d F' D') :
    St w w2 d b11 b13 F' D' wv ml S := by
  have hu : ∀ b, typ w' b = some T_uint8 → b ∉ F := fun b hb => h.own.at_.apart hb nd_u8
  refine ⟨ho, h.H.step hc ?_ ?_, fun x hx => (h.hs x hx).chg hc hu, h.was, fun m hm => (h.ok m hm).chg hc hu fun a ha => ?_, h.apart, h.len, h.new⟩
  · intro p hp
    simp only [List.mem_cons, List.not_mem_nil, or_false] at hp
    rcases hp with rfl | rfl
    · exact h.own.at_.apart (typ_of (h.H.get 0 rfl)) ⟨by decide, by decide, by decide⟩
    · exact h.own.at_.apart (typ_of (h.H.get 1 rfl)) ⟨by decide, by decide, by decide⟩
  · intro b hb hf
    have := h.own.new b hf
    omega
  · exact h.own.at_.rowOff (h.ok m hm).row nd_sl_u8 a ha
theorem St.step0 {w w' w2 : World} {d b11 b13 : Nat} {F : List Nat} {D : DS} {wv : List BV} {ml : List May} {S : List (List UInt8)} (h : St w w' d b11 b13 F D wv ml S) (hc : Chg No w' w2) : St w w2 d b11 b13 F D wv ml S :=
  h.step (hc.mono fun _ _ hf => hf.elim) (h.own.step0 hc)

theorem St.push {w w1 w2 w3 : World} {d b11 b13 : Nat} {F : List Nat} {D : DS} {wv : List BV} {ml : List May} {S : List (List UInt8)} (h : St w w1 d b11 b13 F D wv ml S) {k c' : Nat} {m : May} {q : Option Addr} {hv : BV}
    (hk : ml[k]? = some m) (hr : Row w2 T_sl_uint8 1 q (m.l + 1) c' (rows BV.cells (m.hs ++ [hv]))) (hc : Chg (isB m.p) w1 w2) (hq : q = m.p ∨ fresh w1 q) (hhv : HandOk w1 hv)
    (H3 : Hp w No w3 [⟨b11, rows BV.cells wv, T_8_sl_uint8⟩, ⟨b13, (rows May.cells ml).set k (.slice q (m.l + 1) c'), T_8_sl_sl_uint8⟩]) (hc3 : Chg (fun x => x = b13) w2 w3) :
    St w w3 d b11 b13 F D wv (ml.set k ⟨q, m.l + 1, c', m.hs ++ [hv]⟩) S := by
  have hkl := (List.getElem?_eq_some_iff.1 hk).1
  have hm := h.ok m (List.mem_of_getElem? hk)
  have tB : ∀ b, isB m.p b → typ w1 b = some T_sl_uint8 := by rintro b ⟨a, ha, rfl⟩; exact hm.row.typ a ha
  have nB : ∀ b, isB m.p b → w.heap.size ≤ b := by rintro b ⟨a, ha, rfl⟩; exact h.new m (List.mem_of_getElem? hk) a ha
  have t13 : typ w2 b13 = some T_8_sl_sl_uint8 := by
    refine typ_chg hc (typ_of (h.H.get 1 rfl)) fun hb => ?_
    have := tB _ hb
    rw [typ_of (h.H.get 1 rfl)] at this
    revert this; decide
  have u1 : ∀ b, typ w1 b = some T_uint8 → ¬ isB m.p b := fun b hb hi => by
    have := tB b hi
    rw [hb] at this; revert this; decide
  have u2 : ∀ b, typ w2 b = some T_uint8 → ¬ b = b13 := by
    rintro b hb rfl
    rw [hb] at t13; revert t13; decide
  have s2 : ∀ b, typ w2 b = some T_sl_uint8 → ¬ b = b13 := by
    rintro b hb rfl
    rw [hb] at t13; revert t13; decide
  have o1 : Own w w2 d F D := h.own.step hc (fun b hb hi => h.own.at_.apart (tB b hi) nd_sl_u8 hb) nB
  have hand : ∀ x, HandOk w1 x → HandOk w3 x := fun x hx => (hx.chg hc u1).chg hc3 u2
  refine ⟨o1.step hc3 (fun b hb he => ?_) (fun b he => ?_), ?_, fun x hx => hand x (h.hs x hx), h.was, fun x hx => ?_, h.apart.set hk h.lt hq, by rw [List.length_set]; exact h.len, fun x hx a ha => ?_⟩
  · subst he; exact o1.at_.apart t13 ⟨by decide, by decide, by decide⟩ hb
  · subst he; exact h.H.fresh 1 rfl id
  · have e : (rows May.cells ml).set k (.slice q (m.l + 1) c') = rows May.cells (ml.set k ⟨q, m.l + 1, c', m.hs ++ [hv]⟩) := by
      have := rows_splice (f := May.cells) (k := 1) (L := ml) (even_May _) hkl (x := ⟨q, m.l + 1, c', m.hs ++ [hv]⟩) rfl
      rw [← this, Nat.mul_one]
      have hl : k < (rows May.cells ml).length := by rw [rows_len (even_May _)]; omega
      simp only [splice, May.cells, List.length_singleton]
      rw [List.set_eq_take_append_cons_drop, if_pos hl]; simp
    rw [← e]; exact H3
  · obtain ⟨j, hj⟩ := List.mem_iff_getElem?.1 hx
    rw [List.getElem?_set] at hj
    simp only [hkl, if_true] at hj
    split at hj
    · cases hj
      refine ⟨hr.chg hc3 fun a ha => s2 _ (hr.typ a ha), fun y hy => ?_⟩
      rcases List.mem_append.1 hy with hy | hy
      · exact hand y (hm.hs y hy)
      · simp only [List.mem_singleton] at hy; subst hy; exact hand _ hhv
    · next hne =>
      have hx' := h.ok x (List.mem_of_getElem? hj)
      have h2 : x.Ok w2 := hx'.chg hc u1 fun a ha hi => by
        obtain ⟨b, hb, hab⟩ := hi
        exact h.apart k j m x b a hne hk hj hb ha hab
      exact h2.chg hc3 u2 fun a ha => s2 _ (h2.row.typ a ha)
  · rcases List.mem_or_eq_of_mem_set hx with hx | rfl
    · exact h.new x hx a ha
    · rcases hq with hq | hq
      · exact h.new m (List.mem_of_getElem? hk) a (by rw [← hq]; exact ha)
      · exact Nat.le_trans h.own.chg.size (hq a ha)

set_option maxRecDepth 20000 in
theorem DrumStands_ok {w : World} {ops more : SlV OpV} {keep : SlV Bool} (hops : OpsOk w ops) (hmore : OpsOk w more) (hkeep : BoolsOk w keep) :
    callJ Try.prog fn_law13_DrumStands #[.slice ops.p ops.l ops.c, .slice more.p more.l more.c, .slice keep.p keep.l keep.c] w [.one .bool] fun r w' => r = true ∧ Chg No w w' := by
  refine c_law13_DrumStands ?_
  unfold VC_law13_DrumStands
  refine awake_ok fun w1 hc1 => ?_
  refine condB_i (fun h => by simp at h) fun _ => ?_
  refine New_own (by decide) (by decide) hc1 fun w2 d F h2 hc2 hf2 => ?_
  refine withJ_i fun J35 hJ35 => ?_
  subst hJ35
  refine condB_i (fun h => by simp at h) fun _ => condB_i (fun h => by simp at h) fun _ => ?_
  have hmx := hops.max
  have hcap := hops.cap
  have hmx2 := hmore.max
  have hcap2 := hmore.cap
  simp only [maxLen] at hmx hmx2
  rw [show (8 : Int).toNat = 8 from rfl] at h2
  refine ⟨fun x w' m => ∃ (i : Nat) (F' : List Nat) (D : DS), x = i ∧ i ≤ ops.l ∧ m = ops.l - i ∧ Own w w' d F' D ∧ D.loose.length ≤ min i 200 ∧ Calm D ∧ D.safe.length = 8,
    ⟨_, 0, F, _, rfl, Nat.zero_le _, rfl, h2, by simp [DS.new], Calm.new 8, by simp [DS.new]⟩, ?_⟩
  rintro x w' m ⟨i, F', D, rfl, hi, rfl, h', hlo, hcalm, h8⟩
  refine condB_d (fun hb => ?_) (fun hb => ?_)
  · refine withJ_i fun J0 hJ0 => ?_
    refine pickOp hops h'.chg (by omega) (by omega) fun o b w5 ho hok H5 hb5 hc5 => ?_
    have h5 := h'.step0 hc5
    have next : ∀ w'' F'' D'', Own w w'' d F'' D'' → D''.loose.length ≤ min (i + 1) 200 → Calm D'' → D''.safe.length = 8 → J0 w'' := by
      intro w'' F'' D'' h'' hl'' c'' s''
      subst hJ0
      refine ⟨ops.l - (i + 1), by omega, i + 1, F'', D'', ?_, by omega, rfl, h'', hl'', c'', s''⟩
      rw [w64_of] <;> omega
    clear hJ0
    refine withJ_i fun J49 hJ49 => ?_
    have skip : J49 false w5 := by subst hJ49; exact next _ _ _ h5 (by omega) hcalm h8
    refine H5.ldI 0 rfl (off := 0) rfl ?_
    refine condB_eq (fun _ => ?_) (fun _ => skip)
    by_cases hx : (i : Int) < 200
    · rw [decide_eq_true hx]
      subst hJ49
      refine H5.drew.ldI 0 rfl (off := 1) rfl ?_
      refine H5.drew.ldS 0 rfl (off := 2) rfl ?_
      have hcw : Chg No w w5.drew := h5.chg.drew
      refine Twin_ok (hok.p.is.chg hcw (off_no _)) hok.p.nil hok.p.fits fun p6 c6 w6 hr6 hf6 hc6 => ?_
      refine ⟨(H5.drew.step0 hc6).cell 0 rfl rfl, ?_⟩
      have h5d : Own w w5.drew d F' D := h5.step0 ((Chg.refl No w5).drew)
      have h6 := h5d.step0 hc6
      refine Write_own h6 hr6.bytes hr6.none0 (fresh_off hf6 h5d.lt) (by omega) fun w7 F7 h7 _ _ => ?_
      rcases hcalm.write o.n o.p.bs with ⟨e1, _⟩ | ⟨e0, e1, e2⟩
      · rw [e1] at h7; exact next _ _ _ h7 (by omega) hcalm h8
      · rw [e2] at h7; exact next _ _ _ h7 (by simp; omega) hcalm h8
    · rw [decide_eq_false hx]; exact skip
  -- 'was'
  rw [show zeroC Try.prog T_8_sl_uint8 = ⟨rows BV.cells (List.replicate 8 ⟨none, 0, 0, []⟩)⟩ from by kernel_rfl]
  refine (Hp.start w' No).newB fun b11 w11 H11 hb11 hc11 => ?_
  have h11 := h'.step0 hc11
  have hnow8 : D.now.length = 8 := by rw [DS.now_len, h8]
  refine ⟨fun x w2 m => ∃ (i : Nat) (D' : DS) (wv : List BV), x = i ∧ i ≤ 8 ∧ m = 8 - i ∧ Own w w2 d F' D' ∧ Hp w' (· ∈ F') w2 [⟨b11, rows BV.cells (wv ++ List.replicate (8 - i) ⟨none, 0, 0, []⟩), T_8_sl_uint8⟩] ∧
      (∀ h ∈ wv, HandOk w2 h) ∧ wv.map (·.bs) = D.now.take i ∧ Calm D' ∧ D'.safe = D.safe ∧ D'.loose = D.loose,
    ⟨_, 0, D, [], rfl, by decide, rfl, h11, H11.mono (fun _ _ hf => hf.elim), by simp, by simp, hcalm, rfl, rfl⟩, ?_⟩
  rintro x w3 m ⟨i, D', wv, rfl, hi8, rfl, h3, H3, hhs, hwas, hcalm3, hs3, hl3⟩
  have hwl : wv.length = i := by have := congrArg List.length hwas; simpa [hnow8, Nat.min_eq_left hi8] using this
  refine condB_d (fun hb => ?_) (fun hb => ?_)
  · refine Read_own h3 fun p4 c4 w4 h4 hr4 hf4 hc4 => ?_
    have hrd := hcalm3.read (n := i) (by omega) (by rw [hs3]; omega)
    have hn3 : D'.now = D.now := by simp only [DS.now, hs3, hl3]
    rw [hrd, hn3] at h4 hr4 ⊢
    dsimp only at h4 hr4 ⊢
    rw [Int.toNat_natCast] at hr4 ⊢
    have hget : D.now[i]? = some D.now[i] := List.getElem?_eq_getElem (by omega)
    rw [hget, Option.getD_some] at hr4 ⊢
    have hu : ∀ b, typ w3 b = some T_uint8 → b ∉ F' := fun b hb => h3.at_.apart hb nd_u8
    have H4 := H3.step hc4 (by
      intro p hp
      simp only [List.mem_cons, List.not_mem_nil, or_false] at hp
      subst hp
      exact h3.at_.apart (typ_of (H3.get 0 rfl)) ⟨by decide, by decide, by decide⟩) (fun _ _ => id)
    refine idxA_i (by omega) (by omega) ?_
    rw [Addr.add_mk, Nat.zero_add, Nat.mul_one]
    refine H4.stV 0 rfl (off := i) (by rw [rows_len (even_BV _)]; simp; omega) fun w5 H5 hc5 => ?_
    have hlt := h3.lt
    have hbF : b11 ∉ F' := h3.at_.apart (typ_of (H3.get 0 rfl)) ⟨by decide, by decide, by decide⟩
    have hb11n : w.heap.size ≤ b11 := Nat.le_trans h'.chg.size hb11
    have h5 : Own w w5 d F' { D' with steps := w64 (D'.steps + 1) } := h4.step hc5 (fun b hb he => by subst he; exact hbF hb) (fun b he => by subst he; exact hb11n)
    refine ⟨8 - (i + 1), by omega, i + 1, { D' with steps := w64 (D'.steps + 1) }, wv ++ [⟨p4, D.now[i].length, c4, D.now[i]⟩], ?_, by omega, rfl, h5, ?_, ?_, ?_, hcalm3, hs3, hl3⟩
    · rw [w64_of] <;> omega
    · simp only [List.set_cons_zero] at H5
      have e : (rows BV.cells (wv ++ List.replicate (8 - i) ⟨none, 0, 0, []⟩)).set i (.slice p4 D.now[i].length c4) = rows BV.cells (wv ++ [⟨p4, D.now[i].length, c4, D.now[i]⟩] ++ List.replicate (8 - (i + 1)) ⟨none, 0, 0, []⟩) := by
        have e1 : 8 - i = (8 - (i + 1)) + 1 := by omega
        rw [e1, List.replicate_succ]
        simp only [rows_append, rows_cons, rows_nil, BV.cells]
        have hlw : (rows BV.cells wv).length = i := by rw [rows_len (even_BV _), hwl]; omega
        rw [List.set_append_right _ _ (by omega), hlw, Nat.sub_self]
        simp
      rw [e] at H5
      exact H5
    · have hub : ∀ b, typ w4 b = some T_uint8 → ¬ b = b11 := by
        rintro b hb rfl
        rw [typ_of (H4.get 0 rfl)] at hb
        revert hb; decide
      intro h hh
      rcases List.mem_append.1 hh with hh | hh
      · exact ((hhs h hh).chg hc4 hu).chg hc5 hub
      · simp only [List.mem_singleton] at hh
        subst hh
        exact ⟨c4, hr4.chg hc5 fun a ha he => hub _ (hr4.typ a ha) he⟩
    · rw [List.map_append, hwas, List.take_succ_eq_append_getElem (by omega)]; rfl
  have hi' : i = 8 := by omega
  subst hi'
  rw [List.take_of_length_le (by omega)] at hwas
  simp only [Nat.sub_self, List.replicate_zero, List.append_nil] at H3
  refine withJ_i fun J77 hJ77 => ?_
  refine Flush_own h3 fun w5 F5 h5 hc5 hF5 => ?_
  rw [hcalm3.flush] at h5 ⊢
  refine condB_ne (fun h => absurd rfl h) fun _ => ?_
  refine Loose_ok h5.at_ ?_
  subst hJ77
  refine condB_ne (fun h => absurd rfl h) fun _ => ?_
  have hlp : D'.loose.length ≤ 1000000000 := h3.at_.ok.count
  generalize hD2 : DS.stand { D' with steps := w64 (D'.steps + 1) } (fun _ => true) = D2 at *
  have hn3 : D'.now = D.now := by simp only [DS.now, hs3, hl3]
  have hS : D2.safe = D.now := by rw [← hn3, ← hD2]; rfl
  have hL : D2.loose = [] := by rw [← hD2]; rfl
  have hcalm2 : Calm D2 := by rw [← hD2]; exact hcalm3
  clear hD2
  generalize hSS : D.now = S at *
  have H5 : Hp w No w5 [⟨b11, rows BV.cells wv, T_8_sl_uint8⟩] := by
    have H5 := H3.step hc5 (by
      intro p hp
      simp only [List.mem_cons, List.not_mem_nil, or_false] at hp
      subst hp
      exact h3.at_.apart (typ_of (H3.get 0 rfl)) ⟨by decide, by decide, by decide⟩) (fun _ _ => id)
    refine ⟨h5.chg, H5.is, H5.nd, fun p hp hlt => ?_⟩
    simp only [List.mem_cons, List.not_mem_nil, or_false] at hp
    subst hp
    have := h'.chg.size
    simp only at hlt
    omega
  have hhs5 : ∀ h ∈ wv, HandOk w5 h := fun h hh => (hhs h hh).chg hc5 fun b hb => h3.at_.apart hb nd_u8
  rw [show zeroC Try.prog T_8_sl_sl_uint8 = ⟨rows May.cells (List.replicate 8 ⟨none, 0, 0, []⟩)⟩ from by kernel_rfl]
  refine H5.newB fun b13 w6 H6 hb13 hc6 => ?_
  have st6 : St w w6 d b11 b13 F5 D2 wv (List.replicate 8 ⟨none, 0, 0, []⟩) S := by
    refine ⟨h5.step0 hc6, ⟨H6.chg, fun p hp => H6.is p ?_, ?_, fun p hp => H6.own p ?_⟩, fun h hh => (hhs5 h hh).chg hc6 (fun _ _ => id), hwas, ?_, ?_, by simp, ?_⟩
    · simp only [List.mem_cons, List.not_mem_nil, or_false] at hp ⊢; exact hp.symm
    · have := H6.nd
      simp only [List.map_cons, List.map_nil, List.nodup_cons, List.mem_cons, List.not_mem_nil, or_false] at this ⊢
      exact ⟨Ne.symm this.1, by simp⟩
    · simp only [List.mem_cons, List.not_mem_nil, or_false] at hp ⊢; exact hp.symm
    · intro m hm
      rw [(List.mem_replicate.1 hm).2]
      exact ⟨Row.nil _ _ _, by simp⟩
    · intro i j m n a b _ hi _ ha
      rw [(List.mem_replicate.1 (List.mem_of_getElem? hi)).2] at ha
      cases ha
    · intro m hm a ha
      rw [(List.mem_replicate.1 hm).2] at ha
      cases ha
  refine ⟨fun x w' m => ∃ (i : Nat) (F' : List Nat) (D : DS) (ml : List May), x = i ∧ i ≤ more.l ∧ m = more.l - i ∧ St w w' d b11 b13 F' D wv ml S ∧ D.loose.length ≤ min i 200 ∧ Calm D ∧ D.safe = S ∧
      ∀ (k : Nat) (m : May), ml[k]? = some m → m.hs.map (·.bs) = (D.loose.filter fun x => x.1 == k).map (·.2),
    ⟨_, 0, F5, D2, _, rfl, Nat.zero_le _, rfl, st6, by simp [hL], hcalm2, hS, fun k m hm => by rw [(List.mem_replicate.1 (List.mem_of_getElem? hm)).2, hL]; rfl⟩, ?_⟩
  rintro x w7 m ⟨i, F7, D7, ml, rfl, hi, rfl, st7, hlo7, hcalm7, hs7, hmay⟩
  have hS8 : S.length = 8 := by rw [← hwas, List.length_map]; exact hwl
  refine condB_d (fun hb => ?_) (fun hb => ?_)
  · refine withJ_i fun J0 hJ0 => ?_
    refine pickOp hmore st7.own.chg (by omega) (by omega) fun o b w8 ho hok H8 hb8 hc8 => ?_
    have st8 := st7.step0 hc8
    have next : ∀ w'' F'' D'' ml'', St w w'' d b11 b13 F'' D'' wv ml'' S → D''.loose.length ≤ min (i + 1) 200 → Calm D'' → D''.safe = S →
        (∀ (k : Nat) (m : May), ml''[k]? = some m → m.hs.map (·.bs) = (D''.loose.filter fun x => x.1 == k).map (·.2)) → J0 w'' := by
      intro w'' F'' D'' ml'' h'' hl'' c'' s'' m''
      subst hJ0
      refine ⟨more.l - (i + 1), by omega, i + 1, F'', D'', ml'', ?_, by omega, rfl, h'', hl'', c'', s'', m''⟩
      rw [w64_of] <;> omega
    clear hJ0
    refine withJ_i fun J96 hJ96 => ?_
    refine condB_d (fun hx => ?_) (fun hx => ?_)
    · refine H8.drew.ldI 0 rfl (off := 1) rfl ?_
      refine H8.drew.ldS 0 rfl (off := 2) rfl ?_
      have hcw : Chg No w w8.drew := st8.own.chg.drew
      have st8d := st8.step0 ((Chg.refl No w8).drew)
      refine Twin_ok (hok.p.is.chg hcw (off_no _)) hok.p.nil hok.p.fits fun p9 c9 w9 hr9 hf9 hc9 => ?_
      have H9 := H8.drew.step0 hc9
      refine ⟨H9.cell 0 rfl rfl, ?_⟩
      have st9 := st8d.step0 hc9
      have hb8F : ∀ p ∈ [(⟨b, opCells o, T_law13_Op⟩ : Blk)], ¬ p.b ∈ F7 := by
        intro p hp
        simp only [List.mem_cons, List.not_mem_nil, or_false] at hp
        subst hp
        exact st8.own.at_.apart (typ_of (H8.get 0 rfl)) ⟨by decide, by decide, by decide⟩
      refine Write_own st9.own hr9.bytes hr9.none0 (st9.own.at_.rowOff hr9 nd_u8) (by omega) fun w10 F10 h10 hc10 hF10 => ?_
      have st10 := st9.step hc10 h10
      have H10 : Hp w7 (· ∈ F7) w10 [⟨b, opCells o, T_law13_Op⟩] := (H9.mono fun _ _ hf => hf.elim).step hc10 hb8F (fun _ _ => id)
      rcases hcalm7.write o.n o.p.bs with ⟨e1, e2⟩ | ⟨e0, e1, e2⟩
      · have : ((D7.write o.n o.p.bs).2 == 0) = false := by simpa using e2
        rw [this]
        subst hJ96
        rw [e1] at st10
        exact next _ _ _ _ st10 (by omega) hcalm7 hs7 hmay
      · rw [e2] at st10 ⊢
        dsimp only at st10 ⊢
        have hn8 : o.n < 8 := by rw [hs7, hS8] at e1; omega
        generalize hD10 : ({ D7 with steps := w64 (D7.steps + 1), loose := D7.loose ++ [(o.n.toNat, pad o.p.bs)] } : DS) = D10 at *
        have hcalm10 : Calm D10 := by rw [← hD10]; exact hcalm7
        have hs10 : D10.safe = S := by rw [← hD10]; exact hs7
        have hl10 : D10.loose = D7.loose ++ [(o.n.toNat, pad o.p.bs)] := by rw [← hD10]
        subst hJ96
        refine condB_i (fun _ => ?_) (fun h => by simp at h)
        refine H10.ldI 0 rfl (off := 1) rfl ?_
        refine Read_own st10.own fun p11 c11 w11 h11 hr11 hf11 hc11 => ?_
        have hrd := hcalm10.read (n := o.n) e0 (by rw [hs10, hS8]; omega)
        rw [hrd] at h11 hr11 ⊢
        dsimp only at h11 hr11 ⊢
        have hget : (D10.now[o.n.toNat]?).getD [] = pad o.p.bs := by
          have : D10.now = D7.now.set o.n.toNat (pad o.p.bs) := by
            simp only [DS.now, hs10, hl10, hs7]; exact standL_snoc _ _ _
          have hlt : o.n.toNat < D7.now.length := by rw [DS.now_len, hs7, hS8]; omega
          rw [this, List.getElem?_set_self hlt]; rfl
        rw [hget] at hr11 ⊢
        have st11 := st10.step hc11 h11
        have hb10F : b ∉ F10 := st10.own.at_.apart (typ_of (H10.get 0 rfl)) ⟨by decide, by decide, by decide⟩
        have hop11 : w11.heap[b]? = some (.cells ⟨opCells o⟩ T_law13_Op (0, 0)) := hc11.heap (H10.get 0 rfl) hb10F
        have opN : ∀ {w' : World}, w'.heap[b]? = some (.cells ⟨opCells o⟩ T_law13_Op (0, 0)) → w'.cell? ⟨b, 1, none⟩ = some (.int .i64 o.n) := fun h => by rw [cell_of_row _ b 1 _ _ (0, 0) h]; rfl
        refine withJ_i fun J115 hJ115 => ?_
        refine condB_ne (fun h => absurd rfl h) fun _ => ?_
        refine ldI_i (opN hop11) ?_
        refine condB_d (fun h => absurd h (by omega)) fun _ => ?_
        refine ldI_i (opN hop11) ?_
        rw [decide_eq_false (show ¬ o.n > 7 by omega)]
        subst hJ115
        refine condB_i (fun h => by simp at h) (fun _ => ?_)
        have hop11d : w11.drew.heap[b]? = some (.cells ⟨opCells o⟩ T_law13_Op (0, 0)) := hop11
        have st11d := st11.step0 ((Chg.refl No w11).drew)
        refine ldI_i (opN hop11d) ?_
        refine ldI_i (opN hop11d) ?_
        refine idxA_i e0 (by omega) ?_
        rw [Addr.add_mk, Nat.zero_add, Nat.mul_one]
        have hkl : o.n.toNat < ml.length := by rw [st11.len]; omega
        have hk : ml[o.n.toNat]? = some ml[o.n.toNat] := List.getElem?_eq_getElem hkl
        generalize ml[o.n.toNat] = m at hk
        have hcell : (rows May.cells ml)[o.n.toNat]? = some (.slice m.p m.l m.c) := by
          have := rows_at (f := May.cells) (k := 1) (even_May ml) hk (j := 0) (by decide)
          rw [Nat.mul_one, Nat.add_zero] at this; exact this
        refine st11d.H.ldS 1 rfl hcell ?_
        refine newRow (sz := 1) (n := 1) rfl (by decide) fun b12 w12 hr12 hb12 hc12 => ?_
        have st12 := st11d.step0 hc12
        have hop12 := hc12.heap hop11d id
        refine ⟨st12.H.cell 1 rfl hcell, opN hop12, opN hop12, ?_⟩
        have hm := st12.ok m (List.mem_of_getElem? hk)
        have hv : HandOk w12 ⟨p11, (pad o.p.bs).length, c11, pad o.p.bs⟩ := ⟨c11, (hr11.chg ((Chg.refl No w11).drew) (off_no _)).chg hc12 (off_no _)⟩
        have hml : m.hs.length = m.l := hm.len
        have hml2 : m.l ≤ 200 := by
          have := congrArg List.length (hmay _ m hk)
          rw [List.length_map, List.length_map, hml] at this
          have h2 := List.length_filter_le (fun x : Nat × List UInt8 => x.1 == o.n.toNat) D7.loose
          omega
        refine appJ_row slT_sl_u8 hm.row hr12.sl (by intro v hv; simp only [List.mem_singleton] at hv; subst hv; rfl) (by simp) (by omega) (by simp only [maxLen]; omega) fun q13 c13 w13 hr13 hc13 hf13 => ?_
        have tB : ∀ b, isB m.p b → typ w12 b = some T_sl_uint8 := by rintro b ⟨a, ha, rfl⟩; exact hm.row.typ a ha
        have apB : ∀ {x : Nat} {e : TypeId}, typ w12 x = some e → e ≠ T_sl_uint8 → ¬ isB m.p x := fun hx he hi => by
          have := tB _ hi
          rw [hx] at this; exact he (Option.some.inj this)
        have hop13 := hc13.heap hop12 (apB (typ_of hop12) (by decide))
        refine ⟨opN hop13, ?_⟩
        refine idxA_i e0 (by omega) ?_
        rw [Addr.add_mk, Nat.zero_add]
        have H13 := st12.H.step hc13 (by
          intro p hp
          simp only [List.mem_cons, List.not_mem_nil, or_false] at hp
          rcases hp with rfl | rfl
          · exact apB (typ_of (st12.H.get 0 rfl)) (by decide)
          · exact apB (typ_of (st12.H.get 1 rfl)) (by decide)) (by
          rintro x hx ⟨a, ha, rfl⟩
          have := st12.new m (List.mem_of_getElem? hk) a ha
          omega)
        refine H13.stV 1 rfl (off := o.n.toNat) (by rw [rows_len (even_May _)]; omega) fun w14 H14 hc14 => ?_
        have hr13' : Row w13 T_sl_uint8 1 q13 (m.l + 1) c13 (rows BV.cells (m.hs ++ [⟨p11, (pad o.p.bs).length, c11, pad o.p.bs⟩])) := by rw [rows_append]; exact hr13
        have st14 := st12.push hk hr13' hc13 hf13 hv H14 hc14
        refine next _ _ _ _ st14 ?_ hcalm10 hs10 ?_
        · show D10.loose.length ≤ _
          rw [hl10]; simp; omega
        · intro k' m' hk'
          show _ = (D10.loose.filter _).map _
          rw [List.getElem?_set] at hk'
          simp only [hkl, if_true] at hk'
          rw [hl10, List.filter_append, List.map_append]
          split at hk'
          · next e => subst e; cases hk'; simp [hmay _ m hk]
          · next e =>
            rw [hmay _ _ hk']
            have : (List.filter (fun x : Nat × List UInt8 => x.1 == k') [(o.n.toNat, pad o.p.bs)]) = [] := by simp [e]
            rw [this]; simp
    · subst hJ96
      exact next _ _ _ _ (st8.step0 ((Chg.refl No w8).drew)) (by omega) hcalm7 hs7 hmay
  · refine twin_row slT_bool (hkeep.is.chg st7.own.chg (off_no _)) (one1_bools _) hkeep.nil (by have := hkeep.fits; omega) (by have := hkeep.cap; have := hkeep.max; omega) fun p8 c8 w8 hr8 hf8 hc8 => ?_
    have st8 := st7.step0 hc8
    refine Crash_own st8.own hr8.sl (st8.own.at_.rowOff hr8 ⟨by decide, by decide, by decide⟩) fun w9 F9 h9 hc9 _ => ?_
    have st9 := st8.step hc9 h9
    refine condB_ne (fun h => absurd rfl h) fun _ => ?_
    have hpick : ∀ (k : Nat) v, (D7.crash keep.xs).now[k]? = some v → S[k]? = some v ∨ ∃ x ∈ D7.loose, x.1 = k ∧ x.2 = v := fun k v hv => by
      have hv' : (standL D7.safe D7.loose fun i : Nat => (keep.xs[i]?).getD false)[k]? = some v := hv
      rw [← hs7]; exact stand_pick D7.loose _ D7.safe k v hv'
    have hcalm9 : Calm (D7.crash keep.xs) := ⟨rfl, rfl⟩
    have h89 : (D7.crash keep.xs).safe.length = 8 := by simp only [DS.crash, DS.stand]; rw [standL_len, hs7, hS8]
    generalize D7.crash keep.xs = D9 at *
    refine ⟨fun x w' m => ∃ (i : Nat) (D : DS), x = i ∧ i ≤ 8 ∧ m = 8 - i ∧ St w w' d b11 b13 F9 D wv ml S ∧ Calm D ∧ D.safe = D9.safe ∧ D.loose = D9.loose,
      ⟨_, 0, D9, rfl, by decide, rfl, st9, hcalm9, rfl, rfl⟩, ?_⟩
    rintro x w10 m ⟨i2, D10, rfl, hi2, rfl, st10, hcalm10, hs10, hl10⟩
    refine condB_d (fun hb => ?_) (fun hb => ⟨rfl, st10.own.chg⟩)
    refine Read_own st10.own fun p11 c11 w11 h11 hr11 hf11 hc11 => ?_
    have hn10 : D10.now = D9.now := by simp only [DS.now, hs10, hl10]
    have hrd := hcalm10.read (n := i2) (by omega) (by rw [hs10]; omega)
    rw [hrd, hn10] at h11 hr11 ⊢
    dsimp only at h11 hr11 ⊢
    have st11 := st10.step hc11 h11
    rw [Int.toNat_natCast] at hr11 ⊢
    have hlt9 : i2 < D9.now.length := by rw [DS.now_len, h89]; omega
    have hget : D9.now[i2]? = some D9.now[i2] := List.getElem?_eq_getElem hlt9
    have hv64 : (D9.now[i2]).length = 64 := by
      have hx := st9.own.at_.ok.now
      exact hx _ (List.getElem_mem _)
    have hpk := hpick i2 _ hget
    rw [hget, Option.getD_some] at hr11 ⊢
    generalize D9.now[i2] = v at *
    have hkl : i2 < ml.length := by rw [st11.len]; omega
    have hk : ml[i2]? = some ml[i2] := List.getElem?_eq_getElem hkl
    generalize ml[i2] = m at hk
    have hm := st11.ok m (List.mem_of_getElem? hk)
    have hcell : (rows May.cells ml)[i2]? = some (.slice m.p m.l m.c) := by
      have := rows_at (f := May.cells) (k := 1) (even_May ml) hk (j := 0) (by decide)
      rw [Nat.mul_one, Nat.add_zero] at this; exact this
    refine withJ_i fun J21 hJ21 => ?_
    have go : ∀ ok : Bool, (ok = true ∨ ∃ h ∈ m.hs, v = h.bs) → J21 ok w11 := by
      intro ok hok
      subst hJ21
      refine idxA_i (by omega) (by omega) ?_
      rw [Addr.add_mk, Nat.zero_add, Nat.mul_one]
      refine st11.H.ldS 1 rfl hcell ?_
      refine ⟨fun ok' x w' m' => ∃ j : Nat, x = j ∧ j ≤ m.l ∧ m' = m.l - j ∧ w' = w11 ∧ (ok' = true ∨ ∃ h ∈ m.hs.drop j, v = h.bs), ⟨_, 0, rfl, Nat.zero_le _, rfl, rfl, by simpa using hok⟩, ?_⟩
      rintro ok' x w' m' ⟨j, rfl, hj, rfl, rfl, hok'⟩
      have hml := hm.len
      have hmcap := hm.row.le
      simp only [maxLen] at hmcap
      refine condB_d (fun hb2 => ?_) (fun hb2 => ?_)
      · refine withJ_i fun J211 hJ211 => ?_
        refine idx_rows hm.row.sl (even_BV _) (by decide) (by omega) (by omega) fun a hd ha hhd hcc => ?_
        rw [Int.toNat_natCast] at hhd hcc ⊢
        refine ldS_i (p := hd.p) (l := hd.l) (c := hd.c) (cellsAt_head hcc) ?_
        have hjl : j < m.hs.length := by omega
        have hdrop : m.hs.drop j = hd :: m.hs.drop (j + 1) := by
          rw [List.drop_eq_getElem_cons hjl]
          rw [List.getElem?_eq_getElem hjl] at hhd
          cases hhd; rfl
        rw [hdrop] at hok'
        have next : ∀ ok'' : Bool, (ok'' = true ∨ ∃ h ∈ m.hs.drop (j + 1), v = h.bs) → J211 ok'' w' := by
          intro ok'' h''
          subst hJ211
          refine ⟨m.l - (j + 1), by omega, j + 1, ?_, by omega, rfl, rfl, h''⟩
          rw [w64_of] <;> omega
        clear hJ211
        refine condB_i (fun ht => next _ (.inl rfl)) (fun hf => ?_)
        refine Same_ok hr11.bytes (hm.hs hd (List.mem_of_getElem? hhd)).bytes (next _ ?_)
        rcases hok' with h1 | ⟨h, hh, hv⟩
        · rw [hf] at h1; cases h1
        · rcases List.mem_cons.1 hh with rfl | hh
          · left; simpa using hv
          · exact .inr ⟨h, hh, hv⟩
      · have : ok' = true := by
          rcases hok' with h1 | ⟨h, hh, _⟩
          · exact h1
          · rw [List.drop_of_length_le (by omega)] at hh; cases hh
        subst this
        refine condB_i (fun h => by simp at h) (fun _ => ?_)
        refine ⟨8 - (i2 + 1), by omega, i2 + 1, _, ?_, by omega, rfl, st11, hcalm10, hs10, hl10⟩
        rw [w64_of] <;> omega
    clear hJ21
    refine condB_eq (fun _ => ?_) (fun h => absurd rfl h)
    refine condB_eq (fun _ => ?_) (fun h => absurd (by rw [hv64]; rfl) h)
    refine idxA_i (by omega) (by omega) ?_
    rw [Addr.add_mk, Nat.zero_add, Nat.mul_one]
    have hwg : i2 < wv.length := by omega
    have hwk : wv[i2]? = some wv[i2] := List.getElem?_eq_getElem hwg
    have hwS : S[i2]? = some (wv[i2]).bs := by rw [← hwas, List.getElem?_map, hwk]; rfl
    have hhw := st11.hs _ (List.getElem_mem hwg)
    generalize wv[i2] = wi at *
    have hcw : (rows BV.cells wv)[i2]? = some (.slice wi.p wi.l wi.c) := by
      have := rows_at (f := BV.cells) (k := 1) (even_BV wv) hwk (j := 0) (by decide)
      rw [Nat.mul_one, Nat.add_zero] at this; exact this
    refine st11.H.ldS 0 rfl hcw ?_
    refine Same_ok hr11.bytes hhw.bytes (go _ ?_)
    rcases hpk with h1 | ⟨x, hx, hxk, hxv⟩
    · left; rw [hwS] at h1; cases h1; simp
    · right
      have hmem : v ∈ m.hs.map (·.bs) := by
        rw [hmay _ m hk]
        exact List.mem_map.2 ⟨x, List.mem_filter.2 ⟨hx, by simpa using hxk⟩, hxv⟩
      obtain ⟨h, hh, he⟩ := List.mem_map.1 hmem
      exact ⟨h, hh, he.symm⟩

end Go.Proofs.Ytfhmnodoahcmnaa
