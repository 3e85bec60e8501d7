/-
  Chapter 14, plain facts: what stands behind a crash of a drum that a tape wrote.
-/
import Derived.Test.YtfhmnodoahcmnaaTurns
import Derived.Test.YtfhmnodoahcmnaaWrites
namespace Go.Proofs.Ytfhmnodoahcmnaa
open Go Go.Vc

def looseOf (b : Nat) (G : List (List UInt8)) : List (Nat × List UInt8) := G.zipIdx.map fun x => (b + x.2, x.1)
theorem looseOf_len (b : Nat) (G : List (List UInt8)) : (looseOf b G).length = G.length := by simp [looseOf]
theorem looseOf_snoc (b : Nat) (G : List (List UInt8)) (s : List UInt8) : looseOf b (G ++ [s]) = looseOf b G ++ [(b + G.length, s)] := by simp [looseOf, List.zipIdx_append]
theorem standL_snoc2 (safe : List (List UInt8)) (loose : List (Nat × List UInt8)) (x : Nat × List UInt8) (sel : Nat → Bool) :
    standL safe (loose ++ [x]) sel = if sel loose.length then (standL safe loose sel).set x.1 x.2 else standL safe loose sel := by
  simp [standL, List.zipIdx_append]

theorem stand_get {safe : List (List UInt8)} {sel : Nat → Bool} {b : Nat} : ∀ (n : Nat) (G : List (List UInt8)), G.length = n → b + n ≤ safe.length → ∀ j, (standL safe (looseOf b G) sel)[j]? = if b ≤ j ∧ j < b + n ∧ sel (j - b) = true then G[j - b]? else safe[j]?
  | 0, G, hG, hb, j => by
    have : G = [] := List.eq_nil_of_length_eq_zero hG
    subst this
    rw [if_neg (by omega)]; rfl
  | n + 1, G, hG, hb, j => by
    obtain ⟨G', s, rfl⟩ : ∃ G' s, G = G' ++ [s] := ⟨G.dropLast, G.getLast (by rintro rfl; simp at hG), (List.dropLast_concat_getLast _).symm⟩
    have hG' : G'.length = n := by simpa using hG
    have ih := stand_get (safe := safe) (sel := sel) (b := b) n G' hG' (by omega)
    rw [looseOf_snoc, standL_snoc2, looseOf_len, hG']
    by_cases hj : j = b + n
    · subst hj
      have e : b + n - b = n := by omega
      have eg : (G' ++ [s])[n]? = some s := by rw [List.getElem?_append_right (by omega), hG']; simp
      rw [e, eg]
      split
      · next hs =>
        rw [if_pos ⟨by omega, by omega, hs⟩, List.getElem?_set]
        simp only [if_true]
        rw [if_pos (by rw [standL_len]; omega)]
      · next hs =>
        rw [if_neg (by rintro ⟨_, _, h⟩; exact hs h), ih, if_neg (by omega)]
    · have e2 : (if sel n = true then (standL safe (looseOf b G') sel).set (b + n) s else standL safe (looseOf b G') sel)[j]? = (standL safe (looseOf b G') sel)[j]? := by
        split
        · rw [List.getElem?_set_ne (by omega)]
        · rfl
      rw [e2, ih]
      by_cases hc : b ≤ j ∧ j < b + n ∧ sel (j - b) = true
      · rw [if_pos hc, if_pos ⟨hc.1, by omega, hc.2.2⟩, List.getElem?_append_left (by omega)]
      · rw [if_neg hc, if_neg (by rintro ⟨h1, h2, h3⟩; exact hc ⟨h1, by omega, h3⟩)]

theorem putAt_get {α : Type} {L : List α} {b : Nat} {G : List α} (h : b + G.length ≤ L.length) (j : Nat) : (putAt L b G)[j]? = if b ≤ j ∧ j < b + G.length then G[j - b]? else L[j]? := by
  unfold putAt
  have hl : (L.take b).length = b := by rw [List.length_take]; omega
  by_cases h1 : j < b
  · rw [if_neg (by omega), List.append_assoc, List.getElem?_append_left (by omega), List.getElem?_take, if_pos h1]
  · by_cases h2 : j < b + G.length
    · rw [if_pos ⟨by omega, h2⟩, List.append_assoc, List.getElem?_append_right (by omega), hl, List.getElem?_append_left (by omega)]
    · rw [if_neg (by omega), List.getElem?_append_right (by rw [List.length_append, hl]; omega), List.length_append, hl, List.getElem?_drop]
      congr 1; omega

/-- On the drum stand the first 'f' of the sectors 'Wr', from place 2 on; the others of them are loose; all else is as it was. -/
structure KeptD (D : DS) (S0 Wr : List (List UInt8)) (f : Nat) : Prop where
  safe : D.safe = putAt S0 2 (Wr.take f)
  loose : D.loose = looseOf (2 + f) (Wr.drop f)
  le : f ≤ Wr.length
  fits : 2 + Wr.length ≤ S0.length

section
variable {D : DS} {S0 Wr : List (List UInt8)} {f : Nat}
theorem KeptD.len (h : KeptD D S0 Wr f) : D.safe.length = S0.length := by rw [h.safe, putAt_len (by rw [List.length_take]; have := h.le; have := h.fits; omega)]
theorem KeptD.get (h : KeptD D S0 Wr f) (sel : Nat → Bool) (j : Nat) : (standL D.safe D.loose sel)[j]? =
    if 2 ≤ j ∧ j < 2 + f then Wr[j - 2]? else if 2 + f ≤ j ∧ j < 2 + Wr.length ∧ sel (j - (2 + f)) = true then Wr[j - 2]? else S0[j]? := by
  have h1 := h.le
  have h2 := h.fits
  have hl := h.len
  rw [h.loose, stand_get (Wr.length - f) (Wr.drop f) (by rw [List.length_drop]) (by rw [hl]; omega), h.safe, putAt_get (by rw [List.length_take]; omega), List.length_take, Nat.min_eq_left h1]
  by_cases c1 : 2 ≤ j ∧ j < 2 + f
  · rw [if_neg (by omega), if_pos c1, if_pos c1, List.getElem?_take, if_pos (by omega)]
  · rw [if_neg c1, if_neg c1]
    by_cases c2 : 2 + f ≤ j ∧ j < 2 + Wr.length ∧ sel (j - (2 + f)) = true
    · rw [if_pos ⟨c2.1, by omega, c2.2.2⟩, if_pos c2, List.getElem?_drop]
      congr 1; omega
    · rw [if_neg (by rintro ⟨a, b, c⟩; exact c2 ⟨a, by omega, c⟩), if_neg c2]
theorem KeptD.write (h : KeptD D S0 Wr f) {s : List UInt8} (hs : 2 + (Wr.length + 1) ≤ S0.length) {st fu : Int} : KeptD { D with steps := st, fuse := fu, loose := D.loose ++ [(2 + Wr.length, s)] } S0 (Wr ++ [s]) f := by
  have h1 := h.le
  refine ⟨by rw [List.take_append_of_le_length h1]; exact h.safe, ?_, by simp; omega, by simpa using hs⟩
  simp only [h.loose]
  rw [List.drop_append_of_le_length h1, looseOf_snoc, List.length_drop]
  congr 3; omega
theorem KeptD.same (h : KeptD D S0 Wr f) {D' : DS} (e1 : D'.safe = D.safe) (e2 : D'.loose = D.loose) : KeptD D' S0 Wr f := ⟨e1.trans h.safe, e2.trans h.loose, h.le, h.fits⟩
theorem KeptD.flush (h : KeptD D S0 Wr f) : KeptD (D.stand fun _ => true) S0 Wr Wr.length := by
  have h1 := h.le
  have h2 := h.fits
  refine ⟨?_, ?_, Nat.le_refl _, h2⟩
  · apply List.ext_getElem?
    intro j
    show (standL D.safe D.loose fun _ => true)[j]? = _
    rw [h.get, putAt_get (by rw [List.length_take]; omega), List.length_take, Nat.min_self]
    by_cases c : 2 ≤ j ∧ j < 2 + Wr.length
    · rw [if_pos c, List.take_of_length_le (Nat.le_refl _)]
      by_cases c1 : 2 ≤ j ∧ j < 2 + f
      · rw [if_pos c1]
      · rw [if_neg c1, if_pos ⟨by omega, by omega, rfl⟩]
    · rw [if_neg c, if_neg (by omega), if_neg (by omega)]
  · simp [DS.stand, looseOf]
end

/-- What writing does, whatever the fuse: so many sectors are written. -/
theorem writes_kept {S0 : List (List UInt8)} {f : Nat} : ∀ (G : List (List UInt8)) (D : DS) (Wr : List (List UInt8)), KeptD D S0 Wr f → D.down = false → 2 + Wr.length + G.length ≤ S0.length → (∀ s ∈ G, s.length = 64) →
    ∃ k ≤ G.length, KeptD (D.writes (2 + Wr.length) G).1 S0 (Wr ++ G.take k) f ∧ (((D.writes (2 + Wr.length) G).2 = 0 ∧ k = G.length ∧ (D.writes (2 + Wr.length) G).1.down = false) ∨ (D.writes (2 + Wr.length) G).2 = 9)
  | [], D, Wr, h, hd, _, _ => ⟨0, Nat.le_refl _, by simpa [DS.writes] using h, .inl ⟨rfl, rfl, hd⟩⟩
  | s :: G, D, Wr, h, hd, hl, h64 => by
    simp only [List.length_cons] at hl
    have hlen := h.len
    have hs64 := h64 s (by simp)
    by_cases hf : D.fuse = 0
    · have hw := write_dead (n := 2 + Wr.length) (p := s) hf (by omega) hs64
      have e : D.writes (2 + Wr.length) (s :: G) = ({ D with down := true }, 9) := by rw [DS.writes, hw]; rfl
      rw [e]
      exact ⟨0, Nat.zero_le _, by rw [List.take_zero, List.append_nil]; exact h.same rfl rfl, .inr rfl⟩
    · have hw := write_live (n := 2 + Wr.length) (p := s) hd hf (by omega) hs64
      have hk := h.write (s := s) (by omega) (st := w64 (D.steps + 1)) (fu := if 0 < D.fuse then D.fuse - 1 else D.fuse)
      have e : D.writes (2 + Wr.length) (s :: G) = DS.writes { D with steps := w64 (D.steps + 1), fuse := if 0 < D.fuse then D.fuse - 1 else D.fuse, loose := D.loose ++ [(2 + Wr.length, s)] } (2 + (Wr ++ [s]).length) G := by
        rw [DS.writes, hw, if_pos rfl, show 2 + (Wr ++ [s]).length = 2 + Wr.length + 1 by rw [List.length_append, List.length_singleton]; omega]
      obtain ⟨k, hk1, hk2, hk3⟩ := writes_kept G _ (Wr ++ [s]) hk hd (by simp; omega) (fun x hx => h64 x (by simp [hx]))
      rw [e]
      refine ⟨k + 1, by simp; omega, by rw [List.take_succ_cons]; simpa using hk2, ?_⟩
      rcases hk3 with ⟨a, b, c⟩ | a
      · exact .inl ⟨a, by simp [b], c⟩
      · exact .inr a

theorem cnt_ge {gs : List (List UInt8)} {s m : Nat} (hs : s ≤ gs.length) (h : secsOf (gs.take s) ≤ m) : s ≤ cnt gs m := by
  rcases Nat.eq_zero_or_pos s with h0 | h0
  · omega
  · have := (cnt_spec gs m (s - 1)).2 ⟨by omega, by rw [show s - 1 + 1 = s by omega]; exact h⟩
    omega

/-- THE PLAIN LAW: whatever is kept of what was loose, the tape tells at least the groups that stood, and a beginning of all. -/
theorem lasts_law {D : DS} {S0 Wr put : List (List UInt8)} {f safe : Nat} {sel : Nat → Bool} (h : KeptD D S0 Wr f) (hS : S0.length = 40) (hold : ∀ b ∈ S0, beVal ((b.drop 4).take 4) ≠ 7)
    (hW : Wr = (lays 7 0 0 put).take Wr.length) (hWl : Wr.length ≤ secsOf put) (hsafe : safe ≤ put.length) (hf : secsOf (put.take safe) ≤ f) (hn : ∀ x ∈ put, nsec x.length ≤ 60000) :
    ∃ k, safe ≤ k ∧ k ≤ put.length ∧ (opened 7 (((standL D.safe D.loose sel).drop 2).take 38)).all = put.take k := by
  have h1 := h.le
  have h2 := h.fits
  -- the first sector that is not the tape's
  obtain ⟨m, hm1, hm2, hm3, hm4⟩ : ∃ m, f ≤ m ∧ m ≤ Wr.length ∧ (∀ i, f ≤ i → i < m → sel (i - f) = true) ∧ (m = Wr.length ∨ sel (m - f) = false) := by
    have : ∀ (r g : Nat), g + r = Wr.length → f ≤ g → (∀ i, f ≤ i → i < g → sel (i - f) = true) → ∃ m, f ≤ m ∧ m ≤ Wr.length ∧ (∀ i, f ≤ i → i < m → sel (i - f) = true) ∧ (m = Wr.length ∨ sel (m - f) = false) := by
      intro r
      induction r with
      | zero => intro g hg hfg hall; exact ⟨g, hfg, by omega, hall, .inl (by omega)⟩
      | succ r ih =>
        intro g hg hfg hall
        cases hs : sel (g - f) with
        | false => exact ⟨g, hfg, by omega, hall, .inr hs⟩
        | true =>
          refine ih (g + 1) (by omega) (by omega) fun i hi1 hi2 => ?_
          by_cases he : i = g
          · subst he; exact hs
          · exact hall i hi1 (by omega)
    exact this (Wr.length - f) f (by omega) (Nat.le_refl _) (fun i a b => by omega)
  have hget : ∀ i, i < 38 → (((standL D.safe D.loose sel).drop 2).take 38)[i]? = if i < f then Wr[i]? else if i < Wr.length ∧ sel (i - f) = true then Wr[i]? else S0[2 + i]? := by
    intro i hi
    rw [List.getElem?_take, if_pos hi, List.getElem?_drop, h.get]
    by_cases c1 : i < f
    · rw [if_pos ⟨by omega, by omega⟩, if_pos c1]; congr 1; omega
    · rw [if_neg (by omega), if_neg c1]
      have e : 2 + i - (2 + f) = i - f := by omega
      rw [e]
      by_cases c2 : i < Wr.length ∧ sel (i - f) = true
      · rw [if_pos ⟨by omega, by omega, c2.2⟩, if_pos c2]; congr 1; omega
      · rw [if_neg (by rintro ⟨a, b, c⟩; exact c2 ⟨by omega, c⟩), if_neg c2]
  have hlen : (((standL D.safe D.loose sel).drop 2).take 38).length = 38 := by rw [List.length_take, List.length_drop, standL_len, h.len]; omega
  generalize ((standL D.safe D.loose sel).drop 2).take 38 = S at *
  have hpre : S.take m = (lays 7 0 0 put).take m := by
    have e1 : (lays 7 0 0 put).take m = Wr.take m := by
      have := congrArg (List.take m) hW
      rw [List.take_take, Nat.min_eq_left hm2] at this
      exact this.symm
    rw [e1]
    apply List.ext_getElem?
    intro i
    rw [List.getElem?_take, List.getElem?_take]
    split
    · next hi =>
      rw [hget i (by omega)]
      by_cases c1 : i < f
      · rw [if_pos c1]
      · rw [if_neg c1, if_pos ⟨by omega, hm3 i (by omega) hi⟩]
    · rfl
  have hends : Ends 7 (S.drop m) := by
    intro b r hb st i hgood
    have hmem : b ∈ S0 := by
      have h0 : S[m]? = some b := by
        have : (S.drop m)[0]? = some b := by rw [hb]; rfl
        rw [List.getElem?_drop] at this; simpa using this
      have hm38 : m < 38 := by
        have := (List.getElem?_eq_some_iff.1 h0).1; omega
      rw [hget m hm38, if_neg (by omega), if_neg (by
        rintro ⟨a, c⟩
        rcases hm4 with e | e
        · omega
        · rw [e] at c; cases c)] at h0
      exact List.mem_of_getElem? h0
    exact hold b hmem (good_gen hgood (by decide))
  have := opened_lays hends (gs := put) (m := m) hn (by omega)
  rw [← hpre, List.take_append_drop] at this
  exact ⟨cnt put m, cnt_ge hsafe (by omega), cnt_le _ _, this⟩

theorem pair_eq {α β : Type} {x : α × β} {b : β} (h : x.2 = b) : x = (x.1, b) := by cases x; cases h; rfl

/-- What Append does of a tape that lies on sectors 2 to 40. -/
inductive AppK (d : Nat) (D : DS) (S0 put : List (List UInt8)) (f : Nat) (bs : List UInt8) : TR → Prop where
  | full : AppK d D S0 put f bs ⟨⟨d, 2, 40, 7, secsOf put, put.length, false⟩, D, 4⟩
  | done (D' : DS) (h : KeptD D' S0 (lays 7 0 0 (put ++ [bs])) f) (hd : D'.down = false) (hn : nsec bs.length ≤ 60000) : AppK d D S0 put f bs ⟨⟨d, 2, 40, 7, secsOf (put ++ [bs]), put.length + 1, false⟩, D', 0⟩
  | fell (T : TS) (hT : T.d = d) (D' : DS) (Wr : List (List UInt8)) (h : KeptD D' S0 Wr f) (hW : Wr = (lays 7 0 0 (put ++ [bs])).take Wr.length) (hl : Wr.length ≤ secsOf (put ++ [bs])) (hn : nsec bs.length ≤ 60000) : AppK d D S0 put f bs ⟨T, D', 9⟩

theorem append_kept {d : Nat} {D : DS} {S0 put : List (List UInt8)} {f : Nat} (bs : List UInt8) (h : KeptD D S0 (lays 7 0 0 put) f) (hd : D.down = false) (hS : S0.length = 40) :
    AppK d D S0 put f bs (tapeAppend ⟨d, 2, 40, 7, secsOf put, put.length, false⟩ D bs) := by
  have hl : (lays 7 0 0 put).length = secsOf put := lays_len _ _ _ _
  by_cases hful : 38 < secsOf put + nsec bs.length
  · rw [append_full (by omega)]; exact .full
  · have hlays : lays 7 0 0 (put ++ [bs]) = lays 7 0 0 put ++ grp 7 (secsOf put) put.length bs := by rw [lays_snoc]; simp
    have hgl : (grp 7 (secsOf put) put.length bs).length = nsec bs.length := grp_len _ _ _ _
    obtain ⟨kk, hk1, hk2, hk3⟩ := writes_kept (grp 7 (secsOf put) put.length bs) D _ h hd (by omega) (grp_64 _ _ _ _)
    rw [hl] at hk2 hk3
    generalize hG : grp 7 (secsOf put) put.length bs = G at *
    generalize hX : D.writes (2 + secsOf put) G = X at *
    rcases hk3 with ⟨he, hkk, hdn⟩ | he
    · have e := append_done (d := d) (lo := 2) (hi := 40) (gen := 7) (place := secsOf put) (groups := put.length) (bs := bs) (D := D) (D' := X.1) (by omega) (by rw [hG, hX]; exact pair_eq he)
      rw [e, ← secsOf_snoc]
      refine .done _ ?_ hdn (by omega)
      rw [hkk, List.take_of_length_le (Nat.le_refl _), ← hlays] at hk2
      exact hk2
    · have e := append_fell (d := d) (lo := 2) (hi := 40) (gen := 7) (place := secsOf put) (groups := put.length) (bs := bs) (D := D) (D' := X.1) (e := 9) (by omega) (by rw [hG, hX]; exact pair_eq he) (by decide)
      rw [e]
      have hwl : (lays 7 0 0 put ++ G.take kk).length = secsOf put + kk := by rw [List.length_append, hl, List.length_take]; omega
      have hwl2 : (lays 7 0 0 put ++ G.take kk).length ≤ secsOf (put ++ [bs]) := by rw [hwl, secsOf_snoc]; omega
      refine .fell ⟨d, 2, 40, 7, secsOf put, put.length, true⟩ rfl X.1 (lays 7 0 0 put ++ G.take kk) hk2 ?_ hwl2 (by omega)
      rw [hwl, hlays, List.take_append, hl, List.take_of_length_le (l := lays 7 0 0 put) (by omega), show secsOf put + kk - secsOf put = kk by omega]

end Go.Proofs.Ytfhmnodoahcmnaa
