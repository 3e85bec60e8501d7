/-
  Package drum: Flush, Crash, Clone.
-/
import Derived.Test.YtgplflecgnldeaaDrumB
namespace Go.Proofs.Ytgplflecgnldeaa
open Go Go.Vc

def standI (safe : List (List UInt8)) (loose : List (Nat × List UInt8)) (sel : Nat → Bool) (i : Nat) : List (List UInt8) :=
  (loose.zipIdx.take i).foldl (fun s x => if sel x.2 then s.set x.1.1 x.1.2 else s) safe
theorem standI_all (safe : List (List UInt8)) (loose : List (Nat × List UInt8)) (sel : Nat → Bool) : standI safe loose sel loose.length = standL safe loose sel := by
  unfold standI standL
  rw [List.take_of_length_le (by simp)]
theorem standI_succ (safe : List (List UInt8)) (loose : List (Nat × List UInt8)) (sel : Nat → Bool) {i : Nat} {x : Nat × List UInt8} (h : loose[i]? = some x) :
    standI safe loose sel (i + 1) = if sel i then (standI safe loose sel i).set x.1 x.2 else standI safe loose sel i := by
  unfold standI
  rw [foldl_take_succ (x := (x, i))]
  rw [List.getElem?_zipIdx, h]; simp
theorem standI_len (safe : List (List UInt8)) (loose : List (Nat × List UInt8)) (sel : Nat → Bool) (i : Nat) : (standI safe loose sel i).length = safe.length := by
  unfold standI
  generalize loose.zipIdx.take i = l
  induction l generalizing safe with
  | nil => rfl
  | cons x l ih => simp only [List.foldl_cons]; rw [ih]; split <;> simp
theorem standI_64 (safe : List (List UInt8)) (loose : List (Nat × List UInt8)) (sel : Nat → Bool) (h : ∀ s ∈ safe, s.length = 64) (hl : ∀ x ∈ loose, x.2.length = 64) (i : Nat) :
    ∀ s ∈ standI safe loose sel i, s.length = 64 := by
  induction i with
  | zero => exact h
  | succ i ih =>
    cases hx : loose[i]? with
    | none =>
      have : standI safe loose sel (i + 1) = standI safe loose sel i := by
        have hle := List.getElem?_eq_none_iff.1 hx
        unfold standI
        rw [List.take_of_length_le (by simp; omega), List.take_of_length_le (by simp; omega)]
      rw [this]; exact ih
    | some x =>
      rw [standI_succ _ _ _ hx]
      split
      · intro s hs
        rcases List.mem_or_eq_of_mem_set hs with hs | rfl
        · exact ih s hs
        · exact hl x (List.mem_of_getElem? hx)
      · exact ih

/-- The element of a range over the loose Writes. -/
theorem pick_ok {w1 w2 : World} {S : Nat → Prop} {lp : Option Addr} {lc i : Nat} {loose : List (Nat × List UInt8)} {K : Nat → World → Prop} (chg : Chg S w1 w2)
    (g4 : Row w1 T_drum_write 65 lp loose.length lc (rows wr1 loose)) (h64 : ∀ x ∈ loose, x.2.length = 64) (ho : off lp S) (hi : i < loose.length)
    (k : ∀ b5 w4 x, loose[i]? = some x → w2.heap.size ≤ b5 → Hp w1 S w4 [⟨b5, wr1 x, T_drum_write⟩] → Chg No w2 w4 → K b5 w4) :
    idxA lp loose.length (i : Int) fun a => ldN w2 (a.add ((i : Int).toNat * 65)) 65 fun cs => newB w2 (.cells (zeroC Try.prog T_drum_write) T_drum_write) fun b5 w3 => stN w3 ⟨b5, 0, none⟩ ⟨cs⟩ 65 fun w4 => K b5 w4 := by
  refine idx_rows (g4.chg chg ho).sl (even_wr1 h64) (by decide) (by omega) (by omega) fun a x ha hx hc => ?_
  have hx64 : (wr1 x).length = 65 := even_wr1 h64 x (List.mem_of_getElem? hx)
  refine ldN_i hx64 hc ?_
  rw [zeroC_write]
  refine (Hp.of_chg chg).newB fun b5 w3 H3 hb5 hc3 => ?_
  refine H3.stN 0 rfl (off := 0) hx64 (by simp [bcells_length, zsec_len]) (one1_wr1 x) fun w4 H4 hc4 => ?_
  rw [splice_all (by rw [hx64]; simp [bcells_length, zsec_len])] at H4
  simp only [Int.toNat_natCast] at hx
  refine k b5 w4 x hx hb5 H4 (hc3.trans hc4 ?_)
  rintro b hb rfl
  omega

/-- 'd.safe[w.n] = w.p'. -/
theorem put_ok {w1 w4 : World} {bs bn cn d cs lc ll b5 n : Nat} {lp : Option Addr} {D : DS} {x : Nat × List UInt8} {L : List (List UInt8)} {rest : List Value} {K : World → Prop}
    (H : Hp w1 (fun b => b = bs) w4 [⟨b5, wr1 x, T_drum_write⟩]) (g1 : w1.heap[d]? = some (.cells ⟨drumCells bs bn n cs cn lp ll lc D⟩ T_drum_Drum (0, 0))) (hd : d ≠ bs)
    (gs : w4.heap[bs]? = some (.cells ⟨rows bcells L ++ rest⟩ T_drum_sector (0, 0))) (hb5 : b5 ≠ bs) (h64 : ∀ s ∈ L, s.length = 64) (hx : x.2.length = 64) (hn : L.length = n) (hi : x.1 < n)
    (k : ∀ w5, Hp w1 (fun b => b = bs) w5 [⟨bs, rows bcells (L.set x.1 x.2) ++ rest, T_drum_sector⟩] → K w5) :
    ldS w4.drew ⟨d, 0, none⟩ fun p l _ => ldI .i64 w4.drew ⟨b5, 0, none⟩ fun y => ldN w4.drew ⟨b5, 1, none⟩ 64 fun cs => idxA p l y fun a => stN w4.drew (a.add (y.toNat * 64)) ⟨cs⟩ 64 fun w5 => K w5 := by
  have H' := (H.add gs (by simpa using hb5) (fun _ => rfl)).drew
  have gd : w4.drew.heap[d]? = some (.cells ⟨drumCells bs bn n cs cn lp ll lc D⟩ T_drum_Drum (0, 0)) := H'.chg.heap g1 hd
  refine ldS_i (p := some ⟨bs, 0, none⟩) (l := n) (c := cs) (by rw [cell_of_row _ d 0 _ _ (0, 0) gd]; rfl) ?_
  refine H'.ldI 1 rfl (off := 0) rfl ?_
  have hc : (bcells x.2).length = 64 := by rw [bcells_length]; exact hx
  refine H'.ldN 1 rfl (off := 1) (by simp [hc]) ?_
  rw [show ((wr1 x).drop 1).take 64 = bcells x.2 from by simp only [List.drop_succ_cons, List.drop_zero]; exact List.take_of_length_le (by omega)]
  refine idxA_i (by omega) (by omega) ?_
  rw [Addr.add_mk, Nat.zero_add, Int.toNat_natCast]
  have hE := even_bcells h64
  have hr := rows_len hE
  refine H'.stN 0 rfl (off := x.1 * 64) hc (by simp only [List.length_append]; omega) (one1_bcells _) fun w5 H5 hc5 => ?_
  rw [splice_append (by omega), rows_splice hE (by omega) hc] at H5
  simp only [List.set_cons_zero] at H5
  exact k w5 ⟨H5.chg, fun p hp => H5.is p (by simp only [List.mem_singleton] at hp; simp [hp]), by simp, fun p hp => H5.own p (by simp only [List.mem_singleton] at hp; simp [hp])⟩

def DS.stand (D : DS) (sel : Nat → Bool) : DS := { D with safe := standL D.safe D.loose sel, loose := [] }
def DS.flush (D : DS) : DS × Int := (if D.step.2 = 0 then D.step.1.stand (fun _ => true) else D.step.1, D.step.2)
def DS.crash (D : DS) (keep : List Bool) : DS := { D.stand (fun i => (keep[i]?).getD false) with fuse := -1, down := false }

theorem DS.Ok.stand {D : DS} (h : D.Ok) (sel : Nat → Bool) : (D.stand sel).Ok :=
  ⟨by simp only [DS.stand, standL_len]; exact h.pos, by simp only [DS.stand, standL_len]; exact h.max, standL_all _ _ _ h.safe (fun x hx => (h.loose x hx).2), by simp [DS.stand], by simp [DS.stand], h.fuse⟩

theorem Flush_ok {w : World} {d : Nat} {F : List Nat} {D : DS} {J : Int → World → Prop} (h : DrumAt w d F D)
    (k : ∀ w' F', DrumAt w' d F' D.flush.1 → Chg (· ∈ F) w w' → (∀ b ∈ F', b ∈ F ∨ w.heap.size ≤ b) → J D.flush.2 w') :
    callJ Try.prog fn_drum_Drum_Flush #[.pointer (some ⟨d, 0, none⟩)] w [.one (.int .i64)] J := by
  refine c_drum_Drum_Flush ?_
  unfold VC_drum_Drum_Flush
  dsimp only [nonNil, condB, Option.isNone]
  simp only [Addr.add_mk, Nat.zero_add]
  refine step_ok h fun w2 h2 hc2 => ?_
  have hc2' : Chg (· ∈ F) w w2 := hc2.mono fun b _ hb => by subst hb; exact h.mem
  unfold DS.flush at k
  refine condB_ne (fun hne => ?_) (fun he => ?_)
  · rw [if_neg hne] at k
    exact k w2 F h2 hc2' (fun b hb => .inl hb)
  rw [he, if_pos rfl] at k
  generalize D.step.1 = D1 at *
  obtain ⟨bs, bn, cs, cn, lp, lc, ok, g1, g2, g3, g4, hF, hn⟩ := id h2
  have hnd := hn
  rw [hF] at hnd
  simp only [List.nodup_cons, List.mem_cons, not_or] at hnd
  obtain ⟨⟨n1, n2, n3⟩, ⟨n4, n5⟩, n6, n7⟩ := hnd
  obtain ⟨bb, rest, hbb, gs, hle, hmax, hcells⟩ := g2.some0 (by have := ok.pos; omega)
  have hbb' : bs = bb := by cases hbb; rfl
  subst hbb'
  have H := (Hp.start w2 (fun b => b = d)).add g1 (by simp) (fun _ => rfl)
  refine H.ldS 0 rfl (off := 2) rfl ?_
  have hlo : off lp (fun b => b = bs) := by rintro a rfl h; simp only [blkOf, List.mem_singleton] at n5; exact n5 h.symm
  refine ⟨fun x w' m => ∃ i : Nat, x = i ∧ i ≤ D1.loose.length ∧ m = D1.loose.length - i ∧ Hp w2 (fun b => b = bs) w' [⟨bs, rows bcells (standI D1.safe D1.loose (fun _ => true) i) ++ rest, T_drum_sector⟩],
    ⟨_, 0, rfl, Nat.zero_le _, rfl, (Hp.start w2 _).add gs (by simp) (fun _ => rfl)⟩, ?_⟩
  rintro x w' m ⟨i, rfl, hi, rfl, HL⟩
  have hcount := ok.count
  refine condB_d (fun hb => ?_) (fun hb => ?_)
  · refine pick_ok HL.chg g4 (fun x hx => (ok.loose x hx).2) hlo (by omega) fun b5 w4 x hx hb5 H4 hc4 => ?_
    have hxl := ok.loose x (List.mem_of_getElem? hx)
    refine put_ok H4 g1 n1 (hc4.heap (HL.get 0 rfl) id) ?_ (standI_64 _ _ _ ok.safe (fun x hx => (ok.loose x hx).2) _) hxl.2 (standI_len _ _ _ _) hxl.1 fun w5 H5 => ?_
    · intro e
      have := lt_of_heap (HL.get 0 rfl)
      omega
    · refine ⟨D1.loose.length - (i + 1), by omega, i + 1, ?_, by omega, rfl, ?_⟩
      · rw [w64_of] <;> omega
      · rw [standI_succ _ _ _ hx]; exact H5
  · have hi' : i = D1.loose.length := by omega
    subst hi'
    rw [standI_all] at HL
    have HL2 : Hp w2 (fun b => b = d ∨ b = bs) w' _ := (HL.mono (S' := fun b => b = d ∨ b = bs) (fun _ _ h => .inr h)).add (HL.chg.heap g1 n1) (by simpa using Ne.symm n1) (fun _ => .inl rfl)
    refine HL2.stV 0 rfl (off := 2) (by simp [drumCells]) fun w6 H6 hc6 => ?_
    have hE : Even bcells 64 (standL D1.safe D1.loose fun _ => true) := even_bcells (ok.stand (fun _ => true)).safe
    refine k w6 [d, bs, bn] ⟨bs, bn, cs, cn, none, 0, ok.stand _, ?_, ?_, ?_, Row.nil _ _ _, rfl, ?_⟩ (hc2'.trans H6.chg ?_) ?_
    · have := H6.get 0 rfl
      simp only [List.set_cons_succ, List.set_cons_zero, drumCells] at this ⊢
      rw [this]; simp [DS.stand, standL_len]
    · have hl := rows_len hE
      have := H6.asRow 1 rfl (sz := 64) (l := D1.safe.length) (c := cs) (xs := rows bcells (standL D1.safe D1.loose fun _ => true)) (rest := rest) rfl
        (by rw [hl, standL_len]) hle hmax (by rw [← hcells, List.length_append, List.length_append, hl, rows_len (even_bcells ok.safe), standL_len])
      simpa [DS.stand, standL_len] using this
    · have := g3.chg H6.chg (by rintro a ⟨⟩ (h | h); exact n2 h.symm; exact n4 h.symm)
      rw [show (D1.stand fun _ => true).now = D1.now from rfl]
      simpa only [DS.stand, standL_len] using this
    · simp [n1, n2, n4]
    · rintro b _ (rfl | rfl) <;> simp [hF]
    · intro b hb
      rw [hF]
      simp only [List.mem_cons, List.not_mem_nil, or_false] at hb ⊢
      rcases hb with h | h | h <;> simp [h]

theorem Crash_ok {w : World} {d : Nat} {F : List Nat} {D : DS} {p : Option Addr} {l c : Nat} {ks : List Bool} {J : Int → World → Prop} (h : DrumAt w d F D)
    (hk : Sl w p l 1 (ks.map .bool)) (hoff : off p (· ∈ F))
    (k : ∀ w' F', DrumAt w' d F' (D.crash ks) → Chg (· ∈ F) w w' → (∀ b ∈ F', b ∈ F ∨ w.heap.size ≤ b) → J 0 w') :
    callJ Try.prog fn_drum_Drum_Crash #[.pointer (some ⟨d, 0, none⟩), .slice p l c] w [.one (.int .i64)] J := by
  refine c_drum_Drum_Crash ?_
  unfold VC_drum_Drum_Crash
  dsimp only [nonNil]
  simp only [Addr.add_mk, Nat.zero_add]
  refine condB_i (fun hb => by simp at hb) (fun _ => ?_)
  obtain ⟨bs, bn, cs, cn, lp, lc, ok, g1, g2, g3, g4, hF, hn⟩ := id h
  have hnd := hn
  rw [hF] at hnd
  simp only [List.nodup_cons, List.mem_cons, not_or] at hnd
  obtain ⟨⟨n1, n2, n3⟩, ⟨n4, n5⟩, n6, n7⟩ := hnd
  obtain ⟨bb, rest, hbb, gs, hle, hmax, hcells⟩ := g2.some0 (by have := ok.pos; omega)
  have hbb' : bs = bb := by cases hbb; rfl
  subst hbb'
  have H := (Hp.start w (fun b => b = d)).add g1 (by simp) (fun _ => rfl)
  refine H.ldS 0 rfl (off := 2) rfl ?_
  have hlo : off lp (fun b => b = bs) := by rintro a rfl h; simp only [blkOf, List.mem_singleton] at n5; exact n5 h.symm
  have hpo : off p (fun b => b = bs) := fun a ha h => hoff a ha (by rw [h, hF]; simp)
  have hkl : ks.length = l := by simpa using hk.1
  generalize hsel : (fun i : Nat => (ks[i]?).getD false) = sel
  have h64 := fun x (hx : x ∈ D.loose) => (ok.loose x hx).2
  refine ⟨fun x w' m => ∃ i : Nat, x = i ∧ i ≤ D.loose.length ∧ m = D.loose.length - i ∧ Hp w (fun b => b = bs) w' [⟨bs, rows bcells (standI D.safe D.loose sel i) ++ rest, T_drum_sector⟩],
    ⟨_, 0, rfl, Nat.zero_le _, rfl, (Hp.start w _).add gs (by simp) (fun _ => rfl)⟩, ?_⟩
  rintro x w' m ⟨i, rfl, hi, rfl, HL⟩
  have hcount := ok.count
  refine condB_d (fun hb => ?_) (fun hb => ?_)
  · refine withJ_i fun J0 hJ0 => ?_
    refine pick_ok HL.chg g4 h64 hlo (by omega) fun b5 w4 x hx hb5 H4 hc4 => ?_
    refine withJ_i fun J28 hJ28 => ?_
    have go : J28 (sel i) w4 := by
      subst hJ28
      have hxl := ok.loose x (List.mem_of_getElem? hx)
      have gs4 := hc4.heap (HL.get 0 rfl) id
      refine condB_i (fun hs => ?_) (fun hs => ?_)
      · refine put_ok H4 g1 n1 gs4 ?_ (standI_64 _ _ _ ok.safe h64 _) hxl.2 (standI_len _ _ _ _) hxl.1 fun w5 H5 => ?_
        · intro e
          have := lt_of_heap (HL.get 0 rfl)
          omega
        · subst hJ0
          refine ⟨D.loose.length - (i + 1), by omega, i + 1, ?_, by omega, rfl, ?_⟩
          · rw [w64_of] <;> omega
          · rw [standI_succ _ _ _ hx, hs]; exact H5
      · subst hJ0
        refine ⟨D.loose.length - (i + 1), by omega, i + 1, ?_, by omega, rfl, ?_⟩
        · rw [w64_of] <;> omega
        · rw [standI_succ _ _ _ hx, hs]; exact HL.step0 hc4
    refine condB_d (fun hb2 => ?_) (fun hb2 => ?_)
    · refine idx_sl (hk.chg H4.chg hpo) (by omega) (by omega) fun a ha hc => ?_
      refine ldB_i (b := sel i) ?_ go
      have hlt : i < ks.length := by omega
      have := hc 0 (.bool (sel i)) (by
        rw [List.getElem?_drop]; subst hsel
        simp [hlt])
      rwa [add_zero'] at this
    · have : sel i = false := by subst hsel; simp; rw [List.getElem?_eq_none (by omega)]; rfl
      rw [← this]; exact go
  · have hi' : i = D.loose.length := by omega
    subst hi'
    rw [standI_all] at HL
    have HL2 : Hp w (fun b => b = d ∨ b = bs) w' _ := (HL.mono (S' := fun b => b = d ∨ b = bs) (fun _ _ h => .inr h)).add (HL.chg.heap g1 n1) (by simpa using Ne.symm n1) (fun _ => .inl rfl)
    refine HL2.ldS 0 rfl (off := 0) rfl ?_
    have hok := ok.stand sel
    have hE : Even bcells 64 (standL D.safe D.loose sel) := even_bcells hok.safe
    have hl := rows_len hE
    have hlen := standL_len D.safe D.loose sel
    have hr1 : Row w' T_drum_sector 64 (some ⟨bs, 0, none⟩) D.safe.length cs (rows bcells (standL D.safe D.loose sel)) :=
      HL2.asRow 1 rfl (rest := rest) rfl (by rw [hl, hlen]) hle hmax (by rw [← hcells, List.length_append, List.length_append, hl, rows_len (even_bcells ok.safe), hlen])
    have hmx := ok.max
    refine Clone_sector hr1.sl (by simp) (by omega) fun p' c' w7 hr7 hf7 hc7 => ?_
    have H7 := HL2.step0 hc7
    obtain ⟨bn', rest', hp', hh', hle', hmax', hcells'⟩ := hr7.some0 (by have := ok.pos; omega)
    subst hp'
    have hbn' := hf7 _ rfl
    simp only at hbn'
    have l1 := lt_of_heap (HL2.get 0 rfl)
    have l2 := lt_of_heap (HL2.get 1 rfl)
    refine H7.stV 0 rfl (off := 1) (by simp [drumCells]) fun w8 H8 hc8 => ?_
    refine H8.stV 0 rfl (off := 2) (by simp [drumCells]) fun w9 H9 hc9 => ?_
    refine H9.stV 0 rfl (off := 4) (by simp [drumCells]) fun w10 H10 hc10 => ?_
    refine H10.stV 0 rfl (off := 5) (by simp [drumCells]) fun w11 H11 hc11 => ?_
    have hc711 : Chg (fun b => b = d) w7 w11 := ((hc8.trans hc9 fun _ _ => id).trans hc10 fun _ _ => id).trans hc11 fun _ _ => id
    have hD : D.crash ks = { D.stand sel with fuse := -1, down := false } := by subst hsel; rfl
    rw [hD] at k
    refine k w11 [d, bs, bn'] ⟨bs, bn', cs, c', none, 0, ⟨hok.pos, hok.max, hok.safe, hok.loose, hok.count, by constructor <;> simp⟩, ?_, ?_, ?_, Row.nil _ _ _, rfl, ?_⟩ (H11.chg.mono ?_) ?_
    · have := H11.get 0 rfl
      simp only [List.set_cons_succ, List.set_cons_zero, drumCells] at this ⊢
      rw [this]; simp [DS.stand, standL_len]
    · have := (hr1.chg hc7 (off_no _)).chg hc711 (by rintro a ⟨⟩ h; exact n1 h.symm)
      simpa [DS.stand, standL_len] using this
    · have := hr7.chg hc711 (by rintro a ⟨⟩ h; simp only at h; omega)
      rw [show (DS.now { D.stand sel with fuse := -1, down := false }) = standL D.safe D.loose sel from rfl]
      simpa only [DS.stand, standL_len] using this
    · simp only [List.nodup_cons, List.mem_cons, List.not_mem_nil, or_false, not_or]
      refine ⟨⟨n1, by omega⟩, by omega, by simp⟩
    · rintro b _ (rfl | rfl) <;> simp [hF]
    · intro b hb
      rw [hF]
      simp only [List.mem_cons, List.not_mem_nil, or_false] at hb ⊢
      rcases hb with h | h | h
      · simp [h]
      · simp [h]
      · right; rw [h]; exact Nat.le_trans HL2.chg.size hbn'

/-! ## A drum of the call's own -/

structure Own (w0 w : World) (d : Nat) (F : List Nat) (D : DS) : Prop where
  at_ : DrumAt w d F D
  chg : Chg No w0 w
  new : ∀ b ∈ F, w0.heap.size ≤ b

section
variable {w0 w w' : World} {d : Nat} {F F' : List Nat} {D D' : DS}

theorem Chg.out {S : Nat → Prop} (h : Chg No w0 w) (hc : Chg S w w') (hn : ∀ b, S b → w0.heap.size ≤ b) : Chg No w0 w' :=
  h.trans hc fun b hb hs => by have := hn b hs; omega
theorem Own.upd (h : Own w0 w d F D) (h' : DrumAt w' d F' D') (hc : Chg (· ∈ F) w w') (hF : ∀ b ∈ F', b ∈ F ∨ w.heap.size ≤ b) : Own w0 w' d F' D' :=
  ⟨h', Chg.out h.chg hc h.new, fun b hb => (hF b hb).elim (h.new b) fun hs => Nat.le_trans h.chg.size hs⟩
theorem Own.step (h : Own w0 w d F D) {S : Nat → Prop} (hc : Chg S w w') (h1 : ∀ b ∈ F, ¬ S b) (h2 : ∀ b, S b → w0.heap.size ≤ b) : Own w0 w' d F D := ⟨h.at_.frame hc h1, Chg.out h.chg hc h2, h.new⟩
theorem Own.step0 (h : Own w0 w d F D) (hc : Chg No w w') : Own w0 w' d F D := h.step hc (fun _ _ => id) (fun _ => False.elim)
theorem Own.lt (h : Own w0 w d F D) : ∀ b ∈ F, b < w.heap.size := h.at_.lt
theorem Own.off (h : Own w0 w d F D) {p : Option Addr} (hf : fresh w p) : Go.Vc.off p (· ∈ F) := fresh_off hf h.lt

theorem New_own {n : Int} {J : Option Addr → Int → World → Prop} (h1 : 1 ≤ n) (h2 : n ≤ 16384) (hc : Chg No w0 w)
    (k : ∀ w' d F, Own w0 w' d F (DS.new n.toNat) → Chg No w w' → (∀ b ∈ F, w.heap.size ≤ b) → J (some ⟨d, 0, none⟩) 0 w') :
    callJ Try.prog fn_drum_New #[.int .i64 n] w [.one .ptr, .one (.int .i64)] J :=
  New_ok h1 h2 fun w' d F h hc' hF => k w' d F ⟨h, hc.trans0 hc', fun b hb => Nat.le_trans hc.size (hF b hb)⟩ hc' hF
theorem Write_own {n : Int} {p : Option Addr} {l c : Nat} {bs : List UInt8} {J : Int → World → Prop} (h : Own w0 w d F D)
    (hb : Bytes w p l bs) (hp : p = none → l = 0) (hoff : Go.Vc.off p (· ∈ F)) (hcount : D.loose.length < 1000000000)
    (k : ∀ w' F', Own w0 w' d F' (D.write n bs).1 → Chg (· ∈ F) w w' → (∀ b ∈ F', b ∈ F ∨ w.heap.size ≤ b) → J (D.write n bs).2 w') :
    callJ Try.prog fn_drum_Drum_Write #[.pointer (some ⟨d, 0, none⟩), .int .i64 n, .slice p l c] w [.one (.int .i64)] J :=
  Write_ok h.at_ hb hp hoff hcount fun w' F' h' hc hF => k w' F' (h.upd h' hc hF) hc hF
theorem Flush_own {J : Int → World → Prop} (h : Own w0 w d F D)
    (k : ∀ w' F', Own w0 w' d F' D.flush.1 → Chg (· ∈ F) w w' → (∀ b ∈ F', b ∈ F ∨ w.heap.size ≤ b) → J D.flush.2 w') :
    callJ Try.prog fn_drum_Drum_Flush #[.pointer (some ⟨d, 0, none⟩)] w [.one (.int .i64)] J :=
  Flush_ok h.at_ fun w' F' h' hc hF => k w' F' (h.upd h' hc hF) hc hF
theorem Crash_own {p : Option Addr} {l c : Nat} {ks : List Bool} {J : Int → World → Prop} (h : Own w0 w d F D)
    (hk : Sl w p l 1 (bools ks)) (hoff : Go.Vc.off p (· ∈ F))
    (k : ∀ w' F', Own w0 w' d F' (D.crash ks) → Chg (· ∈ F) w w' → (∀ b ∈ F', b ∈ F ∨ w.heap.size ≤ b) → J 0 w') :
    callJ Try.prog fn_drum_Drum_Crash #[.pointer (some ⟨d, 0, none⟩), .slice p l c] w [.one (.int .i64)] J :=
  Crash_ok h.at_ hk hoff fun w' F' h' hc hF => k w' F' (h.upd h' hc hF) hc hF
theorem Read_own {n : Int} {J : Option Addr → Nat → Nat → Int → World → Prop} (h : Own w0 w d F D)
    (k : ∀ p c w', Own w0 w' d F (D.read n).1 → Row w' T_uint8 1 p (D.read n).2.1.length c (bcells (D.read n).2.1) → fresh w p → Chg (· ∈ F) w w' → J p (D.read n).2.1.length c (D.read n).2.2 w') :
    callJ Try.prog fn_drum_Drum_Read #[.pointer (some ⟨d, 0, none⟩), .int .i64 n] w [.one .slice, .one (.int .i64)] J :=
  Read_ok h.at_ fun p c w' h' hr hf hc =>
    have hc' : Chg (· ∈ F) w w' := hc.mono fun b _ hb => by subst hb; exact h.at_.mem
    k p c w' (h.upd h' hc' fun _ => .inl) hr hf hc'
theorem Fuse_own {n : Int} {J : Int → World → Prop} (h : Own w0 w d F D) (hn : InI n)
    (k : ∀ w', Own w0 w' d F (D.fuseTo n).1 → Chg (· ∈ F) w w' → J (D.fuseTo n).2 w') :
    callJ Try.prog fn_drum_Drum_Fuse #[.pointer (some ⟨d, 0, none⟩), .int .i64 n] w [.one (.int .i64)] J :=
  Fuse_ok h.at_ hn fun w' h' hc =>
    have hc' : Chg (· ∈ F) w w' := hc.mono fun b _ hb => by subst hb; exact h.at_.mem
    k w' (h.upd h' hc' fun _ => .inl) hc'
end

/-! ## By their types blocks are apart -/

theorem DrumAt.typ {w : World} {d : Nat} {F : List Nat} {D : DS} (h : DrumAt w d F D) : ∀ b ∈ F, typ w b = some T_drum_Drum ∨ typ w b = some T_drum_sector ∨ typ w b = some T_drum_write := by
  obtain ⟨bs, bn, cs, cn, lp, lc, ok, h1, h2, h3, h4, hF, hn⟩ := h
  intro b hb
  rw [hF] at hb
  simp only [List.mem_cons] at hb
  rcases hb with rfl | rfl | rfl | hb
  · exact .inl (typ_of h1)
  · exact .inr (.inl (h2.typ _ rfl))
  · exact .inr (.inl (h3.typ _ rfl))
  · cases lp with
    | none => simp [blkOf] at hb
    | some a => simp only [blkOf, List.mem_singleton] at hb; subst hb; exact .inr (.inr (h4.typ _ rfl))

def notDrum (e : TypeId) : Prop := e ≠ T_drum_Drum ∧ e ≠ T_drum_sector ∧ e ≠ T_drum_write
theorem DrumAt.apart {w : World} {d : Nat} {F : List Nat} {D : DS} (h : DrumAt w d F D) {b : Nat} {e : TypeId} (ht : Go.Vc.typ w b = some e) (he : notDrum e) : b ∉ F := by
  intro hb
  obtain ⟨e1, e2, e3⟩ := he
  rcases h.typ b hb with h | h | h <;> rw [ht] at h <;> simp only [Option.some.injEq] at h
  · exact e1 h
  · exact e2 h
  · exact e3 h
theorem DrumAt.rowOff {w : World} {d : Nat} {F : List Nat} {D : DS} (h : DrumAt w d F D) {e : TypeId} {sz : Nat} {p : Option Addr} {l c : Nat} {xs : List Value} (hr : Row w e sz p l c xs) (he : notDrum e) : off p (· ∈ F) :=
  fun a ha => h.apart (hr.typ a ha) he
theorem nd_u8 : notDrum T_uint8 := ⟨by decide, by decide, by decide⟩
theorem nd_sl_u8 : notDrum T_sl_uint8 := ⟨by decide, by decide, by decide⟩

/-! ## A drum without a fuse -/

def Calm (D : DS) : Prop := D.fuse = -1 ∧ D.down = false
theorem Calm.step {D : DS} (h : Calm D) : D.step = ({ D with steps := w64 (D.steps + 1) }, 0) := by
  obtain ⟨h1, h2⟩ := h
  rw [DS.step_good (by rw [h1, h2]; simp), h1]
  rw [if_neg (by decide)]
theorem Calm.new (n : Nat) : Calm (DS.new n) := ⟨rfl, rfl⟩

theorem DS.read_loose (D : DS) (n : Int) : (D.read n).1.loose.length = D.loose.length := by
  unfold DS.read; split
  · rfl
  · simp only [DS.step_loose]
theorem DS.write_loose (D : DS) (n : Int) (p : List UInt8) : (D.write n p).1.loose.length ≤ D.loose.length + 1 := by
  unfold DS.write; split
  · simp
  · split
    · simp
    · simp only
      split
      · simp
      · rw [DS.step_loose]; omega
theorem DS.flush_loose (D : DS) : D.flush.1.loose.length ≤ D.loose.length := by
  unfold DS.flush
  simp only
  split
  · simp [DS.stand]
  · rw [DS.step_loose]; omega


end Go.Proofs.Ytgplflecgnldeaa

