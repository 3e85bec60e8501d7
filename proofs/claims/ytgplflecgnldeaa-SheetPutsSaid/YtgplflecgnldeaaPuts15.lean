/-
  Package sheet on a drum: Put, Get; sectors in a row of bytes.
-/
import Derived.Test.YtgplflecgnldeaaSheetD
namespace Go.Proofs.Ytgplflecgnldeaa
open Go Go.Vc

/-! ## Sectors behind one another -/

def All64 (L : List (List UInt8)) : Prop := ∀ s ∈ L, s.length = 64
theorem flat_drop : ∀ (i : Nat) (L : List (List UInt8)), All64 L → L.flatten.drop (64 * i) = (L.drop i).flatten
  | 0, L, _ => by simp
  | i + 1, [], _ => by simp
  | i + 1, x :: L, h => by
    have hx := h x (by simp)
    rw [List.flatten_cons, show 64 * (i + 1) = x.length + 64 * i by omega, ← List.drop_drop, List.drop_left, List.drop_succ_cons]
    exact flat_drop i L fun s hs => h s (by simp [hs])
theorem flat_take : ∀ (i : Nat) (L : List (List UInt8)), All64 L → L.flatten.take (64 * i) = (L.take i).flatten
  | 0, L, _ => by simp
  | i + 1, [], _ => by simp
  | i + 1, x :: L, h => by
    have hx := h x (by simp)
    rw [List.flatten_cons, show 64 * (i + 1) = x.length + 64 * i by omega, List.take_append, List.take_of_length_le (by omega), show x.length + 64 * i - x.length = 64 * i by omega, List.take_succ_cons, List.flatten_cons]
    rw [flat_take i L fun s hs => h s (by simp [hs])]
theorem flat_len : ∀ (L : List (List UInt8)), All64 L → L.flatten.length = 64 * L.length
  | [], _ => rfl
  | x :: L, h => by
    have hx := h x (by simp)
    rw [List.flatten_cons, List.length_append, hx, flat_len L fun s hs => h s (by simp [hs]), List.length_cons]; omega
theorem flat_get {L : List (List UInt8)} (h : All64 L) {i : Nat} {x : List UInt8} (hx : L[i]? = some x) : (L.flatten.drop (64 * i)).take 64 = x := by
  have hlt := (List.getElem?_eq_some_iff.1 hx).1
  have he := (List.getElem?_eq_some_iff.1 hx).2
  rw [flat_drop i L h, List.drop_eq_getElem_cons hlt, List.flatten_cons, he, ← h x (List.mem_of_getElem? hx), List.take_left]
theorem flat_eight {L : List (List UInt8)} (h : All64 L) (i : Nat) : (L.flatten.drop (64 * i)).take 512 = ((L.drop i).take 8).flatten := by
  rw [flat_drop i L h]
  exact flat_take 8 (L.drop i) fun s hs => h s (List.mem_of_mem_drop hs)
theorem flat_splice {L G : List (List UInt8)} (hL : All64 L) (hG : All64 G) {n : Nat} : splice (bcells L.flatten) (64 * n) (bcells G.flatten) = bcells (putAt L n G).flatten := by
  unfold splice putAt
  have hg := flat_len G hG
  rw [bcells_length, hg, show 64 * n + 64 * G.length = 64 * (n + G.length) by omega]
  unfold bcells
  rw [← List.map_take, ← List.map_drop, flat_take n L hL, flat_drop _ L hL, ← List.map_append, ← List.map_append]
  simp
theorem putAt_one {α : Type} {L : List α} {n : Nat} {x : α} (h : n < L.length) : putAt L n [x] = L.set n x := by
  have := putAt_cons (L := L) (n := n) (x := x) (G := []) (by simp; omega)
  rw [putAt_nil] at this
  exact this.symm

def chunksK (b : List UInt8) (k : Nat) : List (List UInt8) := (List.range k).map fun i => (b.drop (64 * i)).take 64
def chunks (b : List UInt8) : List (List UInt8) := chunksK b 8
theorem chunksK_flat (b : List UInt8) : ∀ k, (chunksK b k).flatten = b.take (64 * k)
  | 0 => by simp [chunksK]
  | k + 1 => by
    have e : chunksK b (k + 1) = chunksK b k ++ [(b.drop (64 * k)).take 64] := by simp [chunksK, List.range_succ]
    rw [e, List.flatten_append, chunksK_flat b k, List.flatten_singleton, show 64 * (k + 1) = 64 * k + 64 by omega, List.take_add]
theorem chunks_flat {b : List UInt8} (h : b.length = 512) : (chunks b).flatten = b := by
  unfold chunks; rw [chunksK_flat]; exact List.take_of_length_le (by omega)
theorem chunks_len (b : List UInt8) : (chunks b).length = 8 := by simp [chunks, chunksK]
theorem chunks_64 {b : List UInt8} (h : b.length = 512) : All64 (chunks b) := by
  intro s hs
  simp only [chunks, chunksK, List.mem_map, List.mem_range] at hs
  obtain ⟨i, hi, rfl⟩ := hs
  rw [List.length_take, List.length_drop]; omega
theorem chunks_drop {b : List UInt8} {i : Nat} (hi : i < 8) : (chunks b).drop i = (b.drop (64 * i)).take 64 :: (chunks b).drop (i + 1) := by
  rw [List.drop_eq_getElem_cons (by rw [chunks_len]; exact hi)]
  congr 1
  simp [chunks, chunksK]

inductive PutOut (D : DS) (n : Int) (stamp : Nat) (bs : List UInt8) : DS → Int → Prop where
  | no (h : (whereM D.safe.length n).e ≠ 0) : PutOut D n stamp bs D 1
  | lay (h : (whereM D.safe.length n).e = 0) (h2 : (layM n stamp bs).e ≠ 0) : PutOut D n stamp bs D (layM n stamp bs).e
  | done (D' : DS) (at_ : Nat) (h : (whereM D.safe.length n).e = 0) (h2 : (layM n stamp bs).e = 0) (hat : (whereM D.safe.length n).at_ = at_) (hw : Wrote D D' at_ (chunks (layM n stamp bs).b)) : PutOut D n stamp bs D' 0

theorem layM_ok {n : Int} {stamp : Nat} {bs : List UInt8} (h : (layM n stamp bs).e = 0) : (layM n stamp bs).b.length = 512 := by
  unfold layM at h ⊢
  split at h
  · cases h
  · next h1 =>
    rw [if_neg h1]
    split at h
    · cases h
    · next h2 => rw [if_neg h2]; exact pageS_len (by omega)
theorem whereM_e (len n : Int) : (whereM len n).e = 0 ∨ (whereM len n).e = 1 := by unfold whereM; split; exact .inr rfl; exact .inl rfl
theorem whereM_at {len : Nat} {n : Int} (h : (whereM len n).e = 0) : ∃ a : Nat, (whereM len n).at_ = a ∧ a + 8 ≤ len ∧ n ≥ 0 ∧ (a : Int) = 2 + (len : Int) / 4 + 8 * n := by
  unfold whereM at h ⊢
  split at h
  · cases h
  · next h1 =>
    rw [if_neg h1]
    refine ⟨(2 + (len : Int) / 4 + 8 * n).toNat, ?_, by omega, by omega, by omega⟩
    simp only; omega

theorem cutB' {w : World} {q : Option Addr} {m d : Nat} {b : List UInt8} (h : Bytes w q m b) {i j : Nat} (hij : i ≤ j) (hj : j ≤ m) (hd : m ≤ d) {oi oj : Option Int} (e1 : oi.getD 0 = (i : Int)) (e2 : oj.getD m = (j : Int)) {K : Option Addr → Nat → Nat → Prop}
    (k : ∀ q', Bytes w q' (j - i) ((b.drop i).take (j - i)) → (q' = none → j - i = 0) → (∀ S, off q S → off q' S) → K q' (j - i) (d - i)) : slS q m d 1 oi oj none K := by
  refine slS_sl (i := i) (j := j) h e1 e2 hij hj hd fun q' hq ho => ?_
  have hq' : Bytes w q' (j - i) ((b.drop i).take (j - i)) := by
    have e : ((bcells b).drop (i * 1)).take ((j - i) * 1) = bcells ((b.drop i).take (j - i)) := by
      unfold bcells; rw [Nat.mul_one, Nat.mul_one, ← List.map_drop, ← List.map_take]
    rw [e] at hq; exact hq
  refine k q' hq' (fun h0 => ?_) ho
  by_cases hz : j - i = 0
  · exact hz
  · obtain ⟨a, ha, _⟩ := Sl.at hq' hz; rw [h0] at ha; cases ha

section
variable {w0 w w' : World} {d : Nat} {F : List Nat} {D : DS}

theorem Put_own {n : Int} {stamp : Nat} {p : Option Addr} {l c : Nat} {bs : List UInt8} {J : Int → World → Prop} (h : Own w0 w d F D) (hcalm : Calm D) (hn : InI n) (hst : stamp < 2 ^ 64) (hb : Bytes w p l bs) (hp : p = none → l = 0) (hcount : D.loose.length < 900000000)
    (k : ∀ w' F' D' e, Own w0 w' d F' D' → Chg (· ∈ F) w w' → (∀ b ∈ F', b ∈ F ∨ w.heap.size ≤ b) → PutOut D n stamp bs D' e → J e w') :
    callJ Try.prog fn_sheet_Put #[.pointer (some ⟨d, 0, none⟩), .int .i64 n, .int .u64 (stamp : Int), .slice p l c] w [.one (.int .i64)] J := by
  refine c_sheet_Put ?_
  unfold VC_sheet_Put
  have hmax := h.at_.ok.max
  have nochg : ∀ {w'}, Chg No w w' → Chg (· ∈ F) w w' := fun hc => hc.mono fun _ _ h => h.elim
  refine where_ok h.at_ hn fun w1 hc1 => ?_
  have h1 := h.step0 hc1
  rcases whereM_e D.safe.length n with hw0 | hw1
  · rw [hw0]
    obtain ⟨a, ha, ha2, hn0, _⟩ := whereM_at hw0
    rw [ha]
    refine condB_ne (fun h => absurd rfl h) fun _ => ?_
    refine Lay_ok hst (hb.chg hc1 (off_no _)) hp fun q2 c2 w2 hr2 hf2 hc2 => ?_
    have h2 := h1.step0 hc2
    have hc12 := hc1.trans0 hc2
    by_cases he : (layM n stamp bs).e = 0
    · have hl := layM_ok he
      rw [he]
      rw [hl] at hr2 ⊢
      generalize hB : (layM n stamp bs).b = B at *
      obtain ⟨wr0, wr⟩ := writes_calm (chunks B) D a hcalm (by rw [chunks_len]; omega) (chunks_64 hl)
      refine ⟨fun e x w' m => ∃ (i : Nat) (F' : List Nat) (D' : DS), x = i ∧ i ≤ 8 ∧ m = 8 - i ∧ e = 0 ∧ Own w0 w' d F' D' ∧ Calm D' ∧ D'.safe.length = D.safe.length ∧ D.writes a (chunks B) = D'.writes (a + i) ((chunks B).drop i) ∧ Row w' T_uint8 1 q2 512 c2 (bcells B) ∧
          Chg (· ∈ F) w w' ∧ (∀ b ∈ F', b ∈ F ∨ w.heap.size ≤ b) ∧ D'.loose.length ≤ D.loose.length + i,
        ⟨_, 0, F, D, rfl, by decide, rfl, rfl, h2, hcalm, rfl, by simp, hr2, nochg hc12, fun _ => .inl, by omega⟩, ?_⟩
      rintro e x w3 m ⟨i, F3, D3, rfl, hi, rfl, rfl, h3, hcalm3, hs3, hw3, hr3, hc3, hF3, hl3⟩
      refine withJ_i fun J34 hJ34 => ?_
      refine condB_d (fun hlt => ?_) (fun hlt => ?_)
      · subst hJ34
        refine condB_i (fun _ => ?_) (fun h => by simp at h)
        have e1 : w64 ((i : Int) * 64) = ((64 * i : Nat) : Int) := by rw [w64_of] <;> omega
        have e2 : w64 (w64 ((i : Int) + 1) * 64) = ((64 * i + 64 : Nat) : Int) := by rw [w64_of (n := (i : Int) + 1) (by omega) (by omega), w64_of] <;> omega
        rw [e1, e2]
        refine cutB' hr3.bytes (i := 64 * i) (j := 64 * i + 64) (by omega) (by omega) hr3.le.1 rfl rfl fun q4 hq4 hq4n hq4o => ?_
        rw [show 64 * i + 64 - 64 * i = 64 by omega] at hq4 hq4n ⊢
        have e3 : w64 ((a : Int) + (i : Int)) = ((a + i : Nat) : Int) := by rw [w64_of] <;> omega
        rw [e3]
        have hch : ((B.drop (64 * i)).take 64).length = 64 := by rw [List.length_take, List.length_drop]; omega
        have hq4off : off q4 (· ∈ F3) := hq4o _ (h3.at_.rowOff hr3 nd_u8)
        refine Write_own h3 hq4 hq4n hq4off (by omega) fun w5 F5 h5 hc5 hF5 => ?_
        rw [hcalm3.write (n := a + i) (by omega) hch] at h5 ⊢
        dsimp only at h5 ⊢
        rw [chunks_drop (by omega), DS.writes, hcalm3.write (n := a + i) (by omega) hch, if_pos rfl] at hw3
        refine ⟨8 - (i + 1), by omega, i + 1, F5, _, by rw [w64_of] <;> omega, by omega, rfl, rfl, h5, hcalm3, hs3, hw3, hr3.chg hc5 (h3.at_.rowOff hr3 nd_u8), ?_, ?_, by simp; omega⟩
        · refine hc3.trans hc5 fun b hb hbF => ?_
          rcases hF3 b hbF with h | h
          · exact h
          · omega
        · intro b hb
          rcases hF5 b hb with h | h
          · exact hF3 b h
          · right; have := hc3.size; omega
      · subst hJ34
        refine condB_i (fun h => by simp at h) fun _ => ?_
        have hi8 : i = 8 := by omega
        subst hi8
        rw [List.drop_of_length_le (by rw [chunks_len]; decide)] at hw3
        simp only [DS.writes] at hw3
        rw [hw3] at wr
        exact k w3 F3 D3 0 h3 hc3 hF3 (.done D3 a hw0 he ha (by rw [hB]; exact wr))
    · refine ⟨fun e x w' m => e = (layM n stamp bs).e ∧ w' = w2, ⟨0, rfl, rfl⟩, ?_⟩
      rintro e x w3 m ⟨rfl, rfl⟩
      refine withJ_i fun J34 hJ34 => ?_
      have hno : J34 false w3 := by
        subst hJ34
        refine condB_i (fun h => by simp at h) fun _ => ?_
        exact k w3 F D _ h2 (nochg hc12) (fun _ => .inl) (.lay hw0 he)
      refine condB_d (fun _ => ?_) (fun _ => hno)
      have : ((layM n stamp bs).e == 0) = false := by simpa using he
      rw [this]; exact hno
  · rw [hw1]
    exact condB_ne (fun _ => k w1 F D 1 h1 (nochg hc1) (fun _ => .inl) (.no (by rw [hw1]; decide))) (fun h => absurd h (by decide))

def getM (D : DS) (n : Int) : TakeR := if (whereM D.safe.length n).e ≠ 0 then ⟨[], 0, 1⟩ else takeM n ((D.now.drop (whereM D.safe.length n).at_.toNat).take 8).flatten

theorem Get_own {n : Int} {J : Option Addr → Nat → Nat → Int → Int → World → Prop} (h : Own w0 w d F D) (hcalm : Calm D) (hn : InI n)
    (k : ∀ q c w' j, Own w0 w' d F (D.took j) → Chg (· ∈ F) w w' → Row w' T_uint8 1 q (getM D n).p.length c (bcells (getM D n).p) → fresh w q → J q (getM D n).p.length c ((getM D n).s : Int) (getM D n).e w') :
    callJ Try.prog fn_sheet_Get #[.pointer (some ⟨d, 0, none⟩), .int .i64 n] w [.one .slice, .one (.int .u64), .one (.int .i64)] J := by
  refine c_sheet_Get ?_
  unfold VC_sheet_Get
  have hmax := h.at_.ok.max
  have hnl := D.now_len
  have nochg : ∀ {w'}, Chg No w w' → Chg (· ∈ F) w w' := fun hc => hc.mono fun _ _ h => h.elim
  refine where_ok h.at_ hn fun w1 hc1 => ?_
  have h1 := h.step0 hc1
  unfold getM at k
  rcases whereM_e D.safe.length n with hw0 | hw1
  · rw [if_neg (by rw [hw0]; simp)] at k
    rw [hw0]
    obtain ⟨a, ha, ha2, hn0, _⟩ := whereM_at hw0
    rw [ha, Int.toNat_natCast] at k
    rw [ha]
    refine condB_ne (fun h => absurd rfl h) fun _ => ?_
    refine ⟨fun bp bl bc x w' m => ∃ i : Nat, x = i ∧ i ≤ 8 ∧ m = 8 - i ∧ Own w0 w' d F (D.took i) ∧ Row w' T_uint8 1 bp bl bc (bcells ((D.now.drop a).take i).flatten) ∧ fresh w bp ∧ bl = 64 * i ∧ Chg (· ∈ F) w w',
      ⟨_, 0, rfl, by decide, rfl, h1, Row.nil _ _ _, by rintro a ⟨⟩, rfl, nochg hc1⟩, ?_⟩
    rintro bp bl bc x w2 m ⟨i, rfl, hi, rfl, h2, hr2, hf2, rfl, hc2⟩
    refine condB_d (fun hlt => ?_) (fun hlt => ?_)
    · have e3 : w64 ((a : Int) + (i : Int)) = ((a + i : Nat) : Int) := by rw [w64_of] <;> omega
      rw [e3]
      refine Read_own h2 fun p3 c3 w3 h3 hr3 hf3 hc3 => ?_
      rw [(took_calm hcalm i).read (by rw [took_safe]; omega), took_now] at h3 hr3 ⊢
      change Own w0 w3 d F (D.took (i + 1)) at h3
      dsimp only at hr3 ⊢
      refine condB_ne (fun h => absurd rfl h) fun _ => ?_
      obtain ⟨b, hb⟩ : ∃ b, D.now[a + i]? = some b := ⟨D.now[a + i]'(by omega), List.getElem?_eq_getElem (by omega)⟩
      have hb64 := h.at_.ok.now b (List.mem_of_getElem? hb)
      rw [hb, Option.getD_some, hb64] at hr3
      rw [hb, Option.getD_some, hb64]
      have hr23 := hr2.chg hc3 (h2.at_.rowOff hr2 nd_u8)
      have hB : ∀ x, isB bp x → typ w3 x = some T_uint8 := by rintro x ⟨a, ha, rfl⟩; exact hr23.typ a ha
      have hfr : ∀ x, isB bp x → w.heap.size ≤ x := by rintro x ⟨a, ha, rfl⟩; exact hf2 a ha
      refine appJ_row slT_u8 hr23 hr3.sl (one1_bcells _) (fun h => absurd (hr3.none0 h) (by decide)) (by omega) (by simp only [maxLen]; omega) fun p4 c4 w4 hr4 hc4 hf4 => ?_
      refine ⟨8 - (i + 1), by omega, i + 1, by rw [w64_of] <;> omega, by omega, rfl, h3.step hc4 (fun x hx hb => h3.at_.apart (hB x hb) nd_u8 hx) (fun x hx => Nat.le_trans h.chg.size (hfr x hx)), ?_, ?_, by omega, ?_⟩
      · have e : ((D.now.drop a).take (i + 1)).flatten = ((D.now.drop a).take i).flatten ++ b := by
          rw [List.take_add_one, List.getElem?_drop, hb]; simp
        rw [e]
        have hcat : bcells ((D.now.drop a).take i).flatten ++ bcells b = bcells (((D.now.drop a).take i).flatten ++ b) := by simp [bcells]
        rw [← hcat]; exact hr4
      · rcases hf4 with rfl | hf4
        · exact hf2
        · intro a ha; have := hf4 a ha; have := hc2.size; have := hc3.size; omega
      · exact (hc2.trans hc3 fun _ _ => id).trans hc4 fun x hx hb => by have := hfr x hb; omega
    · have hi8 : i = 8 := by omega
      subst hi8
      refine Take_ok hn hr2.bytes hr2.le.1 fun q5 c5 w5 hr5 hf5 hc5 => ?_
      exact k q5 c5 w5 8 (h2.step0 hc5) (hc2.trans0 hc5) hr5 (fun a ha => Nat.le_trans hc2.size (hf5 a ha))
  · rw [if_pos (by rw [hw1]; decide)] at k
    rw [hw1]
    exact condB_ne (fun _ => k none 0 w1 0 h1 (nochg hc1) (Row.nil _ _ _) (by rintro a ⟨⟩)) (fun h => absurd h (by decide))
end

end Go.Proofs.Ytgplflecgnldeaa

