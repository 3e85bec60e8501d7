/-
  Package tape: Append, Flush, Groups, Free.
-/
import Derived.Test.YtfhmnodoahcmnaaTapeB
import Derived.Test.YtfhmnodoahcmnaaDrumC
namespace Go.Proofs.Ytfhmnodoahcmnaa
open Go Go.Vc

/-! ## A tape in memory -/

structure TS where
  d : Nat
  lo : Nat
  hi : Nat
  gen : Nat
  place : Nat
  groups : Nat
  down : Bool
def tapeCells (T : TS) : List Value := [.pointer (some ⟨T.d, 0, none⟩), .int .i64 T.lo, .int .i64 T.hi, .int .i64 T.gen, .int .i64 T.place, .int .i64 T.groups, .bool T.down]
structure TS.Ok (T : TS) (n : Nat) : Prop where
  lohi : T.lo < T.hi
  hi : T.hi ≤ n
  gen : 1 ≤ T.gen ∧ T.gen < 2 ^ 32
  place : T.place ≤ T.hi - T.lo
  groups : T.groups ≤ T.place
def TapeAt (w : World) (t : Nat) (T : TS) : Prop := w.heap[t]? = some (.cells ⟨tapeCells T⟩ T_tape_Tape (0, 0))
/-- A tape and its drum, both of the call's own. -/
structure TOwn (w0 w : World) (t : Nat) (T : TS) (F : List Nat) (D : DS) : Prop where
  drum : Own w0 w T.d F D
  at_ : TapeAt w t T
  new : w0.heap.size ≤ t
  ok : T.Ok D.safe.length
theorem nd_tape : notDrum T_tape_Tape := ⟨by decide, by decide, by decide⟩
theorem nd_sector : notDrum T_tape_sector := ⟨by decide, by decide, by decide⟩

section
variable {w0 w w' : World} {t : Nat} {T : TS} {F : List Nat} {D : DS}
theorem TOwn.out (h : TOwn w0 w t T F D) : t ∉ F := h.drum.at_.apart (typ_of h.at_) nd_tape
theorem TOwn.lt (h : TOwn w0 w t T F D) : t < w.heap.size := lt_of_heap h.at_
theorem TOwn.chg (h : TOwn w0 w t T F D) : Chg No w0 w := h.drum.chg
theorem TOwn.step (h : TOwn w0 w t T F D) {S : Nat → Prop} (hc : Chg S w w') (h1 : ∀ b ∈ F, ¬ S b) (h2 : ¬ S t) (h3 : ∀ b, S b → w0.heap.size ≤ b) : TOwn w0 w' t T F D :=
  ⟨h.drum.step hc h1 h3, hc.heap h.at_ h2, h.new, h.ok⟩
theorem TOwn.step0 (h : TOwn w0 w t T F D) (hc : Chg No w w') : TOwn w0 w' t T F D := h.step hc (fun _ _ => id) id (fun _ => False.elim)
theorem TOwn.drew (h : TOwn w0 w t T F D) : TOwn w0 w.drew t T F D := h.step0 (Chg.refl No w).drew
/-- The drum alone was written. -/
theorem TOwn.upd (h : TOwn w0 w t T F D) {F' : List Nat} {D' : DS} (h' : Own w0 w' T.d F' D') (hc : Chg (· ∈ F) w w') (hs : D'.safe.length = D.safe.length) : TOwn w0 w' t T F' D' :=
  ⟨h', hc.heap h.at_ h.out, h.new, by rw [hs]; exact h.ok⟩
/-- The tape's block alone was written. -/
theorem TOwn.put (h : TOwn w0 w t T F D) {T' : TS} (hd : T'.d = T.d) (hh : TapeAt w' t T') (hc : Chg (fun b => b = t) w w') (hk : T'.Ok D.safe.length) : TOwn w0 w' t T' F D :=
  ⟨by rw [hd]; exact h.drum.step hc (fun b hb e => h.out (e ▸ hb)) (fun b e => e ▸ h.new), hh, h.new, hk⟩

theorem DS.write_safe (D : DS) (n : Int) (p : List UInt8) : (D.write n p).1.safe = D.safe := by
  unfold DS.write; split
  · rfl
  · split
    · rfl
    · simp only; split <;> simp [DS.step_safe]
theorem DS.read_safe (D : DS) (n : Int) : (D.read n).1.safe = D.safe := by
  unfold DS.read; split
  · rfl
  · simp [DS.step_safe]
theorem DS.flush_len (D : DS) : D.flush.1.safe.length = D.safe.length := by
  unfold DS.flush; simp only; split
  · simp [DS.stand, standL_len, DS.step_safe]
  · rw [DS.step_safe]

/-! ## Append -/

def DS.writes (D : DS) (n : Nat) : List (List UInt8) → DS × Int
  | [] => (D, 0)
  | s :: r => if (D.write n s).2 = 0 then (D.write n s).1.writes (n + 1) r else D.write n s
def part (bs : List UInt8) (i : Nat) : List UInt8 := (bs.drop (48 * i)).take 48
def grpS (gen place group : Nat) (bs : List UInt8) (i : Nat) : List UInt8 := sec gen (place + i) group (nsec bs.length - 1 - i) (part bs i).length (part bs i)
def grp (gen place group : Nat) (bs : List UInt8) : List (List UInt8) := (List.range (nsec bs.length)).map (grpS gen place group bs)
structure TR where
  T : TS
  D : DS
  e : Int
def tapeAppend (T : TS) (D : DS) (bs : List UInt8) : TR :=
  if T.down = true then ⟨T, D, 9⟩ else if T.hi - T.lo < T.place + nsec bs.length then ⟨T, D, 4⟩ else
  if (D.writes (T.lo + T.place) (grp T.gen T.place T.groups bs)).2 = 0 then ⟨{ T with place := T.place + nsec bs.length, groups := T.groups + 1 }, (D.writes (T.lo + T.place) (grp T.gen T.place T.groups bs)).1, 0⟩
  else ⟨{ T with down := true }, (D.writes (T.lo + T.place) (grp T.gen T.place T.groups bs)).1, (D.writes (T.lo + T.place) (grp T.gen T.place T.groups bs)).2⟩

theorem part_len (bs : List UInt8) (i : Nat) : (part bs i).length ≤ 48 := by unfold part; rw [List.length_take]; omega
theorem grpS_len (gen place group : Nat) (bs : List UInt8) (i : Nat) : (grpS gen place group bs i).length = 64 := sec_len (part_len bs i)
theorem nsec_pos (n : Nat) : 1 ≤ nsec n := by unfold nsec; omega
theorem grp_len (gen place group : Nat) (bs : List UInt8) : (grp gen place group bs).length = nsec bs.length := by simp [grp]
theorem grp_drop {gen place group : Nat} {bs : List UInt8} {i : Nat} (h : i < nsec bs.length) : (grp gen place group bs).drop i = grpS gen place group bs i :: (grp gen place group bs).drop (i + 1) := by
  rw [List.drop_eq_getElem_cons (by rw [grp_len]; exact h)]
  congr 1
  simp [grp]

set_option maxRecDepth 20000 in
theorem Append_own {p : Option Addr} {l c : Nat} {bs : List UInt8} {J : Int → World → Prop} (h : TOwn w0 w t T F D)
    (hb : Bytes w p l bs) (_ : p = none → l = 0) (hlc : l ≤ c) (hm : l ≤ 4611686018427387904) (hoff : off p (fun b => b ∈ F ∨ b = t)) (hcount : D.loose.length < 900000000)
    (k : ∀ w' F', TOwn w0 w' t (tapeAppend T D bs).T F' (tapeAppend T D bs).D → Chg (fun b => b ∈ F ∨ b = t) w w' → (∀ b ∈ F', b ∈ F ∨ w.heap.size ≤ b) → J (tapeAppend T D bs).e w') :
    callJ Try.prog fn_tape_Tape_Append #[.pointer (some ⟨t, 0, none⟩), .slice p l c] w [.one (.int .i64)] J := by
  have hbl := hb.len
  refine c_tape_Tape_Append ?_
  unfold VC_tape_Tape_Append
  dsimp only [nonNil]
  simp only [Addr.add_mk, Nat.zero_add]
  refine condB_i (fun hb => by simp at hb) (fun _ => ?_)
  refine sectors_ok hm ?_
  have H0 := (Hp.start w (fun b => b ∈ F ∨ b = t)).add h.at_ (by simp) (fun _ => .inr rfl)
  have hmax := h.drum.at_.ok.max
  obtain ⟨k1, k2, k3, k4, k5⟩ := h.ok
  refine H0.ldB 0 rfl (off := 6) rfl ?_
  unfold tapeAppend at k
  refine condB_i (fun hd => ?_) (fun hd => ?_)
  · rw [if_pos hd] at k
    exact k w F h (Chg.refl _ _) (fun _ => .inl)
  rw [if_neg (by simp [hd])] at k
  refine H0.drew.ldI 0 rfl (off := 2) rfl ?_
  refine H0.drew.ldI 0 rfl (off := 1) rfl ?_
  refine H0.drew.ldI 0 rfl (off := 4) rfl ?_
  have efree : w64 (w64 ((T.hi : Int) - (T.lo : Int)) - (T.place : Int)) = ((T.hi - T.lo - T.place : Nat) : Int) := by
    rw [w64_of (n := (T.hi : Int) - T.lo) (by omega) (by omega), w64_of] <;> omega
  rw [efree, ← hbl]
  generalize hn : nsec bs.length = n at *
  have hn1 : 1 ≤ n := by rw [← hn]; exact nsec_pos _
  refine condB_d (fun hf => ?_) (fun hf => ?_)
  · rw [if_pos (by omega)] at k
    exact k _ F h.drew ((Chg.refl _ _).drew) (fun _ => .inl)
  rw [if_neg (by omega)] at k
  generalize hG : grp T.gen T.place T.groups bs = G at *
  have hGl : G.length = n := by rw [← hG, grp_len, hn]
  refine ⟨fun x w' m => ∃ (i : Nat) (F' : List Nat) (D' : DS), x = i ∧ i ≤ n ∧ m = n - i ∧ TOwn w0 w' t T F' D' ∧ D'.safe.length = D.safe.length ∧ Chg (fun b => b ∈ F ∨ b = t) w w' ∧
      (∀ b ∈ F', b ∈ F ∨ w.heap.size ≤ b) ∧ D.writes (T.lo + T.place) G = D'.writes (T.lo + T.place + i) (G.drop i) ∧ D'.loose.length ≤ D.loose.length + i,
    ⟨_, 0, F, D, rfl, Nat.zero_le _, rfl, h.drew, rfl, (Chg.refl _ _).drew, fun _ => .inl, by simp, by simp⟩, ?_⟩
  rintro x w2 m ⟨i, F', D', rfl, hi, rfl, h2, hs2, hc2, hF2, hw2, hl2⟩
  have lt48 : ∀ i < n, 48 * i ≤ bs.length := by
    intro i hi; rw [← hn] at hi; unfold nsec at hi; omega
  refine condB_d (fun hlt => ?_) (fun hlt => ?_)
  · have hin : i < n := by omega
    have e1 : w64 ((i : Int) * 48) = ((48 * i : Nat) : Int) := by rw [w64_of] <;> omega
    have e2 : w64 (w64 ((i : Int) + 1) * 48) = ((48 * i + 48 : Nat) : Int) := by rw [w64_of (n := (i : Int) + 1) (by omega) (by omega), w64_of] <;> omega
    rw [e1, e2]
    have e3 : (if ((48 * i + 48 : Nat) : Int) < ((bs.length : Nat) : Int) then ((48 * i + 48 : Nat) : Int) else ((bs.length : Nat) : Int)) = ((min bs.length (48 * i + 48) : Nat) : Int) := by split <;> omega
    rw [e3]
    have hb2 : Bytes w2 p bs.length bs := by rw [hbl]; exact hb.chg hc2 hoff
    have h48 := lt48 i hin
    refine slS_sl (i := 48 * i) (j := min bs.length (48 * i + 48)) hb2 rfl rfl (by omega) (by omega) (by omega) fun q hq hqo => ?_
    have hpl : (part bs i).length = min bs.length (48 * i + 48) - 48 * i := by unfold part; rw [List.length_take, List.length_drop]; omega
    have hqb : Bytes w2 q (min bs.length (48 * i + 48) - 48 * i) (part bs i) := by
      have e : ((bcells bs).drop (48 * i * 1)).take ((min bs.length (48 * i + 48) - 48 * i) * 1) = bcells (part bs i) := by
        unfold part bcells
        rw [Nat.mul_one, Nat.mul_one, ← List.map_drop, ← List.map_take]
        congr 1
        rw [List.take_eq_take_iff, List.length_drop]
        omega
      rw [e] at hq; exact hq
    rw [← hpl] at hqb ⊢
    have hqn : q = none → (part bs i).length = 0 := by
      intro hq0
      by_cases h0 : (part bs i).length = 0
      · exact h0
      · obtain ⟨a, ha, _⟩ := Sl.at hqb h0; rw [hq0] at ha; cases ha
    have hd2 := h2.drew
    have H2 := (Hp.start w2.drew (fun b => b ∈ F' ∨ b = t)).add hd2.at_ (by simp) (fun _ => .inr rfl)
    refine H2.ldI 0 rfl (off := 3) rfl ?_
    refine H2.ldI 0 rfl (off := 4) rfl ?_
    refine H2.ldI 0 rfl (off := 5) rfl ?_
    rw [show zeroC Try.prog T_tape_sector = ⟨[.int .u32 0, .int .u16 0, .int .u16 0, .int .u16 0, .int .u16 0]⟩ from by kernel_rfl]
    refine H2.newB fun b8 w3 H3 hb8 hc3 => ?_
    refine ⟨H3.cell 1 rfl rfl, H3.cell 1 rfl rfl, H3.cell 1 rfl rfl, ?_⟩
    refine H3.stN 0 rfl (off := 0) rfl (by decide) (by simp [one1, Value.oneCell']) fun w4 H4 hc4 => ?_
    have hc34 : Chg No w2.drew w4 := hc3.trans hc4 fun b hb e => by subst e; omega
    have q1 : IntKind.u32.wrap (T.gen : Int) = (T.gen : Int) := wrap_u32_nat k3.2
    have q2 : IntKind.u16.wrap (w64 ((T.place : Int) + (i : Int))) = ((T.place + i : Nat) : Int) := by rw [w64_of (by omega) (by omega), wrap_u16]; omega
    have q3 : IntKind.u16.wrap (T.groups : Int) = (T.groups : Int) := by rw [wrap_u16]; omega
    have q4 : IntKind.u16.wrap (w64 (w64 ((n : Int) - 1) - (i : Int))) = ((n - 1 - i : Nat) : Int) := by rw [w64_of (n := (n : Int) - 1) (by omega) (by omega), w64_of (by omega) (by omega), wrap_u16]; omega
    have q5 : IntKind.u16.wrap (((part bs i).length : Nat) : Int) = (((part bs i).length : Nat) : Int) := by have := part_len bs i; rw [wrap_u16]; omega
    rw [q1, q2, q3, q4, q5] at H4
    have h4 := hd2.step0 hc34
    have H4' := H4.drew
    refine H4'.ldP 1 rfl (off := 0) rfl ?_
    refine H4'.ldI 1 rfl (off := 1) rfl ?_
    refine H4'.ldI 1 rfl (off := 4) rfl ?_
    refine H4'.ldI 0 rfl (off := 0) rfl ?_
    refine H4'.ldI 0 rfl (off := 1) rfl ?_
    refine H4'.ldI 0 rfl (off := 2) rfl ?_
    refine H4'.ldI 0 rfl (off := 3) rfl ?_
    refine H4'.ldI 0 rfl (off := 4) rfl ?_
    have hpl48 := part_len bs i
    refine lay_ok k3.2 (by omega) (by omega) (by omega) (by omega) (Bytes.chg (Bytes.chg hqb ((Chg.refl No w2).drew) (off_no _)) (hc34.drew) (off_no _)) hqn (part_len bs i) fun p5 c5 w5 hr5 hf5 hc5 => ?_
    have H5 := H4'.step0 hc5
    refine ⟨H5.cell 1 rfl rfl, H5.cell 1 rfl rfl, H5.cell 1 rfl rfl, ?_⟩
    have h5 := (h4.drew).step0 hc5
    have hc5' : Chg No w2 w5 := (((Chg.refl No w2).drew).trans0 hc34).drew.trans0 hc5
    have e4 : w64 (w64 ((T.lo : Int) + (T.place : Int)) + (i : Int)) = ((T.lo + T.place + i : Nat) : Int) := by rw [w64_of (n := (T.lo : Int) + T.place) (by omega) (by omega), w64_of] <;> omega
    rw [e4]
    refine Write_own h5.drum hr5.bytes hr5.none0 (fresh_off hf5 h4.drew.drum.lt) (by omega) fun w6 F6 h6 hc6 hF6 => ?_
    have hsec : sec T.gen (T.place + i) T.groups (n - 1 - i) (part bs i).length (part bs i) = grpS T.gen T.place T.groups bs i := by rw [grpS, hn]
    rw [hsec] at h6 ⊢
    have h6t := h5.upd h6 hc6 (by rw [DS.write_safe])
    have hc26 : Chg (fun b => b ∈ F ∨ b = t) w w6 := by
      refine (hc2.trans0 hc5').trans hc6 ?_
      intro b hb hbF
      rcases hF2 b hbF with h | h
      · exact .inl h
      · omega
    have hF26 : ∀ b ∈ F6, b ∈ F ∨ w.heap.size ≤ b := by
      intro b hb
      rcases hF6 b hb with h | h
      · exact hF2 b h
      · right; have := hc2.size; have := hc5'.size; omega
    have hdrop : G.drop i = grpS T.gen T.place T.groups bs i :: G.drop (i + 1) := by rw [← hG]; exact grp_drop (by rw [hn]; exact hin)
    rw [hdrop, DS.writes] at hw2
    refine condB_ne (fun hne => ?_) (fun he => ?_)
    · rw [if_neg hne] at hw2
      have H6 := (Hp.start w6 (fun b => b = t)).add h6t.at_ (by simp) (fun _ => rfl)
      refine H6.stV 0 rfl (off := 6) (by simp [tapeCells]) fun w7 H7 hc7 => ?_
      rw [hw2, if_neg hne] at k
      refine k w7 F6 (h6t.put rfl (H7.get 0 rfl) hc7 ⟨k1, by rw [DS.write_safe]; simp only; omega, k3, k4, k5⟩) (hc26.trans hc7 fun b _ hb => .inr hb) hF26
    · rw [if_pos he] at hw2
      refine ⟨n - (i + 1), by omega, i + 1, F6, _, by rw [w64_of] <;> omega, by omega, rfl, h6t, by rw [DS.write_safe]; exact hs2, hc26, hF26, hw2, ?_⟩
      have := DS.write_loose D' ((T.lo + T.place + i : Nat) : Int) (grpS T.gen T.place T.groups bs i)
      omega
  · have hin : i = n := by omega
    subst hin
    rw [List.drop_of_length_le (by omega)] at hw2
    simp only [DS.writes] at hw2
    rw [hw2, if_pos rfl] at k
    have H2 := (Hp.start w2 (fun b => b = t)).add h2.at_ (by simp) (fun _ => rfl)
    refine H2.ldI 0 rfl (off := 4) rfl ?_
    refine H2.stV 0 rfl (off := 4) (by simp [tapeCells]) fun w3 H3 hc3 => ?_
    refine H3.ldI 0 rfl (off := 5) rfl ?_
    refine H3.stV 0 rfl (off := 5) (by simp [tapeCells]) fun w4 H4 hc4 => ?_
    have q1 : w64 ((T.place : Int) + (i : Int)) = ((T.place + i : Nat) : Int) := by rw [w64_of] <;> omega
    have q2 : w64 ((T.groups : Int) + 1) = ((T.groups + 1 : Nat) : Int) := by rw [w64_of] <;> omega
    rw [q1] at H4; rw [q2] at H4
    refine k w4 F' (h2.put rfl (H4.get 0 rfl) (hc3.trans hc4 fun _ _ => id) ⟨k1, by simp only; omega, k3, by simp only; omega, by simp only; omega⟩) (hc2.trans (hc3.trans hc4 fun _ _ => id) fun b _ hb => .inr hb) hF2

/-! ## Flush, Groups, Free -/

def tapeFlush (T : TS) (D : DS) : TR := if T.down = true then ⟨T, D, 9⟩ else ⟨{ T with down := decide (D.flush.2 = 9) }, D.flush.1, D.flush.2⟩

theorem TFlush_own {J : Int → World → Prop} (h : TOwn w0 w t T F D)
    (k : ∀ w' F', TOwn w0 w' t (tapeFlush T D).T F' (tapeFlush T D).D → Chg (fun b => b ∈ F ∨ b = t) w w' → (∀ b ∈ F', b ∈ F ∨ w.heap.size ≤ b) → J (tapeFlush T D).e w') :
    callJ Try.prog fn_tape_Tape_Flush #[.pointer (some ⟨t, 0, none⟩)] w [.one (.int .i64)] J := by
  refine c_tape_Tape_Flush ?_
  unfold VC_tape_Tape_Flush
  dsimp only [nonNil]
  simp only [Addr.add_mk, Nat.zero_add]
  refine condB_i (fun hb => by simp at hb) (fun _ => ?_)
  have H0 := (Hp.start w (fun b => b ∈ F ∨ b = t)).add h.at_ (by simp) (fun _ => .inr rfl)
  refine H0.ldB 0 rfl (off := 6) rfl ?_
  unfold tapeFlush at k
  refine condB_i (fun hd => ?_) (fun hd => ?_)
  · rw [if_pos hd] at k
    exact k w F h (Chg.refl _ _) (fun _ => .inl)
  rw [if_neg (by simp [hd])] at k
  refine H0.ldP 0 rfl (off := 0) rfl ?_
  refine Flush_own h.drum fun w2 F2 h2 hc2 hF2 => ?_
  have h2t := h.upd h2 hc2 (DS.flush_len D)
  have H2 := (Hp.start w2 (fun b => b = t)).add h2t.at_ (by simp) (fun _ => rfl)
  refine H2.stV 0 rfl (off := 6) (by simp [tapeCells]) fun w3 H3 hc3 => ?_
  obtain ⟨k1, k2, k3, k4, k5⟩ := h.ok
  have e : (D.flush.2 == 9) = decide (D.flush.2 = 9) := by by_cases h : D.flush.2 = 9 <;> simp [h]
  rw [e] at H3
  exact k w3 F2 (h2t.put rfl (H3.get 0 rfl) hc3 ⟨k1, by rw [DS.flush_len]; exact k2, k3, k4, k5⟩) ((hc2.mono fun _ _ => .inl).trans hc3 fun b _ hb => .inr hb) hF2

theorem TGroups_ok {J : Int → World → Prop} (h : TapeAt w t T) (k : J (T.groups : Int) w) : callJ Try.prog fn_tape_Tape_Groups #[.pointer (some ⟨t, 0, none⟩)] w [.one (.int .i64)] J := by
  refine c_tape_Tape_Groups ?_
  unfold VC_tape_Tape_Groups
  dsimp only [nonNil]
  simp only [Addr.add_mk, Nat.zero_add]
  refine condB_i (fun hb => by simp at hb) (fun _ => ?_)
  have H0 := (Hp.start w (fun b => b = t)).add h (by simp) (fun _ => rfl)
  exact H0.ldI 0 rfl (off := 5) rfl k
theorem TFree_ok {n : Nat} {J : Int → World → Prop} (h : TapeAt w t T) (ho : T.Ok n) (hn : n ≤ 16384) (k : J ((T.hi - T.lo - T.place : Nat) : Int) w.drew) : callJ Try.prog fn_tape_Tape_Free #[.pointer (some ⟨t, 0, none⟩)] w [.one (.int .i64)] J := by
  refine c_tape_Tape_Free ?_
  unfold VC_tape_Tape_Free
  dsimp only [nonNil]
  simp only [Addr.add_mk, Nat.zero_add]
  refine condB_i (fun hb => by simp at hb) (fun _ => ?_)
  have H0 := ((Hp.start w (fun b => b = t)).add h (by simp) (fun _ => rfl)).drew
  refine H0.ldI 0 rfl (off := 2) rfl ?_
  refine H0.ldI 0 rfl (off := 1) rfl ?_
  refine H0.ldI 0 rfl (off := 4) rfl ?_
  obtain ⟨k1, k2, k3, k4, k5⟩ := ho
  have efree : w64 (w64 ((T.hi : Int) - (T.lo : Int)) - (T.place : Int)) = ((T.hi - T.lo - T.place : Nat) : Int) := by
    rw [w64_of (n := (T.hi : Int) - T.lo) (by omega) (by omega), w64_of] <;> omega
  rw [efree]; exact k
end

end Go.Proofs.Ytfhmnodoahcmnaa
