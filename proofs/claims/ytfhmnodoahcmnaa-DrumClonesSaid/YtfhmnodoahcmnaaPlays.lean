/-
  Chapter 13: 'plays': a step of a script, by the drum and by the document's answer.
-/
import Derived.Test.YtfhmnodoahcmnaaAwake13
import Derived.Test.YtfhmnodoahcmnaaRefDrumC
namespace Go.Proofs.Ytfhmnodoahcmnaa
open Go Go.Vc

/-- 'for i := range b { b[i] = v }'. -/
theorem smash {w : World} {p : Option Addr} {l c : Nat} {xs : List Value} {v : Int} {K : World → Prop} (hr : Row w T_uint8 1 p l c xs) (k : ∀ w', Chg (isB p) w w' → K w') :
    ∃ I : Int → World → Nat → Prop, (∃ m : Nat, I (0 : Int) w m) ∧ ∀ (x : Int) (w2 : World) (m : Nat), I x w2 m → (
      condB (decide (x < (l : Int))) (idxA p l x fun a => stV w2 (a.add (x.toNat * 1)) (.int .u8 v) fun w3 => ∃ m' : Nat, m' < m ∧ I (w64 (x + (1 : Int))) w3 m') (K w2)) := by
  have hle := hr.le
  simp only [maxLen] at hle
  refine ⟨fun x w' m => ∃ i : Nat, x = i ∧ i ≤ l ∧ m = l - i ∧ Chg (isB p) w w' ∧ (l ≠ 0 → ∃ b cs, p = some ⟨b, 0, none⟩ ∧ w'.heap[b]? = some (.cells ⟨cs⟩ T_uint8 (0, 0)) ∧ l ≤ cs.length), ⟨_, 0, rfl, Nat.zero_le _, rfl, Chg.refl _ _, fun hl => ?_⟩, ?_⟩
  · obtain ⟨b, rest, hp, hh, h1, h2, h3⟩ := hr.some0 hl
    exact ⟨b, _, hp, hh, by rw [h3]; omega⟩
  · rintro x w2 m ⟨i, rfl, hi, rfl, hc, hb⟩
    refine condB_d (fun hx => ?_) (fun hx => k w2 hc)
    obtain ⟨b, cs, rfl, hh, hl⟩ := hb (by omega)
    refine idxA_i (by omega) (by omega) ?_
    rw [Addr.add_mk, Nat.zero_add, Nat.mul_one, Int.toNat_natCast]
    have H := (Hp.of_chg hc).add hh (by simp) (fun _ => ⟨_, rfl, rfl⟩)
    refine H.stV 0 rfl (off := i) (by omega) fun w3 H3 hc3 => ?_
    refine ⟨l - (i + 1), by omega, i + 1, ?_, by omega, rfl, H3.chg, fun _ => ⟨b, _, rfl, H3.get 0 rfl, by simp; omega⟩⟩
    rw [w64_of] <;> omega

theorem DS.fuseTo_len (D : DS) (n : Int) : (D.fuseTo n).1.safe = D.safe ∧ (D.fuseTo n).1.loose = D.loose := by unfold DS.fuseTo; split <;> exact ⟨rfl, rfl⟩
theorem DS.read_safe (D : DS) (n : Int) : (D.read n).1.safe = D.safe := by
  unfold DS.read; split
  · rfl
  · exact DS.step_safe D
theorem DS.write_safe (D : DS) (n : Int) (p : List UInt8) : (D.write n p).1.safe = D.safe := by
  unfold DS.write; split
  · rfl
  · split
    · rfl
    · simp only; split
      · exact DS.step_safe D
      · exact DS.step_safe D
theorem DS.flush_safe (D : DS) : D.flush.1.safe.length = D.safe.length := by
  unfold DS.flush; simp only; split
  · simp only [DS.stand]; rw [standL_len, DS.step_safe]
  · rw [DS.step_safe]
theorem DS.crash_safe (D : DS) (ks : List Bool) : (D.crash ks).safe.length = D.safe.length := by simp only [DS.crash, DS.stand]; rw [standL_len]

/-- Both, side by side. -/
structure Pair (w0 w : World) (d r : Nat) (F G : List Nat) (D : DS) : Prop where
  own : Own w0 w d F D
  ref : RefAt w r G D
  new : w0.heap.size ≤ r
  newG : ∀ b ∈ G, w0.heap.size ≤ b

section
variable {w0 w w' : World} {d r : Nat} {F F' G G' : List Nat} {D D' : DS} {S : Nat → Prop}

theorem notDrum_ref {e : TypeId} (he : refTyp e) : notDrum e := by
  rcases he with rfl | rfl | rfl
  · exact ⟨by decide, by decide, by decide⟩
  · exact ⟨by decide, by decide, by decide⟩
  · exact ⟨by decide, by decide, by decide⟩
theorem Pair.rF (h : Pair w0 w d r F G D) : r ∉ F := h.own.at_.apart h.ref.typ ⟨by decide, by decide, by decide⟩
theorem Pair.refF (h : Pair w0 w d r F G D) (hc : Chg (· ∈ F) w w') : RefAt w' r G D := h.ref.frameT hc h.rF fun _ _ hb he => h.own.at_.apart hb (notDrum_ref he)
/-- Both changed by their step. -/
theorem Pair.upd (h : Pair w0 w d r F G D) (ho : Own w0 w' d F' D') (hr : RefAt w' r G' D') (hG : ∀ b ∈ G', b ∈ G ∨ w.heap.size ≤ b) : Pair w0 w' d r F' G' D' :=
  ⟨ho, hr, h.new, fun b hb => (hG b hb).elim (h.newG b) fun hs => Nat.le_trans h.own.chg.size hs⟩
theorem Pair.step (h : Pair w0 w d r F G D) (hc : Chg S w w') (h1 : ∀ b ∈ F, ¬ S b) (h2 : ¬ S r) (h3 : ∀ b ∈ G, ¬ S b) (h4 : ∀ b e, typ w b = some e → e = T_sl_uint8 ∨ e = T_ref13_Write → ¬ S b) (h5 : ∀ b, S b → w0.heap.size ≤ b) : Pair w0 w' d r F G D :=
  ⟨h.own.step hc h1 h5, h.ref.frame hc h2 h3 h4, h.new, h.newG⟩
theorem Pair.step0 (h : Pair w0 w d r F G D) (hc : Chg No w w') : Pair w0 w' d r F G D := h.step hc (fun _ _ => id) id (fun _ _ => id) (fun _ _ _ _ => id) (fun _ => False.elim)
theorem Pair.lt (h : Pair w0 w d r F G D) : r < w.heap.size := h.ref.lt

theorem plays_ok {o : OpV} {J : Bool → World → Prop} (h : Pair w0 w d r F G D) (ho : o.Ok w0) (hct : D.loose.length < 1000000000)
    (k : ∀ w' F' G' D', Pair w0 w' d r F' G' D' → Chg (fun b => b ∈ F ∨ b = r) w w' → (∀ b ∈ F', b ∈ F ∨ w.heap.size ≤ b) → (∀ b ∈ G', b ∈ G ∨ w.heap.size ≤ b) → D'.loose.length ≤ D.loose.length + 1 → D'.safe.length = D.safe.length → J true w') :
    callJ Try.prog fn_law13_plays #[.pointer (some ⟨d, 0, none⟩), .pointer (some ⟨r, 0, none⟩), .agg ⟨opCells o⟩] w [.one .bool] J := by
  refine c_law13_plays ?_
  unfold VC_law13_plays
  dsimp only [nonNil]
  simp only [Addr.add_mk, Nat.zero_add]
  refine (Hp.start w No).newB fun b5 w1 H1 hb5 hc1 => ?_
  have h1 := h.step0 hc1
  refine withJ_i fun J0 hJ0 => ?_
  -- behind the step
  have last : ∀ w2 F2 G2 D2, Pair w0 w2 d r F2 G2 D2 → Chg (fun b => b ∈ F ∨ b = r) w w2 → (∀ b ∈ F2, b ∈ F ∨ w.heap.size ≤ b) → (∀ b ∈ G2, b ∈ G ∨ w.heap.size ≤ b) → D2.loose.length ≤ D.loose.length + 1 → D2.safe.length = D.safe.length → J0 w2 := by
    intro w2 F2 G2 D2 h2 hc2 hF2 hG2 hl2 hs2
    subst hJ0
    refine withJ_i fun J6 hJ6 => ?_
    have h2d := h2.step0 ((Chg.refl No w2).drew)
    obtain ⟨v, hv, hh⟩ := id h2d.ref
    have hsl : v.hs.length = D2.safe.length := by rw [← hv.hs, List.length_map]
    have hll : v.ls.length = D2.loose.length := by rw [← hv.ls, List.length_map]
    have cell : ∀ {off : Nat} {x : Value}, (v.cells D2)[off]? = some x → w2.drew.cell? ⟨r, off, none⟩ = some x := fun hx => by
      rw [cell_of_row _ r _ _ _ (0, 0) hh]; simpa using hx
    refine ldS_i (cell rfl) ?_
    refine Loose_ok h2d.own.at_ ⟨cell rfl, ?_⟩
    refine condB_eq (fun _ => ?_) (fun hn => absurd (by rw [hll]) hn)
    refine ldI_i (cell rfl) ?_
    refine Steps_ok h2d.own.at_ ⟨cell rfl, ?_⟩
    refine condB_eq (fun _ => ?_) (fun hn => absurd rfl hn)
    refine ldB_i (cell rfl) ?_
    refine Down_ok h2d.own.at_ ⟨cell rfl, ?_⟩
    refine condB_i (fun _ => ?_) (fun hn => by simp at hn)
    refine ldS_i (cell rfl) ?_
    refine Sectors_ok h2d.own.at_ ⟨cell rfl, ?_⟩
    subst hJ6
    have : ((D2.safe.length : Int) == (v.hs.length : Int)) = true := by rw [hsl]; simp
    rw [this]
    exact k _ F2 G2 D2 h2d (hc2.drew) hF2 hG2 hl2 hs2
  clear hJ0
  have fin : ∀ w2 F2 G2 D2, Pair w0 w2 d r F2 G2 D2 → Chg (fun b => b ∈ F ∨ b = r) w1 w2 → (∀ b ∈ F2, b ∈ F ∨ w1.heap.size ≤ b) → (∀ b ∈ G2, b ∈ G ∨ w1.heap.size ≤ b) → D2.loose.length ≤ D.loose.length + 1 → D2.safe.length = D.safe.length → J0 w2 :=
    fun w2 F2 G2 D2 h2 hc2 hF2 hG2 hl2 hs2 => last w2 F2 G2 D2 h2 (((hc1.mono fun _ _ hf => hf.elim).trans hc2) fun _ _ => id) (fun b hb => (hF2 b hb).imp id fun hs => Nat.le_trans hc1.size hs) (fun b hb => (hG2 b hb).imp id fun hs => Nat.le_trans hc1.size hs) hl2 hs2
  clear last
  have nb5 : b5 ∉ F ∧ ¬ b5 = r := ⟨h1.own.at_.apart (typ_of (H1.get 0 rfl)) ⟨by decide, by decide, by decide⟩, fun he => by have := h.lt; omega⟩
  have op : ∀ {w' : World} {off : Nat} {x : Value}, Chg (fun b => b ∈ F ∨ b = r) w1 w' → (opCells o)[off]? = some x → w'.cell? ⟨b5, off, none⟩ = some x := fun hc hx => by
    rw [cell_of_row _ b5 _ _ _ (0, 0) (hc.heap (H1.get 0 rfl) (fun hf => hf.elim nb5.1 nb5.2))]; simpa [opCells] using hx
  have c11 := Chg.refl (fun b => b ∈ F ∨ b = r) w1
  have cF : ∀ {w2 w3 : World}, Chg (fun b => b ∈ F ∨ b = r) w1 w2 → Chg (· ∈ F) w2 w3 → Chg (fun b => b ∈ F ∨ b = r) w1 w3 := fun a b => a.trans b fun _ _ => .inl
  have cr : ∀ {w2 w3 : World}, Chg (fun b => b ∈ F ∨ b = r) w1 w2 → Chg (fun b => b = r) w2 w3 → Chg (fun b => b ∈ F ∨ b = r) w1 w3 := fun a b => a.trans b fun _ _ => .inr
  have hz1 := h1.own.chg.size
  refine ldI_i (op c11 rfl) ?_
  refine condB_eq (fun _ => ?_) (fun _ => ?_)
  · -- Read
    refine ldI_i (op c11 rfl) ?_
    refine Read_own h1.own fun p2 c2 w2 h2 hr2 hf2 hc2 => ?_
    have e2 := cF c11 hc2
    refine ldI_i (op e2 rfl) ?_
    refine RefRead_ok (h1.refF hc2) fun p3 c3 w3 h3 hr3 hf3 hc3 => ?_
    have e3 := cr e2 hc3
    have tr2 : typ w2 r = some T_ref13_Drum := (h1.refF hc2).typ
    have hr23 := hr2.chg hc3 fun a ha => by
      rintro hb
      have := hr2.typ a ha
      rw [hb, tr2] at this
      exact absurd (Option.some.inj this) (by decide)
    have hrF : r ∉ F := h1.rF
    have o3 : Own w0 w3 d F (D.read o.n).1 := h2.step hc3 (fun b hb he => hrF (he ▸ hb)) (fun b he => by subst he; exact h.new)
    have hp3 : Pair w0 w3 d r F G (D.read o.n).1 := ⟨o3, h3, h.new, h.newG⟩
    refine withJ_i fun J41 hJ41 => ?_
    refine condB_ne (fun hn => absurd rfl hn) fun _ => ?_
    refine Same_ok hr23.bytes hr3.bytes ?_
    rw [decide_eq_true rfl]
    subst hJ41
    refine smash hr23 fun w4 hc4 => ?_
    have old : ∀ b, b < w1.heap.size → ¬ isB p2 b := by rintro b hb ⟨a, ha, rfl⟩; have := hf2 a ha; omega
    have t3 : ∀ b, isB p2 b → typ w3 b = some T_uint8 := by rintro b ⟨a, ha, rfl⟩; exact hr23.typ a ha
    refine fin w4 F G (D.read o.n).1 (hp3.step hc4 (fun b hb => old b (h1.own.lt b hb)) (old r (by have := h.lt; have := hc1.size; omega)) (fun b hb => old b (typ_lt (h1.ref.gt b hb))) (fun b e hb he hi => ?_) (fun b hi => ?_))
      ((e3.trans (S' := fun b => isB p2 b) hc4 fun b hb hi => absurd hi (old b hb))) (fun b => .inl) (fun b => .inl) (by rw [DS.read_loose]; omega) (by rw [DS.read_safe])
    · rw [t3 b hi] at hb
      rcases he with rfl | rfl
      · exact absurd (Option.some.inj hb) (by decide)
      · exact absurd (Option.some.inj hb) (by decide)
    · obtain ⟨a, ha, rfl⟩ := hi; have := hf2 a ha; omega
  refine condB_eq (fun _ => ?_) (fun _ => ?_)
  · -- Write
    refine ldS_i (op c11 rfl) ?_
    refine Spare_ok (ho.p.is.chg h1.own.chg (off_no _)) ho.p.nil ho.p.fits fun p2 c2 w2 hr2 hf2 hc2 => ?_
    have h2 := h1.step0 hc2
    have e2 : Chg (fun b => b ∈ F ∨ b = r) w1 w2 := c11.trans0 hc2
    refine withJ_i fun J75 hJ75 => ?_
    have h2d := h2.step0 ((Chg.refl No w2).drew)
    have e2d := e2.drew
    refine ldI_i (op e2d rfl) ?_
    refine ldI_i (op e2d rfl) ?_
    refine ldS_i (op e2d rfl) ?_
    have hr2d : Row w2.drew T_uint8 1 p2 (o.p.l + 1) c2 (bcells (o.p.bs ++ [165])) := hr2.chg ((Chg.refl No w2).drew) (off_no _)
    have hpl := ho.p.is.len
    have pre : ∀ {w' : World}, Row w' T_uint8 1 p2 (o.p.l + 1) c2 (bcells (o.p.bs ++ [165])) → Bytes w' p2 o.p.l o.p.bs := fun hrow => by
      obtain ⟨a, hpa, hcs⟩ := hrow.sl.at (by omega)
      refine ⟨by simp [bcells, hpl], .inr ⟨a, hpa, ?_⟩⟩
      have := cellsAt_take o.p.l hcs
      have e : (bcells (o.p.bs ++ [165])).take o.p.l = bcells o.p.bs := by
        rw [show bcells (o.p.bs ++ [165]) = bcells o.p.bs ++ [Value.int .u8 165] from by simp [bcells]]
        exact List.take_left' (by simp [bcells, hpl])
      rwa [e] at this
    refine Write_own h2d.own (pre hr2d) (fun hp => by have := hr2d.none0 hp; omega) (h2d.own.at_.rowOff hr2d nd_u8) hct fun w3 F3 h3 hc3 hF3 => ?_
    have e3 := cF e2d hc3
    refine ⟨op e3 rfl, op e3 rfl, ?_⟩
    have href3 := h2d.refF hc3
    have hr3' := hr2d.chg hc3 (h2d.own.at_.rowOff hr2d nd_u8)
    refine Twin_ok (ho.p.is.chg h3.chg (off_no _)) ho.p.nil ho.p.fits fun p4 c4 w4 hr4 hf4 hc4 => ?_
    have e4 := e3.trans0 hc4
    refine ⟨op e4 rfl, ?_⟩
    have href4 := href3.step0 hc4
    have offr : ∀ {w' : World} {p : Option Addr} {l c : Nat} {xs : List Value}, typ w' r = some T_ref13_Drum → Row w' T_uint8 1 p l c xs → off p (fun b => b = r) := fun ht hrow a ha hb => by
      have := hrow.typ a ha
      rw [hb, ht] at this
      exact absurd (Option.some.inj this) (by decide)
    refine RefWrite_ok href4 hr4.bytes (offr href4.typ hr4) hct fun w5 G5 h5 hc5 hG5 => ?_
    have e5 := cr e4 hc5
    have h4o := h3.step0 hc4
    have hrF3 : r ∉ F3 := h4o.at_.apart href4.typ ⟨by decide, by decide, by decide⟩
    have o5 : Own w0 w5 d F3 (D.write o.n o.p.bs).1 := h4o.step hc5 (fun b hb he => hrF3 (he ▸ hb)) (fun b he => by subst he; exact h.new)
    have hr5 := (hr3'.chg hc4 (off_no _)).chg hc5 (offr href4.typ (hr3'.chg hc4 (off_no _)))
    refine condB_ne (fun hn => absurd rfl hn) fun _ => ?_
    refine ldS_i (op e5 rfl) ?_
    refine Kept_ok hr5 (ho.p.is.chg o5.chg (off_no _)) hpl ?_
    rw [decide_eq_true rfl]
    subst hJ75
    have hr5l : Row w5 T_uint8 1 p2 (o.p.l + 1) c2 (bcells (o.p.bs ++ [165])) := hr5
    have hsm : Row w5 T_uint8 1 p2 o.p.l c2 (bcells o.p.bs) := by
      obtain ⟨b, rest, hp, hh, g1, g2, g3⟩ := hr5l.some0 (by omega)
      refine ⟨by simp [bcells, hpl], .inr ⟨b, Value.int .u8 165 :: rest, hp, ?_, by omega, g2, ?_⟩⟩
      · rw [hh]; simp [bcells]
      · rw [← g3]; simp [bcells]
    refine smash hsm fun w6 hc6 => ?_
    have old : ∀ b, b < w1.heap.size → ¬ isB p2 b := by rintro b hb ⟨a, ha, rfl⟩; have := hf2 a ha; omega
    have lt2 : ∀ b, isB p2 b → b < w2.heap.size := by rintro b ⟨a, ha, rfl⟩; exact hr2.lt a ha
    have z2 : w2.drew.heap.size = w2.heap.size := rfl
    have t5 : ∀ b, isB p2 b → typ w5 b = some T_uint8 := by rintro b ⟨a, ha, rfl⟩; exact hr5.typ a ha
    have hp5 : Pair w0 w5 d r F3 G5 (D.write o.n o.p.bs).1 := ⟨o5, h5, h.new, fun b hb => (hG5 b hb).elim (h.newG b) fun hs => Nat.le_trans (Nat.le_trans h3.chg.size hc4.size) hs⟩
    have hz4 := hc4.size
    have hz3 := hc3.size
    refine fin w6 F3 G5 _ (hp5.step hc6 (fun b hb hi => ?_) (old r (by have := h.lt; have := hc1.size; omega)) (fun b hb hi => ?_) (fun b e hb he hi => ?_) (fun b hi => ?_))
      ((e5.trans (S' := fun b => isB p2 b) hc6 fun b hb hi => absurd hi (old b hb))) ?_ ?_ (by have := DS.write_loose D o.n o.p.bs; omega) (by rw [DS.write_safe])
    · have hb5' := o5.at_.apart (t5 b hi) nd_u8
      exact hb5' hb
    · rcases hG5 b hb with hg | hg
      · exact old b (typ_lt (h1.ref.gt b hg)) hi
      · have := lt2 b hi; omega
    · rw [t5 b hi] at hb
      rcases he with rfl | rfl
      · exact absurd (Option.some.inj hb) (by decide)
      · exact absurd (Option.some.inj hb) (by decide)
    · obtain ⟨a, ha, rfl⟩ := hi; have := hf2 a ha; omega
    · intro b hb
      exact (hF3 b hb).imp id fun hs => by have := hc2.size; omega
    · intro b hb
      exact (hG5 b hb).imp id fun hs => by have := hc2.size; omega
  refine condB_eq (fun _ => ?_) (fun _ => ?_)
  · -- Flush
    refine Flush_own h1.own fun w2 F2 h2 hc2 hF2 => ?_
    have href2 := h1.refF hc2
    refine RefFlush_ok href2 fun w3 h3 hc3 => ?_
    refine condB_ne (fun hn => absurd rfl hn) fun _ => ?_
    have hrF2 : r ∉ F2 := h2.at_.apart href2.typ ⟨by decide, by decide, by decide⟩
    have o3 := h2.step hc3 (fun b hb he => hrF2 (he ▸ hb)) (fun b he => by subst he; exact h.new)
    exact fin w3 F2 G _ ⟨o3, h3, h.new, h.newG⟩ (cr (cF c11 hc2) hc3) hF2 (fun _ => .inl) (by have := DS.flush_loose D; omega) (DS.flush_safe D)
  refine condB_eq (fun _ => ?_) (fun _ => ?_)
  · -- Fuse
    refine ldI_i (op c11 rfl) ?_
    refine Fuse_own h1.own ho.n fun w2 h2 hc2 => ?_
    have e2 := cF c11 hc2
    have href2 := h1.refF hc2
    refine withJ_i fun J112 hJ112 => ?_
    refine ldI_i (op e2 rfl) ?_
    by_cases hn : o.n < 0
    · have e : D.fuseTo o.n = (D, 1) := by unfold DS.fuseTo; rw [if_pos hn]
      rw [e] at h2 ⊢
      refine condB_i (fun hb => by simp [hn] at hb) (fun _ => ?_)
      refine ldI_i (op e2 rfl) ?_
      refine condB_d (fun hb => absurd hb (by omega)) fun _ => ?_
      subst hJ112
      refine condB_i (fun hb => by cases hb) (fun _ => ?_)
      refine ldI_i (op e2 rfl) ?_
      refine condB_d (fun hb => absurd hb (by omega)) fun _ => ?_
      exact fin w2 F G _ ⟨h2, href2, h.new, h.newG⟩ e2 (fun _ => .inl) (fun _ => .inl) (by simp) rfl
    · have e : D.fuseTo o.n = ({ D with fuse := o.n }, 0) := by unfold DS.fuseTo; rw [if_neg hn]
      rw [e] at h2 ⊢
      refine condB_i (fun hb => by simp [hn] at hb) (fun _ => ?_)
      refine ldI_i (op e2 rfl) ?_
      refine condB_d (fun _ => ?_) fun hb => absurd (by omega) hb
      subst hJ112
      refine condB_ne (fun hb => absurd rfl hb) (fun _ => ?_)
      refine ldI_i (op e2 rfl) ?_
      refine condB_d (fun _ => ?_) fun hb => absurd (by omega) hb
      refine ldI_i (op e2 rfl) ?_
      obtain ⟨v, hv, hh⟩ := id href2
      have H := (Hp.start w2 (fun b => b = r)).add hh (by simp) (fun _ => rfl)
      refine H.stV 0 rfl (off := 3) (by simp [RV.cells]) fun w3 H3 hc3 => ?_
      have ok := hv.ok
      have h3 : RefAt w3 r G { D with fuse := o.n } := RefAt.own hv href2.typ hc3 (by
        have := H3.get 0 rfl
        simp only [RV.cells, List.set_cons_succ, List.set_cons_zero] at this ⊢
        rw [this]) ⟨ok.pos, ok.max, ok.safe, ok.loose, ok.count, ho.n⟩ rfl rfl
      have hrF := h1.rF
      have o3 := h2.step hc3 (fun b hb he => hrF (he ▸ hb)) (fun b he => by subst he; exact h.new)
      exact fin w3 F G _ ⟨o3, h3, h.new, h.newG⟩ (cr e2 hc3) (fun _ => .inl) (fun _ => .inl) (by simp) rfl
  refine condB_eq (fun _ => ?_) (fun _ => ?_)
  · -- Crash
    refine newRow (sz := 1) (n := 0) rfl (by decide) fun b2 w2 hr2 hb2 hc2 => ?_
    have h2 := h1.step0 hc2
    have e2 : Chg (fun b => b ∈ F ∨ b = r) w1 w2 := c11.trans0 hc2
    refine ldS_i (op e2 rfl) ?_
    refine appJ_row slT_bool hr2 (ho.keep.is.chg h2.own.chg (off_no _)) (one1_bools _) ho.keep.nil (by have := ho.keep.fits; omega) (by have := ho.keep.cap; have := ho.keep.max; omega) fun p3 c3 w3 hr3 hc3 hf3 => ?_
    rw [List.nil_append, Nat.zero_add] at hr3
    rw [Nat.zero_add]
    have t2 := hr2.typ _ rfl
    have hb : ∀ b, isB (some (⟨b2, 0, none⟩ : Addr)) b → b = b2 := by rintro b ⟨a, ha, rfl⟩; cases ha; rfl
    have hn2 : ∀ b, b < w1.heap.size → ¬ isB (some (⟨b2, 0, none⟩ : Addr)) b := fun b hlt hi => by have := hb b hi; omega
    have h3 : Pair w0 w3 d r F G D := h2.step hc3 (fun b hbF => hn2 b (h1.own.lt b hbF)) (hn2 r (by have := h.lt; have := hc1.size; omega)) (fun b hg => hn2 b (typ_lt (h1.ref.gt b hg))) (fun b e hbe he hi => by
      rw [hb b hi, t2] at hbe
      rcases he with rfl | rfl
      · exact absurd (Option.some.inj hbe) (by decide)
      · exact absurd (Option.some.inj hbe) (by decide)) (fun b hi => by have := hb b hi; omega)
    have e3 : Chg (fun b => b ∈ F ∨ b = r) w1 w3 := e2.trans hc3 fun b hlt hi => absurd hi (hn2 b hlt)
    refine Crash_own h3.own hr3.sl (h3.own.at_.rowOff hr3 ⟨by decide, by decide, by decide⟩) fun w4 F4 h4 hc4 hF4 => ?_
    have e4 := cF e3 hc4
    refine condB_ne (fun hn => absurd rfl hn) fun _ => ?_
    refine ldS_i (op e4 rfl) ?_
    have href4 := h3.refF hc4
    refine RefCrash_ok href4 (ho.keep.is.chg h4.chg (off_no _)) fun w5 h5 hc5 => ?_
    have hrF4 : r ∉ F4 := h4.at_.apart href4.typ ⟨by decide, by decide, by decide⟩
    have o5 := h4.step hc5 (fun b hb he => hrF4 (he ▸ hb)) (fun b he => by subst he; exact h.new)
    exact fin w5 F4 G _ ⟨o5, h5, h.new, h.newG⟩ (cr e4 hc5) (fun b hb => (hF4 b hb).imp id fun hs => by have := e3.size; omega) (fun _ => .inl) (by simp [DS.crash, DS.stand]) (DS.crash_safe D _)
  · exact fin w1 F G D h1 c11 (fun _ => .inl) (fun _ => .inl) (by simp) rfl
end

end Go.Proofs.Ytfhmnodoahcmnaa
