/-
  Chapter 13: 'DrumPlays', 'DrumClones'.
-/
import Derived.Test.YtfhmnodoahcmnaaPlays
namespace Go.Proofs.Ytfhmnodoahcmnaa
open Go Go.Vc

def opLit (kind n : Int) : OpV := ⟨kind, n, ⟨none, 0, 0, []⟩, ⟨none, 0, 0, []⟩⟩
theorem opLit_ok {w : World} {kind n : Int} (hk : InI kind) (hn : InI n) : (opLit kind n).Ok w :=
  ⟨hk, hn, ⟨Bytes.nil _ _, fun _ => rfl, Nat.zero_le _, Nat.le_refl _, Nat.zero_le _⟩, ⟨Sl.nil _ _ _, rfl, fun _ => rfl, Nat.le_refl _, Nat.zero_le _, by simp [opLit], by intro x hx; simp [opLit] at hx, by simp⟩⟩

/-- New, both of them. -/
theorem RV.Ok.pair {w0 w w' : World} {d r : Nat} {F G : List Nat} {D : DS} (ho : Own w0 w' d F D) (hr : RefAt w' r G D) (hc : Chg No w0 w) (h1 : w.heap.size ≤ r) (h2 : ∀ b ∈ G, w.heap.size ≤ b) : Pair w0 w' d r F G D :=
  ⟨ho, hr, Nat.le_trans hc.size h1, fun b hb => Nat.le_trans hc.size (h2 b hb)⟩

set_option maxRecDepth 20000 in
theorem DrumPlays_ok {w : World} {n : Int} {ops : SlV OpV} (_ : InI n) (hops : OpsOk w ops) :
    callJ Try.prog fn_law13_DrumPlays #[.int .i64 n, .slice ops.p ops.l ops.c] w [.one .bool] fun r w' => r = true ∧ Chg No w w' := by
  refine c_law13_DrumPlays ?_
  unfold VC_law13_DrumPlays
  refine awake_ok fun w1 hc1 => ?_
  refine condB_i (fun h => by simp at h) fun _ => ?_
  by_cases hbad : n < 1 ∨ 16384 < n
  · refine New_bad hbad ?_
    refine withJ_i fun J23 hJ23 => ?_
    have go : J23 true w1 := by
      subst hJ23
      refine condB_i (fun _ => ?_) (fun h => by cases h)
      refine withJ_i fun J4 hJ4 => ?_
      subst hJ4
      exact ⟨rfl, hc1⟩
    refine condB_d (fun _ => go) (fun h => ?_)
    rw [decide_eq_true (show n > 16384 by omega)]
    exact go
  have hn1 : 1 ≤ n := by omega
  have hn2 : n ≤ 16384 := by omega
  refine New_own hn1 hn2 hc1 fun w2 d F h2 hc2 hf2 => ?_
  refine withJ_i fun J23 hJ23 => ?_
  refine condB_d (fun h => absurd h (by omega)) fun _ => ?_
  rw [decide_eq_false (show ¬ n > 16384 by omega)]
  subst hJ23
  refine condB_i (fun h => by cases h) fun _ => ?_
  have hlen : (DS.new n.toNat).safe.length = n.toNat := by simp [DS.new]
  refine condB_d (fun h200 => ?_) (fun h200 => ?_)
  · refine withJ_i fun J4 hJ4 => ?_
    refine condB_i (fun _ => ?_) (fun h => by simp at h)
    refine condB_eq (fun _ => ?_) (fun h => absurd rfl h)
    refine Sectors_ok h2.at_ ?_
    rw [hlen]
    have : (((n.toNat : Nat) : Int) == n) = true := by simp; omega
    rw [this]
    subst hJ4
    exact ⟨rfl, h2.chg⟩
  refine withJ_i fun J49 hJ49 => ?_
  subst hJ49
  refine condB_i (fun h => by simp at h) fun _ => condB_i (fun h => by simp at h) fun _ => ?_
  refine RefNew_ok hn1 hn2 fun v G w3 hv3 hc3 hG => ?_
  refine refBlock hv3 fun r w4 hr4 hb4 hc4 => ?_
  have hc24 : Chg No w2 w4 := hc3.trans0 hc4
  have p4 : Pair w w4 d r F G (DS.new n.toNat) := ⟨h2.step0 hc24, hr4, by have := h2.chg.size; have := hc3.size; omega, fun b hb => Nat.le_trans h2.chg.size (hG b hb)⟩
  have hmx := hops.max
  have hcap := hops.cap
  simp only [maxLen] at hmx
  refine ⟨fun x w' m => ∃ (i : Nat) (F' G' : List Nat) (D' : DS), x = i ∧ i ≤ ops.l ∧ m = ops.l - i ∧ Pair w w' d r F' G' D' ∧ D'.loose.length ≤ min i 400 ∧ D'.safe.length = n.toNat,
    ⟨_, 0, F, G, _, rfl, Nat.zero_le _, rfl, p4, by simp [DS.new], hlen⟩, ?_⟩
  rintro x w5 m ⟨i, F5, G5, D5, rfl, hi, rfl, p5, hl5, hs5⟩
  refine condB_d (fun hb => ?_) (fun hb => ?_)
  · refine pickOp hops p5.own.chg (by omega) (by omega) fun o b w6 ho hok H6 hb6 hc6 => ?_
    have p6 := p5.step0 hc6
    refine withJ_i fun J66 hJ66 => ?_
    have next : ∀ w' F' G' D', Pair w w' d r F' G' D' → D'.loose.length ≤ min (i + 1) 400 → D'.safe.length = n.toNat → J66 false w' := by
      intro w' F' G' D' p' hl' hs'
      subst hJ66
      refine condB_i (fun h => by cases h) fun _ => ?_
      refine ⟨ops.l - (i + 1), by omega, i + 1, F', G', D', ?_, by omega, rfl, p', hl', hs'⟩
      rw [w64_of] <;> omega
    clear hJ66
    refine condB_d (fun hx => ?_) (fun hx => next _ _ _ _ p6 (by omega) hs5)
    refine H6.ldI 0 rfl (off := 0) rfl ?_
    refine H6.ldI 0 rfl (off := 1) rfl ?_
    refine H6.ldS 0 rfl (off := 2) rfl ?_
    refine H6.ldS 0 rfl (off := 3) rfl ?_
    refine plays_ok (o := o) p6 hok (by omega) fun w7 F7 G7 D7 p7 _ _ _ hl7 hs7 => ?_
    exact next _ _ _ _ p7 (by omega) (by omega)
  · refine plays_ok (o := opLit 4 0) p5 (opLit_ok (by constructor <;> decide) (by constructor <;> decide)) (by omega) fun w6 F6 G6 D6 p6 _ _ _ hl6 hs6 => ?_
    refine condB_i (fun h => by cases h) fun _ => ?_
    refine ⟨fun x w' m => ∃ (i : Nat) (F' G' : List Nat) (D' : DS), x = i ∧ i ≤ n.toNat ∧ m = n.toNat - i ∧ Pair w w' d r F' G' D' ∧ D'.loose.length ≤ 401 + i,
      ⟨_, 0, F6, G6, D6, rfl, Nat.zero_le _, rfl, p6, by omega⟩, ?_⟩
    rintro x w7 m ⟨j, F7, G7, D7, rfl, hj, rfl, p7, hl7⟩
    refine condB_d (fun hb2 => ?_) (fun hb2 => ⟨rfl, p7.own.chg⟩)
    refine plays_ok (o := opLit 0 j) p7 (opLit_ok (by constructor <;> decide) (by constructor <;> omega)) (by omega) fun w8 F8 G8 D8 p8 _ _ _ hl8 hs8 => ?_
    refine condB_i (fun h => by cases h) fun _ => ?_
    refine ⟨n.toNat - (j + 1), by omega, j + 1, F8, G8, D8, ?_, by omega, rfl, p8, by omega⟩
    rw [w64_of] <;> omega

/-- A step of a script that lies in the argument itself. -/
theorem readOp {w w' : World} {s : SlV OpV} (hs : OpsOk w s) (hc : Chg No w w') {i : Int} (h0 : 0 ≤ i) (h1 : i < s.l) {K : Int → Int → Option Addr → Nat → Nat → Option Addr → Nat → Nat → Prop}
    (k : ∀ o, s.xs[i.toNat]? = some o → o.Ok w → K o.kind o.n o.p.p o.p.l o.p.c o.keep.p o.keep.l o.keep.c) :
    idxA s.p s.l i fun a => ldI .i64 w' (a.add (i.toNat * 4)) fun x0 => ldI .i64 w' ((a.add (i.toNat * 4)).add 1) fun x1 => ldS w' ((a.add (i.toNat * 4)).add 2) fun p l c =>
      ldS w' ((a.add (i.toNat * 4)).add 3) fun q m d => K x0 x1 p l c q m d := by
  refine idx_rows (hs.sl.chg hc (off_no _)) hs.even (by decide) h0 h1 fun a o _ ho hcells => ?_
  refine ldI_i (n := o.kind) (by have := hcells 0 _ rfl; rwa [add_zero'] at this) ?_
  refine ldI_i (n := o.n) (hcells 1 _ rfl) ?_
  refine ldS_i (p := o.p.p) (l := o.p.l) (c := o.p.c) (hcells 2 _ rfl) ?_
  refine ldS_i (p := o.keep.p) (l := o.keep.l) (c := o.keep.c) (hcells 3 _ rfl) ?_
  exact k o ho (hs.all o (List.mem_of_getElem? ho))

/-- Two pairs that share no block but the bytes of the document's answers. -/
structure Two (w0 w : World) (d r c s : Nat) (F G F2 G2 : List Nat) (D D2 : DS) : Prop where
  a : Pair w0 w d r F G D
  b : Pair w0 w c s F2 G2 D2
  ff : ∀ x ∈ F, x ∉ F2
  rs : r ≠ s

section
variable {w0 w w' : World} {d r c s : Nat} {F G F2 G2 F' G' : List Nat} {D D2 D' : DS}

theorem Two.swap (h : Two w0 w d r c s F G F2 G2 D D2) : Two w0 w c s d r F2 G2 F G D2 D := ⟨h.b, h.a, fun x hx hf => h.ff x hf hx, Ne.symm h.rs⟩
theorem Two.sF (h : Two w0 w d r c s F G F2 G2 D D2) : s ∉ F := h.a.own.at_.apart h.b.ref.typ ⟨by decide, by decide, by decide⟩
/-- The first pair took a step. -/
theorem Two.upd (h : Two w0 w d r c s F G F2 G2 D D2) (p : Pair w0 w' d r F' G' D') (hc : Chg (fun b => b ∈ F ∨ b = r) w w') (hF : ∀ b ∈ F', b ∈ F ∨ w.heap.size ≤ b) : Two w0 w' d r c s F' G' F2 G2 D' D2 := by
  have hap : ∀ {b : Nat} {e : TypeId}, typ w b = some e → refTyp e → ¬ (b ∈ F ∨ b = r) := fun hb he hf => hf.elim (h.a.own.at_.apart hb (notDrum_ref he)) (ref_apart h.a.ref.typ hb he)
  refine ⟨p, h.b.step hc (fun b hb hf => ?_) (fun hf => ?_) (fun b hb => hap (h.b.ref.gt b hb) (.inl rfl)) (fun b e hb he => hap hb (.inr he)) (fun b hf => ?_), fun x hx hf2 => ?_, h.rs⟩
  · rcases hf with hf | rfl
    · exact h.ff b hf hb
    · exact h.swap.sF hb
  · rcases hf with hf | rfl
    · exact h.sF hf
    · exact h.rs rfl
  · rcases hf with hf | rfl
    · exact h.a.own.new b hf
    · exact h.a.new
  · rcases hF x hx with hx | hx
    · exact h.ff x hx hf2
    · have := h.b.own.lt x hf2; omega
theorem Two.step0 (h : Two w0 w d r c s F G F2 G2 D D2) (hc : Chg No w w') : Two w0 w' d r c s F G F2 G2 D D2 := ⟨h.a.step0 hc, h.b.step0 hc, h.ff, h.rs⟩
theorem Two.plays {o : OpV} {J : Bool → World → Prop} (h : Two w0 w d r c s F G F2 G2 D D2) (ho : o.Ok w0) (hct : D.loose.length < 1000000000)
    (k : ∀ w' F' G' D', Two w0 w' d r c s F' G' F2 G2 D' D2 → D'.loose.length ≤ D.loose.length + 1 → J true w') :
    callJ Try.prog fn_law13_plays #[.pointer (some ⟨d, 0, none⟩), .pointer (some ⟨r, 0, none⟩), .agg ⟨opCells o⟩] w [.one .bool] J :=
  plays_ok h.a ho hct fun w' F' G' D' p hc hF _ hl _ => k w' F' G' D' (h.upd p hc hF) hl
end

set_option maxRecDepth 20000 in
theorem DrumClones_ok {w : World} {ops more other : SlV OpV} (hops : OpsOk w ops) (hmore : OpsOk w more) (hother : OpsOk w other) :
    callJ Try.prog fn_law13_DrumClones #[.slice ops.p ops.l ops.c, .slice more.p more.l more.c, .slice other.p other.l other.c] w [.one .bool] fun r w' => r = true ∧ Chg No w w' := by
  refine c_law13_DrumClones ?_
  unfold VC_law13_DrumClones
  refine awake_ok fun w1 hc1 => ?_
  refine condB_i (fun h => by simp at h) fun _ => ?_
  refine New_own (by decide) (by decide) hc1 fun w2 d F h2 hc2 hf2 => ?_
  refine withJ_i fun J27 hJ27 => ?_
  subst hJ27
  refine condB_i (fun h => by simp at h) fun _ => condB_i (fun h => by simp at h) fun _ => ?_
  refine RefNew_ok (by decide) (by decide) fun v G w3 hv3 hc3 hG => ?_
  refine refBlock hv3 fun r w4 hr4 hb4 hc4 => ?_
  have hc24 : Chg No w2 w4 := hc3.trans0 hc4
  rw [show (6 : Int).toNat = 6 from rfl] at *
  have p4 : Pair w w4 d r F G (DS.new 6) := ⟨h2.step0 hc24, hr4, by have := h2.chg.size; have := hc3.size; omega, fun b hb => Nat.le_trans h2.chg.size (hG b hb)⟩
  have hmx := hops.max
  have hcap := hops.cap
  have hmx2 := hmore.max
  have hcap2 := hmore.cap
  have hmx3 := hother.max
  have hcap3 := hother.cap
  simp only [maxLen] at hmx hmx2 hmx3
  refine ⟨fun x w' m => ∃ (i : Nat) (F' G' : List Nat) (D' : DS), x = i ∧ i ≤ ops.l ∧ m = ops.l - i ∧ Pair w w' d r F' G' D' ∧ D'.loose.length ≤ min i 100,
    ⟨_, 0, F, G, _, rfl, Nat.zero_le _, rfl, p4, by simp [DS.new]⟩, ?_⟩
  rintro x w5 m ⟨i, F5, G5, D5, rfl, hi, rfl, p5, hl5⟩
  refine condB_d (fun hb => ?_) (fun hb => ?_)
  · refine pickOp hops p5.own.chg (by omega) (by omega) fun o b w6 ho hok H6 hb6 hc6 => ?_
    have p6 := p5.step0 hc6
    refine withJ_i fun J66 hJ66 => ?_
    have next : ∀ w' F' G' D', Pair w w' d r F' G' D' → D'.loose.length ≤ min (i + 1) 100 → J66 false w' := by
      intro w' F' G' D' p' hl'
      subst hJ66
      refine condB_i (fun h => by cases h) fun _ => ?_
      refine ⟨ops.l - (i + 1), by omega, i + 1, F', G', D', ?_, by omega, rfl, p', hl'⟩
      rw [w64_of] <;> omega
    clear hJ66
    refine condB_d (fun hx => ?_) (fun hx => next _ _ _ _ p6 (by omega))
    refine H6.ldI 0 rfl (off := 0) rfl ?_
    refine H6.ldI 0 rfl (off := 1) rfl ?_
    refine H6.ldS 0 rfl (off := 2) rfl ?_
    refine H6.ldS 0 rfl (off := 3) rfl ?_
    refine plays_ok (o := o) p6 hok (by omega) fun w7 F7 G7 D7 p7 _ _ _ hl7 hs7 => ?_
    exact next _ _ _ _ p7 (by omega)
  refine Clone_ok p5.own.at_ fun w6 c F6 h6 hc6 hF6 => ?_
  refine condB_i (fun h => by simp at h) fun _ => ?_
  have p6 := p5.step0 hc6
  refine RefTwin_ok p6.ref fun v7 w7 hv7 hc7 => ?_
  refine refBlock hv7 fun s w8 hs8 hb8 hc8 => ?_
  have hc68 : Chg No w6 w8 := hc7.trans0 hc8
  have t8 : Two w w8 d r c s F5 G5 F6 G5 D5 D5 := by
    have z5 := p5.own.chg.size
    have z6 := hc6.size
    have z7 := hc7.size
    refine ⟨p6.step0 hc68, ⟨⟨h6.frame hc68 (fun _ _ => id), (p6.step0 hc68).own.chg, fun b hb => Nat.le_trans z5 (hF6 b hb)⟩, hs8, by omega, p5.newG⟩, fun x hx hf => ?_, fun he => ?_⟩
    · have := p5.own.lt x hx; have := hF6 x hf; omega
    · have := p5.lt; omega
  refine withJ_i fun J0 hJ0 => ?_
  have last : ∀ w' F' G' D' F2 G2 D2, Two w w' d r c s F' G' F2 G2 D' D2 → D'.loose.length ≤ 300 → D2.loose.length ≤ 300 → J0 w' := by
    intro w' F' G' D' F2 G2 D2 t hl hl2
    subst hJ0
    refine ⟨fun x w' m => ∃ (i : Nat) (F' G' : List Nat) (D' : DS) (F2 G2 : List Nat) (D2 : DS), x = i ∧ i ≤ 6 ∧ m = 6 - i ∧ Two w w' d r c s F' G' F2 G2 D' D2 ∧ D'.loose.length ≤ 300 + 2 * i ∧ D2.loose.length ≤ 300 + 2 * i,
      ⟨_, 0, F', G', D', F2, G2, D2, rfl, by decide, rfl, t, hl, hl2⟩, ?_⟩
    rintro x w9 m ⟨j, F9, G9, D9, F10, G10, D10, rfl, hj, rfl, t9, hl9, hl10⟩
    refine condB_d (fun hb2 => ?_) (fun hb2 => ⟨rfl, t9.a.own.chg⟩)
    refine withJ_i fun J115 hJ115 => ?_
    have ok4 : (opLit 4 0).Ok w := opLit_ok (by constructor <;> decide) (by constructor <;> decide)
    have ok0 : (opLit 0 j).Ok w := opLit_ok (by constructor <;> decide) (by constructor <;> omega)
    refine Two.plays (o := opLit 4 0) t9 ok4 (by omega) fun wa Fa Ga Da ta la => ?_
    refine condB_i (fun h => by cases h) fun _ => ?_
    refine Two.plays (o := opLit 0 j) ta ok0 (by omega) fun wb Fb Gb Db tb lb => ?_
    refine condB_i (fun h => by cases h) fun _ => ?_
    refine Two.plays (o := opLit 4 0) tb.swap ok4 (by omega) fun wc Fc Gc Dc tc lc => ?_
    refine condB_i (fun h => by cases h) fun _ => ?_
    refine Two.plays (o := opLit 0 j) tc ok0 (by omega) fun we Fe Ge De te le => ?_
    subst hJ115
    refine condB_i (fun h => by cases h) fun _ => ?_
    refine ⟨6 - (j + 1), by omega, j + 1, Fb, Gb, Db, Fe, Ge, De, ?_, by omega, rfl, te.swap, by omega, by omega⟩
    rw [w64_of] <;> omega
  clear hJ0
  have e0 : (if (other.l : Int) > (more.l : Int) then (other.l : Int) else (more.l : Int)) = ((max more.l other.l : Nat) : Int) := by split <;> omega
  rw [e0]
  refine ⟨fun x w' m => ∃ (i : Nat) (F' G' : List Nat) (D' : DS) (F2 G2 : List Nat) (D2 : DS), x = i ∧ i ≤ max more.l other.l ∧ m = max more.l other.l - i ∧ i ≤ 100 ∧ Two w w' d r c s F' G' F2 G2 D' D2 ∧ D'.loose.length ≤ 100 + i ∧ D2.loose.length ≤ 100 + i,
    ⟨_, 0, F5, G5, D5, F6, G5, D5, rfl, Nat.zero_le _, rfl, by decide, t8, by omega, by omega⟩, ?_⟩
  rintro x w9 m ⟨j, F9, G9, D9, F10, G10, D10, rfl, hj, rfl, hj2, t9, hl9, hl10⟩
  refine condB_d (fun hb => ?_) (fun hb => last _ _ _ _ _ _ _ t9 (by omega) (by omega))
  refine condB_d (fun hx => last _ _ _ _ _ _ _ t9 (by omega) (by omega)) (fun hx => ?_)
  refine withJ_i fun J87 hJ87 => ?_
  have next : ∀ w' F' G' D' F2 G2 D2, Two w w' d r c s F' G' F2 G2 D' D2 → D'.loose.length ≤ 100 + (j + 1) → D2.loose.length ≤ 100 + (j + 1) → J87 false w' := by
    intro w' F' G' D' F2 G2 D2 t hl hl2
    subst hJ87
    refine condB_i (fun h => by cases h) fun _ => ?_
    refine ⟨max more.l other.l - (j + 1), by omega, j + 1, F', G', D', F2, G2, D2, ?_, by omega, rfl, by omega, t, hl, hl2⟩
    rw [w64_of] <;> omega
  clear hJ87
  refine condB_d (fun hm => ?_) (fun hm => ?_)
  · refine readOp hmore t9.a.own.chg (by omega) (by omega) fun o ho hok => ?_
    refine Two.plays (o := o) t9 hok (by omega) fun wa Fa Ga Da ta la => ?_
    refine condB_i (fun h => by cases h) fun _ => ?_
    refine condB_d (fun ho => ?_) (fun ho => next _ _ _ _ _ _ _ ta (by omega) (by omega))
    refine readOp hother ta.a.own.chg (by omega) (by omega) fun o2 ho2 hok2 => ?_
    refine Two.plays (o := o2) ta.swap hok2 (by omega) fun wb Fb Gb Db tb lb => ?_
    exact next _ _ _ _ _ _ _ tb.swap (by omega) (by omega)
  · refine condB_d (fun ho => ?_) (fun ho => next _ _ _ _ _ _ _ t9 (by omega) (by omega))
    refine readOp hother t9.a.own.chg (by omega) (by omega) fun o2 ho2 hok2 => ?_
    refine Two.plays (o := o2) t9.swap hok2 (by omega) fun wb Fb Gb Db tb lb => ?_
    exact next _ _ _ _ _ _ _ tb.swap (by omega) (by omega)

end Go.Proofs.Ytfhmnodoahcmnaa
