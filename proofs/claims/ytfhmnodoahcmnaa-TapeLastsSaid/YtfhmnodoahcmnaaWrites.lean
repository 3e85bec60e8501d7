/-
  Chapter 14: 'TapeWrites'.
-/
import Derived.Test.YtfhmnodoahcmnaaLists14
import Derived.Test.YtfhmnodoahcmnaaSums
import Derived.Test.YtfhmnodoahcmnaaRd14
namespace Go.Proofs.Ytfhmnodoahcmnaa
open Go Go.Vc

/-! ## A fuse -/

theorem write_live {D : DS} {n : Nat} {p : List UInt8} (hd : D.down = false) (hf : D.fuse ≠ 0) (hn : n < D.safe.length) (hp : p.length = 64) :
    D.write n p = ({ D with steps := w64 (D.steps + 1), fuse := if 0 < D.fuse then D.fuse - 1 else D.fuse, loose := D.loose ++ [(n, p)] }, 0) := by
  unfold DS.write
  rw [if_neg (by omega), if_neg (by omega), DS.step_good (by simp [hd, hf])]
  simp [pad_id hp]
theorem write_dead {D : DS} {n : Nat} {p : List UInt8} (hf : D.fuse = 0) (hn : n < D.safe.length) (hp : p.length = 64) : D.write n p = ({ D with down := true }, 9) := by
  unfold DS.write
  rw [if_neg (by omega), if_neg (by omega), DS.step_bad (.inl hf)]
  simp
theorem now_live (D : DS) (n : Nat) (p : List UInt8) (s f : Int) : DS.now { D with steps := s, fuse := f, loose := D.loose ++ [(n, p)] } = D.now.set n p := standL_snoc _ _ _
theorem now_down (D : DS) (b : Bool) : DS.now { D with down := b } = D.now := rfl
theorem flush_now (D : DS) : D.flush.1.now = D.now := by
  unfold DS.flush; simp only; split
  · show DS.now (D.step.1.stand fun _ => true) = D.now
    rw [show (D.step.1.stand fun _ => true).now = D.step.1.now from rfl, DS.step_now]
  · rw [DS.step_now]
theorem standL_congr {safe : List (List UInt8)} {loose : List (Nat × List UInt8)} {f g : Nat → Bool} (h : ∀ i < loose.length, f i = g i) : standL safe loose f = standL safe loose g := by
  unfold standL
  have hz : ∀ x ∈ loose.zipIdx, f x.2 = g x.2 := fun x hx => h _ (by have := List.mem_zipIdx hx; omega)
  generalize loose.zipIdx = l at hz
  induction l generalizing safe with
  | nil => rfl
  | cons x l ih => simp only [List.foldl_cons]; rw [hz x (by simp)]; exact ih fun y hy => hz y (by simp [hy])
theorem crash_all (D : DS) : (D.crash (List.replicate D.loose.length true)).now = D.now := by
  have e : (D.crash (List.replicate D.loose.length true)).now = standL D.safe D.loose fun i => ((List.replicate D.loose.length true)[i]?).getD false := rfl
  rw [e]
  refine standL_congr fun i hi => ?_
  simp [hi]
theorem crash_calm (D : DS) (ks : List Bool) : Calm (D.crash ks) := ⟨rfl, rfl⟩
theorem crash_len (D : DS) (ks : List Bool) : (D.crash ks).safe.length = D.safe.length := by simp only [DS.crash, DS.stand]; exact standL_len _ _ _

section
variable {w0 w w' : World} {p : Option Addr} {l c : Nat} {L : List (List UInt8)} {hs : List BV} {t : Nat} {T : TS} {F : List Nat} {D : DS}
theorem TOwn.rows {wz : World} (h : TOwn w0 w t T F D) (hR : Rows wz w p l c L hs) (hc : Chg (fun b => b ∈ F ∨ b = t) w w') : Rows wz w' p l c L hs :=
  hR.chg hc (h.row hR.row nd_sl_u8 (by decide)) fun x hx => h.row (hR.hand x hx) nd_u8 (by decide)
theorem TOwn.out0 (h : TOwn w0 w t T F D) (hc : Chg (fun b => b ∈ F ∨ b = t) w w') : Chg No w0 w' := Chg.out h.chg hc fun b hb => hb.elim (h.drum.new b) fun e => e ▸ h.new

theorem hpMono2 {w1 : World} {b : Nat} {cs : List Value} {e : TypeId} (H : Hp w1 No w [⟨b, cs, e⟩]) (hc : Chg No w0 w) (h1 : w0.heap.size ≤ w1.heap.size) : Hp w0 No w [⟨b, cs, e⟩] :=
  ⟨hc, H.is, H.nd, fun p hp hl => H.own p hp (Nat.lt_of_lt_of_le hl h1)⟩

/-- list[i] = x -/
theorem Rows.put (h : Rows w0 w p l c L hs) {x : BV} (hx : HandC w x) (hf : Go.Vc.fresh w0 x.p) {i : Int} (h0 : 0 ≤ i) (h1 : i < l) {K : World → Prop}
    (k : ∀ w', Rows w0 w' p l c (L.set i.toNat x.bs) (hs.set i.toNat x) → Chg (isB p) w w' → K w') : idxA p l i fun a => stV w (a.add (i.toNat * 1)) (.slice x.p x.l x.c) K := by
  obtain ⟨b, rest, rfl, hh, hle, hmax, hlen⟩ := h.row.some0 (by omega)
  have hl := h.row.len
  rw [rows_len (even_BV hs)] at hl
  refine idxA_i h0 h1 ?_
  rw [Addr.add_mk, Nat.zero_add]
  have H := (Hp.start w (isB (some ⟨b, 0, none⟩))).add hh (by simp) (fun _ => ⟨_, rfl, rfl⟩)
  refine H.stV 0 rfl (off := i.toNat * 1) (by rw [List.length_append, rows_len (even_BV hs)]; omega) fun w' H' hc => ?_
  have e : (rows BV.cells hs ++ rest).set (i.toNat * 1) (Value.slice x.p x.l x.c) = rows BV.cells (hs.set i.toNat x) ++ rest := by
    rw [List.set_append_left _ _ (by rw [rows_len (even_BV hs)]; omega)]
    congr 1
    have hr : ∀ L : List BV, rows BV.cells L = L.map fun b => Value.slice b.p b.l b.c := fun L => by
      induction L with
      | nil => rfl
      | cons y L ih => rw [rows_cons, ih]; rfl
    rw [hr, hr, List.map_set, Nat.mul_one]
  simp only [List.set_cons_zero] at H'
  rw [e] at H'
  have hoff : ∀ y, HandC w y → ∀ a, y.p = some a → ¬ isB (some ⟨b, 0, none⟩) a.block := by
    rintro y hr a ha ⟨a', ha', e⟩
    exact typ_ne (h.row.typ a' ha') (Row.typ hr a ha) (by decide) e
  refine k w' ⟨H'.asRow 0 rfl rfl (by rw [rows_len (even_BV _), List.length_set]; omega) hle hmax (by rw [← hlen, List.length_append, List.length_append, rows_len (even_BV _), rows_len (even_BV _), List.length_set]), by rw [List.map_set, h.is], ?_, h.fresh, ?_⟩ H'.chg
  · intro y hy
    rcases List.mem_or_eq_of_mem_set hy with hy | rfl
    · exact (h.hand y hy).chgp H'.chg (hoff y (h.hand y hy))
    · exact hx.chgp H'.chg (hoff _ hx)
  · intro y hy
    rcases List.mem_or_eq_of_mem_set hy with hy | rfl
    · exact h.freshes y hy
    · exact hf
theorem Rows.chgB (h : Rows w0 w p l c L hs) {q : Option Addr} (hc : Chg (isB q) w w') (hq : ∀ b, isB q b → w.heap.size ≤ b) : Rows w0 w' p l c L hs :=
  h.chg hc (fun a ha hb => by have := h.row.lt a ha; have := hq _ hb; omega) fun x hx a ha hb => by have := Row.lt (h.hand x hx) a ha; have := hq _ hb; omega
end

theorem writes_loose : ∀ (G : List (List UInt8)) (D : DS) (n : Nat), (D.writes n G).1.loose.length ≤ D.loose.length + G.length
  | [], D, n => by simp [DS.writes]
  | s :: G, D, n => by
    simp only [DS.writes, List.length_cons]
    have h1 := DS.write_loose D n s
    split
    · have := writes_loose G (D.write n s).1 (n + 1); omega
    · omega
theorem writes_safe : ∀ (G : List (List UInt8)) (D : DS) (n : Nat), (D.writes n G).1.safe = D.safe
  | [], D, n => rfl
  | s :: G, D, n => by
    simp only [DS.writes]
    split
    · rw [writes_safe G, DS.write_safe]
    · rw [DS.write_safe]
theorem append_loose (T : TS) (D : DS) (bs : List UInt8) (h : T.hi - T.lo ≤ 60) : (tapeAppend T D bs).D.loose.length ≤ D.loose.length + 60 := by
  unfold tapeAppend
  split
  · simp
  · split
    · simp
    · next h2 =>
      have h1 := writes_loose (grp T.gen T.place T.groups bs) D (T.lo + T.place)
      rw [grp_len] at h1
      split
      · simp only; omega
      · simp only; omega

/-- for j := range in { in[j] = 5 } -/
theorem fives {w : World} {p : Option Addr} {l c : Nat} {xs : List UInt8} {l1 : Nat} {K : World → Prop} (hr : Row w T_uint8 1 p l1 c (bcells xs)) (hl : l ≤ l1) (hm : l ≤ 140737488355328) (k : ∀ w', Chg (isB p) w w' → K w') :
    ∃ I : Int → World → Nat → Prop, (∃ m, I 0 w m) ∧ ∀ x w' m, I x w' m → condB (decide (x < ((l : Nat) : Int))) (idxA p l x fun a => stV w' (a.add (x.toNat * 1)) (.int .u8 5) fun w2 => ∃ m', m' < m ∧ I (w64 (x + 1)) w2 m') (K w') := by
  refine ⟨fun x w' m => ∃ (i : Nat) (ys : List UInt8), x = i ∧ i ≤ l ∧ m = l - i ∧ Row w' T_uint8 1 p l1 c (bcells ys) ∧ Chg (isB p) w w', ⟨_, 0, xs, rfl, Nat.zero_le _, rfl, hr, Chg.refl _ _⟩, ?_⟩
  rintro x w' m ⟨i, ys, rfl, hi, rfl, hr', hc⟩
  refine condB_d (fun hlt => ?_) (fun _ => k w' hc)
  obtain ⟨h0, h1, hk⟩ := Row.stB (v := 5) (K := fun w2 => ∃ m', m' < l - i ∧ ∃ (i' : Nat) (ys : List UInt8), w64 ((i : Int) + 1) = i' ∧ i' ≤ l ∧ m' = l - i' ∧ Row w2 T_uint8 1 p l1 c (bcells ys) ∧ Chg (isB p) w w2) hr' (i := (i : Int)) (by omega) (by omega) fun w2 hr2 hc2 =>
    ⟨l - (i + 1), by omega, i + 1, _, by rw [w64_of] <;> omega, by omega, rfl, hr2, hc.trans hc2 fun _ _ => id⟩
  exact ⟨h0, by omega, hk⟩

theorem append_down {T : TS} {D : DS} {bs : List UInt8} (h : T.down = true) : tapeAppend T D bs = ⟨T, D, 9⟩ := by unfold tapeAppend; rw [if_pos h]
theorem append_done {d lo hi gen place groups : Nat} {D D' : DS} {bs : List UInt8} (hr : ¬ hi - lo < place + nsec bs.length) (h : D.writes (lo + place) (grp gen place groups bs) = (D', 0)) :
    tapeAppend ⟨d, lo, hi, gen, place, groups, false⟩ D bs = ⟨⟨d, lo, hi, gen, place + nsec bs.length, groups + 1, false⟩, D', 0⟩ := by
  unfold tapeAppend
  rw [if_neg (by simp), if_neg (by simpa using hr)]
  simp only [h, if_true]
theorem append_fell {d lo hi gen place groups : Nat} {D D' : DS} {e : Int} {bs : List UInt8} (hr : ¬ hi - lo < place + nsec bs.length) (h : D.writes (lo + place) (grp gen place groups bs) = (D', e)) (he : e ≠ 0) :
    tapeAppend ⟨d, lo, hi, gen, place, groups, false⟩ D bs = ⟨⟨d, lo, hi, gen, place, groups, true⟩, D', e⟩ := by
  unfold tapeAppend
  rw [if_neg (by simp), if_neg (by simpa using hr)]
  simp only [h, if_neg he]

/-- The element of a range over a list of the call's own. -/
theorem Rows.at {w0 w : World} {p : Option Addr} {l c : Nat} {L : List (List UInt8)} {hs : List BV} (h : Rows w0 w p l c L hs) {i : Int} (h0 : 0 ≤ i) (h1 : i < l) {K : Addr → Prop}
    (k : ∀ a x, L[i.toNat]? = some x.bs → HandC w x → Go.Vc.fresh w0 x.p → w.cell? (a.add (i.toNat * 1)) = some (.slice x.p x.l x.c) → K a) : idxA p l i K := by
  refine idx_rows h.row.sl (even_BV hs) (by decide) h0 h1 fun a x hp hx hc => ?_
  refine k a x ?_ (h.hand x (List.mem_of_getElem? hx)) (h.freshes x (List.mem_of_getElem? hx)) (by have := hc 0 _ rfl; rwa [add_zero'] at this)
  rw [← h.is, List.getElem?_map, hx]; rfl

/-- The law's own reckoning of a fuse. -/
structure Live (D : DS) (left : Int) : Prop where
  up : D.down = false
  fuse : D.fuse = left
  ge : -1 ≤ left

set_option maxRecDepth 20000 in
theorem TapeWrites_ok {w : World} {lo hi n gen : Int} {ops : SlV OpV} (_ : InI lo) (_ : InI hi) (_ : InI n) (_ : InI gen) (hops : OpsOk w ops) :
    callJ Try.prog fn_law14_TapeWrites #[.int .i64 lo, .int .i64 hi, .int .i64 n, .int .i64 gen, .slice ops.p ops.l ops.c] w [.one .bool] fun r w' => r = true ∧ Chg No w w' := by
  refine c_law14_TapeWrites ?_
  unfold VC_law14_TapeWrites
  refine awake14_ok fun w1 hc1 => ?_
  refine condB_i (fun h => by simp at h) fun _ => ?_
  refine withJ_i fun J61 hJ61 => ?_
  have bad : J61 true w1 := by
    subst hJ61
    exact condB_i (fun _ => ⟨rfl, hc1⟩) (fun h => by simp at h)
  suffices go : 1 ≤ n → n ≤ 60 → 0 ≤ lo → hi ≤ n → lo < hi → 1 ≤ gen → gen ≤ 4294967295 → J61 false w1 by
    clear hJ61
    refine condB_d (fun _ => bad) (fun q1 => ?_)
    refine condB_d (fun _ => bad) (fun q2 => ?_)
    refine condB_d (fun _ => bad) (fun q3 => ?_)
    refine condB_d (fun _ => bad) (fun q4 => ?_)
    refine condB_d (fun _ => bad) (fun q5 => ?_)
    refine condB_d (fun _ => bad) (fun q6 => ?_)
    by_cases q7 : gen > 4294967295
    · rw [decide_eq_true q7]; exact bad
    · rw [decide_eq_false q7]; exact go (by omega) (by omega) (by omega) (by omega) (by omega) (by omega) (by omega)
  intro q1 q2 q3 q4 q5 q6 q7
  clear bad
  obtain ⟨lo, rfl⟩ := Int.eq_ofNat_of_zero_le (a := lo) (by omega)
  obtain ⟨hi, rfl⟩ := Int.eq_ofNat_of_zero_le (a := hi) (by omega)
  obtain ⟨gen, rfl⟩ := Int.eq_ofNat_of_zero_le (a := gen) (by omega)
  obtain ⟨n, rfl⟩ := Int.eq_ofNat_of_zero_le (a := n) (by omega)
  subst hJ61
  refine condB_i (fun h => by simp at h) fun _ => ?_
  refine New_own (by omega) (by omega) hc1 fun w2 d F h2 hc2 hf2 => ?_
  rw [Int.toNat_natCast] at h2
  have hnl : (DS.new n).safe.length = n := by simp [DS.new]
  refine withJ_i fun J72 hJ72 => ?_
  subst hJ72
  refine condB_ne (fun h => absurd rfl h) fun _ => condB_i (fun h => by simp at h) fun _ => ?_
  refine TOpen_none h2 (Calm.new _) (by omega) (by omega) (by omega) (by omega) (opened_new (by omega) (by omega)) fun w3 t p3 c3 j h3 ht3 hc3 => ?_
  refine withJ_i fun J92 hJ92 => ?_
  subst hJ92
  refine condB_ne (fun h => absurd rfl h) fun _ => condB_i (fun h => by simp at h) fun _ => condB_ne (fun h => absurd rfl h) fun _ => ?_
  have hcalm3 := calm_took (Calm.new n) j
  refine all_ok h3.drum hcalm3 fun wp wl wc hs4 w4 hR4 hO4 hc4 => ?_
  have h4 := h3.upd hO4 hc4 (by rw [took_safe])
  have hR4' : Rows w w4 wp wl wc _ hs4 := ⟨hR4.row, hR4.is, hR4.hand, fun a ha => Nat.le_trans h3.chg.size (hR4.fresh a ha), fun x hx a ha => Nat.le_trans h3.chg.size (hR4.freshes x hx a ha)⟩
  generalize hD4 : ((DS.new n).took j).took ((DS.new n).took j).safe.length = D4 at h4 hO4
  have hnow4 : ((DS.new n).took j).now = D4.now := by rw [← hD4, took_now, took_now, took_now]
  rw [hnow4] at hR4'
  have hsafe4 : D4.safe.length = n := by rw [← hD4, took_safe, took_safe, hnl]
  have hlive4 : Live D4 (-1) := by rw [← hD4]; exact ⟨(calm_took hcalm3 _).2, (calm_took hcalm3 _).1, by decide⟩
  have hloose4 : D4.loose.length = 0 := by rw [← hD4, took_loose, took_loose]; rfl
  clear hD4 hnow4 hR4 hO4 hc4 h3 hc3 h2 hc2 hf2 hcalm3 ht3
  have hwl : wl = n := by have := hR4'.len; rw [D4.now_len] at this; omega
  subst hwl
  have hmx := hops.max
  have hcap := hops.cap
  simp only [maxLen] at hmx
  refine withJ_i fun J0 hJ0 => ?_
  -- behind the script
  have last : ∀ w' t T F D hs, T.d = d → TOwn w w' t T F D → D.safe.length = wl → D.loose.length ≤ 6000 → Rows w w' wp wl wc D.now hs → J0 w' := by
    intro w' t T F D hs hTd h hsf hlo hR
    subst hJ0
    rw [← hTd]
    refine Loose_ok h.drum.at_ ?_
    rw [show zeroC Try.prog T_bool = #[.bool false] from by kernel_rfl]
    refine (Hp.start w' No).mkS rfl (by omega) (by omega) (by omega) (by omega) fun b w2 H2 hb hc2 => ?_
    rw [show (List.replicate ((D.loose.length : Nat) : Int).toNat (#[.bool false] : Array Value).toList).flatten = bools (List.replicate D.loose.length false) from by rw [Int.toNat_natCast]; simp [bools, List.flatten_replicate_singleton]] at H2
    rw [Int.toNat_natCast]
    generalize hnn : D.loose.length = nn at *
    refine ⟨fun x w3 m => ∃ i : Nat, x = i ∧ i ≤ nn ∧ m = nn - i ∧ Hp w' No w3 [⟨b, bools (List.replicate i true ++ List.replicate (nn - i) false), T_bool⟩], ⟨_, 0, rfl, Nat.zero_le _, rfl, by simpa using H2⟩, ?_⟩
    rintro x w3 m ⟨i, rfl, hi, rfl, H3⟩
    refine condB_d (fun hlt => ?_) (fun hlt => ?_)
    · refine idxA_i (by omega) (by omega) ?_
      rw [Addr.add_mk, Nat.zero_add, Nat.mul_one, Int.toNat_natCast]
      refine H3.stV 0 rfl (off := i) (by simp [bools]; omega) fun w4 H4 hc4 => ?_
      refine ⟨nn - (i + 1), by omega, i + 1, by rw [w64_of] <;> omega, by omega, rfl, ?_⟩
      have e : (bools (List.replicate i true ++ List.replicate (nn - i) false)).set i (Value.bool true) = bools (List.replicate (i + 1) true ++ List.replicate (nn - (i + 1)) false) := by
        unfold bools
        rw [← List.map_set]
        congr 1
        rw [show nn - i = (nn - (i + 1)) + 1 by omega, List.replicate_succ, List.set_append_right _ _ (by simp)]
        simp [List.replicate_succ']
      simp only [List.set_cons_zero] at H4
      rw [e] at H4; exact H4
    · have hin : i = nn := by omega
      subst hin
      rw [Nat.sub_self, List.replicate_zero, List.append_nil] at H3
      refine withJ_i fun J10 hJ10 => ?_
      have h3 := h.step0 H3.chg
      have hR3 := hR.chg0 H3.chg
      have hrow : Row w3 T_bool 1 (some ⟨b, 0, none⟩) i i (bools (List.replicate i true)) := H3.asRow 0 rfl (rest := []) (by simp) (by simp [bools]) (Nat.le_refl _) (by simp only [maxLen]; omega) (by simp [bools])
      refine Crash_own (ks := List.replicate i true) h3.drum hrow.sl (h3.drum.at_.rowOff hrow ⟨by decide, by decide, by decide⟩) fun w5 F5 h5 hc5 hF5 => ?_
      refine condB_eq (fun _ => ?_) (fun h => absurd rfl h)
      have hnow5 : (D.crash (List.replicate i true)).now = D.now := by rw [← hnn]; exact crash_all D
      refine all_ok h5 (crash_calm _ _) fun p6 l6 c6 hs6 w6 hR6 hO6 hc6 => ?_
      rw [hnow5] at hR6
      have hR5 : Rows w w5 wp wl wc D.now hs := hR3.chg hc5 (h3.drum.at_.rowOff hR3.row nd_sl_u8) fun x hx => h3.drum.at_.rowOff (hR3.hand x hx) nd_u8
      have hR6' : Rows w w6 wp wl wc D.now hs := hR5.chg hc6 (h5.at_.rowOff hR5.row nd_sl_u8) fun x hx => h5.at_.rowOff (hR5.hand x hx) nd_u8
      have hl6 := hR6.len
      have hnl := D.now_len
      refine same_ok hR6.lst hR6'.lst (by omega) fun w7 hc7 => ?_
      subst hJ10
      exact ⟨decide_eq_true rfl, hO6.chg.trans0 hc7⟩
  clear hJ0
  refine ⟨fun pl gr dn lf x w' m => ∃ (i place groups : Nat) (F : List Nat) (D : DS) (hs : List BV), x = i ∧ i ≤ ops.l ∧ i ≤ 100 ∧ m = ops.l - i ∧ pl = place ∧ gr = groups ∧ TOwn w w' t ⟨d, lo, hi, gen, place, groups, dn⟩ F D ∧ D.safe.length = wl ∧
      Rows w w' wp wl wc D.now hs ∧ D.loose.length ≤ 60 * i ∧ (dn = false → Live D lf) ∧ -1 ≤ lf ∧ lf ≤ 9223372036854775807,
    ⟨_, 0, 0, 0, F, D4, hs4, rfl, Nat.zero_le _, by decide, rfl, rfl, rfl, h4, hsafe4, hR4', by omega, fun _ => hlive4, by decide, by decide⟩, ?_⟩
  rintro pl gr dn lf x w5 m ⟨i, place, groups, F5, D, hs, rfl, hil, hi100, rfl, rfl, rfl, h5, hsf, hR5, hlo5, hlive, hlf1, hlf2⟩
  refine condB_d (fun hlt => ?_) (fun _ => last _ _ _ _ _ _ rfl h5 hsf (by omega) hR5)
  refine pickOp hops h5.chg (by omega) (by omega) fun o b w6 ho hok H6 hb6 hc6 => ?_
  have h6 := h5.step0 hc6
  have hR6 := hR5.chg0 hc6
  refine condB_d (fun _ => last _ _ _ _ _ _ rfl h6 hsf (by omega) hR6) (fun h100 => ?_)
  refine withJ_i fun J17 hJ17 => ?_
  have next : ∀ (place groups : Nat) dn lf w' F D hs, TOwn w w' t ⟨d, lo, hi, gen, place, groups, dn⟩ F D → D.safe.length = wl → Rows w w' wp wl wc D.now hs → D.loose.length ≤ 60 * (i + 1) → (dn = false → Live D lf) → -1 ≤ lf → lf ≤ 9223372036854775807 →
      J17 (place : Int) (groups : Int) dn lf w' := by
    intro place groups dn lf w' F D hs h hsf hR hlo hl h1 h2
    subst hJ17
    refine withJ_i fun J222 hJ222 => ?_
    refine TGroups_ok h.at_ ?_
    refine condB_ne (fun h => absurd rfl h) fun _ => ?_
    refine TFree_ok h.at_ h.ok h.drum.at_.ok.max ?_
    have hpl := h.ok.place
    simp only at hpl
    have e : w64 (w64 ((hi : Int) - (lo : Int)) - (place : Int)) = ((hi - lo - place : Nat) : Int) := by
      rw [w64_of (n := (hi : Int) - lo) (by omega) (by omega), w64_of] <;> omega
    rw [e]
    have eb : (((hi - lo - place : Nat) : Int) != ((hi - lo - place : Nat) : Int)) = false := by simp
    simp only [eb]
    subst hJ222
    refine condB_i (fun h => by simp at h) fun _ => ?_
    exact ⟨ops.l - (i + 1), by omega, i + 1, place, groups, F, D, hs, by rw [w64_of] <;> omega, by omega, by omega, rfl, rfl, rfl, h.drew, hsf, hR.chg0 (Chg.refl No w').drew, hlo, hl, h1, h2⟩
  clear hJ17
  refine H6.ldI 0 rfl (off := 0) rfl ?_
  refine condB_eq (fun _ => ?_) (fun _ => ?_)
  · -- Append
    refine H6.ldS 0 rfl (off := 2) rfl ?_
    have hfit := hok.p.fits
    have hbl := hok.p.is.len
    have hnsl : nsec o.p.bs.length = nsec o.p.l := by rw [hbl]
    refine RSectors_ok (by omega) ?_
    refine withJ_i fun J19 hJ19 => ?_
    have hpl := h5.ok.place
    simp only at hpl
    -- the program's Append, and the buffer
    have put : ∀ (dn' : Bool) (lf' err : Int) w7 hs7, TOwn w w7 t ⟨d, lo, hi, gen, place, groups, dn⟩ F5 D → Hp w No w7 [⟨b, opCells o, T_law14_Op⟩] → Rows w w7 wp wl wc (tapeAppend ⟨d, lo, hi, gen, place, groups, dn⟩ D o.p.bs).D.now hs7 →
        (tapeAppend ⟨d, lo, hi, gen, place, groups, dn⟩ D o.p.bs).e = err →
        (tapeAppend ⟨d, lo, hi, gen, place, groups, dn⟩ D o.p.bs).T = ⟨d, lo, hi, gen, if err = 0 then place + nsec o.p.l else place, if err = 0 then groups + 1 else groups, dn'⟩ → (dn' = false → Live (tapeAppend ⟨d, lo, hi, gen, place, groups, dn⟩ D o.p.bs).D lf') → -1 ≤ lf' → lf' ≤ 9223372036854775807 → J19 dn' lf' err w7 := by
      intro dn' lf' err w7 hs7 h7 H7 hR7 he hT hL h1 h2
      subst hJ19
      refine withJ_i fun J171 hJ171 => ?_
      have after : ∀ (place' groups' : Nat), place' = (if err = 0 then place + nsec o.p.l else place) → groups' = (if err = 0 then groups + 1 else groups) → J171 (place' : Int) (groups' : Int) w7 := by
        intro place' groups' e1 e2
        subst hJ171
        refine H7.ldS 0 rfl (off := 2) rfl ?_
        refine Spare_ok (hok.p.is.chg h7.chg (off_no _)) hok.p.nil hok.p.fits fun p8 c8 w8 hr8 hf8 hc8 => ?_
        have h8 := h7.step0 hc8
        have hle8 := hr8.le.1
        have hbytes : Bytes w8 p8 o.p.l o.p.bs := by
          have hs := hr8.sl
          refine ⟨by simp [bcells, hbl], ?_⟩
          obtain ⟨a, hpa, hc⟩ := hs.at (by omega)
          refine .inr ⟨a, hpa, ?_⟩
          have := cellsAt_take o.p.l hc
          have e : (bcells (o.p.bs ++ [165])).take o.p.l = bcells o.p.bs := by
            rw [show bcells (o.p.bs ++ [165]) = bcells o.p.bs ++ [Value.int .u8 165] from by simp [bcells]]
            exact List.take_left' (by simp [bcells, hbl])
          rwa [e] at this
        refine withJ_i fun J170 hJ170 => ?_
        refine Append_own h8 hbytes (fun h => absurd (hr8.none0 h) (by omega)) (by omega) (by omega) (h8.row hr8 nd_u8 (by decide)) (by omega) fun w9 F9 h9 hc9 hF9 => ?_
        have hal := append_loose ⟨d, lo, hi, gen, place, groups, dn⟩ D o.p.bs (by simp only; omega)
        have hsafe9 : (tapeAppend ⟨d, lo, hi, gen, place, groups, dn⟩ D o.p.bs).D.safe.length = wl := by
          rw [← hsf]; unfold tapeAppend
          split
          · rfl
          · split
            · rfl
            · split <;> simp only [writes_safe]
        rw [hT] at h9
        generalize (tapeAppend ⟨d, lo, hi, gen, place, groups, dn⟩ D o.p.bs).D = D9 at *
        rw [he]
        refine condB_ne (fun h => absurd rfl h) fun _ => ?_
        have hr9 := hr8.chg hc9 (h8.row hr8 nd_u8 (by decide))
        have hR8 := hR7.chg0 hc8
        have hR9 := h8.rows hR8 hc9
        have H9cell : w9.cell? ⟨b, 2, none⟩ = some (.slice o.p.p o.p.l o.p.c) := by
          have H8 := H7.step0 hc8
          have hb8 := H8.get 0 rfl
          have htyp : typ w8 b = some T_law14_Op := typ_of hb8
          have := hc9.heap hb8 (by
            rintro (h | h)
            · exact h8.drum.at_.apart htyp ⟨by decide, by decide, by decide⟩ h
            · exact typ_ne htyp (typ_of h8.at_) (by decide) h)
          rw [cell_of_row w9 b 2 _ _ (0, 0) this]; rfl
        refine ldS_i H9cell ?_
        refine Kept_ok hr9 (hok.p.is.chg h9.chg (off_no _)) hbl ?_
        rw [decide_eq_true rfl]
        subst hJ170
        refine condB_i (fun h => by simp at h) fun _ => ?_
        refine fives hr9 (by omega) (by omega) fun w10 hc10 => ?_
        have hfB : ∀ x, isB p8 x → w7.heap.size ≤ x := by rintro x ⟨a, ha, rfl⟩; exact hf8 a ha
        have h10 := h9.step hc10 (fun x hx ⟨a, ha, e⟩ => by
            subst e
            exact h9.drum.at_.apart (hr9.typ a ha) nd_u8 hx) (fun ⟨a, ha, e⟩ => typ_ne (hr9.typ a ha) (typ_of h9.at_) (by decide) e) (fun x hx => Nat.le_trans h7.chg.size (hfB x hx))
        have hR10 : Rows w w10 wp wl wc D9.now hs7 := hR9.chg hc10 (fun a ha ⟨a', ha', e⟩ => typ_ne (hr9.typ a' ha') (hR9.row.typ a ha) (by decide) e) fun x hx a ha hb => by
          have := Row.lt (hR7.hand x hx) a ha
          have := hfB _ hb; omega
        subst e1; subst e2
        exact next _ _ _ _ _ _ _ _ h10 hsafe9 hR10 (by omega) hL h1 h2
      clear hJ171
      refine condB_eq (fun h0 => ?_) (fun hne => ?_)
      · have e1 : w64 ((place : Int) + ((nsec o.p.l : Nat) : Int)) = ((place + nsec o.p.l : Nat) : Int) := by
          have hT' := h7.ok
          have hsm : place + nsec o.p.l ≤ 200000000000000000 := by unfold nsec; omega
          rw [w64_of] <;> omega
        have e2 : w64 ((groups : Int) + 1) = ((groups + 1 : Nat) : Int) := by have := h5.ok.groups; simp only at this; rw [w64_of] <;> omega
        rw [e1, e2]
        exact after _ _ (by rw [if_pos h0]) (by rw [if_pos h0])
      · exact after _ _ (by rw [if_neg hne]) (by rw [if_neg hne])
    clear hJ19
    have e111 : w64 (w64 ((hi : Int) - (lo : Int)) - (place : Int)) = ((hi - lo - place : Nat) : Int) := by
      rw [w64_of (n := (hi : Int) - lo) (by omega) (by omega), w64_of] <;> omega
    rw [e111]
    refine condB_i (fun hdn => ?_) (fun hdn => ?_)
    · subst hdn
      have e := append_down (T := ⟨d, lo, hi, gen, place, groups, true⟩) (D := D) (bs := o.p.bs) rfl
      exact put true lf 9 w6 hs h6 (hpMono2 H6 h6.chg h5.chg.size) (by rw [e]; exact hR6) (by rw [e]) (by rw [e]; rfl) (fun h => by cases h) hlf1 hlf2
    subst hdn
    have hlv := hlive rfl
    refine condB_d (fun hful => ?_) (fun hful => ?_)
    · have e := append_full (d := d) (lo := lo) (hi := hi) (gen := gen) (place := place) (groups := groups) (D := D) (bs := o.p.bs) (by omega)
      exact put false lf 4 w6 hs h6 (hpMono2 H6 h6.chg h5.chg.size) (by rw [e]; exact hR6) (by rw [e]) (by rw [e]; rfl) (fun _ => by rw [e]; exact hlv) hlf1 hlf2
    have hroom : ¬ hi - lo < place + nsec o.p.bs.length := by omega
    have hgr := h5.ok.groups
    simp only at hgr
    refine H6.ldS 0 rfl (off := 2) rfl ?_
    refine Group_ok (by omega) (by omega) (by omega) (hok.p.is.chg h6.chg (off_no _)) hok.p.cap (by omega) fun p7 c7 hs7 w7 hR7 hc7 => ?_
    have hGl : (grp gen place groups o.p.bs).length = nsec o.p.l := by rw [grp_len, hbl]
    have hG64 := grp_64 gen place groups o.p.bs
    generalize hGG : grp gen place groups o.p.bs = G at *
    have h7 := h6.step0 hc7
    have hR67 := hR6.chg0 hc7
    have H7 := H6.step0 hc7
    have hwB : ∀ x, isB wp x → x < w6.heap.size := by rintro x ⟨a, ha, rfl⟩; exact hR6.row.lt a ha
    have hwT : ∀ x, isB wp x → typ w7 x = some T_sl_uint8 := by rintro x ⟨a, ha, rfl⟩; exact hR67.row.typ a ha
    have hwF : ∀ x, isB wp x → w.heap.size ≤ x := by rintro x ⟨a, ha, rfl⟩; exact hR6.fresh a ha
    refine ⟨fun dn' lf' err x w' m => ∃ (jj : Nat) (D' : DS) (hs' : List BV), x = jj ∧ jj ≤ nsec o.p.l ∧ m = nsec o.p.l - jj ∧ dn' = false ∧ err = 0 ∧ Live D' lf' ∧ D'.safe.length = wl ∧ D.writes (lo + place) G = D'.writes (lo + place + jj) (G.drop jj) ∧
        Rows w w' wp wl wc D'.now hs' ∧ Chg (isB wp) w7 w' ∧ lf' ≤ 9223372036854775807,
      ⟨_, 0, D, hs, rfl, Nat.zero_le _, rfl, rfl, rfl, hlv, hsf, by simp, hR67, Chg.refl _ _, hlf2⟩, ?_⟩
    rintro dn' lf' err x w8 m ⟨jj, D', hs', rfl, hjj, rfl, rfl, rfl, hlv', hsf', hws, hR8, hc8, hlf'⟩
    have h8 : TOwn w w8 t ⟨d, lo, hi, gen, place, groups, false⟩ F5 D := h7.step hc8 (fun x hx hb => h7.drum.at_.apart (hwT x hb) nd_sl_u8 hx) (fun hb => typ_ne (hwT t hb) (typ_of h7.at_) (by decide) rfl) hwF
    have H8 : Hp w No w8 [⟨b, opCells o, T_law14_Op⟩] := ⟨h8.chg, fun q hq => hc8.heap (H7.is q hq) (fun hb => by
      simp only [List.mem_singleton] at hq; subst hq
      exact typ_ne (hwT _ hb) (typ_of (H7.is _ (List.mem_singleton.2 rfl))) (show T_sl_uint8 ≠ T_law14_Op from by decide) rfl), by simp, fun q hq hl => by
      simp only [List.mem_singleton] at hq; subst hq
      have := h5.chg.size; simp only at hl; omega⟩
    have hR78 : Rows w6 w8 p7 (nsec o.p.l) c7 G hs7 := hR7.chg hc8 (fun a ha hb => by have := hR7.fresh a ha; have := hwB _ hb; omega) (fun x hx a ha hb => by have := hR7.freshes x hx a ha; have := hwB _ hb; omega)
    refine condB_d (fun hltj => ?_) (fun hltj => ?_)
    · refine hR78.at (by omega) (by omega) fun a x hx hhx hfx hcell => ?_
      rw [Int.toNat_natCast] at hx
      refine ldS_i hcell ?_
      have hx64 := hG64 x.bs (List.mem_of_getElem? hx)
      have hdrop : G.drop jj = x.bs :: G.drop (jj + 1) := by rw [List.drop_eq_getElem_cons (by omega)]; congr 1; exact (List.getElem?_eq_some_iff.1 hx).2
      rw [hdrop, DS.writes] at hws
      have hin : lo + place + jj < D'.safe.length := by omega
      refine condB_eq (fun h0 => ?_) (fun hne => ?_)
      · have hwd := write_dead (p := x.bs) (hlv'.fuse.trans h0) hin hx64
        replace hws : D.writes (lo + place) G = ({ D' with down := true }, 9) := hws.trans (by rw [hwd]; rfl)
        have e := append_fell (d := d) (gen := gen) (groups := groups) (bs := o.p.bs) (D := D) (D' := { D' with down := true }) (e := 9) hroom (by rw [hGG]; exact hws) (by decide)
        exact put true lf' 9 w8 hs' h8 H8 (by rw [e]; exact hR8) (by rw [e]) (by rw [e]; rfl) (fun h => by cases h) hlv'.ge hlf'
      · have hwl' := write_live (p := x.bs) hlv'.up (by rw [hlv'.fuse]; exact hne) hin hx64
        rw [hwl', if_pos rfl, hlv'.fuse] at hws
        refine withJ_i fun J20 hJ20 => ?_
        have e137 : w64 (w64 ((lo : Int) + (place : Int)) + (jj : Int)) = ((lo + place + jj : Nat) : Int) := by rw [w64_of (n := (lo : Int) + place) (by omega) (by omega), w64_of] <;> omega
        have go20 : ∀ lf'', lf'' = (if 0 < lf' then lf' - 1 else lf') → J20 lf'' w8 := by
          intro lf'' hlf''
          subst hJ20
          rw [e137]
          refine hR8.put hhx (fun a ha => Nat.le_trans h6.chg.size (hfx a ha)) (by omega) (by omega) fun w9 hR9 hc9 => ?_
          rw [Int.toNat_natCast] at hR9
          refine ⟨nsec o.p.l - (jj + 1), by omega, jj + 1, { D' with steps := w64 (D'.steps + 1), fuse := if 0 < lf' then lf' - 1 else lf', loose := D'.loose ++ [(lo + place + jj, x.bs)] }, _, by rw [w64_of] <;> omega, by omega, rfl, rfl, rfl, ⟨hlv'.up, hlf''.symm, ?_⟩, hsf', hws, by rw [now_live]; exact hR9, hc8.trans hc9 fun _ _ => id, ?_⟩
          · have := hlv'.ge; rw [hlf'']; split <;> omega
          · rw [hlf'']; split <;> omega
        clear hJ20
        refine condB_d (fun hpos => ?_) (fun hpos => ?_)
        · rw [w64_of (by omega) (by omega)]; exact go20 _ (by rw [if_pos (by omega)])
        · exact go20 _ (by rw [if_neg (by omega)])
    · have hje : jj = nsec o.p.l := by omega
      subst hje
      rw [List.drop_of_length_le (by omega)] at hws
      simp only [DS.writes] at hws
      have e := append_done (d := d) (gen := gen) (groups := groups) (bs := o.p.bs) (D := D) (D' := D') hroom (by rw [hGG]; exact hws)
      exact put false lf' 0 w8 hs' h8 H8 (by rw [e]; exact hR8) (by rw [e]) (by rw [e, hbl]; rfl) (fun _ => by rw [e]; exact hlv') hlv'.ge hlf'
  refine condB_eq (fun _ => ?_) (fun _ => ?_)
  · -- Flush
    refine withJ_i fun J19 hJ19 => ?_
    have tail : ∀ (dn' : Bool) (err : Int), (tapeFlush ⟨d, lo, hi, gen, place, groups, dn⟩ D).e = err → (tapeFlush ⟨d, lo, hi, gen, place, groups, dn⟩ D).T = ⟨d, lo, hi, gen, place, groups, dn'⟩ →
        (dn' = false → Live (tapeFlush ⟨d, lo, hi, gen, place, groups, dn⟩ D).D (if 0 < lf then lf - 1 else lf)) → J19 dn' err w6 := by
      intro dn' err he hT hL
      subst hJ19
      refine TFlush_own h6 fun w7 F7 h7 hc7 hF7 => ?_
      have hR7 := h6.rows hR6 hc7
      have hsf7 : (tapeFlush ⟨d, lo, hi, gen, place, groups, dn⟩ D).D.safe.length = wl := by
        unfold tapeFlush; split
        · exact hsf
        · rw [← hsf]; exact DS.flush_len D
      have hlo7 : (tapeFlush ⟨d, lo, hi, gen, place, groups, dn⟩ D).D.loose.length ≤ 60 * (i + 1) := by
        unfold tapeFlush; split
        · simp only; omega
        · have := DS.flush_loose D; simp only; omega
      have hnow7 : (tapeFlush ⟨d, lo, hi, gen, place, groups, dn⟩ D).D.now = D.now := by
        unfold tapeFlush; split
        · rfl
        · exact flush_now D
      rw [hT] at h7
      rw [← hnow7] at hR7
      rw [he]
      refine condB_ne (fun h => absurd rfl h) fun _ => ?_
      refine condB_d (fun hpos => ?_) (fun hpos => ?_)
      · rw [if_pos (by omega)] at hL
        rw [w64_of (by omega) (by omega)]
        exact next _ _ _ _ _ _ _ _ h7 hsf7 hR7 hlo7 hL (by omega) (by omega)
      · rw [if_neg (by omega)] at hL
        exact next _ _ _ _ _ _ _ _ h7 hsf7 hR7 hlo7 hL hlf1 hlf2
    clear hJ19
    refine withJ_i fun J186 hJ186 => ?_
    subst hJ186
    refine condB_i (fun hdn => ?_) (fun hdn => ?_)
    · subst hdn
      refine condB_i (fun _ => ?_) (fun h => by simp at h)
      exact tail true 9 rfl rfl (fun h => by cases h)
    · subst hdn
      have hlv := hlive rfl
      refine condB_eq (fun h0 => ?_) (fun hne => ?_)
      · have hst := DS.step_bad (D := D) (.inl (hlv.fuse.trans h0))
        have e2 : D.flush.2 = 9 := by unfold DS.flush; rw [hst]
        exact tail true 9 (by unfold tapeFlush; rw [if_neg (by simp)]; exact e2) (by unfold tapeFlush; rw [if_neg (by simp), e2]; rfl) (fun h => by cases h)
      · have hst := DS.step_good (D := D) (by rw [hlv.fuse, hlv.up]; simp [hne])
        have e2 : D.flush.2 = 0 := by unfold DS.flush; rw [hst]
        refine tail false 0 (by unfold tapeFlush; rw [if_neg (by simp)]; exact e2) (by unfold tapeFlush; rw [if_neg (by simp), e2]; rfl) (fun _ => ?_)
        unfold tapeFlush; rw [if_neg (by simp)]
        have e3 : D.flush.1 = D.step.1.stand (fun _ => true) := by unfold DS.flush; rw [hst]; simp
        rw [e3, hst]
        refine ⟨hlv.up, ?_, by split <;> omega⟩
        simp only [DS.stand, hlv.fuse]
  refine condB_eq (fun _ => ?_) (fun _ => ?_)
  · -- Fuse
    refine withJ_i fun J206 hJ206 => ?_
    refine H6.ldI 0 rfl (off := 1) rfl ?_
    obtain ⟨n1, n2⟩ := hok.n
    refine condB_d (fun hge => ?_) (fun hlt0 => ?_)
    · refine H6.ldI 0 rfl (off := 1) rfl ?_
      refine Fuse_own h6.drum hok.n fun w7 h7 hc7 => ?_
      have e1 : D.fuseTo o.n = ({ D with fuse := o.n }, 0) := by unfold DS.fuseTo; rw [if_neg (by omega)]
      rw [e1] at h7 ⊢
      have h7t := h6.upd h7 hc7 rfl
      have hR7 := h6.rows hR6 (hc7.mono fun _ _ => .inl)
      subst hJ206
      refine condB_i (fun _ => ?_) (fun h => by simp at h)
      have H7 : w7.cell? ⟨b, 1, none⟩ = some (.int .i64 o.n) := by
        have hb8 := H6.get 0 rfl
        have := hc7.heap hb8 (h6.drum.at_.apart (typ_of hb8) ⟨by decide, by decide, by decide⟩)
        rw [cell_of_row w7 b 1 _ _ (0, 0) this]; rfl
      refine ldI_i H7 ?_
      exact next _ _ _ _ _ _ _ _ h7t hsf hR7 (by simp only; omega) (fun hd => ⟨(hlive hd).up, rfl, by omega⟩) (by omega) (by omega)
    · subst hJ206
      refine condB_i (fun h => by simp at h) fun _ => ?_
      exact next _ _ _ _ _ _ _ _ h6 hsf hR6 (by omega) hlive hlf1 hlf2
  · exact next _ _ _ _ _ _ _ _ h6 hsf hR6 (by omega) hlive hlf1 hlf2

end Go.Proofs.Ytfhmnodoahcmnaa
