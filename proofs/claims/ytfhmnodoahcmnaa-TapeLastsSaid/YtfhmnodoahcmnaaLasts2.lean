/-
  Chapter 14: 'TapeLasts'.
-/
import Derived.Test.YtfhmnodoahcmnaaLasts
import Derived.Test.YtfhmnodoahcmnaaGroups14b
namespace Go.Proofs.Ytfhmnodoahcmnaa
open Go Go.Vc

section
variable {w0 w w' : World}

theorem crash_loose (D : DS) (ks : List Bool) : (D.crash ks).loose = [] := rfl
theorem crash_safe (D : DS) (ks : List Bool) : (D.crash ks).safe = standL D.safe D.loose fun i => (ks[i]?).getD false := rfl
theorem now_safe {D : DS} (h : D.loose = []) : D.now = D.safe := by unfold DS.now; rw [h]; rfl

/-- Arguments' bytes, listed in a row of the call's own. -/
structure PutL (wz w0 w : World) (p : Option Addr) (l c : Nat) (ps : List BV) : Prop where
  row : Row w T_sl_uint8 1 p l c (rows BV.cells ps)
  fresh : Go.Vc.fresh w0 p
  all : ∀ x ∈ ps, x.Ok wz
theorem PutL.lst {wz : World} {p : Option Addr} {l c : Nat} {ps : List BV} (h : PutL wz w0 w p l c ps) (hc : Chg No wz w) : Lst w p l (ps.map (·.bs)) ps :=
  ⟨h.row.sl, rfl, fun x hx => ⟨(h.all x hx).is.chg hc (off_no _), (h.all x hx).cap, (h.all x hx).nil⟩⟩
theorem PutL.len {wz : World} {p : Option Addr} {l c : Nat} {ps : List BV} (h : PutL wz w0 w p l c ps) : ps.length = l := by
  have := h.row.len; rw [rows_len (even_BV ps)] at this; omega

/-- put = append(put, o.P) -/
theorem PutL.push {wz : World} {p : Option Addr} {l c : Nat} {ps : List BV} (h : PutL wz w0 w p l c ps) {x : BV} (hx : x.Ok wz) (hl : l ≤ 1000) (hw : w0.heap.size ≤ w.heap.size) {K : Option Addr → Nat → Nat → World → Prop}
    (k : ∀ p' c' w', PutL wz w0 w' p' (l + 1) c' (ps ++ [x]) → Chg (isB p) w w' → K p' (l + 1) c' w') :
    newB w (.cells ⟨[.slice x.p x.l x.c]⟩ T_sl_uint8) fun b w1 => appJ Try.prog T_sl_sl_uint8 T_sl_sl_uint8 (.slice p l c) (.slice (some ⟨b, 0, none⟩) 1 1) w1 fun p' l' c' w2 => K p' l' c' w2 := by
  refine newRow (sz := 1) (n := 1) rfl (by decide) fun b12 w12 hr12 hb12 hc12 => ?_
  have hrow12 := h.row.chg hc12 (off_no _)
  refine appJ_row slT_sl_u8 hrow12 hr12.sl (by intro v hv; simp only [List.mem_singleton] at hv; subst hv; rfl) (by simp) (by omega) (by simp only [maxLen]; omega) fun p13 c13 w13 hr13 hc13 hf13 => ?_
  have hc1113 : Chg (isB p) w w13 := (Chg.mono hc12 fun _ _ h => h.elim).trans hc13 fun _ _ => id
  refine k p13 c13 w13 ⟨by rw [rows_append]; simpa [rows, BV.cells] using hr13, ?_, ?_⟩ hc1113
  · rcases hf13 with rfl | hf13
    · exact h.fresh
    · intro a ha; have := hf13 a ha; have := hc12.size; omega
  · intro y hy
    rcases List.mem_append.1 hy with hy | hy
    · exact h.all y hy
    · simp only [List.mem_singleton] at hy; subst hy; exact hx

theorem lasted_ok {d : Nat} {F : List Nat} {D : DS} {pp : Option Addr} {pl pc safe : Nat} {ps : List BV} {keep : SlV Bool} {S0 Wr : List (List UInt8)} {f : Nat} {J : Bool → World → Prop} (h : Own w0 w d F D) (hps : PutL w0 w0 w pp pl pc ps) (hkeep : BoolsOk w0 keep)
    (hK : KeptD D S0 Wr f) (hS : S0.length = 40) (hold : ∀ b ∈ S0, beVal ((b.drop 4).take 4) ≠ 7) (hW : Wr = (lays 7 0 0 (ps.map (·.bs))).take Wr.length) (hWl : Wr.length ≤ secsOf (ps.map (·.bs))) (hsafe : safe ≤ pl) (hf : secsOf ((ps.map (·.bs)).take safe) ≤ f)
    (hn : ∀ x ∈ ps.map (·.bs), nsec x.length ≤ 60000) (hpl : pl ≤ 1000)
    (k : ∀ w', Chg No w0 w' → J true w') : callJ Try.prog fn_law14_lasted #[.pointer (some ⟨d, 0, none⟩), .slice pp pl pc, .int .i64 (safe : Int), .slice keep.p keep.l keep.c] w [.one .bool] J := by
  refine c_law14_lasted ?_
  unfold VC_law14_lasted
  have hkl := hkeep.fits
  have hpsl := hps.len
  refine twin_row slT_bool (hkeep.is.chg h.chg (off_no _)) (one1_bools _) hkeep.nil (by omega) (by simp only [maxLen]; omega) fun p2 c2 w2 hr2 hf2 hc2 => ?_
  have h2 := h.step0 hc2
  refine Crash_own h2 hr2.sl (h2.at_.rowOff hr2 ⟨by decide, by decide, by decide⟩) fun w3 F3 h3 hc3 hF3 => ?_
  refine condB_ne (fun h => absurd rfl h) fun _ => ?_
  obtain ⟨kk, hk1, hk2, hall⟩ := lasts_law (sel := fun i => (keep.xs[i]?).getD false) hK hS hold hW hWl (by simp; omega) hf hn
  generalize hS1 : standL D.safe D.loose (fun i => (keep.xs[i]?).getD false) = S1 at *
  have hS1l : S1.length = 40 := by rw [← hS1, standL_len, hK.len, hS]
  have hps3 : PutL w0 w0 w3 pp pl pc ps := ⟨(hps.row.chg hc2 (off_no _)).chg hc3 (h2.at_.rowOff (hps.row.chg hc2 (off_no _)) nd_sl_u8), hps.fresh, hps.all⟩
  refine ⟨fun x w' m => ∃ (i : Nat) (F' : List Nat) (D' : DS), x = i ∧ i ≤ 2 ∧ m = 2 - i ∧ Own w0 w' d F' D' ∧ D'.safe = S1 ∧ D'.loose = [] ∧ Calm D' ∧ PutL w0 w0 w' pp pl pc ps,
    ⟨_, 0, F3, _, rfl, Nat.zero_le _, rfl, h3, by rw [crash_safe]; exact hS1, crash_loose _ _, crash_calm _ _, hps3⟩, ?_⟩
  rintro x w4 m ⟨i, F4, D4, rfl, hi, rfl, h4, hs4, hl4, hcalm4, hps4⟩
  refine condB_d (fun hlt => ?_) (fun _ => k w4 h4.chg)
  have hnow4 : D4.now = S1 := by rw [now_safe hl4, hs4]
  refine TOpen_own (lo := 2) (hi := 40) (gen := 7) h4 hcalm4 (by decide) (by rw [hs4]; omega) (by decide) (by decide) fun w5 t5 p5 l5 c5 hs5 j5 st hst h5 hj5 ht5 hR5 hc5 => ?_
  rw [hnow4] at hst
  have hst2 : st.all = (ps.map (·.bs)).take kk := by rw [hst]; exact hall
  have hl5 := hR5.len
  rw [hst2, List.length_take, List.length_map, hpsl] at hl5
  simp only [List.length_map] at hk2
  refine withJ_i fun J58 hJ58 => ?_
  subst hJ58
  refine condB_ne (fun h => absurd rfl h) fun _ => condB_i (fun h => by simp at h) fun _ => ?_
  refine condB_d (fun h => absurd h (by omega)) fun _ => ?_
  refine condB_d (fun h => absurd h (by omega)) fun _ => ?_
  have hps5 : PutL w0 w0 w5 pp pl pc ps := ⟨hps4.row.chg hc5 (h4.at_.rowOff hps4.row nd_sl_u8), hps4.fresh, hps4.all⟩
  refine (hps5.lst h5.chg).take (lo := 0) (hi := l5) (by omega) (by omega) hps5.row.le.1 rfl rfl fun p6 hL6 => ?_
  rw [Nat.sub_zero, List.drop_zero] at hL6
  rw [Nat.sub_zero]
  refine same_ok hR5.lst hL6 (by omega) fun w7 hc7 => ?_
  have heq : st.all = (ps.map (·.bs)).take l5 := by
    rw [hst2]
    have : l5 = kk := by omega
    rw [this]
  rw [decide_eq_true heq]
  refine condB_i (fun h => by simp at h) fun _ => ?_
  have h7 := h5.drum.step0 hc7
  refine Crash_own (ks := []) h7 (Sl.nil _ _ _) (by rintro a ⟨⟩) fun w8 F8 h8 hc8 hF8 => ?_
  have eb : ((0 : Int) != 0) = false := rfl
  simp only [eb]
  refine condB_i (fun h => by simp at h) fun _ => ?_
  have hps7 : PutL w0 w0 w7 pp pl pc ps := ⟨hps5.row.chg hc7 (off_no _), hps5.fresh, hps5.all⟩
  refine ⟨2 - (i + 1), by omega, i + 1, F8, _, by rw [w64_of] <;> omega, by omega, rfl, h8, ?_, rfl, crash_calm _ _, ⟨hps7.row.chg hc8 (h7.at_.rowOff hps7.row nd_sl_u8), hps7.fresh, hps7.all⟩⟩
  rw [crash_safe, took_loose, hl4, took_safe]; exact hs4
end

set_option maxRecDepth 20000 in
theorem TapeLasts_ok {w : World} {ops : SlV OpV} {keep : SlV Bool} {old : BV} (hops : OpsOk w ops) (hkeep : BoolsOk w keep) (ho : old.Ok w) :
    callJ Try.prog fn_law14_TapeLasts #[.slice ops.p ops.l ops.c, .slice keep.p keep.l keep.c, .slice old.p old.l old.c] w [.one .bool] fun r w' => r = true ∧ Chg No w w' := by
  refine c_law14_TapeLasts ?_
  unfold VC_law14_TapeLasts
  refine awake14_ok fun w1 hc1 => ?_
  refine condB_i (fun h => by simp at h) fun _ => ?_
  refine sectors_ok14 (most := 40) (ho.is.chg hc1 (off_no _)) ho.cap (by decide) ho.fits fun p2 l2 c2 L2 hs2 w2 hR2 h642 hl2 hc2 => ?_
  have hR2' : Rows w w2 p2 l2 c2 L2 hs2 := ⟨hR2.row, hR2.is, hR2.hand, fun a ha => Nat.le_trans hc1.size (hR2.fresh a ha), fun x hx a ha => Nat.le_trans hc1.size (hR2.freshes x hx a ha)⟩
  refine ⟨fun sp sl sc w' m => ∃ (L : List (List UInt8)) (hs : List BV), sl ≤ 40 ∧ m = 40 - sl ∧ Rows w w' sp sl sc L hs ∧ (∀ s ∈ L, s.length = 64) ∧ Chg No w w', ⟨_, L2, hs2, hl2, rfl, hR2', h642, hc1.trans0 hc2⟩, ?_⟩
  rintro sp sl sc w3 m ⟨L, hs, hsl, rfl, hR3, h64, hc3⟩
  refine condB_d (fun hlt => ?_) (fun hlt => ?_)
  · refine mk_zeros (n := 64) (by decide) fun b4 w4 hr4 hb4 hc4 => ?_
    have hR4 := hR3.chg0 hc4
    refine hR4.push (x := ⟨some ⟨b4, 0, none⟩, 64, 64, List.replicate 64 0⟩) hr4 (by rintro a ⟨⟩; exact Nat.le_trans hc3.size hb4) (by omega) (hc3.trans0 hc4).size fun p5 c5 w5 hR5 hc5 _ _ => ?_
    refine ⟨40 - (sl + 1), by omega, _, _, by omega, rfl, hR5, ?_, (hc3.trans0 hc4).trans hc5 fun b hb ⟨a, ha, e⟩ => by have := hR4.fresh a ha; omega⟩
    intro s hs
    rcases List.mem_append.1 hs with hs | hs
    · exact h64 s hs
    · simp only [List.mem_singleton] at hs; subst hs; rfl
  have hs40 : sl = 40 := by omega
  subst hs40
  have hLl := hR3.len
  refine filled_ok hc3 hR3.lst h64 (by decide) (by decide) fun d F D w4 h4 hD hF4 hc4 => ?_
  obtain ⟨d1, d2, d3, d4, d5⟩ := hD
  have hR4 := hR3.chg0 hc4
  refine withJ_i fun J39 hJ39 => ?_
  refine condB_i (fun h => by simp at h) fun _ => ?_
  refine Flush_own h4 fun w5 F5 h5 hc5 hF5 => ?_
  have hfl : D.flush = ({ D.stand (fun _ => true) with steps := w64 (D.steps + 1) }, 0) := by unfold DS.flush; rw [d1.step]; rfl
  rw [hfl] at h5 ⊢
  have hR5 : Rows w w5 sp 40 sc L hs := hR4.chg hc5 (h4.at_.rowOff hR4.row nd_sl_u8) fun x hx => h4.at_.rowOff (hR4.hand x hx) nd_u8
  have hsafe5 : (D.stand fun _ => true).safe = L := d2
  have hcalm5 : Calm { D.stand (fun _ => true) with steps := w64 (D.steps + 1) } := d1
  generalize hD5 : ({ D.stand (fun _ => true) with steps := w64 (D.steps + 1) } : DS) = D5 at h5 hcalm5
  have hs5 : D5.safe = L := by rw [← hD5]; exact hsafe5
  have hlo5 : D5.loose = [] := by rw [← hD5]; rfl
  have eb : ((0 : Int) != 0) = false := rfl
  simp only [eb]
  subst hJ39
  refine condB_i (fun h => by simp at h) fun _ => ?_
  have hnow5 : D5.now = L := by rw [now_safe hlo5, hs5]
  refine TOpen_own (lo := 2) (hi := 40) (gen := 7) h5 hcalm5 (by decide) (by rw [hs5]; omega) (by decide) (by decide) fun w6 t p6 l6 c6 hs6 j6 st hst h6 hj6 ht6 hR6 hc6 => ?_
  refine withJ_i fun J51 hJ51 => ?_
  subst hJ51
  refine condB_ne (fun h => absurd rfl h) fun _ => condB_i (fun h => by simp at h) fun _ => ?_
  have hR6' : Rows w w6 sp 40 sc L hs := hR5.chg hc6 (h5.at_.rowOff hR5.row nd_sl_u8) fun x hx => h5.at_.rowOff (hR5.hand x hx) nd_u8
  refine ⟨fun x w' m => ∃ i : Nat, x = i ∧ i ≤ 40 ∧ m = 40 - i ∧ w' = w6 ∧ ∀ b ∈ L.take i, beVal ((b.drop 4).take 4) ≠ 7, ⟨_, 0, rfl, Nat.zero_le _, rfl, rfl, by simp⟩, ?_⟩
  rintro x w7 m ⟨i, rfl, hi, rfl, rfl, hold⟩
  refine condB_d (fun hlt => ?_) (fun hlt => ?_)
  · refine hR6'.lst.at (by omega) (by omega) fun a x b _ hb _ hbytes hle hn hcell _ => ?_
    rw [Int.toNat_natCast] at hb
    refine ldS_i hcell ?_
    have hb64 := h64 b (List.mem_of_getElem? hb)
    have hxl := hbytes.len
    refine cutB hbytes (i := 4) (j := 8) (by decide) (by omega) hle rfl rfl fun q8 hq8 _ => ?_
    refine Value_ok hq8 (by decide) ?_
    rw [show (8 : Nat) - 4 = 4 from rfl]
    refine condB_eq (fun _ => ⟨rfl, h6.chg⟩) (fun hne => ?_)
    refine ⟨40 - (i + 1), by omega, i + 1, by rw [w64_of] <;> omega, by omega, rfl, rfl, ?_⟩
    intro b' hb'
    rw [List.take_add_one, hb] at hb'
    rcases List.mem_append.1 hb' with hb' | hb'
    · exact hold b' hb'
    · simp at hb'; subst hb'; intro h; exact hne (by omega)
  have hi40 : i = 40 := by omega
  subst hi40
  rw [List.take_of_length_le (by omega)] at hold
  have hst0 : st = SC.zero := by
    rw [hst, hnow5]
    refine opened_other (by decide) fun b hb => ?_
    exact hold b (List.mem_of_mem_drop (List.mem_of_mem_take (List.mem_of_getElem? hb)))
  subst hst0
  have hl60 : l6 = 0 := by rw [← hR6.len]; rfl
  subst hl60
  refine condB_d (fun h => absurd h (by decide)) fun _ => ?_
  refine withJ_i fun J14 hJ14 => ?_
  -- behind the script
  have hold' : ∀ b ∈ L, beVal ((b.drop 4).take 4) ≠ 7 := hold
  have fin : ∀ {pp : Option Addr} {pl pc safe : Nat} {ps : List BV} {F : List Nat} {D : DS} {Wr : List (List UInt8)} {f : Nat} {w' : World}, Own w w' d F D → PutL w w w' pp pl pc ps → KeptD D L Wr f → Wr = (lays 7 0 0 (ps.map (·.bs))).take Wr.length → Wr.length ≤ secsOf (ps.map (·.bs)) →
      safe ≤ pl → secsOf ((ps.map (·.bs)).take safe) ≤ f → (∀ x ∈ ps.map (·.bs), nsec x.length ≤ 60000) → pl ≤ 1000 →
      callJ Try.prog fn_law14_lasted #[.pointer (some ⟨d, 0, none⟩), .slice pp pl pc, .int .i64 (safe : Int), .slice keep.p keep.l keep.c] w' [.one .bool] fun r w' => r = true ∧ Chg No w w' := by
    intro pp pl pc safe ps F D Wr f w' h hps hK hW hWl hsf hf hn hpl
    exact lasted_ok h hps hkeep hK (by omega) hold' hW hWl hsf hf hn hpl fun w'' hc => ⟨rfl, hc⟩
  have done : ∀ {pp : Option Addr} {pl pc safe : Nat} {ps : List BV} {F : List Nat} {D : DS} {Wr : List (List UInt8)} {f : Nat} {w' : World}, Own w w' d F D → PutL w w w' pp pl pc ps → KeptD D L Wr f → Wr = (lays 7 0 0 (ps.map (·.bs))).take Wr.length → Wr.length ≤ secsOf (ps.map (·.bs)) →
      safe ≤ pl → secsOf ((ps.map (·.bs)).take safe) ≤ f → (∀ x ∈ ps.map (·.bs), nsec x.length ≤ 60000) → pl ≤ 1000 → J14 pp pl pc (safe : Int) w' := by
    intro pp pl pc safe ps F D Wr f w' h hps hK hW hWl hsf hf hn hpl
    subst hJ14
    exact fin h hps hK hW hWl hsf hf hn hpl
  clear hJ14
  have hmx := hops.max
  have hcap := hops.cap
  simp only [maxLen] at hmx
  have lk : ∀ put : List (List UInt8), lays 7 0 0 put = (lays 7 0 0 put).take (lays 7 0 0 put).length := fun put => by rw [List.take_of_length_le (Nat.le_refl _)]
  have hK0 : KeptD (D5.took j6) L [] 0 := ⟨by rw [took_safe, hs5]; simp [putAt], by rw [took_loose, hlo5]; rfl, Nat.le_refl _, by simp; omega⟩
  refine ⟨fun pp pl pc sf x w' m => ∃ (i safe f : Nat) (ps : List BV) (F' : List Nat) (D' : DS), x = i ∧ i ≤ ops.l ∧ i ≤ 100 ∧ m = ops.l - i ∧ sf = safe ∧ pl ≤ i ∧ TOwn w w' t ⟨d, 2, 40, 7, secsOf (ps.map (·.bs)), pl, false⟩ F' D' ∧ PutL w w w' pp pl pc ps ∧
      KeptD D' L (lays 7 0 0 (ps.map (·.bs))) f ∧ D'.down = false ∧ safe ≤ pl ∧ secsOf ((ps.map (·.bs)).take safe) ≤ f ∧ (∀ x ∈ ps.map (·.bs), nsec x.length ≤ 60000),
    ⟨_, 0, 0, 0, [], F5, _, rfl, Nat.zero_le _, by decide, rfl, rfl, Nat.zero_le _, h6, ⟨Row.nil _ _ _, by rintro a ⟨⟩, by simp⟩, hK0, (calm_took hcalm5 j6).2, Nat.le_refl _, by simp [secsOf], by simp⟩, ?_⟩
  rintro pp pl pc sf x w8 m ⟨i, safe, f, ps, F8, D8, rfl, hi, hi100, rfl, rfl, hpli, h8, hps8, hK8, hdn8, hsf8, hf8, hn8⟩
  have hplen := hps8.len
  have hlaysl : (lays 7 0 0 (ps.map (·.bs))).length = secsOf (ps.map (·.bs)) := lays_len _ _ _ _
  have hpl60 := h8.ok.place
  simp only at hpl60
  have stop8 : ∀ w', Chg No w8 w' → J14 pp pl pc (safe : Int) w' := fun w' hc => done (h8.drum.step0 hc) ⟨hps8.row.chg hc (off_no _), hps8.fresh, hps8.all⟩ hK8 (lk _) (by omega) hsf8 hf8 hn8 (by omega)
  refine condB_d (fun hlt => ?_) (fun _ => stop8 _ (Chg.refl _ _))
  refine withJ_i fun J141 hJ141 => ?_
  have next : ∀ {pp : Option Addr} {pl pc : Nat} {safe f : Nat} {ps : List BV} {F' : List Nat} {D' : DS} {w' : World}, pl ≤ i + 1 → TOwn w w' t ⟨d, 2, 40, 7, secsOf (ps.map (·.bs)), pl, false⟩ F' D' → PutL w w w' pp pl pc ps →
      KeptD D' L (lays 7 0 0 (ps.map (·.bs))) f → D'.down = false → safe ≤ pl → secsOf ((ps.map (·.bs)).take safe) ≤ f → (∀ x ∈ ps.map (·.bs), nsec x.length ≤ 60000) → i < 100 → J141 pp pl pc (safe : Int) w' := by
    intro pp pl pc safe f ps F' D' w' a1 a2 a3 a4 a5 a6 a7 a8 a9
    subst hJ141
    exact ⟨ops.l - (i + 1), by omega, i + 1, safe, f, ps, F', D', by rw [w64_of] <;> omega, by omega, by omega, rfl, rfl, a1, a2, a3, a4, a5, a6, a7, a8⟩
  clear hJ141
  refine pickOp hops h8.chg (by omega) (by omega) fun o b w9 ho2 hok H9 hb9 hc9 => ?_
  have h9 := h8.step0 hc9
  have hps9 : PutL w w w9 pp pl pc ps := ⟨hps8.row.chg hc9 (off_no _), hps8.fresh, hps8.all⟩
  refine condB_d (fun _ => stop8 _ hc9) (fun h100 => ?_)
  refine H9.ldI 0 rfl (off := 0) rfl ?_
  refine condB_eq (fun _ => ?_) (fun _ => ?_)
  · -- Append
    refine H9.ldS 0 rfl (off := 2) rfl ?_
    have hbl := hok.p.is.len
    have hfit := hok.p.fits
    refine Twin_ok (hok.p.is.chg h9.chg (off_no _)) hok.p.nil hok.p.fits fun p10 c10 w10 hr10 hf10 hc10 => ?_
    have h10 := h9.step0 hc10
    have hps10 : PutL w w w10 pp pl pc ps := ⟨hps9.row.chg hc10 (off_no _), hps9.fresh, hps9.all⟩
    have hlo8 : D8.loose.length ≤ 38 := by
      rw [hK8.loose, looseOf_len, List.length_drop]; omega
    refine Append_own h10 hr10.bytes hr10.none0 hr10.le.1 (by omega) (h10.row hr10 nd_u8 (by decide)) (by omega) fun w11 F11 h11 hc11 hF11 => ?_
    have hps11 : PutL w w w11 pp pl pc ps := ⟨hps10.row.chg hc11 (h10.row hps10.row nd_sl_u8 (by decide)), hps10.fresh, hps10.all⟩
    have H11 : w11.cell? ⟨b, 2, none⟩ = some (.slice o.p.p o.p.l o.p.c) := by
      have hb10 := (H9.step0 hc10).get 0 rfl
      have htyp : typ w10 b = some T_law14_Op := typ_of hb10
      have := hc11.heap hb10 (by
        rintro (h | h)
        · exact h10.drum.at_.apart htyp ⟨by decide, by decide, by decide⟩ h
        · exact typ_ne htyp (typ_of h10.at_) (by decide) h)
      rw [cell_of_row w11 b 2 _ _ (0, 0) this]; rfl
    have hB : ∀ x, isB pp x → typ w11 x = some T_sl_uint8 := by rintro x ⟨a, ha, rfl⟩; exact hps11.row.typ a ha
    have hfr : ∀ x, isB pp x → w.heap.size ≤ x := by rintro x ⟨a, ha, rfl⟩; exact hps11.fresh a ha
    have hpm : (ps.map (·.bs)).length = pl := by rw [List.length_map]; exact hplen
    have hmap : (ps ++ [o.p]).map (·.bs) = ps.map (·.bs) ++ [o.p.bs] := by simp
    have hf' : secsOf (((ps ++ [o.p]).map (·.bs)).take safe) ≤ f := by
      rw [hmap, List.take_append_of_le_length (by omega)]; exact hf8
    have hAK := append_kept (d := d) o.p.bs hK8 hdn8 (by omega)
    rw [hpm] at hAK
    generalize tapeAppend ⟨d, 2, 40, 7, secsOf (ps.map (·.bs)), pl, false⟩ D8 o.p.bs = R at h11 hAK ⊢
    refine withJ_i fun J142 hJ142 => ?_
    have hn' : nsec o.p.bs.length ≤ 60000 → ∀ x ∈ (ps ++ [o.p]).map (·.bs), nsec x.length ≤ 60000 := by
      intro hn x hx
      rw [hmap] at hx
      rcases List.mem_append.1 hx with hx | hx
      · exact hn8 x hx
      · simp only [List.mem_singleton] at hx; subst hx; exact hn
    have h11' : ∀ w', Chg (isB pp) w11 w' → TOwn w w' t R.T F11 R.D := fun w' hc => h11.step hc (fun x hx hb => h11.drum.at_.apart (hB x hb) nd_sl_u8 hx) (fun hb => typ_ne (hB t hb) (typ_of h11.at_) (by decide) rfl) hfr
    have hsz := h11.chg.size
    cases hAK with
    | full =>
      rw [hpm] at h11
      refine condB_ne (fun h => absurd rfl h) fun _ => ?_
      subst hJ142
      refine condB_eq (fun h => absurd (show (4 : Int) = 9 from h) (by decide)) fun _ => ?_
      exact next (by omega) h11 hps11 hK8 hdn8 hsf8 hf8 hn8 (by omega)
    | done D' hK' hdn' hn60 =>
      rw [hpm] at h11'
      refine condB_ne (fun _ => ?_) (fun h => absurd (show (0 : Int) = 4 from h) (by decide))
      refine ldS_i H11 ?_
      refine hps11.push hok.p (by omega) hsz fun p' c' w' hP hc' => ?_
      subst hJ142
      refine condB_eq (fun h => absurd (show (0 : Int) = 9 from h) (by decide)) fun _ => ?_
      have hT := h11' w' hc'
      rw [← hmap] at hT hK'
      exact next (by omega) hT hP hK' hdn' (by omega) hf' (hn' hn60) (by omega)
    | fell T hTd D' Wr hK' hW hWl hn60 =>
      refine condB_ne (fun _ => ?_) (fun h => absurd (show (9 : Int) = 4 from h) (by decide))
      refine ldS_i H11 ?_
      refine hps11.push hok.p (by omega) hsz fun p' c' w' hP hc' => ?_
      subst hJ142
      refine condB_eq (fun _ => ?_) fun h => absurd rfl h
      have hT := (h11' w' hc').drum
      dsimp only at hT
      rw [hTd] at hT
      rw [← hmap] at hW hWl
      exact fin hT hP hK' hW hWl (by omega) hf' (hn' hn60) (by omega)
  refine condB_eq (fun _ => ?_) (fun _ => ?_)
  · -- Flush
    refine TFlush_own h9 fun w10 F10 h10 hc10 hF10 => ?_
    have hps10 : PutL w w w10 pp pl pc ps := ⟨hps9.row.chg hc10 (h9.row hps9.row nd_sl_u8 (by decide)), hps9.fresh, hps9.all⟩
    by_cases hfz : D8.fuse = 0
    · have hst := DS.step_bad (D := D8) (.inl hfz)
      have e2 : D8.flush = ({ D8 with down := true }, 9) := by unfold DS.flush; rw [hst]; rfl
      have e3 : tapeFlush ⟨d, 2, 40, 7, secsOf (ps.map (·.bs)), pl, false⟩ D8 = ⟨⟨d, 2, 40, 7, secsOf (ps.map (·.bs)), pl, true⟩, { D8 with down := true }, 9⟩ := by unfold tapeFlush; rw [if_neg (by simp), e2]; rfl
      rw [e3] at h10 ⊢
      refine condB_eq (fun _ => ?_) fun h => absurd rfl h
      exact fin h10.drum hps10 (hK8.same rfl rfl) (lk _) (by omega) hsf8 hf8 hn8 (by omega)
    · have hst := DS.step_good (D := D8) (by rw [hdn8]; simp [hfz])
      have e2 : D8.flush.2 = 0 := by unfold DS.flush; rw [hst]
      have e3 : D8.flush.1 = D8.step.1.stand (fun _ => true) := by unfold DS.flush; rw [hst]; simp
      have e4 : tapeFlush ⟨d, 2, 40, 7, secsOf (ps.map (·.bs)), pl, false⟩ D8 = ⟨⟨d, 2, 40, 7, secsOf (ps.map (·.bs)), pl, false⟩, D8.step.1.stand (fun _ => true), 0⟩ := by unfold tapeFlush; rw [if_neg (by simp), e2, e3]; rfl
      rw [e4] at h10 ⊢
      refine condB_eq (fun h => absurd (show (0 : Int) = 9 from h) (by decide)) fun _ => condB_ne (fun h => absurd rfl h) fun _ => ?_
      have hK1 : KeptD D8.step.1 L (lays 7 0 0 (ps.map (·.bs))) f := hK8.same (DS.step_safe D8) (DS.step_loose D8)
      refine next (by omega) h10 hps10 hK1.flush (by rw [hst]; exact hdn8) (Nat.le_refl _) ?_ hn8 (by omega)
      rw [List.take_of_length_le (by simp; omega), hlaysl]; exact Nat.le_refl _
  refine condB_eq (fun _ => ?_) (fun _ => ?_)
  · -- Fuse
    refine H9.ldI 0 rfl (off := 1) rfl ?_
    refine Fuse_own h9.drum hok.n fun w10 h10 hc10 => ?_
    have hps10 : PutL w w w10 pp pl pc ps := ⟨hps9.row.chg hc10 (h9.drum.at_.rowOff hps9.row nd_sl_u8), hps9.fresh, hps9.all⟩
    have e1 : (D8.fuseTo o.n).1.safe = D8.safe ∧ (D8.fuseTo o.n).1.loose = D8.loose ∧ (D8.fuseTo o.n).1.down = D8.down := by unfold DS.fuseTo; split <;> simp
    obtain ⟨s1, s2, s3⟩ := e1
    exact next (by omega) (h9.upd h10 hc10 (by rw [s1])) hps10 (hK8.same s1 s2) (by rw [s3]; exact hdn8) hsf8 hf8 hn8 (by omega)
  · exact next (by omega) h9 hps9 hK8 hdn8 hsf8 hf8 hn8 (by omega)

end Go.Proofs.Ytfhmnodoahcmnaa
