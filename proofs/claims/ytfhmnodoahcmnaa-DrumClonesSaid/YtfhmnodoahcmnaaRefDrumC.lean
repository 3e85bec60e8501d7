/-
  The document's answer for chapter 13: New, Twin.
-/
import Derived.Test.YtfhmnodoahcmnaaRefDrumB
namespace Go.Proofs.Ytfhmnodoahcmnaa
open Go Go.Vc

section
variable {w w' : World} {r : Nat} {G : List Nat} {D : DS} {S : Nat → Prop}

theorem zeroC_refDrum : zeroC Try.prog T_ref13_Drum = ⟨[.slice none 0 0, .slice none 0 0, .int .i64 0, .int .i64 0, .bool false]⟩ := by kernel_rfl

/-- A local variable of the drum's type. -/
theorem refBlock {v : RV} {K : Nat → World → Prop} (hv : v.Ok w D G) (k : ∀ b w', RefAt w' b G D → w.heap.size ≤ b → Chg No w w' → K b w') :
    newB w (.cells (zeroC Try.prog T_ref13_Drum) T_ref13_Drum) fun b w9 => stN w9 ⟨b, 0, none⟩ ⟨v.cells D⟩ 5 fun w10 => K b w10 := by
  rw [zeroC_refDrum]
  refine (Hp.start w No).newB fun b w9 H9 hb hc9 => ?_
  refine H9.stN 0 rfl (off := 0) rfl (by decide) (by simp [one1, RV.cells, Value.oneCell']) fun w10 H10 hc10 => ?_
  have hc : Chg No w w10 := hc9.trans hc10 fun x hx he => by subst he; omega
  refine k b w10 ⟨v, hv.chgT hc fun _ _ _ _ => id, ?_⟩ hb hc
  have := H10.get 0 rfl
  rw [splice_all (by simp [RV.cells])] at this
  exact this

theorem RefNew_ok {n : Int} {J : Option Addr → Nat → Nat → Option Addr → Nat → Nat → Int → Int → Bool → World → Prop} (h1 : 1 ≤ n) (h2 : n ≤ 16384)
    (k : ∀ (v : RV) G w', v.Ok w' (DS.new n.toNat) G → Chg No w w' → (∀ b ∈ G, w.heap.size ≤ b) → J v.sp v.hs.length v.sc v.lp v.ls.length v.lc (DS.new n.toNat).steps (DS.new n.toNat).fuse (DS.new n.toNat).down w') :
    callJ Try.prog fn_ref13_New #[.int .i64 n] w [.agg [.slice, .slice, .int .i64, .int .i64, .bool]] J := by
  refine c_ref13_New ?_
  unfold VC_ref13_New
  rw [zeroC_refDrum, show zeroC Try.prog T_uint8 = #[.int .u8 0] from by kernel_rfl]
  refine (Hp.start w No).newB fun b2 w1 H1 hb2 hc1 => ?_
  refine H1.newB fun b3 w2 H2 hb3 hc2 => ?_
  refine H2.stN 0 rfl (off := 0) rfl (by decide) (by simp [one1, Value.oneCell']) fun w3 H3 hc3 => ?_
  rw [splice_all (by simp)] at H3
  refine ⟨fun x w' m => ∃ (i : Nat) (sp : Option Addr) (sc : Nat) (hs : List BV) (G : List Nat), x = i ∧ i ≤ n.toNat ∧ m = n.toNat - i ∧
      Hp w No w' [⟨b3, [.slice sp i sc, .slice none 0 0, .int .i64 0, .int .i64 (-1), .bool false], T_ref13_Drum⟩, ⟨b2, [.slice none 0 0, .slice none 0 0, .int .i64 0, .int .i64 0, .bool false], T_ref13_Drum⟩] ∧
      Row w' T_sl_uint8 1 sp i sc (rows BV.cells hs) ∧ fresh w sp ∧ hs.map (·.bs) = List.replicate i zsec ∧ (∀ h ∈ hs, HandOk w' h ∧ ∀ a, h.p = some a → a.block ∈ G) ∧ (∀ b ∈ G, typ w' b = some T_uint8 ∧ w.heap.size ≤ b),
    ⟨_, 0, none, 0, [], [], rfl, Nat.zero_le _, rfl, H3, Row.nil _ _ _, by rintro a ⟨⟩, rfl, by simp, by simp⟩, ?_⟩
  rintro x w4 m ⟨i, sp, sc, hs, G, rfl, hi, rfl, H4, hrow, hfs, hmap, hhs, hG⟩
  have hsl : hs.length = i := by have := congrArg List.length hmap; simpa using this
  refine condB_d (fun hb => ?_) (fun hb => ?_)
  · have H4' := H4.drew
    refine H4'.ldS 0 rfl (off := 0) rfl ?_
    refine H4'.mkS (by decide) (by decide) (by decide) (by decide) (by decide) fun b13 w5 H5 hb13 hc5 => ?_
    refine ⟨H5.cell 1 rfl rfl, ?_⟩
    have e0 : (List.replicate (Int.toNat 64) (#[Value.int .u8 0] : Array Value).toList).flatten = bcells zsec := rfl
    rw [e0] at H5
    have hr5 : Row w5 T_uint8 1 (some ⟨b13, 0, none⟩) 64 64 (bcells zsec) := H5.asRow 0 rfl (rest := []) (by simp) (by rw [bcells_length, zsec_len]) (Nat.le_refl _) (by decide) (by rw [bcells_length, zsec_len])
    refine newRow (sz := 1) (n := 1) rfl (by decide) fun b14 w6 hr6 hb14 hc6 => ?_
    have H6 := H5.step0 hc6
    refine ⟨H6.cell 1 rfl rfl, ?_⟩
    have hc46 : Chg No w4 w6 := ((Chg.refl No w4).drew.trans0 hc5).trans0 hc6
    have hrow6 := hrow.chg hc46 (off_no _)
    refine appJ_row slT_sl_u8 hrow6 hr6.sl (by intro v hv; simp only [List.mem_singleton] at hv; subst hv; rfl) (by simp) (by omega) (by simp only [maxLen]; omega) fun q7 c7 w7 hr7 hc7 hf7 => ?_
    have nq : ∀ {x : Nat} {e : TypeId}, typ w6 x = some e → e ≠ T_sl_uint8 → ¬ isB sp x := fun hx he ⟨a, ha, hax⟩ => by
      have := hrow6.typ a ha
      rw [hax, hx] at this
      exact he (Option.some.inj this)
    have H7 := H6.step hc7 (by
      intro p hp
      refine nq (e := p.e) (typ_of (H6.is p hp)) ?_
      simp only [List.mem_cons, List.not_mem_nil, or_false] at hp
      rcases hp with rfl | rfl | rfl <;> (simp only; decide)) (by
      rintro x hx ⟨a, ha, rfl⟩
      have := hfs a ha; omega)
    refine H7.stV 1 rfl (off := 0) (by simp) fun w8 H8 hc8 => ?_
    have t7 : typ w7 b3 = some T_ref13_Drum := typ_of (H7.get 1 rfl)
    have n8 : ∀ {x : Nat} {e : TypeId}, typ w7 x = some e → e ≠ T_ref13_Drum → ¬ x = b3 := fun hx he h => by
      subst h; rw [t7] at hx; exact he (Option.some.inj hx).symm
    have t13 : typ w6 b13 = some T_uint8 := typ_chg hc6 (hr5.typ _ rfl) id
    have u67 : ∀ b, typ w6 b = some T_uint8 → ¬ isB sp b := fun b hb => nq hb (by decide)
    have u78 : ∀ b, typ w7 b = some T_uint8 → ¬ b = b3 := fun b hb => n8 hb (by decide)
    have hsz := H4.chg.size
    have hdz : w4.drew.heap.size = w4.heap.size := rfl
    rw [hdz] at hb13
    refine ⟨n.toNat - (i + 1), by omega, i + 1, q7, c7, hs ++ [⟨some ⟨b13, 0, none⟩, 64, 64, zsec⟩], b13 :: G, ?_, by omega, rfl, ?_, ?_, ?_, ?_, ?_, ?_⟩
    · rw [w64_of] <;> omega
    · exact ⟨H8.chg, fun p hp => H8.is p (List.mem_cons_of_mem _ hp), (List.nodup_cons.1 H8.nd).2, fun p hp => H8.own p (List.mem_cons_of_mem _ hp)⟩
    · rw [rows_append]
      exact hr7.chg hc8 fun a ha => n8 (hr7.typ a ha) (by decide)
    · rcases hf7 with rfl | hf
      · exact hfs
      · intro a ha; have := hf a ha; have := hc46.size; omega
    · rw [List.map_append, hmap, List.replicate_succ']; rfl
    · intro h hh
      rcases List.mem_append.1 hh with hh | hh
      · exact ⟨(((hhs h hh).1.chg hc46 fun _ _ => id).chg hc7 u67).chg hc8 u78, fun a ha => List.mem_cons_of_mem _ ((hhs h hh).2 a ha)⟩
      · simp only [List.mem_singleton] at hh
        subst hh
        have h13 : HandOk w6 ⟨some ⟨b13, 0, none⟩, 64, 64, zsec⟩ := ⟨64, hr5.chg hc6 (off_no _)⟩
        exact ⟨(h13.chg hc7 u67).chg hc8 u78, fun a ha => by cases ha; exact List.mem_cons_self⟩
    · intro b hb
      have h6 : typ w6 b = some T_uint8 ∧ w.heap.size ≤ b := by
        rcases List.mem_cons.1 hb with rfl | hb
        · exact ⟨t13, by omega⟩
        · exact ⟨typ_chg hc46 (hG b hb).1 id, (hG b hb).2⟩
      have h7 := typ_chg hc7 h6.1 (u67 b h6.1)
      exact ⟨typ_chg hc8 h7 (u78 b h7), h6.2⟩
  · have hi' : i = n.toNat := by omega
    refine H4.ldS 0 rfl (off := 0) rfl ?_
    refine H4.ldS 0 rfl (off := 1) rfl ?_
    refine H4.ldI 0 rfl (off := 2) rfl ?_
    refine H4.ldI 0 rfl (off := 3) rfl ?_
    refine H4.ldB 0 rfl (off := 4) rfl ?_
    refine H4.stN 1 rfl (off := 0) rfl (by decide) (by simp [one1, Value.oneCell']) fun w9 H9 hc9 => ?_
    rw [splice_all (by simp)] at H9
    refine H9.ldS 1 rfl (off := 0) rfl ?_
    refine H9.ldS 1 rfl (off := 1) rfl ?_
    refine H9.ldI 1 rfl (off := 2) rfl ?_
    refine H9.ldI 1 rfl (off := 3) rfl ?_
    refine H9.ldB 1 rfl (off := 4) rfl ?_
    have t4 : typ w4 b2 = some T_ref13_Drum := typ_of (H4.get 1 rfl)
    have n9 : ∀ {x : Nat} {e : TypeId}, typ w4 x = some e → e ≠ T_ref13_Drum → ¬ x = b2 := fun hx he h => by
      subst h; rw [t4] at hx; exact he (Option.some.inj hx).symm
    have hv : RV.Ok w9 ⟨sp, sc, none, 0, hs, []⟩ (DS.new n.toNat) G := by
      refine ⟨⟨by simp [DS.new]; omega, by simp [DS.new]; omega, ?_, by simp [DS.new], by simp [DS.new], by constructor <;> simp [DS.new]⟩, ?_, ?_, ?_, Row.nil _ _ _, rfl, by simp, fun h hh => (hhs h hh).2, by simp, ?_⟩
      · intro s hs; simp only [DS.new, List.mem_replicate] at hs; rw [hs.2]; exact zsec_len
      · rw [hsl]; exact hrow.chg hc9 fun a ha => n9 (hrow.typ a ha) (by decide)
      · rw [hmap, hi']; rfl
      · exact fun h hh => (hhs h hh).1.chg hc9 fun b hb => n9 hb (by decide)
      · exact fun b hb => typ_chg hc9 (hG b hb).1 (n9 (hG b hb).1 (by decide))
    have := k _ G w9 hv H9.chg (fun b hb => (hG b hb).2)
    simp only [hsl] at this
    exact this

theorem RefTwin_ok {J : Option Addr → Nat → Nat → Option Addr → Nat → Nat → Int → Int → Bool → World → Prop} (h : RefAt w r G D)
    (k : ∀ (v : RV) w', v.Ok w' D G → Chg No w w' → J v.sp v.hs.length v.sc v.lp v.ls.length v.lc D.steps D.fuse D.down w') :
    callJ Try.prog fn_ref13_Drum_Twin #[.pointer (some ⟨r, 0, none⟩)] w [.agg [.slice, .slice, .int .i64, .int .i64, .bool]] J := by
  obtain ⟨v, hv, hh⟩ := id h
  refine c_ref13_Drum_Twin ?_
  unfold VC_ref13_Drum_Twin
  dsimp only [nonNil]
  simp only [Addr.add_mk, Nat.zero_add]
  rw [zeroC_refDrum]
  refine (Hp.start w No).newB fun b2 w1 H1 hb2 hc1 => ?_
  have hsl : v.hs.length = D.safe.length := by rw [← hv.hs, List.length_map]
  have hll : v.ls.length = D.loose.length := by rw [← hv.ls, List.length_map]
  have hmx := hv.ok.max
  have hct := hv.ok.count
  have cell : ∀ {w' : World} {off : Nat} {x : Value}, Chg No w w' → (v.cells D)[off]? = some x → w'.cell? ⟨r, off, none⟩ = some x := fun hc hx => by
    rw [cell_of_row _ r _ _ _ (0, 0) (hc.heap hh id)]; simpa using hx
  refine withJ_i fun J0 hJ0 => ?_
  have c1 : Chg No w w1.drew := H1.chg.drew
  have H1' := H1.drew
  have fin : ∀ w7 q8 c8 q14 c14, Row w7 T_sl_uint8 1 q8 v.hs.length c8 (rows BV.cells v.hs) → Row w7 T_ref13_Write 2 q14 v.ls.length c14 (rows wcell v.ls) → Hp w No w7 [⟨b2, [.slice none 0 0, .slice none 0 0, .int .i64 0, .int .i64 0, .bool false], T_ref13_Drum⟩] →
      stN w7 ⟨b2, 0, none⟩ ⟨[.slice q8 v.hs.length c8, .slice q14 v.ls.length c14, .int .i64 D.steps, .int .i64 D.fuse, .bool D.down]⟩ 5 fun w8 => J0 w8 := by
    intro w7 q8 c8 q14 c14 hr8 hr14 H7
    refine H7.stN 0 rfl (off := 0) rfl (by decide) (by simp [one1, Value.oneCell']) fun w8 H8 hc8 => ?_
    rw [splice_all (by simp)] at H8
    subst hJ0
    refine H8.ldS 0 rfl (off := 0) rfl ?_
    refine H8.ldS 0 rfl (off := 1) rfl ?_
    refine H8.ldI 0 rfl (off := 2) rfl ?_
    refine H8.ldI 0 rfl (off := 3) rfl ?_
    refine H8.ldB 0 rfl (off := 4) rfl ?_
    have t7 : typ w7 b2 = some T_ref13_Drum := typ_of (H7.get 0 rfl)
    have n8 : ∀ {x : Nat} {e : TypeId}, typ w7 x = some e → e ≠ T_ref13_Drum → ¬ x = b2 := fun hx he h => by
      subst h; rw [t7] at hx; exact he (Option.some.inj hx).symm
    have hv8 := hv.chgT H8.chg fun _ _ _ _ => id
    exact k ⟨q8, c8, q14, c14, v.hs, v.ls⟩ w8 ⟨hv.ok, hr8.chg hc8 fun a ha => n8 (hr8.typ a ha) (by decide), hv.hs, hv8.hok, hr14.chg hc8 fun a ha => n8 (hr14.typ a ha) (by decide), hv.ls, hv8.lok, hv.gs, hv.gl, hv8.gt⟩ H8.chg
  clear hJ0
  refine ldS_i (cell c1 rfl) ?_
  refine ldS_i (cell c1 rfl) ?_
  refine ldI_i (cell c1 rfl) ?_
  refine ldI_i (cell c1 rfl) ?_
  refine ldB_i (cell c1 rfl) ?_
  -- the two copies, behind whatever
  have app1 : ∀ {w0 : World} {b : Nat} {K}, Chg No w w0 → Row w0 T_sl_uint8 1 (some ⟨b, 0, none⟩) 0 0 [] → w.heap.size ≤ b → (∀ q c w', Row w' T_sl_uint8 1 q v.hs.length c (rows BV.cells v.hs) → Chg (fun x => x = b) w0 w' → K q v.hs.length c w') →
      appJ Try.prog T_sl_sl_uint8 T_sl_sl_uint8 (.slice (some ⟨b, 0, none⟩) 0 0) (.slice v.sp v.hs.length v.sc) w0 K := by
    intro w0 b K hc hr hb kk
    refine appJ_row slT_sl_u8 hr (hv.safe.chg hc (off_no _)).sl (one1_BV _) hv.safe.none0 (by omega) (by simp only [maxLen]; omega) fun q c w' hr' hc' _ => ?_
    rw [List.nil_append, Nat.zero_add] at hr'
    rw [Nat.zero_add]
    exact kk q c w' hr' (hc'.mono fun x _ ⟨a, ha, hx⟩ => by cases ha; exact hx.symm)
  have app2 : ∀ {w0 : World} {b : Nat} {K}, Chg No w w0 → Row w0 T_ref13_Write 2 (some ⟨b, 0, none⟩) 0 0 [] → w.heap.size ≤ b → (∀ q c w', Row w' T_ref13_Write 2 q v.ls.length c (rows wcell v.ls) → Chg (fun x => x = b) w0 w' → K q v.ls.length c w') →
      appJ Try.prog T_sl_ref13_Write T_sl_ref13_Write (.slice (some ⟨b, 0, none⟩) 0 0) (.slice v.lp v.ls.length v.lc) w0 K := by
    intro w0 b K hc hr hb kk
    refine appJ_row slT_refW hr (hv.loose.chg hc (off_no _)).sl (one1_w _) hv.loose.none0 (by omega) (by simp only [maxLen]; omega) fun q c w' hr' hc' _ => ?_
    rw [List.nil_append, Nat.zero_add] at hr'
    rw [Nat.zero_add]
    exact kk q c w' hr' (hc'.mono fun x _ ⟨a, ha, hx⟩ => by cases ha; exact hx.symm)
  have out : ∀ {w0 w' : World} {b : Nat}, Chg No w w0 → w.heap.size ≤ b → Chg (fun x => x = b) w0 w' → Chg No w w' := fun h hb hc => h.trans hc fun x hx he => by subst he; omega
  have hsz := c1.size
  have other : ∀ {w0 w' : World} {b : Nat} {e e' : TypeId} {sz : Nat} {p : Option Addr} {l c : Nat} {xs : List Value}, Chg (fun x => x = b) w0 w' → typ w0 b = some e' → Row w0 e sz p l c xs → e ≠ e' → Row w' e sz p l c xs := fun hc ht hr he => by
    refine hr.chg hc fun a ha h => ?_
    have := hr.typ a ha
    rw [h, ht] at this
    exact he (Option.some.inj this).symm
  have keep : ∀ {w0 w' : World} {b : Nat} {e' : TypeId}, Chg (fun x => x = b) w0 w' → typ w0 b = some e' → w.heap.size ≤ b → e' ≠ T_ref13_Drum → Hp w No w0 [⟨b2, [.slice none 0 0, .slice none 0 0, .int .i64 0, .int .i64 0, .bool false], T_ref13_Drum⟩] →
      Hp w No w' [⟨b2, [.slice none 0 0, .slice none 0 0, .int .i64 0, .int .i64 0, .bool false], T_ref13_Drum⟩] := fun hc ht hb he H => H.step hc (fun p hp h => by
      have h2 := typ_of (H.is p hp)
      simp only [List.mem_cons, List.not_mem_nil, or_false] at hp
      subst hp
      subst h
      rw [ht] at h2
      exact he (Option.some.inj h2)) (fun x hx h => by subst h; omega)
  refine ⟨?_, ?_⟩
  · refine newRow (sz := 1) (n := 0) rfl (by decide) fun b3 w3 hr3 hb3 hc3 => ?_
    have c3 := c1.trans0 hc3
    have H3 := H1'.step0 hc3
    have hb3' : w.heap.size ≤ b3 := by omega
    refine ⟨cell c3 rfl, cell c3 rfl, cell c3 rfl, cell c3 rfl, cell c3 rfl, ?_, ?_⟩
    · refine app1 c3 hr3 hb3' fun q4 c4' w4 hr4 hc4 => ?_
      have c4 := out c3 hb3' hc4
      have H4 := keep hc4 (hr3.typ _ rfl) hb3' (by decide) H3
      refine ⟨cell c4 rfl, cell c4 rfl, cell c4 rfl, cell c4 rfl, ?_⟩
      refine newRow (sz := 2) (n := 0) rfl (by decide) fun b5 w5 hr5 hb5 hc5 => ?_
      have c5 := c4.trans0 hc5
      have H5 := H4.step0 hc5
      have hb5' : w.heap.size ≤ b5 := by have := c4.size; omega
      refine ⟨cell c5 rfl, cell c5 rfl, cell c5 rfl, cell c5 rfl, cell c5 rfl, ?_⟩
      refine app2 c5 hr5 hb5' fun q6 c6' w6 hr6 hc6 => ?_
      have c6 := out c5 hb5' hc6
      refine ⟨cell c6 rfl, cell c6 rfl, cell c6 rfl, ?_⟩
      exact fin _ _ _ _ _ (other hc6 (hr5.typ _ rfl) (hr4.chg hc5 (off_no _)) (by decide)) hr6 (keep hc6 (hr5.typ _ rfl) hb5' (by decide) H5)
    · refine newRow (sz := 2) (n := 0) rfl (by decide) fun b5 w5 hr5 hb5 hc5 => ?_
      have c5 := c3.trans0 hc5
      have H5 := H3.step0 hc5
      have hb5' : w.heap.size ≤ b5 := by have := c3.size; omega
      refine ⟨cell c5 rfl, cell c5 rfl, cell c5 rfl, cell c5 rfl, cell c5 rfl, ?_⟩
      have hr35 := hr3.chg hc5 (off_no _)
      refine app1 c5 hr35 hb3' fun q4 c4' w4 hr4 hc4 => ?_
      have c4 := out c5 hb3' hc4
      have H4 := keep hc4 (hr35.typ _ rfl) hb3' (by decide) H5
      refine ⟨cell c4 rfl, cell c4 rfl, cell c4 rfl, cell c4 rfl, ?_⟩
      have hr54 := other hc4 (hr35.typ _ rfl) hr5 (by decide)
      refine app2 c4 hr54 hb5' fun q6 c6' w6 hr6 hc6 => ?_
      have c6 := out c4 hb5' hc6
      refine ⟨cell c6 rfl, cell c6 rfl, cell c6 rfl, ?_⟩
      exact fin _ _ _ _ _ (other hc6 (hr54.typ _ rfl) hr4 (by decide)) hr6 (keep hc6 (hr54.typ _ rfl) hb5' (by decide) H4)
  · refine newRow (sz := 2) (n := 0) rfl (by decide) fun b5 w5 hr5 hb5 hc5 => ?_
    have c5 := c1.trans0 hc5
    have H5 := H1'.step0 hc5
    have hb5' : w.heap.size ≤ b5 := by omega
    refine ⟨cell c5 rfl, cell c5 rfl, cell c5 rfl, cell c5 rfl, cell c5 rfl, ?_⟩
    refine newRow (sz := 1) (n := 0) rfl (by decide) fun b3 w3 hr3 hb3 hc3 => ?_
    have c3 := c5.trans0 hc3
    have H3 := H5.step0 hc3
    have hb3' : w.heap.size ≤ b3 := by have := c5.size; omega
    refine ⟨cell c3 rfl, cell c3 rfl, cell c3 rfl, cell c3 rfl, cell c3 rfl, ?_⟩
    refine app1 c3 hr3 hb3' fun q4 c4' w4 hr4 hc4 => ?_
    have c4 := out c3 hb3' hc4
    have H4 := keep hc4 (hr3.typ _ rfl) hb3' (by decide) H3
    refine ⟨cell c4 rfl, cell c4 rfl, cell c4 rfl, cell c4 rfl, ?_⟩
    have hr54 := other hc4 (hr3.typ _ rfl) (hr5.chg hc3 (off_no _)) (by decide)
    refine app2 c4 hr54 hb5' fun q6 c6' w6 hr6 hc6 => ?_
    have c6 := out c4 hb5' hc6
    refine ⟨cell c6 rfl, cell c6 rfl, cell c6 rfl, ?_⟩
    exact fin _ _ _ _ _ (other hc6 (hr54.typ _ rfl) hr4 (by decide)) hr6 (keep hc6 (hr54.typ _ rfl) hb5' (by decide) H4)
end

end Go.Proofs.Ytfhmnodoahcmnaa
