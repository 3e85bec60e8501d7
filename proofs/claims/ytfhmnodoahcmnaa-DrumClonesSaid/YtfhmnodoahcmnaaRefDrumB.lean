/-
  The document's answer for chapter 13: stand, Flush, Crash, Write, New, Twin.
-/
import Derived.Test.YtfhmnodoahcmnaaRefDrum
namespace Go.Proofs.Ytfhmnodoahcmnaa
open Go Go.Vc

section
variable {w w' : World} {r : Nat} {G : List Nat} {D : DS} {S : Nat → Prop}

def selOf (all : Bool) (ks : List Bool) : Nat → Bool := fun i => all || (ks[i]?).getD false

theorem RefStand_ok {p : Option Addr} {l c : Nat} {ks : List Bool} {all : Bool} {J : World → Prop} (h : RefAt w r G D) (hk : Sl w p l 1 (bools ks))
    (k : ∀ w', RefAt w' r G (D.stand (selOf all ks)) → Chg (fun b => b = r) w w' → J w') :
    callJ Try.prog fn_ref13_Drum_stand #[.pointer (some ⟨r, 0, none⟩), .slice p l c, .bool all] w [] J := by
  refine c_ref13_Drum_stand ?_
  unfold VC_ref13_Drum_stand
  dsimp only [nonNil]
  simp only [Addr.add_mk, Nat.zero_add]
  obtain ⟨v, hv, hh⟩ := id h
  have ok := hv.ok
  have hty := typ_of hh
  have hsl : v.hs.length = D.safe.length := by rw [← hv.hs, List.length_map]
  have hll : v.ls.length = D.loose.length := by rw [← hv.ls, List.length_map]
  have hmx := ok.max
  have hpos := ok.pos
  have hct := ok.count
  have cell : ∀ {w' : World} {off : Nat} {x : Value}, Chg No w w' → (v.cells D)[off]? = some x → w'.cell? ⟨r, off, none⟩ = some x := fun hc hx => by
    rw [cell_of_row _ r _ _ _ (0, 0) (hc.heap hh id)]; simpa using hx
  -- the safe sectors once more
  refine (Hp.start w No).newB fun b9 w1 H1 hb9 hc1 => ?_
  refine ldS_i (cell hc1 rfl) ?_
  refine appJ_row slT_sl_u8 (H1.asRow 0 rfl (xs := []) (rest := []) rfl (by simp) (Nat.le_refl _) (Nat.zero_le _) (by simp)) (hv.safe.chg hc1 (off_no _)).sl (one1_BV _) (hv.safe.none0) (by omega) (by simp only [maxLen]; omega)
    fun q c' w2 hr hc hf => ?_
  rw [List.nil_append, Nat.zero_add] at hr
  rw [Nat.zero_add]
  have hc2 : Chg No w w2 := hc1.trans hc (by rintro x hx ⟨a, ⟨⟩, hax⟩; simp only at hax; omega)
  have hfq : fresh w q := by
    rcases hf with rfl | hf
    · rintro a ⟨⟩; exact hb9
    · intro a ha; exact Nat.le_trans hc1.size (hf a ha)
  obtain ⟨bq, rest, hq, hqh, hle, hmax, hcells⟩ := hr.some0 (by omega)
  subst hq
  have hbq := hfq _ rfl
  simp only at hbq
  refine ldS_i (cell hc2 rfl) ?_
  refine ⟨fun x w' m => ∃ (i : Nat) (hs : List BV), x = i ∧ i ≤ v.ls.length ∧ m = v.ls.length - i ∧ Hp w No w' [⟨bq, rows BV.cells hs ++ rest, T_sl_uint8⟩] ∧ hs.map (·.bs) = standI D.safe D.loose (selOf all ks) i ∧ (∀ h ∈ hs, HandOk w' h ∧ ∀ a, h.p = some a → a.block ∈ G),
    ⟨_, 0, v.hs, rfl, Nat.zero_le _, rfl, (Hp.of_chg hc2).add hqh (by simp) (fun h => absurd h (by omega)), hv.hs, fun x hx => ⟨(hv.hok x hx).chg hc2 fun _ _ => id, hv.gs x hx⟩⟩, ?_⟩
  rintro x w3 m ⟨i, hs, rfl, hi, rfl, H3, hmap, hhs⟩
  have hsl3 : hs.length = D.safe.length := by have := congrArg List.length hmap; rwa [List.length_map, standI_len] at this
  refine condB_d (fun hb => ?_) (fun hb => ?_)
  · refine withJ_i fun J0 hJ0 => ?_
    refine pickW hv H3.chg (by omega) fun b8 w6 y hy hb8 H6 hc6 => ?_
    have hy2 : D.loose[i]? = some (y.1, y.2.bs) := by rw [← hv.ls, List.getElem?_map, hy]; rfl
    have hyl := ok.loose _ (List.mem_of_getElem? hy2)
    have next : ∀ w' hs', Hp w No w' [⟨bq, rows BV.cells hs' ++ rest, T_sl_uint8⟩] → hs'.map (·.bs) = standI D.safe D.loose (selOf all ks) (i + 1) → (∀ h ∈ hs', HandOk w' h ∧ ∀ a, h.p = some a → a.block ∈ G) → J0 w' := by
      intro w' hs' a1 a2 a3
      subst hJ0
      refine ⟨v.ls.length - (i + 1), by omega, i + 1, hs', ?_, by omega, rfl, a1, a2, a3⟩
      rw [w64_of] <;> omega
    clear hJ0
    rw [standI_succ _ _ _ hy2] at next
    refine withJ_i fun J37 hJ37 => ?_
    have go : J37 (selOf all ks i) w6 := by
      subst hJ37
      refine condB_i (fun hs' => ?_) (fun hs' => ?_)
      · rw [hs'] at next
        simp only [if_true] at next
        refine H6.ldI 0 rfl (off := 0) rfl ?_
        refine H6.ldS 0 rfl (off := 1) rfl ?_
        refine idxA_i (by omega) (by simp only at hyl; omega) ?_
        rw [Addr.add_mk, Nat.zero_add, Nat.mul_one, Int.toNat_natCast]
        have hlt : y.1 < hs.length := by simp only at hyl; omega
        have Hq : Hp w No w6 [⟨bq, rows BV.cells hs ++ rest, T_sl_uint8⟩] := H3.step0 hc6
        refine Hq.stV 0 rfl (off := y.1) (by simp only [List.length_append, rows_len (even_BV _)]; omega) fun w7 H7 hc7 => ?_
        have e : (rows BV.cells hs ++ rest).set y.1 (.slice y.2.p y.2.l y.2.c) = rows BV.cells (hs.set y.1 y.2) ++ rest := by
          have h1 := rows_splice (f := BV.cells) (k := 1) (L := hs) (even_BV _) hlt (x := y.2) rfl
          have hl : y.1 < (rows BV.cells hs).length := by rw [rows_len (even_BV _)]; omega
          rw [← h1, Nat.mul_one, List.set_append_left _ _ hl]
          congr 1
          simp only [splice, BV.cells, List.length_singleton]
          rw [List.set_eq_take_append_cons_drop, if_pos hl]; simp
        rw [e] at H7
        simp only [List.set_cons_zero] at H7
        have hub : ∀ b, typ w6 b = some T_uint8 → ¬ b = bq := by
          rintro b hb rfl
          rw [typ_of (Hq.get 0 rfl)] at hb
          revert hb; decide
        refine next w7 (hs.set y.1 y.2) H7 (by rw [List.map_set, hmap]) fun x hx => ?_
        rcases List.mem_or_eq_of_mem_set hx with hx | rfl
        · exact ⟨((hhs x hx).1.chg hc6 fun _ _ => id).chg hc7 hub, (hhs x hx).2⟩
        · exact ⟨((hv.lok y (List.mem_of_getElem? hy)).chg H6.chg fun _ _ => id).chg hc7 hub, hv.gl y (List.mem_of_getElem? hy)⟩
      · rw [hs'] at next
        exact next w6 hs (H3.step0 hc6) hmap fun x hx => ⟨(hhs x hx).1.chg hc6 fun _ _ => id, (hhs x hx).2⟩
    refine condB_i (fun ha => ?_) (fun ha => ?_)
    · have : selOf all ks i = true := by simp [selOf, ha]
      rw [← this]; exact go
    · have hkl : ks.length = l := by have := hk.1; simpa [bools] using this
      refine condB_d (fun hb2 => ?_) (fun hb2 => ?_)
      · refine idx_sl (hk.chg H6.chg (off_no _)) (by omega) (by omega) fun a _ hc => ?_
        refine ldB_i (b := selOf all ks i) ?_ go
        have hlt : i < ks.length := by omega
        have := hc 0 (.bool (selOf all ks i)) (by
          rw [List.getElem?_drop]
          simp [selOf, ha, bools, hlt])
        rwa [add_zero'] at this
      · have : selOf all ks i = false := by simp [selOf, ha]; rw [List.getElem?_eq_none (by omega)]; rfl
        rw [← this]; exact go
  · have hi' : i = D.loose.length := by omega
    rw [hi', standI_all] at hmap
    have hne : bq ≠ r := by have := lt_of_heap hh; omega
    have H4 : Hp w (fun b => b = r) w3 _ := (H3.mono (S' := fun b => b = r) fun _ _ hf => hf.elim).add (H3.chg.heap hh id) (by simpa using hne) (fun _ => rfl)
    refine H4.stV 0 rfl (off := 0) (by simp [RV.cells]) fun w9 H9 hc9 => ?_
    refine H9.stV 0 rfl (off := 1) (by simp [RV.cells]) fun w10 H10 hc10 => ?_
    have hc310 : Chg (fun b => b = r) w3 w10 := hc9.trans hc10 fun _ _ => id
    have hty3 : typ w3 r = some T_ref13_Drum := typ_chg H3.chg hty id
    have hok := ok.stand (selOf all ks)
    refine k w10 ⟨⟨some ⟨bq, 0, none⟩, c', none, 0, hs, []⟩, ⟨hok, ?_, hmap, fun x hx => (hhs x hx).1.chg hc310 fun b hb => ref_apart hty3 hb (.inl rfl), Row.nil _ _ _, by simp [DS.stand], by simp, fun x hx => (hhs x hx).2, by simp, fun b hb => typ_chg hc310 (typ_chg H3.chg (hv.gt b hb) id) (ref_apart hty3 (typ_chg H3.chg (hv.gt b hb) id) (.inl rfl))⟩, ?_⟩ H10.chg
    · refine H10.asRow 1 rfl (rest := rest) rfl (by rw [rows_len (even_BV _)]) (by simp only; omega) hmax ?_
      rw [← hcells, List.length_append, List.length_append, rows_len (even_BV _), rows_len (even_BV _), hsl, hsl3]
    · have := H10.get 0 rfl
      simp only [RV.cells, List.set_cons_succ, List.set_cons_zero] at this ⊢
      rw [this]; simp [DS.stand, hsl, hsl3]

theorem RefFlush_ok {J : Int → World → Prop} (h : RefAt w r G D) (k : ∀ w', RefAt w' r G D.flush.1 → Chg (fun b => b = r) w w' → J D.flush.2 w') :
    callJ Try.prog fn_ref13_Drum_Flush #[.pointer (some ⟨r, 0, none⟩)] w [.one (.int .i64)] J := by
  refine c_ref13_Drum_Flush ?_
  unfold VC_ref13_Drum_Flush
  unfold DS.flush at k
  refine RefStep_ok h fun w2 h2 hc2 => ?_
  refine condB_i (fun hne => ?_) (fun he => ?_)
  · have hne' : ¬ D.step.2 = 0 := by simpa using hne
    have h9 : D.step.2 = 9 := (DS.step_ans D).resolve_left hne'
    rw [if_neg hne', h9] at k
    exact k w2 h2 hc2
  · have he' : D.step.2 = 0 := by simpa using he
    rw [he', if_pos rfl] at k
    refine RefStand_ok (ks := []) h2 (Sl.nil _ _ _) fun w3 h3 hc3 => ?_
    exact k w3 h3 (hc2.trans hc3 fun _ _ => id)

theorem RefCrash_ok {p : Option Addr} {l c : Nat} {ks : List Bool} {J : World → Prop} (h : RefAt w r G D) (hk : Sl w p l 1 (bools ks))
    (k : ∀ w', RefAt w' r G (D.crash ks) → Chg (fun b => b = r) w w' → J w') :
    callJ Try.prog fn_ref13_Drum_Crash #[.pointer (some ⟨r, 0, none⟩), .slice p l c] w [] J := by
  refine c_ref13_Drum_Crash ?_
  unfold VC_ref13_Drum_Crash
  dsimp only [nonNil]
  simp only [Addr.add_mk, Nat.zero_add]
  refine RefStand_ok h hk fun w1 h1 hc1 => ?_
  have e : selOf false ks = fun i => (ks[i]?).getD false := by funext i; simp [selOf]
  rw [e] at h1
  obtain ⟨v, hv, hh⟩ := id h1
  have H := (Hp.start w1 (fun b => b = r)).add hh (by simp) (fun _ => rfl)
  refine H.stV 0 rfl (off := 3) (by simp [RV.cells]) fun w2 H2 hc2 => ?_
  refine H2.stV 0 rfl (off := 4) (by simp [RV.cells]) fun w3 H3 hc3 => ?_
  refine k w3 (RefAt.own hv h1.typ H3.chg ?_ ⟨hv.ok.pos, hv.ok.max, hv.ok.safe, hv.ok.loose, hv.ok.count, by constructor <;> simp [DS.crash]⟩ rfl rfl) (hc1.trans H3.chg fun _ _ => id)
  have := H3.get 0 rfl
  simp only [RV.cells, List.set_cons_succ, List.set_cons_zero] at this ⊢
  rw [this]; rfl

theorem full_ok {p : Option Addr} {l c : Nat} {bs : List UInt8} {J : Option Addr → Nat → Nat → World → Prop} (hb : Bytes w p l bs) (hl : l ≤ 64)
    (k : ∀ b w', Row w' T_uint8 1 (some ⟨b, 0, none⟩) 64 64 (bcells (pad bs)) → w.heap.size ≤ b → Chg No w w' → J (some ⟨b, 0, none⟩) 64 64 w') :
    callJ Try.prog fn_ref13_full #[.slice p l c] w [.one .slice] J := by
  refine c_ref13_full ?_
  unfold VC_ref13_full
  rw [show zeroC Try.prog T_uint8 = #[.int .u8 0] from by kernel_rfl]
  have hbl := hb.len
  refine (Hp.start w No).mkS (by decide) (by decide) (by decide) (by decide) (by decide) fun b5 w1 H1 hb5 hc1 => ?_
  have e0 : (List.replicate (Int.toNat 64) (#[Value.int .u8 0] : Array Value).toList).flatten = bcells (bs.take 0 ++ List.replicate (64 - 0) 0) := rfl
  refine ⟨fun x w' m => ∃ i : Nat, x = i ∧ i ≤ l ∧ m = l - i ∧ Hp w No w' [⟨b5, bcells (bs.take i ++ List.replicate (64 - i) 0), T_uint8⟩], ⟨_, 0, rfl, Nat.zero_le _, rfl, e0 ▸ H1⟩, ?_⟩
  rintro x w2 m ⟨i, rfl, hi, rfl, H2⟩
  refine condB_d (fun hx => ?_) (fun hx => ?_)
  · refine byte_i (H2.oldBytes hb (off_no _)) (by omega) (by omega) fun b hbi => ?_
    refine idxA_i (by omega) (by omega) ?_
    rw [Addr.add_mk, Nat.zero_add, Nat.mul_one, Int.toNat_natCast]
    rw [Int.toNat_natCast] at hbi
    refine H2.stV 0 rfl (off := i) (by rw [bcells_length]; simp; omega) fun w3 H3 hc3 => ?_
    refine ⟨l - (i + 1), by omega, i + 1, ?_, by omega, rfl, ?_⟩
    · rw [w64_of] <;> omega
    · have e : (bcells (bs.take i ++ List.replicate (64 - i) 0)).set i (.int .u8 b.toNat) = bcells (bs.take (i + 1) ++ List.replicate (64 - (i + 1)) 0) := by
        have e1 : 64 - i = (64 - (i + 1)) + 1 := by omega
        have hlt : i < bs.length := by omega
        have hget : bs[i] = b := by rw [List.getElem?_eq_getElem hlt] at hbi; exact Option.some.inj hbi
        rw [e1, List.replicate_succ, List.take_succ_eq_append_getElem hlt, hget]
        simp only [bcells, List.map_append, List.map_cons, List.map_nil]
        have hli : (List.map (fun b : UInt8 => Value.int .u8 b.toNat) (bs.take i)).length = i := by simp; omega
        rw [List.set_append_right _ _ (by omega), hli, Nat.sub_self]
        simp
      rw [e] at H3
      exact H3
  · have hi' : i = l := by omega
    subst hi'
    have e : bs.take i ++ List.replicate (64 - i) 0 = pad bs := by rw [List.take_of_length_le (by omega)]; unfold pad; rw [hbl]
    rw [e] at H2
    have hp64 := pad_len (p := bs) (by omega)
    exact k b5 w2 (H2.asRow 0 rfl (rest := []) (by simp) (by rw [bcells_length, hp64]) (Nat.le_refl _) (by decide) (by rw [bcells_length, hp64])) hb5 H2.chg

theorem RefWrite_ok {n : Int} {p : Option Addr} {l c : Nat} {bs : List UInt8} {J : Int → World → Prop} (h : RefAt w r G D) (hb : Bytes w p l bs) (hoff : off p (fun b => b = r)) (hcount : D.loose.length < 1000000000)
    (k : ∀ w' G', RefAt w' r G' (D.write n bs).1 → Chg (fun b => b = r) w w' → (∀ b ∈ G', b ∈ G ∨ w.heap.size ≤ b) → J (D.write n bs).2 w') :
    callJ Try.prog fn_ref13_Drum_Write #[.pointer (some ⟨r, 0, none⟩), .int .i64 n, .slice p l c] w [.one (.int .i64)] J := by
  have hl := hb.len
  refine c_ref13_Drum_Write ?_
  unfold VC_ref13_Drum_Write
  dsimp only [nonNil]
  simp only [Addr.add_mk, Nat.zero_add]
  refine withJ_i fun J1 hJ1 => ?_
  have bad : n < 0 ∨ (D.safe.length : Int) ≤ n → J1 true w := fun hb => by
    have e : D.write n bs = (D, 1) := by simp only [DS.write, hb, if_true]
    rw [e] at k
    subst hJ1
    exact k w G h (Chg.refl _ _) (fun _ => .inl)
  have good : ¬ (n < 0 ∨ (D.safe.length : Int) ≤ n) → J1 false w := fun hb' => by
    subst hJ1
    refine condB_i (fun h => by cases h) (fun _ => ?_)
    refine condB_d (fun h6 => ?_) (fun h6 => ?_)
    · have e : D.write n bs = (D, 6) := by simp only [DS.write, hb', if_false]; rw [if_pos (by omega)]
      rw [e] at k
      exact k w G h (Chg.refl _ _) (fun _ => .inl)
    · have e : D.write n bs = (if D.step.2 = 0 then { D.step.1 with loose := D.loose ++ [(n.toNat, pad bs)] } else D.step.1, D.step.2) := by
        simp only [DS.write, hb', if_false]; rw [if_neg (by omega)]
      rw [e] at k
      dsimp only at k
      refine RefStep_ok h fun w2 h2 hc2 => ?_
      refine condB_i (fun hne => ?_) (fun he => ?_)
      · have hne' : ¬ D.step.2 = 0 := by simpa using hne
        have h9 : D.step.2 = 9 := (DS.step_ans D).resolve_left hne'
        rw [if_neg hne', h9] at k
        exact k w2 G h2 hc2 (fun _ => .inl)
      · have he' : D.step.2 = 0 := by simpa using he
        rw [he', if_pos rfl] at k
        have hb'' : ¬ (n < 0 ∨ (D.step.1.safe.length : Int) ≤ n) := by rw [DS.step_safe]; exact hb'
        rw [← DS.step_loose] at k hcount
        generalize D.step.1 = D1 at *
        have hb2 := hb.chg hc2 hoff
        obtain ⟨v, hv, hh⟩ := id h2
        have ok := hv.ok
        have hty := typ_of hh
        have hll : v.ls.length = D1.loose.length := by rw [← hv.ls, List.length_map]
        have cell : ∀ {w' : World} {off : Nat} {x : Value}, Chg No w2 w' → (v.cells D1)[off]? = some x → w'.cell? ⟨r, off, none⟩ = some x := fun hc hx => by
          rw [cell_of_row _ r _ _ _ (0, 0) (hc.heap hh id)]; simpa using hx
        refine (Hp.start w2 No).newB fun b3 w3 H3 hb3 hc3 => ?_
        refine ldS_i (cell hc3 rfl) ?_
        refine appJ_row slT_refW (H3.asRow 0 rfl (xs := []) (rest := []) rfl (by simp) (Nat.le_refl _) (Nat.zero_le _) (by simp)) (hv.loose.chg hc3 (off_no _)).sl (one1_w _) (hv.loose.none0) (by omega) (by simp only [maxLen]; omega)
          fun q4 c4 w4 hr4 hc4 hf4 => ?_
        rw [List.nil_append, Nat.zero_add] at hr4
        rw [Nat.zero_add]
        have hc24 : Chg No w2 w4 := hc3.trans hc4 (by rintro x hx ⟨a, ⟨⟩, hax⟩; simp only at hax; omega)
        have hf24 : fresh w2 q4 := by
          rcases hf4 with rfl | hf
          · rintro a ⟨⟩; exact hb3
          · intro a ha; exact Nat.le_trans hc3.size (hf a ha)
        refine full_ok (hb2.chg hc24 (off_no _)) (by omega) fun b5 w5 hr5 hb5 hc5 => ?_
        refine ⟨rfl, ?_⟩
        refine newRow (sz := 2) (n := 1) rfl (by decide) fun b6 w6 hr6 hb6 hc6 => ?_
        have hr46 := (hr4.chg hc5 (off_no _)).chg hc6 (off_no _)
        refine appJ_row slT_refW hr46 hr6.sl (by intro x hx; simp only [List.mem_cons, List.not_mem_nil, or_false] at hx; rcases hx with rfl | rfl <;> rfl) (by simp) (by omega) (by simp only [maxLen]; omega) fun q7 c7 w7 hr7 hc7 hf7 => ?_
        have hc27 : Chg No w2 w7 := ((hc24.trans0 hc5).trans0 hc6).trans hc7 (by
          rintro x hx ⟨a, ha, hax⟩
          have := hf24 a ha; omega)
        have H7 := (Hp.of_chg (hc27.mono (S' := fun b => b = r) fun _ _ hf => hf.elim)).add (hc27.heap hh id) (by simp) (fun _ => rfl)
        refine H7.stV 0 rfl (off := 1) (by simp [RV.cells]) fun w8 H8 hc8 => ?_
        have hty7 : typ w7 r = some T_ref13_Drum := typ_chg hc27 hty id
        have hv7 := hv.chgT hc27 fun _ _ _ _ => id
        have ap : ∀ {b : Nat} {e : TypeId}, typ w7 b = some e → refTyp e → ¬ b = r := fun h1 h2 => ref_apart hty7 h1 h2
        have hnews : (Value.int .i64 n :: [.slice (some ⟨b5, 0, none⟩) 64 64]) = wcell (n.toNat, ⟨some ⟨b5, 0, none⟩, 64, 64, pad bs⟩) := by
          simp only [wcell]; congr 2; omega
        have hp64 := pad_len (p := bs) (by omega)
        have hhand : HandOk w7 ⟨some ⟨b5, 0, none⟩, 64, 64, pad bs⟩ := by
          refine ⟨64, (hr5.chg hc6 (off_no _)).chg hc7 ?_⟩
          rintro a ⟨⟩ ⟨a', ha', he⟩
          have h1 := hr46.typ a' ha'
          have h2 := (hr5.chg hc6 (off_no _)).typ _ rfl
          rw [he, h2] at h1
          revert h1; decide
        refine k w8 (b5 :: G) ⟨⟨v.sp, v.sc, q7, c7, v.hs, v.ls ++ [(n.toNat, ⟨some ⟨b5, 0, none⟩, 64, 64, pad bs⟩)]⟩, ⟨⟨ok.pos, ok.max, ok.safe, ?_, ?_, ok.fuse⟩, ?_, hv.hs, ?_, ?_, ?_, ?_, fun x hx a ha => List.mem_cons_of_mem _ (hv.gs x hx a ha), ?_, ?_⟩, ?_⟩ (hc2.trans H8.chg fun _ _ => id) ?_
        · intro x hx
          rcases List.mem_append.1 hx with hx | hx
          · exact ok.loose x hx
          · simp only [List.mem_singleton] at hx; subst hx; exact ⟨by simp only; omega, hp64⟩
        · simp only [List.length_append, List.length_singleton]; omega
        · exact hv7.safe.chg hc8 fun a ha => ap (hv7.safe.typ a ha) (.inr (.inl rfl))
        · exact fun x hx => (hv7.hok x hx).chg hc8 fun b hb => ap hb (.inl rfl)
        · have := hr7.chg hc8 fun a ha => ap (hr7.typ a ha) (.inr (.inr rfl))
          rw [hnews] at this
          simp only [List.length_append, List.length_singleton, rows_append, rows_cons, rows_nil, List.append_nil]
          exact this
        · simp only [List.map_append, List.map_cons, List.map_nil, hv.ls]
        · intro x hx
          rcases List.mem_append.1 hx with hx | hx
          · exact (hv7.lok x hx).chg hc8 fun b hb => ap hb (.inl rfl)
          · simp only [List.mem_singleton] at hx; subst hx
            exact hhand.chg hc8 fun b hb => ap hb (.inl rfl)
        · intro x hx a ha
          rcases List.mem_append.1 hx with hx | hx
          · exact List.mem_cons_of_mem _ (hv.gl x hx a ha)
          · simp only [List.mem_singleton] at hx; subst hx; cases ha; exact List.mem_cons_self
        · intro b hb
          have h7 : Go.Vc.typ w7 b = some T_uint8 := by
            rcases List.mem_cons.1 hb with rfl | hb
            · obtain ⟨c9, hr9⟩ := hhand; exact hr9.typ _ rfl
            · exact hv7.gt b hb
          exact typ_chg hc8 h7 (ap h7 (.inl rfl))
        · have := H8.get 0 rfl
          simp only [RV.cells, List.set_cons_succ, List.set_cons_zero] at this ⊢
          rw [this]; simp
        · intro b hb
          rcases List.mem_cons.1 hb with rfl | hb
          · right; have := hc2.size; have := hc24.size; omega
          · exact .inl hb
  refine condB_d (fun hb => ?_) (fun hb => ?_)
  · exact bad (.inl hb)
  · obtain ⟨v, hv, hh⟩ := id h
    have H := (Hp.start w (fun b => b = r)).add hh (by simp) (fun _ => rfl)
    refine H.ldS 0 rfl (off := 0) rfl ?_
    have hsl : v.hs.length = D.safe.length := by rw [← hv.hs, List.length_map]
    by_cases hb2 : n ≥ (v.hs.length : Int)
    · rw [decide_eq_true hb2]; exact bad (.inr (by omega))
    · rw [decide_eq_false hb2]; exact good (by omega)
end

end Go.Proofs.Ytfhmnodoahcmnaa
