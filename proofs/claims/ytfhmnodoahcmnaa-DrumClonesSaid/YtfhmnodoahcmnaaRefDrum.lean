/-
  The document's answer for chapter 13: the same drum, in its memory.
-/
import Derived.Test.YtfhmnodoahcmnaaVRef13
import Derived.Test.YtfhmnodoahcmnaaDrumC
import Derived.Test.YtfhmnodoahcmnaaRef01
import Derived.Test.YtfhmnodoahcmnaaHand
namespace Go.Proofs.Ytfhmnodoahcmnaa
open Go Go.Vc

def wcell (x : Nat × BV) : List Value := [.int .i64 x.1, .slice x.2.p x.2.l x.2.c]
theorem even_w (L : List (Nat × BV)) : Even wcell 2 L := fun _ _ => rfl
theorem one1_w (L : List (Nat × BV)) : one1 (rows wcell L) := one1_rows fun x _ => by
  intro v hv; simp only [wcell, List.mem_cons, List.not_mem_nil, or_false] at hv; rcases hv with rfl | rfl <;> rfl
theorem slT_refW : SlT Try.prog T_sl_ref13_Write T_ref13_Write 2 32 #[.int .i64 0, .slice none 0 0] := SlT.of (by kernel_rfl) (by kernel_rfl) rfl (by decide)

structure RV where
  sp : Option Addr
  sc : Nat
  lp : Option Addr
  lc : Nat
  hs : List BV
  ls : List (Nat × BV)
def RV.cells (v : RV) (D : DS) : List Value := [.slice v.sp v.hs.length v.sc, .slice v.lp v.ls.length v.lc, .int .i64 D.steps, .int .i64 D.fuse, .bool D.down]
structure RV.Ok (w : World) (v : RV) (D : DS) (G : List Nat) : Prop where
  ok : D.Ok
  safe : Row w T_sl_uint8 1 v.sp v.hs.length v.sc (rows BV.cells v.hs)
  hs : v.hs.map (·.bs) = D.safe
  hok : ∀ h ∈ v.hs, HandOk w h
  loose : Row w T_ref13_Write 2 v.lp v.ls.length v.lc (rows wcell v.ls)
  ls : v.ls.map (fun x => (x.1, x.2.bs)) = D.loose
  lok : ∀ x ∈ v.ls, HandOk w x.2
  gs : ∀ h ∈ v.hs, ∀ a, h.p = some a → a.block ∈ G
  gl : ∀ x ∈ v.ls, ∀ a, x.2.p = some a → a.block ∈ G
  gt : ∀ b ∈ G, typ w b = some T_uint8
/-- The blocks 'G' are those of its bytes. -/
def RefAt (w : World) (r : Nat) (G : List Nat) (D : DS) : Prop := ∃ v : RV, v.Ok w D G ∧ w.heap[r]? = some (.cells ⟨v.cells D⟩ T_ref13_Drum (0, 0))

def refTyp (e : TypeId) : Prop := e = T_uint8 ∨ e = T_sl_uint8 ∨ e = T_ref13_Write

section
variable {w w' : World} {r : Nat} {G : List Nat} {D : DS} {S : Nat → Prop}

theorem RV.Ok.chg {v : RV} (h : v.Ok w D G) (hc : Chg S w w') (hG : ∀ b ∈ G, ¬ S b) (hS : ∀ b e, typ w b = some e → e = T_sl_uint8 ∨ e = T_ref13_Write → ¬ S b) : v.Ok w' D G :=
  ⟨h.ok, h.safe.chg hc fun a ha => hS _ _ (h.safe.typ a ha) (.inl rfl), h.hs, fun x hx => (h.hok x hx).chgp hc fun a ha => hG _ (h.gs x hx a ha), h.loose.chg hc fun a ha => hS _ _ (h.loose.typ a ha) (.inr rfl), h.ls,
    fun x hx => (h.lok x hx).chgp hc fun a ha => hG _ (h.gl x hx a ha), h.gs, h.gl, fun b hb => typ_chg hc (h.gt b hb) (hG b hb)⟩
theorem RV.Ok.chgT {v : RV} (h : v.Ok w D G) (hc : Chg S w w') (hS : ∀ b e, typ w b = some e → refTyp e → ¬ S b) : v.Ok w' D G :=
  h.chg hc (fun b hb => hS b _ (h.gt b hb) (.inl rfl)) fun b e hb he => hS b e hb (.inr he)
theorem RefAt.frame (h : RefAt w r G D) (hc : Chg S w w') (hr : ¬ S r) (hG : ∀ b ∈ G, ¬ S b) (hS : ∀ b e, typ w b = some e → e = T_sl_uint8 ∨ e = T_ref13_Write → ¬ S b) : RefAt w' r G D := by
  obtain ⟨v, hv, hh⟩ := h
  exact ⟨v, hv.chg hc hG hS, hc.heap hh hr⟩
theorem RefAt.frameT (h : RefAt w r G D) (hc : Chg S w w') (hr : ¬ S r) (hS : ∀ b e, typ w b = some e → refTyp e → ¬ S b) : RefAt w' r G D := by
  obtain ⟨v, hv, hh⟩ := h
  exact ⟨v, hv.chgT hc hS, hc.heap hh hr⟩
theorem RefAt.step0 (h : RefAt w r G D) (hc : Chg No w w') : RefAt w' r G D := h.frameT hc id fun _ _ _ _ => id
theorem RefAt.gt (h : RefAt w r G D) : ∀ b ∈ G, typ w b = some T_uint8 := by obtain ⟨v, hv, hh⟩ := h; exact hv.gt
theorem RefAt.typ (h : RefAt w r G D) : typ w r = some T_ref13_Drum := by obtain ⟨v, hv, hh⟩ := h; exact typ_of hh
theorem RefAt.lt (h : RefAt w r G D) : r < w.heap.size := typ_lt h.typ
theorem RefAt.ok (h : RefAt w r G D) : D.Ok := by obtain ⟨v, hv, hh⟩ := h; exact hv.ok
theorem ref_apart {b : Nat} {e : TypeId} (hr : Go.Vc.typ w r = some T_ref13_Drum) (hb : Go.Vc.typ w b = some e) (he : refTyp e) : ¬ b = r := by
  rintro rfl
  rw [hr] at hb; cases hb
  revert he; unfold refTyp; decide

/-- The own block alone was written. -/
theorem RefAt.own {v : RV} {D' : DS} (hv : v.Ok w D G) (hr : Go.Vc.typ w r = some T_ref13_Drum) (hc : Chg (fun b => b = r) w w') (hh : w'.heap[r]? = some (.cells ⟨v.cells D'⟩ T_ref13_Drum (0, 0))) (ok : D'.Ok) (e1 : D'.safe = D.safe) (e2 : D'.loose = D.loose) : RefAt w' r G D' := by
  have h2 := hv.chgT hc fun b e hb he => ref_apart hr hb he
  exact ⟨v, ⟨ok, h2.safe, by rw [e1]; exact h2.hs, h2.hok, h2.loose, by rw [e2]; exact h2.ls, h2.lok, h2.gs, h2.gl, h2.gt⟩, hh⟩

theorem RefStep_ok {J : Bool → World → Prop} (h : RefAt w r G D) (k : ∀ w', RefAt w' r G D.step.1 → Chg (fun b => b = r) w w' → J (decide (D.step.2 = 0)) w') :
    callJ Try.prog fn_ref13_Drum_step #[.pointer (some ⟨r, 0, none⟩)] w [.one .bool] J := by
  obtain ⟨v, hv, hh⟩ := h
  have ok := hv.ok
  have hty := typ_of hh
  refine c_ref13_Drum_step ?_
  unfold VC_ref13_Drum_step
  dsimp only [nonNil]
  simp only [Addr.add_mk, Nat.zero_add]
  have H := (Hp.start w (fun b => b = r)).add hh (by simp) (fun _ => rfl)
  refine withJ_i fun J1 hJ => ?_
  refine H.ldI 0 rfl (off := 3) rfl ?_
  have hfuse := ok.fuse
  have key : ∀ w1 D1, Hp w (fun b => b = r) w1 [⟨r, v.cells D1, T_ref13_Drum⟩] → D1 = { D with down := D.down || decide (D.fuse = 0) } → J1 w1 := by
    intro w1 D1 H1 hD1
    subst hJ
    refine H1.ldB 0 rfl (off := 4) rfl ?_
    refine condB_i (fun hb => ?_) (fun hb => ?_)
    · have hs : D.step = (D1, 9) := by
        rw [hD1] at hb ⊢
        simp at hb
        rw [DS.step_bad hb.symm]
        rcases hb with hb | hb <;> simp [hb]
      rw [hs] at k
      refine k _ ?_ H1.chg
      refine RefAt.own hv hty H1.chg (H1.get 0 rfl) ?_ (by rw [hD1]) (by rw [hD1])
      rw [hD1]; exact ⟨ok.pos, ok.max, ok.safe, ok.loose, ok.count, ok.fuse⟩
    · rw [hD1] at hb
      simp at hb
      obtain ⟨hb1, hb2⟩ := hb
      have hD : D1 = D := by rw [hD1]; simp [hb2]
      subst hD
      refine H1.ldI 0 rfl (off := 2) rfl ?_
      refine H1.stV 0 rfl (off := 2) (by simp [RV.cells]) fun w2 H2 _ => ?_
      refine withJ_i fun J2 hJ2 => ?_
      refine H2.ldI 0 rfl (off := 3) rfl ?_
      rw [DS.step_good (by simp [hb1, hb2])] at k
      refine condB_d (fun hf => ?_) (fun hf => ?_)
      · refine H2.ldI 0 rfl (off := 3) rfl ?_
        refine H2.stV 0 rfl (off := 3) (by simp [RV.cells]) fun w3 H3 _ => ?_
        subst hJ2
        have e1 : w64 (D1.fuse - 1) = D1.fuse - 1 := by obtain ⟨a, b⟩ := hfuse; exact w64_of (by omega) (by omega)
        refine k _ (RefAt.own hv hty H3.chg ?_ ⟨ok.pos, ok.max, ok.safe, ok.loose, ok.count, ?_⟩ rfl rfl) H3.chg
        · have := H3.get 0 rfl
          simp only [RV.cells, List.set_cons_succ, List.set_cons_zero, e1] at this ⊢
          rw [this, if_pos hf]
        · obtain ⟨a, b⟩ := hfuse; simp only [gt_iff_lt] at hf; simp only [hf, if_true]; constructor <;> omega
      · subst hJ2
        refine k _ (RefAt.own hv hty H2.chg ?_ ⟨ok.pos, ok.max, ok.safe, ok.loose, ok.count, ?_⟩ rfl rfl) H2.chg
        · have := H2.get 0 rfl
          simp only [RV.cells, List.set_cons_succ, List.set_cons_zero] at this ⊢
          rw [this, if_neg hf]
        · simp only [gt_iff_lt] at hf; simp only [hf, if_false]; exact ok.fuse
  refine condB_eq (fun hf => ?_) (fun hf => ?_)
  · refine H.stV 0 rfl (off := 4) (by simp [RV.cells]) fun w2 H2 _ => ?_
    exact key w2 { D with down := true } H2 (by simp [hf])
  · exact key w D H (by simp [hf])

/-- The element of a range over the loose Writes. -/
theorem pickW {w2 : World} {v : RV} {K : Nat → World → Prop} {i : Nat} (hv : v.Ok w D G) (chg : Chg No w w2) (hi : i < v.ls.length)
    (k : ∀ b w4 x, v.ls[i]? = some x → w2.heap.size ≤ b → Hp w No w4 [⟨b, wcell x, T_ref13_Write⟩] → Chg No w2 w4 → K b w4) :
    idxA v.lp v.ls.length (i : Int) fun a => ldI .i64 w2 (a.add ((i : Int).toNat * 2)) fun n => ldS w2 ((a.add ((i : Int).toNat * 2)).add 1) fun p l c =>
      newB w2 (.cells (zeroC Try.prog T_ref13_Write) T_ref13_Write) fun b w3 => stN w3 ⟨b, 0, none⟩ ⟨[.int .i64 n, .slice p l c]⟩ 2 fun w4 => K b w4 := by
  refine idx_rows (hv.loose.chg chg (off_no _)).sl (even_w _) (by decide) (by omega) (by omega) fun a x ha hx hc => ?_
  refine ldI_i (n := x.1) (cellsAt_head hc) ?_
  refine ldS_i (p := x.2.p) (l := x.2.l) (c := x.2.c) (hc 1 _ rfl) ?_
  rw [show zeroC Try.prog T_ref13_Write = ⟨[.int .i64 0, .slice none 0 0]⟩ from by kernel_rfl]
  refine (Hp.of_chg chg).newB fun b w3 H3 hb hc3 => ?_
  refine H3.stN 0 rfl (off := 0) rfl (by decide) (by simp [one1, Value.oneCell']) fun w4 H4 hc4 => ?_
  simp only [Int.toNat_natCast] at hx
  exact k b w4 x hx hb (by simpa [splice, wcell] using H4) (hc3.trans hc4 fun y hy he => by subst he; omega)

theorem RefRead_ok {n : Int} {J : Option Addr → Nat → Nat → Int → World → Prop} (h : RefAt w r G D)
    (k : ∀ p c w', RefAt w' r G (D.read n).1 → Row w' T_uint8 1 p (D.read n).2.1.length c (bcells (D.read n).2.1) → fresh w p → Chg (fun b => b = r) w w' → J p (D.read n).2.1.length c (D.read n).2.2 w') :
    callJ Try.prog fn_ref13_Drum_Read #[.pointer (some ⟨r, 0, none⟩), .int .i64 n] w [.one .slice, .one (.int .i64)] J := by
  refine c_ref13_Drum_Read ?_
  unfold VC_ref13_Drum_Read
  dsimp only [nonNil]
  simp only [Addr.add_mk, Nat.zero_add]
  refine withJ_i fun J1 hJ1 => ?_
  have bad : n < 0 ∨ (D.safe.length : Int) ≤ n → J1 true w := fun hb => by
    have e : D.read n = (D, [], 1) := by simp only [DS.read, hb, if_true]
    rw [e] at k
    subst hJ1
    exact k none 0 w h (Row.nil _ _ _) (by rintro a ⟨⟩) (Chg.refl _ _)
  have good : ¬ (n < 0 ∨ (D.safe.length : Int) ≤ n) → J1 false w := fun hb => by
    have e : D.read n = (D.step.1, if D.step.2 = 0 then (D.now[n.toNat]?).getD [] else [], D.step.2) := by simp only [DS.read, hb, if_false]
    rw [e] at k
    dsimp only at k
    subst hJ1
    refine condB_i (fun h => by cases h) (fun _ => ?_)
    refine RefStep_ok h fun w2 h2 hc2 => ?_
    refine condB_i (fun hne => ?_) (fun he => ?_)
    · have hne' : ¬ D.step.2 = 0 := by simpa using hne
      have h9 : D.step.2 = 9 := (DS.step_ans D).resolve_left hne'
      rw [if_neg hne', h9] at k
      exact k none 0 w2 h2 (Row.nil _ _ _) (by rintro a ⟨⟩) hc2
    · have he' : D.step.2 = 0 := by simpa using he
      rw [he', if_pos rfl] at k
      have hb' : ¬ (n < 0 ∨ (D.step.1.safe.length : Int) ≤ n) := by rw [DS.step_safe]; exact hb
      rw [← DS.step_now] at k
      generalize D.step.1 = D1 at *
      obtain ⟨v, hv, hh⟩ := id h2
      have H := (Hp.start w2 (fun b => b = r)).add hh (by simp) (fun _ => rfl)
      have hsl : v.hs.length = D1.safe.length := by rw [← hv.hs, List.length_map]
      refine H.ldS 0 rfl (off := 0) rfl ?_
      refine idx_rows hv.safe.sl (even_BV _) (by decide) (by omega) (by omega) fun a hd ha hhd hc => ?_
      refine ldS_i (p := hd.p) (l := hd.l) (c := hd.c) (cellsAt_head hc) ?_
      refine H.ldS 0 rfl (off := 1) rfl ?_
      have hlt : n.toNat < D1.safe.length := by omega
      have hhd2 : D1.safe[n.toNat]? = some hd.bs := by rw [← hv.hs, List.getElem?_map, hhd]; rfl
      refine ⟨fun p l c x w' m => ∃ (i : Nat) (b : BV), x = i ∧ i ≤ v.ls.length ∧ m = v.ls.length - i ∧ p = b.p ∧ l = b.l ∧ c = b.c ∧ Chg No w2 w' ∧ HandOk w' b ∧ (standI D1.safe D1.loose (fun _ => true) i)[n.toNat]? = some b.bs,
        ⟨_, 0, hd, rfl, Nat.zero_le _, rfl, rfl, rfl, rfl, Chg.refl _ _, hv.hok hd (List.mem_of_getElem? hhd), hhd2⟩, ?_⟩
      rintro p l c x w' m ⟨i, b, rfl, hi, rfl, rfl, rfl, rfl, hcw, hok, hst⟩
      have hll : v.ls.length = D1.loose.length := by rw [← hv.ls, List.length_map]
      have hct := hv.ok.count
      refine condB_d (fun hb2 => ?_) (fun hb2 => ?_)
      · refine withJ_i fun J6 hJ6 => ?_
        refine pickW hv hcw (by omega) fun b8 w6 y hy hb8 H6 hc6 => ?_
        have hy2 : D1.loose[i]? = some (y.1, y.2.bs) := by rw [← hv.ls, List.getElem?_map, hy]; rfl
        have next : ∀ b' : BV, HandOk w6 b' → (standI D1.safe D1.loose (fun _ => true) (i + 1))[n.toNat]? = some b'.bs → J6 b'.p b'.l b'.c w6 := by
          intro b' h1' h2'
          subst hJ6
          refine ⟨v.ls.length - (i + 1), by omega, i + 1, b', ?_, by omega, rfl, rfl, rfl, rfl, H6.chg, h1', h2'⟩
          rw [w64_of] <;> omega
        clear hJ6
        rw [standI_succ _ _ _ hy2, if_pos rfl] at next
        refine H6.ldI 0 rfl (off := 0) rfl ?_
        have hlt2 : n.toNat < (standI D1.safe D1.loose (fun _ => true) i).length := by rw [standI_len]; exact hlt
        refine condB_eq (fun hyn => ?_) (fun hyn => ?_)
        · refine H6.ldS 0 rfl (off := 1) rfl ?_
          refine next y.2 ((hv.lok y (List.mem_of_getElem? hy)).chg H6.chg fun _ _ => id) ?_
          have : y.1 = n.toNat := by omega
          simp only [this]
          exact List.getElem?_set_self hlt2
        · refine next b (hok.chg hc6 fun _ _ => id) ?_
          rw [List.getElem?_set_ne (by omega)]
          exact hst
      · have hi' : i = D1.loose.length := by omega
        rw [hi', standI_all] at hst
        have hn : D1.now[n.toNat]? = some b.bs := hst
        rw [hn, Option.getD_some] at k
        obtain ⟨c2, hrow⟩ := hok
        have hbl : b.bs.length = b.l := hrow.bytes.len
        have h64 : b.bs.length = 64 := hv.ok.now _ (List.mem_of_getElem? hn)
        refine twin_row slT_u8 hrow.sl (one1_bcells _) hrow.none0 (by omega) (by simp only [maxLen]; omega) fun p8 c8 w8 hr8 hf8 hc8 => ?_
        rw [hbl] at k
        have hcc : Chg No w2 w8 := hcw.trans0 hc8
        refine k p8 c8 w8 (h2.step0 hcc) hr8 ?_ (hc2.trans0 hcc)
        intro a ha
        have := hf8 a ha; have := hc2.size; have := hcw.size; omega
  refine condB_d (fun hb => ?_) (fun hb => ?_)
  · exact bad (.inl hb)
  · obtain ⟨v, hv, hh⟩ := id h
    have H := (Hp.start w (fun b => b = r)).add hh (by simp) (fun _ => rfl)
    refine H.ldS 0 rfl (off := 0) rfl ?_
    have hsl : v.hs.length = D.safe.length := by rw [← hv.hs, List.length_map]
    by_cases hb2 : n ≥ (v.hs.length : Int)
    · rw [decide_eq_true hb2]; exact bad (.inr (by omega))
    · rw [decide_eq_false hb2]; exact good (by omega)
end

end Go.Proofs.Ytfhmnodoahcmnaa
