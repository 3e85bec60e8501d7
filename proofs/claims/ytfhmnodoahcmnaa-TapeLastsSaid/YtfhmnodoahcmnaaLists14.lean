/-
  Chapter 14's helpers of the statements: sectors, filled, all, same.
-/
import Derived.Test.YtfhmnodoahcmnaaRef14
import Derived.Test.YtfhmnodoahcmnaaAwake14
import Derived.Test.YtfhmnodoahcmnaaRef01
namespace Go.Proofs.Ytfhmnodoahcmnaa
open Go Go.Vc

/-- Slices of bytes in a slice, wherever they lie. -/
structure Lst (w : World) (p : Option Addr) (l : Nat) (L : List (List UInt8)) (hs : List BV) : Prop where
  sl : Sl w p l 1 (rows BV.cells hs)
  is : hs.map (·.bs) = L
  all : ∀ h ∈ hs, Bytes w h.p h.l h.bs ∧ h.l ≤ h.c ∧ (h.p = none → h.l = 0)
section
variable {w0 w w' : World} {p : Option Addr} {l c : Nat} {L : List (List UInt8)} {hs : List BV}
theorem Lst.len (h : Lst w p l L hs) : hs.length = l ∧ L.length = l := by
  have := h.sl.row (even_BV hs) (by decide)
  exact ⟨this, by rw [← h.is]; simpa using this⟩
theorem Rows.lst (h : Rows w0 w p l c L hs) : Lst w p l L hs := ⟨h.row.sl, h.is, fun x hx => ⟨(h.hand x hx).bytes, (Row.le (h.hand x hx)).1, Row.none0 (h.hand x hx)⟩⟩
theorem Lst.chg0 (h : Lst w p l L hs) (hc : Chg No w w') : Lst w' p l L hs := ⟨h.sl.chg hc (off_no _), h.is, fun x hx => ⟨(h.all x hx).1.chg hc (off_no _), (h.all x hx).2⟩⟩
theorem Lst.at (h : Lst w p l L hs) {i : Int} (h0 : 0 ≤ i) (h1 : i < l) {K : Addr → Prop}
    (k : ∀ a x b, hs[i.toNat]? = some x → L[i.toNat]? = some b → x.bs = b → Bytes w x.p x.l b → x.l ≤ x.c → (x.p = none → x.l = 0) → w.cell? (a.add (i.toNat * 1)) = some (.slice x.p x.l x.c) → p = some a → K a) : idxA p l i K := by
  refine idx_rows h.sl (even_BV hs) (by decide) h0 h1 fun a x hp hx hc => ?_
  obtain ⟨q1, q2, q3⟩ := h.all x (List.mem_of_getElem? hx)
  refine k a x x.bs hx ?_ rfl q1 q2 q3 (by have := hc 0 _ rfl; rwa [add_zero'] at this) hp
  rw [← h.is, List.getElem?_map, hx]; rfl
theorem Lst.take (h : Lst w p l L hs) {c lo hi : Nat} (h1 : lo ≤ hi) (h2 : hi ≤ l) (h3 : l ≤ c) {K : Option Addr → Nat → Nat → Prop} {olo ohi : Option Int} (e1 : olo.getD 0 = (lo : Int)) (e2 : ohi.getD l = (hi : Int))
    (k : ∀ p', Lst w p' (hi - lo) ((L.drop lo).take (hi - lo)) ((hs.drop lo).take (hi - lo)) → K p' (hi - lo) (c - lo)) : slS p l c 1 olo ohi none K := by
  refine slS_sl (i := lo) (j := hi) h.sl e1 e2 h1 h2 h3 fun p' hp' _ => k p' ⟨?_, ?_, fun x hx => h.all x (List.mem_of_mem_drop (List.mem_of_mem_take hx))⟩
  · rw [rows_drop (even_BV hs), rows_take ((even_BV hs).drop lo)] at hp'
    exact hp'
  · rw [← h.is, List.map_take, List.map_drop]

theorem sectors_ok14 {bp : Option Addr} {bl bc most : Nat} {bs : List UInt8} {J : Option Addr → Nat → Nat → World → Prop} (h : Bytes w bp bl bs) (hlc : bl ≤ bc) (hm : most ≤ 1000) (hb : bl ≤ 140737488351232)
    (k : ∀ p l c L hs w', Rows w w' p l c L hs → (∀ s ∈ L, s.length = 64) → l ≤ most → Chg No w w' → J p l c w') :
    callJ Try.prog fn_law14_sectors #[.slice bp bl bc, .int .i64 (most : Int)] w [.one .slice] J := by
  refine c_law14_sectors ?_
  unfold VC_law14_sectors
  refine ⟨fun p l c x w' m => ∃ (i : Nat) (L : List (List UInt8)) (hs : List BV), x = ((64 * i : Nat) : Int) ∧ l = i ∧ m = most - i ∧ i ≤ most ∧ 64 * i ≤ bl + 63 ∧ Rows w w' p l c L hs ∧ (∀ s ∈ L, s.length = 64) ∧ Chg No w w',
    ⟨_, 0, [], [], rfl, rfl, rfl, Nat.zero_le _, by omega, Rows.nil _ _, by simp, Chg.refl _ _⟩, ?_⟩
  rintro p l c x w1 m ⟨i, L, hs, rfl, rfl, rfl, hi, h64, hR, hL, hc⟩
  refine withJ_i fun J16 hJ16 => ?_
  have stop : J16 false w1 := by
    subst hJ16
    refine condB_i (fun h => by simp at h) fun _ => ?_
    exact k p l c L hs w1 hR hL hi hc
  refine condB_d (fun hlt => ?_) (fun _ => stop)
  by_cases hmost : (l : Int) < (most : Int)
  · rw [decide_eq_true hmost]
    subst hJ16
    refine condB_i (fun _ => ?_) (fun h => by simp at h)
    have e2 : w64 (((64 * l : Nat) : Int) + 64) = ((64 * (l + 1) : Nat) : Int) := by rw [w64_of] <;> omega
    rw [e2]
    have e3 : (if ((64 * (l + 1) : Nat) : Int) < ((bl : Nat) : Int) then ((64 * (l + 1) : Nat) : Int) else ((bl : Nat) : Int)) = ((min bl (64 * (l + 1)) : Nat) : Int) := by split <;> omega
    rw [e3]
    refine slS_sl (i := 64 * l) (j := min bl (64 * (l + 1))) (h.chg hc (off_no _)) rfl rfl (by omega) (by omega) hlc fun q hq _ => ?_
    have hbl := h.len
    have hqb : Bytes w1 q (min bl (64 * (l + 1)) - 64 * l) ((bs.drop (64 * l)).take (min bl (64 * (l + 1)) - 64 * l)) := by
      have e : ((bcells bs).drop (64 * l * 1)).take ((min bl (64 * (l + 1)) - 64 * l) * 1) = bcells ((bs.drop (64 * l)).take (min bl (64 * (l + 1)) - 64 * l)) := by
        unfold bcells; rw [Nat.mul_one, Nat.mul_one, ← List.map_drop, ← List.map_take]
      rw [e] at hq; exact hq
    refine Fill_ok (k := 64) hqb (by omega) (by decide) fun b2 w2 hr2 hb2 hc2 => ?_
    have hR2 := hR.chg0 hc2
    refine hR2.push (x := ⟨some ⟨b2, 0, none⟩, 64, 64, fillTo 64 ((bs.drop (64 * l)).take (min bl (64 * (l + 1)) - 64 * l))⟩) hr2 (by rintro a ⟨⟩; exact Nat.le_trans hc.size hb2) (by omega) (hc.trans0 hc2).size fun p3 c3 w3 hR3 hc3 _ _ => ?_
    refine ⟨most - (l + 1), by omega, l + 1, _, _, rfl, rfl, rfl, by omega, by omega, hR3, ?_, (hc.trans0 hc2).trans hc3 fun b hb ⟨a, ha, e⟩ => by have := hR2.fresh a ha; omega⟩
    intro s hs
    rcases List.mem_append.1 hs with hs | hs
    · exact hL s hs
    · simp only [List.mem_singleton] at hs; subst hs
      exact fillTo_len (by rw [List.length_take]; omega)
  · rw [decide_eq_false hmost]; exact stop

/-- A drum of sectors. -/
structure Filled (D : DS) (L : List (List UInt8)) : Prop where
  calm : Calm D
  now : D.now = L
  safe : D.safe.length = L.length
  loose : D.loose.length = L.length
  steps : D.steps = L.length

theorem set_take_zeros {L : List (List UInt8)} {i n : Nat} {b : List UInt8} (hb : L[i]? = some b) (hn : n = L.length) :
    (L.take i ++ List.replicate (n - i) zsec).set i b = L.take (i + 1) ++ List.replicate (n - (i + 1)) zsec := by
  have hlt := (List.getElem?_eq_some_iff.1 hb).1
  rw [List.take_add_one, hb, show n - i = (n - (i + 1)) + 1 by omega, List.replicate_succ, List.set_append_right _ _ (by rw [List.length_take]; omega)]
  have : i - (L.take i).length = 0 := by rw [List.length_take]; omega
  rw [this]; simp

theorem filled_ok {c : Nat} {J : Option Addr → World → Prop} (hw : Chg No w0 w) (h : Lst w p l L hs) (h64 : ∀ s ∈ L, s.length = 64) (hl : 1 ≤ l) (hm : l ≤ 16384)
    (k : ∀ d F D w', Own w0 w' d F D → Filled D L → (∀ b ∈ F, w.heap.size ≤ b) → Chg No w w' → J (some ⟨d, 0, none⟩) w') :
    callJ Try.prog fn_law14_filled #[.slice p l c] w [.one .ptr] J := by
  refine c_law14_filled ?_
  unfold VC_law14_filled
  refine New_own (by omega) (by omega) hw fun w1 d F h1 hc1 hf1 => ?_
  refine withJ_i fun J18 hJ18 => ?_
  subst hJ18
  refine condB_ne (fun h => absurd rfl h) fun _ => condB_i (fun h => by simp at h) fun _ => ?_
  rw [Int.toNat_natCast] at h1
  obtain ⟨hl1, hl2⟩ := h.len
  refine ⟨fun x w' m => ∃ (i : Nat) (F' : List Nat) (D : DS), x = i ∧ i ≤ l ∧ m = l - i ∧ Own w0 w' d F' D ∧ Calm D ∧ D.safe.length = l ∧ D.now = L.take i ++ List.replicate (l - i) zsec ∧ D.loose.length = i ∧ D.steps = i ∧ Chg No w w' ∧ (∀ b ∈ F', w.heap.size ≤ b),
    ⟨_, 0, F, _, rfl, Nat.zero_le _, rfl, h1, Calm.new _, by simp [DS.new], by rw [now_new]; simp, rfl, rfl, hc1, hf1⟩, ?_⟩
  rintro x w2 m ⟨i, F', D, rfl, hi, rfl, h2, hcalm, hsafe, hnow, hloose, hsteps, hc2, hF2⟩
  refine condB_d (fun hlt => ?_) (fun hlt => ?_)
  · refine (h.chg0 hc2).at (by omega) (by omega) fun a x b _ hb _ hbytes hle hn hcell _ => ?_
    refine ldS_i hcell ?_
    rw [Int.toNat_natCast] at hb
    have hb64 := h64 b (List.mem_of_getElem? hb)
    have hbl := hbytes.len
    refine Twin_ok hbytes hn (by omega) fun p3 c3 w3 hr3 hf3 hc3 => ?_
    have h3 := h2.step0 hc3
    refine Write_own h3 hr3.bytes hr3.none0 (h3.at_.rowOff hr3 nd_u8) (by omega) fun w4 F4 h4 hc4 hF4 => ?_
    rw [hcalm.write (n := i) (by omega) hb64] at h4 ⊢
    dsimp only at h4 ⊢
    refine condB_ne (fun h => absurd rfl h) fun _ => ?_
    refine ⟨l - (i + 1), by omega, i + 1, F4, _, by rw [w64_of] <;> omega, by omega, rfl, h4, hcalm, hsafe, ?_, by simp [hloose], ?_, ?_, ?_⟩
    · rw [now_snoc, hnow]; exact set_take_zeros hb (by omega)
    · simp only [hsteps]; rw [w64_of] <;> omega
    · exact (hc2.trans0 hc3).trans hc4 fun b hb hbF => by have := hF2 b hbF; omega
    · intro b hb
      rcases hF4 b hb with h | h
      · exact hF2 b h
      · have := hc2.size; have := hc3.size; omega
  · have hil : i = l := by omega
    subst hil
    rw [Nat.sub_self, List.replicate_zero, List.append_nil, List.take_of_length_le (by omega)] at hnow
    exact k d F' D w2 h2 ⟨hcalm, hnow, by omega, by omega, by omega⟩ hF2 hc2

theorem all_ok {d : Nat} {F : List Nat} {D : DS} {J : Option Addr → Nat → Nat → World → Prop} (h : Own w0 w d F D) (hcalm : Calm D)
    (k : ∀ p l c hs w', Rows w w' p l c D.now hs → Own w0 w' d F (D.took D.safe.length) → Chg (· ∈ F) w w' → J p l c w') :
    callJ Try.prog fn_law14_all #[.pointer (some ⟨d, 0, none⟩)] w [.one .slice] J := by
  refine c_law14_all ?_
  unfold VC_law14_all
  refine Sectors_ok h.at_ ?_
  have hmax := h.at_.ok.max
  have hnl := D.now_len
  refine ⟨fun p l c x w' m => ∃ (i : Nat) (hs : List BV), x = i ∧ i ≤ D.safe.length ∧ m = D.safe.length - i ∧ l = i ∧ Rows w w' p l c (D.now.take i) hs ∧ Own w0 w' d F (D.took i) ∧ Chg (· ∈ F) w w',
    ⟨_, 0, [], rfl, Nat.zero_le _, rfl, rfl, by rw [List.take_zero]; exact Rows.nil _ _, h, Chg.refl _ _⟩, ?_⟩
  rintro p l c x w2 m ⟨i, hs, rfl, hi, rfl, rfl, hR, hO, hc⟩
  refine condB_d (fun hlt => ?_) (fun hlt => ?_)
  · refine Read_own hO fun p3 c3 w3 h3 hr3 hf3 hc3 => ?_
    rw [(took_calm hcalm l).read (by rw [took_safe]; omega), took_now] at h3 hr3 ⊢
    change Own w0 w3 d F (D.took (l + 1)) at h3
    dsimp only at hr3 ⊢
    refine condB_ne (fun h => absurd rfl h) fun _ => ?_
    obtain ⟨b, hb⟩ : ∃ b, D.now[l]? = some b := ⟨D.now[l]'(by omega), List.getElem?_eq_getElem (by omega)⟩
    rw [hb, Option.getD_some] at hr3 ⊢
    have hR3 : Rows w w3 p l c (D.now.take l) hs := hR.chg hc3 (hO.at_.rowOff hR.row nd_sl_u8) fun x hx => hO.at_.rowOff (hR.hand x hx) nd_u8
    refine hR3.push (x := ⟨p3, _, c3, b⟩) hr3 (fun a ha => Nat.le_trans hc.size (hf3 a ha)) (by omega) (Nat.le_trans hc.size hc3.size) fun p4 c4 w4 hR4 hc4 _ _ => ?_
    have hB : ∀ x, isB p x → typ w3 x = some T_sl_uint8 := by rintro x ⟨a, ha, rfl⟩; exact hR3.row.typ a ha
    have hfr : ∀ x, isB p x → w.heap.size ≤ x := by rintro x ⟨a, ha, rfl⟩; exact hR3.fresh a ha
    refine ⟨D.safe.length - (l + 1), by omega, l + 1, _, by rw [w64_of] <;> omega, by omega, rfl, rfl, by rw [List.take_add_one, hb]; exact hR4, ?_, ?_⟩
    · exact h3.step hc4 (fun x hx hb => h3.at_.apart (hB x hb) nd_sl_u8 hx) (fun x hx => Nat.le_trans h.chg.size (hfr x hx))
    · exact (hc.trans hc3 fun _ _ => id).trans hc4 fun x hx hb => by have := hfr x hb; omega
  · have hil : l = D.safe.length := by omega
    rw [List.take_of_length_le (by omega)] at hR
    rw [hil] at hR hO ⊢
    exact k p _ c hs w2 hR hO hc

theorem same_ok {p2 : Option Addr} {l2 c2 : Nat} {L2 : List (List UInt8)} {hs2 : List BV} {J : Bool → World → Prop} (h : Lst w p l L hs) (h2 : Lst w p2 l2 L2 hs2) (hm : l ≤ 1000000000)
    (k : ∀ w', Chg No w w' → J (decide (L = L2)) w') : callJ Try.prog fn_law14_same #[.slice p l c, .slice p2 l2 c2] w [.one .bool] J := by
  refine c_law14_same ?_
  unfold VC_law14_same
  obtain ⟨e1, e2⟩ := h.len
  obtain ⟨e3, e4⟩ := h2.len
  refine condB_ne (fun hne => ?_) (fun heq => ?_)
  · have := k w (Chg.refl _ _)
    rw [decide_eq_false (by rintro rfl; omega)] at this
    exact this
  have hll : l = l2 := by omega
  refine ⟨fun x w' m => ∃ i : Nat, x = i ∧ i ≤ l ∧ m = l - i ∧ L.take i = L2.take i ∧ Chg No w w', ⟨_, 0, rfl, Nat.zero_le _, rfl, rfl, Chg.refl _ _⟩, ?_⟩
  rintro x w1 m ⟨i, rfl, hi, rfl, hpre, hc⟩
  refine condB_d (fun hlt => ?_) (fun hlt => ?_)
  · refine (h.chg0 hc).at (by omega) (by omega) fun a x b _ hb _ hbytes _ _ hcell _ => ?_
    refine ldS_i hcell ?_
    have hd : Chg No w1 w1.drew := (Chg.refl _ _).drew
    refine bytesOf_i (hbytes.chg hd (off_no _)) ?_
    refine (h2.chg0 hc).at (by omega) (by omega) fun a2 x2 b2 _ hb2 _ hbytes2 _ _ hcell2 _ => ?_
    refine ldS_i hcell2 ?_
    refine bytesOf_i (hbytes2.chg hd (off_no _)) ?_
    rw [ByteArray.toList_mk, ByteArray.toList_mk]
    rw [Int.toNat_natCast] at hb hb2
    refine condB_i (fun hne => ?_) (fun heq => ?_)
    · have := k w1.drew hc.drew
      rw [decide_eq_false] at this
      · exact this
      · rintro rfl
        rw [hb] at hb2; cases hb2; simp at hne
    · have hbb : b = b2 := by simpa using heq
      refine ⟨l - (i + 1), by omega, i + 1, by rw [w64_of] <;> omega, by omega, rfl, ?_, hc.drew⟩
      rw [List.take_add_one, List.take_add_one, hpre, hb, hb2, hbb]
  · have hil : i = l := by omega
    rw [hil, List.take_of_length_le (by omega), List.take_of_length_le (by omega)] at hpre
    have := k w1 hc
    rw [decide_eq_true hpre] at this
    exact this
end

end Go.Proofs.Ytfhmnodoahcmnaa
