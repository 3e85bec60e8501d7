/- Evf Evg Evh EvTab IdxE VOnce -/
import Derived.Test.YtmnbgcgealpcbaaGreatDoorEve
import Derived.Laws.Runes
import Derived.Laws.CopyRow
import Derived.Lib.BufferWrite
import Derived.Test.YtmnbgcgealpcbaaGreatDoorLbB
import Derived.Lib.Bytealg
import Derived.Shelf.Bytes.SlIndexWhole
import Derived.KernelRfl
/-
  An evaluator of loaded code: appends, new blocks, conversions, strings' ranges.
-/
set_option linter.unusedVariables false
set_option linter.unusedSimpArgs false
namespace Go.Vc
open Go Go.RowKit

section
variable {P : Program} {w0 w w' : World} {ph ph' : Ph} {H : Tr VB} {fr : Tr VV} {Fr : Fr}

/-! ## Appends -/
def u8V (s : List UInt8) : List VV := s.map fun b => .int .u8 b.toNat
theorem u8V_o (s : List UInt8) : RelL ph (u8V s) (bcells s) := by
  induction s with
  | nil => exact RelL.nil
  | cons b s ih => exact RelL.cons (by simp only [Rel]) ih
/-- What an append appends. -/
def evNews (P : Program) (t : TypeId) (y : VV) (sz : Nat) (H : Tr VB) : Option (Nat × List VV) :=
  match P.underlying t, y with
  | some (.slice _), .sln => some (0, [])
  | some (.slice _), .slz .. => some (0, [])
  | some (.slice _), .sl n off m _ => (match cellsV H n off (m * sz) with
    | some us => bif us.all oneV then some (m, us) else none
    | none => none)
  | some .string, .str s => bif Nat.beq sz 1 then fVs (u8V s) fun us => fN s.length fun m => some (m, us) else none
  | _, _ => none
theorem evNews_o (hR : RH w0 ph H w) {t : TypeId} {y : VV} {Y : Value} {sz m : Nat} {us : List VV} (h : evNews P t y sz H = some (m, us)) (ry : Rel ph y Y) : ∃ Us, RelL ph us Us ∧ Src P sz t Y m Us w := by
  unfold evNews at h
  split at h
  · next e hu =>
    simp only [Option.some.injEq, Prod.mk.injEq] at h
    obtain ⟨rfl, rfl⟩ := h
    simp only [Rel] at ry; subst ry
    exact ⟨[], RelL.nil, Src.ofNil w hu 0⟩
  · next e n o1 o2 s o hu =>
    simp only [Option.some.injEq, Prod.mk.injEq] at h
    obtain ⟨rfl, rfl⟩ := h
    simp only [Rel] at ry; obtain ⟨b, g, hp, rfl⟩ := ry
    exact ⟨[], RelL.nil, Src.ofSlice w hu _ 0 _ [] (by simp) (by simp) (by simp)⟩
  · next e n off m' c hu =>
    split at h
    · next us' hus =>
      cases hb : us'.all oneV with
      | false => rw [hb] at h; cases h
      | true =>
        simp only [hb, cond_true, Option.some.injEq, Prod.mk.injEq] at h
        obtain ⟨rfl, rfl⟩ := h
        simp only [Rel] at ry; obtain ⟨b, g, hp, rfl, _⟩ := ry
        obtain ⟨b', g', Us, hp', r, hl, hc⟩ := cellsV_o hR hus
        obtain ⟨rfl, rfl⟩ := phdet hp hp'
        exact ⟨Us, r, Src.ofSlice w hu _ m' _ Us (by rw [r.len, hl]) hc (r.one1 hb)⟩
    · cases h
  · next s hu =>
    cases hb : Nat.beq sz 1 with
    | false => rw [hb] at h; cases h
    | true =>
      simp only [hb, cond_true, fVs_eq, fN_eq, Option.some.injEq, Prod.mk.injEq] at h
      obtain ⟨rfl, rfl⟩ := h
      have := Nat.eq_of_beq_eq_true hb
      subst this
      simp only [Rel] at ry; subst ry
      refine ⟨bcells s, u8V_o s, ?_⟩
      have := Src.ofString (P := P) w hu ⟨s.toArray⟩
      rw [mk_size] at this
      exact this
  · cases h
theorem setCells_eq (b o : Nat) : ∀ (vs : List Value) (i : Nat) (w : World), w.setCells b (o + i) vs = setCells w ⟨b, o, none⟩ i vs
  | [], i, w => rfl
  | v :: vs, i, w => by
    have := setCells_eq b o vs (i + 1) (w.setCell ⟨b, o + i, none⟩ v)
    simp only [setCells, World.setCells, Addr.add_mk]
    rw [← this, Nat.add_assoc]
theorem run_append_nothing {t1 t2 e : TypeId} {i : TypeInfo} (ht : P.underlying t1 = some (.slice e)) (hi : P.info? e = some i) {p : Option Addr} {l c : Nat} (hlc : l ≤ c) {Y : Value} {Us : List Value} (hs : Src P i.size t2 Y 0 Us w) (ty : TypeId) :
    (Builtin.append_ #[t1, t2] ty #[.slice p l c, Y]).run P w = .ok (.slice p l c) w := by
  have h0 : Us = [] := List.eq_nil_of_length_eq_zero (by rw [hs.newsLen]; simp)
  subst h0
  have := hs.cells
  cases p <;> rcases hs.kind with ⟨e', hk⟩ | hk <;> simp [Builtin.append_, run_underlying ht, run_underlying hk, sizeOf, typeInfo, hi, hs.len, hlc, hs.cells, storeCells]
/-- No room: a new block. -/
theorem append_grows (hR : RH w0 ph H w) {N : Nat} (hN : H.get N = none) (hG : GN ≤ N) {t1 t2 e : TypeId} {i : TypeInfo} {z : Value} (ht : P.underlying t1 = some (.slice e)) (hi : P.info? e = some i) (hz : i.zero = some z) (hzs : z.cells.size = i.size) (hpos : 0 < i.size)
    {p : Option Addr} {l c m : Nat} {os us : List VV} {Os Us : List Value} {Y : Value} (ro : RelL ph os Os) (ru : RelL ph us Us) (hol : Os.length = l * i.size) (hold : ∀ w', (∀ a, p = some a → cellsAt w' a Os) → (Builtin.firstCells i.size l (.slice p l c)).run P w' = .ok Os.toArray w') (hoc : ∀ a, p = some a → cellsAt w a Os)
    (hs : Src P i.size t2 Y m Us w) (hg : c < l + m) (hm : l + m ≤ maxLen) (hb : (l + m) * i.bytes ≤ 140737488355328) :
    ∃ V ph' w', (∀ ty, (Builtin.append_ #[t1, t2] ty #[.slice p l c, Y]).run P w = .ok V w') ∧ ph.le ph' ∧ RH w0 ph' (H.set N (.cells (os ++ us) e i.size)) w' ∧ Rel ph' (.sl N 0 (l + m) (.blk i.size 0)) V ∧ ∃ p l c, V = .slice p l c := by
  have hm' := hm
  simp only [maxLen] at hm'
  have hfo := hold w.drew (fun a ha => by
    have := hoc a ha
    intro j v hv
    have := this j v hv
    simpa using this)
  have hr := fun ty => run_append_grow_src (P := P) w t1 t2 ty e i z ht hi hz p l c Os hfo Y m Us hs hg (by omega) (growslice_fits hg hb)
  have hge := grownCap_ge w (l + m) c e
  have hcm := grownCap_le_maxLen w (l + m) c e hm
  have ea : ((Os ++ Us).toArray ++ Builtin.zeroCells z.cells (grownCap w (l + m) c e - (l + m))) = ⟨(Os ++ Us) ++ (Builtin.zeroCells z.cells (grownCap w (l + m) c e - (l + m))).toList⟩ := by
    apply Array.ext'; simp
  have el : ((Os ++ Us) ++ (Builtin.zeroCells z.cells (grownCap w (l + m) c e - (l + m))).toList).length = grownCap w (l + m) c e * i.size := by
    rw [List.length_append, List.length_append, hol, hs.newsLen, Array.length_toList, size_zeroCells, hzs, ← Nat.add_mul, ← Nat.add_mul]
    congr 1; omega
  have ed : grownCap w (l + m) c e * i.size / i.size = grownCap w (l + m) c e := Nat.mul_div_cancel _ hpos
  obtain ⟨ph', hle, hpN, hR'⟩ := hR.drew.newC (N := N) (e := e) (sz := i.size) hN hG (ro.append ru) (rest := (Builtin.zeroCells z.cells (grownCap w (l + m) c e - (l + m))).toList) (fun _ => by rw [el, ed]; exact ⟨rfl, hcm⟩) (fun h => absurd h (by omega))
  refine ⟨_, ph', _, hr, hle, by rw [ea]; exact hR', ?_, _, _, _, rfl⟩
  simp only [Rel, CP.of]
  have hsz : w.drew.heap.size = w.heap.size := rfl
  rw [el, hsz] at hpN
  exact ⟨_, _, hpN, by rw [ed, Nat.sub_zero], by rw [ed]; omega⟩
def okGrow (i : TypeInfo) (k : Nat) : Bool :=
  Nat.blt 0 i.size && Nat.ble k maxLen && Nat.ble (k * i.bytes) 140737488355328 && (match i.zero with | some z => Nat.beq z.cells.size i.size | none => false)
def evApp (P : Program) (t1 t2 : TypeId) (x y : VV) (H : Tr VB) (N : Nat) : Option (VV × Tr VB × Nat) :=
  match P.underlying t1 with
  | some (.slice e) => (match P.info? e with
    | some i => (match evNews P t2 y i.size H with
      | some (m, us) => (match m, x with
        | 0, .sln => some (x, H, N)
        | 0, .slz .. => some (x, H, N)
        | 0, .sl .. => some (x, H, N)
        | _, .sln => (match H.get N with
          | none => bif Nat.ble GN N && okGrow i m then outN (.sl N 0 m (.blk i.size 0)) (Nat.succ N) (setS H N (.cells us e i.size)) else none
          | some _ => none)
        | _, .sl n off l (.num k) => bif Nat.ble (l + m) k then
            (match evWrite H n (off + l * i.size) us with
            | some H' => some (.sl n off (l + m) (.num k), H', N)
            | none => none)
          else (match H.get N, cellsV H n off (l * i.size) with
            | none, some os => bif Nat.ble GN N && okGrow i (l + m) then outN (.sl N 0 (l + m) (.blk i.size 0)) (Nat.succ N) (setS H N (.cells (os ++ us) e i.size)) else none
            | _, _ => none)
        | _, .sl n 0 l (.blk s 0) => (match H.get n, H.get N with
          | some (.cells vs e' s'), none => bif Nat.beq s i.size && Nat.beq s' i.size && Nat.beq e' e && Nat.ble (l * i.size) vs.length && Nat.ble GN N && okGrow i (l + m) && us.all oneV then
              H.setK n .dead fun H' => outN (.sl N 0 (l + m) (.blk i.size 0)) (Nat.succ N) (setS H' N (.cells (vs.take (l * i.size) ++ us) e i.size)) else none
          | _, _ => none)
        | _, _ => none)
      | none => none)
    | none => none)
  | _ => none
theorem okGrow_o {i : TypeInfo} {k : Nat} (h : okGrow i k = true) : 0 < i.size ∧ k ≤ maxLen ∧ k * i.bytes ≤ 140737488355328 ∧ ∃ z, i.zero = some z ∧ z.cells.size = i.size := by
  unfold okGrow at h
  simp only [Bool.and_eq_true] at h
  obtain ⟨⟨⟨h1, h2⟩, h3⟩, h4⟩ := h
  refine ⟨by simpa [Nat.blt_eq] using h1, Nat.le_of_ble_eq_true h2, Nat.le_of_ble_eq_true h3, ?_⟩
  split at h4
  · next z hz => exact ⟨z, hz, Nat.eq_of_beq_eq_true h4⟩
  · cases h4
theorem first_nil (i : TypeInfo) (w : World) : (Builtin.firstCells i.size 0 (.slice none 0 0)).run P w = .ok ([] : List Value).toArray w := run_firstCells_none w i.size 0 0 0
theorem evApp_o (hR : RH w0 ph H w) {t1 t2 : TypeId} {x y v : VV} {X Y : Value} {N N' : Nat} {H' : Tr VB} (h : evApp P t1 t2 x y H N = some (v, H', N')) (rx : Rel ph x X) (ry : Rel ph y Y) {K : Value → World → Prop}
    (hK : ∀ V ph' w', ph.le ph' → RH w0 ph' H' w' → Rel ph' v V → K V w') : appJ P t1 t2 X Y w fun p l c w' => K (.slice p l c) w' := by
  unfold evApp at h
  split at h
  next e ht =>
    split at h
    next i hi =>
      split at h
      next m us hnews =>
        obtain ⟨Us, ru, hs⟩ := evNews_o hR hnews ry
        have nothing : ∀ p l c, X = .slice p l c → l ≤ c → m = 0 → x = v → H = H' → appJ P t1 t2 X Y w fun p l c w' => K (.slice p l c) w' := by
          rintro p l c rfl hlc rfl rfl rfl
          exact ⟨p, l, c, w, run_append_nothing ht hi hlc hs, hK _ ph w (Ph.le.refl _) hR rx⟩
        have fin : ∀ (Q : Prop) (X' : Value), X = X' → (∃ V ph' w', (∀ ty, (Builtin.append_ #[t1, t2] ty #[X', Y]).run P w = .ok V w') ∧ ph.le ph' ∧ RH w0 ph' H' w' ∧ Rel ph' v V ∧ ∃ p l c, V = .slice p l c) → appJ P t1 t2 X Y w fun p l c w' => K (.slice p l c) w' := by
          rintro _ X' rfl ⟨V, ph', w', hr, hle, hR', rv, p, l, c, rfl⟩
          exact ⟨p, l, c, w', hr, hK _ ph' w' hle hR' rv⟩
        split at h
        · simp only [Option.some.injEq, Prod.mk.injEq] at h
          obtain ⟨h1, h2, _⟩ := h
          simp only [Rel] at rx
          exact nothing _ _ _ rx (Nat.le_refl _) rfl h1 h2
        · simp only [Option.some.injEq, Prod.mk.injEq] at h
          obtain ⟨h1, h2, _⟩ := h
          have rx' := rx
          simp only [Rel] at rx
          obtain ⟨b, g, hp, hX⟩ := rx
          exact nothing _ _ _ hX (Nat.zero_le _) rfl h1 h2
        · simp only [Option.some.injEq, Prod.mk.injEq] at h
          obtain ⟨h1, h2, _⟩ := h
          have rx' := rx
          simp only [Rel] at rx
          obtain ⟨b, g, hp, hX, hlc⟩ := rx
          exact nothing _ _ _ hX hlc rfl h1 h2
        · -- onto nil
          next hm0 =>
          split at h
          · next hN =>
            cases hb : (Nat.ble GN N && okGrow i m) with
            | false => simp [hb] at h
            | true =>
              simp only [hb, cond_true, Tr.setK_eq, setS_eq, outN_eq, Option.some.injEq, Prod.mk.injEq] at h
              obtain ⟨rfl, rfl, _⟩ := h
              simp only [Bool.and_eq_true] at hb
              obtain ⟨h1, h2, h3, z, hz, hzs⟩ := okGrow_o hb.2
              simp only [Rel] at rx
              have h0 : 0 < m := Nat.pos_of_ne_zero hm0
              refine fin True _ rx ?_
              have := append_grows (P := P) (t1 := t1) (t2 := t2) hR hN (Nat.le_of_ble_eq_true hb.1) ht hi hz hzs h1 (p := none) (l := 0) (c := 0) RelL.nil ru (by simp) (fun w' _ => first_nil i w') (fun a e => by cases e) hs (by omega) (by omega) (by rw [Nat.zero_add]; exact h3)
              rw [Nat.zero_add, List.nil_append] at this
              exact this
          · cases h
        · -- the capacity is known
          next n off l k hm0 =>
          simp only [Rel, CP.of] at rx
          obtain ⟨b, g, hp, hX, hlc⟩ := rx
          cases hroom : Nat.ble (l + m) k with
          | true =>
            simp only [hroom, cond_true] at h
            have hroom' := Nat.le_of_ble_eq_true hroom
            split at h
            · next H2 hw =>
              simp only [Option.some.injEq, Prod.mk.injEq] at h
              obtain ⟨rfl, rfl, _⟩ := h
              obtain ⟨b', g', hp', h1, hc, hr⟩ := evWrite_o hR hw ru
              obtain ⟨rfl, rfl⟩ := phdet hp hp'
              refine fin True _ hX ⟨.slice (some ⟨b, off, none⟩) (l + m) k, ph, _, fun ty => run_append_room_src (P := P) w t1 t2 ty e i ht hi b off l k Y m Us hs hroom' (fun j hj => ?_) (fun j hj => ?_), Ph.le.refl _, ?_, by simp only [Rel, CP.of]; exact ⟨b, g, hp, rfl, hroom'⟩, _, _, _, rfl⟩
              · obtain ⟨⟨u, hu⟩, _⟩ := hc j hj
                rw [Addr.add_mk] at hu
                rw [hu]; rfl
              · have := (hc j hj).2
                rwa [Addr.add_mk] at this
              · have := setCells_eq b (off + l * i.size) Us 0 w
                rw [Nat.add_zero] at this
                rw [this]; exact hr
            · cases h
          | false =>
            simp only [hroom, cond_false] at h
            have hroom' : ¬ l + m ≤ k := fun hh => by rw [Nat.ble_eq_true_of_le hh] at hroom; cases hroom
            split at h
            · next os hN hos =>
              cases hb : (Nat.ble GN N && okGrow i (l + m)) with
              | false => simp [hb] at h
              | true =>
                simp only [hb, cond_true, setS_eq, outN_eq, Option.some.injEq, Prod.mk.injEq] at h
                obtain ⟨rfl, rfl, _⟩ := h
                simp only [Bool.and_eq_true] at hb
                obtain ⟨h1, h2, h3, z, hz, hzs⟩ := okGrow_o hb.2
                obtain ⟨b', g', Os, hp', ro, hl, hc⟩ := cellsV_o hR hos
                obtain ⟨rfl, rfl⟩ := phdet hp hp'
                refine fin True _ hX (append_grows (P := P) hR hN (Nat.le_of_ble_eq_true hb.1) ht hi hz hzs h1 ro ru (by rw [ro.len, hl]) (fun w' hw' => run_firstCells_some w' i.size l ⟨b, off, none⟩ l k Os (by rw [ro.len, hl]) (hw' _ rfl)) (fun a e => by cases e; exact hc) hs (by omega) h2 h3)
            · cases h
        · -- a row: both ways
          next n l s hm0 =>
          split at h
          · next vs e' s' hn hN =>
            cases hb : (Nat.beq s i.size && Nat.beq s' i.size && Nat.beq e' e && Nat.ble (l * i.size) vs.length && Nat.ble GN N && okGrow i (l + m) && us.all oneV) with
            | false => simp [hb] at h
            | true =>
              simp only [hb, cond_true, Tr.setK_eq, setS_eq, outN_eq, Option.some.injEq, Prod.mk.injEq] at h
              obtain ⟨rfl, rfl, _⟩ := h
              simp only [Bool.and_eq_true] at hb
              obtain ⟨⟨⟨⟨⟨⟨b1, b2⟩, b3⟩, b4⟩, b5⟩, b6⟩, b7⟩ := hb
              have b1 := Nat.eq_of_beq_eq_true b1
              have b2 := Nat.eq_of_beq_eq_true b2
              have b3 := Nat.eq_of_beq_eq_true b3
              have b4 := Nat.le_of_ble_eq_true b4
              have b5 := Nat.le_of_ble_eq_true b5
              subst b1; subst b2; subst b3
              obtain ⟨h1, h2, h3, z, hz, hzs⟩ := okGrow_o b6
              obtain ⟨b, g, hp, cs, rest, r, hh, hlen, hgg, hg0, h0⟩ := hR.blk _ _ hn
              obtain ⟨hgd, hgm⟩ := hgg (by omega)
              simp only [Rel, CP.of, Nat.sub_zero] at rx
              obtain ⟨b', g', hp', hX, hlc⟩ := rx
              obtain ⟨rfl, rfl⟩ := phdet hp hp'
              have hcl := r.len
              have rk : RelL ph (vs.take (l * i.size)) (cs.take (l * i.size)) := r.take _
              have htl : (cs.take (l * i.size)).length = l * i.size := by rw [List.length_take]; omega
              have hcells : cellsAt w ⟨b, 0, none⟩ (cs.take (l * i.size)) := by
                have := cellsAt_take (l * i.size) (cellsAt_heap (off := 0) hh)
                rw [List.drop_zero, List.take_append_of_le_length (by omega)] at this
                exact this
              have hRk := hR.kill hn
              have hNn : N ≠ n := by rintro rfl; rw [hn] at hN; cases hN
              have hN' : (H.set n .dead).get N = none := by rw [Tr.get_other _ _ hNn]; exact hN
              refine fin True _ hX ?_
              by_cases hroom : l + m ≤ g / i.size
              · -- in place
                have hfit : l * i.size + Us.length ≤ (cs ++ rest).length := by
                  rw [hs.newsLen, ← Nat.add_mul, hlen, hgd]
                  exact Nat.mul_le_mul_right _ hroom
                have hr := fun ty => run_append_room_src (P := P) w t1 t2 ty e' i ht hi b 0 l (g / i.size) Y m Us hs hroom (fun j hj => by
                  have : 0 + l * i.size + j < (cs ++ rest).length := by omega
                  rw [cell_of_row w b (0 + l * i.size + j) _ e' (0, 0) hh]
                  rw [show ((⟨cs ++ rest⟩ : Array Value)[0 + l * i.size + j]?) = (cs ++ rest)[0 + l * i.size + j]? from by simp, List.getElem?_eq_getElem this]; rfl) (fun j hj => frozen_of_row w b _ _ e' hh)
                have e1 : w.setCells b (0 + l * i.size) Us = w.setRow b ⟨(cs.take (l * i.size) ++ Us) ++ (cs ++ rest).drop (l * i.size + Us.length)⟩ := by
                  have e2 := setCells_eq b (0 + l * i.size) Us 0 w
                  rw [Nat.add_zero] at e2
                  rw [e2, setCells_row Us 0 (0 + l * i.size) (cs ++ rest) w hh (by omega)]
                  simp only [Nat.zero_add, Nat.add_zero]
                  rw [List.take_append_of_le_length (by omega)]
                rw [e1] at hr
                have hl2 : ((cs.take (l * i.size) ++ Us) ++ (cs ++ rest).drop (l * i.size + Us.length)).length = g := by
                  rw [List.length_append, List.length_append, htl, List.length_drop, ← hlen]; omega
                have hle := Ph.le_at (N := N) (b, g) (hR.non _ hN)
                have hs' := Ph.at_same (ph := ph) N (b, g)
                refine ⟨_, ph.at N (b, g), _, hr, hle, ?_, by simp only [Rel, CP.of]; exact ⟨b, g, hs', by rw [Nat.sub_zero], by omega⟩, _, _, _, rfl⟩
                refine hRk.put (S := fun x => x = b) (chg_setRow _ _ _) (fun x hx => by rw [hx]; exact h0) hle (fun k hk => Ph.at_other _ hk) hs' (fun hlt => by omega) (fun k vk c gg hk hv hl hpk => ?_) ?_
                · have hkn : k ≠ n := by rintro rfl; rw [Tr.get_same] at hv; cases hv; exact hl.elim
                  rw [Tr.get_other _ _ hkn] at hv
                  have : c ≠ b := fun hc => hkn (hR.inj _ _ _ _ _ _ _ hv hn hl trivial (hc ▸ hpk) hp)
                  exact ⟨this, this⟩
                · exact ⟨cs.take (l * i.size) ++ Us, _, (rk.append ru).mono hle, setRow_heap w b ⟨cs ++ rest⟩ _ e' (0, 0) hh, hl2, fun _ => ⟨hgd, hgm⟩, fun h => absurd h (by omega), h0⟩
              · -- a new block
                have rk' := rk
                exact append_grows (P := P) hRk hN' b5 ht hi hz hzs h1 rk ru htl (fun w' hw' => run_firstCells_some w' i.size l ⟨b, 0, none⟩ l _ _ htl (hw' _ rfl)) (fun a e => by cases e; exact hcells) hs (by omega) h2 h3
          · cases h
        · cases h
      · cases h
    · cases h
  · cases h
end
end Go.Vc


/-
  An evaluator of loaded code: all operations that make or write memory, and calls.
-/
set_option linter.unusedVariables false
set_option linter.unusedSimpArgs false
namespace Go.Vc
open Go Go.RowKit

section
variable {P : Program} {w0 w w' : World} {ph ph' : Ph} {H : Tr VB} {fr : Tr VV} {Fr : Fr}

/-! ## New blocks -/
def evNew (H : Tr VB) (N : Nat) (vb : VB) : Option (Tr VB) :=
  match H.get N with
  | none => bif Nat.ble GN N then setS H N vb else none
  | some _ => none
theorem evNew_o {N : Nat} {vb : VB} {H' : Tr VB} (h : evNew H N vb = some H') : H.get N = none ∧ GN ≤ N ∧ H' = H.set N vb := by
  unfold evNew at h
  split at h
  · next hN =>
    cases hb : Nat.ble GN N with
    | false => rw [hb] at h; cases h
    | true =>
      simp only [hb, cond_true, setS_eq, Option.some.injEq] at h
      exact ⟨hN, Nat.le_of_ble_eq_true hb, h.symm⟩
  · cases h
/-- A variable of its own. -/
theorem RH.var (hR : RH w0 ph H w) {N : Nat} {vs : List VV} {Vs : List Value} {e : TypeId} {H' : Tr VB} (h : evNew H N (.cells vs e 0) = some H') (r : RelL ph vs Vs) :
    ∃ ph' : Ph, ph.le ph' ∧ RH w0 ph' H' (w.alloc (.cells ⟨Vs⟩ e)) ∧ Rel ph' (.ptr (some (N, 0))) (.pointer (some ⟨w.heap.size, 0, none⟩)) := by
  obtain ⟨hN, hG, rfl⟩ := evNew_o h
  obtain ⟨ph', hle, hp, hR'⟩ := hR.newC (e := e) (sz := 0) (rest := []) hN hG r (fun h => absurd rfl h) (fun _ => rfl)
  rw [List.append_nil] at hR'
  exact ⟨ph', hle, hR', by simp only [Rel]; exact ⟨_, _, hp, rfl⟩⟩
def evAlloc (P : Program) (t : TypeId) (H : Tr VB) (N : Nat) : Option (VV × Tr VB × Nat) :=
  match (P.info? t).bind (·.zero) with
  | none => none
  | some z => match ofVs z.cells.toList with
    | none => none
    | some vs => outN (.ptr (some (N, 0))) (Nat.succ N) (evNew H N (.cells vs t 0))
theorem outN_o {v v' : VV} {N N' : Nat} {o : Option (Tr VB)} {H' : Tr VB} (h : outN v N o = some (v', H', N')) : o = some H' ∧ v = v' := by
  unfold outN at h
  split at h
  · simp only [fV_eq, Option.some.injEq, Prod.mk.injEq] at h; exact ⟨by rw [h.2.1], h.1⟩
  · cases h
theorem evAlloc_o (hR : RH w0 ph H w) {t : TypeId} {N N' : Nat} {v : VV} {H' : Tr VB} (h : evAlloc P t H N = some (v, H', N')) {K : Value → World → Prop} (hK : ∀ V ph' w', ph.le ph' → RH w0 ph' H' w' → Rel ph' v V → K V w') :
    bif ((P.info? t).bind (·.zero)).isSome then newB w (.cells (zeroC P t) t) fun b w' => K (.pointer (some ⟨b, 0, none⟩)) w' else False := by
  unfold evAlloc at h
  split at h
  · cases h
  · next z hz =>
    split at h
    · cases h
    · next vs hvs =>
      obtain ⟨h1, rfl⟩ := outN_o h
      obtain ⟨ph', hle, hR', rv⟩ := hR.var h1 (ofVs_o hvs)
      have e : zeroC P t = ⟨z.cells.toList⟩ := by unfold zeroC; rw [hz]
      rw [hz, Option.isSome_some, cond_true, e]
      exact hK _ ph' _ hle hR' rv
def evBox (t : TypeId) (v : VV) (H : Tr VB) (N : Nat) : Option (VV × Tr VB × Nat) :=
  match v with
  | .agg l => outN (.ptr (some (N, 0))) (Nat.succ N) (evNew H N (.cells l t 0))
  | v => bif oneV v then outN (.ptr (some (N, 0))) (Nat.succ N) (evNew H N (.cells [v] t 0)) else none
theorem evBox_o (hR : RH w0 ph H w) {t : TypeId} {N N' : Nat} {x v : VV} {X : Value} {H' : Tr VB} (h : evBox t x H N = some (v, H', N')) (rx : Rel ph x X) {K : Value → World → Prop} (hK : ∀ V ph' w', ph.le ph' → RH w0 ph' H' w' → Rel ph' v V → K V w') :
    newB w (.cells X.cells t) fun b w' => K (.pointer (some ⟨b, 0, none⟩)) w' := by
  unfold evBox at h
  split at h
  · next l =>
    simp only [Rel] at rx
    obtain ⟨L, hL, rfl⟩ := rx
    obtain ⟨h1, rfl⟩ := outN_o h
    obtain ⟨ph', hle, hR', rv⟩ := hR.var h1 hL
    exact hK _ ph' _ hle hR' rv
  · next hna =>
    cases hb : oneV x with
    | false => rw [hb] at h; cases h
    | true =>
      simp only [hb, cond_true] at h
      obtain ⟨h1, rfl⟩ := outN_o h
      obtain ⟨ph', hle, hR', rv⟩ := hR.var (vs := [x]) h1 (RelL.cons rx RelL.nil)
      have h1 := oneV_o hb rx
      have e : X.cells = ⟨[X]⟩ := by cases X <;> first | rfl | (simp [Value.oneCell'] at h1)
      rw [e]
      exact hK _ ph' _ hle hR' rv
/-- A row of so many elements. -/
theorem RH.row (hR : RH w0 ph H w) {N n : Nat} {vs : List VV} {Vs : List Value} {e : TypeId} {sz l : Nat} {H' : Tr VB} (h : evNew H N (.cells vs e sz) = some H') (r : RelL ph vs Vs) (hl : vs.length = n * sz) (hsz : 0 < sz) (hm : n ≤ maxLen) (hln : l ≤ n) :
    ∃ ph' : Ph, ph.le ph' ∧ RH w0 ph' H' (w.alloc (.cells ⟨Vs⟩ e)) ∧ Rel ph' (.sl N 0 l (.blk sz 0)) (.slice (some ⟨w.heap.size, 0, none⟩) l n) := by
  obtain ⟨hN, hG, rfl⟩ := evNew_o h
  have ed : n * sz / sz = n := Nat.mul_div_cancel _ hsz
  obtain ⟨ph', hle, hp, hR'⟩ := hR.newC (e := e) (sz := sz) (rest := []) hN hG r (fun _ => by rw [List.append_nil, r.len, hl, ed]; exact ⟨rfl, hm⟩) (fun h => absurd h (by omega))
  rw [List.append_nil] at hR'
  rw [List.append_nil, r.len, hl] at hp
  exact ⟨ph', hle, hR', by simp only [Rel, CP.of]; exact ⟨_, _, hp, by rw [ed, Nat.sub_zero], by rw [ed]; omega⟩⟩
def evBuildS (P : Program) (t : TypeId) (len : Nat) (ps : List (Nat × VV)) (H : Tr VB) (N : Nat) : Option (VV × Tr VB × Nat) :=
  match P.underlying t with
  | some (.slice e) => (match P.info? e with
    | some j => (match j.zero with
      | some z => bif Nat.ble (len * j.size) 16777216 && Nat.beq z.cells.size j.size && Nat.blt 0 j.size then
          (match ofVs z.cells.toList with
          | some zs => (match evSp (len * j.size) (fun i => some (i * j.size, j.size)) ps (List.replicate len zs).flatten with
            | some l => bif Nat.beq l.length (len * j.size) then outN (.sl N 0 len (.blk j.size 0)) (Nat.succ N) (evNew H N (.cells l e j.size)) else none
            | none => none)
          | none => none) else none
      | none => none)
    | none => none)
  | _ => none
theorem RelL.rep {zs : List VV} {Zs : List Value} (r : RelL ph zs Zs) : ∀ n, RelL ph (List.replicate n zs).flatten (List.replicate n Zs).flatten
  | 0 => RelL.nil
  | n + 1 => by
    rw [List.replicate_succ, List.replicate_succ, List.flatten_cons, List.flatten_cons]
    exact r.append (RelL.rep r n)
theorem evBuildS_o (hR : RH w0 ph H w) {t : TypeId} {len N N' : Nat} {ps : List (Nat × VV)} {Ps : List (Nat × Value)} {v : VV} {H' : Tr VB} (h : evBuildS P t len ps H N = some (v, H', N')) (rp : RelP ph ps Ps) {K : Value → World → Prop} (hK : ∀ V ph' w', ph.le ph' → RH w0 ph' H' w' → Rel ph' v V → K V w') :
    (match P.underlying t, some Ps with
    | some (.slice e), some vs => (match P.info? e with
      | some j => (match j.zero with
        | some z => bif Nat.ble (len * j.size) 16777216 && Nat.beq z.cells.size j.size then
            spC (len * j.size) (fun i => some (i * j.size, j.size)) vs (List.replicate len z.cells.toList).flatten fun l =>
              newB w (.cells ⟨l⟩ e) fun b w' => K (.slice (some ⟨b, 0, none⟩) len len) w'
          else False
        | none => False)
      | none => False)
    | _, _ => False) := by
  unfold evBuildS at h
  split at h
  · next e hu =>
    split at h
    · next j hj =>
      split at h
      · next z hz =>
        simp only [hu, hj, hz]
        cases hb : (Nat.ble (len * j.size) 16777216 && Nat.beq z.cells.size j.size && Nat.blt 0 j.size) with
        | false => simp [hb] at h
        | true =>
          simp only [hb, cond_true] at h
          rw [Bool.and_eq_true] at hb
          rw [hb.1, cond_true]
          have hpos : 0 < j.size := by simpa [Nat.blt_eq] using hb.2
          have h16 : len * j.size ≤ 16777216 := Nat.le_of_ble_eq_true (Bool.and_eq_true _ _ |>.mp hb.1).1
          split at h
          · next zs hzs =>
            split at h
            · next l hl =>
              cases hb2 : Nat.beq l.length (len * j.size) with
              | false => rw [hb2] at h; cases h
              | true =>
                simp only [hb2, cond_true] at h
                refine evSp_o hl rp (RelL.rep (ofVs_o hzs) len) fun L' r' => ?_
                obtain ⟨h1, rfl⟩ := outN_o h
                obtain ⟨ph', hle, hR', rv⟩ := hR.row (l := len) h1 r' (Nat.eq_of_beq_eq_true hb2) hpos (by
                  have : len ≤ len * j.size := Nat.le_mul_of_pos_right _ hpos
                  simp only [maxLen]; omega) (Nat.le_refl _)
                exact hK _ ph' _ hle hR' rv
            · cases h
          · cases h
      · cases h
    · cases h
  · cases h
def evMakeS (P : Program) (t : TypeId) (l c : Nat) (H : Tr VB) (N : Nat) : Option (VV × Tr VB × Nat) :=
  match P.underlying t with
  | some (.slice e) => (match P.info? e with
    | some j => (match j.zero with
      | some z => (match ofVs z.cells.toList with
        | some zs => bif Nat.ble l c && Nat.ble (j.bytes * c) 281474976710656 && Nat.ble c 9223372036854775807 && Nat.beq z.cells.size j.size && Nat.blt 0 j.size && Nat.beq (List.replicate c zs).flatten.length (c * j.size) then
            outN (.sl N 0 l (.blk j.size 0)) (Nat.succ N) (evNew H N (.cells (List.replicate c zs).flatten e j.size)) else none
        | none => none)
      | none => none)
    | none => none)
  | _ => none
theorem evMakeS_o (hR : RH w0 ph H w) {t : TypeId} {l c N N' : Nat} {v : VV} {H' : Tr VB} (h : evMakeS P t l c H N = some (v, H', N')) {K : Value → World → Prop} (hK : ∀ V ph' w', ph.le ph' → RH w0 ph' H' w' → Rel ph' v V → K V w') :
    ∃ e j, P.underlying t = some (.slice e) ∧ P.info? e = some j ∧ j.zero.isSome = true ∧ mkS w e (zeroC P e) j.size j.bytes (Int.ofNat l) (Int.ofNat c) fun b w' => K (.slice (some ⟨b, 0, none⟩) l c) w' := by
  unfold evMakeS at h
  split at h
  · next e hu =>
    split at h
    · next j hj =>
      split at h
      · next z hz =>
        split at h
        · next zs hzs =>
          cases hb : (Nat.ble l c && Nat.ble (j.bytes * c) 281474976710656 && Nat.ble c 9223372036854775807 && Nat.beq z.cells.size j.size && Nat.blt 0 j.size && Nat.beq (List.replicate c zs).flatten.length (c * j.size)) with
          | false => rw [hb] at h; cases h
          | true =>
            simp only [hb, cond_true] at h
            simp only [Bool.and_eq_true] at hb
            obtain ⟨⟨⟨⟨⟨b1, b2⟩, b3⟩, b4⟩, b5⟩, b6⟩ := hb
            have b1 := Nat.le_of_ble_eq_true b1
            have b2 := Nat.le_of_ble_eq_true b2
            have b3 := Nat.le_of_ble_eq_true b3
            have b4 := Nat.eq_of_beq_eq_true b4
            have b6 := Nat.eq_of_beq_eq_true b6
            have b5 : 0 < j.size := by simpa [Nat.blt_eq] using b5
            refine ⟨e, j, hu, hj, by rw [hz]; rfl, Int.natCast_nonneg l, by simpa using b1, by
              show ((j.bytes : Nat) : Int) * ((c : Nat) : Int) ≤ _
              rw [← Int.natCast_mul]; omega, by show ((c : Nat) : Int) ≤ _; omega, ?_⟩
            rw [zeroC_of hj hz, madeCells_eq z.cells _ _ b4]
            obtain ⟨h1, rfl⟩ := outN_o h
            obtain ⟨ph', hle, hR', rv⟩ := hR.row (l := l) h1 (RelL.rep (ofVs_o hzs) c) b6 b5 (by simp only [maxLen]; omega) b1
            exact hK _ ph' _ hle hR' rv
        · cases h
      · cases h
    · cases h
  · cases h

/-! ## Conversions -/
theorem chg_frz (w : World) (a : Addr) (n : Nat) : Chg (fun x => x = a.block) w (w.freeze a n) := by
  unfold World.freeze
  split
  · exact Chg.refl _ _
  · exact ⟨rfl, rfl, rfl, by simp, fun b hb hn => by simp [Array.getElem?_modify, Ne.symm (show b ≠ a.block from hn)]⟩
theorem cell_frz (w : World) (a x : Addr) (n : Nat) : (w.freeze a n).cell? x = w.cell? x := by
  unfold World.freeze
  split
  · rfl
  · unfold World.cell?
    simp only [Array.getElem?_modify]
    by_cases h : a.block = x.block
    · rw [if_pos h]
      cases hx : w.heap[x.block]? with
      | none => rfl
      | some o => cases o <;> rfl
    · rw [if_neg h]
def evConvE (P : Program) (s d : TypeId) (x : VV) (H : Tr VB) (N : Nat) : Option (VV × Tr VB × Nat) :=
  match P.underlying d with
  | some (.slice e) => (match P.underlying e, P.underlying s, x with
    | some (.int .u8), some _, .str bs => fVs (u8V bs) fun us => outN (.sl N 0 bs.length (.blk 1 0)) (Nat.succ N) (evNew H N (.con us))
    | some (.int .u8), some (.slice _), .sl n o l c => (match H.get n with
      | some (.cells vs _ _) => bif s == d then outN (.sl n o l c) N (setS H n (.con vs)) else none
      | _ => none)
    | _, _, _ => none)
  | some .string => (match P.underlying s, x with
    | some (.int _), .int _ n => outN (.str (Utf8.encode n).data.toList) N (some H)
    | _, _ => none)
  | _ => none
theorem evConvE_o (hR : RH w0 ph H w) {s d : TypeId} {N N' : Nat} {x v : VV} {X : Value} {H' : Tr VB} (h : evConvE P s d x H N = some (v, H', N')) (rx : Rel ph x X) {K : Value → World → Prop} (hK : ∀ V ph' w', ph.le ph' → RH w0 ph' H' w' → Rel ph' v V → K V w') :
    (match P.underlying d, some X with
    | some (.slice _), some v => cvJ P s d v w fun p l c w' => K (.slice p l c) w'
    | some .string, some v => cvStrJ P s d v w fun s' w' => K (.string s') w'
    | _, _ => False) := by
  unfold evConvE at h
  split at h
  · next e hd =>
    rw [hd]
    dsimp only
    split at h
    · next u bs he hs =>
      simp only [Rel] at rx; subst rx
      rw [fVs_eq] at h
      obtain ⟨h1, rfl⟩ := outN_o h
      obtain ⟨hN, hG, rfl⟩ := evNew_o h1
      have hr := Lib.run_convert_string_bytes (P := P) w s d e ⟨bs.toArray⟩ hs hd he
      refine ⟨_, _, _, _, hr, ?_⟩
      have hc : Chg No w (Lib.bytesWorld w e ⟨bs.toArray⟩) := ⟨rfl, rfl, rfl, by rw [Lib.bytesWorld_size]; omega, fun b hb _ => Lib.bytesWorld_at_old w e _ b hb⟩
      have hcell : cellsAt (Lib.bytesWorld w e ⟨bs.toArray⟩) ⟨w.heap.size, 0, none⟩ (bcells bs) := by
        intro j v hv
        unfold bcells at hv
        rw [List.getElem?_map, Option.map_eq_some_iff] at hv
        obtain ⟨b, hb, rfl⟩ := hv
        have hj : j < bs.length := (List.getElem?_eq_some_iff.1 hb).1
        have := Lib.bytesWorld_cell w e ⟨bs.toArray⟩ j (by rw [mk_size]; exact hj)
        rw [Addr.add_mk, Nat.zero_add, this]
        simp [List.getD_eq_getElem?_getD, hb]
      obtain ⟨ph', hle, hp, hR'⟩ := hR.new (N := N) (g := grownCap w bs.length 0 e) (vb := .con (u8V bs)) hN hG hc fun ph' hle hp => ⟨bcells bs, u8V_o bs, hcell, by rw [Lib.bytesWorld_size]; omega⟩
      refine hK _ ph' _ hle hR' ?_
      simp only [Rel, CP.of]
      refine ⟨_, _, hp, ?_, ?_⟩
      · simp only [mk_size, Nat.div_one, Nat.sub_zero]
      · rw [Nat.div_one, Nat.sub_zero]; exact grownCap_ge _ _ _ _
    · next u n o l c he hs =>
      split at h
      · next vs e' sz hn =>
        cases hsd : s == d with
        | false => rw [hsd] at h; cases h
        | true =>
          simp only [hsd, cond_true, setS_eq, outN_eq, Option.some.injEq, Prod.mk.injEq] at h
          obtain ⟨rfl, rfl, _⟩ := h
          have hsd' : s = d := eq_of_beq hsd
          subst hsd'
          have rx' := rx
          simp only [Rel] at rx; obtain ⟨b, g, hp, rfl, hlc⟩ := rx
          obtain ⟨b', g', hp', cs, rest, r, hh, hlen, hgd, hgm, h0⟩ := hR.blk _ _ hn
          obtain ⟨rfl, rfl⟩ := phdet hp hp'
          have hsh : w.shape? b = some (e', (cs ++ rest).length) := by unfold World.shape?; rw [hh]; rfl
          have hr : (convert s s (.slice (some ⟨b, o, none⟩) l (c.of g))).run P w = .ok (.slice (some ⟨b, o, none⟩) l (c.of g)) (w.freeze ⟨b, (cs ++ rest).length, none⟩ 1) := by
            simp only [convert, Sem.run_bind, run_underlying hd, Result.andThen_ok, beq_self_eq_true, run_underlying he, markStringish]
            simp [hsh]
          refine ⟨_, _, _, _, hr, hK _ ph _ (Ph.le.refl _) ?_ rx'⟩
          have hc := chg_frz w ⟨b, (cs ++ rest).length, none⟩ 1
          refine hR.put (S := fun x => x = b) hc (fun x hx => by rw [hx]; exact h0) (Ph.le.refl _) (fun _ _ => rfl) hp (fun h => hR.glb _ _ _ h hp) (fun m vm c gg hm hv hl hp' => ?_) ?_
          · have : c ≠ b := fun h => hm (hR.inj _ _ _ _ _ _ _ hv hn hl trivial (h ▸ hp') hp)
            exact ⟨this, this⟩
          · refine ⟨cs, r, ?_, Nat.lt_of_lt_of_le (lt_of_heap hh) hc.size⟩
            intro j u hu
            rw [cell_frz]
            have := cellsAt_take cs.length (cellsAt_heap (off := 0) hh)
            rw [List.drop_zero, List.take_left] at this
            exact this j u hu
      · cases h
    · cases h
  · next hd =>
    rw [hd]
    dsimp only
    split at h
    · next k k' n hs =>
      simp only [outN_eq, Option.some.injEq, Prod.mk.injEq] at h
      obtain ⟨rfl, rfl, _⟩ := h
      simp only [Rel] at rx; subst rx
      refine ⟨_, w, run_convert_int_string w s d k' n (by rw [hs]; rfl) hd, hK _ ph _ (Ph.le.refl _) hR ?_⟩
      simp only [Rel]
    · cases h
  · cases h

/-! ## A string's range -/
def evNext (n : Nat) (H : Tr VB) (N : Nat) : Option (VV × Tr VB × Nat) :=
  match H.get n with
  | some (.iter s pos) => (match nth s pos with
    | none => bif Nat.ble s.length pos then some (.tup [.bool false], H, N) else none
    | some b => bif Nat.blt b.toNat 128 then outN (.tup [.bool true, .int .i64 (pos : Nat), .int .i32 (b.toNat : Nat)]) N (setS H n (.iter s (Nat.succ pos))) else none)
  | _ => none
theorem decode_ascii {s : List UInt8} {pos : Nat} {b : UInt8} (h : s[pos]? = some b) (hb : b.toNat < 128) : Utf8.decode ⟨s.toArray⟩ pos = (b.toNat, 1) := by
  have hlt := (List.getElem?_eq_some_iff.1 h).1
  have e : ((⟨s.toArray⟩ : ByteArray).get! (pos + 0)).toNat = b.toNat := by
    have : (⟨s.toArray⟩ : ByteArray).get! (pos + 0) = b := by
      rw [Nat.add_zero]
      show s.toArray[pos]! = b
      simp [hlt, (List.getElem?_eq_some_iff.1 h).2]
    rw [this]
  unfold Utf8.decode
  simp only [e]
  rw [if_pos hb]
theorem evNext_o (hR : RH w0 ph H w) {n N N' : Nat} {v : VV} {H' : Tr VB} (h : evNext n H N = some (v, H', N')) {b g : Nat} (hp : ph n = some (b, g)) {K : Value → World → Prop} (hK : ∀ V ph' w', ph.le ph' → RH w0 ph' H' w' → Rel ph' v V → K V w') :
    nextS w b (fun pos c w' => K (.tuple #[.bool true, .int .i64 pos, .int .i32 c]) w') (fun w' => K (.tuple #[.bool false]) w') := by
  unfold evNext at h
  split at h
  · next s pos hn =>
    obtain ⟨b', g', hp', hh, h0⟩ := hR.blk _ _ hn
    obtain ⟨rfl, rfl⟩ := phdet hp hp'
    refine ⟨_, pos, hh, fun hlt => ?_, fun hge => ?_⟩
    · rw [mk_size] at hlt
      split at h
      · next he =>
        rw [nth_eq] at he
        rw [List.getElem?_eq_getElem hlt] at he; cases he
      · next c he =>
        rw [nth_eq] at he
        cases hb : Nat.blt c.toNat 128 with
        | false => rw [hb] at h; cases h
        | true =>
          simp only [hb, cond_true, setS_eq, outN_eq, Option.some.injEq, Prod.mk.injEq] at h
          obtain ⟨rfl, rfl, _⟩ := h
          have hlt2 : c.toNat < 128 := by simpa [Nat.blt_eq] using hb
          rw [decode_ascii he hlt2]
          have hc : Chg (fun x => x = b) w (setBlk w b (.stringIter ⟨s.toArray⟩ (pos + 1))) := (Chg.refl _ w).setBlk b _ (fun _ => rfl)
          refine hK _ ph _ (Ph.le.refl _) ?_ ?_
          · refine hR.put hc (fun x hx => by rw [hx]; exact h0) (Ph.le.refl _) (fun _ _ => rfl) hp (fun h => hR.glb _ _ _ h hp) (fun m vm c gg hm hv hl hp' => ?_) ⟨?_, h0⟩
            · have : c ≠ b := fun h => hm (hR.inj _ _ _ _ _ _ _ hv hn hl trivial (h ▸ hp') hp)
              exact ⟨this, this⟩
            · have := lt_of_heap hh
              simp [setBlk, this]
          · simp only [Rel]
            exact ⟨_, RelL.cons (by simp only [Rel]) (RelL.cons (by simp only [Rel]) (RelL.cons (by simp only [Rel]) RelL.nil)), rfl⟩
    · rw [mk_size] at hge
      split at h
      · cases hb : Nat.ble s.length pos with
        | false => rw [hb] at h; cases h
        | true =>
          simp only [hb, cond_true, Option.some.injEq, Prod.mk.injEq] at h
          obtain ⟨rfl, rfl, _⟩ := h
          exact hK _ ph _ (Ph.le.refl _) hR (by simp only [Rel]; exact ⟨_, RelL.cons (by simp only [Rel]) RelL.nil, rfl⟩)
      · next c he =>
        rw [nth_eq] at he
        exact absurd (List.getElem?_eq_some_iff.1 he).1 hge
  · cases h

/-! ## copy -/
def evCopy (P : Program) (t1 : TypeId) (d x : VV) (H : Tr VB) (N : Nat) : Option (VV × Tr VB × Nat) :=
  match d, x, P.underlying t1 with
  | .sl n off l _, .str s, some (.slice e) => bif (match P.info? e with | some i => Nat.beq i.size 1 | none => false) && Nat.ble s.length l then
      fVs (u8V s) fun us => outN (.int .i64 (s.length : Nat)) N (evWrite H n off us) else none
  | .sl n off l _, .sl n2 o2 m _, some (.slice e) => bif (match P.info? e with | some i => Nat.beq i.size 1 | none => false) then
      (match cellsV H n2 o2 (Nat.min m l) with
      | some us => outN (.int .i64 (Nat.min m l : Nat)) N (evWrite H n off us)
      | none => none) else none
  | _, _, _ => none
theorem evWrite_row (hR : RH w0 ph H w) {n off : Nat} {us : List VV} {Us : List Value} {H' : Tr VB} (h : evWrite H n off us = some H') (ru : RelL ph us Us) :
    ∃ b g cur e, ph n = some (b, g) ∧ one1 Us ∧ w.heap[b]? = some (.cells cur e (0, 0)) ∧ off + Us.length ≤ cur.size ∧ RH w0 ph H' (w.setRow b (cur.toList.take off ++ Us ++ cur.toList.drop (off + Us.length)).toArray) := by
  obtain ⟨b, g, hp, h1, hc, hR'⟩ := evWrite_o hR h ru
  unfold evWrite at h
  split at h
  · next vs e sz hn =>
    obtain ⟨b', g', hp', cs, rest, r, hh, hlen, _⟩ := hR.blk _ _ hn
    obtain ⟨rfl, rfl⟩ := phdet hp hp'
    cases hb : (Nat.ble (off + us.length) vs.length && us.all oneV) with
    | false => simp [hb] at h
    | true =>
      simp only [Bool.and_eq_true] at hb
      have hle := Nat.le_of_ble_eq_true hb.1
      have hcl := r.len
      have hul := ru.len
      have hfit : off + Us.length ≤ (cs ++ rest).length := by rw [List.length_append]; omega
      refine ⟨b, g, ⟨cs ++ rest⟩, e, hp, h1, hh, by simpa using hfit, ?_⟩
      have e1 := setCells_row Us 0 off (cs ++ rest) w hh (by omega)
      rw [e1] at hR'
      simpa only [Nat.add_zero] using hR'
  · cases h
theorem evCopy_o (hR : RH w0 ph H w) {t1 t2 : TypeId} {N N' : Nat} {d x v : VV} {D X : Value} {H' : Tr VB} (h : evCopy P t1 d x H N = some (v, H', N')) (rd : Rel ph d D) (rx : Rel ph x X) {K : Value → World → Prop} (hK : ∀ V ph' w', ph.le ph' → RH w0 ph' H' w' → Rel ph' v V → K V w') :
    cpyJ P t1 t2 D X w fun k w' => K (.int .i64 k) w' := by
  unfold evCopy at h
  split at h
  · next n off l c s e hu =>
    cases hb : ((match P.info? e with | some i => Nat.beq i.size 1 | none => false) && Nat.ble s.length l) with
    | false => simp [hb] at h
    | true =>
      simp only [hb, cond_true] at h
      simp only [Bool.and_eq_true] at hb
      obtain ⟨hb1, hb2⟩ := hb
      have hb2 := Nat.le_of_ble_eq_true hb2
      rw [fVs_eq] at h
      obtain ⟨h1, rfl⟩ := outN_o h
      obtain ⟨b, g, cur, e', hp, ho, hh, hfit, hR'⟩ := evWrite_row hR h1 (u8V_o s)
      simp only [Rel] at rd rx
      obtain ⟨b', g', hp', rfl, _⟩ := rd
      obtain ⟨rfl, rfl⟩ := phdet hp hp'
      subst rx
      have hs : (P.info? e).map (·.size) = some 1 := by
        split at hb1
        · next i hi => rw [hi]; simp [Nat.eq_of_beq_eq_true hb1]
        · cases hb1
      have hr := fun ty => Lib.run_copy_row_string (P := P) w t1 t2 ty e b off l (c.of g) ⟨s.toArray⟩ cur e' hu hs hh (by rw [mk_size]; exact hb2) (by rw [mk_size]; rw [bcells_length] at hfit; exact hfit)
      refine ⟨((s.length : Nat) : Int), _, fun ty => by rw [hr ty, mk_size]; rfl, hK _ ph _ (Ph.le.refl _) ?_ (by simp only [Rel])⟩
      have e2 : Lib.byteCells (⟨s.toArray⟩ : ByteArray).data.toList = bcells s := by simp [Lib.byteCells, bcells]
      rw [bcells_length] at hR'
      rw [e2]
      exact hR'
  · next n off l c n2 o2 m c2 e hu =>
    cases hb : (match P.info? e with | some i => Nat.beq i.size 1 | none => false) with
    | false => simp [hb] at h
    | true =>
      simp only [hb, cond_true] at h
      split at h
      · next us hus =>
        obtain ⟨h1, rfl⟩ := outN_o h
        obtain ⟨b2, g2, Us, hp2, ru, hul, hcu⟩ := cellsV_o hR hus
        obtain ⟨b, g, cur, e', hp, ho, hh, hfit, hR'⟩ := evWrite_row hR h1 ru
        simp only [Rel] at rd rx
        obtain ⟨b', g', hp', rfl, _⟩ := rd
        obtain ⟨rfl, rfl⟩ := phdet hp hp'
        obtain ⟨b3, g3, hp3, rfl, _⟩ := rx
        obtain ⟨rfl, rfl⟩ := phdet hp2 hp3
        have hs : (P.info? e).map (·.size) = some 1 := by
          split at hb
          · next i hi => rw [hi]; simp [Nat.eq_of_beq_eq_true hb]
          · cases hb
        have hUl : Us.length = Nat.min m l := by rw [ru.len, hul]
        have hr := fun ty => run_copy_row (P := P) w t1 t2 ty e b off l (c.of g) ⟨b2, o2, none⟩ m (c2.of g2) cur e' Us hu hs hh hUl hcu hfit ho
        exact ⟨((Nat.min m l : Nat) : Int), _, fun ty => by rw [hr ty, hUl]; rfl, hK _ ph _ (Ph.le.refl _) hR' (by simp only [Rel])⟩
      · cases h
  · cases h

/-! ## Calls -/
abbrev CallT := FuncId → List VV → Tr VB → Nat → Option (VV × Tr VB × Nat)
def CallRes (P : Program) (w0 : World) (ph : Ph) (f : FuncId) (Args : List Value) (w : World) (v : VV) (H' : Tr VB) : Prop :=
  bif plainFn P f then Calls P f ⟨Args⟩ w fun e w' => ∃ V ph', ph.le ph' ∧ RH w0 ph' H' w' ∧ Rel ph' v V ∧ e = .returned V
  else ∃ V w', (callFunc f ⟨Args⟩).run P w = .ok (.value V) w' ∧ ∃ ph', ph.le ph' ∧ RH w0 ph' H' w' ∧ Rel ph' v V
def CallOk (P : Program) (w0 : World) (call : CallT) : Prop :=
  ∀ f args H N v H' N', call f args H N = some (v, H', N') → ∀ (ph : Ph) (w : World) (Args : List Value), RH w0 ph H w → RelL ph args Args → CallRes P w0 ph f Args w v H'
def isK : Sc → Value → Bool
  | .int k, .int k' _ => k == k'
  | .bool, .bool _ => true
  | .ptr, .pointer _ => true
  | .slice, .slice .. => true
  | .str, .string _ => true
  | .val, _ => true
  | _, _ => false
def isKs : List Sc → List Value → Bool
  | [], [] => true
  | s :: l, v :: r => isK s v && isKs l r
  | _, _ => false
theorem kindB_k {s : Sc} {v : VV} {V : Value} (h : kindB s v = true) (r : Rel ph v V) : isK s V = true := by
  have := kindB_ld (w := { (default : World) with heap := #[.cells #[V] 0] }) (a := ⟨0, 0, none⟩) (K := fun X => X = V ∧ isK s V = true) h r (by simp [World.cell?])
  cases s with
  | val => rfl
  | int k =>
    cases v <;> simp only [kindB, Bool.false_eq_true] at h
    simp only [Rel] at r; subst r; exact h
  | bool => cases v <;> simp only [kindB, Bool.false_eq_true] at h; simp only [Rel] at r; subst r; rfl
  | str => cases v <;> simp only [kindB, Bool.false_eq_true] at h; simp only [Rel] at r; subst r; rfl
  | ptr =>
    cases v <;> simp only [kindB, Bool.false_eq_true] at h
    rename_i p
    cases p with
    | none => simp only [Rel] at r; subst r; rfl
    | some x => obtain ⟨n, o⟩ := x; simp only [Rel] at r; obtain ⟨_, _, _, rfl⟩ := r; rfl
  | slice =>
    cases v <;> simp only [kindB, Bool.false_eq_true] at h
    · simp only [Rel] at r; subst r; rfl
    · simp only [Rel] at r; obtain ⟨_, _, _, rfl, _⟩ := r; rfl
    · simp only [Rel] at r; obtain ⟨_, _, _, rfl⟩ := r; rfl
theorem kindsB_k : ∀ {l : List Sc} {vs : List VV} {Vs : List Value}, kindsB l vs = true → RelL ph vs Vs → isKs l Vs = true ∧ Vs.length = l.length
  | [], [], Vs, _, r => by simp only [RelL] at r; subst r; exact ⟨rfl, rfl⟩
  | [], _ :: _, _, h, _ => by simp [kindsB] at h
  | _ :: _, [], _, h, _ => by simp [kindsB] at h
  | s :: l, v :: vs, Vs, h, r => by
    simp only [kindsB, Bool.and_eq_true] at h
    obtain ⟨V, R, rfl, h2, h3⟩ := r.uncons
    obtain ⟨h4, h5⟩ := kindsB_k h.2 h3
    exact ⟨by simp only [isKs, Bool.and_eq_true]; exact ⟨kindB_k h.1 h2, h4⟩, by simp [h5]⟩
theorem isKs_append : ∀ {l m : List Sc} {u v : List Value}, isKs l u = true → isKs m v = true → isKs (l ++ m) (u ++ v) = true
  | [], _, [], _, _, k => k
  | [], _, _ :: _, _, h, _ => by simp [isKs] at h
  | _ :: _, _, [], _, h, _ => by simp [isKs] at h
  | s :: l, _, v :: r, _, h, k => by
    simp only [isKs, Bool.and_eq_true] at h
    simp only [List.cons_append, isKs, Bool.and_eq_true]
    exact ⟨h.1, isKs_append h.2 k⟩
theorem JT.app_i {R : Type} : ∀ {l : List Sc} {G : List Value → R} {us : List Value} {Φ : R → Prop}, isKs l us = true → Φ (G us) → JT.app l (JT.lam l G) (us.map some) Φ
  | [], _, [], _, _, k => k
  | [], _, _ :: _, _, h, _ => by simp [isKs] at h
  | _ :: _, _, [], _, h, _ => by simp [isKs] at h
  | s :: l, G, u :: us, Φ, h, k => by
    simp only [isKs, Bool.and_eq_true] at h
    obtain ⟨h1, h2⟩ := h
    cases s <;> cases u <;> simp only [isK, Bool.false_eq_true] at h1
    all_goals (try
      (simp only [List.map_cons]
       exact JT.app_i (l := l) h2 k))
    rename_i k1 k2 n
    have := eq_of_beq h1
    subst this
    simp only [List.map_cons, JT.app, beq_self_eq_true, cond_true]
    exact JT.app_i (l := l) h2 k
theorem shpB_o : ∀ {l : List Sh} {rs : List VV} {Rs : List Value}, shpB l rs = true → RelL ph rs Rs → ∃ us, unpack l Rs = some us ∧ isKs (scs l) us = true
  | [], [], Rs, _, r => by simp only [RelL] at r; subst r; exact ⟨[], rfl, rfl⟩
  | [], _ :: _, _, h, _ => by simp [shpB] at h
  | .one s :: l, [], _, h, _ => by simp [shpB] at h
  | .agg s :: l, [], _, h, _ => by simp [shpB] at h
  | .one s :: l, v :: rs, Rs, h, r => by
    simp only [shpB, Bool.and_eq_true] at h
    obtain ⟨V, R, rfl, h2, h3⟩ := r.uncons
    obtain ⟨us, e1, e2⟩ := shpB_o h.2 h3
    exact ⟨V :: us, by simp [unpack, e1], by simp only [scs, isKs, Bool.and_eq_true]; exact ⟨kindB_k h.1 h2, e2⟩⟩
  | .agg s :: l, v :: rs, Rs, h, r => by
    cases v <;> simp only [shpB, Bool.false_eq_true] at h
    rename_i cs
    simp only [Bool.and_eq_true] at h
    obtain ⟨V, R, rfl, h2, h3⟩ := r.uncons
    simp only [Rel] at h2
    obtain ⟨L, hL, rfl⟩ := h2
    obtain ⟨us, e1, e2⟩ := shpB_o h.2 h3
    obtain ⟨k1, k2⟩ := kindsB_k h.1 hL
    refine ⟨L ++ us, ?_, ?_⟩
    · simp [unpack, k2, e1]
    · simp only [scs]; exact isKs_append k1 e2
/-- A result's parts. -/
def partsV (l : List Sh) (v : VV) : Option (List VV) :=
  match l with
  | [_] => some [v]
  | _ => match v with
    | .tup vs => some vs
    | _ => none
theorem partsV_o {l : List Sh} {v : VV} {V : Value} {rs : List VV} (h : partsV l v = some rs) (hs : shpB l rs = true) (r : Rel ph v V) : ∃ us, V = packR l us ∧ isKs (scs l) us = true := by
  unfold partsV at h
  split at h
  · simp only [Option.some.injEq] at h
    subst h
    obtain ⟨us, e1, e2⟩ := shpB_o hs (RelL.cons r RelL.nil)
    refine ⟨us, ?_, e2⟩
    unfold packR
    rw [unpack_packs e1]
  · next hne =>
    split at h
    · next vs =>
      simp only [Option.some.injEq] at h
      subst h
      simp only [Rel] at r
      obtain ⟨L, hL, rfl⟩ := r
      obtain ⟨us, e1, e2⟩ := shpB_o hs hL
      refine ⟨us, ?_, e2⟩
      unfold packR
      rw [unpack_packs e1]
      have hlen : L.length = l.length := by
        have : ∀ {l : List Sh} {vs : List VV}, shpB l vs = true → vs.length = l.length := by
          intro l
          induction l with
          | nil => intro vs h; cases vs with
            | nil => rfl
            | cons => simp [shpB] at h
          | cons s l ih =>
            intro vs h
            cases vs with
            | nil => cases s <;> simp [shpB] at h
            | cons v vs =>
              cases s with
              | one s => simp only [shpB, Bool.and_eq_true] at h; simp [ih h.2]
              | agg s => cases v <;> simp only [shpB, Bool.false_eq_true, Bool.and_eq_true] at h; simp [ih h.2]
        rw [hL.len, this hs]
      cases L with
      | nil => rfl
      | cons a L => cases L with
        | nil => cases l with
          | nil => simp at hlen
          | cons s l => cases l with
            | nil => exact absurd rfl (hne _)
            | cons => simp at hlen
        | cons => rfl
    · cases h
def evCall (P : Program) (call : CallT) (ty : TypeId) (fv : VV) (vs : List VV) (H : Tr VB) (N : Nat) : Option (VV × Tr VB × Nat) :=
  match fv with
  | .fn g xs ys => (match call g (xs ++ (vs ++ ys)) H N with
    | none => none
    | some (v, H', N') => (match partsV (shsOf P ty) v with
      | none => none
      | some rs => bif shpB (shsOf P ty) rs then some (v, H', N') else none))
  | _ => none
theorem evCall_o {call : CallT} (hc : CallOk P w0 call) (hR : RH w0 ph H w) {ty : TypeId} {fv v : VV} {vs : List VV} {FV : Value} {Vs : List Value} {N N' : Nat} {H' : Tr VB} (h : evCall P call ty fv vs H N = some (v, H', N')) (rf : Rel ph fv FV) (rv : RelL ph vs Vs) {K : Value → World → Prop}
    (hK : ∀ V ph' w', ph.le ph' → RH w0 ph' H' w' → Rel ph' v V → K V w') :
    callVal P FV Vs w (shsOf P ty) (JT.lam _ fun us w' => K (packR (shsOf P ty) us) w') := by
  unfold evCall at h
  split at h
  · next g xs ys =>
    split at h
    · cases h
    · next v' H2 N2 hcall =>
      split at h
      · cases h
      · next rs hrs =>
        cases hb : shpB (shsOf P ty) rs with
        | false => rw [hb] at h; cases h
        | true =>
          simp only [hb, cond_true, Option.some.injEq, Prod.mk.injEq] at h
          obtain ⟨rfl, rfl, _⟩ := h
          simp only [Rel] at rf
          obtain ⟨Xs, Ys, rx, ry, rfl⟩ := rf
          have := hc _ _ _ _ _ _ _ hcall ph w (Xs ++ (Vs ++ Ys)) hR (rx.append (rv.append ry))
          unfold CallRes at this
          unfold callVal
          have ea : ((⟨Xs⟩ : Array Value).toList ++ Vs ++ (⟨Ys⟩ : Array Value).toList).toArray = (⟨Xs ++ (Vs ++ Ys)⟩ : Array Value) := by apply Array.ext'; simp
          simp only [ea]
          have fin : ∀ V w' ph', ph.le ph' → RH w0 ph' H2 w' → Rel ph' v' V → ∃ us, V = packR (shsOf P ty) us ∧ JT.app (scs (shsOf P ty)) (JT.lam _ fun us w' => K (packR (shsOf P ty) us) w') (us.map some) fun r => r w' := by
            intro V w' ph' hle hR' rV
            obtain ⟨us, e1, e2⟩ := partsV_o hrs hb rV
            exact ⟨us, e1, JT.app_i e2 (by rw [← e1]; exact hK _ _ _ hle hR' rV)⟩
          cases hp : plainFn P g with
          | true =>
            simp only [hp, cond_true] at this ⊢
            refine Calls.mono this fun e w' he => ?_
            obtain ⟨V, ph', hle, hR', rV, rfl⟩ := he
            obtain ⟨us, e1, e2⟩ := fin V w' ph' hle hR' rV
            exact JT.ex_of_app (F := fun vs => Ending.returned V = .returned (packR (shsOf P ty) vs)) e2 (by rw [e1])
          | false =>
            simp only [hp, cond_false] at this ⊢
            obtain ⟨V, w', hr, ph', hle, hR', rV⟩ := this
            obtain ⟨us, e1, e2⟩ := fin V w' ph' hle hR' rV
            exact ⟨V, w', hr, JT.ex_of_app (F := fun vs => V = packR (shsOf P ty) vs) e2 (by rw [e1])⟩
  · cases h

/-! ## Together -/
def efStore (P : Program) (H : Tr VB) (N : Nat) (t : TypeId) (x y : Option VV) : Option (VV × Tr VB × Nat) :=
  match x, y with
  | some a, some v => outN (.tup []) N (evStore P t a v H)
  | _, _ => none
def efBox (H : Tr VB) (N : Nat) (t : TypeId) (x : Option VV) : Option (VV × Tr VB × Nat) :=
  match x with
  | some v => evBox t v H N
  | none => none
def efBS (P : Program) (H : Tr VB) (N : Nat) (t : TypeId) (len : Nat) (ps : Option (List (Nat × VV))) : Option (VV × Tr VB × Nat) :=
  match ps with
  | some ps => evBuildS P t len ps H N
  | none => none
def efMS (P : Program) (H : Tr VB) (N : Nat) (t : TypeId) (x y : Option VV) : Option (VV × Tr VB × Nat) :=
  match x, y with
  | some (.int _ (.ofNat l)), some (.int _ (.ofNat c)) => evMakeS P t l c H N
  | _, _ => none
def efConv (P : Program) (H : Tr VB) (N : Nat) (s d : TypeId) (x : Option VV) : Option (VV × Tr VB × Nat) :=
  match x with
  | some v => evConvE P s d v H N
  | none => none
def efRange (P : Program) (H : Tr VB) (N : Nat) (t : TypeId) (x : Option VV) : Option (VV × Tr VB × Nat) :=
  match P.underlying t, x with
  | some .string, some (.str s) => outN (.ptr (some (N, 0))) (Nat.succ N) (evNew H N (.iter s 0))
  | _, _ => none
def efNext (H : Tr VB) (N : Nat) (x : Option VV) (isStr : Bool) : Option (VV × Tr VB × Nat) :=
  match x with
  | some (.ptr (some (n, 0))) => bif isStr then evNext n H N else none
  | _ => none
def efVal (P : Program) (call : CallT) (H : Tr VB) (fr : Tr VV) (N : Nat) (ty : TypeId) (f : Operand) (args : Array Operand) : Option (VV × Tr VB × Nat) :=
  match evO H fr f, evOs H fr args.toList with
  | some fv, some vs => evCall P call ty fv vs H N
  | _, _ => none
def efApp (P : Program) (H : Tr VB) (fr : Tr VV) (N : Nat) (args : Array Operand) (ats : Array TypeId) : Option (VV × Tr VB × Nat) :=
  match args.toList, ats.toList with
  | [x, y], [t1, t2] => (match evO H fr x, evO H fr y with
    | some s, some v => evApp P t1 t2 s v H N
    | _, _ => none)
  | _, _ => none
def efCopy (P : Program) (H : Tr VB) (fr : Tr VV) (N : Nat) (args : Array Operand) (ats : Array TypeId) : Option (VV × Tr VB × Nat) :=
  match args.toList, ats.toList with
  | [x, y], [t1, _] => (match evO H fr x, evO H fr y with
    | some s, some v => evCopy P t1 s v H N
    | _, _ => none)
  | _, _ => none
def efCall (P : Program) (call : CallT) (H : Tr VB) (fr : Tr VV) (N : Nat) (ty : TypeId) (callee : Callee) (args : Array Operand) (ats : Array TypeId) : Option (VV × Tr VB × Nat) :=
  match callee with
  | .value f => efVal P call H fr N ty f args
  | .builtin .append => efApp P H fr N args ats
  | .builtin .copy => efCopy P H fr N args ats
  | _ => none
def evEff (P : Program) (call : CallT) (H : Tr VB) (fr : Tr VV) (N : Nat) (o : Oper) : Option (VV × Tr VB × Nat) :=
  match o.op with
  | .store t x y => efStore P H N t (evO H fr x) (evO H fr y)
  | .alloc t => evAlloc P t H N
  | .box t x => efBox H N t (evO H fr x)
  | .buildSlice t len parts => efBS P H N t len (evPts H fr parts.toList)
  | .makeSlice t x y => efMS P H N t (evO H fr x) (evO H fr y)
  | .convert s d x => efConv P H N s d (evO H fr x)
  | .range t x => efRange P H N t (evO H fr x)
  | .next x isStr => efNext H N (evO H fr x) isStr
  | .call c => efCall P call H fr N o.type c.callee c.args c.argTypes
  | _ => none
theorem evEff_o {call : CallT} (hc : CallOk P w0 call) (hR : RH w0 ph H w) (hf : FrRel ph fr Fr) {o : Oper} {v : VV} {N N' : Nat} {H' : Tr VB} (h : evEff P call H fr N o = some (v, H', N')) {K : Value → World → Prop} (hK : ∀ V ph' w', ph.le ph' → RH w0 ph' H' w' → Rel ph' v V → K V w') :
    vcEff P Fr o w K := by
  obtain ⟨dst, op, ty, pos, aft, gd⟩ := o
  unfold evEff at h
  unfold vcEff
  dsimp only at h ⊢
  split at h
  · -- store
    unfold efStore at h
    split at h
    · next a y ha hy =>
      obtain ⟨A, ea, ra⟩ := evO_o hR hf ha
      obtain ⟨Y, ey, ry⟩ := evO_o hR hf hy
      obtain ⟨h1, rfl⟩ := outN_o h
      obtain ⟨ad, rfl, hs⟩ := evStore_o hR h1 ra ry (K := K undef) fun w' hR' => hK _ ph _ (Ph.le.refl _) hR' (by simp only [Rel]; exact ⟨[], RelL.nil, rfl⟩)
      simp only [ea, ey]
      exact hs
    · cases h
  · exact evAlloc_o hR h hK
  · -- box
    unfold efBox at h
    split at h
    · next x hx =>
      obtain ⟨X, ex, rx⟩ := evO_o hR hf hx
      simp only [ex]
      exact evBox_o hR h rx hK
    · cases h
  · -- buildSlice
    unfold efBS at h
    split at h
    · next ps hp =>
      obtain ⟨Ps, ep, rp⟩ := evPts_o hR hf hp
      simp only [ep]
      exact evBuildS_o hR h rp hK
    · cases h
  · -- makeSlice
    unfold efMS at h
    split at h
    · next k l k' c hl hcc =>
      obtain ⟨L, el, rl⟩ := evO_o hR hf hl
      obtain ⟨C, ec, rc⟩ := evO_o hR hf hcc
      simp only [Rel] at rl rc; subst rl; subst rc
      obtain ⟨e, j, hu, hj, hz, hm⟩ := evMakeS_o hR h hK
      simp only [hu, el, ec, hj, hz, cond_true]
      exact hm
    · cases h
  · -- convert
    unfold efConv at h
    split at h
    · next x hx =>
      obtain ⟨X, ex, rx⟩ := evO_o hR hf hx
      simp only [ex]
      exact evConvE_o hR h rx hK
    · cases h
  · -- range
    unfold efRange at h
    split at h
    · next s hu hx =>
      obtain ⟨X, ex, rx⟩ := evO_o hR hf hx
      simp only [Rel] at rx; subst rx
      simp only [hu, ex]
      obtain ⟨h1, rfl⟩ := outN_o h
      obtain ⟨hN, hG, rfl⟩ := evNew_o h1
      obtain ⟨ph', hle, hp, hR'⟩ := hR.new (N := N) (g := 0) (vb := .iter s 0) hN hG (chg_alloc w (.stringIter ⟨s.toArray⟩ 0)) fun ph' _ _ => ⟨heap_alloc_new w _, hR.chg.size⟩
      exact hK _ ph' _ hle hR' (by simp only [Rel]; exact ⟨_, _, hp, rfl⟩)
    · cases h
  · -- next
    next x isStr =>
    unfold efNext at h
    split at h
    · next n hx =>
      cases isStr with
      | false => cases h
      | true =>
        simp only [cond_true] at h
        obtain ⟨X, ex, rx⟩ := evO_o hR hf hx
        simp only [Rel] at rx; obtain ⟨b, g, hp, rfl⟩ := rx
        simp only [ex]
        exact evNext_o hR h hp hK
    · cases h
  · -- call
    next c =>
    obtain ⟨callee, args, argTypes⟩ := c
    unfold efCall at h
    dsimp only at h ⊢
    split at h
    · -- value
      unfold efVal at h
      split at h
      · next fv vs hf' hv =>
        obtain ⟨FV, e1, r1⟩ := evO_o hR hf hf'
        obtain ⟨Vs, e2, r2⟩ := evOs_o hR hf hv
        simp only [e1, e2]
        exact evCall_o hc hR h r1 r2 hK
      · cases h
    · -- append
      unfold efApp at h
      split at h
      · next x y t1 t2 e1 e2 =>
        split at h
        · next s v hs hv =>
          obtain ⟨S, e3, r3⟩ := evO_o hR hf hs
          obtain ⟨V, e4, r4⟩ := evO_o hR hf hv
          simp only [e1, e2, e3, e4]
          exact evApp_o hR h r3 r4 hK
        · cases h
      · cases h
    · -- copy
      unfold efCopy at h
      split at h
      · next x y t1 t2 e1 e2 =>
        split at h
        · next s v hs hv =>
          obtain ⟨S, e3, r3⟩ := evO_o hR hf hs
          obtain ⟨V, e4, r4⟩ := evO_o hR hf hv
          simp only [e1, e2, e3, e4]
          exact evCopy_o hR h r3 r4 hK
        · cases h
      · cases h
    · cases h
  · cases h
end
end Go.Vc


/-
  An evaluator of loaded code: pieces of code, functions; what it finds is so.
-/
set_option linter.unusedVariables false
set_option linter.unusedSimpArgs false
namespace Go.Vc
open Go Go.RowKit

/-! ## Slots, guards -/
section
variable {R : Type}
def putK (n : Nat) (fr : Tr VV) (dst : Option Nat) (v : VV) (k : Tr VV → Option R) : Option R :=
  match dst with
  | none => k fr
  | some d => bif Nat.blt d n then fr.setK d v k else none
end
section
variable {P : Program} {w0 w w' : World} {ph ph' : Ph} {H : Tr VB} {fr : Tr VV} {F : Fr}
theorem putK_o {R : Type} {n : Nat} {dst : Option Nat} {v : VV} {V : Value} {k : Tr VV → Option R} {r : R} (h : putK n fr dst v k = some r) (hf : FrRel ph fr F) (rv : Rel ph v V) : ∃ fr', k fr' = some r ∧ FrRel ph fr' (F.put n dst V) := by
  unfold putK at h
  split at h
  · exact ⟨fr, h, hf⟩
  · next d =>
    cases hb : Nat.blt d n with
    | false => rw [hb] at h; cases h
    | true =>
      simp only [hb, cond_true, Tr.setK_eq] at h
      refine ⟨_, h, fun t x hx => ?_⟩
      simp only [Fr.put, Fr.set, hb, cond_true]
      by_cases e : t = d
      · subst e
        rw [Tr.get_same] at hx
        cases hx
        exact ⟨V, by simp, rv⟩
      · rw [Tr.get_other _ _ e] at hx
        rw [beqN, decide_eq_false e, cond_false]
        exact hf t x hx
def evG (all : Array Oper) (o : Oper) (fr : Tr VV) : Option Bool :=
  match o.guard with
  | none => some true
  | some (j, want) => match (all[j]?).bind (·.dst) with
    | none => none
    | some d => match fr.get d with
      | some (.bool true) => some want
      | some (.bool false) => some (!want)
      | some (.tup _) => some false
      | _ => none
theorem evG_o {all : Array Oper} {o : Oper} {b : Bool} (h : evG all o fr = some b) (hf : FrRel ph fr F) {K : Fr → Bool → Prop} (hK : ∀ Fr', FrRel ph fr Fr' → K Fr' b) : vcG all o F K := by
  unfold evG at h
  unfold vcG
  split at h
  · next hg => simp only [Option.some.injEq] at h; subst h; simp only [hg]; exact hK _ hf
  · next j want hg =>
    simp only [hg]
    split at h
    · cases h
    · next d hd =>
      simp only [hd]
      have know : ∀ g : Bool, F d = some (.bool g) → FrRel ph fr (F.set d (some (.bool g))) := by
        intro g hg t x hx
        simp only [Fr.set]
        by_cases e : t = d
        · subst e; rw [show Nat.beq t t = true from Nat.beq_refl t, cond_true, ← hg]; exact hf t x hx
        · rw [beqN, decide_eq_false e, cond_false]; exact hf t x hx
      split at h
      · next hx =>
        obtain ⟨V, e, r⟩ := hf _ _ hx
        simp only [Rel] at r; subst r
        simp only [Option.some.injEq] at h; subst h
        simp only [e]
        exact hK _ (know true e)
      · next hx =>
        obtain ⟨V, e, r⟩ := hf _ _ hx
        simp only [Rel] at r; subst r
        simp only [Option.some.injEq] at h; subst h
        simp only [e]
        exact hK _ (know false e)
      · next vs hx =>
        obtain ⟨V, e, r⟩ := hf _ _ hx
        simp only [Rel] at r; obtain ⟨L, _, rfl⟩ := r
        simp only [Option.some.injEq] at h; subst h
        simp only [e]
        exact hK _ hf
      · cases h

/-! ## Operations in their order -/
abbrev OutT := Option (Tr VV × Tr VB × Nat)
def evOps (P : Program) (call : CallT) (n : Nat) (all : Array Oper) : List Oper → Tr VV → Tr VB → Nat → OutT
  | [], fr, H, N => some (fr, H, N)
  | o :: r, fr, H, N => match evG all o fr with
    | none => none
    | some false => putK n fr o.dst (.tup []) fun fr => evOps P call n all r fr H N
    | some true => match isEff P o with
      | true => (match evEff P call H fr N o with
        | none => none
        | some (v, H, N) => fN N fun N => putK n fr o.dst v fun fr => evOps P call n all r fr H N)
      | false => (match evRead P H fr o with
        | none => none
        | some (v, _) => putK n fr o.dst v fun fr => evOps P call n all r fr H N)
theorem undef_rel : Rel ph (.tup []) undef := by simp only [Rel]; exact ⟨[], RelL.nil, rfl⟩
theorem evOps_o {call : CallT} (hc : CallOk P w0 call) {n : Nat} {all : Array Oper} : ∀ {l : List Oper} {ph : Ph} {w : World} {fr : Tr VV} {H : Tr VB} {N : Nat} {F : Fr} {fr' : Tr VV} {H' : Tr VB} {N' : Nat} {K : Fr → World → Prop},
    evOps P call n all l fr H N = some (fr', H', N') → RH w0 ph H w → FrRel ph fr F → (∀ Fr' ph' w', ph.le ph' → RH w0 ph' H' w' → FrRel ph' fr' Fr' → K Fr' w') → vcOps P n all l F w K
  | [], ph, w, fr, H, N, F, fr', H', N', K, h, hR, hf, hK => by
    simp only [evOps, Option.some.injEq, Prod.mk.injEq] at h
    obtain ⟨rfl, rfl, _⟩ := h
    exact hK _ ph _ (Ph.le.refl _) hR hf
  | o :: r, ph, w, fr, H, N, F, fr', H', N', K, h, hR, hf, hK => by
    unfold evOps at h
    simp only [vcOps, vcOp1]
    split at h
    · cases h
    · next hg =>
      refine evG_o hg hf fun Fr1 hf1 => ?_
      simp only [cond_false]
      obtain ⟨fr2, h2, hf2⟩ := putK_o h hf1 undef_rel
      exact evOps_o hc h2 hR hf2 hK
    · next hg =>
      refine evG_o hg hf fun Fr1 hf1 => ?_
      simp only [cond_true]
      split at h
      · next he =>
        simp only [he, cond_true]
        split at h
        · cases h
        · next v H1 N1 hv =>
          simp only [fN_eq] at h
          refine evEff_o hc hR hf1 hv fun V ph1 w1 hle hR1 rv => ?_
          obtain ⟨fr2, h2, hf2⟩ := putK_o h (hf1.mono hle) rv
          exact evOps_o hc h2 hR1 hf2 fun Fr' ph' w' hle' => hK Fr' ph' w' (hle.trans hle')
      · next he =>
        simp only [he, cond_false]
        split at h
        · cases h
        · next v ld hv =>
          refine evRead_o hR hf1 hv fun V S rv _ => ?_
          obtain ⟨fr2, h2, hf2⟩ := putK_o h hf1 rv
          exact evOps_o hc h2 hR hf2 hK

/-! ## The same state? -/
def eqI (a b : Int) : Bool := match a, b with
  | .ofNat m, .ofNat n => Nat.beq m n
  | .negSucc m, .negSucc n => Nat.beq m n
  | _, _ => false
theorem eqI_o {a b : Int} (h : eqI a b = true) : a = b := by
  unfold eqI at h
  split at h
  · rw [Nat.eq_of_beq_eq_true h]
  · rw [Nat.eq_of_beq_eq_true h]
  · cases h
theorem eqU_o {a b : List UInt8} (h : eqU a b = true) : a = b := by rw [eqU_eq] at h; exact eq_of_beq h
def eqCP (a b : CP) : Bool := match a, b with
  | .num m, .num n => Nat.beq m n
  | .blk s o, .blk s' o' => Nat.beq s s' && Nat.beq o o'
  | _, _ => false
theorem eqCP_o {a b : CP} (h : eqCP a b = true) : a = b := by
  unfold eqCP at h
  split at h
  · rw [Nat.eq_of_beq_eq_true h]
  · simp only [Bool.and_eq_true] at h; rw [Nat.eq_of_beq_eq_true h.1, Nat.eq_of_beq_eq_true h.2]
  · cases h
def eqV0 (a b : VV) : Bool := match a, b with
  | .int k m, .int k' n => k == k' && eqI m n
  | .bool a, .bool b => a == b
  | .str s, .str t => eqU s t
  | .ptr none, .ptr none => true
  | .ptr (some (n, o)), .ptr (some (n', o')) => Nat.beq n n' && Nat.beq o o'
  | .sln, .sln => true
  | .sl n o l c, .sl n' o' l' c' => Nat.beq n n' && Nat.beq o o' && Nat.beq l l' && eqCP c c'
  | .slz n a b s o, .slz n' a' b' s' o' => Nat.beq n n' && Nat.beq a a' && Nat.beq b b' && Nat.beq s s' && Nat.beq o o'
  | .nf, .nf => true
  | .ni, .ni => true
  | _, _ => false
theorem eqV0_o {a b : VV} (h : eqV0 a b = true) : a = b := by
  unfold eqV0 at h
  split at h <;> (try simp only [Bool.and_eq_true] at h)
  · rw [eq_of_beq h.1, eqI_o h.2]
  · rw [eq_of_beq h]
  · rw [eqU_o h]
  · rfl
  · rw [Nat.eq_of_beq_eq_true h.1, Nat.eq_of_beq_eq_true h.2]
  · rfl
  · rw [Nat.eq_of_beq_eq_true h.1.1.1, Nat.eq_of_beq_eq_true h.1.1.2, Nat.eq_of_beq_eq_true h.1.2, eqCP_o h.2]
  · rw [Nat.eq_of_beq_eq_true h.1.1.1.1, Nat.eq_of_beq_eq_true h.1.1.1.2, Nat.eq_of_beq_eq_true h.1.1.2, Nat.eq_of_beq_eq_true h.1.2, Nat.eq_of_beq_eq_true h.2]
  · rfl
  · rfl
  · cases h
def eqVs (e : VV → VV → Bool) : List VV → List VV → Bool
  | [], [] => true
  | a :: r, b :: s => e a b && eqVs e r s
  | _, _ => false
theorem eqVs_o {e : VV → VV → Bool} (he : ∀ {a b}, e a b = true → a = b) : ∀ {a b : List VV}, eqVs e a b = true → a = b
  | [], [], _ => rfl
  | [], _ :: _, h => by simp [eqVs] at h
  | _ :: _, [], h => by simp [eqVs] at h
  | _ :: _, _ :: _, h => by
    simp only [eqVs, Bool.and_eq_true] at h
    rw [he h.1, eqVs_o he h.2]
def eqV1 (a b : VV) : Bool := match a, b with
  | .agg l, .agg m => eqVs eqV0 l m
  | .fn g x y, .fn g' x' y' => Nat.beq g g' && eqVs eqV0 x x' && eqVs eqV0 y y'
  | .iface t v, .iface t' v' => Nat.beq t t' && eqV0 v v'
  | a, b => eqV0 a b
theorem eqV1_o {a b : VV} (h : eqV1 a b = true) : a = b := by
  unfold eqV1 at h
  split at h
  · rw [eqVs_o eqV0_o h]
  · simp only [Bool.and_eq_true] at h
    rw [Nat.eq_of_beq_eq_true h.1.1, eqVs_o eqV0_o h.1.2, eqVs_o eqV0_o h.2]
  · simp only [Bool.and_eq_true] at h
    rw [Nat.eq_of_beq_eq_true h.1, eqV0_o h.2]
  · exact eqV0_o h
def eqV (a b : VV) : Bool := match a, b with
  | .tup l, .tup m => eqVs eqV1 l m
  | a, b => eqV1 a b
theorem eqV_o {a b : VV} (h : eqV a b = true) : a = b := by
  unfold eqV at h
  split at h
  · rw [eqVs_o eqV1_o h]
  · exact eqV1_o h
def eqVB (a b : VB) : Bool := match a, b with
  | .dead, .dead => true
  | .con x, .con y => eqVs eqV1 x y
  | .cells x e s, .cells y e' s' => eqVs eqV1 x y && Nat.beq e e' && Nat.beq s s'
  | .iter s p, .iter t q => eqU s t && Nat.beq p q
  | _, _ => false
theorem eqVB_o {a b : VB} (h : eqVB a b = true) : a = b := by
  unfold eqVB at h
  split at h <;> (try simp only [Bool.and_eq_true] at h)
  · rfl
  · rw [eqVs_o eqV1_o h]
  · rw [eqVs_o eqV1_o h.1.1, Nat.eq_of_beq_eq_true h.1.2, Nat.eq_of_beq_eq_true h.2]
  · rw [eqU_o h.1, Nat.eq_of_beq_eq_true h.2]
  · cases h
def eqTr {α : Type} (e : α → α → Bool) : Tr α → Tr α → Bool
  | .lf, .lf => true
  | .nd none l r, .nd none l' r' => eqTr e l l' && eqTr e r r'
  | .nd (some x) l r, .nd (some y) l' r' => e x y && eqTr e l l' && eqTr e r r'
  | _, _ => false
theorem eqTr_o {α : Type} {e : α → α → Bool} (he : ∀ {a b}, e a b = true → a = b) : ∀ {a b : Tr α}, eqTr e a b = true → a = b
  | .lf, .lf, _ => rfl
  | .lf, .nd .., h => by simp [eqTr] at h
  | .nd none _ _, .lf, h => by simp [eqTr] at h
  | .nd (some _) _ _, .lf, h => by simp [eqTr] at h
  | .nd none l r, .nd none l' r', h => by
    simp only [eqTr, Bool.and_eq_true] at h
    rw [eqTr_o he h.1, eqTr_o he h.2]
  | .nd none _ _, .nd (some _) _ _, h => by simp [eqTr] at h
  | .nd (some _) _ _, .nd none _ _, h => by simp [eqTr] at h
  | .nd (some x) l r, .nd (some y) l' r', h => by
    simp only [eqTr, Bool.and_eq_true] at h
    rw [he h.1.1, eqTr_o he h.1.2, eqTr_o he h.2]

/-! ## Regions in whatever order -/
def stillB (H : Tr VB) : Option Ld → Bool
  | none => true
  | some (n, off, vs) => match cellsV H n off vs.length with
    | some us => eqVs eqV us vs
    | none => false
/-- What was loaded, and what it needs of the world. -/
def HeldOk (ph : Ph) (ld : Option Ld) (S : World → Prop) : Prop :=
  match ld with
  | none => ∀ w, S w
  | some (n, off, vs) => ∃ b g Vs, ph n = some (b, g) ∧ RelL ph vs Vs ∧ ∀ w', cellsAt w' ⟨b, off, none⟩ Vs → S w'
theorem HeldOk.mono {ld : Option Ld} {S : World → Prop} (h : HeldOk ph ld S) (hle : ph.le ph') : HeldOk ph' ld S := by
  cases ld with
  | none => exact h
  | some x => obtain ⟨n, off, vs⟩ := x; obtain ⟨b, g, Vs, h1, h2, h3⟩ := h; exact ⟨b, g, Vs, hle _ _ h1, h2.mono hle, h3⟩
theorem HeldOk.of (hR : RH w0 ph H w) {ld : Option Ld} {S : World → Prop} (h : LdOk ph ld S) (hs : stillB H ld = true) : HeldOk ph ld S := by
  cases ld with
  | none => exact h
  | some x =>
    obtain ⟨n, off, vs⟩ := x
    unfold stillB at hs
    simp only at hs
    split at hs
    · next us hus =>
      obtain ⟨b, g, Us, hp, r, hl, hc⟩ := cellsV_o hR hus
      have := eqVs_o eqV_o hs
      subst this
      exact ⟨b, g, Us, hp, r, fun w' hw' => h b g Us hp r w' hw'⟩
    · cases hs
theorem HeldOk.still (hR : RH w0 ph H w) {ld : Option Ld} {S : World → Prop} (h : HeldOk ph ld S) (hs : stillB H ld = true) : S w := by
  cases ld with
  | none => exact h w
  | some x =>
    obtain ⟨n, off, vs⟩ := x
    obtain ⟨b, g, Vs, h1, h2, h3⟩ := h
    unfold stillB at hs
    simp only at hs
    split at hs
    · next us hus =>
      obtain ⟨b', g', Us, hp, r, hl, hc⟩ := cellsV_o hR hus
      have := eqVs_o eqV_o hs
      subst this
      obtain ⟨rfl, rfl⟩ := phdet h1 hp
      rw [RelL.det h2 r] at h3
      exact h3 w hc
    · cases hs
abbrev VHeld := List (Nat × Option Ld)
def HRel (ph : Ph) : VHeld → Held → Prop
  | [], Γ => Γ = []
  | (i, ld) :: r, Γ => ∃ S Δ, Γ = (i, S) :: Δ ∧ HeldOk ph ld S ∧ HRel ph r Δ
theorem HRel.mono {Λ : VHeld} : ∀ {Γ : Held}, HRel ph Λ Γ → ph.le ph' → HRel ph' Λ Γ := by
  induction Λ with
  | nil => intro Γ h _; exact h
  | cons x r ih =>
    obtain ⟨i, ld⟩ := x
    intro Γ h hle
    obtain ⟨S, Δ, rfl, h1, h2⟩ := h
    exact ⟨S, Δ, rfl, h1.mono hle, ih h2 hle⟩
def stillAll (ops : Array Oper) (i : Nat) (H : Tr VB) : VHeld → Bool
  | [] => true
  | (k, ld) :: r => (dep ops i k || stillB H ld) && stillAll ops i H r
theorem stillAll_o (hR : RH w0 ph H w) {ops : Array Oper} {i : Nat} {X : Prop} (hX : X) : ∀ {Λ : VHeld} {Γ : Held}, stillAll ops i H Λ = true → HRel ph Λ Γ → oblC ops i w X Γ
  | [], Γ, _, h => by simp only [HRel] at h; subst h; exact hX
  | (k, ld) :: r, Γ, hs, h => by
    obtain ⟨S, Δ, rfl, h1, h2⟩ := h
    simp only [stillAll, Bool.and_eq_true] at hs
    unfold oblC
    cases hd : dep ops i k with
    | true => rw [cond_true]; exact stillAll_o hR hX hs.2 h2
    | false =>
      rw [hd, Bool.false_or] at hs
      rw [cond_false]
      exact ⟨h1.still hR hs.1, stillAll_o hR hX hs.2 h2⟩
def isCall (o : Oper) : Bool := match o.op with | .call { callee := .value _, .. } => true | _ => false
/-- One operation of a region that is drawn: new blocks have names by its place. -/
def evOne (P : Program) (call : CallT) (n : Nat) (ops : Array Oper) (B i : Nat) (o : Oper) (Λ : VHeld) (fr : Tr VV) (H : Tr VB) (N : Nat) (k : Tr VV → Tr VB → Nat → OutT) : OutT :=
  match evG ops o fr with
  | none => none
  | some false => putK n fr o.dst (.tup []) fun fr => k fr H N
  | some true => match isEff P o with
    | true => (match evEff P call H fr (bif isCall o then N else Nat.add B i) o with
      | none => none
      | some (v, H', N') => bif stillAll ops i H' Λ then fN (bif isCall o then N' else N) fun N => putK n fr o.dst v fun fr => k fr H' N else none)
    | false => (match evRead P H fr o with
      | none => none
      | some (v, _) => putK n fr o.dst v fun fr => k fr H N)
def sameOut (a b : OutT) : OutT := match a, b with
  | some (fr, H, N), some (fr', H', _) => bif eqTr eqV fr fr' && eqTr eqVB H H' then some (fr, H, N) else none
  | _, _ => none
def evDA (P : Program) (call : CallT) (n : Nat) (ops : Array Oper) (B : Nat) : DA → VHeld → Tr VV → Tr VB → Nat → OutT
  | .done, _, fr, H, N => some (fr, H, N)
  | .take i k, Λ, fr, H, N => (match ops[i]? with
    | none => none
    | some o => match evG ops o fr with
      | none => none
      | some false => putK n fr o.dst (.tup []) fun fr => evDA P call n ops B k Λ fr H N
      | some true => match evRead P H fr o with
        | none => none
        | some (v, ld) => match isLd P o with
          | true => bif stillB H ld then putK n fr o.dst v fun fr => evDA P call n ops B k ((i, ld) :: Λ) fr H N else none
          | false => putK n fr o.dst v fun fr => evDA P call n ops B k Λ fr H N)
  | .eff i k .none, Λ, fr, H, N => (match ops[i]? with
    | none => none
    | some o => evOne P call n ops B i o Λ fr H N fun fr H N => evDA P call n ops B k Λ fr H N)
  | .eff i k alt, Λ, fr, H, N => (match ops[i]? with
    | none => none
    | some o => sameOut (evOne P call n ops B i o Λ fr H N fun fr H N => evDA P call n ops B k Λ fr H N) (evDA P call n ops B alt Λ fr H N))
  | .none, _, _, _, _ => none
def wfDA (P : Program) (ops : Array Oper) : Bool → DA → Nat → Array Bool → Bool
  | _, .done, _, listed => (Region.ready .any ops listed).isEmpty
  | _, .take i k, fuel + 1, listed => (match ops[i]? with
    | none => false
    | some o => (Region.free .any ops listed i && (Region.ready .any ops listed).contains i && !isEff P o) && wfDA P ops true k fuel (listed.setIfInBounds i true))
  | chk, .eff i k alt, fuel + 1, listed => (!chk || (i :: alt.idx) == Region.ready .any ops listed) && wfDA P ops true k fuel (listed.setIfInBounds i true) &&
      (match alt with | .none => true | alt => wfDA P ops false alt (fuel + 1) listed)
  | _, _, _, _ => false
theorem sameOut_o {a b : OutT} {fr : Tr VV} {H : Tr VB} {N : Nat} (h : sameOut a b = some (fr, H, N)) : a = some (fr, H, N) ∧ ∃ N', b = some (fr, H, N') := by
  unfold sameOut at h
  split at h
  · next fr1 H1 N1 fr2 H2 N2 =>
    cases hb : (eqTr eqV fr1 fr2 && eqTr eqVB H1 H2) with
    | false => simp [hb] at h
    | true =>
      simp only [hb, cond_true, Option.some.injEq, Prod.mk.injEq] at h
      obtain ⟨rfl, rfl, rfl⟩ := h
      simp only [Bool.and_eq_true] at hb
      rw [← eqTr_o eqV_o hb.1, ← eqTr_o eqVB_o hb.2]
      exact ⟨rfl, _, rfl⟩
  · cases h
theorem evOne_o {call : CallT} (hc : CallOk P w0 call) (hR : RH w0 ph H w) (hf : FrRel ph fr F) {n : Nat} {ops : Array Oper} {B i : Nat} {o : Oper} {Λ : VHeld} {Γ : Held} (hΛ : HRel ph Λ Γ) {N : Nat} {k : Tr VV → Tr VB → Nat → OutT} {r : Tr VV × Tr VB × Nat}
    (h : evOne P call n ops B i o Λ fr H N k = some r) {D : Fr → World → Prop}
    (hK : ∀ (ph' : Ph) fr' H' N' Fr' w', ph.le ph' → RH w0 ph' H' w' → FrRel ph' fr' Fr' → HRel ph' Λ Γ → k fr' H' N' = some r → D Fr' w') :
    vcG ops o F fun Fr' run => bif run then
      (bif isEff P o then vcEff P Fr' o w fun v w' => oblC ops i w' (D (Fr'.put n o.dst v) w') Γ else vcRead P Fr' o w fun v _ => D (Fr'.put n o.dst v) w)
    else D (Fr'.put n o.dst undef) w := by
  unfold evOne at h
  split at h
  · cases h
  · next hg =>
    refine evG_o hg hf fun Fr1 hf1 => ?_
    simp only [cond_false]
    obtain ⟨fr2, h2, hf2⟩ := putK_o h hf1 undef_rel
    exact hK ph _ _ _ _ _ (Ph.le.refl _) hR hf2 hΛ h2
  · next hg =>
    refine evG_o hg hf fun Fr1 hf1 => ?_
    simp only [cond_true]
    split at h
    · next he =>
      simp only [he, cond_true]
      split at h
      · cases h
      · next v H1 N1 hv =>
        cases hs : stillAll ops i H1 Λ with
        | false => rw [hs] at h; cases h
        | true =>
          simp only [hs, cond_true, fN_eq] at h
          refine evEff_o hc hR hf1 hv fun V ph1 w1 hle hR1 rv => ?_
          obtain ⟨fr2, h2, hf2⟩ := putK_o h (hf1.mono hle) rv
          exact stillAll_o hR1 (hK ph1 _ _ _ _ _ hle hR1 hf2 (hΛ.mono hle) h2) hs (hΛ.mono hle)
    · next he =>
      simp only [he, cond_false]
      split at h
      · cases h
      · next v ld hv =>
        refine evRead_o hR hf1 hv fun V S rv _ => ?_
        obtain ⟨fr2, h2, hf2⟩ := putK_o h hf1 rv
        exact hK ph _ _ _ _ _ (Ph.le.refl _) hR hf2 hΛ h2
theorem evDA_o {call : CallT} (hc : CallOk P w0 call) {n : Nat} {ops : Array Oper} {B : Nat} : ∀ (d : DA) (chk : Bool) (fuel : Nat) (listed : Array Bool) {ph : Ph} {w : World} {fr : Tr VV} {H : Tr VB} {N : Nat} {F : Fr} {Λ : VHeld} {Γ : Held} {fr' : Tr VV} {H' : Tr VB} {N' : Nat} {K : Fr → World → Prop},
    wfDA P ops chk d fuel listed = true → evDA P call n ops B d Λ fr H N = some (fr', H', N') → RH w0 ph H w → FrRel ph fr F → HRel ph Λ Γ → (∀ Fr' ph' w', ph.le ph' → RH w0 ph' H' w' → FrRel ph' fr' Fr' → K Fr' w') →
    vcDA P n ops chk d fuel listed Γ F w K := by
  intro d
  induction d with
  | done =>
    intro chk fuel listed ph w fr H N F Λ Γ fr' H' N' K hw h hR hf hΛ hK
    simp only [evDA, Option.some.injEq, Prod.mk.injEq] at h
    obtain ⟨rfl, rfl, _⟩ := h
    unfold wfDA at hw
    unfold vcDA
    rw [hw, cond_true]
    exact hK _ ph _ (Ph.le.refl _) hR hf
  | none =>
    intro chk fuel listed ph w fr H N F Λ Γ fr' H' N' K hw h hR hf hΛ hK
    simp only [evDA, reduceCtorEq] at h
  | take i k ih =>
    intro chk fuel listed ph w fr H N F Λ Γ fr' H' N' K hw h hR hf hΛ hK
    cases fuel with
    | zero => unfold wfDA at hw; cases hw
    | succ fuel =>
      unfold wfDA at hw
      unfold evDA at h
      unfold vcDA
      split at h
      · cases h
      · next o ho =>
        rw [ho] at hw
        simp only [Bool.and_eq_true] at hw
        obtain ⟨⟨⟨w1, w2⟩, w3⟩, w4⟩ := hw
        have hb : (Region.free .any ops listed i && (Region.ready .any ops listed).contains i && !isEff P o) = true := by rw [w1, w2, w3]; rfl
        simp only [ho, hb, cond_true]
        split at h
        · cases h
        · next hg =>
          refine evG_o hg hf fun Fr1 hf1 => ?_
          simp only [cond_false]
          obtain ⟨fr2, h2, hf2⟩ := putK_o h hf1 undef_rel
          exact ih true fuel _ w4 h2 hR hf2 hΛ hK
        · next hg =>
          refine evG_o hg hf fun Fr1 hf1 => ?_
          simp only [cond_true]
          split at h
          · cases h
          · next v ld hv =>
            split at h
            · next hl =>
              cases hs : stillB H ld with
              | false => rw [hs] at h; cases h
              | true =>
                simp only [hs, cond_true] at h
                refine evRead_o hR hf1 hv fun V S rv hS => ?_
                obtain ⟨fr2, h2, hf2⟩ := putK_o h hf1 rv
                simp only [hl, cond_true]
                exact ih true fuel _ w4 h2 hR hf2 ⟨S, Γ, rfl, HeldOk.of hR hS hs, hΛ⟩ hK
            · next hl =>
              refine evRead_o hR hf1 hv fun V S rv hS => ?_
              obtain ⟨fr2, h2, hf2⟩ := putK_o h hf1 rv
              simp only [hl, cond_false]
              exact ih true fuel _ w4 h2 hR hf2 hΛ hK
  | eff i k alt ih1 ih2 =>
    intro chk fuel listed ph w fr H N F Λ Γ fr' H' N' K hw h hR hf hΛ hK
    cases fuel with
    | zero => unfold wfDA at hw; cases chk <;> cases hw
    | succ fuel =>
      unfold wfDA at hw
      simp only [Bool.and_eq_true] at hw
      obtain ⟨⟨w1, w2⟩, w3⟩ := hw
      unfold vcDA
      have one : ∀ (o : Oper) {N' : Nat}, evOne P call n ops B i o Λ fr H N (fun fr H N => evDA P call n ops B k Λ fr H N) = some (fr', H', N') →
          vcG ops o F fun fr' run => bif run then
            (bif isEff P o then vcEff P fr' o w fun v w' => oblC ops i w' (vcDA P n ops true k fuel (listed.setIfInBounds i true) Γ (fr'.put n o.dst v) w' K) Γ
              else vcRead P fr' o w fun v _ => vcDA P n ops true k fuel (listed.setIfInBounds i true) Γ (fr'.put n o.dst v) w K)
          else vcDA P n ops true k fuel (listed.setIfInBounds i true) Γ (fr'.put n o.dst undef) w K := by
        intro o N' h1
        exact evOne_o hc hR hf hΛ h1 (D := fun F w => vcDA P n ops true k fuel (listed.setIfInBounds i true) Γ F w K) fun ph1 fr1 H1 N1 Fr1 w1 hle hR1 hf1 hΛ1 hk =>
          ih1 true fuel _ w2 hk hR1 hf1 hΛ1 fun Fr' ph' w' hle' => hK Fr' ph' w' (hle.trans hle')
      by_cases ha : alt = .none
      · subst ha
        unfold evDA at h
        split at h
        · cases h
        · next o ho =>
          simp only [ho, w1, cond_true, andAlt]
          exact one o h
      · have h' : (match ops[i]? with
            | none => none
            | some o => sameOut (evOne P call n ops B i o Λ fr H N fun fr H N => evDA P call n ops B k Λ fr H N) (evDA P call n ops B alt Λ fr H N)) = some (fr', H', N') := by
          cases alt <;> first | exact absurd rfl ha | (unfold evDA at h; exact h)
        split at h'
        · cases h'
        · next o ho =>
          obtain ⟨h1, N2, h2⟩ := sameOut_o h'
          have w3' : wfDA P ops false alt (fuel + 1) listed = true := by cases alt <;> first | exact absurd rfl ha | exact w3
          have := ih2 false (fuel + 1) listed w3' h2 hR hf hΛ hK
          simp only [ho, w1, cond_true]
          have key : ∀ X Y : Prop, X → Y → andAlt alt X Y := by
            intro X Y x y
            cases alt <;> first | exact absurd rfl ha | exact ⟨x, y⟩
          exact key _ _ (one o h1) this

/-! ## Code -/
abbrev CodeT := Option (Ex × Tr VV × Tr VB × Nat)
abbrev RecT := Nat → Ann → Code → Tr VV → Tr VB → Nat → CodeT
def evRes (P : Program) (H : Tr VB) (fr : Tr VV) : List ResultVar → Option (List VV)
  | [] => some []
  | .tmp t :: r => (match fr.get t with
    | some v => (match evRes P H fr r with
      | some vs => some (v :: vs)
      | none => none)
    | none => none)
  | .cell a t :: r => (match fr.get a with
    | some p => (match evLoad P t p H with
      | some (v, _) => (match evRes P H fr r with
        | some vs => some (v :: vs)
        | none => none)
      | none => none)
    | none => none)
def packV : List VV → VV
  | [v] => v
  | vs => .tup vs
def frOf : List VV → Nat → Tr VV → Tr VV
  | [], _, t => t
  | v :: r, i, t => frOf r (Nat.succ i) (t.set i v)
def frK {R : Type} : List VV → Nat → Tr VV → (Tr VV → R) → R
  | [], _, t, k => k t
  | v :: r, i, t, k => t.setK i v fun t => fN (Nat.succ i) fun i => frK r i t k
theorem frK_eq {R : Type} : ∀ (l : List VV) (i : Nat) (t : Tr VV) (k : Tr VV → R), frK l i t k = k (frOf l i t)
  | [], _, _, _ => rfl
  | v :: r, i, t, k => by simp only [frK, frOf, Tr.setK_eq, fN_eq, frK_eq r]
/-- The functions whose code is run: their readings' shapes. -/
abbrev TabT := FuncId → Option Ann
def evFun (P : Program) (tab : TabT) (orc : CallT → CallT) (self : RecT) (call : CallT) : CallT := fun f args H N =>
  match tab f with
  | none => orc call f args H N
  | some ann => match P.funcs[f]? with
    | none => none
    | some fn => match fn.body with
      | none => none
      | some c => bif Nat.ble args.length fn.ntmps then
          (fSp args fun args => frK args 0 .lf fun fr => match self fn.ntmps ann c fr H N with
          | some (e, fr, H, N) => (match e with
            | .exit _ => none
            | .goto _ => none
            | _ => match evRes P H fr fn.results.toList with
              | some vs => some (packV vs, H, N)
              | none => none)
          | none => none) else none
def evL (run : Tr VV → Tr VB → Nat → CodeT) : Nat → Tr VV → Tr VB → Nat → CodeT
  | 0, _, _, _ => none
  | g + 1, fr, H, N => match run fr H N with
    | some (.normal, fr, H, N) => evL run g fr H N
    | r => r
def evJ (run : Tr VV → Tr VB → Nat → CodeT) (l : Nat) : Nat → Tr VV → Tr VB → Nat → CodeT
  | 0, _, _, _ => none
  | g + 1, fr, H, N => match run fr H N with
    | some (.goto l', fr, H, N) => bif Nat.beq l' l then evJ run l g fr H N else none
    | r => r
def normal (o : OutT) : CodeT := match o with | some s => some (.normal, s) | none => none
def rgC (P : Program) (call : CallT) (n : Nat) (ann : Ann) (ops : Array Oper) (draw : Bool) (fr : Tr VV) (H : Tr VB) (N : Nat) : CodeT :=
  match draw with
  | false => normal (evOps P call n ops ops.toList fr H N)
  | true => match ann with
    | .d x => normal (evDA P call n ops N x [] fr H (Nat.add N ops.size))
    | _ => none
def sqC (self : RecT) (n : Nat) (ann : Ann) (x y : Code) (fr : Tr VV) (H : Tr VB) (N : Nat) : CodeT :=
  match ann with
  | .s a b => (match self n a x fr H N with
    | some (.normal, fr, H, N) => self n b y fr H N
    | r => r)
  | _ => none
def cdC (self : RecT) (n : Nat) (ann : Ann) (cc : Operand) (x y : Code) (fr : Tr VV) (H : Tr VB) (N : Nat) : CodeT :=
  match ann with
  | .c a b => (match evO H fr cc with
    | some (.bool true) => self n a x fr H N
    | some (.bool false) => self n b y fr H N
    | _ => none)
  | _ => none
def bkC (self : RecT) (n : Nat) (ann : Ann) (id : Nat) (x : Code) (fr : Tr VV) (H : Tr VB) (N : Nat) : CodeT :=
  match ann with
  | .b a => (match self n a x fr H N with
    | some (.exit id', fr, H, N) => bif Nat.beq id' id then some (.normal, fr, H, N) else some (.exit id', fr, H, N)
    | r => r)
  | _ => none
def lpC (self : RecT) (f n : Nat) (ann : Ann) (x : Code) (fr : Tr VV) (H : Tr VB) (N : Nat) : CodeT :=
  match ann with
  | .l _ a => evL (self n a x) f fr H N
  | _ => none
def scC (self : RecT) (f n : Nat) (ann : Ann) (x : Code) (fr : Tr VV) (H : Tr VB) (N : Nat) : CodeT :=
  match ann with
  | .g l a b => (match findLabel x l with
    | none => none
    | some rest => (match self n a x fr H N with
      | some (.goto l', fr, H, N) => bif Nat.beq l' l then evJ (self n b rest) l f fr H N else none
      | r => r))
  | _ => none
def stC (P : Program) (self : RecT) (call : CallT) (f : Nat) : RecT := fun n ann c fr H N => match c with
  | .skip => some (.normal, fr, H, N)
  | .ret => some (.ret, fr, H, N)
  | .exit id => some (.exit id, fr, H, N)
  | .goto l => some (.goto l, fr, H, N)
  | .label _ => some (.normal, fr, H, N)
  | .region _ ops draw => rgC P call n ann ops draw fr H N
  | .seq x y => sqC self n ann x y fr H N
  | .cond cc x y => cdC self n ann cc x y fr H N
  | .block id x => bkC self n ann id x fr H N
  | .loop x => lpC self f n ann x fr H N
  | .scope x => scC self f n ann x fr H N
  | _ => none
def evC (P : Program) (tab : TabT) (orc : CallT → CallT) : Nat → RecT × CallT
  | 0 => (fun _ _ _ _ _ _ => none, fun _ _ _ _ => none)
  | f + 1 => (stC P (evC P tab orc f).1 (evC P tab orc f).2 f, evFun P tab orc (evC P tab orc f).1 (evC P tab orc f).2)
/-- The readings fit the code. -/
def wfC (P : Program) : Ann → Code → Bool
  | .d x, .region _ ops _ => P.follows .mixedOrders && Region.noSelect ops && wfDA P ops true x ops.size (Array.replicate ops.size false)
  | .s a b, .seq x y => wfC P a x && wfC P b y
  | .c a b, .cond _ x y => wfC P a x && wfC P b y
  | .b a, .block _ x => wfC P a x
  | .l _ a, .loop x => wfC P a x
  | .g l a b, .scope x => wfC P a x && (match findLabel x l with | some rest => wfC P b rest | none => true)
  | _, _ => true

/-! ### It is so -/
def EP (w0 : World) (n : Nat) (ph : Ph) (e : Ex) (fr : Tr VV) (H : Tr VB) : Exit → Act → World → Prop := fun ex a w =>
  exOf ex = some e ∧ ∃ F ph', Sim n F a ∧ ph.le ph' ∧ RH w0 ph' H w ∧ FrRel ph' fr F
theorem EP.mono {n : Nat} {ph ph1 : Ph} {e : Ex} {fr : Tr VV} {H : Tr VB} {ex : Exit} {a : Act} {w : World} (h : EP w0 n ph1 e fr H ex a w) (hle : ph.le ph1) : EP w0 n ph e fr H ex a w :=
  ⟨h.1, let ⟨F, ph', h1, h2, h3⟩ := h.2; ⟨F, ph', h1, hle.trans h2, h3⟩⟩
def CodeOk (P : Program) (w0 : World) (n : Nat) (c : Code) (run : Tr VV → Tr VB → Nat → CodeT) : Prop :=
  ∀ {ph : Ph} {w : World} {fr : Tr VV} {H : Tr VB} {N : Nat} {e : Ex} {fr' : Tr VV} {H' : Tr VB} {N' : Nat} {F : Fr} {a : Act}, run fr H N = some (e, fr', H', N') → RH w0 ph H w → Sim n F a → FrRel ph fr F →
    c.wp P (EP w0 n ph e fr' H') a w
theorem exOf_normal {ex : Exit} (h : exOf ex = some .normal) : ex = .normal := by cases ex <;> simp [exOf] at h; rfl
theorem evL_o {n : Nat} {x : Code} {run : Tr VV → Tr VB → Nat → CodeT} (hx : CodeOk P w0 n x run) {g : Nat} : CodeOk P w0 n (.loop x) (evL run g) := by
  intro ph w fr H N e fr' H' N' F a h hR hs hf
  refine wp_loop_rel (fun m a w => ∃ (ph1 : Ph) (fr1 : Tr VV) (H1 : Tr VB) (N1 : Nat) (Fr1 : Fr), evL run m fr1 H1 N1 = some (e, fr', H', N') ∧ ph.le ph1 ∧ RH w0 ph1 H1 w ∧ Sim n Fr1 a ∧ FrRel ph1 fr1 Fr1) g ⟨ph, fr, H, N, F, h, Ph.le.refl _, hR, hs, hf⟩ ?_
  rintro m a1 w1 ⟨ph1, fr1, H1, N1, Fr1, h1, hle, hR1, hs1, hf1⟩
  cases m with
  | zero => simp [evL] at h1
  | succ m =>
    unfold evL at h1
    split at h1
    · next fr2 H2 N2 hrun =>
      refine wp_mono (hx hrun hR1 hs1 hf1) fun ex a2 w2 hq => ?_
      obtain ⟨he, Fr2, ph2, hs2, hle2, hR2, hf2⟩ := hq
      have := exOf_normal he
      subst this
      exact ⟨m, Nat.lt_succ_self m, ph2, fr2, H2, N2, Fr2, h1, hle.trans hle2, hR2, hs2, hf2⟩
    · next hne =>
      refine wp_mono (hx h1 hR1 hs1 hf1) fun ex a2 w2 hq => ?_
      have he := hq.1
      cases ex <;> first
        | exact hq.mono hle
        | (simp only [exOf, Option.some.injEq] at he
           subst he
           exact (hne _ _ _ h1).elim)
theorem evJ_o {n l : Nat} {rest : Code} {run : Tr VV → Tr VB → Nat → CodeT} (hx : CodeOk P w0 n rest run) {ph : Ph} {e : Ex} {fr' : Tr VV} {H' : Tr VB} {N' : Nat} (m : Nat) (a : Act) (w : World)
    (hJ : ∃ (ph1 : Ph) (fr1 : Tr VV) (H1 : Tr VB) (N1 : Nat) (Fr1 : Fr), evJ run l m fr1 H1 N1 = some (e, fr', H', N') ∧ ph.le ph1 ∧ RH w0 ph1 H1 w ∧ Sim n Fr1 a ∧ FrRel ph1 fr1 Fr1) :
    rest.wp P (Exit.jump l (fun a' w' => ∃ m', m' < m ∧ ∃ (ph1 : Ph) (fr1 : Tr VV) (H1 : Tr VB) (N1 : Nat) (Fr1 : Fr), evJ run l m' fr1 H1 N1 = some (e, fr', H', N') ∧ ph.le ph1 ∧ RH w0 ph1 H1 w' ∧ Sim n Fr1 a' ∧ FrRel ph1 fr1 Fr1) (EP w0 n ph e fr' H')) a w := by
  obtain ⟨ph1, fr1, H1, N1, Fr1, h1, hle, hR1, hs1, hf1⟩ := hJ
  cases m with
  | zero => simp [evJ] at h1
  | succ m =>
    unfold evJ at h1
    split at h1
    · next l' fr2 H2 N2 hrun =>
      cases hb : Nat.beq l' l with
      | false => rw [hb] at h1; cases h1
      | true =>
        simp only [hb, cond_true] at h1
        refine wp_mono (hx hrun hR1 hs1 hf1) fun ex a2 w2 hq => ?_
        obtain ⟨he, Fr2, ph2, hs2, hle2, hR2, hf2⟩ := hq
        cases ex <;> simp only [exOf, Option.some.injEq, reduceCtorEq, Ex.goto.injEq] at he
        subst he
        exact ⟨Nat.eq_of_beq_eq_true hb, m, Nat.lt_succ_self m, ph2, fr2, H2, N2, Fr2, h1, hle.trans hle2, hR2, hs2, hf2⟩
    · next hne =>
      refine wp_mono (hx h1 hR1 hs1 hf1) fun ex a2 w2 hq => ?_
      have he := hq.1
      cases ex <;> first
        | (simp only [exOf, Option.some.injEq] at he
           subst he
           exact (hne _ _ _ _ h1).elim)
        | exact hq.mono hle
theorem evRes_o (hR : RH w0 ph H w) (hf : FrRel ph fr F) : ∀ {res : List ResultVar} {vs : List VV} {K : List Value → Prop}, evRes P H fr res = some vs → (∀ Vs, RelL ph vs Vs → K Vs) → retV P F w res K
  | [], vs, K, h, hK => by simp only [evRes, Option.some.injEq] at h; subst h; exact hK _ RelL.nil
  | .tmp t :: r, vs, K, h, hK => by
    unfold evRes at h
    unfold retV
    split at h
    · next v hv =>
      split at h
      · next us hus =>
        simp only [Option.some.injEq] at h
        subst h
        obtain ⟨V, e, rv⟩ := hf _ _ hv
        simp only [e]
        exact evRes_o hR hf hus fun Vs rVs => hK _ (RelL.cons rv rVs)
      · cases h
    · cases h
  | .cell ad t :: r, vs, K, h, hK => by
    unfold evRes at h
    unfold retV
    split at h
    · next p hp =>
      split at h
      · next v ld hv =>
        split at h
        · next us hus =>
          simp only [Option.some.injEq] at h
          subst h
          obtain ⟨V, e, rp⟩ := hf _ _ hp
          obtain ⟨x, rfl, hl⟩ := evLoad_o (K := fun v _ => retV P F w r fun vs => K (v :: vs)) hR hv rp fun V S rv _ => evRes_o hR hf hus fun Vs rVs => hK _ (RelL.cons rv rVs)
          simp only [e]
          exact hl
        · cases h
      · cases h
    · cases h
theorem frOf_get : ∀ {l : List VV} {i k : Nat} {t : Tr VV} {v : VV}, (frOf l i t).get k = some v → (i ≤ k ∧ l[k - i]? = some v) ∨ t.get k = some v
  | [], i, k, t, v, h => .inr h
  | x :: r, i, k, t, v, h => by
    rcases frOf_get (l := r) h with ⟨h1, h2⟩ | h1
    · left
      refine ⟨by omega, ?_⟩
      rw [show k - i = (k - Nat.succ i) + 1 by omega, List.getElem?_cons_succ]
      exact h2
    · by_cases e : k = i
      · subst e
        rw [Tr.get_same] at h1
        left
        exact ⟨Nat.le_refl _, by rw [Nat.sub_self]; simpa using h1⟩
      · rw [Tr.get_other _ _ e] at h1
        exact .inr h1
theorem frOf_rel {l : List VV} {L : List Value} (r : RelL ph l L) : FrRel ph (frOf l 0 .lf) (initFr L) := by
  intro t v h
  rcases frOf_get h with ⟨_, h2⟩ | h1
  · rw [Nat.sub_zero] at h2
    obtain ⟨V, e, rv⟩ := r.get h2
    exact ⟨V, e, rv⟩
  · cases h1
/-- The table: each function is in the program, and its reading fits. -/
def TabOk (P : Program) (tab : TabT) : Prop := ∀ f ann, tab f = some ann → ∀ fn, P.funcs[f]? = some fn → plainFn P f = true ∧ ∀ c, fn.body = some c → wfC P ann c = true
theorem evFun_o {tab : TabT} {orc : CallT → CallT} {self : RecT} {call : CallT} (ht : TabOk P tab) (ho : CallOk P w0 (orc call)) (hself : ∀ n ann c, wfC P ann c = true → CodeOk P w0 n c (self n ann c)) : CallOk P w0 (evFun P tab orc self call) := by
  intro f args H N v H' N' h ph w Args hR ra
  unfold evFun at h
  split at h
  · exact ho _ _ _ _ _ _ _ h ph w Args hR ra
  · next ann htab =>
    split at h
    · cases h
    · next fn hfn =>
      split at h
      · cases h
      · next c hc =>
        obtain ⟨hp, hw⟩ := ht f ann htab fn hfn
        have hw := hw c hc
        unfold CallRes
        rw [hp, cond_true]
        cases hb : Nat.ble args.length fn.ntmps with
        | false => rw [hb] at h; cases h
        | true =>
          simp only [hb, cond_true, fSp_eq, frK_eq] at h
          have hle : Args.length ≤ fn.ntmps := by rw [ra.len]; exact Nat.le_of_ble_eq_true hb
          have hs : Sim fn.ntmps (initFr Args) { tmps := (⟨Args⟩ : Array Value) ++ Array.replicate (fn.ntmps - (⟨Args⟩ : Array Value).size) undef, defers := [] } := by
            refine ⟨rfl, by simp; omega, fun t v hv => ?_⟩
            simp only [initFr] at hv
            have hlt : t < Args.length := (List.getElem?_eq_some_iff.1 hv).1
            rw [Array.getElem?_append_left (by simpa using hlt)]
            simpa using hv
          split at h
          · next e fr1 H1 N1 hrun =>
            refine calls_of_wp hfn hc (wp_mono (hself _ _ _ hw hrun hR hs (frOf_rel ra)) fun ex a1 w1 hq => ?_)
            obtain ⟨he, Fr1, ph1, hs1, hle1, hR1, hf1⟩ := hq
            have fin : ∀ vs, evRes P H1 fr1 fn.results.toList = some vs → some (packV vs, H1, N1) = some (v, H', N') → a1.defers = [] ∧ ∃ V, (results fn a1.tmps).run P w1 = .ok V w1 ∧ ∃ V' ph', ph.le ph' ∧ RH w0 ph' H' w1 ∧ Rel ph' v V' ∧ Ending.returned V = .returned V' := by
              intro vs hvs hv
              simp only [Option.some.injEq, Prod.mk.injEq] at hv
              obtain ⟨rfl, rfl, _⟩ := hv
              obtain ⟨Vs, h1, h2, h3⟩ := retV_o hs1 (evRes_o (K := fun Vs => RelL ph1 vs Vs) hR1 hf1 hvs fun Vs r => r)
              have hm := List.mapM_toArray (m := Sem) (l := fn.results.toList) (f := resF a1.tmps)
              rw [Array.toArray_toList] at hm
              refine ⟨hs1.defers, _, by rw [results_eq, hm]; simp only [Sem.run_bind, Sem.run_map, h3, Result.andThen_ok, Sem.run_pure]; rfl, _, ph1, hle1, hR1, ?_, rfl⟩
              cases vs with
              | nil => simp only [RelL] at h2; subst h2; simp only [packV, Rel]; exact ⟨[], RelL.nil, rfl⟩
              | cons a r =>
                obtain ⟨A, R, rfl, r1, r2⟩ := h2.uncons
                cases r with
                | nil => simp only [RelL] at r2; subst r2; exact r1
                | cons b r =>
                  have hne : R.length ≠ 0 := by rw [r2.len]; simp
                  simp only [packV, Rel]
                  refine ⟨A :: R, h2, ?_⟩
                  cases R with
                  | nil => simp at hne
                  | cons => simp
            cases ex <;> simp only [exOf, Option.some.injEq, reduceCtorEq] at he <;> subst he
            · dsimp only at h
              split at h
              · next vs hvs => exact fin vs hvs h
              · cases h
            · cases h
            · cases h
            · dsimp only at h
              split at h
              · next vs hvs => exact fin vs hvs h
              · cases h
          · cases h
theorem normal_o {o : OutT} {e : Ex} {s : Tr VV × Tr VB × Nat} (h : normal o = some (e, s)) : o = some s ∧ e = .normal := by
  unfold normal at h
  split at h
  · simp only [Option.some.injEq, Prod.mk.injEq] at h; exact ⟨by rw [h.2], h.1.symm⟩
  · cases h
/-- What the evaluator finds is so. -/
theorem evC_o {tab : TabT} {orc : CallT → CallT} (ht : TabOk P tab) (ho : ∀ call, CallOk P w0 call → CallOk P w0 (orc call)) : ∀ f, (∀ n ann c, wfC P ann c = true → CodeOk P w0 n c ((evC P tab orc f).1 n ann c)) ∧ CallOk P w0 (evC P tab orc f).2 := by
  intro f
  induction f with
  | zero =>
    refine ⟨fun n ann c _ => ?_, ?_⟩
    · intro ph w fr H N e fr' H' N' F a h
      simp [evC] at h
    · intro f args H N v H' N' h
      simp [evC] at h
  | succ f ih =>
    obtain ⟨ih1, ih2⟩ := ih
    refine ⟨fun n ann c hw => ?_, evFun_o ht (ho _ ih2) ih1⟩
    intro ph w fr H N e fr' H' N' F a h hR hs hf
    unfold evC at h
    simp only at h
    unfold stC at h
    split at h
    · simp only [Option.some.injEq, Prod.mk.injEq] at h
      obtain ⟨rfl, rfl, rfl, _⟩ := h
      exact wp_skip ⟨rfl, F, ph, hs, Ph.le.refl _, hR, hf⟩
    · simp only [Option.some.injEq, Prod.mk.injEq] at h
      obtain ⟨rfl, rfl, rfl, _⟩ := h
      exact wp_ret ⟨rfl, F, ph, hs, Ph.le.refl _, hR, hf⟩
    · simp only [Option.some.injEq, Prod.mk.injEq] at h
      obtain ⟨rfl, rfl, rfl, _⟩ := h
      exact wp_exit ⟨rfl, F, ph, hs, Ph.le.refl _, hR, hf⟩
    · simp only [Option.some.injEq, Prod.mk.injEq] at h
      obtain ⟨rfl, rfl, rfl, _⟩ := h
      exact wp_goto ⟨rfl, F, ph, hs, Ph.le.refl _, hR, hf⟩
    · simp only [Option.some.injEq, Prod.mk.injEq] at h
      obtain ⟨rfl, rfl, rfl, _⟩ := h
      exact wp_label ⟨rfl, F, ph, hs, Ph.le.refl _, hR, hf⟩
    · -- region
      next id ops draw =>
      unfold rgC at h
      split at h
      · obtain ⟨h1, rfl⟩ := normal_o h
        refine wp_region_list (vcOps_o (L := wrOps ops.toList) hs (fun o ho d hd => mem_wrOps ho hd) (evOps_o ih2 h1 hR hf (K := fun Fr' w' => ∃ ph', ph.le ph' ∧ RH w0 ph' H' w' ∧ FrRel ph' fr' Fr') fun Fr' ph' w' hle hR' hf' => ⟨ph', hle, hR', hf'⟩) fun Fr' a' w' hs' _ hk => ?_)
        obtain ⟨ph', hle, hR', hf'⟩ := hk
        exact ⟨rfl, Fr', ph', hs', hle, hR', hf'⟩
      · split at h
        · next x =>
          obtain ⟨h1, rfl⟩ := normal_o h
          simp only [wfC, Bool.and_eq_true] at hw
          obtain ⟨⟨hm, hns⟩, hda⟩ := hw
          refine wp_region_any hm (wpAny_of_G (Γ := []) _ _ _ _ ?_)
          refine (vcDA_o (K := fun Fr' w' => ∃ ph', ph.le ph' ∧ RH w0 ph' H' w' ∧ FrRel ph' fr' Fr') hns (fun c a w hq => by have := hq.1; simp [exOf] at this) (L := wrOps ops.toList) (a0 := a) (fun o ho d hd => mem_wrOps ho hd) (fun Fr' a' w' hs' _ hk => ?_)
            x ops.size (Array.replicate ops.size false) [] F a w.drew (by simp) (Closed.start ops) hs (Keep.refl _ _)).1 ?_
          · obtain ⟨ph', hle, hR', hf'⟩ := hk
            exact ⟨rfl, Fr', ph', hs', hle, hR', hf'⟩
          · exact evDA_o ih2 x true _ _ hda h1 hR.drew hf (by simp [HRel]) fun Fr' ph' w' hle hR' hf' => ⟨ph', hle, hR', hf'⟩
        · cases h
    · -- seq
      next x y =>
      unfold sqC at h
      split at h
      · next a1 b1 =>
        simp only [wfC, Bool.and_eq_true] at hw
        refine wp_seq ?_
        split at h
        · next fr1 H1 N1 hrun =>
          refine wp_mono (ih1 n a1 x hw.1 hrun hR hs hf) fun ex a2 w2 hq => ?_
          obtain ⟨he, Fr2, ph2, hs2, hle2, hR2, hf2⟩ := hq
          have := exOf_normal he
          subst this
          exact wp_mono (ih1 n b1 y hw.2 h hR2 hs2 hf2) fun ex a3 w3 hq3 => hq3.mono hle2
        · next hne =>
          refine wp_mono (ih1 n a1 x hw.1 h hR hs hf) fun ex a2 w2 hq => ?_
          have he := hq.1
          cases ex <;> first
            | exact hq
            | (simp only [exOf, Option.some.injEq] at he
               subst he
               exact (hne _ _ _ h).elim)
      · cases h
    · -- cond
      next cc x y =>
      unfold cdC at h
      split at h
      · next a1 b1 =>
        simp only [wfC, Bool.and_eq_true] at hw
        split at h
        · next hcc =>
          obtain ⟨V, ev, rv⟩ := evO_o hR hf hcc
          simp only [Rel] at rv; subst rv
          exact wp_cond_true (hs.eval ev) (ih1 n a1 x hw.1 h hR hs hf)
        · next hcc =>
          obtain ⟨V, ev, rv⟩ := evO_o hR hf hcc
          simp only [Rel] at rv; subst rv
          exact wp_cond_false (hs.eval ev) (ih1 n b1 y hw.2 h hR hs hf)
        · cases h
      · cases h
    · -- block
      next id x =>
      unfold bkC at h
      split at h
      · next a1 =>
        simp only [wfC] at hw
        refine wp_block ?_
        split at h
        · next id' fr1 H1 N1 hrun =>
          refine wp_mono (ih1 n a1 x hw hrun hR hs hf) fun ex a2 w2 hq => ?_
          obtain ⟨he, Fr2, ph2, hs2, hle2, hR2, hf2⟩ := hq
          cases ex <;> simp only [exOf, Option.some.injEq, reduceCtorEq, Ex.exit.injEq] at he
          rename_i id1
          subst he
          cases hb : Nat.beq id1 id with
          | true =>
            simp only [hb, cond_true, Option.some.injEq, Prod.mk.injEq] at h
            obtain ⟨rfl, rfl, rfl, _⟩ := h
            have := Nat.eq_of_beq_eq_true hb
            subst this
            simp only [Exit.inBlock, if_true]
            exact ⟨rfl, Fr2, ph2, hs2, hle2, hR2, hf2⟩
          | false =>
            simp only [hb, cond_false, Option.some.injEq, Prod.mk.injEq] at h
            obtain ⟨rfl, rfl, rfl, _⟩ := h
            have : id1 ≠ id := Nat.ne_of_beq_eq_false hb
            simp only [Exit.inBlock, this, if_false]
            exact ⟨rfl, Fr2, ph2, hs2, hle2, hR2, hf2⟩
        · next hne =>
          refine wp_mono (ih1 n a1 x hw h hR hs hf) fun ex a2 w2 hq => ?_
          have he := hq.1
          cases ex <;> first
            | exact hq
            | (simp only [exOf, Option.some.injEq] at he
               subst he
               exact (hne _ _ _ _ h).elim)
      · cases h
    · -- loop
      next x =>
      unfold lpC at h
      split at h
      · next L a1 =>
        simp only [wfC] at hw
        exact evL_o (ih1 n _ x hw) h hR hs hf
      · cases h
    · -- scope
      next x =>
      unfold scC at h
      split at h
      · next l a1 b1 =>
        split at h
        · cases h
        · next rest hrest =>
          simp only [wfC, hrest, Bool.and_eq_true] at hw
          refine wp_scope_rel l (fun m a' w' => ∃ (ph1 : Ph) (fr1 : Tr VV) (H1 : Tr VB) (N1 : Nat) (Fr1 : Fr), evJ ((evC P tab orc f).1 n b1 rest) l m fr1 H1 N1 = some (e, fr', H', N') ∧ ph.le ph1 ∧ RH w0 ph1 H1 w' ∧ Sim n Fr1 a' ∧ FrRel ph1 fr1 Fr1) hrest ?_ fun m a' w' hJ => evJ_o (ih1 n b1 rest hw.2) m a' w' hJ
          split at h
          · next l' fr1 H1 N1 hrun =>
            cases hb : Nat.beq l' l with
            | false => rw [hb] at h; cases h
            | true =>
              simp only [hb, cond_true] at h
              refine wp_mono (ih1 n a1 x hw.1 hrun hR hs hf) fun ex a2 w2 hq => ?_
              obtain ⟨he, Fr2, ph2, hs2, hle2, hR2, hf2⟩ := hq
              cases ex <;> simp only [exOf, Option.some.injEq, reduceCtorEq, Ex.goto.injEq] at he
              subst he
              exact ⟨Nat.eq_of_beq_eq_true hb, f, ph2, fr1, H1, N1, Fr2, h, hle2, hR2, hs2, hf2⟩
          · next hne =>
            refine wp_mono (ih1 n a1 x hw.1 h hR hs hf) fun ex a2 w2 hq => ?_
            have he := hq.1
            cases ex <;> first
              | (simp only [exOf, Option.some.injEq] at he
                 subst he
                 exact (hne _ _ _ _ h).elim)
              | exact hq
      · cases h
    · cases h
/-- A table by numbers, parted at each. -/
inductive BT where
  | lf
  | nd (k : Nat) (a : Ann) (l r : BT)
def BT.get : BT → Nat → Option Ann
  | .lf, _ => none
  | .nd k a l r, f => bif Nat.beq f k then some a else bif Nat.blt f k then l.get f else r.get f
def BT.ok (P : Program) : BT → Bool
  | .lf => true
  | .nd k a l r => (plainFn P k && (match P.funcs[k]? with | some fn => (match fn.body with | some c => wfC P a c | none => true) | none => true)) && (l.ok P && r.ok P)
theorem BT.tab : ∀ {t : BT}, t.ok P = true → TabOk P t.get
  | .lf, _, f, ann, h => by simp [BT.get] at h
  | .nd k a l r, hk, f, ann, h => by
    simp only [BT.ok, Bool.and_eq_true] at hk
    obtain ⟨⟨h1, h2⟩, h3, h4⟩ := hk
    unfold BT.get at h
    cases hb : Nat.beq f k with
    | true =>
      simp only [hb, cond_true, Option.some.injEq] at h
      subst h
      have := Nat.eq_of_beq_eq_true hb
      subst this
      intro fn hfn
      refine ⟨h1, fun c hc => ?_⟩
      rw [hfn] at h2
      simp only [hc] at h2
      exact h2
    | false =>
      simp only [hb, cond_false] at h
      cases hc : Nat.blt f k with
      | true => rw [hc, cond_true] at h; exact BT.tab h3 f ann h
      | false => rw [hc, cond_false] at h; exact BT.tab h4 f ann h
/-- A call whose functions are all in the table, or otherwise known. -/
theorem ev_calls {tab : TabT} {orc : CallT → CallT} (ht : TabOk P tab) (ho : ∀ call, CallOk P w0 call → CallOk P w0 (orc call)) {n : Nat} {f : FuncId} {args : List VV} {N N' : Nat} {v : VV} {H H' : Tr VB} (h : (evC P tab orc n).2 f args H N = some (v, H', N'))
    {ph : Ph} {w : World} {Args : List Value} (hR : RH w0 ph H w) (ra : RelL ph args Args) : CallRes P w0 ph f Args w v H' := (evC_o ht ho n).2 _ _ _ _ _ _ _ h ph w Args hR ra
/-- Nothing is known of memory yet. -/
theorem RH.start (w : World) : RH w (fun _ => none) .lf w :=
  ⟨Chg.refl _ _, fun n vb h => (by cases h), fun n m vb vb' b g g' h => (by cases h), fun n _ => rfl, fun n b g _ h => (by cases h)⟩
end
end Go.Vc


/-
  How the functions of one run are read by the evaluator (printed by evgen.py).
-/
set_option linter.unusedVariables false
namespace Go.Proofs.YtmnbgcgealpcbaaGreatDoor
open Go Go.Vc
/-- lecterntop.reads -/
def a_top_reads : Ann := .s .o (.s .o (.s .o (.s .o .o)))
/-- tree.Check -/
def a_tree_Check : Ann := .s .o (.s .o (.s (.b (.s .o (.c .u (.s .o (.c .u (.s .o (.c .u (.s .o (.c .u (.s .o (.c .u (.s .o (.c .u (.s .o (.c .u .o))))))))))))))) (.s .o (.s (.s .o (.b (.l [] (.s .o (.s (.c .o .o) (.s (.b (.s .o (.s .o (.c .o .o)))) .o)))))) (.s (.s .o (.c .u .o)) (.s .o .o))))))
/-- parse.Parse -/
def a_parse_Parse : Ann := .s .o (.s .o (.s (.s .o (.c .u .o)) (.s .o (.s (.s .o (.b (.l [] (.s .o (.s (.c .o .o) (.s (.b (.s .o (.s .o (.s .o (.c .u .o))))) .o)))))) (.s (.b (.s .o (.c .u (.s .o (.c .u .o))))) (.s .o .o))))))
/-- canon.Write -/
def a_canon_Write : Ann := .s .o (.s (.s .o (.s .o (.c .u .o))) (.s .o (.s (.s .o (.b (.l [] (.s .o (.s (.c .o .o) (.s (.b (.s .o (.s .o .o))) .o)))))) (.s (.s .o (.c .u .o)) (.s .o .o)))))
/-- tree.flat -/
def a_tree_flat : Ann := .s .o (.s .o (.s (.s .o (.b (.l [] (.s .o (.s (.c .o .o) (.s (.b (.s .o .o)) .o)))))) (.s .o .o)))
/-- slices.ContainsFunc -/
def a_slices_ContainsFunc_sl_api_Node_api_Node : Ann := .s .o (.s .o .o)
/-- tree.odd -/
def a_tree_odd : Ann := .s .o (.s .o (.s (.s .o (.b (.s .o (.c .o (.s .o (.c .o (.s .o (.c .u .o)))))))) (.s .o .o)))
/-- tree.deep -/
def a_tree_deep : Ann := .s .o (.s (.s .o (.c (.s (.s .o (.c .u .o)) .o) .o)) (.s .o .o))
/-- tree.great -/
def a_tree_great : Ann := .s .o (.s .o (.s .o .o))
/-- tree.misnamed -/
def a_tree_misnamed : Ann := .s .o (.s .o (.s (.s .o (.b (.s .o (.c (.s .o .o) (.s .o (.c .u .o)))))) (.s .o .o)))
/-- tree.spoilt -/
def a_tree_spoilt : Ann := .s .o (.s .o .o)
/-- tree.unordered -/
def a_tree_unordered : Ann := .s .o (.s (.s .o (.b (.l [] (.s .o (.s (.c .o .o) (.s (.b (.s .o (.s (.d (.take 0 (.take 1 (.take 2 (.take 3 (.take 4 (.take 5 (.take 6 (.take 7 (.take 8 (.take 9 (.take 10 (.take 11 (.take 12 (.take 13 (.take 14 (.take 15 (.eff 16 (.take 17 (.take 18 .done)) .none)))))))))))))))))) (.c .u .o)))) .o)))))) (.s .o .o))
/-- tree.wrongText -/
def a_tree_wrongText : Ann := .s .o (.s (.s .o (.b (.l [] (.s .o (.s (.c .o .o) (.s (.b (.s .o (.s .o (.c .u .o)))) .o)))))) (.s (.s .o (.b (.s .o (.c (.s .o .o) (.s .o (.c .u (.s .o (.c .u .o)))))))) (.s .o .o)))
/-- scan.All -/
def a_scan_All : Ann := .s .o (.g 0 (.s (.s .o (.c .u .o)) (.s .o (.s (.s .o (.s .o (.c .u .o))) (.s .o (.s .o (.s .o (.s (.s (.d (.take 0 (.take 1 (.take 2 (.take 3 (.take 4 (.take 5 (.take 6 (.take 7 (.take 8 (.take 9 .done))))))))))) (.c (.s .o .o) .o)) (.s .o (.s .o (.s .o (.s (.s .o (.c .u .o)) (.s .o .o)))))))))))) (.s .o (.s (.s (.d (.take 0 (.take 1 (.take 2 (.take 3 (.take 4 (.take 5 (.take 6 (.take 7 (.take 8 (.take 9 .done))))))))))) (.c (.s .o .o) .o)) (.s .o (.s .o (.s .o (.s (.s .o (.c .u .o)) (.s .o .o))))))))
/-- scope.New -/
def a_scope_New : Ann := .s .o (.s .o .o)
/-- (*parse.reader).take -/
def a_parse_reader_take : Ann := .s .o (.s .o (.s (.s .o (.b (.s .o (.c .u (.s .o (.c .u (.s (.s .o (.c .o .o)) (.c .o (.s .o (.c .o (.s .o (.c .u (.s .o (.c (.s (.s (.d (.take 0 (.take 1 (.take 2 (.take 3 (.take 4 (.take 5 (.take 6 (.take 7 (.take 12 (.take 13 (.eff 8 (.take 9 (.take 10 (.take 11 (.take 14 (.take 15 .done))))) .none)))))))))))) (.c .u .o)) .o) .o)))))))))))))) (.s (.s .o (.c .u .o)) (.s .o .o))))
/-- scan.Plain -/
def a_scan_Plain : Ann := .s .o (.s .o .o)
/-- canon.Prefixes -/
def a_canon_Prefixes : Ann := .s .o (.s .o .o)
/-- (*canon.writer).node -/
def a_canon_writer_node : Ann := .s .o (.s .o (.b (.s .o (.c .o (.s .o (.c .u (.s .o (.c .u (.s .o (.c .o .o))))))))))
/-- (*strings.Builder).WriteByte -/
def a_strings_Builder_WriteByte : Ann := .s .o (.s .o (.s .o (.s .o .o)))
/-- (*strings.Builder).Len -/
def a_strings_Builder_Len : Ann := .s .o (.s .o .o)
/-- slices.IndexFunc -/
def a_slices_IndexFunc_sl_api_Node_api_Node : Ann := .s .o (.s (.s .o (.b (.l [] (.s .o (.s (.c .o .o) (.s (.b (.s .o (.s .o (.c .u .o)))) .o)))))) (.s .o .o))
/-- tree.odd$1 -/
def a_tree_odd_1 : Ann := .s .o (.s .o .o)
/-- tree.may -/
def a_tree_may : Ann := .s .o (.s (.s .o (.b (.s .o (.c (.s .o .o) (.s .o (.c (.s .o .o) .o)))))) .u)
/-- tree.deep$1 -/
def a_tree_deep_1 : Ann := .s .o (.s .o .o)
/-- tree.great$1 -/
def a_tree_great_1 : Ann := .s .o (.s .o .o)
/-- slices.ContainsFunc -/
def a_slices_ContainsFunc_sl_api_Attr_api_Attr : Ann := .s .o (.s .o .o)
/-- tree.misnamed$1 -/
def a_tree_misnamed_1 : Ann := .s .o (.s .o .o)
/-- tree.wrongName -/
def a_tree_wrongName : Ann := .s .o (.s .o .o)
/-- char.Name -/
def a_char_Name : Ann := .s .o (.s (.s .o (.c .u .o)) (.s (.s .o (.b (.l [] (.s .o (.s (.c .o .o) (.b (.s .o (.s .o (.c .u .o))))))))) (.s .o .o)))
/-- tree.bad -/
def a_tree_bad : Ann := .s .o (.s .o (.s .o .o))
/-- tree.spoilt$1 -/
def a_tree_spoilt_1 : Ann := .s .o (.s .o .o)
/-- char.Fault -/
def a_char_Fault : Ann := .s .o (.s (.s .o (.b (.l [] (.s (.s .o (.c .o .o)) (.b (.s .o (.s (.s .o (.c .u .o)) .o))))))) (.s .o .o))
/-- (*scan.scanner).token -/
def a_scan_scanner_token : Ann := .s .o (.s (.b (.s .o (.c .u (.s .o (.c .u (.s .o (.c (.s .o (.s .o .o)) (.s .o (.c .u (.s .o (.c .u (.s .o (.c .u (.s .o (.c (.s .o .o) (.s .o (.c (.s .o .o) .o))))))))))))))))) (.s .o .o))
/-- (*parse.reader).put -/
def a_parse_reader_put : Ann := .s .o (.s (.s .o (.c .u .o)) (.s .o (.s (.d (.take 0 (.take 1 (.take 2 (.take 3 (.take 4 (.take 5 (.take 6 (.eff 7 (.eff 8 (.take 9 (.take 11 (.take 12 (.take 13 (.eff 10 (.eff 14 .done .none) (.eff 14 (.eff 10 .done .none) .none)))))) .none) .none))))))))) (.s .o (.s .o .o)))))
/-- (*parse.reader).text -/
def a_parse_reader_text : Ann := .s .o (.s (.s .o (.c .u .o)) (.s .o (.s .o (.s (.b (.s .o (.c .u (.s .o (.c (.s .o .o) .o))))) (.s (.d (.take 0 (.take 1 (.take 2 (.take 3 (.take 4 (.take 5 (.take 6 (.take 7 (.take 8 (.take 9 (.take 10 (.take 11 (.take 12 (.take 13 (.eff 14 .done .none)))))))))))))))) (.s (.s .o (.c .u .o)) (.s .o .o)))))))
/-- (*parse.reader).begin -/
def a_parse_reader_begin : Ann := .s .o (.s (.b (.s .o (.c .u (.s .o (.c .u .o))))) (.s (.d (.take 0 (.take 5 (.take 6 (.eff 1 (.take 2 (.take 3 (.take 4 (.eff 7 (.take 8 (.take 9 (.take 10 (.eff 11 (.eff 12 (.take 13 .done) .none) .none)))) (.eff 11 (.eff 7 (.take 8 (.take 9 (.take 10 (.eff 12 (.take 13 .done) .none)))) .none) .none))))) (.eff 11 (.eff 1 (.take 2 (.take 3 (.take 4 (.eff 7 (.take 8 (.take 9 (.take 10 (.eff 12 (.take 13 .done) .none)))) .none)))) .none) .none)))))) (.s (.s .o (.c .u .o)) (.s .o (.s (.s .o (.c .u .o)) (.s .o (.s (.s .o (.c .u .o)) (.s (.s .o (.b (.l [] (.s .o (.s (.c .o .o) (.s (.b (.s .o (.s .o (.c .u .o)))) .o)))))) (.s (.d (.take 0 (.take 1 (.take 2 (.take 3 (.take 4 (.take 5 (.take 6 (.take 7 (.take 8 (.take 9 (.take 10 (.take 11 (.eff 12 (.eff 13 (.take 14 (.take 15 (.eff 16 .done .none))) .none) .none)))))))))))))) (.s .o (.s .o .o)))))))))))
/-- (*parse.reader).close -/
def a_parse_reader_close : Ann := .s .o (.s (.d (.take 0 (.take 1 (.take 2 (.take 3 (.take 4 (.take 5 (.take 6 (.take 7 (.take 8 (.take 9 (.take 10 (.take 11 (.take 12 (.take 13 (.eff 14 .done .none)))))))))))))))) (.s .o (.s (.d (.take 0 (.take 1 (.take 2 (.take 3 (.take 4 (.take 5 (.take 6 (.eff 7 (.eff 8 (.take 9 (.take 11 (.take 12 (.take 13 (.eff 10 (.eff 14 .done .none) (.eff 14 (.eff 10 .done .none) .none)))))) .none) .none))))))))) .o)))
/-- (*parse.reader).top -/
def a_parse_reader_top : Ann := .s .o (.s (.d (.take 0 (.take 1 (.take 2 (.take 3 (.take 4 (.take 5 (.take 6 (.take 7 (.take 8 (.take 9 (.take 10 (.take 11 .done))))))))))))) .o)
/-- char.Lines -/
def a_char_Lines : Ann := .s .o (.s .o (.s (.s .o (.b (.l [] (.s .o (.s (.c .o .o) (.s (.b (.s .o (.s (.b (.s .o (.c .o (.s .o (.c .u .o))))) .o))) .o)))))) (.s .o .o)))
/-- bytes.TrimPrefix -/
def a_bytes_TrimPrefix : Ann := .s .o (.s (.s .o (.c .u .o)) (.s .o .o))
/-- slices.DeleteFunc -/
def a_slices_DeleteFunc_sl_string_string : Ann := .s .o (.s .o (.s (.s .o (.c (.s .o .o) .o)) .u))
/-- tree.Spaces -/
def a_tree_Spaces : Ann := .s .o (.s .o (.s .o (.s .o .o)))
/-- canon.Prefixes$1 -/
def a_canon_Prefixes_1 : Ann := .s .o (.s .o .o)
/-- (*canon.writer).put -/
def a_canon_writer_put : Ann := .s .o (.b (.l [] (.s .o (.s (.c .o .o) (.s (.b (.s .o .o)) .o)))))
/-- refer.Text -/
def a_refer_Text : Ann := .s .o (.s .o .o)
/-- (*canon.writer).element -/
def a_canon_writer_element : Ann := .s .o (.s .o (.s .o (.s (.s .o (.b (.l [] (.s .o (.s (.c .o .o) (.s (.b (.s .o (.s .o (.c .o .o)))) .o)))))) (.s (.s .o (.b (.l [] (.s .o (.s (.c .o .o) (.s (.b (.s .o (.d (.take 0 (.take 1 (.take 2 (.take 3 (.take 5 (.take 6 (.eff 4 (.eff 7 (.eff 8 (.eff 9 .done .none) .none) .none) .none)))))))))) .o)))))) (.s .o (.s (.s .o (.b (.l [] (.s .o (.s (.c .o .o) (.s (.b (.s .o .o)) .o)))))) .o))))))
/-- slices.IndexFunc -/
def a_slices_IndexFunc_sl_api_Attr_api_Attr : Ann := .s .o (.s (.s .o (.b (.l [] (.s .o (.s (.c .o .o) (.s (.b (.s .o (.s .o (.c .u .o)))) .o)))))) (.s .o .o))
/-- unicode/utf8.ValidString -/
def a_unicode_utf8_ValidString : Ann := .s .o (.s (.b (.l [] (.s (.s .o (.c .o .o)) (.b (.s .o (.s (.s .o (.c (.s .o (.s (.s .o (.c .u .o)) .o)) .o)) .u)))))) (.s .o .o))
/-- char.IsStart -/
def a_char_IsStart : Ann := .s .o (.s (.s .o (.c (.s .o .o) .o)) .u)
/-- char.IsPart -/
def a_char_IsPart : Ann := .s .o (.s .o .o)
/-- cmp.isNaN -/
def a_cmp_isNaN_string : Ann := .s .o (.s .o .o)
/-- char.Next -/
def a_char_Next : Ann := .s .o (.s (.s .o (.c .u .o)) (.s .o (.s (.b (.s .o (.c .u (.s .o (.c .u .o))))) (.s .o .o))))
/-- (*scan.scanner).here -/
def a_scan_scanner_here : Ann := .s .o (.s (.d (.take 0 (.take 1 (.take 2 (.take 3 (.take 4 (.take 5 (.take 6 (.take 7 (.take 8 (.take 9 (.eff 10 (.eff 11 (.take 12 .done) .none) .none)))))))))))) .o)
/-- (*scan.scanner).spaces -/
def a_scan_scanner_spaces : Ann := .s .o (.s (.b (.l [] (.s (.s .o (.c .o .o)) (.b .o)))) (.s .o .o))
/-- (*scan.scanner).upTo -/
def a_scan_scanner_upTo : Ann := .s .o (.s (.d (.take 0 (.take 1 (.take 2 (.take 3 (.take 4 (.take 5 (.take 6 (.take 7 (.take 8 (.take 9 (.take 10 (.take 11 .done))))))))))))) (.s .o (.s (.s .o (.c .u .o)) (.s .o (.s .o (.s .o .o))))))
/-- (*scan.scanner).sign -/
def a_scan_scanner_sign : Ann := .s .o (.s (.s .o (.c .u .o)) (.s .o (.s .o .o)))
/-- (*scan.scanner).closing -/
def a_scan_scanner_closing : Ann := .s .o (.s .o (.s .o (.s .o (.s (.s .o (.c .u .o)) (.s .o (.s .o (.s .o .o)))))))
/-- (*scan.scanner).tag -/
def a_scan_scanner_tag : Ann := .s .o (.g 0 (.s .o (.s .o (.s .o (.s .o (.s .o (.s (.s .o (.c .u .o)) (.s .o (.s .o (.s .o (.s .o (.s (.s .o (.c .u .o)) (.s (.s .o (.c (.s .o .o) .o)) (.s (.s .o (.c .u .o)) (.s (.s .o (.s .o (.c .u .o))) (.s (.s .o (.s .o (.c .u .o))) (.s (.s .o (.s .o (.c .u .o))) (.s (.s .o (.s .o (.c .u .o))) (.s (.s .o (.b (.l [] (.s .o (.s (.c .o .o) (.s (.b (.s .o (.s .o (.c .u .o)))) .o)))))) (.s (.d (.take 0 (.take 1 (.take 2 (.take 3 (.take 4 (.take 5 (.eff 6 (.eff 7 (.take 8 (.take 9 (.eff 10 .done .none))) .none) .none)))))))) .o))))))))))))))))))) (.s .o (.s .o (.s .o (.s (.s .o (.c .u .o)) (.s (.s .o (.c (.s .o .o) .o)) (.s (.s .o (.c .u .o)) (.s (.s .o (.s .o (.c .u .o))) (.s (.s .o (.s .o (.c .u .o))) (.s (.s .o (.s .o (.c .u .o))) (.s (.s .o (.s .o (.c .u .o))) (.s (.s .o (.b (.l [] (.s .o (.s (.c .o .o) (.s (.b (.s .o (.s .o (.c .u .o)))) .o)))))) (.s (.d (.take 0 (.take 1 (.take 2 (.take 3 (.take 4 (.take 5 (.eff 6 (.eff 7 (.take 8 (.take 9 (.eff 10 .done .none))) .none) .none)))))))) .o)))))))))))))
/-- (*scan.scanner).text -/
def a_scan_scanner_text : Ann := .s .o (.s .o (.s (.d (.take 0 (.take 1 (.take 2 (.take 3 (.take 4 (.take 5 (.take 6 (.take 7 (.take 8 (.take 9 .done))))))))))) (.s (.s .o (.s .o (.c .o .o))) (.s .o (.s .o (.s .o (.s .o .o)))))))
/-- (scope.Scope).Open -/
def a_scope_Scope_Open : Ann := .s .o (.s .o (.s .o (.s (.s .o (.b (.l [] (.s .o (.s (.c .o .o) (.s (.b (.s .o (.s .o (.s (.s .o (.c .o .o)) (.s (.s .o (.s .o (.c .u .o))) (.s (.s .o (.c .u .o)) (.s .o (.s .o (.s .o (.c .o .o)))))))))) .o)))))) (.s .o .o))))
/-- (scope.Scope).Element -/
def a_scope_Scope_Element : Ann := .s .o (.s .o (.s (.b (.s .o (.c .u (.s .o (.c .u .o))))) (.s .o (.s (.s .o (.c .u .o)) (.s .o .o)))))
/-- (scope.Scope).Attrs -/
def a_scope_Scope_Attrs : Ann := .s .o (.s .o (.s (.s .o (.b (.l [] (.s .o (.s (.c .o .o) (.s (.b (.s .o (.s (.s .o (.s .o (.c .o .o))) (.s .o (.s (.s .o (.c .u .o)) (.s (.s .o (.s .o (.c .o .o))) .o)))))) .o)))))) (.s .o (.s (.s .o (.b (.l [] (.s .o (.s (.c .o .o) (.s (.b (.s .o (.s (.d (.take 0 (.take 1 (.take 2 (.take 3 (.take 4 (.take 5 (.take 6 (.take 7 (.take 8 (.take 9 (.take 10 (.take 11 (.take 12 (.take 13 (.take 14 (.take 15 .done))))))))))))))))) (.c .u .o)))) .o)))))) (.s .o .o)))))
/-- bytes.HasPrefix -/
def a_bytes_HasPrefix : Ann := .s .o (.s .o .o)
/-- slices.IndexFunc -/
def a_slices_IndexFunc_sl_string_string : Ann := .s .o (.s (.s .o (.b (.l [] (.s .o (.s (.c .o .o) (.s (.b (.s .o (.s .o (.c .u .o)))) .o)))))) (.s .o .o))
/-- tree.spaces -/
def a_tree_spaces : Ann := .s .o (.s (.s .o (.c .o .o)) (.s (.s .o (.b (.l [] (.s .o (.s (.c .o .o) (.s (.b (.s .o (.s .o (.c .u .o)))) .o)))))) (.s (.s .o (.b (.l [] (.s .o (.s (.c .o .o) (.s (.b (.s .o .o)) .o)))))) (.s .o .o))))
/-- slices.Sort -/
def a_slices_Sort_sl_string_string : Ann := .s .o .o
/-- slices.Compact -/
def a_slices_Compact_sl_string_string : Ann := .s .o (.s (.s .o (.c (.s .o .o) .o)) .u)
/-- (*strings.Builder).WriteString -/
def a_strings_Builder_WriteString : Ann := .s .o (.s .o (.s .o (.s .o .o)))
/-- strings.NewReplacer -/
def a_strings_NewReplacer : Ann := .s .o (.s (.s .o (.c .u .o)) (.s .o .o))
/-- (*canon.writer).name -/
def a_canon_writer_name : Ann := .s .o (.s (.s .o (.b (.s .o (.c (.s .o .o) (.s .o (.c .u .o)))))) (.s (.d (.take 0 (.take 1 (.take 2 (.take 3 (.take 4 (.take 5 (.eff 6 (.take 7 (.take 8 (.take 9 (.take 10 (.take 11 .done))))) .none)))))))) (.s (.d (.take 0 (.take 3 (.take 4 (.eff 1 (.take 2 (.take 5 (.take 6 .done))) .none))))) .o)))
/-- canon.prefix -/
def a_canon_prefix : Ann := .s .o (.s .o .o)
/-- refer.Quote -/
def a_refer_Quote : Ann := .s .o (.s .o .o)
/-- char.in -/
def a_char_in : Ann := .s .o (.s (.s .o (.b (.l [] (.s .o (.s (.c .o .o) (.s (.b (.s .o (.s .o (.c (.s .o .o) .o)))) .u)))))) .u)
/-- internal/stringslite.Index -/
def a_internal_stringslite_Index : Ann := .s .o (.s .o (.s (.b (.s .o (.c .u (.s .o (.c (.s .o .o) .u))))) .u))
/-- math/bits.Len -/
def a_math_bits_Len : Ann := .s .o (.s (.c .u .o) (.s .o .o))
/-- unicode/utf8.DecodeRune -/
def a_unicode_utf8_DecodeRune : Ann := .s .o (.s (.s .o (.b (.l [] (.s .o (.s (.c .o .o) (.s (.b (.s .o (.s (.s .o (.c (.s .o .o) .o)) .o))) .u)))))) .u)
/-- char.IsChar -/
def a_char_IsChar : Ann := .s .o (.s .o .o)
/-- strings.IndexByte -/
def a_strings_IndexByte : Ann := .s .o (.s .o .o)
/-- (*scan.scanner).equals -/
def a_scan_scanner_equals : Ann := .s .o (.s .o (.s .o (.s .o (.s .o .o))))
/-- (*scan.scanner).quoted -/
def a_scan_scanner_quoted : Ann := .s .o (.s (.s .o (.c .u .o)) (.s (.d (.take 0 (.take 1 (.take 2 (.take 3 (.take 4 (.take 5 (.take 6 (.take 7 (.take 8 (.take 9 (.take 10 .done)))))))))))) (.s (.d (.take 0 (.take 1 (.take 2 (.take 3 (.take 4 (.take 5 (.take 6 (.take 7 (.take 8 (.take 9 (.take 10 (.eff 11 (.take 12 .done) .none))))))))))))) (.s (.s .o (.c .u .o)) (.s .o (.s .o .o))))))
/-- (*scan.scanner).name -/
def a_scan_scanner_name : Ann := .s .o (.s .o (.s (.b (.l [] (.s (.s .o (.c .o .o)) (.b (.s .o (.s (.s .o (.c .o .o)) .o)))))) (.s (.d (.take 0 (.take 1 (.take 2 (.take 3 (.take 4 (.take 5 (.take 6 (.take 7 (.take 8 (.take 9 (.take 10 (.take 11 .done))))))))))))) (.s (.s .o (.c .u .o)) (.s (.s .o (.s .o (.c .u .o))) (.s .o (.s .o .o)))))))
/-- refer.ReadValue -/
def a_refer_ReadValue : Ann := .s .o (.s .o .o)
/-- bytes.IndexByte -/
def a_bytes_IndexByte : Ann := .s .o (.s .o .o)
/-- refer.ReadText -/
def a_refer_ReadText : Ann := .s .o (.s .o .o)
/-- bytes.Count -/
def a_bytes_Count : Ann := .s .o (.s (.s .o (.c .u .o)) (.s (.s .o (.c (.s .o .o) .o)) .u))
/-- slices.Clone -/
def a_slices_Clone_sl_scope_bind_scope_bind : Ann := .s .o (.s (.s .o (.c (.s .o .o) .o)) .u)
/-- scope.declares -/
def a_scope_declares : Ann := .s .o (.s .o (.s (.b (.s .o (.c .u (.s .o (.c (.s .o .o) .o))))) (.s .o .o)))
/-- scope.wrong -/
def a_scope_wrong : Ann := .s .o (.s (.b (.s (.s .o (.c .o (.s .o (.c .o .o)))) (.c .u (.s .o (.c .u (.s .o (.c .u .o))))))) (.s .o .o))
/-- slices.Contains -/
def a_slices_Contains_sl_string_string : Ann := .s .o (.s .o .o)
/-- slices.DeleteFunc -/
def a_slices_DeleteFunc_sl_scope_bind_scope_bind : Ann := .s .o (.s .o (.s (.s .o (.c (.s .o .o) .o)) .u))
/-- char.Split -/
def a_char_Split : Ann := .s .o (.s .o (.s (.b (.s .o (.c (.s .o .o) .u))) .u))
/-- (scope.Scope).Bound -/
def a_scope_Scope_Bound : Ann := .s .o (.s (.s .o (.c .u .o)) (.s (.s .o (.b (.l [] (.s .o (.s (.c .o .o) (.s (.b (.s .o (.s .o (.c (.s .o .o) .o)))) .u)))))) .u))
/-- slices.SortStableFunc -/
def a_slices_SortStableFunc_sl_api_Attr_api_Attr : Ann := .o
/-- bytes.Equal -/
def a_bytes_Equal : Ann := .s .o (.s .o .o)
/-- slices.pdqsortOrdered -/
def a_slices_pdqsortOrdered_string : Ann := .s .o (.s .o (.b (.l [] (.b (.s .o (.s (.s .o (.c (.s .o .o) .o)) .u))))))
/-- (*strings.Replacer).buildOnce -/
def a_strings_Replacer_buildOnce : Ann := .s .o .o
/-- slices.BinarySearch -/
def a_slices_BinarySearch_sl_string_string : Ann := .s .o (.s .o (.s .o (.s (.b (.l [] (.s (.s .o (.c .o .o)) (.b (.s .o (.s .o (.c .u .o))))))) (.s .o .o))))
/-- strconv.Itoa -/
def a_strconv_Itoa : Ann := .s .o (.s .o .o)
/-- internal/stringslite.IndexByte -/
def a_internal_stringslite_IndexByte : Ann := .s .o (.s .o .o)
/-- math/bits.Len64 -/
def a_math_bits_Len64 : Ann := .s .o (.s (.s .o (.c .u .o)) (.s (.s .o (.c .u .o)) (.s (.s .o (.c .u .o)) (.s .o .o))))
/-- refer.read -/
def a_refer_read : Ann := .s .o (.s .o (.s (.s .o (.b (.l [] (.s (.s .o (.c .o .o)) (.b (.s .o (.s (.b (.s .o (.c .u (.s .o (.c .u (.s .o (.c (.s .o (.s .o (.c .u .o))) (.s .o (.c .u .o))))))))) (.s .o .o)))))))) (.s .o .o)))
/-- slices.Index -/
def a_slices_Index_sl_string_string : Ann := .s .o (.s (.s .o (.b (.l [] (.s .o (.s (.c .o .o) .u))))) (.s .o .o))
/-- slices.IndexFunc -/
def a_slices_IndexFunc_sl_scope_bind_scope_bind : Ann := .s .o (.s (.s .o (.b (.l [] (.s .o (.s (.c .o .o) .u))))) (.s .o .o))
/-- strings.Cut -/
def a_strings_Cut : Ann := .s .o (.s .o .o)
/-- slices.stableCmpFunc -/
def a_slices_stableCmpFunc_api_Attr : Ann := .s .o (.s .o (.s (.b (.l [] (.s (.s .o (.c .o .o)) .u))) (.s .o (.b (.l [] (.s (.s .o (.c .o .o)) .u))))))
/-- slices.insertionSortOrdered -/
def a_slices_insertionSortOrdered_string : Ann := .s .o (.b (.l [] (.s (.s .o (.c .o .o)) .u)))
/-- cmp.Less -/
def a_cmp_Less_string : Ann := .s .o (.s .o .o)
/-- (*strings.Replacer).build -/
def a_strings_Replacer_build : Ann := .s .o (.s .o (.s (.s .o (.c .u .o)) (.s .o (.s (.s .o (.b (.l [] (.s (.s .o (.c .o .o)) (.s (.b (.s (.s .o (.c .u .o)) (.s .o (.c .o .o)))) .o))))) (.s (.s .o (.c .u .o)) (.s .o (.s (.s .o (.b (.l [] (.s (.s .o (.c .o .o)) (.s (.b (.s .o (.s .o (.s (.s .o (.c .o .o)) .o)))) .o))))) (.s .o .o))))))))
/-- internal/strconv.Itoa -/
def a_internal_strconv_Itoa : Ann := .s .o (.s .o .o)
/-- refer.Expand -/
def a_refer_Expand : Ann := .s .o (.s (.s .o (.c .u .o)) (.s .o (.s (.s .o (.c .u .o)) (.s .o (.s (.s .o (.c .u .o)) (.s .o .o))))))
/-- internal/stringslite.Cut -/
def a_internal_stringslite_Cut : Ann := .s .o (.s (.s .o (.s .o (.c .u .o))) (.s .o .o))
/-- slices.insertionSortCmpFunc -/
def a_slices_insertionSortCmpFunc_api_Attr : Ann := .s .o (.b (.l [] (.s (.s .o (.c .o .o)) .u)))
/-- internal/strconv.FormatInt -/
def a_internal_strconv_FormatInt : Ann := .s .o (.s (.s .o (.c (.s (.s .o (.c (.s .o .o) .o)) .u) .o)) .u)
/-- refer.meant -/
def a_refer_meant : Ann := .s .o (.s (.s .o (.b (.s .o (.c .u (.s .o (.c .u (.s .o (.c (.s .o .o) .u)))))))) .u)
/-- internal/strconv.small -/
def a_internal_strconv_small : Ann := .s .o (.s (.s .o (.c (.s .o .o) .o)) .u)
/-- (*strings.byteStringReplacer).Replace -/
def a_strings_byteStringReplacer_Replace : Ann := .s .o (.s .o (.s .o (.s (.s .o (.c .u (.s .o (.b (.l [] (.s (.s .o (.c .o .o)) (.s (.b (.s .o (.s .o (.c (.s .o .o) .o)))) .o))))))) (.s (.s .o (.c (.s .o .o) .o)) (.s .o (.s .o (.s (.s .o (.b (.l [] (.s (.s .o (.c .o .o)) (.s (.b (.s .o (.s .o (.c (.d (.take 0 (.take 1 (.take 2 (.take 3 (.take 4 (.take 5 (.take 6 (.take 7 (.take 8 (.take 9 (.eff 10 (.take 11 (.take 12 .done)) .none)))))))))))) (.s .o .o))))) .o))))) (.s .o .o))))))))
def evTab : BT := .nd fn_scan_scanner_tag a_scan_scanner_tag (.nd fn_char_Name a_char_Name (.nd fn_scope_New a_scope_New (.nd fn_tree_deep a_tree_deep (.nd fn_canon_Write a_canon_Write (.nd fn_tree_Check a_tree_Check (.nd fn_top_reads a_top_reads .lf .lf) (.nd fn_parse_Parse a_parse_Parse .lf .lf)) (.nd fn_slices_ContainsFunc_sl_api_Node_api_Node a_slices_ContainsFunc_sl_api_Node_api_Node (.nd fn_tree_flat a_tree_flat .lf .lf) (.nd fn_tree_odd a_tree_odd .lf .lf))) (.nd fn_tree_unordered a_tree_unordered (.nd fn_tree_misnamed a_tree_misnamed (.nd fn_tree_great a_tree_great .lf .lf) (.nd fn_tree_spoilt a_tree_spoilt .lf .lf)) (.nd fn_scan_All a_scan_All (.nd fn_tree_wrongText a_tree_wrongText .lf .lf) .lf))) (.nd fn_tree_odd_1 a_tree_odd_1 (.nd fn_canon_writer_node a_canon_writer_node (.nd fn_scan_Plain a_scan_Plain (.nd fn_parse_reader_take a_parse_reader_take .lf .lf) (.nd fn_canon_Prefixes a_canon_Prefixes .lf .lf)) (.nd fn_strings_Builder_Len a_strings_Builder_Len (.nd fn_strings_Builder_WriteByte a_strings_Builder_WriteByte .lf .lf) (.nd fn_slices_IndexFunc_sl_api_Node_api_Node a_slices_IndexFunc_sl_api_Node_api_Node .lf .lf))) (.nd fn_slices_ContainsFunc_sl_api_Attr_api_Attr a_slices_ContainsFunc_sl_api_Attr_api_Attr (.nd fn_tree_deep_1 a_tree_deep_1 (.nd fn_tree_may a_tree_may .lf .lf) (.nd fn_tree_great_1 a_tree_great_1 .lf .lf)) (.nd fn_tree_wrongName a_tree_wrongName (.nd fn_tree_misnamed_1 a_tree_misnamed_1 .lf .lf) .lf)))) (.nd fn_canon_writer_put a_canon_writer_put (.nd fn_parse_reader_close a_parse_reader_close (.nd fn_scan_scanner_token a_scan_scanner_token (.nd fn_tree_spoilt_1 a_tree_spoilt_1 (.nd fn_tree_bad a_tree_bad .lf .lf) (.nd fn_char_Fault a_char_Fault .lf .lf)) (.nd fn_parse_reader_text a_parse_reader_text (.nd fn_parse_reader_put a_parse_reader_put .lf .lf) (.nd fn_parse_reader_begin a_parse_reader_begin .lf .lf))) (.nd fn_slices_DeleteFunc_sl_string_string a_slices_DeleteFunc_sl_string_string (.nd fn_char_Lines a_char_Lines (.nd fn_parse_reader_top a_parse_reader_top .lf .lf) (.nd fn_bytes_TrimPrefix a_bytes_TrimPrefix .lf .lf)) (.nd fn_canon_Prefixes_1 a_canon_Prefixes_1 (.nd fn_tree_Spaces a_tree_Spaces .lf .lf) .lf))) (.nd fn_cmp_isNaN_string a_cmp_isNaN_string (.nd fn_unicode_utf8_ValidString a_unicode_utf8_ValidString (.nd fn_canon_writer_element a_canon_writer_element (.nd fn_refer_Text a_refer_Text .lf .lf) (.nd fn_slices_IndexFunc_sl_api_Attr_api_Attr a_slices_IndexFunc_sl_api_Attr_api_Attr .lf .lf)) (.nd fn_char_IsPart a_char_IsPart (.nd fn_char_IsStart a_char_IsStart .lf .lf) .lf)) (.nd fn_scan_scanner_upTo a_scan_scanner_upTo (.nd fn_scan_scanner_here a_scan_scanner_here (.nd fn_char_Next a_char_Next .lf .lf) (.nd fn_scan_scanner_spaces a_scan_scanner_spaces .lf .lf)) (.nd fn_scan_scanner_closing a_scan_scanner_closing (.nd fn_scan_scanner_sign a_scan_scanner_sign .lf .lf) .lf))))) (.nd fn_scope_wrong a_scope_wrong (.nd fn_char_in a_char_in (.nd fn_slices_Sort_sl_string_string a_slices_Sort_sl_string_string (.nd fn_scope_Scope_Attrs a_scope_Scope_Attrs (.nd fn_scope_Scope_Open a_scope_Scope_Open (.nd fn_scan_scanner_text a_scan_scanner_text .lf .lf) (.nd fn_scope_Scope_Element a_scope_Scope_Element .lf .lf)) (.nd fn_slices_IndexFunc_sl_string_string a_slices_IndexFunc_sl_string_string (.nd fn_bytes_HasPrefix a_bytes_HasPrefix .lf .lf) (.nd fn_tree_spaces a_tree_spaces .lf .lf))) (.nd fn_canon_writer_name a_canon_writer_name (.nd fn_strings_Builder_WriteString a_strings_Builder_WriteString (.nd fn_slices_Compact_sl_string_string a_slices_Compact_sl_string_string .lf .lf) (.nd fn_strings_NewReplacer a_strings_NewReplacer .lf .lf)) (.nd fn_refer_Quote a_refer_Quote (.nd fn_canon_prefix a_canon_prefix .lf .lf) .lf))) (.nd fn_scan_scanner_name a_scan_scanner_name (.nd fn_char_IsChar a_char_IsChar (.nd fn_math_bits_Len a_math_bits_Len (.nd fn_internal_stringslite_Index a_internal_stringslite_Index .lf .lf) (.nd fn_unicode_utf8_DecodeRune a_unicode_utf8_DecodeRune .lf .lf)) (.nd fn_scan_scanner_equals a_scan_scanner_equals (.nd fn_strings_IndexByte a_strings_IndexByte .lf .lf) (.nd fn_scan_scanner_quoted a_scan_scanner_quoted .lf .lf))) (.nd fn_bytes_Count a_bytes_Count (.nd fn_bytes_IndexByte a_bytes_IndexByte (.nd fn_refer_ReadValue a_refer_ReadValue .lf .lf) (.nd fn_refer_ReadText a_refer_ReadText .lf .lf)) (.nd fn_scope_declares a_scope_declares (.nd fn_slices_Clone_sl_scope_bind_scope_bind a_slices_Clone_sl_scope_bind_scope_bind .lf .lf) .lf)))) (.nd fn_slices_IndexFunc_sl_scope_bind_scope_bind a_slices_IndexFunc_sl_scope_bind_scope_bind (.nd fn_strings_Replacer_buildOnce a_strings_Replacer_buildOnce (.nd fn_scope_Scope_Bound a_scope_Scope_Bound (.nd fn_slices_DeleteFunc_sl_scope_bind_scope_bind a_slices_DeleteFunc_sl_scope_bind_scope_bind (.nd fn_slices_Contains_sl_string_string a_slices_Contains_sl_string_string .lf .lf) (.nd fn_char_Split a_char_Split .lf .lf)) (.nd fn_bytes_Equal a_bytes_Equal (.nd fn_slices_SortStableFunc_sl_api_Attr_api_Attr a_slices_SortStableFunc_sl_api_Attr_api_Attr .lf .lf) (.nd fn_slices_pdqsortOrdered_string a_slices_pdqsortOrdered_string .lf .lf))) (.nd fn_math_bits_Len64 a_math_bits_Len64 (.nd fn_strconv_Itoa a_strconv_Itoa (.nd fn_slices_BinarySearch_sl_string_string a_slices_BinarySearch_sl_string_string .lf .lf) (.nd fn_internal_stringslite_IndexByte a_internal_stringslite_IndexByte .lf .lf)) (.nd fn_slices_Index_sl_string_string a_slices_Index_sl_string_string (.nd fn_refer_read a_refer_read .lf .lf) .lf))) (.nd fn_refer_Expand a_refer_Expand (.nd fn_cmp_Less_string a_cmp_Less_string (.nd fn_slices_stableCmpFunc_api_Attr a_slices_stableCmpFunc_api_Attr (.nd fn_strings_Cut a_strings_Cut .lf .lf) (.nd fn_slices_insertionSortOrdered_string a_slices_insertionSortOrdered_string .lf .lf)) (.nd fn_internal_strconv_Itoa a_internal_strconv_Itoa (.nd fn_strings_Replacer_build a_strings_Replacer_build .lf .lf) .lf)) (.nd fn_refer_meant a_refer_meant (.nd fn_slices_insertionSortCmpFunc_api_Attr a_slices_insertionSortCmpFunc_api_Attr (.nd fn_internal_stringslite_Cut a_internal_stringslite_Cut .lf .lf) (.nd fn_internal_strconv_FormatInt a_internal_strconv_FormatInt .lf .lf)) (.nd fn_strings_byteStringReplacer_Replace a_strings_byteStringReplacer_Replace (.nd fn_internal_strconv_small a_internal_strconv_small .lf .lf) .lf)))))
end Go.Proofs.YtmnbgcgealpcbaaGreatDoor

/-
  Functions of the library that the evaluator does not run: where a byte stands, how often; bytes.Index.
-/
set_option linter.unusedVariables false
set_option linter.unusedSimpArgs false
namespace Go.Vc
open Go Go.Lib
theorem ints_bytesE (bs : List UInt8) : Lib.bytesOf (bs.map fun b => (b.toNat : Int)) = bs := by
  unfold Lib.bytesOf
  rw [List.map_map]
  conv => rhs; rw [← List.map_id bs]
  apply List.map_congr_left
  intro b _
  simp

theorem run_ixbE {P : Program} {w : World} {p : Option Addr} {l c : Nat} {bs : List UInt8} (h : Bytes w p l bs) (v : UInt8) :
    (Extern.BytealgIndexByte.indexByte #[.slice p l c, .int .u8 v.toNat]).run P w = .ok (.int .i64 (Lib.indexByte bs v)) w := by
  have hs := Lib.run_indexByteString (P := P) ⟨bs.toArray⟩ (v.toNat : Int) w
  have hv : ((v.toNat : Int).toNat.toUInt8) = v := by simp
  rw [hv] at hs
  have hl := h.len
  have key : (Extern.Bytes.bytesOf (.slice p l c)).run P w = .ok ⟨bs.toArray⟩ w := by
    cases p with
    | none =>
      have : bs = [] := by
        rcases h.2 with h0 | ⟨a, ha, _⟩
        · exact List.eq_nil_of_length_eq_zero (by omega)
        · cases ha
      subst this
      simp [Extern.Bytes.bytesOf]; rfl
    | some a =>
      have hc : ∀ j x, (bs.map fun b => (b.toNat : Int))[j]? = some x → w.cell? (a.add j) = some (.int .u8 x) := by
        intro j x hx
        rcases h.2 with h0 | ⟨a', ha, hcs⟩
        · have : bs = [] := List.eq_nil_of_length_eq_zero (by omega)
          subst this; simp at hx
        · cases ha
          refine hcs j _ ?_
          unfold bcells
          rw [List.getElem?_map] at hx ⊢
          cases hb : bs[j]? with
          | none => simp [hb] at hx
          | some b => simp [hb] at hx ⊢; exact hx
      have := Lib.run_loadBytesX (P := P) w (bs.map fun b => (b.toNat : Int)) a .empty hc
      rw [List.length_map, ints_bytesE, hl] at this
      have he : (⟨ByteArray.empty.data ++ bs.toArray⟩ : ByteArray) = ⟨bs.toArray⟩ := by
        apply ByteArray.ext
        show (#[] : Array UInt8) ++ bs.toArray = bs.toArray
        simp
      rw [he] at this
      simpa [Extern.Bytes.bytesOf] using this
  change Sem.run P (do
    let b ← Extern.Bytes.bytesOf (.slice p l c)
    let c' ← Extern.Bytes.asByte (.int .u8 (v.toNat : Int))
    match (List.range b.size).find? fun i => b[i]! == c' with
    | some i => pure (goInt i)
    | none => pure (goInt (-1))) w = _
  change Sem.run P (do
    let b ← Extern.Bytes.bytesOf (.string ⟨bs.toArray⟩)
    let c' ← Extern.Bytes.asByte (.int .u8 (v.toNat : Int))
    match (List.range b.size).find? fun i => b[i]! == c' with
    | some i => pure (goInt i)
    | none => pure (goInt (-1))) w = _ at hs
  simp only [Sem.run_bind, key, Result.andThen] at hs ⊢
  simp only [Extern.Bytes.bytesOf, Sem.run_pure] at hs
  exact hs
/-- The model's own count of a byte. -/
theorem run_countE {P : Program} {w : World} {p : Option Addr} {l c : Nat} {bs : List UInt8} (h : Bytes w p l bs) (v : UInt8) :
    (Extern.BytealgCount.count #[.slice p l c, .int .u8 v.toNat]).run P w = .ok (.int .i64 (bs.count v : Nat)) w := by
  have hs := Lib.run_countString (P := P) ⟨bs.toArray⟩ (v.toNat : Int) w
  have hv : ((v.toNat : Int).toNat.toUInt8) = v := by simp
  rw [hv] at hs
  have hl := h.len
  have key : (Extern.Bytes.bytesOf (.slice p l c)).run P w = .ok ⟨bs.toArray⟩ w := by
    cases p with
    | none =>
      have : bs = [] := by
        rcases h.2 with h0 | ⟨a, ha, _⟩
        · exact List.eq_nil_of_length_eq_zero (by omega)
        · cases ha
      subst this
      simp [Extern.Bytes.bytesOf]; rfl
    | some a =>
      have hc : ∀ j x, (bs.map fun b => (b.toNat : Int))[j]? = some x → w.cell? (a.add j) = some (.int .u8 x) := by
        intro j x hx
        rcases h.2 with h0 | ⟨a', ha, hcs⟩
        · have : bs = [] := List.eq_nil_of_length_eq_zero (by omega)
          subst this; simp at hx
        · cases ha
          refine hcs j _ ?_
          unfold bcells
          rw [List.getElem?_map] at hx ⊢
          cases hb : bs[j]? with
          | none => simp [hb] at hx
          | some b => simp [hb] at hx ⊢; exact hx
      have := Lib.run_loadBytesX (P := P) w (bs.map fun b => (b.toNat : Int)) a .empty hc
      rw [List.length_map, ints_bytesE, hl] at this
      have he : (⟨ByteArray.empty.data ++ bs.toArray⟩ : ByteArray) = ⟨bs.toArray⟩ := by
        apply ByteArray.ext
        show (#[] : Array UInt8) ++ bs.toArray = bs.toArray
        simp
      rw [he] at this
      simpa [Extern.Bytes.bytesOf] using this
  change Sem.run P (do
    let b ← Extern.Bytes.bytesOf (.slice p l c)
    let c' ← Extern.Bytes.asByte (.int .u8 (v.toNat : Int))
    pure (goInt (b.foldl (fun n x => if x == c' then n + 1 else n) (0 : Nat)))) w = _
  change Sem.run P (do
    let b ← Extern.Bytes.bytesOf (.string ⟨bs.toArray⟩)
    let c' ← Extern.Bytes.asByte (.int .u8 (v.toNat : Int))
    pure (goInt (b.foldl (fun n x => if x == c' then n + 1 else n) (0 : Nat)))) w = _ at hs
  simp only [Sem.run_bind, key, Result.andThen] at hs ⊢
  simp only [Extern.Bytes.bytesOf, Sem.run_pure] at hs
  simpa [Lib.countByte] using hs

section
variable {w : World}
theorem ints_cellE {p : Addr} {l : Nat} {bs : List UInt8} (h : Bytes w (some p) l bs) : ∀ i, i < l → w.cell? (p.add i) = some (.int .u8 ((bs.map fun b => (b.toNat : Int)).getD i 0)) := by
  intro i hi
  have hl := h.len
  obtain ⟨a, ha, hc⟩ := h.at (by omega)
  cases ha
  refine hc i _ ?_
  have hb : bs[i]? = some bs[i] := List.getElem?_eq_getElem (by omega)
  simp [bcells, hb]
end
theorem chg_drewE (w : World) (q : Nat) : Chg No w (w.drewN q) := ⟨rfl, rfl, rfl, Nat.le_refl _, fun _ _ _ => rfl⟩
end Go.Vc
namespace Go.Proofs
open Go.Shelf
def Tryz.lays185_ren : Go.Shelf.Ren := ⟨fun | 185 => Go.Proofs.YtmnbgcgealpcbaaGreatDoor.fn_bytes_Index | 187 => Go.Proofs.YtmnbgcgealpcbaaGreatDoor.fn_bytes_IndexByte | 115 => Go.Proofs.YtmnbgcgealpcbaaGreatDoor.fn_bytes_Equal | 253 => Go.Proofs.YtmnbgcgealpcbaaGreatDoor.fn_internal_bytealg_Index | 224 => Go.Proofs.YtmnbgcgealpcbaaGreatDoor.fn_internal_bytealg_Cutover | 254 => Go.Proofs.YtmnbgcgealpcbaaGreatDoor.fn_internal_bytealg_IndexRabinKarp_sl_byte | 255 => Go.Proofs.YtmnbgcgealpcbaaGreatDoor.fn_internal_bytealg_IndexByte | 291 => Go.Proofs.YtmnbgcgealpcbaaGreatDoor.fn_internal_bytealg_hashStr_sl_byte | n => n, fun | 37 => Go.Proofs.YtmnbgcgealpcbaaGreatDoor.T_sl_uint8 | 3 => Go.Proofs.YtmnbgcgealpcbaaGreatDoor.T_int | 4 => Go.Proofs.YtmnbgcgealpcbaaGreatDoor.T_bool | 0 => Go.Proofs.YtmnbgcgealpcbaaGreatDoor.T_x | 5 => Go.Proofs.YtmnbgcgealpcbaaGreatDoor.T_uint8 | 46 => Go.Proofs.YtmnbgcgealpcbaaGreatDoor.T_uint | 9 => Go.Proofs.YtmnbgcgealpcbaaGreatDoor.T_string | 146 => Go.Proofs.YtmnbgcgealpcbaaGreatDoor.T_uint32_uint32 | 51 => Go.Proofs.YtmnbgcgealpcbaaGreatDoor.T_uint32 | n => n, fun | 1 => 5 | n => n⟩
theorem Tryz.lays185 : Go.Proofs.Lays.n185 Tryz.prog Tryz.lays185_ren where
  mixed := by kernel_rfl
  f115 := by kernel_rfl
  f185 := by kernel_rfl
  f187 := by kernel_rfl
  f224 := by kernel_rfl
  f253 := by kernel_rfl
  f254 := by kernel_rfl
  f255 := by kernel_rfl
  f291 := by kernel_rfl
  t0 := by kernel_rfl
  a0 := fun w => by kernel_rfl
  z0 := fun w => by kernel_rfl
  v0 := fun w => by kernel_rfl
  t3 := by kernel_rfl
  a3 := fun w => by kernel_rfl
  z3 := fun w => by kernel_rfl
  v3 := fun w => by kernel_rfl
  t4 := by kernel_rfl
  a4 := fun w => by kernel_rfl
  z4 := fun w => by kernel_rfl
  v4 := fun w => by kernel_rfl
  t5 := by kernel_rfl
  a5 := fun w => by kernel_rfl
  z5 := fun w => by kernel_rfl
  v5 := fun w => by kernel_rfl
  t9 := by kernel_rfl
  a9 := fun w => by kernel_rfl
  z9 := fun w => by kernel_rfl
  v9 := fun w => by kernel_rfl
  t37 := by kernel_rfl
  a37 := fun w => by kernel_rfl
  z37 := fun w => by kernel_rfl
  v37 := fun w => by kernel_rfl
  t46 := by kernel_rfl
  a46 := fun w => by kernel_rfl
  z46 := fun w => by kernel_rfl
  v46 := fun w => by kernel_rfl
  t51 := by kernel_rfl
  a51 := fun w => by kernel_rfl
  z51 := fun w => by kernel_rfl
  v51 := fun w => by kernel_rfl
  t146 := by kernel_rfl
  a146 := fun w => by kernel_rfl
  z146 := fun w => by kernel_rfl
  v146 := fun w => by kernel_rfl
  g1 := by kernel_rfl
end Go.Proofs
namespace Go.Proofs.YtmnbgcgealpcbaaGreatDoor
open Go Go.Vc Go.Lib Go.Shelf
theorem IndexE {w : World} {p : Option Addr} {a2 : Addr} {l c m d : Nat} {bs ps : List UInt8} {mx : Int} (hmx : w.cell? ⟨5, 0, none⟩ = some (.int .i64 mx)) (h : Bytes w p l bs) (h2 : Bytes w (some a2) m ps) (hp : p ≠ none) (hlc : l ≤ c) (hm : l ≤ 100000000) (hp2 : 2 ≤ ps.length) (hpl : ps.length ≤ 100) :
    Calls Tryz.prog fn_bytes_Index #[.slice p l c, .slice (some a2) m d] w fun e w' => e = .returned (.int .i64 (Lib.index bs ps)) ∧ Chg No w w' := by
  have hl := h.len
  have hm2 := h2.len
  cases p with
  | none => exact absurd rfl hp
  | some a =>
  have rng : ∀ L : List UInt8, ∀ x ∈ L.map fun b => (b.toNat : Int), 0 ≤ x ∧ x < 256 := by
    intro L x hx
    obtain ⟨b, _, rfl⟩ := List.mem_map.1 hx
    have := b.toNat_lt
    omega
  refine Calls.mono (Any.bytes_Index_at Tryz.lays185 a a2 l c m d _ _ mx w (by rw [List.length_map]; exact hl) (by rw [List.length_map]; exact hm2) (rng bs) (rng ps) (ints_cellE h) (ints_cellE h2) hlc (by omega) (by omega) hmx) fun e w' he => ?_
  obtain ⟨rfl, k, rfl⟩ := he
  rw [ints_bytesE, ints_bytesE]
  exact ⟨rfl, chg_drewE w k⟩
end Go.Proofs.YtmnbgcgealpcbaaGreatDoor


/- What the conditions of these functions are, reckoned by the reading; printed by program. -/
set_option maxRecDepth 100000
set_option linter.unusedVariables false
namespace Go.Proofs.YtmnbgcgealpcbaaGreatDoor
open Go Go.Vc

/-- (sync.Once).Do -/
def VC_sync_Once_Do (o0 : Option Addr) (f1 : Value) (w : World) (J : World → Prop) : Prop :=
  nonNil o0 fun a5 =>
  callJ Tryz.prog fn_sync_atomic_Bool_Load #[.pointer (some a5)] w [.one .bool] fun (r7 : Bool) (w1 : World) =>
  condB (!r7) (
  callJ Tryz.prog fn_sync_Once_doSlow #[.pointer o0, f1] w1 [] fun (w2 : World) =>
  J w2) (
  J w1)
def ann_sync_Once_Do : Ann := .s (.o) (.c (.o) (.o))
theorem eq_sync_Once_Do (o0 : Option Addr) (f1 : Value) (w : World) (J : World → Prop) : vcFun Tryz.prog Tryz.f164 ann_sync_Once_Do [] [.pointer o0, f1] w J = VC_sync_Once_Do o0 f1 w J := by kernel_rfl
theorem c_sync_Once_Do {o0 : Option Addr} {f1 : Value} {w : World} {J : World → Prop} (h : VC_sync_Once_Do o0 f1 w J) : callJ Tryz.prog fn_sync_Once_Do #[.pointer o0, f1] w [] J := vc_calls Tryz.func164 ann_sync_Once_Do (Eq.mpr (eq_sync_Once_Do o0 f1 w J) h)

/-- (sync.Mutex).Lock -/
def VC_sync_Mutex_Lock (m0 : Option Addr) (w : World) (J : World → Prop) : Prop :=
  nonNil m0 fun a3 =>
  callJ Tryz.prog fn_internal_sync_Mutex_Lock #[.pointer (some a3)] w [] fun (w1 : World) =>
  J w1
def ann_sync_Mutex_Lock : Ann := .o
theorem eq_sync_Mutex_Lock (m0 : Option Addr) (w : World) (J : World → Prop) : vcFun Tryz.prog Tryz.f219 ann_sync_Mutex_Lock [] [.pointer m0] w J = VC_sync_Mutex_Lock m0 w J := by kernel_rfl
theorem c_sync_Mutex_Lock {m0 : Option Addr} {w : World} {J : World → Prop} (h : VC_sync_Mutex_Lock m0 w J) : callJ Tryz.prog fn_sync_Mutex_Lock #[.pointer m0] w [] J := vc_calls Tryz.func219 ann_sync_Mutex_Lock (Eq.mpr (eq_sync_Mutex_Lock m0 w J) h)

/-- (sync/atomic.Bool).Load -/
def VC_sync_atomic_Bool_Load (x0 : Option Addr) (w : World) (J : Bool → World → Prop) : Prop :=
  nonNil x0 fun a4 =>
  extJ Tryz.prog fn_sync_atomic_LoadUint32 #[.pointer (some a4)] w [.one (.int .u32)] fun (r6 : Int) (w1 : World) =>
  J (r6 != (0 : Int)) w1
def ann_sync_atomic_Bool_Load : Ann := .s (.o) (.s (.o) (.o))
theorem eq_sync_atomic_Bool_Load (x0 : Option Addr) (w : World) (J : Bool → World → Prop) : vcFun Tryz.prog Tryz.f197 ann_sync_atomic_Bool_Load [.one .bool] [.pointer x0] w J = VC_sync_atomic_Bool_Load x0 w J := by kernel_rfl
theorem c_sync_atomic_Bool_Load {x0 : Option Addr} {w : World} {J : Bool → World → Prop} (h : VC_sync_atomic_Bool_Load x0 w J) : callJ Tryz.prog fn_sync_atomic_Bool_Load #[.pointer x0] w [.one .bool] J := vc_calls Tryz.func197 ann_sync_atomic_Bool_Load (Eq.mpr (eq_sync_atomic_Bool_Load x0 w J) h)

end Go.Proofs.YtmnbgcgealpcbaaGreatDoor
