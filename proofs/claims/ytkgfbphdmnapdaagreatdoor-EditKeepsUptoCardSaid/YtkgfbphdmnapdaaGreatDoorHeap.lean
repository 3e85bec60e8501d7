/-
  Facts on memory, for the conditions that the reading of the code asks: what has changed between two worlds; slices; rows of the call's own; blocks known whole.
-/
import Derived.Test.YtkgfbphdmnapdaaGreatDoorVcb
namespace Go.Vc
open Go Go.RowKit

/-! ## What has changed -/

structure Chg (S : Nat → Prop) (w w' : World) : Prop where
  os : w'.os = w.os
  tape : w'.tape = w.tape
  output : w'.output = w.output
  size : w.heap.size ≤ w'.heap.size
  keep : ∀ b, b < w.heap.size → ¬ S b → w'.heap[b]? = w.heap[b]?

def No : Nat → Prop := fun _ => False

section
variable {S S' : Nat → Prop} {a w w' : World}

theorem Chg.refl (S : Nat → Prop) (w : World) : Chg S w w := ⟨rfl, rfl, rfl, Nat.le_refl _, fun _ _ _ => rfl⟩
theorem Chg.trans (h : Chg S a w) (k : Chg S' w w') (hS : ∀ b, b < a.heap.size → S' b → S b) : Chg S a w' :=
  ⟨k.os.trans h.os, k.tape.trans h.tape, k.output.trans h.output, Nat.le_trans h.size k.size, fun b hb hn =>
    (k.keep b (Nat.lt_of_lt_of_le hb h.size) (fun hs => hn (hS b hb hs))).trans (h.keep b hb hn)⟩
theorem Chg.trans0 (h : Chg S a w) (k : Chg No w w') : Chg S a w' := h.trans k fun _ _ hf => hf.elim
theorem Chg.mono (h : Chg S a w) (hS : ∀ b, b < a.heap.size → S b → S' b) : Chg S' a w :=
  ⟨h.os, h.tape, h.output, h.size, fun b hb hn => h.keep b hb (fun hs => hn (hS b hb hs))⟩
theorem Chg.drew (h : Chg S a w) : Chg S a w.drew := ⟨h.os, h.tape, h.output, h.size, h.keep⟩
theorem Chg.alloc (h : Chg S a w) (o : Obj) : Chg S a (w.alloc o) :=
  h.trans0 ⟨rfl, rfl, rfl, by simp, fun b hb _ => heap_alloc_old w o hb⟩
theorem Chg.setRow (h : Chg S a w) (b : Nat) (cs : Array Value) (hb : b < a.heap.size → S b) : Chg S a (w.setRow b cs) :=
  h.trans (S' := fun x => x = b) ⟨rfl, rfl, rfl, by simp, fun x _ hx => setRow_other w b x cs hx⟩ (fun x hx he => by subst he; exact hb hx)
theorem Chg.setBlk (h : Chg S a w) (b : Nat) (o : Obj) (hb : b < a.heap.size → S b) : Chg S a (setBlk w b o) :=
  h.trans (S' := fun x => x = b) ⟨rfl, rfl, rfl, by simp [Vc.setBlk], fun x _ hx => by simp [Vc.setBlk, Array.getElem?_setIfInBounds_ne (Ne.symm hx)]⟩ (fun x hx he => by subst he; exact hb hx)
theorem Chg.of_grown {row : Option Nat} (h : w.grownBy w' row) (hr : ∀ b, row = some b → S b) : Chg S w w' :=
  ⟨h.os, h.tape, h.output, h.size, fun b hb hn => h.block b hb (fun e => hn (hr b e.symm))⟩
theorem Chg.below (h : Chg No w w') : Below w.heap.size w w' := ⟨h.os, h.tape, h.output, h.size, fun b hb => h.keep b hb (fun hf => hf.elim)⟩
theorem Chg.of_below (h : Below w.heap.size w w') : Chg No w w' := ⟨h.os, h.tape, h.output, h.size, fun b hb _ => h.block b hb⟩

theorem lt_of_heap {b : Nat} {o : Obj} (h : w.heap[b]? = some o) : b < w.heap.size := (Array.getElem?_eq_some_iff.1 h).1
theorem lt_of_cell {ad : Addr} {v : Value} (h : w.cell? ad = some v) : ad.block < w.heap.size := World.block_lt_of_cell? w ad h

theorem Chg.heap {b : Nat} {o : Obj} (h : Chg S w w') (hb : w.heap[b]? = some o) (hn : ¬ S b) : w'.heap[b]? = some o := (h.keep b (lt_of_heap hb) hn).trans hb
theorem Chg.cell {ad : Addr} {v : Value} (h : Chg S w w') (hc : w.cell? ad = some v) (hn : ¬ S ad.block) : w'.cell? ad = some v := by
  rw [World.cell?_of_block (h.keep ad.block (lt_of_cell hc) hn)]; exact hc
theorem Chg.cells {ad : Addr} {cs : List Value} (h : Chg S w w') (hc : cellsAt w ad cs) (hn : ¬ S ad.block) : cellsAt w' ad cs := by
  intro j v hv
  have : (ad.add j).block = ad.block := by unfold Addr.add; split <;> rfl
  exact h.cell (hc j v hv) (by rw [this]; exact hn)
end

theorem Addr.add_mk (b o n : Nat) : (⟨b, o, none⟩ : Addr).add n = ⟨b, o + n, none⟩ := by unfold Addr.add; split <;> simp_all
theorem Addr.add_block (a : Addr) (n : Nat) : (a.add n).block = a.block := by unfold Addr.add; split <;> rfl
theorem Addr.add_add {a : Addr} (n m : Nat) (h : a.spot = none) : (a.add n).add m = a.add (n + m) := by
  obtain ⟨b, o, s⟩ := a
  subst h
  simp only [Addr.add_mk, Nat.add_assoc]

theorem cellsAt_spot {w : World} {a : Addr} {cs : List Value} (h : cellsAt w a cs) (hn : cs ≠ []) : a.spot = none := by
  cases cs with
  | nil => exact absurd rfl hn
  | cons c cs => have := h 0 c rfl; rw [add_zero'] at this; exact World.cell?_spot this
theorem cellsAt_drop {w : World} {a : Addr} {cs : List Value} (k : Nat) (h : cellsAt w a cs) : cellsAt w (a.add k) (cs.drop k) := by
  intro j v hv
  rw [List.getElem?_drop] at hv
  have hne : cs ≠ [] := by rintro rfl; simp at hv
  rw [Addr.add_add _ _ (cellsAt_spot h hne)]
  exact h (k + j) v hv
theorem cellsAt_take {w : World} {a : Addr} {cs : List Value} (k : Nat) (h : cellsAt w a cs) : cellsAt w a (cs.take k) := by
  intro j v hv
  rw [List.getElem?_take] at hv
  split at hv
  · exact h j v hv
  · simp at hv
theorem cellsAt_lt {w : World} {a : Addr} {cs : List Value} (h : cellsAt w a cs) (hn : cs ≠ []) : a.block < w.heap.size := by
  cases cs with
  | nil => exact absurd rfl hn
  | cons c cs => have := h 0 c rfl; rw [add_zero'] at this; exact lt_of_cell this
theorem cellsAt_heap {w : World} {b off : Nat} {cs : List Value} {e : TypeId} {fz : Nat × Nat} (h : w.heap[b]? = some (.cells ⟨cs⟩ e fz)) : cellsAt w ⟨b, off, none⟩ (cs.drop off) := by
  intro j v hv
  rw [Addr.add_mk, cell_of_row w b (off + j) ⟨cs⟩ e fz h]
  rw [List.getElem?_drop] at hv
  simpa using hv

/-! ## Slices that are read -/

/-- A slice's elements: the cells 'vs', 'sz' an element. -/
def Sl (w : World) (p : Option Addr) (l sz : Nat) (vs : List Value) : Prop := vs.length = l * sz ∧ (l = 0 ∨ ∃ a, p = some a ∧ cellsAt w a vs)
def Bytes (w : World) (p : Option Addr) (l : Nat) (bs : List UInt8) : Prop := Sl w p l 1 (bcells bs)
/-- No block of 'S' is the slice's. -/
def off (p : Option Addr) (S : Nat → Prop) : Prop := ∀ a, p = some a → ¬ S a.block

section
variable {w w' : World} {p : Option Addr} {l sz : Nat} {vs : List Value} {bs : List UInt8} {S : Nat → Prop}

theorem off_no (p : Option Addr) : off p No := fun _ _ h => h.elim
theorem Sl.len (h : Sl w p l sz vs) : vs.length = l * sz := h.1
theorem Sl.at (h : Sl w p l sz vs) (hl : l ≠ 0) : ∃ a, p = some a ∧ cellsAt w a vs := h.2.resolve_left hl
theorem Sl.chg (h : Sl w p l sz vs) (hc : Chg S w w') (hn : off p S) : Sl w' p l sz vs :=
  ⟨h.1, h.2.imp id fun ⟨a, ha, hcs⟩ => ⟨a, ha, hc.cells hcs (hn a ha)⟩⟩
theorem Sl.nil (w : World) (p : Option Addr) (sz : Nat) : Sl w p 0 sz [] := ⟨by simp, .inl rfl⟩
theorem bcells_length (bs : List UInt8) : (bcells bs).length = bs.length := by simp [bcells]
theorem Bytes.len (h : Bytes w p l bs) : bs.length = l := by have := h.1; simpa [bcells] using this
theorem Bytes.chg (h : Bytes w p l bs) (hc : Chg S w w') (hn : off p S) : Bytes w' p l bs := Sl.chg h hc hn
theorem idx_sl {i : Int} {K : Addr → Prop} (h : Sl w p l sz vs) (h0 : 0 ≤ i) (h1 : i < l)
    (k : ∀ a, p = some a → cellsAt w (a.add (i.toNat * sz)) (vs.drop (i.toNat * sz)) → K a) : idxA p l i K := by
  obtain ⟨a, ha, hc⟩ := h.at (by omega)
  subst ha
  exact ⟨h0, h1, k a rfl (cellsAt_drop _ hc)⟩

theorem cellsAt_head {w : World} {a : Addr} {v : Value} {vs : List Value} (h : cellsAt w a (v :: vs)) : w.cell? a = some v := by
  have := h 0 v rfl; rwa [add_zero'] at this
theorem cellsAt_one {w : World} {a : Addr} {cs : List Value} {v : Value} (h : cellsAt w a cs) (j : Nat) (hv : cs[j]? = some v) : w.cell? (a.add j) = some v := h j v hv

/-- b[i] of bytes. -/
theorem byte_i {i : Int} {K : Int → Prop} (h : Bytes w p l bs) (h0 : 0 ≤ i) (h1 : i < l) (k : ∀ b : UInt8, bs[i.toNat]? = some b → K b.toNat) :
    idxA p l i fun a => ldI .u8 w (a.add (i.toNat * 1)) K := by
  have hl := h.len
  have hlt : i.toNat < bs.length := by omega
  refine idx_sl h h0 h1 fun a _ hc => ?_
  rw [Nat.mul_one] at hc ⊢
  have hb : bs[i.toNat]? = some bs[i.toNat] := List.getElem?_eq_getElem hlt
  refine ⟨bs[i.toNat].toNat, ?_, k _ hb⟩
  have := hc 0 (.int .u8 bs[i.toNat].toNat) (by rw [List.getElem?_drop]; simp [bcells, hb])
  rwa [add_zero'] at this

/-- x[lo:hi] of a slice that is read. -/
theorem slS_sl {c : Nat} {lo hi : Option Int} {K : Option Addr → Nat → Nat → Prop} {i j : Nat} (h : Sl w p l sz vs) (e1 : lo.getD 0 = (i : Int)) (e2 : hi.getD l = (j : Int)) (hij : i ≤ j) (hjl : j ≤ l) (hlc : l ≤ c)
    (k : ∀ p', Sl w p' (j - i) sz ((vs.drop (i * sz)).take ((j - i) * sz)) → (∀ S, off p S → off p' S) → K p' (j - i) (c - i)) : slS p l c sz lo hi none K := by
  refine ⟨i, j, c, e1, e2, rfl, hij, by omega, Nat.le_refl _, k _ ⟨?_, ?_⟩ ?_⟩
  · rw [List.length_take, List.length_drop, h.1]
    have : (j - i) * sz ≤ l * sz - i * sz := by rw [← Nat.sub_mul]; exact Nat.mul_le_mul_right _ (by omega)
    omega
  · by_cases h0 : j - i = 0
    · exact .inl h0
    · right
      obtain ⟨a, ha, hc⟩ := h.at (by omega)
      have hci : c ≠ i := by omega
      refine ⟨a.add (i * sz), by simp [hci, ha], cellsAt_take _ (cellsAt_drop _ hc)⟩
  · intro S hS a ha
    split at ha
    · exact hS a ha
    · cases p with
      | none => simp at ha
      | some x => simp at ha; subst ha; rw [Addr.add_block]; exact hS x rfl
end

/-! ## Rows of the call's own -/

/-- What the loaded program says of a slice type. -/
structure SlT (P : Program) (t e : TypeId) (sz bytes : Nat) (z : Array Value) : Prop where
  hu : P.underlying t = some (.slice e)
  info : ∃ (i : TypeInfo) (v : Value), P.info? e = some i ∧ i.zero = some v ∧ i.size = sz ∧ i.bytes = bytes ∧ v.cells = z
  hz : z.size = sz
  pos : 0 < sz

theorem SlT.of {P : Program} {t e : TypeId} {sz bytes : Nat} {z : Array Value} (hu : P.underlying t = some (.slice e))
    (hi : (P.info? e).map (fun i => (i.zero.map Value.cells, i.size, i.bytes)) = some (some z, sz, bytes)) (hz : z.size = sz) (pos : 0 < sz) : SlT P t e sz bytes z := by
  refine ⟨hu, ?_, hz, pos⟩
  cases h : P.info? e with
  | none => simp [h] at hi
  | some i =>
    simp only [h, Option.map_some, Option.some.injEq, Prod.mk.injEq] at hi
    obtain ⟨h1, h2, h3⟩ := hi
    cases hv : i.zero with
    | none => simp [hv] at h1
    | some v => exact ⟨i, v, rfl, hv, h2, h3, by simpa [hv] using h1⟩

def isB (p : Option Addr) : Nat → Prop := fun b => ∃ a, p = some a ∧ a.block = b
/-- The slice lies in a block that was not there. -/
def fresh (w : World) (p : Option Addr) : Prop := ∀ a, p = some a → w.heap.size ≤ a.block

/-- A slice that begins its own block; nobody else has that block. -/
def Row (w : World) (e : TypeId) (sz : Nat) (p : Option Addr) (l c : Nat) (xs : List Value) : Prop :=
  xs.length = l * sz ∧ ((p = none ∧ l = 0 ∧ c = 0) ∨ ∃ b rest, p = some ⟨b, 0, none⟩ ∧ w.heap[b]? = some (.cells ⟨xs ++ rest⟩ e (0, 0)) ∧ l ≤ c ∧ c ≤ maxLen ∧ (xs ++ rest).length = c * sz)

section
variable {w w' : World} {e : TypeId} {sz : Nat} {p : Option Addr} {l c : Nat} {xs : List Value} {S : Nat → Prop}

theorem Row.len (h : Row w e sz p l c xs) : xs.length = l * sz := h.1
theorem Row.sl (h : Row w e sz p l c xs) : Sl w p l sz xs := by
  refine ⟨h.1, ?_⟩
  rcases h.2 with ⟨_, h0, _⟩ | ⟨b, rest, hp, hh, _⟩
  · exact .inl h0
  · right
    refine ⟨_, hp, ?_⟩
    have := cellsAt_take xs.length (cellsAt_heap (off := 0) hh)
    simpa using this
theorem Row.le (h : Row w e sz p l c xs) : l ≤ c ∧ c ≤ maxLen := by
  rcases h.2 with ⟨_, h0, h1⟩ | ⟨b, rest, hp, hh, h1, h2, _⟩
  · subst h0; subst h1; exact ⟨Nat.le_refl _, Nat.zero_le _⟩
  · exact ⟨h1, h2⟩
theorem Row.lt (h : Row w e sz p l c xs) : ∀ a, p = some a → a.block < w.heap.size := by
  intro a ha
  rcases h.2 with ⟨h0, _⟩ | ⟨b, rest, hp, hh, _⟩
  · rw [h0] at ha; cases ha
  · rw [hp] at ha; cases ha; exact lt_of_heap hh
theorem Row.chg (h : Row w e sz p l c xs) (hc : Chg S w w') (hn : off p S) : Row w' e sz p l c xs := by
  refine ⟨h.1, h.2.imp id ?_⟩
  rintro ⟨b, rest, hp, hh, r⟩
  exact ⟨b, rest, hp, hc.heap hh (hn _ hp), r⟩
theorem Row.none0 (h : Row w e sz p l c xs) : p = none → l = 0 := by
  intro hp
  rcases h.2 with ⟨_, h0, _⟩ | ⟨b, rest, hp', _⟩
  · exact h0
  · rw [hp] at hp'; cases hp'
theorem Row.some0 (h : Row w e sz p l c xs) (hl : l ≠ 0) : ∃ b rest, p = some ⟨b, 0, none⟩ ∧ w.heap[b]? = some (.cells ⟨xs ++ rest⟩ e (0, 0)) ∧ l ≤ c ∧ c ≤ maxLen ∧ (xs ++ rest).length = c * sz := by
  rcases h.2 with ⟨_, h0, _⟩ | h
  · exact absurd h0 hl
  · exact h
theorem Row.nil (w : World) (e : TypeId) (sz : Nat) : Row w e sz none 0 0 [] := ⟨by simp, .inl ⟨rfl, rfl, rfl⟩⟩
theorem Row.owns (h : Row w e sz p l c xs) : w.ownsRow 0 e sz (.slice p l c) l xs := by
  refine ⟨h.1, ?_⟩
  rcases h.2 with ⟨h0, h1, h2⟩ | ⟨b, rest, hp, hh, h1, h2, h3⟩
  · subst h0; subst h1; subst h2; exact .inl ⟨rfl, rfl⟩
  · subst hp
    refine .inr ⟨b, c, _, rfl, Nat.zero_le _, hh, h1, h2, by simpa using h3, ?_⟩
    rw [← h.1]; simp
theorem Row.of_owns {v : Value} {n : Nat} (h : w.ownsRow 0 e sz v n xs) : ∃ p c, v = .slice p n c ∧ Row w e sz p n c xs := by
  obtain ⟨hl, h⟩ := h
  rcases h with ⟨rfl, rfl⟩ | ⟨g, cap, cur, rfl, _, hh, h1, h2, h3, h4⟩
  · exact ⟨none, 0, rfl, hl, .inl ⟨rfl, rfl, rfl⟩⟩
  · refine ⟨_, _, rfl, hl, .inr ⟨g, cur.toList.drop (n * sz), rfl, ?_, h1, h2, ?_⟩⟩
    · rw [← h4, List.take_append_drop]; simpa using hh
    · rw [← h4, List.take_append_drop]; simpa using h3
end

def one1 (vs : List Value) : Prop := ∀ v ∈ vs, v.oneCell' = true
theorem one1_nil : one1 [] := by intro v hv; cases hv
theorem one1_cons {v : Value} {vs : List Value} (h : v.oneCell' = true) (k : one1 vs) : one1 (v :: vs) := by
  intro x hx; rcases List.mem_cons.1 hx with rfl | hx
  · exact h
  · exact k x hx
/-- The builtin append, onto a row of the call's own. -/
theorem appJ_row2 {P : Program} {t e : TypeId} {sz by_ : Nat} {z : Array Value} (T : SlT P t e sz by_ z) {w : World} {p q : Option Addr} {l c m c2 : Nat} {xs news : List Value}
    {K : Option Addr → Nat → Nat → World → Prop} (h : Row w e sz p l c xs) (src : Sl w q m sz news) (h1 : one1 news) (hm : q = none → m = 0) (hb : (l + m) * by_ ≤ 140737488355328) (hmax : l + m ≤ maxLen)
    (k : ∀ p' c' w', Row w' e sz p' (l + m) c' (xs ++ news) → Chg (isB p) w w' → (p' = p ∨ (fresh w p' ∧ c < l + m)) → K p' (l + m) c' w') :
    appJ P t t (.slice p l c) (.slice q m c2) w K := by
  obtain ⟨i, v, hi, hz, hsz, hby, hv⟩ := T.info
  have hown := h.owns
  have fin : ∀ v' w', (∀ ty, (Builtin.append_ #[t, t] ty #[.slice p l c, .slice q m c2]).run P w = .ok v' w') → w'.ownsRow 0 e sz v' (l + m) (xs ++ news) → Chg (isB p) w w' →
      (v' = .slice p (l + m) c ∨ ∀ p' c', v' = .slice p' (l + m) c' → (fresh w p' ∧ c < l + m)) → appJ P t t (.slice p l c) (.slice q m c2) w K := by
    intro v' w' hr ho hc hf
    obtain ⟨p', c', rfl, hrow⟩ := Row.of_owns ho
    refine ⟨p', l + m, c', w', hr, k p' c' w' hrow hc ?_⟩
    rcases hf with hf | hf
    · left; injection hf
    · exact .inr (hf p' c' rfl)
  cases q with
  | none =>
    have h0 := hm rfl
    subst h0
    have hn : news = [] := List.eq_nil_of_length_eq_zero (by simpa using src.1)
    subst hn
    refine fin (.slice p l c) w (fun ty => ?_) (by simpa using hown) (Chg.refl _ _) (.inl rfl)
    have hle := h.le.1
    cases p with
    | none => simp [Builtin.append_, run_underlying T.hu, sizeOf, typeInfo, hi, Builtin.lenOf, Builtin.firstCells, hle]
    | some a => simp [Builtin.append_, run_underlying T.hu, sizeOf, typeInfo, hi, Builtin.lenOf, Builtin.firstCells, hle, storeCells]
  | some ad =>
    have hnews : ∀ j u, news[j]? = some u → w.cell? (ad.add j) = some u := by
      rcases src.2 with h0 | ⟨a, ha, hc⟩
      · intro j u hu
        have hn : news = [] := List.eq_nil_of_length_eq_zero (by have := src.1; rw [h0] at this; simpa using this)
        subst hn; simp at hu
      · cases ha; exact hc
    have fz : v.cells.size = sz := by rw [hv]; exact T.hz
    obtain ⟨v', w', hr, ho, hg, hnil⟩ := run_append_own (P := P) w 0 t 0 e i v sz by_ (T.hu) hi hz hsz hby fz T.pos (.slice p l c) l xs hown ad m c2 news src.1 hnews h1 hmax hb (Nat.zero_le _)
    have hr' : ∀ ty, (Builtin.append_ #[t, t] ty #[.slice p l c, .slice (some ad) m c2]).run P w = .ok v' w' := fun ty => hr
    have hcg : Chg (isB p) w w' := Chg.of_grown hg (fun b hb => by
      cases p with
      | none => simp [Value.ownBlock] at hb
      | some x => simp [Value.ownBlock] at hb; exact ⟨x, rfl, hb⟩)
    -- where the new row lies
    by_cases hroom : l + m ≤ c
    · -- in place
      rcases h.2 with ⟨h0, h2, h3⟩ | ⟨b, rest, hp, hh, hlc, hcm, hcs⟩
      · subst h0; subst h2; subst h3
        have hm0 : m = 0 := by omega
        subst hm0
        have := hnil.2 ⟨rfl, rfl⟩
        subst this
        exact fin _ _ hr' ho hcg (.inl rfl)
      · subst hp
        subst hsz
        have hroomr := run_append_room (P := P) w t 0 e i T.hu hi b l c ⟨xs ++ rest⟩ hh ad m c2 news src.1 hnews h1 hroom (by
          rw [src.1, ← Nat.add_mul]; simp only [List.size_toArray]; rw [hcs]; exact Nat.mul_le_mul_right _ hroom)
        rw [hr] at hroomr
        injection hroomr with e1 e2
        exact fin _ _ hr' ho hcg (.inl e1)
    · -- a new block
      refine fin _ _ hr' ho hcg (.inr ?_)
      intro p' c' hp'
      refine ⟨?_, by omega⟩
      intro a ha
      subst hp'
      obtain ⟨p2, c2', e1, hrow⟩ := Row.of_owns ho
      have hp2 : p' = p2 := by injection e1
      subst hp2
      -- the block's cells are more than the old ones: else it lies where it was; decided by the run itself
      rcases h.2 with ⟨h0, h2, h3⟩ | ⟨b, rest, hp, hh, hlc, hcm, hcs⟩
      · subst h0; subst h2; subst h3
        have hr2 := run_append_nil (P := P) w t 0 e i v T.hu hi hz ad m c2 news (by rw [hsz]; exact src.1) hnews (by omega) (by simp only [maxLen] at hmax; omega) (by rw [hby]; have hb' := hb; simp only [Nat.zero_add] at hb'; omega)
        rw [hr] at hr2
        injection hr2 with e2 e3
        injection e2 with e4
        rw [ha] at e4
        injection e4 with e5
        rw [e5]
        exact Nat.le_refl _
      · subst hp
        subst hsz
        have holds : ∀ j u, xs[j]? = some u → w.cell? ((⟨b, 0, none⟩ : Addr).add j) = some u := by
          have := h.sl
          rcases this.2 with h0 | ⟨a', ha', hc'⟩
          · intro j u hu
            have hn : xs = [] := List.eq_nil_of_length_eq_zero (by have := h.1; rw [h0] at this; simpa using this)
            subst hn; simp at hu
          · cases ha'; exact hc'
        have hr2 := run_append_grow (P := P) w t 0 e i v T.hu hi hz ⟨b, 0, none⟩ l c xs h.1 holds ad m c2 news src.1 hnews (by omega) (by simp only [maxLen] at hmax; omega) (growslice_fits (by omega) (by rw [hby]; exact hb))
        rw [hr] at hr2
        injection hr2 with e2 e3
        injection e2 with e4
        rw [ha] at e4
        injection e4 with e5
        rw [e5]
        exact Nat.le_refl _
theorem appJ_row {P : Program} {t e : TypeId} {sz by_ : Nat} {z : Array Value} (T : SlT P t e sz by_ z) {w : World} {p q : Option Addr} {l c m c2 : Nat} {xs news : List Value}
    {K : Option Addr → Nat → Nat → World → Prop} (h : Row w e sz p l c xs) (src : Sl w q m sz news) (h1 : one1 news) (hm : q = none → m = 0) (hb : (l + m) * by_ ≤ 140737488355328) (hmax : l + m ≤ maxLen)
    (k : ∀ p' c' w', Row w' e sz p' (l + m) c' (xs ++ news) → Chg (isB p) w w' → (p' = p ∨ fresh w p') → K p' (l + m) c' w') :
    appJ P t t (.slice p l c) (.slice q m c2) w K :=
  appJ_row2 T h src h1 hm hb hmax fun p' c' w' hr hc hf => k p' c' w' hr hc (hf.imp id (·.1))

/-! ## Blocks known whole -/

def splice (cs : List Value) (off : Nat) (vs : List Value) : List Value := cs.take off ++ vs ++ cs.drop (off + vs.length)

theorem splice_all {cs vs : List Value} (h : cs.length = vs.length) : splice cs 0 vs = vs := by simp [splice, ← h]

theorem setCells_row {b : Nat} {e : TypeId} : ∀ (vs : List Value) (i off : Nat) (cs : List Value) (w : World), w.heap[b]? = some (.cells ⟨cs⟩ e (0, 0)) → off + i + vs.length ≤ cs.length →
    setCells w ⟨b, off, none⟩ i vs = w.setRow b ⟨cs.take (off + i) ++ vs ++ cs.drop (off + i + vs.length)⟩
  | [], i, off, cs, w, h, _ => by
    simp only [setCells, List.append_nil, List.length_nil, Nat.add_zero, List.take_append_drop]
    rw [setRow_self w b ⟨cs⟩ e (0, 0) h]
  | v :: vs, i, off, cs, w, h, hl => by
    simp only [List.length_cons] at hl
    simp only [setCells, Addr.add_mk]
    rw [setCell_eq_setRow w b (off + i) ⟨cs⟩ e (0, 0) v h]
    have h2 := setRow_heap w b ⟨cs⟩ ((⟨cs⟩ : Array Value).setIfInBounds (off + i) v) e (0, 0) h
    have e1 : (⟨cs⟩ : Array Value).setIfInBounds (off + i) v = ⟨cs.set (off + i) v⟩ := by apply Array.ext'; simp
    rw [e1] at h2 ⊢
    rw [setCells_row vs (i + 1) off (cs.set (off + i) v) _ h2 (by simp; omega), setRow_setRow]
    congr 2
    have := list_seg_step cs (off + i) v vs (by omega)
    simp only [List.length_cons]
    rw [show off + (i + 1) = off + i + 1 by omega]
    exact this

/-- A block of the call's own, its cells and their type. -/
structure Blk where
  b : Nat
  cs : List Value
  e : TypeId

/-- Since the world 'w0' only blocks of 'S' and new ones have changed; the blocks of the list hold just that. -/
structure Hp (w0 : World) (S : Nat → Prop) (w : World) (Γ : List Blk) : Prop where
  chg : Chg S w0 w
  is : ∀ p ∈ Γ, w.heap[p.b]? = some (.cells ⟨p.cs⟩ p.e (0, 0))
  nd : (Γ.map (·.b)).Nodup
  own : ∀ p ∈ Γ, p.b < w0.heap.size → S p.b

section
variable {w0 w w' : World} {S S' : Nat → Prop} {Γ : List Blk} {b : Nat} {cs : List Value} {e : TypeId}

theorem nodup_inj {l : List Nat} (h : l.Nodup) {i j x : Nat} (hi : l[i]? = some x) (hj : l[j]? = some x) : i = j := by
  have h1 := (List.getElem?_eq_some_iff.1 hi)
  have h2 := (List.getElem?_eq_some_iff.1 hj)
  obtain ⟨a1, a2⟩ := h1
  obtain ⟨b1, b2⟩ := h2
  have hp := List.pairwise_iff_getElem.1 h
  rcases Nat.lt_trichotomy i j with hlt | heq | hgt
  · exact absurd (a2.trans b2.symm) (hp i j a1 b1 hlt)
  · exact heq
  · exact absurd (b2.trans a2.symm) (hp j i b1 a1 hgt)

theorem Hp.start (w : World) (S : Nat → Prop) : Hp w S w [] := ⟨Chg.refl _ _, by simp, by simp, by simp⟩
theorem Hp.of_chg (h : Chg S w0 w) : Hp w0 S w [] := ⟨h, by simp, by simp, by simp⟩
theorem Hp.get (H : Hp w0 S w Γ) (i : Nat) (hi : Γ[i]? = some ⟨b, cs, e⟩) : w.heap[b]? = some (.cells ⟨cs⟩ e (0, 0)) := H.is _ (List.mem_of_getElem? hi)
theorem Hp.cell (H : Hp w0 S w Γ) (i : Nat) (hi : Γ[i]? = some ⟨b, cs, e⟩) {off : Nat} {v : Value} (hv : cs[off]? = some v) : w.cell? ⟨b, off, none⟩ = some v := by
  rw [cell_of_row w b off _ e (0, 0) (H.get i hi)]; simpa using hv
theorem Hp.ldI (H : Hp w0 S w Γ) (i : Nat) (hi : Γ[i]? = some ⟨b, cs, e⟩) {off : Nat} {k : IntKind} {n : Int} {K : Int → Prop} (hv : cs[off]? = some (.int k n)) (hk : K n) : Vc.ldI k w ⟨b, off, none⟩ K := ⟨n, H.cell i hi hv, hk⟩
theorem Hp.ldB (H : Hp w0 S w Γ) (i : Nat) (hi : Γ[i]? = some ⟨b, cs, e⟩) {off : Nat} {x : Bool} {K : Bool → Prop} (hv : cs[off]? = some (.bool x)) (hk : K x) : Vc.ldB w ⟨b, off, none⟩ K := ⟨x, H.cell i hi hv, hk⟩
theorem Hp.ldS (H : Hp w0 S w Γ) (i : Nat) (hi : Γ[i]? = some ⟨b, cs, e⟩) {off l c : Nat} {p : Option Addr} {K : Option Addr → Nat → Nat → Prop} (hv : cs[off]? = some (.slice p l c)) (hk : K p l c) : Vc.ldS w ⟨b, off, none⟩ K := ⟨p, l, c, H.cell i hi hv, hk⟩
theorem Hp.ldStr (H : Hp w0 S w Γ) (i : Nat) (hi : Γ[i]? = some ⟨b, cs, e⟩) {off : Nat} {x : ByteArray} {K : ByteArray → Prop} (hv : cs[off]? = some (.string x)) (hk : K x) : Vc.ldStr w ⟨b, off, none⟩ K := ⟨x, H.cell i hi hv, hk⟩
theorem Hp.cells (H : Hp w0 S w Γ) (i : Nat) (hi : Γ[i]? = some ⟨b, cs, e⟩) (off : Nat) : cellsAt w ⟨b, off, none⟩ (cs.drop off) := cellsAt_heap (H.get i hi)
theorem Hp.drew (H : Hp w0 S w Γ) : Hp w0 S w.drew Γ := ⟨H.chg.drew, H.is, H.nd, H.own⟩

theorem Hp.lt (H : Hp w0 S w Γ) (i : Nat) (hi : Γ[i]? = some ⟨b, cs, e⟩) : b < w.heap.size := lt_of_heap (H.get i hi)

theorem Hp.row (H : Hp w0 S w Γ) (i : Nat) (hi : Γ[i]? = some ⟨b, cs, e⟩) (cs' : List Value) : Hp w0 S (w.setRow b ⟨cs'⟩) (Γ.set i ⟨b, cs', e⟩) := by
  have hlt : i < Γ.length := (List.getElem?_eq_some_iff.1 hi).1
  have hget : Γ[i] = ⟨b, cs, e⟩ := (List.getElem?_eq_some_iff.1 hi).2
  have hb := H.own ⟨b, cs, e⟩ (List.mem_of_getElem? hi)
  refine ⟨H.chg.setRow b _ hb, fun p hp => ?_, ?_, fun p hp => ?_⟩
  · obtain ⟨j, hj⟩ := List.mem_iff_getElem?.1 hp
    rw [List.getElem?_set] at hj
    by_cases hij : i = j
    · rw [if_pos hij] at hj
      have hj' : some (⟨b, cs', e⟩ : Blk) = some p := by subst hij; simpa [hlt] using hj
      cases hj'
      exact setRow_heap w b _ _ e (0, 0) (H.get i hi)
    · rw [if_neg hij] at hj
      have hne : p.b ≠ b := by
        intro he
        have h1 : (Γ.map (·.b))[j]? = some b := by rw [List.getElem?_map, hj]; simp [he]
        have h2 : (Γ.map (·.b))[i]? = some b := by rw [List.getElem?_map, hi]; simp
        exact hij (nodup_inj H.nd h2 h1)
      rw [setRow_other w b p.b _ hne]
      exact H.is p (List.mem_of_getElem? hj)
  · have : (Γ.set i ⟨b, cs', e⟩).map (·.b) = Γ.map (·.b) := by
      apply List.ext_getElem?
      intro j
      simp only [List.getElem?_map, List.getElem?_set]
      by_cases hij : i = j
      · subst hij; simp [hlt, hget]
      · simp [hij]
    rw [this]; exact H.nd
  · rcases List.mem_or_eq_of_mem_set hp with hp | rfl
    · exact H.own p hp
    · exact hb

theorem chg_setRow (w : World) (b : Nat) (cs : Array Value) : Chg (fun x => x = b) w (w.setRow b cs) := (Chg.refl _ w).setRow b cs (fun _ => rfl)

theorem Hp.stV (H : Hp w0 S w Γ) (i : Nat) (hi : Γ[i]? = some ⟨b, cs, e⟩) {off : Nat} {v : Value} {K : World → Prop} (ho : off < cs.length)
    (k : ∀ w', Hp w0 S w' (Γ.set i ⟨b, cs.set off v, e⟩) → Chg (fun x => x = b) w w' → K w') : Vc.stV w ⟨b, off, none⟩ v K := by
  have hh := H.get i hi
  refine ⟨⟨⟨cs[off], by rw [cell_of_row w b off _ e (0, 0) hh]; simp [ho]⟩, frozen_of_row w b off _ e hh⟩, ?_⟩
  have e1 : w.setCell ⟨b, off, none⟩ v = w.setRow b ⟨cs.set off v⟩ := by
    rw [setCell_eq_setRow w b off ⟨cs⟩ e (0, 0) v hh]
    congr 1; apply Array.ext'; simp
  rw [e1]
  exact k _ (H.row i hi _) (chg_setRow _ _ _)

theorem Hp.stN (H : Hp w0 S w Γ) (i : Nat) (hi : Γ[i]? = some ⟨b, cs, e⟩) {off n : Nat} {vs : List Value} {K : World → Prop} (hn : vs.length = n) (ho : off + n ≤ cs.length) (h1 : one1 vs)
    (k : ∀ w', Hp w0 S w' (Γ.set i ⟨b, splice cs off vs, e⟩) → Chg (fun x => x = b) w w' → K w') : Vc.stN w ⟨b, off, none⟩ ⟨vs⟩ n K := by
  have hh := H.get i hi
  refine ⟨by simpa using hn, h1, fun j hj => ?_, ?_⟩
  · rw [Addr.add_mk]
    have : off + j < cs.length := by omega
    exact ⟨⟨cs[off + j], by rw [cell_of_row w b (off + j) _ e (0, 0) hh]; simp [this]⟩, frozen_of_row w b (off + j) _ e hh⟩
  · have e1 : setCells w ⟨b, off, none⟩ 0 vs = w.setRow b ⟨splice cs off vs⟩ := by
      rw [setCells_row vs 0 off cs w hh (by omega)]; rfl
    rw [show (⟨vs⟩ : Array Value).toList = vs from rfl, e1]
    exact k _ (H.row i hi _) (chg_setRow _ _ _)

theorem chg_alloc (w : World) (o : Obj) : Chg No w (w.alloc o) := (Chg.refl _ w).alloc o

theorem Hp.new (H : Hp w0 S w Γ) (cs : List Value) (e : TypeId) : Hp w0 S (w.alloc (.cells ⟨cs⟩ e)) (⟨w.heap.size, cs, e⟩ :: Γ) := by
  refine ⟨H.chg.alloc _, fun p hp => ?_, ?_, fun p hp hlt => ?_⟩
  · rcases List.mem_cons.1 hp with rfl | hp
    · exact heap_alloc_new w _
    · exact (chg_alloc w _).heap (H.is p hp) (fun h => h)
  · simp only [List.map_cons, List.nodup_cons]
    refine ⟨fun hm => ?_, H.nd⟩
    obtain ⟨p, hp, hpb⟩ := List.mem_map.1 hm
    have := lt_of_heap (H.is p hp)
    omega
  · rcases List.mem_cons.1 hp with rfl | hp
    · have := H.chg.size
      simp only at hlt
      omega
    · exact H.own p hp hlt

theorem Hp.newB (H : Hp w0 S w Γ) {cs : List Value} {e : TypeId} {K : Nat → World → Prop}
    (k : ∀ b w', Hp w0 S w' (⟨b, cs, e⟩ :: Γ) → w.heap.size ≤ b → Chg No w w' → K b w') : Vc.newB w (.cells ⟨cs⟩ e) K :=
  k _ _ (H.new cs e) (Nat.le_refl _) (chg_alloc _ _)

/-- Something else has changed: a call, an append. -/
theorem Hp.step (H : Hp w0 S w Γ) (hc : Chg S' w w') (hn : ∀ p ∈ Γ, ¬ S' p.b) (hS : ∀ b, b < w0.heap.size → S' b → S b) : Hp w0 S w' Γ :=
  ⟨H.chg.trans hc hS, fun p hp => hc.heap (H.is p hp) (hn p hp), H.nd, H.own⟩
theorem Hp.step0 (H : Hp w0 S w Γ) (hc : Chg No w w') : Hp w0 S w' Γ := H.step hc (fun _ _ h => h) (fun _ _ h => h.elim)
/-- Another block is known. -/
theorem Hp.add (H : Hp w0 S w Γ) (hb : w.heap[b]? = some (.cells ⟨cs⟩ e (0, 0))) (hn : ∀ p ∈ Γ, p.b ≠ b) (hS : b < w0.heap.size → S b) : Hp w0 S w (⟨b, cs, e⟩ :: Γ) := by
  refine ⟨H.chg, fun p hp => ?_, ?_, fun p hp => ?_⟩
  · rcases List.mem_cons.1 hp with rfl | hp
    · exact hb
    · exact H.is p hp
  · simp only [List.map_cons, List.nodup_cons]
    refine ⟨fun hm => ?_, H.nd⟩
    obtain ⟨p, hp, hpb⟩ := List.mem_map.1 hm
    exact hn p hp hpb
  · rcases List.mem_cons.1 hp with rfl | hp
    · exact hS
    · exact H.own p hp
/-- The whole of a known block as a row. -/
theorem Hp.asRow (H : Hp w0 S w Γ) (i : Nat) (hi : Γ[i]? = some ⟨b, cs, e⟩) {sz l c : Nat} {xs rest : List Value} (hcs : cs = xs ++ rest) (hl : xs.length = l * sz) (hlc : l ≤ c) (hc : c ≤ maxLen) (hlen : cs.length = c * sz) :
    Row w e sz (some ⟨b, 0, none⟩) l c xs := ⟨hl, .inr ⟨b, rest, rfl, by rw [H.get i hi, hcs], hlc, hc, by rw [← hcs]; exact hlen⟩⟩

end

end Go.Vc

