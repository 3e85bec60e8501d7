/-
  What the reading of an argument says of its cells, in types; for the last step of each statement.
-/
import Derived.Test.YtkgfbphdmnapdaaGreatDoorRows2
import Derived.ChangeArms
import Derived.OpenShut
import Derived.SizedLaws
namespace Go.Vc
open Go Go.WideShapes

section
variable {H : Type} {enc : TypeId × Value → H} {P : Program} {w : World}

/-- Whatever is read at type 't' in the world 'w' are the cells 'f a' of some good 'a'. -/
def Rd (P : Program) (w : World) (t : TypeId) {α : Type} (f : α → List Value) (good : α → Prop) : Prop :=
  ∀ (H : Type) (enc : TypeId × Value → H) (fuel : Nat) (cs : List Value) (x : DataW H × List MemPlace), DataW.trod enc P w 0 (fun _ => true) true fuel t cs = some x →
    (∀ n ∈ DataW.weights P t x.1, n ≤ reachBytes) → ∃ a, cs = f a ∧ good a

theorem wf_int {k : IntKind} {n : Int} (h : (Lit.int k n).wf = true) : k.min ≤ n ∧ n ≤ k.max := by simpa [Lit.wf] using h

theorem Rd.int {t : TypeId} {k : IntKind} (ht : P.underlying t = some (.int k)) : Rd P w t (fun n : Int => [.int k n]) (fun n => k.min ≤ n ∧ n ≤ k.max) := by
  intro H enc fuel cs x h _
  obtain ⟨n, rfl, _, hw⟩ := DataW.trod_int ht h
  exact ⟨n, rfl, wf_int hw⟩
theorem Rd.i64 {t : TypeId} (ht : P.underlying t = some (.int .i64)) : Rd P w t (fun n : Int => [.int .i64 n]) InI := by
  intro H enc fuel cs x h hw
  obtain ⟨n, h1, h2⟩ := Rd.int ht H enc fuel cs x h hw
  refine ⟨n, h1, ?_⟩
  simp [IntKind.min, IntKind.max, IntKind.signed, IntKind.bits] at h2
  exact h2
theorem Rd.u8 {t : TypeId} (ht : P.underlying t = some (.int .u8)) : Rd P w t (fun b : UInt8 => [.int .u8 b.toNat]) (fun _ => True) := by
  intro H enc fuel cs x h hw
  obtain ⟨n, h1, h2⟩ := Rd.int ht H enc fuel cs x h hw
  simp [IntKind.min, IntKind.max, IntKind.signed, IntKind.bits] at h2
  refine ⟨UInt8.ofNat n.toNat, ?_, trivial⟩
  rw [h1]
  have : (UInt8.ofNat n.toNat).toNat = n.toNat := by simp [UInt8.toNat_ofNat']; omega
  simp only [this]; congr 2; omega
theorem Rd.bool {t : TypeId} (ht : P.underlying t = some .bool) : Rd P w t (fun b : Bool => [.bool b]) (fun _ => True) := by
  intro H enc fuel cs x h _
  obtain ⟨b, rfl, _⟩ := DataW.trod_bool ht h
  exact ⟨b, rfl, trivial⟩
theorem Rd.str {t : TypeId} (ht : P.underlying t = some .string) : Rd P w t (fun s : ByteArray => [.string s]) (fun s => s.size ≤ 140737488351232) := by
  intro H enc fuel cs x h hw
  obtain ⟨s, rfl, hx, _⟩ := DataW.trod_string ht h
  refine ⟨s, rfl, ?_⟩
  subst hx
  have := hw s.data.toList.length (by simp [DataW.weights])
  simpa [reachBytes] using this

/-- A slice that came in: where it lies, and its elements. -/
structure SlV (α : Type) where
  p : Option Addr
  l : Nat
  c : Nat
  xs : List α
def SlV.cells {α : Type} (s : SlV α) : List Value := [.slice s.p s.l s.c]
structure SlV.Ok {α : Type} (s : SlV α) (w : World) (sz bytes : Nat) (f : α → List Value) (good : α → Prop) : Prop where
  sl : Sl w s.p s.l sz (rows f s.xs)
  len : s.xs.length = s.l
  nil : s.p = none → s.l = 0
  cap : s.l ≤ s.c
  max : s.c ≤ maxLen
  fits : s.l * bytes ≤ 140737488351232
  even : Even f sz s.xs
  all : ∀ x ∈ s.xs, good x

theorem weightsAll_mem {e : TypeId} {n : Nat} : ∀ {ds : List (DataW H)} {d : DataW H}, d ∈ ds → n ∈ DataW.weights P e d → n ∈ DataW.weightsAll P e ds
  | d0 :: r, d, hd, hn => by
    simp only [DataW.weightsAll, List.mem_append]
    rcases List.mem_cons.1 hd with rfl | hd
    · exact .inl hn
    · exact .inr (weightsAll_mem hd hn)

theorem choose_list {α : Type} {n : Nat} {R : Nat → α → Prop} (h : ∀ i, i < n → ∃ a, R i a) : ∃ l : List α, l.length = n ∧ ∀ i a, l[i]? = some a → R i a := by
  induction n with
  | zero => exact ⟨[], rfl, by simp⟩
  | succ n ih =>
    obtain ⟨l, hl, hr⟩ := ih (fun i hi => h i (by omega))
    obtain ⟨a, ha⟩ := h n (by omega)
    refine ⟨l ++ [a], by simp [hl], fun i b hb => ?_⟩
    rw [List.getElem?_append] at hb
    split at hb
    · exact hr i b hb
    · have h0 : i - l.length = 0 := by
        have := (List.getElem?_eq_some_iff.1 hb).1
        simp at this; omega
      rw [h0] at hb
      simp at hb
      subst hb
      rw [show i = n by omega]; exact ha

theorem Rd.slice {t e : TypeId} {α : Type} {f : α → List Value} {good : α → Prop} {sz bytes : Nat} (ht : P.underlying t = some (.slice e)) (hc : P.cellsOf e = sz) (hb : P.bytesOf e = bytes) (h : Rd P w e f good) :
    Rd P w t SlV.cells (fun s : SlV α => s.Ok w sz bytes f good) := by
  intro H enc fuel cs x hx hw
  rcases DataW.trod_slice ht hx with ⟨rfl, _⟩ | ⟨a, len, cap, elems, rest, n, rfl, rfl, hxe, hba, hl, hm, hel, hget, hspare, _⟩
  · exact ⟨⟨none, 0, 0, []⟩, rfl, ⟨Sl.nil _ _ _, rfl, fun _ => rfl, Nat.le_refl _, Nat.zero_le _, by simp, by intro x hx; simp at hx, by simp⟩⟩
  · obtain ⟨hrl, -⟩ := hspare rfl
    subst hxe
    have hw' : ∀ m ∈ ((elems.map (·.1)).length + (rest.map (·.1)).length) * P.bytesOf e :: (DataW.weightsAll P e (elems.map (·.1)) ++ DataW.weightsAll P e (rest.map (·.1))), m ≤ reachBytes := by
      intro m hm
      refine hw m ?_
      simp only [DataW.weights, ht]
      exact hm
    have hbytes := hw' _ (List.mem_cons_self)
    simp only [List.length_map, hel, hrl, hb] at hbytes
    have hlb : len * bytes ≤ 140737488351232 := by
      refine Nat.le_trans (Nat.mul_le_mul_right _ ?_) hbytes
      omega
    obtain ⟨as, hal, has⟩ := choose_list (n := len) (R := fun i y => good y ∧ w.cells? 0 (a.add (i * sz)) sz = some (f y)) (fun i hi => by
      have hg := hget i hi
      have hlt : i < elems.length := by omega
      rw [List.getElem?_eq_getElem hlt] at hg
      rw [Option.bind_eq_some_iff] at hg
      obtain ⟨cs', h1, h2⟩ := hg
      obtain ⟨y, rfl, hy⟩ := h H enc n cs' _ h2 (fun m hm => hw' m (List.mem_cons_of_mem _ (List.mem_append_left _ (weightsAll_mem (List.mem_map_of_mem (List.getElem_mem hlt)) hm))))
      rw [hc] at h1
      exact ⟨y, hy, h1⟩)
    have hev : Even f sz as := fun y hy => by
      obtain ⟨i, hi⟩ := List.mem_iff_getElem?.1 hy
      have := (World.cells?_some (has i y hi).2).2.1
      exact this
    refine ⟨⟨some a, len, cap, as⟩, rfl, ⟨⟨?_, ?_⟩, hal, by simp, hl, hm, hlb, hev, ?_⟩⟩
    · rw [rows_len hev, hal]
    · by_cases h0 : len = 0
      · exact .inl h0
      · right
        refine ⟨a, rfl, ?_⟩
        intro j v hv
        simp only at hv
        have hjl : j < len * sz := by
          have := (List.getElem?_eq_some_iff.1 hv).1
          rw [rows_len hev, hal] at this; exact this
        have hsz : 0 < sz := by
          rcases Nat.eq_zero_or_pos sz with h | h
          · subst h; simp at hjl
          · exact h
        have hi : j / sz < as.length := by rw [hal]; exact Nat.div_lt_of_lt_mul (by rw [Nat.mul_comm]; exact hjl)
        have hy := List.getElem?_eq_getElem hi
        have hmod : j % sz < sz := Nat.mod_lt _ hsz
        have hj : j / sz * sz + j % sz = j := by rw [Nat.mul_comm]; exact Nat.div_add_mod j sz
        have h2 := rows_at hev hy hmod
        rw [hj] at h2
        rw [h2] at hv
        obtain ⟨_, q1, q3⟩ := World.cells?_some (has _ _ hy).2
        have h3 := q3 (j % sz) hmod
        rw [hv] at h3
        have hspot : a.spot = none := by
          have hz : 0 < as.length := by omega
          obtain ⟨_, r1, r3⟩ := World.cells?_some (has 0 _ (List.getElem?_eq_getElem hz)).2
          have h4 := r3 0 hsz
          rw [Nat.zero_mul, add_zero', add_zero', List.getElem?_eq_getElem (by rw [r1]; exact hsz)] at h4
          exact World.cell?_spot h4
        rw [← h3, Addr.add_add _ _ hspot, hj]
    · intro y hy
      obtain ⟨i, hi⟩ := List.mem_iff_getElem?.1 hy
      exact (has i y hi).1

/-- The fields of a struct (their types and offsets), from one place of its cells on. -/
def RdF (P : Program) (w : World) (fs : List (TypeId × Nat)) (off n : Nat) {α : Type} (f : α → List Value) (good : α → Prop) : Prop :=
  ∀ (H : Type) (enc : TypeId × Value → H) (fuel : Nat) (cs : List Value) (xs : List (DataW H × List MemPlace)), xs.length = fs.length →
    (∀ (i : Nat) (g : TypeId × Nat), fs[i]? = some g → DataW.trod enc P w 0 (fun _ => true) true fuel g.1 ((cs.drop g.2).take (P.cellsOf g.1)) = xs[i]?) →
    (∀ m ∈ DataW.weightsEach P (fs.map (·.1)) (xs.map (·.1)), m ≤ reachBytes) → ∃ a, (cs.drop off).take n = f a ∧ good a

theorem RdF.nil {off : Nat} : RdF P w [] off 0 (fun _ : Unit => []) (fun _ => True) := fun _ _ _ _ _ _ _ _ => ⟨(), by simp, trivial⟩
theorem RdF.cons {t : TypeId} {fs : List (TypeId × Nat)} {off k n m : Nat} {α β : Type} {f1 : α → List Value} {good1 : α → Prop} {f2 : β → List Value} {good2 : β → Prop} (hk : P.cellsOf t = k) (hm : k + n = m)
    (h1 : Rd P w t f1 good1) (h2 : RdF P w fs (off + k) n f2 good2) : RdF P w ((t, off) :: fs) off m (fun x : α × β => f1 x.1 ++ f2 x.2) (fun x => good1 x.1 ∧ good2 x.2) := by
  intro H enc fuel cs xs hl hg hw
  cases xs with
  | nil => simp at hl
  | cons x xs =>
    have h0 := hg 0 (t, off) rfl
    simp only [List.getElem?_cons_zero] at h0
    simp only [List.map_cons, DataW.weightsEach, List.mem_append] at hw
    obtain ⟨a, ha, ga⟩ := h1 H enc fuel _ x h0 (fun m hm => hw m (.inl hm))
    obtain ⟨b, hb, gb⟩ := h2 H enc fuel cs xs (by simpa using hl) (fun i q hq => by have := hg (i + 1) q (by simpa using hq); simpa using this) (fun m hm => hw m (.inr hm))
    refine ⟨(a, b), ?_, ga, gb⟩
    simp only
    rw [← ha, ← hb, ← hm, hk, List.take_add, List.drop_drop]
/-- A struct's fields. -/
def fieldsOf (P : Program) (t : TypeId) : Option (List (TypeId × Nat)) := match P.underlying t with | some (.struct fs) => some (fs.toList.map fun f => (f.type, f.offset)) | _ => none
theorem Rd.struct {t : TypeId} {L : List (TypeId × Nat)} {n : Nat} {α : Type} {f : α → List Value} {good : α → Prop} (ht : fieldsOf P t = some L) (hc : P.cellsOf t = n) (h : RdF P w L 0 n f good) : Rd P w t f good := by
  intro H enc fuel cs x hx hw
  unfold fieldsOf at ht
  split at ht
  · next fs hu =>
    cases ht
    obtain ⟨xs, m, rfl, rfl, hl, hxl, hg⟩ := DataW.trod_struct hu hx
    obtain ⟨a, ha, ga⟩ := h H enc m cs xs (by simpa using hxl) (fun i g hgi => by
        rw [List.getElem?_map, Option.map_eq_some_iff] at hgi
        obtain ⟨q, hq, rfl⟩ := hgi
        exact hg i q (by simpa using hq)) (fun q hq => hw q (by simp only [DataW.weights, hu]; rw [List.map_map] at hq; exact hq))
    refine ⟨a, ?_, ga⟩
    rw [← ha, List.drop_zero, List.take_of_length_le (by omega)]
  · cases ht
theorem Rd.map {t : TypeId} {α β : Type} {f : α → List Value} {good : α → Prop} {f2 : β → List Value} {good2 : β → Prop} (h : Rd P w t f good) (g : α → β) (hf : ∀ a, good a → f a = f2 (g a)) (hg : ∀ a, good a → good2 (g a)) : Rd P w t f2 good2 := by
  intro H enc fuel cs x hx hw
  obtain ⟨a, ha, ga⟩ := h H enc fuel cs x hx hw
  exact ⟨g a, by rw [ha, hf a ga], hg a ga⟩

/-- Bytes that came in. -/
structure BV where
  p : Option Addr
  l : Nat
  c : Nat
  bs : List UInt8
def BV.cells (b : BV) : List Value := [.slice b.p b.l b.c]
structure BV.Ok (b : BV) (w : World) : Prop where
  is : Bytes w b.p b.l b.bs
  nil : b.p = none → b.l = 0
  fits : b.l ≤ 140737488351232
  cap : b.l ≤ b.c
  max : b.c ≤ maxLen
theorem rows_bytes (bs : List UInt8) : rows (fun b : UInt8 => [Value.int .u8 b.toNat]) bs = bcells bs := by
  induction bs with
  | nil => rfl
  | cons b bs ih => rw [rows_cons, ih]; rfl
theorem Rd.bytes {t e : TypeId} (ht : P.underlying t = some (.slice e)) (he : P.underlying e = some (.int .u8)) (hc : P.cellsOf e = 1) (hb : P.bytesOf e = 1) : Rd P w t BV.cells (fun b => b.Ok w) :=
  (Rd.slice ht hc hb (Rd.u8 he)).map (fun s => ⟨s.p, s.l, s.c, s.xs⟩) (fun _ _ => rfl) (fun s h => ⟨by have := h.sl; rw [rows_bytes] at this; exact this, h.nil, by have := h.fits; simpa using this, h.cap, h.max⟩)

theorem Rd.open {t : TypeId} {α : Type} {f : α → List Value} {good : α → Prop} (h : Rd P w t f good) {v : Value} {d : DataW H} {ps : List MemPlace} (ho : DataW.Trod enc P w 0 (fun _ => true) true t v d ps)
    (hw : ∀ n ∈ DataW.weights P t d, n ≤ reachBytes) : ∃ a, v.cells.toList = f a ∧ good a := by
  obtain ⟨fuel, hf⟩ := ho
  exact h H enc fuel _ _ hf hw
end

end Go.Vc

