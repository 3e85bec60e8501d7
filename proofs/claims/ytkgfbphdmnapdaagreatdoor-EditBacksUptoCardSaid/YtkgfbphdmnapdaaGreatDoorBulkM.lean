/-
  What the bound of a statement 'Upto' says of what came in, measured: slices within slices, strings.
-/
import Derived.Test.YtkgfbphdmnapdaaGreatDoorBulk
namespace Go.Proofs.YtkgfbphdmnapdaaGreatDoor
open Go Go.Vc Go.WideShapes

section
variable {H : Type} {enc : TypeId × Value → H} {P : Program} {w : World}
/-- As 'Rd', and a measure of it that the bound bounds. -/
def RdM (P : Program) (w : World) (t : TypeId) {α : Type} (f : α → List Value) (good : α → Prop) (mea : α → Nat) : Prop :=
  ∀ (H : Type) (enc : TypeId × Value → H) (fuel : Nat) (cs : List Value) (x : DataW H × List MemPlace), DataW.trod enc P w 0 (fun _ => true) true fuel t cs = some x →
    (∀ n ∈ DataW.weights P t x.1, n ≤ reachBytes) → ∃ a, cs = f a ∧ good a ∧ mea a ≤ Rows.uptoBulk x.1
theorem RdM.of {t : TypeId} {α : Type} {f : α → List Value} {good : α → Prop} (h : Rd P w t f good) : RdM P w t f good (fun _ => 1) := by
  intro H enc fuel cs x hx hw
  obtain ⟨a, ha, ga⟩ := h H enc fuel cs x hx hw
  exact ⟨a, ha, ga, bulk_pos _⟩
theorem bulkAll_sum {H : Type} : ∀ (l : List (DataW H)), Rows.uptoBulkAll l = (l.map Rows.uptoBulk).sum
  | [] => by simp [Rows.uptoBulkAll]
  | x :: r => by simp [Rows.uptoBulkAll, bulkAll_sum r]
theorem sum_le_sum : ∀ {a b : List Nat}, a.length = b.length → (∀ (i : Nat) (x y : Nat), a[i]? = some x → b[i]? = some y → x ≤ y) → a.sum ≤ b.sum
  | [], [], _, _ => Nat.le_refl _
  | [], _ :: _, h, _ => by simp at h
  | _ :: _, [], h, _ => by simp at h
  | x :: a, y :: b, h, k => by
    have h1 := k 0 x y rfl rfl
    have h2 := sum_le_sum (a := a) (b := b) (by simpa using h) (fun i u v hu hv => k (i + 1) u v (by simpa using hu) (by simpa using hv))
    simp only [List.sum_cons]
    omega
theorem RdM.slice {t e : TypeId} {α : Type} {f : α → List Value} {good : α → Prop} {mea : α → Nat} {sz bytes : Nat} (ht : P.underlying t = some (.slice e)) (hc : P.cellsOf e = sz) (hb : P.bytesOf e = bytes) (h : RdM P w e f good mea) :
    RdM P w t SlV.cells (fun s : SlV α => s.Ok w sz bytes f good) (fun s => (s.xs.map mea).sum) := by
  intro H enc fuel cs x hx hw
  rcases DataW.trod_slice ht hx with ⟨rfl, _⟩ | ⟨a, len, cap, elems, rest, n, rfl, rfl, hxe, hba, hl, hm, hel, hget, hspare, _⟩
  · exact ⟨⟨none, 0, 0, []⟩, rfl, ⟨Sl.nil _ _ _, rfl, fun _ => rfl, Nat.le_refl _, Nat.zero_le _, by simp, by intro x hx; simp at hx, by simp⟩, by simp⟩
  · obtain ⟨hrl, -⟩ := hspare rfl
    subst hxe
    have hw' : ∀ m ∈ ((elems.map (·.1)).length + (rest.map (·.1)).length) * P.bytesOf e :: (DataW.weightsAll P e (elems.map (·.1)) ++ DataW.weightsAll P e (rest.map (·.1))), m ≤ reachBytes := by
      intro m hm
      refine hw m ?_
      simp only [DataW.weights, ht]
      exact hm
    have hbytes := hw' _ (List.mem_cons_self)
    simp only [List.length_map, hel, hrl, hb] at hbytes
    have hlb : len * bytes ≤ 140737488351232 := by
      refine Nat.le_trans (Nat.mul_le_mul_right _ ?_) hbytes
      omega
    obtain ⟨zs, hal, has⟩ := choose_list (n := len) (R := fun i y => (good y ∧ w.cells? 0 (a.add (i * sz)) sz = some (f y)) ∧ ∀ d, elems[i]? = some d → mea y ≤ Rows.uptoBulk d.1) (fun i hi => by
      have hg := hget i hi
      have hlt : i < elems.length := by omega
      rw [List.getElem?_eq_getElem hlt] at hg
      rw [Option.bind_eq_some_iff] at hg
      obtain ⟨cs', h1, h2⟩ := hg
      obtain ⟨y, rfl, hy, hme⟩ := h H enc n cs' _ h2 (fun m hm => hw' m (List.mem_cons_of_mem _ (List.mem_append_left _ (weightsAll_mem (List.mem_map_of_mem (List.getElem_mem hlt)) hm))))
      rw [hc] at h1
      exact ⟨y, ⟨hy, h1⟩, fun d hd => by rw [List.getElem?_eq_getElem hlt] at hd; cases hd; exact hme⟩)
    have hev : Even f sz zs := fun y hy => by
      obtain ⟨i, hi⟩ := List.mem_iff_getElem?.1 hy
      have := (World.cells?_some (has i y hi).1.2).2.1
      exact this
    refine ⟨⟨some a, len, cap, zs⟩, rfl, ⟨⟨?_, ?_⟩, hal, by simp, hl, hm, hlb, hev, ?_⟩, ?_⟩
    · rw [rows_len hev, hal]
    · by_cases h0 : len = 0
      · exact .inl h0
      · right
        refine ⟨a, rfl, ?_⟩
        intro j v hv
        simp only at hv
        have hjl : j < len * sz := by
          have := (List.getElem?_eq_some_iff.1 hv).1
          rw [rows_len hev, hal] at this; exact this
        have hsz : 0 < sz := by
          rcases Nat.eq_zero_or_pos sz with h | h
          · subst h; simp at hjl
          · exact h
        have hi : j / sz < zs.length := by rw [hal]; exact Nat.div_lt_of_lt_mul (by rw [Nat.mul_comm]; exact hjl)
        have hy := List.getElem?_eq_getElem hi
        have hmod : j % sz < sz := Nat.mod_lt _ hsz
        have hj : j / sz * sz + j % sz = j := by rw [Nat.mul_comm]; exact Nat.div_add_mod j sz
        have h2 := rows_at hev hy hmod
        rw [hj] at h2
        rw [h2] at hv
        obtain ⟨_, q1, q3⟩ := World.cells?_some (has _ _ hy).1.2
        have h3 := q3 (j % sz) hmod
        rw [hv] at h3
        have hspot : a.spot = none := by
          have hz : 0 < zs.length := by omega
          obtain ⟨_, r1, r3⟩ := World.cells?_some (has 0 _ (List.getElem?_eq_getElem hz)).1.2
          have h4 := r3 0 hsz
          rw [Nat.zero_mul, add_zero', add_zero', List.getElem?_eq_getElem (by rw [r1]; exact hsz)] at h4
          exact World.cell?_spot h4
        rw [← h3, Go.Vc.Addr.add_add _ _ hspot, hj]
    · intro y hy
      obtain ⟨i, hi⟩ := List.mem_iff_getElem?.1 hy
      exact (has i y hi).1.1
    · have h1 : (zs.map mea).sum ≤ ((elems.map (·.1)).map Rows.uptoBulk).sum := by
        refine sum_le_sum (by rw [List.length_map, List.length_map, List.length_map, hal, hel]) fun i u v hu hv => ?_
        rw [List.getElem?_map, Option.map_eq_some_iff] at hu
        obtain ⟨y, hy, rfl⟩ := hu
        rw [List.getElem?_map, List.getElem?_map] at hv
        cases he : elems[i]? with
        | none => rw [he] at hv; cases hv
        | some d =>
          rw [he] at hv
          simp only [Option.map_some, Option.some.injEq] at hv
          subst hv
          exact (has i y hy).2 d he
      simp only [Rows.uptoBulk]
      rw [← bulkAll_sum] at h1
      omega
theorem RdM.mono {t : TypeId} {α : Type} {f : α → List Value} {good : α → Prop} {mea mea' : α → Nat} (h : RdM P w t f good mea) (hm : ∀ a, good a → mea' a ≤ mea a) : RdM P w t f good mea' := by
  intro H enc fuel cs x hx hw
  obtain ⟨a, ha, ga, ma⟩ := h H enc fuel cs x hx hw
  exact ⟨a, ha, ga, Nat.le_trans (hm a ga) ma⟩
theorem RdM.open {t : TypeId} {α : Type} {f : α → List Value} {good : α → Prop} {mea : α → Nat} (h : RdM P w t f good mea) {v : Value} {d : DataW H} {ps : List MemPlace} (ho : DataW.Trod enc P w 0 (fun _ => true) true t v d ps)
    (hw : ∀ n ∈ DataW.weights P t d, n ≤ reachBytes) : ∃ a, v.cells.toList = f a ∧ good a ∧ mea a ≤ Rows.uptoBulk d := by
  obtain ⟨fuel, hf⟩ := ho
  exact h H enc fuel _ _ hf hw
end
end Go.Proofs.YtkgfbphdmnapdaaGreatDoor

