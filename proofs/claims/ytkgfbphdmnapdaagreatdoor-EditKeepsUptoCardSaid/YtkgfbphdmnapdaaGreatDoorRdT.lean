/-
  What the reading of a tree says, and of its bulk.
-/
import Derived.Test.YtkgfbphdmnapdaaGreatDoorBulkM
import Derived.Test.YtkgfbphdmnapdaaGreatDoorTree
set_option linter.unusedVariables false
set_option linter.unusedSimpArgs false
namespace Go.Proofs.YtkgfbphdmnapdaaGreatDoor
open Go Go.Vc Go.WideShapes
section
variable {P : Program} {w : World}
/-- As 'RdM', at one fuel. -/
def RdN (P : Program) (w : World) (n : Nat) (t : TypeId) {α : Type} (f : α → List Value) (good : α → Prop) (mea : α → Nat) : Prop :=
  ∀ (H : Type) (enc : TypeId × Value → H) (cs : List Value) (x : DataW H × List MemPlace), DataW.trod enc P w 0 (fun _ => true) true n t cs = some x →
    (∀ n ∈ DataW.weights P t x.1, n ≤ reachBytes) → ∃ a, cs = f a ∧ good a ∧ mea a ≤ Rows.uptoBulk x.1
theorem RdM.at {t : TypeId} {α : Type} {f : α → List Value} {good : α → Prop} {mea : α → Nat} (h : RdM P w t f good mea) (n : Nat) : RdN P w n t f good mea := fun H enc cs x => h H enc n cs x
theorem RdN.zero {t : TypeId} {α : Type} {f : α → List Value} {good : α → Prop} {mea : α → Nat} : RdN P w 0 t f good mea := by
  intro H enc cs x hx _
  simp [DataW.trod] at hx
theorem RdN.slice {n : Nat} {t e : TypeId} {α : Type} {f : α → List Value} {good : α → Prop} {mea : α → Nat} {sz bytes : Nat} (ht : P.underlying t = some (.slice e)) (hc : P.cellsOf e = sz) (hb : P.bytesOf e = bytes) (h : RdN P w n e f good mea) :
    RdN P w (n + 1) t SlV.cells (fun s : SlV α => s.Ok w sz bytes f good) (fun s => (s.xs.map mea).sum) := by
  intro H enc cs x hx hw
  rcases DataW.trod_slice ht hx with ⟨rfl, _⟩ | ⟨a, len, cap, elems, rest, m, hnm, rfl, hxe, hba, hl, hm, hel, hget, hspare, _⟩
  · exact ⟨⟨none, 0, 0, []⟩, rfl, ⟨Sl.nil _ _ _, rfl, fun _ => rfl, Nat.le_refl _, Nat.zero_le _, by simp, by intro x hx; simp at hx, by simp⟩, by simp⟩
  · obtain rfl : m = n := by omega
    obtain ⟨hrl, -⟩ := hspare rfl
    subst hxe
    have hw' : ∀ q ∈ ((elems.map (·.1)).length + (rest.map (·.1)).length) * P.bytesOf e :: (DataW.weightsAll P e (elems.map (·.1)) ++ DataW.weightsAll P e (rest.map (·.1))), q ≤ reachBytes := by
      intro q hq
      refine hw q ?_
      simp only [DataW.weights, ht]
      exact hq
    have hbytes := hw' _ (List.mem_cons_self)
    simp only [List.length_map, hel, hrl, hb] at hbytes
    have hlb : len * bytes ≤ 140737488351232 := by
      refine Nat.le_trans (Nat.mul_le_mul_right _ ?_) hbytes
      omega
    obtain ⟨zs, hal, has⟩ := choose_list (n := len) (R := fun i y => (good y ∧ w.cells? 0 (a.add (i * sz)) sz = some (f y)) ∧ ∀ d, elems[i]? = some d → mea y ≤ Rows.uptoBulk d.1) (fun i hi => by
      have hg := hget i hi
      have hlt : i < elems.length := by omega
      rw [List.getElem?_eq_getElem hlt] at hg
      rw [Option.bind_eq_some_iff] at hg
      obtain ⟨cs', h1, h2⟩ := hg
      obtain ⟨y, rfl, hy, hme⟩ := h H enc cs' _ h2 (fun q hq => hw' q (List.mem_cons_of_mem _ (List.mem_append_left _ (weightsAll_mem (List.mem_map_of_mem (List.getElem_mem hlt)) hq))))
      rw [hc] at h1
      exact ⟨y, ⟨hy, h1⟩, fun d hd => by rw [List.getElem?_eq_getElem hlt] at hd; cases hd; exact hme⟩)
    have hev : Even f sz zs := fun y hy => by
      obtain ⟨i, hi⟩ := List.mem_iff_getElem?.1 hy
      have := (World.cells?_some (has i y hi).1.2).2.1
      exact this
    refine ⟨⟨some a, len, cap, zs⟩, rfl, ⟨⟨?_, ?_⟩, hal, by simp, hl, hm, hlb, hev, ?_⟩, ?_⟩
    · rw [rows_len hev, hal]
    · by_cases h0 : len = 0
      · exact .inl h0
      · right
        refine ⟨a, rfl, ?_⟩
        intro j v hv
        simp only at hv
        have hjl : j < len * sz := by
          have := (List.getElem?_eq_some_iff.1 hv).1
          rw [rows_len hev, hal] at this; exact this
        have hsz : 0 < sz := by
          rcases Nat.eq_zero_or_pos sz with h | h
          · subst h; simp at hjl
          · exact h
        have hi : j / sz < zs.length := by rw [hal]; exact Nat.div_lt_of_lt_mul (by rw [Nat.mul_comm]; exact hjl)
        have hy := List.getElem?_eq_getElem hi
        have hmod : j % sz < sz := Nat.mod_lt _ hsz
        have hj : j / sz * sz + j % sz = j := by rw [Nat.mul_comm]; exact Nat.div_add_mod j sz
        have h2 := rows_at hev hy hmod
        rw [hj] at h2
        rw [h2] at hv
        obtain ⟨_, q1, q3⟩ := World.cells?_some (has _ _ hy).1.2
        have h3 := q3 (j % sz) hmod
        rw [hv] at h3
        have hspot : a.spot = none := by
          have hz : 0 < zs.length := by omega
          obtain ⟨_, r1, r3⟩ := World.cells?_some (has 0 _ (List.getElem?_eq_getElem hz)).1.2
          have h4 := r3 0 hsz
          rw [Nat.zero_mul, add_zero', add_zero', List.getElem?_eq_getElem (by rw [r1]; exact hsz)] at h4
          exact World.cell?_spot h4
        rw [← h3, Go.Vc.Addr.add_add _ _ hspot, hj]
    · intro y hy
      obtain ⟨i, hi⟩ := List.mem_iff_getElem?.1 hy
      exact (has i y hi).1.1
    · have h1 : (zs.map mea).sum ≤ ((elems.map (·.1)).map Rows.uptoBulk).sum := by
        refine sum_le_sum (by rw [List.length_map, List.length_map, List.length_map, hal, hel]) fun i u v hu hv => ?_
        rw [List.getElem?_map, Option.map_eq_some_iff] at hu
        obtain ⟨y, hy, rfl⟩ := hu
        rw [List.getElem?_map, List.getElem?_map] at hv
        cases he : elems[i]? with
        | none => rw [he] at hv; cases hv
        | some d =>
          rw [he] at hv
          simp only [Option.map_some, Option.some.injEq] at hv
          subst hv
          exact (has i y hy).2 d he
      simp only [Rows.uptoBulk]
      rw [← bulkAll_sum] at h1
      omega
/-- The fields of a struct, at one fuel. -/
def RdNF (P : Program) (w : World) (k : Nat) (fs : List (TypeId × Nat)) (off n : Nat) {α : Type} (f : α → List Value) (good : α → Prop) (mea : α → Nat) : Prop :=
  ∀ (H : Type) (enc : TypeId × Value → H) (cs : List Value) (xs : List (DataW H × List MemPlace)), xs.length = fs.length →
    (∀ (i : Nat) (g : TypeId × Nat), fs[i]? = some g → DataW.trod enc P w 0 (fun _ => true) true k g.1 ((cs.drop g.2).take (P.cellsOf g.1)) = xs[i]?) →
    (∀ m ∈ DataW.weightsEach P (fs.map (·.1)) (xs.map (·.1)), m ≤ reachBytes) → ∃ a, (cs.drop off).take n = f a ∧ good a ∧ mea a ≤ Rows.uptoBulkAll (xs.map (·.1))
theorem RdNF.nil {k off : Nat} : RdNF P w k [] off 0 (fun _ : Unit => []) (fun _ => True) (fun _ => 0) := fun _ _ _ _ _ _ _ => ⟨(), by simp, trivial, Nat.zero_le _⟩
theorem RdNF.cons {q : Nat} {t : TypeId} {fs : List (TypeId × Nat)} {off k n m : Nat} {α β : Type} {f1 : α → List Value} {good1 : α → Prop} {mea1 : α → Nat} {f2 : β → List Value} {good2 : β → Prop} {mea2 : β → Nat} (hk : P.cellsOf t = k) (hm : k + n = m)
    (h1 : RdN P w q t f1 good1 mea1) (h2 : RdNF P w q fs (off + k) n f2 good2 mea2) : RdNF P w q ((t, off) :: fs) off m (fun x : α × β => f1 x.1 ++ f2 x.2) (fun x => good1 x.1 ∧ good2 x.2) (fun x => mea1 x.1 + mea2 x.2) := by
  intro H enc cs xs hl hg hw
  cases xs with
  | nil => simp at hl
  | cons x xs =>
    have h0 := hg 0 (t, off) rfl
    simp only [List.getElem?_cons_zero] at h0
    simp only [List.map_cons, DataW.weightsEach, List.mem_append] at hw
    obtain ⟨a, ha, ga, ma⟩ := h1 H enc _ x h0 (fun m hm => hw m (.inl hm))
    obtain ⟨b, hb, gb, mb⟩ := h2 H enc cs xs (by simpa using hl) (fun i q hq => by have := hg (i + 1) q (by simpa using hq); simpa using this) (fun m hm => hw m (.inr hm))
    refine ⟨(a, b), ?_, ⟨ga, gb⟩, ?_⟩
    · simp only
      rw [← ha, ← hb, ← hm, hk, List.take_add, List.drop_drop]
    · simp only [List.map_cons, Rows.uptoBulkAll]; omega
theorem RdN.struct {k : Nat} {t : TypeId} {L : List (TypeId × Nat)} {n : Nat} {α : Type} {f : α → List Value} {good : α → Prop} {mea : α → Nat} (ht : fieldsOf P t = some L) (hc : P.cellsOf t = n) (h : RdNF P w k L 0 n f good mea) : RdN P w (k + 1) t f good (fun a => mea a + 1) := by
  intro H enc cs x hx hw
  unfold fieldsOf at ht
  split at ht
  · next fs hu =>
    cases ht
    obtain ⟨xs, m, hm, rfl, hl, hxl, hg⟩ := DataW.trod_struct hu hx
    obtain rfl : m = k := by omega
    obtain ⟨a, ha, ga, ma⟩ := h H enc cs xs (by simpa using hxl) (fun i g hgi => by
        rw [List.getElem?_map, Option.map_eq_some_iff] at hgi
        obtain ⟨q, hq, rfl⟩ := hgi
        exact hg i q (by simpa using hq)) (fun q hq => hw q (by simp only [DataW.weights, hu]; rw [List.map_map] at hq; exact hq))
    refine ⟨a, ?_, ga, ?_⟩
    · rw [← ha, List.drop_zero, List.take_of_length_le (by omega)]
    · simp only [Rows.uptoBulk]; omega
  · cases ht
theorem RdN.map {n : Nat} {t : TypeId} {α β : Type} {f : α → List Value} {good : α → Prop} {mea : α → Nat} {f2 : β → List Value} {good2 : β → Prop} {mea2 : β → Nat} (h : RdN P w n t f good mea) (g : α → β) (hf : ∀ a, good a → f a = f2 (g a)) (hg : ∀ a, good a → good2 (g a)) (hm : ∀ a, good a → mea2 (g a) ≤ mea a) : RdN P w n t f2 good2 mea2 := by
  intro H enc cs x hx hw
  obtain ⟨a, ha, ga, ma⟩ := h H enc cs x hx hw
  exact ⟨g a, by rw [ha, hf a ga], hg a ga, Nat.le_trans (hm a ga) ma⟩
theorem RdN.pred {n : Nat} {t : TypeId} {α : Type} {f : α → List Value} {good : α → Prop} {mea : α → Nat} (h : ∀ m, n = m + 1 → RdN P w (m + 1) t f good mea) : RdN P w n t f good mea := by
  cases n with
  | zero => exact RdN.zero
  | succ m => exact h m rfl
theorem RdN.str {n : Nat} {t : TypeId} (ht : P.underlying t = some .string) : RdN P w n t (fun s : ByteArray => [.string s]) (fun s => s.size ≤ 140737488351232) (fun s => s.size + 1) := by
  intro H enc cs x h hw
  obtain ⟨s, rfl, hx, _⟩ := DataW.trod_string ht h
  subst hx
  refine ⟨s, rfl, ?_, ?_⟩
  · have := hw s.data.toList.length (by simp [DataW.weights])
    simpa [reachBytes] using this
  · simp only [Rows.uptoBulk]
    have : s.data.toList.length = s.size := rfl
    omega
theorem RdN.to {t : TypeId} {α : Type} {f : α → List Value} {good : α → Prop} {mea : α → Nat} (h : ∀ n, RdN P w n t f good mea) : RdM P w t f good mea := fun H enc fuel cs x => h fuel H enc cs x
end
section
variable {w : World}
def InPr2 (x : Pr) : Prop := x.1.size ≤ 140737488351232 ∧ x.2.size ≤ 140737488351232
def InAt (x : At) : Prop := x.1.size ≤ 140737488351232 ∧ x.2.1.size ≤ 140737488351232 ∧ x.2.2.size ≤ 140737488351232
theorem rdn_str (n : Nat) : RdN Tryz.prog w n T_string (fun s : ByteArray => [.string s]) (fun s => s.size ≤ 140737488351232) (fun s => s.size + 1) := RdN.str (by kernel_rfl)
theorem rdn_name (n : Nat) : RdN Tryz.prog w n T_api_Name pr InPr2 (fun x => x.1.size + x.2.size + 1) := RdN.pred fun m _ =>
  (RdN.struct (L := [(T_string, 0), (T_string, 1)]) (n := 2) (by kernel_rfl) (by kernel_rfl) (RdNF.cons (k := 1) (n := 1) (by kernel_rfl) rfl (rdn_str m) (RdNF.cons (k := 1) (n := 0) (by kernel_rfl) rfl (rdn_str m) RdNF.nil))).map
    (fun x => (x.1, x.2.1)) (fun _ _ => rfl) (fun _ h => ⟨h.1, h.2.1⟩) (fun x _ => by simp only; omega)
theorem rdn_attr (n : Nat) : RdN Tryz.prog w n T_api_Attr atc InAt atSize := RdN.pred fun m _ =>
  (RdN.struct (L := [(T_api_Name, 0), (T_string, 2)]) (n := 3) (by kernel_rfl) (by kernel_rfl) (RdNF.cons (k := 2) (n := 1) (by kernel_rfl) rfl (rdn_name m) (RdNF.cons (k := 1) (n := 0) (by kernel_rfl) rfl (rdn_str m) RdNF.nil))).map
    (fun x => (x.1.1, x.1.2, x.2.1)) (fun _ _ => rfl) (fun _ h => ⟨h.1.1, h.1.2, h.2.1⟩) (fun x _ => by simp only [atSize]; omega)
theorem rdn_sl_attr (n : Nat) : RdN Tryz.prog w n T_sl_api_Attr SlV.cells (fun s : SlV At => s.Ok w 3 48 atc InAt) (fun s => (s.xs.map atSize).sum) := RdN.pred fun m _ => RdN.slice (by kernel_rfl) (by kernel_rfl) (by kernel_rfl) (rdn_attr m)
theorem rdn_kind (n : Nat) : RdN Tryz.prog w n T_int (fun n : Int => [.int .i64 n]) InI (fun _ => 1) := (RdM.of (Rd.i64 (by kernel_rfl))).at n
/-- A tree that came in. -/
theorem rdn_node : ∀ n : Nat, RdN Tryz.prog w n T_api_Node NV.cells (NV.Ok w) NV.mea := by
  intro n
  induction n using Nat.strongRecOn with
  | ind n ih =>
    refine RdN.pred fun m hm => ?_
    have hk : RdN Tryz.prog w m T_sl_api_Node SlV.cells (fun s : SlV NV => s.Ok w 6 104 NV.cells (NV.Ok w)) (fun s => (s.xs.map NV.mea).sum) := RdN.pred fun k hk => RdN.slice (by kernel_rfl) (by kernel_rfl) (by kernel_rfl) (ih k (by omega))
    refine (RdN.struct (L := [(T_int, 0), (T_api_Name, 1), (T_sl_api_Attr, 3), (T_sl_api_Node, 4), (T_string, 5)]) (n := 6) (by kernel_rfl) (by kernel_rfl)
      (RdNF.cons (k := 1) (n := 5) (by kernel_rfl) rfl (rdn_kind m) (RdNF.cons (k := 2) (n := 3) (by kernel_rfl) rfl (rdn_name m) (RdNF.cons (k := 1) (n := 2) (by kernel_rfl) rfl (rdn_sl_attr m)
        (RdNF.cons (k := 1) (n := 1) (by kernel_rfl) rfl hk (RdNF.cons (k := 1) (n := 0) (by kernel_rfl) rfl (rdn_str m) RdNF.nil)))))).map
      (fun x => .mk x.1 x.2.1.1 x.2.1.2 x.2.2.2.2.1 x.2.2.1.p x.2.2.1.l x.2.2.1.c x.2.2.1.xs x.2.2.2.1.p x.2.2.2.1.l x.2.2.2.1.c x.2.2.2.1.xs) (fun _ _ => rfl) (fun x h => ?_) (fun x _ => ?_)
    · obtain ⟨h1, h2, h3, h4, h5, _⟩ := h
      exact .mk h3.sl h3.nil h3.cap h4.sl h4.nil h4.cap h4.all
    · simp only [NV.mea, meaL_sum]; omega
theorem rdm_node : RdM Tryz.prog w T_api_Node NV.cells (NV.Ok w) NV.mea := RdN.to rdn_node
end
end Go.Proofs.YtkgfbphdmnapdaaGreatDoor

