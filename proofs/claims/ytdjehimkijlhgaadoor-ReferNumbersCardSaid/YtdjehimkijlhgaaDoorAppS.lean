/-
  append of a string's bytes to a row of bytes of the call's own.
-/
import Derived.Test.YtdjehimkijlhgaaDoorChrD
import Derived.Lib.AppendStr
import Derived.ArgAppend
set_option linter.unusedVariables false
set_option linter.unusedSimpArgs false
namespace Go.Vc
open Go Go.Lib
theorem appJ_str {P : Program} {t u e : TypeId} (ht : P.underlying t = some (.slice e)) (hu : P.underlying u = some .string) (hI : ∃ i : TypeInfo, P.info? e = some i ∧ i.zero = some (.int .u8 0) ∧ i.size = 1 ∧ i.bytes = 1)
    {w0 w : World} {p : Option Addr} {l c : Nat} {xs : List UInt8} {s : ByteArray} {K : Option Addr → Nat → Nat → World → Prop} (h : Row w e 1 p l c (bcells xs)) (hlm : l + s.size ≤ 140737488355328)
    (hf : fresh w0 p) (hc : Chg No w0 w) (k : ∀ p' c' w', Row w' e 1 p' (l + s.size) c' (bcells (xs ++ bl s)) → fresh w0 p' → Chg No w0 w' → K p' (l + s.size) c' w') :
    appJ P t u (.slice p l c) (.string s) w K := by
  obtain ⟨i, hi, hz, hsz, hby⟩ := hI
  have hown := h.owns
  have hxl : (bcells xs).length = l := by have := h.1; omega
  obtain ⟨v', w', hr, ho, hg, hnil⟩ := Lib.run_append_own_string (P := P) w 0 t u 0 e i ht hu hi hz hsz hby (.slice p l c) l (bcells xs) hown s (by simp only [maxLen]; omega) hlm (Nat.zero_le _)
  have hcg : Chg (isB p) w w' := Chg.of_grown hg (fun b hb => by
    cases p with
    | none => simp [Value.ownBlock] at hb
    | some x => simp [Value.ownBlock] at hb; exact ⟨x, rfl, hb⟩)
  obtain ⟨p', c', rfl, hrow⟩ := Row.of_owns ho
  have hce : bcells xs ++ Lib.strCells s = bcells (xs ++ bl s) := by
    unfold bcells Lib.strCells
    rw [List.map_append]
  rw [hce] at hrow
  refine ⟨p', l + s.size, c', w', fun ty => hr, k p' c' w' hrow ?_ (hc.trans hcg fun b hb ⟨a, ha, e⟩ => by have := hf a ha; omega)⟩
  have hnew : ∀ q, Value.slice p' (l + s.size) c' = q → (∃ cc, q = .slice (some ⟨w.heap.size, 0, none⟩) (l + s.size) cc) → fresh w0 p' := by
    rintro q hq ⟨cc, hcc⟩ a ha
    rw [hcc] at hq
    injection hq with e1
    rw [ha] at e1
    injection e1 with e2
    rw [e2]
    exact hc.size
  rcases h.2 with ⟨rfl, rfl, rfl⟩ | ⟨b, rest, rfl, hh, hlc, hcm, hcs⟩
  · have hx : xs = [] := List.eq_nil_of_length_eq_zero (by simpa [bcells] using hxl)
    by_cases h0 : s.size = 0
    · have := hnil.2 ⟨rfl, h0⟩
      injection this with e1
      intro a ha; rw [ha] at e1; cases e1
    · have hr2 := run_append_nil_string (P := P) w t u 0 e i (.int .u8 0) ht hu hi hz s (by omega) (by omega) (by rw [hby]; omega)
      rw [hr] at hr2
      injection hr2 with e1 e2
      exact hnew _ e1 ⟨_, by rw [Nat.zero_add]⟩
  · by_cases hroom : l + s.size ≤ c
    · have hr2 := Lib.run_append_room_string (P := P) w t u 0 e i ht hu hi hsz b l c ⟨bcells xs ++ rest⟩ hh s hroom (by simp only [List.size_toArray]; omega)
      rw [hr] at hr2
      injection hr2 with e1 e2
      injection e1 with e3
      intro a ha; rw [ha] at e3
      exact hf a e3.symm
    · have holds : ∀ j u, (bcells xs)[j]? = some u → w.cell? ((⟨b, 0, none⟩ : Addr).add j) = some u := by
        have := h.sl
        rcases this.2 with h0 | ⟨a', ha, hc'⟩
        · intro j u hu
          have hn : bcells xs = [] := List.eq_nil_of_length_eq_zero (by omega)
          rw [hn] at hu; simp at hu
        · cases ha; exact hc'
      have hr2 := Lib.run_append_grow_string (P := P) w t u 0 e i (.int .u8 0) ht hu hi hz ⟨b, 0, none⟩ l c (bcells xs) (by rw [hsz]; exact h.1) holds s (by omega) (by omega) (growslice_fits (by omega) (by rw [hby]; omega))
      rw [hr] at hr2
      injection hr2 with e1 e2
      exact hnew _ e1 ⟨_, rfl⟩
end Go.Vc
namespace Go.Proofs.YtdjehimkijlhgaaDoor
open Go Go.Vc Go.Lib
theorem u8info : ∃ i : TypeInfo, Tryd.prog.info? T_uint8 = some i ∧ i.zero = some (.int .u8 0) ∧ i.size = 1 ∧ i.bytes = 1 := by
  have h1 : ((Tryd.prog.info? T_uint8).map fun i => (match i.zero with | some (.int k n) => k == .u8 && n == 0 | _ => false) && i.size == 1 && i.bytes == 1) = some true := by kernel_rfl
  obtain ⟨i, h2, h3⟩ := Option.map_eq_some_iff.1 h1
  refine ⟨i, h2, ?_⟩
  simp only [Bool.and_eq_true, beq_iff_eq] at h3
  obtain ⟨⟨h4, h5⟩, h6⟩ := h3
  refine ⟨?_, h5, h6⟩
  split at h4
  · rename_i k n hz
    rw [Bool.and_eq_true, beq_iff_eq, beq_iff_eq] at h4
    rw [hz, h4.1, h4.2]
  · cases h4
/-- append(l, s...) -/
theorem appStr {w0 w : World} {p : Option Addr} {l c : Nat} {xs : List UInt8} {s : ByteArray} {K : Option Addr → Nat → Nat → World → Prop} (h : Row w T_uint8 1 p l c (bcells xs)) (hlm : l + s.size ≤ 140737488355328)
    (hf : fresh w0 p) (hc : Chg No w0 w) (k : ∀ p' c' w', Row w' T_uint8 1 p' (l + s.size) c' (bcells (xs ++ bl s)) → fresh w0 p' → Chg No w0 w' → K p' (l + s.size) c' w') :
    appJ Tryd.prog T_sl_uint8 T_string (.slice p l c) (.string s) w K :=
  appJ_str (by kernel_rfl) (by kernel_rfl) u8info h hlm hf hc k
end Go.Proofs.YtdjehimkijlhgaaDoor

