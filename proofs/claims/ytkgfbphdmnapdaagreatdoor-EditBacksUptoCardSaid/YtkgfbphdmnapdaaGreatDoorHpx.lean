/-
  Rows among the blocks known: an append onto one of them.
-/
import Derived.Test.YtkgfbphdmnapdaaGreatDoorBase
namespace Go.Vc
open Go Go.RowKit

/-- A block that begins with a row's elements: 'l' of 'c'. -/
structure Fit (xs rest : List Value) (l c sz : Nat) : Prop where
  len : xs.length = l * sz
  le : l ≤ c
  max : c ≤ maxLen
  all : (xs ++ rest).length = c * sz

section
variable {w0 w w' : World} {S : Nat → Prop} {Γ Γ' : List Blk} {b : Nat} {cs xs rest : List Value} {e : TypeId} {l c sz : Nat}

theorem Hp.rowAt (H : Hp w0 S w Γ) (i : Nat) (hi : Γ[i]? = some ⟨b, xs ++ rest, e⟩) (F : Fit xs rest l c sz) : Row w e sz (some ⟨b, 0, none⟩) l c xs := H.asRow i hi rfl F.len F.le F.max F.all
theorem Hp.slAt (H : Hp w0 S w Γ) (i : Nat) (hi : Γ[i]? = some ⟨b, xs ++ rest, e⟩) (F : Fit xs rest l c sz) : Sl w (some ⟨b, 0, none⟩) l sz xs := (H.rowAt i hi F).sl
theorem Fit.nil (sz : Nat) : Fit [] [] 0 0 sz := ⟨by simp, Nat.le_refl _, Nat.zero_le _, by simp⟩
theorem Fit.lit {n : Nat} (h : xs.length = n * sz) (hn : n ≤ maxLen) : Fit xs [] n n sz := ⟨h, Nat.le_refl _, hn, by rw [List.append_nil]; exact h⟩
theorem Row.fit {p : Option Addr} (h : Row w e sz p l c xs) (hp : p ≠ none) : ∃ b rest, p = some ⟨b, 0, none⟩ ∧ w.heap[b]? = some (.cells ⟨xs ++ rest⟩ e (0, 0)) ∧ Fit xs rest l c sz := by
  rcases h.2 with ⟨h0, _⟩ | ⟨b, rest, hp', hh, h1, h2, h3⟩
  · exact absurd h0 hp
  · exact ⟨b, rest, hp', hh, h.1, h1, h2, h3⟩

/-- append(s, ..), of a row among the blocks known. -/
theorem Hp.appG {P : Program} {t : TypeId} {by_ : Nat} {z : Array Value} (T : SlT P t e sz by_ z) (H : Hp w0 S w Γ) (i : Nat) (hi : Γ[i]? = some ⟨b, xs ++ rest, e⟩) (F : Fit xs rest l c sz) {q : Option Addr} {m c2 : Nat} {news : List Value} {K : Option Addr → Nat → Nat → World → Prop}
    (src : Sl w q m sz news) (h1 : one1 news) (hq : q = none → m = 0) (hb : (l + m) * by_ ≤ 140737488355328) (hmax : l + m ≤ maxLen)
    (k : ∀ b' rest' c' w', Hp w0 S w' (Γ.set i ⟨b', (xs ++ news) ++ rest', e⟩) → Fit (xs ++ news) rest' (l + m) c' sz → (b' = b ∨ w.heap.size ≤ b') → Chg (fun x => x = b) w w' → K (some ⟨b', 0, none⟩) (l + m) c' w') :
    appJ P t t (.slice (some ⟨b, 0, none⟩) l c) (.slice q m c2) w K := by
  refine appJ_row2 T (H.rowAt i hi F) src h1 hq hb hmax fun p' c' w' hr hc hf => ?_
  have hc' : Chg (fun x => x = b) w w' := hc.mono fun x _ ⟨a, ha, e⟩ => by cases ha; exact e.symm
  have hp' : p' ≠ none := by
    rcases hf with rfl | ⟨_, hlt⟩
    · simp
    · intro e0
      have := hr.none0 e0
      have := F.le
      omega
  obtain ⟨b', rest', rfl, hh, F'⟩ := hr.fit hp'
  have hilt : i < Γ.length := (List.getElem?_eq_some_iff.1 hi).1
  have hget : Γ[i] = ⟨b, xs ++ rest, e⟩ := (List.getElem?_eq_some_iff.1 hi).2
  have hbb : b' = b ∨ w.heap.size ≤ b' := by
    rcases hf with h | ⟨h, _⟩
    · left; injection h with h; injection h
    · exact .inr (h _ rfl)
  have hown := H.own ⟨b, xs ++ rest, e⟩ (List.mem_of_getElem? hi)
  have hne : ∀ j p, Γ[j]? = some p → j ≠ i → p.b ≠ b := by
    intro j p hj hji he
    have h1 : (Γ.map (·.b))[j]? = some b := by rw [List.getElem?_map, hj]; simp [he]
    have h2 : (Γ.map (·.b))[i]? = some b := by rw [List.getElem?_map, hi]; simp
    exact hji (nodup_inj H.nd h1 h2)
  refine k b' rest' c' w' ⟨H.chg.trans hc' fun x hx e => by subst e; exact hown hx, fun p hp => ?_, ?_, fun p hp hlt => ?_⟩ F' hbb hc'
  · obtain ⟨j, hj⟩ := List.mem_iff_getElem?.1 hp
    rw [List.getElem?_set] at hj
    by_cases hij : i = j
    · rw [if_pos hij] at hj
      have : some (⟨b', (xs ++ news) ++ rest', e⟩ : Blk) = some p := by subst hij; simpa [hilt] using hj
      cases this
      exact hh
    · rw [if_neg hij] at hj
      exact hc'.heap (H.is p (List.mem_of_getElem? hj)) (hne j p hj (Ne.symm hij))
  · rw [List.map_set]
    refine List.pairwise_iff_getElem.2 fun j1 j2 h1 h2 hlt => ?_
    have hp := List.pairwise_iff_getElem.1 H.nd
    rw [List.length_set, List.length_map] at h1 h2
    have blk : ∀ j (hj : j < Γ.length), j ≠ i → Γ[j].b ≠ b' := by
      intro j hj hji
      rcases hbb with rfl | hge
      · exact hne j _ (List.getElem?_eq_getElem hj) hji
      · have := lt_of_heap (H.is Γ[j] (List.getElem_mem hj))
        omega
    rw [List.getElem_set, List.getElem_set]
    split
    · next hi1 =>
      rw [if_neg (by omega), List.getElem_map]
      exact (blk j2 h2 (by omega)).symm
    · next hi1 =>
      split
      · rw [List.getElem_map]; exact blk j1 h1 (Ne.symm hi1)
      · have := hp j1 j2 (by simpa using h1) (by simpa using h2) hlt
        exact this
  · rcases List.mem_or_eq_of_mem_set hp with hp | rfl
    · exact H.own p hp hlt
    · rcases hbb with h | h
      · simp only at hlt ⊢; rw [h] at hlt ⊢; exact hown hlt
      · have := H.chg.size; simp only at hlt; omega
theorem Hp.perm (H : Hp w0 S w Γ) (h : Γ.Perm Γ') : Hp w0 S w Γ' :=
  ⟨H.chg, fun p hp => H.is p (h.mem_iff.2 hp), (h.map (·.b)).nodup_iff.1 H.nd, fun p hp => H.own p (h.mem_iff.2 hp)⟩
/-- Fewer blocks known. -/
theorem Hp.sub (H : Hp w0 S w Γ) (h : Γ'.Sublist Γ) : Hp w0 S w Γ' :=
  ⟨H.chg, fun p hp => H.is p (h.subset hp), List.Pairwise.sublist (h.map (·.b)) H.nd, fun p hp => H.own p (h.subset hp)⟩
/-- Seen from an earlier world. -/
theorem Hp.back {wa : World} {Δ : List Blk} (H0 : Hp wa S w0 Δ) (H : Hp w0 No w Γ) : Hp wa S w (Γ ++ Δ) := by
  refine ⟨H0.chg.trans0 H.chg, fun p hp => ?_, ?_, fun p hp hlt => ?_⟩
  · rcases List.mem_append.1 hp with hp | hp
    · exact H.is p hp
    · exact H.chg.heap (H0.is p hp) (fun h => h)
  · rw [List.map_append]
    refine List.pairwise_append.2 ⟨H.nd, H0.nd, fun a ha b hb e => ?_⟩
    obtain ⟨x, hx, rfl⟩ := List.mem_map.1 ha
    obtain ⟨y, hy, rfl⟩ := List.mem_map.1 hb
    have h1 := lt_of_heap (H0.is y hy)
    have : x.b < w0.heap.size := by omega
    exact H.own x hx this
  · rcases List.mem_append.1 hp with hp | hp
    · by_cases h : p.b < w0.heap.size
      · exact (H.own p hp h).elim
      · have := H0.chg.size; omega
    · exact H0.own p hp hlt
theorem Hp.blk_ne (H : Hp w0 S w Γ) {i j : Nat} {b1 b2 : Nat} {c1 c2 : List Value} {e1 e2 : TypeId} (hi : Γ[i]? = some ⟨b1, c1, e1⟩) (hj : Γ[j]? = some ⟨b2, c2, e2⟩) (hij : i ≠ j) : b1 ≠ b2 := by
  intro he
  have h1 : (Γ.map (·.b))[i]? = some b1 := by rw [List.getElem?_map, hi]; rfl
  have h2 : (Γ.map (·.b))[j]? = some b1 := by rw [List.getElem?_map, hj, he]; rfl
  exact hij (nodup_inj H.nd h1 h2)
end
end Go.Vc

