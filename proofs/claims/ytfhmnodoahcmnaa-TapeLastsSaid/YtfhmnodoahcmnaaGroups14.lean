/-
  Chapter 14: the document's groups are those that Open tells.
-/
import Derived.Test.YtfhmnodoahcmnaaScan
import Derived.Test.YtfhmnodoahcmnaaLists14
namespace Go.Proofs.Ytfhmnodoahcmnaa
open Go Go.Vc

/-! ## Plain facts -/

def body48 (b : List UInt8) : List UInt8 := (b.drop 16).take (min 48 (hdS b))
def pOf (l : List (List UInt8)) : List UInt8 := l.flatMap body48
/-- The document takes the next 'n' sectors as a group. -/
def Acc (gen place : Nat) (out : List (List UInt8)) (l : List (List UInt8)) (n : Nat) : Prop :=
  n ≤ l.length ∧ (∀ b, l[n - 1]? = some b → hdS b ≤ 48) ∧ nsec (pOf (l.take n)).length = n ∧ grp gen place out.length (pOf (l.take n)) = l.take n

theorem part_append {x y : List UInt8} {k : Nat} (h : x.length = 48) : part (x ++ y) (k + 1) = part y k := by
  unfold part
  rw [show 48 * (k + 1) = x.length + 48 * k by omega, ← List.drop_drop, List.drop_left]
theorem part_zero {x y : List UInt8} (h : x.length = 48) : part (x ++ y) 0 = x := by
  unfold part
  rw [Nat.mul_zero, List.drop_zero, ← h, List.take_left]

/-- All but the last have 48 bytes: the parts are the pieces. -/
theorem part_pieces : ∀ (L : List (List UInt8)) (z : List UInt8) (k : Nat) (x : List UInt8), (∀ y ∈ L, y.length = 48) → z.length ≤ 48 → (L ++ [z])[k]? = some x → part (L.flatten ++ z) k = x
  | [], z, k, x, _, hz, hk => by
    have hk0 : k = 0 := by
      have := (List.getElem?_eq_some_iff.1 hk).1
      simp at this; exact this
    subst hk0
    simp at hk
    subst hk
    simp only [List.flatten_nil, List.nil_append]
    unfold part
    rw [Nat.mul_zero, List.drop_zero, List.take_of_length_le hz]
  | y :: L, z, 0, x, hL, hz, hk => by
    simp at hk; subst hk
    rw [List.flatten_cons, List.append_assoc]
    exact part_zero (hL y (by simp))
  | y :: L, z, k + 1, x, hL, hz, hk => by
    rw [List.flatten_cons, List.append_assoc, part_append (hL y (by simp))]
    exact part_pieces L z k x (fun w hw => hL w (by simp [hw])) hz (by simpa using hk)
theorem flatten_len48 : ∀ (L : List (List UInt8)), (∀ y ∈ L, y.length = 48) → L.flatten.length = 48 * L.length
  | [], _ => rfl
  | y :: L, h => by
    rw [List.flatten_cons, List.length_append, h y (by simp), flatten_len48 L fun w hw => h w (by simp [hw]), List.length_cons]; omega

/-- Where the reading stands within a group, by what was read. -/
structure Mid (gen pl : Nat) (out pre : List (List UInt8)) (st : SC) : Prop where
  all : st.all = out
  place : st.place = pl
  cur : st.cur = (pre.map body).flatten
  each : ∀ k b, pre[k]? = some b → hdS b = 48 ∧ b = sec gen (pl + k) out.length (hdL b) 48 (body b) ∧ b.length = 64
  due : pre = [] ∧ st.due = -1 ∨ (∃ L0 : Nat, pre.length ≤ L0 ∧ st.due = (L0 : Int) - pre.length ∧ ∀ k b, pre[k]? = some b → hdL b = L0 - k)

theorem body_len {b : List UInt8} (h : b.length = 64) (hs : hdS b ≤ 48) : (body b).length = hdS b := by
  unfold body; rw [List.length_take, List.length_drop]; omega

/-- The sectors up to one with no more behind it are a group for the document too. -/
theorem mid_acc {gen place : Nat} {out pre r l' : List (List UInt8)} {st : SC} {b : List UInt8} (h : Mid gen place out pre st) (hg : st.good gen (place + pre.length) b) (h0 : hdL b = 0) (h64 : b.length = 64) (hr : pre ++ b :: r = l') :
    ∃ b0, l'[0]? = some b0 ∧ 1 + hdL b0 = pre.length + 1 ∧ Acc gen place out l' (pre.length + 1) := by
  subst hr
  obtain ⟨m1, m2, m3, m4, m5⟩ := h
  obtain ⟨⟨g1, g2, g3⟩, g4⟩ := hg
  have hpre48 : ∀ y ∈ pre.map body, y.length = 48 := by
    intro y hy
    obtain ⟨x, hx, rfl⟩ := List.mem_map.1 hy
    obtain ⟨k, hk⟩ := List.mem_iff_getElem?.1 hx
    obtain ⟨q1, q2, q3⟩ := m4 k x hk
    rw [body_len q3 (by omega), q1]
  have hbl := body_len h64 g1
  have hdue : pre = [] ∨ (∀ k x, pre[k]? = some x → hdL x = pre.length - k) ∧ hdS b ≠ 0 := by
    rcases m5 with ⟨e, _⟩ | ⟨L0, d1, d2, d3⟩
    · exact .inl e
    · right
      obtain ⟨q1, q2⟩ := g3 (by omega)
      rw [h0, d2] at q1
      have : L0 = pre.length := by omega
      subst this
      exact ⟨d3, q2⟩
  have htake : (pre ++ b :: r).take (pre.length + 1) = pre ++ [b] := by
    rw [List.take_append, List.take_of_length_le (by omega), show pre.length + 1 - pre.length = 1 by omega]; simp
  have hp : pOf (pre ++ [b]) = (pre.map body).flatten ++ body b := by
    unfold pOf
    rw [List.flatMap_append, List.flatMap_def, List.flatMap_singleton]
    have e1 : pre.map body48 = pre.map body := List.map_congr_left fun x hx => by
      obtain ⟨k, hk⟩ := List.mem_iff_getElem?.1 hx
      obtain ⟨q1, _, _⟩ := m4 k x hk
      unfold body48 body; rw [q1]; rfl
    rw [e1]
    congr 1
    unfold body48 body
    rw [Nat.min_eq_right g1]
  have hlen : (pOf (pre ++ [b])).length = 48 * pre.length + hdS b := by
    rw [hp, List.length_append, flatten_len48 _ hpre48, List.length_map, hbl]
  have hns : nsec (pOf (pre ++ [b])).length = pre.length + 1 := by
    rw [hlen]
    unfold nsec
    rcases hdue with e | ⟨_, e⟩
    · subst e; simp only [List.length_nil]; omega
    · omega
  have hL : ∀ k x, (pre ++ [b])[k]? = some x → hdL x = pre.length - k ∧ hdS x = (body x).length ∧ x = sec gen (place + k) out.length (hdL x) (hdS x) (body x) := by
    intro k x hx
    rw [List.getElem?_append] at hx
    split at hx
    · next hk =>
      obtain ⟨q1, q2, q3⟩ := m4 k x hx
      have hne : pre ≠ [] := by rintro rfl; simp at hk
      refine ⟨(hdue.resolve_left hne).1 k x hx, (body_len q3 (by omega)).symm, by rw [q1]; exact q2⟩
    · next hk =>
      have hk1 := (List.getElem?_eq_some_iff.1 hx).1
      have hk0 : k = pre.length := by simp at hk1; omega
      subst hk0
      simp at hx
      subst hx
      refine ⟨by omega, hbl.symm, ?_⟩
      rw [m1] at g4
      exact g4.symm
  have hfirst : ∃ b0, (pre ++ b :: r)[0]? = some b0 ∧ 1 + hdL b0 = pre.length + 1 := by
    have hlt : 0 < (pre ++ [b]).length := by simp
    have h2 : (pre ++ b :: r)[0]? = (pre ++ [b])[0]? := by
      rw [← htake, List.getElem?_take, if_pos (by omega)]
    refine ⟨(pre ++ [b])[0], ?_, ?_⟩
    · rw [h2]; exact List.getElem?_eq_getElem hlt
    · have := (hL 0 _ (List.getElem?_eq_getElem hlt)).1; omega
  obtain ⟨b0, f1, f2⟩ := hfirst
  refine ⟨b0, f1, f2, by simp, ?_, by rw [htake]; exact hns, ?_⟩
  · intro x hx
    rw [show pre.length + 1 - 1 = pre.length by omega, List.getElem?_append_right (Nat.le_refl _), Nat.sub_self] at hx
    simp at hx; subst hx; exact g1
  · rw [htake]
    apply List.ext_getElem?
    intro k
    by_cases hk : k < pre.length + 1
    · obtain ⟨x, hx⟩ : ∃ x, (pre ++ [b])[k]? = some x := ⟨(pre ++ [b])[k]'(by simp; omega), List.getElem?_eq_getElem _⟩
      obtain ⟨q1, q2, q3⟩ := hL k x hx
      rw [hx]
      unfold grp
      rw [hns, List.getElem?_map, List.getElem?_range hk, Option.map_some]
      congr 1
      unfold grpS
      have hpk : part (pOf (pre ++ [b])) k = body x := by
        rw [hp]
        refine part_pieces (pre.map body) (body b) k (body x) hpre48 (by omega) ?_
        rw [show pre.map body ++ [body b] = (pre ++ [b]).map body by simp, List.getElem?_map, hx]; rfl
      rw [hns, hpk, show pre.length + 1 - 1 - k = hdL x by omega, ← q2]
      exact q3.symm
    · rw [List.getElem?_eq_none (by rw [grp_len, hns]; omega), List.getElem?_eq_none (by simp; omega)]

/-- Where the document takes no group, Open takes none either. -/
theorem scan_none {gen place : Nat} {out l : List (List UInt8)} (h64 : ∀ s ∈ l, s.length = 64) (hno : ∀ b0, l[0]? = some b0 → ¬ Acc gen place out l (1 + hdL b0)) :
    ∀ (rest pre : List (List UInt8)) (st : SC), pre ++ rest = l → Mid gen place out pre st → (scan gen (place + pre.length) rest st).all = out ∧ (scan gen (place + pre.length) rest st).place = place
  | [], pre, st, _, h => ⟨h.all, h.place⟩
  | b :: r, pre, st, e, h => by
    rw [scan]
    split
    · next hg =>
      have hb64 : b.length = 64 := h64 b (by rw [← e]; simp)
      by_cases h0 : hdL b = 0
      · obtain ⟨b0, q1, q2, q3⟩ := mid_acc h hg h0 hb64 e
        exact absurd (by rw [q2]; exact q3) (hno b0 q1)
      · have hnx : st.next (place + pre.length) b = ⟨st.all, st.cur ++ body b, (hdL b : Int) - 1, st.place⟩ := by unfold SC.next; rw [if_neg h0]
        rw [hnx]
        obtain ⟨m1, m2, m3, m4, m5⟩ := h
        obtain ⟨⟨g1, g2, g3⟩, g4⟩ := hg
        have hS : hdS b = 48 := by clear m5; have := g2 (by omega); omega
        have ih := scan_none h64 hno r (pre ++ [b]) ⟨st.all, st.cur ++ body b, (hdL b : Int) - 1, st.place⟩ (by rw [List.append_assoc]; exact e) ⟨m1, m2, by rw [m3]; simp, ?_, ?_⟩
        · rw [List.length_append, List.length_singleton, ← Nat.add_assoc] at ih; exact ih
        · intro k x hx
          rw [List.getElem?_append] at hx
          split at hx
          · exact m4 k x hx
          · next hk =>
            have hk1 := (List.getElem?_eq_some_iff.1 hx).1
            have hk0 : k = pre.length := by simp at hk1; omega
            subst hk0
            simp at hx; subst hx
            rw [m1, hS] at g4
            exact ⟨hS, g4.symm, hb64⟩
        · right
          rcases m5 with ⟨e0, _⟩ | ⟨L0, d1, d2, d3⟩
          · subst e0
            refine ⟨hdL b, by simp; omega, by simp, fun k x hx => ?_⟩
            have hk1 := (List.getElem?_eq_some_iff.1 hx).1
            have hk0 : k = 0 := by simp at hk1; omega
            subst hk0
            simp at hx; subst hx; omega
          · have q1 := (g3 (by omega)).1
            rw [d2] at q1
            refine ⟨L0, by simp; omega, by simp; omega, fun k x hx => ?_⟩
            rw [List.getElem?_append] at hx
            split at hx
            · exact d3 k x hx
            · next hk =>
              have hk1 := (List.getElem?_eq_some_iff.1 hx).1
              have hk0 : k = pre.length := by simp at hk1; omega
              subst hk0
              simp at hx; subst hx; omega
    · exact ⟨h.all, h.place⟩
theorem scan_not {gen place : Nat} {out l : List (List UInt8)} (h64 : ∀ s ∈ l, s.length = 64) (hno : ∀ b0, l[0]? = some b0 → ¬ Acc gen place out l (1 + hdL b0)) :
    (scan gen place l ⟨out, [], -1, place⟩).all = out ∧ (scan gen place l ⟨out, [], -1, place⟩).place = place :=
  scan_none h64 hno l [] ⟨out, [], -1, place⟩ rfl ⟨rfl, rfl, rfl, by simp, .inl ⟨rfl, rfl⟩⟩
theorem scan_acc {gen place n : Nat} {out l : List (List UInt8)} (hn : n ≤ 60000) (h : Acc gen place out l n) :
    scan gen place l ⟨out, [], -1, place⟩ = scan gen (place + n) (l.drop n) ⟨out ++ [pOf (l.take n)], [], -1, place + n⟩ := by
  obtain ⟨h1, h2, h3, h4⟩ := h
  have := scan_grp (st := ⟨out, [], -1, place⟩) (gen := gen) (p := place) (x := pOf (l.take n)) (rest := l.drop n) rfl rfl (by omega)
  simp only at this
  rw [h4, h3, List.take_append_drop] at this
  exact this

end Go.Proofs.Ytfhmnodoahcmnaa
