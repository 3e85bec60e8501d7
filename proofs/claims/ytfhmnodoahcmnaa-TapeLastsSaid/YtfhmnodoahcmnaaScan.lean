/-
  Chapter 14, plain facts: what Open reads of sectors that Append wrote.
-/
import Derived.Test.YtfhmnodoahcmnaaAwake14
namespace Go.Proofs.Ytfhmnodoahcmnaa
open Go Go.Vc

/-! ## The parts of a sector -/
section
variable {gen place group left size : Nat} {p : List UInt8}

theorem drop_sec (k : Nat) (_ : k ≤ 60) : (sec gen place group left size p).drop (4 + k) = (secBody gen place group left size p).drop k := by
  unfold sec
  rw [← List.drop_drop, List.drop_left' (be_len _ _)]
theorem hdL_sec (h : left < 65536) : hdL (sec gen place group left size p) = left := by
  unfold hdL
  rw [show 12 = 4 + 8 from rfl, drop_sec 8 (by decide)]
  unfold secBody
  have e : be 4 gen ++ be 2 place ++ be 2 group ++ be 2 left ++ be 2 size ++ p ++ List.replicate (48 - p.length) 0 = (be 4 gen ++ be 2 place ++ be 2 group) ++ (be 2 left ++ (be 2 size ++ p ++ List.replicate (48 - p.length) 0)) := by simp
  rw [e, List.drop_left' (by simp [be_len]), List.take_left' (be_len _ _), beVal_be]
  omega
theorem hdS_sec (h : size < 65536) : hdS (sec gen place group left size p) = size := by
  unfold hdS
  rw [show 14 = 4 + 10 from rfl, drop_sec 10 (by decide)]
  unfold secBody
  have e : be 4 gen ++ be 2 place ++ be 2 group ++ be 2 left ++ be 2 size ++ p ++ List.replicate (48 - p.length) 0 = (be 4 gen ++ be 2 place ++ be 2 group ++ be 2 left) ++ (be 2 size ++ (p ++ List.replicate (48 - p.length) 0)) := by simp
  rw [e, List.drop_left' (by simp [be_len]), List.take_left' (be_len _ _), beVal_be]
  omega
theorem body_sec (h : size = p.length) (h48 : size ≤ 48) : body (sec gen place group left size p) = p := by
  unfold body
  rw [hdS_sec (by omega), show 16 = 4 + 12 from rfl, drop_sec 12 (by decide)]
  unfold secBody
  have e : be 4 gen ++ be 2 place ++ be 2 group ++ be 2 left ++ be 2 size ++ p ++ List.replicate (48 - p.length) 0 = (be 4 gen ++ be 2 place ++ be 2 group ++ be 2 left ++ be 2 size) ++ (p ++ List.replicate (48 - p.length) 0) := by simp
  rw [e, List.drop_left' (by simp [be_len]), List.take_left' h.symm]
end

/-- A sector's first bytes are the sum of its others. -/
def Summed (b : List UInt8) : Prop := b.take 4 = be 4 (crc (b.drop 4))
theorem sec_summed {gen place group left size : Nat} {p : List UInt8} : Summed (sec gen place group left size p) := by
  unfold Summed sec
  rw [List.take_left' (be_len _ _), List.drop_left' (be_len _ _)]
theorem good_summed {st : SC} {gen i : Nat} {b : List UInt8} (h : st.good gen i b) : Summed b := by rw [← h.2]; exact sec_summed
theorem turned {b : List UInt8} {k : Nat} {x y : UInt8} (hs : Summed b) (hk : b[k]? = some x) (hy : y ≠ x) : ¬ Summed (b.set k y) := by
  intro h
  unfold Summed at hs h
  have hlt := (List.getElem?_eq_some_iff.1 hk).1
  by_cases h4 : k < 4
  · rw [List.drop_set_of_lt (by omega), ← hs] at h
    have := congrArg (fun l => l[k]?) h
    simp only [List.getElem?_take, if_pos h4, List.getElem?_set, hlt, if_true] at this
    rw [hk] at this
    exact hy (by simpa using this)
  · rw [List.take_set_of_le (by omega), hs, List.drop_set, if_neg (by omega)] at h
    have h1 := be_inj h (by have := crc_lt (b.drop 4); omega) (by have := crc_lt ((b.drop 4).set (k - 4) y); omega)
    refine crc_set (p := b.drop 4) (i := k - 4) (b := x) (c := y) ?_ hy h1.symm
    rw [List.getElem?_drop, show 4 + (k - 4) = k by omega]; exact hk

/-! ## Groups behind one another -/

def lays (gen : Nat) : Nat → Nat → List (List UInt8) → List (List UInt8)
  | _, _, [] => []
  | p, g, x :: r => grp gen p g x ++ lays gen (p + nsec x.length) (g + 1) r
/-- How many of the groups end within so many sectors. -/
def cnt : List (List UInt8) → Nat → Nat
  | [], _ => 0
  | x :: r, m => if nsec x.length ≤ m then cnt r (m - nsec x.length) + 1 else 0
def secsOf (gs : List (List UInt8)) : Nat := (gs.map fun x => nsec x.length).sum
theorem lays_len (gen : Nat) : ∀ (gs : List (List UInt8)) (p g : Nat), (lays gen p g gs).length = secsOf gs
  | [], _, _ => rfl
  | x :: r, p, g => by simp only [lays, List.length_append, grp_len, lays_len gen r]; simp [secsOf]
theorem lays_snoc (gen : Nat) : ∀ (gs : List (List UInt8)) (p g : Nat) (x : List UInt8), lays gen p g (gs ++ [x]) = lays gen p g gs ++ grp gen (p + secsOf gs) (g + gs.length) x
  | [], p, g, x => by simp [lays, secsOf]
  | y :: r, p, g, x => by
    rw [List.cons_append, lays, lays, lays_snoc gen r, List.append_assoc]
    congr 3
    · simp [secsOf]; omega
    · simp; omega
theorem secsOf_snoc (gs : List (List UInt8)) (x : List UInt8) : secsOf (gs ++ [x]) = secsOf gs + nsec x.length := by simp [secsOf]
theorem secsOf_ge : ∀ gs : List (List UInt8), gs.length ≤ secsOf gs
  | [] => Nat.le_refl _
  | x :: r => by have := secsOf_ge r; have := nsec_pos x.length; simp [secsOf] at *; omega
theorem cnt_le : ∀ (gs : List (List UInt8)) (m : Nat), cnt gs m ≤ gs.length
  | [], _ => Nat.le_refl _
  | x :: r, m => by unfold cnt; split; have := cnt_le r (m - nsec x.length); simp; omega; simp

/-- Where the reading stands behind so many sectors of a group. -/
def mid (st : SC) (x : List UInt8) (j : Nat) : SC := if j = 0 then st else ⟨st.all, x.take (48 * j), (nsec x.length : Int) - 1 - j, st.place⟩

theorem grp_good {st : SC} {gen p : Nat} {x : List UInt8} {j : Nat} (hd : st.due = -1) (hn : nsec x.length ≤ 60000) (hj : j < nsec x.length) : (mid st x j).good gen (p + j) (grpS gen p st.all.length x j) := by
  have hpl := part_len x j
  have hL : hdL (grpS gen p st.all.length x j) = nsec x.length - 1 - j := hdL_sec (by omega)
  have hS : hdS (grpS gen p st.all.length x j) = (part x j).length := hdS_sec (by omega)
  have hB : body (grpS gen p st.all.length x j) = part x j := body_sec rfl hpl
  have hP : (part x j).length = min 48 (x.length - 48 * j) := by unfold part; rw [List.length_take, List.length_drop]
  have hdue : (mid st x j).due = if j = 0 then -1 else (nsec x.length : Int) - 1 - j := by unfold mid; split <;> simp [hd]
  have hall : (mid st x j).all = st.all := by unfold mid; split <;> rfl
  refine ⟨⟨by rw [hS]; omega, fun h0 => ?_, fun h0 => ?_⟩, ?_⟩
  · rw [hL] at h0; rw [hS, hP]
    have : 48 * (j + 1) ≤ x.length := by unfold nsec at h0; omega
    omega
  · rw [hdue] at h0 ⊢
    split at h0
    · omega
    · next hj0 =>
      rw [if_neg hj0, hL, hS, hP]
      refine ⟨by omega, ?_⟩
      unfold nsec at hj; omega
  · rw [hL, hS, hB, hall]; rfl

theorem mid_next {st : SC} {gen p : Nat} {x : List UInt8} {j : Nat} (hc : st.cur = []) (hn : nsec x.length ≤ 60000) (hj : j < nsec x.length) :
    (mid st x j).next (p + j) (grpS gen p st.all.length x j) = if j + 1 = nsec x.length then ⟨st.all ++ [x], [], -1, p + nsec x.length⟩ else mid st x (j + 1) := by
  have hpl := part_len x j
  have hL : hdL (grpS gen p st.all.length x j) = nsec x.length - 1 - j := hdL_sec (by omega)
  have hB : body (grpS gen p st.all.length x j) = part x j := body_sec rfl hpl
  have hall : (mid st x j).all = st.all := by unfold mid; split <;> rfl
  have hplace : (mid st x j).place = st.place := by unfold mid; split <;> rfl
  have hcur : (mid st x j).cur = x.take (48 * j) := by
    unfold mid; split
    · next h => subst h; simp [hc]
    · rfl
  have hcat : x.take (48 * j) ++ part x j = x.take (48 * (j + 1)) := by
    unfold part
    rw [show 48 * (j + 1) = 48 * j + 48 by omega, List.take_add]
  unfold SC.next
  rw [hL, hB, hall, hcur, hcat, hplace]
  by_cases he : j + 1 = nsec x.length
  · rw [if_pos he, if_pos (by omega), List.take_of_length_le (by unfold nsec at he; omega)]
    congr 1; omega
  · rw [if_neg he, if_neg (by omega)]
    unfold mid
    rw [if_neg (by omega)]
    congr 1
    omega

/-- Whatever comes is refused: the reading ends. -/
def Ends (gen : Nat) (rest : List (List UInt8)) : Prop := ∀ b r, rest = b :: r → ∀ (st : SC) (i : Nat), ¬ st.good gen i b
theorem scan_ends {gen i : Nat} {rest : List (List UInt8)} {st : SC} (h : Ends gen rest) : scan gen i rest st = st := by
  cases rest with
  | nil => rfl
  | cons b r => rw [scan, if_neg (h b r rfl st i)]

/-- From within a group on: as many of its sectors as there are. -/
theorem scan_part {st : SC} {gen p : Nat} {x : List UInt8} {rest : List (List UInt8)} (hc : st.cur = []) (hd : st.due = -1) (hn : nsec x.length ≤ 60000) :
    ∀ (k j m : Nat), m - j = k → j ≤ m → m < nsec x.length → scan gen (p + j) (((grp gen p st.all.length x).take m).drop j ++ rest) (mid st x j) = scan gen (p + m) rest (mid st x m)
  | 0, j, m, hk, hj, hm => by
    have : j = m := by omega
    subst this
    rw [List.drop_of_length_le (by rw [List.length_take]; omega), List.nil_append]
  | k + 1, j, m, hk, hj, hm => by
    have hcons : ((grp gen p st.all.length x).take m).drop j = grpS gen p st.all.length x j :: ((grp gen p st.all.length x).take m).drop (j + 1) := by
      rw [List.drop_eq_getElem_cons (by rw [List.length_take, grp_len]; omega)]
      congr 1
      simp [grp]
    rw [hcons, List.cons_append, scan, if_pos (grp_good hd hn (by omega)), mid_next hc hn (by omega), if_neg (by omega)]
    exact scan_part hc hd hn k (j + 1) m (by omega) (by omega) hm
/-- A whole group. -/
theorem scan_grp {st : SC} {gen p : Nat} {x : List UInt8} {rest : List (List UInt8)} (hc : st.cur = []) (hd : st.due = -1) (hn : nsec x.length ≤ 60000) :
    scan gen p (grp gen p st.all.length x ++ rest) st = scan gen (p + nsec x.length) rest ⟨st.all ++ [x], [], -1, p + nsec x.length⟩ := by
  have hp := nsec_pos x.length
  obtain ⟨n, hnn⟩ : ∃ n, nsec x.length = n + 1 := ⟨nsec x.length - 1, by omega⟩
  have hlast : grp gen p st.all.length x = ((grp gen p st.all.length x).take n).drop 0 ++ [grpS gen p st.all.length x n] := by
    rw [List.drop_zero]
    have h1 : (grp gen p st.all.length x).drop n = [grpS gen p st.all.length x n] := by
      rw [grp_drop (by omega), List.drop_of_length_le (by rw [grp_len]; omega)]
    conv => lhs; rw [← List.take_append_drop n (grp gen p st.all.length x), h1]
  rw [hlast, List.append_assoc]
  have h0 := scan_part (gen := gen) (p := p) (rest := [grpS gen p st.all.length x n] ++ rest) hc hd hn n 0 n rfl (Nat.zero_le _) (by omega)
  rw [show mid st x 0 = st from rfl, Nat.add_zero] at h0
  rw [h0, List.singleton_append, scan, if_pos (grp_good hd hn (by omega)), mid_next hc hn (by omega), if_pos hnn.symm]
  rw [hnn]; rfl

/-- So many sectors of groups behind one another, then the end: just the groups that end within. -/
theorem scan_lays {gen : Nat} {rest : List (List UInt8)} (he : Ends gen rest) : ∀ (gs : List (List UInt8)) (p : Nat) (st : SC) (m : Nat), st.cur = [] → st.due = -1 → (∀ x ∈ gs, nsec x.length ≤ 60000) → m ≤ secsOf gs →
    (scan gen p ((lays gen p st.all.length gs).take m ++ rest) st).all = st.all ++ gs.take (cnt gs m)
  | [], p, st, m, hc, hd, hx, hm => by
    have : m = 0 := by simpa [secsOf] using hm
    subst this
    simp only [lays, List.take_nil, List.nil_append]
    rw [scan_ends he]; simp
  | x :: r, p, st, m, hc, hd, hx, hm => by
    have hnx := hx x (by simp)
    simp only [lays, cnt]
    split
    · next hle =>
      rw [List.take_append, grp_len, List.take_of_length_le (by rw [grp_len]; exact hle), List.append_assoc, scan_grp hc hd hnx]
      have hm' : m - nsec x.length ≤ secsOf r := by simp only [secsOf, List.map_cons, List.sum_cons] at hm ⊢; omega
      have ih := scan_lays he r (p + nsec x.length) ⟨st.all ++ [x], [], -1, p + nsec x.length⟩ (m - nsec x.length) rfl rfl (fun y hy => hx y (by simp [hy])) hm'
      simp only [List.length_append, List.length_singleton] at ih
      rw [ih]; simp
    · next hlt =>
      rw [List.take_append_of_le_length (by rw [grp_len]; omega)]
      have h0 := scan_part (gen := gen) (p := p) (rest := rest) hc hd hnx m 0 m rfl (Nat.zero_le _) (by omega)
      rw [show mid st x 0 = st from rfl, Nat.add_zero, List.drop_zero] at h0
      rw [h0, scan_ends he]
      unfold mid; split <;> simp
theorem opened_lays {gen : Nat} {rest : List (List UInt8)} (he : Ends gen rest) {gs : List (List UInt8)} {m : Nat} (hx : ∀ x ∈ gs, nsec x.length ≤ 60000) (hm : m ≤ secsOf gs) :
    (opened gen ((lays gen 0 0 gs).take m ++ rest)).all = gs.take (cnt gs m) := by
  have := scan_lays he gs 0 SC.zero m rfl rfl hx hm
  simpa [opened, SC.zero] using this

end Go.Proofs.Ytfhmnodoahcmnaa
