/-
  A tree in memory of its own, changed at one node.
-/
import Derived.Test.YtkgfbphdmnapdaaGreatDoorBare
set_option linter.unusedVariables false
set_option linter.unusedSimpArgs false
namespace Go.Vc
open Go Go.Lib
/-- Where the node at a path lies, and which it is. -/
def addrAt : Addr → NV → List Int → Option (Addr × NV)
  | a, v, [] => some (a, v)
  | a, .mk _ _ _ _ _ _ _ _ kp _ _ ks, i :: r => if i < 0 then none else match ks[i.toNat]?, kp with
    | some x, some b => addrAt ⟨b.block, b.off + i.toNat * 6, b.spot⟩ x r
    | _, _ => none
/-- A tree with another node at a path. -/
def setAt : Nd → List Int → Nd → Nd
  | _, [], y => y
  | .mk k u l t ats ks, i :: r, y => match ks[i.toNat]? with
    | some x => .mk k u l t ats (ks.set i.toNat (setAt x r y))
    | none => .mk k u l t ats ks
theorem bsL_set {ks : List NV} {i : Nat} {x y : NV} (h : ks[i]? = some x) : NV.bsL (ks.set i y) = NV.bsL (ks.take i) ++ (y.bs ++ NV.bsL (ks.drop (i + 1))) := by
  obtain ⟨hi, rfl⟩ := List.getElem?_eq_some_iff.1 h
  rw [List.set_eq_take_append_cons_drop, if_pos hi, bsL_append, NV.bsL]
theorem bsL_get {ks : List NV} {i : Nat} {x : NV} (h : ks[i]? = some x) : NV.bsL ks = NV.bsL (ks.take i) ++ (x.bs ++ NV.bsL (ks.drop (i + 1))) := by
  have e := bsL_set (y := x) h
  obtain ⟨hi, rfl⟩ := List.getElem?_eq_some_iff.1 h
  rwa [List.set_getElem_self] at e
theorem rows_set_same {α : Type} {f : α → List Value} {L : List α} {i : Nat} {x y : α} (h : L[i]? = some x) (e : f y = f x) : rows f (L.set i y) = rows f L := by
  obtain ⟨hi, rfl⟩ := List.getElem?_eq_some_iff.1 h
  have h1 : rows f (L.set i y) = rows f (L.take i) ++ (f y ++ rows f (L.drop (i + 1))) := by
    rw [List.set_eq_take_append_cons_drop, if_pos hi, rows_append, rows_cons]
  have h2 : rows f L = rows f (L.take i) ++ (f L[i] ++ rows f (L.drop (i + 1))) := by
    conv => lhs; rw [← List.take_append_drop i L, List.drop_eq_getElem_cons hi]
    rw [rows_append, rows_cons]
  rw [h1, h2, e]
theorem cells_len (v : NV) : v.cells.length = 6 := by cases v; rfl
theorem cellsAt_eq {w : World} {a : Addr} {xs ys : List Value} (h1 : cellsAt w a xs) (h2 : cellsAt w a ys) (h : xs.length = ys.length) : xs = ys := by
  refine List.ext_getElem? fun j => ?_
  rcases Nat.lt_or_ge j xs.length with hj | hj
  · have a1 := h1 j _ (List.getElem?_eq_getElem hj)
    have a2 := h2 j _ (List.getElem?_eq_getElem (show j < ys.length by omega))
    rw [List.getElem?_eq_getElem hj, List.getElem?_eq_getElem (show j < ys.length by omega)]
    rw [a1] at a2; exact a2
  · rw [List.getElem?_eq_none hj, List.getElem?_eq_none (by omega)]
theorem splice_get {cs vs : List Value} {off : Nat} (ho : off + vs.length ≤ cs.length) (j : Nat) : (splice cs off vs)[j]? = if off ≤ j ∧ j < off + vs.length then vs[j - off]? else cs[j]? := by
  unfold splice
  by_cases h1 : j < off
  · rw [if_neg (by omega), List.append_assoc, List.getElem?_append_left (by rw [List.length_take]; omega), List.getElem?_take_of_lt h1]
  · by_cases h2 : j < off + vs.length
    · rw [if_pos ⟨by omega, h2⟩, List.getElem?_append_left (by rw [List.length_append, List.length_take]; omega), List.getElem?_append_right (by rw [List.length_take]; omega), List.length_take]
      congr 1; omega
    · rw [if_neg (by omega), List.getElem?_append_right (by rw [List.length_append, List.length_take]; omega), List.length_append, List.length_take, List.getElem?_drop]
      congr 1; omega
end Go.Vc
namespace Go.Proofs.YtkgfbphdmnapdaaGreatDoor
open Go Go.Vc Go.Lib
/-- A tree of memory of its own whose first node lies at a place. -/
structure TreeAt (w : World) (a : Addr) (v : NV) : Prop where
  cs : cellsAt w a v.cells
  own : Own w v
  nd : v.bs.Nodup
  off : ¬ a.block ∈ v.bs
section
variable {w w' : World}
theorem addrAt_in {v : NV} {b : Addr} {y : NV} : ∀ {r : List Int} {a : Addr} {v : NV}, addrAt a v r = some (b, y) → (r = [] ∧ b = a ∧ y = v) ∨ (b.block ∈ v.bs ∧ ∀ z ∈ y.bs, z ∈ v.bs)
  | [], a, v, h => by simp only [addrAt, Option.some.injEq, Prod.mk.injEq] at h; exact .inl ⟨rfl, h.1.symm, h.2.symm⟩
  | i :: r, a, .mk k u l t ap al ac ats kp kl kc ks, h => by
    right
    simp only [addrAt] at h
    split at h
    · cases h
    split at h
    · next x c hx =>
      have hm := List.mem_of_getElem? hx
      simp only [NV.bs, List.mem_append]
      rcases addrAt_in (v := v) h with ⟨rfl, rfl, rfl⟩ | ⟨h1, h2⟩
      · exact ⟨.inr (.inl (List.mem_singleton.2 rfl)), fun z hz => .inr (.inr (bsL_mem hm hz))⟩
      · exact ⟨.inr (.inr (bsL_mem hm h1)), fun z hz => .inr (.inr (bsL_mem hm (h2 z hz)))⟩
    · cases h
/-- What is written at one node, and in what lies below it, leaves a tree. -/
theorem TreeAt.upd {b : Addr} {y y' : NV} {cs : List Value} {e : TypeId} (hc : Chg (fun z => z = b.block ∨ z ∈ y.bs) w w') (hb : w.heap[b.block]? = some (.cells ⟨cs⟩ e (0, 0))) (hb' : w'.heap[b.block]? = some (.cells ⟨splice cs b.off y'.cells⟩ e (0, 0))) (hbo : b.off + 6 ≤ cs.length)
    (ho : Own w' y') (hn : y'.bs.Nodup) (hbs : ∀ z ∈ y'.bs, z ∈ y.bs ∨ w.heap.size ≤ z) :
    ∀ {r : List Int} {a : Addr} {v : NV}, a.spot = none → TreeAt w a v → addrAt a v r = some (b, y) →
      ∃ v', TreeAt w' a v' ∧ v'.nd = setAt v.nd r y'.nd ∧ (∀ z ∈ v'.bs, z ∈ v.bs ∨ w.heap.size ≤ z)
  | [], a, v, hs, hT, h => by
    simp only [addrAt, Option.some.injEq, Prod.mk.injEq] at h
    obtain ⟨rfl, rfl⟩ := h
    refine ⟨y', ⟨?_, ho, hn, fun hI => ?_⟩, rfl, hbs⟩
    · have h1 := cellsAt_heap (off := a.off) hb'
      obtain ⟨ab, ao, as'⟩ := a
      simp only at hs h1 hbo
      subst hs
      have h2 := cellsAt_take 6 h1
      intro j x hx
      refine h2 j x ?_
      have hj := (List.getElem?_eq_some_iff.1 hx).1
      rw [cells_len] at hj
      rw [List.getElem?_take_of_lt hj, List.getElem?_drop, splice_get (by rw [cells_len]; exact hbo), if_pos (by rw [cells_len]; omega), Nat.add_sub_cancel_left]
      exact hx
    · rcases hbs _ hI with h | h
      · exact hT.off h
      · have := lt_of_heap hb; omega
  | i :: r, a, .mk k u l t ap al ac ats kp kl kc ks, hs, hT, h => by
    have hin := addrAt_in (v := y) h
    simp only [addrAt] at h
    split at h
    · cases h
    rename_i hi0
    split at h
    rotate_left
    · cases h
    rename_i x c hx
    have hxm := List.mem_of_getElem? hx
    have hlt := hT.own.lt
    obtain ⟨hTc, hTo, hTn, hTf⟩ := hT
    cases hTo with
    | mk ha hk hks =>
    have hkl := hk.sl.row (even_node ks) (by decide)
    have hil := (List.getElem?_eq_some_iff.1 hx).1
    obtain ⟨kb, rest, e1, hkb, hlc, hcm, hcl⟩ := hk.some0 (show kl ≠ 0 by omega)
    cases e1
    simp only [Nat.zero_add] at h
    have ebs : (NV.mk k u l t ap al ac ats (some ⟨kb, 0, none⟩) kl kc ks).bs = blkL ap ++ ([kb] ++ NV.bsL ks) := by simp only [NV.bs, blkL]
    rw [ebs] at hTn hTf hlt
    obtain ⟨hnA, hnR, hdA⟩ := List.nodup_append.1 hTn
    obtain ⟨hnK, hnL, hdK⟩ := List.nodup_append.1 hnR
    have eL := bsL_get hx
    rw [eL] at hnL
    obtain ⟨hn1, hn2, hd1⟩ := List.nodup_append.1 hnL
    obtain ⟨hn3, hn4, hd2⟩ := List.nodup_append.1 hn2
    have hxL : ∀ z ∈ x.bs, z ∈ NV.bsL ks := fun z hz => bsL_mem hxm hz
    have hkx : ¬ kb ∈ x.bs := fun hh => hdK kb (List.mem_singleton.2 rfl) kb (hxL kb hh) rfl
    have hrl : (rows NV.cells ks).length = ks.length * 6 := rows_len (even_node ks)
    have hxc : cellsAt w ⟨kb, i.toNat * 6, none⟩ x.cells := by
      have h1 := cellsAt_heap (off := i.toNat * 6) hkb
      have h2 := cellsAt_take 6 h1
      intro j z hz
      have hj := (List.getElem?_eq_some_iff.1 hz).1
      rw [cells_len] at hj
      refine h2 j z ?_
      rw [List.getElem?_take_of_lt hj, List.getElem?_drop, List.getElem?_append_left (by rw [hrl]; have := Nat.mul_le_mul_right 6 (show i.toNat + 1 ≤ ks.length from hil); omega), rows_at (even_node ks) hx hj]
      exact hz
    have hTx : TreeAt w ⟨kb, i.toNat * 6, none⟩ x := ⟨hxc, hks x hxm, hn3, hkx⟩
    obtain ⟨x', hTx', hxnd, hxbs⟩ := TreeAt.upd hc hb hb' hbo ho hn hbs (r := r) (a := ⟨kb, i.toNat * 6, none⟩) (v := x) rfl hTx h
    -- what has changed lies in the list of kids, or below this kid
    have hch : Chg (fun z => z = kb ∨ z ∈ x.bs) w w' := hc.mono fun z hz hI => by
      rcases addrAt_in (v := y) h with ⟨_, rfl, rfl⟩ | ⟨g1, g2⟩
      · exact hI
      · rcases hI with rfl | hI
        · exact .inr g1
        · exact .inr (g2 z hI)
    have offA : ∀ z ∈ blkL ap, ¬ (z = kb ∨ z ∈ x.bs) := fun z hz hI => by
      rcases hI with rfl | hI
      · exact hdA z hz z (List.mem_append_left _ (List.mem_singleton.2 rfl)) rfl
      · exact hdA z hz z (List.mem_append_right _ (hxL z hI)) rfl
    have hcl' : (rows NV.cells (ks.set i.toNat x')).length = ks.length * 6 := by rw [rows_len (even_node _), List.length_set]
    have hk' : Row w' T_api_Node 6 (some ⟨kb, 0, none⟩) kl kc (rows NV.cells (ks.set i.toNat x')) := by
      refine ⟨by rw [hcl', hkl], .inr ⟨kb, rest, rfl, ?_, hlc, hcm, by rw [List.length_append, hcl', ← hrl, ← List.length_append]; exact hcl⟩⟩
      cases r with
      | nil =>
        simp only [addrAt, Option.some.injEq, Prod.mk.injEq] at h
        obtain ⟨rfl, rfl⟩ := h
        simp only at hb hb' hbo
        rw [hkb] at hb
        simp only [Option.some.injEq, Obj.cells.injEq, Array.mk.injEq] at hb
        obtain ⟨rfl, rfl, _⟩ := hb
        have hx'y : x'.cells = y'.cells := by
          refine cellsAt_eq hTx'.cs ?_ (by rw [cells_len, cells_len])
          have h1 := cellsAt_take 6 (cellsAt_heap (off := i.toNat * 6) hb')
          intro j z hz
          have hj := (List.getElem?_eq_some_iff.1 hz).1
          rw [cells_len] at hj
          refine h1 j z ?_
          rw [List.getElem?_take_of_lt hj, List.getElem?_drop, splice_get (by rw [cells_len]; exact hbo), if_pos (by rw [cells_len]; omega), Nat.add_sub_cancel_left]
          exact hz
        rw [hb', splice_append (by rw [cells_len, hrl]; have := Nat.mul_le_mul_right 6 (show i.toNat + 1 ≤ ks.length from hil); omega), ← hx'y, rows_splice (even_node ks) hil (cells_len x')]
      | cons j r' =>
        have hbx : b.block ∈ x.bs ∧ ∀ z ∈ y.bs, z ∈ x.bs := by
          rcases addrAt_in (v := y) h with ⟨h0, _⟩ | g
          · cases h0
          · exact g
        have hkb' := hc.heap hkb (fun hI => by
          rcases hI with hI | hI
          · exact hkx (hI ▸ hbx.1)
          · exact hkx (hbx.2 _ hI))
        have hxx : x'.cells = x.cells := by
          refine cellsAt_eq hTx'.cs ?_ (by rw [cells_len, cells_len])
          have h1 := cellsAt_take 6 (cellsAt_heap (off := i.toNat * 6) hkb')
          intro j z hz
          have hj := (List.getElem?_eq_some_iff.1 hz).1
          rw [cells_len] at hj
          refine h1 j z ?_
          rw [List.getElem?_take_of_lt hj, List.getElem?_drop, List.getElem?_append_left (by rw [hrl]; have := Nat.mul_le_mul_right 6 (show i.toNat + 1 ≤ ks.length from hil); omega), rows_at (even_node ks) hx hj]
          exact hz
        rw [hkb', rows_set_same hx hxx]
    have hL1 : ∀ z ∈ NV.bsL (ks.take i.toNat), z ∈ NV.bsL ks := fun z hz => by rw [eL]; exact List.mem_append_left _ hz
    have hL2 : ∀ z ∈ NV.bsL (ks.drop (i.toNat + 1)), z ∈ NV.bsL ks := fun z hz => by rw [eL]; exact List.mem_append_right _ (List.mem_append_right _ hz)
    have hltL : ∀ z ∈ NV.bsL ks, z < w.heap.size := fun z hz => hlt z (List.mem_append_right _ (List.mem_append_right _ hz))
    have ebs' : (NV.mk k u l t ap al ac ats (some ⟨kb, 0, none⟩) kl kc (ks.set i.toNat x')).bs = blkL ap ++ ([kb] ++ (NV.bsL (ks.take i.toNat) ++ (x'.bs ++ NV.bsL (ks.drop (i.toNat + 1))))) := by
      simp only [NV.bs, blkL, bsL_set hx]
    have hkblt : kb < w.heap.size := lt_of_heap hkb
    have hsub : ∀ z ∈ (NV.mk k u l t ap al ac ats (some ⟨kb, 0, none⟩) kl kc (ks.set i.toNat x')).bs, z ∈ blkL ap ++ ([kb] ++ NV.bsL ks) ∨ w.heap.size ≤ z := by
      rw [ebs']
      intro z hz
      rcases List.mem_append.1 hz with hz | hz
      · exact .inl (List.mem_append_left _ hz)
      rcases List.mem_append.1 hz with hz | hz
      · exact .inl (List.mem_append_right _ (List.mem_append_left _ hz))
      rcases List.mem_append.1 hz with hz | hz
      · exact .inl (List.mem_append_right _ (List.mem_append_right _ (hL1 z hz)))
      rcases List.mem_append.1 hz with hz | hz
      · rcases hxbs z hz with h1 | h1
        · exact .inl (List.mem_append_right _ (List.mem_append_right _ (hxL z h1)))
        · exact .inr h1
      · exact .inl (List.mem_append_right _ (List.mem_append_right _ (hL2 z hz)))
    refine ⟨.mk k u l t ap al ac ats (some ⟨kb, 0, none⟩) kl kc (ks.set i.toNat x'), ⟨?_, .mk ?_ hk' ?_, ?_, ?_⟩, ?_, ?_⟩
    · exact hch.cells hTc (fun hI => hTf (by
        rcases hI with hI | hI
        · exact List.mem_append_right _ (List.mem_append_left _ (by rw [hI]; exact List.mem_singleton.2 rfl))
        · exact List.mem_append_right _ (List.mem_append_right _ (hxL _ hI))))
    · exact ha.chg hch fun a e => by subst e; exact offA _ (List.mem_singleton.2 rfl)
    · intro z hz
      obtain ⟨j, hj⟩ := List.mem_iff_getElem?.1 hz
      by_cases hji : j = i.toNat
      · subst hji
        rw [List.getElem?_set_self hil] at hj
        rw [← Option.some.inj hj]; exact hTx'.own
      · rw [List.getElem?_set_ne (Ne.symm hji)] at hj
        have hzm := List.mem_of_getElem? hj
        refine (hks z hzm).chg hch fun q hq hI => ?_
        rcases hI with rfl | hI
        · exact hdK q (List.mem_singleton.2 rfl) q (bsL_mem hzm hq) rfl
        · rcases Nat.lt_or_ge j i.toNat with h1 | h1
          · have hzt : z ∈ ks.take i.toNat := by
              refine List.mem_of_getElem? (i := j) ?_
              rw [List.getElem?_take_of_lt h1]; exact hj
            exact hd1 q (bsL_mem hzt hq) q (List.mem_append_left _ hI) rfl
          · have hzt : z ∈ ks.drop (i.toNat + 1) := by
              refine List.mem_of_getElem? (i := j - (i.toNat + 1)) ?_
              rw [List.getElem?_drop, show i.toNat + 1 + (j - (i.toNat + 1)) = j by omega]; exact hj
            exact hd2 q hI q (bsL_mem hzt hq) rfl
    · rw [ebs']
      refine List.nodup_append.2 ⟨hnA, List.nodup_append.2 ⟨hnK, List.nodup_append.2 ⟨hn1, List.nodup_append.2 ⟨hTx'.nd, hn4, fun a1 h1 b1 h2 e => ?_⟩, fun a1 h1 b1 h2 e => ?_⟩, fun a1 h1 b1 h2 e => ?_⟩, fun a1 h1 b1 h2 e => ?_⟩
      · subst e
        rcases hxbs a1 h1 with g | g
        · exact hd2 a1 g a1 h2 rfl
        · have := hltL a1 (hL2 a1 h2); omega
      · subst e
        rcases List.mem_append.1 h2 with h2 | h2
        · rcases hxbs a1 h2 with g | g
          · exact hd1 a1 h1 a1 (List.mem_append_left _ g) rfl
          · have := hltL a1 (hL1 a1 h1); omega
        · exact hd1 a1 h1 a1 (List.mem_append_right _ h2) rfl
      · subst e
        rw [List.mem_singleton] at h1
        rcases List.mem_append.1 h2 with h2 | h2
        · exact hdK a1 (List.mem_singleton.2 h1) a1 (hL1 a1 h2) rfl
        rcases List.mem_append.1 h2 with h2 | h2
        · rcases hxbs a1 h2 with g | g
          · exact hkx (h1 ▸ g)
          · omega
        · exact hdK a1 (List.mem_singleton.2 h1) a1 (hL2 a1 h2) rfl
      · subst e
        have hlta : a1 < w.heap.size := hlt a1 (List.mem_append_left _ h1)
        rcases List.mem_append.1 h2 with h2 | h2
        · exact hdA a1 h1 a1 (List.mem_append_left _ h2) rfl
        rcases List.mem_append.1 h2 with h2 | h2
        · exact hdA a1 h1 a1 (List.mem_append_right _ (hL1 a1 h2)) rfl
        rcases List.mem_append.1 h2 with h2 | h2
        · rcases hxbs a1 h2 with g | g
          · exact hdA a1 h1 a1 (List.mem_append_right _ (hxL a1 g)) rfl
          · omega
        · exact hdA a1 h1 a1 (List.mem_append_right _ (hL2 a1 h2)) rfl
    · intro hI
      rcases hsub _ hI with g | g
      · exact hTf g
      · have := lt_of_cell (hTc 0 _ (by simp [NV.cells]; rfl))
        rw [Addr.add_block] at this
        omega
    · rw [nd_kids, nd_kids, setAt]
      simp only [List.getElem?_map, hx, Option.map_some, List.map_set, hxnd]
    · intro z hz
      rw [ebs]
      exact hsub z hz
end
end Go.Proofs.YtkgfbphdmnapdaaGreatDoor

/-
  Edits, plain: what becomes of a document; what undoes an edit; edits that may be done in either order.
-/
set_option linter.unusedVariables false
set_option linter.unusedSimpArgs false
namespace Go.Vc
open Go Go.Lib
/-- An edit. -/
structure Ed where
  op : Int
  pa : List Int
  name : Pr
  text : ByteArray
  node : Nd
def zeroN : Nd := .mk 0 emptyB emptyB emptyB [] []
def zeroE : Ed := ⟨0, [], (emptyB, emptyB), emptyB, zeroN⟩
def newAt (n : Pr) (v : ByteArray) : At := (n.1, n.2, v)
def attrDrop (ats : List At) (n : Pr) : List At := ats.filter fun a => decide (nameOf a ≠ n)
def attrPut (ats : List At) (n : Pr) (v : ByteArray) : List At :=
  (attrDrop ats n).takeWhile (fun a => nLt (nameOf a) n) ++ newAt n v :: (attrDrop ats n).dropWhile (fun a => nLt (nameOf a) n)
def attrHas (ats : List At) (n : Pr) : Bool := ats.any fun a => decide (nameOf a = n)
/-- A node behind the edit of it; the error. -/
def chgd : Nd → Ed → Int × Nd
  | .mk k u l t ats ks, e =>
    if e.op = 6 then (if k = 3 ∨ k = 4 ∨ k = 5 then (0, .mk k u l e.text ats ks) else (33, .mk k u l t ats ks))
    else if k ≠ 2 then (33, .mk k u l t ats ks)
    else if e.op = 5 then (if attrHas ats e.name = true then 0 else 7, .mk k u l t (attrDrop ats e.name) ks)
    else (0, .mk k u l t (attrPut ats e.name e.text) ks)
def edHere : Nd → Int → Ed → Int × Nd
  | .mk k u l t ats ks, i, e =>
    if i < 0 ∨ (ks.length : Int) < i ∨ (i = ks.length ∧ e.op ≠ 1) then (35, .mk k u l t ats ks)
    else if e.op = 1 then (0, .mk k u l t ats (ks.take i.toNat ++ e.node :: ks.drop i.toNat))
    else if e.op = 2 then (0, .mk k u l t ats (ks.take i.toNat ++ ks.drop (i.toNat + 1)))
    else if e.op = 3 then (0, .mk k u l t ats (ks.set i.toNat e.node))
    else match ks[i.toNat]? with
      | some x => ((chgd x e).1, .mk k u l t ats (ks.set i.toNat (chgd x e).2))
      | none => (35, .mk k u l t ats ks)
/-- A document behind an edit of what stands at a path; the error. -/
def edN : Nd → List Int → Ed → Int × Nd
  | n, [], _ => (35, n)
  | n, [i], e => edHere n i e
  | .mk k u l t ats ks, i :: j :: r, e => if i < 0 then (35, .mk k u l t ats ks) else match ks[i.toNat]? with
    | some x => ((edN x (j :: r) e).1, .mk k u l t ats (ks.set i.toNat (edN x (j :: r) e).2))
    | none => (35, .mk k u l t ats ks)
def applyN (d : Nd) (e : Ed) : Int × Nd :=
  if checkL d ≠ 0 then (checkL d, zeroN)
  else if e.op < 1 ∨ 6 < e.op then (1, zeroN)
  else if e.pa = [] then (35, zeroN)
  else if (edN d e.pa e).1 ≠ 0 then ((edN d e.pa e).1, zeroN)
  else if checkL (edN d e.pa e).2 ≠ 0 then (checkL (edN d e.pa e).2, zeroN)
  else (0, (edN d e.pa e).2)
def nodeAt : Nd → List Int → Option Nd
  | n, [] => some n
  | .mk _ _ _ _ _ ks, i :: r => if i < 0 then none else match ks[i.toNat]? with
    | some x => nodeAt x r
    | none => none
/-- The value that an attribute has; the last one of that name. -/
def lastVal (ats : List At) (n : Pr) : Option ByteArray := ats.foldl (fun o a => if nameOf a = n then some a.2.2 else o) none
def backK (o : Option Nd) (e : Ed) : Ed :=
  if e.op = 1 then ⟨2, e.pa, (emptyB, emptyB), emptyB, zeroN⟩
  else if e.op = 2 then ⟨1, e.pa, (emptyB, emptyB), emptyB, o.getD zeroN⟩
  else if e.op = 3 then ⟨3, e.pa, (emptyB, emptyB), emptyB, o.getD zeroN⟩
  else if e.op = 6 then ⟨6, e.pa, (emptyB, emptyB), (o.getD zeroN).text, zeroN⟩
  else match lastVal (o.getD zeroN).attrs e.name with
    | some v => ⟨4, e.pa, e.name, v, zeroN⟩
    | none => ⟨5, e.pa, e.name, emptyB, zeroN⟩
/-- The edit that undoes one. -/
def backE (d : Nd) (e : Ed) : Ed := backK (nodeAt d e.pa) e
def backN (d : Nd) (e : Ed) : Int × Ed := if (applyN d e).1 ≠ 0 then ((applyN d e).1, zeroE) else (0, backE d e)
structure ApOk (d : Nd) (e : Ed) (n : Nd) : Prop where
  cd : checkL d = 0
  op : 1 ≤ e.op ∧ e.op ≤ 6
  pa : e.pa ≠ []
  ed : edN d e.pa e = (0, n)
  cn : checkL n = 0
theorem apply_ok {d n : Nd} {e : Ed} : (applyN d e).1 = 0 ∧ (applyN d e).2 = n ↔ ApOk d e n := by
  unfold applyN
  constructor
  · intro h
    split at h
    · next h1 => exact absurd h.1 h1
    next h1 =>
    split at h
    · exact absurd h.1 (by decide)
    next h2 =>
    split at h
    · exact absurd h.1 (by decide)
    next h3 =>
    split at h
    · next h4 => exact absurd h.1 h4
    next h4 =>
    split at h
    · next h5 => exact absurd h.1 h5
    next h5 =>
    have e1 := Decidable.not_not.1 h4
    have e2 : (edN d e.pa e).2 = n := h.2
    exact ⟨Decidable.not_not.1 h1, by omega, h3, Prod.ext e1 e2, by rw [← e2]; exact Decidable.not_not.1 h5⟩
  · rintro ⟨h1, h2, h3, h4, h5⟩
    rw [if_neg (by rw [h1]; simp), if_neg (by omega), if_neg h3, if_neg (by rw [h4]; simp), if_neg (by rw [h4]; simp [h5]), h4]
    exact ⟨rfl, rfl⟩
theorem apply_err {d : Nd} {e : Ed} (h : (applyN d e).1 ≠ 0) : (applyN d e).2 = zeroN := by
  unfold applyN at h ⊢
  split
  · rfl
  next h1 =>
  rw [if_neg h1] at h
  split
  · rfl
  next h2 =>
  rw [if_neg h2] at h
  split
  · rfl
  next h3 =>
  rw [if_neg h3] at h
  split
  · rfl
  next h4 =>
  rw [if_neg h4] at h
  split
  · rfl
  next h5 =>
  rw [if_neg h5] at h
  exact absurd rfl h
/-! ## Attributes that rise -/
theorem asc_pair : ∀ {l : List At}, ascB l = true → l.Pairwise fun a b => aLt a b = true
  | [], _ => List.Pairwise.nil
  | [a], _ => List.pairwise_singleton _ _
  | a :: b :: r, h => by
    simp only [ascB, Bool.and_eq_true] at h
    have ih := asc_pair h.2
    refine List.pairwise_cons.2 ⟨fun c hc => ?_, ih⟩
    rcases List.mem_cons.1 hc with rfl | hc
    · exact h.1
    · exact nLt_trans h.1 ((List.pairwise_cons.1 ih).1 c hc)
theorem aLt_irr (a : At) : aLt a a = false := nLt_irr _
theorem aLt_asym {a b : At} (h : aLt a b = true) : aLt b a = false := by
  cases hb : aLt b a with
  | false => rfl
  | true => have := nLt_trans h hb; rw [nLt_irr] at this; cases this
theorem asc_uniq : ∀ {X Y : List At}, X.Pairwise (fun a b => aLt a b = true) → Y.Pairwise (fun a b => aLt a b = true) → (∀ s, s ∈ X ↔ s ∈ Y) → X = Y
  | [], [], _, _, _ => rfl
  | [], y :: Y, _, _, h => by have := (h y).2 (by simp); simp at this
  | x :: X, [], _, _, h => by have := (h x).1 (by simp); simp at this
  | x :: X, y :: Y, hx, hy, h => by
    have h1 := List.pairwise_cons.1 hx
    have h2 := List.pairwise_cons.1 hy
    have e : x = y := by
      rcases List.mem_cons.1 ((h x).1 (by simp)) with e | m1
      · exact e
      · rcases List.mem_cons.1 ((h y).2 (by simp)) with e | m2
        · exact e.symm
        · have a1 := h2.1 x m1
          have a2 := h1.1 y m2
          rw [aLt_asym a1] at a2; cases a2
    subst e
    rw [asc_uniq h1.2 h2.2 fun s => ?_]
    constructor
    · intro hs
      rcases List.mem_cons.1 ((h s).1 (by simp [hs])) with e | m
      · subst e; have := h1.1 s hs; rw [aLt_irr] at this; cases this
      · exact m
    · intro hs
      rcases List.mem_cons.1 ((h s).2 (by simp [hs])) with e | m
      · subst e; have := h2.1 s hs; rw [aLt_irr] at this; cases this
      · exact m
theorem drop_mem {ats : List At} {n : Pr} {s : At} : s ∈ attrDrop ats n ↔ s ∈ ats ∧ nameOf s ≠ n := by unfold attrDrop; rw [List.mem_filter, decide_eq_true_eq]
theorem put_mem {ats : List At} {n : Pr} {v : ByteArray} {s : At} : s ∈ attrPut ats n v ↔ s = newAt n v ∨ (s ∈ ats ∧ nameOf s ≠ n) := by
  have e := List.takeWhile_append_dropWhile (p := fun a => nLt (nameOf a) n) (l := attrDrop ats n)
  have h : s ∈ attrDrop ats n ↔ s ∈ (attrDrop ats n).takeWhile (fun a => nLt (nameOf a) n) ∨ s ∈ (attrDrop ats n).dropWhile (fun a => nLt (nameOf a) n) := by rw [← List.mem_append, e]
  rw [← drop_mem, h]
  unfold attrPut
  rw [List.mem_append, List.mem_cons]
  constructor
  · rintro (a | a | a)
    · exact .inr (.inl a)
    · exact .inl a
    · exact .inr (.inr a)
  · rintro (a | a | a)
    · exact .inr (.inl a)
    · exact .inl a
    · exact .inr (.inr a)
theorem drop_asc {ats : List At} {n : Pr} (h : ats.Pairwise fun a b => aLt a b = true) : (attrDrop ats n).Pairwise fun a b => aLt a b = true := List.Pairwise.sublist List.filter_sublist h
theorem takeWhile_all {α : Type} {p : α → Bool} : ∀ {l : List α} {x : α}, x ∈ l.takeWhile p → p x = true
  | y :: r, x, h => by
    rw [List.takeWhile_cons] at h
    split at h
    · next hy =>
      rcases List.mem_cons.1 h with rfl | h
      · exact hy
      · exact takeWhile_all h
    · cases h
theorem dropWhile_head {α : Type} {p : α → Bool} : ∀ {l : List α} {x : α} {r : List α}, l.dropWhile p = x :: r → p x = false
  | y :: l, x, r, h => by
    rw [List.dropWhile_cons] at h
    split at h
    · exact dropWhile_head h
    · next hy =>
      obtain rfl := (List.cons.inj h).1
      simpa using hy
theorem put_asc {ats : List At} {n : Pr} {v : ByteArray} (h : ats.Pairwise fun a b => aLt a b = true) : (attrPut ats n v).Pairwise fun a b => aLt a b = true := by
  have hd := drop_asc (n := n) h
  have e := List.takeWhile_append_dropWhile (p := fun a => nLt (nameOf a) n) (l := attrDrop ats n)
  have hm : ∀ s, s ∈ (attrDrop ats n).dropWhile (fun a => nLt (nameOf a) n) → nameOf s ≠ n := fun s hs => (drop_mem.1 (by rw [← e]; exact List.mem_append_right _ hs)).2
  generalize hA : (attrDrop ats n).takeWhile (fun a => nLt (nameOf a) n) = A at e
  generalize hB : (attrDrop ats n).dropWhile (fun a => nLt (nameOf a) n) = B at e hm
  rw [← e] at hd
  obtain ⟨p1, p2, p3⟩ := List.pairwise_append.1 hd
  unfold attrPut
  rw [hA, hB]
  have hAlt : ∀ a ∈ A, nLt (nameOf a) n = true := fun a ha => takeWhile_all (p := fun a => nLt (nameOf a) n) (l := attrDrop ats n) (by rw [hA]; exact ha)
  have hBgt : ∀ b ∈ B, nLt n (nameOf b) = true := by
    intro b hb
    cases B with
    | nil => cases hb
    | cons x r =>
      have hx : nLt n (nameOf x) = true := by
        have h1 := dropWhile_head hB
        rcases nLt_tri (nameOf x) n with h2 | h2 | h2
        · rw [h1] at h2; cases h2
        · exact absurd h2 (hm x (by simp))
        · exact h2
      rcases List.mem_cons.1 hb with rfl | hb
      · exact hx
      · exact nLt_trans hx ((List.pairwise_cons.1 p2).1 b hb)
  refine List.pairwise_append.2 ⟨p1, List.pairwise_cons.2 ⟨fun b hb => hBgt b hb, p2⟩, fun a ha b hb => ?_⟩
  rcases List.mem_cons.1 hb with rfl | hb
  · exact hAlt a ha
  · exact p3 a ha b hb
theorem has_iff {ats : List At} {n : Pr} : attrHas ats n = true ↔ ∃ a ∈ ats, nameOf a = n := by
  unfold attrHas; rw [List.any_eq_true]; simp
theorem newAt_eq (a : At) : newAt (nameOf a) a.2.2 = a := rfl
theorem lastVal_go {n : Pr} : ∀ (ats : List At) (o : Option ByteArray), ats.foldl (fun o a => if nameOf a = n then some a.2.2 else o) o = (lastVal ats n).or o
  | [], o => by simp [lastVal]
  | a :: r, o => by
    unfold lastVal
    rw [List.foldl_cons, List.foldl_cons, lastVal_go r, lastVal_go r]
    cases h : lastVal r n with
    | some v => simp
    | none => simp; split <;> simp
theorem lastVal_cons (a : At) (r : List At) (n : Pr) : lastVal (a :: r) n = (lastVal r n).or (if nameOf a = n then some a.2.2 else none) := by
  conv => lhs; unfold lastVal
  rw [List.foldl_cons, lastVal_go]
theorem lastVal_some {n : Pr} {v : ByteArray} : ∀ {ats : List At}, lastVal ats n = some v → newAt n v ∈ ats
  | [], h => by simp [lastVal] at h
  | a :: r, h => by
    rw [lastVal_cons] at h
    cases h1 : lastVal r n with
    | some v' =>
      rw [h1, Option.some_or] at h
      rw [Option.some.inj h] at h1
      exact List.mem_cons_of_mem _ (lastVal_some h1)
    | none =>
      rw [h1, Option.none_or] at h
      split at h
      · next e =>
        obtain rfl := Option.some.inj h
        rw [← e, newAt_eq]; simp
      · cases h
/-! ## Nodes at paths -/
theorem setAt_self : ∀ {r : List Int} {d x : Nd}, nodeAt d r = some x → setAt d r x = d
  | [], d, x, h => (Option.some.inj h).symm
  | i :: r, .mk k u l t ats ks, x, h => by
    simp only [nodeAt] at h
    split at h
    · cases h
    split at h
    · next c hc =>
      simp only [setAt, hc]
      rw [setAt_self h]
      obtain ⟨h1, rfl⟩ := List.getElem?_eq_some_iff.1 hc
      rw [List.set_getElem_self]
    · cases h
theorem nodeAt_append : ∀ {r s : List Int} {d : Nd}, nodeAt d (r ++ s) = (nodeAt d r).bind fun x => nodeAt x s
  | [], s, d => rfl
  | i :: r, s, .mk k u l t ats ks => by
    simp only [List.cons_append, nodeAt]
    split
    · rfl
    split
    · exact nodeAt_append
    · rfl
theorem nodeAt_flat : ∀ {r : List Int} {d x : Nd}, nodeAt d r = some x → x ∈ d.flat
  | [], d, x, h => by rw [Option.some.inj h]; exact flat_self x
  | i :: r, .mk k u l t ats ks, x, h => by
    simp only [nodeAt] at h
    split at h
    · cases h
    split at h
    · next c hc => exact flat_mem_iff.2 (.inr ⟨c, List.mem_of_getElem? hc, nodeAt_flat h⟩)
    · cases h
theorem edN_none {i : Int} {e : Ed} : ∀ {r : List Int} {n : Nd}, nodeAt n r = none → (edN n (r ++ [i]) e).1 = 35
  | [], n, h => by cases h
  | j :: r, .mk k u l t ats ks, h => by
    have hne : ∃ a b, r ++ [i] = a :: b := by cases r with | nil => exact ⟨_, _, rfl⟩ | cons a b => exact ⟨_, _, rfl⟩
    obtain ⟨a, b, hab⟩ := hne
    simp only [nodeAt] at h
    rw [List.cons_append, hab]
    simp only [edN]
    split
    · rfl
    next hj =>
    rw [if_neg hj] at h
    split
    · next x hx =>
      rw [hx] at h
      rw [← hab]
      exact edN_none h
    · rfl
theorem edN_some {i : Int} {e : Ed} : ∀ {r : List Int} {n up : Nd}, nodeAt n r = some up → edN n (r ++ [i]) e = ((edHere up i e).1, setAt n r (edHere up i e).2)
  | [], n, up, h => by
    obtain rfl := Option.some.inj h
    rfl
  | j :: r, .mk k u l t ats ks, up, h => by
    have hne : ∃ a b, r ++ [i] = a :: b := by cases r with | nil => exact ⟨_, _, rfl⟩ | cons a b => exact ⟨_, _, rfl⟩
    obtain ⟨a, b, hab⟩ := hne
    simp only [nodeAt] at h
    split at h
    · cases h
    rename_i hj
    split at h
    · next x hx =>
      rw [List.cons_append, hab]
      simp only [edN, setAt, hx]
      rw [if_neg hj, ← hab, edN_some h]
    · cases h
theorem path_split {p : List Int} (h : p ≠ []) : ∃ r i, p = r ++ [i] := ⟨p.dropLast, p.getLast h, (List.dropLast_concat_getLast h).symm⟩
end Go.Vc

/-
  Edits, plain: undoing, edits in either order, what stands where behind an insertion.
-/
set_option linter.unusedVariables false
set_option linter.unusedSimpArgs false
namespace Go.Vc
open Go Go.Lib
theorem nodeAt_one (k : Int) (u l t : ByteArray) (ats : List At) (ks : List Nd) (i : Int) : nodeAt (.mk k u l t ats ks) [i] = if i < 0 then none else ks[i.toNat]? := by
  simp only [nodeAt]
  split
  · rfl
  · cases ks[i.toNat]? <;> rfl
/-! ## Two edits in either order -/
def withKids : Nd → List Nd → Nd
  | .mk k u l t ats _, ks => .mk k u l t ats ks
theorem nodeAt_cons (n : Nd) (i : Int) (r : List Int) : nodeAt n (i :: r) = if i < 0 then none else match n.kids[i.toNat]? with | some x => nodeAt x r | none => none := by cases n; rfl
theorem setAt_cons {n x : Nd} {i : Int} {r : List Int} {y : Nd} (h : n.kids[i.toNat]? = some x) : setAt n (i :: r) y = withKids n (n.kids.set i.toNat (setAt x r y)) := by
  cases n with
  | mk k u l t ats ks =>
    have h' : ks[i.toNat]? = some x := h
    simp only [setAt, h', withKids, Nd.kids]
theorem setAt_append : ∀ {r s : List Int} {d x z : Nd}, nodeAt d r = some x → setAt d (r ++ s) z = setAt d r (setAt x s z)
  | [], s, d, x, z, h => by rw [Option.some.inj h]; rfl
  | i :: r, s, d, x, z, h => by
    rw [nodeAt_cons] at h
    split at h
    · cases h
    split at h
    · next c hc =>
      rw [List.cons_append, setAt_cons hc, setAt_cons hc, setAt_append h]
    · cases h
/-! ## What stands where -/
end Go.Vc

