/-
  Edits in memory: the node at a path, what is changed there.
-/
import Derived.Test.YtkgfbphdmnapdaaGreatDoorIns
import Derived.Test.YtkgfbphdmnapdaaGreatDoorEd
import Derived.Test.YtkgfbphdmnapdaaGreatDoorVEdit
import Derived.Test.YtkgfbphdmnapdaaGreatDoorBare
import Derived.Test.YtkgfbphdmnapdaaGreatDoorVWalks
import Derived.Test.YtkgfbphdmnapdaaGreatDoorVRef05
import Derived.Test.YtkgfbphdmnapdaaGreatDoorVLaw09
import Derived.Test.YtkgfbphdmnapdaaGreatDoorVRef09
import Derived.Test.YtkgfbphdmnapdaaGreatDoorRdT
set_option linter.unusedVariables false
set_option linter.unusedSimpArgs false
namespace Go.Vc
open Go Go.Lib
/-- An edit as it lies in memory. -/
structure EV where
  op : Int
  p : Option Addr
  l : Nat
  c : Nat
  pa : List Int
  u : ByteArray
  n : ByteArray
  t : ByteArray
  nd : NV
def EV.cells (e : EV) : List Value := .int .i64 e.op :: .slice e.p e.l e.c :: .string e.u :: .string e.n :: .string e.t :: e.nd.cells
def EV.ed (e : EV) : Ed := ⟨e.op, e.pa, (e.u, e.n), e.t, e.nd.nd⟩
def EV.mea (e : EV) : Nat := 1 + e.l + e.u.size + e.n.size + e.t.size + e.nd.mea
structure EV.Ok (w : World) (e : EV) : Prop where
  sl : Sl w e.p e.l 1 (rows intC e.pa)
  nil : e.p = none → e.l = 0
  cap : e.l ≤ e.c
  nd : NV.Ok w e.nd
theorem EV.Ok.chg0 {w w' : World} {e : EV} (h : EV.Ok w e) (hc : Chg No w w') : EV.Ok w' e := ⟨h.sl.chg hc (off_no _), h.nil, h.cap, h.nd.chg0 hc⟩
theorem splice_one {cs vs : List Value} {off k : Nat} {v : Value} (hc : ∀ j, j < vs.length → cs[off + j]? = vs[j]?) (ho : off + vs.length ≤ cs.length) (hk : k < vs.length) : cs.set (off + k) v = splice cs off (vs.set k v) := by
  refine List.ext_getElem? fun j => ?_
  rw [splice_get (by rw [List.length_set]; exact ho), List.length_set, List.getElem?_set]
  by_cases h1 : off + k = j
  · subst h1
    rw [if_pos rfl, if_pos (by omega), if_pos (by omega), Nat.add_sub_cancel_left, List.getElem?_set_self hk]
  · rw [if_neg h1]
    by_cases h2 : off ≤ j ∧ j < off + vs.length
    · rw [if_pos h2, List.getElem?_set_ne (by omega), ← hc _ (by omega)]
      congr 1; omega
    · rw [if_neg h2]
theorem splice_same {cs vs : List Value} {off : Nat} (hc : ∀ j, j < vs.length → cs[off + j]? = vs[j]?) (ho : off + vs.length ≤ cs.length) : splice cs off vs = cs := by
  refine List.ext_getElem? fun j => ?_
  rw [splice_get ho]
  split
  · next h => rw [← hc _ (by omega)]; congr 1; omega
  · rfl
theorem set_mid {A B : List Value} {x0 x1 x2 v : Value} {n : Nat} (h : A.length = n) : (A ++ (x0 :: x1 :: x2 :: B)).set (n + 2) v = A ++ (x0 :: x1 :: v :: B) := by
  subst h
  rw [List.set_append_right _ _ (by omega), Nat.add_sub_cancel_left]
  rfl
mutual
/-- A tree's bulk. -/
def Nd.mea : Nd → Nat
  | .mk _ u l t ats ks => 1 + u.size + l.size + t.size + (ats.map atSize).sum + Nd.meaL ks
def Nd.meaL : List Nd → Nat
  | [] => 0
  | x :: r => x.mea + Nd.meaL r
end
mutual
theorem nd_mea : ∀ v : NV, v.nd.mea = v.mea
  | .mk k u l t ap al ac ats kp kl kc ks => by
    have := nd_meaL ks
    simp only [NV.nd, Nd.mea, NV.mea, this]
theorem nd_meaL : ∀ ks : List NV, Nd.meaL (NV.ndL ks) = NV.meaL ks
  | [] => rfl
  | x :: r => by
    have := nd_mea x; have := nd_meaL r
    simp only [NV.ndL, Nd.meaL, NV.meaL, *]
end
theorem ndmeaL_append : ∀ a b : List Nd, Nd.meaL (a ++ b) = Nd.meaL a + Nd.meaL b
  | [], b => by simp [Nd.meaL]
  | x :: r, b => by simp only [List.cons_append, Nd.meaL, ndmeaL_append r b]; omega
theorem ndmea_set {ks : List Nd} {i : Nat} {x y : Nd} (h : ks[i]? = some x) : Nd.meaL (ks.set i y) + x.mea = Nd.meaL ks + y.mea := by
  obtain ⟨hi, rfl⟩ := List.getElem?_eq_some_iff.1 h
  have e1 : Nd.meaL (ks.set i y) = Nd.meaL (ks.take i) + (y.mea + Nd.meaL (ks.drop (i + 1))) := by
    rw [List.set_eq_take_append_cons_drop, if_pos hi, ndmeaL_append, Nd.meaL]
  have e2 : Nd.meaL ks = Nd.meaL (ks.take i) + (ks[i].mea + Nd.meaL (ks.drop (i + 1))) := by
    conv => lhs; rw [← List.take_append_drop i ks, List.drop_eq_getElem_cons hi]
    rw [ndmeaL_append, Nd.meaL]
  omega
theorem mea_setAt : ∀ {r : List Int} {d x z : Nd}, nodeAt d r = some x → (setAt d r z).mea + x.mea = d.mea + z.mea
  | [], d, x, z, h => by rw [Option.some.inj h]; show z.mea + _ = _; omega
  | i :: r, .mk k u l t ats ks, x, z, h => by
    rw [nodeAt_cons] at h
    split at h
    · cases h
    split at h
    · next c hc =>
      have ih := mea_setAt (z := z) h
      have h1 := ndmea_set (y := setAt c r z) hc
      rw [setAt_cons hc]
      simp only [withKids, Nd.kids, Nd.mea] at h1 ⊢
      omega
    · cases h
theorem atSum_append (a b : List At) : ((a ++ b).map atSize).sum = (a.map atSize).sum + (b.map atSize).sum := by rw [List.map_append, List.sum_append]
theorem atSum_filter (p : At → Bool) : ∀ l : List At, ((l.filter p).map atSize).sum ≤ (l.map atSize).sum
  | [] => Nat.le_refl _
  | x :: r => by
    have := atSum_filter p r
    rw [List.filter_cons]
    split
    · simp only [List.map_cons, List.sum_cons]; omega
    · simp only [List.map_cons, List.sum_cons]; omega
theorem atSum_put (ats : List At) (n : Pr) (v : ByteArray) : ((attrPut ats n v).map atSize).sum ≤ (ats.map atSize).sum + (1 + n.1.size + n.2.size + v.size) := by
  have h1 := atSum_filter (fun a => decide (nameOf a ≠ n)) ats
  have e := List.takeWhile_append_dropWhile (p := fun a => nLt (nameOf a) n) (l := attrDrop ats n)
  have h2 := congrArg (fun l => (l.map atSize).sum) e
  simp only [atSum_append] at h2
  unfold attrPut
  rw [atSum_append, List.map_cons, List.sum_cons]
  have h3 : atSize (newAt n v) = 1 + n.1.size + n.2.size + v.size := rfl
  unfold attrDrop at h2 ⊢
  omega
def Ed.mea (e : Ed) : Nat := 1 + e.name.1.size + e.name.2.size + e.text.size + e.node.mea
theorem chgd_mea (x : Nd) (e : Ed) : (chgd x e).2.mea ≤ x.mea + e.mea := by
  cases x with
  | mk k u l t ats ks =>
    have h1 := atSum_put ats e.name e.text
    have h2 := atSum_filter (fun a => decide (nameOf a ≠ e.name)) ats
    simp only [chgd]
    unfold Ed.mea
    split
    · split <;> (simp only [Nd.mea]; omega)
    split
    · simp only [Nd.mea]; omega
    split
    · simp only [Nd.mea]; unfold attrDrop; omega
    · simp only [Nd.mea]; omega
theorem here_mea (up : Nd) (i : Int) (e : Ed) : (edHere up i e).2.mea ≤ up.mea + e.mea := by
  cases up with
  | mk k u l t ats ks =>
    simp only [edHere]
    have e1 : Nd.meaL ks = Nd.meaL (ks.take i.toNat) + Nd.meaL (ks.drop i.toNat) := by rw [← ndmeaL_append, List.take_append_drop]
    have e2 : Nd.meaL ks = Nd.meaL (ks.take (i.toNat + 1)) + Nd.meaL (ks.drop (i.toNat + 1)) := by rw [← ndmeaL_append, List.take_append_drop]
    split
    · simp only [Nd.mea]; omega
    split
    · simp only [Nd.mea, ndmeaL_append, Nd.meaL]; unfold Ed.mea; omega
    split
    · have e3 : Nd.meaL (ks.drop (i.toNat + 1)) ≤ Nd.meaL (ks.drop i.toNat) := by
        have : ks.drop (i.toNat + 1) = (ks.drop i.toNat).drop 1 := by rw [List.drop_drop]
        rw [this]
        cases ks.drop i.toNat with
        | nil => exact Nat.le_refl _
        | cons x r => simp only [List.drop_succ_cons, List.drop_zero, Nd.meaL]; omega
      simp only [Nd.mea, ndmeaL_append]; omega
    split
    · cases hx : ks[i.toNat]? with
      | none => rw [List.set_eq_of_length_le (List.getElem?_eq_none_iff.1 hx)]; simp only [Nd.mea]; omega
      | some x =>
        have := ndmea_set (y := e.node) hx
        simp only [Nd.mea]; unfold Ed.mea; omega
    · split
      · next x hx =>
        have := ndmea_set (y := (chgd x e).2) hx
        have := chgd_mea x e
        simp only [Nd.mea]; omega
      · simp only [Nd.mea]; omega
theorem ed_mea {d n : Nd} {p : List Int} {e : Ed} (hp : p ≠ []) (h : edN d p e = (0, n)) : n.mea ≤ d.mea + e.mea := by
  obtain ⟨r, i, rfl⟩ := path_split hp
  cases hup : nodeAt d r with
  | none =>
    have h1 := edN_none (e := e) (i := i) hup
    rw [h] at h1; exact absurd (show (0 : Int) = 35 from h1) (by decide)
  | some up =>
    rw [edN_some hup] at h
    have h2 : setAt d r (edHere up i e).2 = n := congrArg Prod.snd h
    have h3 := mea_setAt (z := (edHere up i e).2) hup
    have h4 := here_mea up i e
    rw [← h2]; omega
theorem asc_attrs {d x : Nd} {r : List Int} (h : Right d) (hx : nodeAt d r = some x) : ascB x.attrs = true := h.order x (nodeAt_flat hx)
end Go.Vc
namespace Go.Proofs.YtkgfbphdmnapdaaGreatDoor
open Go Go.Vc Go.Lib
section
variable {w w' : World}
theorem addr_node {a : Addr} : ∀ {r : List Int} {a : Addr} {v : NV}, Own w v → (addrAt a v r).map (fun x => x.2.nd) = nodeAt v.nd r
  | [], a, v, _ => rfl
  | i :: r, a, .mk k u l t ap al ac ats kp kl kc ks, h => by
    cases h with
    | mk ha hk hks =>
    have hkl := hk.sl.row (even_node ks) (by decide)
    rw [nd_kids]
    simp only [addrAt, nodeAt]
    split
    · rfl
    rw [List.getElem?_map]
    cases hx : ks[i.toNat]? with
    | none => rfl
    | some x =>
      have hlt := (List.getElem?_eq_some_iff.1 hx).1
      cases kp with
      | none => have := hk.none0 rfl; omega
      | some c =>
        simp only [Option.map_some]
        exact addr_node (a := a) (hks x (List.mem_of_getElem? hx))
/-- What is known of the place where a node lies. -/
structure Place (w : World) (b : Addr) (y : NV) (cs : List Value) (e : TypeId) : Prop where
  ta : TreeAt w b y
  sp : b.spot = none
  hb : w.heap[b.block]? = some (.cells ⟨cs⟩ e (0, 0))
  ho : b.off + 6 ≤ cs.length
theorem Place.get {b : Addr} {y : NV} {cs : List Value} {e : TypeId} (P : Place w b y cs e) : ∀ j, j < y.cells.length → cs[b.off + j]? = y.cells[j]? := by
  intro j hj
  have h1 := P.ta.cs j _ (List.getElem?_eq_getElem hj)
  obtain ⟨bb, bo, bs⟩ := b
  have := P.sp
  simp only at this
  subst this
  rw [Addr.add_mk, cell_of_row w bb (bo + j) _ e (0, 0) P.hb] at h1
  rw [List.getElem?_eq_getElem hj]
  simpa using h1
theorem Place.at {e : TypeId} : ∀ {r : List Int} {a b : Addr} {v y : NV} {cs : List Value} {e : TypeId}, Place w a v cs e → addrAt a v r = some (b, y) → ∃ cs' e', Place w b y cs' e'
  | [], a, b, v, y, cs, e, P, h => by
    simp only [addrAt, Option.some.injEq, Prod.mk.injEq] at h
    obtain ⟨rfl, rfl⟩ := h
    exact ⟨cs, e, P⟩
  | i :: r, a, b, .mk k u l t ap al ac ats kp kl kc ks, y, cs, e, P, h => by
    simp only [addrAt] at h
    split at h
    · cases h
    split at h
    rotate_left
    · cases h
    rename_i x c hx
    obtain ⟨⟨hTc, hTo, hTn, hTf⟩, hsp, hb, ho⟩ := P
    cases hTo with
    | mk ha hk hks =>
    have hxm := List.mem_of_getElem? hx
    have hkl := hk.sl.row (even_node ks) (by decide)
    have hil := (List.getElem?_eq_some_iff.1 hx).1
    obtain ⟨kb, rest, e1, hkb, hlc, hcm, hcl⟩ := hk.some0 (show kl ≠ 0 by omega)
    cases e1
    simp only [Nat.zero_add] at h
    have hrl : (rows NV.cells ks).length = ks.length * 6 := rows_len (even_node ks)
    have hi6 : i.toNat * 6 + 6 ≤ ks.length * 6 := by have := Nat.mul_le_mul_right 6 (show i.toNat + 1 ≤ ks.length from hil); omega
    have ebs : (NV.mk k u l t ap al ac ats (some ⟨kb, 0, none⟩) kl kc ks).bs = blkL ap ++ ([kb] ++ NV.bsL ks) := by simp only [NV.bs, blkL]
    rw [ebs] at hTn
    obtain ⟨hnA, hnR, hdA⟩ := List.nodup_append.1 hTn
    obtain ⟨hnK, hnL, hdK⟩ := List.nodup_append.1 hnR
    have eL := bsL_get hx
    rw [eL] at hnL
    obtain ⟨hn1, hn2, hd1⟩ := List.nodup_append.1 hnL
    obtain ⟨hn3, hn4, hd2⟩ := List.nodup_append.1 hn2
    refine Place.at (e := e) (r := r) (a := ⟨kb, i.toNat * 6, none⟩) ⟨⟨?_, hks x hxm, hn3, fun hI => hdK kb (List.mem_singleton.2 rfl) kb (bsL_mem hxm hI) rfl⟩, rfl, hkb, by rw [List.length_append, hrl]; simp only; omega⟩ h
    have h2 := cellsAt_take 6 (cellsAt_heap (off := i.toNat * 6) hkb)
    intro j z hz
    have hj := (List.getElem?_eq_some_iff.1 hz).1
    rw [cells_len] at hj
    refine h2 j z ?_
    rw [List.getElem?_take_of_lt hj, List.getElem?_drop, List.getElem?_append_left (by rw [hrl]; omega), rows_at (even_node ks) hx hj]
    exact hz
/-- A node that was changed, and what lies below it. -/
structure Turned (w w' : World) (b : Addr) (y y' : NV) (cs : List Value) (e : TypeId) : Prop where
  hc : Chg (fun z => z = b.block ∨ z ∈ y.bs) w w'
  hb : w'.heap[b.block]? = some (.cells ⟨splice cs b.off y'.cells⟩ e (0, 0))
  own : Own w' y'
  nd : y'.bs.Nodup
  bs : ∀ z ∈ y'.bs, z ∈ y.bs ∨ w.heap.size ≤ z
theorem Turned.tree {a b : Addr} {v y y' : NV} {cs : List Value} {e : TypeId} {r : List Int} (h : Turned w w' b y y' cs e) (hP : Place w b y cs e) (hs : a.spot = none) (hT : TreeAt w a v) (hr : addrAt a v r = some (b, y)) :
    ∃ v', TreeAt w' a v' ∧ v'.nd = setAt v.nd r y'.nd ∧ (∀ z ∈ v'.bs, z ∈ v.bs ∨ w.heap.size ≤ z) :=
  TreeAt.upd h.hc hP.hb h.hb hP.ho h.own h.nd h.bs hs hT hr
theorem Find_ok {a : Addr} {v : NV} {cs : List Value} {e : TypeId} {pp : Option Addr} {pl pc : Nat} {r : List Int} {J : Option Addr → Bool → World → Prop} (hP : Place w a v cs e) (hp : Sl w pp pl 1 (rows intC r)) (hm : pl ≤ 100000000)
    (K1 : ∀ b y w', addrAt a v r = some (b, y) → Chg No w w' → J (some b) true w') (K2 : ∀ w', addrAt a v r = none → Chg No w w' → J none false w') :
    callJ Tryz.prog fn_edit_find #[.pointer (some a), .slice pp pl pc] w [.one .ptr, .one .bool] J := by
  have hpl : r.length = pl := hp.row (fun _ _ => rfl) (by decide)
  refine c_edit_find ?_
  unfold VC_edit_find
  refine ⟨fun d i w' m => ∃ (q : Nat) (b : Addr) (y : NV), d = some b ∧ i = q ∧ q ≤ pl ∧ m = pl - q ∧ (∃ cs e, Place w b y cs e) ∧ addrAt a v r = addrAt b y (r.drop q) ∧ Chg No w w', ⟨_, 0, a, v, rfl, rfl, Nat.zero_le _, rfl, ⟨_, _, hP⟩, rfl, Chg.refl _ _⟩, ?_⟩
  rintro d i w1 m ⟨q, b, y, rfl, rfl, hq, rfl, ⟨cs', e', hPb⟩, hat, hc1⟩
  refine condB_d (fun hlt => ?_) (fun hge => ?_)
  · refine idx_rows (f := intC) (hp.chg hc1 (off_no _)) (fun _ _ => rfl) (by decide) (by omega) hlt fun ad z _ hz hcs => ?_
    have hz' : r[q]? = some z := hz
    have hdz : r.drop q = z :: r.drop (q + 1) := by
      obtain ⟨h1, rfl⟩ := List.getElem?_eq_some_iff.1 hz'
      exact List.drop_eq_getElem_cons h1
    rw [hdz] at hat
    refine ⟨_, cellsAt_head hcs, ?_⟩
    cases y with
    | mk k u l t ap al ac ats kp kl kc ks =>
    obtain ⟨bb, bo, bsp⟩ := b
    have hsp := hPb.sp
    simp only at hsp
    subst hsp
    have hown := hPb.ta.own
    have hcell : w1.cell? ⟨bb, bo + 4, none⟩ = some (.slice kp kl kc) := by
      have := hc1.cells hPb.ta.cs (fun h => h) 4 _ rfl
      rwa [Addr.add_mk] at this
    cases hown with
    | mk ha hk hks =>
    have hkl := hk.sl.row (even_node ks) (by decide)
    refine withJ_i fun J24 hJ24 => ?_
    have k24t : addrAt ⟨bb, bo, none⟩ (.mk k u l t ap al ac ats kp kl kc ks) (z :: r.drop (q + 1)) = none → J24 true w1 := by
      intro h; subst hJ24
      exact condB_i (fun _ => K2 w1 (hat.trans h) hc1) (fun h => by cases h)
    have k24f : 0 ≤ z → z < kl → J24 false w1 := by
      intro h0 h1; subst hJ24
      refine condB_i (fun h => by cases h) (fun _ => ?_)
      simp only [nonNil]
      rw [Addr.add_mk]
      refine ⟨_, _, _, hcell, ?_⟩
      obtain ⟨kb, rest, e1, _⟩ := hk.some0 (show kl ≠ 0 by omega)
      subst e1
      refine idxA_i h0 h1 ?_
      rw [Addr.add_mk]
      have hget : ks[z.toNat]? = some ks[z.toNat] := List.getElem?_eq_getElem (by omega)
      have had : addrAt ⟨bb, bo, none⟩ (.mk k u l t ap al ac ats (some ⟨kb, 0, none⟩) kl kc ks) [z] = some (⟨kb, 0 + z.toNat * 6, none⟩, ks[z.toNat]) := by
        simp only [addrAt]
        rw [if_neg (by omega), hget]
      refine ⟨_, by omega, q + 1, ⟨kb, 0 + z.toNat * 6, none⟩, ks[z.toNat], rfl, by rw [w64_of] <;> omega, by omega, rfl, Place.at (e := e') hPb had, ?_, hc1⟩
      rw [hat]
      simp only [addrAt]
      rw [if_neg (by omega), hget]
    clear hJ24
    refine condB_d (fun h => k24t (by simp only [addrAt]; rw [if_pos h])) (fun h => ?_)
    simp only [nonNil]
    rw [Addr.add_mk]
    refine ⟨_, _, _, hcell, ?_⟩
    show J24 (decide (z ≥ ((kl : Nat) : Int))) w1
    by_cases h1 : z < kl
    · rw [decide_eq_false (by omega)]; exact k24f (by omega) h1
    · rw [decide_eq_true (by omega)]
      refine k24t ?_
      simp only [addrAt]
      rw [if_neg h, List.getElem?_eq_none (by omega)]
  · have hqk : q = pl := by omega
    rw [List.drop_eq_nil_of_le (by omega)] at hat
    exact K1 b y w1 hat hc1
end
end Go.Proofs.YtkgfbphdmnapdaaGreatDoor

/-
  Edits in memory: an attribute set or dropped.
-/
set_option linter.unusedVariables false
set_option linter.unusedSimpArgs false
namespace Go.Vc
open Go Go.Lib
/-- What the search tells of attributes that rise. -/
structure Srch (L : List At) (n : Pr) (i : Nat) (b : Bool) : Prop where
  le : i ≤ L.length
  lo : ∀ j a, j < i → L[j]? = some a → nLt (nameOf a) n = true
  hi : ∀ j a, i ≤ j → L[j]? = some a → nLt (nameOf a) n = false
  f : b = true ↔ ∃ a, L[i]? = some a ∧ nameOf a = n
theorem Srch.has {L : List At} {n : Pr} {i : Nat} {b : Bool} (h : Srch L n i b) (hasc : L.Pairwise fun a b => aLt a b = true) : b = attrHas L n := by
  rw [Bool.eq_iff_iff, h.f, has_iff]
  constructor
  · rintro ⟨a, h1, h2⟩; exact ⟨a, List.mem_of_getElem? h1, h2⟩
  · rintro ⟨a, h1, h2⟩
    obtain ⟨j, hj⟩ := List.mem_iff_getElem?.1 h1
    rcases Nat.lt_trichotomy j i with h3 | h3 | h3
    · have := h.lo j a h3 hj
      rw [h2, nLt_irr] at this; cases this
    · subst h3; exact ⟨a, hj, h2⟩
    · have hjl := (List.getElem?_eq_some_iff.1 hj).1
      have h4 := h.hi i L[i] (Nat.le_refl _) (List.getElem?_eq_getElem (by omega))
      have h5 := List.pairwise_iff_getElem.1 hasc i j (by omega) hjl h3
      rw [(List.getElem?_eq_some_iff.1 hj).2] at h5
      unfold aLt at h5
      rw [h2] at h5; rw [h5] at h4; cases h4
theorem mem_tail {L : List At} {i : Nat} {s : At} (h : s ∈ L.drop (i + 1)) (hasc : L.Pairwise fun a b => aLt a b = true) {a : At} (ha : L[i]? = some a) : aLt a s = true := by
  obtain ⟨j, hj⟩ := List.mem_iff_getElem?.1 h
  rw [List.getElem?_drop] at hj
  have h5 := List.pairwise_iff_getElem.1 hasc i (i + 1 + j) (List.getElem?_eq_some_iff.1 ha).1 (List.getElem?_eq_some_iff.1 hj).1 (by omega)
  rw [(List.getElem?_eq_some_iff.1 ha).2, (List.getElem?_eq_some_iff.1 hj).2] at h5
  exact h5
theorem take_lt {L : List At} {n : Pr} {i : Nat} {b : Bool} (h : Srch L n i b) {s : At} (hs : s ∈ L.take i) : nLt (nameOf s) n = true := by
  obtain ⟨j, hj⟩ := List.mem_iff_getElem?.1 hs
  rw [List.getElem?_take] at hj
  split at hj
  · next h1 => exact h.lo j s h1 hj
  · cases hj
theorem ne_of_lt {s : At} {n : Pr} (h : nLt (nameOf s) n = true) : nameOf s ≠ n := fun e => by rw [e, nLt_irr] at h; cases h
theorem drop_gt {L : List At} {n : Pr} {i : Nat} {b : Bool} (h : Srch L n i b) (hno : ¬ ∃ a, L[i]? = some a ∧ nameOf a = n) (hasc : L.Pairwise fun a b => aLt a b = true) {s : At} (hs : s ∈ L.drop i) : nLt n (nameOf s) = true := by
  obtain ⟨j, hj⟩ := List.mem_iff_getElem?.1 hs
  rw [List.getElem?_drop] at hj
  have h1 := h.hi (i + j) s (by omega) hj
  rcases nLt_tri (nameOf s) n with h2 | h2 | h2
  · rw [h1] at h2; cases h2
  · by_cases hj0 : j = 0
    · subst hj0; exact absurd ⟨s, hj, h2⟩ hno
    · have hjl := (List.getElem?_eq_some_iff.1 hj).1
      have h3 := h.hi i L[i] (Nat.le_refl _) (List.getElem?_eq_getElem (by omega))
      have h5 := List.pairwise_iff_getElem.1 hasc i (i + j) (by omega) hjl (by omega)
      rw [(List.getElem?_eq_some_iff.1 hj).2] at h5
      unfold aLt at h5
      rw [h2] at h5; rw [h5] at h3; cases h3
  · exact h2
/-- Set, where there is one. -/
theorem found_set {L : List At} {n : Pr} {i : Nat} {b : Bool} (h : Srch L n i b) (hasc : L.Pairwise fun a b => aLt a b = true) {a : At} (ha : L[i]? = some a) (hn : nameOf a = n) (v : ByteArray) : L.set i (newAt n v) = attrPut L n v := by
  have hi := (List.getElem?_eq_some_iff.1 ha).1
  have hset : L.set i (newAt n v) = L.take i ++ newAt n v :: L.drop (i + 1) := by rw [List.set_eq_take_append_cons_drop, if_pos hi]
  have eL : L = L.take i ++ a :: L.drop (i + 1) := by
    have := (List.getElem?_eq_some_iff.1 ha).2
    rw [← this, ← List.drop_eq_getElem_cons hi, List.take_append_drop]
  have hgt : ∀ s ∈ L.drop (i + 1), nLt n (nameOf s) = true := fun s hs => by
    have := mem_tail hs hasc ha
    unfold aLt at this
    rw [hn] at this; exact this
  refine asc_uniq ?_ (put_asc hasc) fun s => ?_
  · rw [hset]
    have h2 := hasc
    rw [eL] at h2
    obtain ⟨p1, p2, p3⟩ := List.pairwise_append.1 h2
    obtain ⟨p4, p5⟩ := List.pairwise_cons.1 p2
    refine List.pairwise_append.2 ⟨p1, List.pairwise_cons.2 ⟨hgt, p5⟩, fun x hx y hy => ?_⟩
    rcases List.mem_cons.1 hy with rfl | hy
    · exact take_lt h hx
    · exact p3 x hx y (List.mem_cons_of_mem _ hy)
  · rw [hset, put_mem, List.mem_append, List.mem_cons]
    constructor
    · rintro (h1 | h1 | h1)
      · exact .inr ⟨List.mem_of_mem_take h1, ne_of_lt (take_lt h h1)⟩
      · exact .inl h1
      · exact .inr ⟨List.mem_of_mem_drop h1, fun e => by have := hgt s h1; rw [e, nLt_irr] at this; cases this⟩
    · rintro (h1 | ⟨h1, h2⟩)
      · exact .inr (.inl h1)
      · rw [eL, List.mem_append, List.mem_cons] at h1
        rcases h1 with h1 | h1 | h1
        · exact .inl h1
        · exact absurd (by rw [h1]; exact hn) h2
        · exact .inr (.inr h1)
/-- Set, where there is none. -/
theorem found_ins {L : List At} {n : Pr} {i : Nat} {b : Bool} (h : Srch L n i b) (hasc : L.Pairwise fun a b => aLt a b = true) (hno : ¬ ∃ a, L[i]? = some a ∧ nameOf a = n) (v : ByteArray) : L.take i ++ newAt n v :: L.drop i = attrPut L n v := by
  refine asc_uniq ?_ (put_asc hasc) fun s => ?_
  · have h2 := hasc
    rw [← List.take_append_drop i L] at h2
    obtain ⟨p1, p2, p3⟩ := List.pairwise_append.1 h2
    refine List.pairwise_append.2 ⟨p1, List.pairwise_cons.2 ⟨fun y hy => drop_gt h hno hasc hy, p2⟩, fun x hx y hy => ?_⟩
    rcases List.mem_cons.1 hy with rfl | hy
    · exact take_lt h hx
    · exact p3 x hx y hy
  · rw [put_mem, List.mem_append, List.mem_cons]
    have hm : s ∈ L ↔ s ∈ L.take i ∨ s ∈ L.drop i := by rw [← List.mem_append, List.take_append_drop]
    rw [hm]
    constructor
    · rintro (h1 | h1 | h1)
      · exact .inr ⟨.inl h1, ne_of_lt (take_lt h h1)⟩
      · exact .inl h1
      · exact .inr ⟨.inr h1, fun e => by have := drop_gt h hno hasc h1; rw [e, nLt_irr] at this; cases this⟩
    · rintro (h1 | ⟨h1 | h1, _⟩)
      · exact .inr (.inl h1)
      · exact .inl h1
      · exact .inr (.inr h1)
/-- Drop. -/
theorem found_del {L : List At} {n : Pr} {i : Nat} {b : Bool} (h : Srch L n i b) (hasc : L.Pairwise fun a b => aLt a b = true) {a : At} (ha : L[i]? = some a) (hn : nameOf a = n) : L.take i ++ L.drop (i + 1) = attrDrop L n := by
  have hi := (List.getElem?_eq_some_iff.1 ha).1
  have eL : L = L.take i ++ a :: L.drop (i + 1) := by
    have := (List.getElem?_eq_some_iff.1 ha).2
    rw [← this, ← List.drop_eq_getElem_cons hi, List.take_append_drop]
  have hgt : ∀ s ∈ L.drop (i + 1), nLt n (nameOf s) = true := fun s hs => by
    have := mem_tail hs hasc ha
    unfold aLt at this
    rw [hn] at this; exact this
  refine asc_uniq ?_ (drop_asc hasc) fun s => ?_
  · have h2 := hasc
    rw [eL] at h2
    obtain ⟨p1, p2, p3⟩ := List.pairwise_append.1 h2
    exact List.pairwise_append.2 ⟨p1, (List.pairwise_cons.1 p2).2, fun x hx y hy => p3 x hx y (List.mem_cons_of_mem _ hy)⟩
  · rw [drop_mem, List.mem_append]
    constructor
    · rintro (h1 | h1)
      · exact ⟨List.mem_of_mem_take h1, ne_of_lt (take_lt h h1)⟩
      · exact ⟨List.mem_of_mem_drop h1, fun e => by have := hgt s h1; rw [e, nLt_irr] at this; cases this⟩
    · rintro ⟨h1, h2⟩
      rw [eL, List.mem_append, List.mem_cons] at h1
      rcases h1 with h1 | h1 | h1
      · exact .inl h1
      · exact absurd (by rw [h1]; exact hn) h2
      · exact .inr h1
theorem rows_setcell {L : List At} {i : Nat} {a : At} (ha : L[i]? = some a) (rest : List Value) (v : ByteArray) : (rows atc L ++ rest).set (i * 3 + 2) (.string v) = rows atc (L.set i (newAt (nameOf a) v)) ++ rest := by
  obtain ⟨hi, rfl⟩ := List.getElem?_eq_some_iff.1 ha
  have e1 : rows atc L = rows atc (L.take i) ++ (atc L[i] ++ rows atc (L.drop (i + 1))) := by
    conv => lhs; rw [← List.take_append_drop i L, List.drop_eq_getElem_cons hi]
    rw [rows_append, rows_cons]
  have e2 : rows atc (L.set i (newAt (nameOf L[i]) v)) = rows atc (L.take i) ++ (atc (newAt (nameOf L[i]) v) ++ rows atc (L.drop (i + 1))) := by
    rw [List.set_eq_take_append_cons_drop, if_pos hi, rows_append, rows_cons]
  have hl : (rows atc (L.take i)).length = i * 3 := by rw [rows_len (even_at _), List.length_take, Nat.min_eq_left (by omega)]
  rw [e1, e2]
  simp only [List.append_assoc]
  exact set_mid (x0 := .string L[i].1) (x1 := .string L[i].2.1) (x2 := .string L[i].2.2) (v := .string v) (B := rows atc (L.drop (i + 1)) ++ rest) hl
theorem chgd_at {k : Int} {u l t : ByteArray} {ats : List At} {ks : List Nd} {e : Ed} (h6 : e.op ≠ 6) : chgd (.mk k u l t ats ks) e = if k ≠ 2 then (33, .mk k u l t ats ks) else if e.op = 5 then (if attrHas ats e.name = true then 0 else 7, .mk k u l t (attrDrop ats e.name) ks) else (0, .mk k u l t (attrPut ats e.name e.text) ks) := by
  simp only [chgd]; rw [if_neg h6]
end Go.Vc
namespace Go.Proofs.YtkgfbphdmnapdaaGreatDoor
open Go Go.Vc Go.Lib
section
variable {w : World}
/-- Nothing below the place is touched that the place does not own. -/
def AttrPost (w : World) (b : Addr) (y : NV) (cs : List Value) (t : TypeId) (e : EV) (J : Int → World → Prop) : Prop :=
  (∀ w', (chgd y.nd e.ed).1 ≠ 0 → Chg (fun z => z = b.block ∨ z ∈ y.bs) w w' → J (chgd y.nd e.ed).1 w') ∧ (∀ w' y', (chgd y.nd e.ed).1 = 0 → Turned w w' b y y' cs t → y'.nd = (chgd y.nd e.ed).2 → J 0 w')
theorem Attr_ok {b : Addr} {y : NV} {cs : List Value} {t : TypeId} {e : EV} {J : Int → World → Prop} (hP : Place w b y cs t) (hop : e.op = 4 ∨ e.op = 5) (hym : y.mea ≤ 100000000) (hasc : ascB y.nd.attrs = true) (K : AttrPost w b y cs t e J) :
    callJ Tryz.prog fn_edit_attr #[.pointer (some b), .agg ⟨e.cells⟩] w [.one (.int .i64)] J := by
  obtain ⟨eop, ep, el, ec, epa, eu, en, et, end_⟩ := e
  cases end_ with
  | mk nk nu nl nt nap nal nac nas nkp nkl nkc nks =>
  obtain ⟨K1, K2⟩ := K
  have hown := hP.ta.own
  have hbs := hP.ta.nd
  have hoff := hP.ta.off
  have hown0 := hown
  have hget := hP.get
  have hlt9 := hown.lt
  obtain ⟨bb, bo, bsp⟩ := b
  have hsp := hP.sp
  simp only at hsp
  subst hsp
  have hbk : w.heap[bb]? = some (.cells ⟨cs⟩ t (0, 0)) := hP.hb
  have hbo : bo + 6 ≤ cs.length := hP.ho
  have hbblt := lt_of_heap hbk
  cases y with
  | mk k u l tx ap al ac ats kp kl kc ks =>
  cases hown with
  | mk ha hk hks =>
  have hal := ha.sl.row (even_at ats) (by decide)
  have hla := len_atSum ats
  have hmm : al ≤ 100000000 := by simp only [NV.mea] at hym; omega
  have hasc' : ats.Pairwise fun a b => aLt a b = true := asc_pair (by rw [nd_kids] at hasc; exact hasc)
  rw [nd_kids] at K1 K2
  simp only at hop
  obtain ⟨E, hE, hE1, hE2, hE3⟩ : ∃ E, EV.ed ⟨eop, ep, el, ec, epa, eu, en, et, .mk nk nu nl nt nap nal nac nas nkp nkl nkc nks⟩ = E ∧ E.op = eop ∧ E.name = (eu, en) ∧ E.text = et := ⟨_, rfl, rfl, rfl, rfl⟩
  rw [hE, chgd_at (by omega), hE2, hE3] at K1
  rw [hE, chgd_at (by omega), hE2, hE3] at K2
  have ebs : (NV.mk k u l tx ap al ac ats kp kl kc ks).bs = blkL ap ++ (blkL kp ++ NV.bsL ks) := by simp only [NV.bs]
  refine c_edit_attr_n0 ?_
  unfold VC_edit_attr_n0
  refine (Hp.start w (fun z => z = bb ∨ z ∈ (NV.mk k u l tx ap al ac ats kp kl kc ks).bs)).newB fun b3 w1 H1 hb3 hc1 => ?_
  have cell : ∀ {wx : World} {j : Nat} {v : Value}, Chg No w wx → (NV.mk k u l tx ap al ac ats kp kl kc ks).cells[j]? = some v → wx.cell? ⟨bb, bo + j, none⟩ = some v := fun hc hv => by
    have := hc.cells hP.ta.cs (fun h => h) _ _ hv
    rwa [Addr.add_mk] at this
  refine ldI_i (cell (j := 0) hc1 rfl) ?_
  refine condB_ne (fun hk2 => ?_) (fun hk2 => ?_)
  · rw [if_pos hk2] at K1
    exact K1 w1 (show (33 : Int) ≠ 0 by decide) H1.chg
  rw [if_neg (fun h => h hk2)] at K1
  rw [if_neg (fun h => h hk2)] at K2
  have H1d := H1.drew
  have c1d : Chg No w w1.drew := hc1.drew
  simp only [Addr.add_mk]
  refine ⟨_, _, _, cell (j := 3) c1d rfl, ?_⟩
  refine H1d.ldStr 0 rfl (off := 2) rfl ?_
  refine H1d.ldStr 0 rfl (off := 3) rfl ?_
  refine Search_ok (n := (eu, en)) (ha.sl.chg c1d (off_no _)) hmm hasc' fun i found w2 hi hlo hhi hf hc2 => ?_
  have H2 := H1d.step0 hc2
  have c2 := c1d.trans0 hc2
  have F : Srch ats (eu, en) i found := ⟨by omega, hlo, hhi, hf⟩
  have hhas := F.has hasc'
  have hs1 := hc1.size
  have hs2 : w.heap.size ≤ w2.heap.size := c2.size
  have b3lt := H2.lt 0 rfl
  refine withJ_i fun J0 hJ0 => ?_
  subst hJ0
  refine withJ_i fun J22 hJ22 => ?_
  -- the node's own cells
  have hN : ∀ {wx : World}, Chg No w wx → wx.heap[bb]? = some (.cells ⟨cs⟩ t (0, 0)) := fun hc => hc.heap hbk (fun h => h)
  have hroom : bo + (NV.mk k u l tx ap al ac ats kp kl kc ks).cells.length ≤ cs.length := hbo
  obtain ⟨hnA, hnR, hdA⟩ := List.nodup_append.1 (ebs ▸ hbs)
  have hoff' : ¬ bb ∈ blkL ap ++ (blkL kp ++ NV.bsL ks) := ebs ▸ hoff
  have hkidblk : ∀ z ∈ blkL kp ++ NV.bsL ks, ¬ z ∈ blkL ap := fun z hz hz2 => hdA z hz2 z hz rfl
  -- set where there is one
  have k22t : eop = 4 → found = true → J22 true w2 := by
    intro h4 hft; subst hJ22
    refine condB_i (fun _ => ?_) (fun h => by cases h)
    obtain ⟨a, hai, han⟩ := F.f.1 hft
    have hil := (List.getElem?_eq_some_iff.1 hai).1
    have H2d := H2.drew
    have c2d := c2.drew
    refine ⟨_, _, _, cell (j := 3) c2d rfl, ?_⟩
    refine H2d.ldStr 0 rfl (off := 4) rfl ?_
    obtain ⟨ab, rest, rfl, hab, _, hacm, hacl⟩ := ha.some0 (show al ≠ 0 by omega)
    refine idxA_i (by omega) (by omega) ?_
    rw [Addr.add_mk, Addr.add_mk, Int.toNat_natCast, Nat.zero_add]
    have hab2 := c2d.heap hab (fun h => h)
    have hbab : bb ≠ ab := fun e => hoff' (by rw [e]; exact List.mem_append_left _ (List.mem_singleton.2 rfl))
    have hrl : (rows atc ats ++ rest).length = ac * 3 := hacl
    have hac : al * 3 ≤ ac * 3 := Nat.mul_le_mul_right _ ha.le.1
    have hi3 : i * 3 + 3 ≤ al * 3 := by have := Nat.mul_le_mul_right 3 (show i + 1 ≤ al by omega); omega
    refine ((Hp.start w2.drew (fun x => x = ab)).add hab2 (by simp) (fun _ => rfl)).stV 0 rfl (off := i * 3 + 2) (by omega) fun w5 H5 hc5 => ?_
    simp only [List.set_cons_zero] at H5
    have hg5 := H5.get 0 rfl
    rw [rows_setcell hai, han, found_set F hasc' hai han] at hg5
    have hput : (attrPut ats (eu, en) et).length = al := by rw [← found_set F hasc' hai han et, List.length_set]; exact hal
    have hc05 : Chg (fun z => z = ab) w w5 := (c2d.mono fun _ _ h => h.elim).trans hc5 fun _ _ h => h
    refine K2 w5 (.mk k u l tx (some ⟨ab, 0, none⟩) al ac (attrPut ats (eu, en) et) kp kl kc ks) ?_ ⟨?_, ?_, ?_, ?_, ?_⟩ ?_
    · rw [if_neg (show ¬ E.op = 5 by omega)]
    · exact hc05.mono fun z _ hz => .inr (by rw [ebs, hz]; exact List.mem_append_left _ (List.mem_singleton.2 rfl))
    · have h1 : w5.heap[bb]? = some (.cells ⟨cs⟩ t (0, 0)) := hc05.heap hbk hbab
      rw [show splice cs bo (NV.mk k u l tx (some ⟨ab, 0, none⟩) al ac (attrPut ats (eu, en) et) kp kl kc ks).cells = cs from splice_same hget hroom]
      exact h1
    · refine .mk ?_ (hk.chg hc05 fun a e h => ?_) fun x hx => (hks x hx).chg hc05 fun z hz h => ?_
      · refine Row.mk0 (rest := rest) hg5 (by rw [rows_len (even_at _), hput]) ha.le.1 hacm ?_
        rw [List.length_append, rows_len (even_at _), hput]
        rw [List.length_append, rows_len (even_at _), hal] at hrl; exact hrl
      · subst e; exact hkidblk ab (List.mem_append_left _ (by rw [← h]; exact List.mem_singleton.2 rfl)) (List.mem_singleton.2 rfl)
      · exact hkidblk z (List.mem_append_right _ (bsL_mem hx hz)) (by rw [h]; exact List.mem_singleton.2 rfl)
    · exact hbs
    · intro z hz; exact .inl hz
    · rw [nd_kids, if_neg (show ¬ E.op = 5 by omega)]
  -- set where there is none, drop, or nothing to drop
  have k22f : (eop = 4 → found = false) → J22 false w2 := by
    intro h4f; subst hJ22
    refine condB_i (fun h => by cases h) (fun _ => ?_)
    refine H2.ldI 0 rfl (off := 0) rfl ?_
    -- the list's new head, written
    have fin : ∀ (L' : List At) (p' : Option Addr) (l' c' : Nat) (w7 : World) (J' : World → Prop), Row w7 T_api_Attr 3 p' l' c' (rows atc L') → Chg (isB ap) w w7 → (p' = ap ∨ fresh w p') → (NV.mk k u l tx p' l' c' L' kp kl kc ks).nd = (NV.mk k u l tx ap al ac L' kp kl kc ks).nd → (∀ w8, Turned w w8 ⟨bb, bo, none⟩ (.mk k u l tx ap al ac ats kp kl kc ks) (.mk k u l tx p' l' c' L' kp kl kc ks) cs t → J' w8) →
        stV w7 ⟨bb, bo + 3, none⟩ (.slice p' l' c') J' := by
      intro L' p' l' c' w7 J' hr7 hc7 hf7 _ kk
      have hbap : ∀ a, ap = some a → a.block ≠ bb := fun a e h => hoff' (by subst e; rw [← h]; exact List.mem_append_left _ (List.mem_singleton.2 rfl))
      have hb7 := hc7.heap hbk (by rintro ⟨a, e, h⟩; exact hbap a e h)
      refine ((Hp.start w7 (fun x => x = bb)).add hb7 (by simp) (fun _ => rfl)).stV 0 rfl (off := bo + 3) (by omega) fun w8 H8 hc8 => ?_
      simp only [List.set_cons_zero] at H8
      have hg8 := H8.get 0 rfl
      rw [splice_one (vs := (NV.mk k u l tx ap al ac ats kp kl kc ks).cells) hget hroom (by show 3 < 6; decide)] at hg8
      have hapL : ∀ z, isB ap z → z ∈ blkL ap := by rintro z ⟨a, e, h⟩; subst e; rw [← h]; exact List.mem_singleton.2 rfl
      have hc08 : Chg (fun z => z = bb ∨ isB ap z) w w8 := (hc7.mono fun z _ h => .inr h).trans hc8 fun z _ h => .inl h
      have hp'b : ∀ a, p' = some a → a.block ≠ bb := fun a e h => by
        rcases hf7 with rfl | hf7
        · exact hbap a e h
        · have := hf7 a e; omega
      refine kk w8 ⟨?_, hg8, ?_, ?_, ?_⟩
      · exact hc08.mono fun z _ h => h.imp id fun h => by rw [ebs]; exact List.mem_append_left _ (hapL z h)
      · refine .mk (hr7.chg hc8 fun a e h => hp'b a e h) (hk.chg hc08 fun a e h => ?_) fun x hx => (hks x hx).chg hc08 fun z hz h => ?_
        · subst e
          rcases h with h | h
          · exact hoff' (List.mem_append_right _ (List.mem_append_left _ (by rw [← h]; exact List.mem_singleton.2 rfl)))
          · exact hkidblk _ (List.mem_append_left _ (List.mem_singleton.2 rfl)) (hapL _ h)
        · rcases h with h | h
          · exact hoff' (List.mem_append_right _ (List.mem_append_right _ (by rw [← h]; exact bsL_mem hx hz)))
          · exact hkidblk z (List.mem_append_right _ (bsL_mem hx hz)) (hapL z h)
      · have e9 : (NV.mk k u l tx p' l' c' L' kp kl kc ks).bs = blkL p' ++ (blkL kp ++ NV.bsL ks) := by simp only [NV.bs]
        rw [e9]
        rcases hf7 with rfl | hf7
        · exact ebs ▸ hbs
        · refine List.nodup_append.2 ⟨by cases p' <;> simp [blkL], hnR, fun a h1 b h2 e => ?_⟩
          subst e
          cases p' with
          | none => simp [blkL] at h1
          | some a' =>
            rw [List.mem_singleton.1 h1] at h2
            have := hf7 a' rfl
            have := hlt9 a'.block (by rw [ebs]; exact List.mem_append_right _ h2)
            omega
      · have e9 : (NV.mk k u l tx p' l' c' L' kp kl kc ks).bs = blkL p' ++ (blkL kp ++ NV.bsL ks) := by simp only [NV.bs]
        rw [e9, ebs]
        intro z hz
        rcases List.mem_append.1 hz with hz | hz
        · rcases hf7 with rfl | hf7
          · exact .inl (List.mem_append_left _ hz)
          · right
            cases p' with
            | none => simp [blkL] at hz
            | some a' => rw [List.mem_singleton.1 hz]; exact hf7 a' rfl
        · exact .inl (List.mem_append_right _ hz)
    refine condB_eq (fun h4 => ?_) (fun h4 => ?_)
    · replace h4 : eop = 4 := h4
      have hno : ¬ ∃ a, ats[i]? = some a ∧ nameOf a = (eu, en) := fun h => by have := F.f.2 h; rw [h4f h4] at this; cases this
      have H2d := H2.drew
      have c2d := c2.drew
      refine ⟨_, _, _, cell (j := 3) c2d rfl, ?_⟩
      refine H2d.ldStr 0 rfl (off := 2) rfl ?_
      refine H2d.ldStr 0 rfl (off := 3) rfl ?_
      refine H2d.ldStr 0 rfl (off := 4) rfl ?_
      refine ⟨rfl, rfl, ?_⟩
      refine H2d.newB (cs := atc (newAt (eu, en) et)) fun b53 w6 H6 hb53 hc6 => ?_
      have c6 := c2d.trans0 hc6
      have s2d : w2.drew.heap.size = w2.heap.size := rfl
      refine ⟨cell (j := 3) c6 rfl, ?_⟩
      refine InsAttr_ok (x := newAt (eu, en) et) (ha.chg c6 (off_no _)) (H6.get 0 rfl) (fun a e h => by have := ha.lt a e; omega) hi hmm fun p' c' w7 hr7 hc7 hf7 => ?_
      refine fin (attrPut ats (eu, en) et) p' (al + 1) c' w7 _ ?_ (c6.mono (fun _ _ h => h.elim) |>.trans hc7 fun _ _ h => h) (hf7.imp id fun h a e => by have := h a e; have := c6.size; omega) (by rw [nd_kids, nd_kids]) fun w8 hT => K2 w8 _ ?_ hT ?_
      · rw [found_ins F hasc' hno] at hr7; exact hr7
      · rw [if_neg (show ¬ E.op = 5 by omega)]
      · rw [nd_kids, if_neg (show ¬ E.op = 5 by omega)]
    · replace h4 : ¬ eop = 4 := h4
      have h5 : eop = 5 := by omega
      rw [if_pos (hE1.trans h5)] at K1
      rw [if_pos (hE1.trans h5)] at K2
      refine condB_i (fun hft => ?_) (fun hff => ?_)
      · obtain ⟨a, hai, han⟩ := F.f.1 hft
        have hil := (List.getElem?_eq_some_iff.1 hai).1
        refine ⟨_, _, _, cell (j := 3) c2 rfl, ?_⟩
        rw [show w64 ((i : Int) + 1) = ((i + 1 : Nat) : Int) from by rw [w64_of] <;> omega]
        refine DelAttr_ok (ha.chg c2 (off_no _)) (by omega) hmm fun w9 hr9 hc9 => ?_
        refine fin (attrDrop ats (eu, en)) ap (al - 1) ac w9 _ ?_ ((c2.mono fun _ _ h => h.elim).trans hc9 fun _ _ h => h) (.inl rfl) (by rw [nd_kids, nd_kids]) fun w10 hT => K2 w10 _ ?_ hT ?_
        · rw [found_del F hasc' hai han] at hr9; exact hr9
        · rw [← hhas, hft]; rfl
        · rw [nd_kids]
      · rw [← hhas, hff] at K1
        exact K1 w2 (show (7 : Int) ≠ 0 by decide) (c2.mono fun _ _ h => h.elim)
  clear hJ22
  refine H2.ldI 0 rfl (off := 0) rfl ?_
  refine condB_eq (fun h4 => ?_) (fun h4 => k22f fun h => absurd h h4)
  cases found with
  | true => exact k22t h4 rfl
  | false => exact k22f fun _ => rfl
end
end Go.Proofs.YtkgfbphdmnapdaaGreatDoor

/-
  Edits in memory: one edit done to a tree of its own.
-/
set_option linter.unusedVariables false
set_option linter.unusedSimpArgs false
namespace Go.Vc
open Go Go.Lib
def doN (v : Nd) (e : Ed) : Int × Nd := if e.op < 1 ∨ 6 < e.op then (1, v) else if e.pa = [] then (35, v) else edN v e.pa e
theorem addrAt_append {s : List Int} : ∀ {r : List Int} {a b : Addr} {v y : NV}, addrAt a v r = some (b, y) → addrAt a v (r ++ s) = addrAt b y s
  | [], a, b, v, y, h => by
    simp only [addrAt, Option.some.injEq, Prod.mk.injEq] at h
    obtain ⟨rfl, rfl⟩ := h; rfl
  | i :: r, a, b, .mk k u l t ap al ac ats kp kl kc ks, y, h => by
    simp only [addrAt] at h
    simp only [List.cons_append, addrAt]
    split at h
    · cases h
    next hi =>
    rw [if_neg hi]
    split at h
    · exact addrAt_append h
    · cases h
end Go.Vc
namespace Go.Proofs.YtkgfbphdmnapdaaGreatDoor
open Go Go.Vc Go.Lib
section
variable {w w' w0 : World}
theorem Own.chg0 {v : NV} (h : Own w v) (hc : Chg No w w') : Own w' v := h.chg hc fun _ _ h => h
theorem Place.chg0 {b : Addr} {y : NV} {cs : List Value} {e : TypeId} (P : Place w b y cs e) (hc : Chg No w w') : Place w' b y cs e :=
  ⟨⟨hc.cells P.ta.cs (fun h => h), P.ta.own.chg0 hc, P.ta.nd, P.ta.off⟩, P.sp, hc.heap P.hb (fun h => h), P.ho⟩
theorem Turned.from0 {b : Addr} {y y' : NV} {cs : List Value} {e : TypeId} (h : Turned w0 w' b y y' cs e) (hc : Chg No w w0) : Turned w w' b y y' cs e :=
  ⟨(hc.mono fun _ _ h => h.elim).trans h.hc fun _ _ h => h, h.hb, h.own, h.nd, fun z hz => (h.bs z hz).imp id fun h => Nat.le_trans hc.size h⟩
/-- The head of a node's kids, written. -/
theorem headK {bb bo : Nat} {k : Int} {u l tx : ByteArray} {ap : Option Addr} {al ac : Nat} {ats : List At} {kp : Option Addr} {kl kc : Nat} {ks : List NV} {cs : List Value} {t : TypeId} (hP : Place w ⟨bb, bo, none⟩ (.mk k u l tx ap al ac ats kp kl kc ks) cs t)
    {L' : List NV} {p' : Option Addr} {l' c' : Nat} {w7 : World} {J' : World → Prop} (hr7 : Row w7 T_api_Node 6 p' l' c' (rows NV.cells L')) (hc7 : Chg (isB kp) w w7) (hf7 : p' = kp ∨ fresh w p') (ho7 : ∀ x ∈ L', Own w7 x) (hn7 : (NV.bsL L').Nodup) (hb7 : ∀ z ∈ NV.bsL L', z ∈ NV.bsL ks ∨ w.heap.size ≤ z) (hd7 : ∀ z ∈ NV.bsL L', ¬ isB p' z)
    (kk : ∀ w8, Turned w w8 ⟨bb, bo, none⟩ (.mk k u l tx ap al ac ats kp kl kc ks) (.mk k u l tx ap al ac ats p' l' c' L') cs t → J' w8) :
    stV w7 ⟨bb, bo + 4, none⟩ (.slice p' l' c') J' := by
  have hget := hP.get
  have hbk : w.heap[bb]? = some (.cells ⟨cs⟩ t (0, 0)) := hP.hb
  have hbo : bo + 6 ≤ cs.length := hP.ho
  have hroom : bo + (NV.mk k u l tx ap al ac ats kp kl kc ks).cells.length ≤ cs.length := hbo
  have hoff := hP.ta.off
  have hbs := hP.ta.nd
  have hlt9 := hP.ta.own.lt
  have hbblt := lt_of_heap hbk
  have ebs : (NV.mk k u l tx ap al ac ats kp kl kc ks).bs = blkL ap ++ (blkL kp ++ NV.bsL ks) := by simp only [NV.bs]
  rw [ebs] at hoff hbs hlt9
  obtain ⟨hnA, hnR, hdA⟩ := List.nodup_append.1 hbs
  obtain ⟨hnK, hnL, hdK⟩ := List.nodup_append.1 hnR
  have hkL : ∀ z, isB kp z → z ∈ blkL kp := by rintro z ⟨a, e, h⟩; subst e; rw [← h]; exact List.mem_singleton.2 rfl
  have hnb : ∀ z, isB kp z → z ≠ bb := fun z hz e => hoff (List.mem_append_right _ (List.mem_append_left _ (e ▸ hkL z hz)))
  have hown := hP.ta.own
  cases hown with
  | mk ha hk hks =>
  have hb7' := hc7.heap hbk (fun h => hnb bb h rfl)
  refine ((Hp.start w7 (fun x => x = bb)).add hb7' (by simp) (fun _ => rfl)).stV 0 rfl (off := bo + 4) (by omega) fun w8 H8 hc8 => ?_
  simp only [List.set_cons_zero] at H8
  have hg8 := H8.get 0 rfl
  rw [splice_one (vs := (NV.mk k u l tx ap al ac ats kp kl kc ks).cells) hget hroom (by show 4 < 6; decide)] at hg8
  have hc08 : Chg (fun z => z = bb ∨ isB kp z) w w8 := (hc7.mono fun z _ h => .inr h).trans hc8 fun z _ h => .inl h
  have hp'b : ∀ a, p' = some a → a.block ≠ bb := fun a e h => by
    rcases hf7 with rfl | hf7
    · exact hnb _ ⟨a, e, rfl⟩ h
    · have := hf7 a e; omega
  have hzb : ∀ z ∈ NV.bsL L', z ≠ bb := fun z hz e => by
    rcases hb7 z hz with h | h
    · exact hoff (List.mem_append_right _ (List.mem_append_right _ (e ▸ h)))
    · omega
  have e9 : (NV.mk k u l tx ap al ac ats p' l' c' L').bs = blkL ap ++ (blkL p' ++ NV.bsL L') := by simp only [NV.bs]
  have hp'1 : ∀ z ∈ blkL p', isB p' z := fun z hz => by
    cases p' with
    | none => simp [blkL] at hz
    | some a => exact ⟨a, rfl, (List.mem_singleton.1 hz).symm⟩
  have hp'2 : ∀ z ∈ blkL p', z ∈ blkL kp ∨ w.heap.size ≤ z := fun z hz => by
    rcases hf7 with rfl | hf7
    · exact .inl hz
    · obtain ⟨a, e, h⟩ := hp'1 z hz
      rw [← h]; exact .inr (hf7 a e)
  refine kk w8 ⟨?_, hg8, ?_, ?_, ?_⟩
  · exact hc08.mono fun z _ h => h.imp id fun h => by rw [ebs]; exact List.mem_append_right _ (List.mem_append_left _ (hkL z h))
  · refine .mk (ha.chg hc08 fun a e h => ?_) (hr7.chg hc8 fun a e h => hp'b a e h) fun x hx => (ho7 x hx).chg hc8 fun z hz h => hzb z (bsL_mem hx hz) h
    subst e
    rcases h with h | h
    · exact hoff (List.mem_append_left _ (by rw [← h]; exact List.mem_singleton.2 rfl))
    · exact hdA a.block (List.mem_singleton.2 rfl) _ (List.mem_append_left _ (hkL _ h)) rfl
  · rw [e9]
    refine List.nodup_append.2 ⟨hnA, List.nodup_append.2 ⟨by cases p' <;> simp [blkL], hn7, fun a h1 b h2 e => ?_⟩, fun a h1 b h2 e => ?_⟩
    · subst e; exact hd7 a h2 (hp'1 a h1)
    · subst e
      have hlta := hlt9 a (List.mem_append_left _ h1)
      rcases List.mem_append.1 h2 with h2 | h2
      · rcases hp'2 a h2 with h | h
        · exact hdA a h1 a (List.mem_append_left _ h) rfl
        · omega
      · rcases hb7 a h2 with h | h
        · exact hdA a h1 a (List.mem_append_right _ h) rfl
        · omega
  · rw [e9, ebs]
    intro z hz
    rcases List.mem_append.1 hz with hz | hz
    · exact .inl (List.mem_append_left _ hz)
    rcases List.mem_append.1 hz with hz | hz
    · exact (hp'2 z hz).imp (fun h => List.mem_append_right _ (List.mem_append_left _ h)) id
    · exact (hb7 z hz).imp (fun h => List.mem_append_right _ (List.mem_append_right _ h)) id
theorem Do_ok {ab : Nat} {v : NV} {cs : List Value} {t : TypeId} {e : EV} {J : Int → World → Prop} (hP : Place w ⟨ab, 0, none⟩ v cs t) (he : EV.Ok w e) (hR : Right v.nd) (hm : v.mea + e.mea ≤ 10000000)
    (K1 : ∀ w', (doN v.nd e.ed).1 ≠ 0 → Chg (fun z => z = ab ∨ z ∈ v.bs) w w' → J (doN v.nd e.ed).1 w')
    (K2 : ∀ w' v', (doN v.nd e.ed).1 = 0 → TreeAt w' ⟨ab, 0, none⟩ v' → v'.nd = (doN v.nd e.ed).2 → (∀ z ∈ v'.bs, z ∈ v.bs ∨ w.heap.size ≤ z) → Chg (fun z => z = ab ∨ z ∈ v.bs) w w' → J 0 w') :
    callJ Tryz.prog fn_edit_do #[.pointer (some ⟨ab, 0, none⟩), .agg ⟨e.cells⟩] w [.one (.int .i64)] J := by
  obtain ⟨eop, ep, el, ec, epa, eu, en, et, nv⟩ := e
  have hnode := he.nd
  have hpath : Sl w ep el 1 (rows intC epa) := he.sl
  have hcap : el ≤ ec := he.cap
  have hpl : epa.length = el := hpath.row (fun _ _ => rfl) (by decide)
  obtain ⟨E, hE, hE1, hE2, hE3, hE4, hE5⟩ : ∃ E, EV.ed ⟨eop, ep, el, ec, epa, eu, en, et, nv⟩ = E ∧ E.op = eop ∧ E.pa = epa ∧ E.name = (eu, en) ∧ E.text = et ∧ E.node = nv.nd := ⟨_, rfl, rfl, rfl, rfl, rfl, rfl⟩
  rw [hE] at K1 K2
  unfold EV.mea at hm
  simp only at hm hnode
  have he0 := he
  cases nv with
  | mk nk nu nl nt nap nal nac nas nkp nkl nkc nks =>
  unfold doN at K1 K2
  refine c_edit_do ?_
  unfold VC_edit_do
  refine nodeBox (Hp.start w No) fun b3 w1 H1 hb3 hc1 => ?_
  simp only [EV.cells] at H1
  have hel : el ≤ 10000000 := by omega
  replace hcap : el ≤ ec := hcap
  refine withJ_i fun J9 hJ9 => ?_
  have k9t : (eop < 1 ∨ 6 < eop) → J9 true w1 := by
    intro hb; subst hJ9
    refine condB_i (fun _ => ?_) (fun h => by cases h)
    rw [if_pos (show E.op < 1 ∨ 6 < E.op by omega)] at K1
    exact K1 w1 (show (1 : Int) ≠ 0 by decide) (hc1.mono fun _ _ h => h.elim)
  have k9f : 1 ≤ eop → eop ≤ 6 → J9 false w1 := by
    intro ho1 ho6; subst hJ9
    rw [if_neg (show ¬ (E.op < 1 ∨ 6 < E.op) by omega)] at K1
    rw [if_neg (show ¬ (E.op < 1 ∨ 6 < E.op) by omega)] at K2
    refine condB_i (fun h => by cases h) (fun _ => ?_)
    refine H1.ldS 0 rfl (off := 1) rfl ?_
    refine condB_eq (fun h0 => ?_) (fun h0 => ?_)
    · replace h0 : (el : Int) = 0 := h0
      have : epa = [] := List.eq_nil_of_length_eq_zero (by omega)
      rw [if_pos (hE2.trans this)] at K1
      exact K1 w1 (show (35 : Int) ≠ 0 by decide) (hc1.mono fun _ _ h => h.elim)
    have hne : epa ≠ [] := fun h => h0 (by rw [← hpl, h]; rfl)
    rw [if_neg (show ¬ E.pa = [] by rw [hE2]; exact hne), hE2] at K1
    rw [if_neg (show ¬ E.pa = [] by rw [hE2]; exact hne), hE2] at K2
    obtain ⟨r, i, hri⟩ := path_split hne
    have hrl : r.length + 1 = el := by rw [← hpl, hri]; simp
    rw [hri] at K1 K2
    refine H1.ldS 0 rfl (off := 1) rfl ?_
    refine H1.ldS 0 rfl (off := 1) rfl ?_
    have e1 : w64 ((el : Int) - 1) = ((el - 1 : Nat) : Int) := by rw [w64_of] <;> omega
    rw [e1]
    have hp1 := hpath.chg hc1 (off_no _)
    refine idx_rows (f := intC) hp1 (fun _ _ => rfl) (by decide) (by omega) (by omega) fun ad z _ hz hcs => ?_
    rw [Int.toNat_natCast, hri, List.getElem?_append_right (by omega), show el - 1 - r.length = 0 by omega] at hz
    obtain rfl : i = z := Option.some.inj hz
    refine ⟨_, cellsAt_head hcs, ?_⟩
    refine H1.ldS 0 rfl (off := 1) rfl ?_
    refine H1.ldS 0 rfl (off := 1) rfl ?_
    refine slS_sl (i := 0) (j := el - 1) hp1 rfl e1 (Nat.zero_le _) (by omega) hcap fun q39 h39 _ => ?_
    have e39 : ((rows intC epa).drop (0 * 1)).take ((el - 1 - 0) * 1) = rows intC r := by
      rw [Nat.zero_mul, List.drop_zero, Nat.sub_zero, rows_take (fun _ _ => rfl : ∀ x ∈ epa, (intC x).length = 1), hri, List.take_left' (by omega)]
    rw [e39] at h39
    refine Find_ok (hP.chg0 hc1) h39 (by omega) (fun b y w3 hat hc3 => ?_) (fun w3 hat hc3 => ?_)
    rotate_left
    · refine withJ_i fun J71 hJ71 => ?_
      refine condB_i (fun _ => ?_) (fun h => by cases h)
      subst hJ71
      refine condB_i (fun _ => ?_) (fun h => by cases h)
      have hno := @addr_node w ⟨ab, 0, none⟩ r ⟨ab, 0, none⟩ v hP.ta.own
      rw [hat] at hno
      have h35 := edN_none (e := E) (i := i) (show nodeAt v.nd r = none from hno.symm)
      have := K1 w3 (by rw [h35]; decide) ((hc1.trans0 hc3).mono fun _ _ h => h.elim)
      rw [h35] at this; exact this
    obtain ⟨cs', t', P⟩ := Place.at (e := t) hP hat
    have hnd := @addr_node w ⟨ab, 0, none⟩ r ⟨ab, 0, none⟩ v hP.ta.own
    rw [hat] at hnd
    have hnd' : nodeAt v.nd r = some y.nd := hnd.symm
    rw [edN_some hnd'] at K1 K2
    have hymea := mea_setAt (z := y.nd) hnd'
    have hynode := nodeAt_flat hnd'
    have hsub : ∀ z, (z = b.block ∨ z ∈ y.bs) → z = ab ∨ z ∈ v.bs := fun z hz => by
      rcases addrAt_in (v := v) hat with ⟨_, rfl, rfl⟩ | ⟨g1, g2⟩
      · exact hz
      · rcases hz with rfl | hz
        · exact .inr g1
        · exact .inr (g2 z hz)
    have K2' : ∀ w8 y', Turned w w8 b y y' cs' t' → edHere y.nd i E = (0, y'.nd) → J 0 w8 := fun w8 y' hT h => by
      obtain ⟨v', a1, a2, a3⟩ := hT.tree P rfl hP.ta hat
      exact K2 w8 v' (by rw [h]) a1 (by rw [h]; exact a2) a3 (hT.hc.mono fun z _ hz => hsub z hz)
    have K4 := K2
    have K1' : ∀ w8 f, Chg (fun z => z = b.block ∨ z ∈ y.bs) w w8 → f ≠ 0 → (edHere y.nd i E).1 = f → J f w8 := fun w8 f hc hf h => by
      subst h
      exact K1 w8 hf (hc.mono fun z _ hz => hsub z hz)
    clear K1 K2
    have hH3 := H1.step0 hc3
    have c13 := hH3.chg
    have hyR : ∀ x : NV, nodeAt v.nd (r ++ [i]) = some x.nd → ascB x.nd.attrs = true := fun x hx => asc_attrs hR hx
    have hna : nodeAt v.nd (r ++ [i]) = nodeAt y.nd [i] := by rw [nodeAt_append, hnd']; rfl
    obtain ⟨bb, bo, bsp⟩ := b
    have hsp := P.sp
    simp only at hsp
    subst hsp
    cases y with
    | mk k u l tx ap al ac ats kp kl kc ks =>
    have hyl : (NV.mk k u l tx ap al ac ats kp kl kc ks).mea ≤ 10000000 := by
      have h1 := nd_mea v
      have h2 := nd_mea (NV.mk k u l tx ap al ac ats kp kl kc ks)
      have h3 : (NV.mk k u l tx ap al ac ats kp kl kc ks).nd.mea ≤ v.nd.mea := by
        have h4 := mea_setAt (z := zeroN) hnd'
        have : 1 ≤ (setAt v.nd r zeroN).mea := by
          cases hs : setAt v.nd r zeroN with
          | mk k u l t a s => simp only [Nd.mea]; omega
        have h5 : zeroN.mea = 1 := by simp only [zeroN, Nd.mea, Nd.meaL]; decide
        omega
      omega
    have hown := P.ta.own
    have hown0 := hown
    cases hown with
    | mk ha hk hks =>
    have hkl := hk.sl.row (even_node ks) (by decide)
    have hlm := len_meaL ks
    have hkm : kl ≤ 10000000 ∧ NV.meaL ks ≤ 10000000 := by simp only [NV.mea] at hyl; omega
    have cell : ∀ {wx : World} {j : Nat} {v : Value}, Chg No w wx → (NV.mk k u l tx ap al ac ats kp kl kc ks).cells[j]? = some v → wx.cell? ⟨bb, bo + j, none⟩ = some v := fun hc hv => by
      have := hc.cells P.ta.cs (fun h => h) _ _ hv
      rwa [Addr.add_mk] at this
    have hHere : ¬ (i < 0 ∨ (kl : Int) < i ∨ (i = kl ∧ eop ≠ 1)) → edHere (NV.mk k u l tx ap al ac ats kp kl kc ks).nd i E = if E.op = 1 then (0, .mk k u l tx ats ((ks.map NV.nd).take i.toNat ++ E.node :: (ks.map NV.nd).drop i.toNat)) else if E.op = 2 then (0, .mk k u l tx ats ((ks.map NV.nd).take i.toNat ++ (ks.map NV.nd).drop (i.toNat + 1))) else if E.op = 3 then (0, .mk k u l tx ats ((ks.map NV.nd).set i.toNat E.node)) else match (ks.map NV.nd)[i.toNat]? with
        | some x => ((chgd x E).1, .mk k u l tx ats ((ks.map NV.nd).set i.toNat (chgd x E).2))
        | none => (35, .mk k u l tx ats (ks.map NV.nd)) := by
      intro h
      rw [nd_kids]
      simp only [edHere]
      rw [if_neg (by rw [List.length_map, hkl, hE1]; exact h)]
      rfl
    refine withJ_i fun J71 hJ71 => ?_
    have k71 : ∀ bl : Bool, (bl = true ↔ (i < 0 ∨ (kl : Int) < i ∨ (i = kl ∧ eop ≠ 1))) → J71 bl w3 := by
      intro bl hbl; subst hJ71
      refine condB_i (fun h => ?_) (fun h => ?_)
      · have hbad := hbl.1 h
        refine K1' w3 35 (c13.mono fun _ _ h => h.elim) (by decide) ?_
        rw [nd_kids]
        simp only [edHere]
        rw [if_pos (by rw [List.length_map, hkl, hE1]; exact hbad)]
      have hgood : ¬ (i < 0 ∨ (kl : Int) < i ∨ (i = kl ∧ eop ≠ 1)) := fun g => by rw [hbl.2 g] at h; cases h
      have hH := hHere hgood
      clear hHere hbl
      obtain ⟨n, rfl⟩ : ∃ n : Nat, i = n := ⟨i.toNat, by omega⟩
      simp only [Int.toNat_natCast] at hH
      have hnk : n ≤ kl := by omega
      refine withJ_i fun J0 hJ0 => ?_
      subst hJ0
      refine hH3.ldI 0 rfl (off := 0) rfl ?_
      refine condB_eq (fun h1 => ?_) (fun h1 => ?_)
      · -- a node is put in
        replace h1 : eop = 1 := h1
        rw [if_pos (hE1.trans h1)] at hH
        have H3d := hH3.drew
        have c3d := c13.drew
        simp only [nonNil]
        rw [Addr.add_mk]
        refine ⟨_, _, _, cell (j := 4) c3d rfl, ?_⟩
        refine H3d.ldI 0 rfl (off := 5) rfl ?_
        refine H3d.ldStr 0 rfl (off := 6) rfl ?_
        refine H3d.ldStr 0 rfl (off := 7) rfl ?_
        refine H3d.ldS 0 rfl (off := 8) rfl ?_
        refine H3d.ldS 0 rfl (off := 9) rfl ?_
        refine H3d.ldStr 0 rfl (off := 10) rfl ?_
        refine Copy_ok (NV.mk nk nu nl nt nap nal nac nas nkp nkl nkc nks) hnode c3d (by omega) fun xv w6 hxnd hxown hxno hxbl hxm hc6 => ?_
        have c6 := c3d.trans0 hc6
        have hxlt := hxown.lt
        have hxc := one1_node xv
        have hxnd' : xv.nd = E.node := hxnd.trans hE5.symm
        cases xv with
        | mk zk zu zl zt zap zal zac zas zkp zkl zkc zks =>
        refine ⟨cell (j := 4) c6 rfl, rfl, ?_⟩
        refine nodeBox (Hp.start w6 No) (cs := (NV.mk zk zu zl zt zap zal zac zas zkp zkl zkc zks).cells) fun b93 w7 H7 hb93 hc7 => ?_
        have c7 := c6.trans0 hc7
        have z3d : w.heap.size ≤ w3.drew.heap.size := c3d.size
        have z6 := hc6.size
        have z7 := hc7.size
        refine ⟨cell (j := 4) c7 rfl, ?_⟩
        refine InsNode_ok (x := NV.mk zk zu zl zt zap zal zac zas zkp zkl zkc zks) (hk.chg c7 (off_no _)) (H7.get 0 rfl) (fun a e h => by have := hk.lt a e; omega) hnk (by omega) fun p' c' w8 hr8 hc8 hf8 => ?_
        have hklt : ∀ z, isB kp z → z < w.heap.size := by rintro z ⟨a, e, h⟩; rw [← h]; exact hk.lt a e
        have hkd : ∀ z ∈ NV.bsL ks, ¬ isB kp z := by
          have ebs : (NV.mk k u l tx ap al ac ats kp kl kc ks).bs = blkL ap ++ (blkL kp ++ NV.bsL ks) := by simp only [NV.bs]
          have hnn := P.ta.nd
          rw [ebs] at hnn
          obtain ⟨_, hnR, _⟩ := List.nodup_append.1 hnn
          obtain ⟨_, _, hdK⟩ := List.nodup_append.1 hnR
          rintro z hz ⟨a, e, h⟩
          subst e
          exact hdK a.block (List.mem_singleton.2 rfl) z hz h
        have hksn : (NV.bsL ks).Nodup := by
          have ebs : (NV.mk k u l tx ap al ac ats kp kl kc ks).bs = blkL ap ++ (blkL kp ++ NV.bsL ks) := by simp only [NV.bs]
          have hnn := P.ta.nd
          rw [ebs] at hnn
          exact (List.nodup_append.1 (List.nodup_append.1 hnn).2.1).2.1
        have hkslt : ∀ z ∈ NV.bsL ks, z < w.heap.size := fun z hz => hown0.lt z (by simp only [NV.bs]; exact List.mem_append_right _ (List.mem_append_right _ hz))
        have eL : NV.bsL ks = NV.bsL (ks.take n) ++ NV.bsL (ks.drop n) := by rw [← bsL_append, List.take_append_drop]
        have eL' : NV.bsL (ks.take n ++ NV.mk zk zu zl zt zap zal zac zas zkp zkl zkc zks :: ks.drop n) = NV.bsL (ks.take n) ++ ((NV.mk zk zu zl zt zap zal zac zas zkp zkl zkc zks).bs ++ NV.bsL (ks.drop n)) := by rw [bsL_append, NV.bsL]
        have hmem : ∀ z ∈ NV.bsL (ks.take n ++ NV.mk zk zu zl zt zap zal zac zas zkp zkl zkc zks :: ks.drop n), z ∈ NV.bsL ks ∨ z ∈ (NV.mk zk zu zl zt zap zal zac zas zkp zkl zkc zks).bs := fun z hz => by
          rw [eL'] at hz
          rw [eL]
          rcases List.mem_append.1 hz with hz | hz
          · exact .inl (List.mem_append_left _ hz)
          rcases List.mem_append.1 hz with hz | hz
          · exact .inr hz
          · exact .inl (List.mem_append_right _ hz)
        have c08 : Chg (isB kp) w w8 := (c7.mono fun _ _ h => h.elim).trans hc8 fun _ _ h => h
        refine headK P (L' := ks.take n ++ NV.mk zk zu zl zt zap zal zac zas zkp zkl zkc zks :: ks.drop n) hr8 c08 (hf8.imp id fun h a e => by have := h a e; omega) (fun x hx => ?_) ?_ (fun z hz => ?_) (fun z hz => ?_) fun w9 hT => ?_
        · rcases List.mem_append.1 hx with hx | hx
          · have hxm := List.mem_of_mem_take hx
            exact (hks x hxm).chg c08 fun z hz h => hkd z (bsL_mem hxm hz) h
          · rcases List.mem_cons.1 hx with rfl | hx
            · exact (hxown.chg0 hc7).chg hc8 fun z hz h => by have := hxbl z hz; have := hklt z h; omega
            · have hxm := List.mem_of_mem_drop hx
              exact (hks x hxm).chg c08 fun z hz h => hkd z (bsL_mem hxm hz) h
        · rw [eL']
          rw [eL] at hksn hkslt
          obtain ⟨q1, q2, q3⟩ := List.nodup_append.1 hksn
          refine List.nodup_append.2 ⟨q1, List.nodup_append.2 ⟨hxno, q2, fun a h1 b h2 e => ?_⟩, fun a h1 b h2 e => ?_⟩
          · subst e
            have := hxbl a h1; have := hkslt a (List.mem_append_right _ h2); omega
          · subst e
            rcases List.mem_append.1 h2 with h2 | h2
            · have := hxbl a h2; have := hkslt a (List.mem_append_left _ h1); omega
            · exact q3 a h1 a h2 rfl
        · exact (hmem z hz).imp id fun h => by have := hxbl z h; omega
        · rcases hmem z hz with h | h
          · rcases hf8 with rfl | hf8
            · exact hkd z h
            · rintro ⟨a, e, g⟩
              have := hf8 a e; have := hkslt z h; omega
          · rcases hf8 with rfl | hf8
            · intro g; have := hxbl z h; have := hklt z g; omega
            · rintro ⟨a, e, g⟩
              have := hf8 a e; have := hxlt z h; omega
        · refine K2' w9 _ hT ?_
          rw [hH, nd_kids, List.map_append, List.map_cons, List.map_take, List.map_drop, hxnd']
      rw [if_neg (fun g => h1 (hE1.symm.trans g))] at hH
      replace h1 : ¬ eop = 1 := h1
      have hnlt : n < kl := by omega
      have hxget : ks[n]? = some ks[n] := List.getElem?_eq_getElem (by omega)
      generalize hxe : ks[n] = x at hxget
      clear hxe
      have hxm := List.mem_of_getElem? hxget
      obtain ⟨kb, rest, hkp, _⟩ := hk.some0 (show kl ≠ 0 by omega)
      refine condB_eq (fun h2 => ?_) (fun h2 => ?_)
      · -- a node is struck
        replace h2 : eop = 2 := h2
        rw [if_pos (hE1.trans h2)] at hH
        simp only [nonNil]
        rw [Addr.add_mk]
        refine ⟨_, _, _, cell (j := 4) c13 rfl, ?_⟩
        rw [show w64 ((n : Int) + 1) = ((n + 1 : Nat) : Int) from by rw [w64_of] <;> omega]
        refine DelNode_ok (hk.chg c13 (off_no _)) hnlt (by omega) fun w10 hr10 hc10 => ?_
        have c010 : Chg (isB kp) w w10 := (c13.mono fun _ _ h => h.elim).trans hc10 fun _ _ h => h
        have ebs : (NV.mk k u l tx ap al ac ats kp kl kc ks).bs = blkL ap ++ (blkL kp ++ NV.bsL ks) := by simp only [NV.bs]
        have hnn := P.ta.nd
        rw [ebs] at hnn
        obtain ⟨_, hnR, _⟩ := List.nodup_append.1 hnn
        obtain ⟨_, hksn, hdK⟩ := List.nodup_append.1 hnR
        have hkd : ∀ z ∈ NV.bsL ks, ¬ isB kp z := by
          rintro z hz ⟨a, e, h⟩
          rw [e] at hdK
          exact hdK a.block (List.mem_singleton.2 rfl) z hz h
        have eL := bsL_get hxget
        have eL' : NV.bsL (ks.take n ++ ks.drop (n + 1)) = NV.bsL (ks.take n) ++ NV.bsL (ks.drop (n + 1)) := bsL_append _ _
        have hmem : ∀ z ∈ NV.bsL (ks.take n ++ ks.drop (n + 1)), z ∈ NV.bsL ks := fun z hz => by
          rw [eL'] at hz
          rw [eL]
          rcases List.mem_append.1 hz with hz | hz
          · exact List.mem_append_left _ hz
          · exact List.mem_append_right _ (List.mem_append_right _ hz)
        refine headK P (L' := ks.take n ++ ks.drop (n + 1)) hr10 c010 (.inl rfl) (fun x hx => ?_) ?_ (fun z hz => .inl (hmem z hz)) (fun z hz => hkd z (hmem z hz)) fun w11 hT => ?_
        · have hxm : x ∈ ks := by
            rcases List.mem_append.1 hx with hx | hx
            · exact List.mem_of_mem_take hx
            · exact List.mem_of_mem_drop hx
          exact (hks x hxm).chg c010 fun z hz h => hkd z (bsL_mem hxm hz) h
        · rw [eL']
          rw [eL] at hksn
          obtain ⟨q1, q2, q3⟩ := List.nodup_append.1 hksn
          exact List.nodup_append.2 ⟨q1, (List.nodup_append.1 q2).2.1, fun a h1 b h2 e => q3 a h1 b (List.mem_append_right _ h2) e⟩
        · refine K2' w11 _ hT ?_
          rw [hH, nd_kids, List.map_append, List.map_take, List.map_drop]
      rw [if_neg (fun g => h2 (hE1.symm.trans g))] at hH
      replace h2 : ¬ eop = 2 := h2
      subst hkp
      have hat2 : addrAt ⟨ab, 0, none⟩ v (r ++ [(n : Int)]) = some (⟨kb, 0 + n * 6, none⟩, x) := by
        rw [addrAt_append hat]
        simp only [addrAt]
        rw [if_neg (by omega), Int.toNat_natCast, hxget]
      obtain ⟨cs2, t2, P2⟩ := Place.at (e := t) hP hat2
      have hxin : ∀ z, (z = kb ∨ z ∈ x.bs) → z = bb ∨ z ∈ (NV.mk k u l tx ap al ac ats (some ⟨kb, 0, none⟩) kl kc ks).bs := fun z hz => by
        right
        simp only [NV.bs, blkL, List.mem_append, List.mem_singleton]
        rcases hz with hz | hz
        · exact .inr (.inl hz)
        · exact .inr (.inr (bsL_mem hxm hz))
      have hmget : (ks.map NV.nd)[n]? = some x.nd := by rw [List.getElem?_map, hxget]; rfl
      -- what is changed at the kid
      have K3 : ∀ w8 x', Turned w w8 ⟨kb, 0 + n * 6, none⟩ x x' cs2 t2 → edHere (NV.mk k u l tx ap al ac ats (some ⟨kb, 0, none⟩) kl kc ks).nd (n : Int) E = (0, .mk k u l tx ats ((ks.map NV.nd).set n x'.nd)) → J 0 w8 := fun w8 x' hT h => by
        obtain ⟨v', a1, a2, a3⟩ := hT.tree P2 rfl hP.ta hat2
        have e5 : setAt v.nd (r ++ [(n : Int)]) x'.nd = setAt v.nd r (.mk k u l tx ats ((ks.map NV.nd).set n x'.nd)) := by
          rw [setAt_append hnd', nd_kids, setAt_cons (n := .mk k u l tx ats (ks.map NV.nd)) (x := x.nd) (i := (n : Int)) (by rw [Int.toNat_natCast]; exact hmget)]
          rfl
        exact K4 w8 v' (by rw [h]) a1 (by rw [h, a2, e5]) a3 (hT.hc.mono fun z _ hz => hsub z (hxin z hz))
      refine condB_eq (fun h3 => ?_) (fun h3 => ?_)
      · replace h3 : eop = 3 := h3
        rw [if_pos (hE1.trans h3)] at hH
        have H3d := hH3.drew
        have c3d := c13.drew
        simp only [nonNil]
        rw [Addr.add_mk]
        refine ⟨_, _, _, cell (j := 4) c3d rfl, ?_⟩
        refine H3d.ldI 0 rfl (off := 5) rfl ?_
        refine H3d.ldStr 0 rfl (off := 6) rfl ?_
        refine H3d.ldStr 0 rfl (off := 7) rfl ?_
        refine H3d.ldS 0 rfl (off := 8) rfl ?_
        refine H3d.ldS 0 rfl (off := 9) rfl ?_
        refine H3d.ldStr 0 rfl (off := 10) rfl ?_
        refine Copy_ok (NV.mk nk nu nl nt nap nal nac nas nkp nkl nkc nks) hnode c3d (by omega) fun xv w12 hxnd hxown hxno hxbl hxm' hc12 => ?_
        have c12 := c3d.trans0 hc12
        have hxnd' : xv.nd = E.node := hxnd.trans hE5.symm
        have z3d : w.heap.size ≤ w3.drew.heap.size := c3d.size
        have hxlt := hxown.lt
        have h1x := one1_node xv
        have hxcl := cells_len xv
        have hput : ∀ J' : World → Prop, (∀ w13, Turned w w13 ⟨kb, 0 + n * 6, none⟩ x xv cs2 t2 → J' w13) → stN w12 ⟨kb, 0 + n * 6, none⟩ ⟨xv.cells⟩ 6 J' := fun J' kk => by
          have hg12 := c12.heap P2.hb (fun h => h)
          refine ((Hp.start w12 (fun z => z = kb)).add hg12 (by simp) (fun _ => rfl)).stN 0 rfl hxcl P2.ho h1x fun w13 H13 hc13 => ?_
          simp only [List.set_cons_zero] at H13
          refine kk w13 ⟨?_, H13.get 0 rfl, ?_, hxno, fun z hz => .inr (by have := hxbl z hz; omega)⟩
          · exact ((c12.mono fun _ _ h => h.elim).trans hc13 fun _ _ h => h).mono fun z _ h => .inl h
          · have hkblt := lt_of_heap P2.hb
            simp only at hkblt
            exact hxown.chg hc13 fun z hz h => by replace h : z = kb := h; have := hxbl z hz; omega
        cases xv with
        | mk zk zu zl zt zap zal zac zas zkp zkl zkc zks =>
        refine ⟨cell (j := 4) c12 rfl, ?_⟩
        refine idxA_i (by omega) (by omega) ?_
        rw [Addr.add_mk, Int.toNat_natCast]
        refine hput _ fun w13 hT => K3 w13 _ hT ?_
        rw [hH, hxnd']
      rw [if_neg (fun g => h3 (hE1.symm.trans g)), hmget] at hH
      replace h3 : ¬ eop = 3 := h3
      simp only at hH
      refine condB_eq (fun h6 => ?_) (fun h6 => ?_)
      · replace h6 : eop = 6 := h6
        simp only [nonNil]
        rw [Addr.add_mk]
        refine ⟨_, _, _, cell (j := 4) c13 rfl, ?_⟩
        refine idxA_i (by omega) (by omega) ?_
        rw [Addr.add_mk, Addr.add_mk, Int.toNat_natCast]
        have hget2 := P2.get
        have hbs2 := P2.ta.nd
        have hof2 := P2.ta.off
        have hown2 := P2.ta.own
        have hlt2 := hown2.lt
        have hc2cell : ∀ j v, x.cells[j]? = some v → w3.cell? ⟨kb, 0 + n * 6 + j, none⟩ = some v := fun j v hv => by
          have := c13.cells P2.ta.cs (fun h => h) _ _ hv
          rwa [Addr.add_mk] at this
        cases x with
        | mk xk xu xl xt xap xal xac xas xkp xkl xkc xks =>
        rw [nd_kids, nd_kids] at hH
        simp only [chgd] at hH
        rw [if_pos (hE1.trans h6)] at hH
        refine withJ_i fun J147 hJ147 => ?_
        have k147 : ∀ bl : Bool, (bl = true ↔ ¬ (xk = 3 ∨ xk = 4 ∨ xk = 5)) → J147 bl w3 := by
          intro bl hbl; subst hJ147
          refine condB_i (fun h => ?_) (fun h => ?_)
          · rw [if_neg (hbl.1 h)] at hH
            exact K1' w3 33 (c13.mono fun _ _ h => h.elim) (by decide) (by rw [nd_kids, hH])
          · have hyes : xk = 3 ∨ xk = 4 ∨ xk = 5 := Classical.not_not.1 fun g => by rw [hbl.2 g] at h; cases h
            rw [if_pos hyes] at hH
            refine hH3.ldStr 0 rfl (off := 4) rfl ?_
            have hg3 := c13.heap P2.hb (fun h => h)
            have hroom2 : 0 + n * 6 + (NV.mk xk xu xl xt xap xal xac xas xkp xkl xkc xks).cells.length ≤ cs2.length := P2.ho
            have ho2 := P2.ho
            simp only at ho2
            refine ((Hp.start w3 (fun z => z = kb)).add hg3 (by simp) (fun _ => rfl)).stV 0 rfl (off := 0 + n * 6 + 5) (by omega) fun w15 H15 hc15 => ?_
            simp only [List.set_cons_zero] at H15
            have hg15 := H15.get 0 rfl
            rw [splice_one (vs := (NV.mk xk xu xl xt xap xal xac xas xkp xkl xkc xks).cells) hget2 hroom2 (by show 5 < 6; decide)] at hg15
            have c015 : Chg (fun z => z = kb) w w15 := (c13.mono fun _ _ h => h.elim).trans hc15 fun _ _ h => h
            refine K3 w15 (.mk xk xu xl et xap xal xac xas xkp xkl xkc xks) ⟨c015.mono fun z _ h => .inl h, hg15, ?_, hbs2, fun z hz => .inl hz⟩ ?_
            · cases hown2 with
              | mk ha2 hk2 hks2 =>
                refine .mk (ha2.chg c015 fun a e h => hof2 ?_) (hk2.chg c015 fun a e h => hof2 ?_) fun y hy => (hks2 y hy).chg c015 fun z hz h => hof2 ?_
                · subst e; simp only [NV.bs, blkL]; rw [← h]; exact List.mem_append_left _ (List.mem_singleton.2 rfl)
                · subst e; simp only [NV.bs, blkL]; rw [← h]; exact List.mem_append_right _ (List.mem_append_left _ (List.mem_singleton.2 rfl))
                · simp only [NV.bs]; rw [← h]; exact List.mem_append_right _ (List.mem_append_right _ (bsL_mem hy hz))
            · rw [nd_kids, hH, nd_kids, hE4]
        clear hJ147
        refine ldI_i (hc2cell 0 _ rfl) ?_
        refine condB_ne (fun g3 => ?_) (fun g3 => k147 false ⟨fun h => (by cases h), fun h => absurd (.inl g3) h⟩)
        refine ldI_i (hc2cell 0 _ rfl) ?_
        refine condB_ne (fun g4 => ?_) (fun g4 => k147 false ⟨fun h => (by cases h), fun h => absurd (.inr (.inl g4)) h⟩)
        refine ldI_i (hc2cell 0 _ rfl) ?_
        refine k147 _ ?_
        rw [bne_iff_ne]; omega
      · replace h6 : ¬ eop = 6 := h6
        have H3d := hH3.drew
        have c3d := c13.drew
        simp only [nonNil]
        rw [Addr.add_mk]
        refine ⟨_, _, _, cell (j := 4) c3d rfl, ?_⟩
        refine idxA_i (by omega) (by omega) ?_
        rw [Addr.add_mk, Int.toNat_natCast]
        refine H3d.ldI 0 rfl (off := 0) rfl ?_
        refine H3d.ldS 0 rfl (off := 1) rfl ?_
        refine H3d.ldStr 0 rfl (off := 2) rfl ?_
        refine H3d.ldStr 0 rfl (off := 3) rfl ?_
        refine H3d.ldStr 0 rfl (off := 4) rfl ?_
        refine H3d.ldI 0 rfl (off := 5) rfl ?_
        refine H3d.ldStr 0 rfl (off := 6) rfl ?_
        refine H3d.ldStr 0 rfl (off := 7) rfl ?_
        refine H3d.ldS 0 rfl (off := 8) rfl ?_
        refine H3d.ldS 0 rfl (off := 9) rfl ?_
        refine H3d.ldStr 0 rfl (off := 10) rfl ?_
        have hxmea := mea_kid hxm
        refine Attr_ok (e := ⟨eop, ep, el, ec, epa, eu, en, et, .mk nk nu nl nt nap nal nac nas nkp nkl nkc nks⟩) (P2.chg0 c3d) (show eop = 4 ∨ eop = 5 by omega) (by omega) ?_ ?_
        · refine hyR x ?_
          rw [hna, nd_kids, nodeAt_one, if_neg (by omega), Int.toNat_natCast]; exact hmget
        · rw [AttrPost, hE]
          refine ⟨fun w16 hf hc16 => ?_, fun w16 x' hf hT hx' => ?_⟩
          · refine K1' w16 _ ?_ hf (by rw [hH])
            exact (c3d.mono fun _ _ h => h.elim).trans hc16 fun z _ hz => hxin z hz
          · refine K3 w16 x' (hT.from0 c3d) ?_
            rw [hH, hx', hf]
    clear hJ71
    refine condB_i (fun h => by cases h) (fun _ => ?_)
    refine condB_d (fun h => k71 true ⟨fun _ => .inl h, fun _ => rfl⟩) (fun h => ?_)
    simp only [nonNil]
    rw [Addr.add_mk]
    refine ⟨_, _, _, cell (j := 4) c13 rfl, ?_⟩
    refine condB_d (fun h2 => k71 true ⟨fun _ => .inr (.inl (by omega)), fun _ => rfl⟩) (fun h2 => ?_)
    refine hH3.ldI 0 rfl (off := 0) rfl ?_
    refine condB_ne (fun h3 => ?_) (fun h3 => k71 false ⟨fun g => (by cases g), fun g => ?_⟩)
    · refine ⟨_, _, _, cell (j := 4) c13 rfl, ?_⟩
      refine k71 _ ?_
      rw [beq_iff_eq]
      replace h3 : eop ≠ 1 := h3
      omega
    · replace h3 : eop = 1 := h3
      omega
  clear hJ9
  refine H1.ldI 0 rfl (off := 0) rfl ?_
  refine condB_d (fun h => k9t (.inl h)) (fun h => ?_)
  refine H1.ldI 0 rfl (off := 0) rfl ?_
  replace h : ¬ eop < 1 := h
  show J9 (decide (eop > 6)) w1
  by_cases h6 : eop > 6
  · rw [decide_eq_true h6]; exact k9t (.inr h6)
  · rw [decide_eq_false h6]; exact k9f (by omega) (by omega)
end
end Go.Proofs.YtkgfbphdmnapdaaGreatDoor

/-
  Edits in memory: Apply.
-/
set_option linter.unusedVariables false
set_option linter.unusedSimpArgs false
namespace Go.Proofs.YtkgfbphdmnapdaaGreatDoor
open Go Go.Vc Go.Lib
section
variable {w w' : World}
/-- A node loaded from where it lies. -/
theorem ldCs {b : Nat} {k0 : Int} {u0 l0 t0 : ByteArray} {ap kp : Option Addr} {al ac kl kc : Nat} {ats : List At} {ks : List NV} (h : cellsAt w ⟨b, 0, none⟩ (NV.mk k0 u0 l0 t0 ap al ac ats kp kl kc ks).cells)
    {K : Int → ByteArray → ByteArray → Option Addr → Nat → Nat → Option Addr → Nat → Nat → ByteArray → Prop} (k : K k0 u0 l0 ap al ac kp kl kc t0) :
    ldI .i64 w ⟨b, 0, none⟩ fun x0 => ldStr w ⟨b, 1, none⟩ fun x1 => ldStr w ⟨b, 2, none⟩ fun x2 => ldS w ⟨b, 3, none⟩ fun p3 l3 c3 => ldS w ⟨b, 4, none⟩ fun p4 l4 c4 => ldStr w ⟨b, 5, none⟩ fun x5 => K x0 x1 x2 p3 l3 c3 p4 l4 c4 x5 := by
  have g : ∀ j v, (NV.mk k0 u0 l0 t0 ap al ac ats kp kl kc ks).cells[j]? = some v → w.cell? ⟨b, j, none⟩ = some v := fun j v hv => by
    have := h j v hv
    rwa [Addr.add_mk, Nat.zero_add] at this
  exact ⟨_, g 0 _ rfl, _, g 1 _ rfl, _, g 2 _ rfl, _, _, _, g 3 _ rfl, _, _, _, g 4 _ rfl, _, g 5 _ rfl, k⟩
/-- .. an edit from a box. -/
theorem ldEd {w0 : World} {S : Nat → Prop} {Γ : List Blk} {b : Nat} {e : TypeId} (H : Hp w0 S w Γ) (i : Nat) {eop : Int} {ep : Option Addr} {el ec : Nat} {eu en et : ByteArray} {k0 : Int} {u0 l0 t0 : ByteArray} {ap kp : Option Addr} {al ac kl kc : Nat}
    (hi : Γ[i]? = some ⟨b, [.int .i64 eop, .slice ep el ec, .string eu, .string en, .string et, .int .i64 k0, .string u0, .string l0, .slice ap al ac, .slice kp kl kc, .string t0], e⟩)
    {K : Int → Option Addr → Nat → Nat → ByteArray → ByteArray → ByteArray → Int → ByteArray → ByteArray → Option Addr → Nat → Nat → Option Addr → Nat → Nat → ByteArray → Prop} (k : K eop ep el ec eu en et k0 u0 l0 ap al ac kp kl kc t0) :
    ldI .i64 w ⟨b, 0, none⟩ fun y0 => ldS w ⟨b, 1, none⟩ fun q1 m1 d1 => ldStr w ⟨b, 2, none⟩ fun y2 => ldStr w ⟨b, 3, none⟩ fun y3 => ldStr w ⟨b, 4, none⟩ fun y4 =>
    ldI .i64 w ⟨b, 5, none⟩ fun x0 => ldStr w ⟨b, 6, none⟩ fun x1 => ldStr w ⟨b, 7, none⟩ fun x2 => ldS w ⟨b, 8, none⟩ fun p3 l3 c3 => ldS w ⟨b, 9, none⟩ fun p4 l4 c4 => ldStr w ⟨b, 10, none⟩ fun x5 => K y0 q1 m1 d1 y2 y3 y4 x0 x1 x2 p3 l3 c3 p4 l4 c4 x5 :=
  ⟨_, H.cell i hi rfl, _, _, _, H.cell i hi rfl, _, H.cell i hi rfl, _, H.cell i hi rfl, _, H.cell i hi rfl, _, H.cell i hi rfl, _, H.cell i hi rfl, _, H.cell i hi rfl, _, _, _, H.cell i hi rfl, _, _, _, H.cell i hi rfl, _, H.cell i hi rfl, k⟩
def zeroV : NV := .mk 0 ByteArray.empty ByteArray.empty ByteArray.empty none 0 0 [] none 0 0 []
theorem zeroV_nd : zeroV.nd = zeroN := by unfold zeroV; rw [nd_kids]; rfl
theorem zeroV_own : Own w zeroV := .mk (Row.nil _ _ _) (Row.nil _ _ _) (fun x hx => by cases hx)
theorem zeroV_bs : zeroV.bs = [] := by unfold zeroV; simp [NV.bs, blkL, NV.bsL]
theorem zeroV_mea : zeroV.mea = 1 := by rw [← nd_mea, zeroV_nd]; simp only [zeroN, Nd.mea, Nd.meaL]; decide
/-- What Apply gives. -/
def ApPost (w : World) (d : Nd) (e : Ed) (m : Nat) (J : Int → ByteArray → ByteArray → Option Addr → Nat → Nat → Option Addr → Nat → Nat → ByteArray → Int → World → Prop) : Prop :=
  ∀ (x : NV) (w' : World), Chg No w w' → x.nd = (applyN d e).2 → Own w' x → x.bs.Nodup → (∀ z ∈ x.bs, w.heap.size ≤ z) → x.mea ≤ m → x.giv (fun a b c p l d1 q m n t w => J a b c p l d1 q m n t (applyN d e).1 w) w'
theorem Apply_ok {v : NV} {e : EV} {J : Int → ByteArray → ByteArray → Option Addr → Nat → Nat → Option Addr → Nat → Nat → ByteArray → Int → World → Prop} (T : TT w) (hv : v.Ok w) (he : EV.Ok w e) (hm : v.mea + e.mea ≤ 10000000) (K : ApPost w v.nd e.ed (v.mea + e.mea) J) :
    callJ Tryz.prog fn_edit_Apply #[.agg ⟨v.cells⟩, .agg ⟨e.cells⟩] w [.agg [.int .i64, .str, .str, .slice, .slice, .str], .one (.int .i64)] J := by
  obtain ⟨eop, ep, el, ec, epa, eu, en, et, nv⟩ := e
  obtain ⟨D, hD⟩ : ∃ D, v.nd = D := ⟨_, rfl⟩
  obtain ⟨E, hE⟩ : ∃ E, EV.ed ⟨eop, ep, el, ec, epa, eu, en, et, nv⟩ = E := ⟨_, rfl⟩
  have hEm : E.mea ≤ (EV.mea ⟨eop, ep, el, ec, epa, eu, en, et, nv⟩) := by rw [← hE]; unfold EV.mea Ed.mea EV.ed; simp only [nd_mea]; omega
  rw [hE, hD] at K
  obtain ⟨M, hM⟩ : ∃ M, EV.mea ⟨eop, ep, el, ec, epa, eu, en, et, nv⟩ = M := ⟨_, rfl⟩
  rw [hM] at hm K hEm
  have K0 : ∀ f w', Chg No w w' → f ≠ 0 → (applyN D E).1 = f → J 0 ByteArray.empty ByteArray.empty none 0 0 none 0 0 ByteArray.empty f w' := fun f w' hc hf h => by
    have h2 := apply_err (d := D) (e := E) (by rw [h]; exact hf)
    have := K zeroV w' hc (by rw [h2, zeroV_nd]) zeroV_own (by rw [zeroV_bs]; exact List.nodup_nil) (by rw [zeroV_bs]; intro z hz; cases hz) (by
      rw [zeroV_mea]
      cases v with
      | mk k u l t ap al ac ats kp kl kc ks => simp only [NV.mea]; omega)
    rw [h] at this
    exact this
  have hmv : v.mea ≤ 10000000 := by omega
  cases v with
  | mk k u l t ap al ac ats kp kl kc ks =>
  cases nv with
  | mk nk nu nl nt nap nal nac nas nkp nkl nkc nks =>
  refine c_edit_Apply ?_
  unfold VC_edit_Apply
  refine nodeBox (Hp.start w No) fun b2 w1 H1 hb2 hc1 => ?_
  refine nodeBox H1 fun b3 w2 H2 hb3 hc2 => ?_
  refine newZ H2 fun b4 w3 H3 hb4 hc3 => ?_
  have n22 := H2.lt 1 rfl
  have n23 := H2.lt 0 rfl
  have n2 := H3.lt 2 rfl
  have n3 := H3.lt 1 rfl
  have n4 := H3.lt 0 rfl
  have s1 := hc1.size
  have s2 := hc2.size
  refine ldBox H3 2 rfl ?_
  refine Check_ok (x := NV.mk k u l t ap al ac ats kp kl kc ks) (T.chg H3.chg) (hv.chg0 H3.chg) hmv fun w4 hc4 => ?_
  have H4 := H3.step0 hc4
  rw [hD]
  have fail : ∀ {f : Int} {wx : World} {Γ : List Blk}, Hp w No wx (⟨b4, [.int .i64 0, .string ByteArray.empty, .string ByteArray.empty, .slice none 0 0, .slice none 0 0, .string ByteArray.empty], T_api_Node⟩ :: Γ) → f ≠ 0 → (applyN D E).1 = f →
      stN wx ⟨b4, 0, none⟩ ⟨[.int .i64 (0 : Int), .string ByteArray.empty, .string ByteArray.empty, .slice none 0 0, .slice none 0 0, .string ByteArray.empty]⟩ 6 fun w5 =>
      ldI .i64 w5 ⟨b4, 0, none⟩ fun x0 => ldStr w5 ⟨b4, 1, none⟩ fun x1 => ldStr w5 ⟨b4, 2, none⟩ fun x2 => ldS w5 ⟨b4, 3, none⟩ fun p3 l3 c3 => ldS w5 ⟨b4, 4, none⟩ fun p4 l4 c4 => ldStr w5 ⟨b4, 5, none⟩ fun x5 => J x0 x1 x2 p3 l3 c3 p4 l4 c4 x5 f w5 := by
    intro f wx Γ H hf h
    refine H.stN 0 rfl (off := 0) rfl (by simp) (one1_node zeroV) fun w5 H5 hc5 => ?_
    simp only [List.set_cons_zero] at H5
    refine ldBox H5 0 rfl ?_
    exact K0 f w5 H5.chg hf h
  refine condB_ne (fun hne => fail H4 hne (by unfold applyN; rw [if_pos hne])) (fun h0 => ?_)
  have hR : Right D := check_right.1 h0
  refine ldBox H4 2 rfl ?_
  refine Copy_ok (NV.mk k u l t ap al ac ats kp kl kc ks) hv H4.chg hmv fun v6 w6 hnd6 hown6 hnod6 hbl6 hmea6 hc6 => ?_
  have H6 := H4.step0 hc6
  have h4s := hc4.size
  have h6n : ∀ z ∈ v6.bs, z ≠ b2 ∧ z ≠ b3 ∧ z ≠ b4 ∧ w.heap.size ≤ z := fun z hz => by have := hbl6 z hz; omega
  cases v6 with
  | mk zk zu zl zt zap zal zac zas zkp zkl zkc zks =>
  simp only [NV.giv]
  refine H6.stN 2 rfl (off := 0) rfl (by simp) (one1_node (.mk zk zu zl zt zap zal zac [] zkp zkl zkc [])) fun w7 H7 hc7 => ?_
  simp only [List.set_cons_succ, List.set_cons_zero] at H7
  have hown7 := hown6.chg hc7 fun z hz h => (h6n z hz).1 h
  refine ldEd H7 1 rfl ?_
  have P : Place w7 ⟨b2, 0, none⟩ (.mk zk zu zl zt zap zal zac zas zkp zkl zkc zks) (NV.mk zk zu zl zt zap zal zac zas zkp zkl zkc zks).cells T_api_Node :=
    ⟨⟨H7.cells 2 rfl 0, hown7, hnod6, fun h => (h6n b2 h).1 rfl⟩, rfl, H7.get 2 rfl, Nat.le_refl _⟩
  have n74 := H7.lt 0 rfl
  have HH : ∀ w8, Chg (fun z => z = b2 ∨ z ∈ (NV.mk zk zu zl zt zap zal zac zas zkp zkl zkc zks).bs) w7 w8 → Hp w No w8 [⟨b4, [.int .i64 0, .string ByteArray.empty, .string ByteArray.empty, .slice none 0 0, .slice none 0 0, .string ByteArray.empty], T_api_Node⟩] := fun w8 hc8 => by
    have G : Hp w No w7 [⟨b4, [.int .i64 0, .string ByteArray.empty, .string ByteArray.empty, .slice none 0 0, .slice none 0 0, .string ByteArray.empty], T_api_Node⟩] :=
      ⟨H7.chg, fun p hp => by rw [List.mem_singleton.1 hp]; exact H7.get 0 rfl, by simp, fun p hp hl => by rw [List.mem_singleton.1 hp] at hl ⊢; simp only at hl; omega⟩
    exact G.step hc8 (fun p hp h => by
      rw [List.mem_singleton.1 hp] at h
      rcases h with h | h
      · simp only at h; omega
      · exact (h6n b4 h).2.2.1 rfl) (fun z hl h => by
      rcases h with h | h
      · omega
      · have := (h6n z h).2.2.2; omega)
  refine Do_ok (e := ⟨eop, ep, el, ec, epa, eu, en, et, .mk nk nu nl nt nap nal nac nas nkp nkl nkc nks⟩) P (he.chg0 H7.chg) (by rw [hnd6, hD]; exact hR) (by rw [hmea6, hM]; exact hm) (fun w8 hf hc8 => ?_) (fun w8 v8 hf hta hnd8 hbl8 hc8 => ?_)
  · rw [hnd6, hE, hD] at hf ⊢
    have H8 := HH w8 hc8
    refine condB_ne (fun hne => fail H8 hne ?_) (fun h => absurd h hf)
    unfold doN at hf ⊢
    unfold applyN
    rw [if_neg (by rw [h0]; simp)]
    split
    · rfl
    next h1 =>
    split
    · rfl
    next h2 =>
    rw [if_neg h1, if_neg h2] at hf
    rw [if_pos hf]
  · refine condB_ne (fun hne => absurd rfl hne) (fun _ => ?_)
    rw [hnd6, hE, hD] at hf hnd8
    unfold doN at hf hnd8
    split at hf
    · exact absurd (show (1 : Int) = 0 from hf) (by decide)
    next g1 =>
    rw [if_neg g1] at hnd8
    split at hf
    · exact absurd (show (35 : Int) = 0 from hf) (by decide)
    next g2 =>
    rw [if_neg g2] at hnd8
    have hed : edN D E.pa E = (0, v8.nd) := Prod.ext hf hnd8.symm
    have hmea8 : v8.mea ≤ (NV.mk k u l t ap al ac ats kp kl kc ks).mea + M := by
      have := ed_mea g2 hed
      rw [nd_mea, ← hD, nd_mea] at this; omega
    have h7s : w7.heap.size = w7.heap.size := rfl
    have n72 := H7.lt 2 rfl
    have n74 := H7.lt 0 rfl
    have nz4 : ∀ z ∈ v8.bs, z ≠ b4 ∧ w.heap.size ≤ z := fun z hz => by
      rcases hbl8 z hz with h | h
      · have := h6n z h; omega
      · have := H7.chg.size; omega
    have H8 := HH w8 hc8
    have hown8 := hta.own
    have hnod8 := hta.nd
    have hcs8 := hta.cs
    cases v8 with
    | mk yk yu yl yt yap yal yac yas ykp ykl ykc yks =>
    refine ldCs hcs8 ?_
    refine Check_ok (x := NV.mk yk yu yl yt yap yal yac yas ykp ykl ykc yks) (T.chg H8.chg) hown8.ok (by omega) fun w10 hc10 => ?_
    have H10 := H8.step0 hc10
    have hap : ∀ c, c = checkL (NV.mk yk yu yl yt yap yal yac yas ykp ykl ykc yks).nd → applyN D E = if c ≠ 0 then (c, zeroN) else (0, (NV.mk yk yu yl yt yap yal yac yas ykp ykl ykc yks).nd) := fun c hc => by
      subst hc
      unfold applyN
      rw [if_neg (by rw [h0]; simp), if_neg g1, if_neg g2, if_neg (by rw [hf]; simp), hed]
    refine condB_ne (fun hne => fail H10 hne (by rw [hap _ rfl, if_pos hne])) (fun hz => ?_)
    have hcs10 := hc10.cells hcs8 (fun h => h)
    refine ldCs hcs10 ?_
    refine H10.stN 0 rfl (off := 0) rfl (by simp) (one1_node (.mk yk yu yl yt yap yal yac [] ykp ykl ykc [])) fun w12 H12 hc12 => ?_
    simp only [List.set_cons_zero] at H12
    refine ldBox H12 0 rfl ?_
    have := K (NV.mk yk yu yl yt yap yal yac yas ykp ykl ykc yks) w12 H12.chg (by rw [hap _ rfl, if_neg (by rw [hz]; simp)]) ((hown8.chg0 hc10).chg hc12 fun z hz h => (nz4 z hz).1 h) hnod8 (fun z hz => (nz4 z hz).2) hmea8
    rw [hap _ rfl, if_neg (by rw [hz]; simp)] at this
    exact this
end
end Go.Proofs.YtkgfbphdmnapdaaGreatDoor

/-
  Lists of numbers: a copy; the same or not.
-/
set_option linter.unusedVariables false
set_option linter.unusedSimpArgs false
namespace Go.Vc
open Go Go.Lib
theorem even_int (L : List Int) : Even intC 1 L := fun _ _ => rfl
theorem one1_ints (L : List Int) : one1 (rows intC L) := one1_rows fun x _ => one1_cons rfl one1_nil
end Go.Vc
namespace Go.Proofs.YtkgfbphdmnapdaaGreatDoor
open Go Go.Vc Go.Lib
section
variable {w : World}
theorem slT_int5 : SlT Tryz.prog T_sl_int T_int 1 8 #[.int .i64 0] := SlT.of (by kernel_rfl) (by kernel_rfl) rfl (by decide)
theorem CloneI_ok {p : Option Addr} {l c : Nat} {xs : List Int} {J : Option Addr → Nat → Nat → World → Prop} (h : Sl w p l 1 (rows intC xs)) (hn : p = none → l = 0) (hm : l ≤ 1000000000)
    (K : ∀ p' c' w', Row w' T_int 1 p' l c' (rows intC xs) → fresh w p' → Chg No w w' → J p' l c' w') : callJ Tryz.prog fn_slices_Clone_sl_int_int #[.slice p l c] w [.one .slice] J := by
  refine c_slices_Clone_sl_int_int ?_
  unfold VC_slices_Clone_sl_int_int
  refine condB_i (fun e => ?_) (fun e => ?_)
  · have hp : p = none := by cases p with | none => rfl | some a => cases e
    have h0 := hn hp
    subst h0
    have hx : xs = [] := List.eq_nil_of_length_eq_zero (h.row (even_int xs) (by decide))
    subst hx
    exact K none 0 w (Row.nil _ _ _) (by rintro a ⟨⟩) (Chg.refl _ _)
  · refine newRow (sz := 1) (n := 0) (cs := []) rfl (by decide) fun b5 w1 hr1 hb1 hc1 => ?_
    refine appJ_row slT_int5 hr1 (h.chg hc1 (off_no _)) (one1_ints xs) hn (by omega) (by simp only [maxLen]; omega) fun p' c' w' hr' hc' hf' => ?_
    simp only [Nat.zero_add, List.nil_append] at hr' ⊢
    refine K p' c' w' hr' ?_ ((hc1.mono fun _ _ h => h.elim).trans hc' fun b hb ⟨a, e, hab⟩ => by cases e; simp only at hab; omega)
    rcases hf' with rfl | hf'
    · intro a e; cases e; exact hb1
    · intro a e; have := hf' a e; have := hc1.size; omega
theorem SameInts_ok {p q : Option Addr} {l c l2 c2 : Nat} {X Y : List Int} {J : Bool → World → Prop} (h : Sl w p l 1 (rows intC X)) (h2 : Sl w q l2 1 (rows intC Y)) (hm : l ≤ 1000000000) (k : ∀ w', Chg No w w' → J (decide (X = Y)) w') :
    callJ Tryz.prog fn_ref05_SameInts #[.slice p l c, .slice q l2 c2] w [.one .bool] J := by
  refine c_ref05_SameInts ?_
  unfold VC_ref05_SameInts
  have hl := h.row (even_int X) (by decide)
  have hl2 := h2.row (even_int Y) (by decide)
  refine condB_ne (fun hne => ?_) (fun he => ?_)
  · have e : decide (X = Y) = false := decide_eq_false fun e => hne (by rw [← hl, ← hl2, e])
    rw [e] at k; exact k w (Chg.refl _ _)
  have hll : l = l2 := by omega
  subst hll
  refine ⟨fun x w' t => ∃ i : Nat, x = i ∧ i ≤ l ∧ t = l - i ∧ Chg No w w' ∧ X.take i = Y.take i, ⟨_, 0, rfl, Nat.zero_le _, rfl, Chg.refl _ _, rfl⟩, ?_⟩
  rintro x w' t ⟨i, rfl, hi, rfl, hc, hs⟩
  have hcd := hc.drew
  refine condB_d (fun hlt => ?_) (fun hge => ?_)
  · refine idx_rows (f := intC) (h.chg hcd (off_no _)) (even_int X) (by decide) (by omega) hlt fun a x _ hx hcx => ⟨_, cellsAt_head hcx, ?_⟩
    refine idx_rows (f := intC) (h2.chg hcd (off_no _)) (even_int Y) (by decide) (by omega) hlt fun a' y _ hy hcy => ⟨_, cellsAt_head hcy, ?_⟩
    rw [Int.toNat_natCast] at hx hy
    refine condB_ne (fun hf => ?_) (fun ht => ?_)
    · have e : decide (X = Y) = false := decide_eq_false fun e => by
        rw [e, hy] at hx; exact hf (Option.some.inj hx).symm
      rw [e] at k; exact k _ hcd
    · exact ⟨_, by omega, i + 1, by rw [w64_of] <;> omega, by omega, rfl, hcd, by rw [take_get hx, take_get hy, hs, ht]⟩
  · have e : decide (X = Y) = true := decide_eq_true (by
      rw [List.take_of_length_le (by omega), List.take_of_length_le (by omega)] at hs; exact hs)
    rw [e] at k; exact k w' hc
end
end Go.Proofs.YtkgfbphdmnapdaaGreatDoor

/-
  Edits in memory: Back.
-/
set_option linter.unusedVariables false
set_option linter.unusedSimpArgs false
namespace Go.Vc
open Go Go.Lib
theorem atV_nd : ∀ {r : List Int} {v : NV}, (atV v r).map NV.nd = nodeAt v.nd r
  | [], v => rfl
  | i :: r, .mk k u l t ap al ac ats kp kl kc ks => by
    rw [nd_kids]
    simp only [atV, kidV, NV.kidz, nodeAt]
    by_cases hi : i < 0
    · rw [if_pos hi, if_pos hi]; rfl
    rw [if_neg hi, if_neg hi, List.getElem?_map]
    cases hx : ks[i.toNat]? with
    | none => rfl
    | some x => exact atV_nd (r := r) (v := x)
def EV.giv (J : Int → Option Addr → Nat → Nat → ByteArray → ByteArray → ByteArray → Int → ByteArray → ByteArray → Option Addr → Nat → Nat → Option Addr → Nat → Nat → ByteArray → World → Prop) (w : World) (e : EV) : Prop :=
  e.nd.giv (fun a b c p l d1 q m n t w => J e.op e.p e.l e.c e.u e.n e.t a b c p l d1 q m n t w) w
theorem atSize_le {a : At} : ∀ {l : List At}, a ∈ l → atSize a ≤ (l.map atSize).sum
  | b :: r, h => by
    rw [List.map_cons, List.sum_cons]
    rcases List.mem_cons.1 h with rfl | h
    · omega
    · have := atSize_le h; omega
/-- The text of the undoing of an attribute's edit. -/
def lastK (o : Option ByteArray) : Int := if o.isSome then 4 else 5
theorem lastVal_snoc (A : List At) (a : At) (n : Pr) : lastVal (A ++ [a]) n = if nameOf a = n then some a.2.2 else lastVal A n := by
  unfold lastVal
  rw [List.foldl_append]
  rfl
end Go.Vc
namespace Go.Proofs.YtkgfbphdmnapdaaGreatDoor
open Go Go.Vc Go.Lib
theorem zeroC_edit : zeroC Tryz.prog T_edit_Edit = ⟨[.int .i64 0, .slice none 0 0, .string ByteArray.empty, .string ByteArray.empty, .string ByteArray.empty, .int .i64 0, .string ByteArray.empty, .string ByteArray.empty, .slice none 0 0, .slice none 0 0, .string ByteArray.empty]⟩ := by kernel_rfl
theorem zeroC_attr9 : zeroC Tryz.prog T_api_Attr = ⟨[.string ByteArray.empty, .string ByteArray.empty, .string ByteArray.empty]⟩ := by kernel_rfl
section
variable {w w' : World}
theorem one1_ed (k : Int) (p : Option Addr) (l c : Nat) (u n t : ByteArray) (v : NV) : one1 (.int .i64 k :: .slice p l c :: .string u :: .string n :: .string t :: v.cells) :=
  one1_cons rfl (one1_cons rfl (one1_cons rfl (one1_cons rfl (one1_cons rfl (one1_node v)))))
/-- An edit of its own. -/
structure OwnE (w0 w : World) (x : EV) : Prop where
  row : Row w T_int 1 x.p x.l x.c (rows intC x.pa)
  fr : fresh w0 x.p
  own : Own w x.nd
  nd : x.nd.bs.Nodup
  bs : ∀ z ∈ x.nd.bs, w0.heap.size ≤ z
  off : ∀ z ∈ x.nd.bs, ¬ isB x.p z
def BkPost (w : World) (d : Nd) (e : Ed) (m : Nat) (J : Int → Option Addr → Nat → Nat → ByteArray → ByteArray → ByteArray → Int → ByteArray → ByteArray → Option Addr → Nat → Nat → Option Addr → Nat → Nat → ByteArray → Int → World → Prop) : Prop :=
  ∀ (x : EV) (w' : World), Chg No w w' → x.ed = (backN d e).2 → OwnE w w' x → x.mea ≤ m → x.giv (fun a0 a1 a2 a3 a4 a5 a6 a b c p l d1 q m n t w => J a0 a1 a2 a3 a4 a5 a6 a b c p l d1 q m n t (backN d e).1 w) w'
def zeroEV : EV := ⟨0, none, 0, 0, [], ByteArray.empty, ByteArray.empty, ByteArray.empty, zeroV⟩
theorem Back_ok {v : NV} {e : EV} {J : Int → Option Addr → Nat → Nat → ByteArray → ByteArray → ByteArray → Int → ByteArray → ByteArray → Option Addr → Nat → Nat → Option Addr → Nat → Nat → ByteArray → Int → World → Prop} (T : TT w) (hv : v.Ok w) (he : EV.Ok w e) (hm : v.mea + e.mea ≤ 10000000) (K : BkPost w v.nd e.ed (v.mea + e.mea) J) :
    callJ Tryz.prog fn_edit_Back #[.agg ⟨v.cells⟩, .agg ⟨e.cells⟩] w [.agg [.int .i64, .slice, .str, .str, .str, .int .i64, .str, .str, .slice, .slice, .str], .one (.int .i64)] J := by
  obtain ⟨eop, ep, el, ec, epa, eu, en, et, nv⟩ := e
  obtain ⟨D, hD⟩ : ∃ D, v.nd = D := ⟨_, rfl⟩
  obtain ⟨E, hE, hE1, hE2, hE3, hE4, hE5⟩ : ∃ E, EV.ed ⟨eop, ep, el, ec, epa, eu, en, et, nv⟩ = E ∧ E.op = eop ∧ E.pa = epa ∧ E.name = (eu, en) ∧ E.text = et ∧ E.node = nv.nd := ⟨_, rfl, rfl, rfl, rfl, rfl, rfl⟩
  obtain ⟨M, hM⟩ : ∃ M, EV.mea ⟨eop, ep, el, ec, epa, eu, en, et, nv⟩ = M := ⟨_, rfl⟩
  rw [hE, hD, hM] at K
  have hMl : 2 + el + eu.size + en.size ≤ M := by
    rw [← hM]; unfold EV.mea
    cases nv with
    | mk k u l t ap al ac ats kp kl kc ks => simp only [NV.mea]; omega
  have hm' : v.mea + M ≤ 10000000 := by rw [← hM]; exact hm
  have hmv : v.mea ≤ 10000000 := by omega
  have hv1 : 1 ≤ v.mea := by
    cases v with
    | mk k u l t ap al ac ats kp kl kc ks => simp only [NV.mea]; omega
  have hsl : Sl w ep el 1 (rows intC epa) := he.sl
  have hnil : ep = none → el = 0 := he.nil
  have hcap : el ≤ ec := he.cap
  have hpl : epa.length = el := hsl.row (even_int epa) (by decide)
  have hDm : D.mea = v.mea := by rw [← hD, nd_mea]
  cases v with
  | mk k u l t ap al ac ats kp kl kc ks =>
  cases nv with
  | mk nk nu nl nt nap nal nac nas nkp nkl nkc nks =>
  refine c_edit_Back ?_
  unfold VC_edit_Back
  refine nodeBox (Hp.start w No) fun b2 w1 H1 hb2 hc1 => ?_
  refine nodeBox H1 fun b3 w2 H2 hb3 hc2 => ?_
  simp only [EV.cells] at H2
  rw [zeroC_edit]
  refine nodeBox H2 fun b4 w3 H3 hb4 hc3 => ?_
  refine ldBox H3 2 rfl ?_
  refine ldEd H3 1 rfl ?_
  refine Apply_ok (v := NV.mk k u l t ap al ac ats kp kl kc ks) (e := ⟨eop, ep, el, ec, epa, eu, en, et, .mk nk nu nl nt nap nal nac nas nkp nkl nkc nks⟩) (T.chg H3.chg) (hv.chg0 H3.chg) (he.chg0 H3.chg) hm fun a w4 hc4 hand _ _ _ _ => ?_
  have H4 := H3.step0 hc4
  rw [hD, hE] at hand ⊢
  cases a with
  | mk ak au al9 at9 aap aal aac aas akp akl akc aks =>
  simp only [NV.giv]
  refine storeBox H4 fun b6 w6 H6 hb6 hc6 => ?_
  refine condB_ne (fun hne => ?_) (fun h0 => ?_)
  · refine H6.stN 1 rfl (off := 0) rfl (by simp) (one1_ed 0 none 0 0 ByteArray.empty ByteArray.empty ByteArray.empty zeroV) fun w7 H7 hc7 => ?_
    simp only [List.set_cons_succ, List.set_cons_zero] at H7
    refine ldEd H7 1 rfl ?_
    have hbk : backN D E = ((applyN D E).1, zeroE) := by unfold backN; rw [if_pos hne]
    have := K zeroEV w7 H7.chg (by rw [hbk]; unfold EV.ed zeroEV zeroE; simp only [zeroV_nd]; rfl) ⟨Row.nil _ _ _, by rintro a ⟨⟩, zeroV_own, by unfold zeroEV; simp only [zeroV_bs]; exact List.nodup_nil, (by unfold zeroEV; simp only [zeroV_bs]; intro z hz; cases hz), (by unfold zeroEV; simp only [zeroV_bs]; intro z hz; cases hz)⟩ (by
      unfold EV.mea zeroEV
      simp only [zeroV_mea]
      have : ByteArray.empty.size = 0 := rfl
      omega)
    rw [hbk] at this
    exact this
  obtain ⟨hop1, hop6, hpa⟩ : 1 ≤ eop ∧ eop ≤ 6 ∧ epa ≠ [] := by
    have := apply_ok.1 ⟨h0, rfl⟩
    exact ⟨by rw [← hE1]; exact this.op.1, by rw [← hE1]; exact this.op.2, by rw [← hE2]; exact this.pa⟩
  have hbk : backN D E = (0, backK (nodeAt D E.pa) E) := by unfold backN; rw [if_neg (by rw [h0]; simp)]; rfl
  unfold BkPost at K
  rw [hbk] at K
  have hlt6 := H6.lt 0 rfl
  refine withJ_i fun J8 hJ8 => ?_
  have k8 : ∀ (b8 : Nat) (w8 : World) (p : Option Addr) (c : Nat) (G : List Blk), Row w8 T_int 1 p el c (rows intC epa) → fresh w p →
      Hp w No w8 (⟨b8, [.int .i64 eop, .slice p el c, .string ByteArray.empty, .string ByteArray.empty, .string ByteArray.empty, .int .i64 0, .string ByteArray.empty, .string ByteArray.empty, .slice none 0 0, .slice none 0 0, .string ByteArray.empty], T_edit_Edit⟩ ::
        ⟨b6, [.int .i64 ak, .string au, .string al9, .slice aap aal aac, .slice akp akl akc, .string at9], T_api_Node⟩ ::
        ⟨b4, [.int .i64 0, .slice none 0 0, .string ByteArray.empty, .string ByteArray.empty, .string ByteArray.empty, .int .i64 0, .string ByteArray.empty, .string ByteArray.empty, .slice none 0 0, .slice none 0 0, .string ByteArray.empty], T_edit_Edit⟩ ::
        ⟨b3, [.int .i64 eop, .slice ep el ec, .string eu, .string en, .string et, .int .i64 nk, .string nu, .string nl, .slice nap nal nac, .slice nkp nkl nkc, .string nt], T_edit_Edit⟩ ::
        ⟨b2, [.int .i64 k, .string u, .string l, .slice ap al ac, .slice kp kl kc, .string t], T_api_Node⟩ :: G) →
      (∀ z, isB p z → z < w8.heap.size ∧ z ≠ b8 ∧ z ≠ b4) → J8 (some ⟨b8, 0, none⟩) w8 := by
    intro b8 w8 p c G hr hf H8 hpz
    subst hJ8
    clear hbk hc1 hc2 hc3 hc4 hc6 H1 H2 H3 H4 H6
    refine newZ H8 fun b9 w9 H9 hb9 hc9 => ?_
    refine H9.stN 0 rfl (off := 0) rfl (by simp) (one1_node zeroV) fun w10 H10 hc10 => ?_
    simp only [List.set_cons_zero] at H10
    have c810 : Chg No w8 w10 := hc9.trans hc10 fun b hb e => by omega
    have hr10 := hr.chg c810 (off_no _)
    have hl8 := H8.lt 0 rfl
    have hl4 := H8.lt 2 rfl
    have hpz' : ∀ z, isB p z → z < w10.heap.size ∧ z ≠ b8 ∧ z ≠ b4 ∧ z ≠ b9 := fun z hz => by
      have := hpz z hz; have := c810.size; omega
    clear hpz hr
    refine withJ_i fun J0 hJ0 => ?_
    have k0 : ∀ (y : NV) (w11 : World), (eop = 1 ∨ y.nd = (nodeAt D E.pa).getD zeroN) → Chg (fun z => z = b9) w10 w11 →
        Hp w No w11 (⟨b9, y.cells, T_api_Node⟩ :: ⟨b8, [.int .i64 eop, .slice p el c, .string ByteArray.empty, .string ByteArray.empty, .string ByteArray.empty, .int .i64 0, .string ByteArray.empty, .string ByteArray.empty, .slice none 0 0, .slice none 0 0, .string ByteArray.empty], T_edit_Edit⟩ ::
        ⟨b6, [.int .i64 ak, .string au, .string al9, .slice aap aal aac, .slice akp akl akc, .string at9], T_api_Node⟩ ::
        ⟨b4, [.int .i64 0, .slice none 0 0, .string ByteArray.empty, .string ByteArray.empty, .string ByteArray.empty, .int .i64 0, .string ByteArray.empty, .string ByteArray.empty, .slice none 0 0, .slice none 0 0, .string ByteArray.empty], T_edit_Edit⟩ ::
        ⟨b3, [.int .i64 eop, .slice ep el ec, .string eu, .string en, .string et, .int .i64 nk, .string nu, .string nl, .slice nap nal nac, .slice nkp nkl nkc, .string nt], T_edit_Edit⟩ ::
        ⟨b2, [.int .i64 k, .string u, .string l, .slice ap al ac, .slice kp kl kc, .string t], T_api_Node⟩ :: G) →
        Own w11 y → y.bs.Nodup → (∀ z ∈ y.bs, w10.heap.size ≤ z) → y.mea ≤ (NV.mk k u l t ap al ac ats kp kl kc ks).mea → J0 w11 := by
      intro y w11 hy hc11 H11 hown hnod hbl hmea
      subst hJ0
      have hr11 := hr10.chg hc11 fun a e h => (hpz' b9 ⟨a, e, h⟩).2.2.2 rfl
      have ybs : ∀ z ∈ y.bs, z ≠ b8 ∧ z ≠ b4 ∧ w.heap.size ≤ z ∧ ¬ isB p z := fun z hz => by
        have h1 := hbl z hz
        have h2 := c810.size
        have h3 := H8.chg.size
        refine ⟨by omega, by omega, by omega, fun h => by have := hpz' z h; omega⟩
      refine withJ_i fun J1 hJ1 => ?_
      have k1 : ∀ (q : Int) (u2 n2 t2 : ByteArray) (z : NV) (w12 : World) (G : List Blk), (⟨q, epa, (u2, n2), t2, z.nd⟩ : Ed) = backK (nodeAt D E.pa) E → Own w12 z → z.bs.Nodup → (∀ x ∈ z.bs, x ∈ y.bs) → Row w12 T_int 1 p el c (rows intC epa) →
          1 + el + u2.size + n2.size + t2.size + z.mea ≤ (NV.mk k u l t ap al ac ats kp kl kc ks).mea + M →
          Hp w No w12 (⟨b8, [.int .i64 q, .slice p el c, .string u2, .string n2, .string t2] ++ z.cells, T_edit_Edit⟩ :: ⟨b4, [.int .i64 0, .slice none 0 0, .string ByteArray.empty, .string ByteArray.empty, .string ByteArray.empty, .int .i64 0, .string ByteArray.empty, .string ByteArray.empty, .slice none 0 0, .slice none 0 0, .string ByteArray.empty], T_edit_Edit⟩ :: G) → J1 w12 := by
        intro q u2 n2 t2 z w12 G hed hz hzn hzb hr12 hmz H12
        subst hJ1
        cases z with
        | mk zk zu zl zt zap zal zac zas zkp zkl zkc zks =>
        refine withJ_i fun J2 hJ2 => ?_
        subst hJ2
        simp only [nonNil]
        simp only [Addr.add_mk, Nat.zero_add]
        refine ldEd H12 0 rfl ?_
        refine H12.stN 1 rfl (off := 0) rfl (by simp) (one1_ed q p el c u2 n2 t2 (.mk zk zu zl zt zap zal zac zas zkp zkl zkc zks)) fun w13 H13 hc13 => ?_
        simp only [List.set_cons_zero, List.set_cons_succ] at H13
        refine ldEd H13 1 rfl ?_
        exact K ⟨q, p, el, c, epa, u2, n2, t2, .mk zk zu zl zt zap zal zac zas zkp zkl zkc zks⟩ w13 H13.chg hed
          ⟨hr12.chg hc13 fun a e h => (hpz' b4 ⟨a, e, h⟩).2.2.1 rfl, hf, hz.chg hc13 fun z hz h => (ybs z (hzb z hz)).2.1 h, hzn, fun z hz => (ybs z (hzb z hz)).2.2.1, fun z hz => (ybs z (hzb z hz)).2.2.2⟩ hmz
      clear hJ1
      have hB : backK (nodeAt D E.pa) E = backK (nodeAt D E.pa) E := rfl
      conv at hB => rhs; unfold backK
      have e0 : ByteArray.empty.size = 0 := rfl
      refine H11.ldI 4 rfl (off := 0) rfl ?_
      refine condB_eq (fun h1 => ?_) (fun h1 => ?_)
      · replace h1 : eop = 1 := h1
        rw [if_pos (hE1.trans h1)] at hB
        simp only [nonNil]
        refine H11.stV 1 rfl (off := 0) (by simp) fun w14 H14 hc14 => ?_
        simp only [List.set_cons_succ, List.set_cons_zero] at H14
        refine k1 2 ByteArray.empty ByteArray.empty ByteArray.empty zeroV w14 _ (by rw [hB, hE2, zeroV_nd]; rfl) zeroV_own (by rw [zeroV_bs]; exact List.nodup_nil) (by rw [zeroV_bs]; intro x hx; cases hx) (hr11.chg hc14 fun a e h => (hpz' b8 ⟨a, e, h⟩).2.1 rfl) (by rw [zeroV_mea]; omega) (H14.sub (.cons _ (.cons_cons _ (.cons _ (.refl _)))))
      rw [if_neg (fun g => h1 (hE1.symm.trans g))] at hB
      replace h1 : ¬ eop = 1 := h1
      replace hy := hy.resolve_left h1
      rw [← hy] at hB
      refine condB_eq (fun h2 => ?_) (fun h2 => ?_)
      · replace h2 : eop = 2 := h2
        rw [if_pos (hE1.trans h2)] at hB
        cases y with
        | mk yk yu yl yt yap yal yac yas ykp ykl ykc yks =>
        have H11d := H11.drew
        refine ldBox H11d 0 rfl ?_
        simp only [nonNil]
        refine H11d.stV 1 rfl (off := 0) (by simp) fun w15 H15 hc15 => ?_
        simp only [List.set_cons_succ, List.set_cons_zero] at H15
        refine ⟨H15.cells 0 rfl 0, ?_⟩
        rw [Addr.add_mk]
        refine H15.stN 1 rfl (off := 0 + 5) rfl (by simp) (one1_node (.mk yk yu yl yt yap yal yac [] ykp ykl ykc [])) fun w16 H16 hc16 => ?_
        simp only [List.set_cons_succ, List.set_cons_zero] at H16
        have c16 : Chg (fun z => z = b8) w11 w16 := (((Chg.refl (fun z => z = b8) w11).drew).trans hc15 fun _ _ h => h).trans hc16 fun _ _ h => h
        exact k1 1 ByteArray.empty ByteArray.empty ByteArray.empty (.mk yk yu yl yt yap yal yac yas ykp ykl ykc yks) w16 _ (by rw [hB, hE2]; rfl) (hown.chg c16 fun z hz h => (ybs z hz).1 h) hnod (fun x hx => hx) (hr11.chg c16 fun a e h => (hpz' b8 ⟨a, e, h⟩).2.1 rfl) (by omega) (H16.sub (.cons _ (.cons_cons _ (.cons _ (.refl _)))))
      rw [if_neg (fun g => h2 (hE1.symm.trans g))] at hB
      replace h2 : ¬ eop = 2 := h2
      refine condB_eq (fun h3 => ?_) (fun h3 => ?_)
      · replace h3 : eop = 3 := h3
        rw [if_pos (hE1.trans h3)] at hB
        cases y with
        | mk yk yu yl yt yap yal yac yas ykp ykl ykc yks =>
        refine ldBox H11 0 rfl ?_
        simp only [nonNil]
        rw [Addr.add_mk]
        refine H11.stN 1 rfl (off := 0 + 5) rfl (by simp) (one1_node (.mk yk yu yl yt yap yal yac [] ykp ykl ykc [])) fun w16 H16 c16 => ?_
        simp only [List.set_cons_succ, List.set_cons_zero] at H16
        exact k1 eop ByteArray.empty ByteArray.empty ByteArray.empty (.mk yk yu yl yt yap yal yac yas ykp ykl ykc yks) w16 _ (by rw [hB, hE2, h3]; rfl) (hown.chg c16 fun z hz h => (ybs z hz).1 h) hnod (fun x hx => hx) (hr11.chg c16 fun a e h => (hpz' b8 ⟨a, e, h⟩).2.1 rfl) (by omega) (H16.sub (.cons _ (.cons_cons _ (.cons _ (.refl _)))))
      rw [if_neg (fun g => h3 (hE1.symm.trans g))] at hB
      replace h3 : ¬ eop = 3 := h3
      refine condB_eq (fun h6 => ?_) (fun h6 => ?_)
      · replace h6 : eop = 6 := h6
        rw [if_pos (hE1.trans h6)] at hB
        cases y with
        | mk yk yu yl yt yap yal yac yas ykp ykl ykc yks =>
        refine H11.ldStr 0 rfl (off := 5) rfl ?_
        simp only [nonNil]
        rw [Addr.add_mk]
        refine H11.stV 1 rfl (off := 0 + 4) (by simp) fun w16 H16 c16 => ?_
        simp only [List.set_cons_succ, List.set_cons_zero, Nat.zero_add] at H16
        have hyt : yt.size + 1 ≤ (NV.mk yk yu yl yt yap yal yac yas ykp ykl ykc yks).mea := by simp only [NV.mea]; omega
        exact k1 eop ByteArray.empty ByteArray.empty yt zeroV w16 _ (by rw [hB, hE2, h6, zeroV_nd, nd_kids]; rfl) zeroV_own (by rw [zeroV_bs]; exact List.nodup_nil) (by rw [zeroV_bs]; intro x hx; cases hx) (hr11.chg c16 fun a e h => (hpz' b8 ⟨a, e, h⟩).2.1 rfl) (by rw [zeroV_mea]; omega) (H16.sub (.cons _ (.cons_cons _ (.cons _ (.refl _)))))
      rw [if_neg (fun g => h6 (hE1.symm.trans g))] at hB
      replace h6 : ¬ eop = 6 := h6
      cases y with
      | mk yk yu yl yt yap yal yac yas ykp ykl ykc yks =>
      rw [nd_kids] at hB
      have hB' : backK (nodeAt D E.pa) E = match lastVal yas (eu, en) with | some v => ⟨4, epa, (eu, en), v, zeroN⟩ | none => ⟨5, epa, (eu, en), emptyB, zeroN⟩ := by rw [hB, hE2, hE3]; rfl
      clear hB
      have H11d := H11.drew
      refine H11d.ldStr 4 rfl (off := 2) rfl ?_
      refine H11d.ldStr 4 rfl (off := 3) rfl ?_
      simp only [nonNil]
      refine H11d.stV 1 rfl (off := 0) (by simp) fun w19 H19 hc19 => ?_
      simp only [List.set_cons_succ, List.set_cons_zero] at H19
      refine ⟨cellsAt_take 2 (H19.cells 4 rfl 2), ?_⟩
      rw [Addr.add_mk]
      refine H19.stN 1 rfl (off := 0 + 2) rfl (by simp) (one1_cons rfl (one1_cons rfl one1_nil)) fun w20 H20 hc20 => ?_
      simp only [List.set_cons_succ, List.set_cons_zero] at H20
      have c20 : Chg (fun z => z = b8) w11 w20 := (((Chg.refl (fun z => z = b8) w11).drew).trans hc19 fun _ _ h => h).trans hc20 fun _ _ h => h
      refine H20.ldS 0 rfl (off := 3) rfl ?_
      have hya : Row w11 T_api_Attr 3 yap yal yac (rows atc yas) := by cases hown with | mk ha hk hks => exact ha
      have hyal := hya.sl.row (even_at yas) (by decide)
      have hyab : ∀ z, isB yap z → z ≠ b8 := fun z ⟨a, e, h⟩ => (ybs z (by subst e; simp only [NV.bs, blkL]; rw [← h]; exact List.mem_append_left _ (List.mem_singleton.2 rfl))).1
      have hla := len_atSum yas
      have hym : yal + 1 + (yas.map atSize).sum ≤ 10000001 + (yas.map atSize).sum := by simp only [NV.mea] at hmea hmv ⊢; omega
      have hys : (yas.map atSize).sum + 1 ≤ (NV.mk yk yu yl yt yap yal yac yas ykp ykl ykc yks).mea := by simp only [NV.mea]; omega
      refine ⟨fun i w' m => ∃ qn : Nat, i = qn ∧ qn ≤ yal ∧ m = yal - qn ∧ Chg (fun z => z = b8) w11 w' ∧
        Hp w No w' (⟨b9, (NV.mk yk yu yl yt yap yal yac yas ykp ykl ykc yks).cells, T_api_Node⟩ :: ⟨b8, [.int .i64 (lastK (lastVal (yas.take qn) (eu, en))), .slice p el c, .string eu, .string en, .string ((lastVal (yas.take qn) (eu, en)).getD ByteArray.empty), .int .i64 0, .string ByteArray.empty, .string ByteArray.empty, .slice none 0 0, .slice none 0 0, .string ByteArray.empty], T_edit_Edit⟩ ::
        ⟨b6, [.int .i64 ak, .string au, .string al9, .slice aap aal aac, .slice akp akl akc, .string at9], T_api_Node⟩ ::
        ⟨b4, [.int .i64 0, .slice none 0 0, .string ByteArray.empty, .string ByteArray.empty, .string ByteArray.empty, .int .i64 0, .string ByteArray.empty, .string ByteArray.empty, .slice none 0 0, .slice none 0 0, .string ByteArray.empty], T_edit_Edit⟩ ::
        ⟨b3, [.int .i64 eop, .slice ep el ec, .string eu, .string en, .string et, .int .i64 nk, .string nu, .string nl, .slice nap nal nac, .slice nkp nkl nkc, .string nt], T_edit_Edit⟩ ::
        ⟨b2, [.int .i64 k, .string u, .string l, .slice ap al ac, .slice kp kl kc, .string t], T_api_Node⟩ :: G), ⟨_, 0, rfl, Nat.zero_le _, rfl, c20, H20⟩, ?_⟩
      rintro x48 w21 m ⟨qn, rfl, hq, rfl, c21, H21⟩
      refine condB_d (fun hlt => ?_) (fun hge => ?_)
      · refine withJ_i fun J5 hJ5 => ?_
        refine idx_rows (f := atc) (hya.sl.chg c21 fun a e h => hyab _ ⟨a, e, rfl⟩ h) (even_at yas) (by decide) (by omega) hlt fun a x _ hx hcs => ?_
        rw [Int.toNat_natCast] at hx
        obtain ⟨xu, xn, xv⟩ := x
        refine ldAttr hcs ?_
        have ht := take_get hx
        have hsn := lastVal_snoc (yas.take qn) (xu, xn, xv) (eu, en)
        rw [← ht] at hsn
        rw [zeroC_attr9]
        refine nodeBox H21 fun b11 w23 H23 hb11 hc23 => ?_
        refine H23.stN 0 rfl (off := 0) rfl (by simp) (one1_cons rfl (one1_cons rfl (one1_cons rfl one1_nil))) fun w24 H24 hc24 => ?_
        simp only [List.set_cons_zero] at H24
        have c24 : Chg (fun z => z = b8) w11 w24 := c21.trans (hc23.trans hc24 fun b hb e => by omega) fun _ _ h => h.elim
        refine H24.ldStr 0 rfl (off := 0) rfl ?_
        refine H24.ldStr 0 rfl (off := 1) rfl ?_
        refine H24.ldStr 5 rfl (off := 2) rfl ?_
        refine H24.ldStr 5 rfl (off := 3) rfl ?_
        refine condB_i (fun hc => ?_) (fun hc => ?_)
        · have hn : nameOf (xu, xn, xv) = (eu, en) := by
            rw [beqS, beqS, Bool.and_true, Bool.and_eq_true, decide_eq_true_eq, decide_eq_true_eq] at hc
            exact Prod.ext hc.1 hc.2
          rw [if_pos hn] at hsn
          have H24d := H24.drew
          refine H24d.ldStr 0 rfl (off := 2) rfl ?_
          refine H24d.stV 2 rfl (off := 0) (by simp) fun w25 H25 hc25 => ?_
          simp only [List.set_cons_succ, List.set_cons_zero] at H25
          refine ⟨H25.cell 0 rfl rfl, ?_⟩
          rw [Addr.add_mk]
          refine H25.stV 2 rfl (off := 0 + 4) (by simp) fun w26 H26 hc26 => ?_
          simp only [List.set_cons_succ, List.set_cons_zero, Nat.zero_add] at H26
          subst hJ5
          refine ⟨_, ?_, qn + 1, by rw [w64_of] <;> omega, by omega, rfl, ((c24.drew).trans hc25 fun _ _ h => h).trans hc26 fun _ _ h => h, ?_⟩
          · omega
          · rw [hsn]
            exact H26.sub (.cons _ (.refl _))
        · have hn : ¬ nameOf (xu, xn, xv) = (eu, en) := fun g => by
            rw [beqS, beqS, Bool.and_true, Bool.and_eq_false_iff, decide_eq_false_iff_not, decide_eq_false_iff_not] at hc
            have g1 : xu = eu := congrArg Prod.fst g
            have g2 : xn = en := congrArg Prod.snd g
            rcases hc with h | h
            · exact h g1
            · exact h g2
          rw [if_neg hn] at hsn
          subst hJ5
          refine ⟨_, ?_, qn + 1, by rw [w64_of] <;> omega, by omega, rfl, c24, ?_⟩
          · omega
          · rw [hsn]
            exact H24.sub (.cons _ (.refl _))
      · have hqe : qn = yal := by omega
        rw [List.take_of_length_le (by omega)] at H21
        have hr21 := hr11.chg c21 fun a e h => (hpz' b8 ⟨a, e, h⟩).2.1 rfl
        have hsz : ((lastVal yas (eu, en)).getD ByteArray.empty).size + 1 ≤ (NV.mk yk yu yl yt yap yal yac yas ykp ykl ykc yks).mea := by
          cases hlv : lastVal yas (eu, en) with
          | none => simp only [Option.getD_none]; omega
          | some v2 =>
            have h1 := atSize_le (lastVal_some hlv)
            have h2 : v2.size ≤ atSize (newAt (eu, en) v2) := by simp only [newAt, atSize]; omega
            simp only [Option.getD_some]; omega
        refine k1 (lastK (lastVal yas (eu, en))) eu en ((lastVal yas (eu, en)).getD ByteArray.empty) zeroV w21 _ ?_ zeroV_own (by rw [zeroV_bs]; exact List.nodup_nil) (by rw [zeroV_bs]; intro x hx; cases hx) hr21 (by rw [zeroV_mea]; omega) (H21.sub (.cons _ (.cons_cons _ (.cons _ (.refl _)))))
        rw [hB', zeroV_nd]
        cases lastVal yas (eu, en) <;> rfl
    clear hJ0
    refine H10.ldI 4 rfl (off := 0) rfl ?_
    refine condB_ne (fun hne => ?_) (fun he1 => ?_)
    · refine ldBox H10 5 rfl ?_
      refine H10.ldS 4 rfl (off := 1) rfl ?_
      refine TreeAt_ok (v := NV.mk k u l t ap al ac ats kp kl kc ks) (zs := epa) (hv.chg0 H10.chg) hmv (hsl.chg H10.chg (off_no _)) (by omega) (fun y v' w27 hat hnd' hown' hnod' hbl' hmea' hc27 => ?_) (fun w27 hat hc27 => ?_)
      · have hnode := atV_nd (r := epa) (v := NV.mk k u l t ap al ac ats kp kl kc ks)
        rw [hat, hD, ← hE2] at hnode
        have H27 := H10.step0 hc27
        have hl9 := H10.lt 0 rfl
        cases v' with
        | mk zk zu zl zt zap zal zac zas zkp zkl zkc zks =>
        simp only [NV.giv]
        refine H27.stN 0 rfl (off := 0) rfl (by simp [splice]) (one1_node (.mk zk zu zl zt zap zal zac [] zkp zkl zkc [])) fun w28 H28 hc28 => ?_
        simp only [List.set_cons_zero] at H28
        exact k0 (.mk zk zu zl zt zap zal zac zas zkp zkl zkc zks) w28 (.inr (by rw [← hnode]; exact hnd')) ((hc27.mono fun _ _ h => h.elim).trans hc28 fun _ _ h => h) H28 (hown'.chg hc28 fun z hz h => by have := hbl' z hz; omega) hnod' hbl' hmea'
      · have hnode := atV_nd (r := epa) (v := NV.mk k u l t ap al ac ats kp kl kc ks)
        rw [hat, hD, ← hE2] at hnode
        have H27 := H10.step0 hc27
        refine H27.stN 0 rfl (off := 0) rfl (by simp [splice]) (one1_node zeroV) fun w28 H28 hc28 => ?_
        simp only [List.set_cons_zero] at H28
        exact k0 zeroV w28 (.inr (by rw [← hnode, zeroV_nd]; rfl)) ((hc27.mono fun _ _ h => h.elim).trans hc28 fun _ _ h => h) H28 zeroV_own (by rw [zeroV_bs]; exact List.nodup_nil) (by rw [zeroV_bs]; intro x hx; cases hx) (by rw [zeroV_mea]; omega)
    · exact k0 zeroV w10 (.inl he1) (Chg.refl _ _) H10 zeroV_own (by rw [zeroV_bs]; exact List.nodup_nil) (by rw [zeroV_bs]; intro x hx; cases hx) (by rw [zeroV_mea]; omega)
  clear hJ8
  have H6d := H6.drew
  refine H6d.ldI 2 rfl (off := 0) rfl ?_
  refine H6d.ldS 2 rfl (off := 1) rfl ?_
  have hl4 := H6d.lt 1 rfl
  refine ⟨?_, ?_⟩
  · refine CloneI_ok (hsl.chg H6d.chg (off_no _)) hnil (by omega) fun p' c' w29 hr29 hf29 hc29 => ?_
    have H29 := H6d.step0 hc29
    refine ⟨H29.cell 2 rfl rfl, ?_⟩
    refine nodeBox H29 fun b8 w30 H30 hb8 hc30 => ?_
    refine ⟨H30.cell 3 rfl rfl, H30.cell 3 rfl rfl, ?_⟩
    refine H30.stN 0 rfl (off := 0) rfl (by simp) (one1_ed eop p' el c' ByteArray.empty ByteArray.empty ByteArray.empty zeroV) fun w31 H31 hc31 => ?_
    simp only [List.set_cons_zero] at H31
    have hz : ∀ z, isB p' z → z < w29.heap.size ∧ w6.drew.heap.size ≤ z := fun z ⟨a, e, h⟩ => by
      rw [← h]; exact ⟨hr29.lt a e, hf29 a e⟩
    have hs30 := hc30.size
    have hs31 := hc31.size
    exact k8 b8 w31 p' c' _ ((hr29.chg hc30 (off_no _)).chg hc31 fun a e h => by have := hz b8 ⟨a, e, h⟩; omega) (fun a e => by have := hf29 a e; have := H6d.chg.size; omega) H31 (fun z h => by have := hz z h; omega)
  · refine nodeBox H6d fun b8 w32 H32 hb8 hc32 => ?_
    refine ⟨H32.cell 3 rfl rfl, H32.cell 3 rfl rfl, ?_⟩
    refine CloneI_ok (hsl.chg H32.chg (off_no _)) hnil (by omega) fun p' c' w33 hr33 hf33 hc33 => ?_
    have H33 := H32.step0 hc33
    refine ⟨H33.cell 3 rfl rfl, ?_⟩
    refine H33.stN 0 rfl (off := 0) rfl (by simp) (one1_ed eop p' el c' ByteArray.empty ByteArray.empty ByteArray.empty zeroV) fun w34 H34 hc34 => ?_
    simp only [List.set_cons_zero] at H34
    have hl8 := H32.lt 0 rfl
    have hz : ∀ z, isB p' z → z < w33.heap.size ∧ w32.heap.size ≤ z := fun z ⟨a, e, h⟩ => by
      rw [← h]; exact ⟨hr33.lt a e, hf33 a e⟩
    have hs34 := hc34.size
    have hs32 := hc32.size
    exact k8 b8 w34 p' c' _ (hr33.chg hc34 fun a e h => by have := hz b8 ⟨a, e, h⟩; omega) (fun a e => by have := hf33 a e; have := H32.chg.size; omega) H34 (fun z h => by have := hz z h; omega)
end
end Go.Proofs.YtkgfbphdmnapdaaGreatDoor

/-
  What the laws of edits share: a small document; is the package awake; two edits the same.
-/
set_option linter.unusedVariables false
set_option linter.unusedSimpArgs false
namespace Go.Vc
open Go Go.Lib
def sA : ByteArray := ⟨#[97]⟩
def sB : ByteArray := ⟨#[98]⟩
def sC : ByteArray := ⟨#[99]⟩
def s1 : ByteArray := ⟨#[49]⟩
def sX : ByteArray := ⟨#[120]⟩
def littleN : Nd := .mk 1 emptyB emptyB emptyB [] [.mk 2 emptyB sA emptyB [(emptyB, sB, s1)] [.mk 3 emptyB emptyB sX [] [], .mk 2 emptyB sC emptyB [] []]]
def little2N : Nd := .mk 1 emptyB emptyB emptyB [] [.mk 2 emptyB sA emptyB [(emptyB, sB, s1)] [.mk 2 emptyB sC emptyB [] []]]
theorem check_little : checkL littleN = 0 := by decide +kernel
theorem check_little2 : checkL little2N = 0 := by decide +kernel
def vLit9 (b13 b10 b5 : Nat) : NV := .mk 1 emptyB emptyB emptyB none 0 0 [] (some ⟨b13, 0, none⟩) 1 1
  [.mk 2 emptyB sA emptyB (some ⟨b5, 0, none⟩) 1 1 [(emptyB, sB, s1)] (some ⟨b10, 0, none⟩) 2 2 [.mk 3 emptyB emptyB sX none 0 0 [] none 0 0 [], .mk 2 emptyB sC emptyB none 0 0 [] none 0 0 []]]
theorem vLit9_nd (a b c : Nat) : (vLit9 a b c).nd = littleN := rfl
def e00 : Ed := ⟨2, [0, 0], (emptyB, emptyB), emptyB, zeroN⟩
def e0 : Ed := ⟨2, [0], (emptyB, emptyB), emptyB, zeroN⟩
theorem ed_00 : edN littleN [0, 0] e00 = (0, little2N) := rfl
theorem ap_00 : ApOk littleN e00 little2N := ⟨check_little, by decide, by decide, ed_00, check_little2⟩
theorem apply_00 : applyN littleN e00 = (0, little2N) := Prod.ext (apply_ok.2 ap_00).1 (apply_ok.2 ap_00).2
theorem apply_0 : (applyN littleN e0).1 = 30 := by decide +kernel
theorem back_00 : backN littleN e00 = (0, ⟨1, [0, 0], (emptyB, emptyB), emptyB, .mk 3 emptyB emptyB sX [] []⟩) := by
  unfold backN; rw [if_neg (by rw [apply_00]; simp)]; rfl
end Go.Vc
namespace Go.Proofs.YtkgfbphdmnapdaaGreatDoor
open Go Go.Vc Go.Lib
section
variable {w w' : World}
theorem Little9_ok {J : Int → ByteArray → ByteArray → Option Addr → Nat → Nat → Option Addr → Nat → Nat → ByteArray → World → Prop}
    (K : ∀ b13 b10 b5 w', (vLit9 b13 b10 b5).Ok w' → Chg No w w' → J 1 emptyB emptyB none 0 0 (some ⟨b13, 0, none⟩) 1 1 emptyB w') :
    callJ Tryz.prog fn_law09_little #[] w [.agg [.int .i64, .str, .str, .slice, .slice, .str]] J := by
  refine c_law09_little ?_
  unfold VC_law09_little
  rw [zeroC_node]
  refine (Hp.start w No).newB fun b0 w1 H1 hb0 hc1 => ?_
  refine ⟨rfl, rfl, ?_⟩
  refine H1.newB fun b5 w2 H2 hb5 hc2 => ⟨rfl, ?_⟩
  refine H2.newB fun b1 w3 H3 hb1 hc3 => ?_
  refine H3.stN 0 rfl (off := 0) rfl (by simp) (one1_node (.mk 2 emptyB sA emptyB (some ⟨b5, 0, none⟩) 1 1 [] none 0 0 [])) fun w4 H4 hc4 => ⟨rfl, rfl, rfl, ?_⟩
  simp only [List.set_cons_zero] at H4
  refine H4.newB fun b10 w5 H5 hb10 hc5 => ?_
  refine H5.stV 1 rfl (off := 4) (by simp [splice]) fun w6 H6 hc6 => ?_
  refine ldBox H6 1 (k0 := 2) (u0 := emptyB) (l0 := sA) (t0 := emptyB) (ap := some ⟨b5, 0, none⟩) (al := 1) (ac := 1) (kp := some ⟨b10, 0, none⟩) (kl := 2) (kc := 2) rfl ?_
  refine ⟨rfl, ?_⟩
  refine H6.newB fun b13 w7 H7 hb13 hc7 => ?_
  refine H7.stN 4 rfl (off := 0) rfl (by simp) (one1_node (.mk 1 emptyB emptyB emptyB none 0 0 [] (some ⟨b13, 0, none⟩) 1 1 [])) fun w8 H8 hc8 => ?_
  refine ldBox H8 4 (k0 := 1) (u0 := emptyB) (l0 := emptyB) (t0 := emptyB) (ap := none) (al := 0) (ac := 0) (kp := some ⟨b13, 0, none⟩) (kl := 1) (kc := 1) rfl ?_
  refine K b13 b10 b5 w8 ?_ H8.chg
  have s13 : Sl w8 (some ⟨b13, 0, none⟩) 1 6 (rows NV.cells [.mk 2 emptyB sA emptyB (some ⟨b5, 0, none⟩) 1 1 [(emptyB, sB, s1)] (some ⟨b10, 0, none⟩) 2 2 [.mk 3 emptyB emptyB sX none 0 0 [] none 0 0 [], .mk 2 emptyB sC emptyB none 0 0 [] none 0 0 []]]) :=
    (H8.asRow 0 rfl (l := 1) (c := 1) (sz := 6) (rest := []) rfl rfl (Nat.le_refl _) (by decide) rfl).sl
  have s10 : Sl w8 (some ⟨b10, 0, none⟩) 2 6 (rows NV.cells [.mk 3 emptyB emptyB sX none 0 0 [] none 0 0 [], .mk 2 emptyB sC emptyB none 0 0 [] none 0 0 []]) :=
    (H8.asRow 1 rfl (l := 2) (c := 2) (sz := 6) (rest := []) rfl rfl (Nat.le_refl _) (by decide) rfl).sl
  have s5 : Sl w8 (some ⟨b5, 0, none⟩) 1 3 (rows atc [(emptyB, sB, s1)]) := (H8.asRow 3 rfl (l := 1) (c := 1) (sz := 3) (rest := []) rfl rfl (Nat.le_refl _) (by decide) rfl).sl
  refine .mk (Sl.nil _ _ _) (fun _ => rfl) (Nat.le_refl _) s13 (by simp) (Nat.le_refl _) fun x hx => ?_
  rw [List.mem_singleton.1 hx]
  refine .mk s5 (by simp) (Nat.le_refl _) s10 (by simp) (Nat.le_refl _) fun y hy => ?_
  simp only [List.mem_cons, List.not_mem_nil, or_false] at hy
  rcases hy with rfl | rfl
  · exact .mk (Sl.nil _ _ _) (fun _ => rfl) (Nat.le_refl _) (Sl.nil _ _ _) (fun _ => rfl) (Nat.le_refl _) (by simp)
  · exact .mk (Sl.nil _ _ _) (fun _ => rfl) (Nat.le_refl _) (Sl.nil _ _ _) (fun _ => rfl) (Nat.le_refl _) (by simp)
/-- An edit's box written. -/
theorem edBox {w0 : World} {S : Nat → Prop} {Γ : List Blk} (H : Hp w0 S w Γ) {eop : Int} {ep : Option Addr} {el ec : Nat} {eu en et : ByteArray} {k0 : Int} {u0 l0 t0 : ByteArray} {ap kp : Option Addr} {al ac kl kc : Nat} {K : Nat → World → Prop}
    (k : ∀ b w', Hp w0 S w' (⟨b, [.int .i64 eop, .slice ep el ec, .string eu, .string en, .string et, .int .i64 k0, .string u0, .string l0, .slice ap al ac, .slice kp kl kc, .string t0], T_edit_Edit⟩ :: Γ) → w.heap.size ≤ b → Chg No w w' → K b w') :
    newB w (.cells (zeroC Tryz.prog T_edit_Edit) T_edit_Edit) fun b w1 => stN w1 ⟨b, 0, none⟩ ⟨[.int .i64 eop, .slice ep el ec, .string eu, .string en, .string et, .int .i64 k0, .string u0, .string l0, .slice ap al ac, .slice kp kl kc, .string t0]⟩ 11 fun w2 => K b w2 := by
  rw [zeroC_edit]
  refine H.newB fun b w1 H1 hb hc1 => ?_
  refine H1.stN 0 rfl (off := 0) rfl (by simp) (one1_ed eop ep el ec eu en et (.mk k0 u0 l0 t0 ap al ac [] kp kl kc [])) fun w2 H2 hc2 => ?_
  simp only [List.set_cons_zero] at H2
  exact k b w2 H2 hb (hc1.trans hc2 fun x hx e => by subst e; omega)
/-- An edit of a struck node, at a path given by numbers. -/
def evCut (b : Nat) (pa : List Int) : EV := ⟨2, some ⟨b, 0, none⟩, pa.length, pa.length, pa, emptyB, emptyB, emptyB, zeroV⟩
theorem evCut_mea (b : Nat) (pa : List Int) : (evCut b pa).mea = 2 + pa.length := by
  unfold EV.mea evCut
  simp only [zeroV_mea]
  have : emptyB.size = 0 := rfl
  omega
theorem evCut_ok {b : Nat} {pa : List Int} (h : Sl w (some ⟨b, 0, none⟩) pa.length 1 (rows intC pa)) : EV.Ok w (evCut b pa) := ⟨h, by rintro ⟨⟩, Nat.le_refl _, zeroV_own.ok⟩
theorem Awake9_ok {J : Bool → World → Prop} (T : TT w) (k : ∀ w', Chg No w w' → J true w') : callJ Tryz.prog fn_law09_awake #[] w [.one .bool] J := by
  refine c_law09_awake ?_
  unfold VC_law09_awake
  have hmea : ∀ b13 b10 b5, (vLit9 b13 b10 b5).mea ≤ 100 := fun b13 b10 b5 => by simp only [vLit9, NV.mea, NV.meaL]; decide
  have hm2 : ∀ b13 b10 b5 b9, (vLit9 b13 b10 b5).mea + (evCut b9 [0, 0]).mea ≤ 10000000 := fun b13 b10 b5 b9 => by rw [evCut_mea]; have := hmea b13 b10 b5; simp only [List.length_cons, List.length_nil]; omega
  have hm1 : ∀ b13 b10 b5 b9, (vLit9 b13 b10 b5).mea + (evCut b9 [0]).mea ≤ 10000000 := fun b13 b10 b5 b9 => by rw [evCut_mea]; have := hmea b13 b10 b5; simp only [List.length_cons, List.length_nil]; omega
  refine Little9_ok fun b13 b10 b5 w1 hv hc1 => ?_
  have H1 := Hp.of_chg hc1
  refine nodeBox H1 fun b9 w2 H2 hb9 hc2 => ?_
  have s9 : Sl w2 (some ⟨b9, 0, none⟩) 2 1 (rows intC [0, 0]) := (H2.asRow 0 rfl (l := 2) (c := 2) (sz := 1) (rest := []) rfl rfl (Nat.le_refl _) (by decide) rfl).sl
  refine Apply_ok (v := vLit9 b13 b10 b5) (e := evCut b9 [0, 0]) (T.chg H2.chg) (hv.chg0 hc2) (evCut_ok s9) (hm2 _ _ _ _) fun x3 w3 hc3 hnd3 hown3 hnod3 _ hm3 => ?_
  have hE : (evCut b9 [0, 0]).ed = e00 := rfl
  rw [vLit9_nd, hE, apply_00] at hnd3 ⊢
  have H3 := H2.step0 hc3
  cases x3 with
  | mk xk xu xl xt xap xal xac xas xkp xkl xkc xks =>
  simp only [NV.giv]
  refine storeBox (Hp.of_chg H3.chg) fun b1 w5 H5 hb1 hc5 => ?_
  have own5 := hown3.chg0 hc5
  refine Little9_ok fun b13 b10 b5 w6 hv6 hc6 => ?_
  have H6 := H5.step0 hc6
  refine nodeBox H6 fun b16 w7 H7 hb16 hc7 => ?_
  have s16 : Sl w7 (some ⟨b16, 0, none⟩) 1 1 (rows intC [0]) := (H7.asRow 0 rfl (l := 1) (c := 1) (sz := 1) (rest := []) rfl rfl (Nat.le_refl _) (by decide) rfl).sl
  refine Apply_ok (v := vLit9 b13 b10 b5) (e := evCut b16 [0]) (T.chg H7.chg) (hv6.chg0 hc7) (evCut_ok s16) (hm1 _ _ _ _) fun x8 w8 hc8 hnd8 _ _ _ _ => ?_
  have hE8 : (evCut b16 [0]).ed = e0 := rfl
  rw [vLit9_nd, hE8, apply_0]
  have H8 := H7.step0 hc8
  cases x8 with
  | mk yk yu yl yt yap yal yac yas ykp ykl ykc yks =>
  simp only [NV.giv]
  refine storeBox H8 fun b3 w10 H10 hb3 hc10 => ?_
  refine Little9_ok fun b13 b10 b5 w11 hv11 hc11 => ?_
  have H11 := H10.step0 hc11
  refine nodeBox H11 fun b23 w12 H12 hb23 hc12 => ?_
  have s23 : Sl w12 (some ⟨b23, 0, none⟩) 2 1 (rows intC [0, 0]) := (H12.asRow 0 rfl (l := 2) (c := 2) (sz := 1) (rest := []) rfl rfl (Nat.le_refl _) (by decide) rfl).sl
  refine Back_ok (v := vLit9 b13 b10 b5) (e := evCut b23 [0, 0]) (T.chg H12.chg) (hv11.chg0 hc12) (evCut_ok s23) (hm2 _ _ _ _) fun x13 w13 hc13 hed13 _ _ => ?_
  have hE13 : (evCut b23 [0, 0]).ed = e00 := rfl
  rw [vLit9_nd, hE13, back_00] at hed13 ⊢
  have H13 := H12.step0 hc13
  obtain ⟨fop, fp, fl, fc, fpa, fu, fn, ft, fv⟩ := x13
  cases fv with
  | mk fk fu1 fl1 ft1 fap fal fac fas fkp fkl fkc fks =>
  have g1 : fop = 1 := congrArg Ed.op hed13
  have g2 : ft1 = sX := by
    have : (NV.mk fk fu1 fl1 ft1 fap fal fac fas fkp fkl fkc fks).nd = .mk 3 emptyB emptyB sX [] [] := congrArg Ed.node hed13
    rw [nd_kids] at this
    injection this
  subst g1 g2
  simp only [EV.giv, NV.giv]
  refine edBox H13 fun b5 w15 H15 hb5 hc15 => ?_
  refine withJ_i fun J0 hJ0 => ?_
  subst hJ0
  refine condB_i (fun _ => ?_) (fun h => by cases h)
  refine condB_i (fun _ => ?_) (fun h => by cases h)
  refine condB_i (fun _ => ?_) (fun h => by cases h)
  have c515 : Chg No w5 w15 := ((((((hc6.trans0 hc7).trans0 hc8).trans0 hc10).trans0 hc11).trans0 hc12).trans0 hc13).trans0 hc15
  have own15 := own5.chg0 c515
  cases own15 with
  | mk ha hk hks =>
  have hkl := hk.sl.row (even_node xks) (by decide)
  rw [nd_kids] at hnd3
  injection hnd3 with _ _ _ _ _ hkids
  obtain ⟨x, rfl⟩ : ∃ x, xks = [x] := by
    cases xks with
    | nil => simp at hkids
    | cons x r => cases r with
      | nil => exact ⟨x, rfl⟩
      | cons y r => simp at hkids
  have hl1 : xkl = 1 := by simpa using hkl.symm
  subst hl1
  have hxn : x.nd = .mk 2 emptyB sA emptyB [(emptyB, sB, s1)] [.mk 2 emptyB sC emptyB [] []] := by simpa using hkids
  have hxo := hks x (List.mem_singleton.2 rfl)
  refine H15.ldS 4 rfl (off := 4) rfl ?_
  refine condB_i (fun _ => ?_) (fun h => by cases h)
  refine H15.ldS 4 rfl (off := 4) rfl ?_
  refine idx_rows hk.sl (even_node [x]) (by decide) (by decide) (by decide) fun a z _ hz hcs => ?_
  obtain rfl : x = z := by simpa using hz
  cases x with
  | mk zk zu zl zt zap zal zac zas zkp zkl zkc zks =>
  have hcz := cellsAt_take 6 hcs
  cases hxo with
  | mk ha2 hk2 hks2 =>
  have hkl2 := hk2.sl.row (even_node zks) (by decide)
  rw [nd_kids] at hxn
  injection hxn with _ _ _ _ _ hkids2
  have hl2 : zkl = 1 := by
    have := congrArg List.length hkids2
    simp at this; omega
  subst hl2
  refine ⟨_, _, _, hcz 4 _ rfl, ?_⟩
  refine condB_i (fun _ => ?_) (fun h => by cases h)
  refine H15.ldI 0 rfl (off := 0) rfl ?_
  refine condB_i (fun _ => ?_) (fun h => by cases h)
  refine H15.ldStr 0 rfl (off := 10) rfl ?_
  rw [show (sX.toList == (⟨#[120]⟩ : ByteArray).toList) = true from by rw [beqS]; exact decide_eq_true rfl]
  exact k w15 H15.chg
end
end Go.Proofs.YtkgfbphdmnapdaaGreatDoor

/-
  Edits that came in.
-/
set_option linter.unusedVariables false
set_option linter.unusedSimpArgs false
namespace Go.Vc
open Go Go.Lib
theorem sum_ones {α : Type} : ∀ l : List α, (l.map fun _ => 1).sum = l.length
  | [] => rfl
  | x :: r => by rw [List.map_cons, List.sum_cons, sum_ones r, List.length_cons]; omega
end Go.Vc
namespace Go.Proofs.YtkgfbphdmnapdaaGreatDoor
open Go Go.Vc Go.Lib
section
variable {w : World}
theorem rdn_edit (n : Nat) : RdN Tryz.prog w n T_edit_Edit EV.cells (EV.Ok w) EV.mea := by
  refine RdN.pred fun m hm => ?_
  have hi : RdN Tryz.prog w m T_sl_int SlV.cells (fun s : SlV Int => s.Ok w 1 8 (fun n : Int => [.int .i64 n]) InI) (fun s => (s.xs.map fun _ => 1).sum) := RdN.pred fun k hk => RdN.slice (by kernel_rfl) (by kernel_rfl) (by kernel_rfl) (rdn_kind k)
  refine (RdN.struct (L := [(T_int, 0), (T_sl_int, 1), (T_api_Name, 2), (T_string, 4), (T_api_Node, 5)]) (n := 11) (by kernel_rfl) (by kernel_rfl)
    (RdNF.cons (k := 1) (n := 10) (by kernel_rfl) rfl (rdn_kind m) (RdNF.cons (k := 1) (n := 9) (by kernel_rfl) rfl hi (RdNF.cons (k := 2) (n := 7) (by kernel_rfl) rfl (rdn_name m)
      (RdNF.cons (k := 1) (n := 6) (by kernel_rfl) rfl (rdn_str m) (RdNF.cons (k := 6) (n := 0) (by kernel_rfl) rfl (rdn_node m) RdNF.nil)))))).map
    (fun x => ⟨x.1, x.2.1.p, x.2.1.l, x.2.1.c, x.2.1.xs, x.2.2.1.1, x.2.2.1.2, x.2.2.2.1, x.2.2.2.2.1⟩) (fun x _ => ?_) (fun x h => ?_) (fun x h => ?_)
  · obtain ⟨a, s, nm, t, v, u⟩ := x
    show _ ++ (_ ++ (_ ++ (_ ++ (v.cells ++ [])))) = _
    rw [List.append_nil]; rfl
  · obtain ⟨h1, h2, h3, h4, h5, _⟩ := h
    exact ⟨h2.sl, h2.nil, h2.cap, h5⟩
  · obtain ⟨h1, h2, h3, h4, h5, _⟩ := h
    have hl : x.2.1.xs.length = x.2.1.l := h2.sl.row (fun _ _ => rfl) (by decide)
    unfold EV.mea
    simp only [sum_ones]
    omega
theorem rdm_edit : RdM Tryz.prog w T_edit_Edit EV.cells (EV.Ok w) EV.mea := RdN.to rdn_edit
end
end Go.Proofs.YtkgfbphdmnapdaaGreatDoor

