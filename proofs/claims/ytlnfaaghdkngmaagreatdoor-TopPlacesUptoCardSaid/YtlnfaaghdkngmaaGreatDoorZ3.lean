/- What the statement needs, part 3. -/
import Derived.Test.YtlnfaaghdkngmaaGreatDoorZ2
set_option linter.unusedSectionVars false
set_option linter.unusedVariables false
set_option linter.unusedSimpArgs false
set_option maxRecDepth 100000
open List
section
namespace Go.Vc
open Go Go.Lib
structure EV where
 op : Int
 p : Option Addr
 l : Nat
 c : Nat
 pa : List Int
 u : ByteArray
 n : ByteArray
 t : ByteArray
 nd : NV
def EV.cells (e : EV) : List Value := .int .i64 e.op :: .slice e.p e.l e.c :: .string e.u :: .string e.n :: .string e.t :: e.nd.cells
def EV.ed (e : EV) : Ed := ⟨e.op, e.pa, (e.u, e.n), e.t, e.nd.nd⟩
def EV.mea (e : EV) : Nat := 1 + e.l + e.u.size + e.n.size + e.t.size + e.nd.mea
structure EV.Ok (w : World) (e : EV) : Prop where
 sl : Sl w e.p e.l 1 (rows YbS e.pa)
 nil : e.p = none -> e.l = 0
 cap : e.l <= e.c
 nd : NV.Ok w e.nd
theorem EV.Ok.chg0 {w w' : World} {e : EV} (h : EV.Ok w e) (hc : Chg No w w') : EV.Ok w' e := ⟨h.sl.chg hc (off_no _), h.nil, h.cap, h.nd.chg0 hc⟩
theorem Yf9 {cs vs : List Value} {off k : Nat} {v : Value} (hc : ∀ j, j < vs.length -> cs[off + j]? = vs[j]?) (ho : off + vs.length <= cs.length) (hk : k < vs.length) : cs.set (off + k) v = splice cs off (vs.set k v) := by
 refine ext_getElem? fun j => ?_
 rw [YcY (by rw [length_set]; exact ho), length_set, getElem?_set]
 by_cases h1 : off + k = j
 ·subst h1
  rw [if_pos rfl, if_pos (by omega), if_pos (by omega), Nat.add_sub_cancel_left, getElem?_set_self hk]
 ·rw [if_neg h1]
  by_cases h2 : off <= j /\ j < off + vs.length
  ·rw [if_pos h2, getElem?_set_ne (by omega), <- hc _ (by omega)]
   congr 1; omega
  ·rw [if_neg h2]
theorem splice_same {cs vs : List Value} {off : Nat} (hc : ∀ j, j < vs.length -> cs[off + j]? = vs[j]?) (ho : off + vs.length <= cs.length) : splice cs off vs = cs := by
 refine ext_getElem? fun j => ?_
 rw [YcY ho]
 split
 ·next h => rw [<- hc _ (by omega)]; congr 1; omega
 ·rfl
theorem set_mid {A B : List Value} {x0 x1 x2 v : Value} {n : Nat} (h : A.length = n) : (A ++ (x0 :: x1 :: x2 :: B)).set (n + 2) v = A ++ (x0 :: x1 :: v :: B) := by
 subst h
 rw [set_append_right _ _ (by omega), Nat.add_sub_cancel_left]
 rfl
mutual
/-- A tree's bulk. -/
def Nd.mea : Nd -> Nat
 | .mk _ u l t ats ks => 1 + u.size + l.size + t.size + (ats.map ZxJ).sum + Nd.meaL ks
def Nd.meaL : List Nd -> Nat
 | [] => 0
 | x :: r => x.mea + Nd.meaL r
end
mutual
theorem YgM : ∀ v : NV, v.nd.mea = v.mea
 | .mk k u l t ap al ac ats kp kl kc ks => by
  have := nd_meaL ks
  simp only [NV.nd, Nd.mea, NV.mea, this]
theorem nd_meaL : ∀ ks : List NV, Nd.meaL (NV.ndL ks) = NV.meaL ks
 | [] => rfl
 | x :: r => by
  have := YgM x; have := nd_meaL r
  simp only [NV.ndL, Nd.meaL, NV.meaL, *]
end
theorem Zxy : ∀ a b : List Nd, Nd.meaL (a ++ b) = Nd.meaL a + Nd.meaL b
 | [], b => by simp [Nd.meaL]
 | x :: r, b => by simp only [cons_append, Nd.meaL, Zxy r b]; omega
theorem YgL {ks : List Nd} {i : Nat} {x y : Nd} (h : ks[i]? = some x) : Nd.meaL (ks.set i y) + x.mea = Nd.meaL ks + y.mea := by
  obtain ⟨hi, rfl⟩ := List.getElem?_eq_some_iff.1 h
  have e1 : Nd.meaL (ks.set i y) = Nd.meaL (ks.take i) + (y.mea + Nd.meaL (ks.drop (i + 1))) := by
    rw [List.set_eq_take_append_cons_drop, if_pos hi, Zxy, Nd.meaL]
  have e2 : Nd.meaL ks = Nd.meaL (ks.take i) + (ks[i].mea + Nd.meaL (ks.drop (i + 1))) := by
    conv => lhs; rw [<- List.take_append_drop i ks, List.drop_eq_getElem_cons hi]
    rw [Zxy, Nd.meaL]
  omega
theorem Yet : ∀ {r : List Int} {d x z : Nd}, nodeAt d r = some x -> (setAt d r z).mea + x.mea = d.mea + z.mea
 | [], d, x, z, h => by rw [Option.some.inj h]; show z.mea + _ = _; omega
 | i :: r, .mk k u l t ats ks, x, z, h => by
  rw [YdE] at h
  split at h
  ·cases h
  split at h
  ·next c hc =>
   have ih := Yet (z := z) h
   have h1 := YgL (y := setAt c r z) hc
   rw [YaU hc]
   simp only [Ygf, Nd.kids, Nd.mea] at h1 ⊢
   omega
  ·cases h
theorem YfT (a b : List At) : ((a ++ b).map ZxJ).sum = (a.map ZxJ).sum + (b.map ZxJ).sum := by rw [map_append, sum_append]
theorem YcM (p : At -> Bool) : ∀ l : List At, ((l.filter p).map ZxJ).sum <= (l.map ZxJ).sum
 | [] => Nat.le_refl _
 | x :: r => by
  have := YcM p r
  rw [filter_cons]
  split
  ·simp only [map_cons, sum_cons]; omega
  ·simp only [map_cons, sum_cons]; omega
theorem atSum_put (ats : List At) (n : Pr) (v : ByteArray) : ((Ya0 ats n v).map ZxJ).sum <= (ats.map ZxJ).sum + (1 + n.1.size + n.2.size + v.size) := by
 have h1 := YcM (fun a => decide (nameOf a ≠ n)) ats
 have e := takeWhile_append_dropWhile (p := fun a => nLt (nameOf a) n) (l := Zyl ats n)
 have h2 := congrArg (fun l => (l.map ZxJ).sum) e
 simp only [YfT] at h2
 unfold Ya0
 rw [YfT, map_cons, sum_cons]
 have h3 : ZxJ (newAt n v) = 1 + n.1.size + n.2.size + v.size := rfl
 unfold Zyl at h2 ⊢
 omega
def Ed.mea (e : Ed) : Nat := 1 + e.name.1.size + e.name.2.size + e.text.size + e.node.mea
theorem chgd_mea (x : Nd) (e : Ed) : (chgd x e).2.mea <= x.mea + e.mea := by
 cases x with
 | mk k u l t ats ks =>
  have h1 := atSum_put ats e.name e.text
  have h2 := YcM (fun a => decide (nameOf a ≠ e.name)) ats
  simp only [chgd]
  unfold Ed.mea
  split
  ·split <;> (simp only [Nd.mea]; omega)
  split
  ·simp only [Nd.mea]; omega
  split
  ·simp only [Nd.mea]; unfold Zyl; omega
  ·simp only [Nd.mea]; omega
theorem here_mea (up : Nd) (i : Int) (e : Ed) : (Zqk up i e).2.mea <= up.mea + e.mea := by
 cases up with
 | mk k u l t ats ks =>
  simp only [Zqk]
  have e1 : Nd.meaL ks = Nd.meaL (ks.take i.toNat) + Nd.meaL (ks.drop i.toNat) := by rw [<- Zxy, take_append_drop]
  have e2 : Nd.meaL ks = Nd.meaL (ks.take (i.toNat + 1)) + Nd.meaL (ks.drop (i.toNat + 1)) := by rw [<- Zxy, take_append_drop]
  split
  ·simp only [Nd.mea]; omega
  split
  ·simp only [Nd.mea, Zxy, Nd.meaL]; unfold Ed.mea; omega
  split
  ·have e3 : Nd.meaL (ks.drop (i.toNat + 1)) <= Nd.meaL (ks.drop i.toNat) := by
    have : ks.drop (i.toNat + 1) = (ks.drop i.toNat).drop 1 := by rw [drop_drop]
    rw [this]
    cases ks.drop i.toNat with
    | nil => exact Nat.le_refl _
    | cons x r => simp only [drop_succ_cons, drop_zero, Nd.meaL]; omega
   simp only [Nd.mea, Zxy]; omega
  split
  ·cases hx : ks[i.toNat]? with
   | none => rw [set_eq_of_length_le (getElem?_eq_none_iff.1 hx)]; simp only [Nd.mea]; omega
   | some x =>
    have := YgL (y := e.node) hx
    simp only [Nd.mea]; unfold Ed.mea; omega
  ·split
   ·next x hx =>
    have := YgL (y := (chgd x e).2) hx
    have := chgd_mea x e
    simp only [Nd.mea]; omega
   ·simp only [Nd.mea]; omega
theorem ed_mea {d n : Nd} {p : List Int} {e : Ed} (hp : p ≠ []) (h : edN d p e = (0, n)) : n.mea <= d.mea + e.mea := by
 obtain ⟨r, i, rfl⟩ := Yd1 hp
 cases hup : nodeAt d r with
 | none =>
  have h1 := YeN (e := e) (i := i) hup
  rw [h] at h1; exact absurd (show (0 : Int) = 35 from h1) (by decide)
 | some up =>
  rw [Yd5 hup] at h
  have h2 : setAt d r (Zqk up i e).2 = n := congrArg Prod.snd h
  have h3 := Yet (z := (Zqk up i e).2) hup
  have h4 := here_mea up i e
  rw [<- h2]; omega
theorem asc_attrs {d x : Nd} {r : List Int} (h : Right d) (hx : nodeAt d r = some x) : ascB x.attrs = true := h.order x (YdD hx)
end Go.Vc
namespace Go.Proofs.YtlnfaaghdkngmaaGreatDoor
open Go Go.Vc Go.Lib
section
variable {w w' : World}
theorem Yhg {a : Addr} : ∀ {r : List Int} {a : Addr} {v : NV}, Own w v -> (addrAt a v r).map (fun x => x.2.nd) = nodeAt v.nd r
  | [], a, v, _ => rfl
  | i :: r, a, .mk k u l t ap al ac ats kp kl kc ks, h => by
    cases h with
    | mk ha hk hks =>
    have hkl := hk.sl.row (Zzl ks) (by decide)
    rw [ZzP]
    simp only [addrAt, nodeAt]
    split
    · rfl
    rw [List.getElem?_map]
    cases hx : ks[i.toNat]? with
    | none => rfl
    | some x =>
      have hlt := (List.getElem?_eq_some_iff.1 hx).1
      cases kp with
      | none => have := hk.none0 rfl; omega
      | some c =>
        simp only [Option.map_some]
        exact Yhg (a := a) (hks x (List.mem_of_getElem? hx))
structure Place (w : World) (b : Addr) (y : NV) (cs : List Value) (e : TypeId) : Prop where
 ta : TreeAt w b y
 sp : b.spot = none
 hb : w.heap[b.block]? = some (.cells ⟨cs⟩ e (0, 0))
 ho : b.off + 6 <= cs.length
theorem Place.get {b : Addr} {y : NV} {cs : List Value} {e : TypeId} (P : Place w b y cs e) : ∀ j, j < y.cells.length -> cs[b.off + j]? = y.cells[j]? := by
 intro j hj
 have h1 := P.ta.cs j _ (getElem?_eq_getElem hj)
 obtain ⟨bb, bo, bs⟩ := b
 have := P.sp
 simp only at this
 subst this
 rw [Addr.add_mk, cell_of_row w bb (bo + j) _ e (0, 0) P.hb] at h1
 rw [getElem?_eq_getElem hj]
 simpa using h1
theorem Place.at {e : TypeId} : ∀ {r : List Int} {a b : Addr} {v y : NV} {cs : List Value} {e : TypeId}, Place w a v cs e -> addrAt a v r = some (b, y) -> ∃ cs' e', Place w b y cs' e'
  | [], a, b, v, y, cs, e, P, h => by
    simp only [addrAt, Option.some.injEq, Prod.mk.injEq] at h
    obtain ⟨rfl, rfl⟩ := h
    exact ⟨cs, e, P⟩
  | i :: r, a, b, .mk k u l t ap al ac ats kp kl kc ks, y, cs, e, P, h => by
    simp only [addrAt] at h
    split at h
    · cases h
    split at h
    rotate_left
    · cases h
    rename_i x c hx
    obtain ⟨⟨hTc, hTo, hTn, hTf⟩, hsp, hb, ho⟩ := P
    cases hTo with
    | mk ha hk hks =>
    have hxm := List.mem_of_getElem? hx
    have hkl := hk.sl.row (Zzl ks) (by decide)
    have hil := (List.getElem?_eq_some_iff.1 hx).1
    obtain ⟨kb, rest, e1, hkb, hlc, hcm, hcl⟩ := hk.some0 (show kl ≠ 0 by omega)
    cases e1
    simp only [Nat.zero_add] at h
    have hrl : (rows NV.cells ks).length = ks.length * 6 := Zy9 (Zzl ks)
    have hi6 : i.toNat * 6 + 6 <= ks.length * 6 := by have := Nat.mul_le_mul_right 6 (show i.toNat + 1 <= ks.length from hil); omega
    have ebs : (NV.mk k u l t ap al ac ats (some ⟨kb, 0, none⟩) kl kc ks).bs = Yao ap ++ ([kb] ++ NV.bsL ks) := by simp only [NV.bs, Yao]
    rw [ebs] at hTn
    obtain ⟨hnA, hnR, hdA⟩ := List.nodup_append.1 hTn
    obtain ⟨hnK, hnL, hdK⟩ := List.nodup_append.1 hnR
    have eL := bsL_get hx
    rw [eL] at hnL
    obtain ⟨hn1, hn2, hd1⟩ := List.nodup_append.1 hnL
    obtain ⟨hn3, hn4, hd2⟩ := List.nodup_append.1 hn2
    refine Place.at (e := e) (r := r) (a := ⟨kb, i.toNat * 6, none⟩) ⟨⟨?_, hks x hxm, hn3, fun hI => hdK kb (List.mem_singleton.2 rfl) kb (ZyP hxm hI) rfl⟩, rfl, hkb, by rw [List.length_append, hrl]; simp only; omega⟩ h
    have h2 := ZzS 6 (ZzT (off := i.toNat * 6) hkb)
    intro j z hz
    have hj := (List.getElem?_eq_some_iff.1 hz).1
    rw [Zys] at hj
    refine h2 j z ?_
    rw [List.getElem?_take_of_lt hj, List.getElem?_drop, List.getElem?_append_left (by rw [hrl]; omega), Yfb (Zzl ks) hx hj]
    exact hz
structure Turned (w w' : World) (b : Addr) (y y' : NV) (cs : List Value) (e : TypeId) : Prop where
 hc : Chg (fun z => z = b.block \/ z ∈ y.bs) w w'
 hb : w'.heap[b.block]? = some (.cells ⟨splice cs b.off y'.cells⟩ e (0, 0))
 own : Own w' y'
 nd : y'.bs.Nodup
 bs : ∀ z ∈ y'.bs, z ∈ y.bs \/ w.heap.size <= z
theorem Turned.tree {a b : Addr} {v y y' : NV} {cs : List Value} {e : TypeId} {r : List Int} (h : Turned w w' b y y' cs e) (hP : Place w b y cs e) (hs : a.spot = none) (hT : TreeAt w a v) (hr : addrAt a v r = some (b, y)) :
  ∃ v', TreeAt w' a v' /\ v'.nd = setAt v.nd r y'.nd /\ (∀ z ∈ v'.bs, z ∈ v.bs \/ w.heap.size <= z) :=
 TreeAt.upd h.hc hP.hb h.hb hP.ho h.own h.nd h.bs hs hT hr
theorem Find_ok {a : Addr} {v : NV} {cs : List Value} {e : TypeId} {pp : Option Addr} {pl pc : Nat} {r : List Int} {J : Option Addr -> Bool -> World -> Prop} (hP : Place w a v cs e) (hp : Sl w pp pl 1 (rows YbS r)) (hm : pl <= 100000000)
    (K1 : ∀ b y w', addrAt a v r = some (b, y) -> Chg No w w' -> J (some b) true w') (K2 : ∀ w', addrAt a v r = none -> Chg No w w' -> J none false w') :
    Zz1 Tryz.prog YcD #[.pointer (some a), .slice pp pl pc] w [.one .ptr, .one .bool] J := by
  have hpl : r.length = pl := hp.row (fun _ _ => rfl) (by decide)
  refine c_edit_find ?_
  refine ⟨fun d i w' m => ∃ (q : Nat) (b : Addr) (y : NV), d = some b /\ i = q /\ q <= pl /\ m = pl - q /\ (∃ cs e, Place w b y cs e) /\ addrAt a v r = addrAt b y (r.drop q) /\ Chg No w w', ⟨_, 0, a, v, rfl, rfl, Nat.zero_le _, rfl, ⟨_, _, hP⟩, rfl, Chg.refl _ _⟩, ?_⟩
  rintro d i w1 m ⟨q, b, y, rfl, rfl, hq, rfl, ⟨cs', e', hPb⟩, hat, hc1⟩
  refine Zz6 (fun hlt => ?_) (fun hge => ?_)
  · refine Zzr (f := YbS) (hp.chg hc1 (off_no _)) (fun _ _ => rfl) (by decide) (by omega) hlt fun ad z _ hz hcs => ?_
    have hz' : r[q]? = some z := hz
    have hdz : r.drop q = z :: r.drop (q + 1) := by
      obtain ⟨h1, rfl⟩ := List.getElem?_eq_some_iff.1 hz'
      exact List.drop_eq_getElem_cons h1
    rw [hdz] at hat
    refine ⟨_, Zzo hcs, ?_⟩
    cases y with
    | mk k u l t ap al ac ats kp kl kc ks =>
    obtain ⟨bb, bo, bsp⟩ := b
    have hsp := hPb.sp
    simp only at hsp
    subst hsp
    have hown := hPb.ta.own
    have hcell : w1.cell? ⟨bb, bo + 4, none⟩ = some (.slice kp kl kc) := by
      have := hc1.cells hPb.ta.cs (fun h => h) 4 _ rfl
      rwa [Addr.add_mk] at this
    cases hown with
    | mk ha hk hks =>
    have hkl := hk.sl.row (Zzl ks) (by decide)
    refine Zzb fun J24 hJ24 => ?_
    have k24t : addrAt ⟨bb, bo, none⟩ (.mk k u l t ap al ac ats kp kl kc ks) (z :: r.drop (q + 1)) = none -> J24 true w1 := by
      intro h; subst hJ24
      exact Zz9 (fun _ => K2 w1 (hat.trans h) hc1) (fun h => by cases h)
    have k24f : 0 <= z -> z < kl -> J24 false w1 := by
      intro h0 h1; subst hJ24
      refine Zz9 (fun h => by cases h) (fun _ => ?_)
      simp only [Zyp]
      rw [Addr.add_mk]
      refine ⟨_, _, _, hcell, ?_⟩
      obtain ⟨kb, rest, e1, _⟩ := hk.some0 (show kl ≠ 0 by omega)
      subst e1
      refine YbF h0 h1 ?_
      rw [Addr.add_mk]
      have hget : ks[z.toNat]? = some ks[z.toNat] := List.getElem?_eq_getElem (by omega)
      have had : addrAt ⟨bb, bo, none⟩ (.mk k u l t ap al ac ats (some ⟨kb, 0, none⟩) kl kc ks) [z] = some (⟨kb, 0 + z.toNat * 6, none⟩, ks[z.toNat]) := by
        simp only [addrAt]
        rw [if_neg (by omega), hget]
      refine ⟨_, by omega, q + 1, ⟨kb, 0 + z.toNat * 6, none⟩, ks[z.toNat], rfl, by rw [Zzt] <;> omega, by omega, rfl, Place.at (e := e') hPb had, ?_, hc1⟩
      rw [hat]
      simp only [addrAt]
      rw [if_neg (by omega), hget]
    clear hJ24
    refine Zz6 (fun h => k24t (by simp only [addrAt]; rw [if_pos h])) (fun h => ?_)
    simp only [Zyp]
    rw [Addr.add_mk]
    refine ⟨_, _, _, hcell, ?_⟩
    show J24 (decide (z >= ((kl : Nat) : Int))) w1
    by_cases h1 : z < kl
    · rw [decide_eq_false (by omega)]; exact k24f (by omega) h1
    · rw [decide_eq_true (by omega)]
      refine k24t ?_
      simp only [addrAt]
      rw [if_neg h, List.getElem?_eq_none (by omega)]
  · have hqk : q = pl := by omega
    rw [List.drop_eq_nil_of_le (by omega)] at hat
    exact K1 b y w1 hat hc1
end
end Go.Proofs.YtlnfaaghdkngmaaGreatDoor
namespace Go.Vc
open Go Go.Lib
structure Srch (L : List At) (n : Pr) (i : Nat) (b : Bool) : Prop where
 le : i <= L.length
 lo : ∀ j a, j < i -> L[j]? = some a -> nLt (nameOf a) n = true
 hi : ∀ j a, i <= j -> L[j]? = some a -> nLt (nameOf a) n = false
 f : b = true ↔ ∃ a, L[i]? = some a /\ nameOf a = n
theorem Srch.has {L : List At} {n : Pr} {i : Nat} {b : Bool} (h : Srch L n i b) (hasc : L.Pairwise fun a b => aLt a b = true) : b = Yhf L n := by
  rw [Bool.eq_iff_iff, h.f, has_iff]
  constructor
  · rintro ⟨a, h1, h2⟩; exact ⟨a, List.mem_of_getElem? h1, h2⟩
  · rintro ⟨a, h1, h2⟩
    obtain ⟨j, hj⟩ := List.mem_iff_getElem?.1 h1
    rcases Nat.lt_trichotomy j i with h3 | h3 | h3
    · have := h.lo j a h3 hj
      rw [h2, YdF] at this; cases this
    · subst h3; exact ⟨a, hj, h2⟩
    · have hjl := (List.getElem?_eq_some_iff.1 hj).1
      have h4 := h.hi i L[i] (Nat.le_refl _) (List.getElem?_eq_getElem (by omega))
      have h5 := List.pairwise_iff_getElem.1 hasc i j (by omega) hjl h3
      rw [(List.getElem?_eq_some_iff.1 hj).2] at h5
      unfold aLt at h5
      rw [h2] at h5; rw [h5] at h4; cases h4
theorem mem_tail {L : List At} {i : Nat} {s : At} (h : s ∈ L.drop (i + 1)) (hasc : L.Pairwise fun a b => aLt a b = true) {a : At} (ha : L[i]? = some a) : aLt a s = true := by
  obtain ⟨j, hj⟩ := List.mem_iff_getElem?.1 h
  rw [List.getElem?_drop] at hj
  have h5 := List.pairwise_iff_getElem.1 hasc i (i + 1 + j) (List.getElem?_eq_some_iff.1 ha).1 (List.getElem?_eq_some_iff.1 hj).1 (by omega)
  rw [(List.getElem?_eq_some_iff.1 ha).2, (List.getElem?_eq_some_iff.1 hj).2] at h5
  exact h5
theorem YgB {L : List At} {n : Pr} {i : Nat} {b : Bool} (h : Srch L n i b) {s : At} (hs : s ∈ L.take i) : nLt (nameOf s) n = true := by
 obtain ⟨j, hj⟩ := mem_iff_getElem?.1 hs
 rw [getElem?_take] at hj
 split at hj
 ·next h1 => exact h.lo j s h1 hj
 ·cases hj
theorem ne_of_lt {s : At} {n : Pr} (h : nLt (nameOf s) n = true) : nameOf s ≠ n := fun e => by rw [e, YdF] at h; cases h
theorem drop_gt {L : List At} {n : Pr} {i : Nat} {b : Bool} (h : Srch L n i b) (hno : ¬ ∃ a, L[i]? = some a /\ nameOf a = n) (hasc : L.Pairwise fun a b => aLt a b = true) {s : At} (hs : s ∈ L.drop i) : nLt n (nameOf s) = true := by
  obtain ⟨j, hj⟩ := List.mem_iff_getElem?.1 hs
  rw [List.getElem?_drop] at hj
  have h1 := h.hi (i + j) s (by omega) hj
  rcases nLt_tri (nameOf s) n with h2 | h2 | h2
  · rw [h1] at h2; cases h2
  · by_cases hj0 : j = 0
    · subst hj0; exact absurd ⟨s, hj, h2⟩ hno
    · have hjl := (List.getElem?_eq_some_iff.1 hj).1
      have h3 := h.hi i L[i] (Nat.le_refl _) (List.getElem?_eq_getElem (by omega))
      have h5 := List.pairwise_iff_getElem.1 hasc i (i + j) (by omega) hjl (by omega)
      rw [(List.getElem?_eq_some_iff.1 hj).2] at h5
      unfold aLt at h5
      rw [h2] at h5; rw [h5] at h3; cases h3
  · exact h2
theorem found_set {L : List At} {n : Pr} {i : Nat} {b : Bool} (h : Srch L n i b) (hasc : L.Pairwise fun a b => aLt a b = true) {a : At} (ha : L[i]? = some a) (hn : nameOf a = n) (v : ByteArray) : L.set i (newAt n v) = Ya0 L n v := by
  have hi := (List.getElem?_eq_some_iff.1 ha).1
  have hset : L.set i (newAt n v) = L.take i ++ newAt n v :: L.drop (i + 1) := by rw [List.set_eq_take_append_cons_drop, if_pos hi]
  have eL : L = L.take i ++ a :: L.drop (i + 1) := by
    have := (List.getElem?_eq_some_iff.1 ha).2
    rw [<- this, <- List.drop_eq_getElem_cons hi, List.take_append_drop]
  have hgt : ∀ s ∈ L.drop (i + 1), nLt n (nameOf s) = true := fun s hs => by
    have := mem_tail hs hasc ha
    unfold aLt at this
    rw [hn] at this; exact this
  refine Ygt ?_ (put_asc hasc) fun s => ?_
  · rw [hset]
    have h2 := hasc
    rw [eL] at h2
    obtain ⟨p1, p2, p3⟩ := List.pairwise_append.1 h2
    obtain ⟨p4, p5⟩ := List.pairwise_cons.1 p2
    refine List.pairwise_append.2 ⟨p1, List.pairwise_cons.2 ⟨hgt, p5⟩, fun x hx y hy => ?_⟩
    rcases List.mem_cons.1 hy with rfl | hy
    · exact YgB h hx
    · exact p3 x hx y (List.mem_cons_of_mem _ hy)
  · rw [hset, put_mem, List.mem_append, List.mem_cons]
    constructor
    · rintro (h1 | h1 | h1)
      · exact .inr ⟨List.mem_of_mem_take h1, ne_of_lt (YgB h h1)⟩
      · exact .inl h1
      · exact .inr ⟨List.mem_of_mem_drop h1, fun e => by have := hgt s h1; rw [e, YdF] at this; cases this⟩
    · rintro (h1 | ⟨h1, h2⟩)
      · exact .inr (.inl h1)
      · rw [eL, List.mem_append, List.mem_cons] at h1
        rcases h1 with h1 | h1 | h1
        · exact .inl h1
        · exact absurd (by rw [h1]; exact hn) h2
        · exact .inr (.inr h1)
theorem found_ins {L : List At} {n : Pr} {i : Nat} {b : Bool} (h : Srch L n i b) (hasc : L.Pairwise fun a b => aLt a b = true) (hno : ¬ ∃ a, L[i]? = some a /\ nameOf a = n) (v : ByteArray) : L.take i ++ newAt n v :: L.drop i = Ya0 L n v := by
 refine Ygt ?_ (put_asc hasc) fun s => ?_
 ·have h2 := hasc
  rw [<- take_append_drop i L] at h2
  obtain ⟨p1, p2, p3⟩ := pairwise_append.1 h2
  refine pairwise_append.2 ⟨p1, pairwise_cons.2 ⟨fun y hy => drop_gt h hno hasc hy, p2⟩, fun x hx y hy => ?_⟩
  rcases mem_cons.1 hy with rfl | hy
  ·exact YgB h hx
  ·exact p3 x hx y hy
 ·rw [put_mem, mem_append, mem_cons]
  have hm : s ∈ L ↔ s ∈ L.take i \/ s ∈ L.drop i := by rw [<- mem_append, take_append_drop]
  rw [hm]
  constructor
  ·rintro (h1 | h1 | h1)
   ·exact .inr ⟨.inl h1, ne_of_lt (YgB h h1)⟩
   ·exact .inl h1
   ·exact .inr ⟨.inr h1, fun e => by have := drop_gt h hno hasc h1; rw [e, YdF] at this; cases this⟩
  ·rintro (h1 | ⟨h1 | h1, _⟩)
   ·exact .inr (.inl h1)
   ·exact .inl h1
   ·exact .inr (.inr h1)
theorem found_del {L : List At} {n : Pr} {i : Nat} {b : Bool} (h : Srch L n i b) (hasc : L.Pairwise fun a b => aLt a b = true) {a : At} (ha : L[i]? = some a) (hn : nameOf a = n) : L.take i ++ L.drop (i + 1) = Zyl L n := by
  have hi := (List.getElem?_eq_some_iff.1 ha).1
  have eL : L = L.take i ++ a :: L.drop (i + 1) := by
    have := (List.getElem?_eq_some_iff.1 ha).2
    rw [<- this, <- List.drop_eq_getElem_cons hi, List.take_append_drop]
  have hgt : ∀ s ∈ L.drop (i + 1), nLt n (nameOf s) = true := fun s hs => by
    have := mem_tail hs hasc ha
    unfold aLt at this
    rw [hn] at this; exact this
  refine Ygt ?_ (drop_asc hasc) fun s => ?_
  · have h2 := hasc
    rw [eL] at h2
    obtain ⟨p1, p2, p3⟩ := List.pairwise_append.1 h2
    exact List.pairwise_append.2 ⟨p1, (List.pairwise_cons.1 p2).2, fun x hx y hy => p3 x hx y (List.mem_cons_of_mem _ hy)⟩
  · rw [drop_mem, List.mem_append]
    constructor
    · rintro (h1 | h1)
      · exact ⟨List.mem_of_mem_take h1, ne_of_lt (YgB h h1)⟩
      · exact ⟨List.mem_of_mem_drop h1, fun e => by have := hgt s h1; rw [e, YdF] at this; cases this⟩
    · rintro ⟨h1, h2⟩
      rw [eL, List.mem_append, List.mem_cons] at h1
      rcases h1 with h1 | h1 | h1
      · exact .inl h1
      · exact absurd (by rw [h1]; exact hn) h2
      · exact .inr h1
theorem rows_setcell {L : List At} {i : Nat} {a : At} (ha : L[i]? = some a) (rest : List Value) (v : ByteArray) : (rows atc L ++ rest).set (i * 3 + 2) (.string v) = rows atc (L.set i (newAt (nameOf a) v)) ++ rest := by
  obtain ⟨hi, rfl⟩ := List.getElem?_eq_some_iff.1 ha
  have e1 : rows atc L = rows atc (L.take i) ++ (atc L[i] ++ rows atc (L.drop (i + 1))) := by
    conv => lhs; rw [<- List.take_append_drop i L, List.drop_eq_getElem_cons hi]
    rw [ZzL, Zyy]
  have e2 : rows atc (L.set i (newAt (nameOf L[i]) v)) = rows atc (L.take i) ++ (atc (newAt (nameOf L[i]) v) ++ rows atc (L.drop (i + 1))) := by
    rw [List.set_eq_take_append_cons_drop, if_pos hi, ZzL, Zyy]
  have hl : (rows atc (L.take i)).length = i * 3 := by rw [Zy9 (Zx8 _), List.length_take, Nat.min_eq_left (by omega)]
  rw [e1, e2]
  simp only [List.append_assoc]
  exact set_mid (x0 := .string L[i].1) (x1 := .string L[i].2.1) (x2 := .string L[i].2.2) (v := .string v) (B := rows atc (L.drop (i + 1)) ++ rest) hl
theorem chgd_at {k : Int} {u l t : ByteArray} {ats : List At} {ks : List Nd} {e : Ed} (h6 : e.op ≠ 6) : chgd (.mk k u l t ats ks) e = if k ≠ 2 then (33, .mk k u l t ats ks) else if e.op = 5 then (if Yhf ats e.name = true then 0 else 7, .mk k u l t (Zyl ats e.name) ks) else (0, .mk k u l t (Ya0 ats e.name e.text) ks) := by
 simp only [chgd]; rw [if_neg h6]
end Go.Vc
namespace Go.Proofs.YtlnfaaghdkngmaaGreatDoor
open Go Go.Vc Go.Lib
section
variable {w : World}
def AttrPost (w : World) (b : Addr) (y : NV) (cs : List Value) (t : TypeId) (e : EV) (J : Int -> World -> Prop) : Prop :=
 (∀ w', (chgd y.nd e.ed).1 ≠ 0 -> Chg (fun z => z = b.block \/ z ∈ y.bs) w w' -> J (chgd y.nd e.ed).1 w') /\ (∀ w' y', (chgd y.nd e.ed).1 = 0 -> Turned w w' b y y' cs t -> y'.nd = (chgd y.nd e.ed).2 -> J 0 w')
theorem Attr_ok {b : Addr} {y : NV} {cs : List Value} {t : TypeId} {e : EV} {J : Int -> World -> Prop} (hP : Place w b y cs t) (hop : e.op = 4 \/ e.op = 5) (hym : y.mea <= 100000000) (hasc : ascB y.nd.attrs = true) (K : AttrPost w b y cs t e J) :
    Zz1 Tryz.prog YcE #[.pointer (some b), .agg ⟨e.cells⟩] w [.one (.int .i64)] J := by
  obtain ⟨eop, ep, el, ec, epa, eu, en, et, end_⟩ := e
  cases end_ with
  | mk nk nu nl nt nap nal nac nas nkp nkl nkc nks =>
  obtain ⟨K1, K2⟩ := K
  have hown := hP.ta.own
  have hbs := hP.ta.nd
  have hoff := hP.ta.off
  have hown0 := hown
  have hget := hP.get
  have hlt9 := hown.lt
  obtain ⟨bb, bo, bsp⟩ := b
  have hsp := hP.sp
  simp only at hsp
  subst hsp
  have hbk : w.heap[bb]? = some (.cells ⟨cs⟩ t (0, 0)) := hP.hb
  have hbo : bo + 6 <= cs.length := hP.ho
  have hbblt := Zy7 hbk
  cases y with
  | mk k u l tx ap al ac ats kp kl kc ks =>
  cases hown with
  | mk ha hk hks =>
  have hal := ha.sl.row (Zx8 ats) (by decide)
  have hla := Zqg ats
  have hmm : al <= 100000000 := by simp only [NV.mea] at hym; omega
  have hasc' : ats.Pairwise fun a b => aLt a b = true := asc_pair (by rw [ZzP] at hasc; exact hasc)
  rw [ZzP] at K1 K2
  simp only at hop
  obtain ⟨E, hE, hE1, hE2, hE3⟩ : ∃ E, EV.ed ⟨eop, ep, el, ec, epa, eu, en, et, .mk nk nu nl nt nap nal nac nas nkp nkl nkc nks⟩ = E /\ E.op = eop /\ E.name = (eu, en) /\ E.text = et := ⟨_, rfl, rfl, rfl, rfl⟩
  rw [hE, chgd_at (by omega), hE2, hE3] at K1
  rw [hE, chgd_at (by omega), hE2, hE3] at K2
  have ebs : (NV.mk k u l tx ap al ac ats kp kl kc ks).bs = Yao ap ++ (Yao kp ++ NV.bsL ks) := by simp only [NV.bs]
  refine c_edit_attr_n0 ?_
  refine (Hp.start w (fun z => z = bb \/ z ∈ (NV.mk k u l tx ap al ac ats kp kl kc ks).bs)).newB fun b3 w1 H1 hb3 hc1 => ?_
  have cell : ∀ {wx : World} {j : Nat} {v : Value}, Chg No w wx -> (NV.mk k u l tx ap al ac ats kp kl kc ks).cells[j]? = some v -> wx.cell? ⟨bb, bo + j, none⟩ = some v := fun hc hv => by
    have := hc.cells hP.ta.cs (fun h => h) _ _ hv
    rwa [Addr.add_mk] at this
  refine Zyz (cell (j := 0) hc1 rfl) ?_
  refine Zzw (fun hk2 => ?_) (fun hk2 => ?_)
  · rw [if_pos hk2] at K1
    exact K1 w1 (show (33 : Int) ≠ 0 by decide) H1.chg
  rw [if_neg (fun h => h hk2)] at K1
  rw [if_neg (fun h => h hk2)] at K2
  have H1d := H1.drew
  have c1d : Chg No w w1.drew := hc1.drew
  simp only [Addr.add_mk]
  refine ⟨_, _, _, cell (j := 3) c1d rfl, ?_⟩
  refine H1d.ldStr 0 rfl (off := 2) rfl ?_
  refine H1d.ldStr 0 rfl (off := 3) rfl ?_
  refine Search_ok (n := (eu, en)) (ha.sl.chg c1d (off_no _)) hmm hasc' fun i found w2 hi hlo hhi hf hc2 => ?_
  have H2 := H1d.step0 hc2
  have c2 := c1d.trans0 hc2
  have F : Srch ats (eu, en) i found := ⟨by omega, hlo, hhi, hf⟩
  have hhas := F.has hasc'
  have hs1 := hc1.size
  have hs2 : w.heap.size <= w2.heap.size := c2.size
  have b3lt := H2.lt 0 rfl
  refine Zzb fun J0 hJ0 => ?_
  subst hJ0
  refine Zzb fun J22 hJ22 => ?_
  -- the node's own cells
  have hN : ∀ {wx : World}, Chg No w wx -> wx.heap[bb]? = some (.cells ⟨cs⟩ t (0, 0)) := fun hc => hc.heap hbk (fun h => h)
  have hroom : bo + (NV.mk k u l tx ap al ac ats kp kl kc ks).cells.length <= cs.length := hbo
  obtain ⟨hnA, hnR, hdA⟩ := List.nodup_append.1 (ebs ▸ hbs)
  have hoff' : ¬ bb ∈ Yao ap ++ (Yao kp ++ NV.bsL ks) := ebs ▸ hoff
  have hkidblk : ∀ z ∈ Yao kp ++ NV.bsL ks, ¬ z ∈ Yao ap := fun z hz hz2 => hdA z hz2 z hz rfl
  -- set where there is one
  have k22t : eop = 4 -> found = true -> J22 true w2 := by
    intro h4 hft; subst hJ22
    refine Zz9 (fun _ => ?_) (fun h => by cases h)
    obtain ⟨a, hai, han⟩ := F.f.1 hft
    have hil := (List.getElem?_eq_some_iff.1 hai).1
    have H2d := H2.drew
    have c2d := c2.drew
    refine ⟨_, _, _, cell (j := 3) c2d rfl, ?_⟩
    refine H2d.ldStr 0 rfl (off := 4) rfl ?_
    obtain ⟨ab, rest, rfl, hab, _, hacm, hacl⟩ := ha.some0 (show al ≠ 0 by omega)
    refine YbF (by omega) (by omega) ?_
    rw [Addr.add_mk, Addr.add_mk, Int.toNat_natCast, Nat.zero_add]
    have hab2 := c2d.heap hab (fun h => h)
    have hbab : bb ≠ ab := fun e => hoff' (by rw [e]; exact List.mem_append_left _ (List.mem_singleton.2 rfl))
    have hrl : (rows atc ats ++ rest).length = ac * 3 := hacl
    have hac : al * 3 <= ac * 3 := Nat.mul_le_mul_right _ ha.le.1
    have hi3 : i * 3 + 3 <= al * 3 := by have := Nat.mul_le_mul_right 3 (show i + 1 <= al by omega); omega
    refine ((Hp.start w2.drew (fun x => x = ab)).add hab2 (by simp) (fun _ => rfl)).stV 0 rfl (off := i * 3 + 2) (by omega) fun w5 H5 hc5 => ?_
    simp only [List.set_cons_zero] at H5
    have hg5 := H5.get 0 rfl
    rw [rows_setcell hai, han, found_set F hasc' hai han] at hg5
    have hput : (Ya0 ats (eu, en) et).length = al := by rw [<- found_set F hasc' hai han et, List.length_set]; exact hal
    have hc05 : Chg (fun z => z = ab) w w5 := (c2d.mono fun _ _ h => h.elim).trans hc5 fun _ _ h => h
    refine K2 w5 (.mk k u l tx (some ⟨ab, 0, none⟩) al ac (Ya0 ats (eu, en) et) kp kl kc ks) ?_ ⟨?_, ?_, ?_, ?_, ?_⟩ ?_
    · rw [if_neg (show ¬ E.op = 5 by omega)]
    · exact hc05.mono fun z _ hz => .inr (by rw [ebs, hz]; exact List.mem_append_left _ (List.mem_singleton.2 rfl))
    · have h1 : w5.heap[bb]? = some (.cells ⟨cs⟩ t (0, 0)) := hc05.heap hbk hbab
      rw [show splice cs bo (NV.mk k u l tx (some ⟨ab, 0, none⟩) al ac (Ya0 ats (eu, en) et) kp kl kc ks).cells = cs from splice_same hget hroom]
      exact h1
    · refine .mk ?_ (hk.chg hc05 fun a e h => ?_) fun x hx => (hks x hx).chg hc05 fun z hz h => ?_
      · refine Row.mk0 (rest := rest) hg5 (by rw [Zy9 (Zx8 _), hput]) ha.le.1 hacm ?_
        rw [List.length_append, Zy9 (Zx8 _), hput]
        rw [List.length_append, Zy9 (Zx8 _), hal] at hrl; exact hrl
      · subst e; exact hkidblk ab (List.mem_append_left _ (by rw [<- h]; exact List.mem_singleton.2 rfl)) (List.mem_singleton.2 rfl)
      · exact hkidblk z (List.mem_append_right _ (ZyP hx hz)) (by rw [h]; exact List.mem_singleton.2 rfl)
    · exact hbs
    · intro z hz; exact .inl hz
    · rw [ZzP, if_neg (show ¬ E.op = 5 by omega)]
  -- set where there is none, drop, or nothing to drop
  have k22f : (eop = 4 -> found = false) -> J22 false w2 := by
    intro h4f; subst hJ22
    refine Zz9 (fun h => by cases h) (fun _ => ?_)
    refine H2.ldI 0 rfl (off := 0) rfl ?_
    -- the list's new head, written
    have fin : ∀ (L' : List At) (p' : Option Addr) (l' c' : Nat) (w7 : World) (J' : World -> Prop), Row w7 Zzu 3 p' l' c' (rows atc L') -> Chg (isB ap) w w7 -> (p' = ap \/ fresh w p') -> (NV.mk k u l tx p' l' c' L' kp kl kc ks).nd = (NV.mk k u l tx ap al ac L' kp kl kc ks).nd -> (∀ w8, Turned w w8 ⟨bb, bo, none⟩ (.mk k u l tx ap al ac ats kp kl kc ks) (.mk k u l tx p' l' c' L' kp kl kc ks) cs t -> J' w8) ->
        stV w7 ⟨bb, bo + 3, none⟩ (.slice p' l' c') J' := by
      intro L' p' l' c' w7 J' hr7 hc7 hf7 _ kk
      have hbap : ∀ a, ap = some a -> a.block ≠ bb := fun a e h => hoff' (by subst e; rw [<- h]; exact List.mem_append_left _ (List.mem_singleton.2 rfl))
      have hb7 := hc7.heap hbk (by rintro ⟨a, e, h⟩; exact hbap a e h)
      refine ((Hp.start w7 (fun x => x = bb)).add hb7 (by simp) (fun _ => rfl)).stV 0 rfl (off := bo + 3) (by omega) fun w8 H8 hc8 => ?_
      simp only [List.set_cons_zero] at H8
      have hg8 := H8.get 0 rfl
      rw [Yf9 (vs := (NV.mk k u l tx ap al ac ats kp kl kc ks).cells) hget hroom (by show 3 < 6; decide)] at hg8
      have hapL : ∀ z, isB ap z -> z ∈ Yao ap := by rintro z ⟨a, e, h⟩; subst e; rw [<- h]; exact List.mem_singleton.2 rfl
      have hc08 : Chg (fun z => z = bb \/ isB ap z) w w8 := (hc7.mono fun z _ h => .inr h).trans hc8 fun z _ h => .inl h
      have hp'b : ∀ a, p' = some a -> a.block ≠ bb := fun a e h => by
        rcases hf7 with rfl | hf7
        · exact hbap a e h
        · have := hf7 a e; omega
      refine kk w8 ⟨?_, hg8, ?_, ?_, ?_⟩
      · exact hc08.mono fun z _ h => h.imp id fun h => by rw [ebs]; exact List.mem_append_left _ (hapL z h)
      · refine .mk (hr7.chg hc8 fun a e h => hp'b a e h) (hk.chg hc08 fun a e h => ?_) fun x hx => (hks x hx).chg hc08 fun z hz h => ?_
        · subst e
          rcases h with h | h
          · exact hoff' (List.mem_append_right _ (List.mem_append_left _ (by rw [<- h]; exact List.mem_singleton.2 rfl)))
          · exact hkidblk _ (List.mem_append_left _ (List.mem_singleton.2 rfl)) (hapL _ h)
        · rcases h with h | h
          · exact hoff' (List.mem_append_right _ (List.mem_append_right _ (by rw [<- h]; exact ZyP hx hz)))
          · exact hkidblk z (List.mem_append_right _ (ZyP hx hz)) (hapL z h)
      · have e9 : (NV.mk k u l tx p' l' c' L' kp kl kc ks).bs = Yao p' ++ (Yao kp ++ NV.bsL ks) := by simp only [NV.bs]
        rw [e9]
        rcases hf7 with rfl | hf7
        · exact ebs ▸ hbs
        · refine List.nodup_append.2 ⟨by cases p' <;> simp [Yao], hnR, fun a h1 b h2 e => ?_⟩
          subst e
          cases p' with
          | none => simp [Yao] at h1
          | some a' =>
            rw [List.mem_singleton.1 h1] at h2
            have := hf7 a' rfl
            have := hlt9 a'.block (by rw [ebs]; exact List.mem_append_right _ h2)
            omega
      · have e9 : (NV.mk k u l tx p' l' c' L' kp kl kc ks).bs = Yao p' ++ (Yao kp ++ NV.bsL ks) := by simp only [NV.bs]
        rw [e9, ebs]
        intro z hz
        rcases List.mem_append.1 hz with hz | hz
        · rcases hf7 with rfl | hf7
          · exact .inl (List.mem_append_left _ hz)
          · right
            cases p' with
            | none => simp [Yao] at hz
            | some a' => rw [List.mem_singleton.1 hz]; exact hf7 a' rfl
        · exact .inl (List.mem_append_right _ hz)
    refine Zzi (fun h4 => ?_) (fun h4 => ?_)
    · replace h4 : eop = 4 := h4
      have hno : ¬ ∃ a, ats[i]? = some a /\ nameOf a = (eu, en) := fun h => by have := F.f.2 h; rw [h4f h4] at this; cases this
      have H2d := H2.drew
      have c2d := c2.drew
      refine ⟨_, _, _, cell (j := 3) c2d rfl, ?_⟩
      refine H2d.ldStr 0 rfl (off := 2) rfl ?_
      refine H2d.ldStr 0 rfl (off := 3) rfl ?_
      refine H2d.ldStr 0 rfl (off := 4) rfl ?_
      refine ⟨rfl, rfl, ?_⟩
      refine H2d.newB (cs := atc (newAt (eu, en) et)) fun b53 w6 H6 hb53 hc6 => ?_
      have c6 := c2d.trans0 hc6
      have s2d : w2.drew.heap.size = w2.heap.size := rfl
      refine ⟨cell (j := 3) c6 rfl, ?_⟩
      refine InsAttr_ok (x := newAt (eu, en) et) (ha.chg c6 (off_no _)) (H6.get 0 rfl) (fun a e h => by have := ha.lt a e; omega) hi hmm fun p' c' w7 hr7 hc7 hf7 => ?_
      refine fin (Ya0 ats (eu, en) et) p' (al + 1) c' w7 _ ?_ (c6.mono (fun _ _ h => h.elim) |>.trans hc7 fun _ _ h => h) (hf7.imp id fun h a e => by have := h a e; have := c6.size; omega) (by rw [ZzP, ZzP]) fun w8 hT => K2 w8 _ ?_ hT ?_
      · rw [found_ins F hasc' hno] at hr7; exact hr7
      · rw [if_neg (show ¬ E.op = 5 by omega)]
      · rw [ZzP, if_neg (show ¬ E.op = 5 by omega)]
    · replace h4 : ¬ eop = 4 := h4
      have h5 : eop = 5 := by omega
      rw [if_pos (hE1.trans h5)] at K1
      rw [if_pos (hE1.trans h5)] at K2
      refine Zz9 (fun hft => ?_) (fun hff => ?_)
      · obtain ⟨a, hai, han⟩ := F.f.1 hft
        have hil := (List.getElem?_eq_some_iff.1 hai).1
        refine ⟨_, _, _, cell (j := 3) c2 rfl, ?_⟩
        rw [show w64 ((i : Int) + 1) = ((i + 1 : Nat) : Int) from by rw [Zzt] <;> omega]
        refine DelAttr_ok (ha.chg c2 (off_no _)) (by omega) hmm fun w9 hr9 hc9 => ?_
        refine fin (Zyl ats (eu, en)) ap (al - 1) ac w9 _ ?_ ((c2.mono fun _ _ h => h.elim).trans hc9 fun _ _ h => h) (.inl rfl) (by rw [ZzP, ZzP]) fun w10 hT => K2 w10 _ ?_ hT ?_
        · rw [found_del F hasc' hai han] at hr9; exact hr9
        · rw [<- hhas, hft]; rfl
        · rw [ZzP]
      · rw [<- hhas, hff] at K1
        exact K1 w2 (show (7 : Int) ≠ 0 by decide) (c2.mono fun _ _ h => h.elim)
  clear hJ22
  refine H2.ldI 0 rfl (off := 0) rfl ?_
  refine Zzi (fun h4 => ?_) (fun h4 => k22f fun h => absurd h h4)
  cases found with
  | true => exact k22t h4 rfl
  | false => exact k22f fun _ => rfl
end
end Go.Proofs.YtlnfaaghdkngmaaGreatDoor
namespace Go.Vc
open Go Go.Lib
def doN (v : Nd) (e : Ed) : Int × Nd := if e.op < 1 \/ 6 < e.op then (1, v) else if e.pa = [] then (35, v) else edN v e.pa e
theorem YeQ {s : List Int} : ∀ {r : List Int} {a b : Addr} {v y : NV}, addrAt a v r = some (b, y) -> addrAt a v (r ++ s) = addrAt b y s
 | [], a, b, v, y, h => by
  simp only [addrAt, Option.some.injEq, Prod.mk.injEq] at h
  obtain ⟨rfl, rfl⟩ := h; rfl
 | i :: r, a, b, .mk k u l t ap al ac ats kp kl kc ks, y, h => by
  simp only [addrAt] at h
  simp only [cons_append, addrAt]
  split at h
  ·cases h
  next hi =>
  rw [if_neg hi]
  split at h
  ·exact YeQ h
  ·cases h
end Go.Vc
namespace Go.Proofs.YtlnfaaghdkngmaaGreatDoor
open Go Go.Vc Go.Lib
section
variable {w w' w0 : World}
theorem Own.chg0 {v : NV} (h : Own w v) (hc : Chg No w w') : Own w' v := h.chg hc fun _ _ h => h
theorem Place.chg0 {b : Addr} {y : NV} {cs : List Value} {e : TypeId} (P : Place w b y cs e) (hc : Chg No w w') : Place w' b y cs e :=
 ⟨⟨hc.cells P.ta.cs (fun h => h), P.ta.own.chg0 hc, P.ta.nd, P.ta.off⟩, P.sp, hc.heap P.hb (fun h => h), P.ho⟩
theorem Turned.from0 {b : Addr} {y y' : NV} {cs : List Value} {e : TypeId} (h : Turned w0 w' b y y' cs e) (hc : Chg No w w0) : Turned w w' b y y' cs e :=
 ⟨(hc.mono fun _ _ h => h.elim).trans h.hc fun _ _ h => h, h.hb, h.own, h.nd, fun z hz => (h.bs z hz).imp id fun h => Nat.le_trans hc.size h⟩
theorem headK {bb bo : Nat} {k : Int} {u l tx : ByteArray} {ap : Option Addr} {al ac : Nat} {ats : List At} {kp : Option Addr} {kl kc : Nat} {ks : List NV} {cs : List Value} {t : TypeId} (hP : Place w ⟨bb, bo, none⟩ (.mk k u l tx ap al ac ats kp kl kc ks) cs t)
  {L' : List NV} {p' : Option Addr} {l' c' : Nat} {w7 : World} {J' : World -> Prop} (hr7 : Row w7 Zz3 6 p' l' c' (rows NV.cells L')) (hc7 : Chg (isB kp) w w7) (hf7 : p' = kp \/ fresh w p') (ho7 : ∀ x ∈ L', Own w7 x) (hn7 : (NV.bsL L').Nodup) (hb7 : ∀ z ∈ NV.bsL L', z ∈ NV.bsL ks \/ w.heap.size <= z) (hd7 : ∀ z ∈ NV.bsL L', ¬ isB p' z)
  (kk : ∀ w8, Turned w w8 ⟨bb, bo, none⟩ (.mk k u l tx ap al ac ats kp kl kc ks) (.mk k u l tx ap al ac ats p' l' c' L') cs t -> J' w8) :
  stV w7 ⟨bb, bo + 4, none⟩ (.slice p' l' c') J' := by
 have hget := hP.get
 have hbk : w.heap[bb]? = some (.cells ⟨cs⟩ t (0, 0)) := hP.hb
 have hbo : bo + 6 <= cs.length := hP.ho
 have hroom : bo + (NV.mk k u l tx ap al ac ats kp kl kc ks).cells.length <= cs.length := hbo
 have hoff := hP.ta.off
 have hbs := hP.ta.nd
 have hlt9 := hP.ta.own.lt
 have hbblt := Zy7 hbk
 have ebs : (NV.mk k u l tx ap al ac ats kp kl kc ks).bs = Yao ap ++ (Yao kp ++ NV.bsL ks) := by simp only [NV.bs]
 rw [ebs] at hoff hbs hlt9
 obtain ⟨hnA, hnR, hdA⟩ := nodup_append.1 hbs
 obtain ⟨hnK, hnL, hdK⟩ := nodup_append.1 hnR
 have hkL : ∀ z, isB kp z -> z ∈ Yao kp := by rintro z ⟨a, e, h⟩; subst e; rw [<- h]; exact mem_singleton.2 rfl
 have hnb : ∀ z, isB kp z -> z ≠ bb := fun z hz e => hoff (mem_append_right _ (mem_append_left _ (e ▸ hkL z hz)))
 have hown := hP.ta.own
 cases hown with
 | mk ha hk hks =>
 have hb7' := hc7.heap hbk (fun h => hnb bb h rfl)
 refine ((Hp.start w7 (fun x => x = bb)).add hb7' (by simp) (fun _ => rfl)).stV 0 rfl (off := bo + 4) (by omega) fun w8 H8 hc8 => ?_
 simp only [set_cons_zero] at H8
 have hg8 := H8.get 0 rfl
 rw [Yf9 (vs := (NV.mk k u l tx ap al ac ats kp kl kc ks).cells) hget hroom (by show 4 < 6; decide)] at hg8
 have hc08 : Chg (fun z => z = bb \/ isB kp z) w w8 := (hc7.mono fun z _ h => .inr h).trans hc8 fun z _ h => .inl h
 have hp'b : ∀ a, p' = some a -> a.block ≠ bb := fun a e h => by
  rcases hf7 with rfl | hf7
  ·exact hnb _ ⟨a, e, rfl⟩ h
  ·have := hf7 a e; omega
 have hzb : ∀ z ∈ NV.bsL L', z ≠ bb := fun z hz e => by
  rcases hb7 z hz with h | h
  ·exact hoff (mem_append_right _ (mem_append_right _ (e ▸ h)))
  ·omega
 have e9 : (NV.mk k u l tx ap al ac ats p' l' c' L').bs = Yao ap ++ (Yao p' ++ NV.bsL L') := by simp only [NV.bs]
 have hp'1 : ∀ z ∈ Yao p', isB p' z := fun z hz => by
  cases p' with
  | none => simp [Yao] at hz
  | some a => exact ⟨a, rfl, (mem_singleton.1 hz).symm⟩
 have hp'2 : ∀ z ∈ Yao p', z ∈ Yao kp \/ w.heap.size <= z := fun z hz => by
  rcases hf7 with rfl | hf7
  ·exact .inl hz
  ·obtain ⟨a, e, h⟩ := hp'1 z hz
   rw [<- h]; exact .inr (hf7 a e)
 refine kk w8 ⟨?_, hg8, ?_, ?_, ?_⟩
 ·exact hc08.mono fun z _ h => h.imp id fun h => by rw [ebs]; exact mem_append_right _ (mem_append_left _ (hkL z h))
 ·refine .mk (ha.chg hc08 fun a e h => ?_) (hr7.chg hc8 fun a e h => hp'b a e h) fun x hx => (ho7 x hx).chg hc8 fun z hz h => hzb z (ZyP hx hz) h
  subst e
  rcases h with h | h
  ·exact hoff (mem_append_left _ (by rw [<- h]; exact mem_singleton.2 rfl))
  ·exact hdA a.block (mem_singleton.2 rfl) _ (mem_append_left _ (hkL _ h)) rfl
 ·rw [e9]
  refine nodup_append.2 ⟨hnA, nodup_append.2 ⟨by cases p' <;> simp [Yao], hn7, fun a h1 b h2 e => ?_⟩, fun a h1 b h2 e => ?_⟩
  ·subst e; exact hd7 a h2 (hp'1 a h1)
  ·subst e
   have hlta := hlt9 a (mem_append_left _ h1)
   rcases mem_append.1 h2 with h2 | h2
   ·rcases hp'2 a h2 with h | h
    ·exact hdA a h1 a (mem_append_left _ h) rfl
    ·omega
   ·rcases hb7 a h2 with h | h
    ·exact hdA a h1 a (mem_append_right _ h) rfl
    ·omega
 ·rw [e9, ebs]
  intro z hz
  rcases mem_append.1 hz with hz | hz
  ·exact .inl (mem_append_left _ hz)
  rcases mem_append.1 hz with hz | hz
  ·exact (hp'2 z hz).imp (fun h => mem_append_right _ (mem_append_left _ h)) id
  ·exact (hb7 z hz).imp (fun h => mem_append_right _ (mem_append_right _ h)) id
theorem Do_ok {ab : Nat} {v : NV} {cs : List Value} {t : TypeId} {e : EV} {J : Int -> World -> Prop} (hP : Place w ⟨ab, 0, none⟩ v cs t) (he : EV.Ok w e) (hR : Right v.nd) (hm : v.mea + e.mea <= 10000000)
  (K1 : ∀ w', (doN v.nd e.ed).1 ≠ 0 -> Chg (fun z => z = ab \/ z ∈ v.bs) w w' -> J (doN v.nd e.ed).1 w')
  (K2 : ∀ w' v', (doN v.nd e.ed).1 = 0 -> TreeAt w' ⟨ab, 0, none⟩ v' -> v'.nd = (doN v.nd e.ed).2 -> (∀ z ∈ v'.bs, z ∈ v.bs \/ w.heap.size <= z) -> Chg (fun z => z = ab \/ z ∈ v.bs) w w' -> J 0 w') :
  Zz1 Tryz.prog Yfl #[.pointer (some ⟨ab, 0, none⟩), .agg ⟨e.cells⟩] w [.one (.int .i64)] J := by
 obtain ⟨eop, ep, el, ec, epa, eu, en, et, nv⟩ := e
 have hnode := he.nd
 have hpath : Sl w ep el 1 (rows YbS epa) := he.sl
 have hcap : el <= ec := he.cap
 have hpl : epa.length = el := hpath.row (fun _ _ => rfl) (by decide)
 obtain ⟨E, hE, hE1, hE2, hE3, hE4, hE5⟩ : ∃ E, EV.ed ⟨eop, ep, el, ec, epa, eu, en, et, nv⟩ = E /\ E.op = eop /\ E.pa = epa /\ E.name = (eu, en) /\ E.text = et /\ E.node = nv.nd := ⟨_, rfl, rfl, rfl, rfl, rfl, rfl⟩
 rw [hE] at K1 K2
 unfold EV.mea at hm
 simp only at hm hnode
 have he0 := he
 cases nv with
 | mk nk nu nl nt nap nal nac nas nkp nkl nkc nks =>
 unfold doN at K1 K2
 refine c_edit_do ?_
 refine Zx6 (Hp.start w No) fun b3 w1 H1 hb3 hc1 => ?_
 simp only [EV.cells] at H1
 have hel : el <= 10000000 := by omega
 replace hcap : el <= ec := hcap
 refine Zzb fun J9 hJ9 => ?_
 have k9t : (eop < 1 \/ 6 < eop) -> J9 true w1 := by
  intro hb; subst hJ9
  refine Zz9 (fun _ => ?_) (fun h => by cases h)
  rw [if_pos (show E.op < 1 \/ 6 < E.op by omega)] at K1
  exact K1 w1 (show (1 : Int) ≠ 0 by decide) (hc1.mono fun _ _ h => h.elim)
 have k9f : 1 <= eop -> eop <= 6 -> J9 false w1 := by
  intro ho1 ho6; subst hJ9
  rw [if_neg (show ¬ (E.op < 1 \/ 6 < E.op) by omega)] at K1
  rw [if_neg (show ¬ (E.op < 1 \/ 6 < E.op) by omega)] at K2
  refine Zz9 (fun h => by cases h) (fun _ => ?_)
  refine H1.ldS 0 rfl (off := 1) rfl ?_
  refine Zzi (fun h0 => ?_) (fun h0 => ?_)
  ·replace h0 : (el : Int) = 0 := h0
   have : epa = [] := eq_nil_of_length_eq_zero (by omega)
   rw [if_pos (hE2.trans this)] at K1
   exact K1 w1 (show (35 : Int) ≠ 0 by decide) (hc1.mono fun _ _ h => h.elim)
  have hne : epa ≠ [] := fun h => h0 (by rw [<- hpl, h]; rfl)
  rw [if_neg (show ¬ E.pa = [] by rw [hE2]; exact hne), hE2] at K1
  rw [if_neg (show ¬ E.pa = [] by rw [hE2]; exact hne), hE2] at K2
  obtain ⟨r, i, hri⟩ := Yd1 hne
  have hrl : r.length + 1 = el := by rw [<- hpl, hri]; simp
  rw [hri] at K1 K2
  refine H1.ldS 0 rfl (off := 1) rfl ?_
  refine H1.ldS 0 rfl (off := 1) rfl ?_
  have e1 : w64 ((el : Int) - 1) = ((el - 1 : Nat) : Int) := by rw [Zzt] <;> omega
  rw [e1]
  have hp1 := hpath.chg hc1 (off_no _)
  refine Zzr (f := YbS) hp1 (fun _ _ => rfl) (by decide) (by omega) (by omega) fun ad z _ hz hcs => ?_
  rw [Int.toNat_natCast, hri, getElem?_append_right (by omega), show el - 1 - r.length = 0 by omega] at hz
  obtain rfl : i = z := Option.some.inj hz
  refine ⟨_, Zzo hcs, ?_⟩
  refine H1.ldS 0 rfl (off := 1) rfl ?_
  refine H1.ldS 0 rfl (off := 1) rfl ?_
  refine slS_sl (i := 0) (j := el - 1) hp1 rfl e1 (Nat.zero_le _) (by omega) hcap fun q39 h39 _ => ?_
  have e39 : ((rows YbS epa).drop (0 * 1)).take ((el - 1 - 0) * 1) = rows YbS r := by
   rw [Nat.zero_mul, drop_zero, Nat.sub_zero, YaW (fun _ _ => rfl : ∀ x ∈ epa, (YbS x).length = 1), hri, take_left' (by omega)]
  rw [e39] at h39
  refine Find_ok (hP.chg0 hc1) h39 (by omega) (fun b y w3 hat hc3 => ?_) (fun w3 hat hc3 => ?_)
  rotate_left
  ·refine Zzb fun J71 hJ71 => ?_
   refine Zz9 (fun _ => ?_) (fun h => by cases h)
   subst hJ71
   refine Zz9 (fun _ => ?_) (fun h => by cases h)
   have hno := @Yhg w ⟨ab, 0, none⟩ r ⟨ab, 0, none⟩ v hP.ta.own
   rw [hat] at hno
   have h35 := YeN (e := E) (i := i) (show nodeAt v.nd r = none from hno.symm)
   have := K1 w3 (by rw [h35]; decide) ((hc1.trans0 hc3).mono fun _ _ h => h.elim)
   rw [h35] at this; exact this
  obtain ⟨cs', t', P⟩ := Place.at (e := t) hP hat
  have hnd := @Yhg w ⟨ab, 0, none⟩ r ⟨ab, 0, none⟩ v hP.ta.own
  rw [hat] at hnd
  have hnd' : nodeAt v.nd r = some y.nd := hnd.symm
  rw [Yd5 hnd'] at K1 K2
  have hymea := Yet (z := y.nd) hnd'
  have hynode := YdD hnd'
  have hsub : ∀ z, (z = b.block \/ z ∈ y.bs) -> z = ab \/ z ∈ v.bs := fun z hz => by
   rcases YcQ (v := v) hat with ⟨_, rfl, rfl⟩ | ⟨g1, g2⟩
   ·exact hz
   ·rcases hz with rfl | hz
    ·exact .inr g1
    ·exact .inr (g2 z hz)
  have K2' : ∀ w8 y', Turned w w8 b y y' cs' t' -> Zqk y.nd i E = (0, y'.nd) -> J 0 w8 := fun w8 y' hT h => by
   obtain ⟨v', a1, a2, a3⟩ := hT.tree P rfl hP.ta hat
   exact K2 w8 v' (by rw [h]) a1 (by rw [h]; exact a2) a3 (hT.hc.mono fun z _ hz => hsub z hz)
  have K4 := K2
  have K1' : ∀ w8 f, Chg (fun z => z = b.block \/ z ∈ y.bs) w w8 -> f ≠ 0 -> (Zqk y.nd i E).1 = f -> J f w8 := fun w8 f hc hf h => by
   subst h
   exact K1 w8 hf (hc.mono fun z _ hz => hsub z hz)
  clear K1 K2
  have hH3 := H1.step0 hc3
  have c13 := hH3.chg
  have hyR : ∀ x : NV, nodeAt v.nd (r ++ [i]) = some x.nd -> ascB x.nd.attrs = true := fun x hx => asc_attrs hR hx
  have hna : nodeAt v.nd (r ++ [i]) = nodeAt y.nd [i] := by rw [ZqN, hnd']; rfl
  obtain ⟨bb, bo, bsp⟩ := b
  have hsp := P.sp
  simp only at hsp
  subst hsp
  cases y with
  | mk k u l tx ap al ac ats kp kl kc ks =>
  have hyl : (NV.mk k u l tx ap al ac ats kp kl kc ks).mea <= 10000000 := by
   have h1 := YgM v
   have h2 := YgM (NV.mk k u l tx ap al ac ats kp kl kc ks)
   have h3 : (NV.mk k u l tx ap al ac ats kp kl kc ks).nd.mea <= v.nd.mea := by
    have h4 := Yet (z := Yda) hnd'
    have : 1 <= (setAt v.nd r Yda).mea := by
     cases hs : setAt v.nd r Yda with
     | mk k u l t a s => simp only [Nd.mea]; omega
    have h5 : Yda.mea = 1 := by simp only [Yda, Nd.mea, Nd.meaL]; decide
    omega
   omega
  have hown := P.ta.own
  have hown0 := hown
  cases hown with
  | mk ha hk hks =>
  have hkl := hk.sl.row (Zzl ks) (by decide)
  have hlm := ZqO ks
  have hkm : kl <= 10000000 /\ NV.meaL ks <= 10000000 := by simp only [NV.mea] at hyl; omega
  have cell : ∀ {wx : World} {j : Nat} {v : Value}, Chg No w wx -> (NV.mk k u l tx ap al ac ats kp kl kc ks).cells[j]? = some v -> wx.cell? ⟨bb, bo + j, none⟩ = some v := fun hc hv => by
   have := hc.cells P.ta.cs (fun h => h) _ _ hv
   rwa [Addr.add_mk] at this
  have hHere : ¬ (i < 0 \/ (kl : Int) < i \/ (i = kl /\ eop ≠ 1)) -> Zqk (NV.mk k u l tx ap al ac ats kp kl kc ks).nd i E = if E.op = 1 then (0, .mk k u l tx ats ((ks.map NV.nd).take i.toNat ++ E.node :: (ks.map NV.nd).drop i.toNat)) else if E.op = 2 then (0, .mk k u l tx ats ((ks.map NV.nd).take i.toNat ++ (ks.map NV.nd).drop (i.toNat + 1))) else if E.op = 3 then (0, .mk k u l tx ats ((ks.map NV.nd).set i.toNat E.node)) else match (ks.map NV.nd)[i.toNat]? with
    | some x => ((chgd x E).1, .mk k u l tx ats ((ks.map NV.nd).set i.toNat (chgd x E).2))
    | none => (35, .mk k u l tx ats (ks.map NV.nd)) := by
   intro h
   rw [ZzP]
   simp only [Zqk]
   rw [if_neg (by rw [length_map, hkl, hE1]; exact h)]
   rfl
  refine Zzb fun J71 hJ71 => ?_
  have k71 : ∀ bl : Bool, (bl = true ↔ (i < 0 \/ (kl : Int) < i \/ (i = kl /\ eop ≠ 1))) -> J71 bl w3 := by
   intro bl hbl; subst hJ71
   refine Zz9 (fun h => ?_) (fun h => ?_)
   ·have hbad := hbl.1 h
    refine K1' w3 35 (c13.mono fun _ _ h => h.elim) (by decide) ?_
    rw [ZzP]
    simp only [Zqk]
    rw [if_pos (by rw [length_map, hkl, hE1]; exact hbad)]
   have hgood : ¬ (i < 0 \/ (kl : Int) < i \/ (i = kl /\ eop ≠ 1)) := fun g => by rw [hbl.2 g] at h; cases h
   have hH := hHere hgood
   clear hHere hbl
   obtain ⟨n, rfl⟩ : ∃ n : Nat, i = n := ⟨i.toNat, by omega⟩
   simp only [Int.toNat_natCast] at hH
   have hnk : n <= kl := by omega
   refine Zzb fun J0 hJ0 => ?_
   subst hJ0
   refine hH3.ldI 0 rfl (off := 0) rfl ?_
   refine Zzi (fun h1 => ?_) (fun h1 => ?_)
   · -- a node is put in
    replace h1 : eop = 1 := h1
    rw [if_pos (hE1.trans h1)] at hH
    have H3d := hH3.drew
    have c3d := c13.drew
    simp only [Zyp]
    rw [Addr.add_mk]
    refine ⟨_, _, _, cell (j := 4) c3d rfl, ?_⟩
    refine H3d.ldI 0 rfl (off := 5) rfl ?_
    refine H3d.ldStr 0 rfl (off := 6) rfl ?_
    refine H3d.ldStr 0 rfl (off := 7) rfl ?_
    refine H3d.ldS 0 rfl (off := 8) rfl ?_
    refine H3d.ldS 0 rfl (off := 9) rfl ?_
    refine H3d.ldStr 0 rfl (off := 10) rfl ?_
    refine Copy_ok (NV.mk nk nu nl nt nap nal nac nas nkp nkl nkc nks) hnode c3d (by omega) fun xv w6 hxnd hxown hxno hxbl hxm hc6 => ?_
    have c6 := c3d.trans0 hc6
    have hxlt := hxown.lt
    have hxc := Zy6 xv
    have hxnd' : xv.nd = E.node := hxnd.trans hE5.symm
    cases xv with
    | mk zk zu zl zt zap zal zac zas zkp zkl zkc zks =>
    refine ⟨cell (j := 4) c6 rfl, rfl, ?_⟩
    refine Zx6 (Hp.start w6 No) (cs := (NV.mk zk zu zl zt zap zal zac zas zkp zkl zkc zks).cells) fun b93 w7 H7 hb93 hc7 => ?_
    have c7 := c6.trans0 hc7
    have z3d : w.heap.size <= w3.drew.heap.size := c3d.size
    have z6 := hc6.size
    have z7 := hc7.size
    refine ⟨cell (j := 4) c7 rfl, ?_⟩
    refine InsNode_ok (x := NV.mk zk zu zl zt zap zal zac zas zkp zkl zkc zks) (hk.chg c7 (off_no _)) (H7.get 0 rfl) (fun a e h => by have := hk.lt a e; omega) hnk (by omega) fun p' c' w8 hr8 hc8 hf8 => ?_
    have hklt : ∀ z, isB kp z -> z < w.heap.size := by rintro z ⟨a, e, h⟩; rw [<- h]; exact hk.lt a e
    have hkd : ∀ z ∈ NV.bsL ks, ¬ isB kp z := by
     have ebs : (NV.mk k u l tx ap al ac ats kp kl kc ks).bs = Yao ap ++ (Yao kp ++ NV.bsL ks) := by simp only [NV.bs]
     have hnn := P.ta.nd
     rw [ebs] at hnn
     obtain ⟨_, hnR, _⟩ := nodup_append.1 hnn
     obtain ⟨_, _, hdK⟩ := nodup_append.1 hnR
     rintro z hz ⟨a, e, h⟩
     subst e
     exact hdK a.block (mem_singleton.2 rfl) z hz h
    have hksn : (NV.bsL ks).Nodup := by
     have ebs : (NV.mk k u l tx ap al ac ats kp kl kc ks).bs = Yao ap ++ (Yao kp ++ NV.bsL ks) := by simp only [NV.bs]
     have hnn := P.ta.nd
     rw [ebs] at hnn
     exact (nodup_append.1 (nodup_append.1 hnn).2.1).2.1
    have hkslt : ∀ z ∈ NV.bsL ks, z < w.heap.size := fun z hz => hown0.lt z (by simp only [NV.bs]; exact mem_append_right _ (mem_append_right _ hz))
    have eL : NV.bsL ks = NV.bsL (ks.take n) ++ NV.bsL (ks.drop n) := by rw [<- Yaf, take_append_drop]
    have eL' : NV.bsL (ks.take n ++ NV.mk zk zu zl zt zap zal zac zas zkp zkl zkc zks :: ks.drop n) = NV.bsL (ks.take n) ++ ((NV.mk zk zu zl zt zap zal zac zas zkp zkl zkc zks).bs ++ NV.bsL (ks.drop n)) := by rw [Yaf, NV.bsL]
    have hmem : ∀ z ∈ NV.bsL (ks.take n ++ NV.mk zk zu zl zt zap zal zac zas zkp zkl zkc zks :: ks.drop n), z ∈ NV.bsL ks \/ z ∈ (NV.mk zk zu zl zt zap zal zac zas zkp zkl zkc zks).bs := fun z hz => by
     rw [eL'] at hz
     rw [eL]
     rcases mem_append.1 hz with hz | hz
     ·exact .inl (mem_append_left _ hz)
     rcases mem_append.1 hz with hz | hz
     ·exact .inr hz
     ·exact .inl (mem_append_right _ hz)
    have c08 : Chg (isB kp) w w8 := (c7.mono fun _ _ h => h.elim).trans hc8 fun _ _ h => h
    refine headK P (L' := ks.take n ++ NV.mk zk zu zl zt zap zal zac zas zkp zkl zkc zks :: ks.drop n) hr8 c08 (hf8.imp id fun h a e => by have := h a e; omega) (fun x hx => ?_) ?_ (fun z hz => ?_) (fun z hz => ?_) fun w9 hT => ?_
    ·rcases mem_append.1 hx with hx | hx
     ·have hxm := mem_of_mem_take hx
      exact (hks x hxm).chg c08 fun z hz h => hkd z (ZyP hxm hz) h
     ·rcases mem_cons.1 hx with rfl | hx
      ·exact (hxown.chg0 hc7).chg hc8 fun z hz h => by have := hxbl z hz; have := hklt z h; omega
      ·have hxm := mem_of_mem_drop hx
       exact (hks x hxm).chg c08 fun z hz h => hkd z (ZyP hxm hz) h
    ·rw [eL']
     rw [eL] at hksn hkslt
     obtain ⟨q1, q2, q3⟩ := nodup_append.1 hksn
     refine nodup_append.2 ⟨q1, nodup_append.2 ⟨hxno, q2, fun a h1 b h2 e => ?_⟩, fun a h1 b h2 e => ?_⟩
     ·subst e
      have := hxbl a h1; have := hkslt a (mem_append_right _ h2); omega
     ·subst e
      rcases mem_append.1 h2 with h2 | h2
      ·have := hxbl a h2; have := hkslt a (mem_append_left _ h1); omega
      ·exact q3 a h1 a h2 rfl
    ·exact (hmem z hz).imp id fun h => by have := hxbl z h; omega
    ·rcases hmem z hz with h | h
     ·rcases hf8 with rfl | hf8
      ·exact hkd z h
      ·rintro ⟨a, e, g⟩
       have := hf8 a e; have := hkslt z h; omega
     ·rcases hf8 with rfl | hf8
      ·intro g; have := hxbl z h; have := hklt z g; omega
      ·rintro ⟨a, e, g⟩
       have := hf8 a e; have := hxlt z h; omega
    ·refine K2' w9 _ hT ?_
     rw [hH, ZzP, map_append, map_cons, map_take, map_drop, hxnd']
   rw [if_neg (fun g => h1 (hE1.symm.trans g))] at hH
   replace h1 : ¬ eop = 1 := h1
   have hnlt : n < kl := by omega
   have hxget : ks[n]? = some ks[n] := getElem?_eq_getElem (by omega)
   generalize hxe : ks[n] = x at hxget
   clear hxe
   have hxm := mem_of_getElem? hxget
   obtain ⟨kb, rest, hkp, _⟩ := hk.some0 (show kl ≠ 0 by omega)
   refine Zzi (fun h2 => ?_) (fun h2 => ?_)
   · -- a node is struck
    replace h2 : eop = 2 := h2
    rw [if_pos (hE1.trans h2)] at hH
    simp only [Zyp]
    rw [Addr.add_mk]
    refine ⟨_, _, _, cell (j := 4) c13 rfl, ?_⟩
    rw [show w64 ((n : Int) + 1) = ((n + 1 : Nat) : Int) from by rw [Zzt] <;> omega]
    refine DelNode_ok (hk.chg c13 (off_no _)) hnlt (by omega) fun w10 hr10 hc10 => ?_
    have c010 : Chg (isB kp) w w10 := (c13.mono fun _ _ h => h.elim).trans hc10 fun _ _ h => h
    have ebs : (NV.mk k u l tx ap al ac ats kp kl kc ks).bs = Yao ap ++ (Yao kp ++ NV.bsL ks) := by simp only [NV.bs]
    have hnn := P.ta.nd
    rw [ebs] at hnn
    obtain ⟨_, hnR, _⟩ := nodup_append.1 hnn
    obtain ⟨_, hksn, hdK⟩ := nodup_append.1 hnR
    have hkd : ∀ z ∈ NV.bsL ks, ¬ isB kp z := by
     rintro z hz ⟨a, e, h⟩
     rw [e] at hdK
     exact hdK a.block (mem_singleton.2 rfl) z hz h
    have eL := bsL_get hxget
    have eL' : NV.bsL (ks.take n ++ ks.drop (n + 1)) = NV.bsL (ks.take n) ++ NV.bsL (ks.drop (n + 1)) := Yaf _ _
    have hmem : ∀ z ∈ NV.bsL (ks.take n ++ ks.drop (n + 1)), z ∈ NV.bsL ks := fun z hz => by
     rw [eL'] at hz
     rw [eL]
     rcases mem_append.1 hz with hz | hz
     ·exact mem_append_left _ hz
     ·exact mem_append_right _ (mem_append_right _ hz)
    refine headK P (L' := ks.take n ++ ks.drop (n + 1)) hr10 c010 (.inl rfl) (fun x hx => ?_) ?_ (fun z hz => .inl (hmem z hz)) (fun z hz => hkd z (hmem z hz)) fun w11 hT => ?_
    ·have hxm : x ∈ ks := by
      rcases mem_append.1 hx with hx | hx
      ·exact mem_of_mem_take hx
      ·exact mem_of_mem_drop hx
     exact (hks x hxm).chg c010 fun z hz h => hkd z (ZyP hxm hz) h
    ·rw [eL']
     rw [eL] at hksn
     obtain ⟨q1, q2, q3⟩ := nodup_append.1 hksn
     exact nodup_append.2 ⟨q1, (nodup_append.1 q2).2.1, fun a h1 b h2 e => q3 a h1 b (mem_append_right _ h2) e⟩
    ·refine K2' w11 _ hT ?_
     rw [hH, ZzP, map_append, map_take, map_drop]
   rw [if_neg (fun g => h2 (hE1.symm.trans g))] at hH
   replace h2 : ¬ eop = 2 := h2
   subst hkp
   have hat2 : addrAt ⟨ab, 0, none⟩ v (r ++ [(n : Int)]) = some (⟨kb, 0 + n * 6, none⟩, x) := by
    rw [YeQ hat]
    simp only [addrAt]
    rw [if_neg (by omega), Int.toNat_natCast, hxget]
   obtain ⟨cs2, t2, P2⟩ := Place.at (e := t) hP hat2
   have hxin : ∀ z, (z = kb \/ z ∈ x.bs) -> z = bb \/ z ∈ (NV.mk k u l tx ap al ac ats (some ⟨kb, 0, none⟩) kl kc ks).bs := fun z hz => by
    right
    simp only [NV.bs, Yao, mem_append, mem_singleton]
    rcases hz with hz | hz
    ·exact .inr (.inl hz)
    ·exact .inr (.inr (ZyP hxm hz))
   have hmget : (ks.map NV.nd)[n]? = some x.nd := by rw [getElem?_map, hxget]; rfl
    -- what is changed at the kid
   have K3 : ∀ w8 x', Turned w w8 ⟨kb, 0 + n * 6, none⟩ x x' cs2 t2 -> Zqk (NV.mk k u l tx ap al ac ats (some ⟨kb, 0, none⟩) kl kc ks).nd (n : Int) E = (0, .mk k u l tx ats ((ks.map NV.nd).set n x'.nd)) -> J 0 w8 := fun w8 x' hT h => by
    obtain ⟨v', a1, a2, a3⟩ := hT.tree P2 rfl hP.ta hat2
    have e5 : setAt v.nd (r ++ [(n : Int)]) x'.nd = setAt v.nd r (.mk k u l tx ats ((ks.map NV.nd).set n x'.nd)) := by
     rw [Ybk hnd', ZzP, YaU (n := .mk k u l tx ats (ks.map NV.nd)) (x := x.nd) (i := (n : Int)) (by rw [Int.toNat_natCast]; exact hmget)]
     rfl
    exact K4 w8 v' (by rw [h]) a1 (by rw [h, a2, e5]) a3 (hT.hc.mono fun z _ hz => hsub z (hxin z hz))
   refine Zzi (fun h3 => ?_) (fun h3 => ?_)
   ·replace h3 : eop = 3 := h3
    rw [if_pos (hE1.trans h3)] at hH
    have H3d := hH3.drew
    have c3d := c13.drew
    simp only [Zyp]
    rw [Addr.add_mk]
    refine ⟨_, _, _, cell (j := 4) c3d rfl, ?_⟩
    refine H3d.ldI 0 rfl (off := 5) rfl ?_
    refine H3d.ldStr 0 rfl (off := 6) rfl ?_
    refine H3d.ldStr 0 rfl (off := 7) rfl ?_
    refine H3d.ldS 0 rfl (off := 8) rfl ?_
    refine H3d.ldS 0 rfl (off := 9) rfl ?_
    refine H3d.ldStr 0 rfl (off := 10) rfl ?_
    refine Copy_ok (NV.mk nk nu nl nt nap nal nac nas nkp nkl nkc nks) hnode c3d (by omega) fun xv w12 hxnd hxown hxno hxbl hxm' hc12 => ?_
    have c12 := c3d.trans0 hc12
    have hxnd' : xv.nd = E.node := hxnd.trans hE5.symm
    have z3d : w.heap.size <= w3.drew.heap.size := c3d.size
    have hxlt := hxown.lt
    have h1x := Zy6 xv
    have hxcl := Zys xv
    have hput : ∀ J' : World -> Prop, (∀ w13, Turned w w13 ⟨kb, 0 + n * 6, none⟩ x xv cs2 t2 -> J' w13) -> stN w12 ⟨kb, 0 + n * 6, none⟩ ⟨xv.cells⟩ 6 J' := fun J' kk => by
     have hg12 := c12.heap P2.hb (fun h => h)
     refine ((Hp.start w12 (fun z => z = kb)).add hg12 (by simp) (fun _ => rfl)).stN 0 rfl hxcl P2.ho h1x fun w13 H13 hc13 => ?_
     simp only [set_cons_zero] at H13
     refine kk w13 ⟨?_, H13.get 0 rfl, ?_, hxno, fun z hz => .inr (by have := hxbl z hz; omega)⟩
     ·exact ((c12.mono fun _ _ h => h.elim).trans hc13 fun _ _ h => h).mono fun z _ h => .inl h
     ·have hkblt := Zy7 P2.hb
      simp only at hkblt
      exact hxown.chg hc13 fun z hz h => by replace h : z = kb := h; have := hxbl z hz; omega
    cases xv with
    | mk zk zu zl zt zap zal zac zas zkp zkl zkc zks =>
    refine ⟨cell (j := 4) c12 rfl, ?_⟩
    refine YbF (by omega) (by omega) ?_
    rw [Addr.add_mk, Int.toNat_natCast]
    refine hput _ fun w13 hT => K3 w13 _ hT ?_
    rw [hH, hxnd']
   rw [if_neg (fun g => h3 (hE1.symm.trans g)), hmget] at hH
   replace h3 : ¬ eop = 3 := h3
   simp only at hH
   refine Zzi (fun h6 => ?_) (fun h6 => ?_)
   ·replace h6 : eop = 6 := h6
    simp only [Zyp]
    rw [Addr.add_mk]
    refine ⟨_, _, _, cell (j := 4) c13 rfl, ?_⟩
    refine YbF (by omega) (by omega) ?_
    rw [Addr.add_mk, Addr.add_mk, Int.toNat_natCast]
    have hget2 := P2.get
    have hbs2 := P2.ta.nd
    have hof2 := P2.ta.off
    have hown2 := P2.ta.own
    have hlt2 := hown2.lt
    have hc2cell : ∀ j v, x.cells[j]? = some v -> w3.cell? ⟨kb, 0 + n * 6 + j, none⟩ = some v := fun j v hv => by
     have := c13.cells P2.ta.cs (fun h => h) _ _ hv
     rwa [Addr.add_mk] at this
    cases x with
    | mk xk xu xl xt xap xal xac xas xkp xkl xkc xks =>
    rw [ZzP, ZzP] at hH
    simp only [chgd] at hH
    rw [if_pos (hE1.trans h6)] at hH
    refine Zzb fun J147 hJ147 => ?_
    have k147 : ∀ bl : Bool, (bl = true ↔ ¬ (xk = 3 \/ xk = 4 \/ xk = 5)) -> J147 bl w3 := by
     intro bl hbl; subst hJ147
     refine Zz9 (fun h => ?_) (fun h => ?_)
     ·rw [if_neg (hbl.1 h)] at hH
      exact K1' w3 33 (c13.mono fun _ _ h => h.elim) (by decide) (by rw [ZzP, hH])
     ·have hyes : xk = 3 \/ xk = 4 \/ xk = 5 := Classical.not_not.1 fun g => by rw [hbl.2 g] at h; cases h
      rw [if_pos hyes] at hH
      refine hH3.ldStr 0 rfl (off := 4) rfl ?_
      have hg3 := c13.heap P2.hb (fun h => h)
      have hroom2 : 0 + n * 6 + (NV.mk xk xu xl xt xap xal xac xas xkp xkl xkc xks).cells.length <= cs2.length := P2.ho
      have ho2 := P2.ho
      simp only at ho2
      refine ((Hp.start w3 (fun z => z = kb)).add hg3 (by simp) (fun _ => rfl)).stV 0 rfl (off := 0 + n * 6 + 5) (by omega) fun w15 H15 hc15 => ?_
      simp only [set_cons_zero] at H15
      have hg15 := H15.get 0 rfl
      rw [Yf9 (vs := (NV.mk xk xu xl xt xap xal xac xas xkp xkl xkc xks).cells) hget2 hroom2 (by show 5 < 6; decide)] at hg15
      have c015 : Chg (fun z => z = kb) w w15 := (c13.mono fun _ _ h => h.elim).trans hc15 fun _ _ h => h
      refine K3 w15 (.mk xk xu xl et xap xal xac xas xkp xkl xkc xks) ⟨c015.mono fun z _ h => .inl h, hg15, ?_, hbs2, fun z hz => .inl hz⟩ ?_
      ·cases hown2 with
       | mk ha2 hk2 hks2 =>
        refine .mk (ha2.chg c015 fun a e h => hof2 ?_) (hk2.chg c015 fun a e h => hof2 ?_) fun y hy => (hks2 y hy).chg c015 fun z hz h => hof2 ?_
        ·subst e; simp only [NV.bs, Yao]; rw [<- h]; exact mem_append_left _ (mem_singleton.2 rfl)
        ·subst e; simp only [NV.bs, Yao]; rw [<- h]; exact mem_append_right _ (mem_append_left _ (mem_singleton.2 rfl))
        ·simp only [NV.bs]; rw [<- h]; exact mem_append_right _ (mem_append_right _ (ZyP hy hz))
      ·rw [ZzP, hH, ZzP, hE4]
    clear hJ147
    refine Zyz (hc2cell 0 _ rfl) ?_
    refine Zzw (fun g3 => ?_) (fun g3 => k147 false ⟨fun h => (by cases h), fun h => absurd (.inl g3) h⟩)
    refine Zyz (hc2cell 0 _ rfl) ?_
    refine Zzw (fun g4 => ?_) (fun g4 => k147 false ⟨fun h => (by cases h), fun h => absurd (.inr (.inl g4)) h⟩)
    refine Zyz (hc2cell 0 _ rfl) ?_
    refine k147 _ ?_
    rw [bne_iff_ne]; omega
   ·replace h6 : ¬ eop = 6 := h6
    have H3d := hH3.drew
    have c3d := c13.drew
    simp only [Zyp]
    rw [Addr.add_mk]
    refine ⟨_, _, _, cell (j := 4) c3d rfl, ?_⟩
    refine YbF (by omega) (by omega) ?_
    rw [Addr.add_mk, Int.toNat_natCast]
    refine H3d.ldI 0 rfl (off := 0) rfl ?_
    refine H3d.ldS 0 rfl (off := 1) rfl ?_
    refine H3d.ldStr 0 rfl (off := 2) rfl ?_
    refine H3d.ldStr 0 rfl (off := 3) rfl ?_
    refine H3d.ldStr 0 rfl (off := 4) rfl ?_
    refine H3d.ldI 0 rfl (off := 5) rfl ?_
    refine H3d.ldStr 0 rfl (off := 6) rfl ?_
    refine H3d.ldStr 0 rfl (off := 7) rfl ?_
    refine H3d.ldS 0 rfl (off := 8) rfl ?_
    refine H3d.ldS 0 rfl (off := 9) rfl ?_
    refine H3d.ldStr 0 rfl (off := 10) rfl ?_
    have hxmea := YdG hxm
    refine Attr_ok (e := ⟨eop, ep, el, ec, epa, eu, en, et, .mk nk nu nl nt nap nal nac nas nkp nkl nkc nks⟩) (P2.chg0 c3d) (show eop = 4 \/ eop = 5 by omega) (by omega) ?_ ?_
    ·refine hyR x ?_
     rw [hna, ZzP, Yd2, if_neg (by omega), Int.toNat_natCast]; exact hmget
    ·rw [AttrPost, hE]
     refine ⟨fun w16 hf hc16 => ?_, fun w16 x' hf hT hx' => ?_⟩
     ·refine K1' w16 _ ?_ hf (by rw [hH])
      exact (c3d.mono fun _ _ h => h.elim).trans hc16 fun z _ hz => hxin z hz
     ·refine K3 w16 x' (hT.from0 c3d) ?_
      rw [hH, hx', hf]
  clear hJ71
  refine Zz9 (fun h => by cases h) (fun _ => ?_)
  refine Zz6 (fun h => k71 true ⟨fun _ => .inl h, fun _ => rfl⟩) (fun h => ?_)
  simp only [Zyp]
  rw [Addr.add_mk]
  refine ⟨_, _, _, cell (j := 4) c13 rfl, ?_⟩
  refine Zz6 (fun h2 => k71 true ⟨fun _ => .inr (.inl (by omega)), fun _ => rfl⟩) (fun h2 => ?_)
  refine hH3.ldI 0 rfl (off := 0) rfl ?_
  refine Zzw (fun h3 => ?_) (fun h3 => k71 false ⟨fun g => (by cases g), fun g => ?_⟩)
  ·refine ⟨_, _, _, cell (j := 4) c13 rfl, ?_⟩
   refine k71 _ ?_
   rw [beq_iff_eq]
   replace h3 : eop ≠ 1 := h3
   omega
  ·replace h3 : eop = 1 := h3
   omega
 clear hJ9
 refine H1.ldI 0 rfl (off := 0) rfl ?_
 refine Zz6 (fun h => k9t (.inl h)) (fun h => ?_)
 refine H1.ldI 0 rfl (off := 0) rfl ?_
 replace h : ¬ eop < 1 := h
 show J9 (decide (eop > 6)) w1
 by_cases h6 : eop > 6
 ·rw [decide_eq_true h6]; exact k9t (.inr h6)
 ·rw [decide_eq_false h6]; exact k9f (by omega) (by omega)
end
end Go.Proofs.YtlnfaaghdkngmaaGreatDoor
namespace Go.Proofs.YtlnfaaghdkngmaaGreatDoor
open Go Go.Vc Go.Lib
section
variable {w w' : World}
theorem ldCs {b : Nat} {k0 : Int} {u0 l0 t0 : ByteArray} {ap kp : Option Addr} {al ac kl kc : Nat} {ats : List At} {ks : List NV} (h : Zzn w ⟨b, 0, none⟩ (NV.mk k0 u0 l0 t0 ap al ac ats kp kl kc ks).cells)
  {K : Int -> ByteArray -> ByteArray -> Option Addr -> Nat -> Nat -> Option Addr -> Nat -> Nat -> ByteArray -> Prop} (k : K k0 u0 l0 ap al ac kp kl kc t0) :
  ldI .i64 w ⟨b, 0, none⟩ fun x0 => ldStr w ⟨b, 1, none⟩ fun x1 => ldStr w ⟨b, 2, none⟩ fun x2 => ldS w ⟨b, 3, none⟩ fun p3 l3 c3 => ldS w ⟨b, 4, none⟩ fun p4 l4 c4 => ldStr w ⟨b, 5, none⟩ fun x5 => K x0 x1 x2 p3 l3 c3 p4 l4 c4 x5 := by
 have g : ∀ j v, (NV.mk k0 u0 l0 t0 ap al ac ats kp kl kc ks).cells[j]? = some v -> w.cell? ⟨b, j, none⟩ = some v := fun j v hv => by
  have := h j v hv
  rwa [Addr.add_mk, Nat.zero_add] at this
 exact ⟨_, g 0 _ rfl, _, g 1 _ rfl, _, g 2 _ rfl, _, _, _, g 3 _ rfl, _, _, _, g 4 _ rfl, _, g 5 _ rfl, k⟩
theorem ldEd {w0 : World} {S : Nat -> Prop} {Γ : List Blk} {b : Nat} {e : TypeId} (H : Hp w0 S w Γ) (i : Nat) {eop : Int} {ep : Option Addr} {el ec : Nat} {eu en et : ByteArray} {k0 : Int} {u0 l0 t0 : ByteArray} {ap kp : Option Addr} {al ac kl kc : Nat}
  (hi : Γ[i]? = some ⟨b, [.int .i64 eop, .slice ep el ec, .string eu, .string en, .string et, .int .i64 k0, .string u0, .string l0, .slice ap al ac, .slice kp kl kc, .string t0], e⟩)
  {K : Int -> Option Addr -> Nat -> Nat -> ByteArray -> ByteArray -> ByteArray -> Int -> ByteArray -> ByteArray -> Option Addr -> Nat -> Nat -> Option Addr -> Nat -> Nat -> ByteArray -> Prop} (k : K eop ep el ec eu en et k0 u0 l0 ap al ac kp kl kc t0) :
  ldI .i64 w ⟨b, 0, none⟩ fun y0 => ldS w ⟨b, 1, none⟩ fun q1 m1 d1 => ldStr w ⟨b, 2, none⟩ fun y2 => ldStr w ⟨b, 3, none⟩ fun y3 => ldStr w ⟨b, 4, none⟩ fun y4 =>
  ldI .i64 w ⟨b, 5, none⟩ fun x0 => ldStr w ⟨b, 6, none⟩ fun x1 => ldStr w ⟨b, 7, none⟩ fun x2 => ldS w ⟨b, 8, none⟩ fun p3 l3 c3 => ldS w ⟨b, 9, none⟩ fun p4 l4 c4 => ldStr w ⟨b, 10, none⟩ fun x5 => K y0 q1 m1 d1 y2 y3 y4 x0 x1 x2 p3 l3 c3 p4 l4 c4 x5 :=
 ⟨_, H.cell i hi rfl, _, _, _, H.cell i hi rfl, _, H.cell i hi rfl, _, H.cell i hi rfl, _, H.cell i hi rfl, _, H.cell i hi rfl, _, H.cell i hi rfl, _, H.cell i hi rfl, _, _, _, H.cell i hi rfl, _, _, _, H.cell i hi rfl, _, H.cell i hi rfl, k⟩
def zeroV : NV := .mk 0 ByteArray.empty ByteArray.empty ByteArray.empty none 0 0 [] none 0 0 []
theorem Yge : zeroV.nd = Yda := by unfold zeroV; rw [ZzP]; rfl
theorem Ygu : Own w zeroV := .mk (Row.nil _ _ _) (Row.nil _ _ _) (fun x hx => by cases hx)
theorem zeroV_bs : zeroV.bs = [] := by unfold zeroV; simp [NV.bs, Yao, NV.bsL]
theorem Ygv : zeroV.mea = 1 := by rw [<- YgM, Yge]; simp only [Yda, Nd.mea, Nd.meaL]; decide
def ApPost (w : World) (d : Nd) (e : Ed) (m : Nat) (J : Int -> ByteArray -> ByteArray -> Option Addr -> Nat -> Nat -> Option Addr -> Nat -> Nat -> ByteArray -> Int -> World -> Prop) : Prop :=
 ∀ (x : NV) (w' : World), Chg No w w' -> x.nd = (applyN d e).2 -> Own w' x -> x.bs.Nodup -> (∀ z ∈ x.bs, w.heap.size <= z) -> x.mea <= m -> x.giv (fun a b c p l d1 q m n t w => J a b c p l d1 q m n t (applyN d e).1 w) w'
theorem Apply_ok {v : NV} {e : EV} {J : Int -> ByteArray -> ByteArray -> Option Addr -> Nat -> Nat -> Option Addr -> Nat -> Nat -> ByteArray -> Int -> World -> Prop} (T : TT w) (hv : v.Ok w) (he : EV.Ok w e) (hm : v.mea + e.mea <= 10000000) (K : ApPost w v.nd e.ed (v.mea + e.mea) J) :
  Zz1 Tryz.prog ZqX #[.agg ⟨v.cells⟩, .agg ⟨e.cells⟩] w [.agg [.int .i64, .str, .str, .slice, .slice, .str], .one (.int .i64)] J := by
 obtain ⟨eop, ep, el, ec, epa, eu, en, et, nv⟩ := e
 obtain ⟨D, hD⟩ : ∃ D, v.nd = D := ⟨_, rfl⟩
 obtain ⟨E, hE⟩ : ∃ E, EV.ed ⟨eop, ep, el, ec, epa, eu, en, et, nv⟩ = E := ⟨_, rfl⟩
 have hEm : E.mea <= (EV.mea ⟨eop, ep, el, ec, epa, eu, en, et, nv⟩) := by rw [<- hE]; unfold EV.mea Ed.mea EV.ed; simp only [YgM]; omega
 rw [hE, hD] at K
 obtain ⟨M, hM⟩ : ∃ M, EV.mea ⟨eop, ep, el, ec, epa, eu, en, et, nv⟩ = M := ⟨_, rfl⟩
 rw [hM] at hm K hEm
 have K0 : ∀ f w', Chg No w w' -> f ≠ 0 -> (applyN D E).1 = f -> J 0 ByteArray.empty ByteArray.empty none 0 0 none 0 0 ByteArray.empty f w' := fun f w' hc hf h => by
  have h2 := apply_err (d := D) (e := E) (by rw [h]; exact hf)
  have := K zeroV w' hc (by rw [h2, Yge]) Ygu (by rw [zeroV_bs]; exact nodup_nil) (by rw [zeroV_bs]; intro z hz; cases hz) (by
   rw [Ygv]
   cases v with
   | mk k u l t ap al ac ats kp kl kc ks => simp only [NV.mea]; omega)
  rw [h] at this
  exact this
 have hmv : v.mea <= 10000000 := by omega
 cases v with
 | mk k u l t ap al ac ats kp kl kc ks =>
 cases nv with
 | mk nk nu nl nt nap nal nac nas nkp nkl nkc nks =>
 refine c_edit_Apply ?_
 refine Zx6 (Hp.start w No) fun b2 w1 H1 hb2 hc1 => ?_
 refine Zx6 H1 fun b3 w2 H2 hb3 hc2 => ?_
 refine newZ H2 fun b4 w3 H3 hb4 hc3 => ?_
 have n22 := H2.lt 1 rfl
 have n23 := H2.lt 0 rfl
 have n2 := H3.lt 2 rfl
 have n3 := H3.lt 1 rfl
 have n4 := H3.lt 0 rfl
 have s1 := hc1.size
 have s2 := hc2.size
 refine Zq8 H3 2 rfl ?_
 refine Check_ok (x := NV.mk k u l t ap al ac ats kp kl kc ks) (T.chg H3.chg) (hv.chg0 H3.chg) hmv fun w4 hc4 => ?_
 have H4 := H3.step0 hc4
 rw [hD]
 have fail : ∀ {f : Int} {wx : World} {Γ : List Blk}, Hp w No wx (⟨b4, [.int .i64 0, .string ByteArray.empty, .string ByteArray.empty, .slice none 0 0, .slice none 0 0, .string ByteArray.empty], Zz3⟩ :: Γ) -> f ≠ 0 -> (applyN D E).1 = f ->
   stN wx ⟨b4, 0, none⟩ ⟨[.int .i64 (0 : Int), .string ByteArray.empty, .string ByteArray.empty, .slice none 0 0, .slice none 0 0, .string ByteArray.empty]⟩ 6 fun w5 =>
   ldI .i64 w5 ⟨b4, 0, none⟩ fun x0 => ldStr w5 ⟨b4, 1, none⟩ fun x1 => ldStr w5 ⟨b4, 2, none⟩ fun x2 => ldS w5 ⟨b4, 3, none⟩ fun p3 l3 c3 => ldS w5 ⟨b4, 4, none⟩ fun p4 l4 c4 => ldStr w5 ⟨b4, 5, none⟩ fun x5 => J x0 x1 x2 p3 l3 c3 p4 l4 c4 x5 f w5 := by
  intro f wx Γ H hf h
  refine H.stN 0 rfl (off := 0) rfl (by simp) (Zy6 zeroV) fun w5 H5 hc5 => ?_
  simp only [set_cons_zero] at H5
  refine Zq8 H5 0 rfl ?_
  exact K0 f w5 H5.chg hf h
 refine Zzw (fun hne => fail H4 hne (by unfold applyN; rw [if_pos hne])) (fun h0 => ?_)
 have hR : Right D := YdU.1 h0
 refine Zq8 H4 2 rfl ?_
 refine Copy_ok (NV.mk k u l t ap al ac ats kp kl kc ks) hv H4.chg hmv fun v6 w6 hnd6 hown6 hnod6 hbl6 hmea6 hc6 => ?_
 have H6 := H4.step0 hc6
 have h4s := hc4.size
 have h6n : ∀ z ∈ v6.bs, z ≠ b2 /\ z ≠ b3 /\ z ≠ b4 /\ w.heap.size <= z := fun z hz => by have := hbl6 z hz; omega
 cases v6 with
 | mk zk zu zl zt zap zal zac zas zkp zkl zkc zks =>
 simp only [NV.giv]
 refine H6.stN 2 rfl (off := 0) rfl (by simp) (Zy6 (.mk zk zu zl zt zap zal zac [] zkp zkl zkc [])) fun w7 H7 hc7 => ?_
 simp only [set_cons_succ, set_cons_zero] at H7
 have hown7 := hown6.chg hc7 fun z hz h => (h6n z hz).1 h
 refine ldEd H7 1 rfl ?_
 have P : Place w7 ⟨b2, 0, none⟩ (.mk zk zu zl zt zap zal zac zas zkp zkl zkc zks) (NV.mk zk zu zl zt zap zal zac zas zkp zkl zkc zks).cells Zz3 :=
  ⟨⟨H7.cells 2 rfl 0, hown7, hnod6, fun h => (h6n b2 h).1 rfl⟩, rfl, H7.get 2 rfl, Nat.le_refl _⟩
 have n74 := H7.lt 0 rfl
 have HH : ∀ w8, Chg (fun z => z = b2 \/ z ∈ (NV.mk zk zu zl zt zap zal zac zas zkp zkl zkc zks).bs) w7 w8 -> Hp w No w8 [⟨b4, [.int .i64 0, .string ByteArray.empty, .string ByteArray.empty, .slice none 0 0, .slice none 0 0, .string ByteArray.empty], Zz3⟩] := fun w8 hc8 => by
  have G : Hp w No w7 [⟨b4, [.int .i64 0, .string ByteArray.empty, .string ByteArray.empty, .slice none 0 0, .slice none 0 0, .string ByteArray.empty], Zz3⟩] :=
   ⟨H7.chg, fun p hp => by rw [mem_singleton.1 hp]; exact H7.get 0 rfl, by simp, fun p hp hl => by rw [mem_singleton.1 hp] at hl ⊢; simp only at hl; omega⟩
  exact G.step hc8 (fun p hp h => by
   rw [mem_singleton.1 hp] at h
   rcases h with h | h
   ·simp only at h; omega
   ·exact (h6n b4 h).2.2.1 rfl) (fun z hl h => by
   rcases h with h | h
   ·omega
   ·have := (h6n z h).2.2.2; omega)
 refine Do_ok (e := ⟨eop, ep, el, ec, epa, eu, en, et, .mk nk nu nl nt nap nal nac nas nkp nkl nkc nks⟩) P (he.chg0 H7.chg) (by rw [hnd6, hD]; exact hR) (by rw [hmea6, hM]; exact hm) (fun w8 hf hc8 => ?_) (fun w8 v8 hf hta hnd8 hbl8 hc8 => ?_)
 ·rw [hnd6, hE, hD] at hf ⊢
  have H8 := HH w8 hc8
  refine Zzw (fun hne => fail H8 hne ?_) (fun h => absurd h hf)
  unfold doN at hf ⊢
  unfold applyN
  rw [if_neg (by rw [h0]; simp)]
  split
  ·rfl
  next h1 =>
  split
  ·rfl
  next h2 =>
  rw [if_neg h1, if_neg h2] at hf
  rw [if_pos hf]
 ·refine Zzw (fun hne => absurd rfl hne) (fun _ => ?_)
  rw [hnd6, hE, hD] at hf hnd8
  unfold doN at hf hnd8
  split at hf
  ·exact absurd (show (1 : Int) = 0 from hf) (by decide)
  next g1 =>
  rw [if_neg g1] at hnd8
  split at hf
  ·exact absurd (show (35 : Int) = 0 from hf) (by decide)
  next g2 =>
  rw [if_neg g2] at hnd8
  have hed : edN D E.pa E = (0, v8.nd) := Prod.ext hf hnd8.symm
  have hmea8 : v8.mea <= (NV.mk k u l t ap al ac ats kp kl kc ks).mea + M := by
   have := ed_mea g2 hed
   rw [YgM, <- hD, YgM] at this; omega
  have h7s : w7.heap.size = w7.heap.size := rfl
  have n72 := H7.lt 2 rfl
  have n74 := H7.lt 0 rfl
  have nz4 : ∀ z ∈ v8.bs, z ≠ b4 /\ w.heap.size <= z := fun z hz => by
   rcases hbl8 z hz with h | h
   ·have := h6n z h; omega
   ·have := H7.chg.size; omega
  have H8 := HH w8 hc8
  have hown8 := hta.own
  have hnod8 := hta.nd
  have hcs8 := hta.cs
  cases v8 with
  | mk yk yu yl yt yap yal yac yas ykp ykl ykc yks =>
  refine ldCs hcs8 ?_
  refine Check_ok (x := NV.mk yk yu yl yt yap yal yac yas ykp ykl ykc yks) (T.chg H8.chg) hown8.ok (by omega) fun w10 hc10 => ?_
  have H10 := H8.step0 hc10
  have hap : ∀ c, c = Ycd (NV.mk yk yu yl yt yap yal yac yas ykp ykl ykc yks).nd -> applyN D E = if c ≠ 0 then (c, Yda) else (0, (NV.mk yk yu yl yt yap yal yac yas ykp ykl ykc yks).nd) := fun c hc => by
   subst hc
   unfold applyN
   rw [if_neg (by rw [h0]; simp), if_neg g1, if_neg g2, if_neg (by rw [hf]; simp), hed]
  refine Zzw (fun hne => fail H10 hne (by rw [hap _ rfl, if_pos hne])) (fun hz => ?_)
  have hcs10 := hc10.cells hcs8 (fun h => h)
  refine ldCs hcs10 ?_
  refine H10.stN 0 rfl (off := 0) rfl (by simp) (Zy6 (.mk yk yu yl yt yap yal yac [] ykp ykl ykc [])) fun w12 H12 hc12 => ?_
  simp only [set_cons_zero] at H12
  refine Zq8 H12 0 rfl ?_
  have := K (NV.mk yk yu yl yt yap yal yac yas ykp ykl ykc yks) w12 H12.chg (by rw [hap _ rfl, if_neg (by rw [hz]; simp)]) ((hown8.chg0 hc10).chg hc12 fun z hz h => (nz4 z hz).1 h) hnod8 (fun z hz => (nz4 z hz).2) hmea8
  rw [hap _ rfl, if_neg (by rw [hz]; simp)] at this
  exact this
end
end Go.Proofs.YtlnfaaghdkngmaaGreatDoor
namespace Go.Vc
open Go Go.Lib
theorem even_int (L : List Int) : Yee YbS 1 L := fun _ _ => rfl
theorem one1_ints (L : List Int) : one1 (rows YbS L) := YaY fun x _ => Zzd rfl Zyt
end Go.Vc
namespace Go.Proofs.YtlnfaaghdkngmaaGreatDoor
open Go Go.Vc Go.Lib
section
variable {w : World}
theorem Ygk : SlT Tryz.prog Yap ZqJ 1 8 #[.int .i64 0] := SlT.of (by kernel_rfl) (by kernel_rfl) rfl (by decide)
theorem CloneI_ok {p : Option Addr} {l c : Nat} {xs : List Int} {J : Option Addr -> Nat -> Nat -> World -> Prop} (h : Sl w p l 1 (rows YbS xs)) (hn : p = none -> l = 0) (hm : l <= 1000000000)
  (K : ∀ p' c' w', Row w' ZqJ 1 p' l c' (rows YbS xs) -> fresh w p' -> Chg No w w' -> J p' l c' w') : Zz1 Tryz.prog Zyg #[.slice p l c] w [.one .slice] J := by
 refine Yby ?_
 refine Zz9 (fun e => ?_) (fun e => ?_)
 ·have hp : p = none := by cases p with | none => rfl | some a => cases e
  have h0 := hn hp
  subst h0
  have hx : xs = [] := eq_nil_of_length_eq_zero (h.row (even_int xs) (by decide))
  subst hx
  exact K none 0 w (Row.nil _ _ _) (by rintro a ⟨⟩) (Chg.refl _ _)
 ·refine newRow (sz := 1) (n := 0) (cs := []) rfl (by decide) fun b5 w1 hr1 hb1 hc1 => ?_
  refine Zq4 Ygk hr1 (h.chg hc1 (off_no _)) (one1_ints xs) hn (by omega) (by simp only [maxLen]; omega) fun p' c' w' hr' hc' hf' => ?_
  simp only [Nat.zero_add, nil_append] at hr' ⊢
  refine K p' c' w' hr' ?_ ((hc1.mono fun _ _ h => h.elim).trans hc' fun b hb ⟨a, e, hab⟩ => by cases e; simp only at hab; omega)
  rcases hf' with rfl | hf'
  ·intro a e; cases e; exact hb1
  ·intro a e; have := hf' a e; have := hc1.size; omega
end
end Go.Proofs.YtlnfaaghdkngmaaGreatDoor
namespace Go.Vc
open Go Go.Lib
theorem atV_nd : ∀ {r : List Int} {v : NV}, (atV v r).map NV.nd = nodeAt v.nd r
 | [], v => rfl
 | i :: r, .mk k u l t ap al ac ats kp kl kc ks => by
  rw [ZzP]
  simp only [atV, kidV, NV.kidz, nodeAt]
  by_cases hi : i < 0
  ·rw [if_pos hi, if_pos hi]; rfl
  rw [if_neg hi, if_neg hi, getElem?_map]
  cases hx : ks[i.toNat]? with
  | none => rfl
  | some x => exact atV_nd (r := r) (v := x)
end Go.Vc
namespace Go.Proofs.YtlnfaaghdkngmaaGreatDoor
open Go Go.Vc Go.Lib
section
variable {w w' : World}
end
end Go.Proofs.YtlnfaaghdkngmaaGreatDoor
namespace Go.Vc
open Go Go.Lib
end Go.Vc
namespace Go.Proofs.YtlnfaaghdkngmaaGreatDoor
open Go Go.Vc Go.Lib
section
variable {w w' : World}
end
end Go.Proofs.YtlnfaaghdkngmaaGreatDoor
namespace Go.Vc
open Go Go.Lib
end Go.Vc
namespace Go.Proofs.YtlnfaaghdkngmaaGreatDoor
open Go Go.Vc Go.Lib
section
variable {w : World}
end
end Go.Proofs.YtlnfaaghdkngmaaGreatDoor
end
section
namespace Go.Proofs.YtlnfaaghdkngmaaGreatDoor
open Go Go.Vc Go.Lib
theorem flatL_length (ks : List Nd) : (Nd.flatL ks).length = (ks.map fun k => k.flat.length).sum := by
 induction ks with
 | nil => rfl
 | cons x r ih => simp [Nd.flatL, ih]
theorem flat_eq (n : Nd) : n.flat = n :: Nd.flatL n.kids := by cases n; rfl
theorem nodeAt_step {d y : Nd} {i : Int} {r : List Int} (h : nodeAt d (i :: r) = some y) : 0 <= i /\ ∃ x, d.kids[i.toNat]? = some x /\ nodeAt x r = some y := by
 rw [YdE] at h
 split at h
 ·cases h
 next hi =>
 split at h
 ·next x hx => exact ⟨by omega, x, hx, h⟩
 ·cases h
def Yd4 (ats : List At) (n : Pr) : Option ByteArray := (ats.find? fun a => decide (nameOf a = n)).map (·.2.2)
def isEl (x : Nd) : Bool := decide (x.kind = 2)
def hasV (n : Pr) (v : ByteArray) (x : Nd) : Bool := isEl x && decide (Yd4 x.attrs n = some v)
end Go.Proofs.YtlnfaaghdkngmaaGreatDoor
end
section
namespace Go.Vc
open Go Go.Lib
structure SpV where
 p : Option Addr
 l : Nat
 c : Nat
 path : List Int
 v : NV
def SpV.cells (s : SpV) : List Value := .slice s.p s.l s.c :: s.v.cells
theorem nv_len (v : NV) : v.cells.length = 6 := by cases v; rfl
theorem Zqd (L : List SpV) : Yee SpV.cells 7 L := fun x _ => by simp [SpV.cells, nv_len]
theorem YdC (x : SpV) : one1 x.cells := Zzd rfl (Zy6 x.v)
def SpV.pr (s : SpV) : List Int × NV := (s.path, s.v)
def fitB (nd : Bool) (x : NV) : Bool := nd || decide (x.kd = 2)
def ZxD (nd : Bool) : List NV -> List Int -> Nat -> List (List Int × NV)
 | [], _, _ => []
 | k :: ks, p, i => (if fitB nd k = true then [(p ++ [(i : Int)], k)] else []) ++ ZxD nd ks p (i + 1)
theorem Ydy {nd : Bool} {p : List Int} {x : NV} : ∀ (ks : List NV) (i : Nat), ZxD nd (ks ++ [x]) p i = ZxD nd ks p i ++ (if fitB nd x = true then [(p ++ [((i + ks.length : Nat) : Int)], x)] else [])
 | [], i => by simp [ZxD]
 | k :: ks, i => by
  rw [cons_append, ZxD, ZxD, Ydy ks (i + 1), append_assoc, length_cons, show i + 1 + ks.length = i + (ks.length + 1) by omega]
section
variable {w : World}
theorem IdxAttr_find {call : List Value -> World -> (Bool -> World -> Prop) -> Prop} {p : Option Addr} {l : Nat} {L : List At} {q : At -> Bool} {J : Int -> World -> Prop} (h : Sl w p l 3 (rows atc L)) (hm : l <= 100000000)
    (hcall : ∀ x ∈ L, ∀ (w' : World) (K : Bool -> World -> Prop), Chg No w w' -> (∀ w'', Chg No w w'' -> K (q x) w'') -> call (atc x) w' K)
    (K1 : ∀ (k : Nat) x w', Chg No w w' -> L[k]? = some x -> L.find? q = some x -> J k w') (K0 : ∀ w', Chg No w w' -> L.find? q = none -> J (-1) w') : YfJ call p l w J := by
  have hl := h.row (Zq0 L) (by decide)
  refine ⟨fun i w' t => ∃ k : Nat, i = k /\ k <= l /\ t = l - k /\ Chg No w w' /\ L.find? q = (L.drop k).find? q, ⟨_, 0, rfl, Nat.zero_le _, rfl, Chg.refl _ _, rfl⟩, ?_⟩
  rintro i w1 t ⟨k, rfl, hk, rfl, hc, hno⟩
  refine Zz6 (fun hlt => ?_) (fun hge => ?_)
  · refine Zzr (h.chg hc (off_no _)) (Zq0 L) (by decide) (by omega) hlt fun a x _ hx hcs => ?_
    rw [Int.toNat_natCast] at hx
    have hmem := List.mem_of_getElem? hx
    obtain ⟨g1, g2⟩ := List.getElem?_eq_some_iff.1 hx
    rw [List.drop_eq_getElem_cons g1, g2, List.find?_cons] at hno
    refine ldAttr hcs ?_
    refine hcall x hmem w1 _ hc fun w2 c2 => ?_
    refine Zz9 (fun hq => ?_) (fun hq => ?_)
    · rw [hq] at hno
      exact K1 k x w2 c2 hx hno
    · rw [hq] at hno
      exact ⟨_, by omega, k + 1, by rw [Zzt] <;> omega, by omega, rfl, c2, hno⟩
  · rw [List.drop_of_length_le (by omega), List.find?_nil] at hno
    exact K0 w1 hc hno
end
end Go.Vc
namespace Go.Proofs.YtlnfaaghdkngmaaGreatDoor
open Go Go.Vc Go.Lib
def condL : List Cd -> List (List Int × NV) -> List (List Int × NV)
 | [], l => l
 | .eq n v :: _, l => l.filter fun s => hasV (Zzc, n) v s.2.nd
 | .idx _ k :: _, l => if k > l.length then [] else (l.drop (k - 1)).take 1
theorem slT_spot : SlT Tryz.prog ZzU Zze 7 128 #[.slice none 0 0, .int .i64 0, .string ByteArray.empty, .string ByteArray.empty, .slice none 0 0, .slice none 0 0, .string ByteArray.empty] := SlT.of (by kernel_rfl) (by kernel_rfl) rfl (by decide)
theorem Yf5 : Zy5 Tryz.prog Zze = ⟨[.slice none 0 0, .int .i64 0, .string ByteArray.empty, .string ByteArray.empty, .slice none 0 0, .slice none 0 0, .string ByteArray.empty]⟩ := by kernel_rfl
def PathOk (w : World) (s : SpV) : Prop := Row w ZqJ 1 s.p s.l s.c (rows YbS s.path)
section
variable {w w' : World}
theorem Fits_ok {s : StV} {nd : Bool} {x : NV} {J : Bool -> World -> Prop} (hs : s.test = if nd then YaZ else kStar) (K : ∀ w', Chg No w w' -> J (fitB nd x) w') :
  Zz1 Tryz.prog Yad #[.agg ⟨s.cells⟩, .agg ⟨x.cells⟩] w [.one .bool] J := by
 obtain ⟨sd, sa, st, sn, sp, sl, sc, scs⟩ := s
 cases x with
 | mk k u l t ap al ac ats kp kl kc ks =>
  simp only at hs
  refine Yg7 ?_
  refine (Hp.start w No).newB fun b2 w1 H1 _ hc1 => ?_
  refine H1.newB fun b3 w2 H2 _ hc2 => ?_
  refine H2.ldStr 1 rfl (off := 2) rfl ?_
  simp only [Ygs]
  subst hs
  cases nd with
  | false =>
   refine Zz6 (fun _ => ?_) (fun h => absurd rfl h)
   refine H2.ldI 0 rfl (off := 0) rfl ?_
   exact leafQ (p := k = 2) (by have := K w2 H2.chg; rw [show fitB false (NV.mk k u l t ap al ac ats kp kl kc ks) = decide (k = 2) from rfl] at this; exact this) Iff.rfl
  | true =>
   refine Zz6 (fun h => absurd h (by decide)) (fun _ => ?_)
   refine Zz6 (fun h => absurd h (by decide)) (fun _ => ?_)
   refine Zz6 (fun h => absurd h (by decide)) (fun _ => ?_)
   refine Zz6 (fun _ => ?_) (fun h => absurd rfl h)
   exact K w2 H2.chg
theorem Holds_ok {n v : ByteArray} {x : NV} {J : Bool -> World -> Prop} (hx : x.Ok w) (hm : x.mea <= 100000000) (K : ∀ w', Chg No w w' -> J (hasV (Zzc, n) v x.nd) w') :
    Zz1 Tryz.prog ZqV #[.agg ⟨CV.cells ⟨61, 0, n, v⟩⟩, .agg ⟨x.cells⟩] w [.one .bool] J := by
  cases hx with
  | @mk k u l t ap al ac ats kp kl kc ks ha hn hac hk hkn hkc hks =>
    have hal := ha.row (Zq0 ats) (by decide)
    have hmm : al <= 100000000 := by
      have := Zqg ats
      simp only [NV.mea] at hm; omega
    have hV : hasV (Zzc, n) v (NV.mk k u l t ap al ac ats kp kl kc ks).nd = (decide (k = 2) && decide (Yd4 ats (Zzc, n) = some v)) := rfl
    rw [hV] at K
    refine Yfw ?_
    refine (Hp.start w No).newB fun b2 w1 H1 _ hc1 => ?_
    refine H1.newB fun b3 w2 H2 _ hc2 => ?_
    refine H2.ldS 0 rfl (off := 3) rfl ?_
    refine ZyZ ?_
    show YfJ (fun cs w' K => Zz1 Tryz.prog Zqc #[.agg ⟨cs⟩, .pointer (some ⟨b2, 0, none⟩)] w' [.one .bool] K) ap al w2 _
    have ha2 := ha.chg H2.chg (off_no _)
    refine IdxAttr_find (q := fun a => decide (nameOf a = (Zzc, n))) ha2 hmm (fun y hy w' K' hc kk => ?_) (fun i y w3 hc3 hy hf => ?_) (fun w3 hc3 hf => ?_)
    · refine YdZ ?_
      have H' := H2.step0 hc
      refine H'.newB fun b4 w4 H4 _ hc4 => ?_
      refine H4.ldStr 0 rfl (off := 0) rfl ?_
      refine H4.ldStr 0 rfl (off := 1) rfl ?_
      simp only [Addr.add_mk, Nat.zero_add]
      refine H4.ldStr 2 rfl (off := 2) rfl ?_
      refine H4.ldStr 2 rfl (off := 3) rfl ?_
      simp only [Ygs]
      have e : (decide (y.1 = ByteArray.empty) && (decide (y.2.1 = n) && true)) = decide (nameOf y = (Zzc, n)) := by
        rw [Bool.and_true, <- Bool.decide_and]
        refine decide_eq_decide.2 ?_
        unfold nameOf
        rw [Prod.mk.injEq]
        exact Iff.rfl
      rw [e]
      exact kk w4 (hc.trans0 hc4)
    · have H3 := H2.step0 hc3
      have hv0 : Yd4 ats (Zzc, n) = some y.2.2 := by unfold Yd4; rw [hf]; rfl
      refine Zzb fun J23 hJ23 => ?_
      have k23 : J23 (decide (k ≠ 2)) w3 := by
        subst hJ23
        refine Zz6 (fun h => ?_) (fun h => ?_)
        · have := K w3 H3.chg
          rw [decide_eq_false h] at this; exact this
        · have h2 : k = 2 := by omega
          refine H3.ldS 0 rfl (off := 3) rfl ?_
          refine Zzr (ha2.chg hc3 (off_no _)) (Zq0 ats) (by decide) (by omega) (by have := (List.getElem?_eq_some_iff.1 hy).1; omega) fun a z hpa hz hcs => ?_
          rw [Int.toNat_natCast, hy] at hz
          obtain rfl := Option.some.inj hz
          refine ZzQ (Yc0 hcs 2 rfl) ?_
          refine H3.ldI 1 rfl (off := 0) rfl ?_
          refine Zzi (fun _ => ?_) (fun h => absurd rfl h)
          refine H3.ldStr 1 rfl (off := 4) rfl ?_
          rw [Ygs]
          have := K w3 H3.chg
          rw [decide_eq_true h2, hv0, Bool.true_and] at this
          rw [show decide (y.2.2 = v) = decide (some y.2.2 = some v) from decide_eq_decide.2 (by rw [Option.some.injEq])]
          exact this
      clear hJ23
      refine Zz6 (fun h => by omega) (fun _ => ?_)
      refine H3.ldI 0 rfl (off := 0) rfl ?_
      rw [show ((k != 2) = decide (k ≠ 2)) by simp [bne]; rfl]
      exact k23
    · have H3 := H2.step0 hc3
      have hv0 : Yd4 ats (Zzc, n) = none := by unfold Yd4; rw [hf]; rfl
      refine Zzb fun J23 hJ23 => ?_
      subst hJ23
      refine Zz6 (fun _ => ?_) (fun h => absurd (by decide) h)
      refine Zz9 (fun _ => ?_) (fun h => by cases h)
      have := K w3 H3.chg
      rw [hv0] at this
      simpa using this
end
end Go.Proofs.YtlnfaaghdkngmaaGreatDoor
end
section
namespace Go.Vc
open Go Go.Lib
section
variable {w : World}
theorem ldSpot {a : Addr} {p0 : Option Addr} {l0 c0 : Nat} {k1 : Int} {u2 l3 t6 : ByteArray} {ap kp : Option Addr} {al ac kl kc : Nat} (hc : Zzn w a [.slice p0 l0 c0, .int .i64 k1, .string u2, .string l3, .slice ap al ac, .slice kp kl kc, .string t6])
  {K : Option Addr -> Nat -> Nat -> Int -> ByteArray -> ByteArray -> Option Addr -> Nat -> Nat -> Option Addr -> Nat -> Nat -> ByteArray -> Prop} (k : K p0 l0 c0 k1 u2 l3 ap al ac kp kl kc t6) :
  ldS w a fun x0 x1 x2 => ldI .i64 w (a.add 1) fun y1 => ldStr w (a.add 2) fun y2 => ldStr w (a.add 3) fun y3 => ldS w (a.add 4) fun p4 l4 c4 => ldS w (a.add 5) fun p5 l5 c5 => ldStr w (a.add 6) fun y6 => K x0 x1 x2 y1 y2 y3 p4 l4 c4 p5 l5 c5 y6 :=
 ⟨_, _, _, Zzo hc, _, hc 1 _ rfl, _, hc 2 _ rfl, _, hc 3 _ rfl, _, _, _, hc 4 _ rfl, _, _, _, hc 5 _ rfl, _, hc 6 _ rfl, k⟩
theorem boxSpot {w0 : World} {S : Nat -> Prop} {Γ : List Blk} {b : Nat} {e : TypeId} (H : Hp w0 S w Γ) (i : Nat) {p0 : Option Addr} {l0 c0 : Nat} {k1 : Int} {u2 l3 t6 : ByteArray} {ap kp : Option Addr} {al ac kl kc : Nat}
  (hi : Γ[i]? = some ⟨b, [.slice p0 l0 c0, .int .i64 k1, .string u2, .string l3, .slice ap al ac, .slice kp kl kc, .string t6], e⟩)
  {K : Option Addr -> Nat -> Nat -> Int -> ByteArray -> ByteArray -> Option Addr -> Nat -> Nat -> Option Addr -> Nat -> Nat -> ByteArray -> Prop} (k : K p0 l0 c0 k1 u2 l3 ap al ac kp kl kc t6) :
  ldS w ⟨b, 0, none⟩ fun x0 x1 x2 => ldI .i64 w ⟨b, 1, none⟩ fun y1 => ldStr w ⟨b, 2, none⟩ fun y2 => ldStr w ⟨b, 3, none⟩ fun y3 => ldS w ⟨b, 4, none⟩ fun p4 l4 c4 => ldS w ⟨b, 5, none⟩ fun p5 l5 c5 => ldStr w ⟨b, 6, none⟩ fun y6 => K x0 x1 x2 y1 y2 y3 p4 l4 c4 p5 l5 c5 y6 :=
 ⟨_, _, _, H.cell i hi rfl, _, H.cell i hi rfl, _, H.cell i hi rfl, _, H.cell i hi rfl, _, _, _, H.cell i hi rfl, _, _, _, H.cell i hi rfl, _, H.cell i hi rfl, k⟩
theorem spl7 {a b c d e f g a' b' c' d' e' f' g' : Value} : splice [a, b, c, d, e, f, g] 0 [a', b', c', d', e', f', g'] = [a', b', c', d', e', f', g'] := YbE rfl
end
end Go.Vc
namespace Go.Proofs.YtlnfaaghdkngmaaGreatDoor
open Go Go.Vc Go.Lib
section
variable {w w' : World}
theorem CloP_ok {n v : ByteArray} {x : SpV} {b : Nat} {J : Bool -> World -> Prop} (hx : x.v.Ok w) (hm : x.v.mea <= 100000000) (hc : w.heap[b]? = some (.cells ⟨CV.cells ⟨61, 0, n, v⟩⟩ Zzy (0, 0))) (K : ∀ w', Chg No w w' -> J (!hasV (Zzc, n) v x.v.nd) w') :
  Zz1 Tryz.prog ZxZ #[.agg ⟨x.cells⟩, .pointer (some ⟨b, 0, none⟩)] w [.one .bool] J := by
 obtain ⟨xp, xl, xc, xpath, xv⟩ := x
 cases xv with
 | mk k u l t ap al ac ats kp kl kc ks =>
  refine Yg6 ?_
  simp only [Addr.add_mk, Nat.zero_add]
  refine (Hp.start w No).newB fun b2 w1 H1 _ hc1 => ?_
  have Hc := (Hp.of_chg (w0 := w1) (S := No) (Chg.refl No w1))
  have hb := hc1.heap hc (fun f => f)
  have cell : ∀ j v', (CV.cells ⟨61, 0, n, v⟩)[j]? = some v' -> w1.cell? ⟨b, j, none⟩ = some v' := fun j v' hv => by
   rw [cell_of_row w1 b j _ Zzy (0, 0) hb]; simpa using hv
  refine Zyz (cell 0 _ rfl) (Zyz (cell 1 _ rfl) (ZzQ (cell 2 _ rfl) (ZzQ (cell 3 _ rfl) (ZzQ (cell 4 _ rfl) (ldV_i (cell 5 _ rfl) ?_)))))
  refine H1.ldI 0 rfl (off := 1) rfl ?_
  refine H1.ldStr 0 rfl (off := 2) rfl ?_
  refine H1.ldStr 0 rfl (off := 3) rfl ?_
  refine H1.ldS 0 rfl (off := 4) rfl ?_
  refine H1.ldS 0 rfl (off := 5) rfl ?_
  refine H1.ldStr 0 rfl (off := 6) rfl ?_
  exact Holds_ok (x := .mk k u l t ap al ac ats kp kl kc ks) (hx.chg0 hc1) hm fun w2 hc2 => K w2 (hc1.trans0 hc2)
theorem SpIdx_ok {n v : ByteArray} {p : Option Addr} {l c : Nat} {S : List SpV} {b : Nat} {J : Int -> World -> Prop} (h : Sl w p l 7 (rows SpV.cells S)) (hm : l <= 100000000) (hS : ∀ s ∈ S, s.v.Ok w /\ s.v.mea <= 100000000)
    (hc : w.heap[b]? = some (.cells ⟨CV.cells ⟨61, 0, n, v⟩⟩ Zzy (0, 0)))
    (k0 : (∀ s ∈ S, hasV (Zzc, n) v s.v.nd = true) -> ∀ w', Chg No w w' -> J (-1) w') (k1 : ∀ (i : Nat) s, S[i]? = some s -> hasV (Zzc, n) v s.v.nd = false -> (∀ s ∈ S.take i, hasV (Zzc, n) v s.v.nd = true) -> ∀ w', Chg No w w' -> J i w') :
    Zz1 Tryz.prog ZzH #[.slice p l c, .func (.func 71) #[] #[.pointer (some ⟨b, 0, none⟩)]] w [.one (.int .i64)] J := by
  refine ZyL ?_
  have hl := h.row (Zqd S) (by decide)
  refine ⟨fun x w' t => ∃ i : Nat, x = i /\ i <= l /\ t = l - i /\ Chg No w w' /\ ∀ s ∈ S.take i, hasV (Zzc, n) v s.v.nd = true, ⟨_, 0, rfl, Nat.zero_le _, rfl, Chg.refl _ _, by simp⟩, ?_⟩
  rintro x w1 t ⟨i, rfl, hi, rfl, hc1, hno⟩
  refine Zz6 (fun hlt => ?_) (fun hge => ?_)
  · refine Zzr (h.chg hc1 (off_no _)) (Zqd S) (by decide) (by omega) hlt fun a y hpa hy hcs => ?_
    rw [Int.toNat_natCast] at hy
    have hyS := hS y (List.mem_of_getElem? hy)
    have goalK : ∀ w2, Chg No w1 w2 -> Zz2 (!hasV (Zzc, n) v y.v.nd) (J (i : Int) w2) (∃ m' : Nat, m' < l - i /\ ∃ i' : Nat, w64 ((i : Int) + 1) = i' /\ i' <= l /\ m' = l - i' /\ Chg No w w2 /\ ∀ s ∈ S.take i', hasV (Zzc, n) v s.v.nd = true) := by
      intro w2 hc2
      refine Zzx (fun he => k1 i y hy he hno w2 (hc1.trans0 hc2)) (fun ht => ?_)
      refine ⟨_, by omega, i + 1, by rw [Zzt] <;> omega, by omega, rfl, hc1.trans0 hc2, ?_⟩
      obtain ⟨g1, g2⟩ := List.getElem?_eq_some_iff.1 hy
      intro s hs
      rw [List.take_succ_eq_append_getElem g1, List.mem_append] at hs
      rcases hs with hs | hs
      · exact hno s hs
      · rw [List.mem_singleton.1 hs, g2]; exact ht
    have hx1 := hyS.1.chg0 hc1
    have hm1 := hyS.2
    have hb1 := hc1.heap hc (fun f => f)
    obtain ⟨yp, yl, yc, ypath, yv⟩ := y
    cases yv with
    | mk k u l' t ap al ac ats kp kl kc ks =>
      refine ldSpot hcs ?_
      exact CloP_ok (x := ⟨yp, yl, yc, ypath, .mk k u l' t ap al ac ats kp kl kc ks⟩) hx1 hm1 hb1 goalK
  · have : i = l := by omega
    subst this
    rw [List.take_of_length_le (by omega)] at hno
    exact k0 hno w1 hc1
set_option maxHeartbeats 1000000 in
theorem SpDel_ok {n v : ByteArray} {w0 : World} {p : Option Addr} {l c : Nat} {S : List SpV} {b : Nat} {J : Option Addr -> Nat -> Nat -> World -> Prop} (h : Row w Zze 7 p l c (rows SpV.cells S)) (hm : l <= 100000000) (h0 : Chg No w0 w) (hf : fresh w0 p) (hS : ∀ s ∈ S, s.v.Ok w0 /\ s.v.mea <= 100000000)
    (hc : w.heap[b]? = some (.cells ⟨CV.cells ⟨61, 0, n, v⟩⟩ Zzy (0, 0)))
    (k : ∀ l' w', Row w' Zze 7 p l' c (rows SpV.cells (S.filter fun s => hasV (Zzc, n) v s.v.nd)) -> Chg (isB p) w w' -> l' <= l -> J p l' c w') :
    Zz1 Tryz.prog ZzF #[.slice p l c, .func (.func 71) #[] #[.pointer (some ⟨b, 0, none⟩)]] w [.one .slice] J := by
  refine ZyI ?_
  have hl := h.sl.row (Zqd S) (by decide)
  have tcp := ZqB hc
  have offcp : ∀ x, isB p x -> ¬ x = b := by
    rintro x ⟨a, ha, rfl⟩ e
    have := h.typ a ha
    rw [e, tcp] at this
    exact absurd (Option.some.inj this) (by decide)
  have back : ∀ {w'}, Chg (isB p) w w' -> Chg No w0 w' := fun hc => h0.trans hc fun x hx => by
    rintro ⟨a, ha, rfl⟩
    have := hf a ha
    omega
  refine SpIdx_ok h.sl hm (fun s hs => ⟨(hS s hs).1.chg0 h0, (hS s hs).2⟩) hc (fun hno w1 hc1 => ?_) (fun r y hy hyv hno w1 hc1 => ?_)
  · refine Zz9 (fun _ => ?_) (fun h => absurd h (by decide))
    have e : (S.filter fun s => hasV (Zzc, n) v s.v.nd) = S := List.filter_eq_self.2 hno
    refine k l w1 ?_ (hc1.mono fun _ _ h => h.elim) (Nat.le_refl _)
    rw [e]; exact h.chg hc1 (off_no _)
  · have hr1 := h.chg hc1 (off_no _)
    obtain ⟨hrl, ey⟩ := List.getElem?_eq_some_iff.1 hy
    refine Zzi (fun h => by omega) fun _ => ?_
    have e1 : w64 ((r : Int) + 1) = ((r + 1 : Nat) : Int) := by rw [Zzt] <;> omega
    rw [e1]
    refine ⟨fun x y w' t => ∃ (i j : Nat) (X : List SpV), x = i /\ y = j /\ i < j /\ j <= l /\ t = l - j /\ Chg (isB p) w w' /\ Row w' Zze 7 p l c (rows SpV.cells X) /\ X.length = l /\ X.take i = ((S.take j).filter fun s => hasV (Zzc, n) v s.v.nd) /\ X.drop j = S.drop j,
      ⟨_, r, r + 1, S, rfl, rfl, by omega, by omega, rfl, hc1.mono fun _ _ h => h.elim, hr1, hl, ?_, rfl⟩, ?_⟩
    · rw [YaF hy]
      have e2 : ((S.take r).filter fun s => hasV (Zzc, n) v s.v.nd) = S.take r := List.filter_eq_self.2 hno
      rw [e2, hyv]; simp
    rintro x y w2 t ⟨i, j, X, rfl, rfl, hij, hj, rfl, hc2, hr2, hXl, hXt, hXd⟩
    refine Zz6 (fun hlt => ?_) (fun hge => ?_)
    · refine Zzb fun J5 hJ5 => ?_
      have hBj : S[j]? = some S[j] := List.getElem?_eq_getElem (by omega)
      have hXj : X[j]? = S[j]? := by
        have := congrArg (fun z => z[0]?) hXd
        simpa using this
      have k5 : ∀ (i' : Nat) w3 X', i' <= j -> Chg (isB p) w w3 -> Row w3 Zze 7 p l c (rows SpV.cells X') -> X'.length = l -> X'.take i' = ((S.take (j + 1)).filter fun s => hasV (Zzc, n) v s.v.nd) -> X'.drop (j + 1) = S.drop (j + 1) -> J5 (i' : Int) w3 := by
        intro i' w3 X' h0 h1 h2 h3 h4 h5; subst hJ5
        exact ⟨_, by omega, i', j + 1, X', rfl, by rw [Zzt] <;> omega, by omega, by omega, rfl, h1, h2, h3, h4, h5⟩
      clear hJ5
      refine Zzr hr2.sl (Zqd X) (by decide) (by omega) hlt fun a z hpa hz hcs => ?_
      rw [Int.toNat_natCast, hXj, hBj] at hz
      obtain rfl := Option.some.inj hz
      have hzS := hS _ (List.getElem_mem (by omega : j < S.length))
      generalize hgz : S[j] = z at *
      have hzc : ∃ k u l' t ap al ac kp kl kc, z.cells = [.slice z.p z.l z.c, .int .i64 k, .string u, .string l', .slice ap al ac, .slice kp kl kc, .string t] := by
        obtain ⟨zp, zl, zc, zpath, zv⟩ := z
        cases zv with
        | mk k u l' t ap al ac ats kp kl kc ks => exact ⟨_, _, _, _, _, _, _, _, _, _, rfl⟩
      obtain ⟨zk, zu, zl', zt, zap, zal, zac, zkp, zkl, zkc, hze⟩ := hzc
      rw [hze] at hcs
      refine ldSpot hcs ?_
      rw [Yf5]
      refine (Hp.start w2 No).newB fun b7 w4 H4 hb7 hc4 => ?_
      have hone : one1 [.slice z.p z.l z.c, .int .i64 zk, .string zu, .string zl', .slice zap zal zac, .slice zkp zkl zkc, .string zt] := by rw [<- hze]; exact YdC z
      refine H4.stN 0 rfl (off := 0) rfl (by simp) hone fun w5 H5 hc5 => ?_
      simp only [List.set_cons_zero, spl7] at H5
      refine boxSpot H5 0 rfl ?_
      have cpc : ∀ {w'}, Chg (isB p) w w' -> w'.heap[b]? = some (.cells ⟨CV.cells ⟨61, 0, n, v⟩⟩ Zzy (0, 0)) := fun hc' => hc'.heap hc fun hb => offcp _ hb rfl
      have hc25 := hc2.trans0 H5.chg
      rw [<- hze]
      refine CloP_ok (x := z) (hzS.1.chg0 (back hc25)) hzS.2 (cpc hc25) fun w6 hc6 => ?_
      have H6 := H5.step0 hc6
      have hr6 := hr2.chg H6.chg (off_no _)
      have hc06 := hc2.trans0 H6.chg
      rw [Bool.not_not]
      refine Zz9 (fun hkeep => ?_) (fun hdel => ?_)
      · refine boxSpot H6 0 rfl ?_
        rw [<- hze]
        refine Row.stE (Zqd X) hr6 (by omega) (by omega) (x := z) (Zqd [z] z (by simp)) (YdC z) (by decide) fun w7 hr7 hc7 => ?_
        rw [Int.toNat_natCast] at hr7
        have ei : w64 ((i : Int) + 1) = ((i + 1 : Nat) : Int) := by rw [Zzt] <;> omega
        rw [ei]
        refine k5 (i + 1) w7 _ (by omega) (hc06.trans hc7 fun _ _ h => h) hr7 (by rw [List.length_set]; exact hXl) ?_ ?_
        · rw [YaF hBj, <- hXt, if_pos hkeep]
          have hs : (X.set i z)[i]? = some z := by rw [List.getElem?_set_self (by omega)]
          obtain ⟨g1, g2⟩ := List.getElem?_eq_some_iff.1 hs
          rw [List.take_succ_eq_append_getElem g1, g2, List.take_set_of_le (Nat.le_refl _)]
        · rw [List.drop_set_of_lt (by omega)]
          have := congrArg (List.drop 1) hXd
          rw [List.drop_drop, List.drop_drop] at this
          exact this
      · refine k5 i w6 X (by omega) hc06 hr6 hXl ?_ ?_
        · rw [YaF hBj, <- hXt, if_neg (by rw [hdel]; decide)]; simp
        · have := congrArg (List.drop 1) hXd
          rw [List.drop_drop, List.drop_drop] at this
          exact this
    · have hjl : j = l := by omega
      subst hjl
      have hXt' : X.take i = S.filter fun s => hasV (Zzc, n) v s.v.nd := by rw [hXt, List.take_of_length_le (by omega)]
      have hsplit : rows SpV.cells X = rows SpV.cells (X.take i) ++ rows SpV.cells (X.drop i) := by rw [<- ZzL, List.take_append_drop]
      rw [hsplit, hXt'] at hr2
      have hfl : (rows SpV.cells (S.filter fun s => hasV (Zzc, n) v s.v.nd)).length = i * 7 := by
        rw [Zy9 (Zqd _), <- hXt', List.length_take, hXl]; congr 1; omega
      refine clr_row slT_spot (Zzd rfl (Zzd rfl (Zzd rfl (Zzd rfl (Zzd rfl (Zzd rfl (Zzd rfl Zyt))))))) hr2 hfl (by omega) fun w8 hr8 hc8 => ?_
      have hle := hr2.le
      refine slS_pre (hr2.at0 (by omega)) (by omega) (by omega) ?_
      exact k i w8 hr8 (hc2.trans hc8 fun _ _ h => h) (by omega)
end
end Go.Proofs.YtlnfaaghdkngmaaGreatDoor
end
section
namespace Go.Vc
open Go Go.Lib
theorem spKids_len (nd : Bool) : ∀ (ks : List NV) (p : List Int) (i : Nat), (ZxD nd ks p i).length <= ks.length
 | [], _, _ => Nat.le_refl _
 | k :: ks, p, i => by
  have := spKids_len nd ks p (i + 1)
  rw [ZxD, length_append, length_cons]
  split <;> simp <;> omega
theorem kid_ok {w : World} {x : NV} (h : x.Ok w) : ∃ k u l t ap al ac ats kp kl kc ks, x = .mk k u l t ap al ac ats kp kl kc ks /\ Sl w kp kl 6 (rows NV.cells ks) /\ (kp = none -> kl = 0) /\ (∀ y ∈ ks, y.Ok w) /\ ks.length = kl /\ (∀ y ∈ ks, y.mea <= x.mea) /\ kl <= x.mea := by
 cases h with
 | @mk k u l t ap al ac ats kp kl kc ks ha hn hac hk hkn hkc hks =>
  have hl := hk.row (Zzl ks) (by decide)
  refine ⟨k, u, l, t, ap, al, ac, ats, kp, kl, kc, ks, rfl, hk, hkn, hks, hl, fun y hy => ?_, ?_⟩
  ·have := YdG hy; simp only [NV.mea]; omega
  ·have := ZqO ks; simp only [NV.mea]; omega
theorem fresh_of_off {w : World} {p q : Option Addr} (h : fresh w p) (ho : ∀ S, off p S -> off q S) : fresh w q := fun a ha =>
 Nat.le_of_not_lt (ho (fun b => b < w.heap.size) (fun a ha => Nat.not_lt_of_le (h a ha)) a ha)
theorem typ_of_off {w : World} {p q : Option Addr} {e : TypeId} (h : ∀ a, p = some a -> typ w a.block = some e) (ho : ∀ S, off p S -> off q S) : ∀ a, q = some a -> typ w a.block = some e := fun a ha =>
 Classical.byContradiction fun hn => ho (fun b => typ w b ≠ some e) (fun a ha hn => hn (h a ha)) a ha hn
def NV.kidsV : NV -> List NV | .mk _ _ _ _ _ _ _ _ _ _ _ ks => ks
end Go.Vc
namespace Go.Proofs.YtlnfaaghdkngmaaGreatDoor
open Go Go.Vc Go.Lib
def ofV (nd : Bool) (cs : List Cd) (x : NV) (p : List Int) : List (List Int × NV) := condL cs (ZxD nd x.kidsV p 0)
section
variable {w w' : World}
structure SpsOk (w0 w : World) (S : List SpV) : Prop where
 path : ∀ y ∈ S, PathOk w y
 fr : ∀ y ∈ S, fresh w0 y.p
 ok : ∀ y ∈ S, y.v.Ok w0 /\ y.v.mea <= 100000000
theorem SpsOk.nil (w0 w : World) : SpsOk w0 w [] := ⟨by simp, by simp, by simp⟩
theorem SpsOk.app {w0 : World} {S U : List SpV} (h : SpsOk w0 w S) (k : SpsOk w0 w U) : SpsOk w0 w (S ++ U) :=
 ⟨fun y hy => (mem_append.1 hy).elim (h.path y) (k.path y), fun y hy => (mem_append.1 hy).elim (h.fr y) (k.fr y), fun y hy => (mem_append.1 hy).elim (h.ok y) (k.ok y)⟩
theorem SpsOk.sub {w0 : World} {S U : List SpV} (h : SpsOk w0 w S) (k : ∀ y ∈ U, y ∈ S) : SpsOk w0 w U :=
 ⟨fun y hy => h.path y (k y hy), fun y hy => h.fr y (k y hy), fun y hy => h.ok y (k y hy)⟩
theorem SpsOk.chg {w0 : World} {S : List SpV} {X : Nat -> Prop} (h : SpsOk w0 w S) (hc : Chg X w w') (hX : ∀ b, X b -> typ w b ≠ some ZqJ) : SpsOk w0 w' S :=
 ⟨fun y hy => (h.path y hy).chg hc fun a ha hb => hX _ hb ((h.path y hy).typ a ha), h.fr, h.ok⟩
theorem SpsOk.chg0 {w0 : World} {S : List SpV} (h : SpsOk w0 w S) (hc : Chg No w w') : SpsOk w0 w' S := h.chg hc fun _ f => f.elim
theorem SpsOk.up {w0 w1 : World} {S : List SpV} (h : SpsOk w1 w S) (h1 : w0.heap.size <= w1.heap.size) (hv : ∀ y ∈ S, y.v.Ok w0) : SpsOk w0 w S :=
 ⟨h.path, fun y hy a ha => Nat.le_trans h1 (h.fr y hy a ha), fun y hy => ⟨hv y hy, (h.ok y hy).2⟩⟩
def OfTail (b7 : Nat) (cs : List Value) (lp : Option Addr) (ll lc : Nat) (J : Option Addr -> Nat -> Nat -> World -> Prop) (qp : Option Addr) (ql qc : Nat) (w10 : World) : Prop :=
 Zzn w10 ⟨b7, 0, none⟩ cs /\ Array.size (⟨cs⟩ : Array Value) = 6 /\ Array.size (⟨.slice qp ql qc :: cs⟩ : Array Value) = 7 /\
 newB w10 (.cells ⟨.slice qp ql qc :: cs⟩ Zze) fun b31 w11 => YcO Tryz.prog ZzU ZzU (.slice lp ll lc) (.slice (some ⟨b31, 0, none⟩) 1 1) w11 J
set_option maxHeartbeats 4000000 in
theorem Of_ok {s : StV} {d nd : Bool} {cs : List Cd} {x : SpV} {J : Option Addr -> Nat -> Nat -> World -> Prop} (hs : (Sp.all d nd cs).Is s) (hcs : cs.length <= 1) (hF : ∀ c ∈ cs, c.Fit) (hst : Sl w s.p s.l 6 (rows CV.cells s.cs))
  (hx : x.v.Ok w) (hm : x.v.mea <= 100000000) (hp : Sl w x.p x.l 1 (rows YbS x.path)) (hpn : x.p = none -> x.l = 0) (hpl : x.l <= 200000000)
  (K : ∀ p l c S w', Sl w' p l 7 (rows SpV.cells S) -> (p = none -> l = 0) -> l <= c -> fresh w p -> (∀ a, p = some a -> typ w' a.block = some Zze) -> (cs = [] \/ (∃ n v, cs = [.eq n v]) -> Row w' Zze 7 p l c (rows SpV.cells S)) -> SpsOk w w' S -> S.map SpV.pr = ofV nd cs x.v x.path -> Chg No w w' -> J p l c w') :
  Zz1 Tryz.prog Yb4 #[.agg ⟨s.cells⟩, .agg ⟨x.cells⟩] w [.one .slice] J := by
 obtain ⟨sd, sa, st, sn, sp, sl, sc, scs⟩ := s
 obtain ⟨xp, xl, xc, xpath, xv⟩ := x
 obtain ⟨k, u, l', t, ap, al, ac, ats, kp, kl, kc, ks, rfl, hk, hkn, hks, hkl, hkm, hklm⟩ := kid_ok hx
 obtain ⟨rfl, rfl, hst2, hcs2⟩ := hs
 simp only at hst2 hcs2 hp hpn hpl hst
 replace hm : (NV.mk k u l' t ap al ac ats kp kl kc ks).mea <= 100000000 := hm
 replace hklm : kl <= (NV.mk k u l' t ap al ac ats kp kl kc ks).mea := hklm
 replace hkm : ∀ y ∈ ks, y.mea <= (NV.mk k u l' t ap al ac ats kp kl kc ks).mea := hkm
 subst hst2 hcs2
 have hof : ofV nd cs (NV.mk k u l' t ap al ac ats kp kl kc ks) xpath = condL cs (ZxD nd ks xpath 0) := rfl
 refine c_pick_step_of ?_
 refine (Hp.start w No).newB fun b2 w1 H1 hb2 hc1 => ?_
 refine H1.newB fun b3 w2 H2 hb3 hc2 => ?_
 have hb2l : b2 < w2.heap.size := H2.lt 1 rfl
 have hb3l : b3 < w2.heap.size := H2.lt 0 rfl
 have hw2 := H2.chg.size
 refine H2.ldS 0 rfl (off := 5) rfl ?_
 simp only [SpV.cells, NV.cells, StV.cells] at H2
 generalize hXC : ([.slice xp xl xc, .int .i64 k, .string u, .string l', .slice ap al ac, .slice kp kl kc, .string t] : List Value) = XC at *
 generalize hSC : ([.bool sd, .bool false, .string (if nd = true then YaZ else kStar), .string ByteArray.empty, .string sn, .slice sp sl sc] : List Value) = SC at *
 refine ⟨fun lp ll lc i w' m => ∃ (j : Nat) (S : List SpV), i = j /\ j <= kl /\ m = kl - j /\ Hp w No w' [⟨b3, XC, Zze⟩, ⟨b2, SC, Zzf⟩] /\
   Row w' Zze 7 lp ll lc (rows SpV.cells S) /\ fresh w2 lp /\ SpsOk w w' S /\ S.map SpV.pr = ZxD nd (ks.take j) xpath 0 /\ w2.heap.size <= w'.heap.size,
  ⟨_, 0, [], rfl, Nat.zero_le _, rfl, H2, Row.nil _ _ _, (by rintro a ⟨⟩), SpsOk.nil _ _, rfl, Nat.le_refl _⟩, ?_⟩
 rintro lp ll lc i w3 m ⟨j, S, rfl, hj, rfl, H3, hrow, hfr, hSok, hSm, hsz23⟩
 have hll : S.length = ll := hrow.sl.row (Zqd S) (by decide)
 have hlen : ll <= kl := by
  have h1 := congrArg length hSm
  rw [length_map] at h1
  have h2 := spKids_len nd (ks.take j) xpath 0
  rw [length_take] at h2
  omega
 refine Zz6 (fun hlt => ?_) (fun hge => ?_)
 · -- a kid
  refine Zzb fun J5 hJ5 => ?_
  have hkj : ks[j]? = some ks[j] := getElem?_eq_getElem (by omega)
  have htake : ks.take (j + 1) = ks.take j ++ [ks[j]] := take_succ_eq_append_getElem (by omega)
  have k5 : ∀ (lp' : Option Addr) (ll' lc' : Nat) (S' : List SpV) (w' : World), Hp w No w' [⟨b3, XC, Zze⟩, ⟨b2, SC, Zzf⟩] -> Row w' Zze 7 lp' ll' lc' (rows SpV.cells S') -> fresh w2 lp' -> SpsOk w w' S' -> S'.map SpV.pr = ZxD nd (ks.take (j + 1)) xpath 0 -> w2.heap.size <= w'.heap.size -> J5 lp' ll' lc' w' := by
   intro lp' ll' lc' S' w' g1 g2 g3 g4 g5 g6; subst hJ5
   exact ⟨_, by omega, j + 1, S', by rw [Zzt] <;> omega, by omega, rfl, g1, g2, g3, g4, g5, g6⟩
  clear hJ5
  have hkid := hks _ (mem_of_getElem? hkj)
  have hkidm := hkm _ (mem_of_getElem? hkj)
  refine Zzr (hk.chg H3.chg (off_no _)) (Zzl ks) (by decide) (by omega) hlt fun a z hpa hz hcells => ?_
  rw [Int.toNat_natCast, hkj] at hz
  obtain rfl := Option.some.inj hz
  generalize hgz : ks[j] = z at *
  have hzc : ∃ zk zu zl zt zap zal zac zkp zkl zkc, z.cells = [.int .i64 zk, .string zu, .string zl, .slice zap zal zac, .slice zkp zkl zkc, .string zt] := by
   cases z with
   | mk k u l' t ap al ac ats kp kl kc ks => exact ⟨_, _, _, _, _, _, _, _, _, _, rfl⟩
  obtain ⟨zk, zu, zl', zt, zap, zal, zac, zkp, zkl, zkc, hze⟩ := hzc
  rw [hze] at hcells
  refine ldNode hcells ?_
  rw [YbC]
  have hone : one1 [.int .i64 zk, .string zu, .string zl', .slice zap zal zac, .slice zkp zkl zkc, .string zt] := by rw [<- hze]; exact Zy6 z
  refine H3.newB fun b7 w5 H5 hb7 hc5 => ?_
  refine H5.stN 0 rfl (off := 0) rfl (by simp) hone fun w6 H6 hc6 => ?_
  simp only [set_cons_zero, spl6] at H6
  have hc36 : Chg No w3 w6 := hc5.trans hc6 fun b hb e => by subst e; omega
  rw [<- hSC] at H6
  refine H6.ldB 2 rfl (off := 0) rfl ?_
  refine H6.ldB 2 rfl (off := 1) rfl ?_
  refine H6.ldStr 2 rfl (off := 2) rfl ?_
  refine H6.ldStr 2 rfl (off := 3) rfl ?_
  refine H6.ldStr 2 rfl (off := 4) rfl ?_
  refine H6.ldS 2 rfl (off := 5) rfl ?_
  refine Zq8 H6 0 rfl ?_
  rw [<- hze]
  refine Fits_ok (s := ⟨sd, false, if nd = true then YaZ else kStar, sn, sp, sl, sc, cs.map Cd.cv⟩) (x := z) rfl fun w7 hc7 => ?_
  have H7 := H6.step0 hc7
  have hc37 := hc36.trans0 hc7
  have base : ∀ {w'}, Hp w No w' [⟨b7, [.int .i64 zk, .string zu, .string zl', .slice zap zal zac, .slice zkp zkl zkc, .string zt], Zz3⟩, ⟨b3, XC, Zze⟩, ⟨b2, [.bool sd, .bool false, .string (if nd = true then YaZ else kStar), .string ByteArray.empty, .string sn, .slice sp sl sc], Zzf⟩] ->
    Hp w No w' [⟨b3, XC, Zze⟩, ⟨b2, SC, Zzf⟩] := fun H => by
   have := H.sub (sublist_cons_self _ _)
   rw [hSC] at this; exact this
  refine Zz9 (fun hfit => ?_) (fun hno => ?_)
  rotate_left
  ·refine k5 lp ll lc S w7 (base H7) (hrow.chg hc37 (off_no _)) hfr (hSok.chg0 hc37) ?_ (by have := hc37.size; omega)
   rw [htake, Ydy, if_neg (by rw [hno]; decide), append_nil]; exact hSm
  have H7d := H7.drew
  have hc37d : Chg No w3 w7.drew := hc37.drew
  rw [<- hXC] at H7d
  refine H7d.ldS 1 rfl (off := 0) rfl ?_
  refine Zq8 H7d 0 rfl ?_
  rw [hXC] at H7d
  have hpath7 : Sl w7.drew xp xl 1 (rows YbS xpath) := hp.chg H7d.chg (off_no _)
   -- behind the path
  have tail : ∀ (w10 : World) (qp : Option Addr) (qc : Nat), Chg No w7.drew w10 -> Row w10 ZqJ 1 qp (xl + 1) qc (rows YbS (xpath ++ [(j : Int)])) -> fresh w2 qp ->
    OfTail b7 [.int .i64 zk, .string zu, .string zl', .slice zap zal zac, .slice zkp zkl zkc, .string zt] lp ll lc J5 qp (xl + 1) qc w10 := by
   intro w10 qp qc hc10 hrq hfq
   have H10 := H7d.step0 hc10
   have hr10 := hrow.chg (hc37d.trans0 hc10) (off_no _)
   have hS10 := hSok.chg0 (hc37d.trans0 hc10)
   refine ⟨H10.cells 0 rfl 0, rfl, rfl, ?_⟩
   have hce : (.slice qp (xl + 1) qc :: [.int .i64 zk, .string zu, .string zl', .slice zap zal zac, .slice zkp zkl zkc, .string zt] : List Value) = SpV.cells ⟨qp, xl + 1, qc, xpath ++ [(j : Int)], z⟩ := by unfold SpV.cells; rw [hze]
   rw [hce]
   refine newRow (sz := 7) (n := 1) (Zqd [⟨qp, xl + 1, qc, xpath ++ [(j : Int)], z⟩] _ (by simp)) (by decide) fun b31 w11 hr11 hb31 hc11 => ?_
   have H11 := H10.step0 hc11
   refine Zq4 slT_spot (hr10.chg hc11 (off_no _)) hr11.sl (YdC _) (by simp) (by omega) (by simp only [maxLen]; omega) fun p12 c12 w12 hr12 hc12 hf12 => ?_
   have ty := (hr10.chg hc11 (off_no _)).typ
   have H12 : Hp w No w12 [⟨b3, XC, Zze⟩, ⟨b2, SC, Zzf⟩] := (base H11).step hc12 (fun y hy => by
    rintro ⟨a, ha, eb⟩
    have h1 := hfr a ha
    simp only [mem_cons, not_mem_nil, or_false] at hy
    rcases hy with rfl | rfl
    ·simp only at eb; omega
    ·simp only at eb; omega) (fun b hb => by
    rintro ⟨a, ha, rfl⟩
    have := hfr a ha
    omega)
   refine k5 p12 (ll + 1) c12 (S ++ [⟨qp, xl + 1, qc, xpath ++ [(j : Int)], z⟩]) w12 H12 ?_ ?_ ?_ ?_ (by have := hc12.size; have := hc11.size; have := hc10.size; have := hc37d.size; omega)
   ·rw [ZzL]
    have e1 : rows SpV.cells [⟨qp, xl + 1, qc, xpath ++ [(j : Int)], z⟩] = SpV.cells ⟨qp, xl + 1, qc, xpath ++ [(j : Int)], z⟩ := by simp [rows]
    rw [e1]; exact hr12
   ·rcases hf12 with rfl | hf
    ·exact hfr
    ·intro a ha
     have := hf a ha
     have e1 := H11.chg.size
     have e2 := (hc37d.trans0 hc10).size
     have e3 := hc11.size
     have e4 := hc10.size
     have e5 := hc37d.size
     omega
   ·have hnew : SpsOk w w11 [⟨qp, xl + 1, qc, xpath ++ [(j : Int)], z⟩] := ⟨fun y hy => by
      rw [mem_singleton] at hy; subst hy
      exact hrq.chg hc11 (off_no _), fun y hy a ha => by
      rw [mem_singleton] at hy; subst hy
      have := hfq a ha
      omega, fun y hy => by
      rw [mem_singleton] at hy; subst hy
      exact ⟨hkid, by simp only; omega⟩⟩
    refine ((hS10.chg0 hc11).app hnew).chg hc12 ?_
    rintro b ⟨a, ha, rfl⟩
    rw [ty a ha]; decide
   ·rw [htake, Ydy, if_pos hfit, map_append, hSm, length_take, Nat.min_eq_left (by omega), Nat.zero_add]
    rfl
  have frw : ∀ {wx : World} {q : Option Addr}, Chg No w7.drew wx -> fresh wx q -> fresh w2 q := fun {wx q} hc hf a ha => by
   have h1 := hf a ha
   have h2 := hc.size
   have h3 := hc37d.size
   omega
  refine ⟨?_, ?_⟩
  ·refine CloneI_ok hpath7 hpn (by omega) fun p8 c8 w8 hr8 hf8 hc8 => ?_
   have H8 := H7d.step0 hc8
   refine ⟨H8.cells 0 rfl 0, ?_⟩
   refine newRow (sz := 1) (n := 1) rfl (by decide) fun b27 w9 hr9 hb27 hc9 => ?_
   have H9 := H8.step0 hc9
   refine ⟨H9.cells 0 rfl 0, by rw [<- hXC] at H9; exact H9.cell 1 rfl rfl, ?_⟩
   refine Zq4 Ygk (hr8.chg hc9 (off_no _)) hr9.sl (Zzd rfl Zyt) (by simp) (by omega) (by simp only [maxLen]; omega) fun p10 c10 w10 hr10 hc10 hf10 => ?_
   have hc710 : Chg No w7.drew w10 := (hc8.trans0 hc9).trans hc10 fun b hb => by
    rintro ⟨a, ha, rfl⟩
    have := hf8 a ha
    omega
   refine tail w10 p10 c10 hc710 ?_ ?_
   ·rw [ZzL]; exact hr10
   ·rcases hf10 with rfl | hf
    ·exact frw (Chg.refl _ _) hf8
    ·exact frw (hc8.trans0 hc9) hf
  ·refine newRow (sz := 1) (n := 1) rfl (by decide) fun b27 w8 hr8 hb27 hc8 => ?_
   have H8 := H7d.step0 hc8
   refine ⟨H8.cells 0 rfl 0, by rw [<- hXC] at H8; exact H8.cell 1 rfl rfl, ?_⟩
   refine CloneI_ok (hpath7.chg hc8 (off_no _)) hpn (by omega) fun p9 c9 w9 hr9 hf9 hc9 => ?_
   have H9 := H8.step0 hc9
   refine ⟨H9.cells 0 rfl 0, ?_⟩
   refine Zq4 Ygk hr9 (hr8.chg hc9 (off_no _)).sl (Zzd rfl Zyt) (by simp) (by omega) (by simp only [maxLen]; omega) fun p10 c10 w10 hr10 hc10 hf10 => ?_
   have hc710 : Chg No w7.drew w10 := (hc8.trans0 hc9).trans hc10 fun b hb => by
    rintro ⟨a, ha, rfl⟩
    have := hf9 a ha
    have := hc8.size
    omega
   refine tail w10 p10 c10 hc710 ?_ ?_
   ·rw [ZzL]; exact hr10
   ·rcases hf10 with rfl | hf
    ·exact frw hc8 hf9
    ·exact frw (hc8.trans0 hc9) hf
 · -- the conditions
  have hjk : j = kl := by omega
  subst hjk
  rw [take_of_length_le (by omega)] at hSm
  have hlv : ∀ y ∈ S, y.v.Ok w /\ y.v.mea <= 100000000 := hSok.ok
  have hfrw : fresh w lp := fun a ha => by have := hfr a ha; omega
  rw [<- hSC] at H3
  refine H3.ldS 1 rfl (off := 5) rfl ?_
  have hslen := hst.row (even_cv _) (by decide)
  rw [length_map] at hslen
  refine ⟨fun lp' ll' lc' i w' m => (i = 0 /\ m = 1 /\ lp' = lp /\ ll' = ll /\ lc' = lc /\ w' = w3) \/
    (i = (sl : Int) /\ m = 0 /\ ∃ S', Sl w' lp' ll' 7 (rows SpV.cells S') /\ (lp' = none -> ll' = 0) /\ ll' <= lc' /\ fresh w lp' /\ (∀ a, lp' = some a -> typ w' a.block = some Zze) /\ (cs = [] \/ (∃ n v, cs = [.eq n v]) -> Row w' Zze 7 lp' ll' lc' (rows SpV.cells S')) /\ SpsOk w w' S' /\ S'.map SpV.pr = condL cs (ZxD nd ks xpath 0) /\ Chg No w w'),
   ⟨1, .inl ⟨rfl, rfl, rfl, rfl, rfl, rfl⟩⟩, ?_⟩
  rintro lp' ll' lc' i w18 m h18
  have done : ∀ {lp' ll' lc' w'}, (∃ S', Sl w' lp' ll' 7 (rows SpV.cells S') /\ (lp' = none -> ll' = 0) /\ ll' <= lc' /\ fresh w lp' /\ (∀ a, lp' = some a -> typ w' a.block = some Zze) /\ (cs = [] \/ (∃ n v, cs = [.eq n v]) -> Row w' Zze 7 lp' ll' lc' (rows SpV.cells S')) /\ SpsOk w w' S' /\ S'.map SpV.pr = condL cs (ZxD nd ks xpath 0) /\ Chg No w w') -> J lp' ll' lc' w' := by
   rintro lp' ll' lc' w' ⟨S', g1, g2, g3, g4, g5, g6, g7, g8, g9⟩
   exact K lp' ll' lc' S' w' g1 g2 g3 g4 g5 g6 g7 (by rw [hof]; exact g8) g9
  rcases h18 with ⟨rfl, rfl, rfl, rfl, rfl, rfl⟩ | ⟨rfl, rfl, h18⟩
  rotate_left
  ·refine Zz6 (fun h => by omega) (fun _ => done h18)
  have hle := hrow.le
  cases cs with
  | nil =>
   simp only [length_nil] at hslen
   refine Zz6 (fun h => by omega) (fun _ => done ?_)
   exact ⟨S, hrow.sl, hrow.none0, hle.1, hfrw, hrow.typ, fun _ => hrow, hSok, hSm, H3.chg⟩
  | cons c0 rest =>
   have hrest : rest = [] := by
    cases rest with
    | nil => rfl
    | cons _ _ => simp at hcs
   subst hrest
   simp only [length_cons, length_nil] at hslen
   have hc0F : c0.Fit := hF c0 (by simp)
   refine Zz6 (fun _ => ?_) (fun h => by omega)
   refine Zzb fun J5 hJ5 => ?_
   have k5 : ∀ {lp' ll' lc' w'}, (∃ S', Sl w' lp' ll' 7 (rows SpV.cells S') /\ (lp' = none -> ll' = 0) /\ ll' <= lc' /\ fresh w lp' /\ (∀ a, lp' = some a -> typ w' a.block = some Zze) /\ ([c0] = [] \/ (∃ n v, [c0] = [.eq n v]) -> Row w' Zze 7 lp' ll' lc' (rows SpV.cells S')) /\ SpsOk w w' S' /\ S'.map SpV.pr = condL [c0] (ZxD nd ks xpath 0) /\ Chg No w w') -> J5 lp' ll' lc' w' := by
    intro lp' ll' lc' w' h; subst hJ5
    exact ⟨0, by decide, .inr ⟨by rw [<- hslen]; decide, rfl, h⟩⟩
   clear hJ5
   refine Zzr (hst.chg H3.chg (off_no _)) (even_cv _) (by decide) (by decide) (by omega) fun a z hpa hz hcells => ?_
   simp only [map_cons, map_nil, Int.toNat_zero, getElem?_cons_zero, Option.some.injEq] at hz
   subst hz
   simp only [Int.toNat_zero, Nat.zero_mul] at hcells ⊢
   refine Zyz (Zzo hcells) (Zyz (hcells 1 _ rfl) (ZzQ (hcells 2 _ rfl) (ZzQ (hcells 3 _ rfl) (ZzQ (hcells 4 _ rfl) (ldV_i (hcells 5 _ rfl) ?_)))))
   rw [Yf6]
   refine H3.newB fun b9 w20 H20 hb9 hc20 => ?_
   refine H20.stN 0 rfl (off := 0) rfl (by simp) (Yfd c0.cv) fun w21 H21 hc21 => ?_
   simp only [set_cons_zero, spl6] at H21
   have hc321 : Chg No w18 w21 := hc20.trans hc21 fun b hb e => by subst e; omega
   have hr21 := hrow.chg hc321 (off_no _)
   have hS21 := hSok.chg0 hc321
   cases c0 with
   | eq n v =>
    change Hp w No w21 (⟨b9, [.int .u8 61, .int .i64 0, .string ByteArray.empty, .string n, .string v, .complex .f64 0 0], Zzy⟩ :: _) at H21
    refine H21.ldI 0 rfl (off := 0) rfl ?_
    refine Zzw (fun _ => ?_) (fun h => absurd h (by decide))
    refine SpDel_ok hr21 (by omega) H21.chg hfrw hlv (H21.get 0 rfl) fun l22 w22 hr22 hc22 hl22 => ?_
    refine k5 ⟨_, hr22.sl, hr22.none0, hr22.le.1, hfrw, hr22.typ, fun _ => hr22, ?_, ?_, ?_⟩
    ·refine (hS21.chg hc22 ?_).sub fun y hy => (mem_filter.1 hy).1
     rintro b ⟨a, ha, rfl⟩
     rw [hr21.typ a ha]; decide
    ·show _ = (ZxD nd ks xpath 0).filter _
     rw [<- hSm, filter_map]; rfl
    ·exact H21.chg.trans hc22 fun b hb => by
      rintro ⟨a, ha, rfl⟩
      have := hfrw a ha
      omega
   | idx ds kk =>
    obtain ⟨f1, f2, f3, f4, f5⟩ := hc0F
    have hk1 : 1 <= kk := by
     obtain ⟨d0, dr, hds⟩ := exists_cons_of_ne_nil f1
     rw [<- f5, hds]
     have hd0 := f3 d0 (by rw [hds]; simp)
     have hd1 : d0 ≠ 48 := by intro e; rw [hds, e] at f4; exact f4 rfl
     have hd2 : d0.toNat ≠ 48 := by intro e; exact hd1 (UInt8.toNat_inj.1 e)
     have hge : ∀ (r : List UInt8) (a : Nat), a <= r.foldl (fun a d => 10 * a + (d.toNat - 48)) a := by
      intro r
      induction r with
      | nil => intro a; exact Nat.le_refl _
      | cons y r ih => intro a; rw [foldl_cons]; have := ih (10 * a + (y.toNat - 48)); omega
     have := hge dr (10 * 0 + (d0.toNat - 48))
     unfold valD
     rw [foldl_cons]; omega
    have hk6 : kk < 1000000 := by
     rw [<- f5]
     have := valD_lt ds f3
     have h3 : 10 ^ ds.length <= 10 ^ 6 := Nat.pow_le_pow_right (by decide) f2
     omega
    change Hp w No w21 (⟨b9, [.int .u8 91, .int .i64 (kk : Int), .string ByteArray.empty, .string ByteArray.empty, .string ByteArray.empty, .complex .f64 0 0], Zzy⟩ :: _) at H21
    refine H21.ldI 0 rfl (off := 0) rfl ?_
    refine Zzw (fun h => absurd rfl h) (fun _ => ?_)
    refine H21.ldI 0 rfl (off := 1) rfl ?_
    have hml : S.length = (ZxD nd ks xpath 0).length := by rw [<- hSm, length_map]
    refine Zz6 (fun hgt => ?_) (fun hle2 => ?_)
    ·refine K none 0 0 [] w21 (Sl.nil _ _ _) (fun _ => rfl) (Nat.le_refl _) (by rintro a ⟨⟩) (by rintro a ⟨⟩) (fun _ => Row.nil _ _ _) (SpsOk.nil _ _) ?_ H21.chg
     rw [hof]
     show [] = if kk > _ then [] else _
     rw [if_pos (by omega)]
    ·refine H21.ldI 0 rfl (off := 1) rfl ?_
     refine H21.ldI 0 rfl (off := 1) rfl ?_
     rw [Zzt (by omega) (by omega), show (kk : Int) - 1 = ((kk - 1 : Nat) : Int) by omega]
     refine slS_sl (i := kk - 1) (j := kk) hr21.sl rfl rfl (by omega) (by omega) hle.1 fun q hq ho => ?_
     have hqe : ((rows SpV.cells S).drop ((kk - 1) * 7)).take ((kk - (kk - 1)) * 7) = rows SpV.cells ((S.drop (kk - 1)).take 1) := by
      rw [YaX (Zqd S), show kk - (kk - 1) = 1 by omega, YaW ((Zqd S).drop _)]
     rw [hqe] at hq
     have hq0 : q = none -> kk - (kk - 1) = 0 := fun h0 => by
      exfalso
      rcases hq.2 with h1 | ⟨a, ha, _⟩
      ·omega
      ·rw [h0] at ha; cases ha
     refine k5 ⟨_, hq, hq0, by omega, ?_, ?_, ?_, hS21.sub fun y hy => mem_of_mem_drop (mem_of_mem_take hy), ?_, H21.chg⟩
     ·exact fresh_of_off hfrw ho
     ·exact typ_of_off hr21.typ ho
     ·rintro (h | ⟨n, v, h⟩)
      ·cases h
      ·cases h
     ·show _ = if kk > _ then [] else _
      rw [if_neg (by omega), <- hSm, <- map_drop, <- map_take]
end
end Go.Proofs.YtlnfaaghdkngmaaGreatDoor
end
section
namespace Go.Proofs
open Go.Shelf
def Tryz.lays6_ren : Go.Shelf.Ren := ⟨fun | 6 => 25 | 14 => 73 | 15 => 74 | 20 => 133 | 21 => 134 | 22 => 135 | 23 => 136 | 24 => 137 | 25 => 138 | 26 => 139 | 27 => 140 | 28 => 141 | 29 => 142 | 46 => 202 | 47 => 203 | 48 => 204 | 49 => 205 | 50 => 206 | 57 => 261 | n => n, fun | 0 => 0 | 3 => 3 | 4 => 4 | 5 => 5 | 9 => 9 | 22 => 64 | 24 => 63 | 25 => 73 | 39 => 147 | 45 => 194 | 46 => 195 | 50 => 177 | 53 => 201 | 55 => 203 | 66 => 263 | 70 => 267 | 76 => 343 | 77 => 344 | n => n, fun | n => n⟩
theorem Tryz.lays6 : Go.Proofs.SlLaysF0.n6 Tryz.prog Tryz.lays6_ren where
 mixed := by kernel_rfl
 f6 := ⟨(Tryz.f25).name, by kernel_rfl, by kernel_rfl⟩
 f14 := ⟨(Tryz.f73).name, by kernel_rfl, by kernel_rfl⟩
 f15 := by kernel_rfl
 f20 := ⟨(Tryz.f133).name, by kernel_rfl, by kernel_rfl⟩
 f21 := ⟨(Tryz.f134).name, by kernel_rfl, by kernel_rfl⟩
 f22 := ⟨(Tryz.f135).name, by kernel_rfl, by kernel_rfl⟩
 f23 := ⟨(Tryz.f136).name, by kernel_rfl, by kernel_rfl⟩
 f24 := ⟨(Tryz.f137).name, by kernel_rfl, by kernel_rfl⟩
 f25 := ⟨(Tryz.f138).name, by kernel_rfl, by kernel_rfl⟩
 f26 := ⟨(Tryz.f139).name, by kernel_rfl, by kernel_rfl⟩
 f27 := ⟨(Tryz.f140).name, by kernel_rfl, by kernel_rfl⟩
 f28 := by kernel_rfl
 f29 := by kernel_rfl
 f46 := ⟨(Tryz.f202).name, by kernel_rfl, by kernel_rfl⟩
 f47 := by kernel_rfl
 f48 := by kernel_rfl
 f49 := ⟨(Tryz.f205).name, by kernel_rfl, by kernel_rfl⟩
 f50 := ⟨(Tryz.f206).name, by kernel_rfl, by kernel_rfl⟩
 f57 := ⟨(Tryz.f261).name, by kernel_rfl, by kernel_rfl⟩
 t0 := by kernel_rfl
 a0 := fun w => by kernel_rfl
 z0 := fun w => by kernel_rfl
 v0 := fun w => by kernel_rfl
 t3 := by kernel_rfl
 a3 := fun w => by kernel_rfl
 z3 := fun w => by kernel_rfl
 v3 := fun w => by kernel_rfl
 t4 := by kernel_rfl
 a4 := fun w => by kernel_rfl
 z4 := fun w => by kernel_rfl
 v4 := fun w => by kernel_rfl
 t5 := by kernel_rfl
 a5 := fun w => by kernel_rfl
 z5 := fun w => by kernel_rfl
 v5 := fun w => by kernel_rfl
 t9 := by kernel_rfl
 a9 := fun w => by kernel_rfl
 z9 := fun w => by kernel_rfl
 v9 := fun w => by kernel_rfl
 t22 := by kernel_rfl
 a22 := fun w => by kernel_rfl
 z22 := fun w => by kernel_rfl
 v22 := fun w => by kernel_rfl
 t25 := by kernel_rfl
 a25 := fun w => by kernel_rfl
 z25 := fun w => by kernel_rfl
 v25 := fun w => by kernel_rfl
 t39 := by kernel_rfl
 a39 := fun w => by kernel_rfl
 z39 := fun w => by kernel_rfl
 v39 := fun w => by kernel_rfl
 t45 := by kernel_rfl
 a45 := fun w => by kernel_rfl
 z45 := fun w => by kernel_rfl
 v45 := fun w => by kernel_rfl
 t46 := by kernel_rfl
 a46 := fun w => by kernel_rfl
 z46 := fun w => by kernel_rfl
 v46 := fun w => by kernel_rfl
 t50 := by kernel_rfl
 a50 := fun w => by kernel_rfl
 z50 := fun w => by kernel_rfl
 v50 := fun w => by kernel_rfl
 t53 := by kernel_rfl
 a53 := fun w => by kernel_rfl
 z53 := fun w => by kernel_rfl
 v53 := fun w => by kernel_rfl
 t55 := by kernel_rfl
 a55 := fun w => by kernel_rfl
 z55 := fun w => by kernel_rfl
 v55 := fun w => by kernel_rfl
 t66 := by kernel_rfl
 a66 := fun w => by kernel_rfl
 z66 := fun w => by kernel_rfl
 v66 := fun w => by kernel_rfl
 t70 := by kernel_rfl
 a70 := fun w => by kernel_rfl
 z70 := fun w => by kernel_rfl
 v70 := fun w => by kernel_rfl
 t76 := by kernel_rfl
 a76 := fun w => by kernel_rfl
 z76 := fun w => by kernel_rfl
 v76 := fun w => by kernel_rfl
 t77 := by kernel_rfl
 a77 := fun w => by kernel_rfl
 z77 := fun w => by kernel_rfl
 v77 := fun w => by kernel_rfl
end Go.Proofs
end
section
namespace Go.Proofs.YtlnfaaghdkngmaaGreatDoor
open Go Go.Vc
theorem Zxa {a : Option Addr} {b c : Nat} {w : World} {J : World -> Prop} (h :
 Zz1 Tryz.prog Yaz #[.int .u64 (IntKind.u64.wrap (b : Int))] w [.one (.int .i64)] fun d e =>
 Zz1 Tryz.prog ZzK #[.slice a b c, .int .i64 0, .int .i64 (b : Int), .int .i64 d, .func (.func 26) #[] #[]] e [] fun f =>
 J f) : Zz1 Tryz.prog ZzM #[.slice a b c, .func (.func 26) #[] #[]] w [] J := Zz5 Tryz.func25 (.s .o .o) (Eq.mpr (by kernel_rfl) h)
theorem ZxS {a : Option Addr} {b c : Nat} {d e f : Int} {w : World} {J : World -> Prop} (h :
 ∃ bp : Int -> Int -> Int -> Bool -> Bool -> World -> Nat -> Prop, (∃ bq, bp d e f true true w bq) /\ ∀ (d : Int) (e : Int) (f : Int) (bb : Bool) (bc : Bool) (bd : World) (bq : Nat), bp d e f bb bc bd bq -> (
 Zz2 (decide ((w64 (e - d)) <= (12 : Int))) (
 Zz1 Tryz.prog Zyj #[.slice a b c, .int .i64 d, .int .i64 e, .func (.func 26) #[] #[]] bd [] fun g =>
 J g) (
 Zz2 (f == (0 : Int)) (
 Zz1 Tryz.prog Zqu #[.slice a b c, .int .i64 d, .int .i64 e, .func (.func 26) #[] #[]] bd [] fun i =>
 J i) (
 Zzj (fun (be : Int) (bf : World) =>
 Zz1 Tryz.prog ZxY #[.slice a b c, .int .i64 d, .int .i64 e, .func (.func 26) #[] #[]] bf [.one (.int .i64), .one (.int .i64)] fun j k l =>
 Zzj (fun (bg : Int) (bi : Int) (bj : World) =>
 Zzj (fun (bk : World) =>
 Zzj (fun (bl : Bool) (bm : World) =>
 Zz2 bl (
 Zz1 Tryz.prog ZxH #[.slice a b c, .int .i64 d, .int .i64 e, .int .i64 bg, .func (.func 26) #[] #[]] bm [.one (.int .i64)] fun m n =>
 ∃ br, br < bq /\ bp m e be bb bc n br) (
 Zz1 Tryz.prog Zqi #[.slice a b c, .int .i64 d, .int .i64 e, .int .i64 bg, .func (.func 26) #[] #[]] bm [.one (.int .i64), .one .bool] fun o p q =>
 (8 : Int) ≠ 0 /\
 Zz2 (decide ((w64 (o - d)) < (w64 (e - o)))) (
 Zz1 Tryz.prog ZzK #[.slice a b c, .int .i64 d, .int .i64 o, .int .i64 be, .func (.func 26) #[] #[]] q [] fun r =>
 ∃ br, br < bq /\ bp (w64 (o + (1 : Int))) e be (decide ((w64 (o - d)) >= (w64 (Int.tdiv (w64 (e - d)) (8 : Int))))) p r br) (
 Zz1 Tryz.prog ZzK #[.slice a b c, .int .i64 (w64 (o + (1 : Int))), .int .i64 e, .int .i64 be, .func (.func 26) #[] #[]] q [] fun s =>
 ∃ br, br < bq /\ bp d o be (decide ((w64 (e - o)) >= (w64 (Int.tdiv (w64 (e - d)) (8 : Int))))) p s br))) fun t =>
 Zz2 (decide (d > (0 : Int))) (
 Zyx a b (w64 (d - (1 : Int))) fun u =>
 ldS bk.drew ((u.add ((w64 (d - (1 : Int))).toNat * 7))) fun v x y =>
 ldI .i64 bk.drew (((u.add ((w64 (d - (1 : Int))).toNat * 7)).add 1)) fun z =>
 ldStr bk.drew (((u.add ((w64 (d - (1 : Int))).toNat * 7)).add 2)) fun aa =>
 ldStr bk.drew (((u.add ((w64 (d - (1 : Int))).toNat * 7)).add 3)) fun ab =>
 ldS bk.drew (((u.add ((w64 (d - (1 : Int))).toNat * 7)).add 4)) fun ac ad ae =>
 ldS bk.drew (((u.add ((w64 (d - (1 : Int))).toNat * 7)).add 5)) fun af ag ai =>
 ldStr bk.drew (((u.add ((w64 (d - (1 : Int))).toNat * 7)).add 6)) fun aj =>
 Zyx a b bg fun ak =>
 ldS bk.drew ((ak.add (bg.toNat * 7))) fun al am an =>
 ldI .i64 bk.drew (((ak.add (bg.toNat * 7)).add 1)) fun ao =>
 ldStr bk.drew (((ak.add (bg.toNat * 7)).add 2)) fun ap =>
 ldStr bk.drew (((ak.add (bg.toNat * 7)).add 3)) fun aq =>
 ldS bk.drew (((ak.add (bg.toNat * 7)).add 4)) fun ar au av =>
 ldS bk.drew (((ak.add (bg.toNat * 7)).add 5)) fun ax ay az =>
 ldStr bk.drew (((ak.add (bg.toNat * 7)).add 6)) fun a0 =>
 Zz1 Tryz.prog Yak #[.agg ⟨[.slice v x y, .int .i64 z, .string aa, .string ab, .slice ac ad ae, .slice af ag ai, .string aj]⟩, .agg ⟨[.slice al am an, .int .i64 ao, .string ap, .string aq, .slice ar au av, .slice ax ay az, .string a0]⟩] bk.drew [.one (.int .i64)] fun a1 a2 =>
 t (!(decide (a1 < (0 : Int)))) a2) (
 t false bk.drew)) fun a3 =>
 Zzj (fun (bn : Bool) (bo : World) =>
 Zz2 bn (
 Zz1 Tryz.prog Zx7 #[.slice a b c, .int .i64 d, .int .i64 e, .func (.func 26) #[] #[]] bo [.one .bool] fun a4 a5 =>
 Zz2 a4 (
 J a5) (
 a3 a5)) (
 a3 bo)) fun a6 =>
 Zz2 bb (
 Zz2 bc (
 a6 (bi == (1 : Int)) bj) (
 a6 false bj)) (
 a6 false bj)) fun a7 =>
 Zz2 (k == (2 : Int)) (
 Zz1 Tryz.prog ZxO #[.slice a b c, .int .i64 d, .int .i64 e, .func (.func 26) #[] #[]] l [] fun a8 =>
 a7 (w64 ((w64 (e - (1 : Int))) - (w64 (j - d)))) (1 : Int) a8) (
 a7 j k l)) fun a9 =>
 Zz2 (!bb) (
 Zz1 Tryz.prog ZxK #[.slice a b c, .int .i64 d, .int .i64 e, .func (.func 26) #[] #[]] bd [] fun ba =>
 a9 (w64 (f - (1 : Int))) ba) (
 a9 f bd))))) : Zz1 Tryz.prog ZzK #[.slice a b c, .int .i64 d, .int .i64 e, .int .i64 f, .func (.func 26) #[] #[]] w [] J := Zz5 Tryz.func73 (.s .o (.s .o (.b (.l [(1, .int .i64), (2, .int .i64), (3, .int .i64), (10, .bool), (11, .bool)] (.b (.s .o (.s (.s .o (.c (.s .o .o) .o)) (.s (.s .o (.c (.s .o .o) .o)) (.j [(3, .int .i64)] (.s .o (.c (.s .o .o) .o)) (.s .o (.j [(13, .int .i64), (14, .int .i64)] (.s .o (.c (.s .o (.s .o .o)) .o)) (.j [] (.j [(75, .bool)] .o (.c (.s .o (.c .o .o)) .o)) (.s (.j [(97, .bool)] (.d (.take 0 (.take 1 (.take 2 (.take 3 (.take 4 (.take 5 (.take 6 (.take 7 (.take 8 (.take 9 (.take 10 (.take 11 (.take 12 (.eff 13 (.take 14 (.take 15 (.take 16 .done))) .none))))))))))))))) (.c (.s .o (.s .o .o)) .o)) (.s .o (.s .o (.s .o (.s .o (.s .o (.c (.s .o (.s .o .o)) (.s .o (.s .o .o))))))))))))))))))))) (Eq.mpr (by kernel_rfl) h)
theorem Zxl {a : Option Addr} {b c : Nat} {d e : Int} {w : World} {J : World -> Prop} (h :
 ∃ bp : Int -> World -> Nat -> Prop, (∃ bq, bp (w64 (d + (1 : Int))) w bq) /\ ∀ br bs bq, bp br bs bq -> (
 Zz2 (decide (br < e)) (
 ∃ bt : Int -> World -> Nat -> Prop, (∃ bq, bt br bs bq) /\ ∀ bu bv bx, bt bu bv bx -> (
 Zzj (fun (bn : Bool) (bo : World) =>
 Zz2 bn (
 Zyx a b (w64 (bu - (1 : Int))) fun f =>
 ldS bo.drew ((f.add ((w64 (bu - (1 : Int))).toNat * 7))) fun g i j =>
 ldI .i64 bo.drew (((f.add ((w64 (bu - (1 : Int))).toNat * 7)).add 1)) fun k =>
 ldStr bo.drew (((f.add ((w64 (bu - (1 : Int))).toNat * 7)).add 2)) fun l =>
 ldStr bo.drew (((f.add ((w64 (bu - (1 : Int))).toNat * 7)).add 3)) fun m =>
 ldS bo.drew (((f.add ((w64 (bu - (1 : Int))).toNat * 7)).add 4)) fun n o p =>
 ldS bo.drew (((f.add ((w64 (bu - (1 : Int))).toNat * 7)).add 5)) fun q r s =>
 ldStr bo.drew (((f.add ((w64 (bu - (1 : Int))).toNat * 7)).add 6)) fun t =>
 Zyx a b bu fun u =>
 ldS bo.drew ((u.add (bu.toNat * 7))) fun v x y =>
 ldI .i64 bo.drew (((u.add (bu.toNat * 7)).add 1)) fun z =>
 ldStr bo.drew (((u.add (bu.toNat * 7)).add 2)) fun aa =>
 ldStr bo.drew (((u.add (bu.toNat * 7)).add 3)) fun ab =>
 ldS bo.drew (((u.add (bu.toNat * 7)).add 4)) fun ac ad ae =>
 ldS bo.drew (((u.add (bu.toNat * 7)).add 5)) fun af ag ai =>
 ldStr bo.drew (((u.add (bu.toNat * 7)).add 6)) fun aj =>
 Zyx a b bu fun ak =>
 stN bo.drew ((ak.add (bu.toNat * 7))) ⟨[.slice g i j, .int .i64 k, .string l, .string m, .slice n o p, .slice q r s, .string t]⟩ 7 fun al =>
 Zyx a b (w64 (bu - (1 : Int))) fun am =>
 stN al ((am.add ((w64 (bu - (1 : Int))).toNat * 7))) ⟨[.slice v x y, .int .i64 z, .string aa, .string ab, .slice ac ad ae, .slice af ag ai, .string aj]⟩ 7 fun an =>
 ∃ bz, bz < bx /\ bt (w64 (bu - (1 : Int))) an bz) (
 ∃ bz, bz < bq /\ bp (w64 (br + (1 : Int))) bo bz)) fun ao =>
 Zz2 (decide (bu > d)) (
 Zyx a b bu fun ap =>
 ldS bv.drew ((ap.add (bu.toNat * 7))) fun aq ar au =>
 ldI .i64 bv.drew (((ap.add (bu.toNat * 7)).add 1)) fun av =>
 ldStr bv.drew (((ap.add (bu.toNat * 7)).add 2)) fun ax =>
 ldStr bv.drew (((ap.add (bu.toNat * 7)).add 3)) fun ay =>
 ldS bv.drew (((ap.add (bu.toNat * 7)).add 4)) fun az a0 a1 =>
 ldS bv.drew (((ap.add (bu.toNat * 7)).add 5)) fun a2 a3 a4 =>
 ldStr bv.drew (((ap.add (bu.toNat * 7)).add 6)) fun a5 =>
 Zyx a b (w64 (bu - (1 : Int))) fun a6 =>
 ldS bv.drew ((a6.add ((w64 (bu - (1 : Int))).toNat * 7))) fun a7 a8 a9 =>
 ldI .i64 bv.drew (((a6.add ((w64 (bu - (1 : Int))).toNat * 7)).add 1)) fun ba =>
 ldStr bv.drew (((a6.add ((w64 (bu - (1 : Int))).toNat * 7)).add 2)) fun bb =>
 ldStr bv.drew (((a6.add ((w64 (bu - (1 : Int))).toNat * 7)).add 3)) fun bc =>
 ldS bv.drew (((a6.add ((w64 (bu - (1 : Int))).toNat * 7)).add 4)) fun bd be bf =>
 ldS bv.drew (((a6.add ((w64 (bu - (1 : Int))).toNat * 7)).add 5)) fun bg bi bj =>
 ldStr bv.drew (((a6.add ((w64 (bu - (1 : Int))).toNat * 7)).add 6)) fun bk =>
 Zz1 Tryz.prog Yak #[.agg ⟨[.slice aq ar au, .int .i64 av, .string ax, .string ay, .slice az a0 a1, .slice a2 a3 a4, .string a5]⟩, .agg ⟨[.slice a7 a8 a9, .int .i64 ba, .string bb, .string bc, .slice bd be bf, .slice bg bi bj, .string bk]⟩] bv.drew [.one (.int .i64)] fun bl bm =>
 ao (decide (bl < (0 : Int))) bm) (
 ao false bv.drew))) (
 J bs))) : Zz1 Tryz.prog Zyj #[.slice a b c, .int .i64 d, .int .i64 e, .func (.func 26) #[] #[]] w [] J := Zz5 Tryz.func133 (.s .o (.b (.l [(8, .int .i64)] (.s (.s .o (.c .o .o)) (.s (.b (.s .o (.b (.l [(9, .int .i64)] (.s (.j [(34, .bool)] (.d (.take 0 (.take 1 (.take 2 (.take 3 (.take 4 (.take 5 (.take 6 (.take 7 (.take 8 (.take 9 (.take 10 (.take 11 (.take 12 (.take 13 (.eff 14 (.take 15 (.take 16 .done)) .none)))))))))))))))) (.c .o .o)) (.s (.b (.d (.take 0 (.take 1 (.take 2 (.take 3 (.take 4 (.take 5 (.take 6 (.take 7 (.take 8 (.take 9 (.take 10 (.take 11 (.take 12 (.take 13 (.take 14 (.eff 15 (.take 16 (.eff 17 .done .none)) .none)))))))))))))))))) .o)))))) .o))))) (Eq.mpr (by kernel_rfl) h)
end Go.Proofs.YtlnfaaghdkngmaaGreatDoor
end
section
namespace Go.Proofs.YtlnfaaghdkngmaaGreatDoor
open Go Go.Vc
theorem Yhb {a : Int} {w : World} {J : Int -> World -> Prop} (h :
 Zz1 Tryz.prog ZqW #[.int .u64 a] w [.one (.int .i64)] fun b c =>
 J b c) : Zz1 Tryz.prog Yaz #[.int .u64 a] w [.one (.int .i64)] J := Zz5 Tryz.func74 (.s .o (.s (.c .u .o) (.s .o .o))) (Eq.mpr (by kernel_rfl) h)
theorem Yfx {a : Int} {w : World} {J : Int -> World -> Prop} (h :
 Zzj (fun (a : Int) (f : Int) (g : World) =>
 Zzj (fun (i : Int) (j : Int) (k : World) =>
 Zzj (fun (l : Int) (m : Int) (n : World) =>
 Zya ⟨#[0, 1, 2, 2, 3, 3, 3, 3, 4, 4, 4, 4, 4, 4, 4, 4, 5, 5, 5, 5, 5, 5, 5, 5, 5, 5, 5, 5, 5, 5, 5, 5, 6, 6, 6, 6, 6, 6, 6, 6, 6, 6, 6, 6, 6, 6, 6, 6, 6, 6, 6, 6, 6, 6, 6, 6, 6, 6, 6, 6, 6, 6, 6, 6, 7, 7, 7, 7, 7, 7, 7, 7, 7, 7, 7, 7, 7, 7, 7, 7, 7, 7, 7, 7, 7, 7, 7, 7, 7, 7, 7, 7, 7, 7, 7, 7, 7, 7, 7, 7, 7, 7, 7, 7, 7, 7, 7, 7, 7, 7, 7, 7, 7, 7, 7, 7, 7, 7, 7, 7, 7, 7, 7, 7, 7, 7, 7, 7, 8, 8, 8, 8, 8, 8, 8, 8, 8, 8, 8, 8, 8, 8, 8, 8, 8, 8, 8, 8, 8, 8, 8, 8, 8, 8, 8, 8, 8, 8, 8, 8, 8, 8, 8, 8, 8, 8, 8, 8, 8, 8, 8, 8, 8, 8, 8, 8, 8, 8, 8, 8, 8, 8, 8, 8, 8, 8, 8, 8, 8, 8, 8, 8, 8, 8, 8, 8, 8, 8, 8, 8, 8, 8, 8, 8, 8, 8, 8, 8, 8, 8, 8, 8, 8, 8, 8, 8, 8, 8, 8, 8, 8, 8, 8, 8, 8, 8, 8, 8, 8, 8, 8, 8, 8, 8, 8, 8, 8, 8, 8, 8, 8, 8, 8, 8, 8, 8, 8, 8, 8, 8, 8, 8, 8, 8, 8, 8]⟩ (IntKind.u8.wrap l) fun b =>
 J (w64 (m + (w64 b))) n) fun c =>
 Zz2 (decide (i >= (256 : Int))) (
 0 <= (8 : Int) /\
 c (Yc8 .u64 i (8 : Int)) (w64 (j + (8 : Int))) k) (
 c i j k)) fun d =>
 Zz2 (decide (a >= (65536 : Int))) (
 0 <= (16 : Int) /\
 d (Yc8 .u64 a (16 : Int)) (w64 (f + (16 : Int))) g) (
 d a f g)) fun e =>
 Zz2 (decide (a >= (4294967296 : Int))) (
 0 <= (32 : Int) /\
 e (Yc8 .u64 a (32 : Int)) (32 : Int) w) (
 e a (0 : Int) w)) : Zz1 Tryz.prog ZqW #[.int .u64 a] w [.one (.int .i64)] J := Zz5 Tryz.func142 (.s .o (.j [(0, .int .u64), (2, .int .i64)] (.s .o (.c (.s .o .o) .o)) (.j [(0, .int .u64), (2, .int .i64)] (.s .o (.c (.s .o .o) .o)) (.j [(0, .int .u64), (2, .int .i64)] (.s .o (.c (.s .o .o) .o)) (.s .o .o))))) (Eq.mpr (by kernel_rfl) h)
end Go.Proofs.YtlnfaaghdkngmaaGreatDoor
end
section
namespace Go.Vc
open Go Go.Lib
def YbB : List Int -> List Int -> Int
 | [], [] => 0
 | [], _ :: _ => -1
 | _ :: _, [] => 1
 | a :: x, b :: y => if a < b then -1 else if a > b then 1 else YbB x y
theorem cmpP_refl : ∀ l, YbB l l = 0
 | [] => rfl
 | a :: l => by unfold YbB; simp [cmpP_refl l]
theorem cmpP_zero : ∀ {a b : List Int}, YbB a b = 0 -> a = b
 | [], [], _ => rfl
 | [], _ :: _, h => by simp [YbB] at h
 | _ :: _, [], h => by simp [YbB] at h
 | a :: x, b :: y, h => by
  unfold YbB at h
  split at h
  ·simp at h
  ·split at h
   ·simp at h
   ·rw [cmpP_zero h, show a = b by omega]
theorem Yfr : ∀ (a b : List Int), YbB a b = -1 \/ YbB a b = 0 \/ YbB a b = 1
 | [], [] => by simp [YbB]
 | [], _ :: _ => by simp [YbB]
 | _ :: _, [] => by simp [YbB]
 | a :: x, b :: y => by
  unfold YbB
  split
  ·simp
  ·split
   ·simp
   ·exact Yfr x y
theorem cmpP_swap : ∀ (a b : List Int), YbB b a = -YbB a b
 | [], [] => by simp [YbB]
 | [], _ :: _ => by simp [YbB]
 | _ :: _, [] => by simp [YbB]
 | a :: x, b :: y => by
  unfold YbB
  repeat' split
  all_goals first | rfl | omega | exact cmpP_swap x y
theorem Yfq : ∀ {a b c : List Int}, YbB a b = -1 -> YbB b c = -1 -> YbB a c = -1
 | [], [], _, h, _ => by simp [YbB] at h
 | [], _ :: _, [], _, h => by simp [YbB] at h
 | [], _ :: _, _ :: _, _, _ => rfl
 | _ :: _, [], _, h, _ => by simp [YbB] at h
 | _ :: _, _ :: _, [], _, h => by simp [YbB] at h
 | a :: x, b :: y, c :: z, h, k => by
  unfold YbB at h k ⊢
  split at h
  ·split at k
   ·rw [if_pos (by omega)]
   ·split at k
    ·simp at k
    ·rw [if_pos (by omega)]
  ·split at h
   ·simp at h
   ·split at k
    ·rw [if_pos (by omega)]
    ·split at k
     ·simp at k
     ·rw [if_neg (by omega), if_neg (by omega)]
      exact Yfq h k
theorem cmpP_at {xs ys : List Int} {i : Nat} {a b : Int} (ha : xs[i]? = some a) (hb : ys[i]? = some b) : YbB (xs.drop i) (ys.drop i) = if a < b then -1 else if a > b then 1 else YbB (xs.drop (i + 1)) (ys.drop (i + 1)) := by
  obtain ⟨h1, rfl⟩ := List.getElem?_eq_some_iff.1 ha
  obtain ⟨h2, rfl⟩ := List.getElem?_eq_some_iff.1 hb
  rw [List.drop_eq_getElem_cons h1, List.drop_eq_getElem_cons h2, YbB]
theorem swo_path {α : Type} [Inhabited α] (f : α -> List Int) : Go.Sort.SWO (Go.Proofs.ltOf fun x y : α => YbB (f x) (f y)) := by
 have lt : ∀ x y : α, Go.Proofs.ltOf (fun x y : α => YbB (f x) (f y)) x y = true ↔ YbB (f x) (f y) = -1 := fun x y => by
  unfold Go.Proofs.ltOf
  rw [decide_eq_true_iff]
  show YbB (f x) (f y) < 0 ↔ _
  have := Yfr (f x) (f y)
  omega
 refine ⟨fun x => ?_, fun x y z h k => ?_, fun x y z h k => ?_⟩
 ·refine Bool.eq_false_iff.2 fun h => ?_
  have := (lt x x).1 h
  rw [cmpP_refl] at this
  omega
 ·exact (lt x z).2 (Yfq ((lt x y).1 h) ((lt y z).1 k))
 ·refine Bool.eq_false_iff.2 fun hxz => ?_
  have hxz := (lt x z).1 hxz
  have n1 : YbB (f x) (f y) ≠ -1 := fun e => by rw [(lt x y).2 e] at h; cases h
  have n2 : YbB (f y) (f z) ≠ -1 := fun e => by rw [(lt y z).2 e] at k; cases k
  have sw := cmpP_swap (f x) (f y)
  rcases Yfr (f x) (f y) with e | e | e
  ·exact n1 e
  ·rw [cmpP_zero e] at hxz; exact n2 hxz
  ·exact n2 (Yfq (by omega) hxz)
section
variable {α : Type} [Inhabited α] {enc : α -> List Value} {k : Nat} {w : World}
theorem Yfn (hk : 0 < k) (hE : ∀ x, (enc x).length = k) (L : List α) {j : Nat} (hj : j < L.length * k) : (rows enc L)[j]? = some (Go.Sort.flatK enc k L.toArray)[j]! := by
 have h1 : j / k < L.length := Nat.div_lt_of_lt_mul (by rw [Nat.mul_comm]; exact hj)
 have h2 : j % k < k := Nat.mod_lt _ hk
 have h3 := Yfb (f := enc) (k := k) (L := L) (fun x _ => hE x) (getElem?_eq_getElem h1) h2
 rw [Nat.div_add_mod' j k] at h3
 rw [h3, Go.Sort.get_flatK _ _ _ _ (by simpa using hj)]
 have e : L.toArray[j / k]! = L[j / k] := by simp [h1]
 have h4 : j % k < (enc L[j / k]).length := by rw [hE]; exact h2
 rw [e, getElem?_eq_getElem h4]
 simp [h4]
theorem holdsK_row (hk : 0 < k) (hE : ∀ x, (enc x).length = k) {b : Nat} {L : List α} {rest : List Value} {e : TypeId} (hb : w.heap[b]? = some (.cells ⟨rows enc L ++ rest⟩ e (0, 0))) : Go.Sort.HoldsK enc k w b 0 L.toArray := by
 intro j hj
 have hj' : j < L.length * k := by simpa using hj
 refine ⟨?_, by simp [World.frozen?, hb]⟩
 rw [Nat.zero_add, cell_of_row w b j _ e (0, 0) hb]
 have e1 : (rows enc L ++ rest)[j]? = (rows enc L)[j]? := getElem?_append_left (by rw [Zy9 (k := k) (fun x _ => hE x)]; exact hj')
 rw [Yfn hk hE L hj'] at e1
 simpa using e1
theorem YgD {b n : Nat} {d : Array α} {os : Array Obj} : w.grownBy (Go.Proofs.sortWorldK enc k w b 0 n d os) (some b) := by
 unfold Go.Proofs.sortWorldK Go.Sort.putRowK
 refine ⟨rfl, rfl, rfl, by simp [Go.Sort.grow], fun k' hk hne => ?_⟩
 rw [Go.Sort.heap_grow_old _ _ (by simpa using hk)]
 have : b ≠ k' := fun e => hne (by rw [e])
 simp [Go.Sort.putRow, Go.Sort.mapBlock, Go.Sort.ahead, Array.getElem?_modify, this]
theorem sortK_heap (hk : 0 < k) (hE : ∀ x, (enc x).length = k) {b n : Nat} {L : List α} {d : Array α} {os : Array Obj} {rest : List Value} {e : TypeId} (hb : w.heap[b]? = some (.cells ⟨rows enc L ++ rest⟩ e (0, 0))) (hd : d.size = L.length) :
  (Go.Proofs.sortWorldK enc k w b 0 n d os).heap[b]? = some (.cells ⟨rows enc d.toList ++ rest⟩ e (0, 0)) := by
 have hg : b < w.heap.size := (Array.getElem?_eq_some_iff.1 hb).1
 have h1 : (Go.Proofs.sortWorldK enc k w b 0 n d os).heap[b]? = some (.cells (Go.Sort.putCells id 0 (Go.Sort.flatK enc k d) ⟨rows enc L ++ rest⟩) e (0, 0)) := by
  unfold Go.Proofs.sortWorldK Go.Sort.putRowK
  rw [Go.Sort.heap_grow_old _ _ (by simpa using hg)]
  simp [Go.Sort.putRow, Go.Sort.mapBlock, Go.Sort.ahead, Array.getElem?_modify, hb, Go.Sort.onCells]
 rw [h1]
 have lL : (rows enc L).length = L.length * k := Zy9 (k := k) (fun x _ => hE x)
 have lD : (rows enc d.toList).length = L.length * k := by rw [Zy9 (k := k) (fun x _ => hE x), Array.length_toList, hd]
 congr 2
 apply Array.ext_getElem?
 intro t
 simp only [Go.Sort.putCells, Array.getElem?_mapIdx, Go.Sort.size_flatK, hd, Nat.zero_le, true_and, Nat.zero_add, Nat.sub_zero, id]
 by_cases ht : t < L.length * k
 ·have e1 : (⟨rows enc L ++ rest⟩ : Array Value)[t]? = some (Go.Sort.flatK enc k L.toArray)[t]! := by
   rw [getElem?_toArray, getElem?_append_left (by omega)]; exact Yfn hk hE L ht
  have e2 : (⟨rows enc d.toList ++ rest⟩ : Array Value)[t]? = some (Go.Sort.flatK enc k d)[t]! := by
   rw [getElem?_toArray, getElem?_append_left (by omega)]
   have := Yfn hk hE d.toList (j := t) (by rw [Array.length_toList, hd]; exact ht)
   simpa using this
  rw [e1, e2, Option.map_some, if_pos ht]
 ·have e1 : (⟨rows enc L ++ rest⟩ : Array Value)[t]? = (⟨rows enc d.toList ++ rest⟩ : Array Value)[t]? := by
   rw [getElem?_toArray, getElem?_toArray, getElem?_append_right (by omega), getElem?_append_right (by omega), lL, lD]
  rw [e1]
  cases (⟨rows enc d.toList ++ rest⟩ : Array Value)[t]? with
  | none => rfl
  | some y => simp [ht]
end
theorem Hp.newBx {w0 w : World} {S : Nat -> Prop} {Γ : List Blk} (H : Hp w0 S w Γ) {cs : List Value} {e : TypeId} {K : Nat -> World -> Prop}
  (k : ∀ b w', Hp w0 S w' (⟨b, cs, e⟩ :: Γ) -> Chg No w w' -> w' = Go.Sort.grow w #[.cells ⟨cs⟩ e (0, 0)] -> K b w') : Vc.newB w (.cells ⟨cs⟩ e) K :=
 k _ _ (H.new cs e) (Yb8 _ _) (Go.Sort.alloc_eq_grow _ _)
end Go.Vc
namespace Go.Proofs.YtlnfaaghdkngmaaGreatDoor
open Go Go.Vc Go.Lib
section
variable {w w' : World}
theorem CmpI_ok {a b : Int} {J : Int -> World -> Prop} (k : J (if a < b then -1 else if a > b then 1 else 0) w) : Zz1 Tryz.prog ZyV #[.int .i64 a, .int .i64 b] w [.one (.int .i64)] J := by
 refine Yfy ?_
 refine YcL ?_
 refine YcL ?_
 refine Zzw (fun h => absurd rfl h) fun _ => Zzw (fun h => absurd rfl h) fun _ => ?_
 refine Zz6 (fun h => by rw [if_pos h] at k; exact k) (fun h => ?_)
 rw [if_neg h] at k
 exact Zz6 (fun h => by rw [if_pos h] at k; exact k) (fun h => by rw [if_neg h] at k; exact k)
theorem SCmpI_ok {p q : Option Addr} {l c l2 c2 : Nat} {xs ys : List Int} {J : Int -> World -> Prop} (h : Sl w p l 1 (rows YbS xs)) (h2 : Sl w q l2 1 (rows YbS ys)) (hm : l <= 1000000000) (k : J (YbB xs ys) w) :
    Zz1 Tryz.prog Zyu #[.slice p l c, .slice q l2 c2] w [.one (.int .i64)] J := by
  refine Yb9 ?_
  have hl : xs.length = l := h.row (fun _ _ => rfl) (by decide)
  have hl2 : ys.length = l2 := h2.row (fun _ _ => rfl) (by decide)
  refine ⟨fun x w' t => ∃ i : Nat, x = i /\ i <= l /\ t = l - i /\ w' = w /\ i <= l2 /\ YbB (xs.drop i) (ys.drop i) = YbB xs ys, ⟨_, 0, rfl, Nat.zero_le _, rfl, rfl, Nat.zero_le _, rfl⟩, ?_⟩
  rintro x w' t ⟨i, rfl, hi, rfl, rfl, hi2, hcm⟩
  refine Zz6 (fun hlt => ?_) (fun hge => ?_)
  · refine Zzr h (fun _ _ => rfl) (by decide) (by omega) hlt fun a1 a _ ha hcs => ?_
    rw [Int.toNat_natCast] at ha
    refine ⟨a, Zzo hcs, ?_⟩
    refine Zz6 (fun hge2 => ?_) (fun hlt2 => ?_)
    · have : i = ys.length := by omega
      obtain ⟨h1, rfl⟩ := List.getElem?_eq_some_iff.1 ha
      rw [this, List.drop_of_length_le (Nat.le_refl _), <- this, List.drop_eq_getElem_cons h1] at hcm
      rw [<- hcm] at k
      exact k
    · refine Zzr h2 (fun _ _ => rfl) (by decide) (by omega) (by omega) fun a2 b _ hb hcs2 => ?_
      rw [Int.toNat_natCast] at hb
      refine ⟨b, Zzo hcs2, ?_⟩
      refine CmpI_ok ?_
      rw [cmpP_at ha hb] at hcm
      refine Zzw (fun hne => ?_) (fun he => ?_)
      · by_cases h1 : a < b
        · rw [if_pos h1] at hcm ⊢; rw [hcm]; exact k
        · by_cases h3 : a > b
          · rw [if_neg h1, if_pos h3] at hcm ⊢; rw [hcm]; exact k
          · rw [if_neg h1, if_neg h3] at hne; exact absurd rfl hne
      · by_cases h1 : a < b
        · rw [if_pos h1] at he; cases he
        · by_cases h3 : a > b
          · rw [if_neg h1, if_pos h3] at he; cases he
          · rw [if_neg h1, if_neg h3] at hcm
            exact ⟨_, by omega, i + 1, by rw [Zzt] <;> omega, by omega, rfl, rfl, by omega, hcm⟩
  · have : i = xs.length := by omega
    rw [this, List.drop_of_length_le (Nat.le_refl _), <- this] at hcm
    refine Zz6 (fun hlt2 => ?_) (fun hge2 => ?_)
    · have h1 : i < ys.length := by omega
      rw [List.drop_eq_getElem_cons h1] at hcm
      rw [<- hcm] at k
      exact k
    · rw [List.drop_of_length_le (by omega)] at hcm
      rw [<- hcm] at k
      exact k
theorem Ygj (x : SpV) : ∃ zk zu zl zt zap zal zac zkp zkl zkc, x.cells = [.slice x.p x.l x.c, .int .i64 zk, .string zu, .string zl, .slice zap zal zac, .slice zkp zkl zkc, .string zt] := by
 obtain ⟨xp, xl, xc, xpath, xv⟩ := x
 cases xv with
 | mk k u l' t ap al ac ats kp kl kc ks => exact ⟨_, _, _, _, _, _, _, _, _, _, rfl⟩
theorem CmpSp_ok {x y : SpV} {J : Int -> World -> Prop} (hx : Sl w x.p x.l 1 (rows YbS x.path)) (hy : Sl w y.p y.l 1 (rows YbS y.path)) (hm : x.l <= 1000000000)
  (K : ∀ os, J (YbB x.path y.path) (Go.Sort.grow w os)) : Zz1 Tryz.prog Yak #[.agg ⟨x.cells⟩, .agg ⟨y.cells⟩] w [.one (.int .i64)] J := by
 obtain ⟨zk, zu, zl', zt, zap, zal, zac, zkp, zkl, zkc, hze⟩ := Ygj x
 obtain ⟨yk, yu, yl', yt, yap, yal, yac, ykp, ykl, ykc, hye⟩ := Ygj y
 rw [hze, hye]
 refine c_pick_Pick_1 ?_
 refine (Hp.start w No).newBx fun b2 w1 H1 hc1 hw1 => ?_
 refine H1.newBx fun b3 w2 H2 hc2 hw2 => ?_
 refine H2.ldS 1 rfl (off := 0) rfl ?_
 refine H2.ldS 0 rfl (off := 0) rfl ?_
 refine SCmpI_ok (hx.chg H2.chg (off_no _)) (hy.chg H2.chg (off_no _)) hm ?_
 rw [hw2, hw1, Go.Sort.grow_grow]
 exact K _
theorem SortSp_ok {S : List SpV} {p : Option Addr} {l c : Nat} {J : World -> Prop} (h : Row w Zze 7 p l c (rows SpV.cells S)) (hm : l <= 100000000)
  (hS : ∀ s ∈ S, PathOk w s /\ s.l <= 1000000000)
  (K : ∀ S' w', S'.Perm S -> Row w' Zze 7 p l c (rows SpV.cells S') -> Chg (isB p) w w' -> J w') :
  Zz1 Tryz.prog ZzM #[.slice p l c, .func (.func 26) #[] #[]] w [] J := by
 have hl : S.length = l := h.sl.row (Zqd S) (by decide)
 by_cases hl0 : l = 0
 ·subst hl0
  have e : S = [] := eq_nil_of_length_eq_zero hl
  subst e
  have k := K [] w (.refl _) h (Chg.refl _ _)
  refine Zxa ?_
  refine Yhb ?_
  refine Yfx ?_
  refine Zzb fun J0 hJ0 => ?_
  refine Zz9 (fun h => absurd h (by decide)) (fun _ => ?_)
  subst hJ0
  refine Zzb fun J1 hJ1 => ?_
  refine Zz9 (fun h => absurd h (by decide)) (fun _ => ?_)
  subst hJ1
  refine Zzb fun J2 hJ2 => ?_
  refine Zz9 (fun h => absurd h (by decide)) (fun _ => ?_)
  subst hJ2
  refine ⟨0, by decide +kernel, by kernel_rfl, ?_⟩
  refine ZxS ?_
  refine ⟨fun a b lim _ _ w' _ => a = 0 /\ b = 0 /\ w' = w, ⟨0, rfl, rfl, rfl⟩, ?_⟩
  rintro a b lim _ _ w' t ⟨rfl, rfl, rfl⟩
  refine Zz9 (fun _ => ?_) (fun h => absurd h (by decide))
  refine Zxl ?_
  refine ⟨fun i w1 _ => i = 1 /\ w1 = w', ⟨0, by decide, rfl⟩, ?_⟩
  rintro i w1 t1 ⟨rfl, rfl⟩
  refine Zz9 (fun h => absurd h (by decide)) (fun _ => ?_)
  exact k
 ·obtain ⟨b, rest, rfl, hb, h1, h2, h3⟩ := h.some0 hl0
  let α := { s : SpV // Sl w s.p s.l 1 (rows YbS s.path) /\ s.l <= 1000000000 /\ ∀ a, s.p = some a -> a.block ≠ b }
  have hα : ∀ s ∈ S, Sl w s.p s.l 1 (rows YbS s.path) /\ s.l <= 1000000000 /\ ∀ a, s.p = some a -> a.block ≠ b := fun s hs =>
   ⟨(hS s hs).1.sl, (hS s hs).2, fun a ha e => by
    have t1 := (hS s hs).1.typ a ha
    have t2 := h.typ _ rfl
    rw [e] at t1
    rw [t1] at t2
    exact absurd t2 (by decide)⟩
  have hne : S ≠ [] := fun e => by subst e; exact hl0 hl.symm
  haveI : Inhabited α := ⟨⟨S.head hne, hα _ (head_mem hne)⟩⟩
  let enc : α -> List Value := fun s => s.1.cells
  let cf : α -> α -> Int := fun x y => YbB x.1.path y.1.path
  have hE : ∀ x : α, (enc x).length = 7 := fun x => by simp [enc, SpV.cells, nv_len]
  have hone : ∀ x : α, ∀ v ∈ enc x, v.oneCell' = true := fun x => YdC x.1
  let L : List α := S.attachWith _ hα
  have hLS : L.map (·.1) = S := attachWith_map_subtype_val _
  have hrows : ∀ M : List α, rows enc M = rows SpV.cells (M.map (·.1)) := fun M => by simp [rows, enc, flatMap_map]
  have hLl : L.length = l := by rw [<- hl, <- hLS, length_map]
  rw [<- hLS, <- hrows] at hb
  have hH := holdsK_row (k := 7) (by decide) hE hb
  have hcmp : CmpLays Tryz.prog 26 #[] enc 7 cf b 0 L.toArray.size w := by
   intro m os dk hdk x y
   have hcg : Chg (isB (some ⟨b, 0, none⟩)) w (sortWorldK enc 7 w b 0 m dk os) := Chg.of_grown YgD fun z hz => by cases hz; exact ⟨_, rfl, rfl⟩
   have hk := CmpSp_ok (w := sortWorldK enc 7 w b 0 m dk os) (x := x.1) (y := y.1) (J := fun r w' => r = cf x y /\ ∃ os', w' = Go.Sort.grow (sortWorldK enc 7 w b 0 m dk os) os') (x.2.1.chg hcg fun a ha ⟨a', e, e'⟩ => by cases e; exact x.2.2.2 a ha e'.symm) (y.2.1.chg hcg fun a ha ⟨a', e, e'⟩ => by cases e; exact y.2.2.2 a ha e'.symm) x.2.2.1 fun os' => ⟨rfl, os', rfl⟩
   refine Calls.mono hk fun e w' he => ?_
   obtain ⟨r, rfl, rfl, os', rfl⟩ := he
   exact ⟨rfl, 0, os', rfl⟩
  have hc := AnyQ.slices_SortFunc (α := α) Tryz.lays6 7 (fun w => by kernel_rfl) (fun w => by kernel_rfl) enc hE hone cf (swo_path fun x : α => x.1.path) 26 #[] b 0 c L.toArray w
   (fun args w => enters_of Tryz.func26 (by kernel_rfl) rfl args w) hcmp hH (Zy7 hb) (by simp [hLl]; omega)
  have hsz : L.toArray.size = l := by simp [hLl]
  rw [hsz] at hc
  refine Calls.mono hc fun e w' he => ?_
  obtain ⟨rfl, d', n, os, hp, _, rfl⟩ := he
  have hd : d'.size = L.length := by rw [hp.1]; simp
  have hperm : d'.toList.Perm L := by
   have := hp.2.2
   rw [show l = d'.size by omega, Array.extract_size, show d'.size = L.toArray.size by rw [hp.1], Array.extract_size] at this
   simpa using this
  refine ⟨rfl, K (d'.toList.map (·.1)) _ (by rw [<- hLS]; exact hperm.map _) ?_ (Chg.of_grown YgD (fun z hz => by cases hz; exact ⟨_, rfl, rfl⟩))⟩
  rw [<- hrows]
  refine ⟨?_, .inr ⟨b, rest, rfl, sortK_heap (by decide) hE hb hd, h1, h2, ?_⟩⟩
  ·rw [Zy9 (k := 7) (fun x _ => hE x), Array.length_toList, hd, hLl]
  ·rw [length_append] at h3 ⊢
   rw [<- h3, Zy9 (k := 7) (fun x _ => hE x), Array.length_toList, hd, hLl, Zy9 (Zqd S), hl]
end
end Go.Proofs.YtlnfaaghdkngmaaGreatDoor
end
section
namespace Go.Vc
open Go Go.Lib
structure TrV where
 p : Option Addr
 l : Nat
 c : Nat
 path : List Int
 at_ : Bool
 uri : ByteArray
 loc : ByteArray
def TrV.cells (t : TrV) : List Value := [.slice t.p t.l t.c, .bool t.at_, .string t.uri, .string t.loc]
theorem even_tr (L : List TrV) : Yee TrV.cells 4 L := fun _ _ => rfl
def TrV.pr (t : TrV) : List Int × Pr := (t.path, (t.uri, t.loc))
end Go.Vc
namespace Go.Proofs.YtlnfaaghdkngmaaGreatDoor
open Go Go.Vc Go.Lib
theorem slT_trail : SlT Tryz.prog YaI Zzp 4 64 #[.slice none 0 0, .bool false, .string ByteArray.empty, .string ByteArray.empty] := SlT.of (by kernel_rfl) (by kernel_rfl) rfl (by decide)
section
variable {w w' : World}
structure TrsOk (w0 w : World) (T : List TrV) : Prop where
 path : ∀ y ∈ T, Row w ZqJ 1 y.p y.l y.c (rows YbS y.path)
 fr : ∀ y ∈ T, fresh w0 y.p
end
end Go.Proofs.YtlnfaaghdkngmaaGreatDoor
end
section
namespace Go.Proofs.YtlnfaaghdkngmaaGreatDoor
open Go Go.Vc Go.Lib
theorem flat_kid {d x : Nd} {i : Nat} (h : d.kids[i]? = some x) : x.flat.length + 1 <= d.flat.length := by
  rw [flat_eq d, List.length_cons, flatL_length]
  have : x.flat.length <= (d.kids.map fun k => k.flat.length).sum := by
    obtain ⟨hi, rfl⟩ := List.getElem?_eq_some_iff.1 h
    have := YgN (fun k : Nd => k.flat.length) (List.getElem_mem hi)
    exact this
  omega
end Go.Proofs.YtlnfaaghdkngmaaGreatDoor
end
section
namespace Go.Vc
open Go Go.RowKit
def vcFunD (P : Program) (fn : Func) (t : Nat) (ann : Ann) (l : List Sh) (args : List Value) (w : World) (J : JT (World -> Prop) (scs l)) : Prop :=
 match fn.body, ann with
 | some (.seq r0 (.seq r1 (.seq _ rest))), .s a0 (.s a1 aB) => bif Nat.ble args.length fn.ntmps then
   ZyJ P fn.ntmps a0 r0 (Yev args) w fun e fr w1 => match e with
    | .normal => ZyJ P fn.ntmps a1 r1 fr w1 fun e fr w2 => match e with
     | .normal => (match fr t with
      | none => ZyJ P fn.ntmps aB rest fr w2 fun e fr w' => match e with
       | .exit _ => False
       | .goto _ => False
       | _ => retC P fn.results.toList l J fr w'
      | some _ => False)
     | _ => False
    | _ => False
  else False
 | _, _ => False
theorem ret_o {P : Program} {D : List Deferred} {fn : Func} {l : List Sh} {J : JT (World -> Prop) (scs l)} {fr : Fr} {a : Act} {w : World} (hs : Sim D fn.ntmps fr a) (hr : retC P fn.results.toList l J fr w) :
  ∃ v, (results fn a.tmps).run P w = .ok v w /\ JT.ex (scs l) J fun vs r => Ending.returned v = .returned (Yce l vs) /\ r w := by
 obtain ⟨vs, h1, h2, h3⟩ := retV_o hs hr
 split at h2
 ·rename_i us hu
  refine ⟨Yce l us, ?_, ?_⟩
  ·have hm := mapM_toArray (m := Sem) (l := fn.results.toList) (f := resF a.tmps)
   rw [Array.toArray_toList] at hm
   have hp := ZqA hu
   rw [Yfc, hm]
   simp only [Sem.run_bind, Sem.run_map, h3, Result.andThen_ok, Sem.run_pure]
   congr 1
   unfold Yce
   rw [hp]
   cases vs with
   | nil => rfl
   | cons v vs => cases vs with
    | nil => rfl
    | cons u vs => simp
  ·exact JT.ex_of_app h2 rfl
 ·exact h2.elim
theorem vcD_calls {P : Program} {f : FuncId} {fn : Func} (hf : P.funcs[f]? = some fn) {t : Nat} {r0 r1 r2 rest : Code} (hb : fn.body = some (.seq r0 (.seq r1 (.seq r2 rest)))) (ann : Ann) (d : Act -> Deferred)
    (hr2 : ∀ (a : Act) (w : World), a.defers = [] -> a.tmps.size = fn.ntmps -> r2.wp P (fun e a' w' => e = .normal /\ w' = w /\ a'.defers = [d a] /\ a'.tmps.size = a.tmps.size /\ ∀ i, i ≠ t -> a'.tmps[i]? = a.tmps[i]?) a w)
    (hcl : ∀ (a : Act) (tmps : Array Value) (R : Ending -> World -> Prop) (w : World), Leaves P fn tmps R [] .returning w -> Leaves P fn tmps R [d a] .returning w)
    {l : List Sh} {args : List Value} {w : World} {J : JT (World -> Prop) (scs l)}
    (h : vcFunD P fn t ann l args w J) : Zz1 P f ⟨args⟩ w l J := by
  unfold vcFunD at h
  rw [hb] at h
  split at h
  · rename_i x0 x1 x2 xr a0 a1 aB hxe
    simp only [Option.some.injEq, Code.seq.injEq] at hxe
    obtain ⟨rfl, rfl, rfl, rfl⟩ := hxe
    cases hbl : Nat.ble args.length fn.ntmps with
    | false => rw [hbl] at h; exact h.elim
    | true =>
      rw [hbl] at h
      simp only [cond_true] at h
      have hle : args.length <= fn.ntmps := Nat.le_of_ble_eq_true hbl
      refine calls_of_wp_defers hf hb ?_
      have hs : Sim [] fn.ntmps (Yev args) { tmps := (⟨args⟩ : Array Value) ++ Array.replicate (fn.ntmps - (⟨args⟩ : Array Value).size) undef, defers := [] } := by
        refine ⟨rfl, by simp; omega, fun t v hv => ?_⟩
        simp only [Yev] at hv
        have hlt : t < args.length := (List.getElem?_eq_some_iff.1 hv).1
        rw [Array.getElem?_append_left (by simpa using hlt)]
        simpa using hv
      refine wp_seq (wp_mono (Ygh a0 r0 _ _ w _ hs h) fun e a' w' hq => ?_)
      unfold QX at hq
      split at hq
      · rename_i ex hex
        obtain ⟨fr', h1, _, h3⟩ := hq
        cases e <;> simp only [YfQ, Option.some.injEq, reduceCtorEq] at hex <;> subst hex
        · refine wp_seq (wp_mono (Ygh a1 r1 _ _ w' _ h1 h3) fun e a2 w2 hq => ?_)
          unfold QX at hq
          split at hq
          · rename_i ex hex
            obtain ⟨fr2, h4, _, h5⟩ := hq
            cases e <;> simp only [YfQ, Option.some.injEq, reduceCtorEq] at hex <;> subst hex
            · refine wp_seq (wp_mono (hr2 a2 w2 h4.defers h4.size) fun e a3 w3 hq => ?_)
              obtain ⟨rfl, rfl, g1, g2, g3⟩ := hq
              dsimp only at h5
              cases hnone : fr2 t with
              | none =>
                rw [hnone] at h5
                dsimp only at h5
                have hs3 : Sim [d a2] fn.ntmps fr2 a3 := by
                  refine ⟨g1, by rw [g2]; exact h4.size, fun i v hi => ?_⟩
                  by_cases hit : i = t
                  · subst hit; rw [hnone] at hi; cases hi
                  · rw [g3 i hit]; exact h4.val i v hi
                refine wp_mono (Ygh aB rest _ _ w3 _ hs3 h5) fun e a4 w4 hq => ?_
                have fin : ∀ fr', Sim [d a2] fn.ntmps fr' a4 -> retC P fn.results.toList l J fr' w4 -> Leaves P fn a4.tmps (fun e w' => JT.ex (scs l) J fun vs r => e = .returned (Yce l vs) /\ r w') a4.defers .returning w4 := by
                  intro fr' hs' hr
                  rw [hs'.defers]
                  refine hcl a2 _ _ _ ?_
                  obtain ⟨v, hv, hj⟩ := ret_o hs' hr
                  exact ⟨v, hv, hj⟩
                unfold QX at hq
                split at hq
                · rename_i ex hex
                  obtain ⟨fr', k1, _, k3⟩ := hq
                  cases e <;> simp only [YfQ, Option.some.injEq, reduceCtorEq] at hex <;> subst hex
                  · exact fin fr' k1 k3
                  · exact k3.elim
                  · exact k3.elim
                  · exact fin fr' k1 k3
                · exact hq.elim
              | some u => rw [hnone] at h5; exact h5.elim
            · exact h5.elim
            · exact h5.elim
            · exact h5.elim
          · exact hq.elim
        · exact h3.elim
        · exact h3.elim
        · exact h3.elim
      · exact hq.elim
  · exact h.elim
end Go.Vc
end
section
namespace Go.Proofs.YtlnfaaghdkngmaaGreatDoor
open Go Go.Vc
def VC_pick_read_D (q0 : ByteArray) (w : World) (J : Option Addr -> Nat -> Nat -> Int -> Int -> World -> Prop) : Prop :=
 newB w (.cells (Zy5 Tryz.prog Zym) Zym) fun b2 w1 =>
 newB w1 (.cells (Zy5 Tryz.prog ZqJ) ZqJ) fun b3 w2 =>
 newB w2 (.cells (Zy5 Tryz.prog Ybb) Ybb) fun b4 w3 =>
 newB w3 (.cells ⟨[.string q0, .int .i64 (0 : Int)]⟩ Zzs) fun b8 w4 =>
 newB w4 (.cells (Zy5 Tryz.prog Zq7) Zq7) fun b5 w5 =>
 stV w5 ⟨b5, 0, none⟩ (.pointer (some ⟨b8, 0, none⟩)) fun w6 =>
 ∃ I_0 : World -> Nat -> Prop, (∃ m : Nat, I_0 w6 m) /\ ∀ (w7 : World) (m : Nat), I_0 w7 m -> (
 Zzj (fun (x21 : Bool) (w8 : World) =>
 Zz2 x21 (
 Zzj (fun (w9 : World) =>
 ldS w9.drew ⟨b2, 0, none⟩ fun x36p x36l x36c =>
 ldP w9.drew ⟨b5, 0, none⟩ fun x37 =>
 Zz1 Tryz.prog Zqw #[.pointer x37] w9.drew [.agg [.bool, .bool, .str, .str, .str, .slice]] fun (r38_0 : Bool) (r38_1 : Bool) (r38_2 : ByteArray) (r38_3 : ByteArray) (r38_4 : ByteArray) (r38_5p : Option Addr) (r38_5l : Nat) (r38_5c : Nat) (w10 : World) =>
 w10.cell? ⟨b2, 0, none⟩ = some (.slice x36p x36l x36c) /\
 Array.size (⟨[.bool r38_0, .bool r38_1, .string r38_2, .string r38_3, .string r38_4, .slice r38_5p r38_5l r38_5c]⟩ : Array Value) = 6 /\
 newB w10 (.cells ⟨[.bool r38_0, .bool r38_1, .string r38_2, .string r38_3, .string r38_4, .slice r38_5p r38_5l r38_5c]⟩ Zzf) fun b39 w11 =>
 w11.cell? ⟨b2, 0, none⟩ = some (.slice x36p x36l x36c) /\
 YcO Tryz.prog Zym Zym (.slice x36p x36l x36c) (.slice (some ⟨b39, 0, none⟩) 1 1) w11 fun q40p q40l q40c w12 =>
 stV w12 ⟨b2, 0, none⟩ (.slice q40p q40l q40c) fun w13 =>
 ∃ m' : Nat, m' < m /\ I_0 w13 m') fun J_0 =>
 Zzj (fun (x33 : Bool) (w14 : World) =>
 Zz2 x33 (
 ldP w14 ⟨b5, 0, none⟩ fun x34 =>
 Zz1 Tryz.prog Zyi #[.pointer x34] w14 [] fun (w15 : World) =>
 J_0 w15) (
 J_0 w14)) fun J_33 =>
 ldS w8 ⟨b2, 0, none⟩ fun x22p x22l x22c =>
 Zz2 (decide (((x22l : Nat) : Int) > (0 : Int))) (
 ldS w8 ⟨b2, 0, none⟩ fun x26p x26l x26c =>
 ldS w8 ⟨b2, 0, none⟩ fun x27p x27l x27c =>
 Zyx x26p x26l (w64 (((x27l : Nat) : Int) - (1 : Int))) fun a30 =>
 ldB w8 (((a30.add ((w64 (((x27l : Nat) : Int) - (1 : Int))).toNat * 6)).add 1)) fun x32 =>
 J_33 x32 w8) (
 J_33 false w8)) (
 ldS w8 ⟨b2, 0, none⟩ fun x41p x41l x41c =>
 Zz2 (decide (((x41l : Nat) : Int) > (20 : Int))) (
 stV w8 ⟨b2, 0, none⟩ (.slice none 0 0) fun w16 =>
 stV w16 ⟨b3, 0, none⟩ (.int .i64 (0 : Int)) fun w17 =>
 stV w17 ⟨b4, 0, none⟩ (.int .i64 (5 : Int)) fun w18 =>
 ldS w18 ⟨b2, 0, none⟩ fun rp rl rc =>
 ldI .i64 w18 ⟨b3, 0, none⟩ fun r_1 =>
 ldI .i64 w18 ⟨b4, 0, none⟩ fun r_2 =>
 J rp rl rc r_1 r_2 w18) (
 ldS w8 ⟨b2, 0, none⟩ fun x44p x44l x44c =>
 stV w8 ⟨b2, 0, none⟩ (.slice x44p x44l x44c) fun w19 =>
 stV w19 ⟨b3, 0, none⟩ (.int .i64 (0 : Int)) fun w20 =>
 stV w20 ⟨b4, 0, none⟩ (.int .i64 (0 : Int)) fun w21 =>
 ldS w21 ⟨b2, 0, none⟩ fun r_3p r_3l r_3c =>
 ldI .i64 w21 ⟨b3, 0, none⟩ fun r_4 =>
 ldI .i64 w21 ⟨b4, 0, none⟩ fun r_5 =>
 J r_3p r_3l r_3c r_4 r_5 w21))) fun J_21 =>
 ldS w7 ⟨b2, 0, none⟩ fun x10p x10l x10c =>
 Zz2 (((x10l : Nat) : Int) == (0 : Int)) (
 J_21 true w7) (
 ldP w7 ⟨b5, 0, none⟩ fun x14 =>
 Zyp x14 fun a15 =>
 ldI .i64 w7 ((a15.add 1)) fun x17 =>
 J_21 (decide (x17 < (q0.size : Int))) w7))
def YcP : Ann := .s (.o) (.s (.o) (.s (.b (.l [] (.s (.j [(21, .bool)] (.o) (.c (.o) (.o))) (.b (.j [] (.j [(33, .bool)] (.o) (.c (.o) (.o))) (.d (.take 0 (.take 1 (.eff 2 (.eff 3 (.eff 4 (.eff 5 (.done) (.none)) (.none)) (.none)) (.none)))))))))) (.s (.s (.o) (.c (.s (.o) (.o)) (.o))) (.s (.o) (.o)))))
theorem eq_pick_read_D (q0 : ByteArray) (w : World) (J : Option Addr -> Nat -> Nat -> Int -> Int -> World -> Prop) : vcFunD Tryz.prog Tryz.f20 9 YcP [.one .slice, .one (.int .i64), .one (.int .i64)] [.string q0] w J = VC_pick_read_D q0 w J := by kernel_rfl
end Go.Proofs.YtlnfaaghdkngmaaGreatDoor
end
section
namespace Go.Proofs.YtlnfaaghdkngmaaGreatDoor
open Go Go.Vc Go.Lib
set_option maxRecDepth 100000 in
theorem read1_idle (x0 x1 x2 x3 : Value) (w : World) :
  CallsD Tryz.prog 64 #[x0, x1, x2, x3] .returning w fun e u' w' => e = .returned (.tuple #[]) /\ u' = .returning /\ w' = w := by
 refine callsD_of_wpS Tryz.func64 rfl fun c₀ cs hu => ?_
 apply wpS_seq
 apply wpS_region
 simp [wpOpsS, go_sem, recoverD, hu, Tryz.ntmps64, Exit.thenS]
 apply wpS_seq
 apply wpS_seq
 apply wpS_region
 simp [wpOpsS, go_sem, Exit.thenS]
 refine wpS_cond (t := true) (by simp [Act.eval, Array.replicate]) ?_
 simp only [if_true]
 refine wpS_of_wp (wp_ret ?_)
 cases c₀
 simp_all [bodyPostS, results, Tryz.results64, Exit.thenS]
def dRead (a : Act) : Deferred := { target := .fn (.func 64) #[a.eval (.tmp 5), a.eval (.tmp 2), a.eval (.tmp 3), a.eval (.tmp 4)], args := #[] }
theorem region_step {P : Program} {id : Nat} {o1 o2 : Oper} (h1 : o1.op = .makeFunc (.func 64) #[] #[.tmp 5, .tmp 2, .tmp 3, .tmp 4]) (e1 : o1.dst = some 9) (g1 : o1.guard = none)
  (h2 : o2.op = .defer { callee := .value (.tmp 9), args := #[], argTypes := #[] }) (e2 : o2.dst = none) (g2 : o2.guard = none) (a : Act) (w : World) (hd : a.defers = []) (hs : 9 < a.tmps.size) :
  (Code.region id #[o1, o2] false).wp P (fun e a' w' => e = .normal /\ w' = w /\ a'.defers = [dRead a] /\ a'.tmps.size = a.tmps.size /\ ∀ i, i ≠ 9 -> a'.tmps[i]? = a.tmps[i]?) a w := by
 obtain ⟨dst1, op1, ty1, pos1, aft1, gd1⟩ := o1
 obtain ⟨dst2, op2, ty2, pos2, aft2, gd2⟩ := o2
 simp only at h1 e1 g1 h2 e2 g2
 subst h1 e1 g1 h2 e2 g2
 refine wp_region_list ?_
 refine wpList_step fun K' hK' => ?_
 rw [if_pos (by rfl)]
 refine Zyq (v := .func (.func 64) #[] #[a.eval (.tmp 5), a.eval (.tmp 2), a.eval (.tmp 3), a.eval (.tmp 4)]) (w' := w) (by simp [execOp, Instr.makeFunc]) (hK' _ _ ?_)
 refine wpList_step fun K2 hK2 => ?_
 rw [if_pos (by rfl)]
 unfold Oper.wp
 have hev : (a.put (some 9) (.func (.func 64) #[] #[a.eval (.tmp 5), a.eval (.tmp 2), a.eval (.tmp 3), a.eval (.tmp 4)])).eval (.tmp 9) = .func (.func 64) #[] #[a.eval (.tmp 5), a.eval (.tmp 2), a.eval (.tmp 3), a.eval (.tmp 4)] := by
  simp [Act.eval, Act.put, hs]
 have hrun : (execOp (a.put (some 9) (.func (.func 64) #[] #[a.eval (.tmp 5), a.eval (.tmp 2), a.eval (.tmp 3), a.eval (.tmp 4)])).eval { dst := none, op := .defer { callee := .value (.tmp 9), args := #[], argTypes := #[] }, type := ty2, pos := pos2, after := aft2, guard := none }).run P w = .ok (.defer (dRead a)) w := by
  simp [execOp, resolve, hev, dRead, Deferred.ofValue]
 rw [hrun, Oper.upon_defer]
 refine hK2 _ _ ?_
 refine ⟨rfl, rfl, by simp [Act.put, hd], by simp [Act.put], fun i hi => ?_⟩
 simp [Act.put, Array.getElem?_setIfInBounds_ne (Ne.symm hi)]
theorem leaves_read {fn : Func} (a : Act) (tmps : Array Value) (R : Ending -> World -> Prop) (w : World) (h : Leaves Tryz.prog fn tmps R [] .returning w) : Leaves Tryz.prog fn tmps R [dRead a] .returning w := by
 refine leaves_cons (f := 64) (args := #[a.eval (.tmp 5), a.eval (.tmp 2), a.eval (.tmp 3), a.eval (.tmp 4)]) (by simp) (by simp [go_sem]) ?_
 refine (read1_idle _ _ _ _ w).mono ?_
 rintro e u' w' ⟨rfl, rfl, rfl⟩
 exact h
set_option maxRecDepth 100000 in
theorem c_read {q : ByteArray} {w : World} {J : Option Addr -> Nat -> Nat -> Int -> Int -> World -> Prop} (h : VC_pick_read_D q w J) : Zz1 Tryz.prog Ycz #[.string q] w [.one .slice, .one (.int .i64), .one (.int .i64)] J :=
 vcD_calls Tryz.func20 rfl YcP dRead (fun a w hd hs => region_step rfl rfl rfl rfl rfl rfl a w hd (by rw [hs]; decide)) leaves_read (Eq.mpr (eq_pick_read_D q w J) h)
end Go.Proofs.YtlnfaaghdkngmaaGreatDoor
end
section
namespace Go.Vc
open Go Go.Lib
def qTx (L : List Sp) : List UInt8 := L.flatMap Sp.tx
theorem Sp.tx_cons (s : Sp) : ∃ y, s.tx = 47 :: y := by cases s <;> exact ⟨_, rfl⟩
theorem Sp.stop_of {s : Sp} {x : List UInt8} (h : x = [] \/ ∃ y, x = 47 :: y) : s.Stop x := by
 rcases h with rfl | ⟨y, rfl⟩
 ·cases s with
  | all d nd cs => simp [Sp.Stop]
  | attr n => intro d r e; cases e
 ·cases s with
  | all d nd cs => simp [Sp.Stop]
  | attr n =>
   intro d r e
   simp only [cons.injEq] at e
   rw [<- e.1]
   exact ⟨by decide, by decide, by decide⟩
theorem qTx_head (L : List Sp) : qTx L = [] \/ ∃ y, qTx L = 47 :: y := by
 cases L with
 | nil => exact .inl rfl
 | cons s L =>
  obtain ⟨y, hy⟩ := s.tx_cons
  refine .inr ⟨y ++ qTx L, ?_⟩
  show s.tx ++ qTx L = _
  rw [hy]; rfl
def Sp.isAttr : Sp -> Bool
 | .all _ _ _ => false
 | .attr _ => true
theorem Sp.Is.at {s : StV} {sp : Sp} (h : sp.Is s) : s.attr = sp.isAttr := by
 cases sp with
 | all d nd cs => exact h.2.1
 | attr n => exact h.2.1
def Ycp : List StV -> List Sp -> Prop
 | [], [] => True
 | s :: S, sp :: L => sp.Is s /\ Ycp S L
 | _, _ => False
theorem Ycp.len : ∀ {S : List StV} {L : List Sp}, Ycp S L -> S.length = L.length
 | [], [], _ => rfl
 | _ :: S, _ :: L, h => by simp [Ycp.len h.2]
 | [], _ :: _, h => h.elim
 | _ :: _, [], h => h.elim
theorem Ycp.snoc : ∀ {S : List StV} {L : List Sp} {s : StV} {sp : Sp}, Ycp S L -> sp.Is s -> Ycp (S ++ [s]) (L ++ [sp])
 | [], [], _, _, _, h => ⟨h, trivial⟩
 | _ :: S, _ :: L, _, _, h, k => ⟨h.1, Ycp.snoc h.2 k⟩
 | [], _ :: _, _, _, h, _ => h.elim
 | _ :: _, [], _, _, h, _ => h.elim
theorem Ycp.get : ∀ {S : List StV} {L : List Sp} {i : Nat} {s : StV} {sp : Sp}, Ycp S L -> S[i]? = some s -> L[i]? = some sp -> sp.Is s
 | _ :: _, _ :: _, 0, _, _, h, h1, h2 => by
  simp at h1 h2; subst h1 h2; exact h.1
 | _ :: S, _ :: L, i + 1, _, _, h, h1, h2 => Ycp.get h.2 (by simpa using h1) (by simpa using h2)
 | [], [], _, _, _, _, h1, _ => by simp at h1
 | [], _ :: _, _, _, _, h, _, _ => h.elim
 | _ :: _, [], _, _, _, h, _, _ => h.elim
end Go.Vc
namespace Go.Proofs.YtlnfaaghdkngmaaGreatDoor
open Go Go.Vc Go.Lib
theorem zeroC_slStep : Zy5 Tryz.prog Zym = ⟨[.slice none 0 0]⟩ := by kernel_rfl
theorem zeroC_intP : Zy5 Tryz.prog ZqJ = ⟨[.int .i64 0]⟩ := by kernel_rfl
theorem zeroC_errno : Zy5 Tryz.prog Ybb = ⟨[.int .i64 0]⟩ := by kernel_rfl
theorem zeroC_ptrRd : Zy5 Tryz.prog Zq7 = ⟨[.pointer none]⟩ := by kernel_rfl
theorem slT_step : SlT Tryz.prog Zym Zzf 6 80 #[.bool false, .bool false, .string ByteArray.empty, .string ByteArray.empty, .string ByteArray.empty, .slice none 0 0] := SlT.of (by kernel_rfl) (by kernel_rfl) rfl (by decide)
section
variable {w w' : World}
theorem tabs_new {r : Nat} (T : YfG w) (h : w.heap.size <= r) {w1 : World} (h1 : Chg No w w1) : ∀ w', Chg (fun x => x = r) w1 w' -> YfG w' := fun w' hc =>
 T.chg (h1.trans hc fun b hb e => by omega)
set_option maxHeartbeats 2000000 in
set_option maxRecDepth 10000 in
theorem ReadQ_ok {q : ByteArray} {L : List Sp} {J : Option Addr -> Nat -> Nat -> Int -> Int -> World -> Prop} (T : YfG w) (hq : q.size <= 1000000000) (hL : L ≠ []) (h20 : L.length <= 20) (ht : bl q = qTx L) (hF : ∀ s ∈ L, s.Fit)
  (hA : ∀ a s b, L = a ++ s :: b -> b ≠ [] -> s.isAttr = false)
  (K : ∀ p l c (S : List StV) w', Row w' Zzf 6 p l c (rows StV.cells S) -> fresh w p -> (∀ s ∈ S, StOk w' s /\ fresh w s.p) -> Ycp S L -> Chg No w w' -> J p l c 0 0 w') :
  Zz1 Tryz.prog Ycz #[.string q] w [.one .slice, .one (.int .i64), .one (.int .i64)] J := by
 refine c_read ?_
 unfold VC_pick_read_D
 simp only [zeroC_slStep, zeroC_intP, zeroC_errno, zeroC_ptrRd]
 refine (Hp.start w No).newB fun b2 w1 H1 hb2 hc1 => ?_
 refine H1.newB fun b3 w2 H2 hb3 hc2 => ?_
 refine H2.newB fun b4 w3 H3 hb4 hc3 => ?_
 refine H3.newB fun b8 w4 H4 hb8 hc4 => ?_
 refine H4.newB fun b5 w5 H5 hb5 hc5 => ?_
 refine H5.stV 0 rfl (off := 0) (by simp) fun w6 H6 hc6 => ?_
 simp only [set_cons_zero] at H6
 have hb8w : w.heap.size <= b8 := by have := H3.chg.size; omega
 refine ⟨fun w' m => ∃ (dn rest : List Sp) (S : List StV) (p : Option Addr) (l c e : Nat), L = dn ++ rest /\ m = rest.length /\
   Hp w No w' [⟨b5, [.pointer (some ⟨b8, 0, none⟩)], Zq7⟩, ⟨b8, [.string q, .int .i64 (e : Int)], Zzs⟩, ⟨b4, [.int .i64 0], Ybb⟩, ⟨b3, [.int .i64 0], ZqJ⟩, ⟨b2, [.slice p l c], Zym⟩] /\
   Row w' Zzf 6 p l c (rows StV.cells S) /\ fresh w p /\ (∀ s ∈ S, StOk w' s /\ fresh w s.p) /\ Ycp S dn /\ e = (qTx dn).length,
  ⟨L.length, [], L, [], none, 0, 0, 0, rfl, rfl, H6, Row.nil _ _ _, (by rintro a ⟨⟩), (by simp), trivial, rfl⟩, ?_⟩
 rintro w7 m ⟨dn, rest, S, p, l, c, e, hLd, rfl, H7, hrow, hfr, hS, hI, he⟩
 have hl : l = S.length := (hrow.sl.row (even_st S) (by decide)).symm
 have hlS := hI.len
 have hqz : q.size = (qTx dn).length + (qTx rest).length := by
  rw [<- ZzA, ht, hLd]; simp [qTx]
 have hlen20 : dn.length + rest.length <= 20 := by rw [hLd, length_append] at h20; exact h20
 refine Zzb fun J21 hJ21 => ?_
 cases rest with
 | nil =>
  have hdn : dn = L := by rw [hLd, append_nil]
  have hne : l ≠ 0 := by
   rw [hl, hlS, hdn]
   intro h0
   exact hL (eq_nil_of_length_eq_zero h0)
  have k21 : J21 false w7 := by
   subst hJ21
   refine Zz9 (fun h => by cases h) (fun _ => ?_)
   refine H7.ldS 4 rfl (off := 0) rfl ?_
   refine Zz6 (fun h => by simp only [length_nil] at hlen20; omega) (fun _ => ?_)
   refine H7.ldS 4 rfl (off := 0) rfl ?_
   refine H7.stV 4 rfl (off := 0) (by simp) fun w19 H19 hc19 => ?_
   simp only [set_cons_zero, set_cons_succ] at H19
   refine H19.stV 3 rfl (off := 0) (by simp) fun w20 H20 hc20 => ?_
   simp only [set_cons_zero, set_cons_succ] at H20
   refine H20.stV 2 rfl (off := 0) (by simp) fun w21 H21 hc21 => ?_
   simp only [set_cons_zero, set_cons_succ] at H21
   refine H21.ldS 4 rfl (off := 0) rfl ?_
   refine H21.ldI 3 rfl (off := 0) rfl ?_
   refine H21.ldI 2 rfl (off := 0) rfl ?_
   have t2 := ZqB (H7.get 4 rfl)
   have t3 := ZqB (H19.get 3 rfl)
   have t4 := ZqB (H20.get 2 rfl)
   have keep : ∀ {e : TypeId} {sz : Nat} {p' : Option Addr} {l' c' : Nat} {xs : List Value}, Row w7 e sz p' l' c' xs -> e ≠ Zym -> e ≠ ZqJ -> e ≠ Ybb -> Row w21 e sz p' l' c' xs := by
    intro e sz p' l' c' xs hr n1 n2 n3
    have g1 := hr.chg hc19 fun a ha hb => by have := hr.typ a ha; rw [hb, t2] at this; exact n1 (Option.some.inj this).symm
    have g2 := g1.chg hc20 fun a ha hb => by have := g1.typ a ha; rw [hb, t3] at this; exact n2 (Option.some.inj this).symm
    exact g2.chg hc21 fun a ha hb => by have := g2.typ a ha; rw [hb, t4] at this; exact n3 (Option.some.inj this).symm
   exact K p l c S w21 (keep hrow (by decide) (by decide) (by decide)) hfr (fun s hs => ⟨keep (hS s hs).1 (by decide) (by decide) (by decide), (hS s hs).2⟩) (by rw [<- hdn]; exact hI) H21.chg
  clear hJ21
  refine H7.ldS 4 rfl (off := 0) rfl ?_
  refine Zzi (fun h => by omega) (fun _ => ?_)
  refine H7.ldP 0 rfl (off := 0) rfl ?_
  refine H7.ldI 1 rfl (off := 1) rfl ?_
  rw [decide_eq_false (by have : (qTx ([] : List Sp)).length = 0 := rfl; omega)]
  exact k21
 | cons sp rest =>
  have hsp : sp.Fit := hF sp (by rw [hLd]; simp)
  obtain ⟨y, hy⟩ := sp.tx_cons
  have hspl : 1 <= sp.tx.length := by rw [hy]; simp
  have hq2 : (qTx (sp :: rest)).length = sp.tx.length + (qTx rest).length := by simp [qTx]
  have hde : (bl q).drop e = sp.tx ++ qTx rest := by
   have : bl q = qTx dn ++ (sp.tx ++ qTx rest) := by rw [ht, hLd]; simp [qTx]
   rw [this, he, drop_left]
  simp only [length_cons] at hlen20
  have k21 : J21 true w7 := by
   subst hJ21
   refine Zz9 (fun _ => ?_) (fun h => by cases h)
   refine Zzb fun J0 hJ0 => ?_
   have k0 : J0 w7 := by
    subst hJ0
    have H7d := H7.drew
    refine H7d.ldS 4 rfl (off := 0) rfl ?_
    refine H7d.ldP 0 rfl (off := 0) rfl ?_
    refine StepQ_ok (T.chg H7d.chg) ⟨H7d.get 1 rfl, hq, by omega⟩ (tabs_new T hb8w H7d.chg) hsp hde (Sp.stop_of (qTx_head rest)) fun s w10 hIs hOk hfs h10 hc10 => ?_
    have H10 := H7d.redo 1 rfl hc10 h10.cell
    simp only [set_cons_zero, set_cons_succ] at H10
    refine ⟨H10.cell 4 rfl rfl, rfl, ?_⟩
    refine newRow (sz := 6) (n := 1) rfl (by decide) fun b39 w11 hr11 hb39 hc11 => ?_
    have H11 := H10.step0 hc11
    refine ⟨H11.cell 4 rfl rfl, ?_⟩
    have t8 := ZqB (H7d.get 1 rfl)
    have hrow10 : Row w10 Zzf 6 p l c (rows StV.cells S) := (hrow.chg (ZqZ w7) (off_no _)).chg hc10 fun a ha hb => by
     have := (hrow.chg (ZqZ w7) (off_no _)).typ a ha
     rw [hb, t8] at this; exact absurd (Option.some.inj this) (by decide)
    have hS10 : ∀ s ∈ S, StOk w10 s := fun s hs => by
     have g := (hS s hs).1.chg (ZqZ w7) (off_no _)
     exact g.chg hc10 fun a ha hb => by
      have := g.typ a ha
      rw [hb, t8] at this; exact absurd (Option.some.inj this) (by decide)
    refine Zq4 slT_step (hrow10.chg hc11 (off_no _)) hr11.sl (one1_st s) (by simp) (by omega) (by simp only [maxLen]; omega) fun p12 c12 w12 hr12 hc12 hf12 => ?_
    have hlt : ∀ a, p = some a -> w.heap.size <= a.block := hfr
    have ty11 := (hrow10.chg hc11 (off_no _)).typ
    have H12 : Hp w No w12 _ := H11.step hc12 (fun z hz => by
     rintro ⟨a, ha, eb⟩
     have h1 := ty11 a ha
     simp only [mem_cons, not_mem_nil, or_false] at hz
     rcases hz with rfl | rfl | rfl | rfl | rfl
     ·rw [eb, ZqB (H11.get 0 rfl)] at h1; exact absurd (Option.some.inj h1) (by decide)
     ·rw [eb, ZqB (H11.get 1 rfl)] at h1; exact absurd (Option.some.inj h1) (by decide)
     ·rw [eb, ZqB (H11.get 2 rfl)] at h1; exact absurd (Option.some.inj h1) (by decide)
     ·rw [eb, ZqB (H11.get 3 rfl)] at h1; exact absurd (Option.some.inj h1) (by decide)
     ·rw [eb, ZqB (H11.get 4 rfl)] at h1; exact absurd (Option.some.inj h1) (by decide)) (fun b hb => by
     rintro ⟨a, ha, rfl⟩
     have := hlt a ha
     omega)
    have keep12 : ∀ {s' : StV}, StOk w11 s' -> StOk w12 s' := fun {s'} g => g.chg hc12 fun a ha => by
     rintro ⟨a', ha', eb⟩
     have h1 := ty11 a' ha'
     have h2 := g.typ a ha
     rw [<- eb, h1] at h2
     exact absurd (Option.some.inj h2) (by decide)
    refine H12.stV 4 rfl (off := 0) (by simp) fun w13 H13 hc13 => ?_
    simp only [set_cons_zero, set_cons_succ] at H13
    have t2 := ZqB (H12.get 4 rfl)
    have keep13 : ∀ {e : TypeId} {sz : Nat} {p' : Option Addr} {l' c' : Nat} {xs : List Value}, Row w12 e sz p' l' c' xs -> e ≠ Zym -> Row w13 e sz p' l' c' xs := by
     intro e sz p' l' c' xs hr n1
     exact hr.chg hc13 fun a ha hb => by have := hr.typ a ha; rw [hb, t2] at this; exact n1 (Option.some.inj this).symm
    have hfs' : fresh w s.p := fun a ha => by have := hfs a ha; have := H7d.chg.size; omega
    refine ⟨rest.length, by simp, dn ++ [sp], rest, S ++ [s], p12, l + 1, c12, e + sp.tx.length, by rw [hLd]; simp, rfl, H13, ?_, ?_, ?_, hI.snoc hIs, by rw [he]; simp [qTx]⟩
    ·rw [ZzL]
     have e1 : rows StV.cells [s] = s.cells := by simp [rows]
     rw [e1]; exact keep13 hr12 (by decide)
    ·rcases hf12 with rfl | hf
     ·exact hfr
     ·intro a ha
      have := hf a ha
      have := H11.chg.size
      omega
    ·intro s' hs'
     rcases mem_append.1 hs' with h1 | h1
     ·exact ⟨keep13 (keep12 ((hS10 s' h1).chg hc11 (off_no _))) (by decide), (hS s' h1).2⟩
     ·rw [mem_singleton] at h1
      subst h1
      exact ⟨keep13 (keep12 (hOk.chg hc11 (off_no _))) (by decide), hfs'⟩
   clear hJ0
   refine Zzb fun J33 hJ33 => ?_
   have k33 : J33 false w7 := by subst hJ33; exact Zz9 (fun h => by cases h) (fun _ => k0)
   clear hJ33
   refine H7.ldS 4 rfl (off := 0) rfl ?_
   refine Zz6 (fun hpos => ?_) (fun _ => k33)
   refine H7.ldS 4 rfl (off := 0) rfl ?_
   refine H7.ldS 4 rfl (off := 0) rfl ?_
   rw [Zzt (n := (l : Int) - 1) (by omega) (by omega), show (l : Int) - 1 = ((l - 1 : Nat) : Int) by omega]
   refine Zzr hrow.sl (even_st S) (by decide) (by omega) (by omega) fun a s hpa hs hcells => ?_
   rw [Int.toNat_natCast] at hs
   have hd : dn ≠ [] := by intro h0; rw [h0, length_nil] at hlS; omega
   have hlast : dn[l - 1]? = some (dn.getLast hd) := by
    rw [getLast_eq_getElem, getElem?_eq_getElem (by omega)]
    congr 1
    congr 1
    omega
   have hIs := hI.get hs hlast
   have hna : s.attr = false := by
    rw [hIs.at]
    refine hA dn.dropLast (dn.getLast hd) (sp :: rest) ?_ (by simp)
    rw [hLd]
    have e1 : dn.dropLast ++ [dn.getLast hd] = dn := dropLast_concat_getLast hd
    conv => lhs; rw [<- e1]
    simp
   refine ldB_i (b := s.attr) ?_ ?_
   ·exact Yc0 hcells 1 rfl
   ·rw [hna]; exact k33
  clear hJ21
  refine H7.ldS 4 rfl (off := 0) rfl ?_
  refine Zzi (fun h => k21) (fun _ => ?_)
  refine H7.ldP 0 rfl (off := 0) rfl ?_
  refine H7.ldI 1 rfl (off := 1) rfl ?_
  rw [decide_eq_true (by omega)]
  exact k21
end
end Go.Proofs.YtlnfaaghdkngmaaGreatDoor
end
section
namespace Go.Vc
open Go Go.Lib
section
variable {w : World}
theorem ldStep {a : Addr} {d b : Bool} {t u n : ByteArray} {p : Option Addr} {l c : Nat} (hc : Zzn w a [.bool d, .bool b, .string t, .string u, .string n, .slice p l c])
  {K : Bool -> Bool -> ByteArray -> ByteArray -> ByteArray -> Option Addr -> Nat -> Nat -> Prop} (k : K d b t u n p l c) :
  ldB w a fun x0 => ldB w (a.add 1) fun x1 => ldStr w (a.add 2) fun x2 => ldStr w (a.add 3) fun x3 => ldStr w (a.add 4) fun x4 => ldS w (a.add 5) fun p5 l5 c5 => K x0 x1 x2 x3 x4 p5 l5 c5 :=
 ⟨_, Zzo hc, _, hc 1 _ rfl, _, hc 2 _ rfl, _, hc 3 _ rfl, _, hc 4 _ rfl, _, _, _, hc 5 _ rfl, k⟩
theorem boxStep {w0 : World} {S : Nat -> Prop} {Γ : List Blk} {bx : Nat} {e : TypeId} (H : Hp w0 S w Γ) (i : Nat) {d b : Bool} {t u n : ByteArray} {p : Option Addr} {l c : Nat}
  (hi : Γ[i]? = some ⟨bx, [.bool d, .bool b, .string t, .string u, .string n, .slice p l c], e⟩)
  {K : Bool -> Bool -> ByteArray -> ByteArray -> ByteArray -> Option Addr -> Nat -> Nat -> Prop} (k : K d b t u n p l c) :
  ldB w ⟨bx, 0, none⟩ fun x0 => ldB w ⟨bx, 1, none⟩ fun x1 => ldStr w ⟨bx, 2, none⟩ fun x2 => ldStr w ⟨bx, 3, none⟩ fun x3 => ldStr w ⟨bx, 4, none⟩ fun x4 => ldS w ⟨bx, 5, none⟩ fun p5 l5 c5 => K x0 x1 x2 x3 x4 p5 l5 c5 :=
 ⟨_, H.cell i hi rfl, _, H.cell i hi rfl, _, H.cell i hi rfl, _, H.cell i hi rfl, _, H.cell i hi rfl, _, _, _, H.cell i hi rfl, k⟩
end
end Go.Vc
namespace Go.Proofs.YtlnfaaghdkngmaaGreatDoor
open Go Go.Vc Go.Lib
section
variable {w w' : World}
end
end Go.Proofs.YtlnfaaghdkngmaaGreatDoor
end
section
namespace Go.Vc
open Go Go.Lib
theorem Ycp.nth : ∀ {S : List StV} {L : List Sp}, Ycp S L -> ∀ {i : Nat} {st : StV}, S[i]? = some st -> ∃ sp, L[i]? = some sp /\ sp.Is st
 | [], [], _, i, st, h => by simp at h
 | s :: S, l :: L, h, 0, st, e => by
  simp only [getElem?_cons_zero, Option.some.injEq] at e
  subst e; exact ⟨l, rfl, h.1⟩
 | s :: S, l :: L, h, i + 1, st, e => by
  obtain ⟨sp, h1, h2⟩ := Ycp.nth h.2 (i := i) (show S[i]? = some st by simpa using e)
  exact ⟨sp, by simpa using h1, h2⟩
 | [], _ :: _, h, _, _, _ => by simp [Ycp] at h
 | _ :: _, [], h, _, _, _ => by simp [Ycp] at h
end Go.Vc
namespace Go.Proofs.YtlnfaaghdkngmaaGreatDoor
open Go Go.Vc Go.Lib
def kidSp (c : List UInt8 × Nat) : Sp := .all false true [.idx c.1 c.2]
theorem spKids_get : ∀ {ks : List NV} {p : List Int} {i j : Nat} {z : NV}, ks[j]? = some z -> (ZxD true ks p i).drop j = (p ++ [((i + j : Nat) : Int)], z) :: (ZxD true ks p i).drop (j + 1) /\ j < (ZxD true ks p i).length
 | [], _, _, _, _, h => by simp at h
 | k :: ks, p, i, 0, z, h => by
  simp only [getElem?_cons_zero, Option.some.injEq] at h
  subst h
  rw [ZxD, if_pos (by rfl)]
  simp
 | k :: ks, p, i, j + 1, z, h => by
  have ih := spKids_get (p := p) (i := i + 1) (show ks[j]? = some z by simpa using h)
  rw [ZxD, if_pos (by rfl)]
  simp only [cons_append, nil_append, drop_succ_cons, length_cons]
  refine ⟨?_, by omega⟩
  rw [ih.1]
  congr 5
  omega
theorem condL_kid {ks : List NV} {p : List Int} {j : Nat} {z : NV} {ds : List UInt8} (h : ks[j]? = some z) : condL [.idx ds (j + 1)] (ZxD true ks p 0) = [(p ++ [(j : Int)], z)] := by
 obtain ⟨h1, h2⟩ := spKids_get (p := p) (i := 0) h
 show (if j + 1 > (ZxD true ks p 0).length then [] else ((ZxD true ks p 0).drop (j + 1 - 1)).take 1) = _
 rw [if_neg (by omega), Nat.add_sub_cancel, h1]
 simp
section
variable {w w' : World}
set_option maxHeartbeats 4000000 in
set_option maxRecDepth 10000 in
theorem PickA_ok {q : ByteArray} {cs : List (List UInt8 × Nat)} {path : List Int} {x y : NV} {J : Option Addr -> Nat -> Nat -> Int -> Int -> World -> Prop} (T : TT w) (hq : q.size <= 1000000000) (ht : bl q = qTx (cs.map kidSp)) (hne : path ≠ []) (h20 : path.length <= 20)
    (hcs : path = cs.map fun c => ((c.2 - 1 : Nat) : Int)) (hF : ∀ c ∈ cs, (Cd.idx c.1 c.2).Fit /\ 1 <= c.2) (hx : x.Ok w) (hm : x.mea <= 10000000) (hR : Right x.nd) (hy : atV x path = some y)
    (K : ∀ p l c (t : TrV) w', Row w' Zzp 4 p 1 c (rows TrV.cells [t]) -> fresh w p -> TrsOk w w' [t] -> t.at_ = false -> t.pr = (path, (Zzc, Zzc)) -> l = 1 -> Chg No w w' -> J p l c 0 0 w') :
    Zz1 Tryz.prog YcA #[.agg ⟨x.cells⟩, .string q] w [.one .slice, .one (.int .i64), .one (.int .i64)] J := by
  have hcl : cs.length = path.length := by rw [hcs, List.length_map]
  cases hxx : x with
  | mk k u l' t ap al ac ats kp kl kc ks =>
  refine c_pick_Pick ?_
  refine (Hp.start w No).newB fun b2 w1 H1 hb2 hc1 => ?_
  refine ReadQ_ok (L := cs.map kidSp) (T.chg H1.chg).tabs hq (by intro e; rw [List.map_eq_nil_iff] at e; rw [e] at hcs; exact hne hcs) (by rw [List.length_map]; omega) ht (fun s hs => ?_) (fun a s b e hb => ?_) fun rp rl rc S w2 hrS hfS hSok hAll hc2 => ?_
  · obtain ⟨c, hc, rfl⟩ := List.mem_map.1 hs
    intro d hd
    rw [List.mem_singleton] at hd; subst hd
    exact (hF c hc).1
  · have : s ∈ cs.map kidSp := by rw [e]; simp
    obtain ⟨c, hc, rfl⟩ := List.mem_map.1 this
    rfl
  refine Zzw (fun h => absurd rfl h) fun _ => ?_
  have H2 := H1.step0 hc2
  refine Zq8 H2 0 rfl ?_
  rw [hxx] at hx hm hR hy
  refine Check_ok (x := NV.mk k u l' t ap al ac ats kp kl kc ks) (T.chg H2.chg) (hx.chg0 H2.chg) hm fun w3 hc3 => ?_
  rw [YdU.2 hR]
  refine Zzw (fun h => absurd rfl h) fun _ => ?_
  have H3 := H2.step0 hc3
  refine Zq8 H3 0 rfl ?_
  refine ⟨rfl, rfl, ?_⟩
  rw [<- hxx] at hx hm hR hy
  have hXC : SpV.cells ⟨none, 0, 0, [], x⟩ = [.slice none 0 0, .int .i64 k, .string u, .string l', .slice ap al ac, .slice kp kl kc, .string t] := by rw [hxx]; rfl
  have hrx : rows SpV.cells [⟨none, 0, 0, [], x⟩] = [.slice none 0 0, .int .i64 k, .string u, .string l', .slice ap al ac, .slice kp kl kc, .string t] := by rw [<- hXC]; simp [rows]
  refine newRow (sz := 7) (n := 1) rfl (by decide) fun b37 w4 hr4 hb37 hc4 => ?_
  rw [<- hrx] at hr4
  have hc04 : Chg No w w4 := H3.chg.trans0 hc4
  have hc24 : Chg No w2 w4 := hc3.trans0 hc4
  have hSl : S.length = rl := hrS.sl.row (even_st _) (by decide)
  have hSL : S.length = path.length := by rw [hAll.len, List.length_map, hcl]
  have one : ∀ (s : SpV), rows SpV.cells [s] = s.cells := fun s => by simp [rows]
  have hsp0 : SpsOk w w4 [⟨none, 0, 0, [], x⟩] := ⟨fun y hy => by rw [List.mem_singleton] at hy; subst hy; exact Row.nil _ _ _, fun y hy => by rw [List.mem_singleton] at hy; subst hy; rintro a ⟨⟩, fun y hy => by rw [List.mem_singleton] at hy; subst hy; exact ⟨hx, by show x.mea <= _; omega⟩⟩
  refine ⟨fun lp ll lc i w' m => ∃ (j : Nat) (s : SpV), i = j /\ j <= path.length /\ m = path.length - j /\ ll = 1 /\ Chg No w w' /\ Chg No w4 w' /\ Row w' Zze 7 lp 1 lc (rows SpV.cells [s]) /\ SpsOk w w' [s] /\ s.path = path.take j /\ s.v.mea <= x.mea /\ atV s.v (path.drop j) = some y,
    ⟨_, 0, _, rfl, Nat.zero_le _, rfl, rfl, hc04, Chg.refl _ _, hr4, hsp0, rfl, Nat.le_refl _, hy⟩, ?_⟩
  rintro lp ll lc i w5 m ⟨j, s, rfl, hj, rfl, rfl, hc05, hc45, hr5, hsp, hpath, hsm, hat⟩
  refine Zz6 (fun hlt => ?_) (fun hge => ?_)
  · have hjs : j < S.length := by omega
    refine Zzr ((hrS.chg hc24 (off_no _)).chg hc45 (off_no _)).sl (even_st _) (by decide) (by omega) hlt fun a st hpa hst hcs5 => ?_
    rw [Int.toNat_natCast] at hst
    obtain ⟨c, hcm, hpc, hIs⟩ : ∃ c, c ∈ cs /\ path[j]? = some (((c.2 - 1 : Nat) : Int)) /\ (kidSp c).Is st := by
      have h1 := hAll.nth hst
      obtain ⟨sp, h2, h3⟩ := h1
      rw [List.getElem?_map] at h2
      obtain ⟨c, h4, rfl⟩ := Option.map_eq_some_iff.1 h2
      exact ⟨c, List.mem_of_getElem? h4, by rw [hcs, List.getElem?_map, h4]; rfl, h3⟩
    obtain ⟨hFc, hc1'⟩ := hF c hcm
    have hdrop : path.drop j = ((c.2 - 1 : Nat) : Int) :: path.drop (j + 1) := by
      obtain ⟨h1, h2⟩ := List.getElem?_eq_some_iff.1 hpc
      rw [List.drop_eq_getElem_cons h1, h2]
    have htake : path.take (j + 1) = path.take j ++ [((c.2 - 1 : Nat) : Int)] := by
      obtain ⟨h1, h2⟩ := List.getElem?_eq_some_iff.1 hpc
      rw [List.take_succ_eq_append_getElem h1, h2]
    rw [hdrop, atV] at hat
    obtain ⟨z, hz, hatz⟩ : ∃ z, s.v.kidsV[c.2 - 1]? = some z /\ atV z (path.drop (j + 1)) = some y := by
      cases hk : kidV s.v ((c.2 - 1 : Nat) : Int) with
      | none => rw [hk] at hat; cases hat
      | some z =>
        rw [hk] at hat
        refine ⟨z, ?_, hat⟩
        unfold kidV at hk
        rw [if_neg (by omega), Int.toNat_natCast] at hk
        cases hv : s.v with
        | mk a1 a2 a3 a4 a5 a6 a7 a8 a9 a10 a11 a12 => rw [hv] at hk; exact hk
    have hst0 := (hSok st (List.mem_of_getElem? hst)).1
    obtain ⟨sd, sa, stt, sn, sp, sl, sc, scs⟩ := st
    have hIs' := hIs
    obtain ⟨rfl, rfl, hst2, hcs2⟩ := hIs
    simp only at hst2 hcs2
    replace hst2 : stt = YaZ := hst2
    subst hst2 hcs2
    simp only [StV.cells] at hcs5
    refine ldStep hcs5 ?_
    rw [zeroC_step]
    refine (Hp.of_chg hc05).newB fun b13 w6 H6 hb13 hc6 => ?_
    refine H6.stN 0 rfl (off := 0) rfl (by simp) (Zzd rfl (Zzd rfl (Zzd rfl (Zzd rfl (Zzd rfl (Zzd rfl Zyt)))))) fun w7 H7 hc7 => ?_
    simp only [List.set_cons_zero, spl6] at H7
    have hc57 : Chg No w5 w7 := hc6.trans hc7 fun b hb e => by subst e; omega
    refine H7.ldB 0 rfl (off := 1) rfl ?_
    refine Zz9 (fun h => absurd h (by decide)) (fun _ => ?_)
    refine Zzb fun J11 hJ11 => ?_
    refine H7.ldB 0 rfl (off := 0) rfl ?_
    refine Zz9 (fun h => absurd h (by decide)) (fun _ => ?_)
    rw [hJ11]
    clear hJ11
    have hc47 : Chg No w4 w7 := hc45.trans0 hc57
    have hst7 : Sl w7 sp sl 6 (rows CV.cells ([Cd.idx c.1 c.2].map Cd.cv)) := ((Row.chg hst0 hc24 (off_no _)).chg hc47 (off_no _)).sl
    have hz0 := (hsp.ok s List.mem_cons_self).1
    have hzmem : z ∈ s.v.kidsV := List.mem_of_getElem? hz
    obtain ⟨hzok, hzm⟩ : z.Ok w /\ z.mea <= s.v.mea := by
      obtain ⟨a1, a2, a3, a4, a5, a6, a7, a8, a9, a10, a11, a12, e, _, _, g3, _, g5, _⟩ := kid_ok hz0
      rw [e] at hzmem
      exact ⟨g3 z hzmem, by rw [e] at g5 ⊢; exact g5 z hzmem⟩
    refine ⟨fun np nl nc i w' m => Hp w No w' [⟨b13, [.bool false, .bool false, .string YaZ, .string ByteArray.empty, .string sn, .slice sp sl sc], Zzf⟩] /\ Chg No w7 w' /\ ((i = 0 /\ m = 1 /\ np = none /\ nl = 0 /\ nc = 0) \/
        (i = 1 /\ m = 0 /\ nl = 1 /\ ∃ s', Row w' Zze 7 np 1 nc (rows SpV.cells [s']) /\ fresh w7 np /\ SpsOk w w' [s'] /\ s'.path = path.take (j + 1) /\ s'.v = z)),
      ⟨_, H7, Chg.refl _ _, .inl ⟨rfl, rfl, rfl, rfl, rfl⟩⟩, ?_⟩
    rintro np nl nc i w9 m ⟨H9, hc79, ⟨rfl, rfl, rfl, rfl, rfl⟩ | ⟨rfl, rfl, rfl, s', hrZ, hfZ, hZ, hp', hv'⟩⟩
    · refine Zz6 (fun hlt => ?_) (fun hge => by omega)
      refine Zzb fun J14 hJ14 => ?_
      refine Zzr ((hr5.chg hc57 (off_no _)).chg hc79 (off_no _)).sl (Zqd _) (by decide) (by omega) hlt fun a y' hpa hy' hcs => ?_
      have hy0 : s = y' := by simpa using hy'
      subst hy0
      obtain ⟨zk, zu, zl', zt, zap, zal, zac, zkp, zkl, zkc, hze⟩ := Ygj s
      rw [hze] at hcs
      refine ldSpot hcs ?_
      rw [Yf5]
      refine H9.newB fun b16 w10 H10 hb16 hc10 => ?_
      refine H10.stN 0 rfl (off := 0) rfl (by simp) (by rw [<- hze]; exact YdC s) fun w11 H11 hc11 => ?_
      simp only [List.set_cons_zero, spl7] at H11
      have hc911 : Chg No w9 w11 := hc10.trans hc11 fun b hb e => by subst e; omega
      refine H11.ldB 1 rfl (off := 0) rfl ?_
      refine Zz9 (fun h => absurd h (by decide)) (fun _ => ?_)
      refine boxStep H11 1 rfl ?_
      refine boxSpot H11 0 rfl ?_
      rw [<- hze]
      have hst11 := (hst7.chg hc79 (off_no _)).chg hc911 (off_no _)
      have hpk := hsp.path s List.mem_cons_self
      have hc511 := (hc57.trans0 hc79).trans0 hc911
      have hplen : s.path.length = s.l := hpk.sl.row (fun _ _ => rfl) (by decide)
      have hsl20 : s.l <= 20 := by rw [<- hplen, hpath, List.length_take]; omega
      refine Of_ok (s := ⟨false, false, YaZ, sn, sp, sl, sc, [Cd.idx c.1 c.2].map Cd.cv⟩) (d := false) (nd := true) (cs := [.idx c.1 c.2]) (x := s) hIs' (by simp) (fun d hd => by rw [List.mem_singleton] at hd; subst hd; exact hFc) hst11 (hz0.chg0 H11.chg) (by omega) (hpk.chg hc511 (off_no _)).sl hpk.none0 (by omega) fun p12 l12 c12 Z w12 hs12 hn12 _ hf12 _ _ hZ hZm hc12 => ?_
      have hZm' : Z.map SpV.pr = [(path.take (j + 1), z)] := by
        rw [hZm]
        unfold ofV
        have e1 : c.2 = c.2 - 1 + 1 := by omega
        rw [e1, condL_kid hz, hpath, htake]
      obtain ⟨s', rfl, hs'⟩ : ∃ s', Z = [s'] /\ s'.pr = (path.take (j + 1), z) := by
        cases Z with
        | nil => cases hZm'
        | cons s' r =>
          cases r with
          | nil => exact ⟨s', rfl, by simpa using hZm'⟩
          | cons _ _ => simp at hZm'
      have hs1 : s'.path = path.take (j + 1) := congrArg Prod.fst hs'
      have hs2 : s'.v = z := congrArg Prod.snd hs'
      have hl12 : l12 = 1 := (hs12.row (Zqd _) (by decide)).symm
      subst hl12
      refine Zq4 slT_spot (Row.nil _ _ _) hs12 (YaY fun x _ => YdC x) hn12 (by omega) (by simp only [maxLen]; omega) fun p13 c13 w13 hr13 hc13 hf13 => ?_
      have hc13' : Chg No w12 w13 := (Chg.refl No w12).trans hc13 fun b hb => by rintro ⟨a, ha, _⟩; cases ha
      have H13 := (H11.step0 hc12).step0 hc13'
      rw [hJ14]
      refine ⟨0, by omega, H13.sub (List.sublist_cons_self _ _), ((hc79.trans0 hc911).trans0 hc12).trans0 hc13', .inr ⟨by decide, rfl, rfl, s', hr13, ?_, (hZ.up H11.chg.size fun y hy => ?_).chg0 hc13', hs1, hs2⟩⟩
      · rcases hf13 with rfl | hf
        · rintro a ⟨⟩
        · intro a ha
          have := hf a ha
          have := hc79.size; have := hc911.size; have := hc12.size
          omega
      · rw [List.mem_singleton] at hy; subst hy; rw [hs2]; exact hzok
    · refine Zz6 (fun hlt => by omega) (fun hge => ?_)
      have hpk := hZ.path s' List.mem_cons_self
      have hplen : s'.path.length = s'.l := hpk.sl.row (fun _ _ => rfl) (by decide)
      have hsl20 : s'.l <= 20 := by rw [<- hplen, hp', List.length_take]; omega
      refine SortSp_ok hrZ (by omega) (fun y hy => by rw [List.mem_singleton] at hy; subst hy; exact ⟨hpk, by omega⟩) fun Z' w14 hperm hr14 hc14 => ?_
      obtain rfl : Z' = [s'] := List.perm_singleton.1 hperm
      have hin : ∀ b, isB np b -> w7.heap.size <= b := by rintro b ⟨a, ha, rfl⟩; exact hfZ a ha
      have hc714 : Chg No w7 w14 := hc79.trans hc14 fun b hb h => by have := hin b h; omega
      refine ⟨_, by omega, j + 1, s', by rw [Zzt] <;> omega, by omega, rfl, rfl, H7.chg.trans0 hc714, hc47.trans0 hc714, hr14, ?_, hp', by rw [hv']; omega, by rw [hv']; exact hatz⟩
      refine hZ.chg hc14 ?_
      rintro b ⟨a, ha, rfl⟩
      rw [hrZ.typ a ha]; decide
  · have hjl : j = path.length := by omega
    subst hjl
    rw [List.take_of_length_le (Nat.le_refl _)] at hpath
    refine ⟨fun op ol oc i w' m => Chg No w w' /\ Chg No w5 w' /\ ((i = 0 /\ m = 1 /\ op = none /\ ol = 0 /\ oc = 0) \/ (i = 1 /\ m = 0 /\ ol = 1 /\ Row w' Zzp 4 op 1 oc (rows TrV.cells [⟨s.p, s.l, s.c, s.path, false, ByteArray.empty, ByteArray.empty⟩]) /\ fresh w5 op)),
      ⟨_, hc05, Chg.refl _ _, .inl ⟨rfl, rfl, rfl, rfl, rfl⟩⟩, ?_⟩
    have hpk := hsp.path s List.mem_cons_self
    rintro op ol oc i w6 m ⟨hc06, hc56, ⟨rfl, rfl, rfl, rfl, rfl⟩ | ⟨rfl, rfl, rfl, hrow, hfr⟩⟩
    rotate_left
    · refine Zz6 (fun hlt => by omega) (fun hge => ?_)
      have s5 := hc05.size
      exact K op 1 oc _ w6 hrow (fun a ha => by have := hfr a ha; omega) ⟨fun y hy => by rw [List.mem_singleton] at hy; subst hy; exact hpk.chg hc56 (off_no _), fun y hy => by rw [List.mem_singleton] at hy; subst hy; exact hsp.fr s List.mem_cons_self⟩ rfl (by unfold TrV.pr; rw [hpath]; rfl) rfl hc06
    · refine Zz6 (fun hlt => ?_) (fun hge => by omega)
      refine Zzr (hr5.chg hc56 (off_no _)).sl (Zqd _) (by decide) (by omega) hlt fun a y' hpa hyj hcs => ?_
      have hy0 : s = y' := by simpa using hyj
      subst hy0
      obtain ⟨zk, zu, zl', zt, zap, zal, zac, zkp, zkl, zkc, hze⟩ := Ygj s
      rw [hze] at hcs
      refine ldSpot hcs ?_
      rw [Yf5]
      refine (Hp.of_chg hc06).newB fun b19 w7 H7 hb19 hc7 => ?_
      refine H7.stN 0 rfl (off := 0) rfl (by simp) (by rw [<- hze]; exact YdC s) fun w8 H8 hc8 => ?_
      simp only [List.set_cons_zero, spl7] at H8
      have hc68 : Chg No w6 w8 := hc7.trans hc8 fun b hb e => by subst e; omega
      refine H8.ldS 0 rfl (off := 0) rfl ?_
      refine ⟨rfl, ?_⟩
      refine newRow (sz := 4) (n := 1) rfl (by decide) fun b86 w9 hr9 hb86 hc9 => ?_
      have hc69 := hc68.trans0 hc9
      refine Zq4 slT_trail (Row.nil _ _ _) hr9.sl (Zzd rfl (Zzd rfl (Zzd rfl (Zzd rfl Zyt)))) (by simp) (by omega) (by simp only [maxLen]; omega) fun p12 c12 w12 hr12 hc12 hf12 => ?_
      have hc12' : Chg No w9 w12 := (Chg.refl No w9).trans hc12 fun b hb => by rintro ⟨a, ha, _⟩; cases ha
      have s56 := hc56.size
      have s69 := hc69.size
      have hc512 : Chg No w5 w12 := (hc56.trans0 hc69).trans0 hc12'
      refine ⟨0, by omega, hc05.trans0 hc512, hc512, .inr ⟨by decide, rfl, rfl, ?_, ?_⟩⟩
      · have e1 : rows TrV.cells [⟨s.p, s.l, s.c, s.path, false, ByteArray.empty, ByteArray.empty⟩] = [.slice s.p s.l s.c, .bool false, .string ByteArray.empty, .string ByteArray.empty] := by simp [rows, TrV.cells]
        rw [e1]; exact hr12
      · rcases hf12 with rfl | hf
        · rintro a ⟨⟩
        · intro a ha
          have := hf a ha
          omega
end
end Go.Proofs.YtlnfaaghdkngmaaGreatDoor
end
section
namespace Go.Proofs.YtlnfaaghdkngmaaGreatDoor
open Go Go.Vc
theorem Yha {a : Int} {b c : ByteArray} {d : Option Addr} {e f : Nat} {g : Option Addr} {i j : Nat} {k : ByteArray} {l : Option Addr} {m n : Nat} {o : Int} {p q : ByteArray} {r : Option Addr} {s t : Nat} {u : Option Addr} {v x : Nat} {y z : ByteArray} {w : World} {J : Bool -> World -> Prop} (h :
 newB w (.cells ⟨[.int .i64 a, .string b, .string c, .slice d e f, .slice g i j, .string k]⟩ Zz3) fun aa ab =>
 newB ab (.cells ⟨[.int .i64 o, .string p, .string q, .slice r s t, .slice u v x, .string y]⟩ Zz3) fun ac ad =>
 Zz1 Tryz.prog ZxN #[] ad [.one .bool] fun ae af =>
 Zz2 (!ae) (
 J false af) (
 ldI .i64 af ⟨aa, 0, none⟩ fun ag =>
 ldStr af ⟨aa, 1, none⟩ fun ai =>
 ldStr af ⟨aa, 2, none⟩ fun aj =>
 ldS af ⟨aa, 3, none⟩ fun ak al am =>
 ldS af ⟨aa, 4, none⟩ fun an ao ap =>
 ldStr af ⟨aa, 5, none⟩ fun aq =>
 ldI .i64 af ⟨ac, 0, none⟩ fun ar =>
 ldStr af ⟨ac, 1, none⟩ fun au =>
 ldStr af ⟨ac, 2, none⟩ fun av =>
 ldS af ⟨ac, 3, none⟩ fun ax ay az =>
 ldS af ⟨ac, 4, none⟩ fun a0 a1 a2 =>
 ldStr af ⟨ac, 5, none⟩ fun a3 =>
 Array.size (⟨[.int .i64 ar, .string au, .string av, .slice ax ay az, .slice a0 a1 a2, .string a3]⟩ : Array Value) = 6 /\
 Zz1 Tryz.prog ZqX #[.agg ⟨[.int .i64 ag, .string ai, .string aj, .slice ak al am, .slice an ao ap, .string aq]⟩, .agg ⟨[.int .i64 1, .slice l m n, .string ByteArray.empty, .string ByteArray.empty, .string ByteArray.empty, .int .i64 ar, .string au, .string av, .slice ax ay az, .slice a0 a1 a2, .string a3]⟩] af [.agg [.int .i64, .str, .str, .slice, .slice, .str], .one (.int .i64)] fun a4 a5 a6 a7 a8 a9 ba bb bc bd be bf =>
 newB bf (.cells (Zy5 Tryz.prog Zz3) Zz3) fun bg bi =>
 stN bi ⟨bg, 0, none⟩ ⟨[.int .i64 a4, .string a5, .string a6, .slice a7 a8 a9, .slice ba bb bc, .string bd]⟩ 6 fun bj =>
 Zzj (fun (ii : Bool) (ij : World) =>
 Zz2 ii (
 J true ij) (
 ldI .i64 ij.drew ⟨bg, 0, none⟩ fun bk =>
 ldStr ij.drew ⟨bg, 1, none⟩ fun bl =>
 ldStr ij.drew ⟨bg, 2, none⟩ fun bm =>
 ldS ij.drew ⟨bg, 3, none⟩ fun bn bo bp =>
 ldS ij.drew ⟨bg, 4, none⟩ fun bq br bs =>
 ldStr ij.drew ⟨bg, 5, none⟩ fun bt =>
 Zz1 Tryz.prog Ybs #[.slice l m n] ij.drew [.one .str] fun bu bv =>
 Zzn bv ⟨bg, 0, none⟩ [.int .i64 bk, .string bl, .string bm, .slice bn bo bp, .slice bq br bs, .string bt] /\
 Zz1 Tryz.prog YcA #[.agg ⟨[.int .i64 bk, .string bl, .string bm, .slice bn bo bp, .slice bq br bs, .string bt]⟩, .string bu] bv [.one .slice, .one (.int .i64), .one (.int .i64)] fun bx bz b0 b1 b2 b3 =>
 Zz1 Tryz.prog YaN #[.agg ⟨[.slice l m n, .bool false, .string ByteArray.empty, .string ByteArray.empty]⟩] b3 [.one .str, .one (.int .i64)] fun b4 b5 b6 =>
 Zz1 Tryz.prog YbU #[.string b4] b6 [.agg [.slice, .bool, .str, .str], .one (.int .i64)] fun b7 b8 b9 ca cb cc cd ce =>
 newB ce (.cells (Zy5 Tryz.prog Zzp) Zzp) fun cf cg =>
 stN cg ⟨cf, 0, none⟩ ⟨[.slice b7 b8 b9, .bool ca, .string cb, .string cc]⟩ 4 fun ci =>
 ldI .i64 ci ⟨bg, 0, none⟩ fun cj =>
 ldStr ci ⟨bg, 1, none⟩ fun ck =>
 ldStr ci ⟨bg, 2, none⟩ fun cl =>
 ldS ci ⟨bg, 3, none⟩ fun cm cn co =>
 ldS ci ⟨bg, 4, none⟩ fun cp cq cr =>
 ldStr ci ⟨bg, 5, none⟩ fun cs =>
 ldS ci ⟨cf, 0, none⟩ fun ct cu cv =>
 Zz1 Tryz.prog Yd3 #[.agg ⟨[.int .i64 cj, .string ck, .string cl, .slice cm cn co, .slice cp cq cr, .string cs]⟩, .slice ct cu cv] ci [.agg [.int .i64, .str, .str, .slice, .slice, .str], .one (.int .i64)] fun cx cy cz c0 c1 c2 c3 c4 c5 c6 c7 c8 =>
 newB c8 (.cells (Zy5 Tryz.prog Zz3) Zz3) fun c9 da =>
 stN da ⟨c9, 0, none⟩ ⟨[.int .i64 cx, .string cy, .string cz, .slice c0 c1 c2, .slice c3 c4 c5, .string c6]⟩ 6 fun db =>
 Zzj (fun (ik : Bool) (il : World) =>
 Zz2 ik (
 J false il) (
 ldI .i64 il ⟨bg, 0, none⟩ fun dc =>
 ldStr il ⟨bg, 1, none⟩ fun dd =>
 ldStr il ⟨bg, 2, none⟩ fun de =>
 ldS il ⟨bg, 3, none⟩ fun df dg di =>
 ldS il ⟨bg, 4, none⟩ fun dj dk dl =>
 ldStr il ⟨bg, 5, none⟩ fun dm =>
 ldS il ⟨cf, 0, none⟩ fun dn dp dq =>
 Zz1 Tryz.prog ZqX #[.agg ⟨[.int .i64 dc, .string dd, .string de, .slice df dg di, .slice dj dk dl, .string dm]⟩, .agg ⟨[.int .i64 6, .slice dn dp dq, .string ByteArray.empty, .string ByteArray.empty, .string z, .int .i64 0, .string ByteArray.empty, .string ByteArray.empty, .slice none 0 0, .slice none 0 0, .string ByteArray.empty]⟩] il [.agg [.int .i64, .str, .str, .slice, .slice, .str], .one (.int .i64)] fun dr ds dt du dv dx dy dz d0 d1 d2 d3 =>
 newB d3 (.cells (Zy5 Tryz.prog Zz3) Zz3) fun d4 d5 =>
 stN d5 ⟨d4, 0, none⟩ ⟨[.int .i64 dr, .string ds, .string dt, .slice du dv dx, .slice dy dz d0, .string d1]⟩ 6 fun d6 =>
 Zz2 (d2 != (0 : Int)) (
 J true d6) (
 ldI .i64 d6 ⟨d4, 0, none⟩ fun d7 =>
 ldStr d6 ⟨d4, 1, none⟩ fun d8 =>
 ldStr d6 ⟨d4, 2, none⟩ fun d9 =>
 ldS d6 ⟨d4, 3, none⟩ fun ea eb ec =>
 ldS d6 ⟨d4, 4, none⟩ fun ed ee ef =>
 ldStr d6 ⟨d4, 5, none⟩ fun eg =>
 ldS d6 ⟨cf, 0, none⟩ fun ei ej ek =>
 ldB d6 ⟨cf, 1, none⟩ fun el =>
 ldStr d6 ⟨cf, 2, none⟩ fun em =>
 ldStr d6 ⟨cf, 3, none⟩ fun en =>
 Zz1 Tryz.prog Ybr #[.agg ⟨[.int .i64 d7, .string d8, .string d9, .slice ea eb ec, .slice ed ee ef, .string eg]⟩, .agg ⟨[.slice ei ej ek, .bool el, .string em, .string en]⟩] d6 [.one .str, .one (.int .i64)] fun eo ep eq =>
 ldI .i64 eq ⟨d4, 0, none⟩ fun er =>
 ldStr eq ⟨d4, 1, none⟩ fun es =>
 ldStr eq ⟨d4, 2, none⟩ fun et =>
 ldS eq ⟨d4, 3, none⟩ fun eu ev ex =>
 ldS eq ⟨d4, 4, none⟩ fun ey ez e0 =>
 ldStr eq ⟨d4, 5, none⟩ fun e1 =>
 ldS eq ⟨cf, 0, none⟩ fun e2 e3 e4 =>
 Zz1 Tryz.prog ZqX #[.agg ⟨[.int .i64 er, .string es, .string et, .slice eu ev ex, .slice ey ez e0, .string e1]⟩, .agg ⟨[.int .i64 2, .slice e2 e3 e4, .string ByteArray.empty, .string ByteArray.empty, .string ByteArray.empty, .int .i64 0, .string ByteArray.empty, .string ByteArray.empty, .slice none 0 0, .slice none 0 0, .string ByteArray.empty]⟩] eq [.agg [.int .i64, .str, .str, .slice, .slice, .str], .one (.int .i64)] fun e5 e6 e7 e8 e9 fa fb fc fd fe ff fg =>
 newB fg (.cells (Zy5 Tryz.prog Zz3) Zz3) fun fi fj =>
 stN fj ⟨fi, 0, none⟩ ⟨[.int .i64 e5, .string e6, .string e7, .slice e8 e9 fa, .slice fb fc fd, .string fe]⟩ 6 fun fk =>
 Zzj (fun (im : Bool) (io : World) =>
 J im io) fun fl =>
 Zz2 (ep == (0 : Int)) (
 Zz2 (eo.toList == z.toList) (
 Zz2 (ff == (0 : Int)) (
 ldI .i64 fk ⟨fi, 0, none⟩ fun fm =>
 ldStr fk ⟨fi, 1, none⟩ fun fo =>
 ldStr fk ⟨fi, 2, none⟩ fun fp =>
 ldS fk ⟨fi, 3, none⟩ fun fq fr fs =>
 ldS fk ⟨fi, 4, none⟩ fun ft fu fv =>
 ldStr fk ⟨fi, 5, none⟩ fun fx =>
 ldI .i64 fk ⟨aa, 0, none⟩ fun fy =>
 ldStr fk ⟨aa, 1, none⟩ fun fz =>
 ldStr fk ⟨aa, 2, none⟩ fun f0 =>
 ldS fk ⟨aa, 3, none⟩ fun f1 f2 f3 =>
 ldS fk ⟨aa, 4, none⟩ fun f4 f5 f6 =>
 ldStr fk ⟨aa, 5, none⟩ fun f7 =>
 Zz1 Tryz.prog YaP #[.agg ⟨[.int .i64 fm, .string fo, .string fp, .slice fq fr fs, .slice ft fu fv, .string fx]⟩, .agg ⟨[.int .i64 fy, .string fz, .string f0, .slice f1 f2 f3, .slice f4 f5 f6, .string f7]⟩] fk [.one .bool] fun f8 f9 =>
 fl f8 f9) (
 fl false fk)) (
 fl false fk)) (
 fl false fk)))) fun ga =>
 Zz2 (b2 != (0 : Int)) (
 ga true db.drew) (
 Zz2 (b5 != (0 : Int)) (
 ga true db.drew) (
 Zz2 (cd != (0 : Int)) (
 ga true db.drew) (
 Zz2 (c7 != (0 : Int)) (
 ga true db.drew) (
 Zz2 ((bz : Int) != (1 : Int)) (
 ga true db.drew) (
 Zyx bx bz (0 : Int) fun gb =>
 ldS db.drew ((gb.add ((0 : Int).toNat * 4))) fun gc gd ge =>
 ldB db.drew (((gb.add ((0 : Int).toNat * 4)).add 1)) fun gf =>
 ldStr db.drew (((gb.add ((0 : Int).toNat * 4)).add 2)) fun gg =>
 ldStr db.drew (((gb.add ((0 : Int).toNat * 4)).add 3)) fun gi =>
 ldS db.drew ⟨cf, 0, none⟩ fun gj gk gl =>
 ldB db.drew ⟨cf, 1, none⟩ fun gm =>
 ldStr db.drew ⟨cf, 2, none⟩ fun gn =>
 ldStr db.drew ⟨cf, 3, none⟩ fun gp =>
 Zz1 Tryz.prog Yax #[.agg ⟨[.slice gc gd ge, .bool gf, .string gg, .string gi]⟩, .agg ⟨[.slice gj gk gl, .bool gm, .string gn, .string gp]⟩] db.drew [.one (.int .i64)] fun gq gr =>
 Zz2 (gq != (0 : Int)) (
 ga true gr) (
 ldI .i64 gr ⟨c9, 0, none⟩ fun gs =>
 ldStr gr ⟨c9, 1, none⟩ fun gt =>
 ldStr gr ⟨c9, 2, none⟩ fun gu =>
 ldS gr ⟨c9, 3, none⟩ fun gv gx gy =>
 ldS gr ⟨c9, 4, none⟩ fun gz g0 g1 =>
 ldStr gr ⟨c9, 5, none⟩ fun g2 =>
 ldI .i64 gr ⟨ac, 0, none⟩ fun g3 =>
 ldStr gr ⟨ac, 1, none⟩ fun g4 =>
 ldStr gr ⟨ac, 2, none⟩ fun g5 =>
 ldS gr ⟨ac, 3, none⟩ fun g6 g7 g8 =>
 ldS gr ⟨ac, 4, none⟩ fun g9 ia ib =>
 ldStr gr ⟨ac, 5, none⟩ fun ic =>
 Zz1 Tryz.prog YaM #[.agg ⟨[.int .i64 gs, .string gt, .string gu, .slice gv gx gy, .slice gz g0 g1, .string g2]⟩, .agg ⟨[.int .i64 g3, .string g4, .string g5, .slice g6 g7 g8, .slice g9 ia ib, .string ic]⟩] gr [.one .bool] fun id ie =>
 ga (!id) ie)))))))) fun ig =>
 Zz2 (be != (0 : Int)) (
 ig true bj) (
 ig (decide ((m : Int) > (20 : Int))) bj))) : Zz1 Tryz.prog Yay #[.agg ⟨[.int .i64 a, .string b, .string c, .slice d e f, .slice g i j, .string k]⟩, .slice l m n, .agg ⟨[.int .i64 o, .string p, .string q, .slice r s t, .slice u v x, .string y]⟩, .string z] w [.one .bool] J := Zz5 Tryz.func3 (.s .o (.s (.s .o (.c (.s .o .o) .o)) (.s .o (.s (.j [(42, .bool)] .o (.c (.s .o .o) .o)) (.s (.d (.take 0 (.take 1 (.eff 2 (.eff 3 (.take 4 (.take 5 (.take 6 (.take 7 (.take 8 (.take 9 (.take 10 .done))))))) .none) .none)))) (.s .o (.s .o (.s .o (.s (.j [(101, .bool)] (.d (.take 0 (.take 1 (.take 2 (.take 3 (.take 4 (.take 5 (.take 6 (.take 7 (.take 8 (.take 9 (.take 10 (.take 11 (.take 12 (.take 13 (.take 14 (.take 15 (.take 16 (.take 17 (.take 18 (.take 19 (.take 20 (.take 21 (.take 22 (.take 23 (.eff 24 (.take 25 (.take 26 (.take 27 (.take 28 (.take 29 (.eff 30 (.take 31 (.take 32 .done)) .none)))))) .none)))))))))))))))))))))))))) (.c (.s .o .o) .o)) (.s .o (.s (.s .o (.c (.s .o .o) .o)) (.s .o (.s .o (.j [(8, .bool)] .o .o)))))))))))))) (Eq.mpr (by kernel_rfl) h)
theorem c_top_address {a : Option Addr} {b c : Nat} {w : World} {J : ByteArray -> World -> Prop} (h :
 ∃ p : ByteArray -> Int -> World -> Nat -> Prop, (∃ q, p ⟨#[]⟩ (0 : Int) w q) /\ ∀ (j : ByteArray) (k : Int) (l : World) (q : Nat), p j k l q -> (
 Zz2 (decide (k < (b : Int))) (
 Zyx a b k fun d =>
 ldI .i64 l ((d.add (k.toNat * 1))) fun e =>
 ∃ r : Int -> ByteArray -> World -> Nat -> Prop, (∃ q, r (w64 (e + (1 : Int))) ⟨#[]⟩ l q) /\ ∀ (m : Int) (n : ByteArray) (o : World) (m_1 : Nat), r m n o m_1 -> (
 Zz2 (decide (m > (0 : Int))) (
 (10 : Int) ≠ 0 /\
 newB o (.cells ⟨[.int .u8 (IntKind.u8.wrap (w64 ((48 : Int) + (Int.tmod m (10 : Int)))))]⟩ Yec) fun f g =>
 bytesOf g (some ⟨f, 0, none⟩) 1 fun i =>
 (((⟨i.toArray⟩ : ByteArray).size + n.size : Nat) : Int) <= 9223372036854775807 /\
 (10 : Int) ≠ 0 /\
 ∃ s, s < m_1 /\ r (w64 (Int.tdiv m (10 : Int))) ((⟨i.toArray⟩ : ByteArray) ++ n) g s) (
 ((j.size + (⟨#[47, 110, 111, 100, 101, 40, 41, 91]⟩ : ByteArray).size : Nat) : Int) <= 9223372036854775807 /\
 (((j ++ (⟨#[47, 110, 111, 100, 101, 40, 41, 91]⟩ : ByteArray)).size + n.size : Nat) : Int) <= 9223372036854775807 /\
 ((((j ++ (⟨#[47, 110, 111, 100, 101, 40, 41, 91]⟩ : ByteArray)) ++ n).size + (⟨#[93]⟩ : ByteArray).size : Nat) : Int) <= 9223372036854775807 /\
 ∃ s, s < q /\ p (((j ++ (⟨#[47, 110, 111, 100, 101, 40, 41, 91]⟩ : ByteArray)) ++ n) ++ (⟨#[93]⟩ : ByteArray)) (w64 (k + (1 : Int))) o s))) (
 J j l))) : Zz1 Tryz.prog Ybs #[.slice a b c] w [.one .str] J := Zz5 Tryz.func7 (.s .o (.s .o (.s (.s .o (.b (.l [(3, .str), (10, .int .i64)] (.s .o (.s (.c .o .o) (.s (.b (.s .o (.s .o (.s .o (.s (.b (.l [(6, .int .i64), (7, .str)] (.s (.s .o (.c .o .o)) (.s (.b .o) .o)))) .o))))) .o)))))) (.s .o .o)))) (Eq.mpr (by kernel_rfl) h)
theorem c_trail_Show {a : Option Addr} {b c : Nat} {d : Bool} {e f : ByteArray} {w : World} {J : ByteArray -> Int -> World -> Prop} (h :
 newB w (.cells ⟨[.slice a b c, .bool d, .string e, .string f]⟩ Zzp) fun g i =>
 ldS i ⟨g, 0, none⟩ fun j k l =>
 ldB i ⟨g, 1, none⟩ fun m =>
 ldStr i ⟨g, 2, none⟩ fun n =>
 ldStr i ⟨g, 3, none⟩ fun o =>
 Zz1 Tryz.prog Ybq #[.agg ⟨[.slice j k l, .bool m, .string n, .string o]⟩] i [.one .bool] fun p q =>
 Zz2 (!p) (
 J ⟨#[]⟩ (35 : Int) q) (
 ldS q ⟨g, 0, none⟩ fun r s t =>
 ∃ ao : ByteArray -> Int -> World -> Nat -> Prop, (∃ ap, ao ⟨#[]⟩ (0 : Int) q ap) /\ ∀ (aj : ByteArray) (ak : Int) (al : World) (ap : Nat), ao aj ak al ap -> (
 Zz2 (decide (ak < (s : Int))) (
 Zyx r s ak fun u =>
 ldI .i64 al ((u.add (ak.toNat * 1))) fun v =>
 Zz1 Tryz.prog Yb2 #[.int .i64 v] al [.one .str] fun x y =>
 (((⟨#[47]⟩ : ByteArray).size + x.size : Nat) : Int) <= 9223372036854775807 /\
 ((aj.size + ((⟨#[47]⟩ : ByteArray) ++ x).size : Nat) : Int) <= 9223372036854775807 /\
 ∃ aq, aq < ap /\ ao (aj ++ ((⟨#[47]⟩ : ByteArray) ++ x)) (w64 (ak + (1 : Int))) y aq) (
 Zzj (fun (am : ByteArray) (an : World) =>
 newB an (.cells ⟨[.string am, .string ⟨#[47]⟩]⟩ ZxC) fun z aa =>
 Zz1 Tryz.prog YaE #[.slice (some ⟨z, 0, none⟩) 2 2] aa [.one .str] fun ab ac =>
 J ab (0 : Int) ac) fun ad =>
 ldB al ⟨g, 1, none⟩ fun ae =>
 Zz2 ae (
 ldStr al ⟨g, 3, none⟩ fun af =>
 (((⟨#[47, 64]⟩ : ByteArray).size + af.size : Nat) : Int) <= 9223372036854775807 /\
 ((aj.size + ((⟨#[47, 64]⟩ : ByteArray) ++ af).size : Nat) : Int) <= 9223372036854775807 /\
 ldStr al ⟨g, 2, none⟩ fun ag =>
 Zz2 (!(ag.toList == (⟨#[]⟩ : ByteArray).toList)) (
 ldStr al ⟨g, 2, none⟩ fun ai =>
 (((⟨#[123]⟩ : ByteArray).size + ai.size : Nat) : Int) <= 9223372036854775807 /\
 ((((⟨#[123]⟩ : ByteArray) ++ ai).size + (⟨#[125]⟩ : ByteArray).size : Nat) : Int) <= 9223372036854775807 /\
 (((aj ++ ((⟨#[47, 64]⟩ : ByteArray) ++ af)).size + (((⟨#[123]⟩ : ByteArray) ++ ai) ++ (⟨#[125]⟩ : ByteArray)).size : Nat) : Int) <= 9223372036854775807 /\
 ad ((aj ++ ((⟨#[47, 64]⟩ : ByteArray) ++ af)) ++ (((⟨#[123]⟩ : ByteArray) ++ ai) ++ (⟨#[125]⟩ : ByteArray))) al) (
 ad (aj ++ ((⟨#[47, 64]⟩ : ByteArray) ++ af)) al)) (
 ad aj al))))) : Zz1 Tryz.prog YaN #[.agg ⟨[.slice a b c, .bool d, .string e, .string f]⟩] w [.one .str, .one (.int .i64)] J := Zz5 Tryz.func8 (.s .o (.s (.s .o (.c (.s .o .o) .o)) (.s .o (.s (.s .o (.b (.l [(4, .str), (13, .int .i64)] (.s .o (.s (.c .o .o) (.s (.b (.s .o .o)) .o)))))) (.j [(4, .str)] (.s .o (.c (.s .o (.s .o (.c .o .o))) .o)) (.s .o .o)))))) (Eq.mpr (by kernel_rfl) h)
theorem c_trail_right {a : Option Addr} {b c : Nat} {d : Bool} {e f : ByteArray} {w : World} {J : Bool -> World -> Prop} (h :
 newB w (.cells ⟨[.slice a b c, .bool d, .string e, .string f]⟩ Zzp) fun g i =>
 Zzj (fun (ak : Bool) (al : World) =>
 Zz2 ak (
 J false al) (
 ldB al ⟨g, 1, none⟩ fun j =>
 Zz2 (!j) (
 ldStr al ⟨g, 2, none⟩ fun k =>
 ldStr al ⟨g, 3, none⟩ fun l =>
 J ((k.toList == ByteArray.empty.toList) && ((l.toList == ByteArray.empty.toList) && true)) al) (
 ldStr al ⟨g, 2, none⟩ fun m =>
 cvJ Tryz.prog ZxC Yd9 (.string m) al fun n o p q =>
 Zz1 Tryz.prog ZqY #[.slice n o p] q [.one (.int .i64), .one (.int .i64)] fun r s t =>
 Zzj (fun (am : Bool) (an : World) =>
 J am an) fun u =>
 ldStr t ⟨g, 3, none⟩ fun v =>
 Zz1 Tryz.prog ZqE #[.string v] t [.one .bool] fun x y =>
 Zz2 x (
 ldStr y ⟨g, 2, none⟩ fun z =>
 Zz2 (decide ((z.size : Int) <= (100 : Int))) (
 u (s == (0 : Int)) y) (
 u false y)) (
 u false y)))) fun aa =>
 ldS i ⟨g, 0, none⟩ fun ab ac ad =>
 Zz2 (decide ((ac : Int) > (64 : Int))) (
 aa true i) (
 ldS i ⟨g, 0, none⟩ fun ae af ag =>
 Zz1 Tryz.prog ZyS #[.slice ae af ag, .func (.func 76) #[] #[]] i [.one .bool] fun ai aj =>
 aa ai aj)) : Zz1 Tryz.prog Ybq #[.agg ⟨[.slice a b c, .bool d, .string e, .string f]⟩] w [.one .bool] J := Zz5 Tryz.func28 (.s .o (.s (.j [(13, .bool)] .o (.c (.s .o .o) .o)) (.s (.s .o (.c (.s .o .o) .o)) (.s .o (.j [(2, .bool)] .o .o))))) (Eq.mpr (by kernel_rfl) h)
theorem Yh8 {a : Int} {w : World} {J : Bool -> World -> Prop} (h :
 Zzj (fun (c : Bool) (d : World) =>
 J c d) fun b =>
 Zz2 (decide (a < (0 : Int))) (
 b true w) (
 b (decide (a > (999999999 : Int))) w)) : Zz1 Tryz.prog Yca #[.int .i64 a] w [.one .bool] J := Zz5 Tryz.func76 (.s .o (.j [(2, .bool)] .o .o)) (Eq.mpr (by kernel_rfl) h)
theorem c_trail_Read {a : ByteArray} {w : World} {J : Option Addr -> Nat -> Nat -> Bool -> ByteArray -> ByteArray -> Int -> World -> Prop} (h :
 newB w (.cells (Zy5 Tryz.prog Zzp) Zzp) fun b c =>
 newB c (.cells (Zy5 Tryz.prog Zzp) Zzp) fun d e =>
 Zz1 Tryz.prog Ybv #[.string a, .string ⟨#[47, 64]⟩] e [.one .str, .one .str, .one .bool] fun f g i j =>
 Zzj (fun (bt : World) =>
 Zz1 Tryz.prog Ycb #[.string f, .string ⟨#[47]⟩] bt [.one .slice] fun k l m n =>
 ∃ b3 : Int -> World -> Nat -> Prop, (∃ b4, b3 (0 : Int) n b4) /\ ∀ b5 b6 b4, b3 b5 b6 b4 -> (
 Zz2 (decide (b5 < (l : Int))) (
 Zzj (fun (bu : World) =>
 ∃ b7, b7 < b4 /\ b3 (w64 (b5 + (1 : Int))) bu b7) fun o =>
 Zyx k l b5 fun p =>
 ldStr b6 ((p.add (b5.toNat * 1))) fun q =>
 Zz1 Tryz.prog Yb3 #[.string q] b6 [.one (.int .i64), .one .val] fun r s t =>
 Zzj (fun (bv : Bool) (bx : World) =>
 Zz2 bv (
 ldS bx ⟨d, 0, none⟩ fun u v x =>
 newB bx (.cells ⟨[.int .i64 r]⟩ ZqJ) fun y z =>
 YcO Tryz.prog Yap Yap (.slice u v x) (.slice (some ⟨y, 0, none⟩) 1 1) z fun aa ab ac ad =>
 stV ad ⟨d, 0, none⟩ (.slice aa ab ac) fun ae =>
 o ae) (
 o bx)) fun af =>
 isIf s /\
 Zz2 (nilI s) (
 ldS t ⟨d, 0, none⟩ fun ag ai aj =>
 af (decide ((ai : Int) <= (64 : Int))) t) (
 af false t)) (
 ldS b6 ⟨d, 0, none⟩ fun ak al am =>
 ldB b6 ⟨d, 1, none⟩ fun an =>
 ldStr b6 ⟨d, 2, none⟩ fun ao =>
 ldStr b6 ⟨d, 3, none⟩ fun ap =>
 Zz1 Tryz.prog YaN #[.agg ⟨[.slice ak al am, .bool an, .string ao, .string ap]⟩] b6 [.one .str, .one (.int .i64)] fun aq ar au =>
 Zzj (fun (bz : Bool) (b0 : World) =>
 Zz2 bz (
 stN b0 ⟨b, 0, none⟩ ⟨[.slice none 0 0, .bool false, .string ByteArray.empty, .string ByteArray.empty]⟩ 4 fun av =>
 ldS av ⟨b, 0, none⟩ fun ax ay az =>
 ldB av ⟨b, 1, none⟩ fun a0 =>
 ldStr av ⟨b, 2, none⟩ fun a1 =>
 ldStr av ⟨b, 3, none⟩ fun a2 =>
 J ax ay az a0 a1 a2 (35 : Int) av) (
 ldS b0 ⟨d, 0, none⟩ fun a3 a4 a5 =>
 ldB b0 ⟨d, 1, none⟩ fun a6 =>
 ldStr b0 ⟨d, 2, none⟩ fun a7 =>
 ldStr b0 ⟨d, 3, none⟩ fun a8 =>
 stN b0 ⟨b, 0, none⟩ ⟨[.slice a3 a4 a5, .bool a6, .string a7, .string a8]⟩ 4 fun a9 =>
 ldS a9 ⟨b, 0, none⟩ fun ba bb bc =>
 ldB a9 ⟨b, 1, none⟩ fun bd =>
 ldStr a9 ⟨b, 2, none⟩ fun be =>
 ldStr a9 ⟨b, 3, none⟩ fun bf =>
 J ba bb bc bd be bf (0 : Int) a9)) fun bg =>
 Zz2 (ar != (0 : Int)) (
 bg true au) (
 bg (!(aq.toList == a.toList)) au)))) fun bi =>
 Zz2 i (
 stV j ⟨d, 1, none⟩ (.bool true) fun bj =>
 stV bj ⟨d, 3, none⟩ (.string g) fun bk =>
 Zz1 Tryz.prog Zyr #[.string g, .int .u8 123] bk [.one (.int .i64)] fun bl bm =>
 Zzj (fun (b1 : Bool) (b2 : World) =>
 Zz2 b1 (
 Ya9 g (some (w64 (bl + (1 : Int)))) (some (w64 ((g.size : Int) - (1 : Int)))) fun bn =>
 Ya9 g none (some bl) fun bo =>
 stN b2.drew ⟨d, 2, none⟩ ⟨[.string bn, .string bo]⟩ 2 fun bp =>
 bi bp) (
 bi b2)) fun bq =>
 Zz2 (decide (bl >= (0 : Int))) (
 Zz1 Tryz.prog Zxf #[.string g, .string ⟨#[125]⟩] bm [.one .bool] fun br bs =>
 bq br bs) (
 bq false bm)) (
 bi j)) : Zz1 Tryz.prog YbU #[.string a] w [.agg [.slice, .bool, .str, .str], .one (.int .i64)] J := Zz5 Tryz.func9 (.s .o (.s .o (.s .o (.j [] (.s .o (.c (.s .o (.s .o (.s .o (.j [(33, .bool)] .o (.c (.d (.take 0 (.take 1 (.take 2 (.take 3 (.take 4 (.take 5 (.take 6 (.take 7 (.take 8 (.take 9 (.take 10 (.take 11 (.eff 12 .done .none)))))))))))))) .o))))) .o)) (.s (.s .o (.b (.l [(49, .int .i64)] (.s .o (.s (.c .o .o) (.j [] (.b (.s .o (.s .o (.j [(65, .bool)] .o (.c .o .o))))) .o)))))) (.s (.s .o (.j [(84, .bool)] .o (.c (.s .o .o) .o))) (.s .o .o))))))) (Eq.mpr (by kernel_rfl) h)
theorem Yh9 {a : Option Addr} {b c : Nat} {d : Bool} {e f : ByteArray} {g : Option Addr} {i j : Nat} {k : Bool} {l m : ByteArray} {w : World} {J : Int -> World -> Prop} (h :
 newB w (.cells ⟨[.slice a b c, .bool d, .string e, .string f]⟩ Zzp) fun n o =>
 newB o (.cells ⟨[.slice g i j, .bool k, .string l, .string m]⟩ Zzp) fun p q =>
 ldS q ⟨n, 0, none⟩ fun r s t =>
 ldS q ⟨p, 0, none⟩ fun u v x =>
 ∃ a9 : Int -> World -> Nat -> Prop, (∃ ba, a9 (0 : Int) q ba) /\ ∀ bb bc ba, a9 bb bc ba -> (
 Zz2 (decide (bb < (if (v : Int) < (s : Int) then (v : Int) else (s : Int)))) (
 ldS bc.drew ⟨n, 0, none⟩ fun y z aa =>
 Zyx y z bb fun ab =>
 ldI .i64 bc.drew ((ab.add (bb.toNat * 1))) fun ac =>
 ldS bc.drew ⟨p, 0, none⟩ fun ad ae af =>
 Zyx ad ae bb fun ag =>
 ldI .i64 bc.drew ((ag.add (bb.toNat * 1))) fun ai =>
 Zz1 Tryz.prog ZyV #[.int .i64 ac, .int .i64 ai] bc.drew [.one (.int .i64)] fun aj ak =>
 Zz2 (aj != (0 : Int)) (
 J aj ak) (
 ∃ bd, bd < ba /\ a9 (w64 (bb + (1 : Int))) ak bd)) (
 ldS bc ⟨n, 0, none⟩ fun al am an =>
 ldS bc ⟨p, 0, none⟩ fun ao ap aq =>
 Zz1 Tryz.prog ZyV #[.int .i64 (am : Int), .int .i64 (ap : Int)] bc [.one (.int .i64)] fun ar au =>
 Zz2 (ar != (0 : Int)) (
 J ar au) (
 Zzj (fun (a7 : Bool) (a8 : World) =>
 Zz2 a7 (
 ldStr a8 ⟨n, 2, none⟩ fun av =>
 ldStr a8 ⟨n, 3, none⟩ fun ax =>
 ldStr a8 ⟨p, 2, none⟩ fun ay =>
 ldStr a8 ⟨p, 3, none⟩ fun az =>
 Zz1 Tryz.prog ZqT #[.agg ⟨[.string av, .string ax]⟩, .agg ⟨[.string ay, .string az]⟩] a8 [.one (.int .i64)] fun a0 a1 =>
 J a0 a1) (
 ldB a8 ⟨n, 1, none⟩ fun a2 =>
 Zz2 a2 (
 J (1 : Int) a8) (
 ldB a8 ⟨p, 1, none⟩ fun a3 =>
 Zz2 a3 (
 J (-1 : Int) a8) (
 J (0 : Int) a8)))) fun a4 =>
 ldB au ⟨n, 1, none⟩ fun a5 =>
 Zz2 a5 (
 ldB au ⟨p, 1, none⟩ fun a6 =>
 a4 a6 au) (
 a4 false au))))) : Zz1 Tryz.prog Yax #[.agg ⟨[.slice a b c, .bool d, .string e, .string f]⟩, .agg ⟨[.slice g i j, .bool k, .string l, .string m]⟩] w [.one (.int .i64)] J := Zz5 Tryz.func11 (.s .o (.s (.s .o (.b (.l [(15, .int .i64)] (.s .o (.s (.c .o .o) (.s (.b (.s .o (.s (.d (.take 0 (.take 1 (.take 2 (.take 3 (.take 4 (.take 5 (.take 6 (.take 7 (.take 8 (.take 9 (.eff 10 (.take 11 .done) .none)))))))))))) (.s .o (.c (.s .o .o) .o))))) .o)))))) (.s (.s .o (.s .o (.c (.s .o .o) .o))) (.s (.b (.j [(43, .bool)] .o (.c (.s .o .o) (.s .o (.c (.s .o .o) (.s .o (.c (.s .o .o) .o))))))) (.s .o .o))))) (Eq.mpr (by kernel_rfl) h)
end Go.Proofs.YtlnfaaghdkngmaaGreatDoor
end
section
namespace Go.Vc
open Go Go.Lib
def dg (n : Nat) : List UInt8 := if h : n = 0 then [] else dg (n / 10) ++ [UInt8.ofNat (48 + n % 10)]
termination_by n
decreasing_by omega
theorem YdT : dg 0 = [] := by rw [dg]; rfl
theorem dg_pos {n : Nat} (h : n ≠ 0) : dg n = dg (n / 10) ++ [UInt8.ofNat (48 + n % 10)] := by
 rw [dg, dif_neg h]
theorem dgt (n : Nat) : (UInt8.ofNat (48 + n % 10)).toNat = 48 + n % 10 := by
 rw [UInt8.toNat_ofNat']; omega
theorem valD_snoc (xs : List UInt8) (d : UInt8) : valD (xs ++ [d]) = 10 * valD xs + (d.toNat - 48) := by simp [valD, foldl_append]
theorem dg_val (n : Nat) : valD (dg n) = n := by
 induction n using Nat.strongRecOn with
 | ind n ih =>
  by_cases h : n = 0
  ·subst h; rw [YdT]; rfl
  ·rw [dg_pos h, valD_snoc, ih (n / 10) (by omega), dgt]; omega
theorem dg_len : ∀ (k n : Nat), n < 10 ^ k -> (dg n).length <= k
 | 0, n, h => by
  have : n = 0 := by simpa using h
  subst this; rw [YdT]; simp
 | k + 1, n, h => by
  by_cases h0 : n = 0
  ·subst h0; rw [YdT]; simp
  ·have := dg_len k (n / 10) (by rw [Nat.pow_succ] at h; omega)
   rw [dg_pos h0, length_append, length_singleton]; omega
theorem dg_dig (n : Nat) : ∀ d ∈ dg n, 48 <= d.toNat /\ d.toNat <= 57 := by
 induction n using Nat.strongRecOn with
 | ind n ih =>
  by_cases h : n = 0
  ·subst h; rw [YdT]; intro d hd; cases hd
  ·rw [dg_pos h]
   intro d hd
   rcases mem_append.1 hd with hd | hd
   ·exact ih (n / 10) (by omega) d hd
   ·rw [mem_singleton] at hd; subst hd; rw [dgt]; omega
theorem dg_ne {n : Nat} (h : n ≠ 0) : dg n ≠ [] := by rw [dg_pos h]; simp
theorem dg_head (n : Nat) : (dg n).head? ≠ some 48 := by
 induction n using Nat.strongRecOn with
 | ind n ih =>
  by_cases h : n = 0
  ·subst h; rw [YdT]; simp
  ·rw [dg_pos h]
   by_cases h2 : n / 10 = 0
   ·rw [h2, YdT]
    intro e
    have e : UInt8.ofNat (48 + n % 10) = 48 := Option.some.inj e
    have := congrArg UInt8.toNat e
    rw [dgt] at this
    have : (48 : UInt8).toNat = 48 := rfl
    omega
   ·have hi := ih (n / 10) (by omega)
    obtain ⟨x, xs, e⟩ := exists_cons_of_ne_nil (dg_ne h2)
    rw [e] at hi ⊢
    exact hi
theorem dg_fit {n : Nat} (h : n ≠ 0) (h6 : n < 1000000) : (Cd.idx (dg n) n).Fit := ⟨dg_ne h, dg_len 6 n h6, dg_dig n, dg_head n, dg_val n⟩
theorem sz8 : (⟨#[47, 110, 111, 100, 101, 40, 41, 91]⟩ : ByteArray).size = 8 := rfl
theorem sz1 : (⟨#[93]⟩ : ByteArray).size = 1 := rfl
theorem bl_app (a b : ByteArray) : bl (a ++ b) = bl a ++ bl b := by simp [bl, ByteArray.data_append]
end Go.Vc
namespace Go.Proofs.YtlnfaaghdkngmaaGreatDoor
open Go Go.Vc Go.Lib
def adr (path : List Int) : List (List UInt8 × Nat) := path.map fun i => (Vc.dg (i.toNat + 1), i.toNat + 1)
theorem adr_path {path : List Int} (h : ∀ i ∈ path, 0 <= i) : path = (adr path).map fun c => ((c.2 - 1 : Nat) : Int) := by
 unfold adr
 rw [map_map]
 conv => lhs; rw [<- map_id path]
 refine map_congr_left fun i hi => ?_
 have := h i hi
 simp only [Function.comp, id]
 omega
theorem kidSp_tx (c : List UInt8 × Nat) : (kidSp c).tx = [47, 110, 111, 100, 101, 40, 41, 91] ++ (c.1 ++ [93]) := by
 simp [kidSp, Sp.tx, Sp.hd, Sp.cds, Zq1, Cd.tx]
section
variable {w w' : World}
theorem Address_ok {p : Option Addr} {l c : Nat} {path : List Int} {J : ByteArray -> World -> Prop} (h : Sl w p l 1 (rows YbS path)) (hl : l <= 64) (hi : ∀ i ∈ path, 0 <= i /\ i < 999999)
  (K : ∀ q w', Chg No w w' -> bl q = qTx ((adr path).map kidSp) -> q.size <= 4096 -> J q w') :
  Zz1 Tryz.prog Ybs #[.slice p l c] w [.one .str] J := by
 have hpl : path.length = l := h.row (fun _ _ => rfl) (by decide)
 refine c_top_address ?_
 refine ⟨fun q x w' m => ∃ j : Nat, x = j /\ j <= l /\ m = l - j /\ Chg No w w' /\ bl q = qTx ((adr (path.take j)).map kidSp) /\ q.size <= 15 * j, ⟨_, 0, rfl, Nat.zero_le _, rfl, Chg.refl _ _, rfl, by decide⟩, ?_⟩
 rintro q x w1 m ⟨j, rfl, hj, rfl, hc1, hq, hqs⟩
 refine Zz6 (fun hlt => ?_) (fun hge => ?_)
 rotate_left
 ·have hjl : j = l := by omega
  subst hjl
  rw [take_of_length_le (by omega)] at hq
  exact K q w1 hc1 hq (by omega)
 have hkj : path[j]? = some path[j] := getElem?_eq_getElem (by omega)
 have htake : path.take (j + 1) = path.take j ++ [path[j]] := take_succ_eq_append_getElem (by omega)
 have hmem := mem_of_getElem? hkj
 refine Zzr (h.chg hc1 (off_no _)) (fun _ _ => rfl) (by decide) (by omega) hlt fun a i _ hi2 hcs => ?_
 rw [Int.toNat_natCast, hkj] at hi2
 have hi2 := Option.some.inj hi2
 rw [hi2] at htake hmem
 refine ⟨i, Zzo hcs, ?_⟩
 obtain ⟨h0, h1⟩ := hi i hmem
 have hlen6 := dg_len 6 (i.toNat + 1) (by omega)
 refine ⟨fun n s w' m => ∃ v : Nat, n = v /\ m = v /\ v <= i.toNat + 1 /\ Chg No w w' /\ Vc.dg (i.toNat + 1) = Vc.dg v ++ bl s, ⟨_, i.toNat + 1, by rw [Zzt] <;> omega, rfl, Nat.le_refl _, hc1, by show _ = _ ++ []; rw [append_nil]⟩, ?_⟩
 rintro n s w2 v ⟨_, rfl, rfl, hv, hc2, hdg⟩
 have hss : s.size <= 6 := by
  have := congrArg length hdg
  rw [length_append, ZzA] at this
  omega
 refine Zz6 (fun hpos => ?_) (fun hz => ?_)
 ·refine ⟨by decide, ?_⟩
  have hv0 : v ≠ 0 := by omega
  have e1 : IntKind.u8.wrap (w64 (48 + Int.tmod (v : Int) 10)) = ((UInt8.ofNat (48 + v % 10)).toNat : Int) := by
   have e2 : Int.tmod (v : Int) 10 = ((v % 10 : Nat) : Int) := by rw [Int.tmod_eq_emod_of_nonneg (by omega)]; omega
   rw [e2, Zzt (by omega) (by omega), dgt]
   simp only [IntKind.wrap, IntKind.bits, IntKind.signed]
   simp
   omega
  rw [e1]
  refine newRow (sz := 1) (n := 1) rfl (by decide) fun b24 w3 hr3 hb24 hc3 => ?_
  refine bytesOf_i (bs := [UInt8.ofNat (48 + v % 10)]) hr3.sl ?_
  have hsz : (⟨[UInt8.ofNat (48 + v % 10)].toArray⟩ : ByteArray).size = 1 := rfl
  refine ⟨by rw [hsz]; omega, by decide, v / 10, by omega, v / 10, ?_, rfl, by omega, hc2.trans0 hc3, ?_⟩
  ·have e3 : Int.tdiv (v : Int) 10 = ((v / 10 : Nat) : Int) := by rw [Int.tdiv_eq_ediv_of_nonneg (by omega)]; omega
   rw [e3, Zzt] <;> omega
  ·rw [hdg, dg_pos hv0, bl_app, append_assoc]
 ·have hv0 : v = 0 := by omega
  subst hv0
  rw [YdT, nil_append] at hdg
  refine ⟨by rw [sz8]; omega, by rw [ByteArray.size_append, sz8]; omega, by rw [ByteArray.size_append, ByteArray.size_append, sz8, sz1]; omega, _, by omega, j + 1, by rw [Zzt] <;> omega, by omega, rfl, hc2, ?_, by rw [ByteArray.size_append, ByteArray.size_append, ByteArray.size_append, sz8, sz1]; omega⟩
  rw [htake, bl_app, bl_app, bl_app, hq, <- hdg]
  unfold adr qTx
  rw [map_append, map_append, flatMap_append]
  simp only [map_cons, map_nil, flatMap_cons, flatMap_nil, append_nil, kidSp_tx]
  rw [append_assoc, append_assoc]
end
end Go.Proofs.YtlnfaaghdkngmaaGreatDoor
end
section
namespace Go.Proofs.YtlnfaaghdkngmaaGreatDoor
open Go Go.Vc
theorem Zq2 {a : Option Addr} {b c : Nat} {w : World} {J : Bool -> World -> Prop} (h :
 Zz1 Tryz.prog Zxx #[.slice a b c, .func (.func 76) #[] #[]] w [.one (.int .i64)] fun d e =>
 J (decide (d >= (0 : Int))) e) : Zz1 Tryz.prog ZyS #[.slice a b c, .func (.func 76) #[] #[]] w [.one .bool] J := Zz5 Tryz.func75 (.s .o (.s .o .o)) (Eq.mpr (by kernel_rfl) h)
theorem Zqx {a : Option Addr} {b c : Nat} {w : World} {J : Int -> World -> Prop} (h :
 ∃ i : Int -> World -> Nat -> Prop, (∃ j, i (0 : Int) w j) /\ ∀ k l j, i k l j -> (
 Zz2 (decide (k < (b : Int))) (
 Zyx a b k fun d =>
 ldI .i64 l ((d.add (k.toNat * 1))) fun e =>
 Zz1 Tryz.prog Yca #[.int .i64 e] l [.one .bool] fun f g =>
 Zz2 f (
 J k g) (
 ∃ m, m < j /\ i (w64 (k + (1 : Int))) g m)) (
 J (-1 : Int) l))) : Zz1 Tryz.prog Zxx #[.slice a b c, .func (.func 76) #[] #[]] w [.one (.int .i64)] J := Zz5 Tryz.func143 (.s .o (.s (.s .o (.b (.l [(8, .int .i64)] (.s .o (.s (.c .o .o) (.s (.b (.s .o (.s .o (.c (.s .o .o) .o)))) .o)))))) (.s .o .o))) (Eq.mpr (by kernel_rfl) h)
theorem Yhc {a : Option Addr} {b c : Nat} {w : World} {J : ByteArray -> World -> Prop} (h :
 ∃ f : Int -> World -> Nat -> Prop, (∃ g, f (0 : Int) w g) /\ ∀ i j g, f i j g -> (
 Zz2 (decide (i < (b : Int))) (
 Zyx a b i fun d =>
 ldStr j ((d.add (i.toNat * 1))) fun e =>
 Zz2 (!(e.toList == (⟨#[]⟩ : ByteArray).toList)) (
 J e j) (
 ∃ k, k < g /\ f (w64 (i + (1 : Int))) j k)) (
 J ⟨#[]⟩ j))) : Zz1 Tryz.prog YaE #[.slice a b c] w [.one .str] J := Zz5 Tryz.func30 (.s .o (.s .o (.s (.s .o (.b (.l [(8, .int .i64)] (.s .o (.s (.c .o .o) (.s (.b (.s .o (.s .o (.c (.s .o .o) .o)))) .o)))))) (.s .o .o)))) (Eq.mpr (by kernel_rfl) h)
end Go.Proofs.YtlnfaaghdkngmaaGreatDoor
end
section
namespace Go.Proofs
open Go.Shelf
def Tryz.lays171_ren : Go.Shelf.Ren := ⟨fun | 171 => 29 | 243 => 79 | 246 => 148 | 283 => 211 | 284 => 212 | 285 => 213 | 286 => 214 | 129 => 142 | 317 => 263 | 318 => 264 | 319 => 265 | 320 => 266 | 337 => 300 | 338 => 301 | n => n, fun | 3 => 3 | 9 => 9 | 2 => 2 | 4 => 4 | 171 => 279 | 0 => 0 | 53 => 203 | 37 => 52 | 5 => 5 | 173 => 281 | 212 => 347 | 51 => 201 | 20 => 20 | 213 => 348 | 46 => 147 | 232 => 399 | 233 => 400 | n => n, fun | 17 => 8 | 18 => 10 | 19 => 11 | n => n⟩
theorem Tryz.lays171 : Go.Proofs.LaysM.n171 Tryz.prog Tryz.lays171_ren where
 mixed := by kernel_rfl
 f129 := by kernel_rfl
 f171 := by kernel_rfl
 f243 := by kernel_rfl
 f246 := by kernel_rfl
 f283 := by kernel_rfl
 f284 := by kernel_rfl
 f285 := by kernel_rfl
 f286 := by kernel_rfl
 f317 := by kernel_rfl
 f318 := by kernel_rfl
 f319 := by kernel_rfl
 f320 := by kernel_rfl
 f337 := by kernel_rfl
 f338 := by kernel_rfl
 t0 := by kernel_rfl
 a0 := fun w => by kernel_rfl
 z0 := fun w => by kernel_rfl
 v0 := fun w => by kernel_rfl
 t2 := by kernel_rfl
 a2 := fun w => by kernel_rfl
 z2 := fun w => by kernel_rfl
 v2 := fun w => by kernel_rfl
 t3 := by kernel_rfl
 a3 := fun w => by kernel_rfl
 z3 := fun w => by kernel_rfl
 v3 := fun w => by kernel_rfl
 t4 := by kernel_rfl
 a4 := fun w => by kernel_rfl
 z4 := fun w => by kernel_rfl
 v4 := fun w => by kernel_rfl
 t5 := by kernel_rfl
 a5 := fun w => by kernel_rfl
 z5 := fun w => by kernel_rfl
 v5 := fun w => by kernel_rfl
 t9 := by kernel_rfl
 a9 := fun w => by kernel_rfl
 z9 := fun w => by kernel_rfl
 v9 := fun w => by kernel_rfl
 t20 := by kernel_rfl
 a20 := fun w => by kernel_rfl
 z20 := fun w => by kernel_rfl
 v20 := fun w => by kernel_rfl
 t37 := by kernel_rfl
 a37 := fun w => by kernel_rfl
 z37 := fun w => by kernel_rfl
 v37 := fun w => by kernel_rfl
 t46 := by kernel_rfl
 a46 := fun w => by kernel_rfl
 z46 := fun w => by kernel_rfl
 v46 := fun w => by kernel_rfl
 t51 := by kernel_rfl
 a51 := fun w => by kernel_rfl
 z51 := fun w => by kernel_rfl
 v51 := fun w => by kernel_rfl
 t53 := by kernel_rfl
 a53 := fun w => by kernel_rfl
 z53 := fun w => by kernel_rfl
 v53 := fun w => by kernel_rfl
 t171 := by kernel_rfl
 a171 := fun w => by kernel_rfl
 z171 := fun w => by kernel_rfl
 v171 := fun w => by kernel_rfl
 t173 := by kernel_rfl
 a173 := fun w => by kernel_rfl
 z173 := fun w => by kernel_rfl
 v173 := fun w => by kernel_rfl
 t212 := by kernel_rfl
 a212 := fun w => by kernel_rfl
 z212 := fun w => by kernel_rfl
 v212 := fun w => by kernel_rfl
 t213 := by kernel_rfl
 a213 := fun w => by kernel_rfl
 z213 := fun w => by kernel_rfl
 t232 := by kernel_rfl
 a232 := fun w => by kernel_rfl
 z232 := fun w => by kernel_rfl
 v232 := fun w => by kernel_rfl
 t233 := by kernel_rfl
 a233 := fun w => by kernel_rfl
 z233 := fun w => by kernel_rfl
 v233 := fun w => by kernel_rfl
 g17 := by kernel_rfl
 g18 := by kernel_rfl
 g19 := by kernel_rfl
 i0 := by kernel_rfl
 i2 := by kernel_rfl
 i3 := by kernel_rfl
 i4 := by kernel_rfl
 i5 := by kernel_rfl
 i9 := by kernel_rfl
 i20 := by kernel_rfl
 i37 := by kernel_rfl
 i46 := by kernel_rfl
 i51 := by kernel_rfl
 i53 := by kernel_rfl
 i171 := by kernel_rfl
 i173 := by kernel_rfl
 i212 := by kernel_rfl
 i232 := by kernel_rfl
 i233 := by kernel_rfl
 m17 := by kernel_rfl
 m18 := by kernel_rfl
 m19 := by kernel_rfl
end Go.Proofs
namespace Go.Vc
open Go Go.Lib
def shT (path : List Int) : List UInt8 := path.flatMap fun i => 47 :: Lib.itoa i
theorem shT_snoc (p : List Int) (i : Int) : shT (p ++ [i]) = shT p ++ 47 :: Lib.itoa i := by simp [shT]
theorem chg_growS (w : World) (q : Nat) (os : Array Obj) : Chg No w (Go.Sort.grow (w.drewN q) os) :=
 ⟨rfl, rfl, rfl, by simp [Go.Sort.grow, World.drewN], fun b hb _ => Go.Sort.heap_grow_old _ _ (by simpa [World.drewN] using hb)⟩
end Go.Vc
namespace Go.Proofs.YtlnfaaghdkngmaaGreatDoor
open Go Go.Vc Go.Lib
def P10 (w : World) : Prop := Lib.TabIs Tryz.prog w "internal/strconv.uint64pow10" .u64 Lib.pow10Tab
section
variable {w w' : World}
theorem P10.chg {S : Nat -> Prop} (h : P10 w) (hc : Chg S w w') (hS : ∀ g, Tryz.prog.globalNamed "internal/strconv.uint64pow10" = some g -> ¬ S g) : P10 w' := by
 unfold P10 Lib.TabIs World.var? at h ⊢
 obtain ⟨g, hg, h1⟩ := Option.bind_eq_some_iff.1 h
 rw [hg]
 show (match w'.heap[g]? with | some (.cells cs _ _) => some cs | _ => none) = _
 have hlt : g < w.heap.size := by
  rcases Nat.lt_or_ge g w.heap.size with hl | hl
  ·exact hl
  ·rw [Array.getElem?_eq_none hl] at h1
   cases h1
 rw [hc.keep g hlt (hS g hg)]
 exact h1
theorem P10.chg0 (h : P10 w) (hc : Chg No w w') : P10 w' := h.chg hc fun _ _ f => f
theorem Itoa_ok {n : Int} {J : ByteArray -> World -> Prop} (T : P10 w) (h0 : 0 <= n) (h1 : n <= 999999999) (K : ∀ s w', Chg No w w' -> bl s = Lib.itoa n -> s.size <= 21 -> J s w') :
  Zz1 Tryz.prog Yb2 #[.int .i64 n] w [.one .str] J := by
 refine Calls.mono (Any.strconv_Itoa Tryz.lays171 n (by omega) (by omega) w T) fun e w' he => ?_
 obtain ⟨rfl, q, os, rfl⟩ := he
 have hlen := Lib.itoa_length_le n (by omega) (by omega)
 exact ⟨_, rfl, K _ _ (chg_growS w q os) rfl hlen⟩
theorem Right_ok {p : Option Addr} {l c : Nat} {path : List Int} {J : Bool -> World -> Prop} (h : Sl w p l 1 (rows YbS path)) (hl : l <= 64) (hi : ∀ i ∈ path, 0 <= i /\ i <= 999999999) (K : ∀ w', Chg No w w' -> J true w') :
  Zz1 Tryz.prog Ybq #[.agg ⟨[.slice p l c, .bool false, .string ByteArray.empty, .string ByteArray.empty]⟩] w [.one .bool] J := by
 have hpl : path.length = l := h.row (fun _ _ => rfl) (by decide)
 refine c_trail_right ?_
 refine (Hp.start w No).newB fun b1 w1 H1 hb1 hc1 => ?_
 refine Zzb fun J13 hJ13 => ?_
 refine H1.ldS 0 rfl (off := 0) rfl ?_
 refine Zz6 (fun hgt => by omega) (fun _ => ?_)
 refine H1.ldS 0 rfl (off := 0) rfl ?_
 refine Zq2 ?_
 refine Zqx ?_
 refine ⟨fun x w' t => ∃ i : Nat, x = i /\ i <= l /\ t = l - i /\ w' = w1, ⟨_, 0, rfl, Nat.zero_le _, rfl, rfl⟩, ?_⟩
 rintro x w' t ⟨i, rfl, hil, rfl, rfl⟩
 refine Zz6 (fun hlt => ?_) (fun hge => ?_)
 ·refine Zzr (h.chg H1.chg (off_no _)) (fun _ _ => rfl) (by decide) (by omega) hlt fun a y _ hy hcs => ?_
  refine ⟨y, Zzo hcs, ?_⟩
  obtain ⟨g1, g2⟩ := hi y (mem_of_getElem? hy)
  refine Yh8 ?_
  refine Zzb fun J2 hJ2 => ?_
  refine Zz6 (fun h => by omega) (fun _ => ?_)
  rw [hJ2]
  refine Zz6 (fun h => by omega) (fun _ => ?_)
  exact ⟨_, by omega, i + 1, by rw [Zzt] <;> omega, by omega, rfl, rfl⟩
 ·rw [hJ13]
  refine Zz6 (fun h => absurd h (by decide)) (fun _ => ?_)
  refine H1.ldB 0 rfl (off := 1) rfl ?_
  refine Zz9 (fun _ => ?_) (fun h => absurd h (by decide))
  refine H1.ldStr 0 rfl (off := 2) rfl ?_
  refine H1.ldStr 0 rfl (off := 3) rfl ?_
  simp only [Ygs]
  exact K _ H1.chg
theorem Or2_ok {s t : ByteArray} {b : Nat} {J : ByteArray -> World -> Prop} (h : Sl w (some ⟨b, 0, none⟩) 2 1 [.string s, .string t]) (hs : s ≠ ⟨#[]⟩) (K : J s w) :
  Zz1 Tryz.prog YaE #[.slice (some ⟨b, 0, none⟩) 2 2] w [.one .str] J := by
 refine Yhc ?_
 refine ⟨fun x w' t => x = 0 /\ w' = w, ⟨0, rfl, rfl⟩, ?_⟩
 rintro x w' t' ⟨rfl, rfl⟩
 refine Zz6 (fun hlt => ?_) (fun hge => absurd (by decide) hge)
 have h' : Sl w' (some ⟨b, 0, none⟩) 2 1 (rows (fun s : ByteArray => [.string s]) [s, t]) := h
 refine Zzr h' (fun _ _ => rfl) (by decide) (by omega) hlt fun a y _ hy hcs => ?_
 have hy0 : s = y := by simpa using hy
 subst hy0
 refine ⟨s, Zzo hcs, ?_⟩
 dsimp only
 rw [Ygs]
 refine Zzx (fun _ => K) (fun he => absurd (of_decide_eq_true he) hs)
theorem Show_ok {p : Option Addr} {l c : Nat} {path : List Int} {J : ByteArray -> Int -> World -> Prop} (T : P10 w) (h : Sl w p l 1 (rows YbS path)) (hl : l <= 64) (hi : ∀ i ∈ path, 0 <= i /\ i <= 999999999) (hne : path ≠ [])
  (K : ∀ s w', Chg No w w' -> bl s = shT path -> s.size <= 2000 -> J s 0 w') :
  Zz1 Tryz.prog YaN #[.agg ⟨[.slice p l c, .bool false, .string ByteArray.empty, .string ByteArray.empty]⟩] w [.one .str, .one (.int .i64)] J := by
 have hpl : path.length = l := h.row (fun _ _ => rfl) (by decide)
 refine c_trail_Show ?_
 refine (Hp.start w No).newB fun b1 w1 H1 hb1 hc1 => ?_
 refine H1.ldS 0 rfl (off := 0) rfl ?_
 refine H1.ldB 0 rfl (off := 1) rfl ?_
 refine H1.ldStr 0 rfl (off := 2) rfl ?_
 refine H1.ldStr 0 rfl (off := 3) rfl ?_
 refine Right_ok (h.chg H1.chg (off_no _)) hl hi fun w2 hc2 => ?_
 have H2 := H1.step0 hc2
 refine Zz9 (fun h => absurd h (by decide)) (fun _ => ?_)
 refine H2.ldS 0 rfl (off := 0) rfl ?_
 refine ⟨fun s x w' m => ∃ j : Nat, x = j /\ j <= l /\ m = l - j /\ Hp w No w' [⟨b1, [.slice p l c, .bool false, .string ByteArray.empty, .string ByteArray.empty], Zzp⟩] /\ bl s = shT (path.take j) /\ s.size <= 22 * j, ⟨_, 0, rfl, Nat.zero_le _, rfl, H2, rfl, by decide⟩, ?_⟩
 rintro s x w3 m ⟨j, rfl, hj, rfl, H3, hs, hss⟩
 refine Zz6 (fun hlt => ?_) (fun hge => ?_)
 ·have hkj : path[j]? = some path[j] := getElem?_eq_getElem (by omega)
  have htake : path.take (j + 1) = path.take j ++ [path[j]] := take_succ_eq_append_getElem (by omega)
  refine Zzr (h.chg H3.chg (off_no _)) (fun _ _ => rfl) (by decide) (by omega) hlt fun a i _ hi2 hcs => ?_
  rw [Int.toNat_natCast, hkj] at hi2
  have hi2 := Option.some.inj hi2
  refine ⟨i, Zzo hcs, ?_⟩
  have hmem : i ∈ path := by rw [<- hi2]; exact getElem_mem _
  obtain ⟨g1, g2⟩ := hi i hmem
  refine Itoa_ok (T.chg0 H3.chg) g1 g2 fun r w4 hc4 hr hrs => ?_
  have e1 : (⟨#[47]⟩ : ByteArray).size = 1 := rfl
  refine ⟨by rw [e1]; omega, by rw [ByteArray.size_append, e1]; omega, _, by omega, j + 1, by rw [Zzt] <;> omega, by omega, rfl, H3.step0 hc4, ?_, by rw [ByteArray.size_append, ByteArray.size_append, e1]; omega⟩
  rw [htake, hi2, shT_snoc, bl_app, bl_app, hs, hr]
  rfl
 ·have hjl : j = l := by omega
  subst hjl
  rw [take_of_length_le (by omega)] at hs
  refine Zzb fun J4 hJ4 => ?_
  refine H3.ldB 0 rfl (off := 1) rfl ?_
  refine Zz9 (fun h => absurd h (by decide)) (fun _ => ?_)
  rw [hJ4]
  refine newRow (sz := 1) (n := 2) rfl (by decide) fun b43 w6 hr6 hb6 hc6 => ?_
  have hsne : s ≠ ⟨#[]⟩ := by
   intro e
   subst e
   cases path with
   | nil => exact hne rfl
   | cons i r => simp [shT, bl] at hs
  exact Or2_ok hr6.sl hsne (K s w6 (H3.chg.trans0 hc6) hs (by omega))
end
end Go.Proofs.YtlnfaaghdkngmaaGreatDoor
end
