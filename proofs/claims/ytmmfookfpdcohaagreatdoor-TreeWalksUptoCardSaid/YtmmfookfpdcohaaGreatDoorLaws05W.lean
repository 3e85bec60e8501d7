/-
  Chapter 5's statements: Walks.
-/
import Derived.Test.YtmmfookfpdcohaaGreatDoorWalk
set_option linter.unusedVariables false
set_option linter.unusedSimpArgs false
namespace Go.Proofs.YtmmfookfpdcohaaGreatDoor
open Go Go.Vc Go.Lib
section
/-- What stays while all nodes are gone through: the lists that the reader compares with, and what it wants. -/
structure WSt (we : World) (b9 b7 b6 b3 : Nat) (np : Option Addr) (nc : Nat) (NL : List NV) (pp : Option Addr) (pc : Nat) (PL : List (SlV Int)) (most : Int) (w : World) : Prop where
  ce : Chg No we w
  le : we.heap.size ≤ b9
  n : w.cell? ⟨b7, 0, none⟩ = some (.slice np NL.length nc)
  ns : Sl w np NL.length 6 (rows NV.cells NL)
  no : ∀ x ∈ NL, x.Ok we ∧ x.mea ≤ 10000000
  p : w.cell? ⟨b6, 0, none⟩ = some (.slice pp PL.length pc)
  ps : Sl w pp PL.length 1 (rows SlV.cells PL)
  po : ∀ s ∈ PL, OwnI w s ∧ s.l ≤ 10000000
  m : w.cell? ⟨b3, 0, none⟩ = some (.int .i64 most)
  o7 : b7 ≠ b9
  o6 : b6 ≠ b9
  o3 : b3 ≠ b9
  on : off np (fun x => x = b9)
  op : off pp (fun x => x = b9)
  os : ∀ s ∈ PL, off s.p (fun x => x = b9)
  ln : NL.length ≤ 10000000
  lp : PL.length = NL.length
variable {we wb w w' : World} {b9 b7 b6 b3 : Nat} {np : Option Addr} {nc : Nat} {NL : List NV} {pp : Option Addr} {pc : Nat} {PL : List (SlV Int)} {most : Int}
theorem WSt.chg (h : WSt we b9 b7 b6 b3 np nc NL pp pc PL most w) (hc : Chg (fun x => x = b9) w w') : WSt we b9 b7 b6 b3 np nc NL pp pc PL most w' where
  ce := h.ce.trans hc fun b hb e => by have := h.le; omega
  le := h.le
  n := hc.cell h.n h.o7
  ns := h.ns.chg hc h.on
  no := h.no
  p := hc.cell h.p h.o6
  ps := h.ps.chg hc h.op
  po := fun s hs => ⟨Row.chg (h.po s hs).1 hc (h.os s hs), (h.po s hs).2⟩
  m := hc.cell h.m h.o3
  o7 := h.o7
  o6 := h.o6
  o3 := h.o3
  on := h.on
  op := h.op
  os := h.os
  ln := h.ln
  lp := h.lp
theorem WSt.chg0 (h : WSt we b9 b7 b6 b3 np nc NL pp pc PL most w) (hc : Chg No w w') : WSt we b9 b7 b6 b3 np nc NL pp pc PL most w' := h.chg (hc.mono fun _ _ h => h.elim)
/-- The law's reader: the node and its path are those that stand there; all of it is written over; one farther on. -/
theorem Yield_ok {b10 q : Nat} {p : Option Addr} {l c : Nat} {zs : List Int} {x : NV} {J : Bool → World → Prop} (S : WSt we b9 b7 b6 b3 np nc NL pp pc PL most wb) (h9 : wb.heap[b9]? = some (.cells ⟨[.int .i64 (q : Int)]⟩ T_int (0, 0))) (hc : Chg No wb w)
    (hp : Row w T_int 1 p l c (rows intC zs)) (hpf : fresh wb p) (hpl : l ≤ 1000000000) (hx : Own w x) (hnd : x.bs.Nodup) (hbl : ∀ b ∈ x.bs, wb.heap.size ≤ b) (hxm : x.mea ≤ 10000000) (hpx : ∀ a, p = some a → ¬ a.block ∈ x.bs)
    (hz : (PL[q]?).map (·.xs) = some zs) (hn : (NL[q]?).map NV.nd = some x.nd)
    (K : ∀ w', Chg (fun x => x = b9) wb w' → Chg (fun b => b = b9 ∨ b ∈ x.bs ∨ isB p b) w w' → w'.heap[b9]? = some (.cells ⟨[.int .i64 ((q + 1 : Nat) : Int)]⟩ T_int (0, 0)) → J (((q + 1 : Nat) : Int) != most) w') :
    callJ Tryz.prog fn_law05_TreeWalks_1 #[.slice p l c, .agg ⟨x.cells⟩, .pointer (some ⟨b9, 0, none⟩), .pointer (some ⟨b7, 0, none⟩), .pointer (some ⟨b6, 0, none⟩), .pointer (some ⟨b10, 0, none⟩), .pointer (some ⟨b3, 0, none⟩)] w [.one .bool] J := by
  have l9 := lt_of_heap h9
  obtain ⟨s, hs, rfl⟩ := Option.map_eq_some_iff.1 hz
  obtain ⟨y, hy, hynd⟩ := Option.map_eq_some_iff.1 hn
  have hsm := S.po s (List.mem_of_getElem? hs)
  have hym := S.no y (List.mem_of_getElem? hy)
  have hqP := (List.getElem?_eq_some_iff.1 hs).1
  have hqN := (List.getElem?_eq_some_iff.1 hy).1
  have hln := S.ln
  cases x with
  | mk k u lo t ap al ac ats kp kl kc ks =>
  refine c_law05_TreeWalks_1 ?_
  unfold VC_law05_TreeWalks_1
  refine nodeBox (Hp.start w No) fun b8 w1 H1 hb8 hc1 => ?_
  refine withJ_i fun J32 hJ32 => ?_
  have k32 : ∀ w2, Chg No w1 w2 → J32 false w2 := by
    intro w2 hc2
    subst hJ32
    refine condB_i (fun h => by cases h) (fun _ => ?_)
    have H2 := H1.step0 hc2
    have c02 := H2.chg
    refine ldBox H2 0 rfl ?_
    refine Spoil_ok (NV.mk k u lo t ap al ac ats kp kl kc ks) (hx.chg c02 (fun _ _ h => h.elim)) hnd (by omega) fun w4 hc4 => ?_
    have cb4 : Chg No wb w4 := (hc.trans0 c02).trans hc4 fun b hb hI => by have := hbl b hI; omega
    have hp4 := (hp.chg c02 (off_no _)).chg hc4 fun a e hI => hpx a e hI
    have cw4 : Chg (fun b => b = b9 ∨ b ∈ (NV.mk k u lo t ap al ac ats kp kl kc ks).bs ∨ isB p b) w w4 := (c02.mono fun _ _ h => h.elim).trans hc4 fun b _ h => .inr (.inl h)
    refine ⟨fun i w' m => ∃ j : Nat, i = j ∧ j ≤ l ∧ m = l - j ∧ Chg No wb w' ∧ Chg (fun b => b = b9 ∨ b ∈ (NV.mk k u lo t ap al ac ats kp kl kc ks).bs ∨ isB p b) w w' ∧ (l ≠ 0 → ∃ bp cs, p = some ⟨bp, 0, none⟩ ∧ w'.heap[bp]? = some (.cells ⟨cs⟩ T_int (0, 0)) ∧ l ≤ cs.length), ⟨_, 0, rfl, Nat.zero_le _, rfl, cb4, cw4, fun h0 => ?_⟩, ?_⟩
    · obtain ⟨bp, rest, e1, e2, e3, _, e4⟩ := hp4.some0 h0
      exact ⟨bp, _, e1, e2, by rw [e4]; omega⟩
    rintro i w5 m ⟨j, rfl, hj, rfl, cb5, cw5, hat⟩
    refine condB_d (fun hlt => ?_) (fun hge => ?_)
    · obtain ⟨bp, cs, rfl, hbp, hcs⟩ := hat (by omega)
      have hbpf : wb.heap.size ≤ bp := hpf _ rfl
      refine idxA_i (by omega) hlt ?_
      rw [Addr.add_mk, Int.toNat_natCast, Nat.zero_add, Nat.mul_one]
      refine ((Hp.start w5 (fun x => x = bp)).add hbp (by simp) (fun _ => rfl)).stV 0 rfl (off := j) (by omega) fun w6 H6 hc6 => ?_
      simp only [List.set_cons_zero] at H6
      exact ⟨_, by omega, j + 1, by rw [w64_of] <;> omega, by omega, rfl, cb5.trans hc6 (fun b hb e => by omega), cw5.trans hc6 (fun b hb e => .inr (.inr ⟨_, rfl, e.symm⟩)), fun _ => ⟨bp, _, rfl, H6.get 0 rfl, by rw [List.length_set]; exact hcs⟩⟩
    · have h95 := cb5.heap h9 (fun h => h)
      have H5 := (Hp.of_chg (cb5.mono (S' := fun x => x = b9) fun _ _ h => h.elim)).add h95 (by simp) (fun _ => rfl)
      refine H5.ldI 0 rfl (off := 0) rfl ?_
      rw [w64_of (by omega) (by omega)]
      refine H5.stV 0 rfl (off := 0) (by simp) fun w7 H7 hc7 => ?_
      simp only [List.set_cons_zero] at H7
      refine H7.ldI 0 rfl (off := 0) rfl ?_
      refine ldI_i (H7.chg.cell S.m S.o3) ?_
      exact K w7 H7.chg (cw5.trans hc7 fun b hb e => .inl e) (by have := H7.get 0 rfl; rw [this]; rfl)
  clear hJ32
  have H1d := H1.drew
  have cb1 : Chg No wb w1.drew := hc.trans0 H1d.chg
  have c9 : ∀ {w''}, Chg No wb w'' → w''.cell? ⟨b9, 0, none⟩ = some (.int .i64 (q : Int)) := fun hc' => by
    rw [cell_of_row _ b9 0 _ T_int (0, 0) (hc'.heap h9 (fun h => h))]; rfl
  refine ldI_i (c9 cb1) ?_
  refine ⟨_, _, _, cb1.cell S.n (fun h => h), ?_⟩
  refine condB_d (fun h => by omega) (fun _ => ?_)
  refine ⟨_, _, _, cb1.cell S.p (fun h => h), ?_⟩
  refine ldI_i (c9 cb1) ?_
  refine idx_rows (S.ps.chg cb1 (off_no _)) (even_slv PL) (by decide) (by omega) (by omega) fun a s' _ hs' hcs => ?_
  obtain rfl : s = s' := Option.some.inj (hs.symm.trans hs')
  refine ⟨_, _, _, cellsAt_head hcs, ?_⟩
  refine SameInts_ok ((hp.sl.chg hc1 (off_no _)).chg ((Chg.refl No w1).drew) (off_no _)) (hsm.1.sl.chg cb1 (off_no _)) hpl fun w8 hc8 => ?_
  rw [decide_eq_true rfl]
  refine condB_i (fun h => by cases h) (fun _ => ?_)
  have H8 := H1d.step0 hc8
  have cb8 := cb1.trans0 hc8
  refine ldBox H8 0 rfl ?_
  refine ⟨_, _, _, cb8.cell S.n (fun h => h), ?_⟩
  refine ldI_i (c9 cb8) ?_
  refine idx_rows (S.ns.chg cb8 (off_no _)) (even_node NL) (by decide) (by omega) (by omega) fun a' y' _ hy' hcy => ?_
  obtain rfl : y = y' := Option.some.inj (hy.symm.trans hy')
  cases y with
  | mk yk yu yl yt yap yal yac yas ykp ykl ykc yks =>
  refine ldNode hcy ?_
  refine Same_ok (NV.mk k u lo t ap al ac ats kp kl kc ks) (NV.mk yk yu yl yt yap yal yac yas ykp ykl ykc yks) (hx.ok.chg0 H8.chg) (hym.1.chg0 (S.ce.trans0 cb8)) (by omega) fun r w9 hr hc9 => ?_
  rw [hr.2 hynd.symm]
  exact k32 w9 (((Chg.refl No w1).drew.trans0 hc8).trans0 hc9)
theorem get_mid {α : Type} (A B C : List α) {j : Nat} (h : j < B.length) : (A ++ B ++ C)[A.length + j]? = B[j]? := by
  rw [List.getElem?_append_left (by simp only [List.length_append]; omega), List.getElem?_append_right (by omega), Nat.add_sub_cancel_left]
theorem flat_pos (v : NV) : 1 ≤ v.flat.length := by cases v; simp [NV.flat]
/-- All nodes of a tree come to the reader, ahead of each what stands ahead of it, till it wants no more. -/
theorem Walk_ok {b10 : Nat} : ∀ (v : NV) {w : World} {q : Nat} {p : Option Addr} {l c : Nat} {zs : List Int} {J : Bool → World → Prop}, v.Ok we → v.mea ≤ 10000000 → WSt we b9 b7 b6 b3 np nc NL pp pc PL most w → w.heap[b9]? = some (.cells ⟨[.int .i64 (q : Int)]⟩ T_int (0, 0)) →
    Sl w p l 1 (rows intC zs) → (p = none → l = 0) → off p (fun x => x = b9) → l + v.mea ≤ 100000000 →
    (∀ j, j < v.flat.length → (NL[q + j]?).map NV.nd = (v.flat[j]?).map NV.nd) → (∀ j, j < v.flat.length → (PL[q + j]?).map (·.xs) = ((pathsV v)[j]?).map (zs ++ ·)) →
    (∀ r w', Chg (fun x => x = b9) w w' → (r = true → w'.heap[b9]? = some (.cells ⟨[.int .i64 ((q + v.flat.length : Nat) : Int)]⟩ T_int (0, 0)) ∧ ∀ j : Nat, q < j → j ≤ q + v.flat.length → (j : Int) ≠ most) →
      (r = false → ∃ j : Nat, q < j ∧ j ≤ q + v.flat.length ∧ (j : Int) = most ∧ w'.heap[b9]? = some (.cells ⟨[.int .i64 (j : Int)]⟩ T_int (0, 0))) → J r w') →
    callJ Tryz.prog fn_tree_walk #[.agg ⟨v.cells⟩, .slice p l c, .func (.func 15) #[] #[.pointer (some ⟨b9, 0, none⟩), .pointer (some ⟨b7, 0, none⟩), .pointer (some ⟨b6, 0, none⟩), .pointer (some ⟨b10, 0, none⟩), .pointer (some ⟨b3, 0, none⟩)]] w [.one .bool] J := by
  intro v
  induction v using NV.ind with
  | h k u lo t ap al ac ats kp kl kc ks ih =>
    intro w q p l c zs J hv hm S h9 hp hpn hpo hpl hN hP K
    have hv0 := hv
    cases hv with
    | mk ha hn hac hk hkn hkc hks =>
    have hkl := hk.row (even_node ks) (by decide)
    have hlm := len_meaL ks
    have hkb : kl ≤ 10000000 := by simp only [NV.mea] at hm; omega
    have l9 := lt_of_heap h9
    have hfl : (NV.mk k u lo t ap al ac ats kp kl kc ks).flat = NV.mk k u lo t ap al ac ats kp kl kc ks :: NV.flatL ks := rfl
    have hpv : pathsV (NV.mk k u lo t ap al ac ats kp kl kc ks) = [] :: pathsK 0 ks := by rw [pathsV]
    rw [hfl] at hN hP K
    rw [hpv] at hP
    have hN0 := hN 0 (by simp)
    have hP0 := hP 0 (by simp)
    simp only [Nat.add_zero, List.getElem?_cons_zero, Option.map_some, List.append_nil] at hN0 hP0
    refine c_tree_walk_f2_15c5 ?_
    unfold VC_tree_walk_f2_15c5
    refine nodeBox (Hp.start w No) fun b3' w1 H1 hb3 hc1 => ?_
    have H1d := H1.drew
    refine ldBox H1d 0 rfl ?_
    refine CloneI_ok (hp.chg H1d.chg (off_no _)) hpn (by omega) fun p2 c2 w2 hr2 hf2 hc2 => ?_
    have H2 := H1d.step0 hc2
    refine ⟨H2.cells 0 rfl 0, ?_⟩
    refine Copy_ok (NV.mk k u lo t ap al ac ats kp kl kc ks) hv0 (S.ce.trans0 H2.chg) (by omega) fun cw w3 hcnd hcown hcno hcbl hcm hc3 => ?_
    cases cw with
    | mk zk zu zl zt zap zal zac zas zkp zkl zkc zks =>
    have H3 := H2.step0 hc3
    simp only [NV.giv]
    have s1 := H1.chg.size
    have s2 := H2.chg.size
    have s12 : w1.heap.size ≤ w2.heap.size := hc2.size
    have hf2w : fresh w p2 := fun a e => by have h := hf2 a e; have : w1.heap.size = w1.drew.heap.size := rfl; omega
    refine Yield_ok (b10 := b10) (wb := w) (q := q) (x := NV.mk zk zu zl zt zap zal zac zas zkp zkl zkc zks) S h9 H3.chg (hr2.chg hc3 (off_no _)) hf2w (by omega) hcown hcno (fun b hb => by have := hcbl b hb; omega) (by omega) (fun a e hI => by have := hcbl _ hI; have := hr2.lt a e; omega) hP0 (by rw [hN0, hcnd]) fun w4 hc4 hcw4 h94 => ?_
    have S4 := S.chg hc4
    have b3lt := H1.lt 0 rfl
    refine condB_not (fun hr => ?_) (fun hr => ?_)
    · have hr' : ((q + 1 : Nat) : Int) = most := by simpa using hr
      exact K false w4 hc4 (fun h => by cases h) fun _ => ⟨q + 1, by omega, by simp, hr', h94⟩
    have hne : ((q + 1 : Nat) : Int) ≠ most := by simpa using hr
    have H4 : Hp w (fun x => x = b9) w4 [⟨b3', [.int .i64 k, .string u, .string lo, .slice ap al ac, .slice kp kl kc, .string t], T_api_Node⟩] := (H3.mono fun _ _ h => h.elim).step hcw4 (by
      intro B hB hI
      rw [List.mem_singleton.1 hB] at hI
      simp only at hI
      rcases hI with h | h | ⟨a, e, h⟩
      · omega
      · have := hcbl _ h; omega
      · have h1 := hf2 a e; have : w1.heap.size = w1.drew.heap.size := rfl; omega) (by
      intro b hb hI
      rcases hI with h | h | ⟨a, e, h⟩
      · exact h
      · have := hcbl _ h; omega
      · have h1 := hf2w a e; omega)
    refine H4.ldS 0 rfl (off := 4) rfl ?_
    refine ⟨fun i w' m => ∃ n : Nat, i = n ∧ n ≤ kl ∧ m = kl - n ∧ Chg (fun x => x = b9) w w' ∧ w'.heap[b9]? = some (.cells ⟨[.int .i64 ((q + 1 + (NV.flatL (ks.take n)).length : Nat) : Int)]⟩ T_int (0, 0)) ∧ ∀ j : Nat, q < j → j ≤ q + 1 + (NV.flatL (ks.take n)).length → (j : Int) ≠ most,
      ⟨_, 0, rfl, Nat.zero_le _, rfl, hc4, h94, fun j h1 h2 => by
        have : (NV.flatL (ks.take 0)).length = 0 := rfl
        obtain rfl : j = q + 1 := by omega
        exact hne⟩, ?_⟩
    rintro i w5 m ⟨n, rfl, hn5, rfl, hc5, h95, hno⟩
    have S5 := S.chg hc5
    refine condB_d (fun hlt => ?_) (fun hge => ?_)
    · refine idx_rows (hk.chg S5.ce (off_no _)) (even_node ks) (by decide) (by omega) hlt fun a y _ hy hcs => ?_
      rw [Int.toNat_natCast] at hy
      have hymem := List.mem_of_getElem? hy
      have ihy := @ih y hymem
      have hyok := hks y hymem
      have hym := mea_kid hymem
      have hft := flatL_take hy
      have hle := flatL_le ks (n + 1)
      rw [hft, List.length_append] at hle
      have htq : pathsK 0 (ks.take (n + 1)) = pathsK 0 (ks.take n) ++ (pathsV y).map ((n : Int) :: ·) := by
        rw [take_get hy, pathsK_append, List.length_take, Nat.zero_add, show min n ks.length = n by omega]
        simp [pathsK]
      have efl : NV.flatL ks = NV.flatL (ks.take n) ++ y.flat ++ NV.flatL (ks.drop (n + 1)) := by rw [← hft, ← flatL_append, List.take_append_drop]
      have epk : pathsK 0 ks = pathsK 0 (ks.take n) ++ (pathsV y).map ((n : Int) :: ·) ++ pathsK (0 + (ks.take (n + 1)).length) (ks.drop (n + 1)) := by rw [← htq, ← pathsK_append, List.take_append_drop]
      have hpkl := pathsK_len (ks.take n) 0
      have hyl := paths_len y
      have hNk : ∀ j, j < y.flat.length → (NL[q + 1 + (NV.flatL (ks.take n)).length + j]?).map NV.nd = (y.flat[j]?).map NV.nd := by
        intro j hj
        have h1 := hN (1 + (NV.flatL (ks.take n)).length + j) (by rw [List.length_cons]; omega)
        rw [show q + (1 + (NV.flatL (ks.take n)).length + j) = q + 1 + (NV.flatL (ks.take n)).length + j by omega] at h1
        rw [h1, show 1 + (NV.flatL (ks.take n)).length + j = ((NV.flatL (ks.take n)).length + j) + 1 by omega, List.getElem?_cons_succ, efl, get_mid _ _ _ hj]
      have hPk : ∀ j, j < y.flat.length → (PL[q + 1 + (NV.flatL (ks.take n)).length + j]?).map (·.xs) = ((pathsV y)[j]?).map ((zs ++ [(n : Int)]) ++ ·) := by
        intro j hj
        have h1 := hP (1 + (NV.flatL (ks.take n)).length + j) (by rw [List.length_cons]; omega)
        rw [show q + (1 + (NV.flatL (ks.take n)).length + j) = q + 1 + (NV.flatL (ks.take n)).length + j by omega] at h1
        rw [h1, show 1 + (NV.flatL (ks.take n)).length + j = ((pathsK 0 (ks.take n)).length + j) + 1 by omega, List.getElem?_cons_succ, epk, get_mid _ _ _ (by rw [List.length_map]; omega), List.getElem?_map, Option.map_map]
        congr 1
        funext z
        simp
      cases y with
      | mk yk yu yl yt yap yal yac yas ykp ykl ykc yks =>
      refine nodeVar (Hp.start w5 No) hcs fun b8 w7 H7 hb8 hc7 => ?_
      refine withJ_i fun J32 hJ32 => ?_
      have go : ∀ w11 q29 c29, Hp w5 No w11 [⟨b8, [.int .i64 yk, .string yu, .string yl, .slice yap yal yac, .slice ykp ykl ykc, .string yt], T_api_Node⟩] → Row w11 T_int 1 q29 (l + 1) c29 (rows intC (zs ++ [(n : Int)])) → fresh w5 q29 →
          callJ Tryz.prog fn_tree_walk #[.agg ⟨(NV.mk yk yu yl yt yap yal yac yas ykp ykl ykc yks).cells⟩, .slice q29 (l + 1) c29, .func (.func 15) #[] #[.pointer (some ⟨b9, 0, none⟩), .pointer (some ⟨b7, 0, none⟩), .pointer (some ⟨b6, 0, none⟩), .pointer (some ⟨b10, 0, none⟩), .pointer (some ⟨b3, 0, none⟩)]] w11 [.one .bool] fun r w12 => J32 (!r) w12 := by
        intro w11 q29 c29 H11 hr11 hf11
        have h911 := H11.chg.heap h95 (fun h => h)
        have s5 := lt_of_heap h95
        refine ihy hyok (by simp only [NV.mea] at hm; omega) (S5.chg0 H11.chg) h911 hr11.sl hr11.none0 (fun a e h => by have := hf11 a e; omega) (by simp only [NV.mea] at hpl hym ⊢; omega) hNk hPk fun r w12 hc12 ht hf => ?_
        have c512 : Chg (fun x => x = b9) w5 w12 := (H11.chg.mono fun _ _ h => h.elim).trans hc12 fun _ _ h => h
        have c012 : Chg (fun x => x = b9) w w12 := hc5.trans c512 fun _ _ h => h
        subst hJ32
        refine condB_not (fun hr => ?_) (fun hr => ?_)
        · obtain ⟨j, g1, g2, g3, g4⟩ := hf hr
          exact K false w12 c012 (fun h => by cases h) fun _ => ⟨j, by omega, by rw [List.length_cons]; omega, g3, g4⟩
        · obtain ⟨h1, h2⟩ := ht hr
          refine ⟨_, by omega, n + 1, by rw [w64_of] <;> omega, by omega, rfl, c012, ?_, fun j g1 g2 => ?_⟩
          · rw [hft, List.length_append, ← Nat.add_assoc]; exact h1
          · rw [hft, List.length_append] at g2
            rcases Nat.lt_or_ge (q + 1 + (NV.flatL (ks.take n)).length) j with g3 | g3
            · exact h2 j g3 (by omega)
            · exact hno j g1 g3
      clear hJ32
      have H7d := H7.drew
      have sz7 : w7.drew.heap.size = w7.heap.size := rfl
      have b8lt := H7.lt 0 rfl
      have s57 := H7.chg.size
      have hp5 : Sl w5 p l 1 (rows intC zs) := hp.chg hc5 hpo
      have e1 : rows intC zs ++ [Value.int .i64 (n : Int)] = rows intC (zs ++ [(n : Int)]) := by rw [rows_append, rows_cons, rows_nil, List.append_nil]; rfl
      refine ldBox H7d 0 rfl ?_
      refine ⟨?_, ?_⟩
      · refine CloneI_ok (hp5.chg H7d.chg (off_no _)) hpn (by omega) fun p9 c9 w9 hr9 hf9 hc9 => ?_
        have H9 := H7d.step0 hc9
        refine ⟨H9.cells 0 rfl 0, ?_⟩
        refine newRow (sz := 1) (n := 1) rfl (by decide) fun b28 w10 hr28 hb28 hc10 => ?_
        have H10 := H9.step0 hc10
        refine ⟨H10.cells 0 rfl 0, ?_⟩
        refine appJ_row slT_int5 (hr9.chg hc10 (off_no _)) hr28.sl (one1_cons rfl one1_nil) (by simp) (by omega) (by simp only [maxLen]; omega) fun p11 c11 w11 hr11 hc11 hf11 => ?_
        have H11 := H10.step hc11 (by
          intro B hB hI
          obtain ⟨a, e, h⟩ := hI
          rw [List.mem_singleton.1 hB] at h
          simp only at h
          have := hf9 a e; omega) (by
          intro b hb hI
          obtain ⟨a, e, h⟩ := hI
          have := hf9 a e; omega)
        refine ⟨H11.cells 0 rfl 0, ?_⟩
        rw [e1] at hr11
        refine go w11 p11 c11 H11 hr11 ?_
        rcases hf11 with rfl | h
        · intro a e; have := hf9 a e; omega
        · intro a e; have := h a e; have := H10.chg.size; omega
      · refine newRow (sz := 1) (n := 1) rfl (by decide) fun b28 w13 hr28 hb28 hc13 => ?_
        have H13 := H7d.step0 hc13
        refine ⟨H13.cells 0 rfl 0, ?_⟩
        refine CloneI_ok (hp5.chg H13.chg (off_no _)) hpn (by omega) fun p9 c9 w14 hr9 hf9 hc14 => ?_
        have H14 := H13.step0 hc14
        refine ⟨H14.cells 0 rfl 0, ?_⟩
        have sz13 := hc13.size
        refine appJ_row slT_int5 hr9 (hr28.sl.chg hc14 (off_no _)) (one1_cons rfl one1_nil) (by simp) (by omega) (by simp only [maxLen]; omega) fun p11 c11 w11 hr11 hc11 hf11 => ?_
        have H11 := H14.step hc11 (by
          intro B hB hI
          obtain ⟨a, e, h⟩ := hI
          rw [List.mem_singleton.1 hB] at h
          simp only at h
          have := hf9 a e; omega) (by
          intro b hb hI
          obtain ⟨a, e, h⟩ := hI
          have := hf9 a e; omega)
        refine ⟨H11.cells 0 rfl 0, ?_⟩
        rw [e1] at hr11
        refine go w11 p11 c11 H11 hr11 ?_
        rcases hf11 with rfl | h
        · intro a e; have := hf9 a e; omega
        · intro a e; have := h a e; have := H14.chg.size; omega
    · have hnk : n = kl := by omega
      subst hnk
      rw [List.take_of_length_le (by omega)] at h95 hno
      have e2 : q + 1 + (NV.flatL ks).length = q + (NV.mk k u lo t ap al ac ats kp n kc ks :: NV.flatL ks).length := by rw [List.length_cons]; omega
      rw [e2] at h95 hno
      exact K true w5 hc5 (fun _ => ⟨h95, hno⟩) (fun h => by cases h)
theorem Small_ok {w : World} {x : NV} {most : Int} {J : Bool → World → Prop} (hx : x.Ok w) (hm : x.flat.length ≤ 100000000) (K : ∀ w', Chg No w w' → J (decide ((x.flat.length : Int) ≤ most)) w') : callJ Tryz.prog fn_ref05_Small #[.agg ⟨x.cells⟩, .int .i64 most] w [.one .bool] J := by
  cases x with
  | mk k u l t ap al ac ats kp kl kc ks =>
  refine c_ref05_Small ?_
  unfold VC_ref05_Small
  refine nodeBox (Hp.start w No) fun b w1 H1 hb hc1 => ?_
  refine ldBox H1 0 rfl ?_
  exact RefFlat_ok (NV.mk k u l t ap al ac ats kp kl kc ks) (hx.chg0 hc1) hm fun p c w2 _ _ hc2 => K w2 (hc1.trans0 hc2)
theorem rowOff {w : World} {e e' : TypeId} {sz l c b : Nat} {p : Option Addr} {xs cs : List Value} (h : Row w e sz p l c xs) (hb : w.heap[b]? = some (.cells ⟨cs⟩ e' (0, 0))) (hne : e ≠ e') : off p (fun x => x = b) := by
  intro a ha e1
  have h1 := h.typ a ha
  rw [e1, typ_of hb] at h1
  exact hne (Option.some.inj h1).symm
theorem zeroC_sli : zeroC Tryz.prog T_sl_sl_int = ⟨[.slice none 0 0]⟩ := by kernel_rfl
theorem zeroC_sln : zeroC Tryz.prog T_sl_api_Node = ⟨[.slice none 0 0]⟩ := by kernel_rfl
theorem zeroC_int5 : zeroC Tryz.prog T_int = ⟨[.int .i64 0]⟩ := by kernel_rfl
theorem zeroC_bool5 : zeroC Tryz.prog T_bool = ⟨[.bool false]⟩ := by kernel_rfl
theorem plain_All1 : plainFn Tryz.prog 43 = true := by kernel_rfl
theorem TreeWalks_ok {w : World} {x : NV} {most : Int} (T : TT w) (hx : x.Ok w) (_ : InI most) (hm : x.mea ≤ 1048576) : callJ Tryz.prog fn_law05_TreeWalks #[.agg ⟨x.cells⟩, .int .i64 most] w [.one .bool] fun r w' => r = true ∧ Chg No w w' := by
  have hflm := flat_len x
  have hflp := flat_pos x
  have hok : ∀ y ∈ x.flat, y.Ok w ∧ y.mea ≤ 10000000 := fun y hy => ⟨flat_mem hy hx, by have := flat_mea hy; omega⟩
  have hplen := paths_len x
  have hplong := paths_long x
  cases x with
  | mk k u l t ap al ac ats kp kl kc ks =>
  refine c_law05_TreeWalks ?_
  unfold VC_law05_TreeWalks
  refine nodeBox (Hp.start w No) fun b2 w1 H1 hb2 hc1 => ?_
  refine nodeBox H1 (cs := [.int .i64 most]) fun b3 w2 H2 hb3 hc2 => ?_
  refine awake05_ok (T.chg H2.chg) fun w3 hc3 => ?_
  have H3 := H2.step0 hc3
  refine condB_i (fun h => by cases h) (fun _ => ?_)
  refine ldBox H3 1 rfl ?_
  refine Small_ok (x := NV.mk k u l t ap al ac ats kp kl kc ks) (hx.chg0 H3.chg) (by omega) fun w4 hc4 => ?_
  have H4 := H3.step0 hc4
  have hsm0 : decide (((NV.mk k u l t ap al ac ats kp kl kc ks).flat.length : Int) ≤ 300) = true → (NV.mk k u l t ap al ac ats kp kl kc ks).flat.length ≤ 300 := fun hsm => by have := of_decide_eq_true hsm; omega
  generalize decide (((NV.mk k u l t ap al ac ats kp kl kc ks).flat.length : Int) ≤ 300) = bb at hsm0 ⊢
  refine condB_not (fun _ => ⟨rfl, H4.chg⟩) (fun hsm => ?_)
  have hsm' := hsm0 hsm
  refine ldBox H4 1 rfl ?_
  refine c_tree_All ?_
  unfold VC_tree_All
  refine nodeBox H4 fun ball w5 H5 hball hc5 => ?_
  refine ⟨⟨_, _, _, rfl⟩, ?_⟩
  refine withJ_i fun J6 hJ6 => ?_
  have fin : ∀ (b6 b7 : Nat) (w6 : World) (pP : Option Addr) (cP : Nat) (PL : List (SlV Int)) (pF : Option Addr) (cF : Nat), Hp w No w6 [⟨ball, [.int .i64 k, .string u, .string l, .slice ap al ac, .slice kp kl kc, .string t], T_api_Node⟩, ⟨b3, [.int .i64 most], T_int⟩, ⟨b2, [.int .i64 k, .string u, .string l, .slice ap al ac, .slice kp kl kc, .string t], T_api_Node⟩] →
      w6.cell? ⟨b6, 0, none⟩ = some (.slice pP PL.length cP) → w6.cell? ⟨b7, 0, none⟩ = some (.slice pF (NV.mk k u l t ap al ac ats kp kl kc ks).flat.length cF) → PL.map (·.xs) = pathsV (NV.mk k u l t ap al ac ats kp kl kc ks) → Row w6 T_sl_int 1 pP PL.length cP (rows SlV.cells PL) → (∀ s ∈ PL, OwnI w6 s) →
      Row w6 T_api_Node 6 pF (NV.mk k u l t ap al ac ats kp kl kc ks).flat.length cF (rows NV.cells (NV.mk k u l t ap al ac ats kp kl kc ks).flat) → b6 < w6.heap.size → b7 < w6.heap.size → J6 (some ⟨b6, 0, none⟩) (some ⟨b7, 0, none⟩) w6 := by
    intro b6 b7 w6 pP cP PL pF cF H6 hc6 hc7 hPL hrP hsP hrN l6 l7
    subst hJ6
    refine ldBox H6 2 rfl ?_
    refine Twin_ok (NV.mk k u l t ap al ac ats kp kl kc ks) hx H6.chg (by omega) fun tw w7 htnd htown htno htbl htm hc7' => ?_
    cases tw with
    | mk tk tu tl tt tap tal tac tas tkp tkl tkc tks =>
    have H7 := H6.step0 hc7'
    simp only [NV.giv]
    refine storeBox H7 fun b8 w9 H9 hb8 hc9 => ?_
    rw [zeroC_int5, zeroC_bool5]
    refine H9.newB fun b9 w10 H10 hb9 hc10 => ?_
    refine H10.newB fun b10 w11 H11 hb10 hc11 => ?_
    refine H11.stV 1 rfl (off := 0) (by simp) fun w12 H12 hc12 => ?_
    simp only [List.set_cons_succ, List.set_cons_zero] at H12
    refine H12.stV 0 rfl (off := 0) (by simp) fun w13 H13 hc13 => ?_
    simp only [List.set_cons_succ, List.set_cons_zero] at H13
    have z6 := H6.chg.size
    have z7 := hc7'.size
    have z9 := hc9.size
    have z10 := hc10.size
    have z13 : w11.heap.size ≤ w13.heap.size := Nat.le_trans hc12.size hc13.size
    have c613 : Chg No w6 w13 := ((((hc7'.trans0 hc9).trans0 hc10).trans0 hc11).trans hc12 fun b hb e => by omega).trans hc13 fun b hb e => by omega
    have c9 : Chg No w9 w13 := ((hc10.trans0 hc11).trans hc12 fun b hb e => by omega).trans hc13 fun b hb e => by omega
    generalize hL : (NV.mk k u l t ap al ac ats kp kl kc ks).flat = L at *
    have hPLl : PL.length = L.length := by rw [← hplen, ← hPL, List.length_map]
    have S : WSt w b9 b7 b6 b3 pF cF L pP cP PL most w13 := by
      have l3 := H6.lt 1 rfl
      exact ⟨H13.chg, by omega, c613.cell hc7 (fun h => h), hrN.sl.chg c613 (off_no _), hok, c613.cell hc6 (fun h => h), hrP.sl.chg c613 (off_no _), fun s hs => ⟨Row.chg (hsP s hs) c613 (off_no _), by
          have h1 := hplong s.xs (by rw [← hPL]; exact List.mem_map_of_mem hs)
          have h2 : s.xs.length = s.l := (hsP s hs).sl.row (even_int _) (by decide)
          omega⟩, H13.cell 4 rfl rfl, by omega, by omega, by omega, fun a e h => by have := hrN.lt a e; omega, fun a e h => by have := hrP.lt a e; omega, fun s hs a e h => by have := (hsP s hs).lt a e; omega, by omega, hPLl⟩
    unfold callVal
    dsimp only
    rw [plain_All1, cond_true]
    refine c_tree_All_1_f0_15c5 ?_
    unfold VC_tree_All_1_f0_15c5
    refine ldNode (H13.cells 3 rfl 0) ?_
    refine Walk_ok (b10 := b10) (q := 0) (l := 0) (zs := []) (NV.mk k u l t ap al ac ats kp kl kc ks) hx (by omega) S (H13.get 1 rfl) (Sl.nil _ _ _) (fun _ => rfl) (by rintro a ⟨⟩) (by omega) (fun j _ => by rw [hL, Nat.zero_add]) (fun j _ => by
      rw [Nat.zero_add, ← hPL, List.getElem?_map]
      simp
      rfl) fun r w14 hc14 ht hf => ?_
    rw [hL, Nat.zero_add] at ht hf
    have n9 : ∀ i (B : Blk), i ≠ 1 → [(⟨b10, [.bool true], T_bool⟩ : Blk), ⟨b9, [.int .i64 0], T_int⟩, ⟨b8, [.int .i64 tk, .string tu, .string tl, .slice tap tal tac, .slice tkp tkl tkc, .string tt], T_api_Node⟩, ⟨ball, [.int .i64 k, .string u, .string l, .slice ap al ac, .slice kp kl kc, .string t], T_api_Node⟩, ⟨b3, [.int .i64 most], T_int⟩, ⟨b2, [.int .i64 k, .string u, .string l, .slice ap al ac, .slice kp kl kc, .string t], T_api_Node⟩][i]? = some B → B.b ≠ b9 := by
      intro i B hi hB e
      have h1 := H13.blk_ne (j := 1) (by rw [hB]) rfl hi
      exact h1 e
    have H14 : Hp w No w14 [⟨b10, [.bool true], T_bool⟩, ⟨b8, [.int .i64 tk, .string tu, .string tl, .slice tap tal tac, .slice tkp tkl tkc, .string tt], T_api_Node⟩, ⟨ball, [.int .i64 k, .string u, .string l, .slice ap al ac, .slice kp kl kc, .string t], T_api_Node⟩, ⟨b3, [.int .i64 most], T_int⟩, ⟨b2, [.int .i64 k, .string u, .string l, .slice ap al ac, .slice kp kl kc, .string t], T_api_Node⟩] := by
      refine (H13.sub (.cons_cons _ (.cons _ (.refl _)))).step hc14 (fun B hB hI => ?_) (fun b hb hI => by omega)
      simp only [List.mem_cons, List.not_mem_nil, or_false] at hB
      rcases hB with rfl | rfl | rfl | rfl | rfl
      · exact n9 0 _ (by decide) rfl hI
      · exact n9 2 _ (by decide) rfl hI
      · exact n9 3 _ (by decide) rfl hI
      · exact n9 4 _ (by decide) rfl hI
      · exact n9 5 _ (by decide) rfl hI
    simp only [nonNil]
    refine ⟨_, _, _, hc14.cell (c613.cell hc7 (fun h => h)) (by simp only; omega), ?_⟩
    refine withJ_i fun J11 hJ11 => ?_
    have k11 : ∀ cnt : Nat, w14.heap[b9]? = some (.cells ⟨[.int .i64 (cnt : Int)]⟩ T_int (0, 0)) → J11 (cnt : Int) w14 := by
      intro cnt h9; subst hJ11
      simp only [withJ]
      refine H14.ldB 0 rfl (off := 0) rfl ?_
      refine condB_i (fun _ => ?_) (fun h => by cases h)
      refine ldI_i (n := (cnt : Int)) (by rw [cell_of_row _ b9 0 _ T_int (0, 0) h9]; rfl) ?_
      refine condB_eq (fun _ => ?_) (fun h => absurd rfl h)
      refine ldBox H14 4 rfl ?_
      refine ldBox H14 1 rfl ?_
      have htlt := htown.lt
      refine Same_ok (NV.mk k u l t ap al ac ats kp kl kc ks) (NV.mk tk tu tl tt tap tal tac tas tkp tkl tkc tks) (hx.chg0 H14.chg) (((htown.chg hc9 (fun _ _ h => h.elim)).chg c9 (fun _ _ h => h.elim)).chg hc14 (fun b hb e => by have := htlt b hb; omega)).ok (by omega) fun r' w16 hr' hc16 => ?_
      exact ⟨hr'.2 htnd.symm, (H14.step0 hc16).chg⟩
    clear hJ11
    refine withJ_i fun J38 hJ38 => ?_
    have k38 : ∀ bb : Bool, (bb = true ↔ 0 < most ∧ most < (L.length : Int)) → J38 bb w14 := by
      intro bb hbb; subst hJ38
      refine condB_i (fun h => ?_) (fun h => ?_)
      · obtain ⟨h1, h2⟩ := hbb.1 h
        refine H14.ldI 3 rfl (off := 0) rfl ?_
        cases r with
        | true => exact absurd (by omega) ((ht rfl).2 most.toNat (by omega) (by omega))
        | false =>
          obtain ⟨j, g1, g2, g3, g4⟩ := hf rfl
          rw [← g3]; exact k11 j g4
      · cases r with
        | true => exact k11 _ (ht rfl).1
        | false =>
          obtain ⟨j, g1, g2, g3, g4⟩ := hf rfl
          have hjL : j = L.length := by
            have : ¬ (0 < most ∧ most < (L.length : Int)) := fun hh => by rw [hbb.2 hh] at h; cases h
            omega
          rw [← hjL]; exact k11 j g4
    clear hJ38
    refine H14.ldI 3 rfl (off := 0) rfl ?_
    refine condB_d (fun h => ?_) (fun h => k38 false ⟨fun g => (by cases g), fun g => by omega⟩)
    refine H14.ldI 3 rfl (off := 0) rfl ?_
    exact k38 _ ⟨fun g => ⟨h, of_decide_eq_true g⟩, fun g => decide_eq_true g.2⟩
  clear hJ6
  have H := H5.drew
  refine ldBox H 2 rfl ?_
  refine ldBox H 2 rfl ?_
  refine ⟨?_, ?_, ?_⟩
  · refine RefPaths_ok (NV.mk k u l t ap al ac ats kp kl kc ks) (hx.chg0 H.chg) (by omega) fun pP cP wP PL hPL hrP hfP hsP hcP => ?_
    replace hsP : ∀ s ∈ PL, OwnI wP s := fun s hs => (hsP s hs).1
    replace H := H.step0 hcP
    refine ⟨H.cells 2 rfl 0, ?_⟩
    refine ⟨?_, ?_, ?_⟩
    · refine RefFlat_ok (NV.mk k u l t ap al ac ats kp kl kc ks) (hx.chg0 H.chg) (by omega) fun pF cF wF hrN hfN hcN => ?_
      replace H := H.step0 hcN
      replace hrP := hrP.chg hcN (off_no _)
      replace hsP := fun s hs => Row.chg (hsP s hs) hcN (off_no _)
      refine ⟨?_, ?_⟩
      · rw [zeroC_sli]
        refine H.newB fun b6 wA HA hbA hcA => ?_
        replace H := HA
        replace hrP := hrP.chg hcA (off_no _)
        replace hsP := fun s hs => Row.chg (hsP s hs) hcA (off_no _)
        replace hrN := hrN.chg hcA (off_no _)
        refine ⟨H.cells 3 rfl 0, H.cells 3 rfl 0, ?_⟩
        rw [zeroC_sln]
        refine H.newB fun b7 wA HA hbA hcA => ?_
        replace H := HA
        replace hrP := hrP.chg hcA (off_no _)
        replace hsP := fun s hs => Row.chg (hsP s hs) hcA (off_no _)
        replace hrN := hrN.chg hcA (off_no _)
        refine ⟨H.cells 4 rfl 0, H.cells 4 rfl 0, ?_⟩
        have g6 := H.get 1 rfl
        refine H.stV 1 rfl (off := 0) (by simp) fun wS HS hcS => ?_
        simp only [List.set_cons_succ, List.set_cons_zero] at HS
        replace hrP := hrP.chg hcS (rowOff hrP g6 (by decide))
        replace hsP : ∀ s ∈ PL, OwnI wS s := fun s hs => Row.chg (hsP s hs) hcS (rowOff (hsP s hs) g6 (by decide))
        replace hrN := hrN.chg hcS (rowOff hrN g6 (by decide))
        have g7 := HS.get 0 rfl
        refine HS.stV 0 rfl (off := 0) (by simp) fun wT HT hcT => ?_
        simp only [List.set_cons_succ, List.set_cons_zero] at HT
        replace hrP := hrP.chg hcT (rowOff hrP g7 (by decide))
        replace hsP : ∀ s ∈ PL, OwnI wT s := fun s hs => Row.chg (hsP s hs) hcT (rowOff (hsP s hs) g7 (by decide))
        replace hrN := hrN.chg hcT (rowOff hrN g7 (by decide))
        exact fin _ _ wT _ _ PL _ _ (HT.sub (.cons _ (.cons _ (.refl _)))) (HT.cell 1 rfl rfl) (HT.cell 0 rfl rfl) hPL hrP hsP hrN (HT.lt 1 rfl) (HT.lt 0 rfl)
      · rw [zeroC_sln]
        refine H.newB fun b7 wA HA hbA hcA => ?_
        replace H := HA
        replace hrP := hrP.chg hcA (off_no _)
        replace hsP := fun s hs => Row.chg (hsP s hs) hcA (off_no _)
        replace hrN := hrN.chg hcA (off_no _)
        refine ⟨H.cells 3 rfl 0, H.cells 3 rfl 0, ?_⟩
        rw [zeroC_sli]
        refine H.newB fun b6 wA HA hbA hcA => ?_
        replace H := HA
        replace hrP := hrP.chg hcA (off_no _)
        replace hsP := fun s hs => Row.chg (hsP s hs) hcA (off_no _)
        replace hrN := hrN.chg hcA (off_no _)
        refine ⟨H.cells 4 rfl 0, H.cells 4 rfl 0, ?_⟩
        have g6 := H.get 0 rfl
        refine H.stV 0 rfl (off := 0) (by simp) fun wS HS hcS => ?_
        simp only [List.set_cons_succ, List.set_cons_zero] at HS
        replace hrP := hrP.chg hcS (rowOff hrP g6 (by decide))
        replace hsP : ∀ s ∈ PL, OwnI wS s := fun s hs => Row.chg (hsP s hs) hcS (rowOff (hsP s hs) g6 (by decide))
        replace hrN := hrN.chg hcS (rowOff hrN g6 (by decide))
        have g7 := HS.get 1 rfl
        refine HS.stV 1 rfl (off := 0) (by simp) fun wT HT hcT => ?_
        simp only [List.set_cons_succ, List.set_cons_zero] at HT
        replace hrP := hrP.chg hcT (rowOff hrP g7 (by decide))
        replace hsP : ∀ s ∈ PL, OwnI wT s := fun s hs => Row.chg (hsP s hs) hcT (rowOff (hsP s hs) g7 (by decide))
        replace hrN := hrN.chg hcT (rowOff hrN g7 (by decide))
        exact fin _ _ wT _ _ PL _ _ (HT.sub (.cons _ (.cons _ (.refl _)))) (HT.cell 0 rfl rfl) (HT.cell 1 rfl rfl) hPL hrP hsP hrN (HT.lt 0 rfl) (HT.lt 1 rfl)
    · rw [zeroC_sli]
      refine H.newB fun b6 wA HA hbA hcA => ?_
      replace H := HA
      replace hrP := hrP.chg hcA (off_no _)
      replace hsP := fun s hs => Row.chg (hsP s hs) hcA (off_no _)
      refine ⟨H.cells 3 rfl 0, H.cells 3 rfl 0, ?_⟩
      refine ⟨?_, ?_⟩
      · refine RefFlat_ok (NV.mk k u l t ap al ac ats kp kl kc ks) (hx.chg0 H.chg) (by omega) fun pF cF wF hrN hfN hcN => ?_
        replace H := H.step0 hcN
        replace hrP := hrP.chg hcN (off_no _)
        replace hsP := fun s hs => Row.chg (hsP s hs) hcN (off_no _)
        rw [zeroC_sln]
        refine H.newB fun b7 wA HA hbA hcA => ?_
        replace H := HA
        replace hrP := hrP.chg hcA (off_no _)
        replace hsP := fun s hs => Row.chg (hsP s hs) hcA (off_no _)
        replace hrN := hrN.chg hcA (off_no _)
        refine ⟨H.cells 4 rfl 0, H.cells 4 rfl 0, ?_⟩
        have g6 := H.get 1 rfl
        refine H.stV 1 rfl (off := 0) (by simp) fun wS HS hcS => ?_
        simp only [List.set_cons_succ, List.set_cons_zero] at HS
        replace hrP := hrP.chg hcS (rowOff hrP g6 (by decide))
        replace hsP : ∀ s ∈ PL, OwnI wS s := fun s hs => Row.chg (hsP s hs) hcS (rowOff (hsP s hs) g6 (by decide))
        replace hrN := hrN.chg hcS (rowOff hrN g6 (by decide))
        have g7 := HS.get 0 rfl
        refine HS.stV 0 rfl (off := 0) (by simp) fun wT HT hcT => ?_
        simp only [List.set_cons_succ, List.set_cons_zero] at HT
        replace hrP := hrP.chg hcT (rowOff hrP g7 (by decide))
        replace hsP : ∀ s ∈ PL, OwnI wT s := fun s hs => Row.chg (hsP s hs) hcT (rowOff (hsP s hs) g7 (by decide))
        replace hrN := hrN.chg hcT (rowOff hrN g7 (by decide))
        exact fin _ _ wT _ _ PL _ _ (HT.sub (.cons _ (.cons _ (.refl _)))) (HT.cell 1 rfl rfl) (HT.cell 0 rfl rfl) hPL hrP hsP hrN (HT.lt 1 rfl) (HT.lt 0 rfl)
      · rw [zeroC_sln]
        refine H.newB fun b7 wA HA hbA hcA => ?_
        replace H := HA
        replace hrP := hrP.chg hcA (off_no _)
        replace hsP := fun s hs => Row.chg (hsP s hs) hcA (off_no _)
        refine ⟨H.cells 4 rfl 0, H.cells 4 rfl 0, ?_⟩
        refine RefFlat_ok (NV.mk k u l t ap al ac ats kp kl kc ks) (hx.chg0 H.chg) (by omega) fun pF cF wF hrN hfN hcN => ?_
        replace H := H.step0 hcN
        replace hrP := hrP.chg hcN (off_no _)
        replace hsP := fun s hs => Row.chg (hsP s hs) hcN (off_no _)
        have g6 := H.get 1 rfl
        refine H.stV 1 rfl (off := 0) (by simp) fun wS HS hcS => ?_
        simp only [List.set_cons_succ, List.set_cons_zero] at HS
        replace hrP := hrP.chg hcS (rowOff hrP g6 (by decide))
        replace hsP : ∀ s ∈ PL, OwnI wS s := fun s hs => Row.chg (hsP s hs) hcS (rowOff (hsP s hs) g6 (by decide))
        replace hrN := hrN.chg hcS (rowOff hrN g6 (by decide))
        have g7 := HS.get 0 rfl
        refine HS.stV 0 rfl (off := 0) (by simp) fun wT HT hcT => ?_
        simp only [List.set_cons_succ, List.set_cons_zero] at HT
        replace hrP := hrP.chg hcT (rowOff hrP g7 (by decide))
        replace hsP : ∀ s ∈ PL, OwnI wT s := fun s hs => Row.chg (hsP s hs) hcT (rowOff (hsP s hs) g7 (by decide))
        replace hrN := hrN.chg hcT (rowOff hrN g7 (by decide))
        exact fin _ _ wT _ _ PL _ _ (HT.sub (.cons _ (.cons _ (.refl _)))) (HT.cell 1 rfl rfl) (HT.cell 0 rfl rfl) hPL hrP hsP hrN (HT.lt 1 rfl) (HT.lt 0 rfl)
    · rw [zeroC_sln]
      refine H.newB fun b7 wA HA hbA hcA => ?_
      replace H := HA
      replace hrP := hrP.chg hcA (off_no _)
      replace hsP := fun s hs => Row.chg (hsP s hs) hcA (off_no _)
      refine ⟨H.cells 3 rfl 0, H.cells 3 rfl 0, ?_⟩
      refine ⟨?_, ?_⟩
      · refine RefFlat_ok (NV.mk k u l t ap al ac ats kp kl kc ks) (hx.chg0 H.chg) (by omega) fun pF cF wF hrN hfN hcN => ?_
        replace H := H.step0 hcN
        replace hrP := hrP.chg hcN (off_no _)
        replace hsP := fun s hs => Row.chg (hsP s hs) hcN (off_no _)
        rw [zeroC_sli]
        refine H.newB fun b6 wA HA hbA hcA => ?_
        replace H := HA
        replace hrP := hrP.chg hcA (off_no _)
        replace hsP := fun s hs => Row.chg (hsP s hs) hcA (off_no _)
        replace hrN := hrN.chg hcA (off_no _)
        refine ⟨H.cells 4 rfl 0, H.cells 4 rfl 0, ?_⟩
        have g6 := H.get 0 rfl
        refine H.stV 0 rfl (off := 0) (by simp) fun wS HS hcS => ?_
        simp only [List.set_cons_succ, List.set_cons_zero] at HS
        replace hrP := hrP.chg hcS (rowOff hrP g6 (by decide))
        replace hsP : ∀ s ∈ PL, OwnI wS s := fun s hs => Row.chg (hsP s hs) hcS (rowOff (hsP s hs) g6 (by decide))
        replace hrN := hrN.chg hcS (rowOff hrN g6 (by decide))
        have g7 := HS.get 1 rfl
        refine HS.stV 1 rfl (off := 0) (by simp) fun wT HT hcT => ?_
        simp only [List.set_cons_succ, List.set_cons_zero] at HT
        replace hrP := hrP.chg hcT (rowOff hrP g7 (by decide))
        replace hsP : ∀ s ∈ PL, OwnI wT s := fun s hs => Row.chg (hsP s hs) hcT (rowOff (hsP s hs) g7 (by decide))
        replace hrN := hrN.chg hcT (rowOff hrN g7 (by decide))
        exact fin _ _ wT _ _ PL _ _ (HT.sub (.cons _ (.cons _ (.refl _)))) (HT.cell 0 rfl rfl) (HT.cell 1 rfl rfl) hPL hrP hsP hrN (HT.lt 0 rfl) (HT.lt 1 rfl)
      · rw [zeroC_sli]
        refine H.newB fun b6 wA HA hbA hcA => ?_
        replace H := HA
        replace hrP := hrP.chg hcA (off_no _)
        replace hsP := fun s hs => Row.chg (hsP s hs) hcA (off_no _)
        refine ⟨H.cells 4 rfl 0, H.cells 4 rfl 0, ?_⟩
        refine RefFlat_ok (NV.mk k u l t ap al ac ats kp kl kc ks) (hx.chg0 H.chg) (by omega) fun pF cF wF hrN hfN hcN => ?_
        replace H := H.step0 hcN
        replace hrP := hrP.chg hcN (off_no _)
        replace hsP := fun s hs => Row.chg (hsP s hs) hcN (off_no _)
        have g6 := H.get 0 rfl
        refine H.stV 0 rfl (off := 0) (by simp) fun wS HS hcS => ?_
        simp only [List.set_cons_succ, List.set_cons_zero] at HS
        replace hrP := hrP.chg hcS (rowOff hrP g6 (by decide))
        replace hsP : ∀ s ∈ PL, OwnI wS s := fun s hs => Row.chg (hsP s hs) hcS (rowOff (hsP s hs) g6 (by decide))
        replace hrN := hrN.chg hcS (rowOff hrN g6 (by decide))
        have g7 := HS.get 1 rfl
        refine HS.stV 1 rfl (off := 0) (by simp) fun wT HT hcT => ?_
        simp only [List.set_cons_succ, List.set_cons_zero] at HT
        replace hrP := hrP.chg hcT (rowOff hrP g7 (by decide))
        replace hsP : ∀ s ∈ PL, OwnI wT s := fun s hs => Row.chg (hsP s hs) hcT (rowOff (hsP s hs) g7 (by decide))
        replace hrN := hrN.chg hcT (rowOff hrN g7 (by decide))
        exact fin _ _ wT _ _ PL _ _ (HT.sub (.cons _ (.cons _ (.refl _)))) (HT.cell 0 rfl rfl) (HT.cell 1 rfl rfl) hPL hrP hsP hrN (HT.lt 0 rfl) (HT.lt 1 rfl)
  · rw [zeroC_sli]
    refine H.newB fun b6 wA HA hbA hcA => ?_
    replace H := HA
    refine ⟨H.cells 3 rfl 0, H.cells 3 rfl 0, ?_⟩
    refine ⟨?_, ?_⟩
    · refine RefPaths_ok (NV.mk k u l t ap al ac ats kp kl kc ks) (hx.chg0 H.chg) (by omega) fun pP cP wP PL hPL hrP hfP hsP hcP => ?_
      replace hsP : ∀ s ∈ PL, OwnI wP s := fun s hs => (hsP s hs).1
      replace H := H.step0 hcP
      refine ⟨H.cells 3 rfl 0, ?_⟩
      refine ⟨?_, ?_⟩
      · refine RefFlat_ok (NV.mk k u l t ap al ac ats kp kl kc ks) (hx.chg0 H.chg) (by omega) fun pF cF wF hrN hfN hcN => ?_
        replace H := H.step0 hcN
        replace hrP := hrP.chg hcN (off_no _)
        replace hsP := fun s hs => Row.chg (hsP s hs) hcN (off_no _)
        rw [zeroC_sln]
        refine H.newB fun b7 wA HA hbA hcA => ?_
        replace H := HA
        replace hrP := hrP.chg hcA (off_no _)
        replace hsP := fun s hs => Row.chg (hsP s hs) hcA (off_no _)
        replace hrN := hrN.chg hcA (off_no _)
        refine ⟨H.cells 4 rfl 0, H.cells 4 rfl 0, ?_⟩
        have g6 := H.get 1 rfl
        refine H.stV 1 rfl (off := 0) (by simp) fun wS HS hcS => ?_
        simp only [List.set_cons_succ, List.set_cons_zero] at HS
        replace hrP := hrP.chg hcS (rowOff hrP g6 (by decide))
        replace hsP : ∀ s ∈ PL, OwnI wS s := fun s hs => Row.chg (hsP s hs) hcS (rowOff (hsP s hs) g6 (by decide))
        replace hrN := hrN.chg hcS (rowOff hrN g6 (by decide))
        have g7 := HS.get 0 rfl
        refine HS.stV 0 rfl (off := 0) (by simp) fun wT HT hcT => ?_
        simp only [List.set_cons_succ, List.set_cons_zero] at HT
        replace hrP := hrP.chg hcT (rowOff hrP g7 (by decide))
        replace hsP : ∀ s ∈ PL, OwnI wT s := fun s hs => Row.chg (hsP s hs) hcT (rowOff (hsP s hs) g7 (by decide))
        replace hrN := hrN.chg hcT (rowOff hrN g7 (by decide))
        exact fin _ _ wT _ _ PL _ _ (HT.sub (.cons _ (.cons _ (.refl _)))) (HT.cell 1 rfl rfl) (HT.cell 0 rfl rfl) hPL hrP hsP hrN (HT.lt 1 rfl) (HT.lt 0 rfl)
      · rw [zeroC_sln]
        refine H.newB fun b7 wA HA hbA hcA => ?_
        replace H := HA
        replace hrP := hrP.chg hcA (off_no _)
        replace hsP := fun s hs => Row.chg (hsP s hs) hcA (off_no _)
        refine ⟨H.cells 4 rfl 0, H.cells 4 rfl 0, ?_⟩
        refine RefFlat_ok (NV.mk k u l t ap al ac ats kp kl kc ks) (hx.chg0 H.chg) (by omega) fun pF cF wF hrN hfN hcN => ?_
        replace H := H.step0 hcN
        replace hrP := hrP.chg hcN (off_no _)
        replace hsP := fun s hs => Row.chg (hsP s hs) hcN (off_no _)
        have g6 := H.get 1 rfl
        refine H.stV 1 rfl (off := 0) (by simp) fun wS HS hcS => ?_
        simp only [List.set_cons_succ, List.set_cons_zero] at HS
        replace hrP := hrP.chg hcS (rowOff hrP g6 (by decide))
        replace hsP : ∀ s ∈ PL, OwnI wS s := fun s hs => Row.chg (hsP s hs) hcS (rowOff (hsP s hs) g6 (by decide))
        replace hrN := hrN.chg hcS (rowOff hrN g6 (by decide))
        have g7 := HS.get 0 rfl
        refine HS.stV 0 rfl (off := 0) (by simp) fun wT HT hcT => ?_
        simp only [List.set_cons_succ, List.set_cons_zero] at HT
        replace hrP := hrP.chg hcT (rowOff hrP g7 (by decide))
        replace hsP : ∀ s ∈ PL, OwnI wT s := fun s hs => Row.chg (hsP s hs) hcT (rowOff (hsP s hs) g7 (by decide))
        replace hrN := hrN.chg hcT (rowOff hrN g7 (by decide))
        exact fin _ _ wT _ _ PL _ _ (HT.sub (.cons _ (.cons _ (.refl _)))) (HT.cell 1 rfl rfl) (HT.cell 0 rfl rfl) hPL hrP hsP hrN (HT.lt 1 rfl) (HT.lt 0 rfl)
    · rw [zeroC_sln]
      refine H.newB fun b7 wA HA hbA hcA => ?_
      replace H := HA
      refine ⟨H.cells 4 rfl 0, H.cells 4 rfl 0, ?_⟩
      refine RefPaths_ok (NV.mk k u l t ap al ac ats kp kl kc ks) (hx.chg0 H.chg) (by omega) fun pP cP wP PL hPL hrP hfP hsP hcP => ?_
      replace hsP : ∀ s ∈ PL, OwnI wP s := fun s hs => (hsP s hs).1
      replace H := H.step0 hcP
      refine ⟨H.cells 4 rfl 0, ?_⟩
      refine RefFlat_ok (NV.mk k u l t ap al ac ats kp kl kc ks) (hx.chg0 H.chg) (by omega) fun pF cF wF hrN hfN hcN => ?_
      replace H := H.step0 hcN
      replace hrP := hrP.chg hcN (off_no _)
      replace hsP := fun s hs => Row.chg (hsP s hs) hcN (off_no _)
      have g6 := H.get 1 rfl
      refine H.stV 1 rfl (off := 0) (by simp) fun wS HS hcS => ?_
      simp only [List.set_cons_succ, List.set_cons_zero] at HS
      replace hrP := hrP.chg hcS (rowOff hrP g6 (by decide))
      replace hsP : ∀ s ∈ PL, OwnI wS s := fun s hs => Row.chg (hsP s hs) hcS (rowOff (hsP s hs) g6 (by decide))
      replace hrN := hrN.chg hcS (rowOff hrN g6 (by decide))
      have g7 := HS.get 0 rfl
      refine HS.stV 0 rfl (off := 0) (by simp) fun wT HT hcT => ?_
      simp only [List.set_cons_succ, List.set_cons_zero] at HT
      replace hrP := hrP.chg hcT (rowOff hrP g7 (by decide))
      replace hsP : ∀ s ∈ PL, OwnI wT s := fun s hs => Row.chg (hsP s hs) hcT (rowOff (hsP s hs) g7 (by decide))
      replace hrN := hrN.chg hcT (rowOff hrN g7 (by decide))
      exact fin _ _ wT _ _ PL _ _ (HT.sub (.cons _ (.cons _ (.refl _)))) (HT.cell 1 rfl rfl) (HT.cell 0 rfl rfl) hPL hrP hsP hrN (HT.lt 1 rfl) (HT.lt 0 rfl)
  · rw [zeroC_sln]
    refine H.newB fun b7 wA HA hbA hcA => ?_
    replace H := HA
    refine ⟨H.cells 3 rfl 0, H.cells 3 rfl 0, ?_⟩
    refine ⟨?_, ?_⟩
    · refine RefPaths_ok (NV.mk k u l t ap al ac ats kp kl kc ks) (hx.chg0 H.chg) (by omega) fun pP cP wP PL hPL hrP hfP hsP hcP => ?_
      replace hsP : ∀ s ∈ PL, OwnI wP s := fun s hs => (hsP s hs).1
      replace H := H.step0 hcP
      refine ⟨H.cells 3 rfl 0, ?_⟩
      refine ⟨?_, ?_⟩
      · refine RefFlat_ok (NV.mk k u l t ap al ac ats kp kl kc ks) (hx.chg0 H.chg) (by omega) fun pF cF wF hrN hfN hcN => ?_
        replace H := H.step0 hcN
        replace hrP := hrP.chg hcN (off_no _)
        replace hsP := fun s hs => Row.chg (hsP s hs) hcN (off_no _)
        rw [zeroC_sli]
        refine H.newB fun b6 wA HA hbA hcA => ?_
        replace H := HA
        replace hrP := hrP.chg hcA (off_no _)
        replace hsP := fun s hs => Row.chg (hsP s hs) hcA (off_no _)
        replace hrN := hrN.chg hcA (off_no _)
        refine ⟨H.cells 4 rfl 0, H.cells 4 rfl 0, ?_⟩
        have g6 := H.get 0 rfl
        refine H.stV 0 rfl (off := 0) (by simp) fun wS HS hcS => ?_
        simp only [List.set_cons_succ, List.set_cons_zero] at HS
        replace hrP := hrP.chg hcS (rowOff hrP g6 (by decide))
        replace hsP : ∀ s ∈ PL, OwnI wS s := fun s hs => Row.chg (hsP s hs) hcS (rowOff (hsP s hs) g6 (by decide))
        replace hrN := hrN.chg hcS (rowOff hrN g6 (by decide))
        have g7 := HS.get 1 rfl
        refine HS.stV 1 rfl (off := 0) (by simp) fun wT HT hcT => ?_
        simp only [List.set_cons_succ, List.set_cons_zero] at HT
        replace hrP := hrP.chg hcT (rowOff hrP g7 (by decide))
        replace hsP : ∀ s ∈ PL, OwnI wT s := fun s hs => Row.chg (hsP s hs) hcT (rowOff (hsP s hs) g7 (by decide))
        replace hrN := hrN.chg hcT (rowOff hrN g7 (by decide))
        exact fin _ _ wT _ _ PL _ _ (HT.sub (.cons _ (.cons _ (.refl _)))) (HT.cell 0 rfl rfl) (HT.cell 1 rfl rfl) hPL hrP hsP hrN (HT.lt 0 rfl) (HT.lt 1 rfl)
      · rw [zeroC_sli]
        refine H.newB fun b6 wA HA hbA hcA => ?_
        replace H := HA
        replace hrP := hrP.chg hcA (off_no _)
        replace hsP := fun s hs => Row.chg (hsP s hs) hcA (off_no _)
        refine ⟨H.cells 4 rfl 0, H.cells 4 rfl 0, ?_⟩
        refine RefFlat_ok (NV.mk k u l t ap al ac ats kp kl kc ks) (hx.chg0 H.chg) (by omega) fun pF cF wF hrN hfN hcN => ?_
        replace H := H.step0 hcN
        replace hrP := hrP.chg hcN (off_no _)
        replace hsP := fun s hs => Row.chg (hsP s hs) hcN (off_no _)
        have g6 := H.get 0 rfl
        refine H.stV 0 rfl (off := 0) (by simp) fun wS HS hcS => ?_
        simp only [List.set_cons_succ, List.set_cons_zero] at HS
        replace hrP := hrP.chg hcS (rowOff hrP g6 (by decide))
        replace hsP : ∀ s ∈ PL, OwnI wS s := fun s hs => Row.chg (hsP s hs) hcS (rowOff (hsP s hs) g6 (by decide))
        replace hrN := hrN.chg hcS (rowOff hrN g6 (by decide))
        have g7 := HS.get 1 rfl
        refine HS.stV 1 rfl (off := 0) (by simp) fun wT HT hcT => ?_
        simp only [List.set_cons_succ, List.set_cons_zero] at HT
        replace hrP := hrP.chg hcT (rowOff hrP g7 (by decide))
        replace hsP : ∀ s ∈ PL, OwnI wT s := fun s hs => Row.chg (hsP s hs) hcT (rowOff (hsP s hs) g7 (by decide))
        replace hrN := hrN.chg hcT (rowOff hrN g7 (by decide))
        exact fin _ _ wT _ _ PL _ _ (HT.sub (.cons _ (.cons _ (.refl _)))) (HT.cell 0 rfl rfl) (HT.cell 1 rfl rfl) hPL hrP hsP hrN (HT.lt 0 rfl) (HT.lt 1 rfl)
    · rw [zeroC_sli]
      refine H.newB fun b6 wA HA hbA hcA => ?_
      replace H := HA
      refine ⟨H.cells 4 rfl 0, H.cells 4 rfl 0, ?_⟩
      refine RefPaths_ok (NV.mk k u l t ap al ac ats kp kl kc ks) (hx.chg0 H.chg) (by omega) fun pP cP wP PL hPL hrP hfP hsP hcP => ?_
      replace hsP : ∀ s ∈ PL, OwnI wP s := fun s hs => (hsP s hs).1
      replace H := H.step0 hcP
      refine ⟨H.cells 4 rfl 0, ?_⟩
      refine RefFlat_ok (NV.mk k u l t ap al ac ats kp kl kc ks) (hx.chg0 H.chg) (by omega) fun pF cF wF hrN hfN hcN => ?_
      replace H := H.step0 hcN
      replace hrP := hrP.chg hcN (off_no _)
      replace hsP := fun s hs => Row.chg (hsP s hs) hcN (off_no _)
      have g6 := H.get 0 rfl
      refine H.stV 0 rfl (off := 0) (by simp) fun wS HS hcS => ?_
      simp only [List.set_cons_succ, List.set_cons_zero] at HS
      replace hrP := hrP.chg hcS (rowOff hrP g6 (by decide))
      replace hsP : ∀ s ∈ PL, OwnI wS s := fun s hs => Row.chg (hsP s hs) hcS (rowOff (hsP s hs) g6 (by decide))
      replace hrN := hrN.chg hcS (rowOff hrN g6 (by decide))
      have g7 := HS.get 1 rfl
      refine HS.stV 1 rfl (off := 0) (by simp) fun wT HT hcT => ?_
      simp only [List.set_cons_succ, List.set_cons_zero] at HT
      replace hrP := hrP.chg hcT (rowOff hrP g7 (by decide))
      replace hsP : ∀ s ∈ PL, OwnI wT s := fun s hs => Row.chg (hsP s hs) hcT (rowOff (hsP s hs) g7 (by decide))
      replace hrN := hrN.chg hcT (rowOff hrN g7 (by decide))
      exact fin _ _ wT _ _ PL _ _ (HT.sub (.cons _ (.cons _ (.refl _)))) (HT.cell 0 rfl rfl) (HT.cell 1 rfl rfl) hPL hrP hsP hrN (HT.lt 0 rfl) (HT.lt 1 rfl)
theorem rd_int {w : World} : Rd Tryz.prog w T_int (fun n : Int => [.int .i64 n]) InI := Rd.i64 (by kernel_rfl)
end
end Go.Proofs.YtmmfookfpdcohaaGreatDoor

