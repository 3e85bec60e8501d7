/-
  What Check asks of texts: strings.Contains, HasSuffix, TrimLeft, EqualFold.
-/
import Derived.Test.YtmmfookfpdcohaaDoorTreeC
import Derived.Test.YtmmfookfpdcohaaDoorVLib
import Derived.Test.YtmmfookfpdcohaaDoorChrE
import Derived.Shelf.Strings.Search3
import Derived.Shelf.Strings.SlTrimAscii
import Derived.Test.YtmmfookfpdcohaaDoorSortW
set_option linter.unusedVariables false
set_option linter.unusedSimpArgs false
namespace Go.Proofs
open Go.Shelf
def Tryd.lays144_ren : Go.Shelf.Ren := ⟨fun | 144 => 50 | 143 => 62 | 219 => 85 | 217 => 95 | 225 => 96 | 224 => 97 | 267 => 98 | 266 => 102 | 314 => 103 | n => n, fun | 9 => 9 | 4 => 4 | 3 => 3 | 5 => 5 | 46 => 69 | 146 => 136 | 51 => 94 | n => n, fun | 1 => 5 | n => n⟩
theorem Tryd.lays144 : Go.Proofs.Lays.n144 Tryd.prog Tryd.lays144_ren where
  mixed := by kernel_rfl
  f143 := by kernel_rfl
  f144 := by kernel_rfl
  f217 := by kernel_rfl
  f219 := by kernel_rfl
  f224 := by kernel_rfl
  f225 := by kernel_rfl
  f266 := by kernel_rfl
  f267 := by kernel_rfl
  f314 := by kernel_rfl
  t3 := by kernel_rfl
  a3 := fun w => by kernel_rfl
  z3 := fun w => by kernel_rfl
  v3 := fun w => by kernel_rfl
  t4 := by kernel_rfl
  a4 := fun w => by kernel_rfl
  z4 := fun w => by kernel_rfl
  v4 := fun w => by kernel_rfl
  t5 := by kernel_rfl
  a5 := fun w => by kernel_rfl
  z5 := fun w => by kernel_rfl
  v5 := fun w => by kernel_rfl
  t9 := by kernel_rfl
  a9 := fun w => by kernel_rfl
  z9 := fun w => by kernel_rfl
  v9 := fun w => by kernel_rfl
  t46 := by kernel_rfl
  a46 := fun w => by kernel_rfl
  z46 := fun w => by kernel_rfl
  v46 := fun w => by kernel_rfl
  t51 := by kernel_rfl
  a51 := fun w => by kernel_rfl
  z51 := fun w => by kernel_rfl
  v51 := fun w => by kernel_rfl
  t146 := by kernel_rfl
  a146 := fun w => by kernel_rfl
  z146 := fun w => by kernel_rfl
  v146 := fun w => by kernel_rfl
  g1 := by kernel_rfl
def Tryd.lays161_ren : Go.Shelf.Ren := ⟨fun | 161 => 52 | 231 => 64 | 227 => 65 | 233 => 66 | 235 => 67 | 228 => 86 | 197 => 59 | 151 => 87 | 260 => 81 | 152 => 99 | 137 => 104 | 119 => 105 | 224 => 97 | 225 => 96 | 217 => 95 | 266 => 102 | n => n, fun | 9 => 9 | 4 => 4 | 3 => 3 | 5 => 5 | 117 => 81 | 116 => 80 | 0 => 0 | 124 => 84 | 105 => 72 | 21 => 21 | 119 => 98 | 46 => 69 | 139 => 101 | 138 => 100 | n => n, fun | 3 => 0 | 4 => 1 | n => n⟩
theorem Tryd.lays161 : Go.Proofs.Lays.n161 Tryd.prog Tryd.lays161_ren where
  mixed := by kernel_rfl
  f119 := by kernel_rfl
  f137 := by kernel_rfl
  f151 := by kernel_rfl
  f152 := by kernel_rfl
  f161 := by kernel_rfl
  f197 := by kernel_rfl
  f217 := by kernel_rfl
  f224 := by kernel_rfl
  f225 := by kernel_rfl
  f227 := by kernel_rfl
  f228 := by kernel_rfl
  f231 := by kernel_rfl
  f233 := by kernel_rfl
  f235 := by kernel_rfl
  f260 := by kernel_rfl
  f266 := by kernel_rfl
  t0 := by kernel_rfl
  a0 := fun w => by kernel_rfl
  z0 := fun w => by kernel_rfl
  v0 := fun w => by kernel_rfl
  t3 := by kernel_rfl
  a3 := fun w => by kernel_rfl
  z3 := fun w => by kernel_rfl
  v3 := fun w => by kernel_rfl
  t4 := by kernel_rfl
  a4 := fun w => by kernel_rfl
  z4 := fun w => by kernel_rfl
  v4 := fun w => by kernel_rfl
  t5 := by kernel_rfl
  a5 := fun w => by kernel_rfl
  z5 := fun w => by kernel_rfl
  v5 := fun w => by kernel_rfl
  t9 := by kernel_rfl
  a9 := fun w => by kernel_rfl
  z9 := fun w => by kernel_rfl
  v9 := fun w => by kernel_rfl
  t21 := by kernel_rfl
  a21 := fun w => by kernel_rfl
  z21 := fun w => by kernel_rfl
  v21 := fun w => by kernel_rfl
  t46 := by kernel_rfl
  a46 := fun w => by kernel_rfl
  z46 := fun w => by kernel_rfl
  v46 := fun w => by kernel_rfl
  t105 := by kernel_rfl
  a105 := fun w => by kernel_rfl
  z105 := fun w => by kernel_rfl
  v105 := fun w => by kernel_rfl
  t116 := by kernel_rfl
  a116 := fun w => by kernel_rfl
  z116 := fun w => by kernel_rfl
  t117 := by kernel_rfl
  a117 := fun w => by kernel_rfl
  z117 := fun w => by kernel_rfl
  v117 := fun w => by kernel_rfl
  t119 := by kernel_rfl
  a119 := fun w => by kernel_rfl
  z119 := fun w => by kernel_rfl
  t124 := by kernel_rfl
  a124 := fun w => by kernel_rfl
  z124 := fun w => by kernel_rfl
  v124 := fun w => by kernel_rfl
  t138 := by kernel_rfl
  a138 := fun w => by kernel_rfl
  z138 := fun w => by kernel_rfl
  v138 := fun w => by kernel_rfl
  t139 := by kernel_rfl
  a139 := fun w => by kernel_rfl
  z139 := fun w => by kernel_rfl
  v139 := fun w => by kernel_rfl
  g3 := by kernel_rfl
  g4 := by kernel_rfl
end Go.Proofs
namespace Go.Vc
open Go Go.Lib
theorem index_has (w : List UInt8) : ∀ l : List UInt8, (0 ≤ Lib.index l w ↔ hasS w l = true)
  | [] => by
    unfold Lib.index hasS
    cases w with
    | nil => simp
    | cons a w => simp [List.isPrefixOf]
  | b :: l => by
    have ih := index_has w l
    unfold Lib.index hasS
    cases h : w.isPrefixOf (b :: l) with
    | true => simp
    | false =>
      simp only [Bool.false_eq_true, if_false, Bool.false_or]
      rw [← ih]
      split
      · rename_i h1
        have : Lib.index l w = -1 := by simpa using h1
        omega
      · rename_i h1
        have : Lib.index l w ≠ -1 := by simpa using h1
        constructor
        · intro h2
          have := Lib.index_ge l w
          omega
        · intro h2; omega
theorem contains_has (l w : List UInt8) : Lib.contains l w = hasS w l := by
  unfold Lib.contains
  rw [Bool.eq_iff_iff, decide_eq_true_eq, index_has]
theorem suffix_last (l : List UInt8) (b : UInt8) : Lib.hasSuffix l [b] = decide (l.getLast? = some b) := by
  unfold Lib.hasSuffix
  rw [Bool.eq_iff_iff, decide_eq_true_eq, List.isSuffixOf_iff_suffix, List.getLast?_eq_some_iff]
  constructor
  · rintro ⟨t, rfl⟩; exact ⟨t, rfl⟩
  · rintro ⟨t, rfl⟩; exact ⟨t, rfl⟩
theorem trim_same (l : List UInt8) : decide (l = Lib.trimLeftS l [32, 9, 10]) = decide (l.head? ≠ some 32 ∧ l.head? ≠ some 9 ∧ l.head? ≠ some 10) := by
  unfold Lib.trimLeftS
  rw [decide_eq_decide]
  cases l with
  | nil => simp
  | cons b l =>
    rw [List.dropWhile_cons]
    simp only [List.head?_cons, ne_eq, Option.some.injEq]
    constructor
    · intro h
      split at h
      · have h1 := congrArg List.length h
        have h2 := (List.dropWhile_suffix (l := l) (fun x => [32, 9, 10].contains x)).length_le
        simp only [List.length_cons] at h1
        omega
      · rename_i hc
        simp at hc
        exact ⟨hc.1, hc.2.1, hc.2.2⟩
    · intro h
      rw [if_neg (by simp; exact h)]
theorem low_case : ∀ (a : Fin 256), a.val < 128 → ∀ x ∈ [(120 : UInt8), 109, 108],
    (((UInt8.ofNat a.val) = x) ∨ ((if x.toNat < a.val then x.toNat else a.val) ≥ 65 ∧ (if x.toNat < a.val then x.toNat else a.val) ≤ 90 ∧ (if x.toNat < a.val then a.val else x.toNat) = (if x.toNat < a.val then x.toNat else a.val) + 32)) ↔ low3 (UInt8.ofNat a.val) = x := by decide +kernel
theorem or_big : ∀ (a : Fin 256), ∀ x ∈ [(120 : Int), 109, 108], bOr .u8 ((a.val : Nat) : Int) x ≥ 128 ↔ 128 ≤ a.val := by decide +kernel
theorem low3_big {a : UInt8} (h : 128 ≤ a.toNat) : low3 a = a := by unfold low3; rw [if_neg (by omega)]
end Go.Vc
namespace Go.Proofs.YtmmfookfpdcohaaDoor
open Go Go.Vc Go.Lib
/-- What the library's tables are asked for. -/
def FoldTab (w : World) : Prop := ∀ p ∈ [(120, (88 : Int)), (88, 120), (109, 77), (77, 109), (108, 76), (76, 108)], w.cell? ⟨2, p.1, none⟩ = some (.int .u16 p.2)
structure TT (w : World) : Prop where
  tabs : Tabs w
  fold : FoldTab w
  maxl : ∃ m : Int, w.cell? ⟨5, 0, none⟩ = some (.int .i64 m)
theorem TT.chg {w w' : World} (h : TT w) (hc : Chg No w w') : TT w' :=
  ⟨h.tabs.chg hc, fun p hp => hc.cell (h.fold p hp) (fun f => f), by obtain ⟨m, hm⟩ := h.maxl; exact ⟨m, hc.cell hm (fun f => f)⟩⟩
section
variable {w : World}
theorem Contains_ok {s t : ByteArray} {J : Bool → World → Prop} (T : TT w) (hs : s.size ≤ 100000000) (K : J (hasS (bl t) (bl s)) w) : callJ Tryd.prog fn_strings_Contains #[.string s, .string t] w [.one .bool] J := by
  obtain ⟨m, hm⟩ := T.maxl
  refine Calls.mono (Any.strings_Contains Tryd.lays144 s t m w (by omega) hm) fun e w' he => ?_
  obtain ⟨rfl, rfl⟩ := he
  rw [contains_has]
  exact ⟨_, rfl, K⟩
theorem HasSuffix_ok {s : ByteArray} {b : UInt8} {J : Bool → World → Prop} (hs : s.size ≤ 100000000) (K : J (decide ((bl s).getLast? = some b)) w) : callJ Tryd.prog fn_strings_HasSuffix #[.string s, .string ⟨#[b]⟩] w [.one .bool] J := by
  refine c_strings_HasSuffix ?_
  unfold VC_strings_HasSuffix
  refine c_internal_stringslite_HasSuffix ?_
  unfold VC_internal_stringslite_HasSuffix
  have hsl := bl_len s
  simp only [withJ]
  refine condB_d (fun h1 => ?_) (fun h1 => ?_)
  · have e1 : (⟨#[b]⟩ : ByteArray).size = 1 := rfl
    rw [e1] at h1 ⊢
    have e2 : w64 ((s.size : Int) - ((1 : Nat) : Int)) = ((s.size - 1 : Nat) : Int) := by rw [w64_of] <;> omega
    rw [e2]
    refine slStr_drop (by omega) fun t ht _ => ?_
    rw [beqS]
    have : decide (t = (⟨#[b]⟩ : ByteArray)) = decide ((bl s).getLast? = some b) := by
      rw [decide_eq_decide]
      have hne : bl s ≠ [] := by intro e; rw [e] at hsl; simp at hsl; omega
      have hd : (bl s).drop (s.size - 1) = [(bl s).getLast hne] := by
        have hdl : (bl s).dropLast ++ [(bl s).getLast hne] = bl s := List.dropLast_concat_getLast hne
        conv => lhs; rw [← hdl]
        exact List.drop_left' (by rw [List.length_dropLast, hsl])
      rw [List.getLast?_eq_some_getLast hne, Option.some.injEq]
      constructor
      · intro h
        rw [h, hd] at ht
        have : [b] = [(bl s).getLast hne] := ht
        simpa using this.symm
      · intro h
        apply bl_ext
        rw [ht, hd, h]
    rw [this]; exact K
  · have h0 : bl s = [] := List.eq_nil_of_length_eq_zero (by have : (⟨#[b]⟩ : ByteArray).size = 1 := rfl; omega)
    rw [h0] at K
    simpa using K
theorem TrimLeft_ok {s : ByteArray} {J : ByteArray → World → Prop} (K : ∀ w', Chg No w w' → J (mkB (Lib.trimLeftS (bl s) [32, 9, 10])) w') : callJ Tryd.prog fn_strings_TrimLeft #[.string s, .string ⟨#[32, 9, 10]⟩] w [.one .str] J := by
  refine Calls.mono (Any.strings_TrimLeft_laid Tryd.lays161 (by kernel_rfl) s ⟨#[32, 9, 10]⟩ w (by decide) (fun j b hb => ?_)) fun e w' he => ?_
  · match j with
    | 0 | 1 | 2 => simp at hb; subst hb; decide
    | j + 3 => simp at hb
  · obtain ⟨rfl, hb⟩ := he
    exact ⟨_, rfl, K w' (Chg.of_below hb)⟩
end
end Go.Proofs.YtmmfookfpdcohaaDoor

/-
  strings.EqualFold of a text and "xml"; names, chars and order of a node.
-/

set_option linter.unusedVariables false
set_option linter.unusedSimpArgs false
namespace Go.Vc
open Go Go.Lib
def xmlB : List UInt8 := [120, 109, 108]
theorem xml_mem {i : Nat} {x : UInt8} (h : xmlB[i]? = some x) : x ∈ [(120 : UInt8), 109, 108] := List.mem_of_getElem? h
theorem isXml_take {l : List UInt8} {i : Nat} {a x : UInt8} (ha : l[i]? = some a) (hx : xmlB[i]? = some x) (hne : low3 a ≠ x) : isXml l = false := by
  unfold isXml
  rw [decide_eq_false_iff_not]
  intro h
  have : (l.map low3)[i]? = some (low3 a) := by rw [List.getElem?_map, ha]; rfl
  rw [h] at this
  have h2 : ([120, 109, 108] : List UInt8)[i]? = some x := hx
  rw [h2] at this
  exact hne (Option.some.inj this).symm
theorem take_get {α : Type} {l : List α} {k : Nat} {c : α} (h : l[k]? = some c) : l.take (k + 1) = l.take k ++ [c] := by
  obtain ⟨h1, h2⟩ := List.getElem?_eq_some_iff.1 h
  rw [List.take_succ_eq_append_getElem h1, h2]
theorem dec_big {l : List UInt8} {a : UInt8} (h : l[0]? = some a) (ha : 128 ≤ a.toNat) : 128 ≤ (dec l).1 := by
  have hg := gB_of h
  rw [dec_rd]
  split
  · decide
  · rename_i h0
    rcases rd_facts l with ⟨q, _⟩ | ⟨q, q2⟩ | q | q | q
    · exact absurd q h0
    · omega
    · exact q.2.2.2.2.2.1
    · omega
    · omega
theorem small_case : ∀ x ∈ [(120 : UInt8), 109, 108], x.toNat < 128 ∧ 91 ≤ x.toNat := by decide
end Go.Vc
namespace Go.Proofs.YtmmfookfpdcohaaDoor
open Go Go.Vc Go.Lib
section
variable {w : World}
theorem Fold_ok {r : Nat} {v : Int} {J : Int → World → Prop} (hr : r < 128) (hc : w.cell? ⟨2, r, none⟩ = some (.int .u16 v)) (hv : 0 ≤ v ∧ v < 128) (K : J v w) : callJ Tryd.prog fn_unicode_SimpleFold #[.int .i32 (r : Int)] w [.one (.int .i32)] J := by
  refine c_unicode_SimpleFold ?_
  unfold VC_unicode_SimpleFold
  generalize hQ : (1114111 : Int) = Q
  refine withJ_i fun J13 hJ13 => ?_
  have k : ∀ b, b = false → J13 b w := by
    intro b hb; subst hJ13; subst hb
    have e64 : w64 (r : Int) = (r : Int) := w64_of (by omega) (by omega)
    have e128 : decide ((r : Int) < 128) = true := decide_eq_true (by omega)
    simp only [e64, e128, condB]
    refine ⟨by omega, by omega, ?_⟩
    simp only [nonNil, Addr.add_mk, Int.toNat_natCast, Nat.mul_one, Nat.zero_add]
    refine ldI_i hc ?_
    rw [wrap_i32 _ (by omega) (by omega)]
    exact K
  clear hJ13
  refine condB_d (fun h => by omega) (fun _ => ?_)
  exact k _ (decide_eq_false (by omega))
set_option maxRecDepth 100000 in
theorem EqFold_ok {s : ByteArray} {J : Bool → World → Prop} (F : FoldTab w) (hs : s.size ≤ 140737488355328) (K : ∀ w', Chg No w w' → J (isXml (bl s)) w') : callJ Tryd.prog fn_strings_EqualFold #[.string s, .string ⟨#[120, 109, 108]⟩] w [.one .bool] J := by
  refine c_strings_EqualFold ?_
  unfold VC_strings_EqualFold
  have hsl := bl_len s
  have ht3 : (⟨#[120, 109, 108]⟩ : ByteArray).size = 3 := rfl
  have htb : bl ⟨#[120, 109, 108]⟩ = xmlB := rfl
  rw [ht3]
  refine ⟨fun i w' t => ∃ k : Nat, i = k ∧ k ≤ s.size ∧ k ≤ 3 ∧ t = 3 - k ∧ w' = w ∧ ((bl s).take k).map low3 = xmlB.take k, ⟨_, 0, rfl, Nat.zero_le _, Nat.zero_le _, rfl, rfl, rfl⟩, ?_⟩
  rintro i w1 t ⟨k, rfl, hk, hk3, rfl, rfl, hpre⟩
  refine condB_d (fun hlt => ?_) (fun hge => ?_)
  · have hks : k < s.size := by split at hlt <;> omega
    have hk3' : k < 3 := by split at hlt <;> omega
    have ha := List.getElem?_eq_getElem (l := bl s) (i := k) (by omega)
    generalize (bl s)[k]'(by omega) = a at ha
    have hx := List.getElem?_eq_getElem (l := xmlB) (i := k) (by show k < 3; exact hk3')
    generalize xmlB[k]'(by show k < 3; exact hk3') = x at hx
    have hxm := xml_mem hx
    have hxs := small_case x hxm
    have hal := a.toNat_lt
    refine withJ_i fun J0 hJ0 => ?_
    have k0 : low3 a = x → J0 w1 := by
      intro he; subst hJ0
      refine ⟨_, by omega, k + 1, by rw [w64_of] <;> omega, by omega, by omega, rfl, rfl, ?_⟩
      rw [take_get ha, take_get hx, List.map_append, hpre, List.map_cons, he]; rfl
    clear hJ0
    refine idxStr_b (by omega) (by omega) fun a2 ha2 => ?_
    rw [Int.toNat_natCast, ha] at ha2
    obtain rfl := Option.some.inj ha2
    refine idxStr_b (by omega) (by rw [ht3]; omega) fun x2 hx2 => ?_
    rw [Int.toNat_natCast, htb, hx] at hx2
    obtain rfl := Option.some.inj hx2
    have hor : bOr .u8 ((a.toNat : Nat) : Int) ((x.toNat : Nat) : Int) ≥ 128 ↔ 128 ≤ a.toNat := or_big ⟨a.toNat, hal⟩ ((x.toNat : Nat) : Int) (by
      have : ∀ x ∈ [(120 : UInt8), 109, 108], ((x.toNat : Nat) : Int) ∈ [(120 : Int), 109, 108] := by decide
      exact this x hxm)
    have hof : UInt8.ofNat a.toNat = a := by simp
    refine condB_d (fun hbig => ?_) (fun hsmall => ?_)
    · have h128 := hor.1 hbig
      have hfalse : isXml (bl s) = false := isXml_take ha hx (by
        rw [low3_big h128]; intro e; subst e; omega)
      rw [hfalse] at K
      refine slStr_drop (by omega) fun s62 h62 hz62 => ?_
      refine slStr_drop (by rw [ht3]; omega) fun s65 h65 hz65 => ?_
      refine newB_i fun b67 w3 hb67 hw3 => ?_
      have hc3 : Chg No w1 w3 := by rw [hw3]; exact chg_alloc _ _
      have hh3 : w3.heap[b67]? = some (.stringIter s62 0) := by rw [hb67, hw3]; exact heap_alloc_new w1 _
      refine ⟨fun t w' m => t = s65 ∧ w' = w3, ⟨0, rfl, rfl⟩, ?_⟩
      rintro t1 w4 m1 ⟨rfl, rfl⟩
      refine ⟨s62, 0, hh3, fun hlt2 => ?_, fun hge2 => by omega⟩
      generalize hw5 : setBlk w4 b67 _ = w5
      have hc5 : Chg No w1 w5 := by rw [← hw5]; exact hc3.setBlk _ _ (fun h => by rw [hb67] at h; omega)
      have hdec : (Utf8.decode s62 0).1 = ((dec (bl s62)).1 : Int) ∧ 128 ≤ (dec (bl s62)).1 := by
        refine ⟨by rw [decode_dec, List.drop_zero], dec_big (a := a) ?_ h128⟩
        rw [h62, List.getElem?_drop]; exact ha
      rw [hdec.1]
      generalize hch : (dec (bl s62)).1 = ch at hdec ⊢
      have hch2 := hdec.2
      have hz : t1.size = 3 - k := by rw [hz65, ht3]
      refine condB_eq (fun h => by omega) (fun _ => ?_)
      have ht0 : (bl t1)[0]? = some x := by
        rw [h65, List.getElem?_drop, htb, Nat.add_zero]; exact hx
      refine c_unicode_utf8_DecodeRuneInString ?_
      unfold VC_unicode_utf8_DecodeRuneInString
      refine withJ_i fun J10 hJ10 => ?_
      have k10 : J10 true w5 := by
        subst hJ10
        refine condB_i (fun _ => ?_) (fun h => by cases h)
        refine idxStr_b (by decide) (by omega) fun y hy => ?_
        rw [show (0 : Int).toNat = 0 from rfl, ht0] at hy
        obtain rfl := Option.some.inj hy
        rw [wrap_i32 _ (by omega) (by omega)]
        refine slStr_drop (i := 1) (by omega) fun s81 h81 hz81 => ?_
        refine condB_eq (fun h => by omega) (fun _ => ?_)
        refine withJ_i fun J10 hJ10 => ?_
        have kk : J10 ((x.toNat : Nat) : Int) (ch : Int) w5 := by
          subst hJ10
          refine condB_d (fun h => by omega) (fun _ => ?_)
          have hF : ∃ y : Nat, y < 128 ∧ y ≠ x.toNat ∧ w5.cell? ⟨2, x.toNat, none⟩ = some (.int .u16 (y : Int)) ∧ w5.cell? ⟨2, y, none⟩ = some (.int .u16 (x.toNat : Int)) := by
            have g : ∀ p ∈ [(120, (88 : Int)), (88, 120), (109, 77), (77, 109), (108, 76), (76, 108)], w5.cell? ⟨2, p.1, none⟩ = some (.int .u16 p.2) := fun p hp => hc5.cell (F p hp) (fun f => f)
            simp only [List.mem_cons, List.not_mem_nil, or_false] at hxm
            rcases hxm with rfl | rfl | rfl
            · exact ⟨88, by decide, by decide, g (120, 88) (by simp), g (88, 120) (by simp)⟩
            · exact ⟨77, by decide, by decide, g (109, 77) (by simp), g (77, 109) (by simp)⟩
            · exact ⟨76, by decide, by decide, g (108, 76) (by simp), g (76, 108) (by simp)⟩
          obtain ⟨y, hy1, hy2, hy3, hy4⟩ := hF
          refine Fold_ok (r := x.toNat) hxs.1 hy3 (by omega) ?_
          refine ⟨fun r w' m => w' = w5 ∧ ((r = (y : Int) ∧ m = 1) ∨ (r = (x.toNat : Int) ∧ m = 0)), ⟨1, rfl, .inl ⟨rfl, rfl⟩⟩, ?_⟩
          rintro r w6 m2 ⟨rfl, hr⟩
          refine withJ_i fun J114 hJ114 => ?_
          rcases hr with ⟨rfl, rfl⟩ | ⟨rfl, rfl⟩
          · have : J114 true w6 := by
              subst hJ114
              refine condB_i (fun _ => ?_) (fun h => by cases h)
              exact Fold_ok (r := y) hy1 hy4 (by omega) ⟨0, by decide, rfl, .inr ⟨rfl, rfl⟩⟩
            clear hJ114
            refine condB_ne (fun _ => ?_) (fun h => by omega)
            rw [decide_eq_true (by omega)]; exact this
          · have : J114 false w6 := by
              subst hJ114
              refine condB_i (fun h => by cases h) (fun _ => ?_)
              refine condB_eq (fun h => by omega) (fun _ => ?_)
              exact K w6 hc5
            clear hJ114
            exact condB_ne (fun h => absurd rfl h) (fun _ => this)
        clear hJ10
        exact condB_d (fun _ => kk) (fun h => by omega)
      clear hJ10
      rw [beqS]
      have hne : ¬ t1 = ⟨#[]⟩ := by
        intro e
        have : t1.size = 0 := by rw [e]; rfl
        omega
      rw [decide_eq_false hne]
      refine condB_i (fun _ => ?_) (fun h => by cases h)
      refine idxStr_b (by decide) (by omega) fun y hy => ?_
      rw [show (0 : Int).toNat = 0 from rfl, ht0] at hy
      obtain rfl := Option.some.inj hy
      rw [decide_eq_true (by omega)]
      exact k10
    · have h128 : a.toNat < 128 := by
        rcases Nat.lt_or_ge a.toNat 128 with h | h
        · exact h
        · exact absurd (hor.2 h) hsmall
      have hcase := low_case ⟨a.toNat, hal⟩ h128 x hxm
      simp only [hof] at hcase
      have kbad : low3 a ≠ x → J false w1 := fun hne => by
        have := isXml_take ha hx hne
        rw [this] at K; exact K w1 (Chg.refl _ _)
      refine condB_eq (fun he => ?_) (fun hne => ?_)
      · have : a = x := UInt8.toNat_inj.1 (by omega)
        exact k0 (hcase.1 (.inl this))
      · have hne' : a ≠ x := fun e => hne (by rw [e])
        refine withJ_i fun J7 hJ7 => ?_
        have k7 : ∀ sr tr : Nat, sr < 128 → tr < 128 → ((sr ≥ 65 ∧ sr ≤ 90 ∧ tr = sr + 32) ↔ low3 a = x) → J7 (sr : Int) (tr : Int) w1 := by
          intro sr tr h1 h2 hiff; subst hJ7
          have e : IntKind.u8.wrap ((IntKind.u8.wrap ((sr : Int) + 97)) - 65) = ((sr + 32 : Nat) : Int) := by
            have e1 : IntKind.u8.wrap ((sr : Int) + 97) = ((sr + 97 : Nat) : Int) := by simp [IntKind.wrap, IntKind.bits, IntKind.signed] <;> omega
            rw [e1]; simp [IntKind.wrap, IntKind.bits, IntKind.signed] <;> omega
          refine withJ_i fun J54 hJ54 => ?_
          have k54 : ∀ b : Bool, (b = true ↔ low3 a = x) → J54 b w1 := by
            intro b hb; subst hJ54
            exact meetI hb (fun h => k0 h) (fun h => kbad h)
          clear hJ54
          refine condB_d (fun g1 => ?_) (fun g1 => k54 _ (bF (by rw [← hiff]; omega)))
          refine condB_d (fun g2 => ?_) (fun g2 => k54 _ (bF (by rw [← hiff]; omega)))
          rw [e]
          exact k54 _ (bQ (by rw [← hiff]; omega))
        clear hJ7
        refine condB_d (fun h => ?_) (fun h => ?_)
        · refine k7 _ _ hxs.1 h128 ?_
          rw [← hcase, if_pos (by omega), if_pos (by omega)]
          exact ⟨fun h => .inr h, fun h => h.resolve_left hne'⟩
        · refine k7 _ _ h128 hxs.1 ?_
          rw [← hcase, if_neg (by omega), if_neg (by omega)]
          exact ⟨fun h => .inr h, fun h => h.resolve_left hne'⟩
  · have := K w1 (Chg.refl _ _)
    have hx : isXml (bl s) = ((s.size : Int) == ((3 : Nat) : Int)) := by
      unfold isXml
      by_cases h3 : s.size = 3
      · have hk : k = 3 := by rw [h3] at hge; simp at hge; omega
        subst hk
        rw [List.take_of_length_le (by omega), List.take_of_length_le (by decide)] at hpre
        rw [decide_eq_true (show (bl s).map low3 = [120, 109, 108] from hpre), h3]; rfl
      · rw [decide_eq_false (fun h => h3 (by have := congrArg List.length h; rw [List.length_map, hsl] at this; exact this)), beq_eq_false_iff_ne.2 (by omega)]
    rw [hx] at this
    exact this
end
end Go.Proofs.YtmmfookfpdcohaaDoor

