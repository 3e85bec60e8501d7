/- What the statement needs, part 0. -/
import Derived.Lib.DecodeNEq
import Derived.Lib.Strings
import Derived.WalkKit
import Derived.OrdersHeld
import Derived.Laws.StructEq
import Derived.ChangeKeysEq
import Derived.ScopeJumps
import Derived.Test.YtlnfaaghdkngmaaGreatDoorProg
import Derived.KernelRfl
import Derived.Lib.SlBytesConst
import Derived.Lib.ValidAsc
import Derived.Lib.EndianBits
import Derived.Laws.BitsAllLaws
import Derived.Shelf.Unicode.DecodeSlow
import Derived.Lib.ConvBytes
import Derived.Lib.Bytealg
import Derived.Laws.Externs
import Derived.Shelf.Strings.Search3
import Derived.Shelf.Strings.SlTrimAscii
import Derived.ChangeArms
import Derived.OpenShut
import Derived.SizedLaws
import Derived.Test.YtlnfaaghdkngmaaGreatDoorRows
import Derived.Lib.LaidU8T
import Derived.MakeChecks
import GoSem.PinnedTables
import Derived.Shelf.Vars
import Derived.Lib.Overlaps
import Derived.Lib.AppendZerosOnto
import Derived.Shelf.SlLaysF0
import Derived.Shelf.SlSortCmp.WholeK
import Derived.Defers
import Derived.Tactics
import Derived.Tactics2
import Derived.Recover
import Derived.Laws.Pointers
import Derived.Shelf.Strconv.Itoa3
import Derived.Lib.ItoaLen
import Derived.Lib.SplitLaws
import Derived.Lib.AtoiTie
import Derived.Shelf.Strings.Cut
import Derived.Shelf.Strings.Split
import Derived.Shelf.Strconv.AtoiAll
import Derived.Deep.AppendSrc
import Derived.Laws.Runes
import Derived.Laws.CopyRow
import Derived.Lib.BufferWrite
import Derived.Shelf.Bytes.SlIndexWhole
import Derived.Laws.LoneSync
import Derived.RegionTactic
import Derived.RegionCalls
import Derived.ChangeAlike
import Derived.Shelf.Strings.Builder1
import Derived.Lib.UnsafeStr
import Derived.ProofKit
import Derived.ShutString
import Derived.ChangeOld
import Derived.Below
import Derived.Handed
import Derived.LaidLaws
import Derived.Lay
import Derived.LaidOnce
import Derived.SevenTiedAt
import Derived.Deep.DeepHandedRow
import Derived.JoinedCond
import Derived.Stop.Joined
set_option linter.unusedSectionVars false
set_option linter.unusedVariables false
set_option linter.unusedSimpArgs false
set_option maxRecDepth 100000
open List
section
namespace Go.Vc
open Go Go.Lib
def rdN (n b0 b1 b2 b3 : Nat) : Nat × Nat :=
 if b0 < 128 then (b0, 1)
 else if b0 < 192 then (0, 0)
 else if b0 < 224 then
  (if 2 <= n /\ (128 <= b1 /\ b1 <= 191) /\ 128 <= 64 * (b0 - 192) + (b1 - 128) then (64 * (b0 - 192) + (b1 - 128), 2) else (0, 0))
 else if b0 < 240 then
  (if 3 <= n /\ (128 <= b1 /\ b1 <= 191) /\ (128 <= b2 /\ b2 <= 191) /\ 2048 <= 64 * (64 * (b0 - 224) + (b1 - 128)) + (b2 - 128) /\ (64 * (64 * (b0 - 224) + (b1 - 128)) + (b2 - 128) < 55296 \/ 57344 <= 64 * (64 * (b0 - 224) + (b1 - 128)) + (b2 - 128))
   then (64 * (64 * (b0 - 224) + (b1 - 128)) + (b2 - 128), 3) else (0, 0))
 else if b0 < 248 then
  (if 4 <= n /\ (128 <= b1 /\ b1 <= 191) /\ (128 <= b2 /\ b2 <= 191) /\ (128 <= b3 /\ b3 <= 191) /\ 65536 <= 64 * (64 * (64 * (b0 - 240) + (b1 - 128)) + (b2 - 128)) + (b3 - 128) /\ 64 * (64 * (64 * (b0 - 240) + (b1 - 128)) + (b2 - 128)) + (b3 - 128) <= 1114111
   then (64 * (64 * (64 * (b0 - 240) + (b1 - 128)) + (b2 - 128)) + (b3 - 128), 4) else (0, 0))
 else (0, 0)
set_option maxHeartbeats 1000000 in
theorem decodeN_rd (n b0 b1 b2 b3 : Nat) (h0 : b0 < 256) (h1 : b1 < 256) (h2 : b2 < 256) (h3 : b3 < 256) : decodeN n b0 b1 b2 b3 = if (rdN n b0 b1 b2 b3).2 = 0 then (65533, 1) else rdN n b0 b1 b2 b3 := by
 by_cases c0 : b0 < 128
 ·simp [decodeN, rdN, c0]
 by_cases c1 : b0 < 192
 ·have e1 : ¬ b0 / 32 = 6 := by omega
  have e2 : ¬ b0 / 16 = 14 := by omega
  have e3 : ¬ b0 / 8 = 30 := by omega
  simp [decodeN, rdN, c0, c1, e1, e2, e3]
 by_cases c2 : b0 < 224
 ·have e1 : b0 / 32 = 6 := by omega
  have e2 : ¬ b0 / 16 = 14 := by omega
  have e3 : ¬ b0 / 8 = 30 := by omega
  simp only [decodeN, rdN, c0, c1, c2, e1, e2, e3, if_false, if_true, true_and, false_and]
  repeat' split
  all_goals first | with_reducible rfl | (exfalso; omega) | (refine Prod.ext ?_ rfl; show (_ : Nat) = _; omega) | (rename_i h; exact absurd h (by simp)) | (rename_i h _; exact absurd h (by simp)) | (exfalso; simp only [Nat.succ_ne_zero, OfNat.ofNat_ne_zero] at *)
 by_cases c3 : b0 < 240
 ·have e1 : ¬ b0 / 32 = 6 := by omega
  have e2 : b0 / 16 = 14 := by omega
  have e3 : ¬ b0 / 8 = 30 := by omega
  simp only [decodeN, rdN, c0, c1, c2, c3, e1, e2, e3, if_false, if_true, true_and, false_and]
  repeat' split
  all_goals first | with_reducible rfl | (exfalso; omega) | (refine Prod.ext ?_ rfl; show (_ : Nat) = _; omega) | (rename_i h; exact absurd h (by simp)) | (rename_i h _; exact absurd h (by simp)) | (exfalso; simp only [Nat.succ_ne_zero, OfNat.ofNat_ne_zero] at *)
 by_cases c4 : b0 < 248
 ·have e1 : ¬ b0 / 32 = 6 := by omega
  have e2 : ¬ b0 / 16 = 14 := by omega
  have e3 : b0 / 8 = 30 := by omega
  simp only [decodeN, rdN, c0, c1, c2, c3, c4, e1, e2, e3, if_false, if_true, true_and, false_and]
  repeat' split
  all_goals first | with_reducible rfl | (exfalso; omega) | (refine Prod.ext ?_ rfl; show (_ : Nat) = _; omega) | (rename_i h; exact absurd h (by simp)) | (rename_i h _; exact absurd h (by simp)) | (exfalso; simp only [Nat.succ_ne_zero, OfNat.ofNat_ne_zero] at *)
 have e1 : ¬ b0 / 32 = 6 := by omega
 have e2 : ¬ b0 / 16 = 14 := by omega
 have e3 : ¬ b0 / 8 = 30 := by omega
 simp [decodeN, rdN, c0, c1, c2, c3, c4, e1, e2, e3]
theorem rdN_facts (n b0 b1 b2 b3 : Nat) (h0 : b0 < 256) (h1 : b1 < 256) (h2 : b2 < 256) (h3 : b3 < 256) :
  ((rdN n b0 b1 b2 b3).2 = 0 /\ rdN n b0 b1 b2 b3 = (0, 0)) \/ (rdN n b0 b1 b2 b3 = (b0, 1) /\ b0 < 128)
  \/ ((rdN n b0 b1 b2 b3).2 = 2 /\ 2 <= n /\ 192 <= b0 /\ 128 <= b1 /\ (rdN n b0 b1 b2 b3).1 = 64 * (b0 - 192) + (b1 - 128) /\ 128 <= (rdN n b0 b1 b2 b3).1 /\ (rdN n b0 b1 b2 b3).1 < 2048)
  \/ ((rdN n b0 b1 b2 b3).2 = 3 /\ 3 <= n /\ 192 <= b0 /\ 128 <= b1 /\ 128 <= b2 /\ 2048 <= (rdN n b0 b1 b2 b3).1 /\ (rdN n b0 b1 b2 b3).1 < 65536)
  \/ ((rdN n b0 b1 b2 b3).2 = 4 /\ 4 <= n /\ 192 <= b0 /\ 128 <= b1 /\ 128 <= b2 /\ 128 <= b3 /\ 65536 <= (rdN n b0 b1 b2 b3).1 /\ (rdN n b0 b1 b2 b3).1 <= 1114111) := by
 unfold rdN
 repeat' split
 all_goals simp
 all_goals omega
def gB (bs : List UInt8) (k : Nat) : Nat := (bs.getD k 0).toNat
theorem Ybd (bs : List UInt8) (k : Nat) : gB bs k < 256 := UInt8.toNat_lt _
theorem gB_of {bs : List UInt8} {k : Nat} {b : UInt8} (h : bs[k]? = some b) : gB bs k = b.toNat := by simp [gB, getD_eq_getElem?_getD, h]
theorem gB_drop (bs : List UInt8) (i k : Nat) : gB (bs.drop i) k = gB bs (i + k) := by simp [gB, getD_eq_getElem?_getD, getElem?_drop]
theorem Yex {asx bs : List UInt8} {k : Nat} (h : k < asx.length) : gB (asx ++ bs) k = gB asx k := by simp [gB, getD_eq_getElem?_getD, getElem?_append_left h]
def rd (bs : List UInt8) : Nat × Nat := rdN bs.length (gB bs 0) (gB bs 1) (gB bs 2) (gB bs 3)
def dec (bs : List UInt8) : Nat × Nat := decodeN bs.length (gB bs 0) (gB bs 1) (gB bs 2) (gB bs 3)
theorem Yh2 (bs : List UInt8) : dec bs = if (rd bs).2 = 0 then (65533, 1) else rd bs := decodeN_rd _ _ _ _ _ (Ybd _ _) (Ybd _ _) (Ybd _ _) (Ybd _ _)
theorem rd_facts (bs : List UInt8) : ((rd bs).2 = 0 /\ rd bs = (0, 0)) \/ (rd bs = (gB bs 0, 1) /\ gB bs 0 < 128)
  \/ ((rd bs).2 = 2 /\ 2 <= bs.length /\ 192 <= gB bs 0 /\ 128 <= gB bs 1 /\ (rd bs).1 = 64 * (gB bs 0 - 192) + (gB bs 1 - 128) /\ 128 <= (rd bs).1 /\ (rd bs).1 < 2048)
  \/ ((rd bs).2 = 3 /\ 3 <= bs.length /\ 192 <= gB bs 0 /\ 128 <= gB bs 1 /\ 128 <= gB bs 2 /\ 2048 <= (rd bs).1 /\ (rd bs).1 < 65536)
  \/ ((rd bs).2 = 4 /\ 4 <= bs.length /\ 192 <= gB bs 0 /\ 128 <= gB bs 1 /\ 128 <= gB bs 2 /\ 128 <= gB bs 3 /\ 65536 <= (rd bs).1 /\ (rd bs).1 <= 1114111) :=
 rdN_facts _ _ _ _ _ (Ybd _ _) (Ybd _ _) (Ybd _ _) (Ybd _ _)
theorem rd_le (bs : List UInt8) (h : bs ≠ []) : (rd bs).2 <= bs.length := by
 have hl : 0 < bs.length := length_pos_iff.2 h
 rcases rd_facts bs with ⟨_, e⟩ | ⟨e, _⟩ | h | h | h
 ·rw [e]; exact Nat.zero_le _
 ·rw [e]; exact hl
 all_goals omega
theorem rd_four (bs : List UInt8) : (rd bs).2 <= 4 := by
 rcases rd_facts bs with ⟨_, e⟩ | ⟨e, _⟩ | h | h | h
 ·rw [e]; simp
 ·rw [e]; simp
 all_goals omega
theorem rd_fffd (bs : List UInt8) (h : (rd bs).1 = 65533) : 3 <= (rd bs).2 := by
 rcases rd_facts bs with ⟨_, e⟩ | ⟨e, _⟩ | h | h | h
 ·rw [e] at h; simp at h
 ·rw [e] at h; simp only at h; omega
 all_goals omega
theorem rd_ascii (bs : List UInt8) (h : gB bs 0 < 128) : rd bs = (gB bs 0, 1) := by simp [rd, rdN, h]
theorem ZqM (b : UInt8) (bs : List UInt8) (h : b.toNat < 128) : rd (b :: bs) = (b.toNat, 1) := rd_ascii (b :: bs) (by simpa [gB] using h)
theorem rd_append (asx bs : List UInt8) (h : (rd asx).2 ≠ 0) (hne : asx ≠ []) : rd (asx ++ bs) = rd asx := by
 have hl : 0 < asx.length := length_pos_iff.2 hne
 unfold rd at h ⊢
 rw [Yex (k := 0) hl]
 by_cases h2 : 2 <= asx.length
 ·rw [Yex (k := 1) (by omega)]
  by_cases h3 : 3 <= asx.length
  ·rw [Yex (k := 2) (by omega)]
   by_cases h4 : 4 <= asx.length
   ·rw [Yex (k := 3) (by omega), length_append]
    unfold rdN
    have e2 : (2 <= asx.length + bs.length) = (2 <= asx.length) := propext ⟨fun _ => h2, fun _ => by omega⟩
    have e3 : (3 <= asx.length + bs.length) = (3 <= asx.length) := propext ⟨fun _ => h3, fun _ => by omega⟩
    have e4 : (4 <= asx.length + bs.length) = (4 <= asx.length) := propext ⟨fun _ => h4, fun _ => by omega⟩
    simp only [e2, e3, e4]
   ·rw [length_append]
    unfold rdN at h ⊢
    have e2 : (2 <= asx.length + bs.length) = (2 <= asx.length) := propext ⟨fun _ => h2, fun _ => by omega⟩
    have e3 : (3 <= asx.length + bs.length) = (3 <= asx.length) := propext ⟨fun _ => h3, fun _ => by omega⟩
    simp only [e2, e3]
    simp only [h4, false_and, if_false] at h ⊢
    repeat' split at h
    all_goals simp_all
  ·rw [length_append]
   unfold rdN at h ⊢
   have e2 : (2 <= asx.length + bs.length) = (2 <= asx.length) := propext ⟨fun _ => h2, fun _ => by omega⟩
   have h4 : ¬ 4 <= asx.length := by omega
   simp only [e2]
   simp only [h3, h4, false_and, if_false] at h ⊢
   repeat' split at h
   all_goals simp_all
 ·rw [length_append]
  unfold rdN at h ⊢
  have h3 : ¬ 3 <= asx.length := by omega
  have h4 : ¬ 4 <= asx.length := by omega
  simp only [h2, h3, h4, false_and, if_false] at h ⊢
  repeat' split at h
  all_goals simp_all
theorem Yd6 (bs : List UInt8) (h : bs ≠ []) (hk : (rd bs).2 ≠ 0) : (bs.drop (rd bs).2).length < bs.length := by
 have hl : 0 < bs.length := length_pos_iff.2 h
 rw [length_drop]; omega
theorem rd_ind {P : List UInt8 -> Prop} (h0 : P []) (h1 : ∀ bs, bs ≠ [] -> (rd bs).2 = 0 -> P bs) (h2 : ∀ bs, bs ≠ [] -> (rd bs).2 ≠ 0 -> P (bs.drop (rd bs).2) -> P bs) : ∀ bs, P bs := by
 suffices h : ∀ n, ∀ bs : List UInt8, bs.length <= n -> P bs from fun bs => h bs.length bs (Nat.le_refl _)
 intro n
 induction n with
 | zero => intro bs hl; rw [show bs = [] from eq_nil_of_length_eq_zero (by omega)]; exact h0
 | succ n ih =>
  intro bs hl
  by_cases hb : bs = []
  ·subst hb; exact h0
  by_cases hk : (rd bs).2 = 0
  ·exact h1 bs hb hk
  ·exact h2 bs hb hk (ih _ (by have := Yd6 bs hb hk; omega))
def Chr (r : Int) : Prop := r = 9 \/ r = 10 \/ r = 13 \/ (32 <= r /\ r <= 55295) \/ (57344 <= r /\ r <= 65533) \/ (65536 <= r /\ r <= 1114111)
def Sta (r : Int) : Prop :=
 (65 <= r /\ r <= 90) \/ r = 95 \/ (97 <= r /\ r <= 122) \/ (192 <= r /\ r <= 767 /\ r ≠ 215 /\ r ≠ 247) \/ (880 <= r /\ r <= 8191 /\ r ≠ 894)
 \/ r = 8204 \/ r = 8205 \/ (8304 <= r /\ r <= 8591) \/ (11264 <= r /\ r <= 12271) \/ (12289 <= r /\ r <= 55295)
 \/ (63744 <= r /\ r <= 65533 /\ (r < 64976 \/ 65008 <= r)) \/ (65536 <= r /\ r <= 983039)
def Pr2 (r : Int) : Prop := r = 45 \/ r = 46 \/ (48 <= r /\ r <= 57) \/ r = 183 \/ (768 <= r /\ r <= 879) \/ r = 8255 \/ r = 8256
instance (r : Int) : Decidable (Chr r) := by unfold Chr; exact inferInstance
instance (r : Int) : Decidable (Sta r) := by unfold Sta; exact inferInstance
def Prt (r : Int) : Prop := Sta r \/ Pr2 r
instance (r : Int) : Decidable (Pr2 r) := by unfold Pr2; exact inferInstance
instance (r : Int) : Decidable (Prt r) := by unfold Prt; exact inferInstance
theorem prt_pr2 {r : Int} (h : ¬ Sta r) : decide (Prt r) = decide (Pr2 r) := decide_eq_decide.2 ⟨fun hp => hp.resolve_left h, fun hp => .inr hp⟩
def chr (r : Int) : Bool := decide (Chr r)
def isSt (r : Int) : Bool := decide (Sta r)
def isPt (r : Int) : Bool := decide (Prt r)
def inL (r : Int) : List (Int × Int) -> Bool
 | [] => false
 | s :: l => if r <= s.2 then decide (s.1 <= r) else inL r l
def inP (r : Int) : List (Int × Int) -> Prop
 | [] => False
 | s :: l => (r <= s.2 /\ s.1 <= r) \/ (¬ r <= s.2 /\ inP r l)
theorem inL_iff (r : Int) : ∀ L, inL r L = true ↔ inP r L
 | [] => by simp [inL, inP]
 | s :: l => by
  unfold inL inP
  split
  ·next h => simp [h]
  ·next h => rw [inL_iff r l]; simp [h]
theorem inL_dec {r : Int} {L : List (Int × Int)} {p : Prop} [Decidable p] (h : inP r L ↔ p) : inL r L = decide p := by
 rw [Bool.eq_iff_iff, inL_iff, decide_eq_true_eq]; exact h
def vld (bs : List UInt8) : Bool := if h : bs = [] then true else if hk : (rd bs).2 = 0 then false else vld (bs.drop (rd bs).2)
termination_by bs.length
decreasing_by exact Yd6 bs h hk
theorem vld_nil : vld [] = true := by unfold vld; simp
theorem vld_bad {bs : List UInt8} (h : bs ≠ []) (hk : (rd bs).2 = 0) : vld bs = false := by unfold vld; simp [h, hk]
theorem Ygg {bs : List UInt8} (h : bs ≠ []) (hk : (rd bs).2 ≠ 0) : vld bs = vld (bs.drop (rd bs).2) := by rw [vld]; simp [h, hk]
def prt (bs : List UInt8) : Bool := if h : bs = [] then true else if hk : (rd bs).2 = 0 then false else isPt (rd bs).1 && prt (bs.drop (rd bs).2)
termination_by bs.length
decreasing_by exact Yd6 bs h hk
theorem prt_nil : prt [] = true := by unfold prt; simp
theorem prt_bad {bs : List UInt8} (h : bs ≠ []) (hk : (rd bs).2 = 0) : prt bs = false := by unfold prt; simp [h, hk]
theorem Yep {bs : List UInt8} (h : bs ≠ []) (hk : (rd bs).2 ≠ 0) : prt bs = (isPt (rd bs).1 && prt (bs.drop (rd bs).2)) := by rw [prt]; simp [h, hk]
def flt (at_ : Nat) (bs : List UInt8) : Nat × Nat := if h : bs = [] then (0, 0) else if hk : (rd bs).2 = 0 then (at_, 20) else if chr (rd bs).1 = false then (at_, 21) else flt (at_ + (rd bs).2) (bs.drop (rd bs).2)
termination_by bs.length
decreasing_by exact Yd6 bs h hk
theorem flt_nil (i : Nat) : flt i [] = (0, 0) := by unfold flt; simp
theorem flt_utf {i : Nat} {bs : List UInt8} (h : bs ≠ []) (hk : (rd bs).2 = 0) : flt i bs = (i, 20) := by unfold flt; simp [h, hk]
theorem flt_chr {i : Nat} {bs : List UInt8} (h : bs ≠ []) (hk : (rd bs).2 ≠ 0) (hc : chr (rd bs).1 = false) : flt i bs = (i, 21) := by unfold flt; simp [h, hk, hc]
theorem flt_step {i : Nat} {bs : List UInt8} (h : bs ≠ []) (hk : (rd bs).2 ≠ 0) (hc : chr (rd bs).1 = true) : flt i bs = flt (i + (rd bs).2) (bs.drop (rd bs).2) := by rw [flt]; simp [h, hk, hc]
def nm (bs : List UInt8) : Bool := decide (bs ≠ []) && decide (bs.length <= 100) && isSt (rd bs).1 && prt bs
theorem prt_vld : ∀ bs, prt bs = true -> vld bs = true := by
 refine rd_ind ?_ ?_ ?_
 ·intro _; exact vld_nil
 ·intro bs h hk hp; rw [prt_bad h hk] at hp; cases hp
 ·intro bs h hk ih hp
  rw [Yep h hk, Bool.and_eq_true] at hp
  rw [Ygg h hk]; exact ih hp.2
end Go.Vc
end
section
namespace Go.Vc
open Go Go.RowKit
abbrev Fr := Nat -> Option Value
def Fr.set (fr : Fr) (d : Nat) (v : Option Value) : Fr := fun t => bif Nat.beq t d then v else fr t
def Fr.put (n : Nat) (fr : Fr) (dst : Option Nat) (v : Value) : Fr :=
 match dst with
 | some d => fr.set d (bif Nat.blt d n then some v else none)
 | none => fr
def ev (fr : Fr) : Operand -> Option Value
 | .tmp t => fr t
 | .const v => some v
 | .global g => some (.pointer (some ⟨g, 0, none⟩))
 | .func f => some (.func (.func f) #[] #[])
def evs (fr : Fr) : List Operand -> Option (List Value)
 | [] => some []
 | x :: xs => match ev fr x with
  | none => none
  | some v => match evs fr xs with
   | none => none
   | some vs => some (v :: vs)
structure Sim (D : List Deferred) (n : Nat) (fr : Fr) (a : Act) : Prop where
 defers : a.defers = D
 size : a.tmps.size = n
 val : ∀ t v, fr t = some v -> a.tmps[t]? = some v
variable {D : List Deferred}
theorem Sim.eval {n : Nat} {fr : Fr} {a : Act} (h : Sim D n fr a) {x : Operand} {v : Value} (hx : ev fr x = some v) : a.eval x = v := by
 cases x with
 | tmp t => simp only [ev] at hx; simp [Act.eval, h.val t v hx]
 | const u => simp only [ev, Option.some.injEq] at hx; exact hx
 | global g => simp only [ev, Option.some.injEq] at hx; exact hx
 | func f => simp only [ev, Option.some.injEq] at hx; exact hx
theorem Sim.evals {n : Nat} {fr : Fr} {a : Act} (h : Sim D n fr a) : ∀ {xs : List Operand} {vs : List Value}, evs fr xs = some vs -> xs.map a.eval = vs
 | [], vs, hx => by simp only [evs, Option.some.injEq] at hx; simp [hx]
 | x :: xs, vs, hx => by
  simp only [evs] at hx
  cases h1 : ev fr x with
  | none => simp [h1] at hx
  | some v =>
   cases h2 : evs fr xs with
   | none => simp [h1, h2] at hx
   | some us =>
    simp only [h1, h2, Option.some.injEq] at hx
    simp [<- hx, h.eval h1, h.evals h2]
theorem Sim.put {n : Nat} {fr : Fr} {a : Act} (h : Sim D n fr a) (dst : Option Nat) (v : Value) : Sim D n (fr.put n dst v) (a.put dst v) := by
 cases dst with
 | none => exact h
 | some d =>
  refine ⟨h.defers, by simp [Act.put, h.size], fun t u hu => ?_⟩
  simp only [Fr.put, Fr.set] at hu
  by_cases htd : t = d
  ·subst htd
   rw [show Nat.beq t t = true from Nat.beq_refl t, cond_true] at hu
   by_cases hn : t < n
   ·have : Nat.blt t n = true := by simpa [Nat.blt_eq] using hn
    simp only [this, cond_true, Option.some.injEq] at hu
    simp [Act.put, h.size, hn, hu]
   ·have : Nat.blt t n = false := by
     cases hb : Nat.blt t n with
     | false => rfl
     | true => exact absurd (by simpa [Nat.blt_eq] using hb) hn
    simp [this] at hu
  ·have : Nat.beq t d = false := by
    cases hb : Nat.beq t d with
    | false => rfl
    | true => exact absurd (Nat.eq_of_beq_eq_true hb) htd
   simp only [this, cond_false] at hu
   simp [Act.put, Array.getElem?_setIfInBounds_ne (Ne.symm htd), h.val t u hu]
theorem Sim.know {n : Nat} {fr : Fr} {a : Act} (h : Sim D n fr a) {d : Nat} {v : Value} (hd : fr d = some v) : Sim D n (fr.set d (some v)) a := by
 refine ⟨h.defers, h.size, fun t u hu => ?_⟩
 simp only [Fr.set] at hu
 by_cases htd : t = d
 ·subst htd
  rw [show Nat.beq t t = true from Nat.beq_refl t, cond_true] at hu
  exact h.val t u (by rw [hd]; exact hu)
 ·have : Nat.beq t d = false := by
   cases hb : Nat.beq t d with
   | false => rfl
   | true => exact absurd (Nat.eq_of_beq_eq_true hb) htd
  simp only [this, cond_false] at hu
  exact h.val t u hu
def Zz2 (b : Bool) (A B : Prop) : Prop := match b with | true => A | false => B
theorem Zz9 {b : Bool} {A B : Prop} (h1 : b = true -> A) (h2 : b = false -> B) : Zz2 b A B := by
 cases b
 ·exact h2 rfl
 ·exact h1 rfl
theorem Zz6 {p : Prop} [Decidable p] {A B : Prop} (h1 : p -> A) (h2 : ¬ p -> B) : Zz2 (decide p) A B :=
 Zz9 (fun h => h1 (of_decide_eq_true h)) (fun h => h2 (of_decide_eq_false h))
theorem Zzi {x y : Int} {A B : Prop} (h1 : x = y -> A) (h2 : x ≠ y -> B) : Zz2 (x == y) A B :=
 Zz9 (fun h => h1 (by simpa using h)) (fun h => h2 (by simpa using h))
theorem Zzw {x y : Int} {A B : Prop} (h1 : x ≠ y -> A) (h2 : x = y -> B) : Zz2 (x != y) A B :=
 Zz9 (fun h => h1 (by simpa using h)) (fun h => h2 (by simpa using h))
theorem Zzx {b : Bool} {A B : Prop} (h1 : b = false -> A) (h2 : b = true -> B) : Zz2 (!b) A B :=
 Zz9 (fun h => h1 (by simpa using h)) (fun h => h2 (by simpa using h))
theorem condB_o {b : Bool} {A B : Prop} : Zz2 b A B -> (b = true /\ A) \/ (b = false /\ B) := by
 cases b
 ·exact fun h => .inr ⟨rfl, h⟩
 ·exact fun h => .inl ⟨rfl, h⟩
def Zyp (p : Option Addr) (K : Addr -> Prop) : Prop := match p with | some a => K a | none => False
theorem YaL {p : Option Addr} {K : Addr -> Prop} (h : Zyp p K) : ∃ a, p = some a /\ K a := by
 cases p with
 | none => exact h.elim
 | some a => exact ⟨a, rfl, h⟩
def optC {α : Type} (o : Option α) (K : α -> Prop) : Prop := match o with | some a => K a | none => False
theorem optC_o {α : Type} {o : Option α} {K : α -> Prop} (h : optC o K) : ∃ a, o = some a /\ K a := by
 cases o with
 | none => exact h.elim
 | some a => exact ⟨a, rfl, h⟩
theorem optC_i {α : Type} {o : Option α} {K : α -> Prop} {a : α} (h : o = some a) (k : K a) : optC o K := by subst h; exact k
def ldI (k : IntKind) (w : World) (a : Addr) (K : Int -> Prop) : Prop := ∃ n, w.cell? a = some (.int k n) /\ K n
def ldB (w : World) (a : Addr) (K : Bool -> Prop) : Prop := ∃ b, w.cell? a = some (.bool b) /\ K b
def ldP (w : World) (a : Addr) (K : Option Addr -> Prop) : Prop := ∃ p, w.cell? a = some (.pointer p) /\ K p
def ldS (w : World) (a : Addr) (K : Option Addr -> Nat -> Nat -> Prop) : Prop := ∃ p l c, w.cell? a = some (.slice p l c) /\ K p l c
def ldStr (w : World) (a : Addr) (K : ByteArray -> Prop) : Prop := ∃ s, w.cell? a = some (.string s) /\ K s
def ldV (w : World) (a : Addr) (K : Value -> Prop) : Prop := ∃ v, w.cell? a = some v /\ K v
def Zzn (w : World) (a : Addr) (cs : List Value) : Prop := ∀ j v, cs[j]? = some v -> w.cell? (a.add j) = some v
def ldN (w : World) (a : Addr) (n : Nat) (K : List Value -> Prop) : Prop := ∃ cs : List Value, cs.length = n /\ Zzn w a cs /\ K cs
theorem Zyz {k : IntKind} {w : World} {a : Addr} {K : Int -> Prop} {n : Int} (h : w.cell? a = some (.int k n)) (hk : K n) : ldI k w a K := ⟨n, h, hk⟩
theorem ldB_i {w : World} {a : Addr} {K : Bool -> Prop} {b : Bool} (h : w.cell? a = some (.bool b)) (hk : K b) : ldB w a K := ⟨b, h, hk⟩
theorem ZzQ {w : World} {a : Addr} {K : ByteArray -> Prop} {s : ByteArray} (h : w.cell? a = some (.string s)) (hk : K s) : ldStr w a K := ⟨s, h, hk⟩
theorem ldV_i {w : World} {a : Addr} {K : Value -> Prop} {v : Value} (h : w.cell? a = some v) (hk : K v) : ldV w a K := ⟨v, h, hk⟩
inductive Sc where
 | int (k : IntKind) | bool | ptr | slice | str | val
def scOf (P : Program) (t : TypeId) : Sc :=
 match P.underlying t with
 | some (.int k) => .int k
 | some .bool => .bool
 | some (.pointer _) => .ptr
 | some (.slice _) => .slice
 | some .string => .str
 | _ => .val
def ldSc (s : Sc) (w : World) (a : Addr) (K : Value -> Prop) : Prop :=
 match s with
 | .int k => ldI k w a fun n => K (.int k n)
 | .bool => ldB w a fun b => K (.bool b)
 | .ptr => ldP w a fun p => K (.pointer p)
 | .slice => ldS w a fun p l c => K (.slice p l c)
 | .str => ldStr w a fun s => K (.string s)
 | .val => ldV w a fun v => K v
theorem ldSc_o {s : Sc} {w : World} {a : Addr} {K : Value -> Prop} (h : ldSc s w a K) : ∃ v, w.cell? a = some v /\ K v := by
 cases s with
 | int k => obtain ⟨n, h1, h2⟩ := h; exact ⟨_, h1, h2⟩
 | bool => obtain ⟨n, h1, h2⟩ := h; exact ⟨_, h1, h2⟩
 | ptr => obtain ⟨n, h1, h2⟩ := h; exact ⟨_, h1, h2⟩
 | slice => obtain ⟨p, l, c, h1, h2⟩ := h; exact ⟨_, h1, h2⟩
 | str => obtain ⟨n, h1, h2⟩ := h; exact ⟨_, h1, h2⟩
 | val => obtain ⟨n, h1, h2⟩ := h; exact ⟨_, h1, h2⟩
def flat (P : Program) : Nat -> TypeId -> List Sc
 | 0, _ => []
 | d + 1, t =>
  match P.underlying t with
  | some (.struct fs) => fs.toList.flatMap fun f => flat P d f.type
  | some (.array n e) => (replicate n (flat P d e)).flatten
  | _ => [scOf P t]
def ldCells (w : World) (a : Addr) : Nat -> List Sc -> (List Value -> Prop) -> Prop
 | _, [], K => K []
 | i, s :: l, K => ldSc s w (a.add i) fun v => ldCells w a (i + 1) l fun vs => K (v :: vs)
theorem ldCells_o {w : World} {a : Addr} : ∀ {l : List Sc} {i : Nat} {K : List Value -> Prop}, ldCells w a i l K ->
  ∃ vs : List Value, vs.length = l.length /\ (∀ j v, vs[j]? = some v -> w.cell? (a.add (i + j)) = some v) /\ K vs
 | [], i, K, h => ⟨[], rfl, by simp, h⟩
 | s :: l, i, K, h => by
  obtain ⟨v, h1, h2⟩ := ldSc_o h
  obtain ⟨vs, h3, h4, h5⟩ := ldCells_o h2
  refine ⟨v :: vs, by simp [h3], fun j u hu => ?_, h5⟩
  cases j with
  | zero => simp at hu; subst hu; simpa using h1
  | succ j => have := h4 j u (by simpa using hu); rwa [show i + (j + 1) = i + 1 + j by omega]
def w64 (n : Int) : Int := IntKind.i64.wrap n
def intBin (op : BinOp) (k : IntKind) (x y : Int) (K : Value -> Prop) : Prop :=
 match op with
 | .add => K (.int k (k.wrap (x + y)))
 | .sub => K (.int k (k.wrap (x - y)))
 | .mul => K (.int k (k.wrap (x * y)))
 | .quo => y ≠ 0 /\ K (.int k (k.wrap (x.tdiv y)))
 | .rem => y ≠ 0 /\ K (.int k (x.tmod y))
 | .and => K (.int k (k.wrap (BitVec.ofInt k.bits x &&& BitVec.ofInt k.bits y).toNat))
 | .or => K (.int k (k.wrap (BitVec.ofInt k.bits x ||| BitVec.ofInt k.bits y).toNat))
 | .xor => K (.int k (k.wrap (BitVec.ofInt k.bits x ^^^ BitVec.ofInt k.bits y).toNat))
 | .andNot => K (.int k (k.wrap (BitVec.ofInt k.bits x &&& ~~~(BitVec.ofInt k.bits y)).toNat))
 | .shl => 0 <= y /\ K (.int k (k.wrap (x * 2 ^ (min y.toNat k.bits))))
 | .shr => 0 <= y /\ K (.int k (x.fdiv (2 ^ (min y.toNat k.bits))))
 | .eql => K (.bool (x == y))
 | .neq => K (.bool (x != y))
 | .lss => K (.bool (decide (x < y)))
 | .leq => K (.bool (decide (x <= y)))
 | .gtr => K (.bool (decide (x > y)))
 | .geq => K (.bool (decide (x >= y)))
def Yfg : BinOp -> Bool | .shl | .shr => true | _ => false
def strBin (op : BinOp) (x y : ByteArray) (K : Value -> Prop) : Prop :=
 match op with
 | .add => ((x.size + y.size : Nat) : Int) <= 9223372036854775807 /\ K (.string (x ++ y))
 | .eql => K (.bool (x.toList == y.toList))
 | .neq => K (.bool !(x.toList == y.toList))
 | .lss => K (.bool (Op.bytesLess x.toList y.toList))
 | .leq => K (.bool (Op.bytesLess x.toList y.toList || x.toList == y.toList))
 | .gtr => K (.bool !(Op.bytesLess x.toList y.toList || x.toList == y.toList))
 | .geq => K (.bool !(Op.bytesLess x.toList y.toList))
 | _ => False
def eqFsL (P : Program) (sub : Array Value -> Array Value -> List Field -> Option Bool) (xs ys : Array Value) : List Field -> Option Bool
 | [] => some true
 | f :: fs => bif f.name == "_" then none else
  match P.underlying f.type, xs[f.offset]?, ys[f.offset]?, eqFsL P sub xs ys fs with
  | some (.int _), some (.int k a), some (.int k' b), some r => bif k == k' then some ((a == b) && r) else none
  | some .bool, some (.bool a), some (.bool b), some r => some ((a == b) && r)
  | some .string, some (.string a), some (.string b), some r => some ((a.toList == b.toList) && r)
  | some (.struct gs), _, _, some r => bif P.stoodInHeld f.type then none else
   match P.info? f.type with
   | some i => (match sub (xs.extract f.offset (f.offset + i.size)) (ys.extract f.offset (f.offset + i.size)) gs.toList with | some a => some (a && r) | none => none)
   | none => none
  | _, _, _, _ => none
def eqFs (P : Program) : Nat -> Array Value -> Array Value -> List Field -> Option Bool
 | 0 => fun _ _ _ => none
 | d + 1 => fun xs ys fs => eqFsL P (eqFs P d) xs ys fs
def vcBin (P : Program) (op : BinOp) (t : TypeId) (x y : Value) (K : Value -> Prop) : Prop :=
 match x, y with
 | .agg xs, .agg ys => match P.underlying t with
  | some (.struct fs) => bif P.eqGuardType P.depth t || P.stoodInHeld t then False else
   match eqFs P 3 xs ys fs.toList with
   | some b => match op with | .eql => K (.bool b) | .neq => K (.bool !b) | _ => False
   | none => False
  | _ => False
 | .int k a, .int k' b => bif Yfg op || k == k' then intBin op k a b K else False
 | .string a, .string b => strBin op a b K
 | .bool a, .bool b => match P.underlying t with
  | some .bool => match op with | .eql => K (.bool (a == b)) | .neq => K (.bool !(a == b)) | _ => False
  | _ => False
 | .pointer p, .pointer none => match P.underlying t with
  | some (.pointer _) => match op with | .eql => K (.bool p.isNone) | .neq => K (.bool !p.isNone) | _ => False
  | _ => False
 | .slice p _ _, .slice none _ _ => match P.underlying t with
  | some (.slice _) => match op with | .eql => K (.bool p.isNone) | .neq => K (.bool !p.isNone) | _ => False
  | _ => False
 | _, _ => False
def isFn (x : Value) : Prop := ∃ g a b, x = .func g a b
def vcFnNil (P : Program) (op : BinOp) (t : TypeId) (x : Value) (K : Value -> Prop) : Prop :=
 match P.underlying t with
 | some (.func _ _ _) => (match op with | .eql => isFn x /\ K (.bool false) | .neq => isFn x /\ K (.bool true) | _ => False)
 | _ => False
def Ycr (P : Program) (op : BinOp) (t : TypeId) (x y : Value) (K : Value -> Prop) : Prop :=
 match y with
 | .nilFunc => vcFnNil P op t x K
 | y => vcBin P op t x y K
def isIf (x : Value) : Prop := x = .nilIface \/ ∃ t v, x = .iface t v
def nilI : Value -> Bool
 | .nilIface => true
 | _ => false
def vcIfNil (P : Program) (op : BinOp) (t : TypeId) (x : Value) (K : Value -> Prop) : Prop :=
 match P.underlying t with
 | some (.interface _) => (match op with | .eql => isIf x /\ K (.bool (nilI x)) | .neq => isIf x /\ K (.bool !(nilI x)) | _ => False)
 | _ => False
def vcBinO (P : Program) (op : BinOp) (t : TypeId) (Y : Operand) (x y : Value) (K : Value -> Prop) : Prop :=
 match Y with
 | .const .nilIface => vcIfNil P op t x K
 | _ => Ycr P op t x y K
def vcUn (op : UnOp) (x : Value) (K : Value -> Prop) : Prop :=
 match op, x with
 | .neg, .int k n => K (.int k (k.wrap (0 - n)))
 | .xor, .int k n => K (.int k (k.wrap (BitVec.ofInt k.bits (if k.signed then -1 else k.max) ^^^ BitVec.ofInt k.bits n).toNat))
 | .not, .bool b => K (.bool !b)
 | _, _ => False
def Zyx (p : Option Addr) (len : Nat) (i : Int) (K : Addr -> Prop) : Prop := 0 <= i /\ i < len /\ Zyp p K
theorem YbF {a : Addr} {len : Nat} {i : Int} {K : Addr -> Prop} (h0 : 0 <= i) (h1 : i < len) (hk : K a) : Zyx (some a) len i K := ⟨h0, h1, hk⟩
def Zya (s : ByteArray) (i : Int) (K : Int -> Prop) : Prop := ∃ b : UInt8, 0 <= i /\ s[i.toNat]? = some b /\ K b.toNat
def idxAgg (cs : Array Value) (n : Nat) (i : Int) (K : ByteArray -> Prop) : Prop := ∃ s : ByteArray, 0 <= i /\ i < n /\ cs[i.toNat]? = some (.string s) /\ K s
def idxAggI (k : IntKind) (cs : Array Value) (n : Nat) (i : Int) (K : Int -> Prop) : Prop := ∃ x : Int, 0 <= i /\ i < n /\ cs[i.toNat]? = some (.int k x) /\ K x
def slS (p : Option Addr) (len cap sz : Nat) (lo hi mx : Option Int) (K : Option Addr -> Nat -> Nat -> Prop) : Prop :=
 ∃ l h m : Nat, lo.getD 0 = (l : Int) /\ hi.getD len = (h : Int) /\ mx.getD cap = (m : Int) /\ l <= h /\ h <= m /\ m <= cap /\ K (if m = l then p else p.map (·.add (l * sz))) (h - l) (m - l)
def Ya9 (s : ByteArray) (lo hi : Option Int) (K : ByteArray -> Prop) : Prop :=
 ∃ l h : Nat, lo.getD 0 = (l : Int) /\ hi.getD s.size = (h : Int) /\ l <= h /\ h <= s.size /\ K (s.extract l h)
def evI (fr : Fr) : Option Operand -> Option (Option Int)
 | none => some none
 | some x => match ev fr x with
  | some (.int _ n) => some (some n)
  | _ => none
def condT (b : Bool) (K : Prop) : Prop := match b with | true => K | false => False
theorem condT_o {b : Bool} {K : Prop} (h : condT b K) : b = true /\ K := by
 cases b
 ·exact h.elim
 ·exact ⟨rfl, h⟩
theorem condT_i {b : Bool} {K : Prop} (h : b = true) (k : K) : condT b K := by subst h; exact k
def jn (l m : List Value) : List Value := match m with | [] => l | m => l ++ m
theorem jn_eq (l m : List Value) : jn l m = l ++ m := by cases m <;> simp [jn]
def spC (N : Nat) (place : Nat -> Option (Nat × Nat)) : List (Nat × Value) -> List Value -> (List Value -> Prop) -> Prop
 | [], l, K => K l
 | (i, v) :: r, l, K =>
  match place i with
  | none => False
  | some (off, size) => bif Nat.ble (off + size) N then
    (match v with
    | .agg cs => cs.size = size /\ spC N place r (jn (l.take off ++ cs.toList) (l.drop (off + size))) K
    | v => bif Nat.beq size 1 then condT v.oneCell' (spC N place r (l.take off ++ v :: l.drop (off + 1)) K) else False)
   else False
def YbY (fr : Fr) : List (Nat × Operand) -> Option (List (Nat × Value))
 | [] => some []
 | (i, x) :: xs => match ev fr x with
  | none => none
  | some v => match YbY fr xs with
   | none => none
   | some vs => some ((i, v) :: vs)
def bcells (bs : List UInt8) : List Value := bs.map fun b => .int .u8 b.toNat
def bytesAt (w : World) (p : Option Addr) (l : Nat) (bs : List UInt8) : Prop :=
 match p with
 | none => bs = []
 | some a => bs.length = l /\ Zzn w a (bcells bs)
def bytesOf (w : World) (p : Option Addr) (l : Nat) (K : List UInt8 -> Prop) : Prop := ∃ bs, bytesAt w p l bs /\ K bs
abbrev KR := Value -> (World -> Prop) -> Prop
def Zx9 (K : KR) (v : Value) : Prop := K v fun _ => True
def Ydu (P : Program) (t : TypeId) (a : Addr) (w : World) (K : KR) : Prop :=
 match P.underlying t with
 | none => False
 | some (.struct _) => vcLoadAgg
 | some (.array _ _) => vcLoadAgg
 | some _ => ldSc (scOf P t) w a fun v => K v fun w' => w'.cell? a = some v
 where vcLoadAgg : Prop :=
 match P.info? t with
 | none => False
 | some i =>
  bif Nat.ble i.size 16 then
   (bif Nat.beq (flat P 8 t).length i.size then ldCells w a 0 (flat P 8 t) fun vs => K (.agg ⟨vs⟩) fun w' => Zzn w' a vs else False)
  else ldN w a i.size fun cs => K (.agg ⟨cs⟩) fun w' => Zzn w' a cs
def YdI (P : Program) (t : TypeId) : Bool :=
 match P.underlying t with
 | some (.slice e) => (match P.underlying e with | some (.int .u8) => true | _ => false)
 | _ => false
def vcConv (P : Program) (src dst : TypeId) (x : Value) (w : World) (K : KR) : Prop :=
 match P.underlying src with
 | none => False
 | some d0 =>
 match P.underlying dst, x with
 | some (.int k), .int _ n => Zx9 K (.int k (k.wrap n))
 | some .string, .string s => Zx9 K (.string s)
 | some .string, .slice p l _ =>
  match d0 with
  | .slice e => (match P.underlying e with
   | some (.int .u8) => bytesOf w p l fun bs => K (.string ⟨bs.toArray⟩) fun w' => bytesAt w' p l bs
   | _ => False)
  | _ => False
 | _, _ => False
def lenV (P : Program) (t : TypeId) (x : Value) (K : KR) : Prop :=
 match P.underlying t, x with
 | some .string, .string s => Zx9 K (.int .i64 s.size)
 | some (.slice _), .slice _ n _ => Zx9 K (.int .i64 n)
 | some (.array n _), _ => Zx9 K (.int .i64 n)
 | _, _ => False
def capV (P : Program) (t : TypeId) (x : Value) (K : KR) : Prop :=
 match P.underlying t, x with
 | some (.slice _), .slice _ _ c => Zx9 K (.int .i64 c)
 | some (.array n _), _ => Zx9 K (.int .i64 n)
 | _, _ => False
def isLd (P : Program) (o : Oper) : Bool :=
 match o.op with
 | .load _ _ => true
 | .convert s d _ => (match P.underlying d with | some .string => YdI P s | _ => false)
 | _ => false
def Ydt (P : Program) (fr : Fr) (o : Oper) (w : World) (K : KR) : Prop :=
 match o.op with
 | .move x | .assign x => (match ev fr x with | some v => Zx9 K v | none => False)
 | .pick c x y => (match ev fr c with
  | some (.bool g) => Zz2 g (match ev fr x with | some v => Zx9 K v | none => False) (match ev fr y with | some v => Zx9 K v | none => False)
  | _ => False)
 | .nilCheck x => (match ev fr x with | some (.pointer p) => Zyp p fun a => Zx9 K (.pointer (some a)) | _ => False)
 | .binOp op t x y _ => (match ev fr x, ev fr y with | some a, some b => vcBinO P op t y a b (Zx9 K) | _, _ => False)
 | .unOp op _ x => (match ev fr x with | some a => vcUn op a (Zx9 K) | none => False)
 | .convert s d x => (match ev fr x with | some a => vcConv P s d a w K | none => False)
 | .fieldAddr s x f => (match ev fr x, P.underlying s with
  | some (.pointer p), some (.struct fs) => (match fs[f]? with
   | some fd => (match P.info? fd.type with
    | some i => bif Nat.beq i.size 0 then False else Zyp p fun a => Zx9 K (.pointer (some (a.add fd.offset)))
    | none => False)
   | none => False)
  | _, _ => False)
 | .field s x f => (match ev fr x, P.underlying s with
  | some (.agg cs), some (.struct fs) => (match fs[f]? with
   | some fd => (match P.underlying fd.type with
    | none => False
    | some (.struct _) | some (.array _ _) => (match P.info? fd.type with | some i => Zx9 K (.agg (cs.extract fd.offset (fd.offset + i.size))) | none => False)
    | some _ => optC cs[fd.offset]? (Zx9 K))
   | none => False)
  | _, _ => False)
 | .index t x ix => (match P.underlying t, ev fr x, ev fr ix with
  | some .string, some (.string s), some (.int _ i) => Zya s i fun b => Zx9 K (.int .u8 b)
  | some (.array n e), some (.agg cs), some (.int _ i) => (match P.underlying e, P.info? e with
   | some .string, some j => bif Nat.beq j.size 1 then idxAgg cs n i fun s => Zx9 K (.string s) else False
   | some (.int k), some j => bif Nat.beq j.size 1 then idxAggI k cs n i fun x => Zx9 K (.int k x) else False
   | _, _ => False)
  | _, _, _ => False)
 | .indexAddr t x ix => (match P.underlying t, ev fr x, ev fr ix with
  | some (.slice e), some (.slice p l _), some (.int _ i) => (match P.info? e with | some j => Zyx p l i fun a => Zx9 K (.pointer (some (a.add (i.toNat * j.size)))) | none => False)
  | some (.array n e), some (.pointer p), some (.int _ i) => (match P.info? e with | some j => Zyx p n i fun a => Zx9 K (.pointer (some (a.add (i.toNat * j.size)))) | none => False)
  | _, _, _ => False)
 | .slice t x lo hi mx => (match evI fr lo, evI fr hi, evI fr mx with
  | some lo', some hi', some mx' => (match P.underlying t, ev fr x with
   | some (.slice e), some (.slice p l c) => (match P.info? e with
    | some j => bif mx'.isSome && hi'.isNone then False else slS p l c j.size lo' hi' mx' fun p' l' c' => Zx9 K (.slice p' l' c')
    | none => False)
   | some (.array n e), some (.pointer p) => (match P.info? e with
    | some j => bif mx'.isSome && hi'.isNone then False else Zyp p fun a => slS (some a) n n j.size lo' hi' mx' fun p' l' c' => Zx9 K (.slice p' l' c')
    | none => False)
   | some .string, some (.string s) => bif mx'.isSome then False else Ya9 s lo' hi' fun s' => Zx9 K (.string s')
   | _, _ => False)
  | _, _, _ => False)
 | .load t x => (match ev fr x with | some (.pointer p) => Zyp p fun a => Ydu P t a w K | _ => False)
 | .build t parts => (match YbY fr parts.toList, (P.info? t).bind (·.zero), P.underlying t with
  | some vs, some z, some (.struct fs) => bif fs.toList.all (fun f => (P.info? f.type).isSome) then
    spC z.cells.size (fun i => (fs[i]?).map fun f => (f.offset, P.cellsOf f.type)) vs z.cells.toList fun l => Zx9 K (.agg ⟨l⟩) else False
  | some vs, some z, some (.array _ e) => (match P.info? e with
   | some j => spC z.cells.size (fun i => some (i * j.size, j.size)) vs z.cells.toList fun l => Zx9 K (.agg ⟨l⟩)
   | none => False)
  | _, _, _ => False)
 | .extract x i => (match ev fr x with | some (.tuple vs) => optC vs[i]? (Zx9 K) | _ => False)
 | .makeFunc f xs ys => (match evs fr xs.toList, evs fr ys.toList with | some vs, some us => Zx9 K (.func f vs.toArray us.toArray) | _, _ => False)
 | .makeInterface t x => (match P.underlying t, ev fr x with
  | some (.interface _), _ => False
  | some _, some v => Zx9 K (.iface t v)
  | _, _ => False)
 | .call { callee := .builtin .len, args, argTypes } => (match args.toList, argTypes.toList with
  | [x], [t] => (match ev fr x with | some v => lenV P t v K | none => False)
  | _, _ => False)
 | .call { callee := .builtin .cap, args, argTypes } => (match args.toList, argTypes.toList with
  | [x], [t] => (match ev fr x with | some v => capV P t v K | none => False)
  | _, _ => False)
 | .call { callee := .builtin .max, args, .. } => (match args.toList with
  | [x, y] => (match ev fr x, ev fr y with | some (.int k a), some (.int _ b) => Zx9 K (.int k (if b > a then b else a)) | _, _ => False)
  | _ => False)
 | .call { callee := .builtin .min, args, .. } => (match args.toList with
  | [x, y] => (match ev fr x, ev fr y with | some (.int k a), some (.int _ b) => Zx9 K (.int k (if b < a then b else a)) | _, _ => False)
  | _ => False)
 | _ => False
section sound
variable {P : Program} {n : Nat} {fr : Fr} {a : Act}
theorem Zz7 {t : TypeId} {d : TypeDesc} (h : P.underlying t = some d) (w : World) : (underlying t).run P w = .ok d w := by
 simp [underlying, h]
theorem intBin_o {op : BinOp} {k k' : IntKind} {t : TypeId} {x y : Int} {K : Value -> Prop} (hk : Yfg op = true \/ k = k') (h : intBin op k x y K) :
  ∃ v, K v /\ ∀ w, (binOp op t (.int k x) (.int k' y)).run P w = .ok v w := by
 cases op <;> simp only [intBin, Yfg] at h hk <;> (try simp only [Bool.false_eq_true, false_or] at hk; subst hk)
 case quo => exact ⟨_, h.2, fun w => by simp [binOp, Op.intDiv, h.1]⟩
 case rem => exact ⟨_, h.2, fun w => by simp [binOp, Op.intDiv, h.1]⟩
 case shl => exact ⟨_, h.2, fun w => by simp [binOp, Op.shift, show ¬ y < 0 by omega]⟩
 case shr => exact ⟨_, h.2, fun w => by simp [binOp, Op.shift, show ¬ y < 0 by omega]⟩
 all_goals exact ⟨_, h, fun w => by simp [binOp, Op.intArith, Op.intBits, Op.intCmp]⟩
theorem strBin_o {op : BinOp} {t : TypeId} {x y : ByteArray} {K : Value -> Prop} (h : strBin op x y K) :
  ∃ v, K v /\ ∀ w, (binOp op t (.string x) (.string y)).run P w = .ok v w := by
 cases op <;> simp only [strBin] at h
 case add =>
  refine ⟨_, h.2, fun w => ?_⟩
  have h1 := h.1
  have : ¬ (((x.size + y.size : Nat) : Int) > IntKind.i64.max) := by
   have : IntKind.i64.max = 9223372036854775807 := by decide
   omega
  simp only [binOp, Op.stringOp, this, if_false, Sem.run_pure]
 all_goals first | exact ⟨_, h, fun w => by simp [binOp, Op.stringOp]⟩ | exact h.elim
theorem guard_int (op : BinOp) (t : TypeId) (X Y : Operand) (k k' : IntKind) (a b : Int) (w : World) : (eqGuard op t X Y (.int k a) (.int k' b)).run P w = .ok () w := by cases op <;> rfl
theorem guard_str (op : BinOp) (t : TypeId) (X Y : Operand) (a b : ByteArray) (w : World) : (eqGuard op t X Y (.string a) (.string b)).run P w = .ok () w := by cases op <;> rfl
theorem guard_bool (op : BinOp) (t : TypeId) (X Y : Operand) (a b : Bool) (w : World) : (eqGuard op t X Y (.bool a) (.bool b)).run P w = .ok () w := by cases op <;> rfl
theorem guard_ptr (op : BinOp) (t : TypeId) (X Y : Operand) (a b : Option Addr) (w : World) : (eqGuard op t X Y (.pointer a) (.pointer b)).run P w = .ok () w := by cases op <;> rfl
theorem YgQ (op : BinOp) (t : TypeId) (X Y : Operand) (a b : Option Addr) (l c l' c' : Nat) (w : World) : (eqGuard op t X Y (.slice a l c) (.slice b l' c')).run P w = .ok () w := by cases op <;> rfl
theorem YfR {t : TypeId} (h : P.underlying t = some .bool) (a b : Bool) (w : World) : (Op.equal t (.bool a) (.bool b)).run P w = .ok (a == b) w := by
 simp only [Op.equal, Op.maxDepth]; unfold Op.equalIn; simp [Zz7 h]
theorem Yh0 {t e : TypeId} (h : P.underlying t = some (.pointer e)) (p : Option Addr) (w : World) : (Op.equal t (.pointer p) (.pointer none)).run P w = .ok p.isNone w := by
 simp only [Op.equal, Op.maxDepth]; unfold Op.equalIn; cases p <;> simp [Zz7 h]
theorem YeL {t e : TypeId} (h : P.underlying t = some (.slice e)) (p : Option Addr) (l c l' c' : Nat) (w : World) : (Op.equal t (.slice p l c) (.slice none l' c')).run P w = .ok p.isNone w := by
 simp only [Op.equal, Op.maxDepth]; unfold Op.equalIn; cases p <;> simp [Zz7 h]
theorem YgF {t : TypeId} {i : TypeInfo} {gs : Array Field} (hu : P.underlying t = some (.struct gs)) (hi : P.info? t = some i) (xs : Array Value) (off : Nat) (w : World) :
  (part t xs off).run P w = .ok (.agg (xs.extract off (off + i.size))) w := by
 simp [part, isAgg, run_underlying hu, sizeOf, typeInfo, hi]
theorem Yh1 {sub : Array Value -> Array Value -> List Field -> Option Bool} {n : Nat} (hsub : ∀ {xs ys : Array Value} {fs : List Field} {r : Bool}, sub xs ys fs = some r -> ∀ (d : Nat) (w : World), (Op.eqFields (d + n) xs ys fs).run P w = .ok r w) {xs ys : Array Value} :
  ∀ {fs : List Field} {r : Bool}, eqFsL P sub xs ys fs = some r -> ∀ (d : Nat) (w : World), (Op.eqFields (d + n + 1) xs ys fs).run P w = .ok r w
 | [], r, h, d, w => by simp only [eqFsL, Option.some.injEq] at h; subst h; simp [Op.eqFields]
 | f :: fs, r, h, d, w => by
  simp only [eqFsL] at h
  cases hn : f.name == "_" with
  | true => simp [hn] at h
  | false =>
   simp only [hn, cond_false] at h
   have hn' : f.name ≠ "_" := by simpa using hn
   split at h
   ·rename_i kk k a k' b r' hu hx hy hr
    have ih := Yh1 hsub hr d w
    have hp : P.plainKey f.type = true := by unfold Program.plainKey; rw [hu]
    cases hk : k == k' with
    | false => simp [hk] at h
    | true =>
     simp only [hk, cond_true, Option.some.injEq] at h
     have hkk : k = k' := by simpa using hk
     subst hkk
     simp only [Op.eqFields, hn', ne_eq, not_false_eq_true, if_true, Sem.run_bind, Go.run_part_plain w hp hx, Go.run_part_plain w hp hy, Result.andThen_ok, run_equalIn_int w (d + n) f.type k kk a b hu, Sem.run_ite, ih]
     subst h
     cases h2 : a == b <;> simp
   ·rename_i a b r' hu hx hy hr
    have ih := Yh1 hsub hr d w
    have hp : P.plainKey f.type = true := by unfold Program.plainKey; rw [hu]
    simp only [Option.some.injEq] at h
    simp only [Op.eqFields, hn', ne_eq, not_false_eq_true, if_true, Sem.run_bind, Go.run_part_plain w hp hx, Go.run_part_plain w hp hy, Result.andThen_ok, run_equalIn_bool' w (d + n) f.type a b hu, Sem.run_ite, ih]
    subst h
    cases h2 : a == b <;> simp
   ·rename_i a b r' hu hx hy hr
    have ih := Yh1 hsub hr d w
    have hp : P.plainKey f.type = true := by unfold Program.plainKey; rw [hu]
    simp only [Option.some.injEq] at h
    simp only [Op.eqFields, hn', ne_eq, not_false_eq_true, if_true, Sem.run_bind, Go.run_part_plain w hp hx, Go.run_part_plain w hp hy, Result.andThen_ok, run_equalIn_string w (d + n) f.type a b hu, Sem.run_ite, ih]
    subst h
    cases h2 : a.toList == b.toList <;> simp
   ·rename_i gs r' hu hr
    have ih := Yh1 hsub hr d w
    cases hs : P.stoodInHeld f.type with
    | true => simp [hs] at h
    | false =>
     simp only [hs, cond_false] at h
     split at h
     ·next i hi =>
      split at h
      ·next a ha =>
       simp only [Option.some.injEq] at h
       have hf : P.fieldsOf f.type = gs := by unfold Program.fieldsOf; rw [hu]
       have hu' : P.underlying f.type = some (.struct (P.fieldsOf f.type)) := by rw [hf]; exact hu
       have he := run_equalIn_agg w (d + n) f.type (xs.extract f.offset (f.offset + i.size)) (ys.extract f.offset (f.offset + i.size)) hu' hs
       rw [hf, hsub ha d w] at he
       simp only [Op.eqFields, hn', ne_eq, not_false_eq_true, if_true, Sem.run_bind, YgF hu hi, Result.andThen_ok, he, Sem.run_ite, ih]
       subst h
       cases a <;> simp
      ·cases h
     ·cases h
   ·simp at h
theorem eqFs_o : ∀ {n : Nat} {xs ys : Array Value} {fs : List Field} {r : Bool}, eqFs P n xs ys fs = some r -> ∀ (d : Nat) (w : World), (Op.eqFields (d + n) xs ys fs).run P w = .ok r w
 | 0, _, _, _, _, h, _, _ => by simp [eqFs] at h
 | n + 1, xs, ys, fs, r, h, d, w => Yh1 (fun h d w => eqFs_o h d w) h d w
theorem vcBin_o {op : BinOp} {t : TypeId} {x y : Value} {K : Value -> Prop} (X Y : Operand) (h : vcBin P op t x y K) :
  ∃ v, K v /\ ∀ w, (do eqGuard op t X Y x y; binOp op t x y : Sem Value).run P w = .ok v w := by
 unfold vcBin at h
 split at h
 ·rename_i xs ys
  split at h
  ·rename_i fs hu
   cases hg : (P.eqGuardType P.depth t || P.stoodInHeld t) with
   | true => simp [hg] at h
   | false =>
    simp only [hg, cond_false] at h
    simp only [Bool.or_eq_false_iff] at hg
    split at h
    ·rename_i b hb
     have hf : P.fieldsOf t = fs := by unfold Program.fieldsOf; rw [hu]
     have hu' : P.underlying t = some (.struct (P.fieldsOf t)) := by rw [hf]; exact hu
     have he : ∀ w, (Op.equalIn 10000 t (.agg xs) (.agg ys)).run P w = .ok b w := fun w => by
      rw [run_equalIn_agg w 9999 t xs ys hu' hg.2, hf]; exact eqFs_o (n := 3) hb 9996 w
     split at h
     ·exact ⟨_, h, fun w => by simp [run_eqGuard_agg w _ t X Y xs ys hg.1, run_eql_struct w t xs ys, he]⟩
     ·exact ⟨_, h, fun w => by simp [run_eqGuard_agg w _ t X Y xs ys hg.1, run_neq_struct w t xs ys, he]⟩
     ·exact h.elim
    ·exact h.elim
  ·exact h.elim
 ·rename_i k a k' b
  cases hc : (Yfg op || k == k') with
  | false => simp [hc] at h
  | true =>
   simp only [hc, cond_true] at h
   obtain ⟨v, hv, hr⟩ := intBin_o (P := P) (t := t) (k' := k') (by simpa using hc) h
   exact ⟨v, hv, fun w => by simp [guard_int, hr]⟩
 ·obtain ⟨v, hv, hr⟩ := strBin_o (P := P) (t := t) h
  exact ⟨v, hv, fun w => by simp [guard_str, hr]⟩
 ·split at h
  ·rename_i hu
   split at h
   ·exact ⟨_, h, fun w => by simp [guard_bool, binOp, YfR hu]⟩
   ·exact ⟨_, h, fun w => by simp [guard_bool, binOp, YfR hu]⟩
   ·exact h.elim
  ·exact h.elim
 ·split at h
  ·rename_i hu
   split at h
   ·exact ⟨_, h, fun w => by simp [guard_ptr, binOp, Yh0 hu]⟩
   ·exact ⟨_, h, fun w => by simp [guard_ptr, binOp, Yh0 hu]⟩
   ·exact h.elim
  ·exact h.elim
 ·split at h
  ·rename_i hu
   split at h
   ·exact ⟨_, h, fun w => by simp [YgQ, binOp, YeL hu]⟩
   ·exact ⟨_, h, fun w => by simp [YgQ, binOp, YeL hu]⟩
   ·exact h.elim
  ·exact h.elim
 ·exact h.elim
theorem guard_fn (op : BinOp) (t : TypeId) (X Y : Operand) (g : Fn) (a b : Array Value) (w : World) : (eqGuard op t X Y (.func g a b) .nilFunc).run P w = .ok () w := by cases op <;> rfl
theorem equalIn_fn {t : TypeId} {ps rs : Array TypeId} {v : Bool} (h : P.underlying t = some (.func ps rs v)) (g : Fn) (a b : Array Value) (w : World) : (Op.equal t (.func g a b) .nilFunc).run P w = .ok false w := by
 simp only [Op.equal, Op.maxDepth]; unfold Op.equalIn; simp [Zz7 h]
theorem vcBinV_o {op : BinOp} {t : TypeId} {x y : Value} {K : Value -> Prop} (X Y : Operand) (h : Ycr P op t x y K) :
  ∃ v, K v /\ ∀ w, (do eqGuard op t X Y x y; binOp op t x y : Sem Value).run P w = .ok v w := by
 unfold Ycr at h
 split at h
 ·unfold vcFnNil at h
  split at h
  ·rename_i ps rs v hq
   split at h
   ·obtain ⟨⟨g, a, b, rfl⟩, h⟩ := h
    exact ⟨_, h, fun w => by simp [guard_fn, binOp, equalIn_fn hq]⟩
   ·obtain ⟨⟨g, a, b, rfl⟩, h⟩ := h
    exact ⟨_, h, fun w => by simp [guard_fn, binOp, equalIn_fn hq]⟩
   ·exact h.elim
  ·exact h.elim
 ·exact vcBin_o X Y h
theorem vcBinO_o {op : BinOp} {t : TypeId} {x y : Value} {K : Value -> Prop} (X Y : Operand) (hY : ∀ v, Y = .const v -> y = v) (h : vcBinO P op t Y x y K) :
  ∃ v, K v /\ ∀ w, (do eqGuard op t X Y x y; binOp op t x y : Sem Value).run P w = .ok v w := by
 unfold vcBinO at h
 split at h
 ·obtain rfl := hY _ rfl
  unfold vcIfNil at h
  split at h
  ·rename_i ms hq
   have gn : ∀ (op : BinOp) (w : World), (eqGuard op t X (.const .nilIface) .nilIface .nilIface).run P w = .ok () w := fun op w => by cases op <;> cases X <;> rfl
   have gi : ∀ (op : BinOp) (t' : TypeId) (v : Value) (w : World), (eqGuard op t X (.const .nilIface) (.iface t' v) .nilIface).run P w = .ok () w := fun op t' v w => by cases op <;> rfl
   have en : ∀ w : World, (Op.equal t .nilIface .nilIface).run P w = .ok true w := fun w => by
    simp only [Op.equal, Op.maxDepth]; unfold Op.equalIn; simp [Zz7 hq]
   have ei : ∀ (t' : TypeId) (v : Value) (w : World), (Op.equal t (.iface t' v) .nilIface).run P w = .ok false w := fun t' v w => by
    simp only [Op.equal, Op.maxDepth]; unfold Op.equalIn; simp [Zz7 hq]
   split at h
   ·obtain ⟨rfl | ⟨t', v, rfl⟩, h⟩ := h
    ·exact ⟨_, h, fun w => by simp [gn, binOp, en, nilI]⟩
    ·exact ⟨_, h, fun w => by simp [gi, binOp, ei, nilI]⟩
   ·obtain ⟨rfl | ⟨t', v, rfl⟩, h⟩ := h
    ·exact ⟨_, h, fun w => by simp [gn, binOp, en, nilI]⟩
    ·exact ⟨_, h, fun w => by simp [gi, binOp, ei, nilI]⟩
   ·exact h.elim
  ·exact h.elim
 ·exact vcBinV_o X Y h
theorem vcUn_o {op : UnOp} {x : Value} {K : Value -> Prop} (h : vcUn op x K) : ∃ v, K v /\ ∀ w, (Op.unary op x).run P w = .ok v w := by
 unfold vcUn at h
 split at h
 ·exact ⟨_, h, fun w => by simp [Op.unary, Op.intArith]⟩
 ·exact ⟨_, h, fun w => by simp [Op.unary, Op.intBits]⟩
 ·exact ⟨_, h, fun w => by simp [Op.unary]⟩
 ·exact h.elim
theorem lenV_o {t : TypeId} {x : Value} {K : KR} (_w : World) (h : lenV P t x K) : ∃ v S, K v S /\ (∀ w, S w) /\ ∀ w', S w' -> ∀ ty, (Builtin.len_ #[t] ty #[x]).run P w' = .ok v w' := by
 unfold lenV at h
 split at h
 ·rename_i hu; exact ⟨_, _, h, fun _ => trivial, fun w' _ ty => by simp [Builtin.len_, Zz7 hu, goInt]⟩
 ·rename_i hu; exact ⟨_, _, h, fun _ => trivial, fun w' _ ty => by simp [Builtin.len_, Zz7 hu, goInt]⟩
 ·rename_i hu; exact ⟨_, _, h, fun _ => trivial, fun w' _ ty => by simp [Builtin.len_, Zz7 hu, goInt]⟩
 ·exact h.elim
theorem capV_o {t : TypeId} {x : Value} {K : KR} (_w : World) (h : capV P t x K) : ∃ v S, K v S /\ (∀ w, S w) /\ ∀ w', S w' -> ∀ ty, (Builtin.cap_ #[t] ty #[x]).run P w' = .ok v w' := by
 unfold capV at h
 split at h
 ·rename_i hu; exact ⟨_, _, h, fun _ => trivial, fun w' _ ty => by simp [Builtin.cap_, Zz7 hu, goInt]⟩
 ·rename_i hu; exact ⟨_, _, h, fun _ => trivial, fun w' _ ty => by simp [Builtin.cap_, Zz7 hu, goInt]⟩
 ·exact h.elim
theorem run_load_some {w : World} {a : Addr} {v : Value} (h : w.cell? a = some v) : (load a).run P w = .ok v w := by simp [h]
theorem vcLoad_o {t : TypeId} {ad : Addr} {w : World} {K : KR} (h : Ydu P t ad w K) :
  ∃ v S, K v S /\ S w /\ ∀ w', S w' -> (loadVar t ad).run P w' = .ok v w' := by
 have agg : ∀ d, P.underlying t = some d -> ((∃ fs, d = .struct fs) \/ (∃ k e, d = .array k e)) -> Ydu.vcLoadAgg P t ad w K ->
   ∃ v S, K v S /\ S w /\ ∀ w', S w' -> (loadVar t ad).run P w' = .ok v w' := by
  intro d hd hk h
  have hagg : ∀ w', (isAgg t).run P w' = .ok true w' := fun w' => by
   rcases hk with ⟨fs, rfl⟩ | ⟨k, e, rfl⟩ <;> simp [isAgg, Zz7 hd]
  unfold Ydu.vcLoadAgg at h
  split at h
  ·exact h.elim
  ·rename_i i hi
   have fin : ∀ vs : List Value, vs.length = i.size -> ∀ w', Zzn w' ad vs -> (loadVar t ad).run P w' = .ok (.agg ⟨vs⟩) w' := by
    intro vs hl w' hc
    have := run_loadCells_list (P := P) w' ad vs hc
    simp [loadVar, hagg, sizeOf, typeInfo, hi, <- hl, this]
   cases hb : Nat.ble i.size 16 with
   | true =>
    simp only [hb, cond_true] at h
    cases hf : Nat.beq (flat P 8 t).length i.size with
    | false => simp [hf] at h
    | true =>
     simp only [hf, cond_true] at h
     obtain ⟨vs, h1, h2, h3⟩ := ldCells_o h
     refine ⟨_, _, h3, fun j v hv => by simpa using h2 j v hv, fun w' hw' => fin vs (h1.trans (Nat.eq_of_beq_eq_true hf)) w' hw'⟩
   | false =>
    simp only [hb, cond_false] at h
    obtain ⟨cs, h1, h2, h3⟩ := h
    exact ⟨_, _, h3, h2, fun w' hw' => fin cs h1 w' hw'⟩
 unfold Ydu at h
 split at h
 ·exact h.elim
 ·rename_i fs hu; exact agg _ hu (.inl ⟨_, rfl⟩) h
 ·rename_i k e hu; exact agg _ hu (.inr ⟨_, _, rfl⟩) h
 ·rename_i d h1 h2 hu
  obtain ⟨v, hv, hK⟩ := ldSc_o h
  refine ⟨v, _, hK, hv, fun w' hw' => ?_⟩
  have hagg : (isAgg t).run P w' = .ok false w' := by
   simp only [isAgg, Sem.run_bind, Zz7 hu, Result.andThen_ok]
   cases d <;> first | exact absurd rfl (h1 _) | exact absurd rfl (h2 _ _) | rfl
  simp only [loadVar, Sem.run_bind, hagg, Result.andThen_ok, Bool.false_eq_true, if_false]
  exact run_load_some hw'
theorem push_all (bs : List UInt8) : ∀ s : ByteArray, (bs.map fun b : UInt8 => (b.toNat : Int)).foldl (fun r n => r.push (UInt8.ofNat n.toNat)) s = ⟨s.data ++ bs.toArray⟩ := by
 induction bs with
 | nil => intro s; cases s; simp
 | cons b bs ih =>
  intro s
  simp only [map_cons, foldl_cons, ih]
  cases s
  simp [ByteArray.push]
theorem run_bytes {w : World} {ad : Addr} {bs : List UInt8} (c : Nat) (h : Zzn w ad (bcells bs)) :
  (Conv.bytesToString (.slice (some ad) bs.length c)).run P w = .ok (.string ⟨bs.toArray⟩) w := by
 have h1 := run_loadCells_list (P := P) w ad _ h
 have h2 : bcells bs = (bs.map fun b : UInt8 => (b.toNat : Int)).map (Value.int .u8) := by simp [bcells]
 rw [h2, length_map, length_map] at h1
 rw [run_bytesToString w ad bs.length c _ h1, push_all]
 simp
theorem vcConv_o {s d : TypeId} {x : Value} {w : World} {K : KR} {dst : Option Tmp} {X : Operand} {ty : TypeId} {pos : String} {aft : Array Edge} {gd : Option (Nat × Bool)} (h : vcConv P s d x w K) :
  ∃ v S, K v S /\ S w /\ (isLd P ⟨dst, .convert s d X, ty, pos, aft, gd⟩ = false -> ∀ w', S w') /\ ∀ w', S w' -> (convert s d x).run P w' = .ok v w' := by
 unfold vcConv at h
 split at h
 ·exact h.elim
 ·rename_i d0 h0
  split at h
  ·rename_i hu; exact ⟨_, _, h, trivial, fun _ _ => trivial, fun w' _ => by cases d0 <;> simp [convert, Zz7 hu, Zz7 h0, Conv.intToInt]⟩
  ·rename_i hu; exact ⟨_, _, h, trivial, fun _ _ => trivial, fun w' _ => by cases d0 <;> simp [convert, Zz7 hu, Zz7 h0]⟩
  ·rename_i p l c hu
   split at h
   ·rename_i e
    split at h
    ·rename_i he
     obtain ⟨bs, hb, hK⟩ := h
     refine ⟨_, _, hK, hb, fun hld => by simp [isLd, hu, YdI, h0, he] at hld, fun w' hw' => ?_⟩
     rw [run_convert_bytes_string w' s d e p l c h0 he hu]
     cases p with
     | none =>
      have hw2 : bs = [] := hw'
      subst hw2; rfl
     | some ad =>
      obtain ⟨hsz, hc⟩ := hw'
      subst hsz
      exact run_bytes c hc
    ·exact h.elim
   ·exact h.elim
  ·exact h.elim
theorem fieldPlace_o {ad : Addr} {f : Field} {i : TypeInfo} (hi : P.info? f.type = some i) (h0 : Nat.beq i.size 0 = false) (w : World) :
  (fieldPlace ad f).run P w = .ok (ad.add f.offset) w := by
 have : ¬ i.size = 0 := fun h => by rw [h] at h0; exact absurd h0 (by decide)
 simp [fieldPlace, sizeOf, typeInfo, hi, this]
theorem ZyQ (k : IntKind) (i : Int) (q y : Nat) (c : BoundsCode) (hn : i = (q : Int)) (hy : q <= y) (w : World) : (Instr.sliceBound (.int k i) y c).run P w = .ok q w := by
 subst hn
 simp [Instr.sliceBound, asIntOf, hy]
inductive IsB : Option Value -> Option Int -> Prop
 | no : IsB none none
 | yes (k : IntKind) (i : Int) : IsB (some (.int k i)) (some i)
theorem IsB.none_of {x : Option Value} (h : IsB x none) : x = none := by cases h; rfl
theorem Ydz {isS : Bool} {len cap l h m : Nat} {lo hi mx : Option Value} {lo' hi' mx' : Option Int}
  (e1 : IsB lo lo') (e2 : IsB hi hi') (e3 : IsB mx mx') (hx : (mx'.isSome && hi'.isNone) = false)
  (h1 : lo'.getD 0 = (l : Int)) (h2 : hi'.getD len = (h : Int)) (h3 : mx'.getD cap = (m : Int)) (hlh : l <= h) (hhm : h <= m) (hmc : m <= cap) (w : World) :
  (Instr.sliceBounds isS len cap lo hi mx).run P w = .ok (l, h, m) w := by
 cases e1 <;> cases e2 <;> cases e3 <;> simp only [Option.getD_none, Option.getD_some] at h1 h2 h3 <;> (try (simp at hx; done)) <;>
  simp only [Instr.sliceBounds, Sem.run_bind, Sem.run_pure, Result.andThen_ok]
 case no.no.no =>
  rw [show l = 0 by omega, show h = len by omega, show m = cap by omega]
 case no.yes.no k i =>
  have a1 : m = cap := by omega
  subst a1
  rw [ZyQ k i h m _ h2 hhm]
  rw [show l = 0 by omega]; rfl
 case no.yes.yes k i k' i' =>
  rw [ZyQ k' i' m cap _ h3 hmc]
  simp only [Result.andThen_ok]
  rw [ZyQ k i h m _ h2 hhm]
  rw [show l = 0 by omega]; rfl
 case yes.no.no k i =>
  have a1 : m = cap := by omega
  have a2 : h = len := by omega
  subst a1; subst a2
  simp only [Option.isSome]
  rw [ZyQ k i l h _ h1 hlh]; rfl
 case yes.yes.no k i k' i' =>
  have a1 : m = cap := by omega
  subst a1
  rw [ZyQ k' i' h m _ h2 hhm]
  simp only [Result.andThen_ok, Option.isSome]
  rw [ZyQ k i l h _ h1 hlh]; rfl
 case yes.yes.yes k i k' i' k2 i2 =>
  rw [ZyQ k2 i2 m cap _ h3 hmc]
  simp only [Result.andThen_ok]
  rw [ZyQ k' i' h m _ h2 hhm]
  simp only [Result.andThen_ok, Option.isSome]
  rw [ZyQ k i l h _ h1 hlh]; rfl
theorem evI_o (hs : Sim D n fr a) {x : Option Operand} {x' : Option Int} (h : evI fr x = some x') : IsB (x.map a.eval) x' := by
 cases x with
 | none => simp only [evI, Option.some.injEq] at h; subst h; exact .no
 | some y =>
  simp only [evI] at h
  split at h
  ·rename_i k i he
   simp only [Option.some.injEq] at h
   subst h
   rw [Option.map_some, hs.eval he]
   exact .yes k i
  ·simp at h
theorem YeJ (hs : Sim D n fr a) : ∀ {xs : List (Nat × Operand)} {vs : List (Nat × Value)}, YbY fr xs = some vs -> (xs.map fun (i, x) => (i, a.eval x)) = vs
 | [], vs, h => by simp only [YbY, Option.some.injEq] at h; simp [<- h]
 | (i, x) :: xs, vs, h => by
  simp only [YbY] at h
  cases h1 : ev fr x with
  | none => simp [h1] at h
  | some v =>
   cases h2 : YbY fr xs with
   | none => simp [h1, h2] at h
   | some us =>
    simp only [h1, h2, Option.some.injEq] at h
    simp [<- h, hs.eval h1, YeJ hs h2]
theorem foldl_set (vs : List Value) : ∀ (k off : Nat) (cells : List Value), off + k + vs.length <= cells.length ->
  ((vs.zipIdx k).foldl (fun cs (x : Value × Nat) => cs.setIfInBounds (off + x.2) x.1) cells.toArray).toList = cells.take (off + k) ++ vs ++ cells.drop (off + k + vs.length) := by
 induction vs with
 | nil => intro k off cells h; simp
 | cons v vs ih =>
  intro k off cells h
  simp only [length_cons] at h
  simp only [zipIdx_cons, foldl_cons, setIfInBounds_toArray]
  rw [ih (k + 1) off (cells.set (off + k) v) (by simp; omega)]
  have := list_seg_step cells (off + k) v vs (by omega)
  simp only [length_cons]
  rw [show off + (k + 1) = off + k + 1 by omega]
  exact this
theorem spC_o {N : Nat} {place : Nat -> Option (Nat × Nat)} {K : List Value -> Prop} : ∀ {parts : List (Nat × Value)} {l : List Value}, l.length = N -> spC N place parts l K ->
  ∃ l' : List Value, l'.length = N /\ Instr.fill place l.toArray parts = some l'.toArray /\ K l'
 | [], l, hl, h => ⟨l, hl, rfl, h⟩
 | (i, v) :: r, l, hl, h => by
  unfold spC at h
  split at h
  ·exact h.elim
  ·rename_i off size hp
   cases hb : Nat.ble (off + size) N with
   | false => simp [hb] at h
   | true =>
    have hle : off + size <= N := Nat.le_of_ble_eq_true hb
    simp only [hb, cond_true] at h
    split at h
    ·rename_i cs
     obtain ⟨hsz, h⟩ := h
     rw [jn_eq] at h
     obtain ⟨l', h1, h2, h3⟩ := spC_o (by simp [hl]; omega) h
     refine ⟨l', h1, ?_, h3⟩
     rw [<- h2, Instr.fill, hp]
     have hc : ¬ ((Value.cells (.agg cs)).size ≠ size || decide (off + (Value.cells (.agg cs)).size > l.toArray.size)) = true := by
      simp [Value.cells, hsz, hl]; omega
     dsimp only
     rw [if_neg hc]
     congr 1
     apply Array.ext'
     have := foldl_set cs.toList 0 off l (by simp [hsz, hl]; omega)
     simp only [Nat.add_zero, Array.length_toList, hsz] at this
     rw [<- this]
     obtain ⟨L⟩ := cs
     simp [Value.cells]
    ·rename_i hna
     cases h1 : Nat.beq size 1 with
     | false => simp [h1] at h
     | true =>
      have hs1 : size = 1 := Nat.eq_of_beq_eq_true h1
      subst hs1
      simp only [h1, cond_true] at h
      obtain ⟨ho, h⟩ := condT_o h
      have hv : v.cells = #[v] := by cases v <;> first | rfl | (simp [Value.oneCell'] at ho)
      obtain ⟨l', g1, g2, g3⟩ := spC_o (by simp [hl]; omega) h
      refine ⟨l', g1, ?_, g3⟩
      rw [<- g2, Instr.fill, hp]
      have hc : ¬ (v.cells.size ≠ 1 || decide (off + v.cells.size > l.toArray.size)) = true := by
       simp [hv, hl]; omega
      dsimp only
      rw [if_neg hc]
      congr 1
      apply Array.ext'
      have := foldl_set [v] 0 off l (by simp [hl]; omega)
      simp only [Nat.add_zero, length_cons, length_nil, Nat.zero_add] at this
      rw [hv]
      have e2 : (take off l ++ v :: drop (off + 1) l) = take off l ++ [v] ++ drop (off + 1) l := by simp
      rw [e2, <- this]
      simp
theorem vcRead_o (hs : Sim D n fr a) {o : Oper} {w : World} {K : KR} (h : Ydt P fr o w K) :
  ∃ v S, K v S /\ S w /\ (isLd P o = false -> ∀ w', S w') /\ ∀ w', S w' -> (execOp a.eval o).run P w' = .ok (.value v) w' := by
 obtain ⟨dst, op, ty, pos, aft, gd⟩ := o
 unfold Ydt at h
 dsimp only at h
 split at h
 · -- move
  split at h
  ·rename_i x v he; exact ⟨_, _, h, trivial, fun _ _ => trivial, fun w' _ => by simp [execOp, hs.eval he]⟩
  ·exact h.elim
 ·split at h
  ·rename_i x v he; exact ⟨_, _, h, trivial, fun _ _ => trivial, fun w' _ => by simp [execOp, hs.eval he]⟩
  ·exact h.elim
 · -- pick
  rename_i c x y
  split at h
  ·rename_i g hc
   have h' := condB_o h
   clear h
   rcases h' with ⟨rfl, h⟩ | ⟨rfl, h⟩
   ·split at h
    ·rename_i v he; exact ⟨_, _, h, trivial, fun _ _ => trivial, fun w' _ => by simp [execOp, hs.eval he, hs.eval hc, asBool]⟩
    ·exact h.elim
   ·split at h
    ·rename_i v he; exact ⟨_, _, h, trivial, fun _ _ => trivial, fun w' _ => by simp [execOp, hs.eval he, hs.eval hc, asBool]⟩
    ·exact h.elim
  ·exact h.elim
 · -- nilCheck
  split at h
  ·rename_i x p he
   obtain ⟨ad, rfl, h⟩ := YaL h
   exact ⟨_, _, h, trivial, fun _ _ => trivial, fun w' _ => by simp [execOp, hs.eval he]⟩
  ·exact h.elim
 · -- binOp
  rename_i op t x y yt
  split at h
  ·rename_i u v hu hv
   obtain ⟨r, hr, hrun⟩ := vcBinO_o x y (fun v' e => by subst e; simpa [ev] using hv.symm) h
   refine ⟨r, _, hr, trivial, fun _ _ => trivial, fun w' _ => ?_⟩
   have := hrun w'
   simp only [execOp, hs.eval hu, hs.eval hv, Sem.run_bind, this, Result.andThen_ok, Sem.run_pure] at this ⊢
  ·exact h.elim
 · -- unOp
  split at h
  ·rename_i u hu
   obtain ⟨r, hr, hrun⟩ := vcUn_o (P := P) h
   exact ⟨r, _, hr, trivial, fun _ _ => trivial, fun w' _ => by simp [execOp, hs.eval hu, hrun w']⟩
  ·exact h.elim
 · -- convert
  split at h
  ·rename_i u hu
   obtain ⟨r, S, hr, hS, hS2, hrun⟩ := vcConv_o h
   exact ⟨r, S, hr, hS, hS2, fun w' hw' => by simp [execOp, hs.eval hu, hrun w' hw']⟩
  ·exact h.elim
 · -- fieldAddr
  split at h
  ·rename_i p fs he hu
   split at h
   ·rename_i fd hf
    split at h
    ·rename_i i hi
     cases h0 : Nat.beq i.size 0 with
     | true => simp [h0] at h
     | false =>
      simp only [h0, cond_false] at h
      obtain ⟨ad, rfl, h⟩ := YaL h
      refine ⟨_, _, h, trivial, fun _ _ => trivial, fun w' _ => ?_⟩
      simp [execOp, hs.eval he, Instr.fieldAt, Zz7 hu, hf, Instr.sureAddr, fieldPlace_o hi h0]
    ·exact h.elim
   ·exact h.elim
  ·exact h.elim
 · -- field
  split at h
  ·rename_i cs fs he hu
   split at h
   ·rename_i fd hf
    split at h
    ·exact h.elim
    ·rename_i fs2 hu2
     split at h
     ·rename_i i hi
      exact ⟨_, _, h, trivial, fun _ _ => trivial, fun w' _ => by simp [execOp, hs.eval he, Instr.field, Zz7 hu, hf, part, isAgg, Zz7 hu2, asAgg, sizeOf, typeInfo, hi]⟩
     ·exact h.elim
    ·rename_i k2 e2 hu2
     split at h
     ·rename_i i hi
      exact ⟨_, _, h, trivial, fun _ _ => trivial, fun w' _ => by simp [execOp, hs.eval he, Instr.field, Zz7 hu, hf, part, isAgg, Zz7 hu2, asAgg, sizeOf, typeInfo, hi]⟩
     ·exact h.elim
    ·rename_i d h1 h2 hu2
     obtain ⟨v, hv, h⟩ := optC_o h
     refine ⟨_, _, h, trivial, fun _ _ => trivial, fun w' _ => ?_⟩
     have hagg : (isAgg fd.type).run P w' = .ok false w' := by
      simp only [isAgg, Sem.run_bind, Zz7 hu2, Result.andThen_ok]
      cases d <;> first | exact absurd rfl (h1 _) | exact absurd rfl (h2 _ _) | rfl
     simp [execOp, hs.eval he, Instr.field, Zz7 hu, hf, part, hagg, asAgg, hv]
   ·exact h.elim
  ·exact h.elim
 · -- index
  split at h
  ·rename_i s k i hu he hi
   obtain ⟨b, h0, hb, h⟩ := h
   exact ⟨_, _, h, trivial, fun _ _ => trivial, fun w' _ => by simp [execOp, hs.eval he, hs.eval hi, Instr.index, asIntOf, Zz7 hu, h0, hb]⟩
  ·rename_i n e cs k i hu he hi
   split at h
   ·rename_i j hu2 hj
    cases hj1 : Nat.beq j.size 1 with
    | false => simp [hj1] at h
    | true =>
     simp only [hj1, cond_true] at h
     obtain ⟨s, h0, h1, hc, h⟩ := h
     have hs1 : j.size = 1 := Nat.eq_of_beq_eq_true hj1
     refine ⟨_, _, h, trivial, fun _ _ => trivial, fun w' _ => ?_⟩
     have hagg : (isAgg e).run P w' = .ok false w' := by
      simp only [isAgg, Sem.run_bind, Zz7 hu2, Result.andThen_ok]
      rfl
     simp [execOp, hs.eval he, hs.eval hi, Instr.index, asIntOf, Zz7 hu, h0, h1, part, hagg, sizeOf, typeInfo, hj, hs1, hc]
   ·rename_i k2 j hu2 hj
    cases hj1 : Nat.beq j.size 1 with
    | false => simp [hj1] at h
    | true =>
     simp only [hj1, cond_true] at h
     obtain ⟨s, h0, h1, hc, h⟩ := h
     have hs1 : j.size = 1 := Nat.eq_of_beq_eq_true hj1
     refine ⟨_, _, h, trivial, fun _ _ => trivial, fun w' _ => ?_⟩
     have hagg : (isAgg e).run P w' = .ok false w' := by
      simp only [isAgg, Sem.run_bind, Zz7 hu2, Result.andThen_ok]
      rfl
     simp [execOp, hs.eval he, hs.eval hi, Instr.index, asIntOf, Zz7 hu, h0, h1, part, hagg, sizeOf, typeInfo, hj, hs1, hc]
   ·exact h.elim
  ·exact h.elim
 · -- indexAddr
  split at h
  ·rename_i e p l c k i hu he hi
   split at h
   ·rename_i j hj
    obtain ⟨h0, h1, h⟩ := h
    obtain ⟨ad, rfl, h⟩ := YaL h
    exact ⟨_, _, h, trivial, fun _ _ => trivial, fun w' _ => by simp [execOp, hs.eval he, hs.eval hi, Instr.indexAt, asIntOf, Zz7 hu, h0, h1, sizeOf, typeInfo, hj]⟩
   ·exact h.elim
  ·rename_i m e p k i hu he hi
   split at h
   ·rename_i j hj
    obtain ⟨h0, h1, h⟩ := h
    obtain ⟨ad, rfl, h⟩ := YaL h
    exact ⟨_, _, h, trivial, fun _ _ => trivial, fun w' _ => by simp [execOp, hs.eval he, hs.eval hi, Instr.indexAt, asIntOf, Zz7 hu, h0, h1, sizeOf, typeInfo, hj, Instr.sureAddr]⟩
   ·exact h.elim
  ·exact h.elim
 · -- slice
  rename_i t x lo hi mx
  split at h
  ·rename_i lo' hi' mx' e1 e2 e3
   split at h
   ·rename_i e p l c hu he
    split at h
    ·rename_i j hj
     cases hx : (mx'.isSome && hi'.isNone) with
     | true => simp [hx] at h
     | false =>
      simp only [hx, cond_false] at h
      obtain ⟨l1, h1, m1, a1, a2, a3, b1, b2, b3, h⟩ := h
      refine ⟨_, _, h, trivial, fun _ _ => trivial, fun w' _ => ?_⟩
      have hb := Ydz (P := P) (isS := true) (evI_o hs e1) (evI_o hs e2) (evI_o hs e3) hx a1 a2 a3 b1 b2 b3 w'
      simp [execOp, hs.eval he, Instr.sliceAt, Zz7 hu, Instr.slice, hb, sizeOf, typeInfo, hj]
    ·exact h.elim
   ·rename_i m e p hu he
    split at h
    ·rename_i j hj
     cases hx : (mx'.isSome && hi'.isNone) with
     | true => simp [hx] at h
     | false =>
      simp only [hx, cond_false] at h
      obtain ⟨ad, rfl, h⟩ := YaL h
      obtain ⟨l1, h1, m1, a1, a2, a3, b1, b2, b3, h⟩ := h
      refine ⟨_, _, h, trivial, fun _ _ => trivial, fun w' _ => ?_⟩
      have hb := Ydz (P := P) (isS := false) (evI_o hs e1) (evI_o hs e2) (evI_o hs e3) hx a1 a2 a3 b1 b2 b3 w'
      by_cases hml : m1 = l1
      ·simp [execOp, hs.eval he, Instr.sliceAt, Zz7 hu, hb, sizeOf, typeInfo, hj, Instr.sureAddr, hml]
      ·simp [execOp, hs.eval he, Instr.sliceAt, Zz7 hu, hb, sizeOf, typeInfo, hj, Instr.sureAddr, hml]
    ·exact h.elim
   ·rename_i s hu he
    cases hx : mx'.isSome with
    | true => simp [hx] at h
    | false =>
     simp only [hx, cond_false] at h
     obtain ⟨l1, h1, a1, a2, b1, b2, h⟩ := h
     refine ⟨_, _, h, trivial, fun _ _ => trivial, fun w' _ => ?_⟩
     have e3' := evI_o hs e3
     cases mx' with
     | some m => simp at hx
     | none =>
      cases mx with
      | some m => exact absurd e3'.none_of (by simp)
      | none =>
       have hb := Ydz (P := P) (isS := false) (cap := s.size) (m := s.size) (evI_o hs e1) (evI_o hs e2) .no (by simp) a1 a2 (by simp) b1 b2 (Nat.le_refl _) w'
       simp [execOp, hs.eval he, Instr.sliceAt, Zz7 hu, Instr.slice, hb]
   ·exact h.elim
  ·exact h.elim
 · -- load
  split at h
  ·rename_i t x p he
   obtain ⟨ad, rfl, h⟩ := YaL h
   obtain ⟨v, S, hK, hS, hrun⟩ := vcLoad_o h
   exact ⟨v, S, hK, hS, fun hld => by simp [isLd] at hld, fun w' hw' => by simp [execOp, hs.eval he, Instr.loadAt, Instr.sureAddr, hrun w' hw']⟩
  ·exact h.elim
 · -- build
  rename_i t parts
  split at h
  ·rename_i vs z fs he hz hu
   cases hall : fs.toList.all (fun f => (P.info? f.type).isSome) with
   | false => simp [hall] at h
   | true =>
    simp only [hall, cond_true] at h
    obtain ⟨l', h1, h2, h3⟩ := spC_o (by simp) h
    refine ⟨_, _, h3, trivial, fun _ _ => trivial, fun w' _ => ?_⟩
    have hp2 : (parts.map fun (i, x) => (i, a.eval x)) = vs.toArray := by
     apply Array.ext'; simpa using YeJ hs he
    cases hi : P.info? t with
    | none => simp [hi] at hz
    | some ti =>
     have hz' : ti.zero = some z := by simpa [hi] using hz
     have places : ∀ l : List Field, l.all (fun f => (P.info? f.type).isSome) = true ->
       (l.mapM fun f : Field => do pure (f.offset, <- sizeOf f.type) : Sem (List (Nat × Nat))).run P w' = .ok (l.map fun f => (f.offset, P.cellsOf f.type)) w' := by
      intro l
      induction l with
      | nil => intro _; simp
      | cons f l ih =>
       intro hl
       simp only [all_cons, Bool.and_eq_true] at hl
       cases hf : P.info? f.type with
       | none => simp [hf] at hl
       | some j =>
        have h1 : (sizeOf f.type).run P w' = .ok j.size w' := by simp [sizeOf, typeInfo, hf]
        have h2 := ih hl.2
        simp only [mapM_cons, Sem.run_bind, h1, Result.andThen_ok, Sem.run_pure, map_cons, Program.cellsOf, hf, Option.map_some, Option.getD_some]
        rw [h2]; rfl
     have pl := places fs.toList hall
     have hf2 : (fun i : Nat => (fs.toList.map fun f : Field => (f.offset, P.cellsOf f.type)).toArray[i]?) = fun i => (fs[i]?).map fun f => (f.offset, P.cellsOf f.type) := by
      funext i; simp
     have hm : (fs.mapM fun f : Field => do pure (f.offset, <- sizeOf f.type) : Sem (Array (Nat × Nat))).run P w' = .ok (fs.toList.map fun f => (f.offset, P.cellsOf f.type)).toArray w' := by
      have := mapM_toArray (m := Sem) (f := fun f : Field => (do pure (f.offset, <- sizeOf f.type) : Sem (Nat × Nat))) (l := fs.toList)
      rw [Array.toArray_toList] at this
      rw [this, Sem.run_map, pl]
      rfl
     rw [Array.toArray_toList] at h2
     simp only [execOp, hp2, Instr.build, zeroValue, typeInfo, Sem.run_bind, run_program, Result.andThen_ok, hi, hz', Sem.run_pure, Zz7 hu, hm, hf2, h2]
  ·rename_i vs z k e he hz hu
   split at h
   ·rename_i j hj
    obtain ⟨l', h1, h2, h3⟩ := spC_o (by simp) h
    refine ⟨_, _, h3, trivial, fun _ _ => trivial, fun w' _ => ?_⟩
    have hp2 : (parts.map fun (i, x) => (i, a.eval x)) = vs.toArray := by
     apply Array.ext'; simpa using YeJ hs he
    cases hi : P.info? t with
    | none => simp [hi] at hz
    | some ti =>
     have hz' : ti.zero = some z := by simpa [hi] using hz
     rw [Array.toArray_toList] at h2
     simp only [execOp, hp2, Instr.build, zeroValue, sizeOf, typeInfo, hj, Sem.run_bind, run_program, Result.andThen_ok, hi, hz', Sem.run_pure, Zz7 hu, h2]
   ·exact h.elim
  ·exact h.elim
 · -- extract
  split at h
  ·rename_i x i vs he
   obtain ⟨v, hv, h⟩ := optC_o h
   exact ⟨_, _, h, trivial, fun _ _ => trivial, fun w' _ => by simp [execOp, hs.eval he, Instr.extract, hv]⟩
  ·exact h.elim
 · -- makeFunc
  rename_i f xs ys
  split at h
  ·rename_i vs us e1 e2
   refine ⟨_, _, h, trivial, fun _ _ => trivial, fun w' _ => ?_⟩
   have h1 : xs.map a.eval = vs.toArray := by apply Array.ext'; simpa using hs.evals e1
   have h2 : ys.map a.eval = us.toArray := by apply Array.ext'; simpa using hs.evals e2
   simp [execOp, h1, h2, Instr.makeFunc]
  ·exact h.elim
 · -- makeInterface
  rename_i t x
  split at h
  ·exact h.elim
  ·rename_i d v hu he hni
   refine ⟨_, _, h, trivial, fun _ _ => trivial, fun w' _ => ?_⟩
   simp only [execOp, hs.eval hni, Instr.makeInterface, Sem.run_bind, Zz7 he, Result.andThen_ok]
   cases d <;> first | rfl | exact absurd rfl (hu _)
  ·exact h.elim
 · -- len
  rename_i args ats
  split at h
  ·rename_i x t e1 e2
   split at h
   ·rename_i v he
    obtain ⟨r, S, hK, hS, hrun⟩ := lenV_o w h
    refine ⟨r, S, hK, hS w, fun _ => hS, fun w' hw' => ?_⟩
    have e1' : args = #[x] := by apply Array.ext'; simpa using e1
    have e2' : ats = #[t] := by apply Array.ext'; simpa using e2
    subst e1'; subst e2'
    simp [execOp, resolve, invoke, builtin, hs.eval he, hrun w' hw']
   ·exact h.elim
  ·exact h.elim
 · -- cap
  rename_i args ats
  split at h
  ·rename_i x t e1 e2
   split at h
   ·rename_i v he
    obtain ⟨r, S, hK, hS, hrun⟩ := capV_o w h
    refine ⟨r, S, hK, hS w, fun _ => hS, fun w' hw' => ?_⟩
    have e1' : args = #[x] := by apply Array.ext'; simpa using e1
    have e2' : ats = #[t] := by apply Array.ext'; simpa using e2
    subst e1'; subst e2'
    simp [execOp, resolve, invoke, builtin, hs.eval he, hrun w' hw']
   ·exact h.elim
  ·exact h.elim
 · -- max
  rename_i args ats
  split at h
  ·rename_i x y e1
   split at h
   ·rename_i k u k' v hu hv
    refine ⟨_, _, h, trivial, fun _ _ => trivial, fun w' _ => ?_⟩
    have e1' : args = #[x, y] := by apply Array.ext'; simpa using e1
    subst e1'
    simp [execOp, resolve, invoke, builtin, hs.eval hu, hs.eval hv, Builtin.max_, Builtin.max2]
   ·exact h.elim
  ·exact h.elim
 · -- min
  rename_i args ats
  split at h
  ·rename_i x y e1
   split at h
   ·rename_i k u k' v hu hv
    refine ⟨_, _, h, trivial, fun _ _ => trivial, fun w' _ => ?_⟩
    have e1' : args = #[x, y] := by apply Array.ext'; simpa using e1
    subst e1'
    simp [execOp, resolve, invoke, builtin, hs.eval hu, hs.eval hv, Builtin.min_, Builtin.min2]
   ·exact h.elim
  ·exact h.elim
 ·exact h.elim
end sound
end Go.Vc
end
section
namespace Go.Vc
open Go Go.RowKit
variable {D : List Deferred}
def Ybh (k : IntKind) (x y : Int) : Int := k.wrap (BitVec.ofInt k.bits x &&& BitVec.ofInt k.bits y).toNat
def bOr (k : IntKind) (x y : Int) : Int := k.wrap (BitVec.ofInt k.bits x ||| BitVec.ofInt k.bits y).toNat
def bXor (k : IntKind) (x y : Int) : Int := k.wrap (BitVec.ofInt k.bits x ^^^ BitVec.ofInt k.bits y).toNat
def Yfz (k : IntKind) (x y : Int) : Int := k.wrap (BitVec.ofInt k.bits x &&& ~~~(BitVec.ofInt k.bits y)).toNat
def Yd0 (k : IntKind) (x y : Int) : Int := k.wrap (x * 2 ^ (min y.toNat k.bits))
def Yc8 (k : IntKind) (x y : Int) : Int := x.fdiv (2 ^ (min y.toNat k.bits))
inductive Sh where
 | one (s : Sc) | agg (l : List Sc)
def scs : List Sh -> List Sc
 | [] => []
 | .one s :: r => s :: scs r
 | .agg l :: r => l ++ scs r
def packs : List Sh -> List Value -> List Value
 | [], _ => []
 | .one _ :: r, v :: vs => v :: packs r vs
 | .one _ :: _, [] => []
 | .agg l :: r, vs => .agg ⟨vs.take l.length⟩ :: packs r (vs.drop l.length)
def Yce (l : List Sh) (vs : List Value) : Value :=
 match packs l vs with
 | [v] => v
 | us => .tuple ⟨us⟩
def Sc.fn : Sc -> Type -> Type
 | .int _, X => Int -> X
 | .bool, X => Bool -> X
 | .ptr, X => Option Addr -> X
 | .slice, X => Option Addr -> Nat -> Nat -> X
 | .str, X => ByteArray -> X
 | .val, X => Value -> X
def JT (R : Type) : List Sc -> Type
 | [] => R
 | s :: l => s.fn (JT R l)
def JT.lam {R : Type} : (l : List Sc) -> (List Value -> R) -> JT R l
 | [], F => F []
 | .int k :: l, F => fun n : Int => JT.lam l fun vs => F (.int k n :: vs)
 | .bool :: l, F => fun b : Bool => JT.lam l fun vs => F (.bool b :: vs)
 | .ptr :: l, F => fun p : Option Addr => JT.lam l fun vs => F (.pointer p :: vs)
 | .slice :: l, F => fun (p : Option Addr) (m c : Nat) => JT.lam l fun vs => F (.slice p m c :: vs)
 | .str :: l, F => fun s : ByteArray => JT.lam l fun vs => F (.string s :: vs)
 | .val :: l, F => fun v : Value => JT.lam l fun vs => F (v :: vs)
def JT.app {R : Type} : (l : List Sc) -> JT R l -> List (Option Value) -> (R -> Prop) -> Prop
 | [], J, [], G => G J
 | .int k :: l, J, some (.int k' n) :: vs, G => (bif k == k' then JT.app l (J n) vs G else False)
 | .bool :: l, J, some (.bool b) :: vs, G => JT.app l (J b) vs G
 | .ptr :: l, J, some (.pointer p) :: vs, G => JT.app l (J p) vs G
 | .slice :: l, J, some (.slice p m c) :: vs, G => JT.app l (J p m c) vs G
 | .str :: l, J, some (.string s) :: vs, G => JT.app l (J s) vs G
 | .val :: l, J, some v :: vs, G => JT.app l (J v) vs G
 | _, _, _, _ => False
def JT.ex {R : Type} : (l : List Sc) -> JT R l -> (List Value -> R -> Prop) -> Prop
 | [], J, F => F [] J
 | .int k :: l, J, F => ∃ n : Int, JT.ex l (J n) fun vs r => F (.int k n :: vs) r
 | .bool :: l, J, F => ∃ b : Bool, JT.ex l (J b) fun vs r => F (.bool b :: vs) r
 | .ptr :: l, J, F => ∃ p : Option Addr, JT.ex l (J p) fun vs r => F (.pointer p :: vs) r
 | .slice :: l, J, F => ∃ (p : Option Addr) (m c : Nat), JT.ex l (J p m c) fun vs r => F (.slice p m c :: vs) r
 | .str :: l, J, F => ∃ s : ByteArray, JT.ex l (J s) fun vs r => F (.string s :: vs) r
 | .val :: l, J, F => ∃ v : Value, JT.ex l (J v) fun vs r => F (v :: vs) r
def JT.all {R : Type} : (l : List Sc) -> JT R l -> (List Value -> R -> Prop) -> Prop
 | [], J, F => F [] J
 | .int k :: l, J, F => ∀ n : Int, JT.all l (J n) fun vs r => F (.int k n :: vs) r
 | .bool :: l, J, F => ∀ b : Bool, JT.all l (J b) fun vs r => F (.bool b :: vs) r
 | .ptr :: l, J, F => ∀ p : Option Addr, JT.all l (J p) fun vs r => F (.pointer p :: vs) r
 | .slice :: l, J, F => ∀ (p : Option Addr) (m c : Nat), JT.all l (J p m c) fun vs r => F (.slice p m c :: vs) r
 | .str :: l, J, F => ∀ s : ByteArray, JT.all l (J s) fun vs r => F (.string s :: vs) r
 | .val :: l, J, F => ∀ v : Value, JT.all l (J v) fun vs r => F (v :: vs) r
theorem JT.ex_lam {R : Type} : ∀ {l : List Sc} {G : List Value -> R} {F : List Value -> R -> Prop}, JT.ex l (JT.lam l G) F -> ∃ vs, F vs (G vs)
 | [], _, _, h => ⟨_, h⟩
 | .int _ :: _, _, _, ⟨_, h⟩ => let ⟨vs, h⟩ := JT.ex_lam h; ⟨_ :: vs, h⟩
 | .bool :: _, _, _, ⟨_, h⟩ => let ⟨vs, h⟩ := JT.ex_lam h; ⟨_ :: vs, h⟩
 | .ptr :: _, _, _, ⟨_, h⟩ => let ⟨vs, h⟩ := JT.ex_lam h; ⟨_ :: vs, h⟩
 | .slice :: _, _, _, ⟨_, _, _, h⟩ => let ⟨vs, h⟩ := JT.ex_lam h; ⟨_ :: vs, h⟩
 | .str :: _, _, _, ⟨_, h⟩ => let ⟨vs, h⟩ := JT.ex_lam h; ⟨_ :: vs, h⟩
 | .val :: _, _, _, ⟨_, h⟩ => let ⟨vs, h⟩ := JT.ex_lam h; ⟨_ :: vs, h⟩
theorem JT.app_lam {R : Type} : ∀ {l : List Sc} {G : List Value -> R} {ovs : List (Option Value)} {Φ : R -> Prop}, JT.app l (JT.lam l G) ovs Φ ->
  ∃ vs : List Value, ovs = vs.map some /\ Φ (G vs) := by
 intro l
 induction l with
 | nil =>
  intro G ovs Φ h
  cases ovs with
  | nil => exact ⟨[], rfl, h⟩
  | cons o r => exact h.elim
 | cons s l ih =>
  intro G ovs Φ h
  cases ovs with
  | nil => cases s <;> exact h.elim
  | cons o r =>
   cases o with
   | none => cases s <;> exact h.elim
   | some v =>
    cases s with
    | int k =>
     cases v <;> first | exact h.elim | skip
     rename_i k' n
     simp only [JT.app] at h
     cases hk : (k == k') with
     | false => simp [hk] at h
     | true =>
      simp only [hk, cond_true] at h
      have hk' : k = k' := by simpa using hk
      subst hk'
      obtain ⟨vs, h1, h2⟩ := ih h
      exact ⟨.int k n :: vs, by simp [h1], h2⟩
    | bool => cases v <;> first | exact h.elim | (obtain ⟨vs, h1, h2⟩ := ih h; exact ⟨_ :: vs, by simp [h1], h2⟩)
    | ptr => cases v <;> first | exact h.elim | (obtain ⟨vs, h1, h2⟩ := ih h; exact ⟨_ :: vs, by simp [h1], h2⟩)
    | slice => cases v <;> first | exact h.elim | (obtain ⟨vs, h1, h2⟩ := ih h; exact ⟨_ :: vs, by simp [h1], h2⟩)
    | str => cases v <;> first | exact h.elim | (obtain ⟨vs, h1, h2⟩ := ih h; exact ⟨_ :: vs, by simp [h1], h2⟩)
    | val => obtain ⟨vs, h1, h2⟩ := ih h; exact ⟨v :: vs, by simp [h1], h2⟩
theorem JT.all_app {R : Type} : ∀ {l : List Sc} {I : JT R l} {F : List Value -> R -> Prop} {ovs : List (Option Value)} {Φ : R -> Prop}, JT.all l I F -> JT.app l I ovs Φ ->
  ∃ (vs : List Value) (r : R), ovs = vs.map some /\ F vs r /\ Φ r := by
 intro l
 induction l with
 | nil =>
  intro I F ovs Φ hF h
  cases ovs with
  | nil => exact ⟨[], _, rfl, hF, h⟩
  | cons o r => exact h.elim
 | cons s l ih =>
  intro I F ovs Φ hF h
  cases ovs with
  | nil => cases s <;> exact h.elim
  | cons o r =>
   cases o with
   | none => cases s <;> exact h.elim
   | some v =>
    cases s with
    | int k =>
     cases v <;> first | exact h.elim | skip
     rename_i k' n
     simp only [JT.app] at h
     cases hk : (k == k') with
     | false => simp [hk] at h
     | true =>
      simp only [hk, cond_true] at h
      have hk' : k = k' := by simpa using hk
      subst hk'
      obtain ⟨vs, r', h1, h2, h3⟩ := ih (hF n) h
      exact ⟨.int k n :: vs, r', by simp [h1], h2, h3⟩
    | bool => cases v <;> first | exact h.elim | (obtain ⟨vs, r', h1, h2, h3⟩ := ih (hF _) h; exact ⟨_ :: vs, r', by simp [h1], h2, h3⟩)
    | ptr => cases v <;> first | exact h.elim | (obtain ⟨vs, r', h1, h2, h3⟩ := ih (hF _) h; exact ⟨_ :: vs, r', by simp [h1], h2, h3⟩)
    | slice => cases v <;> first | exact h.elim | (obtain ⟨vs, r', h1, h2, h3⟩ := ih (hF _ _ _) h; exact ⟨_ :: vs, r', by simp [h1], h2, h3⟩)
    | str => cases v <;> first | exact h.elim | (obtain ⟨vs, r', h1, h2, h3⟩ := ih (hF _) h; exact ⟨_ :: vs, r', by simp [h1], h2, h3⟩)
    | val => obtain ⟨vs, r', h1, h2, h3⟩ := ih (hF v) h; exact ⟨v :: vs, r', by simp [h1], h2, h3⟩
theorem JT.ex_of_app : ∀ {l : List Sc} {J : JT (World -> Prop) l} {us : List Value} {w : World} {F : List Value -> Prop}, JT.app l J (us.map some) (fun r => r w) -> F us ->
  JT.ex l J fun vs r => F vs /\ r w := by
 intro l
 induction l with
 | nil =>
  intro J us w F h hF
  cases us with
  | nil => exact ⟨hF, h⟩
  | cons o r => exact h.elim
 | cons s l ih =>
  intro J us w F h hF
  cases us with
  | nil => cases s <;> exact h.elim
  | cons v r =>
   simp only [map_cons] at h
   cases s with
   | int k =>
    cases v <;> first | exact h.elim | skip
    rename_i k' n
    simp only [JT.app] at h
    cases hk : (k == k') with
    | false => simp [hk] at h
    | true =>
     simp only [hk, cond_true] at h
     have hk' : k = k' := by simpa using hk
     subst hk'
     exact ⟨n, ih (F := fun vs => F (.int k n :: vs)) h hF⟩
   | bool => cases v <;> first | exact h.elim | exact ⟨_, ih (F := fun vs => F (_ :: vs)) h hF⟩
   | ptr => cases v <;> first | exact h.elim | exact ⟨_, ih (F := fun vs => F (_ :: vs)) h hF⟩
   | slice => cases v <;> first | exact h.elim | exact ⟨_, _, _, ih (F := fun vs => F (_ :: vs)) h hF⟩
   | str => cases v <;> first | exact h.elim | exact ⟨_, ih (F := fun vs => F (_ :: vs)) h hF⟩
   | val => exact ⟨v, ih (F := fun vs => F (v :: vs)) h hF⟩
def Zzj {T : Type} (k : T) (A : T -> Prop) : Prop := A k
theorem Zzb {T : Type} {k : T} {A : T -> Prop} (h : ∀ J : T, J = k -> A J) : Zzj k A := h k rfl
def Zz1 (P : Program) (f : FuncId) (args : Array Value) (w : World) (l : List Sh) (J : JT (World -> Prop) (scs l)) : Prop :=
 Calls P f args w fun e w' => JT.ex (scs l) J fun vs r => e = .returned (Yce l vs) /\ r w'
def shOf (P : Program) (t : TypeId) : Sh :=
 match P.underlying t with
 | some (.struct _) | some (.array _ _) => .agg (flat P 8 t)
 | _ => .one (scOf P t)
def YfW (P : Program) (t : TypeId) : List Sh :=
 match P.underlying t with
 | some (.tuple ts) => ts.toList.map (shOf P)
 | _ => [shOf P t]
def newB (w : World) (o : Obj) (K : Nat -> World -> Prop) : Prop := K w.heap.size (w.alloc o)
theorem newB_i {w : World} {o : Obj} {K : Nat -> World -> Prop} (h : ∀ b w', b = w.heap.size -> w' = w.alloc o -> K b w') : newB w o K := h _ _ rfl rfl
def Zy5 (P : Program) (t : TypeId) : Array Value := match (P.info? t).bind (·.zero) with | some z => z.cells | none => #[]
def setCells (w : World) (a : Addr) : Nat -> List Value -> World
 | _, [] => w
 | i, v :: l => setCells (w.setCell (a.add i) v) a (i + 1) l
def canW (w : World) (a : Addr) : Prop := (∃ u, w.cell? a = some u) /\ w.frozen? a = false
def stV (w : World) (a : Addr) (v : Value) (K : World -> Prop) : Prop := canW w a /\ K (w.setCell a v)
def stN (w : World) (a : Addr) (cs : Array Value) (n : Nat) (K : World -> Prop) : Prop :=
 cs.size = n /\ (∀ v ∈ cs.toList, v.oneCell' = true) /\ (∀ j, j < n -> canW w (a.add j)) /\ K (setCells w a 0 cs.toList)
def Ygz (P : Program) (t : TypeId) (a : Addr) (v : Value) (w : World) (K : World -> Prop) : Prop :=
 match P.info? t with
 | none => False
 | some i =>
  match P.underlying t with
  | some (.interface _) => bif Nat.beq i.size 1 then condT v.oneCell' (stV w a v K) else False
  | _ => match v with
   | .agg cs => stN w a cs i.size K
   | v => bif Nat.beq i.size 1 then condT v.oneCell' (stV w a v K) else False
def YcO (P : Program) (t1 t2 : TypeId) (s x : Value) (w : World) (K : Option Addr -> Nat -> Nat -> World -> Prop) : Prop :=
 ∃ p l c w', (∀ ty, (Builtin.append_ #[t1, t2] ty #[s, x]).run P w = .ok (.slice p l c) w') /\ K p l c w'
def cpyJ (P : Program) (t1 t2 : TypeId) (d x : Value) (w : World) (K : Int -> World -> Prop) : Prop :=
 ∃ n w', (∀ ty, (Builtin.copy_ #[t1, t2] ty #[d, x]).run P w = .ok (.int .i64 n) w') /\ K n w'
def clrJ (P : Program) (t1 : TypeId) (x : Value) (w : World) (K : World -> Prop) : Prop :=
 ∃ w', (∀ ty, (Builtin.clear_ #[t1] ty #[x]).run P w = .ok (.tuple #[]) w') /\ K w'
def cvJ (P : Program) (t1 t2 : TypeId) (x : Value) (w : World) (K : Option Addr -> Nat -> Nat -> World -> Prop) : Prop :=
 ∃ p l c w', (convert t1 t2 x).run P w = .ok (.slice p l c) w' /\ K p l c w'
def cvStrJ (P : Program) (t1 t2 : TypeId) (x : Value) (w : World) (K : ByteArray -> World -> Prop) : Prop :=
 ∃ s w', (convert t1 t2 x).run P w = .ok (.string s) w' /\ K s w'
def mkS (w : World) (e : TypeId) (z : Array Value) (sz bytes : Nat) (len cap : Int) (K : Nat -> World -> Prop) : Prop :=
 0 <= len /\ len <= cap /\ (bytes : Int) * cap <= 281474976710656 /\ cap <= 9223372036854775807 /\ newB w (.cells (madeCells z (cap.toNat * sz)) e) K
def setBlk (w : World) (b : Nat) (o : Obj) : World := { w with heap := w.heap.setIfInBounds b o }
def nextS (w : World) (b : Nat) (K1 : Nat -> Int -> World -> Prop) (K2 : World -> Prop) : Prop :=
 ∃ s pos, w.heap[b]? = some (.stringIter s pos) /\
  (pos < s.size -> K1 pos (Utf8.decode s pos).1 (setBlk w b (.stringIter s (pos + (Utf8.decode s pos).2)))) /\ (¬ pos < s.size -> K2 w)
def Zqt (P : Program) (f : FuncId) : Bool :=
 match P.funcs[f]? with
 | some fn => !(fn.name == "runtime.NumGoroutine") && fn.body.isSome
 | none => false
def extJ (P : Program) (f : FuncId) (args : Array Value) (w : World) (l : List Sh) (J : JT (World -> Prop) (scs l)) : Prop :=
 ∃ v w', (callFunc f args).run P w = .ok (.value v) w' /\ JT.ex (scs l) J fun vs r => v = Yce l vs /\ r w'
def callVal (P : Program) (v : Value) (vs : List Value) (w : World) (l : List Sh) (J : JT (World -> Prop) (scs l)) : Prop :=
 match v with
 | .func (.func g) first captured => bif Zqt P g then Zz1 P g (first.toList ++ vs ++ captured.toList).toArray w l J else extJ P g (first.toList ++ vs ++ captured.toList).toArray w l J
 | _ => False
def vcEff (P : Program) (fr : Fr) (o : Oper) (w : World) (K : Value -> World -> Prop) : Prop :=
 match o.op with
 | .store t x y => (match ev fr x, ev fr y with
  | some (.pointer p), some v => Zyp p fun a => Ygz P t a v w (K undef)
  | _, _ => False)
 | .alloc t => bif ((P.info? t).bind (·.zero)).isSome then newB w (.cells (Zy5 P t) t) fun b w' => K (.pointer (some ⟨b, 0, none⟩)) w' else False
 | .box t x => (match ev fr x with | some v => newB w (.cells v.cells t) fun b w' => K (.pointer (some ⟨b, 0, none⟩)) w' | none => False)
 | .buildSlice t len parts => (match P.underlying t, YbY fr parts.toList with
  | some (.slice e), some vs => (match P.info? e with
   | some j => (match j.zero with
    | some z => bif Nat.ble (len * j.size) 16777216 && Nat.beq z.cells.size j.size then
      spC (len * j.size) (fun i => some (i * j.size, j.size)) vs (replicate len z.cells.toList).flatten fun l =>
       newB w (.cells ⟨l⟩ e) fun b w' => K (.slice (some ⟨b, 0, none⟩) len len) w'
     else False
    | none => False)
   | none => False)
  | _, _ => False)
 | .makeSlice t x y => (match P.underlying t, ev fr x, ev fr y with
  | some (.slice e), some (.int _ l), some (.int _ c) => (match P.info? e with
   | some j => bif j.zero.isSome then mkS w e (Zy5 P e) j.size j.bytes l c fun b w' => K (.slice (some ⟨b, 0, none⟩) l.toNat c.toNat) w' else False
   | none => False)
  | _, _, _ => False)
 | .convert s d x => (match P.underlying d, ev fr x with
  | some (.slice _), some v => cvJ P s d v w fun p l c w' => K (.slice p l c) w'
  | some .string, some v => cvStrJ P s d v w fun s' w' => K (.string s') w'
  | _, _ => False)
 | .range t x => (match P.underlying t, ev fr x with
  | some .string, some (.string s) => newB w (.stringIter s 0) fun b w' => K (.pointer (some ⟨b, 0, none⟩)) w'
  | _, _ => False)
 | .next x isStr => (match ev fr x with
  | some (.pointer p) => Zyp p fun a => bif Nat.beq a.off 0 && isStr then
    nextS w a.block (fun pos c w' => K (.tuple #[.bool true, .int .i64 pos, .int .i32 c]) w') (fun w' => K (.tuple #[.bool false]) w') else False
  | _ => False)
 | .call { callee := .value f, args, .. } => (match ev fr f, evs fr args.toList with
  | some fv, some vs => callVal P fv vs w (YfW P o.type) (JT.lam _ fun us w' => K (Yce (YfW P o.type) us) w')
  | _, _ => False)
 | .call { callee := .builtin .append, args, argTypes } => (match args.toList, argTypes.toList with
  | [x, y], [t1, t2] => (match ev fr x, ev fr y with
   | some s, some v => YcO P t1 t2 s v w fun p l c w' => K (.slice p l c) w'
   | _, _ => False)
  | _, _ => False)
 | .call { callee := .builtin .copy, args, argTypes } => (match args.toList, argTypes.toList with
  | [x, y], [t1, t2] => (match ev fr x, ev fr y with
   | some s, some v => cpyJ P t1 t2 s v w fun k w' => K (.int .i64 k) w'
   | _, _ => False)
  | _, _ => False)
 | .call { callee := .builtin .clear, args, argTypes } => (match args.toList, argTypes.toList with
  | [x], [t1] => (match ev fr x with
   | some s => clrJ P t1 s w fun w' => K (.tuple #[]) w'
   | _ => False)
  | _, _ => False)
 | _ => False
section sound
variable {P : Program} {n : Nat} {fr : Fr} {a : Act}
theorem Zyq {o : Oper} {w w' : World} {v : Value} {next : Act -> World -> Prop} {Q : Exit -> Act -> World -> Prop}
  (h : (execOp a.eval o).run P w = .ok (.value v) w') (hk : next (a.put o.dst v) w') : o.wp P a w next Q := by
 unfold Oper.wp; rw [h]; exact hk
theorem wp_of_skip {o : Oper} {w w' : World} {next : Act -> World -> Prop} {Q : Exit -> Act -> World -> Prop}
  (h : (execOp a.eval o).run P w = .ok .skip w') (hk : next (a.put o.dst undef) w') : o.wp P a w next Q := by
 unfold Oper.wp; rw [h]; exact hk
theorem add_zero' (a : Addr) : a.add 0 = a := by simp [Addr.add]
theorem canW_setCell {w : World} {a b : Addr} {v : Value} (h : canW w b) : canW (w.setCell a v) b := by
 obtain ⟨⟨u, hu⟩, hf⟩ := h
 refine ⟨?_, ?_⟩
 ·by_cases hab : a = b
  ·subst hab; exact ⟨v, World.cell?_setCell_same w a v hu⟩
  ·exact ⟨u, by rw [World.cell?_setCell_other w a b v hab]; exact hu⟩
 ·rw [World.frozen?_setCell]; exact hf
theorem Zqf : ∀ (l : List Value) (i : Nat) (w : World) (ad : Addr), (∀ v ∈ l, v.oneCell' = true) -> (∀ j, j < l.length -> canW w (ad.add (i + j))) ->
  (storeCells ad l i).run P w = .ok () (setCells w ad i l)
 | [], i, w, ad, _, _ => rfl
 | v :: l, i, w, ad, h1, h2 => by
  have h0 := h2 0 (by simp)
  obtain ⟨⟨u, hu⟩, hf⟩ := h0
  simp only [Nat.add_zero] at hu hf
  have hst : (store (ad.add i) v).run P w = .ok () (w.setCell (ad.add i) v) := by
   rw [run_store P w _ v _ (h1 v (by simp)), hu]
   simp [hf]
  simp only [storeCells, Sem.run_bind, hst, Result.andThen_ok, setCells]
  exact Zqf l (i + 1) _ ad (fun x hx => h1 x (by simp [hx])) (fun j hj => canW_setCell (by
   have := h2 (j + 1) (by simp; omega)
   rwa [show i + (j + 1) = i + 1 + j by omega] at this))
theorem vcStore_o {t : TypeId} {ad : Addr} {v : Value} {w : World} {K : World -> Prop} (h : Ygz P t ad v w K) :
  ∃ w', (storeVar t ad v).run P w = .ok () w' /\ K w' := by
 unfold Ygz at h
 split at h
 ·exact h.elim
 ·rename_i i hi
  split at h
  ·cases hb : Nat.beq i.size 1 with
   | false => simp [hb] at h
   | true =>
    simp only [hb, cond_true] at h
    obtain ⟨ho, hc, hk⟩ := condT_o h
    have hv : v.cells = #[v] := by cases v <;> first | rfl | (simp [Value.oneCell'] at ho)
    have h1 : i.size = 1 := Nat.eq_of_beq_eq_true hb
    refine ⟨_, ?_, hk⟩
    have := Zqf (P := P) [v] 0 w ad (by simpa using ho) (by intro j hj; simp at hj; subst hj; simpa [add_zero'] using hc)
    simp only [setCells, add_zero'] at this
    simp [storeVar, sizeOf, typeInfo, hi, hv, h1, this]
  ·split at h
   ·rename_i cs
    obtain ⟨h1, h2, h3, h4⟩ := h
    refine ⟨_, ?_, h4⟩
    have := Zqf (P := P) cs.toList 0 w ad h2 (by intro j hj; rw [Nat.zero_add]; exact h3 j (by simpa [h1] using hj))
    simp [storeVar, sizeOf, typeInfo, hi, Value.cells, h1, this]
   ·cases hb : Nat.beq i.size 1 with
    | false => simp [hb] at h
    | true =>
     simp only [hb, cond_true] at h
     obtain ⟨ho, hc, hk⟩ := condT_o h
     have hv : v.cells = #[v] := by cases v <;> first | rfl | (simp [Value.oneCell'] at ho)
     have h1 : i.size = 1 := Nat.eq_of_beq_eq_true hb
     refine ⟨_, ?_, hk⟩
     have := Zqf (P := P) [v] 0 w ad (by simpa using ho) (by intro j hj; simp at hj; subst hj; simpa [add_zero'] using hc)
     simp only [setCells, add_zero'] at this
     simp [storeVar, sizeOf, typeInfo, hi, hv, h1, this]
theorem YbJ (l : List Value) : ∀ (k i : Nat), i < k * l.length -> (replicate k l).flatten[i]? = l[i % l.length]?
 | 0, i, h => by simp at h
 | k + 1, i, h => by
  rw [replicate_succ, flatten_cons]
  by_cases hi : i < l.length
  ·rw [getElem?_append_left hi, Nat.mod_eq_of_lt hi]
  ·rw [getElem?_append_right (by omega), YbJ l k (i - l.length) (by rw [Nat.succ_mul] at h; omega)]
   congr 1
   rw [<- Nat.mod_eq_sub_mod (by omega)]
theorem zrow_eq (z : Array Value) (k : Nat) : (Array.range (k * z.size)).map (z[· % z.size]!) = (replicate k z.toList).flatten.toArray := by
 apply Array.ext'
 apply ext_getElem?
 intro i
 by_cases hi : i < k * z.size
 ·have h0 : 0 < z.size := by
   rcases Nat.eq_zero_or_pos z.size with h | h
   ·rw [h] at hi; omega
   ·exact h
  have hm : i % z.size < z.size := Nat.mod_lt _ h0
  rw [YbJ z.toList k i (by simpa using hi)]
  simp [hi, hm]
 ·have e1 : (replicate k z.toList).flatten.length = k * z.size := by simp
  rw [getElem?_eq_none (by simp; omega), getElem?_eq_none (by rw [e1]; omega)]
theorem zeroC_of {t : TypeId} {i : TypeInfo} {z : Value} (hi : P.info? t = some i) (hz : i.zero = some z) : Zy5 P t = z.cells := by
 simp [Zy5, hi, hz]
theorem vcEff_o (hs : Sim D n fr a) {o : Oper} {w : World} {K : Value -> World -> Prop} {next : Act -> World -> Prop} {Q : Exit -> Act -> World -> Prop}
  (h : vcEff P fr o w K) (hK : ∀ v w', K v w' -> next (a.put o.dst v) w') : o.wp P a w next Q := by
 obtain ⟨dst, op, ty, pos, aft, gd⟩ := o
 unfold vcEff at h
 dsimp only at h
 split at h
 · -- store
  rename_i t x y
  split at h
  ·rename_i p v hx hy
   obtain ⟨ad, rfl, h⟩ := YaL h
   obtain ⟨w', hr, hk⟩ := vcStore_o h
   exact wp_of_skip (w' := w') (by simp [execOp, hs.eval hx, hs.eval hy, Instr.storeAt, Instr.sureAddr, hr]) (hK _ _ hk)
  ·exact h.elim
 · -- alloc
  rename_i t
  cases hz : (P.info? t).bind (·.zero) with
  | none => simp [hz] at h
  | some z =>
   simp only [hz, Option.isSome_some, cond_true] at h
   cases hi : P.info? t with
   | none => simp [hi] at hz
   | some i =>
    have hz' : i.zero = some z := by simpa [hi] using hz
    refine Zyq (v := .pointer (some ⟨w.heap.size, 0, none⟩)) (w' := w.alloc (.cells z.cells t)) ?_ (hK _ _ ?_)
    ·simp [execOp, Instr.alloc, zeroValue, typeInfo, hi, hz', newVar, newRow]
    ·have := h; rw [zeroC_of hi hz'] at this; exact this
 · -- box
  rename_i t x
  split at h
  ·rename_i v hx
   refine Zyq (v := .pointer (some ⟨w.heap.size, 0, none⟩)) (w' := w.alloc (.cells v.cells t)) ?_ (hK _ _ h)
   simp [execOp, hs.eval hx, Instr.box, newVar, newRow]
  ·exact h.elim
 · -- buildSlice
  rename_i t len parts
  split at h
  ·rename_i e vs hu he
   split at h
   ·rename_i j hj
    split at h
    ·rename_i z hz
     cases hb : (Nat.ble (len * j.size) 16777216 && Nat.beq z.cells.size j.size) with
     | false => simp [hb] at h
     | true =>
      simp only [hb, cond_true] at h
      simp only [Bool.and_eq_true] at hb
      have h1 : len * j.size <= 16777216 := Nat.le_of_ble_eq_true hb.1
      have h2 : z.cells.size = j.size := Nat.eq_of_beq_eq_true hb.2
      obtain ⟨l', g1, g2, g3⟩ := spC_o (by simp [h2]) h
      rw [<- zrow_eq, h2] at g2
      refine Zyq (v := .slice (some ⟨w.heap.size, 0, none⟩) len len) (w' := w.alloc (.cells ⟨l'⟩ e)) ?_ (hK _ _ g3)
      have hp2 : (parts.map fun (i, x) => (i, a.eval x)) = vs.toArray := by
       apply Array.ext'; simpa using YeJ hs he
      have hn : ¬ (len * j.size > 2 ^ 24) := by omega
      by_cases h0 : len * j.size = 0
      ·rw [h0] at g2
       have g2' : Instr.fill (fun i => some (i * j.size, j.size)) #[] vs = some l'.toArray := by simpa [Array.range_zero'] using g2
       simp [execOp, hp2, Instr.buildSlice, Zz7 hu, sizeOf, typeInfo, hj, h0, Array.range_zero', g2', newRow]
      ·simp only [execOp, hp2, Instr.buildSlice, Zz7 hu, sizeOf, typeInfo, hj, hn, h0, if_false, Sem.run_bind, run_program, Result.andThen_ok, Sem.run_pure, zeroValue, hz]
       simp [h2, g2, newRow]
    ·exact h.elim
   ·exact h.elim
  ·exact h.elim
 · -- makeSlice
  rename_i t x y
  split at h
  ·rename_i e kl l kc c hu hx hy
   split at h
   ·rename_i j hj
    cases hz : j.zero with
    | none => simp [hz] at h
    | some z =>
     simp only [hz, Option.isSome_some, cond_true] at h
     obtain ⟨h1, h2, h3, h4, h5⟩ := h
     rw [zeroC_of hj hz] at h5
     have hr := run_make (P := P) w t e j z hu hj hz kl kc l c h1 h2 h3 h4
     exact Zyq (by simp [execOp, hs.eval hx, hs.eval hy, hr]) (hK _ _ h5)
   ·exact h.elim
  ·exact h.elim
 · -- convert
  rename_i s d x
  split at h
  ·rename_i v hu hx
   obtain ⟨p, l, c, w', hr, hk⟩ := h
   exact Zyq (w' := w') (by simp [execOp, hs.eval hx, hr]) (hK _ _ hk)
  ·rename_i v hu hx
   obtain ⟨s', w', hr, hk⟩ := h
   exact Zyq (w' := w') (by simp [execOp, hs.eval hx, hr]) (hK _ _ hk)
  ·exact h.elim
 · -- range
  rename_i t x
  split at h
  ·rename_i s hu hx
   refine Zyq (v := .pointer (some ⟨w.heap.size, 0, none⟩)) (w' := w.alloc (.stringIter s 0)) ?_ (hK _ _ h)
   simp [execOp, hs.eval hx, Instr.range, Zz7 hu]
  ·exact h.elim
 · -- next
  rename_i x isStr
  split at h
  ·rename_i p hx
   obtain ⟨ad, rfl, hn⟩ := YaL h
   clear h
   cases hb : (Nat.beq ad.off 0 && isStr) with
   | false => rw [hb] at hn; exact hn.elim
   | true =>
    rw [hb] at hn
    simp only [Bool.and_eq_true] at hb
    obtain ⟨hb1, rfl⟩ := hb
    have hoff : ad.off = 0 := Nat.eq_of_beq_eq_true hb1
    obtain ⟨s, pos, hh, h1, h2⟩ := hn
    obtain ⟨bk, off, sp⟩ := ad
    simp only at hoff hh h1 h2
    subst hoff
    have hlt : bk < w.heap.size := by
     rcases Nat.lt_or_ge bk w.heap.size with h | h
     ·exact h
     ·simp [Array.getElem?_eq_none h] at hh
    by_cases hp : pos < s.size
    ·refine Zyq (v := .tuple #[.bool true, .int .i64 pos, .int .i32 (Utf8.decode s pos).1]) (w' := setBlk w bk (.stringIter s (pos + (Utf8.decode s pos).2))) ?_ (hK _ _ (h1 hp))
     simp [execOp, hs.eval hx, Instr.next, getObj, setObj, Sem.run, hh, hp, goInt, setBlk]
    ·refine Zyq (v := .tuple #[.bool false]) (w' := w) ?_ (hK _ _ (h2 hp))
     simp [execOp, hs.eval hx, Instr.next, getObj, Sem.run, hh, hp]
  ·exact h.elim
 · -- call
  rename_i f args ats
  split at h
  ·rename_i fv vs hf hv
   unfold callVal at h
   split at h
   rotate_left
   ·exact h.elim
   rename_i g first captured
   have hargs : args.map a.eval = vs.toArray := by apply Array.ext'; simpa using hs.evals hv
   have hap : first ++ vs.toArray ++ captured = (first.toList ++ vs ++ captured.toList).toArray := by apply Array.ext'; simp
   cases hp : Zqt P g with
   | false =>
    simp only [hp, cond_false] at h
    obtain ⟨v, w', hr, hJ⟩ := h
    obtain ⟨us, he, hk⟩ := JT.ex_lam hJ
    subst he
    refine Zyq (w' := w') ?_ (hK _ _ hk)
    have : (execOp a.eval ⟨dst, .call { callee := .value f, args := args, argTypes := ats }, ty, pos, aft, gd⟩).run P w = (callFunc g (first.toList ++ vs ++ captured.toList).toArray).run P w := by
     simp only [execOp, resolve, hs.eval hf, hargs, Deferred.ofValue, invoke, Sem.run_bind, Sem.run_pure, Result.andThen_ok, hap]
    rw [this]; exact hr
   | true =>
    simp only [hp, cond_true] at h
    unfold Zqt at hp
    split at hp
    ·rename_i fn hfn
     simp only [Bool.and_eq_true, Bool.not_eq_true'] at hp
     have hbody : fn.body.isNone = false := by cases hb : fn.body <;> simp_all
     have hargs : args.map a.eval = vs.toArray := by apply Array.ext'; simpa using hs.evals hv
     have hrun : (execOp a.eval ⟨dst, .call { callee := .value f, args := args, argTypes := ats }, ty, pos, aft, gd⟩).run P w =
       .ok (.enter g (first.toList ++ vs ++ captured.toList).toArray) w := by
      have he : first ++ vs.toArray ++ captured = (first.toList ++ vs ++ captured.toList).toArray := by apply Array.ext'; simp
      simp only [execOp, resolve, hs.eval hf, hargs, Deferred.ofValue, invoke, callFunc, Sem.run_bind, Sem.run_pure, Result.andThen_ok, run_program, hfn, hp.1, Bool.false_eq_true, if_false, hbody, he]
     unfold Oper.wp
     rw [hrun]
     refine Calls.mono h fun e w' he => ?_
     obtain ⟨us, he, hr⟩ := JT.ex_lam he
     subst he
     exact hK _ _ hr
    ·simp at hp
  ·exact h.elim
 · -- append
  rename_i args ats
  split at h
  ·rename_i x y t1 t2 e1 e2
   split at h
   ·rename_i s v hx hy
    obtain ⟨p, l, c, w', hr, hk⟩ := h
    have e1' : args = #[x, y] := by apply Array.ext'; simpa using e1
    have e2' : ats = #[t1, t2] := by apply Array.ext'; simpa using e2
    subst e1'; subst e2'
    exact Zyq (w' := w') (by simp [execOp, resolve, invoke, builtin, hs.eval hx, hs.eval hy, hr]) (hK _ _ hk)
   ·exact h.elim
  ·exact h.elim
 · -- copy
  rename_i args ats
  split at h
  ·rename_i x y t1 t2 e1 e2
   split at h
   ·rename_i s v hx hy
    obtain ⟨k, w', hr, hk⟩ := h
    have e1' : args = #[x, y] := by apply Array.ext'; simpa using e1
    have e2' : ats = #[t1, t2] := by apply Array.ext'; simpa using e2
    subst e1'; subst e2'
    exact Zyq (w' := w') (by simp [execOp, resolve, invoke, builtin, hs.eval hx, hs.eval hy, hr]) (hK _ _ hk)
   ·exact h.elim
  ·exact h.elim
 · -- clear
  rename_i args ats
  split at h
  ·rename_i x t1 e1 e2
   split at h
   ·rename_i s hx
    obtain ⟨w', hr, hk⟩ := h
    have e1' : args = #[x] := by apply Array.ext'; simpa using e1
    have e2' : ats = #[t1] := by apply Array.ext'; simpa using e2
    subst e1'; subst e2'
    exact Zyq (w' := w') (by simp [execOp, resolve, invoke, builtin, hs.eval hx, hr]) (hK _ _ hk)
   ·exact h.elim
  ·exact h.elim
 ·exact h.elim
end sound
end Go.Vc
namespace Go.Vc
open Go Go.RowKit
variable {D : List Deferred}
def vcG (all : Array Oper) (o : Oper) (fr : Fr) (K : Fr -> Bool -> Prop) : Prop :=
 match o.guard with
 | none => K fr true
 | some (j, want) => match (all[j]?).bind (·.dst) with
  | none => False
  | some d => match fr d with
   | some (.bool g) => Zz2 g (K (fr.set d (some (.bool true))) want) (K (fr.set d (some (.bool false))) (!want))
   | some (.tuple _) => K fr false
   | _ => False
theorem vcG_o {n : Nat} {fr : Fr} {a : Act} (hs : Sim D n fr a) {all : Array Oper} {o : Oper} {K : Fr -> Bool -> Prop} (h : vcG all o fr K) :
  ∃ fr' r, Sim D n fr' a /\ K fr' r /\ Region.wanted o (yielded all a.tmps) = r := by
 unfold vcG at h
 split at h
 ·rename_i hg; exact ⟨fr, true, hs, h, by simp [Region.wanted, hg]⟩
 ·rename_i j want hg
  split at h
  ·exact h.elim
  ·rename_i d hd
   split at h
   ·rename_i g hfr
    have hy : yielded all a.tmps j = some g := by simp [yielded, hd, hs.val d _ hfr]
    have h' := condB_o h
    clear h
    rcases h' with ⟨rfl, h⟩ | ⟨rfl, h⟩
    ·exact ⟨_, want, hs.know hfr, h, by simp only [Region.wanted, hg, hy]; cases want <;> rfl⟩
    ·exact ⟨_, !want, hs.know hfr, h, by simp only [Region.wanted, hg, hy]; cases want <;> rfl⟩
   ·rename_i vs hfr
    have hy : yielded all a.tmps j = none := by simp [yielded, hd, hs.val d _ hfr]
    exact ⟨fr, false, hs, h, by simp only [Region.wanted, hg, hy]; rfl⟩
   ·exact h.elim
def Yfh (P : Program) (o : Oper) : Bool :=
 match o.op with
 | .store .. | .alloc .. | .box .. | .buildSlice .. | .makeSlice .. | .range .. | .next .. => true
 | .call { callee := .value _, .. } | .call { callee := .builtin .append, .. } | .call { callee := .builtin .copy, .. } | .call { callee := .builtin .clear, .. } => true
 | .convert s d _ => (match P.underlying d, P.underlying s with
  | some (.slice _), _ => true
  | some .string, some (.int _) => true
  | some .string, some (.slice _) => !YdI P s
  | _, _ => false)
 | _ => false
def vcOp1 (P : Program) (n : Nat) (all : Array Oper) (o : Oper) (fr : Fr) (w : World) (K : Fr -> World -> Prop) : Prop :=
 vcG all o fr fun fr' run => bif run then
   (bif Yfh P o then vcEff P fr' o w fun v w' => K (fr'.put n o.dst v) w' else Ydt P fr' o w fun v _ => K (fr'.put n o.dst v) w)
  else K (fr'.put n o.dst undef) w
def vcOps (P : Program) (n : Nat) (all : Array Oper) : List Oper -> Fr -> World -> (Fr -> World -> Prop) -> Prop
 | [], fr, w, K => K fr w
 | o :: r, fr, w, K => vcOp1 P n all o fr w fun fr' w' => vcOps P n all r fr' w' K
def YbP (L : List Nat) (a a' : Act) : Prop := ∀ t, t ∉ L -> a'.tmps[t]? = a.tmps[t]?
theorem YbP.refl (L : List Nat) (a : Act) : YbP L a a := fun _ _ => rfl
theorem YbP.trans {L : List Nat} {a b c : Act} (h : YbP L a b) (k : YbP L b c) : YbP L a c := fun t ht => (k t ht).trans (h t ht)
theorem YbP.mono {L L' : List Nat} {a b : Act} (h : YbP L a b) (hl : ∀ t, t ∈ L -> t ∈ L') : YbP L' a b := fun t ht => h t (fun hc => ht (hl t hc))
theorem YbP.put {a : Act} {dst : Option Tmp} {v : Value} {L : List Nat} (h : ∀ d, dst = some d -> d ∈ L) : YbP L a (a.put dst v) := by
 intro t ht
 cases dst with
 | none => rfl
 | some d =>
  have : d ≠ t := fun e => ht (e ▸ h d rfl)
  simp [Act.put, Array.getElem?_setIfInBounds_ne this]
def wrOps (l : List Oper) : List Nat := l.filterMap (·.dst)
theorem Yes {l : List Oper} {o : Oper} {d : Nat} (ho : o ∈ l) (hd : o.dst = some d) : d ∈ wrOps l := mem_filterMap.2 ⟨o, ho, hd⟩
theorem vcOps_o {P : Program} {n : Nat} {all : Array Oper} {Q : Exit -> Act -> World -> Prop} {L : List Nat} {K : Fr -> World -> Prop} :
  ∀ {l : List Oper} {fr : Fr} {a : Act} {w : World}, Sim D n fr a -> (∀ o ∈ l, ∀ d, o.dst = some d -> d ∈ L) -> vcOps P n all l fr w K ->
   (∀ fr' a' w', Sim D n fr' a' -> YbP L a a' -> K fr' w' -> Q .normal a' w') -> wpList P all Q l a w
 | [], fr, a, w, hs, _, h, hQ => hQ fr a w hs (YbP.refl L a) h
 | o :: r, fr, a, w, hs, hL, h, hQ => by
  simp only [vcOps, vcOp1] at h
  obtain ⟨fr', run, hs', hk, hw⟩ := vcG_o hs h
  have hput : ∀ v, YbP L a (a.put o.dst v) := fun v => YbP.put (hL o (by simp))
  have rest : ∀ v w', vcOps P n all r (fr'.put n o.dst v) w' K -> wpList P all Q r (a.put o.dst v) w' := fun v w' hr =>
   vcOps_o (hs'.put o.dst v) (fun o' ho' => hL o' (by simp [ho'])) hr (fun fr2 a2 w2 h1 h2 h3 => hQ fr2 a2 w2 h1 ((hput v).trans h2) h3)
  refine wpList_step fun K' hK' => ?_
  rw [hw]
  cases run with
  | false => exact hK' _ _ (rest undef w hk)
  | true =>
   simp only [cond_true] at hk
   simp only [if_true]
   cases he : Yfh P o with
   | true =>
    simp only [he, cond_true] at hk
    exact vcEff_o hs' hk (fun v w' hv => hK' _ _ (rest v w' hv))
   | false =>
    simp only [he, cond_false] at hk
    obtain ⟨v, S, hv, hS, _, hrun⟩ := vcRead_o hs' hk
    exact Zyq (hrun w hS) (hK' _ _ (rest v w hv))
def befL : List Oper -> List Nat -> List Nat
 | [], acc => acc
 | o :: r, acc => befL r (acc ++ [o.after.toList.foldl (fun s e => bif Region.binds .any e then s ||| 2 ^ e.on ||| acc.getD e.on 0 else s) 0])
def dep (ops : Array Oper) (j i : Nat) : Bool := ((befL ops.toList []).getD j 0).testBit i
theorem foldl_bits (acc : List Nat) (i : Nat) : ∀ (es : List Edge) (s : Nat),
  (es.foldl (fun s e => bif Region.binds .any e then s ||| 2 ^ e.on ||| acc.getD e.on 0 else s) s).testBit i = true ->
  s.testBit i = true \/ ∃ e ∈ es, Region.binds .any e = true /\ (e.on = i \/ (acc.getD e.on 0).testBit i = true)
 | [], s, h => .inl h
 | e :: es, s, h => by
  simp only [foldl_cons] at h
  rcases foldl_bits acc i es _ h with h1 | ⟨e', he', hb, hx⟩
  ·cases hb : Region.binds .any e with
   | false => simp only [hb, cond_false] at h1; exact .inl h1
   | true =>
    simp only [hb, cond_true, Nat.testBit_or, Bool.or_eq_true, Nat.testBit_two_pow, decide_eq_true_eq] at h1
    rcases h1 with (h1 | h1) | h1
    ·exact .inl h1
    ·exact .inr ⟨e, by simp, hb, .inl h1⟩
    ·exact .inr ⟨e, by simp, hb, .inr h1⟩
  ·exact .inr ⟨e', by simp [he'], hb, hx⟩
def Ways (ops : List Oper) (acc : List Nat) : Prop :=
 ∀ j i, (acc.getD j 0).testBit i = true -> ∃ o, ops[j]? = some o /\ ∃ e ∈ o.after.toList, Region.binds .any e = true /\ (e.on = i \/ (e.on < j /\ (acc.getD e.on 0).testBit i = true))
theorem Yhe (ops : List Oper) : ∀ (l pre : List Oper) (acc : List Nat), ops = pre ++ l -> acc.length = pre.length -> Ways ops acc -> Ways ops (befL l acc)
 | [], _, _, _, _, h => h
 | o :: r, pre, acc, h1, h2, h3 => by
  refine Yhe ops r (pre ++ [o]) _ (by simp [h1]) (by simp [h2]) ?_
  intro j i hb
  by_cases hj : j < acc.length
  ·have e1 : ∀ x, (acc ++ [x]).getD j 0 = acc.getD j 0 := fun x => by simp [getElem?_append_left hj]
   rw [e1] at hb
   obtain ⟨o', ho', e, he, hbd, hx⟩ := h3 j i hb
   refine ⟨o', ho', e, he, hbd, hx.imp id fun ⟨hlt, ht⟩ => ⟨hlt, ?_⟩⟩
   have : e.on < acc.length := by omega
   simpa [getElem?_append_left this] using ht
  ·by_cases hj2 : j = acc.length
   ·subst hj2
    have e1 : ∀ x : Nat, (acc ++ [x]).getD acc.length 0 = x := fun x => by simp
    rw [e1] at hb
    rcases foldl_bits acc i _ _ hb with h0 | ⟨e, he, hbd, hx⟩
    ·simp at h0
    ·refine ⟨o, by simp [h1, h2], e, he, hbd, ?_⟩
     rcases hx with hx | hx
     ·exact .inl hx
     ·have hlt : e.on < acc.length := by
       rcases Nat.lt_or_ge e.on acc.length with h | h
       ·exact h
       ·simp [getElem?_eq_none h] at hx
      exact .inr ⟨hlt, by simpa [getElem?_append_left hlt] using hx⟩
   ·exfalso
    have : (acc ++ [o.after.toList.foldl (fun s e => bif Region.binds .any e then s ||| 2 ^ e.on ||| acc.getD e.on 0 else s) 0]).length <= j := by simp; omega
    rw [getD_eq_getElem?_getD, getElem?_eq_none this] at hb
    simp at hb
def YbO (ops : Array Oper) (listed : Array Bool) : Prop :=
 ∀ j o, ops[j]? = some o -> listed.getD j true = true -> ∀ e ∈ o.after, Region.binds .any e = true -> listed.getD e.on false = true
theorem YbO.start (ops : Array Oper) : YbO ops (Array.replicate ops.size false) := by
 intro j o ho h
 have hlt : j < ops.size := (Array.getElem?_eq_some_iff.1 ho).1
 simp [hlt] at h
theorem YbO.step {ops : Array Oper} {listed : Array Bool} (h : YbO ops listed) {i : Nat} (hi : i ∈ Region.ready .any ops listed) : YbO ops (listed.setIfInBounds i true) := by
 intro j o ho hj e he hb
 by_cases hij : i = j
 ·subst hij
  obtain ⟨_, o', ho', hall⟩ := mem_ready.1 hi
  rw [ho] at ho'
  have : o = o' := by simpa using ho'
  subst this
  exact getD_set_true (hall e he hb)
 ·rw [getD_set_ne true hij] at hj
  exact getD_set_true (h j o ho hj e he hb)
theorem YbO.dep {ops : Array Oper} {listed : Array Bool} (hsz : listed.size = ops.size) (h : YbO ops listed) {i : Nat} (hi : listed.getD i true = false) :
  ∀ j, listed.getD j true = true -> j < ops.size -> ((befL ops.toList []).getD j 0).testBit i = true -> False := by
 have hw : Ways ops.toList (befL ops.toList []) := Yhe ops.toList ops.toList [] [] rfl rfl (by intro j i hb; simp at hb)
 intro j
 induction j using Nat.strongRecOn with
 | _ j ih =>
  intro hj hlt hb
  obtain ⟨o, ho, e, he, hbd, hx⟩ := hw j i hb
  have ho' : ops[j]? = some o := by simpa using ho
  have hl := h j o ho' hj e (by simpa using he) hbd
  rcases hx with hx | ⟨hlt2, hb2⟩
  ·subst hx
   have : e.on < listed.size := by
    rcases Nat.lt_or_ge e.on listed.size with h | h
    ·exact h
    ·simp [Array.getElem?_eq_none h] at hl
   simp [this] at hl hi
   rw [hl] at hi
   cases hi
  ·have hl2 : listed.getD e.on true = true := by
    have : e.on < listed.size := by omega
    simp [this] at hl ⊢
    exact hl
   exact ih e.on hlt2 hl2 (by omega) hb2
theorem ready_dep {ops : Array Oper} {listed : Array Bool} (hsz : listed.size = ops.size) (h : YbO ops listed) {i j : Nat} (hi : listed.getD i true = false) (hj : j ∈ Region.ready .any ops listed) :
  dep ops j i = false := by
 cases hd : dep ops j i with
 | false => rfl
 | true =>
  exfalso
  have hw : Ways ops.toList (befL ops.toList []) := Yhe ops.toList ops.toList [] [] rfl rfl (by intro j i hb; simp at hb)
  obtain ⟨o, ho, e, he, hbd, hx⟩ := hw j i hd
  obtain ⟨_, o', ho', hall⟩ := mem_ready.1 hj
  have : o = o' := by
   have : ops[j]? = some o := by simpa using ho
   rw [this] at ho'; simpa using ho'
  subst this
  have hl := hall e (by simpa using he) hbd
  have hlt : e.on < listed.size := by
   rcases Nat.lt_or_ge e.on listed.size with h | h
   ·exact h
   ·simp [Array.getElem?_eq_none h] at hl
  have hl2 : listed.getD e.on true = true := by simp [hlt] at hl ⊢; exact hl
  rcases hx with hx | ⟨_, hb2⟩
  ·subst hx; rw [hl2] at hi; cases hi
  ·exact YbO.dep hsz h hi e.on hl2 (by omega) hb2
abbrev Held := List (Nat × (World -> Prop))
def Yc7 (P : Program) (ops : Array Oper) (Q : Exit -> Act -> World -> Prop) (Γ : Held) : Nat -> Array Bool -> Act -> World -> Prop
 | 0, listed, a, w => Region.ready .any ops listed = [] /\ Q .normal a w
 | fuel + 1, listed, a, w =>
  (Region.ready .any ops listed = [] -> Q .normal a w) /\
  ∀ i ∈ Region.ready .any ops listed, wpOp P ops Q i (fun a' w' => (∀ p ∈ Γ, dep ops i p.1 = false -> p.2 w -> p.2 w') /\ Yc7 P ops Q Γ fuel (listed.setIfInBounds i true) a' w') a w
section
variable {P : Program} {ops : Array Oper} {Q : Exit -> Act -> World -> Prop}
theorem Yf7 {Γ : Held} : ∀ (fuel : Nat) (listed : Array Bool) (a : Act) (w : World), Yc7 P ops Q Γ fuel listed a w -> wpAny P .any ops Q fuel listed a w
 | 0, _, _, _, h => h
 | fuel + 1, _, _, _, h => ⟨h.1, fun i hi => wpOp_mono (fun a' w' h' => Yf7 fuel _ a' w' h'.2) (h.2 i hi)⟩
theorem Ygy {Γ : Held} {p : Nat × (World -> Prop)} : ∀ (fuel : Nat) (listed : Array Bool) (a : Act) (w : World), Yc7 P ops Q (p :: Γ) fuel listed a w -> Yc7 P ops Q Γ fuel listed a w
 | 0, _, _, _, h => h
 | fuel + 1, _, _, _, h => ⟨h.1, fun i hi => wpOp_mono (fun a' w' h' => ⟨fun q hq => h'.1 q (by simp [hq]), Ygy fuel _ a' w' h'.2⟩) (h.2 i hi)⟩
theorem Ycq {Γ : Held} {i : Nat} {S : World -> Prop} (hS : ∀ w, S w) : ∀ {fuel : Nat} {listed : Array Bool} {a : Act} {w : World}, Yc7 P ops Q Γ fuel listed a w -> Yc7 P ops Q ((i, S) :: Γ) fuel listed a w
 | 0, _, _, _, h => h
 | fuel + 1, _, _, _, h => ⟨h.1, fun j hj => wpOp_mono (fun a' w' h' => ⟨fun q hq hd => by
   rcases mem_cons.1 hq with rfl | hq
   ·exact fun _ => hS w'
   ·exact h'.1 q hq hd, Ycq hS h'.2⟩) (h.2 j hj)⟩
theorem YfM {i : Nat} {oi : Oper} {v : Value} {S : World -> Prop} {Γ : Held} (hi : ops[i]? = some oi) (hsel : ∀ (j : Nat) (o : Oper) cs b, ops[j]? = some o -> o.op ≠ .select cs b)
  (hQ : ∀ c a w, Q (.panic c) (a.put oi.dst v) w -> Q (.panic c) a w) :
  ∀ (fuel : Nat) (listed : Array Bool) (a : Act) (w : World), listed.size = ops.size -> YbO ops listed ->
   (∀ j oj, ops[j]? = some oj -> j ≠ i -> listed.getD j true = false -> (∀ e ∈ oj.after, Region.binds .any e = true -> e.on ≠ i) -> oi.apart ops oj = true) ->
   i ∈ Region.ready .any ops listed -> YieldsIf P ops S oi v a -> S w ->
   Yc7 P ops Q ((i, S) :: Γ) fuel (listed.setIfInBounds i true) (a.put oi.dst v) w -> Yc7 P ops Q Γ (fuel + 1) listed a w := by
 intro fuel
 induction fuel with
 | zero =>
  intro listed a w hsz hcl _ hr hy hS H
  refine ⟨fun h => (by rw [h] at hr; cases hr), fun j hj => ?_⟩
  by_cases hji : j = i
  ·subst hji; exact hy.wpOp hi hS ⟨fun _ _ _ h => h, H⟩
  ·have := ready_mono hj hji
   rw [H.1] at this
   cases this
 | succ fuel ih =>
  intro listed a w hsz hcl hfree hr hy hS H
  refine ⟨fun h => (by rw [h] at hr; cases hr), fun j hj => ?_⟩
  by_cases hji : j = i
  ·subst hji; exact hy.wpOp hi hS ⟨fun _ _ _ h => h, Ygy _ _ _ _ H⟩
  ·have h1 := H.2 j (ready_mono hj hji)
   obtain ⟨hjun, oj, hoj, hall⟩ := mem_ready.1 hj
   have hdep := ready_dep hsz hcl (mem_ready.1 hr).1 hj
   have hnot : ∀ e ∈ oj.after, Region.binds .any e = true -> e.on ≠ i := fun e he hb heq => by
    have h1 := hall e he hb
    have h0 := (mem_ready.1 hr).1
    rw [heq] at h1
    rcases Nat.lt_or_ge i listed.size with h' | h'
    ·simp [h'] at h0 h1; rw [h0] at h1; cases h1
    ·simp [Array.getElem?_eq_none h'] at h1
   have h2 := wpOp_putIf hoj (hfree j oj hoj hji hjun hnot) (fun cs b => hsel i oi cs b hi) (fun cs b => hsel j oj cs b hoj) hQ hy h1
   have hfree' : ∀ k ok, ops[k]? = some ok -> k ≠ i -> (listed.setIfInBounds j true).getD k true = false ->
     (∀ e ∈ ok.after, Region.binds .any e = true -> e.on ≠ i) -> oi.apart ops ok = true := fun k ok hk hki hun hno => by
    refine hfree k ok hk hki ?_ hno
    by_cases hjk : j = k
    ·subst hjk; exact hjun
    ·rw [getD_set_ne true hjk] at hun; exact hun
   refine wpOp_mono (fun a' w' h3 => ⟨fun p hp => h3.2.1 p (by simp [hp]), ih (listed.setIfInBounds j true) a' w' (by simp [hsz]) (hcl.step hj) hfree' (ready_mono hr (Ne.symm hji)) h3.1
    (h3.2.1 (i, S) (by simp) hdep hS) ?_⟩) h2
   rw [Array.setIfInBounds_comm _ _ hji]
   exact h3.2.2
end
inductive DA where
 | done | take (i : Nat) (k : DA) | eff (i : Nat) (k alt : DA) | none
def DA.idx : DA -> List Nat
 | .eff i _ alt => i :: alt.idx
 | _ => []
def oblC (ops : Array Oper) (i : Nat) (w' : World) (X : Prop) : Held -> Prop
 | [] => X
 | (k, S) :: r => bif dep ops i k then oblC ops i w' X r else S w' /\ oblC ops i w' X r
theorem oblC_o {ops : Array Oper} {i : Nat} {w w' : World} {X : Prop} : ∀ {Γ : Held}, oblC ops i w' X Γ -> (∀ p ∈ Γ, dep ops i p.1 = false -> p.2 w -> p.2 w') /\ X
 | [], h => ⟨by simp, h⟩
 | (k, S) :: r, h => by
  unfold oblC at h
  cases hd : dep ops i k with
  | true =>
   simp only [hd, cond_true] at h
   obtain ⟨h1, h2⟩ := oblC_o (w := w) h
   refine ⟨fun p hp hf => ?_, h2⟩
   rcases mem_cons.1 hp with rfl | hp
   ·rw [hd] at hf; cases hf
   ·exact h1 p hp hf
  | false =>
   simp only [hd, cond_false] at h
   obtain ⟨h1, h2⟩ := oblC_o (w := w) h.2
   refine ⟨fun p hp hf => ?_, h2⟩
   rcases mem_cons.1 hp with rfl | hp
   ·exact fun _ => h.1
   ·exact h1 p hp hf
def andAlt (alt : DA) (X Y : Prop) : Prop := match alt with | .none => X | _ => X /\ Y
def Yf1 (P : Program) (n : Nat) (ops : Array Oper) : Bool -> DA -> Nat -> Array Bool -> Held -> Fr -> World -> (Fr -> World -> Prop) -> Prop
 | _, .done, _, listed, _, fr, w, K => bif (Region.ready .any ops listed).isEmpty then K fr w else False
 | _, .take i k, fuel + 1, listed, Γ, fr, w, K => (match ops[i]? with
  | none => False
  | some o => bif Region.free .any ops listed i && (Region.ready .any ops listed).contains i && !Yfh P o then
    vcG ops o fr fun fr' run => bif run then
      Ydt P fr' o w fun v S => Yf1 P n ops true k fuel (listed.setIfInBounds i true) (bif isLd P o then (i, S) :: Γ else Γ) (fr'.put n o.dst v) w K
     else Yf1 P n ops true k fuel (listed.setIfInBounds i true) Γ (fr'.put n o.dst undef) w K
   else False)
 | chk, .eff i k alt, fuel + 1, listed, Γ, fr, w, K => (match ops[i]? with
  | none => False
  | some o => bif !chk || (i :: alt.idx) == Region.ready .any ops listed then
    andAlt alt (vcG ops o fr fun fr' run => bif run then
      (bif Yfh P o then vcEff P fr' o w fun v w' => oblC ops i w' (Yf1 P n ops true k fuel (listed.setIfInBounds i true) Γ (fr'.put n o.dst v) w' K) Γ
       else Ydt P fr' o w fun v _ => Yf1 P n ops true k fuel (listed.setIfInBounds i true) Γ (fr'.put n o.dst v) w K)
     else Yf1 P n ops true k fuel (listed.setIfInBounds i true) Γ (fr'.put n o.dst undef) w K)
     (Yf1 P n ops false alt (fuel + 1) listed Γ fr w K)
   else False)
 | false, .none, _, _, _, _, _, _ => True
 | _, _, _, _, _, _, _, _ => False
theorem vcDA_o {P : Program} {n : Nat} {ops : Array Oper} {Q : Exit -> Act -> World -> Prop} {K : Fr -> World -> Prop} (hns : Region.noSelect ops = true)
  (hP : ∀ c a w, Q (.panic c) a w -> False) {L : List Nat} {a0 : Act} (hL : ∀ o ∈ ops.toList, ∀ d, o.dst = some d -> d ∈ L)
  (hQ : ∀ fr' a' w', Sim D n fr' a' -> YbP L a0 a' -> K fr' w' -> Q .normal a' w') :
  ∀ (d : DA) (fuel : Nat) (listed : Array Bool) (Γ : Held) (fr : Fr) (a : Act) (w : World), listed.size = ops.size -> YbO ops listed -> Sim D n fr a -> YbP L a0 a ->
   (Yf1 P n ops true d fuel listed Γ fr w K -> Yc7 P ops Q Γ fuel listed a w) /\
   (Yf1 P n ops false d fuel listed Γ fr w K -> (∀ i ∈ d.idx, i ∈ Region.ready .any ops listed) -> ∀ fuel', fuel = fuel' + 1 ->
    ∀ i ∈ d.idx, wpOp P ops Q i (fun a' w' => (∀ p ∈ Γ, dep ops i p.1 = false -> p.2 w -> p.2 w') /\ Yc7 P ops Q Γ fuel' (listed.setIfInBounds i true) a' w') a w) := by
 intro d
 induction d with
 | done =>
  intro fuel listed Γ fr a w hsz hcl hs hk
  refine ⟨fun h => ?_, fun _ _ _ _ i hi => by simp [DA.idx] at hi⟩
  unfold Yf1 at h
  cases hr : (Region.ready .any ops listed).isEmpty with
  | false => simp [hr] at h
  | true =>
   simp only [hr, cond_true] at h
   have hr' : Region.ready .any ops listed = [] := by simpa using hr
   have := hQ fr a w hs hk h
   cases fuel with
   | zero => exact ⟨hr', this⟩
   | succ f => exact ⟨fun _ => this, by rw [hr']; simp⟩
 | none =>
  intro fuel listed Γ fr a w hsz hcl hs hk
  exact ⟨fun h => by unfold Yf1 at h; exact h.elim, fun _ _ _ _ i hi => by simp [DA.idx] at hi⟩
 | take i k ih =>
  intro fuel listed Γ fr a w hsz hcl hs hk
  refine ⟨fun h => ?_, fun _ _ _ _ j hj => by simp [DA.idx] at hj⟩
  cases fuel with
  | zero => unfold Yf1 at h; exact h.elim
  | succ fuel =>
   unfold Yf1 at h
   split at h
   ·exact h.elim
   ·rename_i o ho
    cases hb : (Region.free .any ops listed i && (Region.ready .any ops listed).contains i && !Yfh P o) with
    | false => rw [hb] at h; exact h.elim
    | true =>
     rw [hb] at h
     simp only [cond_true] at h
     simp only [Bool.and_eq_true] at hb
     obtain ⟨⟨hfree, hready⟩, _⟩ := hb
     have hmem : i ∈ Region.ready .any ops listed := by simpa using hready
     obtain ⟨fr', run, hs', hk', hw⟩ := vcG_o hs h
     have keep : ∀ v, YbP L a0 (a.put o.dst v) := fun v => hk.trans (YbP.put (hL o (by
      have : ops[i]? = some o := ho
      exact Array.mem_toList_iff.2 (Array.mem_of_getElem? this))))
     have cl' := hcl.step hmem
     cases run with
     | false =>
      simp only [cond_false] at hk'
      have H := (ih fuel (listed.setIfInBounds i true) Γ (fr'.put n o.dst undef) (a.put o.dst undef) w (by simp [hsz]) cl' (hs'.put o.dst undef) (keep undef)).1 hk'
      have hy : YieldsIf P ops (fun _ => True) o undef a := .inr ⟨hw, rfl⟩
      refine YfM ho (Region.noSelect_spec hns) (fun c a' w' hc => (hP c _ _ hc).elim) fuel listed a w hsz hcl (Region.free_spec ho hfree) hmem hy trivial ?_
      exact Ycq (fun _ => trivial) H
     | true =>
      simp only [cond_true] at hk'
      obtain ⟨v, S, hv, hS, hSall, hrun⟩ := vcRead_o hs' hk'
      have hy : YieldsIf P ops S o v a := .inl ⟨hw, hrun⟩
      have H := (ih fuel (listed.setIfInBounds i true) _ (fr'.put n o.dst v) (a.put o.dst v) w (by simp [hsz]) cl' (hs'.put o.dst v) (keep v)).1 hv
      refine YfM ho (Region.noSelect_spec hns) (fun c a' w' hc => (hP c _ _ hc).elim) fuel listed a w hsz hcl (Region.free_spec ho hfree) hmem hy hS ?_
      cases hld : isLd P o with
      | true => simp only [hld, cond_true] at H; exact H
      | false =>
       simp only [hld, cond_false] at H
       exact Ycq (hSall hld) H
 | eff i k alt ih1 ih2 =>
  intro fuel listed Γ fr a w hsz hcl hs hk
   -- the one operation
  have one : ∀ (fuel : Nat) (o : Oper), ops[i]? = some o -> i ∈ Region.ready .any ops listed ->
    vcG ops o fr (fun fr' run => bif run then
      (bif Yfh P o then vcEff P fr' o w fun v w' => oblC ops i w' (Yf1 P n ops true k fuel (listed.setIfInBounds i true) Γ (fr'.put n o.dst v) w' K) Γ
       else Ydt P fr' o w fun v _ => Yf1 P n ops true k fuel (listed.setIfInBounds i true) Γ (fr'.put n o.dst v) w K)
     else Yf1 P n ops true k fuel (listed.setIfInBounds i true) Γ (fr'.put n o.dst undef) w K) ->
    wpOp P ops Q i (fun a' w' => (∀ p ∈ Γ, dep ops i p.1 = false -> p.2 w -> p.2 w') /\ Yc7 P ops Q Γ fuel (listed.setIfInBounds i true) a' w') a w := by
   intro fuel o ho hmem h
   obtain ⟨fr', run, hs', hk', hw⟩ := vcG_o hs h
   have keep : ∀ v, YbP L a0 (a.put o.dst v) := fun v => hk.trans (YbP.put (hL o (Array.mem_toList_iff.2 (Array.mem_of_getElem? ho))))
   have cl' := hcl.step hmem
   have go : ∀ v w', Yf1 P n ops true k fuel (listed.setIfInBounds i true) Γ (fr'.put n o.dst v) w' K -> Yc7 P ops Q Γ fuel (listed.setIfInBounds i true) (a.put o.dst v) w' := fun v w' hv =>
    (ih1 fuel (listed.setIfInBounds i true) Γ (fr'.put n o.dst v) (a.put o.dst v) w' (by simp [hsz]) cl' (hs'.put o.dst v) (keep v)).1 hv
   unfold wpOp
   simp only [ho]
   rw [hw]
   cases run with
   | false => exact ⟨fun _ _ _ h => h, go undef w hk'⟩
   | true =>
    simp only [if_true]
    simp only [cond_true] at hk'
    cases he : Yfh P o with
    | true =>
     simp only [he, cond_true] at hk'
     exact .inl (vcEff_o hs' hk' (fun v w' hv => let ⟨h1, h2⟩ := oblC_o hv; ⟨h1, go v w' h2⟩))
    | false =>
     simp only [he, cond_false] at hk'
     obtain ⟨v, S, hv, hS, _, hrun⟩ := vcRead_o hs' hk'
     exact .inl (Zyq (hrun w hS) ⟨fun _ _ _ h => h, go v w hv⟩)
  have parts : ∀ X Y : Prop, andAlt alt X Y -> X /\ (alt.idx ≠ [] -> Y) := by
   intro X Y h
   cases alt <;> first | exact ⟨h.1, fun _ => h.2⟩ | exact ⟨h, fun hne => by simp [DA.idx] at hne⟩
  refine ⟨fun h => ?_, fun h hall fuel' hf j hj => ?_⟩
  ·cases fuel with
   | zero => unfold Yf1 at h; exact h.elim
   | succ fuel =>
    unfold Yf1 at h
    split at h
    ·exact h.elim
    ·rename_i o ho
     cases hb : (!true || (i :: alt.idx) == Region.ready .any ops listed) with
     | false => rw [hb] at h; exact h.elim
     | true =>
      rw [hb] at h
      simp only [cond_true] at h
      have hidx : (i :: alt.idx) = Region.ready .any ops listed := by simpa using hb
      obtain ⟨h1, h2⟩ := parts _ _ h
      refine ⟨fun h0 => by rw [<- hidx] at h0; simp at h0, fun j hj => ?_⟩
      rw [<- hidx] at hj
      rcases mem_cons.1 hj with rfl | hj
      ·exact one fuel o ho (by rw [<- hidx]; simp) h1
      ·have hne : alt.idx ≠ [] := fun e => by rw [e] at hj; cases hj
       exact (ih2 (fuel + 1) listed Γ fr a w hsz hcl hs hk).2 (h2 hne) (fun x hx => by rw [<- hidx]; simp [hx]) fuel rfl j hj
  ·subst hf
   unfold Yf1 at h
   split at h
   ·exact h.elim
   ·rename_i o ho
    simp only [Bool.not_false, Bool.true_or, cond_true] at h
    obtain ⟨h1, h2⟩ := parts _ _ h
    simp only [DA.idx] at hj hall
    rcases mem_cons.1 hj with rfl | hj
    ·exact one fuel' o ho (hall j (by simp)) h1
    ·have hne : alt.idx ≠ [] := fun e => by rw [e] at hj; cases hj
     exact (ih2 (fuel' + 1) listed Γ fr a w hsz hcl hs hk).2 (h2 hne) (fun x hx => hall x (by simp [hx])) fuel' rfl j hj
inductive Ex where
 | normal | exit (id : Nat) | ret | goto (l : Nat)
def YfQ : Exit -> Option Ex
 | .normal => some .normal
 | .exit id => some (.exit id)
 | .ret => some .ret
 | .goto l => some (.goto l)
 | _ => none
def wr : Code -> List Nat
 | .region _ ops _ => wrOps ops.toList
 | .seq x y => wr x ++ wr y
 | .cond _ x y => wr x ++ wr y
 | .block _ x => wr x
 | .loop x => wr x
 | .scope x => wr x
 | _ => []
def Fr.over (fr : Fr) (W : List Nat) (L : List Nat) (vs : List Value) : Fr := fun t =>
 match (L.zip vs).lookup t with
 | some v => some v
 | none => bif W.elem t then none else fr t
inductive Ann where
 | o | d (x : DA)
 | s (a b : Ann)
 | j (L : List (Nat × Sc)) (a b : Ann)
 | c (a b : Ann)
 | b (a : Ann)
 | l (L : List (Nat × Sc)) (a : Ann)
 | g (l : Nat) (a b : Ann)
 | k (l : Nat) (a : Ann)
 | h (L : List (Nat × Sc)) (a : Ann)
 | u
abbrev Yhk := Ex -> Fr -> World -> Prop
def Yhk.then (Q : Yhk) (K : Fr -> World -> Prop) : Yhk := fun e fr w => match e with | .normal => K fr w | e => Q e fr w
def Yhk.jump (l : Nat) (K : Fr -> World -> Prop) (Q : Yhk) : Yhk := fun e fr w => match e with | .goto l' => bif Nat.beq l' l then K fr w else False | e => Q e fr w
mutual
def ZyJ (P : Program) (n : Nat) : Ann -> Code -> Fr -> World -> Yhk -> Prop
 | .o, c, fr, w, Q => (match c with
   | .skip => Q .normal fr w
   | .ret => Q .ret fr w
   | .exit id => Q (.exit id) fr w
   | .goto l => Q (.goto l) fr w
   | .label _ => Q .normal fr w
   | .region _ ops draw => bif draw then False else vcOps P n ops ops.toList fr w (Q .normal)
   | _ => False)
 | .d x, c, fr, w, Q => (match c with
   | .region _ ops draw => bif draw && P.follows .mixedOrders && Region.noSelect ops then
     Yf1 P n ops true x ops.size (Array.replicate ops.size false) [] fr w.drew (Q .normal) else False
   | _ => False)
 | .s a b, c, fr, w, Q => (match c with
   | .seq x y => ZyJ P n a x fr w (Q.then fun fr' w' => ZyJ P n b y fr' w' Q)
   | _ => False)
 | .j L a b, c, fr, w, Q => (match c with
   | .seq x y =>
    Zzj (JT.lam (L.map (·.2)) fun vs w' => ZyJ P n b y (fr.over (wr x) (L.map (·.1)) vs) w' Q) fun J =>
     ZyJ P n a x fr w (Q.then fun fr' w' => JT.app (L.map (·.2)) J (L.map fun p => fr' p.1) fun r => r w')
   | _ => False)
 | .c a b, c, fr, w, Q => (match c with
   | .cond c x y => (match ev fr c with
    | some (.bool g) => Zz2 g (ZyJ P n a x fr w Q) (ZyJ P n b y fr w Q)
    | _ => False)
   | _ => False)
 | .b a, c, fr, w, Q => (match c with
   | .block id x => ZyJ P n a x fr w fun e fr' w' => match e with
    | .exit id' => bif Nat.beq id' id then Q .normal fr' w' else Q (.exit id') fr' w'
    | e => Q e fr' w'
   | _ => False)
 | .l L a, c, fr, w, Q => (match c with
   | .loop x => ∃ I : JT (World -> Nat -> Prop) (L.map (·.2)),
     (∃ m, JT.app (L.map (·.2)) I (L.map fun p => fr p.1) fun r => r w m) /\
     JT.all (L.map (·.2)) I fun vs r => ∀ w' m, r w' m ->
      ZyJ P n a x (fr.over (wr x) (L.map (·.1)) vs) w' (Q.then fun fr' w'' => ∃ m', m' < m /\ JT.app (L.map (·.2)) I (L.map fun p => fr' p.1) fun r => r w'' m')
   | _ => False)
 | .g l a b, c, fr, w, Q => (match c with
   | .scope x => (match findLabel x l with
    | some rest => ZyJ P n a x fr w (Yhk.jump l (fun fr' w' => ZyJ P n b rest fr' w' (Yhk.jump l (fun _ _ => False) Q)) Q)
    | none => False)
   | _ => False)
 | .k l a, c, fr, w, Q => (match c with
   | .scope x => bif (findLabel x l).isSome then ZqL P n l a x fr w Q else False
   | _ => False)
 | .h _ _, _, _, _, _ => False
 | .u, _, _, _, _ => False
/-- A scope's code up to a label to which is jumped back, and the rounds from there on. -/
def ZqL (P : Program) (n : Nat) (l : Nat) : Ann -> Code -> Fr -> World -> Yhk -> Prop
 | .s a b, c, fr, w, Q => (match c with
   | .seq x y => bif (findLabel x l).isNone then ZyJ P n a x fr w ((Yhk.jump l (fun _ _ => False) Q).then fun fr' w' => ZqL P n l b y fr' w' Q) else False
   | _ => False)
 | .h L a, c, fr, w, Q => (match c with
   | .seq (.label l') y => bif Nat.beq l' l then
     ∃ I : JT (World -> Nat -> Prop) (L.map (·.2)),
      (∃ m, JT.app (L.map (·.2)) I (L.map fun p => fr p.1) fun r => r w m) /\
      JT.all (L.map (·.2)) I fun vs r => ∀ w' m, r w' m ->
       ZyJ P n a y (fr.over (wr y) (L.map (·.1)) vs) w' (Yhk.jump l (fun fr' w'' => ∃ m', m' < m /\ JT.app (L.map (·.2)) I (L.map fun p => fr' p.1) fun r => r w'' m') Q)
     else False
   | _ => False)
 | _, _, _, _, _ => False
end
theorem wr_find {l : Nat} : ∀ {c rest : Code}, findLabel c l = some rest -> ∀ t, t ∈ wr rest -> t ∈ wr c
 | .seq a b, rest, h, t, ht => by
  unfold findLabel at h
  split at h
  ·rename_i r hr
   cases h
   simp only [wr, mem_append] at ht ⊢
   exact ht.imp (wr_find hr t) id
  ·simp only [wr, mem_append]; exact .inr (wr_find h t ht)
 | .label l', rest, h, t, ht => by
  unfold findLabel at h
  split at h
  ·cases h; simp [wr] at ht
  ·cases h
 | .skip, _, h, _, _ => by simp [findLabel] at h
 | .region .., _, h, _, _ => by simp [findLabel] at h
 | .cond .., _, h, _, _ => by simp [findLabel] at h
 | .block .., _, h, _, _ => by simp [findLabel] at h
 | .loop .., _, h, _, _ => by simp [findLabel] at h
 | .exit .., _, h, _, _ => by simp [findLabel] at h
 | .ret, _, h, _, _ => by simp [findLabel] at h
 | .scope .., _, h, _, _ => by simp [findLabel] at h
 | .goto .., _, h, _, _ => by simp [findLabel] at h
def QX (D : List Deferred) (n : Nat) (L : List Nat) (a0 : Act) (Q : Yhk) : Exit -> Act -> World -> Prop := fun e a w =>
 match YfQ e with
 | some x => ∃ fr, Sim D n fr a /\ YbP L a0 a /\ Q x fr w
 | none => False
theorem lookup_zip (t : Nat) (v : Value) : ∀ (L : List Nat) (vs : List Value), (L.zip vs).lookup t = some v -> ∃ k : Nat, L[k]? = some t /\ vs[k]? = some v
 | [], _, h => by simp at h
 | _ :: _, [], h => by simp at h
 | l :: L, u :: vs, h => by
  simp only [zip_cons_cons, lookup_cons] at h
  split at h
  ·rename_i hb
   have : t = l := by simpa using hb
   subst this
   exact ⟨0, rfl, by simpa using h⟩
  ·obtain ⟨k, h1, h2⟩ := lookup_zip t v L vs h
   exact ⟨k + 1, h1, h2⟩
theorem Sim.over {n : Nat} {fr fr' : Fr} {a a' : Act} {W : List Nat} {L : List (Nat × Sc)} {vs : List Value} (h : Sim D n fr a) (h' : Sim D n fr' a') (hk : YbP W a a')
  (hv : (L.map fun p => fr' p.1) = vs.map some) : Sim D n (fr.over W (L.map (·.1)) vs) a' := by
 refine ⟨h'.defers, h'.size, fun t v ht => ?_⟩
 unfold Fr.over at ht
 split at ht
 ·rename_i u hl
  simp only [Option.some.injEq] at ht
  subst ht
  obtain ⟨k, h1, h2⟩ := lookup_zip t u _ _ hl
  have h3 : (L.map fun p => fr' p.1)[k]? = some (some u) := by rw [hv]; simp [h2]
  rw [getElem?_map] at h1 h3
  cases hL : L[k]? with
  | none => simp [hL] at h1
  | some p =>
   simp only [hL, Option.map_some, Option.some.injEq] at h1 h3
   subst h1
   exact h'.val _ _ h3
 ·cases hw : W.elem t with
  | true => rw [hw] at ht; cases ht
  | false =>
   simp only [hw, cond_false] at ht
   rw [hk t (fun hc => by have := elem_eq_true_of_mem hc; rw [this] at hw; cases hw)]
   exact h.val t v ht
theorem Ygx {P : Program} {c : Code} {Q : Exit -> Act -> World -> Prop} {a : Act} {w : World} (I : Nat -> Act -> World -> Prop) (m : Nat) (h₀ : I m a w)
  (round : ∀ m a w, I m a w -> c.wp P (Exit.then (fun a' w' => ∃ m', m' < m /\ I m' a' w') Q) a w) : (Code.loop c).wp P Q a w := by
 intro b k cs
 have key : ∀ m a w, I m a w -> ∃ e a' w', Q e a' w' /\ Arrives P (lone (b.at a (.code c :: .inLoop c :: k)) cs w) b k cs e a' w' := by
  intro m
  induction m using Nat.strongRecOn with
  | _ m ih =>
   intro a w hI
   obtain ⟨e, a₁, w₁, hq, harr⟩ := round m a w hI b (.inLoop c :: k) cs
   cases e with
   | normal =>
    obtain ⟨m', hlt, hI₁⟩ := hq
    obtain ⟨e₂, a₂, w₂, hq₂, harr₂⟩ := ih m' hlt a₁ w₁ hI₁
    exact ⟨e₂, a₂, w₂, hq₂, .of_steps (Steps.trans harr (.one step_inLoop)) harr₂⟩
   | exit id => exact ⟨_, a₁, w₁, hq, .pass (x := .inLoop c) rfl (fun _ _ => .inl (by simp)) harr⟩
   | goto l => exact ⟨_, a₁, w₁, hq, .pass (x := .inLoop c) rfl (fun _ _ => .inl (by simp)) harr⟩
   | ret => exact ⟨_, a₁, w₁, hq, .pass (x := .inLoop c) rfl (fun _ _ => .inl (by simp)) harr⟩
   | panic ch => exact ⟨_, a₁, w₁, hq, .pass (x := .inLoop c) rfl (fun _ _ => .inl (by simp)) harr⟩
   | outgrown => exact ⟨_, a₁, w₁, hq, .pass (x := .inLoop c) rfl (fun _ _ => .inl (by simp)) harr⟩
 obtain ⟨e, a', w', hq, harr⟩ := key m a w h₀
 exact ⟨e, a', w', hq, .of_steps (.one step_loop) harr⟩
theorem QX.of {n : Nat} {L L' : List Nat} {a0 a1 : Act} {Q Q' : Yhk} {e : Exit} {a : Act} {w : World} (h : QX D n L a0 Q e a w) (hk : YbP L' a1 a0) (hl : ∀ t, t ∈ L -> t ∈ L')
  (hq : ∀ x fr, Q x fr w -> Q' x fr w) : QX D n L' a1 Q' e a w := by
 unfold QX at *
 split
 ·rename_i x hx
  rw [hx] at h
  obtain ⟨fr, h1, h2, h3⟩ := h
  exact ⟨fr, h1, hk.trans (h2.mono hl), hq x fr h3⟩
 ·rename_i hx
  rw [hx] at h
  exact h
theorem YfL {P : Program} {c rest : Code} {Q : Exit -> Act -> World -> Prop} {a : Act} {w : World} (l : Nat) (J : Nat -> Act -> World -> Prop) (hf : findLabel c l = some rest)
  (first : c.wp P (Exit.jump l (fun a w => ∃ m, J m a w) Q) a w)
  (pass : ∀ m a w, J m a w -> rest.wp P (Exit.jump l (fun a' w' => ∃ m', m' < m /\ J m' a' w') Q) a w) : (Code.scope c).wp P Q a w := by
 intro b k cs
 have hg : gotoIn l (.inScope c :: k) = some (.code rest :: .inScope c :: k) := by simp [gotoIn, hf]
 have key : ∀ m a w, J m a w -> ∃ e a' w', Q e a' w' /\ Arrives P (lone (b.at a (.code rest :: .inScope c :: k)) cs w) b k cs e a' w' := by
  intro m
  induction m using Nat.strongRecOn with
  | _ m ih =>
   intro a w hJ
   obtain ⟨e, a₁, w₁, hq, harr⟩ := pass m a w hJ b (.inScope c :: k) cs
   cases e with
   | normal => exact ⟨.normal, a₁, w₁, hq, Steps.trans harr (.one step_inScope)⟩
   | exit id => exact ⟨.exit id, a₁, w₁, hq, fun k' hk => harr k' (by simp [exitTo, hk])⟩
   | goto l' =>
    obtain ⟨rfl, m', hlt, hJ'⟩ := hq
    obtain ⟨e₂, a₂, w₂, hq₂, harr₂⟩ := ih m' hlt a₁ w₁ hJ'
    exact ⟨e₂, a₂, w₂, hq₂, .of_steps (harr _ hg) harr₂⟩
   | ret => exact ⟨_, a₁, w₁, hq, harr⟩
   | panic ch => exact ⟨_, a₁, w₁, hq, harr⟩
   | outgrown => exact ⟨_, a₁, w₁, hq, harr⟩
 obtain ⟨e, a₁, w₁, hq, harr⟩ := first b (.inScope c :: k) cs
 cases e with
 | normal => exact ⟨.normal, a₁, w₁, hq, .head step_scope (Steps.trans harr (.one step_inScope))⟩
 | exit id => exact ⟨.exit id, a₁, w₁, hq, fun k' hk => .head step_scope (harr k' (by simp [exitTo, hk]))⟩
 | goto l' =>
  obtain ⟨rfl, m, hJ'⟩ := hq
  obtain ⟨e₂, a₂, w₂, hq₂, harr₂⟩ := key m a₁ w₁ hJ'
  exact ⟨e₂, a₂, w₂, hq₂, .of_steps (.head step_scope (harr _ hg)) harr₂⟩
 | ret => exact ⟨_, a₁, w₁, hq, .of_steps (.one step_scope) harr⟩
 | panic ch => exact ⟨_, a₁, w₁, hq, .of_steps (.one step_scope) harr⟩
 | outgrown => exact ⟨_, a₁, w₁, hq, .of_steps (.one step_scope) harr⟩
def AccJ (P : Program) (l : Nat) (rest : Code) (QA : Exit -> Act -> World -> Prop) (m : Nat) (a : Act) (w : World) : Prop :=
 rest.wp P (Exit.jump l (fun a' w' => ∃ m', ∃ _h : m' < m, AccJ P l rest QA m' a' w') QA) a w
termination_by m
theorem AccJ.eq {P : Program} {l : Nat} {rest : Code} {QA : Exit -> Act -> World -> Prop} {m : Nat} {a : Act} {w : World} :
  AccJ P l rest QA m a w = rest.wp P (Exit.jump l (fun a' w' => ∃ m', ∃ _h : m' < m, AccJ P l rest QA m' a' w') QA) a w := by
 rw [AccJ]
theorem vcCode_both {P : Program} {n : Nat} : ∀ (ann : Ann), (∀ (c : Code) (fr : Fr) (a : Act) (w : World) (Q : Yhk), Sim D n fr a -> ZyJ P n ann c fr w Q -> c.wp P (QX D n (wr c) a Q) a w) /\
    (∀ (l : Nat) (c rest : Code) (fr : Fr) (a : Act) (w : World) (Q : Yhk) (W : List Nat) (a0 : Act), Sim D n fr a -> YbP W a0 a -> (∀ t, t ∈ wr c -> t ∈ W) -> findLabel c l = some rest -> ZqL P n l ann c fr w Q ->
      c.wp P (Exit.jump l (fun a' w' => ∃ m, AccJ P l rest (QX D n W a0 Q) m a' w') (QX D n W a0 Q)) a w) := by
  intro ann
  induction ann with
  | u => exact ⟨fun c fr a w Q hs h => by (unfold ZyJ at h; exact h.elim), fun l c rest fr a w Q W a0 hs hk hW hf h => by (unfold ZqL at h; exact h.elim)⟩
  | o =>
    refine ⟨?_, ?_⟩
    · intro c fr a w Q hs h
      unfold ZyJ at h
      split at h
      · exact wp_skip ⟨fr, hs, YbP.refl _ _, h⟩
      · exact wp_ret ⟨fr, hs, YbP.refl _ _, h⟩
      · exact wp_exit ⟨fr, hs, YbP.refl _ _, h⟩
      · exact wp_goto ⟨fr, hs, YbP.refl _ _, h⟩
      · exact wp_label ⟨fr, hs, YbP.refl _ _, h⟩
      · rename_i id ops draw
        cases draw with
        | true => exact h.elim
        | false => exact wp_region_list (vcOps_o hs (fun o ho d hd => Yes ho hd) h (fun fr' a' w' h1 h2 h3 => ⟨fr', h1, h2, h3⟩))
      · exact h.elim
    · intro l c rest fr ac w Q W a0 hs hk hW hf h
      unfold ZqL at h
      exact h.elim
  | d x =>
    refine ⟨?_, ?_⟩
    · intro c fr a w Q hs h
      unfold ZyJ at h
      split at h
      · rename_i id ops draw
        cases hb : (draw && P.follows .mixedOrders && Region.noSelect ops) with
        | false => rw [hb] at h; exact h.elim
        | true =>
          rw [hb] at h
          simp only [cond_true] at h
          simp only [Bool.and_eq_true] at hb
          obtain ⟨⟨hd, hm⟩, hns⟩ := hb
          subst hd
          refine wp_region_any hm (Yf7 (Γ := []) _ _ _ _ ?_)
          exact (vcDA_o hns (fun c a w hq => hq) (L := wrOps ops.toList) (a0 := a) (fun o ho d hd => Yes ho hd) (fun fr' a' w' h1 h2 h3 => ⟨fr', h1, h2, h3⟩)
            x ops.size (Array.replicate ops.size false) [] fr a w.drew (by simp) (YbO.start ops) hs (YbP.refl _ _)).1 h
      · exact h.elim
    · intro l c rest fr ac w Q W a0 hs hk hW hf h
      unfold ZqL at h
      exact h.elim
  | s a b iha ihb =>
    refine ⟨?_, ?_⟩
    · intro c fr ac w Q hs h
      unfold ZyJ at h
      split at h
      · rename_i x y
        refine wp_seq (wp_mono (iha.1 x fr ac w _ hs h) fun e a' w' hq => ?_)
        unfold QX at hq
        split at hq
        · rename_i ex hex
          obtain ⟨fr', h1, h2, h3⟩ := hq
          cases e <;> simp only [YfQ, Option.some.injEq, reduceCtorEq] at hex <;> subst hex
          · exact wp_mono (ihb.1 y fr' a' w' Q h1 h3) fun e2 a2 w2 hq2 => hq2.of (h2.mono (fun t ht => by simp [wr, ht])) (fun t ht => by simp [wr, ht]) (fun _ _ h => h)
          · exact ⟨fr', h1, h2.mono (fun t ht => by simp [wr, ht]), h3⟩
          · exact ⟨fr', h1, h2.mono (fun t ht => by simp [wr, ht]), h3⟩
          · exact ⟨fr', h1, h2.mono (fun t ht => by simp [wr, ht]), h3⟩
        · exact hq.elim
      · exact h.elim
    · intro l c rest fr ac w Q W a0 hs hk hW hf h
      unfold ZqL at h
      split at h
      · rename_i x y
        cases hn : (findLabel x l).isNone with
        | false => rw [hn] at h; exact h.elim
        | true =>
          rw [hn] at h
          have hfx : findLabel x l = none := by simpa using hn
          have hfy : findLabel y l = some rest := by
            unfold findLabel at hf
            rw [hfx] at hf
            exact hf
          have hwx : ∀ t, t ∈ wr x -> t ∈ W := fun t ht => hW t (by simp [wr, ht])
          have hwy : ∀ t, t ∈ wr y -> t ∈ W := fun t ht => hW t (by simp [wr, ht])
          refine wp_seq (wp_mono (iha.1 x fr ac w _ hs h) fun e a' w' hq => ?_)
          unfold QX at hq
          split at hq
          · rename_i ex hex
            obtain ⟨fr', h1, h2, h3⟩ := hq
            cases e <;> simp only [YfQ, Option.some.injEq, reduceCtorEq] at hex <;> subst hex
            · exact ihb.2 l y rest fr' a' w' Q W a0 h1 (hk.trans (h2.mono hwx)) hwy hfy h3
            · exact ⟨fr', h1, hk.trans (h2.mono hwx), h3⟩
            · rename_i l'
              simp only [Yhk.then, Yhk.jump] at h3
              cases hb : Nat.beq l' l <;> (rw [hb] at h3; exact h3.elim)
            · exact ⟨fr', h1, hk.trans (h2.mono hwx), h3⟩
          · exact hq.elim
      · exact h.elim
  | j L a b iha ihb =>
    refine ⟨?_, ?_⟩
    · intro c fr ac w Q hs h
      unfold ZyJ at h
      split at h
      · rename_i x y
        unfold Zzj at h
        refine wp_seq (wp_mono (iha.1 x fr ac w _ hs h) fun e a' w' hq => ?_)
        unfold QX at hq
        split at hq
        · rename_i ex hex
          obtain ⟨fr', h1, h2, h3⟩ := hq
          cases e <;> simp only [YfQ, Option.some.injEq, reduceCtorEq] at hex <;> subst hex
          · obtain ⟨vs, hv, hc⟩ := JT.app_lam h3
            have hs2 := hs.over h1 h2 hv
            exact wp_mono (ihb.1 y _ a' w' Q hs2 hc) fun e2 a2 w2 hq2 => hq2.of (h2.mono (fun t ht => by simp [wr, ht])) (fun t ht => by simp [wr, ht]) (fun _ _ h => h)
          · exact ⟨fr', h1, h2.mono (fun t ht => by simp [wr, ht]), h3⟩
          · exact ⟨fr', h1, h2.mono (fun t ht => by simp [wr, ht]), h3⟩
          · exact ⟨fr', h1, h2.mono (fun t ht => by simp [wr, ht]), h3⟩
        · exact hq.elim
      · exact h.elim
    · intro l c rest fr ac w Q W a0 hs hk hW hf h
      unfold ZqL at h
      exact h.elim
  | c a b iha ihb =>
    refine ⟨?_, ?_⟩
    · intro c fr ac w Q hs h
      unfold ZyJ at h
      split at h
      · rename_i c x y
        split at h
        · rename_i g hg
          have hc := hs.eval hg
          have h' := condB_o h
          clear h
          rcases h' with ⟨rfl, h⟩ | ⟨rfl, h⟩
          · exact wp_cond_true hc (wp_mono (iha.1 x fr ac w Q hs h) fun e a' w' hq => hq.of (YbP.refl _ _) (fun t ht => by simp [wr, ht]) (fun _ _ h => h))
          · exact wp_cond_false hc (wp_mono (ihb.1 y fr ac w Q hs h) fun e a' w' hq => hq.of (YbP.refl _ _) (fun t ht => by simp [wr, ht]) (fun _ _ h => h))
        · exact h.elim
      · exact h.elim
    · intro l c rest fr ac w Q W a0 hs hk hW hf h
      unfold ZqL at h
      exact h.elim
  | b a iha =>
    refine ⟨?_, ?_⟩
    · intro c fr ac w Q hs h
      unfold ZyJ at h
      split at h
      · rename_i id x
        refine wp_block (wp_mono (iha.1 x fr ac w _ hs h) fun e a' w' hq => ?_)
        unfold QX at hq
        split at hq
        · rename_i ex hex
          obtain ⟨fr', h1, h2, h3⟩ := hq
          cases e <;> simp only [YfQ, Option.some.injEq, reduceCtorEq] at hex <;> subst hex
          · exact ⟨fr', h1, h2, h3⟩
          · rename_i id'
            simp only at h3
            cases hb : Nat.beq id' id with
            | true =>
              have := Nat.eq_of_beq_eq_true hb
              subst this
              rw [hb] at h3
              simp only [Exit.inBlock, if_true]
              exact ⟨fr', h1, h2, h3⟩
            | false =>
              have : id' ≠ id := fun e => by subst e; rw [show Nat.beq id' id' = true from Nat.beq_refl id'] at hb; cases hb
              rw [hb] at h3
              simp only [Exit.inBlock, this, if_false]
              exact ⟨fr', h1, h2, h3⟩
          · exact ⟨fr', h1, h2, h3⟩
          · exact ⟨fr', h1, h2, h3⟩
        · exact hq.elim
      · exact h.elim
    · intro l c rest fr ac w Q W a0 hs hk hW hf h
      unfold ZqL at h
      exact h.elim
  | l L a iha =>
    refine ⟨?_, ?_⟩
    · intro c fr ac w Q hs h
      unfold ZyJ at h
      split at h
      · rename_i x
        obtain ⟨I, ⟨m, hm⟩, hall⟩ := h
        refine Ygx (fun m a' w' => ∃ fr', Sim D n fr' a' /\ YbP (wr x) ac a' /\ JT.app (L.map (·.2)) I (L.map fun p => fr' p.1) fun r => r w' m) m ⟨fr, hs, YbP.refl _ _, hm⟩ ?_
        rintro m a' w' ⟨fr', h1, h2, h3⟩
        obtain ⟨vs, r, hv, hF, hr⟩ := JT.all_app hall h3
        have hs2 := hs.over h1 h2 hv
        refine wp_mono (iha.1 x _ a' w' _ hs2 (hF w' m hr)) fun e a2 w2 hq => ?_
        unfold QX at hq
        split at hq
        · rename_i ex hex
          obtain ⟨fr2, g1, g2, g3⟩ := hq
          cases e <;> simp only [YfQ, Option.some.injEq, reduceCtorEq] at hex <;> subst hex
          · obtain ⟨m', hlt, happ⟩ := g3
            exact ⟨m', hlt, fr2, g1, h2.trans g2, happ⟩
          · exact ⟨fr2, g1, h2.trans g2, g3⟩
          · exact ⟨fr2, g1, h2.trans g2, g3⟩
          · exact ⟨fr2, g1, h2.trans g2, g3⟩
        · exact hq.elim
      · exact h.elim
    · intro l c rest fr ac w Q W a0 hs hk hW hf h
      unfold ZqL at h
      exact h.elim
  | g l a b iha ihb =>
    refine ⟨?_, ?_⟩
    · intro c fr ac w Q hs h
      unfold ZyJ at h
      split at h
      · rename_i x
        split at h
        · rename_i rest hf
          refine wp_scope_jumps l (fun a' w' => ∃ fr', Sim D n fr' a' /\ YbP (wr x) ac a' /\ ZyJ P n b rest fr' w' (Yhk.jump l (fun _ _ => False) Q)) (fun _ _ => 0) hf ?_ ?_
          · refine wp_mono (iha.1 x fr ac w _ hs h) fun e a' w' hq => ?_
            unfold QX at hq
            split at hq
            · rename_i ex hex
              obtain ⟨fr', h1, h2, h3⟩ := hq
              cases e <;> simp only [YfQ, Option.some.injEq, reduceCtorEq] at hex <;> subst hex
              · exact ⟨fr', h1, h2, h3⟩
              · exact ⟨fr', h1, h2, h3⟩
              · rename_i l'
                simp only [Yhk.jump] at h3
                cases hb : Nat.beq l' l with
                | true => rw [hb] at h3; exact ⟨Nat.eq_of_beq_eq_true hb, fr', h1, h2, h3⟩
                | false => rw [hb] at h3; exact h3.elim
              · exact ⟨fr', h1, h2, h3⟩
            · exact hq.elim
          · rintro a' w' ⟨fr', h1, h2, h3⟩
            refine wp_mono (ihb.1 rest fr' a' w' _ h1 h3) fun e a2 w2 hq => ?_
            unfold QX at hq
            split at hq
            · rename_i ex hex
              obtain ⟨fr2, g1, g2, g3⟩ := hq
              have g2' := g2.mono (wr_find hf)
              cases e <;> simp only [YfQ, Option.some.injEq, reduceCtorEq] at hex <;> subst hex
              · exact ⟨fr2, g1, h2.trans g2', g3⟩
              · exact ⟨fr2, g1, h2.trans g2', g3⟩
              · rename_i l'
                simp only [Yhk.jump] at g3
                cases hb : Nat.beq l' l <;> (rw [hb] at g3; exact g3.elim)
              · exact ⟨fr2, g1, h2.trans g2', g3⟩
            · exact hq.elim
        · exact h.elim
      · exact h.elim
    · intro l c rest fr ac w Q W a0 hs hk hW hf h
      unfold ZqL at h
      exact h.elim
  | k l a iha =>
    refine ⟨?_, ?_⟩
    · intro c fr ac w Q hs h
      unfold ZyJ at h
      split at h
      · rename_i x
        cases hn : findLabel x l with
        | none => rw [hn] at h; exact h.elim
        | some rest =>
          rw [hn] at h
          refine YfL l (fun m a w => AccJ P l rest (QX D n (wr x) ac Q) m a w) hn (iha.2 l x rest fr ac w Q (wr x) ac hs (YbP.refl _ _) (fun _ h => h) hn h) ?_
          intro m a' w' hJ
          rw [AccJ.eq] at hJ
          refine wp_mono hJ fun e a2 w2 hq => ?_
          cases e <;> simp only [Exit.jump] at hq ⊢
          all_goals first
            | exact hq
            | (obtain ⟨h1, m', h2, h3⟩ := hq
               exact ⟨h1, m', h2, h3⟩)
      · exact h.elim
    · intro l c rest fr ac w Q W a0 hs hk hW hf h
      unfold ZqL at h
      exact h.elim
  | h L a iha =>
    refine ⟨?_, ?_⟩
    · intro c fr ac w Q hs h
      unfold ZyJ at h
      exact h.elim
    · intro l c rest fr ac w Q W a0 hs hk hW hf h
      unfold ZqL at h
      split at h
      · rename_i l' y
        cases hb : Nat.beq l' l with
        | false => rw [hb] at h; exact h.elim
        | true =>
          rw [hb] at h
          have hll := Nat.eq_of_beq_eq_true hb
          subst hll
          obtain ⟨I, ⟨m0, hm0⟩, hall⟩ := h
          have hr : rest = .seq .skip y := by
            simp [findLabel] at hf
            exact hf.symm
          subst hr
          have hwy : ∀ t, t ∈ wr y -> t ∈ W := fun t ht => hW t (by simp [wr, ht])
          have claim : ∀ m a' w', (∃ fr', Sim D n fr' a' /\ YbP (wr y) ac a' /\ JT.app (L.map (·.2)) I (L.map fun p => fr' p.1) fun r => r w' m) ->
              y.wp P (Exit.jump l' (fun a' w' => ∃ m', ∃ _h : m' < m, AccJ P l' (.seq .skip y) (QX D n W a0 Q) m' a' w') (QX D n W a0 Q)) a' w' := by
            intro m
            induction m using Nat.strongRecOn with
            | _ m ih =>
              rintro a' w' ⟨fr', h1, h2, h3⟩
              obtain ⟨vs, r, hv, hF, hr⟩ := JT.all_app hall h3
              have hs2 := hs.over h1 h2 hv
              refine wp_mono (iha.1 y _ a' w' _ hs2 (hF w' m hr)) fun e a2 w2 hq => ?_
              unfold QX at hq
              split at hq
              · rename_i ex hex
                obtain ⟨fr2, g1, g2, g3⟩ := hq
                cases e <;> simp only [YfQ, Option.some.injEq, reduceCtorEq] at hex <;> subst hex
                · exact ⟨fr2, g1, hk.trans ((h2.trans g2).mono hwy), g3⟩
                · exact ⟨fr2, g1, hk.trans ((h2.trans g2).mono hwy), g3⟩
                · rename_i l2
                  simp only [Yhk.jump] at g3
                  cases hb2 : Nat.beq l2 l' with
                  | false => rw [hb2] at g3; exact g3.elim
                  | true =>
                    rw [hb2] at g3
                    obtain ⟨m', hlt, happ⟩ := g3
                    refine ⟨Nat.eq_of_beq_eq_true hb2, m', hlt, ?_⟩
                    rw [AccJ.eq]
                    exact wp_seq (wp_skip (ih m' hlt a2 w2 ⟨fr2, g1, h2.trans g2, happ⟩))
                · exact ⟨fr2, g1, hk.trans ((h2.trans g2).mono hwy), g3⟩
              · exact hq.elim
          refine wp_seq (wp_label (wp_mono (claim m0 ac w ⟨fr, hs, YbP.refl _ _, hm0⟩) fun e a2 w2 hq => ?_))
          cases e <;> simp only [Exit.jump] at hq ⊢
          all_goals first
            | exact hq
            | (obtain ⟨h1, m', h2, h3⟩ := hq
               exact ⟨h1, m', h3⟩)
      · exact h.elim
theorem Ygh {P : Program} {n : Nat} (ann : Ann) (c : Code) (fr : Fr) (a : Act) (w : World) (Q : Yhk) (hs : Sim D n fr a) (h : ZyJ P n ann c fr w Q) : c.wp P (QX D n (wr c) a Q) a w := (vcCode_both ann).1 c fr a w Q hs h
def Yev (args : List Value) : Fr := fun t => args[t]?
def retV (P : Program) (fr : Fr) (w : World) : List ResultVar -> (List Value -> Prop) -> Prop
 | [], K => K []
 | .tmp t :: r, K => (match fr t with | some v => retV P fr w r fun vs => K (v :: vs) | none => False)
 | .cell a t :: r, K => (match fr a with
  | some (.pointer p) => Zyp p fun ad => Ydu P t ad w fun v _ => retV P fr w r fun vs => K (v :: vs)
  | _ => False)
def unpack : List Sh -> List Value -> Option (List Value)
 | [], [] => some []
 | .one _ :: r, v :: vs => (match unpack r vs with | some us => some (v :: us) | none => none)
 | .agg l :: r, .agg cs :: vs => bif Nat.beq cs.toList.length l.length then (match unpack r vs with | some us => some (cs.toList ++ us) | none => none) else none
 | _, _ => none
theorem ZqA : ∀ {l : List Sh} {vs us : List Value}, unpack l vs = some us -> packs l us = vs
 | [], [], us, h => by simp only [unpack, Option.some.injEq] at h; simp [packs]
 | [], _ :: _, _, h => by simp [unpack] at h
 | .one _ :: r, [], _, h => by simp [unpack] at h
 | .one _ :: r, v :: vs, us, h => by
  simp only [unpack] at h
  split at h
  ·rename_i us' h2
   simp only [Option.some.injEq] at h
   subst h
   simp [packs, ZqA h2]
  ·simp at h
 | .agg l :: r, [], _, h => by simp [unpack] at h
 | .agg l :: r, v :: vs, us, h => by
  cases v <;> simp only [unpack, reduceCtorEq] at h
  rename_i cs
  cases hb : Nat.beq cs.toList.length l.length with
  | false => rw [hb] at h; simp at h
  | true =>
   rw [hb] at h
   have hl := Nat.eq_of_beq_eq_true hb
   simp only [cond_true] at h
   split at h
   ·rename_i us' h2
    simp only [Option.some.injEq] at h
    subst h
    simp only [packs]
    rw [take_append_of_le_length (by omega), drop_append_of_le_length (by omega), take_of_length_le (by omega), drop_of_length_le (by omega)]
    simp [ZqA h2]
   ·simp at h
def retC (P : Program) (res : List ResultVar) (l : List Sh) (J : JT (World -> Prop) (scs l)) (fr : Fr) (w : World) : Prop :=
 retV P fr w res fun vs => match unpack l vs with
  | some us => JT.app (scs l) J (us.map some) fun r => r w
  | none => False
def vcFun (P : Program) (fn : Func) (ann : Ann) (l : List Sh) (args : List Value) (w : World) (J : JT (World -> Prop) (scs l)) : Prop :=
 match fn.body with
 | none => False
 | some c => bif Nat.ble args.length fn.ntmps then
   ZyJ P fn.ntmps ann c (Yev args) w fun e fr w' => match e with
    | .exit _ => False
    | .goto _ => False
    | _ => retC P fn.results.toList l J fr w'
  else False
def resF (tmps : Array Value) : ResultVar -> Sem Value
 | .tmp t => pure (tmps.getD t undef)
 | .cell a t => do loadVar t (<- asAddr (tmps.getD a undef))
theorem Yfc (fn : Func) (tmps : Array Value) : results fn tmps = (do
  let vs <- fn.results.mapM (resF tmps)
  pure (if h : vs.size = 1 then vs[0] else .tuple vs)) := rfl
theorem retV_o {P : Program} {n : Nat} {fr : Fr} {a : Act} (hs : Sim D n fr a) {w : World} : ∀ {res : List ResultVar} {K : List Value -> Prop}, retV P fr w res K ->
  ∃ vs : List Value, vs.length = res.length /\ K vs /\ (res.mapM (resF a.tmps)).run P w = .ok vs w
 | [], K, h => ⟨[], rfl, h, rfl⟩
 | .tmp t :: r, K, h => by
  simp only [retV] at h
  split at h
  ·rename_i v hv
   obtain ⟨vs, h1, h2, h3⟩ := retV_o hs h
   have : a.tmps.getD t undef = v := by simp [hs.val t v hv]
   exact ⟨v :: vs, by simp [h1], h2, by simp only [mapM_cons, resF, Sem.run_bind, Sem.run_pure, Result.andThen_ok, this]; rw [h3]; rfl⟩
  ·exact h.elim
 | .cell ad t :: r, K, h => by
  simp only [retV] at h
  split at h
  ·rename_i p hp
   obtain ⟨x, rfl, hn⟩ := YaL h
   obtain ⟨v, S, hK, hS, hrun⟩ := vcLoad_o hn
   obtain ⟨vs, h1, h2, h3⟩ := retV_o hs hK
   have e1 : a.tmps.getD ad undef = .pointer (some x) := by simp [hs.val ad _ hp]
   exact ⟨v :: vs, by simp [h1], h2, by
    have ha : (asAddr (.pointer (some x))).run P w = .ok x w := rfl
    simp only [mapM_cons, resF, Sem.run_bind, e1, ha, Result.andThen_ok, hrun w hS, Sem.run_pure]; rw [h3]; rfl⟩
  ·exact h.elim
theorem Zz5 {P : Program} {f : FuncId} {fn : Func} (hf : P.funcs[f]? = some fn) (ann : Ann) {l : List Sh} {args : List Value} {w : World} {J : JT (World -> Prop) (scs l)}
    (h : vcFun P fn ann l args w J) : Zz1 P f ⟨args⟩ w l J := by
  unfold vcFun at h
  split at h
  · exact h.elim
  · rename_i c hc
    cases hb : Nat.ble args.length fn.ntmps with
    | false => rw [hb] at h; exact h.elim
    | true =>
      rw [hb] at h
      simp only [cond_true] at h
      have hle : args.length <= fn.ntmps := Nat.le_of_ble_eq_true hb
      refine calls_of_wp hf hc ?_
      have hs : Sim [] fn.ntmps (Yev args) { tmps := (⟨args⟩ : Array Value) ++ Array.replicate (fn.ntmps - (⟨args⟩ : Array Value).size) undef, defers := [] } := by
        refine ⟨rfl, by simp; omega, fun t v hv => ?_⟩
        simp only [Yev] at hv
        have hlt : t < args.length := (List.getElem?_eq_some_iff.1 hv).1
        rw [Array.getElem?_append_left (by simpa using hlt)]
        simpa using hv
      refine wp_mono (Ygh ann c _ _ w _ hs h) fun e a' w' hq => ?_
      have fin : ∀ fr', Sim [] fn.ntmps fr' a' -> retC P fn.results.toList l J fr' w' -> a'.defers = [] /\ ∃ v, (results fn a'.tmps).run P w' = .ok v w' /\
          JT.ex (scs l) J fun vs r => Ending.returned v = .returned (Yce l vs) /\ r w' := by
        intro fr' hs' hr
        obtain ⟨vs, h1, h2, h3⟩ := retV_o hs' hr
        split at h2
        · rename_i us hu
          refine ⟨hs'.defers, Yce l us, ?_, ?_⟩
          · have hm := List.mapM_toArray (m := Sem) (l := fn.results.toList) (f := resF a'.tmps)
            rw [Array.toArray_toList] at hm
            have hp := ZqA hu
            rw [Yfc, hm]
            simp only [Sem.run_bind, Sem.run_map, h3, Result.andThen_ok, Sem.run_pure]
            congr 1
            unfold Yce
            rw [hp]
            cases vs with
            | nil => rfl
            | cons v vs => cases vs with
              | nil => rfl
              | cons u vs => simp
          · exact JT.ex_of_app h2 rfl
        · exact h2.elim
      unfold QX at hq
      split at hq
      · rename_i ex hex
        obtain ⟨fr', h1, _, h3⟩ := hq
        cases e <;> simp only [YfQ, Option.some.injEq, reduceCtorEq] at hex <;> subst hex
        · exact fin fr' h1 h3
        · exact h3.elim
        · exact h3.elim
        · exact fin fr' h1 h3
      · exact hq.elim
end Go.Vc
end
section
namespace Go.Proofs.YtlnfaaghdkngmaaGreatDoor
open Go
abbrev Yay : FuncId := 3
abbrev ZxN : FuncId := 4
abbrev ZqX : FuncId := 5
abbrev YcA : FuncId := 6
abbrev Ybs : FuncId := 7
abbrev YaN : FuncId := 8
abbrev YbU : FuncId := 9
abbrev Yd3 : FuncId := 10
abbrev Yax : FuncId := 11
abbrev YaM : FuncId := 12
abbrev Ybr : FuncId := 13
abbrev YaP : FuncId := 14
abbrev fn_parse_Parse : FuncId := 15
abbrev fn_canon_Write : FuncId := 16
abbrev ZxX : FuncId := 17
abbrev ZxM : FuncId := 18
abbrev Yfl : FuncId := 19
abbrev Ycz : FuncId := 20
abbrev fn_pick_attrs : FuncId := 21
abbrev fn_pick_outer : FuncId := 22
abbrev YeD : FuncId := 23
abbrev Yb4 : FuncId := 24
abbrev ZzM : FuncId := 25
abbrev Yak : FuncId := 26
abbrev Zyu : FuncId := 27
abbrev Ybq : FuncId := 28
abbrev Yb2 : FuncId := 29
abbrev YaE : FuncId := 30
abbrev Ybv : FuncId := 31
abbrev Zyr : FuncId := 32
abbrev Zxf : FuncId := 33
abbrev Ycb : FuncId := 34
abbrev Yb3 : FuncId := 35
abbrev ZyV : FuncId := 36
abbrev ZqT : FuncId := 37
abbrev Zy2 : FuncId := 38
abbrev ZzC : FuncId := 39
abbrev fn_trail_texts : FuncId := 40
abbrev ZqU : FuncId := 41
abbrev fn_scan_All : FuncId := 42
abbrev fn_scope_New : FuncId := 43
abbrev Ydk : FuncId := 44
abbrev fn_scan_Plain : FuncId := 45
abbrev Yfm : FuncId := 46
abbrev Ydl : FuncId := 47
abbrev YaO : FuncId := 48
abbrev Ycg : FuncId := 49
abbrev Zyk : FuncId := 50
abbrev Yaq : FuncId := 51
abbrev Zz0 : FuncId := 52
abbrev Yb0 : FuncId := 53
abbrev Yar : FuncId := 54
abbrev ZqS : FuncId := 55
abbrev ZxE : FuncId := 56
abbrev Zqh : FuncId := 57
abbrev Zxi : FuncId := 58
abbrev Zxg : FuncId := 59
abbrev YcD : FuncId := 60
abbrev ZzX : FuncId := 61
abbrev ZzZ : FuncId := 62
abbrev YcE : FuncId := 63
abbrev Zyi : FuncId := 65
abbrev Zqw : FuncId := 66
abbrev Zyg : FuncId := 67
abbrev Yad : FuncId := 69
abbrev ZzF : FuncId := 70
abbrev ZxZ : FuncId := 71
abbrev ZqV : FuncId := 72
abbrev ZzK : FuncId := 73
abbrev Yaz : FuncId := 74
abbrev ZyS : FuncId := 75
abbrev Yca : FuncId := 76
abbrev ZqY : FuncId := 77
abbrev ZqE : FuncId := 78
abbrev YbG : FuncId := 79
abbrev Yb6 : FuncId := 80
abbrev Zyc : FuncId := 81
abbrev ZyT : FuncId := 82
abbrev fn_strings_genSplit : FuncId := 83
abbrev fn_internal_strconv_Atoi : FuncId := 84
abbrev fn_strconv_toError : FuncId := 85
abbrev YaD : FuncId := 86
abbrev YeE : FuncId := 87
abbrev ZyU : FuncId := 88
abbrev Ycy : FuncId := 89
abbrev YdO : FuncId := 90
abbrev Ydj : FuncId := 91
abbrev YcC : FuncId := 92
abbrev YcB : FuncId := 93
abbrev YdN : FuncId := 94
abbrev fn_char_Lines : FuncId := 95
abbrev YdS : FuncId := 96
abbrev Zqb : FuncId := 97
abbrev fn_tree_Spaces : FuncId := 98
abbrev YdR : FuncId := 99
abbrev YdQ : FuncId := 100
abbrev fn_refer_Text : FuncId := 101
abbrev YbX : FuncId := 102
abbrev ZzN : FuncId := 103
abbrev Zz4 : FuncId := 104
abbrev ZqQ : FuncId := 105
abbrev YbT : FuncId := 106
abbrev Yaj : FuncId := 107
abbrev ZqR : FuncId := 108
abbrev Zz8 : FuncId := 109
abbrev ZxI : FuncId := 110
abbrev Zxh : FuncId := 111
abbrev Zq9 : FuncId := 112
abbrev Yaa : FuncId := 113
abbrev Zqs : FuncId := 114
abbrev ZyA : FuncId := 115
abbrev Yb1 : FuncId := 116
abbrev ZyB : FuncId := 117
abbrev Zxv : FuncId := 118
abbrev Zzq : FuncId := 119
abbrev Yal : FuncId := 120
abbrev ZzY : FuncId := 121
abbrev Zy0 : FuncId := 122
abbrev ZzG : FuncId := 123
abbrev Zzv : FuncId := 124
abbrev ZyD : FuncId := 125
abbrev ZyE : FuncId := 126
abbrev ZyF : FuncId := 127
abbrev ZzH : FuncId := 128
abbrev Zza : FuncId := 129
abbrev Zqc : FuncId := 130
abbrev fn_trace_Read : FuncId := 131
abbrev YgS : FuncId := 132
abbrev Zyj : FuncId := 133
abbrev Zqu : FuncId := 134
abbrev ZxK : FuncId := 135
abbrev ZxY : FuncId := 136
abbrev ZxO : FuncId := 137
abbrev Zx7 : FuncId := 138
abbrev ZxH : FuncId := 139
abbrev Zqi : FuncId := 140
abbrev fn_math_bits_Len32 : FuncId := 141
abbrev ZqW : FuncId := 142
abbrev Zxx : FuncId := 143
abbrev Ybl : FuncId := 144
abbrev Zyb : FuncId := 145
abbrev Zyo : FuncId := 146
abbrev Zyv : FuncId := 147
abbrev YaB : FuncId := 148
abbrev YaA : FuncId := 149
abbrev Zzk : FuncId := 150
abbrev fn_strings_explode : FuncId := 151
abbrev fn_strings_Count : FuncId := 152
abbrev fn_strings_Index : FuncId := 153
abbrev Ygp : FuncId := 154
abbrev fn_strconv_syntaxError : FuncId := 155
abbrev fn_strconv_rangeError : FuncId := 156
abbrev fn_strconv_baseError : FuncId := 157
abbrev fn_strconv_bitSizeError : FuncId := 158
abbrev ZxA : FuncId := 159
abbrev Ydi : FuncId := 160
abbrev Ycj : FuncId := 161
abbrev Yde : FuncId := 163
abbrev Ydg : FuncId := 164
abbrev YbV : FuncId := 166
abbrev YdM : FuncId := 167
abbrev Ydf : FuncId := 168
abbrev YdL : FuncId := 170
abbrev Yci : FuncId := 171
abbrev Ydd : FuncId := 172
abbrev YeH : FuncId := 173
abbrev Zqj : FuncId := 174
abbrev fn_tree_spaces : FuncId := 175
abbrev Yac : FuncId := 176
abbrev ZqH : FuncId := 177
abbrev Yas : FuncId := 178
abbrev Ycf : FuncId := 179
abbrev Ydm : FuncId := 181
abbrev YgV : FuncId := 182
abbrev fn_refer_Quote : FuncId := 183
abbrev fn_internal_abi_NoEscape : FuncId := 184
abbrev ZzJ : FuncId := 185
abbrev ZyR : FuncId := 186
abbrev fn_strings_trimLeftByte : FuncId := 187
abbrev fn_strings_makeASCIISet : FuncId := 188
abbrev fn_strings_trimLeftASCII : FuncId := 189
abbrev fn_strings_trimLeftUnicode : FuncId := 190
abbrev ZyC : FuncId := 192
abbrev Zxw : FuncId := 193
abbrev Zxz : FuncId := 194
abbrev ZxR : FuncId := 195
abbrev YaJ : FuncId := 196
abbrev YdK : FuncId := 202
abbrev fn_slices_nextPowerOfTwo : FuncId := 203
abbrev fn_slices_xorshift_Next : FuncId := 204
abbrev Ych : FuncId := 205
abbrev YeB : FuncId := 206
abbrev Zyf : FuncId := 207
abbrev Yam : FuncId := 208
abbrev Zzm : FuncId := 209
abbrev Yae : FuncId := 210
abbrev Ybw : FuncId := 211
abbrev YfY : FuncId := 212
abbrev Yf4 : FuncId := 213
abbrev YfO : FuncId := 214
abbrev Yfk : FuncId := 215
abbrev YgU : FuncId := 216
abbrev Ycm : FuncId := 217
abbrev Yey : FuncId := 218
abbrev ZzE : FuncId := 219
abbrev Yg1 : FuncId := 220
abbrev YfX : FuncId := 221
abbrev fn_errors_New : FuncId := 222
abbrev Ycl : FuncId := 223
abbrev Yck : FuncId := 224
abbrev Yan : FuncId := 226
abbrev Ydh : FuncId := 227
abbrev YeC : FuncId := 228
abbrev YeG : FuncId := 229
abbrev Yfj : FuncId := 230
abbrev fn_bytes_Count : FuncId := 231
abbrev ZxL : FuncId := 235
abbrev Yfi : FuncId := 236
abbrev fn_scope_wrong : FuncId := 237
abbrev Zqv : FuncId := 238
abbrev Zxk : FuncId := 239
abbrev fn_char_Split : FuncId := 241
abbrev Ydc : FuncId := 242
abbrev Zxj : FuncId := 243
abbrev fn_bytes_Equal : FuncId := 245
abbrev Yab : FuncId := 246
abbrev Ycx : FuncId := 247
abbrev Zy4 : FuncId := 248
abbrev ZxQ : FuncId := 249
abbrev ZzV : FuncId := 250
abbrev Ybe : FuncId := 251
abbrev Ya8 : FuncId := 252
abbrev Ygm : FuncId := 253
abbrev fn_strings_ContainsRune : FuncId := 254
abbrev YeA : FuncId := 261
abbrev Zyn : FuncId := 262
abbrev YfZ : FuncId := 263
abbrev Yg0 : FuncId := 264
abbrev Yf3 : FuncId := 265
abbrev fn_math_bits_TrailingZeros : FuncId := 266
abbrev Yeg : FuncId := 267
abbrev fn_internal_strconv_lower : FuncId := 268
abbrev Yf2 : FuncId := 269
abbrev fn_internal_bytealg_Index : FuncId := 271
abbrev Ycc : FuncId := 272
abbrev fn_refer_read : FuncId := 273
abbrev ZzI : FuncId := 274
abbrev Zy3 : FuncId := 276
abbrev Ya4 : FuncId := 278
abbrev Zxs : FuncId := 279
abbrev Ya3 : FuncId := 280
abbrev Zqa : FuncId := 281
abbrev YeF : FuncId := 287
abbrev ZqD : FuncId := 290
abbrev YdJ : FuncId := 291
abbrev Ybu : FuncId := 292
abbrev fn_strings_IndexRune : FuncId := 294
abbrev Ygo : FuncId := 300
abbrev Ygn : FuncId := 301
abbrev YdP : FuncId := 303
abbrev YgT : FuncId := 304
abbrev ZxP : FuncId := 306
abbrev Ybt : FuncId := 311
abbrev Yez : FuncId := 312
abbrev fn_unicode_utf8_ValidRune : FuncId := 317
abbrev fn_refer_meant : FuncId := 323
abbrev Yb5 : FuncId := 326
abbrev YbH : FuncId := 335
abbrev YbW : FuncId := 337
abbrev YbI : FuncId := 338
abbrev YaC : FuncId := 340
abbrev ZzW : FuncId := 384
abbrev T_x : TypeId := 0
abbrev T_int64 : TypeId := 2
abbrev ZqJ : TypeId := 3
abbrev T_bool : TypeId := 4
abbrev Yec : TypeId := 5
abbrev ZxC : TypeId := 9
abbrev T_interface : TypeId := 20
abbrev T_int32 : TypeId := 21
abbrev ZzB : TypeId := 23
abbrev Zzh : TypeId := 24
abbrev Zzg : TypeId := 25
abbrev Zz3 : TypeId := 27
abbrev Yap : TypeId := 28
abbrev Ybb : TypeId := 30
abbrev Yed : TypeId := 34
abbrev YaI : TypeId := 35
abbrev Zzp : TypeId := 42
abbrev Yd9 : TypeId := 52
abbrev Zym : TypeId := 59
abbrev Zze : TypeId := 63
abbrev ZzU : TypeId := 64
abbrev YbA : TypeId := 65
abbrev Zzf : TypeId := 67
abbrev YfV : TypeId := 73
abbrev T_string_string_bool : TypeId := 77
abbrev T_sl_string : TypeId := 81
abbrev T_error : TypeId := 84
abbrev T_int_error : TypeId := 85
abbrev Zzu : TypeId := 91
abbrev T_ptr_strings_Builder : TypeId := 114
abbrev YbN : TypeId := 116
abbrev Zyw : TypeId := 118
abbrev T_func_string : TypeId := 122
abbrev Zq7 : TypeId := 131
abbrev Zzs : TypeId := 133
abbrev Zzy : TypeId := 142
abbrev T_uint : TypeId := 147
abbrev T_ptr_uint8 : TypeId := 168
abbrev T_int_bool : TypeId := 177
abbrev T_slices_sortedHint : TypeId := 194
abbrev T_int_slices_sortedHint : TypeId := 195
abbrev T_uint32 : TypeId := 201
abbrev T_uint64 : TypeId := 203
abbrev T_strconv_Error : TypeId := 210
abbrev T_int64_error : TypeId := 211
abbrev T_ptr_strconv_NumError : TypeId := 213
abbrev T_unsafe_Pointer : TypeId := 233
abbrev T_int32_int : TypeId := 235
abbrev T_strings_asciiSet : TypeId := 240
abbrev T_strings_asciiSet_bool : TypeId := 241
abbrev T_ptr_strings_asciiSet : TypeId := 244
abbrev T_slices_xorshift : TypeId := 263
abbrev T_ptr_int : TypeId := 267
abbrev T_256_uint8 : TypeId := 271
abbrev Zy1 : TypeId := 273
abbrev YcX : TypeId := 274
abbrev ZxW : TypeId := 277
abbrev T_24_uint8 : TypeId := 279
abbrev T_sl_uint8_string : TypeId := 281
abbrev T_uint64_error : TypeId := 284
abbrev T_strconv_NumError : TypeId := 287
abbrev T_uint16 : TypeId := 328
abbrev T_128_uint16 : TypeId := 329
abbrev T_ptr_slices_xorshift : TypeId := 343
abbrev T_int_int : TypeId := 344
abbrev T_20_uint64 : TypeId := 347
abbrev T_65_uint8 : TypeId := 348
abbrev T_uint32_uint32 : TypeId := 349
abbrev T_ptr_errors_errorString : TypeId := 352
abbrev T_errors_errorString : TypeId := 354
abbrev ZzD : TypeId := 396
abbrev T_32_uint8 : TypeId := 399
abbrev T_64_uint8 : TypeId := 400
end Go.Proofs.YtlnfaaghdkngmaaGreatDoor
end
section
namespace Go.Proofs.YtlnfaaghdkngmaaGreatDoor
open Go Go.Vc
theorem Ybx {a : Option Addr} {b c : Nat} {w : World} {J : Int -> Int -> World -> Prop} (h :
 Zzj (fun (k : World) =>
 Zz1 Tryz.prog Zyn #[.slice a b c] k [.one (.int .i32), .one (.int .i64)] fun d e f =>
 J d e f) fun g =>
 ∃ l : Int -> World -> Nat -> Prop, (∃ m, l (0 : Int) w m) /\ ∀ n o m, l n o m -> (
 Zz2 (decide (n < (b : Int))) (
 Zyx a b n fun i =>
 ldI .u8 o ((i.add (n.toNat * 1))) fun j =>
 Zz2 (decide (j < (128 : Int))) (
 J (IntKind.i32.wrap j) (1 : Int) o) (
 g o)) (
 g o))) : Zz1 Tryz.prog Zyf #[.slice a b c] w [.one (.int .i32), .one (.int .i64)] J := Zz5 Tryz.func207 (.s .o (.j [] (.s .o (.b (.l [(8, .int .i64)] (.s .o (.s (.c .o .o) (.s (.b (.s .o (.s (.s .o (.c (.s .o .o) .o)) .o))) .u)))))) (.s .o .o))) (Eq.mpr (by kernel_rfl) h)
theorem YaG {a : Option Addr} {b c : Nat} {w : World} {J : Int -> Int -> World -> Prop} (h :
 Zz2 (decide ((b : Int) < (1 : Int))) (
 J (65533 : Int) (0 : Int) w) (
 Zyx a b (0 : Int) fun d =>
 ldI .u8 w ((d.add ((0 : Int).toNat * 1))) fun e =>
 Zyx (some ⟨0, 0, none⟩) 256 e fun f =>
 ldI .u8 w ((f.add (e.toNat * 1))) fun g =>
 Zz2 (decide (g >= (240 : Int))) (
 0 <= (31 : Int) /\
 0 <= (31 : Int) /\
 Zyx a b (0 : Int) fun i =>
 ldI .u8 w ((i.add ((0 : Int).toNat * 1))) fun j =>
 J (bOr .i32 (Yfz .i32 (IntKind.i32.wrap j) (Yc8 .i32 (Yd0 .i32 (IntKind.i32.wrap g) (31 : Int)) (31 : Int))) (Ybh .i32 (65533 : Int) (Yc8 .i32 (Yd0 .i32 (IntKind.i32.wrap g) (31 : Int)) (31 : Int)))) (1 : Int) w) (
 0 <= (4 : Int) /\
 Zyx (some ⟨1, 0, none⟩) 16 (Yc8 .u8 g (4 : Int)) fun k =>
 ldI .u8 w ((k.add ((Yc8 .u8 g (4 : Int)).toNat * 2))) fun l =>
 ldI .u8 w (((k.add ((Yc8 .u8 g (4 : Int)).toNat * 2)).add 1)) fun m =>
 newB w (.cells (Zy5 Tryz.prog Zy1) Zy1) fun n o =>
 stN o ⟨n, 0, none⟩ ⟨[.int .u8 l, .int .u8 m]⟩ 2 fun p =>
 Zz2 (decide ((b : Int) < (w64 (Ybh .u8 g (7 : Int))))) (
 J (65533 : Int) (1 : Int) p) (
 Zyx a b (1 : Int) fun q =>
 ldI .u8 p ((q.add ((1 : Int).toNat * 1))) fun r =>
 Zzj (fun (ac : Bool) (ad : World) =>
 Zz2 ac (
 J (65533 : Int) (1 : Int) ad) (
 Zz2 (decide ((w64 (Ybh .u8 g (7 : Int))) <= (2 : Int))) (
 0 <= (6 : Int) /\
 J (bOr .i32 (Yd0 .i32 (IntKind.i32.wrap (Ybh .u8 e (31 : Int))) (6 : Int)) (IntKind.i32.wrap (Ybh .u8 r (63 : Int)))) (2 : Int) ad) (
 Zyx a b (2 : Int) fun s =>
 ldI .u8 ad ((s.add ((2 : Int).toNat * 1))) fun t =>
 Zzj (fun (ae : Bool) (af : World) =>
 Zz2 ae (
 J (65533 : Int) (1 : Int) af) (
 Zz2 (decide ((w64 (Ybh .u8 g (7 : Int))) <= (3 : Int))) (
 0 <= (12 : Int) /\
 0 <= (6 : Int) /\
 J (bOr .i32 (bOr .i32 (Yd0 .i32 (IntKind.i32.wrap (Ybh .u8 e (15 : Int))) (12 : Int)) (Yd0 .i32 (IntKind.i32.wrap (Ybh .u8 r (63 : Int))) (6 : Int))) (IntKind.i32.wrap (Ybh .u8 t (63 : Int)))) (3 : Int) af) (
 Zyx a b (3 : Int) fun u =>
 ldI .u8 af ((u.add ((3 : Int).toNat * 1))) fun v =>
 Zzj (fun (ag : Bool) (ai : World) =>
 Zz2 ag (
 J (65533 : Int) (1 : Int) ai) (
 0 <= (18 : Int) /\
 0 <= (12 : Int) /\
 0 <= (6 : Int) /\
 J (bOr .i32 (bOr .i32 (bOr .i32 (Yd0 .i32 (IntKind.i32.wrap (Ybh .u8 e (7 : Int))) (18 : Int)) (Yd0 .i32 (IntKind.i32.wrap (Ybh .u8 r (63 : Int))) (12 : Int))) (Yd0 .i32 (IntKind.i32.wrap (Ybh .u8 t (63 : Int))) (6 : Int))) (IntKind.i32.wrap (Ybh .u8 v (63 : Int)))) (4 : Int) ai)) fun x =>
 Zz2 (decide (v < (128 : Int))) (
 x true af) (
 x (decide ((191 : Int) < v)) af)))) fun y =>
 Zz2 (decide (t < (128 : Int))) (
 y true ad) (
 y (decide ((191 : Int) < t)) ad)))) fun z =>
 ldI .u8 p ⟨n, 0, none⟩ fun aa =>
 Zz2 (decide (r < aa)) (
 z true p) (
 ldI .u8 p ⟨n, 1, none⟩ fun ab =>
 z (decide (ab < r)) p))))) : Zz1 Tryz.prog Zyn #[.slice a b c] w [.one (.int .i32), .one (.int .i64)] J := Zz5 Tryz.func262 (.s .o (.s .o (.s (.s .o (.c (.s .o .o) .o)) (.s .o (.s .o (.s (.s .o (.c (.s .o (.s .o .o)) .o)) (.s .o (.s .o (.s (.s .o (.c (.s .o .o) .o)) (.s .o (.s (.j [(60, .bool)] .o (.c (.s .o .o) .o)) (.s (.s .o (.c (.s .o .o) .o)) (.s .o (.s (.j [(79, .bool)] .o (.c (.s .o .o) .o)) (.s (.s .o (.c (.s .o .o) .o)) (.s .o (.s (.j [(103, .bool)] .o (.c (.s .o .o) .o)) (.s .o .o)))))))))))))))))) (Eq.mpr (by kernel_rfl) h)
theorem Ybf {a : ByteArray} {w : World} {J : Int -> World -> Prop} (h :
 Zya a (0 : Int) fun b =>
 Zya a (1 : Int) fun c =>
 0 <= (8 : Int) /\
 Zya a (2 : Int) fun d =>
 0 <= (16 : Int) /\
 Zya a (3 : Int) fun e =>
 0 <= (24 : Int) /\
 Zya a (4 : Int) fun f =>
 0 <= (32 : Int) /\
 Zya a (5 : Int) fun g =>
 0 <= (40 : Int) /\
 Zya a (6 : Int) fun i =>
 0 <= (48 : Int) /\
 Zya a (7 : Int) fun j =>
 0 <= (56 : Int) /\
 J (bOr .u64 (bOr .u64 (bOr .u64 (bOr .u64 (bOr .u64 (bOr .u64 (bOr .u64 (IntKind.u64.wrap b) (Yd0 .u64 (IntKind.u64.wrap c) (8 : Int))) (Yd0 .u64 (IntKind.u64.wrap d) (16 : Int))) (Yd0 .u64 (IntKind.u64.wrap e) (24 : Int))) (Yd0 .u64 (IntKind.u64.wrap f) (32 : Int))) (Yd0 .u64 (IntKind.u64.wrap g) (40 : Int))) (Yd0 .u64 (IntKind.u64.wrap i) (48 : Int))) (Yd0 .u64 (IntKind.u64.wrap j) (56 : Int))) w.drew) : Zz1 Tryz.prog Zzm #[.string a] w [.one (.int .u64)] J := Zz5 Tryz.func209 (.s .o (.s (.c .u .o) (.s (.d (.take 0 (.take 1 (.take 2 (.take 3 (.take 4 (.take 5 (.take 6 (.take 7 (.take 8 (.take 9 (.take 10 (.take 11 (.take 12 (.take 13 (.take 14 (.take 15 (.take 16 (.take 17 (.take 18 (.take 19 (.take 20 (.take 21 (.take 22 (.take 23 (.take 24 (.take 25 (.take 26 (.take 27 (.take 28 (.take 29 (.take 30 (.take 31 (.take 32 (.take 33 (.take 34 (.take 35 (.take 36 (.take 37 (.take 38 .done)))))))))))))))))))))))))))))))))))))))) .o))) (Eq.mpr (by kernel_rfl) h)
theorem Ybg {a : ByteArray} {w : World} {J : Bool -> World -> Prop} (h :
 ∃ bx : ByteArray -> World -> Nat -> Prop, (∃ bz, bx a w bz) /\ ∀ (a : ByteArray) (be : World) (bz : Nat), bx a be bz -> (
 Zz2 (decide ((a.size : Int) > (0 : Int))) (
 Zya a (0 : Int) fun b =>
 Zz2 (decide (b < (128 : Int))) (
 Ya9 a (some (1 : Int)) none fun c =>
 Zzj (fun (bf : ByteArray) (bg : World) =>
 ∃ b0, b0 < bz /\ bx bf bg b0) fun d =>
 Zzj (fun (bi : Bool) (bj : World) =>
 Zz2 bi (
 Ya9 c (some (8 : Int)) none fun e =>
 Zzj (fun (bk : Bool) (bl : World) =>
 Zz2 bk (
 Ya9 e (some (16 : Int)) none fun f =>
 ∃ b1 : ByteArray -> World -> Nat -> Prop, (∃ bz, b1 f bl bz) /\ ∀ (bm : ByteArray) (bn : World) (m_1 : Nat), b1 bm bn m_1 -> (
 Zzj (fun (bo : Bool) (bp : World) =>
 Zz2 bo (
 Ya9 bm (some (32 : Int)) none fun g =>
 ∃ b0, b0 < m_1 /\ b1 g bp b0) (
 d bm bp)) fun i =>
 Zz2 (decide ((bm.size : Int) > (32 : Int))) (
 Ya9 bm (some (8 : Int)) none fun j =>
 Ya9 bm (some (16 : Int)) none fun k =>
 Ya9 bm (some (24 : Int)) none fun l =>
 Zz1 Tryz.prog Zzm #[.string bm] bn.drew [.one (.int .u64)] fun m n =>
 Zz1 Tryz.prog Zzm #[.string j] n [.one (.int .u64)] fun o p =>
 Zz1 Tryz.prog Zzm #[.string k] p [.one (.int .u64)] fun q r =>
 Zz1 Tryz.prog Zzm #[.string l] r [.one (.int .u64)] fun s t =>
 i ((Ybh .u64 (bOr .u64 (bOr .u64 m o) (bOr .u64 q s)) (9259542123273814144 : Int)) == (0 : Int)) t) (
 i false bn.drew))) (
 d e bl)) fun u =>
 Zz2 (decide ((e.size : Int) > (16 : Int))) (
 Ya9 e (some (8 : Int)) none fun v =>
 Zz1 Tryz.prog Zzm #[.string e] bj.drew [.one (.int .u64)] fun x y =>
 Zz1 Tryz.prog Zzm #[.string v] y [.one (.int .u64)] fun z aa =>
 u ((Ybh .u64 (bOr .u64 x z) (9259542123273814144 : Int)) == (0 : Int)) aa) (
 u false bj.drew)) (
 d c bj)) fun ab =>
 Zz2 (decide ((c.size : Int) > (8 : Int))) (
 Zz1 Tryz.prog Zzm #[.string c] be [.one (.int .u64)] fun ac ad =>
 ab ((Ybh .u64 ac (9259542123273814144 : Int)) == (0 : Int)) ad) (
 ab false be)) (
 Zyx (some ⟨0, 0, none⟩) 256 b fun ae =>
 ldI .u8 be ((ae.add (b.toNat * 1))) fun af =>
 0 <= (4 : Int) /\
 Zyx (some ⟨1, 0, none⟩) 16 (Yc8 .u8 af (4 : Int)) fun ag =>
 ldI .u8 be ((ag.add ((Yc8 .u8 af (4 : Int)).toNat * 2))) fun ai =>
 ldI .u8 be (((ag.add ((Yc8 .u8 af (4 : Int)).toNat * 2)).add 1)) fun aj =>
 newB be (.cells (Zy5 Tryz.prog Zy1) Zy1) fun ak al =>
 stN al ⟨ak, 0, none⟩ ⟨[.int .u8 ai, .int .u8 aj]⟩ 2 fun am =>
 Zz2 ((w64 (Ybh .u8 af (7 : Int))) == (2 : Int)) (
 Zzj (fun (bq : Bool) (br : World) =>
 Zz2 bq (
 J false br) (
 Ya9 a (some (2 : Int)) none fun an =>
 ∃ b0, b0 < bz /\ bx an br b0)) fun ao =>
 Zz2 (decide ((a.size : Int) < (2 : Int))) (
 ao true am.drew) (
 Zya a (1 : Int) fun ap =>
 ldI .u8 am.drew ⟨ak, 0, none⟩ fun aq =>
 Zz2 (decide (ap < aq)) (
 ao true am.drew) (
 ldI .u8 am.drew ⟨ak, 1, none⟩ fun ar =>
 Zya a (1 : Int) fun au =>
 ao (decide (ar < au)) am.drew))) (
 Zz2 ((w64 (Ybh .u8 af (7 : Int))) == (3 : Int)) (
 Zzj (fun (bs : Bool) (bt : World) =>
 Zz2 bs (
 J false bt) (
 Ya9 a (some (3 : Int)) none fun av =>
 ∃ b0, b0 < bz /\ bx av bt b0)) fun ax =>
 Zz2 (decide ((a.size : Int) < (3 : Int))) (
 ax true am.drew) (
 Zya a (1 : Int) fun ay =>
 ldI .u8 am.drew ⟨ak, 0, none⟩ fun az =>
 Zz2 (decide (ay < az)) (
 ax true am.drew) (
 ldI .u8 am.drew ⟨ak, 1, none⟩ fun a0 =>
 Zya a (1 : Int) fun a1 =>
 Zz2 (decide (a0 < a1)) (
 ax true am.drew) (
 Zya a (2 : Int) fun a2 =>
 Zz2 (decide (a2 < (128 : Int))) (
 ax true am.drew) (
 Zya a (2 : Int) fun a3 =>
 ax (decide ((191 : Int) < a3)) am.drew))))) (
 Zz2 ((w64 (Ybh .u8 af (7 : Int))) == (4 : Int)) (
 Zzj (fun (bu : Bool) (bv : World) =>
 Zz2 bu (
 J false bv) (
 Ya9 a (some (4 : Int)) none fun a4 =>
 ∃ b0, b0 < bz /\ bx a4 bv b0)) fun a5 =>
 Zz2 (decide ((a.size : Int) < (4 : Int))) (
 a5 true am.drew) (
 Zya a (1 : Int) fun a6 =>
 ldI .u8 am.drew ⟨ak, 0, none⟩ fun a7 =>
 Zz2 (decide (a6 < a7)) (
 a5 true am.drew) (
 ldI .u8 am.drew ⟨ak, 1, none⟩ fun a8 =>
 Zya a (1 : Int) fun a9 =>
 Zz2 (decide (a8 < a9)) (
 a5 true am.drew) (
 Zya a (2 : Int) fun ba =>
 Zz2 (decide (ba < (128 : Int))) (
 a5 true am.drew) (
 Zya a (2 : Int) fun bb =>
 Zz2 (decide ((191 : Int) < bb)) (
 a5 true am.drew) (
 Zya a (3 : Int) fun bc =>
 Zz2 (decide (bc < (128 : Int))) (
 a5 true am.drew) (
 Zya a (3 : Int) fun bd =>
 a5 (decide ((191 : Int) < bd)) am.drew))))))) (
 J false am))))) (
 J true be))) : Zz1 Tryz.prog Zyb #[.string a] w [.one .bool] J := Zz5 Tryz.func145 (.s .o (.s (.b (.l [(0, .str)] (.s (.s .o (.c .o .o)) (.b (.s .o (.s (.s .o (.c (.s .o (.j [(0, .str)] (.j [(24, .bool)] .o (.c (.s .o (.j [(39, .bool)] (.d (.take 0 (.take 1 (.take 2 (.take 3 (.take 4 (.take 6 (.take 7 (.eff 5 (.eff 8 (.take 9 (.take 10 (.take 11 (.take 12 .done)))) .none) .none))))))))) (.c (.s .o (.b (.l [(0, .str)] (.s (.j [(62, .bool)] (.d (.take 0 (.take 1 (.take 2 (.take 3 (.take 4 (.take 6 (.take 7 (.take 10 (.take 11 (.take 13 (.take 14 (.eff 5 (.eff 8 (.take 9 (.eff 12 (.eff 15 (.take 16 (.take 17 (.take 18 (.take 19 (.take 20 .done))))) .none) .none)) .none) .none))))))))))))) (.c .o .o)) (.b .o))))) .o))) .o)) .o)) .o)) (.s .o (.s .o (.s .o (.s .o (.b (.s .o (.c (.s (.j [(94, .bool)] (.d (.take 0 (.take 1 (.take 2 (.take 3 (.take 4 (.take 5 (.take 6 (.take 7 (.take 8 (.take 9 (.take 10 (.take 11 (.take 12 (.take 13 (.take 14 (.take 15 (.take 16 .done)))))))))))))))))) (.c (.s .o .o) .o)) .o) (.s .o (.c (.s (.j [(125, .bool)] (.d (.take 0 (.take 1 (.take 2 (.take 3 (.take 4 (.take 5 (.take 6 (.take 7 (.take 8 (.take 9 (.take 10 (.take 11 (.take 12 (.take 13 (.take 14 (.take 15 (.take 16 (.take 17 (.take 18 (.take 19 (.take 20 (.take 21 (.take 22 (.take 23 (.take 24 (.take 25 (.take 26 .done)))))))))))))))))))))))))))) (.c (.s .o .o) .o)) .o) (.s .o (.c (.s (.j [(166, .bool)] (.d (.take 0 (.take 1 (.take 2 (.take 3 (.take 4 (.take 5 (.take 6 (.take 7 (.take 8 (.take 9 (.take 10 (.take 11 (.take 12 (.take 13 (.take 14 (.take 15 (.take 16 (.take 17 (.take 18 (.take 19 (.take 20 (.take 21 (.take 22 (.take 23 (.take 24 (.take 25 (.take 26 (.take 27 (.take 28 (.take 29 (.take 30 (.take 31 (.take 32 (.take 33 (.take 34 (.take 35 (.take 36 .done)))))))))))))))))))))))))))))))))))))) (.c (.s .o .o) .o)) .o) (.s .o .o)))))))))))))))))) (.s .o .o))) (Eq.mpr (by kernel_rfl) h)
end Go.Proofs.YtlnfaaghdkngmaaGreatDoor
end
section
namespace Go.Vc
open Go Go.RowKit
structure Chg (S : Nat -> Prop) (w w' : World) : Prop where
 os : w'.os = w.os
 tape : w'.tape = w.tape
 output : w'.output = w.output
 size : w.heap.size <= w'.heap.size
 keep : ∀ b, b < w.heap.size -> ¬ S b -> w'.heap[b]? = w.heap[b]?
def No : Nat -> Prop := fun _ => False
section
variable {S S' : Nat -> Prop} {a w w' : World}
theorem Chg.refl (S : Nat -> Prop) (w : World) : Chg S w w := ⟨rfl, rfl, rfl, Nat.le_refl _, fun _ _ _ => rfl⟩
theorem Chg.trans (h : Chg S a w) (k : Chg S' w w') (hS : ∀ b, b < a.heap.size -> S' b -> S b) : Chg S a w' :=
 ⟨k.os.trans h.os, k.tape.trans h.tape, k.output.trans h.output, Nat.le_trans h.size k.size, fun b hb hn =>
  (k.keep b (Nat.lt_of_lt_of_le hb h.size) (fun hs => hn (hS b hb hs))).trans (h.keep b hb hn)⟩
theorem Chg.trans0 (h : Chg S a w) (k : Chg No w w') : Chg S a w' := h.trans k fun _ _ hf => hf.elim
theorem Chg.mono (h : Chg S a w) (hS : ∀ b, b < a.heap.size -> S b -> S' b) : Chg S' a w :=
 ⟨h.os, h.tape, h.output, h.size, fun b hb hn => h.keep b hb (fun hs => hn (hS b hb hs))⟩
theorem Chg.drew (h : Chg S a w) : Chg S a w.drew := ⟨h.os, h.tape, h.output, h.size, h.keep⟩
theorem Chg.alloc (h : Chg S a w) (o : Obj) : Chg S a (w.alloc o) :=
 h.trans0 ⟨rfl, rfl, rfl, by simp, fun b hb _ => heap_alloc_old w o hb⟩
theorem Chg.setRow (h : Chg S a w) (b : Nat) (cs : Array Value) (hb : b < a.heap.size -> S b) : Chg S a (w.setRow b cs) :=
 h.trans (S' := fun x => x = b) ⟨rfl, rfl, rfl, by simp, fun x _ hx => setRow_other w b x cs hx⟩ (fun x hx he => by subst he; exact hb hx)
theorem Chg.setBlk (h : Chg S a w) (b : Nat) (o : Obj) (hb : b < a.heap.size -> S b) : Chg S a (setBlk w b o) :=
 h.trans (S' := fun x => x = b) ⟨rfl, rfl, rfl, by simp [Vc.setBlk], fun x _ hx => by simp [Vc.setBlk, Array.getElem?_setIfInBounds_ne (Ne.symm hx)]⟩ (fun x hx he => by subst he; exact hb hx)
theorem Chg.of_grown {row : Option Nat} (h : w.grownBy w' row) (hr : ∀ b, row = some b -> S b) : Chg S w w' :=
 ⟨h.os, h.tape, h.output, h.size, fun b hb hn => h.block b hb (fun e => hn (hr b e.symm))⟩
theorem Chg.below (h : Chg No w w') : Below w.heap.size w w' := ⟨h.os, h.tape, h.output, h.size, fun b hb => h.keep b hb (fun hf => hf.elim)⟩
theorem Chg.of_below (h : Below w.heap.size w w') : Chg No w w' := ⟨h.os, h.tape, h.output, h.size, fun b hb _ => h.block b hb⟩
theorem Zy7 {b : Nat} {o : Obj} (h : w.heap[b]? = some o) : b < w.heap.size := (Array.getElem?_eq_some_iff.1 h).1
theorem Yhm {ad : Addr} {v : Value} (h : w.cell? ad = some v) : ad.block < w.heap.size := World.block_lt_of_cell? w ad h
theorem Chg.heap {b : Nat} {o : Obj} (h : Chg S w w') (hb : w.heap[b]? = some o) (hn : ¬ S b) : w'.heap[b]? = some o := (h.keep b (Zy7 hb) hn).trans hb
theorem Chg.cell {ad : Addr} {v : Value} (h : Chg S w w') (hc : w.cell? ad = some v) (hn : ¬ S ad.block) : w'.cell? ad = some v := by
 rw [World.cell?_of_block (h.keep ad.block (Yhm hc) hn)]; exact hc
theorem Chg.cells {ad : Addr} {cs : List Value} (h : Chg S w w') (hc : Zzn w ad cs) (hn : ¬ S ad.block) : Zzn w' ad cs := by
 intro j v hv
 have : (ad.add j).block = ad.block := by unfold Addr.add; split <;> rfl
 exact h.cell (hc j v hv) (by rw [this]; exact hn)
end
theorem Addr.add_mk (b o n : Nat) : (⟨b, o, none⟩ : Addr).add n = ⟨b, o + n, none⟩ := by unfold Addr.add; split <;> simp_all
theorem Addr.add_block (a : Addr) (n : Nat) : (a.add n).block = a.block := by unfold Addr.add; split <;> rfl
theorem Addr.add_add {a : Addr} (n m : Nat) (h : a.spot = none) : (a.add n).add m = a.add (n + m) := by
 obtain ⟨b, o, s⟩ := a
 subst h
 simp only [Addr.add_mk, Nat.add_assoc]
theorem YdV (w : World) (a : Addr) : Zzn w a [] := by intro j v hv; simp at hv
theorem cellsAt_spot {w : World} {a : Addr} {cs : List Value} (h : Zzn w a cs) (hn : cs ≠ []) : a.spot = none := by
 cases cs with
 | nil => exact absurd rfl hn
 | cons c cs => have := h 0 c rfl; rw [add_zero'] at this; exact World.cell?_spot this
theorem Ybn {w : World} {a : Addr} {cs : List Value} (k : Nat) (h : Zzn w a cs) : Zzn w (a.add k) (cs.drop k) := by
 intro j v hv
 rw [getElem?_drop] at hv
 have hne : cs ≠ [] := by rintro rfl; simp at hv
 rw [Addr.add_add _ _ (cellsAt_spot h hne)]
 exact h (k + j) v hv
theorem ZzS {w : World} {a : Addr} {cs : List Value} (k : Nat) (h : Zzn w a cs) : Zzn w a (cs.take k) := by
 intro j v hv
 rw [getElem?_take] at hv
 split at hv
 ·exact h j v hv
 ·simp at hv
theorem ZzT {w : World} {b off : Nat} {cs : List Value} {e : TypeId} {fz : Nat × Nat} (h : w.heap[b]? = some (.cells ⟨cs⟩ e fz)) : Zzn w ⟨b, off, none⟩ (cs.drop off) := by
 intro j v hv
 rw [Addr.add_mk, cell_of_row w b (off + j) ⟨cs⟩ e fz h]
 rw [getElem?_drop] at hv
 simpa using hv
def Sl (w : World) (p : Option Addr) (l sz : Nat) (vs : List Value) : Prop := vs.length = l * sz /\ (l = 0 \/ ∃ a, p = some a /\ Zzn w a vs)
def Bytes (w : World) (p : Option Addr) (l : Nat) (bs : List UInt8) : Prop := Sl w p l 1 (bcells bs)
def off (p : Option Addr) (S : Nat -> Prop) : Prop := ∀ a, p = some a -> ¬ S a.block
section
variable {w w' : World} {p : Option Addr} {l sz : Nat} {vs : List Value} {bs : List UInt8} {S : Nat -> Prop}
theorem off_no (p : Option Addr) : off p No := fun _ _ h => h.elim
theorem Sl.at (h : Sl w p l sz vs) (hl : l ≠ 0) : ∃ a, p = some a /\ Zzn w a vs := h.2.resolve_left hl
theorem Sl.chg (h : Sl w p l sz vs) (hc : Chg S w w') (hn : off p S) : Sl w' p l sz vs :=
 ⟨h.1, h.2.imp id fun ⟨a, ha, hcs⟩ => ⟨a, ha, hc.cells hcs (hn a ha)⟩⟩
theorem Sl.nil (w : World) (p : Option Addr) (sz : Nat) : Sl w p 0 sz [] := ⟨by simp, .inl rfl⟩
theorem Zq3 (bs : List UInt8) : (bcells bs).length = bs.length := by simp [bcells]
theorem Bytes.len (h : Bytes w p l bs) : bs.length = l := by have := h.1; simpa [bcells] using this
theorem Bytes.chg (h : Bytes w p l bs) (hc : Chg S w w') (hn : off p S) : Bytes w' p l bs := Sl.chg h hc hn
theorem Bytes.nil (w : World) (p : Option Addr) : Bytes w p 0 [] := Sl.nil w p 1
theorem Bytes.bytesAt (h : Bytes w p l bs) : Vc.bytesAt w p l bs := by
 have hl := h.len
 rcases h.2 with h0 | ⟨a, ha, hc⟩
 ·subst h0
  have : bs = [] := eq_nil_of_length_eq_zero hl
  subst this
  cases p with
  | none => rfl
  | some a => exact ⟨rfl, YdV _ _⟩
 ·subst ha
  exact ⟨hl, hc⟩
theorem bytesOf_i {K : List UInt8 -> Prop} (h : Bytes w p l bs) (k : K bs) : bytesOf w p l K := ⟨bs, h.bytesAt, k⟩
theorem idx_sl {i : Int} {K : Addr -> Prop} (h : Sl w p l sz vs) (h0 : 0 <= i) (h1 : i < l)
  (k : ∀ a, p = some a -> Zzn w (a.add (i.toNat * sz)) (vs.drop (i.toNat * sz)) -> K a) : Zyx p l i K := by
 obtain ⟨a, ha, hc⟩ := h.at (by omega)
 subst ha
 exact ⟨h0, h1, k a rfl (Ybn _ hc)⟩
theorem Zzo {w : World} {a : Addr} {v : Value} {vs : List Value} (h : Zzn w a (v :: vs)) : w.cell? a = some v := by
 have := h 0 v rfl; rwa [add_zero'] at this
theorem Yc0 {w : World} {a : Addr} {cs : List Value} {v : Value} (h : Zzn w a cs) (j : Nat) (hv : cs[j]? = some v) : w.cell? (a.add j) = some v := h j v hv
theorem byte_i {i : Int} {K : Int -> Prop} (h : Bytes w p l bs) (h0 : 0 <= i) (h1 : i < l) (k : ∀ b : UInt8, bs[i.toNat]? = some b -> K b.toNat) :
  Zyx p l i fun a => ldI .u8 w (a.add (i.toNat * 1)) K := by
 have hl := h.len
 have hlt : i.toNat < bs.length := by omega
 refine idx_sl h h0 h1 fun a _ hc => ?_
 rw [Nat.mul_one] at hc ⊢
 have hb : bs[i.toNat]? = some bs[i.toNat] := getElem?_eq_getElem hlt
 refine ⟨bs[i.toNat].toNat, ?_, k _ hb⟩
 have := hc 0 (.int .u8 bs[i.toNat].toNat) (by rw [getElem?_drop]; simp [bcells, hb])
 rwa [add_zero'] at this
theorem slS_sl {c : Nat} {lo hi : Option Int} {K : Option Addr -> Nat -> Nat -> Prop} {i j : Nat} (h : Sl w p l sz vs) (e1 : lo.getD 0 = (i : Int)) (e2 : hi.getD l = (j : Int)) (hij : i <= j) (hjl : j <= l) (hlc : l <= c)
  (k : ∀ p', Sl w p' (j - i) sz ((vs.drop (i * sz)).take ((j - i) * sz)) -> (∀ S, off p S -> off p' S) -> K p' (j - i) (c - i)) : slS p l c sz lo hi none K := by
 refine ⟨i, j, c, e1, e2, rfl, hij, by omega, Nat.le_refl _, k _ ⟨?_, ?_⟩ ?_⟩
 ·rw [length_take, length_drop, h.1]
  have : (j - i) * sz <= l * sz - i * sz := by rw [<- Nat.sub_mul]; exact Nat.mul_le_mul_right _ (by omega)
  omega
 ·by_cases h0 : j - i = 0
  ·exact .inl h0
  ·right
   obtain ⟨a, ha, hc⟩ := h.at (by omega)
   have hci : c ≠ i := by omega
   refine ⟨a.add (i * sz), by simp [hci, ha], ZzS _ (Ybn _ hc)⟩
 ·intro S hS a ha
  split at ha
  ·exact hS a ha
  ·cases p with
   | none => simp at ha
   | some x => simp at ha; subst ha; rw [Addr.add_block]; exact hS x rfl
end
structure SlT (P : Program) (t e : TypeId) (sz bytes : Nat) (z : Array Value) : Prop where
 hu : P.underlying t = some (.slice e)
 info : ∃ (i : TypeInfo) (v : Value), P.info? e = some i /\ i.zero = some v /\ i.size = sz /\ i.bytes = bytes /\ v.cells = z
 hz : z.size = sz
 pos : 0 < sz
theorem SlT.of {P : Program} {t e : TypeId} {sz bytes : Nat} {z : Array Value} (hu : P.underlying t = some (.slice e))
  (hi : (P.info? e).map (fun i => (i.zero.map Value.cells, i.size, i.bytes)) = some (some z, sz, bytes)) (hz : z.size = sz) (pos : 0 < sz) : SlT P t e sz bytes z := by
 refine ⟨hu, ?_, hz, pos⟩
 cases h : P.info? e with
 | none => simp [h] at hi
 | some i =>
  simp only [h, Option.map_some, Option.some.injEq, Prod.mk.injEq] at hi
  obtain ⟨h1, h2, h3⟩ := hi
  cases hv : i.zero with
  | none => simp [hv] at h1
  | some v => exact ⟨i, v, rfl, hv, h2, h3, by simpa [hv] using h1⟩
def isB (p : Option Addr) : Nat -> Prop := fun b => ∃ a, p = some a /\ a.block = b
def fresh (w : World) (p : Option Addr) : Prop := ∀ a, p = some a -> w.heap.size <= a.block
def Row (w : World) (e : TypeId) (sz : Nat) (p : Option Addr) (l c : Nat) (xs : List Value) : Prop :=
 xs.length = l * sz /\ ((p = none /\ l = 0 /\ c = 0) \/ ∃ b rest, p = some ⟨b, 0, none⟩ /\ w.heap[b]? = some (.cells ⟨xs ++ rest⟩ e (0, 0)) /\ l <= c /\ c <= maxLen /\ (xs ++ rest).length = c * sz)
section
variable {w w' : World} {e : TypeId} {sz : Nat} {p : Option Addr} {l c : Nat} {xs : List Value} {S : Nat -> Prop}
theorem Row.len (h : Row w e sz p l c xs) : xs.length = l * sz := h.1
theorem Row.sl (h : Row w e sz p l c xs) : Sl w p l sz xs := by
 refine ⟨h.1, ?_⟩
 rcases h.2 with ⟨_, h0, _⟩ | ⟨b, rest, hp, hh, _⟩
 ·exact .inl h0
 ·right
  refine ⟨_, hp, ?_⟩
  have := ZzS xs.length (ZzT (off := 0) hh)
  simpa using this
theorem Row.le (h : Row w e sz p l c xs) : l <= c /\ c <= maxLen := by
 rcases h.2 with ⟨_, h0, h1⟩ | ⟨b, rest, hp, hh, h1, h2, _⟩
 ·subst h0; subst h1; exact ⟨Nat.le_refl _, Nat.zero_le _⟩
 ·exact ⟨h1, h2⟩
theorem Row.lt (h : Row w e sz p l c xs) : ∀ a, p = some a -> a.block < w.heap.size := by
 intro a ha
 rcases h.2 with ⟨h0, _⟩ | ⟨b, rest, hp, hh, _⟩
 ·rw [h0] at ha; cases ha
 ·rw [hp] at ha; cases ha; exact Zy7 hh
theorem Row.chg (h : Row w e sz p l c xs) (hc : Chg S w w') (hn : off p S) : Row w' e sz p l c xs := by
 refine ⟨h.1, h.2.imp id ?_⟩
 rintro ⟨b, rest, hp, hh, r⟩
 exact ⟨b, rest, hp, hc.heap hh (hn _ hp), r⟩
theorem Row.none0 (h : Row w e sz p l c xs) : p = none -> l = 0 := by
 intro hp
 rcases h.2 with ⟨_, h0, _⟩ | ⟨b, rest, hp', _⟩
 ·exact h0
 ·rw [hp] at hp'; cases hp'
theorem Row.some0 (h : Row w e sz p l c xs) (hl : l ≠ 0) : ∃ b rest, p = some ⟨b, 0, none⟩ /\ w.heap[b]? = some (.cells ⟨xs ++ rest⟩ e (0, 0)) /\ l <= c /\ c <= maxLen /\ (xs ++ rest).length = c * sz := by
 rcases h.2 with ⟨_, h0, _⟩ | h
 ·exact absurd h0 hl
 ·exact h
theorem Row.at0 (h : Row w e sz p l c xs) (hl : l ≠ 0) : ∃ b, p = some ⟨b, 0, none⟩ := by
 obtain ⟨b, _, hp, _⟩ := h.some0 hl
 exact ⟨b, hp⟩
theorem Row.nil (w : World) (e : TypeId) (sz : Nat) : Row w e sz none 0 0 [] := ⟨by simp, .inl ⟨rfl, rfl, rfl⟩⟩
theorem Row.owns (h : Row w e sz p l c xs) : w.ownsRow 0 e sz (.slice p l c) l xs := by
 refine ⟨h.1, ?_⟩
 rcases h.2 with ⟨h0, h1, h2⟩ | ⟨b, rest, hp, hh, h1, h2, h3⟩
 ·subst h0; subst h1; subst h2; exact .inl ⟨rfl, rfl⟩
 ·subst hp
  refine .inr ⟨b, c, _, rfl, Nat.zero_le _, hh, h1, h2, by simpa using h3, ?_⟩
  rw [<- h.1]; simp
theorem Row.of_owns {v : Value} {n : Nat} (h : w.ownsRow 0 e sz v n xs) : ∃ p c, v = .slice p n c /\ Row w e sz p n c xs := by
 obtain ⟨hl, h⟩ := h
 rcases h with ⟨rfl, rfl⟩ | ⟨g, cap, cur, rfl, _, hh, h1, h2, h3, h4⟩
 ·exact ⟨none, 0, rfl, hl, .inl ⟨rfl, rfl, rfl⟩⟩
 ·refine ⟨_, _, rfl, hl, .inr ⟨g, cur.toList.drop (n * sz), rfl, ?_, h1, h2, ?_⟩⟩
  ·rw [<- h4, take_append_drop]; simpa using hh
  ·rw [<- h4, take_append_drop]; simpa using h3
end
def typ (w : World) (b : Nat) : Option TypeId := match w.heap[b]? with | some (.cells _ e _) => some e | _ => none
theorem ZqB {w : World} {b : Nat} {cs : Array Value} {e : TypeId} {fz : Nat × Nat} (h : w.heap[b]? = some (.cells cs e fz)) : typ w b = some e := by unfold typ; rw [h]
theorem Row.typ {w : World} {e : TypeId} {sz : Nat} {p : Option Addr} {l c : Nat} {xs : List Value} (h : Row w e sz p l c xs) : ∀ a, p = some a -> typ w a.block = some e := by
 intro a ha
 rcases h.2 with ⟨h0, _⟩ | ⟨b, rest, hp, hh, _⟩
 ·rw [h0] at ha; cases ha
 ·rw [hp] at ha; cases ha; exact ZqB hh
def one1 (vs : List Value) : Prop := ∀ v ∈ vs, v.oneCell' = true
theorem Zyt : one1 [] := by intro v hv; cases hv
theorem Zzd {v : Value} {vs : List Value} (h : v.oneCell' = true) (k : one1 vs) : one1 (v :: vs) := by
 intro x hx; rcases mem_cons.1 hx with rfl | hx
 ·exact h
 ·exact k x hx
theorem appJ_row2 {P : Program} {t e : TypeId} {sz by_ : Nat} {z : Array Value} (T : SlT P t e sz by_ z) {w : World} {p q : Option Addr} {l c m c2 : Nat} {xs news : List Value}
  {K : Option Addr -> Nat -> Nat -> World -> Prop} (h : Row w e sz p l c xs) (src : Sl w q m sz news) (h1 : one1 news) (hm : q = none -> m = 0) (hb : (l + m) * by_ <= 140737488355328) (hmax : l + m <= maxLen)
  (k : ∀ p' c' w', Row w' e sz p' (l + m) c' (xs ++ news) -> Chg (isB p) w w' -> (p' = p \/ (fresh w p' /\ c < l + m)) -> K p' (l + m) c' w') :
  YcO P t t (.slice p l c) (.slice q m c2) w K := by
 obtain ⟨i, v, hi, hz, hsz, hby, hv⟩ := T.info
 have hown := h.owns
 have fin : ∀ v' w', (∀ ty, (Builtin.append_ #[t, t] ty #[.slice p l c, .slice q m c2]).run P w = .ok v' w') -> w'.ownsRow 0 e sz v' (l + m) (xs ++ news) -> Chg (isB p) w w' ->
   (v' = .slice p (l + m) c \/ ∀ p' c', v' = .slice p' (l + m) c' -> (fresh w p' /\ c < l + m)) -> YcO P t t (.slice p l c) (.slice q m c2) w K := by
  intro v' w' hr ho hc hf
  obtain ⟨p', c', rfl, hrow⟩ := Row.of_owns ho
  refine ⟨p', l + m, c', w', hr, k p' c' w' hrow hc ?_⟩
  rcases hf with hf | hf
  ·left; injection hf
  ·exact .inr (hf p' c' rfl)
 cases q with
 | none =>
  have h0 := hm rfl
  subst h0
  have hn : news = [] := eq_nil_of_length_eq_zero (by simpa using src.1)
  subst hn
  refine fin (.slice p l c) w (fun ty => ?_) (by simpa using hown) (Chg.refl _ _) (.inl rfl)
  have hle := h.le.1
  cases p with
  | none => simp [Builtin.append_, run_underlying T.hu, sizeOf, typeInfo, hi, Builtin.lenOf, Builtin.firstCells, hle]
  | some a => simp [Builtin.append_, run_underlying T.hu, sizeOf, typeInfo, hi, Builtin.lenOf, Builtin.firstCells, hle, storeCells]
 | some ad =>
  have hnews : ∀ j u, news[j]? = some u -> w.cell? (ad.add j) = some u := by
   rcases src.2 with h0 | ⟨a, ha, hc⟩
   ·intro j u hu
    have hn : news = [] := eq_nil_of_length_eq_zero (by have := src.1; rw [h0] at this; simpa using this)
    subst hn; simp at hu
   ·cases ha; exact hc
  have fz : v.cells.size = sz := by rw [hv]; exact T.hz
  obtain ⟨v', w', hr, ho, hg, hnil⟩ := run_append_own (P := P) w 0 t 0 e i v sz by_ (T.hu) hi hz hsz hby fz T.pos (.slice p l c) l xs hown ad m c2 news src.1 hnews h1 hmax hb (Nat.zero_le _)
  have hr' : ∀ ty, (Builtin.append_ #[t, t] ty #[.slice p l c, .slice (some ad) m c2]).run P w = .ok v' w' := fun ty => hr
  have hcg : Chg (isB p) w w' := Chg.of_grown hg (fun b hb => by
   cases p with
   | none => simp [Value.ownBlock] at hb
   | some x => simp [Value.ownBlock] at hb; exact ⟨x, rfl, hb⟩)
   -- where the new row lies
  by_cases hroom : l + m <= c
  · -- in place
   rcases h.2 with ⟨h0, h2, h3⟩ | ⟨b, rest, hp, hh, hlc, hcm, hcs⟩
   ·subst h0; subst h2; subst h3
    have hm0 : m = 0 := by omega
    subst hm0
    have := hnil.2 ⟨rfl, rfl⟩
    subst this
    exact fin _ _ hr' ho hcg (.inl rfl)
   ·subst hp
    subst hsz
    have hroomr := run_append_room (P := P) w t 0 e i T.hu hi b l c ⟨xs ++ rest⟩ hh ad m c2 news src.1 hnews h1 hroom (by
     rw [src.1, <- Nat.add_mul]; simp only [size_toArray]; rw [hcs]; exact Nat.mul_le_mul_right _ hroom)
    rw [hr] at hroomr
    injection hroomr with e1 e2
    exact fin _ _ hr' ho hcg (.inl e1)
  · -- a new block
   refine fin _ _ hr' ho hcg (.inr ?_)
   intro p' c' hp'
   refine ⟨?_, by omega⟩
   intro a ha
   subst hp'
   obtain ⟨p2, c2', e1, hrow⟩ := Row.of_owns ho
   have hp2 : p' = p2 := by injection e1
   subst hp2
    -- the block's cells are more than the old ones: else it lies where it was; decided by the run itself
   rcases h.2 with ⟨h0, h2, h3⟩ | ⟨b, rest, hp, hh, hlc, hcm, hcs⟩
   ·subst h0; subst h2; subst h3
    have hr2 := run_append_nil (P := P) w t 0 e i v T.hu hi hz ad m c2 news (by rw [hsz]; exact src.1) hnews (by omega) (by simp only [maxLen] at hmax; omega) (by rw [hby]; have hb' := hb; simp only [Nat.zero_add] at hb'; omega)
    rw [hr] at hr2
    injection hr2 with e2 e3
    injection e2 with e4
    rw [ha] at e4
    injection e4 with e5
    rw [e5]
    exact Nat.le_refl _
   ·subst hp
    subst hsz
    have holds : ∀ j u, xs[j]? = some u -> w.cell? ((⟨b, 0, none⟩ : Addr).add j) = some u := by
     have := h.sl
     rcases this.2 with h0 | ⟨a', ha', hc'⟩
     ·intro j u hu
      have hn : xs = [] := eq_nil_of_length_eq_zero (by have := h.1; rw [h0] at this; simpa using this)
      subst hn; simp at hu
     ·cases ha'; exact hc'
    have hr2 := run_append_grow (P := P) w t 0 e i v T.hu hi hz ⟨b, 0, none⟩ l c xs h.1 holds ad m c2 news src.1 hnews (by omega) (by simp only [maxLen] at hmax; omega) (growslice_fits (by omega) (by rw [hby]; exact hb))
    rw [hr] at hr2
    injection hr2 with e2 e3
    injection e2 with e4
    rw [ha] at e4
    injection e4 with e5
    rw [e5]
    exact Nat.le_refl _
theorem Zq4 {P : Program} {t e : TypeId} {sz by_ : Nat} {z : Array Value} (T : SlT P t e sz by_ z) {w : World} {p q : Option Addr} {l c m c2 : Nat} {xs news : List Value}
  {K : Option Addr -> Nat -> Nat -> World -> Prop} (h : Row w e sz p l c xs) (src : Sl w q m sz news) (h1 : one1 news) (hm : q = none -> m = 0) (hb : (l + m) * by_ <= 140737488355328) (hmax : l + m <= maxLen)
  (k : ∀ p' c' w', Row w' e sz p' (l + m) c' (xs ++ news) -> Chg (isB p) w w' -> (p' = p \/ fresh w p') -> K p' (l + m) c' w') :
  YcO P t t (.slice p l c) (.slice q m c2) w K :=
 appJ_row2 T h src h1 hm hb hmax fun p' c' w' hr hc hf => k p' c' w' hr hc (hf.imp id (·.1))
def splice (cs : List Value) (off : Nat) (vs : List Value) : List Value := cs.take off ++ vs ++ cs.drop (off + vs.length)
theorem YbE {cs vs : List Value} (h : cs.length = vs.length) : splice cs 0 vs = vs := by simp [splice, <- h]
theorem ZqC {b : Nat} {e : TypeId} : ∀ (vs : List Value) (i off : Nat) (cs : List Value) (w : World), w.heap[b]? = some (.cells ⟨cs⟩ e (0, 0)) -> off + i + vs.length <= cs.length ->
  setCells w ⟨b, off, none⟩ i vs = w.setRow b ⟨cs.take (off + i) ++ vs ++ cs.drop (off + i + vs.length)⟩
 | [], i, off, cs, w, h, _ => by
  simp only [setCells, append_nil, length_nil, Nat.add_zero, take_append_drop]
  rw [setRow_self w b ⟨cs⟩ e (0, 0) h]
 | v :: vs, i, off, cs, w, h, hl => by
  simp only [length_cons] at hl
  simp only [setCells, Addr.add_mk]
  rw [setCell_eq_setRow w b (off + i) ⟨cs⟩ e (0, 0) v h]
  have h2 := setRow_heap w b ⟨cs⟩ ((⟨cs⟩ : Array Value).setIfInBounds (off + i) v) e (0, 0) h
  have e1 : (⟨cs⟩ : Array Value).setIfInBounds (off + i) v = ⟨cs.set (off + i) v⟩ := by apply Array.ext'; simp
  rw [e1] at h2 ⊢
  rw [ZqC vs (i + 1) off (cs.set (off + i) v) _ h2 (by simp; omega), setRow_setRow]
  congr 2
  have := list_seg_step cs (off + i) v vs (by omega)
  simp only [length_cons]
  rw [show off + (i + 1) = off + i + 1 by omega]
  exact this
structure Blk where
 b : Nat
 cs : List Value
 e : TypeId
structure Hp (w0 : World) (S : Nat -> Prop) (w : World) (Γ : List Blk) : Prop where
 chg : Chg S w0 w
 is : ∀ p ∈ Γ, w.heap[p.b]? = some (.cells ⟨p.cs⟩ p.e (0, 0))
 nd : (Γ.map (·.b)).Nodup
 own : ∀ p ∈ Γ, p.b < w0.heap.size -> S p.b
section
variable {w0 w w' : World} {S S' : Nat -> Prop} {Γ : List Blk} {b : Nat} {cs : List Value} {e : TypeId}
theorem nodup_inj {l : List Nat} (h : l.Nodup) {i j x : Nat} (hi : l[i]? = some x) (hj : l[j]? = some x) : i = j := by
  have h1 := (List.getElem?_eq_some_iff.1 hi)
  have h2 := (List.getElem?_eq_some_iff.1 hj)
  obtain ⟨a1, a2⟩ := h1
  obtain ⟨b1, b2⟩ := h2
  have hp := List.pairwise_iff_getElem.1 h
  rcases Nat.lt_trichotomy i j with hlt | heq | hgt
  · exact absurd (a2.trans b2.symm) (hp i j a1 b1 hlt)
  · exact heq
  · exact absurd (b2.trans a2.symm) (hp j i b1 a1 hgt)
theorem Hp.start (w : World) (S : Nat -> Prop) : Hp w S w [] := ⟨Chg.refl _ _, by simp, by simp, by simp⟩
theorem Hp.of_chg (h : Chg S w0 w) : Hp w0 S w [] := ⟨h, by simp, by simp, by simp⟩
theorem Hp.get (H : Hp w0 S w Γ) (i : Nat) (hi : Γ[i]? = some ⟨b, cs, e⟩) : w.heap[b]? = some (.cells ⟨cs⟩ e (0, 0)) := H.is _ (mem_of_getElem? hi)
theorem Hp.cell (H : Hp w0 S w Γ) (i : Nat) (hi : Γ[i]? = some ⟨b, cs, e⟩) {off : Nat} {v : Value} (hv : cs[off]? = some v) : w.cell? ⟨b, off, none⟩ = some v := by
 rw [cell_of_row w b off _ e (0, 0) (H.get i hi)]; simpa using hv
theorem Hp.ldI (H : Hp w0 S w Γ) (i : Nat) (hi : Γ[i]? = some ⟨b, cs, e⟩) {off : Nat} {k : IntKind} {n : Int} {K : Int -> Prop} (hv : cs[off]? = some (.int k n)) (hk : K n) : Vc.ldI k w ⟨b, off, none⟩ K := ⟨n, H.cell i hi hv, hk⟩
theorem Hp.ldB (H : Hp w0 S w Γ) (i : Nat) (hi : Γ[i]? = some ⟨b, cs, e⟩) {off : Nat} {x : Bool} {K : Bool -> Prop} (hv : cs[off]? = some (.bool x)) (hk : K x) : Vc.ldB w ⟨b, off, none⟩ K := ⟨x, H.cell i hi hv, hk⟩
theorem Hp.ldP (H : Hp w0 S w Γ) (i : Nat) (hi : Γ[i]? = some ⟨b, cs, e⟩) {off : Nat} {x : Option Addr} {K : Option Addr -> Prop} (hv : cs[off]? = some (.pointer x)) (hk : K x) : Vc.ldP w ⟨b, off, none⟩ K := ⟨x, H.cell i hi hv, hk⟩
theorem Hp.ldS (H : Hp w0 S w Γ) (i : Nat) (hi : Γ[i]? = some ⟨b, cs, e⟩) {off l c : Nat} {p : Option Addr} {K : Option Addr -> Nat -> Nat -> Prop} (hv : cs[off]? = some (.slice p l c)) (hk : K p l c) : Vc.ldS w ⟨b, off, none⟩ K := ⟨p, l, c, H.cell i hi hv, hk⟩
theorem Hp.ldStr (H : Hp w0 S w Γ) (i : Nat) (hi : Γ[i]? = some ⟨b, cs, e⟩) {off : Nat} {x : ByteArray} {K : ByteArray -> Prop} (hv : cs[off]? = some (.string x)) (hk : K x) : Vc.ldStr w ⟨b, off, none⟩ K := ⟨x, H.cell i hi hv, hk⟩
theorem Hp.cells (H : Hp w0 S w Γ) (i : Nat) (hi : Γ[i]? = some ⟨b, cs, e⟩) (off : Nat) : Zzn w ⟨b, off, none⟩ (cs.drop off) := ZzT (H.get i hi)
theorem Hp.drew (H : Hp w0 S w Γ) : Hp w0 S w.drew Γ := ⟨H.chg.drew, H.is, H.nd, H.own⟩
theorem Hp.lt (H : Hp w0 S w Γ) (i : Nat) (hi : Γ[i]? = some ⟨b, cs, e⟩) : b < w.heap.size := Zy7 (H.get i hi)
theorem Hp.row (H : Hp w0 S w Γ) (i : Nat) (hi : Γ[i]? = some ⟨b, cs, e⟩) (cs' : List Value) : Hp w0 S (w.setRow b ⟨cs'⟩) (Γ.set i ⟨b, cs', e⟩) := by
  have hlt : i < Γ.length := (List.getElem?_eq_some_iff.1 hi).1
  have hget : Γ[i] = ⟨b, cs, e⟩ := (List.getElem?_eq_some_iff.1 hi).2
  have hb := H.own ⟨b, cs, e⟩ (List.mem_of_getElem? hi)
  refine ⟨H.chg.setRow b _ hb, fun p hp => ?_, ?_, fun p hp => ?_⟩
  · obtain ⟨j, hj⟩ := List.mem_iff_getElem?.1 hp
    rw [List.getElem?_set] at hj
    by_cases hij : i = j
    · rw [if_pos hij] at hj
      have hj' : some (⟨b, cs', e⟩ : Blk) = some p := by subst hij; simpa [hlt] using hj
      cases hj'
      exact setRow_heap w b _ _ e (0, 0) (H.get i hi)
    · rw [if_neg hij] at hj
      have hne : p.b ≠ b := by
        intro he
        have h1 : (Γ.map (·.b))[j]? = some b := by rw [List.getElem?_map, hj]; simp [he]
        have h2 : (Γ.map (·.b))[i]? = some b := by rw [List.getElem?_map, hi]; simp
        exact hij (nodup_inj H.nd h2 h1)
      rw [setRow_other w b p.b _ hne]
      exact H.is p (List.mem_of_getElem? hj)
  · have : (Γ.set i ⟨b, cs', e⟩).map (·.b) = Γ.map (·.b) := by
      apply List.ext_getElem?
      intro j
      simp only [List.getElem?_map, List.getElem?_set]
      by_cases hij : i = j
      · subst hij; simp [hlt, hget]
      · simp [hij]
    rw [this]; exact H.nd
  · rcases List.mem_or_eq_of_mem_set hp with hp | rfl
    · exact H.own p hp
    · exact hb
theorem ZqF (w : World) (b : Nat) (cs : Array Value) : Chg (fun x => x = b) w (w.setRow b cs) := (Chg.refl _ w).setRow b cs (fun _ => rfl)
theorem Hp.stV (H : Hp w0 S w Γ) (i : Nat) (hi : Γ[i]? = some ⟨b, cs, e⟩) {off : Nat} {v : Value} {K : World -> Prop} (ho : off < cs.length)
  (k : ∀ w', Hp w0 S w' (Γ.set i ⟨b, cs.set off v, e⟩) -> Chg (fun x => x = b) w w' -> K w') : Vc.stV w ⟨b, off, none⟩ v K := by
 have hh := H.get i hi
 refine ⟨⟨⟨cs[off], by rw [cell_of_row w b off _ e (0, 0) hh]; simp [ho]⟩, frozen_of_row w b off _ e hh⟩, ?_⟩
 have e1 : w.setCell ⟨b, off, none⟩ v = w.setRow b ⟨cs.set off v⟩ := by
  rw [setCell_eq_setRow w b off ⟨cs⟩ e (0, 0) v hh]
  congr 1; apply Array.ext'; simp
 rw [e1]
 exact k _ (H.row i hi _) (ZqF _ _ _)
theorem Hp.stN (H : Hp w0 S w Γ) (i : Nat) (hi : Γ[i]? = some ⟨b, cs, e⟩) {off n : Nat} {vs : List Value} {K : World -> Prop} (hn : vs.length = n) (ho : off + n <= cs.length) (h1 : one1 vs)
  (k : ∀ w', Hp w0 S w' (Γ.set i ⟨b, splice cs off vs, e⟩) -> Chg (fun x => x = b) w w' -> K w') : Vc.stN w ⟨b, off, none⟩ ⟨vs⟩ n K := by
 have hh := H.get i hi
 refine ⟨by simpa using hn, h1, fun j hj => ?_, ?_⟩
 ·rw [Addr.add_mk]
  have : off + j < cs.length := by omega
  exact ⟨⟨cs[off + j], by rw [cell_of_row w b (off + j) _ e (0, 0) hh]; simp [this]⟩, frozen_of_row w b (off + j) _ e hh⟩
 ·have e1 : setCells w ⟨b, off, none⟩ 0 vs = w.setRow b ⟨splice cs off vs⟩ := by
   rw [ZqC vs 0 off cs w hh (by omega)]; rfl
  rw [show (⟨vs⟩ : Array Value).toList = vs from rfl, e1]
  exact k _ (H.row i hi _) (ZqF _ _ _)
theorem Yb8 (w : World) (o : Obj) : Chg No w (w.alloc o) := (Chg.refl _ w).alloc o
theorem Hp.new (H : Hp w0 S w Γ) (cs : List Value) (e : TypeId) : Hp w0 S (w.alloc (.cells ⟨cs⟩ e)) (⟨w.heap.size, cs, e⟩ :: Γ) := by
 refine ⟨H.chg.alloc _, fun p hp => ?_, ?_, fun p hp hlt => ?_⟩
 ·rcases mem_cons.1 hp with rfl | hp
  ·exact heap_alloc_new w _
  ·exact (Yb8 w _).heap (H.is p hp) (fun h => h)
 ·simp only [map_cons, nodup_cons]
  refine ⟨fun hm => ?_, H.nd⟩
  obtain ⟨p, hp, hpb⟩ := mem_map.1 hm
  have := Zy7 (H.is p hp)
  omega
 ·rcases mem_cons.1 hp with rfl | hp
  ·have := H.chg.size
   simp only at hlt
   omega
  ·exact H.own p hp hlt
theorem Hp.newB (H : Hp w0 S w Γ) {cs : List Value} {e : TypeId} {K : Nat -> World -> Prop}
  (k : ∀ b w', Hp w0 S w' (⟨b, cs, e⟩ :: Γ) -> w.heap.size <= b -> Chg No w w' -> K b w') : Vc.newB w (.cells ⟨cs⟩ e) K :=
 k _ _ (H.new cs e) (Nat.le_refl _) (Yb8 _ _)
theorem madeCells_eq (z : Array Value) (k sz : Nat) (h : z.size = sz) : madeCells z (k * sz) = ⟨(replicate k z.toList).flatten⟩ := by
 subst h; exact zrow_eq z k
theorem Hp.step (H : Hp w0 S w Γ) (hc : Chg S' w w') (hn : ∀ p ∈ Γ, ¬ S' p.b) (hS : ∀ b, b < w0.heap.size -> S' b -> S b) : Hp w0 S w' Γ :=
 ⟨H.chg.trans hc hS, fun p hp => hc.heap (H.is p hp) (hn p hp), H.nd, H.own⟩
theorem Hp.step0 (H : Hp w0 S w Γ) (hc : Chg No w w') : Hp w0 S w' Γ := H.step hc (fun _ _ h => h) (fun _ _ h => h.elim)
theorem Hp.add (H : Hp w0 S w Γ) (hb : w.heap[b]? = some (.cells ⟨cs⟩ e (0, 0))) (hn : ∀ p ∈ Γ, p.b ≠ b) (hS : b < w0.heap.size -> S b) : Hp w0 S w (⟨b, cs, e⟩ :: Γ) := by
 refine ⟨H.chg, fun p hp => ?_, ?_, fun p hp => ?_⟩
 ·rcases mem_cons.1 hp with rfl | hp
  ·exact hb
  ·exact H.is p hp
 ·simp only [map_cons, nodup_cons]
  refine ⟨fun hm => ?_, H.nd⟩
  obtain ⟨p, hp, hpb⟩ := mem_map.1 hm
  exact hn p hp hpb
 ·rcases mem_cons.1 hp with rfl | hp
  ·exact hS
  ·exact H.own p hp
theorem Hp.asRow (H : Hp w0 S w Γ) (i : Nat) (hi : Γ[i]? = some ⟨b, cs, e⟩) {sz l c : Nat} {xs rest : List Value} (hcs : cs = xs ++ rest) (hl : xs.length = l * sz) (hlc : l <= c) (hc : c <= maxLen) (hlen : cs.length = c * sz) :
  Row w e sz (some ⟨b, 0, none⟩) l c xs := ⟨hl, .inr ⟨b, rest, rfl, by rw [H.get i hi, hcs], hlc, hc, by rw [<- hcs]; exact hlen⟩⟩
theorem slS_pre {p : Option Addr} {l c sz j : Nat} {K : Option Addr -> Nat -> Nat -> Prop} (hp : ∃ b, p = some ⟨b, 0, none⟩) (hj : j <= c) (hc : c ≠ 0) (k : K p j c) : slS p l c sz none (some (j : Int)) none K := by
 obtain ⟨b, rfl⟩ := hp
 refine ⟨0, j, c, rfl, rfl, rfl, Nat.zero_le _, hj, Nat.le_refl _, ?_⟩
 simp only [Nat.sub_zero, hc, if_false, Nat.zero_mul, Option.map_some, Addr.add_mk, Nat.add_zero]
 exact k
end
end Go.Vc
end
section
namespace Go.Vc
open Go
section
variable {α : Type} {f : α -> List Value} {k : Nat} {L : List α}
def rows (f : α -> List Value) (L : List α) : List Value := L.flatMap f
def Yee (f : α -> List Value) (k : Nat) (L : List α) : Prop := ∀ x ∈ L, (f x).length = k
theorem Yee.cons {x : α} (h : Yee f k (x :: L)) : (f x).length = k /\ Yee f k L := ⟨h x (by simp), fun y hy => h y (by simp [hy])⟩
theorem Yee.set (h : Yee f k L) {x : α} (hx : (f x).length = k) (i : Nat) : Yee f k (L.set i x) := by
 intro y hy
 rcases mem_or_eq_of_mem_set hy with hy | rfl
 ·exact h y hy
 ·exact hx
theorem Yee.drop (h : Yee f k L) (i : Nat) : Yee f k (L.drop i) := fun y hy => h y (mem_of_mem_drop hy)
theorem rows_nil : rows f [] = [] := rfl
theorem Zyy (x : α) : rows f (x :: L) = f x ++ rows f L := by simp [rows]
theorem ZzL (M : List α) : rows f (L ++ M) = rows f L ++ rows f M := by simp [rows]
theorem Zy9 (h : Yee f k L) : (rows f L).length = L.length * k := by
 induction L with
 | nil => simp [rows]
 | cons x L ih =>
  obtain ⟨h1, h2⟩ := h.cons
  rw [Zyy, length_append, h1, ih h2, length_cons, Nat.succ_mul]; omega
theorem YaX (h : Yee f k L) (i : Nat) : (rows f L).drop (i * k) = rows f (L.drop i) := by
 induction i generalizing L with
 | zero => simp
 | succ i ih =>
  cases L with
  | nil => simp [rows]
  | cons x L =>
   obtain ⟨h1, h2⟩ := h.cons
   rw [Zyy, drop_succ_cons, <- ih h2, Nat.succ_mul, Nat.add_comm, <- drop_drop, <- h1, drop_left]
theorem YaW (h : Yee f k L) (i : Nat) : (rows f L).take (i * k) = rows f (L.take i) := by
 induction i generalizing L with
 | zero => simp [rows]
 | succ i ih =>
  cases L with
  | nil => simp [rows]
  | cons x L =>
   obtain ⟨h1, h2⟩ := h.cons
   rw [Zyy, take_succ_cons, Zyy, <- ih h2, Nat.succ_mul, Nat.add_comm, take_append, h1]
   congr 1
   ·exact take_of_length_le (by omega)
   ·congr 1; omega
theorem rows_get (h : Yee f k L) {i : Nat} {x : α} (hi : L[i]? = some x) : ((rows f L).drop (i * k)).take k = f x := by
  rw [YaX h i]
  have hlt := (List.getElem?_eq_some_iff.1 hi).1
  have hx := (List.getElem?_eq_some_iff.1 hi).2
  rw [List.drop_eq_getElem_cons hlt, Zyy, hx, <- h x (List.mem_of_getElem? hi), List.take_left]
theorem Yfb (h : Yee f k L) {i j : Nat} {x : α} (hi : L[i]? = some x) (hj : j < k) : (rows f L)[i * k + j]? = (f x)[j]? := by
 rw [<- rows_get h hi, getElem?_take, if_pos hj, getElem?_drop]
theorem YgG (h : Yee f k L) {i : Nat} (hi : i < L.length) {x : α} (hx : (f x).length = k) : splice (rows f L) (i * k) (f x) = rows f (L.set i x) := by
 unfold splice
 rw [YaW h, hx, show i * k + k = (i + 1) * k by rw [Nat.succ_mul], YaX h, set_eq_take_append_cons_drop, if_pos hi, ZzL, Zyy]
 simp
theorem YaY (h : ∀ x ∈ L, one1 (f x)) : one1 (rows f L) := by
 intro v hv
 obtain ⟨x, hx, hvx⟩ := mem_flatMap.1 hv
 exact h x hx v hvx
end
theorem Yel {xs rest vs : List Value} {off : Nat} (h : off + vs.length <= xs.length) : splice (xs ++ rest) off vs = splice xs off vs ++ rest := by
 unfold splice
 rw [take_append_of_le_length (by omega), drop_append_of_le_length (by omega)]
 simp
theorem Sl.row {α : Type} {f : α -> List Value} {k : Nat} {L : List α} {w : World} {p : Option Addr} {l : Nat} (h : Sl w p l k (rows f L)) (hE : Yee f k L) (hk : 0 < k) : L.length = l := by
 have := h.1
 rw [Zy9 hE] at this
 exact Nat.eq_of_mul_eq_mul_right hk this
theorem Zzr {α : Type} {f : α -> List Value} {k : Nat} {L : List α} {w : World} {p : Option Addr} {l : Nat} {i : Int} {K : Addr -> Prop} (h : Sl w p l k (rows f L)) (hE : Yee f k L) (hk : 0 < k) (h0 : 0 <= i) (h1 : i < l)
  (go : ∀ (a : Addr) (x : α), p = some a -> L[i.toNat]? = some x -> Zzn w (a.add (i.toNat * k)) (f x) -> K a) : Zyx p l i K := by
 have hl := h.row hE hk
 have hlt : i.toNat < L.length := by omega
 refine idx_sl h h0 h1 fun a ha hc => ?_
 have hx : L[i.toNat]? = some L[i.toNat] := getElem?_eq_getElem hlt
 refine go a _ ha hx ?_
 have := ZzS k hc
 rwa [rows_get hE hx] at this
theorem YgR {α β : Type} (g : β -> α -> β) (b : β) (l : List α) (i : Nat) {x : α} (h : l[i]? = some x) : (l.take (i + 1)).foldl g b = g ((l.take i).foldl g b) x := by
  have hlt := (List.getElem?_eq_some_iff.1 h).1
  have hx := (List.getElem?_eq_some_iff.1 h).2
  rw [List.take_succ_eq_append_getElem hlt, List.foldl_append, hx]; rfl
def InI (n : Int) : Prop := -9223372036854775808 <= n /\ n <= 9223372036854775807
theorem Zzt {n : Int} (h1 : -9223372036854775808 <= n) (h2 : n <= 9223372036854775807) : w64 n = n := by
 unfold w64; rw [IntKind.wrap_i64]; omega
end Go.Vc
end
section
namespace Go.Proofs.YtlnfaaghdkngmaaGreatDoor
open Go Go.Vc
theorem newRow {w : World} {e : TypeId} {cs : List Value} {sz n : Nat} {K : Nat -> World -> Prop} (hn : cs.length = n * sz) (hm : n <= maxLen)
  (k : ∀ b w', Row w' e sz (some ⟨b, 0, none⟩) n n cs -> w.heap.size <= b -> Chg No w w' -> K b w') : newB w (.cells ⟨cs⟩ e) K :=
 (Hp.start w No).newB fun b w' H hb hc => k b w' (H.asRow 0 rfl (rest := []) (by simp) hn (Nat.le_refl _) hm hn) hb hc
end Go.Proofs.YtlnfaaghdkngmaaGreatDoor
end
section
namespace Go.Vc
open Go
abbrev bl (s : ByteArray) : List UInt8 := s.data.toList
theorem ZzA (s : ByteArray) : (bl s).length = s.size := (Lib.size_eq s).symm
theorem bl_get (s : ByteArray) (i : Nat) : s[i]? = (bl s)[i]? := by
 by_cases h : i < s.size
 ·rw [getElem?_pos s i h]
  have h2 : i < (bl s).length := by rw [ZzA]; exact h
  rw [getElem?_eq_getElem h2]; rfl
 ·rw [getElem?_neg s i h, getElem?_eq_none (by rw [ZzA]; omega)]
theorem ZqP {s : ByteArray} {i : Int} {K : Int -> Prop} (h0 : 0 <= i) (h : i < s.size) (k : ∀ b : UInt8, (bl s)[i.toNat]? = some b -> K b.toNat) : Zya s i K := by
 have h2 : i.toNat < (bl s).length := by rw [ZzA]; omega
 exact ⟨(bl s)[i.toNat], h0, by rw [bl_get, getElem?_eq_getElem h2], k _ (getElem?_eq_getElem h2)⟩
theorem Zyh {s : ByteArray} {i : Nat} {K : ByteArray -> Prop} (h : i <= s.size) (k : ∀ t, bl t = (bl s).drop i -> t.size = s.size - i -> K t) : Ya9 s (some (i : Int)) none K := by
 have e : bl (s.extract i s.size) = (bl s).drop i := by
  show (s.extract i s.size).data.toList = _
  rw [Lib.extract_data]; exact take_of_length_le (by rw [length_drop, ZzA]; omega)
 exact ⟨i, s.size, rfl, rfl, h, Nat.le_refl _, k _ e (by rw [<- ZzA, e, length_drop, ZzA])⟩
theorem slStr_cut {s : ByteArray} {i j : Nat} {K : ByteArray -> Prop} (hij : i <= j) (h : j <= s.size) (k : ∀ t, bl t = ((bl s).drop i).take (j - i) -> t.size = j - i -> K t) : Ya9 s (some (i : Int)) (some (j : Int)) K := by
 have e : bl (s.extract i j) = ((bl s).drop i).take (j - i) := by
  show (s.extract i j).data.toList = _
  rw [Lib.extract_data]
 exact ⟨i, j, rfl, rfl, hij, h, k _ e (by rw [<- ZzA, e, length_take, length_drop, ZzA]; omega)⟩
theorem YfS {s t : ByteArray} (h : bl s = bl t) : s = t := by
 cases s; cases t; congr; exact Array.toList_inj.1 h
theorem YbD (s : ByteArray) : s.toList = bl s := Lib.toList_data s
end Go.Vc
end
section
namespace Go.Vc
open Go Go.Lib
theorem get!_gB (s : ByteArray) (i k : Nat) : (s.get! (i + k)).toNat = gB ((bl s).drop i) k := by
 rw [gB_drop, gB, getD_get!']
theorem decode_dec (s : ByteArray) (i : Nat) : Utf8.decode s i = dec ((bl s).drop i) := by
 rw [decode_at, dec, length_drop, ZzA]
 have := get!_gB s i 0
 rw [Nat.add_zero] at this
 rw [this, get!_gB, get!_gB, get!_gB]
theorem ZzO {s : ByteArray} {i : Nat} {K : Int -> Prop} (h : i < s.size) (k : K ((gB (bl s) i : Nat) : Int)) : Zya s (i : Int) K := by
 have h2 : i < (bl s).length := by rw [ZzA]; exact h
 refine ⟨(bl s)[i], by omega, by rw [Int.toNat_natCast, bl_get, getElem?_eq_getElem h2], ?_⟩
 rw [gB_of (getElem?_eq_getElem h2)] at k; exact k
theorem wrap_i32 (n : Int) (h : -2147483648 <= n) (h2 : n < 2147483648) : IntKind.i32.wrap n = n := by
 unfold IntKind.wrap; simp [IntKind.signed, IntKind.bits]; omega
theorem or32 {x y : Nat} (i : Nat) (_ : i <= 31) (hx : x % 2 ^ i = 0) (hy : y < 2 ^ i) (h : x + y < 2147483648) : bOr .i32 (x : Int) (y : Int) = ((x + y : Nat) : Int) := by
 show bits .or .i32 (x : Int) (y : Int) = _
 have hw : ∀ n : Int, 0 <= n -> n < 2 ^ 31 -> IntKind.i32.wrap n = n := fun n h0 h1 => wrap_i32 n (by omega) (by omega)
 rw [bits_join .i32 31 (by decide) hw i (x : Int) (y : Int) (by omega) (by exact_mod_cast hx) (by omega) (by omega) (by exact_mod_cast hy) (by omega)]
 omega
theorem shl32 (n s : Nat) (hs : s <= 31) (h : n * 2 ^ s < 2147483648) : Yd0 .i32 (n : Int) (s : Int) = ((n * 2 ^ s : Nat) : Int) := by
 unfold Yd0
 rw [Int.toNat_natCast, show min s IntKind.i32.bits = s from by simp [IntKind.bits]; omega]
 have e : (n : Int) * 2 ^ s = ((n * 2 ^ s : Nat) : Int) := by push_cast; rfl
 rw [e, wrap_i32 _ (by omega) (by omega)]
set_option maxRecDepth 100000 in
theorem and63' : ∀ x : Fin 256, Ybh .u8 ((x.val : Nat) : Int) 63 = ((x.val % 64 : Nat) : Int) := by decide
set_option maxRecDepth 100000 in
theorem and31' : ∀ x : Fin 256, Ybh .u8 ((x.val : Nat) : Int) 31 = ((x.val % 32 : Nat) : Int) := by decide
set_option maxRecDepth 100000 in
theorem and15' : ∀ x : Fin 256, Ybh .u8 ((x.val : Nat) : Int) 15 = ((x.val % 16 : Nat) : Int) := by decide
set_option maxRecDepth 100000 in
theorem and7' : ∀ x : Fin 256, Ybh .u8 ((x.val : Nat) : Int) 7 = ((x.val % 8 : Nat) : Int) := by decide
theorem and63 {x : Nat} (h : x < 256) : Ybh .u8 (x : Int) 63 = ((x % 64 : Nat) : Int) := and63' ⟨x, h⟩
theorem and31 {x : Nat} (h : x < 256) : Ybh .u8 (x : Int) 31 = ((x % 32 : Nat) : Int) := and31' ⟨x, h⟩
theorem and15 {x : Nat} (h : x < 256) : Ybh .u8 (x : Int) 15 = ((x % 16 : Nat) : Int) := and15' ⟨x, h⟩
theorem and7 {x : Nat} (h : x < 256) : Ybh .u8 (x : Int) 7 = ((x % 8 : Nat) : Int) := and7' ⟨x, h⟩
theorem shr4 (x : Nat) : Yc8 .u8 (x : Int) 4 = ((x / 16 : Nat) : Int) := by
 unfold Yc8
 rw [show min (4 : Int).toNat IntKind.u8.bits = 4 from rfl]
 show (x : Int).fdiv 16 = _
 rw [Int.fdiv_eq_ediv_of_nonneg _ (by decide)]; omega
theorem keep240 {x : Nat} (h : x < 256) : bOr .i32 (Yfz .i32 (IntKind.i32.wrap (x : Int)) (Yc8 .i32 (Yd0 .i32 (IntKind.i32.wrap ((240 : Nat) : Int)) 31) 31)) (Ybh .i32 65533 (Yc8 .i32 (Yd0 .i32 (IntKind.i32.wrap ((240 : Nat) : Int)) 31) 31)) = (x : Int) := by
 rw [show Yc8 .i32 (Yd0 .i32 (IntKind.i32.wrap ((240 : Nat) : Int)) 31) 31 = 0 from by decide, wrap_i32 _ (by omega) (by omega)]
 exact Proofs.Utf8W.keep_byte ⟨x, h⟩
theorem drop241 {x : Nat} (h : x < 256) : bOr .i32 (Yfz .i32 (IntKind.i32.wrap (x : Int)) (Yc8 .i32 (Yd0 .i32 (IntKind.i32.wrap ((241 : Nat) : Int)) 31) 31)) (Ybh .i32 65533 (Yc8 .i32 (Yd0 .i32 (IntKind.i32.wrap ((241 : Nat) : Int)) 31) 31)) = 65533 := by
 rw [show Yc8 .i32 (Yd0 .i32 (IntKind.i32.wrap ((241 : Nat) : Int)) 31) 31 = -1 from by decide, wrap_i32 _ (by omega) (by omega)]
 exact Proofs.Utf8W.drop_byte ⟨x, h⟩
theorem leafF {J : Int -> Int -> World -> Prop} {w : World} {x : Nat × Nat} (e : x = (65533, 1)) (h : J (x.1 : Int) (x.2 : Int) w) : J 65533 1 w := by
 rw [e] at h; simpa using h
theorem leaf {J : Int -> Int -> World -> Prop} {w : World} {x : Nat × Nat} {r k : Nat} {k' : Int} (e : x = (r, k)) (hk : (k : Int) = k') (h : J (x.1 : Int) (x.2 : Int) w) : J (r : Int) k' w := by
 rw [e] at h; rw [<- hk]; exact h
theorem YgW {b : Nat} : ¬ firstT b < 240 -> firstT b = 240 \/ firstT b = 241 := by
 intro h
 rcases firstT_cases b with h' | h' | h' | h' | h' | h' | h' | h' | h' <;> omega
theorem Ybm {b : Nat} : firstT b < 240 -> firstT b % 8 <= 4 /\ 2 <= firstT b % 8 /\ firstT b / 16 < 16 /\ firstT b < 256 /\ 194 <= b := by
 intro h
 have h2 := firstT_low h
 rcases firstT_cases b with h' | h' | h' | h' | h' | h' | h' | h' | h' <;> (rw [h'] at h ⊢; omega)
theorem rd0_of_dec {bs : List UInt8} (h : dec bs = (65533, 1)) : (rd bs).2 = 0 := by
 rw [Yh2] at h
 split at h
 ·assumption
 ·have h1 := congrArg Prod.fst h
  have h2 := congrArg Prod.snd h
  have := rd_fffd bs h1
  simp only at h2; omega
theorem rd_of_dec {bs : List UInt8} {r k : Nat} (h : dec bs = (r, k)) (hk : 2 <= k) : rd bs = (r, k) := by
 rw [Yh2] at h
 split at h
 ·have := congrArg Prod.snd h; simp only at this; omega
 ·exact h
theorem dec_of_rd {bs : List UInt8} (h : (rd bs).2 ≠ 0) : dec bs = rd bs := by rw [Yh2, if_neg h]
theorem vld_drop : ∀ (k : Nat) (bs : List UInt8), (∀ b ∈ bs.take k, b.toNat < 128) -> vld bs = vld (bs.drop k)
 | 0, bs, _ => by simp
 | k + 1, [], _ => by simp
 | k + 1, b :: r, h => by
  have hb := h b (by simp)
  have e := ZqM b r hb
  rw [Ygg (by simp) (by rw [e]; simp), e]
  simp only [drop_succ_cons, drop_zero]
  exact vld_drop k r (fun x hx => h x (by simp [hx]))
def YfG (w : World) : Prop := Lib.Utf8Tabs 0 1 w
theorem YfG.chg {w w' : World} (h : YfG w) (hc : Chg No w w') : YfG w' :=
 ⟨fun c h1 => hc.cell (h.1 c h1) (fun f => f), fun i hi => ⟨hc.cell (h.2 i hi).1 (fun f => f), hc.cell (h.2 i hi).2 (fun f => f)⟩⟩
end Go.Vc
namespace Go.Proofs.YtlnfaaghdkngmaaGreatDoor
open Go Go.Vc Go.Lib
section
variable {w : World}
theorem Ygw : Zy5 Tryz.prog Zy1 = ⟨[.int .u8 0, .int .u8 0]⟩ := by kernel_rfl
set_option maxRecDepth 100000 in
set_option maxHeartbeats 1000000 in
theorem Yfp {p : Option Addr} {l c : Nat} {bs : List UInt8} {J : Int -> Int -> World -> Prop} (h : Bytes w p l bs) (hl : l ≠ 0) (T : YfG w)
  (K : ∀ w', Chg No w w' -> J ((dec bs).1 : Int) ((dec bs).2 : Int) w') : Zz1 Tryz.prog Zyn #[.slice p l c] w [.one (.int .i32), .one (.int .i64)] J := by
 refine YaG ?_
 have hbl := h.len
 refine Zz6 (fun hz => absurd hz (by omega)) fun _ => ?_
 refine byte_i h (by decide) (by omega) fun b0 hb0 => ?_
 have g0 := gB_of hb0
 rw [show (0 : Int).toNat = 0 from rfl] at g0
 rw [<- g0]
 have l0 := Ybd bs 0; have l1 := Ybd bs 1; have l2 := Ybd bs 2; have l3 := Ybd bs 3
 refine YbF (by omega) (by omega) ?_
 rw [Addr.add_mk, Nat.zero_add, Nat.mul_one, Int.toNat_natCast]
 refine Zyz (T.1 _ l0) ?_
 refine Zz6 (fun hx => ?_) (fun hx => ?_)
 ·refine ⟨by decide, by decide, ?_⟩
  refine byte_i h (by decide) (by omega) fun b0' hb0' => ?_
  rw [hb0] at hb0'; cases hb0'
  rw [<- g0]
  rcases YgW (b := gB bs 0) (by omega) with hf | hf
  ·rw [hf, keep240 l0]
   exact leaf (show dec bs = (gB bs 0, 1) from ascii_eq _ _ _ _ _ hf) rfl (K w (Chg.refl _ _))
  ·rw [hf, drop241 l0]
   exact leafF (show dec bs = (65533, 1) from bad_eq _ _ _ _ _ l0 hf) (K w (Chg.refl _ _))
 ·have hx : firstT (gB bs 0) < 240 := by omega
  obtain ⟨s4, s2, s16, s256, _⟩ := Ybm hx
  have hdec : dec bs = slowN bs.length (gB bs 0) (gB bs 1) (gB bs 2) (gB bs 3) (firstT (gB bs 0) % 8) (accLo (firstT (gB bs 0) / 16)) (accHi (firstT (gB bs 0) / 16)) := (slow_eq _ _ _ _ _ (by omega) l1 l2 l3 hx).symm
  rw [hdec] at K
  rw [shr4, and7 s256, Zzt (by omega) (by omega)]
  generalize hsz : firstT (gB bs 0) % 8 = sz at *
  generalize hq : firstT (gB bs 0) / 16 = q at *
  refine ⟨by decide, YbF (by omega) (by omega) ?_⟩
  simp only [Addr.add_mk, Nat.zero_add, Int.toNat_natCast]
  have ht := T.2 q s16
  rw [Nat.mul_comm] at ht
  refine Zyz ht.1 (Zyz ht.2 ?_)
  rw [Ygw]
  refine (Hp.start w No).newB fun b9 w1 H1 hb9 hc1 => ?_
  refine H1.stN 0 rfl (off := 0) rfl (by decide) (by simp [one1, Value.oneCell']) fun w2 H2 hc2 => ?_
  have hc : Chg No w w2 := hc1.trans hc2 fun x hx he => by subst he; omega
  have hB : Bytes w2 p l bs := h.chg hc (off_no _)
  simp only [splice, take_zero, nil_append, set_cons_zero, length_cons, length_nil, drop_succ_cons, drop_nil, append_nil, Nat.zero_add] at H2
  refine Zz6 (fun hn => ?_) (fun hn => ?_)
  ·have e : slowN bs.length (gB bs 0) (gB bs 1) (gB bs 2) (gB bs 3) sz (accLo q) (accHi q) = (65533, 1) := by unfold slowN; rw [if_pos (by omega)]
   exact leafF e (K w2 hc)
  ·refine byte_i hB (by decide) (by omega) fun b1 hb1 => ?_
   have g1 := gB_of hb1
   rw [show (1 : Int).toNat = 1 from rfl] at g1
   rw [<- g1]
   refine Zzb fun J60 hJ60 => ?_
   have n1 : ¬ bs.length < sz := by omega
   have fail1 : (gB bs 1 < accLo q \/ accHi q < gB bs 1) -> J60 true w2 := fun hf => by
    subst hJ60
    have e : slowN bs.length (gB bs 0) (gB bs 1) (gB bs 2) (gB bs 3) sz (accLo q) (accHi q) = (65533, 1) := by unfold slowN; rw [if_neg n1, if_pos hf]
    exact leafF e (K w2 hc)
   refine H2.ldI 0 rfl (off := 0) rfl ?_
   refine Zz6 (fun hlo => fail1 (.inl (by omega))) (fun hlo => ?_)
   refine H2.ldI 0 rfl (off := 1) rfl ?_
   by_cases hhi : accHi q < gB bs 1
   ·rw [decide_eq_true (by omega)]; exact fail1 (.inr hhi)
   rw [decide_eq_false (by omega)]
   have n2 : ¬ (gB bs 1 < accLo q \/ accHi q < gB bs 1) := by omega
   clear fail1
   subst hJ60
   refine Zz6 (fun h2 => ?_) (fun h2 => ?_)
   ·have e : slowN bs.length (gB bs 0) (gB bs 1) (gB bs 2) (gB bs 3) sz (accLo q) (accHi q) = (gB bs 0 % 32 * 64 + gB bs 1 % 64, 2) := by unfold slowN; rw [if_neg n1, if_neg n2, if_pos (by omega)]
    refine ⟨by decide, ?_⟩
    rw [and31 l0, and63 l1, wrap_i32 _ (by omega) (by omega), wrap_i32 _ (by omega) (by omega), show (6 : Int) = ((6 : Nat) : Int) from rfl, shl32 _ 6 (by decide) (by omega), or32 6 (by decide) (by omega) (by omega) (by omega)]
    exact leaf e rfl (K w2 hc)
   ·refine byte_i hB (by decide) (by omega) fun b2 hb2 => ?_
    have g2 := gB_of hb2
    rw [show (2 : Int).toNat = 2 from rfl] at g2
    rw [<- g2]
    refine Zzb fun J79 hJ79 => ?_
    have fail2 : (gB bs 2 < 128 \/ 191 < gB bs 2) -> J79 true w2 := fun hf => by
     subst hJ79
     have e : slowN bs.length (gB bs 0) (gB bs 1) (gB bs 2) (gB bs 3) sz (accLo q) (accHi q) = (65533, 1) := by unfold slowN; rw [if_neg n1, if_neg n2, if_neg (by omega), if_pos hf]
     exact leafF e (K w2 hc)
    refine Zz6 (fun hlo => fail2 (.inl (by omega))) (fun hlo => ?_)
    by_cases hhi : 191 < gB bs 2
    ·rw [decide_eq_true (by omega)]; exact fail2 (.inr hhi)
    rw [decide_eq_false (by omega)]
    have n3 : ¬ (gB bs 2 < 128 \/ 191 < gB bs 2) := by omega
    clear fail2
    subst hJ79
    refine Zz6 (fun h3 => ?_) (fun h3 => ?_)
    ·have e : slowN bs.length (gB bs 0) (gB bs 1) (gB bs 2) (gB bs 3) sz (accLo q) (accHi q) = (gB bs 0 % 16 * 4096 + gB bs 1 % 64 * 64 + gB bs 2 % 64, 3) := by
      unfold slowN; rw [if_neg n1, if_neg n2, if_neg (by omega), if_neg n3, if_pos (by omega)]
     refine ⟨by decide, by decide, ?_⟩
     rw [and15 l0, and63 l1, and63 l2, wrap_i32 _ (by omega) (by omega), wrap_i32 _ (by omega) (by omega), wrap_i32 _ (by omega) (by omega), show (6 : Int) = ((6 : Nat) : Int) from rfl, show (12 : Int) = ((12 : Nat) : Int) from rfl,
      shl32 _ 12 (by decide) (by omega), shl32 _ 6 (by decide) (by omega), or32 12 (by decide) (by omega) (by omega) (by omega), or32 6 (by decide) (by omega) (by omega) (by omega)]
     exact leaf e rfl (K w2 hc)
    ·refine byte_i hB (by decide) (by omega) fun b3 hb3 => ?_
     have g3 := gB_of hb3
     rw [show (3 : Int).toNat = 3 from rfl] at g3
     rw [<- g3]
     refine Zzb fun J103 hJ103 => ?_
     have fail3 : (gB bs 3 < 128 \/ 191 < gB bs 3) -> J103 true w2 := fun hf => by
      subst hJ103
      have e : slowN bs.length (gB bs 0) (gB bs 1) (gB bs 2) (gB bs 3) sz (accLo q) (accHi q) = (65533, 1) := by unfold slowN; rw [if_neg n1, if_neg n2, if_neg (by omega), if_neg n3, if_neg (by omega), if_pos hf]
      exact leafF e (K w2 hc)
     refine Zz6 (fun hlo => fail3 (.inl (by omega))) (fun hlo => ?_)
     by_cases hhi : 191 < gB bs 3
     ·rw [decide_eq_true (by omega)]; exact fail3 (.inr hhi)
     rw [decide_eq_false (by omega)]
     have n4 : ¬ (gB bs 3 < 128 \/ 191 < gB bs 3) := by omega
     clear fail3
     subst hJ103
     have e : slowN bs.length (gB bs 0) (gB bs 1) (gB bs 2) (gB bs 3) sz (accLo q) (accHi q) = (gB bs 0 % 8 * 262144 + gB bs 1 % 64 * 4096 + gB bs 2 % 64 * 64 + gB bs 3 % 64, 4) := by
      unfold slowN; rw [if_neg n1, if_neg n2, if_neg (by omega), if_neg n3, if_neg (by omega), if_neg n4]
     refine ⟨by decide, by decide, by decide, ?_⟩
     rw [and7 l0, and63 l1, and63 l2, and63 l3, wrap_i32 _ (by omega) (by omega), wrap_i32 _ (by omega) (by omega), wrap_i32 _ (by omega) (by omega), wrap_i32 _ (by omega) (by omega),
      show (6 : Int) = ((6 : Nat) : Int) from rfl, show (12 : Int) = ((12 : Nat) : Int) from rfl, show (18 : Int) = ((18 : Nat) : Int) from rfl,
      shl32 _ 18 (by decide) (by omega), shl32 _ 12 (by decide) (by omega), shl32 _ 6 (by decide) (by omega), or32 18 (by decide) (by omega) (by omega) (by omega), or32 12 (by decide) (by omega) (by omega) (by omega), or32 6 (by decide) (by omega) (by omega) (by omega)]
     exact leaf e rfl (K w2 hc)
set_option maxRecDepth 100000 in
theorem DecodeRune_ok {p : Option Addr} {l c : Nat} {bs : List UInt8} {J : Int -> Int -> World -> Prop} (h : Bytes w p l bs) (hl : l ≠ 0) (T : YfG w)
  (K : ∀ w', Chg No w w' -> J ((dec bs).1 : Int) ((dec bs).2 : Int) w') : Zz1 Tryz.prog Zyf #[.slice p l c] w [.one (.int .i32), .one (.int .i64)] J := by
 refine Ybx ?_
 refine Zzb fun J0 hJ0 => ?_
 refine ⟨fun x w' m => x = 0 /\ w' = w, ⟨0, rfl, rfl⟩, ?_⟩
 rintro x w' m ⟨rfl, rfl⟩
 have go : J0 w' := by subst hJ0; exact Yfp h hl T K
 refine Zz6 (fun hx => ?_) (fun hx => go)
 refine byte_i h (by decide) (by omega) fun b hb => ?_
 have g0 := gB_of hb
 rw [show (0 : Int).toNat = 0 from rfl] at g0
 refine Zz6 (fun h1 => ?_) (fun h1 => go)
 have e : dec bs = (gB bs 0, 1) := by unfold dec decodeN; rw [if_pos (by omega)]
 rw [wrap_i32 _ (by omega) (by omega), <- g0]
 exact leaf e rfl (K w' (Chg.refl _ _))
set_option maxRecDepth 100000 in
set_option maxHeartbeats 1000000 in
theorem Ydx {s : ByteArray} {J : Int -> World -> Prop} (h : 8 <= s.size) (K : ∀ A : Nat, A < 18446744073709551616 -> (A &&& 9259542123273814144 = 0 -> ∀ b ∈ (bl s).take 8, b.toNat < 128) -> J (A : Int) w.drew) :
  Zz1 Tryz.prog Zzm #[.string s] w [.one (.int .u64)] J := by
 refine Ybf ?_
 have hk := K _ (word_lt s) (fun h0 => (word_asc s h).1 h0)
 have q : ∀ i, (s.get! i).toNat = gB (bl s) i := fun i => by rw [gB, getD_get!']
 simp only [Lib.leNat, q] at hk
 have lt := fun i => Ybd (bl s) i
 refine ZzO (i := 0) (by omega) ?_
 refine ZzO (i := 1) (by omega) ⟨by decide, ?_⟩
 refine ZzO (i := 2) (by omega) ⟨by decide, ?_⟩
 refine ZzO (i := 3) (by omega) ⟨by decide, ?_⟩
 refine ZzO (i := 4) (by omega) ⟨by decide, ?_⟩
 refine ZzO (i := 5) (by omega) ⟨by decide, ?_⟩
 refine ZzO (i := 6) (by omega) ⟨by decide, ?_⟩
 refine ZzO (i := 7) (by omega) ⟨by decide, ?_⟩
 have h0 := lt 0; have h1 := lt 1; have h2 := lt 2; have h3 := lt 3; have h4 := lt 4; have h5 := lt 5; have h6 := lt 6; have h7 := lt 7
 generalize gB (bl s) 0 = x0 at *; generalize gB (bl s) 1 = x1 at *; generalize gB (bl s) 2 = x2 at *; generalize gB (bl s) 3 = x3 at *
 generalize gB (bl s) 4 = x4 at *; generalize gB (bl s) 5 = x5 at *; generalize gB (bl s) 6 = x6 at *; generalize gB (bl s) 7 = x7 at *
 have sh : ∀ (n : Nat) (k : Int), Yd0 .u64 (n : Int) k = IntKind.u64.wrap ((n : Int) * 2 ^ (min k.toNat 64)) := fun _ _ => rfl
 have bo : ∀ x y : Int, bOr .u64 x y = bits .or .u64 x y := fun _ _ => rfl
 simp (disch := omega) only [u64_wrap_id, sh, bo]
 simp only [show (8 : Int).toNat = 8 from rfl, show (16 : Int).toNat = 16 from rfl, show (24 : Int).toNat = 24 from rfl, show (32 : Int).toNat = 32 from rfl, show (40 : Int).toNat = 40 from rfl, show (48 : Int).toNat = 48 from rfl, show (56 : Int).toNat = 56 from rfl, show min 8 64 = 8 from rfl, show min 16 64 = 16 from rfl, show min 24 64 = 24 from rfl, show min 32 64 = 32 from rfl, show min 40 64 = 40 from rfl, show min 48 64 = 48 from rfl, show min 56 64 = 56 from rfl, Int.reducePow]
 simp (disch := omega) only [u64_wrap_id, u64_or8, u64_or16, u64_or24, u64_or32, u64_or40, u64_or48, u64_or56]
 have e : (x0 : Int) + (x1 : Int) * 256 + (x2 : Int) * 65536 + (x3 : Int) * 16777216 + (x4 : Int) * 4294967296 + (x5 : Int) * 1099511627776 + (x6 : Int) * 281474976710656 + (x7 : Int) * 72057594037927936
  = ((x0 + 256 * (x1 + 256 * (x2 + 256 * (x3 + 256 * (x4 + 256 * (x5 + 256 * (x6 + 256 * (x7 + 256 * 0))))))) : Nat) : Int) := by push_cast; omega
 rw [e]; exact hk
end
end Go.Proofs.YtlnfaaghdkngmaaGreatDoor
end
