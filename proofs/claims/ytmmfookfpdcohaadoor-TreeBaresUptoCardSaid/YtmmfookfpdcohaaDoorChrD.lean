/-
  Chapter 1: line ends; appends of great rows.
-/
import Derived.Test.YtmmfookfpdcohaaDoorChrC
import Derived.Test.YtmmfookfpdcohaaDoorRef01B
namespace Go.Vc
open Go Go.Lib
/-- Did a 13 stand ahead of a place? -/
def prv (bs : List UInt8) (i : Nat) : Bool := decide (0 < i ∧ bs[i - 1]? = some 13)
def chunk (b : UInt8) (p : Bool) : List UInt8 := if b = 13 then [10] else if b = 10 ∧ p = true then [] else [b]
theorem prv_succ {bs : List UInt8} {i : Nat} {b : UInt8} (h : bs[i]? = some b) : prv bs (i + 1) = decide (b = 13) := by
  unfold prv
  rw [Nat.add_sub_cancel, h]
  simp
theorem lns_cons (b : UInt8) (p : Bool) (r : List UInt8) : lns p (b :: r) = chunk b p ++ lns (decide (b = 13)) r := by
  unfold chunk
  rw [lns]
  by_cases h : b = 13
  · simp [h]
  · by_cases h2 : b = 10 ∧ p = true
    · simp [h, h2]
    · simp only [if_neg h, if_neg h2, decide_eq_false h]; rfl
theorem lns_at {bs : List UInt8} {i : Nat} {b : UInt8} (h : bs[i]? = some b) : lns (prv bs i) (bs.drop i) = chunk b (prv bs i) ++ lns (prv bs (i + 1)) (bs.drop (i + 1)) := by
  obtain ⟨hi, rfl⟩ := List.getElem?_eq_some_iff.1 h
  rw [List.drop_eq_getElem_cons hi, lns_cons, prv_succ h]
theorem lns_len : ∀ (p : Bool) (bs : List UInt8), (lns p bs).length ≤ bs.length
  | _, [] => Nat.le_refl _
  | p, b :: r => by
    rw [lns_cons, List.length_append, List.length_cons]
    have := lns_len (decide (b = 13)) r
    have : (chunk b p).length ≤ 1 := by
      unfold chunk
      repeat' split
      all_goals simp
    omega
end Go.Vc
namespace Go.Proofs.YtmmfookfpdcohaaDoor
open Go Go.Vc Go.Lib

section
variable {w : World}

/-- append of bytes to a row of the call's own. -/
theorem appG {w0 wa : World} {p q : Option Addr} {l c m c2 : Nat} {xs ys : List UInt8} {K : Option Addr → Nat → Nat → World → Prop} (hr : Row wa T_uint8 1 p l c (bcells xs)) (hb : Bytes wa q m ys) (hn : q = none → m = 0) (hlm : l + m ≤ 140737488355328)
    (hf : fresh w0 p) (hc : Chg No w0 wa) (k : ∀ p' c' w', Row w' T_uint8 1 p' (l + m) c' (bcells (xs ++ ys)) → fresh w0 p' → Chg No w0 w' → K p' (l + m) c' w') :
    appJ Tryd.prog T_sl_uint8 T_sl_uint8 (.slice p l c) (.slice q m c2) wa K := by
  refine appJ_row slT_u8 hr hb (one1_bcells _) hn (by omega) (by simp only [maxLen]; omega) fun p' c' w' hr' hc' hf' => ?_
  refine k p' c' w' (by simpa [bcells] using hr') ?_ (hc.trans hc' fun b hb ⟨a, ha, e⟩ => by have := hf a ha; omega)
  rcases hf' with rfl | hf'
  · exact hf
  · intro a ha; have := hf' a ha; have := hc.size; omega

/-- One byte more. -/
theorem app1 {w0 wa : World} {p : Option Addr} {l c : Nat} {xs : List UInt8} {b : UInt8} {v : Int} {K : Option Addr → Nat → Nat → World → Prop} (hr : Row wa T_uint8 1 p l c (bcells xs)) (hv : v = (b.toNat : Int)) (hlm : l + 1 ≤ 140737488355328)
    (hf : fresh w0 p) (hc : Chg No w0 wa) (k : ∀ p' c' w', Row w' T_uint8 1 p' (l + 1) c' (bcells (xs ++ [b])) → fresh w0 p' → Chg No w0 w' → K p' (l + 1) c' w') :
    newB wa (.cells ⟨[.int .u8 v]⟩ T_uint8) fun b36 w5 => appJ Tryd.prog T_sl_uint8 T_sl_uint8 (.slice p l c) (.slice (some ⟨b36, 0, none⟩) 1 1) w5 K := by
  subst hv
  refine newRow (sz := 1) (n := 1) rfl (by decide) fun b2 w2 hr2 _ hc2 => ?_
  exact appG (ys := [b]) (hr.chg hc2 (off_no _)) hr2.sl (by simp) hlm hf (hc.trans0 hc2) k

end

end Go.Proofs.YtmmfookfpdcohaaDoor

