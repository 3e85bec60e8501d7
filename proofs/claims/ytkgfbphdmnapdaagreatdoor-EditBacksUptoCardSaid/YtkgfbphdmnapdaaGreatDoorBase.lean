/-
  What every package of this program wants: rows of bytes and of bools, literals, copies of slices.
-/
import Derived.Test.YtkgfbphdmnapdaaGreatDoorNm
import Derived.Test.YtkgfbphdmnapdaaGreatDoorRows2
import Derived.KernelRfl
import Derived.Lib.SlBytesConst
namespace Go.Proofs.YtkgfbphdmnapdaaGreatDoor
open Go Go.Vc

theorem slT_u8 : SlT Tryz.prog T_sl_uint8 T_uint8 1 1 #[.int .u8 0] := SlT.of (by kernel_rfl) (by kernel_rfl) rfl (by decide)
def bools (ks : List Bool) : List Value := ks.map .bool
theorem one1_bools (ks : List Bool) : one1 (bools ks) := by
  intro v hv; obtain ⟨b, _, rfl⟩ := List.mem_map.1 hv; rfl

/-- append([]T{}, s...): a new row. -/
theorem twin_row {t e : TypeId} {sz by_ : Nat} {z : Array Value} (T : SlT Tryz.prog t e sz by_ z) {w : World} {p : Option Addr} {l c : Nat} {vs : List Value} {J : Option Addr → Nat → Nat → World → Prop}
    (h : Sl w p l sz vs) (h1 : one1 vs) (hp : p = none → l = 0) (hb : l * by_ ≤ 140737488355328) (hm : l ≤ maxLen)
    (k : ∀ p' c' w', Row w' e sz p' l c' vs → fresh w p' → Chg No w w' → J p' l c' w') :
    newB w (.cells ⟨[]⟩ e) fun b w1 => appJ Tryz.prog t t (.slice (some ⟨b, 0, none⟩) 0 0) (.slice p l c) w1 fun p' l' c' w2 => J p' l' c' w2 := by
  refine (Hp.start w No).newB fun b w1 H hbw hc1 => ?_
  refine appJ_row T (H.asRow 0 rfl (xs := []) (rest := []) rfl (by simp) (Nat.le_refl _) (Nat.zero_le _) (by simp)) (h.chg hc1 (off_no _)) h1 hp (by simpa using hb) (by simpa using hm)
    fun p' c' w' hr hc hf => ?_
  rw [Nat.zero_add] at hr ⊢
  refine k _ _ _ (by simpa using hr) ?_ (hc1.trans hc ?_)
  · rcases hf with rfl | hf
    · rintro a ⟨⟩; exact hbw
    · intro a ha; exact Nat.le_trans hc1.size (hf a ha)
  · rintro x hx ⟨a, ha, hax⟩
    cases ha
    simp only at hax
    omega

theorem clone_cond {t e : TypeId} {sz by_ : Nat} {z : Array Value} (T : SlT Tryz.prog t e sz by_ z) {w : World} {p : Option Addr} {l c : Nat} {vs : List Value} {J : Option Addr → Nat → Nat → World → Prop}
    (h : Sl w p l sz vs) (h1 : one1 vs) (hp : p = none → l = 0) (hb : l * by_ ≤ 140737488355328) (hm : l ≤ maxLen)
    (k : ∀ p' c' w', Row w' e sz p' l c' vs → fresh w p' → Chg No w w' → J p' l c' w') :
    condB p.isNone (J none 0 0 w) (newB w (.cells ⟨[]⟩ e) fun b w1 => appJ Tryz.prog t t (.slice (some ⟨b, 0, none⟩) 0 0) (.slice p l c) w1 fun p' l' c' w2 => J p' l' c' w2) := by
  cases p with
  | none =>
    have h0 := hp rfl
    subst h0
    have hn : vs = [] := List.eq_nil_of_length_eq_zero (by simpa using h.1)
    subst hn
    exact k none 0 w (Row.nil _ _ _) (by rintro a ⟨⟩) (Chg.refl _ _)
  | some a => exact twin_row T h h1 hp hb hm k

/-- A literal []byte("..") -/
theorem litB {w : World} {bs : List UInt8} {n : Nat} {K : Option Addr → Nat → Nat → World → Prop} (hn : bs.length = n)
    (k : ∀ b w', Bytes w' (some ⟨b, 0, none⟩) n bs → w.heap.size ≤ b → Chg No w w' → K (some ⟨b, 0, none⟩) n n w') :
    newB w (.cells ⟨bcells bs⟩ T_uint8) fun b w1 => cvJ Tryz.prog T_sl_uint8 T_sl_uint8 (.slice (some ⟨b, 0, none⟩) n n) w1 K := by
  refine ⟨_, _, _, _, Lib.run_convert_bytes_const w T_sl_uint8 T_uint8 ⟨bcells bs⟩ n n (by kernel_rfl) (by kernel_rfl), k _ _ ⟨by simp [bcells, hn], .inr ⟨_, rfl, ?_⟩⟩ (Nat.le_refl _) (chg_alloc _ _)⟩
  have := cellsAt_heap (off := 0) (heap_alloc_new w (.cells ⟨bcells bs⟩ T_uint8 ((⟨bcells bs⟩ : Array Value).size, (⟨bcells bs⟩ : Array Value).size + 1)))
  simpa using this

/-- A literal of several values. -/
theorem newRow {w : World} {e : TypeId} {cs : List Value} {sz n : Nat} {K : Nat → World → Prop} (hn : cs.length = n * sz) (hm : n ≤ maxLen)
    (k : ∀ b w', Row w' e sz (some ⟨b, 0, none⟩) n n cs → w.heap.size ≤ b → Chg No w w' → K b w') : newB w (.cells ⟨cs⟩ e) K :=
  (Hp.start w No).newB fun b w' H hb hc => k b w' (H.asRow 0 rfl (rest := []) (by simp) hn (Nat.le_refl _) hm hn) hb hc

/-- What was handed in lies in blocks of its own. -/
theorem fresh_off {w : World} {F : List Nat} {p : Option Addr} (hf : fresh w p) (hF : ∀ b ∈ F, b < w.heap.size) : off p (· ∈ F) := fun a ha hm => by
  have := hf a ha; have := hF _ hm; omega

end Go.Proofs.YtkgfbphdmnapdaaGreatDoor

