/-
  Small words on rows of bytes (of no one package).
-/
import Derived.Test.YtkgfbphdmnapdaaGreatDoorBase
import Derived.Test.YtkgfbphdmnapdaaGreatDoorCrc
namespace Go.Vc
open Go Go.RowKit

/-- append where there is room, in a block known whole. -/
theorem Hp.app {w0 w : World} {S : Nat → Prop} {Γ : List Blk} {b : Nat} {cs : List Value} {e : TypeId} {P : Program} (H : Hp w0 S w Γ) (i : Nat) (hi : Γ[i]? = some ⟨b, cs, e⟩) {t : TypeId} {sz by_ : Nat} {z : Array Value} (T : SlT P t e sz by_ z) {l c m c2 : Nat} {q : Option Addr} {news : List Value} {K : Option Addr → Nat → Nat → World → Prop}
    (src : Sl w q m sz news) (hq : q = none → m = 0) (h1 : one1 news) (hlen : cs.length = c * sz) (room : l + m ≤ c)
    (k : ∀ w', Hp w0 S w' (Γ.set i ⟨b, splice cs (l * sz) news, e⟩) → Chg (fun x => x = b) w w' → K (some ⟨b, 0, none⟩) (l + m) c w') :
    appJ P t t (.slice (some ⟨b, 0, none⟩) l c) (.slice q m c2) w K := by
  obtain ⟨ti, v, hti, hz, hsz, hby, hv⟩ := T.info
  have hh := H.get i hi
  cases q with
  | none =>
    have h0 := hq rfl
    subst h0
    have hn : news = [] := List.eq_nil_of_length_eq_zero (by simpa using src.1)
    subst hn
    have hle : l ≤ c := by omega
    refine ⟨some ⟨b, 0, none⟩, l + 0, c, w, fun ty => ?_, ?_⟩
    · simp [Builtin.append_, run_underlying T.hu, sizeOf, typeInfo, hti, Builtin.lenOf, Builtin.firstCells, hle, storeCells]
    · have hk := k (w.setRow b ⟨splice cs (l * sz) []⟩) (H.row i hi _) (chg_setRow _ _ _)
      have e2 : splice cs (l * sz) ([] : List Value) = cs := by simp [splice]
      rw [e2, setRow_self w b ⟨cs⟩ e (0, 0) hh] at hk
      exact hk
  | some ad =>
    have hnews : ∀ j u, news[j]? = some u → w.cell? (ad.add j) = some u := by
      rcases src.2 with h0 | ⟨a, ha, hc⟩
      · intro j u hu
        have hn : news = [] := List.eq_nil_of_length_eq_zero (by have := src.1; rw [h0] at this; simpa using this)
        subst hn; simp at hu
      · cases ha; exact hc
    subst hsz
    have hroomr := fun ty => run_append_room (P := P) w t ty e ti T.hu hti b l c ⟨cs⟩ hh ad m c2 news src.1 hnews h1 room (by
      rw [src.1, ← Nat.add_mul]; simp only [List.size_toArray]; rw [hlen]; exact Nat.mul_le_mul_right _ room)
    refine ⟨some ⟨b, 0, none⟩, l + m, c, _, hroomr, ?_⟩
    have := k (w.setRow b ⟨splice cs (l * ti.size) news⟩) (H.row i hi _) (chg_setRow _ _ _)
    simpa [splice] using this

end Go.Vc
namespace Go.Proofs.YtkgfbphdmnapdaaGreatDoor
open Go Go.Vc

theorem splice_splice {cs a b : List Value} {o : Nat} (h : o + a.length + b.length ≤ cs.length) : splice (splice cs o a) (o + a.length) b = splice cs o (a ++ b) := by
  unfold splice
  rw [List.length_append]
  have e1 : (cs.take o ++ a).length = o + a.length := by simp; omega
  rw [List.take_left' e1, List.drop_append, List.drop_of_length_le (by rw [e1]; omega), List.nil_append, List.drop_drop, e1]
  simp only [List.append_assoc]
  congr 4
  omega

theorem zeroC_u8 : zeroC Tryz.prog T_uint8 = #[.int .u8 0] := by kernel_rfl
theorem wrap_u64_nat {n : Nat} (h : n < 2 ^ 64) : IntKind.u64.wrap (n : Int) = (n : Int) := by rw [wrap_u64]; omega
theorem wrap_u32_nat {n : Nat} (h : n < 2 ^ 32) : IntKind.u32.wrap (n : Int) = (n : Int) := by rw [wrap_u32]; omega
theorem wrap_u16_nat {n : Nat} (h : n < 2 ^ 16) : IntKind.u16.wrap (n : Int) = (n : Int) := by rw [wrap_u16]; omega

theorem typ_ne {w : World} {a b : Nat} {e e' : TypeId} (h : typ w a = some e) (h' : typ w b = some e') (hne : e ≠ e') : a ≠ b := by
  rintro rfl; rw [h] at h'; cases h'; exact hne rfl

section
variable {w : World}
/-- make([]byte, n) -/
theorem mk_zeros {n : Nat} {K : Nat → World → Prop} (hn : n ≤ 140737488355328)
    (k : ∀ b w', Row w' T_uint8 1 (some ⟨b, 0, none⟩) n n (bcells (List.replicate n 0)) → w.heap.size ≤ b → Chg No w w' → K b w') :
    mkS w T_uint8 (zeroC Tryz.prog T_uint8) 1 1 (n : Int) (n : Int) K := by
  rw [zeroC_u8]
  refine (Hp.start w No).mkS rfl (by omega) (by omega) (by omega) (by omega) fun b w' H hb hc => ?_
  rw [show (List.replicate (n : Int).toNat (#[.int .u8 0] : Array Value).toList).flatten = bcells (List.replicate n 0) from by rw [Int.toNat_natCast]; simp [bcells, List.flatten_replicate_singleton]] at H
  exact k b w' (H.asRow 0 rfl (rest := []) (by simp) (by simp [bcells]) (Nat.le_refl _) (by simp only [maxLen]; omega) (by simp [bcells])) hb hc

theorem offN (S : Nat → Prop) : off none S := by rintro a ⟨⟩
theorem cutB {q : Option Addr} {m d : Nat} {b : List UInt8} (h : Bytes w q m b) {i j : Nat} (hij : i ≤ j) (hj : j ≤ m) (hd : m ≤ d) {oi oj : Option Int} (e1 : oi.getD 0 = (i : Int)) (e2 : oj.getD m = (j : Int)) {K : Option Addr → Nat → Nat → Prop}
    (k : ∀ q', Bytes w q' (j - i) ((b.drop i).take (j - i)) → (q' = none → j - i = 0) → K q' (j - i) (d - i)) : slS q m d 1 oi oj none K := by
  refine slS_sl (i := i) (j := j) h e1 e2 hij hj hd fun q' hq _ => ?_
  have hq' : Bytes w q' (j - i) ((b.drop i).take (j - i)) := by
    have e : ((bcells b).drop (i * 1)).take ((j - i) * 1) = bcells ((b.drop i).take (j - i)) := by
      unfold bcells; rw [Nat.mul_one, Nat.mul_one, ← List.map_drop, ← List.map_take]
    rw [e] at hq; exact hq
  refine k q' hq' fun h0 => ?_
  by_cases hz : j - i = 0
  · exact hz
  · obtain ⟨a, ha, _⟩ := Sl.at hq' hz; rw [h0] at ha; cases ha

/-- append of bytes to bytes, in new memory. -/
theorem appB {w0 wa : World} {p q : Option Addr} {l c m c2 : Nat} {xs ys : List UInt8} {K : Option Addr → Nat → Nat → World → Prop} (hr : Row wa T_uint8 1 p l c (bcells xs)) (hb : Bytes wa q m ys) (hn : q = none → m = 0) (hlm : l + m ≤ 100000000000)
    (hf : fresh w0 p) (hc : Chg No w0 wa) (k : ∀ p' c' w', Row w' T_uint8 1 p' (l + m) c' (bcells (xs ++ ys)) → fresh w0 p' → Chg No w0 w' → K p' (l + m) c' w') :
    appJ Tryz.prog T_sl_uint8 T_sl_uint8 (.slice p l c) (.slice q m c2) wa K := by
  refine appJ_row slT_u8 hr hb (one1_bcells _) hn (by omega) (by simp only [maxLen]; omega) fun p' c' w' hr' hc' hf' => ?_
  refine k p' c' w' (by simpa [bcells] using hr') ?_ (hc.trans hc' fun b hb ⟨a, ha, e⟩ => by have := hf a ha; omega)
  rcases hf' with rfl | hf'
  · exact hf
  · intro a ha; have := hf' a ha; have := hc.size; omega

end

/-- q[i] = v in a row of bytes of the call's own. -/
theorem Row.stB {w : World} {p : Option Addr} {l c : Nat} {bs : List UInt8} (hr : Row w T_uint8 1 p l c (bcells bs)) {i : Int} (h0 : 0 ≤ i) (h1 : i < l) {v : UInt8} {K : World → Prop}
    (k : ∀ w', Row w' T_uint8 1 p l c (bcells (bs.set i.toNat v)) → Chg (isB p) w w' → K w') : idxA p l i fun a => stV w (a.add (i.toNat * 1)) (.int .u8 (v.toNat : Int)) K := by
  obtain ⟨b, rest, rfl, hh, hle, hmax, hlen⟩ := hr.some0 (by omega)
  have hl := hr.len
  rw [bcells_length, Nat.mul_one] at hl
  refine idxA_i h0 h1 ?_
  rw [Addr.add_mk, Nat.zero_add, Nat.mul_one]
  have H := (Hp.start w (isB (some ⟨b, 0, none⟩))).add hh (by simp) (fun _ => ⟨_, rfl, rfl⟩)
  refine H.stV 0 rfl (off := i.toNat) (by rw [List.length_append, bcells_length]; omega) fun w' H' hc => ?_
  have e : (bcells bs ++ rest).set i.toNat (Value.int .u8 (v.toNat : Int)) = bcells (bs.set i.toNat v) ++ rest := by
    rw [List.set_append_left _ _ (by rw [bcells_length]; omega)]
    unfold bcells
    rw [← List.map_set]
  simp only [List.set_cons_zero] at H'
  rw [e] at H'
  exact k w' (H'.asRow 0 rfl rfl (by rw [bcells_length, List.length_set]; omega) hle hmax (by rw [← hlen]; simp [bcells])) H'.chg

/-- The reckoning of a place: int(uint(at) % uint(n)). -/
theorem placeOf {at_ : Int} {n : Nat} (hn : 1 ≤ n) (hm : n ≤ 140737488351232) : ∃ k : Nat, w64 (Int.tmod (IntKind.u64.wrap at_) (IntKind.u64.wrap (n : Int))) = (k : Int) ∧ k < n ∧ IntKind.u64.wrap (n : Int) ≠ 0 := by
  have e : IntKind.u64.wrap (n : Int) = (n : Int) := by rw [wrap_u64]; omega
  rw [e]
  have h0 : 0 ≤ IntKind.u64.wrap at_ := by rw [wrap_u64]; omega
  have h1 : Int.tmod (IntKind.u64.wrap at_) (n : Int) = IntKind.u64.wrap at_ % n := Int.tmod_eq_emod_of_nonneg h0
  have h2 := Int.emod_nonneg (IntKind.u64.wrap at_) (b := (n : Int)) (by omega)
  have h3 := Int.emod_lt_of_pos (IntKind.u64.wrap at_) (b := (n : Int)) (by omega)
  refine ⟨(IntKind.u64.wrap at_ % n).toNat, ?_, by omega, by omega⟩
  rw [h1, w64_of (by omega) (by omega)]; omega

theorem xor_ne {x y : UInt8} (h : y ≠ 0) : x ^^^ y ≠ x := by
  intro e
  apply h
  have h1 := congrArg UInt8.toNat e
  rw [UInt8.toNat_xor] at h1
  apply UInt8.toNat_inj.1
  have h2 := congrArg (x.toNat ^^^ ·) h1
  rw [← Nat.xor_assoc, Nat.xor_self, Nat.zero_xor] at h2
  exact h2

end Go.Proofs.YtkgfbphdmnapdaaGreatDoor

