/-
  Chapter 14: 'TapeSums'.
-/
import Derived.Test.YtfhmnodoahcmnaaRef14
import Derived.Test.YtfhmnodoahcmnaaAwake14
import Derived.Test.YtfhmnodoahcmnaaRef01
import Derived.Test.YtfhmnodoahcmnaaRd14
namespace Go.Proofs.Ytfhmnodoahcmnaa
open Go Go.Vc

/-- q[i] = v in a row of bytes of the call's own. -/
theorem Row.stB {w : World} {p : Option Addr} {l c : Nat} {bs : List UInt8} (hr : Row w T_uint8 1 p l c (bcells bs)) {i : Int} (h0 : 0 ≤ i) (h1 : i < l) {v : UInt8} {K : World → Prop}
    (k : ∀ w', Row w' T_uint8 1 p l c (bcells (bs.set i.toNat v)) → Chg (isB p) w w' → K w') : idxA p l i fun a => stV w (a.add (i.toNat * 1)) (.int .u8 (v.toNat : Int)) K := by
  obtain ⟨b, rest, rfl, hh, hle, hmax, hlen⟩ := hr.some0 (by omega)
  have hl := hr.len
  rw [bcells_length, Nat.mul_one] at hl
  refine idxA_i h0 h1 ?_
  rw [Addr.add_mk, Nat.zero_add, Nat.mul_one]
  have H := (Hp.start w (isB (some ⟨b, 0, none⟩))).add hh (by simp) (fun _ => ⟨_, rfl, rfl⟩)
  refine H.stV 0 rfl (off := i.toNat) (by rw [List.length_append, bcells_length]; omega) fun w' H' hc => ?_
  have e : (bcells bs ++ rest).set i.toNat (Value.int .u8 (v.toNat : Int)) = bcells (bs.set i.toNat v) ++ rest := by
    rw [List.set_append_left _ _ (by rw [bcells_length]; omega)]
    unfold bcells
    rw [← List.map_set]
  simp only [List.set_cons_zero] at H'
  rw [e] at H'
  exact k w' (H'.asRow 0 rfl rfl (by rw [bcells_length, List.length_set]; omega) hle hmax (by rw [← hlen]; simp [bcells])) H'.chg

/-- The reckoning of a place: int(uint(at) % uint(n)). -/
theorem placeOf {at_ : Int} {n : Nat} (hn : 1 ≤ n) (hm : n ≤ 140737488351232) : ∃ k : Nat, w64 (Int.tmod (IntKind.u64.wrap at_) (IntKind.u64.wrap (n : Int))) = (k : Int) ∧ k < n ∧ IntKind.u64.wrap (n : Int) ≠ 0 := by
  have e : IntKind.u64.wrap (n : Int) = (n : Int) := by rw [wrap_u64]; omega
  rw [e]
  have h0 : 0 ≤ IntKind.u64.wrap at_ := by rw [wrap_u64]; omega
  have h1 : Int.tmod (IntKind.u64.wrap at_) (n : Int) = IntKind.u64.wrap at_ % n := Int.tmod_eq_emod_of_nonneg h0
  have h2 := Int.emod_nonneg (IntKind.u64.wrap at_) (b := (n : Int)) (by omega)
  have h3 := Int.emod_lt_of_pos (IntKind.u64.wrap at_) (b := (n : Int)) (by omega)
  refine ⟨(IntKind.u64.wrap at_ % n).toNat, ?_, by omega, by omega⟩
  rw [h1, w64_of (by omega) (by omega)]; omega

theorem xor_ne {x y : UInt8} (h : y ≠ 0) : x ^^^ y ≠ x := by
  intro e
  apply h
  have h1 := congrArg UInt8.toNat e
  rw [UInt8.toNat_xor] at h1
  apply UInt8.toNat_inj.1
  have h2 := congrArg (x.toNat ^^^ ·) h1
  rw [← Nat.xor_assoc, Nat.xor_self, Nat.zero_xor] at h2
  exact h2

theorem TapeSums_ok {w : World} {p : BV} {at_ by_ : Int} (hp : p.Ok w) (_ : InI at_) (hby : InB by_) :
    callJ Try.prog fn_law14_TapeSums #[.slice p.p p.l p.c, .int .i64 at_, .int .u8 by_] w [.one .bool] fun r w' => r = true ∧ Chg No w w' := by
  refine c_law14_TapeSums ?_
  unfold VC_law14_TapeSums
  obtain ⟨y, rfl⟩ := hby
  refine awake14_ok fun w1 hc1 => ?_
  refine condB_i (fun h => by simp at h) fun _ => ?_
  have hb := hp.is.chg hc1 (off_no _)
  have hf := hp.fits
  have hbl := hp.is.len
  refine Sum_ok hb (by omega) ?_
  refine RSum_ok hb (by omega) ?_
  refine condB_ne (fun h => absurd rfl h) fun _ => ?_
  refine withJ_i fun J24 hJ24 => ?_
  subst hJ24
  refine condB_eq (fun _ => ?_) (fun h0 => ?_)
  · exact condB_i (fun _ => ⟨rfl, hc1⟩) (fun h => by simp at h)
  refine condB_eq (fun _ => ⟨rfl, hc1⟩) (fun hy => ?_)
  obtain ⟨k, hk, hkl, hne⟩ := placeOf (at_ := at_) (n := p.l) (by omega) hf
  rw [hk]
  refine Twin_ok hb hp.nil hf fun p2 c2 w2 hr2 hf2 hc2 => ?_
  refine ⟨hne, byte_i hr2.bytes (by omega) (by omega) fun b hbk => ?_⟩
  rw [Int.toNat_natCast] at hbk
  rw [bXor_u8]
  refine Row.stB hr2 (by omega) (by omega) fun w3 hr3 hc3 => ?_
  rw [Int.toNat_natCast] at hr3
  refine Sum_ok hr3.bytes (by omega) ?_
  have hcs := crc_set hbk (xor_ne (x := b) (y := y) (by rintro rfl; exact hy rfl))
  refine ⟨?_, (hc1.trans0 hc2).trans hc3 fun x hx ⟨a, ha, e⟩ => by have := hf2 a ha; have := hc1.size; omega⟩
  simp only [bne_iff_ne, ne_eq]
  intro h
  exact hcs (by omega)

end Go.Proofs.Ytfhmnodoahcmnaa
