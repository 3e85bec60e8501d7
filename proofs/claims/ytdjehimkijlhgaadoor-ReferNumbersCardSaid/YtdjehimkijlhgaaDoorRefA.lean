/-
  Digits; strings.CutPrefix.
-/
import Derived.Test.YtdjehimkijlhgaaDoorReplS
import Derived.Lib.BytesEntry
import Derived.Lib.Bytealg
import Derived.Laws.Externs
set_option linter.unusedVariables false
set_option linter.unusedSimpArgs false
namespace Go.Vc
open Go Go.Lib
/-- A digit's number. -/
def hexV (b : UInt8) : Option Nat := if 48 ≤ b.toNat ∧ b.toNat ≤ 57 then some (b.toNat - 48) else if 97 ≤ b.toNat ∧ b.toNat ≤ 102 then some (b.toNat - 87) else if 65 ≤ b.toNat ∧ b.toNat ≤ 70 then some (b.toNat - 55) else none
theorem hexV_lt {b : UInt8} {d : Nat} (h : hexV b = some d) : d < 16 := by
  unfold hexV at h
  split at h
  · cases h; omega
  · split at h
    · cases h; omega
    · split at h
      · cases h; omega
      · cases h
theorem u8w {n : Nat} {k : Int} {m : Nat} (h : (n : Int) - k = m) (hm : m < 256) : IntKind.u8.wrap ((n : Int) - k) = m := by
  rw [h]; simp [IntKind.wrap, IntKind.bits, IntKind.signed] <;> omega
end Go.Vc
namespace Go.Proofs.YtdjehimkijlhgaaDoor
open Go Go.Vc Go.Lib
section
variable {w : World}
theorem Digit_ok {c : UInt8} {J : Int → World → Prop} (K : J (match hexV c with | some d => (d : Int) | none => 99) w) : callJ Tryd.prog fn_refer_digit #[.int .u8 ((c.toNat : Nat) : Int)] w [.one (.int .i64)] J := by
  refine c_refer_digit ?_
  unfold VC_refer_digit
  have hc := c.toNat_lt
  unfold hexV at K
  refine withJ_i fun J3 hJ3 => ?_
  have k3t : 48 ≤ c.toNat ∧ c.toNat ≤ 57 → J3 true w := by
    intro h; subst hJ3
    rw [if_pos h] at K
    refine condB_i (fun _ => ?_) (fun h => by cases h)
    rw [u8w (m := c.toNat - 48) (by omega) (by omega), w64_of (by omega) (by omega)]; exact K
  have k3f : ¬ (48 ≤ c.toNat ∧ c.toNat ≤ 57) → J3 false w := by
    intro h; subst hJ3
    rw [if_neg h] at K
    refine condB_i (fun h => by cases h) (fun _ => ?_)
    refine withJ_i fun J13 hJ13 => ?_
    have k13t : 97 ≤ c.toNat ∧ c.toNat ≤ 102 → J13 true w := by
      intro h; subst hJ13
      rw [if_pos h] at K
      refine condB_i (fun _ => ?_) (fun h => by cases h)
      have e : w64 (((c.toNat - 97 : Nat) : Int)) = ((c.toNat - 97 : Nat) : Int) := by rw [w64_of] <;> omega
      rw [u8w (m := c.toNat - 97) (by omega) (by omega), e, w64_of (by omega) (by omega), show ((c.toNat - 97 : Nat) : Int) + 10 = ((c.toNat - 87 : Nat) : Int) from by omega]; exact K
    have k13f : ¬ (97 ≤ c.toNat ∧ c.toNat ≤ 102) → J13 false w := by
      intro h; subst hJ13
      rw [if_neg h] at K
      refine condB_i (fun h => by cases h) (fun _ => ?_)
      refine withJ_i fun J24 hJ24 => ?_
      have k24t : 65 ≤ c.toNat ∧ c.toNat ≤ 70 → J24 true w := by
        intro h; subst hJ24
        rw [if_pos h] at K
        refine condB_i (fun _ => ?_) (fun h => by cases h)
        have e : w64 (((c.toNat - 65 : Nat) : Int)) = ((c.toNat - 65 : Nat) : Int) := by rw [w64_of] <;> omega
        rw [u8w (m := c.toNat - 65) (by omega) (by omega), e, w64_of (by omega) (by omega), show ((c.toNat - 65 : Nat) : Int) + 10 = ((c.toNat - 55 : Nat) : Int) from by omega]; exact K
      have k24f : ¬ (65 ≤ c.toNat ∧ c.toNat ≤ 70) → J24 false w := by
        intro h; subst hJ24
        rw [if_neg h] at K
        exact condB_i (fun h => by cases h) (fun _ => K)
      clear hJ24
      refine condB_d (fun h1 => ?_) (fun h1 => k24f (by omega))
      by_cases h2 : c.toNat ≤ 70
      · rw [decide_eq_true (by omega)]; exact k24t ⟨by omega, h2⟩
      · rw [decide_eq_false (by omega)]; exact k24f (by omega)
    clear hJ13
    refine condB_d (fun h1 => ?_) (fun h1 => k13f (by omega))
    by_cases h2 : c.toNat ≤ 102
    · rw [decide_eq_true (by omega)]; exact k13t ⟨by omega, h2⟩
    · rw [decide_eq_false (by omega)]; exact k13f (by omega)
  clear hJ3
  refine condB_d (fun h1 => ?_) (fun h1 => k3f (by omega))
  by_cases h2 : c.toNat ≤ 57
  · rw [decide_eq_true (by omega)]; exact k3t ⟨by omega, h2⟩
  · rw [decide_eq_false (by omega)]; exact k3f (by omega)
theorem Hex_ok {c : UInt8} {J : Int → World → Prop} (K : J (match hexV c with | some d => (d : Int) | none => -1) w) : callJ Tryd.prog fn_ref02_hex #[.int .u8 ((c.toNat : Nat) : Int)] w [.one (.int .i64)] J := by
  refine c_ref02_hex ?_
  unfold VC_ref02_hex
  have hc := c.toNat_lt
  unfold hexV at K
  refine withJ_i fun J3 hJ3 => ?_
  have k3t : 48 ≤ c.toNat ∧ c.toNat ≤ 57 → J3 true w := by
    intro h; subst hJ3
    rw [if_pos h] at K
    refine condB_i (fun _ => ?_) (fun h => by cases h)
    have e : w64 (w64 ((c.toNat : Nat) : Int) - 48) = ((c.toNat - 48 : Nat) : Int) := by rw [w64_of (n := ((c.toNat : Nat) : Int)) (by omega) (by omega), w64_of] <;> omega
    rw [e]; exact K
  have k3f : ¬ (48 ≤ c.toNat ∧ c.toNat ≤ 57) → J3 false w := by
    intro h; subst hJ3
    rw [if_neg h] at K
    refine condB_i (fun h => by cases h) (fun _ => ?_)
    refine withJ_i fun J13 hJ13 => ?_
    have k13t : 97 ≤ c.toNat ∧ c.toNat ≤ 102 → J13 true w := by
      intro h; subst hJ13
      rw [if_pos h] at K
      refine condB_i (fun _ => ?_) (fun h => by cases h)
      have e : w64 (w64 (w64 ((c.toNat : Nat) : Int) - 97) + 10) = ((c.toNat - 87 : Nat) : Int) := by rw [w64_of (n := ((c.toNat : Nat) : Int)) (by omega) (by omega), w64_of (n := ((c.toNat : Nat) : Int) - 97) (by omega) (by omega), w64_of] <;> omega
      rw [e]; exact K
    have k13f : ¬ (97 ≤ c.toNat ∧ c.toNat ≤ 102) → J13 false w := by
      intro h; subst hJ13
      rw [if_neg h] at K
      refine condB_i (fun h => by cases h) (fun _ => ?_)
      refine withJ_i fun J24 hJ24 => ?_
      have k24t : 65 ≤ c.toNat ∧ c.toNat ≤ 70 → J24 true w := by
        intro h; subst hJ24
        rw [if_pos h] at K
        refine condB_i (fun _ => ?_) (fun h => by cases h)
        have e : w64 (w64 (w64 ((c.toNat : Nat) : Int) - 65) + 10) = ((c.toNat - 55 : Nat) : Int) := by rw [w64_of (n := ((c.toNat : Nat) : Int)) (by omega) (by omega), w64_of (n := ((c.toNat : Nat) : Int) - 65) (by omega) (by omega), w64_of] <;> omega
        rw [e]; exact K
      have k24f : ¬ (65 ≤ c.toNat ∧ c.toNat ≤ 70) → J24 false w := by
        intro h; subst hJ24
        rw [if_neg h] at K
        exact condB_i (fun h => by cases h) (fun _ => K)
      clear hJ24
      refine condB_d (fun h1 => ?_) (fun h1 => k24f (by omega))
      by_cases h2 : c.toNat ≤ 70
      · rw [decide_eq_true (by omega)]; exact k24t ⟨by omega, h2⟩
      · rw [decide_eq_false (by omega)]; exact k24f (by omega)
    clear hJ13
    refine condB_d (fun h1 => ?_) (fun h1 => k13f (by omega))
    by_cases h2 : c.toNat ≤ 102
    · rw [decide_eq_true (by omega)]; exact k13t ⟨by omega, h2⟩
    · rw [decide_eq_false (by omega)]; exact k13f (by omega)
  clear hJ3
  refine condB_d (fun h1 => ?_) (fun h1 => k3f (by omega))
  by_cases h2 : c.toNat ≤ 57
  · rw [decide_eq_true (by omega)]; exact k3t ⟨by omega, h2⟩
  · rw [decide_eq_false (by omega)]; exact k3f (by omega)
theorem HasPrefix_ok {s p : ByteArray} {J : Bool → World → Prop} (K : J ((bl p).isPrefixOf (bl s)) w) : callJ Tryd.prog fn_internal_stringslite_HasPrefix #[.string s, .string p] w [.one .bool] J := by
  refine c_internal_stringslite_HasPrefix ?_
  unfold VC_internal_stringslite_HasPrefix
  have hs := bl_len s
  have hp := bl_len p
  refine withJ_i fun J4 hJ4 => ?_
  subst hJ4
  refine condB_d (fun h1 => ?_) (fun h1 => ?_)
  · refine slStr_take (i := p.size) (by omega) fun t ht _ => ?_
    rw [beqS]
    have : decide (t = p) = (bl p).isPrefixOf (bl s) := by
      rw [Bool.eq_iff_iff, decide_eq_true_eq, List.isPrefixOf_iff_prefix, List.prefix_iff_eq_take, hp]
      exact ⟨fun e => by rw [← ht, e], fun e => bl_ext (by rw [ht, ← e])⟩
    rw [this]; exact K
  · have : (bl p).isPrefixOf (bl s) = false := by
      rw [Bool.eq_false_iff]
      intro h
      have := (List.isPrefixOf_iff_prefix.1 h).length_le
      omega
    rw [this] at K; exact K
theorem CutPrefix_ok {s p : ByteArray} {J : ByteArray → Bool → World → Prop} (K1 : ∀ t, (bl p).isPrefixOf (bl s) = true → bl t = (bl s).drop p.size → J t true w) (K2 : (bl p).isPrefixOf (bl s) = false → J s false w) : callJ Tryd.prog fn_strings_CutPrefix #[.string s, .string p] w [.one .str, .one .bool] J := by
  refine c_strings_CutPrefix ?_
  unfold VC_strings_CutPrefix
  refine c_internal_stringslite_CutPrefix ?_
  unfold VC_internal_stringslite_CutPrefix
  refine HasPrefix_ok ?_
  have hs := bl_len s
  have hp := bl_len p
  refine condB_not (fun hf => K2 hf) (fun ht => ?_)
  have := (List.isPrefixOf_iff_prefix.1 ht).length_le
  exact slStr_drop (i := p.size) (by omega) fun t h1 _ => K1 t ht h1
end
end Go.Proofs.YtdjehimkijlhgaaDoor

/-
  bytes.IndexByte.
-/

set_option linter.unusedVariables false
set_option linter.unusedSimpArgs false
namespace Go.Vc
open Go Go.Lib
theorem ints_bytes (bs : List UInt8) : Lib.bytesOf (bs.map fun b => (b.toNat : Int)) = bs := by
  unfold Lib.bytesOf
  rw [List.map_map]
  conv => rhs; rw [← List.map_id bs]
  apply List.map_congr_left
  intro b _
  simp

theorem run_ixb {P : Program} {w : World} {p : Option Addr} {l c : Nat} {bs : List UInt8} (h : Bytes w p l bs) (v : UInt8) :
    (Extern.BytealgIndexByte.indexByte #[.slice p l c, .int .u8 v.toNat]).run P w = .ok (.int .i64 (Lib.indexByte bs v)) w := by
  have hs := Lib.run_indexByteString (P := P) ⟨bs.toArray⟩ (v.toNat : Int) w
  have hv : ((v.toNat : Int).toNat.toUInt8) = v := by simp
  rw [hv] at hs
  have hl := h.len
  have key : (Extern.Bytes.bytesOf (.slice p l c)).run P w = .ok ⟨bs.toArray⟩ w := by
    cases p with
    | none =>
      have : bs = [] := by
        rcases h.2 with h0 | ⟨a, ha, _⟩
        · exact List.eq_nil_of_length_eq_zero (by omega)
        · cases ha
      subst this
      simp [Extern.Bytes.bytesOf]; rfl
    | some a =>
      have hc : ∀ j x, (bs.map fun b => (b.toNat : Int))[j]? = some x → w.cell? (a.add j) = some (.int .u8 x) := by
        intro j x hx
        rcases h.2 with h0 | ⟨a', ha, hcs⟩
        · have : bs = [] := List.eq_nil_of_length_eq_zero (by omega)
          subst this; simp at hx
        · cases ha
          refine hcs j _ ?_
          unfold bcells
          rw [List.getElem?_map] at hx ⊢
          cases hb : bs[j]? with
          | none => simp [hb] at hx
          | some b => simp [hb] at hx ⊢; exact hx
      have := Lib.run_loadBytesX (P := P) w (bs.map fun b => (b.toNat : Int)) a .empty hc
      rw [List.length_map, ints_bytes, hl] at this
      have he : (⟨ByteArray.empty.data ++ bs.toArray⟩ : ByteArray) = ⟨bs.toArray⟩ := by
        apply ByteArray.ext
        show (#[] : Array UInt8) ++ bs.toArray = bs.toArray
        simp
      rw [he] at this
      simpa [Extern.Bytes.bytesOf] using this
  change Sem.run P (do
    let b ← Extern.Bytes.bytesOf (.slice p l c)
    let c' ← Extern.Bytes.asByte (.int .u8 (v.toNat : Int))
    match (List.range b.size).find? fun i => b[i]! == c' with
    | some i => pure (goInt i)
    | none => pure (goInt (-1))) w = _
  change Sem.run P (do
    let b ← Extern.Bytes.bytesOf (.string ⟨bs.toArray⟩)
    let c' ← Extern.Bytes.asByte (.int .u8 (v.toNat : Int))
    match (List.range b.size).find? fun i => b[i]! == c' with
    | some i => pure (goInt i)
    | none => pure (goInt (-1))) w = _ at hs
  simp only [Sem.run_bind, key, Result.andThen] at hs ⊢
  simp only [Extern.Bytes.bytesOf, Sem.run_pure] at hs
  exact hs
end Go.Vc
namespace Go.Proofs.YtdjehimkijlhgaaDoor
open Go Go.Vc Go.Lib
section
variable {w : World}
theorem IndexB_ok {p : Option Addr} {l c : Nat} {bs : List UInt8} {v : UInt8} {J : Int → World → Prop} (h : Bytes w p l bs) (K : J (Lib.indexByte bs v) w) : callJ Tryd.prog fn_bytes_IndexByte #[.slice p l c, .int .u8 ((v.toNat : Nat) : Int)] w [.one (.int .i64)] J := by
  refine c_bytes_IndexByte ?_
  unfold VC_bytes_IndexByte
  refine ⟨_, _, ?_, _, rfl, K⟩
  rw [run_callFunc_extern (fn := Tryd.prog.funcs[fn_internal_bytealg_IndexByte]!) (by kernel_rfl) (by kernel_rfl) (by kernel_rfl) (by kernel_rfl) (e := Extern.BytealgIndexByte.indexByte) (by kernel_rfl), run_ixb h]
  rfl
theorem HasPrefixB_ok {p q : Option Addr} {l c m d : Nat} {bs ps : List UInt8} {J : Bool → World → Prop} (h : Bytes w p l bs) (h2 : Bytes w q m ps) (hlc : l ≤ c) (K : J (ps.isPrefixOf bs) w) : callJ Tryd.prog fn_bytes_HasPrefix #[.slice p l c, .slice q m d] w [.one .bool] J := by
  refine c_bytes_HasPrefix ?_
  unfold VC_bytes_HasPrefix
  have hl := h.len
  have hm := h2.len
  refine withJ_i fun J4 hJ4 => ?_
  subst hJ4
  refine condB_d (fun h1 => ?_) (fun h1 => ?_)
  · refine slS_sl (i := 0) (j := m) h rfl rfl (Nat.zero_le _) (by omega) hlc fun q14 h14 _ => ?_
    have hb : Bytes w q14 (m - 0) (bs.take m) := by
      have e : ((bcells bs).drop (0 * 1)).take ((m - 0) * 1) = bcells (bs.take m) := by simp [bcells]
      rw [e] at h14; exact h14
    refine c_bytes_Equal ?_
    unfold VC_bytes_Equal
    refine bytesOf_i hb (bytesOf_i h2 ?_)
    rw [beqS]
    have : decide ((⟨(bs.take m).toArray⟩ : ByteArray) = ⟨ps.toArray⟩) = ps.isPrefixOf bs := by
      rw [Bool.eq_iff_iff, decide_eq_true_eq, List.isPrefixOf_iff_prefix, List.prefix_iff_eq_take, show ps.length = m from by omega]
      exact ⟨fun e => by have := congrArg bl e; simpa [bl] using this.symm, fun e => by rw [← e]⟩
    rw [this]; exact K
  · have : ps.isPrefixOf bs = false := by
      rw [Bool.eq_false_iff]
      intro hh
      have := (List.isPrefixOf_iff_prefix.1 hh).length_le
      omega
    rw [this] at K; exact K
end
end Go.Proofs.YtdjehimkijlhgaaDoor

