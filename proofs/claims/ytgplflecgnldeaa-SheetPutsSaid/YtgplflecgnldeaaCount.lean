/-
  bytes.Count at one byte; append of a string's bytes; bytes.Clone.
-/
import Derived.Test.YtgplflecgnldeaaNum
import Derived.Test.YtgplflecgnldeaaVCount
import Derived.Lib.BytesEntry
import Derived.Lib.Bytealg
import Derived.Lib.AppendStr
import Derived.Laws.Externs
namespace Go.Vc
open Go Go.RowKit

theorem ints_bytes (bs : List UInt8) : Lib.bytesOf (bs.map fun b => (b.toNat : Int)) = bs := by
  unfold Lib.bytesOf
  rw [List.map_map]
  conv => rhs; rw [← List.map_id bs]
  apply List.map_congr_left
  intro b _
  simp

/-- The model's own count of a byte. -/
theorem run_count {P : Program} {w : World} {p : Option Addr} {l c : Nat} {bs : List UInt8} (h : Bytes w p l bs) (v : UInt8) :
    (Extern.BytealgCount.count #[.slice p l c, .int .u8 v.toNat]).run P w = .ok (.int .i64 (bs.count v : Nat)) w := by
  have hs := Lib.run_countString (P := P) ⟨bs.toArray⟩ (v.toNat : Int) w
  have hv : ((v.toNat : Int).toNat.toUInt8) = v := by simp
  rw [hv] at hs
  have hl := h.len
  have key : (Extern.Bytes.bytesOf (.slice p l c)).run P w = .ok ⟨bs.toArray⟩ w := by
    cases p with
    | none =>
      have : bs = [] := by
        rcases h.2 with h0 | ⟨a, ha, _⟩
        · exact List.eq_nil_of_length_eq_zero (by omega)
        · cases ha
      subst this
      simp [Extern.Bytes.bytesOf]; rfl
    | some a =>
      have hc : ∀ j x, (bs.map fun b => (b.toNat : Int))[j]? = some x → w.cell? (a.add j) = some (.int .u8 x) := by
        intro j x hx
        rcases h.2 with h0 | ⟨a', ha, hcs⟩
        · have : bs = [] := List.eq_nil_of_length_eq_zero (by omega)
          subst this; simp at hx
        · cases ha
          refine hcs j _ ?_
          unfold bcells
          rw [List.getElem?_map] at hx ⊢
          cases hb : bs[j]? with
          | none => simp [hb] at hx
          | some b => simp [hb] at hx ⊢; exact hx
      have := Lib.run_loadBytesX (P := P) w (bs.map fun b => (b.toNat : Int)) a .empty hc
      rw [List.length_map, ints_bytes, hl] at this
      have he : (⟨ByteArray.empty.data ++ bs.toArray⟩ : ByteArray) = ⟨bs.toArray⟩ := by
        apply ByteArray.ext
        show (#[] : Array UInt8) ++ bs.toArray = bs.toArray
        simp
      rw [he] at this
      simpa [Extern.Bytes.bytesOf] using this
  change Sem.run P (do
    let b ← Extern.Bytes.bytesOf (.slice p l c)
    let c' ← Extern.Bytes.asByte (.int .u8 (v.toNat : Int))
    pure (goInt (b.foldl (fun n x => if x == c' then n + 1 else n) (0 : Nat)))) w = _
  change Sem.run P (do
    let b ← Extern.Bytes.bytesOf (.string ⟨bs.toArray⟩)
    let c' ← Extern.Bytes.asByte (.int .u8 (v.toNat : Int))
    pure (goInt (b.foldl (fun n x => if x == c' then n + 1 else n) (0 : Nat)))) w = _ at hs
  simp only [Sem.run_bind, key, Result.andThen] at hs ⊢
  simp only [Extern.Bytes.bytesOf, Sem.run_pure] at hs
  simpa [Lib.countByte] using hs

/-- append(b, "..."...) where there is room, in a block known whole. -/
theorem Hp.appStr {w0 w : World} {S : Nat → Prop} {Γ : List Blk} {b : Nat} {cs : List Value} {e : TypeId} {P : Program} (H : Hp w0 S w Γ) (i : Nat) (hi : Γ[i]? = some ⟨b, cs, e⟩) {t u : TypeId} {by_ : Nat} {z : Array Value} (T : SlT P t e 1 by_ z) (hu : P.underlying u = some .string) {l c : Nat} {s : List UInt8} {K : Option Addr → Nat → Nat → World → Prop}
    (hlen : cs.length = c) (room : l + s.length ≤ c) (k : ∀ w', Hp w0 S w' (Γ.set i ⟨b, splice cs l (bcells s), e⟩) → Chg (fun x => x = b) w w' → K (some ⟨b, 0, none⟩) (l + s.length) c w') :
    appJ P t u (.slice (some ⟨b, 0, none⟩) l c) (.string ⟨s.toArray⟩) w K := by
  obtain ⟨ti, v, hti, hz, hsz, hby, hv⟩ := T.info
  have hh := H.get i hi
  have hsize : (⟨s.toArray⟩ : ByteArray).size = s.length := rfl
  refine ⟨some ⟨b, 0, none⟩, l + s.length, c, _, fun ty => Lib.run_append_room_string (P := P) w t u ty e ti T.hu hu hti hsz b l c ⟨cs⟩ hh ⟨s.toArray⟩ (by rw [hsize]; exact room) (by rw [hsize]; simp only [List.size_toArray]; omega), ?_⟩
  have := k (w.setRow b ⟨splice cs l (bcells s)⟩) (H.row i hi _) (chg_setRow _ _ _)
  have ec : Lib.strCells ⟨s.toArray⟩ = bcells s := rfl
  rw [ec, hsize]
  simpa [splice, bcells_length] using this

end Go.Vc
namespace Go.Proofs.Ytgplflecgnldeaa
open Go Go.Vc

theorem Count_ok {w : World} {p q : Option Addr} {l c d : Nat} {bs : List UInt8} {v : UInt8} {J : Int → World → Prop} (h : Bytes w p l bs) (hq : Bytes w q 1 [v]) (k : J ((bs.count v : Nat) : Int) w) :
    callJ Try.prog fn_bytes_Count #[.slice p l c, .slice q 1 d] w [.one (.int .i64)] J := by
  refine c_bytes_Count ?_
  unfold VC_bytes_Count
  refine condB_eq (fun h => absurd h (by decide)) fun _ => condB_eq (fun _ => ?_) fun h => absurd rfl h
  refine byte_i hq (by decide) (by decide) fun b hb => ?_
  have hbv : b = v := by simpa using hb.symm
  subst hbv
  refine ⟨_, w, ?_, (bs.count b : Nat), rfl, k⟩
  rw [run_callFunc_extern (fn := Try.prog.funcs[fn_internal_bytealg_Count]!) (by kernel_rfl) (by kernel_rfl) (by kernel_rfl) (by kernel_rfl) (e := Extern.BytealgCount.count) (by kernel_rfl), run_count h]
  rfl

theorem BClone_ok {w : World} {p : Option Addr} {l c : Nat} {bs : List UInt8} {J : Option Addr → Nat → Nat → World → Prop} (h : Bytes w p l bs) (hp : p = none → l = 0) (hm : l ≤ 140737488351232)
    (k : ∀ p' c' w', Row w' T_uint8 1 p' l c' (bcells bs) → fresh w p' → Chg No w w' → J p' l c' w') :
    callJ Try.prog fn_bytes_Clone #[.slice p l c] w [.one .slice] J :=
  c_bytes_Clone (clone_cond slT_u8 h (one1_bcells bs) hp (by omega) (by simp only [maxLen]; omega) k)

end Go.Proofs.Ytgplflecgnldeaa
