/- What the statement needs, part 7. -/
import Derived.Test.YtlnfaaghdkngmaaGreatDoorZ6
set_option linter.unusedSectionVars false
set_option linter.unusedVariables false
set_option linter.unusedSimpArgs false
set_option maxRecDepth 100000
open List
section
namespace Go.Vc
open Go Go.Lib
theorem YbR (bs : List UInt8) : Lib.bytesOf (bs.map fun b => (b.toNat : Int)) = bs := by
 unfold Lib.bytesOf
 rw [map_map]
 conv => rhs; rw [<- map_id bs]
 apply map_congr_left
 intro b _
 simp
theorem run_ixbE {P : Program} {w : World} {p : Option Addr} {l c : Nat} {bs : List UInt8} (h : Bytes w p l bs) (v : UInt8) :
  (Extern.BytealgIndexByte.indexByte #[.slice p l c, .int .u8 v.toNat]).run P w = .ok (.int .i64 (Lib.indexByte bs v)) w := by
 have hs := Lib.run_indexByteString (P := P) ⟨bs.toArray⟩ (v.toNat : Int) w
 have hv : ((v.toNat : Int).toNat.toUInt8) = v := by simp
 rw [hv] at hs
 have hl := h.len
 have key : (Extern.Bytes.bytesOf (.slice p l c)).run P w = .ok ⟨bs.toArray⟩ w := by
  cases p with
  | none =>
   have : bs = [] := by
    rcases h.2 with h0 | ⟨a, ha, _⟩
    ·exact eq_nil_of_length_eq_zero (by omega)
    ·cases ha
   subst this
   simp [Extern.Bytes.bytesOf]; rfl
  | some a =>
   have hc : ∀ j x, (bs.map fun b => (b.toNat : Int))[j]? = some x -> w.cell? (a.add j) = some (.int .u8 x) := by
    intro j x hx
    rcases h.2 with h0 | ⟨a', ha, hcs⟩
    ·have : bs = [] := eq_nil_of_length_eq_zero (by omega)
     subst this; simp at hx
    ·cases ha
     refine hcs j _ ?_
     unfold bcells
     rw [getElem?_map] at hx ⊢
     cases hb : bs[j]? with
     | none => simp [hb] at hx
     | some b => simp [hb] at hx ⊢; exact hx
   have := Lib.run_loadBytesX (P := P) w (bs.map fun b => (b.toNat : Int)) a .empty hc
   rw [length_map, YbR, hl] at this
   have he : (⟨ByteArray.empty.data ++ bs.toArray⟩ : ByteArray) = ⟨bs.toArray⟩ := by
    apply ByteArray.ext
    show (#[] : Array UInt8) ++ bs.toArray = bs.toArray
    simp
   rw [he] at this
   simpa [Extern.Bytes.bytesOf] using this
 change Sem.run P (do
  let b <- Extern.Bytes.bytesOf (.slice p l c)
  let c' <- Extern.Bytes.asByte (.int .u8 (v.toNat : Int))
  match (range b.size).find? fun i => b[i]! == c' with
  | some i => pure (goInt i)
  | none => pure (goInt (-1))) w = _
 change Sem.run P (do
  let b <- Extern.Bytes.bytesOf (.string ⟨bs.toArray⟩)
  let c' <- Extern.Bytes.asByte (.int .u8 (v.toNat : Int))
  match (range b.size).find? fun i => b[i]! == c' with
  | some i => pure (goInt i)
  | none => pure (goInt (-1))) w = _ at hs
 simp only [Sem.run_bind, key, Result.andThen] at hs ⊢
 simp only [Extern.Bytes.bytesOf, Sem.run_pure] at hs
 exact hs
theorem run_countE {P : Program} {w : World} {p : Option Addr} {l c : Nat} {bs : List UInt8} (h : Bytes w p l bs) (v : UInt8) :
  (Extern.BytealgCount.count #[.slice p l c, .int .u8 v.toNat]).run P w = .ok (.int .i64 (bs.count v : Nat)) w := by
 have hs := Lib.run_countString (P := P) ⟨bs.toArray⟩ (v.toNat : Int) w
 have hv : ((v.toNat : Int).toNat.toUInt8) = v := by simp
 rw [hv] at hs
 have hl := h.len
 have key : (Extern.Bytes.bytesOf (.slice p l c)).run P w = .ok ⟨bs.toArray⟩ w := by
  cases p with
  | none =>
   have : bs = [] := by
    rcases h.2 with h0 | ⟨a, ha, _⟩
    ·exact eq_nil_of_length_eq_zero (by omega)
    ·cases ha
   subst this
   simp [Extern.Bytes.bytesOf]; rfl
  | some a =>
   have hc : ∀ j x, (bs.map fun b => (b.toNat : Int))[j]? = some x -> w.cell? (a.add j) = some (.int .u8 x) := by
    intro j x hx
    rcases h.2 with h0 | ⟨a', ha, hcs⟩
    ·have : bs = [] := eq_nil_of_length_eq_zero (by omega)
     subst this; simp at hx
    ·cases ha
     refine hcs j _ ?_
     unfold bcells
     rw [getElem?_map] at hx ⊢
     cases hb : bs[j]? with
     | none => simp [hb] at hx
     | some b => simp [hb] at hx ⊢; exact hx
   have := Lib.run_loadBytesX (P := P) w (bs.map fun b => (b.toNat : Int)) a .empty hc
   rw [length_map, YbR, hl] at this
   have he : (⟨ByteArray.empty.data ++ bs.toArray⟩ : ByteArray) = ⟨bs.toArray⟩ := by
    apply ByteArray.ext
    show (#[] : Array UInt8) ++ bs.toArray = bs.toArray
    simp
   rw [he] at this
   simpa [Extern.Bytes.bytesOf] using this
 change Sem.run P (do
  let b <- Extern.Bytes.bytesOf (.slice p l c)
  let c' <- Extern.Bytes.asByte (.int .u8 (v.toNat : Int))
  pure (goInt (b.foldl (fun n x => if x == c' then n + 1 else n) (0 : Nat)))) w = _
 change Sem.run P (do
  let b <- Extern.Bytes.bytesOf (.string ⟨bs.toArray⟩)
  let c' <- Extern.Bytes.asByte (.int .u8 (v.toNat : Int))
  pure (goInt (b.foldl (fun n x => if x == c' then n + 1 else n) (0 : Nat)))) w = _ at hs
 simp only [Sem.run_bind, key, Result.andThen] at hs ⊢
 simp only [Extern.Bytes.bytesOf, Sem.run_pure] at hs
 simpa [Lib.countByte] using hs
section
variable {w : World}
theorem ints_cellE {p : Addr} {l : Nat} {bs : List UInt8} (h : Bytes w (some p) l bs) : ∀ i, i < l -> w.cell? (p.add i) = some (.int .u8 ((bs.map fun b => (b.toNat : Int)).getD i 0)) := by
 intro i hi
 have hl := h.len
 obtain ⟨a, ha, hc⟩ := h.at (by omega)
 cases ha
 refine hc i _ ?_
 have hb : bs[i]? = some bs[i] := getElem?_eq_getElem (by omega)
 simp [bcells, hb]
end
theorem chg_drewE (w : World) (q : Nat) : Chg No w (w.drewN q) := ⟨rfl, rfl, rfl, Nat.le_refl _, fun _ _ _ => rfl⟩
end Go.Vc
namespace Go.Proofs
open Go.Shelf
def Tryz.lays185_ren : Go.Shelf.Ren := ⟨fun | 185 => 226 | 187 => 229 | 115 => 245 | 253 => 271 | 224 => 216 | 254 => 272 | 255 => 274 | 291 => 303 | n => n, fun | 37 => 52 | 3 => 3 | 4 => 4 | 0 => 0 | 5 => 5 | 46 => 147 | 9 => 9 | 146 => 349 | 51 => 201 | n => n, fun | 1 => 2 | n => n⟩
theorem Tryz.lays185 : Go.Proofs.Lays.n185 Tryz.prog Tryz.lays185_ren where
 mixed := by kernel_rfl
 f115 := by kernel_rfl
 f185 := by kernel_rfl
 f187 := by kernel_rfl
 f224 := by kernel_rfl
 f253 := by kernel_rfl
 f254 := by kernel_rfl
 f255 := by kernel_rfl
 f291 := by kernel_rfl
 t0 := by kernel_rfl
 a0 := fun w => by kernel_rfl
 z0 := fun w => by kernel_rfl
 v0 := fun w => by kernel_rfl
 t3 := by kernel_rfl
 a3 := fun w => by kernel_rfl
 z3 := fun w => by kernel_rfl
 v3 := fun w => by kernel_rfl
 t4 := by kernel_rfl
 a4 := fun w => by kernel_rfl
 z4 := fun w => by kernel_rfl
 v4 := fun w => by kernel_rfl
 t5 := by kernel_rfl
 a5 := fun w => by kernel_rfl
 z5 := fun w => by kernel_rfl
 v5 := fun w => by kernel_rfl
 t9 := by kernel_rfl
 a9 := fun w => by kernel_rfl
 z9 := fun w => by kernel_rfl
 v9 := fun w => by kernel_rfl
 t37 := by kernel_rfl
 a37 := fun w => by kernel_rfl
 z37 := fun w => by kernel_rfl
 v37 := fun w => by kernel_rfl
 t46 := by kernel_rfl
 a46 := fun w => by kernel_rfl
 z46 := fun w => by kernel_rfl
 v46 := fun w => by kernel_rfl
 t51 := by kernel_rfl
 a51 := fun w => by kernel_rfl
 z51 := fun w => by kernel_rfl
 v51 := fun w => by kernel_rfl
 t146 := by kernel_rfl
 a146 := fun w => by kernel_rfl
 z146 := fun w => by kernel_rfl
 v146 := fun w => by kernel_rfl
 g1 := by kernel_rfl
end Go.Proofs
namespace Go.Proofs.YtlnfaaghdkngmaaGreatDoor
open Go Go.Vc Go.Lib Go.Shelf
theorem IndexE {w : World} {p : Option Addr} {a2 : Addr} {l c m d : Nat} {bs ps : List UInt8} {mx : Int} (hmx : w.cell? ⟨2, 0, none⟩ = some (.int .i64 mx)) (h : Bytes w p l bs) (h2 : Bytes w (some a2) m ps) (hp : p ≠ none) (hlc : l <= c) (hm : l <= 100000000) (hp2 : 2 <= ps.length) (hpl : ps.length <= 100) :
  Calls Tryz.prog Yan #[.slice p l c, .slice (some a2) m d] w fun e w' => e = .returned (.int .i64 (Lib.index bs ps)) /\ Chg No w w' := by
 have hl := h.len
 have hm2 := h2.len
 cases p with
 | none => exact absurd rfl hp
 | some a =>
 have rng : ∀ L : List UInt8, ∀ x ∈ L.map fun b => (b.toNat : Int), 0 <= x /\ x < 256 := by
  intro L x hx
  obtain ⟨b, _, rfl⟩ := mem_map.1 hx
  have := b.toNat_lt
  omega
 refine Calls.mono (Any.bytes_Index_at Tryz.lays185 a a2 l c m d _ _ mx w (by rw [length_map]; exact hl) (by rw [length_map]; exact hm2) (rng bs) (rng ps) (ints_cellE h) (ints_cellE h2) hlc (by omega) (by omega) hmx) fun e w' he => ?_
 obtain ⟨rfl, k, rfl⟩ := he
 rw [YbR, YbR]
 exact ⟨rfl, chg_drewE w k⟩
end Go.Proofs.YtlnfaaghdkngmaaGreatDoor
end
section
namespace Go.Proofs.YtlnfaaghdkngmaaGreatDoor
open Go Go.Vc
theorem c_sync_Once_Do {a : Option Addr} {b : Value} {w : World} {J : World -> Prop} (h :
 Zyp a fun c =>
 Zz1 Tryz.prog ZqD #[.pointer (some c)] w [.one .bool] fun d e =>
 Zz2 (!d) (
 Zz1 Tryz.prog YdJ #[.pointer a, b] e [] fun f =>
 J f) (
 J e)) : Zz1 Tryz.prog Ycx #[.pointer a, b] w [] J := Zz5 Tryz.func247 (.s .o (.c .o .o)) (Eq.mpr (by kernel_rfl) h)
theorem Yfu {a : Option Addr} {w : World} {J : World -> Prop} (h :
 Zyp a fun b =>
 Zz1 Tryz.prog Yb5 #[.pointer (some b)] w [] fun c =>
 J c) : Zz1 Tryz.prog Yez #[.pointer a] w [] J := Zz5 Tryz.func312 (.o) (Eq.mpr (by kernel_rfl) h)
theorem Yc1 {a : Option Addr} {w : World} {J : Bool -> World -> Prop} (h :
 Zyp a fun b =>
 extJ Tryz.prog Ybt #[.pointer (some b)] w [.one (.int .u32)] fun c d =>
 J (c != (0 : Int)) d) : Zz1 Tryz.prog ZqD #[.pointer a] w [.one .bool] J := Zz5 Tryz.func290 (.s .o (.s .o .o)) (Eq.mpr (by kernel_rfl) h)
end Go.Proofs.YtlnfaaghdkngmaaGreatDoor
end
section
namespace Go.Proofs.YtlnfaaghdkngmaaGreatDoor
open Go Go.Vc Go.Lib
theorem disable (w : World) : (callFunc YbH #[]).run Tryz.prog w = .ok (.value (.tuple #[])) w := run_call_mark0 Tryz.func335 (by kernel_rfl) (by kernel_rfl) (by kernel_rfl) .disable (by kernel_rfl) w
theorem enable (w : World) : (callFunc YbW #[]).run Tryz.prog w = .ok (.value (.tuple #[])) w := run_call_mark0 Tryz.func337 (by kernel_rfl) (by kernel_rfl) (by kernel_rfl) .enable (by kernel_rfl) w
theorem acquire (a : Addr) (w : World) : (callFunc YbI #[.pointer (some a)]).run Tryz.prog w = .ok (.value (.tuple #[])) w := run_call_marked Tryz.func338 (by kernel_rfl) (by kernel_rfl) (by kernel_rfl) .acquire (by kernel_rfl) a w
theorem releaseMerge (a : Addr) (w : World) : (callFunc YaC #[.pointer (some a)]).run Tryz.prog w = .ok (.value (.tuple #[])) w := run_call_marked Tryz.func340 (by kernel_rfl) (by kernel_rfl) (by kernel_rfl) .releaseMerge (by kernel_rfl) a w
set_option maxRecDepth 100000 in
theorem unlock_in (a : Addr) (w : World) (hc : w.cell? a = some (.int .i32 1)) (hz : w.frozen? a = false) :
  Calls Tryz.prog 327 #[.pointer (some a)] w fun e w' => e = .returned (.tuple #[]) /\ w' = w.setCell a (.int .i32 0) := by
 have hd := disable
 have he := enable
 have hr := releaseMerge
 have hadd := run_call_add (P := Tryz.prog) Tryz.func341 (by kernel_rfl) (by kernel_rfl) (by kernel_rfl) .i32 (by kernel_rfl) (y := -1) (s := 0) hc hz (by simp [go_sem]; rfl)
 have hcv := run_convert_to_unsafe (P := Tryz.prog) (src := 420) (dst := 233) Tryz.underlying420 Tryz.underlying233 (by kernel_rfl) hc
 go_enter Tryz.func327, Tryz.ntmps327
 go_wp2
 go_end0
 go_wp2
set_option maxRecDepth 100000 in
theorem lock_in (a : Addr) (w : World) (hc : w.cell? a = some (.int .i32 0)) (hz : w.frozen? a = false) :
  Calls Tryz.prog 326 #[.pointer (some a)] w fun e w' => e = .returned (.tuple #[]) /\ w' = w.setCell a (.int .i32 1) := by
 have hd := disable
 have he := enable
 have ha := acquire
 have hcas := run_call_cas_hit (P := Tryz.prog) Tryz.func336 (by kernel_rfl) (by kernel_rfl) (by kernel_rfl) .i32 (by kernel_rfl) (y := 1) hc hz
 have hc' : (w.setCell a (.int .i32 1)).cell? a = some (.int .i32 1) := World.cell?_setCell_same w a _ hc
 have hcv := run_convert_to_unsafe (P := Tryz.prog) (src := 420) (dst := 233) Tryz.underlying420 Tryz.underlying233 (by kernel_rfl) hc'
 go_enter Tryz.func326, Tryz.ntmps326
 go_wp2
 first | go_end0 | (simp only [Exit.inBlock, Exit.then]; refine bodyPost_ret (results_none rfl _ _ _) rfl ?_) | refine bodyPost_ret (results_none rfl _ _ _) rfl ?_
 go_wp2
end Go.Proofs.YtlnfaaghdkngmaaGreatDoor
namespace Go.Proofs.YtlnfaaghdkngmaaGreatDoor
open Go Go.Vc Go.Lib
theorem lockM (a : Addr) (w : World) (h : canW w a) (hc : w.cell? a = some (.int .i32 0)) :
  Calls Tryz.prog 312 #[.pointer (some a)] w fun e w' => e = .returned (.tuple #[]) /\ w' = w.setCell a (.int .i32 1) := by
 refine Yfu ?_
 exact Calls.mono (lock_in a w hc h.2) fun e w' he => he
theorem loadM (a : Addr) (w : World) (hc : w.cell? a = some (.int .u32 0)) :
  Calls Tryz.prog 290 #[.pointer (some a)] w fun e w' => e = .returned (.bool false) /\ w' = w := by
 have h : Zz1 Tryz.prog 290 #[.pointer (some a)] w [.one .bool] fun b w' => b = false /\ w' = w := by
  refine Yc1 ?_
  exact ⟨_, _, run_call_load Tryz.func311 (by kernel_rfl) (by kernel_rfl) (by kernel_rfl) .u32 (by kernel_rfl) hc, 0, rfl, rfl, rfl⟩
 refine Calls.mono h fun e w' he => ?_
 obtain ⟨b, h1, h2, h3⟩ := he
 subst h2
 exact ⟨h1, h3⟩
set_option maxRecDepth 100000 in
theorem unlockD (a : Addr) (u : FrameMode) (w : World) (h : canW w a) (hc : w.cell? a = some (.int .i32 1)) :
  CallsD Tryz.prog 313 #[.pointer (some a)] u w fun e u' w' => u' = u /\ (e = .returned (.tuple #[]) /\ w' = w.setCell a (.int .i32 0)) := by
 go_enter_d Tryz.func313, Tryz.ntmps313
 go_wp2_with (go_at_call 327; refine (unlock_in a _ hc h.2).mono ?_; rintro e w' ⟨rfl, rfl⟩)
 go_end0
 exact ⟨rfl, rfl⟩
set_option maxRecDepth 100000 in
theorem storeD0 (a : Addr) (x : Value) (u : FrameMode) (w : World) (hc : w.cell? a = some x) (hz : w.frozen? a = false) :
  CallsD Tryz.prog 314 #[.pointer (some a), .bool true] u w fun e u' w' => u' = u /\ (e = .returned (.tuple #[]) /\ w' = w.drew.setCell a (.int .u32 1)) := by
 have hc' : w.drew.cell? a = some x := by go_simp
 have hz' : w.drew.frozen? a = false := by go_simp
 have hst := run_call_store (P := Tryz.prog) Tryz.func328 (by kernel_rfl) (by kernel_rfl) (by kernel_rfl) (by kernel_rfl) (k := .u32) (y := 1) hc' hz'
 go_enter_d Tryz.func314, Tryz.ntmps314
 go_wp2
 go_region_calls
 all_goals (go_end0; exact ⟨rfl, rfl⟩)
set_option maxRecDepth 100000 in
theorem storeD {w0 w : World} {S : Nat -> Prop} {Γ : List Blk} {b : Nat} {x : Value} {rest : List Value} {e : TypeId} (u : FrameMode) (H : Hp w0 S w (⟨b, x :: rest, e⟩ :: Γ)) :
  CallsD Tryz.prog 314 #[.pointer (some ⟨b, 0, none⟩), .bool true] u w fun e' u' w' => u' = u /\ (e' = .returned (.tuple #[]) /\ Hp w0 S w' (⟨b, .int .u32 1 :: rest, e⟩ :: Γ) /\ Chg (fun x => x = b) w w') := by
 obtain ⟨⟨⟨x', hc⟩, hz⟩, H1⟩ := H.drew.stV 0 rfl (off := 0) (v := .int .u32 1) (K := fun w' => Hp w0 S w' (⟨b, .int .u32 1 :: rest, e⟩ :: Γ) /\ Chg (fun x => x = b) w w') (by simp) (fun w' H' hc' => ⟨H', (Chg.refl _ w).drew.trans hc' fun _ _ h => h⟩)
 have hc0 : w.cell? ⟨b, 0, none⟩ = some x := H.cell 0 rfl rfl
 have hz0 : w.frozen? ⟨b, 0, none⟩ = false := hz
 refine (storeD0 ⟨b, 0, none⟩ x u w hc0 hz0).mono ?_
 rintro e' u' w' ⟨rfl, rfl, rfl⟩
 exact ⟨rfl, rfl, H1⟩
set_option maxRecDepth 100000 in
set_option maxHeartbeats 1600000 in
theorem doSlow_ok {w0 w : World} {S : Nat -> Prop} {Γ : List Blk} {b : Nat} {rest : List Value} {e : TypeId} (H : Hp w0 S w (⟨b, .int .u32 0 :: .int .i32 0 :: rest, e⟩ :: Γ)) {R : World -> Prop}
  (hb : ∀ w1, Hp w0 S w1 (⟨b, .int .u32 0 :: .int .i32 1 :: rest, e⟩ :: Γ) -> Chg (fun x => x = b) w w1 -> Calls Tryz.prog 248 #[.pointer (some ⟨b, 0, none⟩)] w1 fun e' w' => e' = .returned (.tuple #[]) /\ ∃ rest' Γ', Hp w0 S w' (⟨b, .int .u32 0 :: .int .i32 1 :: rest', e⟩ :: Γ') /\ ∀ w'', Hp w0 S w'' (⟨b, .int .u32 1 :: .int .i32 0 :: rest', e⟩ :: Γ') -> Chg (fun x => x = b) w' w'' -> R w'') :
  Calls Tryz.prog 291 #[.pointer (some ⟨b, 0, none⟩), .func (.func 248) #[.pointer (some ⟨b, 0, none⟩)] #[]] w fun e' w' => e' = .returned (.tuple #[]) /\ R w' := by
 have hl := H.stV 0 rfl (off := 1) (v := .int .i32 1) (K := fun w' => Hp w0 S w' (⟨b, .int .u32 0 :: .int .i32 1 :: rest, e⟩ :: Γ) /\ Chg (fun x => x = b) w w') (by simp) (fun w' H' hc => ⟨H', hc⟩)
 have hc := H.cell 0 rfl (off := 1) rfl
 obtain ⟨hcan, H1, hc1⟩ := hl
 have hx := H1.cell 0 rfl (off := 0) rfl
 go_enter_defers Tryz.func291, Tryz.ntmps291
 go_wp2_with (first
  | (go_at_call 312; refine (lockM ⟨b, 1, none⟩ _ hcan hc).mono ?_; rintro e' w' ⟨rfl, rfl⟩)
  | (go_at_call 290; refine (loadM ⟨b, 0, none⟩ _ hx).mono ?_; rintro e' w' ⟨rfl, rfl⟩)
  | (go_at_call 248; refine (hb _ H1 hc1).mono ?_; rintro e' w' ⟨rfl, rest', Γ', H2, hR⟩))
 refine leaves_cons (f := 314) (args := #[.pointer (some ⟨b, 0, none⟩), .bool true]) (by simp) (by simp [go_sem]) ?_
 refine (storeD .returning H2).mono ?_
 rintro e' u' w'' ⟨rfl, rfl, H3, hcc⟩
 obtain ⟨hcan3, H4⟩ := H3.stV 0 rfl (off := 1) (v := .int .i32 0) (K := fun w9 => Hp w0 S w9 (⟨b, .int .u32 1 :: .int .i32 0 :: rest', e⟩ :: Γ') /\ Chg (fun x => x = b) w' w9) (by simp) (fun w9 H' hc9 => ⟨H', hcc.trans hc9 fun _ _ h => h⟩)
 refine leaves_cons (f := 313) (args := #[.pointer (some ⟨b, 1, none⟩)]) (by simp [settle]) (by simp [go_sem]) ?_
 refine (unlockD ⟨b, 1, none⟩ _ _ hcan3 (H3.cell 0 rfl rfl)).mono ?_
 rintro e' u' w3 ⟨rfl, rfl, rfl⟩
 have := hR _ H4.1 H4.2
 simp [Leaves, settle, results, Tryz.results291, this]
theorem OnceDo_ok {w0 w : World} {S : Nat -> Prop} {Γ : List Blk} {b : Nat} {rest : List Value} {e : TypeId} (H : Hp w0 S w (⟨b, .int .u32 0 :: .int .i32 0 :: rest, e⟩ :: Γ)) {J : World -> Prop}
  (hb : ∀ w1, Hp w0 S w1 (⟨b, .int .u32 0 :: .int .i32 1 :: rest, e⟩ :: Γ) -> Chg (fun x => x = b) w w1 -> Zz1 Tryz.prog Zy4 #[.pointer (some ⟨b, 0, none⟩)] w1 [] fun w' => ∃ rest' Γ', Hp w0 S w' (⟨b, .int .u32 0 :: .int .i32 1 :: rest', e⟩ :: Γ') /\ ∀ w'', Hp w0 S w'' (⟨b, .int .u32 1 :: .int .i32 0 :: rest', e⟩ :: Γ') -> Chg (fun x => x = b) w' w'' -> J w'') :
  Zz1 Tryz.prog Ycx #[.pointer (some ⟨b, 0, none⟩), .func (.func 248) #[.pointer (some ⟨b, 0, none⟩)] #[]] w [] J := by
 refine c_sync_Once_Do ?_
 refine Calls.mono (loadM ⟨b, 0, none⟩ w (H.cell 0 rfl rfl)) fun e' w' he => ?_
 obtain ⟨rfl, rfl⟩ := he
 refine ⟨false, rfl, ?_⟩
 refine Zz9 (fun _ => ?_) (fun h => by cases h)
 refine Calls.mono (doSlow_ok H (R := J) fun w1 H1 hc1 => ?_) fun e' w' he => he
 exact Calls.mono (hb w1 H1 hc1) fun e' w' he => he
set_option maxRecDepth 100000 in
set_option maxHeartbeats 1600000 in
theorem Replace_hand {w : World} {b : Nat} {s : ByteArray} {R : Ending -> World -> Prop}
  (h1 : Calls Tryz.prog 247 #[.pointer (some ⟨b, 0, none⟩), .func (.func 248) #[.pointer (some ⟨b, 0, none⟩)] #[]] w fun e w1 => e = .returned (.tuple #[]) /\ ∃ bB, w1.cell? ⟨b, 3, none⟩ = some (.iface ZzD (.pointer (some ⟨bB, 0, none⟩))) /\
   Calls Tryz.prog 384 #[.pointer (some ⟨bB, 0, none⟩), .string s] w1 fun e w2 => ∃ r, e = .returned (.string r) /\ R (.returned (.string r)) w2) :
  Calls Tryz.prog 180 #[.pointer (some ⟨b, 0, none⟩), .string s] w R := by
 have hm : ∀ (bB : Nat) (w : World), Sem.run Tryz.prog (method 560 ZzD (Value.pointer (some ⟨bB, 0, none⟩)) "Replace") w = .ok (384, Value.pointer (some ⟨bB, 0, none⟩)) w := fun bB w => by kernel_rfl
 go_enter Tryz.func180, Tryz.ntmps180
 go_wp2_with (first
  | (go_at_call 247; refine h1.mono ?_; rintro e w1 ⟨rfl, bB, hc, h2⟩)
  | (go_at_call 384; refine h2.mono ?_; rintro e w2 ⟨r, rfl, hR⟩))
 exact hR
end Go.Proofs.YtlnfaaghdkngmaaGreatDoor
end
section
namespace Go.Vc
open Go Go.Lib
theorem chg_freeze0 (w : World) (g n : Nat) : Chg (fun x => x = g) w (w.freeze ⟨g, 0, none⟩ n) := by
 unfold World.freeze
 split
 ·exact Chg.refl _ _
 ·refine ⟨rfl, rfl, rfl, by simp, fun k hk hne => ?_⟩
  simp only [Array.getElem?_modify]
  rw [if_neg (fun e => hne e.symm)]
end Go.Vc
namespace Go.Proofs
open Go.Shelf Go.RowKit
def ren240 : Ren := ⟨fun | 240 => 103 | 276 => 184 | n => n, fun | 70 => 114 | 72 => 116 | 164 => 233 | 37 => 52 | n => n, fun n => n⟩
theorem lays240 : Lays.n240 Tryz.prog ren240 where
 mixed := by kernel_rfl
 f240 := by kernel_rfl
 f276 := by kernel_rfl
 t0 := by kernel_rfl
 a0 := fun w => by kernel_rfl
 z0 := fun w => by kernel_rfl
 v0 := fun w => by kernel_rfl
 t4 := by kernel_rfl
 a4 := fun w => by kernel_rfl
 z4 := fun w => by kernel_rfl
 v4 := fun w => by kernel_rfl
 t9 := by kernel_rfl
 a9 := fun w => by kernel_rfl
 z9 := fun w => by kernel_rfl
 v9 := fun w => by kernel_rfl
 t20 := by kernel_rfl
 a20 := fun w => by kernel_rfl
 z20 := fun w => by kernel_rfl
 v20 := fun w => by kernel_rfl
 t70 := by kernel_rfl
 a70 := fun w => by kernel_rfl
 z70 := fun w => by kernel_rfl
 v70 := fun w => by kernel_rfl
 t72 := by kernel_rfl
 a72 := fun w => by kernel_rfl
 z72 := fun w => by kernel_rfl
 v72 := fun w => by kernel_rfl
 t164 := by kernel_rfl
 a164 := fun w => by kernel_rfl
 z164 := fun w => by kernel_rfl
 v164 := fun w => by kernel_rfl
def Tryz.lays169_ren : Go.Shelf.Ren := ⟨fun | 169 => 50 | n => n, fun | 70 => 114 | 9 => 9 | 0 => 0 | 72 => 116 | 37 => 52 | 127 => 168 | 3 => 3 | 5 => 5 | n => n, fun | n => n⟩
theorem Tryz.lays169 : Go.Proofs.Lays.n169 Tryz.prog Tryz.lays169_ren where
 mixed := by kernel_rfl
 f169 := by kernel_rfl
 t0 := by kernel_rfl
 a0 := fun w => by kernel_rfl
 z0 := fun w => by kernel_rfl
 v0 := fun w => by kernel_rfl
 t3 := by kernel_rfl
 a3 := fun w => by kernel_rfl
 z3 := fun w => by kernel_rfl
 v3 := fun w => by kernel_rfl
 t9 := by kernel_rfl
 a9 := fun w => by kernel_rfl
 z9 := fun w => by kernel_rfl
 v9 := fun w => by kernel_rfl
 t37 := by kernel_rfl
 a37 := fun w => by kernel_rfl
 z37 := fun w => by kernel_rfl
 v37 := fun w => by kernel_rfl
 t70 := by kernel_rfl
 a70 := fun w => by kernel_rfl
 z70 := fun w => by kernel_rfl
 v70 := fun w => by kernel_rfl
 t72 := by kernel_rfl
 a72 := fun w => by kernel_rfl
 z72 := fun w => by kernel_rfl
 v72 := fun w => by kernel_rfl
 t127 := by kernel_rfl
 a127 := fun w => by kernel_rfl
 z127 := fun w => by kernel_rfl
 v127 := fun w => by kernel_rfl
section
variable {P : Program} {ρ : Ren}
set_option maxHeartbeats 1000000 in
set_option maxRecDepth 100000 in
theorem cc_fresh (L : Lays.n240 P ρ) (X : (P.info? (ρ.t 72)).map (·.size) = some 2) {T : TypeId} {n : Nat} (hn : 0 < n) (hl : liesAt P P.depth T (n / P.cellsOf T) 0 (ρ.t 72) 1 = true) (b : Nat) (w : World) (h0 : w.cell? ⟨b, 0, none⟩ = some (.pointer none)) (hsh : w.shape? b = some (T, n)) (hfz : w.frozen? ⟨b, 0, none⟩ = false) :
  Calls P (ρ.f 240) #[.pointer (some ⟨b, 0, none⟩)] w fun e w' => e = .returned (.tuple #[]) /\ w' = w.setCell ⟨b, 0, none⟩ (.pointer (some ⟨b, 0, none⟩)) := by
 obtain ⟨j, hj, hjs⟩ := Option.map_eq_some_iff.1 X
 have mixed := L.mixed
 have t72 := L.t72; have a72 := L.a72; have z72 := L.z72; have v72 := L.v72; have u72 := run_underlying L.t72
 have t70 := L.t70; have a70 := L.a70; have z70 := L.z70; have v70 := L.v70; have u70 := run_underlying L.t70
 have t9 := L.t9; have a9 := L.a9; have z9 := L.z9; have v9 := L.v9; have u9 := run_underlying L.t9
 have t4 := L.t4; have a4 := L.a4; have z4 := L.z4; have v4 := L.v4; have u4 := run_underlying L.t4
 have t164 := L.t164; have a164 := L.a164; have z164 := L.z164; have v164 := L.v164; have u164 := run_underlying L.t164
 go_enter L.f240, Body.n240_ntmps ρ
 go_wp2
 rw [Lib.run_to_unsafe w ⟨b, 0, none⟩ L.t70 L.t164 hj (by rw [hjs]; decide) hsh hn]
 simp only [Result.andThen]
 rw [Oper.upon_value]
 go_wp2
 rw [run_callFunc_extern L.f276 (by kernel_rfl) (by kernel_rfl) (by kernel_rfl) (e := Extern.AbiNoEscape.same) (by kernel_rfl)]
 rw [Lib.run_noEscape]
 simp only [Result.andThen]
 rw [Oper.upon_value]
 go_wp2
 rw [Lib.run_from_unsafe w ⟨b, 0, none⟩ L.t164 L.t70 hj hsh hl]
 simp only [Result.andThen]
 rw [Oper.upon_value]
 go_wp2
 go_end0
 exact ⟨rfl, rfl⟩
end
end Go.Proofs
namespace Go.Proofs.YtlnfaaghdkngmaaGreatDoor
open Go Go.Vc Go.Lib Go.Shelf
theorem sizeBld : (Tryz.prog.info? YbN).map (·.size) = some 2 := by kernel_rfl
theorem liesBld : liesAt Tryz.prog Tryz.prog.depth Zyw (3 / Tryz.prog.cellsOf Zyw) 0 YbN 1 = true := by kernel_rfl
theorem x72 : Builder.X72 Tryz.prog ren240 := ⟨by kernel_rfl, by kernel_rfl⟩
section
variable {w w' : World} {b : Nat} {l : List UInt8} {q pp : Option Addr} {n c pl pc : Nat}
theorem CC_ok {u : Option Addr} {J : World -> Prop} (hh : w.heap[b]? = some (.cells ⟨[.pointer u, .slice q n c, .slice pp pl pc]⟩ Zyw (0, 0))) (hu : u = none \/ u = some ⟨b, 0, none⟩)
  (K : ∀ w', w'.heap[b]? = some (.cells ⟨[.pointer (some ⟨b, 0, none⟩), .slice q n c, .slice pp pl pc]⟩ Zyw (0, 0)) -> Chg (fun x => x = b) w w' -> J w') :
  Zz1 Tryz.prog ZzN #[.pointer (some ⟨b, 0, none⟩)] w [] J := by
 have H := (Hp.start w (fun x => x = b)).add hh (by simp) (fun _ => rfl)
 rcases hu with rfl | rfl
 ·refine Calls.mono (cc_fresh lays240 sizeBld (n := 3) (by decide) liesBld b w (H.cell 0 rfl rfl) (by simp [World.shape?, hh]) (Lib.frozen_of_heap hh 0)) fun e w' he => ?_
  obtain ⟨rfl, rfl⟩ := he
  have h1 := H.stV 0 rfl (off := 0) (v := .pointer (some ⟨b, 0, none⟩)) (K := fun w1 => w1.heap[b]? = some (.cells ⟨[.pointer (some ⟨b, 0, none⟩), .slice q n c, .slice pp pl pc]⟩ Zyw (0, 0)) /\ Chg (fun x => x = b) w w1) (by simp) (fun w1 H1 c1 => ⟨H1.get 0 rfl, c1⟩)
  exact ⟨rfl, K _ h1.2.1 h1.2.2⟩
 ·refine Calls.mono (Any.Builder_copyCheck_used lays240 x72 b w (H.cell 0 rfl rfl)) fun e w' he => ?_
  obtain ⟨rfl, rfl⟩ := he
  exact ⟨rfl, K _ hh (Chg.refl _ _)⟩
end
theorem cells5 : Tryz.prog.cellsOf (Tryz.lays169_ren.t 5) = 1 := by kernel_rfl
end Go.Proofs.YtlnfaaghdkngmaaGreatDoor
namespace Go.Proofs
open Go.Shelf Go.RowKit Go.Vc
section
variable {P : Program} {ρ : Ren}
set_option maxHeartbeats 2000000 in
set_option maxRecDepth 100000 in
theorem bstr (L : Lays.n169 P ρ) (h5 : P.cellsOf (ρ.t 5) = 1) (b g cap : Nat) (l : List UInt8) (rest : List Value) (w : World) (c1 : w.cell? ⟨b, 1, none⟩ = some (.slice (some ⟨g, 0, none⟩) l.length cap)) (hg : w.heap[g]? = some (.cells ⟨Lib.byteCells l ++ rest⟩ (ρ.t 5) (0, 0))) (h0 : l ≠ []) (hlc : l.length <= cap) (hcm : cap <= maxLen) :
    Calls P (ρ.f 169) #[.pointer (some ⟨b, 0, none⟩)] w fun e w' => e = .returned (.string ⟨l.toArray⟩) /\ Chg (fun x => x = g) w w' := by
  have hl0 : l.length ≠ 0 := by simpa using h0
  have c1 : w.drew.cell? ⟨b, 1, none⟩ = some (.slice (some ⟨g, 0, none⟩) l.length cap) := c1
  have hSD : (Builtin.unsafeSliceData_ #[(ρ.t 37)] (ρ.t 127) #[.slice (some ⟨g, 0, none⟩) l.length cap]).run P w.drew = .ok (.pointer (some ⟨g, 0, none⟩)) w.drew :=
    Lib.run_unsafeSliceData_row _ _ _ _ _ _ (by omega)
  have hUS : (Builtin.unsafeString_ #[(ρ.t 127), (ρ.t 3)] (ρ.t 9) #[.pointer (some ⟨g, 0, none⟩), .int .i64 l.length]).run P w.drew = .ok (.string ⟨l.toArray⟩) (w.drew.freeze ⟨g, 0, none⟩ l.length) := by
    refine Lib.run_unsafeString_row w.drew (ρ.t 127) (ρ.t 3) (ρ.t 9) (ρ.t 5) L.t127 h5 g (Lib.byteCells l ++ rest).length (by have hg' : w.drew.heap[g]? = some (.cells ⟨Lib.byteCells l ++ rest⟩ (ρ.t 5) (0, 0)) := hg; simp [World.shape?, hg']) l h0 (by rw [List.length_append, Lib.byteCells_length]; omega) (by unfold maxLen at hcm; omega) ?_
    intro j x hx
    have hg' : w.drew.heap[g]? = some (.cells ⟨Lib.byteCells l ++ rest⟩ (ρ.t 5) (0, 0)) := hg
    have hj : j < l.length := (List.getElem?_eq_some_iff.1 hx).1
    rw [Addr.add_mk, Nat.zero_add, Lib.cell_of_heap hg']
    have : (Lib.byteCells l ++ rest)[j]? = some (.int .u8 x.toNat) := by
      rw [List.getElem?_append_left (by rw [Lib.byteCells_length]; exact hj)]
      simp [Lib.byteCells, hx]
    simpa using this
  have mixed := L.mixed
  have t72 := L.t72; have a72 := L.a72; have z72 := L.z72; have v72 := L.v72; have u72 := run_underlying L.t72
  have t70 := L.t70; have a70 := L.a70; have z70 := L.z70; have v70 := L.v70; have u70 := run_underlying L.t70
  have t37 := L.t37; have a37 := L.a37; have z37 := L.z37; have v37 := L.v37; have u37 := run_underlying L.t37
  have t127 := L.t127; have a127 := L.a127; have z127 := L.z127; have v127 := L.v127; have u127 := run_underlying L.t127
  have t3 := L.t3; have a3 := L.a3; have z3 := L.z3; have v3 := L.v3; have u3 := run_underlying L.t3
  have t9 := L.t9; have a9 := L.a9; have z9 := L.z9; have v9 := L.v9; have u9 := run_underlying L.t9
  have hfr : Chg (fun x => x = g) w (w.drew.freeze ⟨g, 0, none⟩ l.length) := (Chg.refl (fun x => x = g) w).drew.trans (chg_freeze0 w.drew g l.length) fun _ _ h => h
  go_enter L.f169, Body.n169_ntmps ρ
  go_wp2
  go_region_o
  all_goals (go_wp2; go_ret; exact ⟨rfl, hfr⟩)
end
end Go.Proofs
end
section
namespace Go.Vc
open Go Go.RowKit
section
variable {P : Program} {w0 w w' : World} {ph ph' : Ph} {H : Tr VB}
theorem YeK (hR : RH w0 ph H w) {x : VV} {X : Value} {bs : List UInt8} {ld : Option Ld} (h : YbZ x H = some (bs, ld)) (rx : Rel ph x X) : ∃ p l c, X = .slice p l c /\ Bytes w p l bs /\ l <= c := by
 unfold YbZ at h
 split at h
 ·simp only [Option.some.injEq, Prod.mk.injEq] at h
  obtain ⟨rfl, _⟩ := h
  simp only [Rel] at rx; subst rx
  exact ⟨_, _, _, rfl, Bytes.nil _ _, Nat.le_refl _⟩
 ·simp only [Option.some.injEq, Prod.mk.injEq] at h
  obtain ⟨rfl, _⟩ := h
  simp only [Rel] at rx; obtain ⟨_, _, _, rfl⟩ := rx
  exact ⟨_, _, _, rfl, Bytes.nil _ _, Nat.zero_le _⟩
 ·next n off l c =>
  split at h
  ·next vs hvs =>
   split at h
   ·next bs' hb =>
    simp only [Option.some.injEq, Prod.mk.injEq] at h
    obtain ⟨rfl, _⟩ := h
    simp only [Rel] at rx; obtain ⟨b, g, hp, rfl, hlc⟩ := rx
    obtain ⟨b', g', Vs, hp', hr, hl, hc⟩ := YaQ hR hvs
    obtain ⟨rfl, rfl⟩ := phdet hp hp'
    have e := Ygr hb hr
    have e2 : bs'.length = l := by have := hr.len; rw [e, Zq3] at this; omega
    exact ⟨_, _, _, rfl, ⟨by rw [Zq3, Nat.mul_one, e2], .inr ⟨_, rfl, by rw [<- e]; exact hc⟩⟩, hlc⟩
   ·cases h
  ·cases h
 ·cases h
theorem Zyd.pure (hR : RH w0 ph H w) {f : FuncId} {Args : List Value} {v : VV} {V : Value} (hp : Zqt P f = true) (h : Calls P f ⟨Args⟩ w fun e w' => e = .returned V /\ Chg No w w') (rv : Rel ph v V) : Zyd P w0 ph f Args w v H := by
 unfold Zyd
 rw [hp, cond_true]
 refine Calls.mono h fun e w' he => ?_
 obtain ⟨rfl, hc⟩ := he
 exact ⟨V, ph, Ph.le.refl _, hR.step0 hc, rv, rfl⟩
theorem Zyd.ext (hR : RH w0 ph H w) {f : FuncId} {Args : List Value} {v : VV} {V : Value} (hp : Zqt P f = false) (h : (callFunc f ⟨Args⟩).run P w = .ok (.value V) w) (rv : Rel ph v V) : Zyd P w0 ph f Args w v H := by
 unfold Zyd
 rw [hp, cond_false]
 exact ⟨V, w, h, ph, Ph.le.refl _, hR, rv⟩
theorem Zzz.one {v : VV} {L : List Value} (h : Zzz ph [v] L) : ∃ V, L = [V] /\ Rel ph v V := by
 obtain ⟨V, R, rfl, h1, h2⟩ := h.uncons
 simp only [Zzz] at h2; subst h2
 exact ⟨V, rfl, h1⟩
theorem Zzz.two {u v : VV} {L : List Value} (h : Zzz ph [u, v] L) : ∃ U V, L = [U, V] /\ Rel ph u U /\ Rel ph v V := by
 obtain ⟨U, R, rfl, h1, h2⟩ := h.uncons
 obtain ⟨V, rfl, h3⟩ := h2.one
 exact ⟨U, V, rfl, h1, h3⟩
theorem RH.whole (hR : RH w0 ph H w) {n : Nat} {vs : List VV} {e : TypeId} (h : H.get n = some (.cells vs e 0)) : ∃ b g cs, ph n = some (b, g) /\ Zzz ph vs cs /\ w.heap[b]? = some (.cells ⟨cs⟩ e (0, 0)) /\ w0.heap.size <= b := by
 obtain ⟨b, g, hp, cs, rest, r, hh, _, _, h0, hb⟩ := hR.blk _ _ h
 have := h0 rfl
 subst this
 rw [append_nil] at hh
 exact ⟨b, g, cs, hp, r, hh, hb⟩
theorem RH.at1 (hR : RH w0 ph H w) {n b g : Nat} {vb vb' : VB} (hn : H.get n = some vb) (hl : vb.live) (hp : ph n = some (b, g)) (hb : w0.heap.size <= b) (hc : Chg (fun x => x = b) w w') (hv : IsVB ph w0 w' b g vb') : RH w0 ph (H.set n vb') w' :=
 hR.put hc (fun x hx => by rw [hx]; exact hb) (Ph.le.refl _) (fun _ _ => rfl) hp (fun h => hR.glb _ _ _ h hp) (fun m vm c gg hm hv' hl' hp' => by
  have : c ≠ b := fun h => hm (hR.inj _ _ _ _ _ _ _ hv' hn hl' hl (h ▸ hp') hp)
  exact ⟨this, this⟩) hv
end
end Go.Vc
namespace Go.Proofs.YtlnfaaghdkngmaaGreatDoor
open Go Go.Vc Go.Lib Go.Shelf
def oIxS : Zxe := fun _ args H N => match args with
 | [.str s, .int .u8 (.ofNat c)] => some (.int .i64 (Lib.indexByte s c.toUInt8), H, N)
 | _ => none
def oIxB : Zxe := fun _ args H N => match args with
 | [x, .int .u8 (.ofNat c)] => bif Nat.blt c 256 then (match YbZ x H with | some (bs, _) => some (.int .i64 (Lib.indexByte bs (UInt8.ofNat c)), H, N) | none => none) else none
 | _ => none
def oCnt : Zxe := fun _ args H N => match args with
 | [x, .int .u8 (.ofNat c)] => bif Nat.blt c 256 then (match YbZ x H with | some (bs, _) => some (.int .i64 (bs.count (UInt8.ofNat c) : Nat), H, N) | none => none) else none
 | _ => none
def oCntS : Zxe := fun _ args H N => match args with
 | [.str s, .int .u8 (.ofNat c)] => some (.int .i64 (Lib.countByte s c.toUInt8 : Nat), H, N)
 | _ => none
def oIdx : Zxe := fun _ args H N => match args with
 | [.sl n o l c, .sl n2 o2 l2 c2] => (match YbZ (.sl n o l c) H, YbZ (.sl n2 o2 l2 c2) H with
  | some (bs, _), some (ps, _) => bif Nat.ble 2 ps.length && Nat.ble ps.length 100 && Nat.ble bs.length 100000000 then some (.int .i64 (Lib.index bs ps), H, N) else none
  | _, _ => none)
 | _ => none
def isSlB : VV -> Bool
 | .sln => true
 | .sl .. => true
 | _ => false
def selfB (n : Nat) : Option (Nat × Nat) -> Bool
 | none => true
 | some (m, o) => Nat.beq m n && Nat.beq o 0
def oCC : Zxe := fun _ args H N => match args with
 | [.ptr (some (n, 0))] => (match H.get n with
  | some (.cells [.ptr u, s1, s2] e 0) => bif Nat.beq e Zyw && isSlB s1 && isSlB s2 && selfB n u then
    outN (.tup []) N (setS H n (.cells [.ptr (some (n, 0)), s1, s2] e 0)) else none
  | _ => none)
 | _ => none
def oStr : Zxe := fun _ args H N => match args with
 | [.ptr (some (n, 0))] => (match H.get n with
  | some (.cells (_ :: .sl m 0 l (.blk 1 0) :: _) _ _) => (match H.get m with
   | some (.cells vs e 1) => (match bytesV (vs.take l) with
    | some (b :: bs) => bif Nat.beq e Yec && Nat.beq (length (b :: bs)) l then outN (.str (b :: bs)) N (setS H m .dead) else none
    | _ => none)
   | _ => none)
  | _ => none)
 | _ => none
def oRep (call : Zxe) : Zxe := fun _ args H N => match args with
 | [.ptr (some (n, 0)), .str s] => (match H.get n with
  | some (.cells (.int .u32 0 :: .int .i32 0 :: r) e sz) => (match setS H n (.cells (.int .u32 0 :: .int .i32 1 :: r) e sz) with
   | some H1 => (match call Zy4 [.ptr (some (n, 0))] H1 N with
    | some (.tup [], H2, N2) => (match H2.get n with
     | some (.cells (.int .u32 0 :: .int .i32 1 :: c2 :: .iface t (.ptr (some (m, 0))) :: r') e' sz') => (match setS H2 n (.cells (.int .u32 1 :: .int .i32 0 :: c2 :: .iface t (.ptr (some (m, 0))) :: r') e' sz') with
      | some H3 => (match call ZzW [.ptr (some (m, 0)), .str s] H3 N2 with
       | some (.str u, H4, N4) => bif Nat.beq e' e && Nat.beq t ZzD then some (.str u, H4, N4) else none
       | _ => none)
      | none => none)
     | _ => none)
    | _ => none)
   | none => none)
  | _ => none)
 | _ => none
def orc (call : Zxe) : Zxe := fun f args H N =>
 bif Nat.beq f Zzk then oIxS f args H N
 else bif Nat.beq f ZzI then oIxB f args H N
 else bif Nat.beq f Zy3 then oCnt f args H N
 else bif Nat.beq f ZzE then oCntS f args H N
 else bif Nat.beq f Yan then oIdx f args H N
 else bif Nat.beq f ZzN then oCC f args H N
 else bif Nat.beq f Zyk then oStr f args H N
 else bif Nat.beq f 180 then oRep call f args H N
 else none
section
variable {w0 w : World} {ph : Ph} {H H' : Tr VB} {args : List VV} {Args : List Value} {N N' : Nat} {v : VV}
theorem oIxS_o (h : oIxS Zzk args H N = some (v, H', N')) (hR : RH w0 ph H w) (ra : Zzz ph args Args) : Zyd Tryz.prog w0 ph Zzk Args w v H' := by
 unfold oIxS at h
 split at h
 ·next s c =>
  simp only [Option.some.injEq, Prod.mk.injEq] at h
  obtain ⟨rfl, rfl, _⟩ := h
  obtain ⟨S, C, rfl, r1, r2⟩ := ra.two
  simp only [Rel] at r1 r2; subst r1; subst r2
  refine Zyd.ext hR (by kernel_rfl) ?_ (by simp only [Rel]; rfl)
  show (callFunc Zzk #[.string ⟨s.toArray⟩, .int .u8 (Int.ofNat c)]).run Tryz.prog w = _
  rw [run_callFunc_extern (fn := Tryz.prog.funcs[Zzk]!) (by kernel_rfl) (by kernel_rfl) (by kernel_rfl) (by kernel_rfl) (e := Extern.BytealgIndexByte.indexByte) (by kernel_rfl), Lib.run_indexByteString]
  rfl
 ·cases h
theorem oIxB_o (h : oIxB ZzI args H N = some (v, H', N')) (hR : RH w0 ph H w) (ra : Zzz ph args Args) : Zyd Tryz.prog w0 ph ZzI Args w v H' := by
 unfold oIxB at h
 split at h
 ·next x c =>
  cases hb : Nat.blt c 256 with
  | false => rw [hb] at h; cases h
  | true =>
   simp only [hb, cond_true] at h
   split at h
   ·next bs ld hbs =>
    simp only [Option.some.injEq, Prod.mk.injEq] at h
    obtain ⟨rfl, rfl, _⟩ := h
    obtain ⟨X, C, rfl, r1, r2⟩ := ra.two
    simp only [Rel] at r2; subst r2
    obtain ⟨p, l, cc, rfl, hB, _⟩ := YeK hR hbs r1
    have hc : c < 256 := by simpa [Nat.blt_eq] using hb
    have e : Int.ofNat c = (((UInt8.ofNat c).toNat : Nat) : Int) := by simp [Nat.mod_eq_of_lt hc]
    refine Zyd.ext hR (by kernel_rfl) ?_ (by simp only [Rel]; rfl)
    show (callFunc ZzI #[.slice p l cc, .int .u8 (Int.ofNat c)]).run Tryz.prog w = _
    rw [e, run_callFunc_extern (fn := Tryz.prog.funcs[ZzI]!) (by kernel_rfl) (by kernel_rfl) (by kernel_rfl) (by kernel_rfl) (e := Extern.BytealgIndexByte.indexByte) (by kernel_rfl), run_ixbE hB]
    rfl
   ·cases h
 ·cases h
theorem oCnt_o (h : oCnt Zy3 args H N = some (v, H', N')) (hR : RH w0 ph H w) (ra : Zzz ph args Args) : Zyd Tryz.prog w0 ph Zy3 Args w v H' := by
 unfold oCnt at h
 split at h
 ·next x c =>
  cases hb : Nat.blt c 256 with
  | false => rw [hb] at h; cases h
  | true =>
   simp only [hb, cond_true] at h
   split at h
   ·next bs ld hbs =>
    simp only [Option.some.injEq, Prod.mk.injEq] at h
    obtain ⟨rfl, rfl, _⟩ := h
    obtain ⟨X, C, rfl, r1, r2⟩ := ra.two
    simp only [Rel] at r2; subst r2
    obtain ⟨p, l, cc, rfl, hB, _⟩ := YeK hR hbs r1
    have hc : c < 256 := by simpa [Nat.blt_eq] using hb
    have e : Int.ofNat c = (((UInt8.ofNat c).toNat : Nat) : Int) := by simp [Nat.mod_eq_of_lt hc]
    refine Zyd.ext hR (by kernel_rfl) ?_ (by simp only [Rel]; rfl)
    show (callFunc Zy3 #[.slice p l cc, .int .u8 (Int.ofNat c)]).run Tryz.prog w = _
    rw [e, run_callFunc_extern (fn := Tryz.prog.funcs[Zy3]!) (by kernel_rfl) (by kernel_rfl) (by kernel_rfl) (by kernel_rfl) (e := Extern.BytealgCount.count) (by kernel_rfl), run_countE hB]
    rfl
   ·cases h
 ·cases h
theorem oCntS_o (h : oCntS ZzE args H N = some (v, H', N')) (hR : RH w0 ph H w) (ra : Zzz ph args Args) : Zyd Tryz.prog w0 ph ZzE Args w v H' := by
 unfold oCntS at h
 split at h
 ·next s c =>
  simp only [Option.some.injEq, Prod.mk.injEq] at h
  obtain ⟨rfl, rfl, _⟩ := h
  obtain ⟨S, C, rfl, r1, r2⟩ := ra.two
  simp only [Rel] at r1 r2; subst r1; subst r2
  refine Zyd.ext hR (by kernel_rfl) ?_ (by simp only [Rel]; rfl)
  show (callFunc ZzE #[.string ⟨s.toArray⟩, .int .u8 (Int.ofNat c)]).run Tryz.prog w = _
  rw [run_callFunc_extern (fn := Tryz.prog.funcs[ZzE]!) (by kernel_rfl) (by kernel_rfl) (by kernel_rfl) (by kernel_rfl) (e := Extern.BytealgCount.count) (by kernel_rfl), Lib.run_countString]
  rfl
 ·cases h
theorem oIdx_o (hm : ∃ m : Int, w0.cell? ⟨2, 0, none⟩ = some (.int .i64 m)) (h : oIdx Yan args H N = some (v, H', N')) (hR : RH w0 ph H w) (ra : Zzz ph args Args) : Zyd Tryz.prog w0 ph Yan Args w v H' := by
 unfold oIdx at h
 split at h
 ·next n o l c n2 o2 l2 c2 =>
  split at h
  ·next bs ld1 ps ld2 h1 h2 =>
   cases hb : (Nat.ble 2 ps.length && Nat.ble ps.length 100 && Nat.ble bs.length 100000000) with
   | false => simp [hb] at h
   | true =>
    simp only [hb, cond_true, Option.some.injEq, Prod.mk.injEq] at h
    obtain ⟨rfl, rfl, _⟩ := h
    simp only [Bool.and_eq_true] at hb
    have b1 := Nat.le_of_ble_eq_true hb.1.1
    have b2 := Nat.le_of_ble_eq_true hb.1.2
    have b3 := Nat.le_of_ble_eq_true hb.2
    obtain ⟨X, Y, rfl, r1, r2⟩ := ra.two
    obtain ⟨p, l, c, hX, hB, hlc⟩ := YeK hR h1 r1
    obtain ⟨q, m, d, hY, hB2, _⟩ := YeK hR h2 r2
    simp only [Rel] at r1 r2
    obtain ⟨b, g, _, rfl, _⟩ := r1
    obtain ⟨b', g', _, rfl, _⟩ := r2
    injection hX with e1 e2 e3
    injection hY with e4 e5 e6
    subst e1; subst e2; subst e3; subst e4; subst e5; subst e6
    obtain ⟨mx, hmx⟩ := hm
    exact Zyd.pure hR (by kernel_rfl) (IndexE (hR.chg.cell hmx (fun f => f)) hB hB2 (fun e => by cases e) hlc (by have := hB.len; omega) b1 b2) (by simp only [Rel])
  ·cases h
 ·cases h
theorem isSlB_o {s : VV} {V : Value} (h : isSlB s = true) (r : Rel ph s V) : ∃ p l c, V = .slice p l c := by
 cases s <;> simp only [isSlB, Bool.false_eq_true] at h
 ·simp only [Rel] at r; exact ⟨_, _, _, r⟩
 ·simp only [Rel] at r; obtain ⟨_, _, _, r, _⟩ := r; exact ⟨_, _, _, r⟩
theorem oCC_o (h : oCC ZzN args H N = some (v, H', N')) (hR : RH w0 ph H w) (ra : Zzz ph args Args) : Zyd Tryz.prog w0 ph ZzN Args w v H' := by
 unfold oCC at h
 split at h
 ·next n =>
  split at h
  ·next u s1 s2 e hn =>
   cases hb : (Nat.beq e Zyw && isSlB s1 && isSlB s2 && selfB n u) with
   | false => rw [hb] at h; cases h
   | true =>
    simp only [hb, cond_true, YaV, Ycs, Option.some.injEq, Prod.mk.injEq] at h
    obtain ⟨rfl, rfl, _⟩ := h
    simp only [Bool.and_eq_true] at hb
    obtain ⟨⟨⟨b1, b2⟩, b3⟩, b4⟩ := hb
    have b1 := Nat.eq_of_beq_eq_true b1
    subst b1
    obtain ⟨X, rfl, rx⟩ := ra.one
    obtain ⟨b, g, cs, hp, r, hh, h0⟩ := hR.whole hn
    simp only [Rel] at rx
    obtain ⟨b', g', hp', rfl⟩ := rx
    obtain ⟨rfl, rfl⟩ := phdet hp hp'
    obtain ⟨U, R, rfl, r1, r2⟩ := r.uncons
    obtain ⟨S1, S2, rfl, r3, r4⟩ := r2.two
    obtain ⟨q, nn, c, rfl⟩ := isSlB_o b2 r3
    obtain ⟨pp, pl, pc, rfl⟩ := isSlB_o b3 r4
    have hu : ∃ u', U = .pointer u' /\ (u' = none \/ u' = some ⟨b, 0, none⟩) := by
     cases u with
     | none => simp only [Rel] at r1; exact ⟨_, r1, .inl rfl⟩
     | some x =>
      obtain ⟨m, o⟩ := x
      simp only [selfB, Bool.and_eq_true] at b4
      have e1 := Nat.eq_of_beq_eq_true b4.1
      have e2 := Nat.eq_of_beq_eq_true b4.2
      subst e1; subst e2
      simp only [Rel] at r1
      obtain ⟨b2, g2, hp2, rfl⟩ := r1
      obtain ⟨rfl, rfl⟩ := phdet hp hp2
      exact ⟨_, rfl, .inr rfl⟩
    obtain ⟨u', rfl, hu'⟩ := hu
    have := CC_ok (J := fun w' => RH w0 ph (H.set n (.cells [.ptr (some (n, 0)), s1, s2] Zyw 0)) w') hh hu' fun w' hh' hc => by
     refine hR.at1 hn trivial hp h0 hc ?_
     obtain ⟨b9, g9, hp9, cs9, rest9, r9, hh9, hl9, _, h09, _⟩ := hR.blk _ _ hn
     obtain ⟨rfl, rfl⟩ := phdet hp hp9
     refine ⟨_, [], Zzz.cons (by simp only [Rel]; exact ⟨b, g, hp, rfl⟩) (Zzz.cons r3 (Zzz.cons r4 Zzz.nil)), hh', ?_, fun h => absurd rfl h, fun _ => rfl, h0⟩
     have e9 := h09 rfl
     subst e9
     rw [append_nil] at hl9 ⊢
     rw [<- hl9, r9.len]; rfl
    unfold Zyd
    rw [show Zqt Tryz.prog ZzN = true from by kernel_rfl, cond_true]
    refine Calls.mono this fun e w' he => ?_
    obtain ⟨rfl, hr⟩ := he
    exact ⟨_, ph, Ph.le.refl _, hr, by simp only [Rel]; exact ⟨[], Zzz.nil, rfl⟩, rfl⟩
  ·cases h
 ·cases h
theorem oStr_o (h : oStr Zyk args H N = some (v, H', N')) (hR : RH w0 ph H w) (ra : Zzz ph args Args) : Zyd Tryz.prog w0 ph Zyk Args w v H' := by
 unfold oStr at h
 split at h
 ·next n =>
  split at h
  ·next c0 m l r e sz hn =>
   split at h
   ·next vs e2 hm =>
    split at h
    ·next x bs hbs =>
     cases hb : (Nat.beq e2 Yec && Nat.beq (length (x :: bs)) l) with
     | false => rw [hb] at h; cases h
     | true =>
      simp only [hb, cond_true, YaV, Ycs, Option.some.injEq, Prod.mk.injEq] at h
      obtain ⟨rfl, rfl, _⟩ := h
      simp only [Bool.and_eq_true] at hb
      have b1 := Nat.eq_of_beq_eq_true hb.1
      have b2 := Nat.eq_of_beq_eq_true hb.2
      subst b1
      obtain ⟨X, rfl, rx⟩ := ra.one
      simp only [Rel] at rx
      obtain ⟨b, g, hp, rfl⟩ := rx
      obtain ⟨b', g', hp', cs, rest, rr, hh, _⟩ := hR.blk _ _ hn
      obtain ⟨rfl, rfl⟩ := phdet hp hp'
      obtain ⟨b2', g2, hp2, cs2, rest2, rr2, hh2, hl2, hgg, _, h02⟩ := hR.blk _ _ hm
      obtain ⟨hg1, hg2⟩ := hgg (by omega)
      obtain ⟨V0, R0, rfl, q0, q1⟩ := rr.uncons
      obtain ⟨V1, R1, rfl, q2, q3⟩ := q1.uncons
      simp only [Rel, CP.of] at q2
      obtain ⟨b3, g3, hp3, rfl, hlc⟩ := q2
      obtain ⟨rfl, rfl⟩ := phdet hp2 hp3
      have et := Ygr hbs (rr2.take l)
      have ecs : cs2 ++ rest2 = Lib.byteCells (x :: bs) ++ (cs2.drop l ++ rest2) := by
       have e1 : Lib.byteCells (x :: bs) = bcells (x :: bs) := rfl
       rw [e1, <- et, <- append_assoc, take_append_drop]
      have c1 : w.cell? ⟨b, 1, none⟩ = some (.slice (some ⟨b2', 0, none⟩) (x :: bs).length (g2 / 1 - 0)) := by
       rw [b2, cell_of_row w b 1 _ e (0, 0) hh]; rfl
      have hbs' := bstr Tryz.lays169 cells5 b b2' (g2 / 1 - 0) (x :: bs) (cs2.drop l ++ rest2) w c1 (by rw [<- ecs]; exact hh2) (by simp) (by rw [b2]; exact hlc) (by rw [Nat.sub_zero]; exact hg2)
      unfold Zyd
      rw [show Zqt Tryz.prog Zyk = true from by kernel_rfl, cond_true]
      refine Calls.mono hbs' fun e' w' he => ?_
      obtain ⟨rfl, hc⟩ := he
      exact ⟨_, ph, Ph.le.refl _, hR.at1 hm trivial hp2 h02 hc trivial, by simp only [Rel], rfl⟩
    ·cases h
   ·cases h
  ·cases h
 ·cases h
theorem oRep_o {call : Zxe} (hcall : Ybc Tryz.prog w0 call) (h : oRep call 180 args H N = some (v, H', N')) (hR : RH w0 ph H w) (ra : Zzz ph args Args) : Zyd Tryz.prog w0 ph 180 Args w v H' := by
 unfold oRep at h
 split at h
 ·next n s =>
  split at h
  ·next r e sz hn =>
   rw [YaV] at h
   simp only at h
   split at h
   ·next H2 N2 hb1 =>
    split at h
    ·next c2 t m r' e' sz' hn2 =>
     rw [YaV] at h
     simp only at h
     split at h
     ·next u H4 N4 hb2 =>
      cases hbb : (Nat.beq e' e && Nat.beq t ZzD) with
      | false => rw [hbb] at h; cases h
      | true =>
       simp only [hbb, cond_true, Option.some.injEq, Prod.mk.injEq] at h
       obtain ⟨rfl, rfl, _⟩ := h
       simp only [Bool.and_eq_true] at hbb
       have z1 := Nat.eq_of_beq_eq_true hbb.1
       have z2 := Nat.eq_of_beq_eq_true hbb.2
       subst z1; subst z2
       obtain ⟨X, Y, rfl, rx, ry⟩ := ra.two
       simp only [Rel] at rx ry
       subst ry
       obtain ⟨b, g, hp, rfl⟩ := rx
       obtain ⟨b', g', hp', cs, rest, rr, hh, hl, hgg, hg0, h0⟩ := hR.blk _ _ hn
       obtain ⟨rfl, rfl⟩ := phdet hp hp'
       obtain ⟨A, R1, rfl, qa, q1⟩ := rr.uncons
       obtain ⟨B, R2, rfl, qb, q2⟩ := q1.uncons
       simp only [Rel] at qa qb
       subst qa; subst qb
       have HH : Hp w0 No w [⟨b, .int .u32 0 :: .int .i32 0 :: (R2 ++ rest), e'⟩] := (Hp.of_chg hR.chg).add hh (by simp) (fun h => by omega)
       have once := OnceDo_ok (J := fun w1 => ∃ ph2, ph.le ph2 /\ RH w0 ph2 (H2.set n (.cells (.int .u32 1 :: .int .i32 0 :: c2 :: .iface ZzD (.ptr (some (m, 0))) :: r') e' sz')) w1) HH fun w1 H1 hc1 => by
        have hR1 : RH w0 ph (H.set n (.cells (.int .u32 0 :: .int .i32 1 :: r) e' sz)) w1 := by
         refine hR.at1 hn trivial hp h0 hc1 ⟨.int .u32 0 :: .int .i32 1 :: R2, rest, Zzz.cons (by simp only [Rel]) (Zzz.cons (by simp only [Rel]) q2), H1.get 0 rfl, ?_, hgg, hg0, h0⟩
         simpa using hl
        have := hcall _ _ _ _ _ _ _ hb1 ph w1 [.pointer (some ⟨b, 0, none⟩)] hR1 (Zzz.cons (by simp only [Rel]; exact ⟨b, g, hp, rfl⟩) Zzz.nil)
        unfold Zyd at this
        rw [show Zqt Tryz.prog Zy4 = true from by kernel_rfl, cond_true] at this
        refine Calls.mono this fun ee w2 he => ?_
        obtain ⟨V, ph2, hle, hR2, rv, rfl⟩ := he
        simp only [Rel] at rv
        obtain ⟨L, rL, rfl⟩ := rv
        simp only [Zzz] at rL
        subst rL
        obtain ⟨b9, g9, hp9, cs9, rest9, rr9, hh9, hl9, hgg9, hg09, h09⟩ := hR2.blk _ _ hn2
        obtain ⟨rfl, rfl⟩ := phdet (hle _ _ hp) hp9
        obtain ⟨A9, R19, rfl, qa9, q19⟩ := rr9.uncons
        obtain ⟨B9, R29, rfl, qb9, q29⟩ := q19.uncons
        simp only [Rel] at qa9 qb9
        subst qa9; subst qb9
        refine ⟨rfl, R29 ++ rest9, [], (Hp.of_chg hR2.chg).add hh9 (by simp) (fun h => by omega), fun w3 H3 hc3 => ⟨ph2, hle, ?_⟩⟩
        refine hR2.at1 hn2 trivial hp9 h09 hc3 ⟨.int .u32 1 :: .int .i32 0 :: R29, rest9, Zzz.cons (by simp only [Rel]) (Zzz.cons (by simp only [Rel]) q29), H3.get 0 rfl, ?_, hgg9, hg09, h09⟩
        simpa using hl9
       unfold Zyd
       rw [show Zqt Tryz.prog 180 = true from by kernel_rfl, cond_true]
       refine Replace_hand (Calls.mono once fun e1 w1 he => ?_)
       obtain ⟨rfl, ph2, hle, hR3⟩ := he
       refine ⟨rfl, ?_⟩
       obtain ⟨b9, g9, hp9, cs9, rest9, rr9, hh9, _⟩ := hR3.blk n _ (Tr.get_same _ _ _)
       obtain ⟨rfl, rfl⟩ := phdet (hle _ _ hp) hp9
       obtain ⟨A9, R19, rfl, _, q19⟩ := rr9.uncons
       obtain ⟨B9, R29, rfl, _, q29⟩ := q19.uncons
       obtain ⟨C9, R39, rfl, _, q39⟩ := q29.uncons
       obtain ⟨D9, R49, rfl, qd9, _⟩ := q39.uncons
       simp only [Rel] at qd9
       obtain ⟨U, ⟨bB, gB, hpB, rfl⟩, rfl⟩ := qd9
       refine ⟨bB, by rw [cell_of_row w1 b 3 _ _ (0, 0) hh9]; rfl, ?_⟩
       have := hcall _ _ _ _ _ _ _ hb2 ph2 w1 [.pointer (some ⟨bB, 0, none⟩), .string ⟨s.toArray⟩] hR3 (Zzz.cons (by simp only [Rel]; exact ⟨bB, gB, hpB, rfl⟩) (Zzz.cons (by simp only [Rel]) Zzz.nil))
       unfold Zyd at this
       rw [show Zqt Tryz.prog ZzW = true from by kernel_rfl, cond_true] at this
       refine Calls.mono this fun ee w2 he => ?_
       obtain ⟨V, ph3, hle3, hR4, rv, rfl⟩ := he
       have rv' := rv
       simp only [Rel] at rv
       subst rv
       exact ⟨_, rfl, _, ph3, hle.trans hle3, hR4, rv', rfl⟩
     ·cases h
    ·cases h
   ·cases h
  ·cases h
 ·cases h
theorem orc_o (hm : ∃ m : Int, w0.cell? ⟨2, 0, none⟩ = some (.int .i64 m)) (call : Zxe) (hcall : Ybc Tryz.prog w0 call) : Ybc Tryz.prog w0 (orc call) := by
 intro f args H N v H' N' h ph w Args hR ra
 unfold orc at h
 have step : ∀ (g : Nat) (x y : Option (VV × Tr VB × Nat)), (bif Nat.beq f g then x else y) = some (v, H', N') -> (f = g /\ x = some (v, H', N')) \/ y = some (v, H', N') := by
  intro g x y hh
  cases hb : Nat.beq f g with
  | true => rw [hb, cond_true] at hh; exact .inl ⟨Nat.eq_of_beq_eq_true hb, hh⟩
  | false => rw [hb, cond_false] at hh; exact .inr hh
 rcases step _ _ _ h with ⟨rfl, h⟩ | h
 ·exact oIxS_o h hR ra
 rcases step _ _ _ h with ⟨rfl, h⟩ | h
 ·exact oIxB_o h hR ra
 rcases step _ _ _ h with ⟨rfl, h⟩ | h
 ·exact oCnt_o h hR ra
 rcases step _ _ _ h with ⟨rfl, h⟩ | h
 ·exact oCntS_o h hR ra
 rcases step _ _ _ h with ⟨rfl, h⟩ | h
 ·exact oIdx_o hm h hR ra
 rcases step _ _ _ h with ⟨rfl, h⟩ | h
 ·exact oCC_o h hR ra
 rcases step _ _ _ h with ⟨rfl, h⟩ | h
 ·exact oStr_o h hR ra
 rcases step _ _ _ h with ⟨rfl, h⟩ | h
 ·exact oRep_o hcall h hR ra
 ·cases h
end
end Go.Proofs.YtlnfaaghdkngmaaGreatDoor
end
