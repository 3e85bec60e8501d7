/-
  sync.Once: the first call of Do, by hand: the lock, the two deferred calls.
-/
import Derived.Test.YtdjehimkijlhgaaDoorVOnce
import Derived.Test.YtdjehimkijlhgaaDoorBase
import Derived.Tactics
import Derived.Tactics2
import Derived.Defers
import Derived.Laws.Pointers
import Derived.Laws.LoneSync
import Derived.RegionTactic
import Derived.RegionCalls
import Derived.ChangeAlike
set_option linter.unusedVariables false
set_option linter.unusedSimpArgs false
namespace Go.Proofs.YtdjehimkijlhgaaDoor
open Go Go.Vc Go.Lib
theorem disable (w : World) : (callFunc fn_internal_race_Disable #[]).run Tryd.prog w = .ok (.value (.tuple #[])) w := run_call_mark0 Tryd.func138 (by kernel_rfl) (by kernel_rfl) (by kernel_rfl) .disable (by kernel_rfl) w
theorem enable (w : World) : (callFunc fn_internal_race_Enable #[]).run Tryd.prog w = .ok (.value (.tuple #[])) w := run_call_mark0 Tryd.func140 (by kernel_rfl) (by kernel_rfl) (by kernel_rfl) .enable (by kernel_rfl) w
theorem acquire (a : Addr) (w : World) : (callFunc fn_internal_race_Acquire #[.pointer (some a)]).run Tryd.prog w = .ok (.value (.tuple #[])) w := run_call_marked Tryd.func141 (by kernel_rfl) (by kernel_rfl) (by kernel_rfl) .acquire (by kernel_rfl) a w
theorem releaseMerge (a : Addr) (w : World) : (callFunc fn_internal_race_ReleaseMerge #[.pointer (some a)]).run Tryd.prog w = .ok (.value (.tuple #[])) w := run_call_marked Tryd.func143 (by kernel_rfl) (by kernel_rfl) (by kernel_rfl) .releaseMerge (by kernel_rfl) a w

set_option maxRecDepth 100000 in
theorem unlock_in (a : Addr) (w : World) (hc : w.cell? a = some (.int .i32 1)) (hz : w.frozen? a = false) :
    Calls Tryd.prog 129 #[.pointer (some a)] w fun e w' => e = .returned (.tuple #[]) ∧ w' = w.setCell a (.int .i32 0) := by
  have hd := disable
  have he := enable
  have hr := releaseMerge
  have hadd := run_call_add (P := Tryd.prog) Tryd.func144 (by kernel_rfl) (by kernel_rfl) (by kernel_rfl) .i32 (by kernel_rfl) (y := -1) (s := 0) hc hz (by simp [go_sem]; rfl)
  have hcv := run_convert_to_unsafe (P := Tryd.prog) (src := 206) (dst := 210) Tryd.underlying206 Tryd.underlying210 (by kernel_rfl) hc
  go_enter Tryd.func129, Tryd.ntmps129
  go_wp2
  go_end0
  go_wp2

set_option maxRecDepth 100000 in
theorem lock_in (a : Addr) (w : World) (hc : w.cell? a = some (.int .i32 0)) (hz : w.frozen? a = false) :
    Calls Tryd.prog 128 #[.pointer (some a)] w fun e w' => e = .returned (.tuple #[]) ∧ w' = w.setCell a (.int .i32 1) := by
  have hd := disable
  have he := enable
  have ha := acquire
  have hcas := run_call_cas_hit (P := Tryd.prog) Tryd.func139 (by kernel_rfl) (by kernel_rfl) (by kernel_rfl) .i32 (by kernel_rfl) (y := 1) hc hz
  have hc' : (w.setCell a (.int .i32 1)).cell? a = some (.int .i32 1) := World.cell?_setCell_same w a _ hc
  have hcv := run_convert_to_unsafe (P := Tryd.prog) (src := 206) (dst := 210) Tryd.underlying206 Tryd.underlying210 (by kernel_rfl) hc'
  go_enter Tryd.func128, Tryd.ntmps128
  go_wp2
  first | go_end0 | (simp only [Exit.inBlock, Exit.then]; refine bodyPost_ret (results_none rfl _ _ _) rfl ?_) | refine bodyPost_ret (results_none rfl _ _ _) rfl ?_
  go_wp2
end Go.Proofs.YtdjehimkijlhgaaDoor

/-
  sync.Once's slow road: the function is called under the lock; behind it, done is set and the lock let go.
-/

set_option linter.unusedVariables false
set_option linter.unusedSimpArgs false
namespace Go.Proofs.YtdjehimkijlhgaaDoor
open Go Go.Vc Go.Lib
theorem lockM (a : Addr) (w : World) (h : canW w a) (hc : w.cell? a = some (.int .i32 0)) :
    Calls Tryd.prog 113 #[.pointer (some a)] w fun e w' => e = .returned (.tuple #[]) ∧ w' = w.setCell a (.int .i32 1) := by
  refine c_sync_Mutex_Lock ?_
  unfold VC_sync_Mutex_Lock
  exact Calls.mono (lock_in a w hc h.2) fun e w' he => he
theorem unlockM (a : Addr) (w : World) (h : canW w a) (hc : w.cell? a = some (.int .i32 1)) :
    Calls Tryd.prog 114 #[.pointer (some a)] w fun e w' => e = .returned (.tuple #[]) ∧ w' = w.setCell a (.int .i32 0) := by
  refine c_sync_Mutex_Unlock ?_
  unfold VC_sync_Mutex_Unlock
  exact Calls.mono (unlock_in a w hc h.2) fun e w' he => he
theorem loadM (a : Addr) (w : World) (hc : w.cell? a = some (.int .u32 0)) :
    Calls Tryd.prog 92 #[.pointer (some a)] w fun e w' => e = .returned (.bool false) ∧ w' = w := by
  have h : callJ Tryd.prog 92 #[.pointer (some a)] w [.one .bool] fun b w' => b = false ∧ w' = w := by
    refine c_sync_atomic_Bool_Load ?_
    unfold VC_sync_atomic_Bool_Load
    exact ⟨_, _, run_call_load Tryd.func112 (by kernel_rfl) (by kernel_rfl) (by kernel_rfl) .u32 (by kernel_rfl) hc, 0, rfl, rfl, rfl⟩
  refine Calls.mono h fun e w' he => ?_
  obtain ⟨b, h1, h2, h3⟩ := he
  subst h2
  exact ⟨h1, h3⟩
theorem loadM1 (a : Addr) (w : World) (hc : w.cell? a = some (.int .u32 1)) :
    Calls Tryd.prog 92 #[.pointer (some a)] w fun e w' => e = .returned (.bool true) ∧ w' = w := by
  have h : callJ Tryd.prog 92 #[.pointer (some a)] w [.one .bool] fun b w' => b = true ∧ w' = w := by
    refine c_sync_atomic_Bool_Load ?_
    unfold VC_sync_atomic_Bool_Load
    exact ⟨_, _, run_call_load Tryd.func112 (by kernel_rfl) (by kernel_rfl) (by kernel_rfl) .u32 (by kernel_rfl) hc, 1, rfl, rfl, rfl⟩
  refine Calls.mono h fun e w' he => ?_
  obtain ⟨b, h1, h2, h3⟩ := he
  subst h2
  exact ⟨h1, h3⟩
set_option maxRecDepth 100000 in
theorem unlockD (a : Addr) (u : FrameMode) (w : World) (h : canW w a) (hc : w.cell? a = some (.int .i32 1)) :
    CallsD Tryd.prog 114 #[.pointer (some a)] u w fun e u' w' => u' = u ∧ (e = .returned (.tuple #[]) ∧ w' = w.setCell a (.int .i32 0)) := by
  go_enter_d Tryd.func114, Tryd.ntmps114
  go_wp2_with (go_at_call 129; refine (unlock_in a _ hc h.2).mono ?_; rintro e w' ⟨rfl, rfl⟩)
  go_end0
  exact ⟨rfl, rfl⟩
set_option maxRecDepth 100000 in
theorem storeD0 (a : Addr) (x : Value) (u : FrameMode) (w : World) (hc : w.cell? a = some x) (hz : w.frozen? a = false) :
    CallsD Tryd.prog 115 #[.pointer (some a), .bool true] u w fun e u' w' => u' = u ∧ (e = .returned (.tuple #[]) ∧ w' = w.drew.setCell a (.int .u32 1)) := by
  have hc' : w.drew.cell? a = some x := by go_simp
  have hz' : w.drew.frozen? a = false := by go_simp
  have hst := run_call_store (P := Tryd.prog) Tryd.func130 (by kernel_rfl) (by kernel_rfl) (by kernel_rfl) (by kernel_rfl) (k := .u32) (y := 1) hc' hz'
  go_enter_d Tryd.func115, Tryd.ntmps115
  go_wp2
  go_region_calls
  all_goals (go_end0; exact ⟨rfl, rfl⟩)
set_option maxRecDepth 100000 in
theorem storeD {w0 w : World} {S : Nat → Prop} {Γ : List Blk} {b : Nat} {x : Value} {rest : List Value} {e : TypeId} (u : FrameMode) (H : Hp w0 S w (⟨b, x :: rest, e⟩ :: Γ)) :
    CallsD Tryd.prog 115 #[.pointer (some ⟨b, 0, none⟩), .bool true] u w fun e' u' w' => u' = u ∧ (e' = .returned (.tuple #[]) ∧ Hp w0 S w' (⟨b, .int .u32 1 :: rest, e⟩ :: Γ) ∧ Chg (fun x => x = b) w w') := by
  obtain ⟨⟨⟨x', hc⟩, hz⟩, H1⟩ := H.drew.stV 0 rfl (off := 0) (v := .int .u32 1) (K := fun w' => Hp w0 S w' (⟨b, .int .u32 1 :: rest, e⟩ :: Γ) ∧ Chg (fun x => x = b) w w') (by simp) (fun w' H' hc' => ⟨H', (Chg.refl _ w).drew.trans hc' fun _ _ h => h⟩)
  have hc0 : w.cell? ⟨b, 0, none⟩ = some x := H.cell 0 rfl rfl
  have hz0 : w.frozen? ⟨b, 0, none⟩ = false := hz
  refine (storeD0 ⟨b, 0, none⟩ x u w hc0 hz0).mono ?_
  rintro e' u' w' ⟨rfl, rfl, rfl⟩
  exact ⟨rfl, rfl, H1⟩
set_option maxRecDepth 100000 in
set_option maxHeartbeats 1600000 in
theorem doSlow_ok {w0 w : World} {S : Nat → Prop} {Γ : List Blk} {b : Nat} {rest : List Value} {e : TypeId} (H : Hp w0 S w (⟨b, .int .u32 0 :: .int .i32 0 :: rest, e⟩ :: Γ)) {R : World → Prop}
    (hb : ∀ w1, Hp w0 S w1 (⟨b, .int .u32 0 :: .int .i32 1 :: rest, e⟩ :: Γ) → Calls Tryd.prog 78 #[.pointer (some ⟨b, 0, none⟩)] w1 fun e' w' => e' = .returned (.tuple #[]) ∧ ∃ rest' Γ', Hp w0 S w' (⟨b, .int .u32 0 :: .int .i32 1 :: rest', e⟩ :: Γ') ∧ ∀ w'', Hp w0 S w'' (⟨b, .int .u32 1 :: .int .i32 0 :: rest', e⟩ :: Γ') → Chg (fun x => x = b) w' w'' → R w'') :
    Calls Tryd.prog 93 #[.pointer (some ⟨b, 0, none⟩), .func (.func 78) #[.pointer (some ⟨b, 0, none⟩)] #[]] w fun e' w' => e' = .returned (.tuple #[]) ∧ R w' := by
  have hl := H.stV 0 rfl (off := 1) (v := .int .i32 1) (K := fun w' => Hp w0 S w' (⟨b, .int .u32 0 :: .int .i32 1 :: rest, e⟩ :: Γ)) (by simp) (fun w' H' _ => H')
  have hc := H.cell 0 rfl (off := 1) rfl
  obtain ⟨hcan, H1⟩ := hl
  have hx := H1.cell 0 rfl (off := 0) rfl
  go_enter_defers Tryd.func93, Tryd.ntmps93
  go_wp2_with (first
    | (go_at_call 113; refine (lockM ⟨b, 1, none⟩ _ hcan hc).mono ?_; rintro e' w' ⟨rfl, rfl⟩)
    | (go_at_call 92; refine (loadM ⟨b, 0, none⟩ _ hx).mono ?_; rintro e' w' ⟨rfl, rfl⟩)
    | (go_at_call 78; refine (hb _ H1).mono ?_; rintro e' w' ⟨rfl, rest', Γ', H2, hR⟩))
  refine leaves_cons (f := 115) (args := #[.pointer (some ⟨b, 0, none⟩), .bool true]) (by simp) (by simp [go_sem]) ?_
  refine (storeD .returning H2).mono ?_
  rintro e' u' w'' ⟨rfl, rfl, H3, hcc⟩
  obtain ⟨hcan3, H4⟩ := H3.stV 0 rfl (off := 1) (v := .int .i32 0) (K := fun w9 => Hp w0 S w9 (⟨b, .int .u32 1 :: .int .i32 0 :: rest', e⟩ :: Γ') ∧ Chg (fun x => x = b) w' w9) (by simp) (fun w9 H' hc9 => ⟨H', hcc.trans hc9 fun _ _ h => h⟩)
  refine leaves_cons (f := 114) (args := #[.pointer (some ⟨b, 1, none⟩)]) (by simp [settle]) (by simp [go_sem]) ?_
  refine (unlockD ⟨b, 1, none⟩ _ _ hcan3 (H3.cell 0 rfl rfl)).mono ?_
  rintro e' u' w3 ⟨rfl, rfl, rfl⟩
  have := hR _ H4.1 H4.2
  simp [Leaves, settle, results, Tryd.results93, this]
end Go.Proofs.YtdjehimkijlhgaaDoor

