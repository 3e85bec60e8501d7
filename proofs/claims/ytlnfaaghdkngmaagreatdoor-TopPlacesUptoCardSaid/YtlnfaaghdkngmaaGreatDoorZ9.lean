/- What the statement needs, part 9. -/
import Derived.Test.YtlnfaaghdkngmaaGreatDoorZ8
set_option linter.unusedSectionVars false
set_option linter.unusedVariables false
set_option linter.unusedSimpArgs false
set_option maxRecDepth 100000
open List
section
namespace Go.Proofs.YtlnfaaghdkngmaaGreatDoor
open Go Go.Vc
theorem evTab_ok : evTab.ok Tryz.prog = true := by kernel_rfl
theorem reads_plain : Zqt Tryz.prog ZxN = true := by kernel_rfl
theorem reads_ev : ∃ H N, (evC Tryz.prog evTab.get orc 300).2 ZxN [] .lf 64 = some (.bool true, H, N) := by
 have h := reads_run
 unfold readsRun at h
 generalize (evC Tryz.prog evTab.get orc 300).2 ZxN [] .lf 64 = r at h
 split at h
 ·exact ⟨_, _, rfl⟩
 ·cases h
theorem reads_ok {w : World} {J : Bool -> World -> Prop} (hm : ∃ m : Int, w.cell? ⟨2, 0, none⟩ = some (.int .i64 m)) (K : ∀ w', Chg No w w' -> J true w') :
  Zz1 Tryz.prog ZxN #[] w [.one .bool] J := by
 obtain ⟨H, N, h⟩ := reads_ev
 have hc := ev_calls (w0 := w) (BT.tab evTab_ok) (fun c hc => orc_o hm c hc) h (RH.start w) Zzz.nil
 unfold Zyd at hc
 rw [reads_plain, cond_true] at hc
 refine Calls.mono hc fun e w' he => ?_
 obtain ⟨V, ph', hle, hR, rv, rfl⟩ := he
 simp only [Rel] at rv
 subst rv
 exact ⟨true, rfl, K w' hR.chg⟩
end Go.Proofs.YtlnfaaghdkngmaaGreatDoor
end
