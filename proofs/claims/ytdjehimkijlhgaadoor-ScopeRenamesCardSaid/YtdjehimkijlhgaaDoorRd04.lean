/-
  What the readings of the arguments of chapter 4's statements say.
-/
import Derived.Test.YtdjehimkijlhgaaDoorScopeL
import Derived.Test.YtdjehimkijlhgaaDoorBulkM
namespace Go.Proofs.YtdjehimkijlhgaaDoor
open Go Go.Vc
def InS (s : ByteArray) : Prop := s.size ≤ 140737488351232
section
variable {w : World}
theorem rd_string : Rd Tryd.prog w T_string (fun s : ByteArray => [.string s]) InS := Rd.str (by kernel_rfl)
theorem rd_pair2 : Rd Tryd.prog w T_scan_Pair (fun x : ByteArray × ByteArray × Unit => [.string x.1] ++ ([.string x.2.1] ++ [])) (fun x => InS x.1 ∧ InS x.2.1 ∧ True) :=
  Rd.struct (L := [(T_string, 0), (T_string, 1)]) (n := 2) (by kernel_rfl) (by kernel_rfl) (RdF.cons (k := 1) (n := 1) (by kernel_rfl) rfl rd_string (RdF.cons (k := 1) (n := 0) (by kernel_rfl) rfl rd_string RdF.nil))
theorem rd_pair : Rd Tryd.prog w T_scan_Pair pr InPr := rd_pair2.map (fun x => (x.1, x.2.1)) (fun _ _ => rfl) (fun _ h => ⟨h.1, h.2.1⟩)
theorem rd_sl_scan_Pair : Rd Tryd.prog w T_sl_scan_Pair SlV.cells (fun s : SlV Pr => PV.Good w s) := Rd.slice (by kernel_rfl) (by kernel_rfl) (by kernel_rfl) rd_pair
theorem rdm_sl_scan_Pair : RdM Tryd.prog w T_sl_scan_Pair SlV.cells (fun s : SlV Pr => PV.Good w s) SlV.l :=
  (RdM.slice (by kernel_rfl) (by kernel_rfl) (by kernel_rfl) (RdM.of rd_pair)).mono fun a h => by
    have := h.len
    rw [← this, List.map_const', List.sum_replicate_nat]; omega
theorem rdm_sl_sl_scan_Pair : RdM Tryd.prog w T_sl_sl_scan_Pair SlV.cells (fun s : SlV PV => PPV.Good w s) PPV.sum := RdM.slice (by kernel_rfl) (by kernel_rfl) (by kernel_rfl) rdm_sl_scan_Pair
end
end Go.Proofs.YtdjehimkijlhgaaDoor

