/-
  What the readings of the arguments of chapter 15's statements say.
-/
import Derived.Test.YtgplflecgnldeaaBase
import Derived.Test.YtgplflecgnldeaaLift
namespace Go.Proofs.Ytgplflecgnldeaa
open Go Go.Vc

def b1 (b : Bool) : List Value := [.bool b]
theorem rows_b1 (ks : List Bool) : rows b1 ks = bools ks := by
  induction ks with
  | nil => rfl
  | cons b ks ih => rw [rows_cons, ih]; rfl
def BoolsOk (w : World) (s : SlV Bool) : Prop := s.Ok w 1 1 b1 (fun _ => True)
theorem BoolsOk.is {w : World} {s : SlV Bool} (h : BoolsOk w s) : Sl w s.p s.l 1 (bools s.xs) := by have := h.sl; rwa [rows_b1] at this
def i1 (n : Int) : List Value := [.int .i64 n]
def IntsOk (w : World) (s : SlV Int) : Prop := s.Ok w 1 8 i1 InI
/-- A byte, a number of 64 bits that came in. -/
def InB (n : Int) : Prop := ∃ b : UInt8, n = b.toNat
def InU (n : Int) : Prop := ∃ k : Nat, n = k ∧ k < 2 ^ 64

/-- A page that is put. -/
structure OpV where
  n : Int
  stamp : Int
  p : BV
def opCells (o : OpV) : List Value := [.int .i64 o.n, .int .u64 o.stamp, .slice o.p.p o.p.l o.p.c]
structure OpV.Ok (w : World) (o : OpV) : Prop where
  n : InI o.n
  stamp : InU o.stamp
  p : o.p.Ok w
def OpsOk (w : World) (s : SlV OpV) : Prop := s.Ok w 3 40 opCells (OpV.Ok w)

section
variable {w : World}
theorem rd_int : Rd Try.prog w T_int (fun n : Int => [.int .i64 n]) InI := Rd.i64 (by kernel_rfl)
theorem rd_uint8 : Rd Try.prog w T_uint8 (fun n : Int => [.int .u8 n]) InB := (Rd.u8 (by kernel_rfl)).map (fun b : UInt8 => (b.toNat : Int)) (fun _ _ => rfl) (fun b _ => ⟨b, rfl⟩)
theorem rd_uint64 : Rd Try.prog w T_uint64 (fun n : Int => [.int .u64 n]) InU := by
  intro H enc fuel cs x h hw
  obtain ⟨n, h1, h2⟩ := Rd.int (k := .u64) (by kernel_rfl) H enc fuel cs x h hw
  simp [IntKind.min, IntKind.max, IntKind.signed, IntKind.bits] at h2
  exact ⟨n, h1, n.toNat, by omega, by omega⟩
theorem rd_sl_uint8 : Rd Try.prog w T_sl_uint8 BV.cells (fun b => b.Ok w) := Rd.bytes (e := T_uint8) (by kernel_rfl) (by kernel_rfl) (by kernel_rfl) (by kernel_rfl)
theorem rd_sl_bool : Rd Try.prog w T_sl_bool SlV.cells (fun s : SlV Bool => BoolsOk w s) := Rd.slice (e := T_bool) (by kernel_rfl) (by kernel_rfl) (by kernel_rfl) (Rd.bool (by kernel_rfl))
theorem rd_sl_int : Rd Try.prog w T_sl_int SlV.cells (fun s : SlV Int => IntsOk w s) := Rd.slice (e := T_int) (by kernel_rfl) (by kernel_rfl) (by kernel_rfl) rd_int
theorem rd_law15_Op : Rd Try.prog w T_law15_Op opCells (OpV.Ok w) := by
  have h := Rd.struct (P := Try.prog) (w := w) (t := T_law15_Op) (L := [(T_int, 0), (T_uint64, 1), (T_sl_uint8, 2)]) (by kernel_rfl) (by kernel_rfl)
    (.cons (k := 1) (by kernel_rfl) rfl (rd_int (w := w)) (.cons (k := 1) (by kernel_rfl) rfl (rd_uint64 (w := w)) (.cons (k := 1) (by kernel_rfl) rfl (rd_sl_uint8 (w := w)) .nil)))
  exact h.map (fun x => ⟨x.1, x.2.1, x.2.2.1⟩) (fun x _ => rfl) (fun x hx => ⟨hx.1, hx.2.1, hx.2.2.1⟩)
theorem rd_sl_law15_Op : Rd Try.prog w T_sl_law15_Op SlV.cells (fun s : SlV OpV => OpsOk w s) := Rd.slice (e := T_law15_Op) (by kernel_rfl) (by kernel_rfl) (by kernel_rfl) rd_law15_Op

/-- The element of a range over a script. -/
theorem pickOp {w' : World} {s : SlV OpV} (hs : OpsOk w s) (hc : Chg No w w') {i : Int} (h0 : 0 ≤ i) (h1 : i < s.l) {K : Nat → World → Prop}
    (k : ∀ o b w'', s.xs[i.toNat]? = some o → o.Ok w → Hp w' No w'' [⟨b, opCells o, T_law15_Op⟩] → w'.heap.size ≤ b → Chg No w' w'' → K b w'') :
    idxA s.p s.l i fun a => ldI .i64 w' (a.add (i.toNat * 3)) fun x0 => ldI .u64 w' ((a.add (i.toNat * 3)).add 1) fun x1 => ldS w' ((a.add (i.toNat * 3)).add 2) fun p l c =>
      newB w' (.cells (zeroC Try.prog T_law15_Op) T_law15_Op) fun b w6 => stN w6 ⟨b, 0, none⟩ ⟨[.int .i64 x0, .int .u64 x1, .slice p l c]⟩ 3 fun w7 => K b w7 := by
  refine idx_rows (hs.sl.chg hc (off_no _)) hs.even (by decide) h0 h1 fun a o _ ho hcells => ?_
  refine ldI_i (n := o.n) (by have := hcells 0 _ rfl; rwa [add_zero'] at this) ?_
  refine ldI_i (n := o.stamp) (hcells 1 _ rfl) ?_
  refine ldS_i (p := o.p.p) (l := o.p.l) (c := o.p.c) (hcells 2 _ rfl) ?_
  rw [show zeroC Try.prog T_law15_Op = ⟨[.int .i64 0, .int .u64 0, .slice none 0 0]⟩ from by kernel_rfl]
  refine (Hp.start w' No).newB fun b w6 H6 hb hc6 => ?_
  refine H6.stN 0 rfl (off := 0) rfl (by decide) (by simp [one1, Value.oneCell']) fun w7 H7 hc7 => ?_
  exact k o b w7 ho (hs.all o (List.mem_of_getElem? ho)) (by simpa [splice, opCells] using H7) hb (hc6.trans hc7 fun x hx he => by subst he; omega)
end

end Go.Proofs.Ytgplflecgnldeaa
