/-
  NARROWER THAN 'FOR EVERY INPUT', by the rows' own cells (each row's printed sentence says how): ScopeNames: laid · ReferExpands: laid · ReferNumbers: laid · ReferJoins: laid · ReferWrites: laid · ReferPlain: laid · ReferBack: laid · ScopeAttrs: laid · ScopeRenames: laid · ScopeOrders: laid · ScopeOpens: laid.
  DERIVED. THE GIVEN ROWS OF THIS SEAT. 11 by the template 'for every input the law returns true; each argument reads behind the call as it read before'; 0 by the template 'total and deterministic' (their statements: YtdjehimkijlhgaaDoorTotals.lean).
  GIVEN WITH THE SEED: the statements are not yours to turn. If you find one false, say at which input.
  Laid BY PROGRAM, IN A SANDBOX (cutbox-rows.mjs): the forced cells as the released guide's own fill.sh prints them over the translation aff6a17e0f8bdd50… (all of the seat's roots in one cut). By AI agents, Wed Nov 11 2026. No macro, syntax, notation, axiom, sorry.
-/
import Derived.Test.YtdjehimkijlhgaaDoorChecked
import GoSem.PinnedTables
import GoSem.Claim
import GoSem.ClaimJoined
import GoSem.ClaimMapViews
import Derived.JoinedTies
import Derived.KernelRfl
namespace Go.Proofs.YtdjehimkijlhgaaDoor
/- THE CELL 'sum', in the pinned program and in every row, IS THE sha256 OF THE DUMP (.gsa) THAT YtdjehimkijlhgaaDoorProg.lean LOADS. Nothing in Lean hashes anything: it is a label: what it is worth is what the hold of that sum in a sandbox is worth. -/
noncomputable def Tryd.pinned : Pinned := { name := "ytdjehimkijlhgaadoor", sum := "aff6a17e0f8bdd508dd5c6a94aa1977aacb2f9b8fb6cc0029a0562b7f47fadf5", checked := Tryd.checked }
namespace Rows
def none {H : Type} : Left H := { results := [], args := [] }

/- WHAT THE LISTED PACKAGE-LEVEL VARIABLES READ AS WHEN THE CALL BEGINS. Each datum BY PROGRAM (the guide's laid-datum.mjs) off the statement by which the dump's own 'gosem.cut.vars' lays the variable. In a bare row this is a premise. The card (YtdjehimkijlhgaaDoorCards.lean) ties it to the program's text. -/
def laid_unicode_utf8_acceptRanges {H : Type} : DataW H := .agg [.agg [.lit (.int .u8 128), .lit (.int .u8 191)], .agg [.lit (.int .u8 160), .lit (.int .u8 191)], .agg [.lit (.int .u8 128), .lit (.int .u8 159)], .agg [.lit (.int .u8 144), .lit (.int .u8 191)], .agg [.lit (.int .u8 128), .lit (.int .u8 143)], .agg [.lit (.int .u8 0), .lit (.int .u8 0)], .agg [.lit (.int .u8 0), .lit (.int .u8 0)], .agg [.lit (.int .u8 0), .lit (.int .u8 0)], .agg [.lit (.int .u8 0), .lit (.int .u8 0)], .agg [.lit (.int .u8 0), .lit (.int .u8 0)], .agg [.lit (.int .u8 0), .lit (.int .u8 0)], .agg [.lit (.int .u8 0), .lit (.int .u8 0)], .agg [.lit (.int .u8 0), .lit (.int .u8 0)], .agg [.lit (.int .u8 0), .lit (.int .u8 0)], .agg [.lit (.int .u8 0), .lit (.int .u8 0)], .agg [.lit (.int .u8 0), .lit (.int .u8 0)]]
/-- One of Go's own tables, pinned by name: the form's constant. -/
def laid_unicode_utf8_first : DataW Unit := Go.Pinned.utf8First

/-- 'lecternlaw04.ScopeNames': WHATEVER THE INPUT: true; the input reads as it did. -/
def scopeNamesSpec : ChangeSpec := { name := "scopeNames", fn := fun _ => fun
  | [d1, d2] => { results := [.lit (.bool true)], args := [d1, d2] }
  | _ => none }
def scopeNamesRow : OpenClaim := { program := "ytdjehimkijlhgaadoor", sum := "aff6a17e0f8bdd508dd5c6a94aa1977aacb2f9b8fb6cc0029a0562b7f47fadf5", func := "lectern/lecternlaw04.ScopeNames", spec := "scopeNames", inPlace := ["internal/bytealg.IndexByteString", "internal/bytealg.IndexString"], unfollowed := true, recurses := true, named := ["internal/bytealg.MaxLen", "unicode/utf8.first", "unicode/utf8.acceptRanges"], apart := false, laid := [("unicode/utf8.acceptRanges", laid_unicode_utf8_acceptRanges), ("unicode/utf8.first", laid_unicode_utf8_first)] }
def ScopeNamesSaid : Prop := scopeNamesRow.holds Tryd.pinned (OpenSpec.ofChange scopeNamesSpec)

/-- ITS FALSE NEIGHBOUR: 'it returns false'. Refute it at one input. -/
def scopeNamesWrong : ChangeSpec := { name := "scopeNames", fn := fun _ => fun
  | [d1, d2] => { results := [.lit (.bool false)], args := [d1, d2] }
  | _ => none }
def ScopeNamesWrongFalsely : Prop := scopeNamesRow.holds Tryd.pinned (OpenSpec.ofChange scopeNamesWrong)

/-- 'lecternlaw02.ReferExpands': WHATEVER THE INPUT: true; the input reads as it did. -/
def referExpandsSpec : ChangeSpec := { name := "referExpands", fn := fun _ => fun
  | [d1, d2] => { results := [.lit (.bool true)], args := [d1, d2] }
  | _ => none }
def referExpandsRow : OpenClaim := { program := "ytdjehimkijlhgaadoor", sum := "aff6a17e0f8bdd508dd5c6a94aa1977aacb2f9b8fb6cc0029a0562b7f47fadf5", func := "lectern/lecternlaw02.ReferExpands", spec := "referExpands", inPlace := ["internal/bytealg.IndexByte", "sync/atomic.LoadUint32", "(*internal/sync.Mutex).Lock", "internal/race.Disable", "sync/atomic.CompareAndSwapInt32", "internal/race.Enable", "internal/race.Acquire", "(*internal/sync.Mutex).lockSlow", "internal/sync.runtime_canSpin", "internal/sync.runtime_doSpin", "internal/sync.throw", "internal/sync.runtime_nanotime", "internal/sync.runtime_SemacquireMutex", "sync/atomic.AddInt32", "(*internal/sync.Mutex).Unlock", "internal/race.ReleaseMerge", "(*internal/sync.Mutex).unlockSlow", "internal/sync.fatal", "internal/sync.runtime_Semrelease", "sync/atomic.StoreUint32"], unfollowed := true, recurses := true, named := ["unicode/utf8.first", "unicode/utf8.acceptRanges"], apart := false, laid := [("unicode/utf8.acceptRanges", laid_unicode_utf8_acceptRanges), ("unicode/utf8.first", laid_unicode_utf8_first)] }
def ReferExpandsSaid : Prop := referExpandsRow.holds Tryd.pinned (OpenSpec.ofChange referExpandsSpec)

/-- ITS FALSE NEIGHBOUR: 'it returns false'. Refute it at one input. -/
def referExpandsWrong : ChangeSpec := { name := "referExpands", fn := fun _ => fun
  | [d1, d2] => { results := [.lit (.bool false)], args := [d1, d2] }
  | _ => none }
def ReferExpandsWrongFalsely : Prop := referExpandsRow.holds Tryd.pinned (OpenSpec.ofChange referExpandsWrong)

/-- 'lecternlaw02.ReferNumbers': WHATEVER THE INPUT: true; the input reads as it did. -/
def referNumbersSpec : ChangeSpec := { name := "referNumbers", fn := fun _ => fun
  | [d1, d2, d3] => { results := [.lit (.bool true)], args := [d1, d2, d3] }
  | _ => none }
def referNumbersRow : OpenClaim := { program := "ytdjehimkijlhgaadoor", sum := "aff6a17e0f8bdd508dd5c6a94aa1977aacb2f9b8fb6cc0029a0562b7f47fadf5", func := "lectern/lecternlaw02.ReferNumbers", spec := "referNumbers", inPlace := ["internal/bytealg.IndexByte", "sync/atomic.LoadUint32", "(*internal/sync.Mutex).Lock", "internal/race.Disable", "sync/atomic.CompareAndSwapInt32", "internal/race.Enable", "internal/race.Acquire", "(*internal/sync.Mutex).lockSlow", "internal/sync.runtime_canSpin", "internal/sync.runtime_doSpin", "internal/sync.throw", "internal/sync.runtime_nanotime", "internal/sync.runtime_SemacquireMutex", "sync/atomic.AddInt32", "(*internal/sync.Mutex).Unlock", "internal/race.ReleaseMerge", "(*internal/sync.Mutex).unlockSlow", "internal/sync.fatal", "internal/sync.runtime_Semrelease", "sync/atomic.StoreUint32"], unfollowed := true, recurses := true, named := ["unicode/utf8.first", "unicode/utf8.acceptRanges"], apart := false, laid := [("unicode/utf8.acceptRanges", laid_unicode_utf8_acceptRanges), ("unicode/utf8.first", laid_unicode_utf8_first)] }
def ReferNumbersSaid : Prop := referNumbersRow.holds Tryd.pinned (OpenSpec.ofChange referNumbersSpec)

/-- ITS FALSE NEIGHBOUR: 'it returns false'. Refute it at one input. -/
def referNumbersWrong : ChangeSpec := { name := "referNumbers", fn := fun _ => fun
  | [d1, d2, d3] => { results := [.lit (.bool false)], args := [d1, d2, d3] }
  | _ => none }
def ReferNumbersWrongFalsely : Prop := referNumbersRow.holds Tryd.pinned (OpenSpec.ofChange referNumbersWrong)

/-- 'lecternlaw02.ReferJoins': WHATEVER THE INPUT: true; the input reads as it did. -/
def referJoinsSpec : ChangeSpec := { name := "referJoins", fn := fun _ => fun
  | [d1, d2] => { results := [.lit (.bool true)], args := [d1, d2] }
  | _ => none }
def referJoinsRow : OpenClaim := { program := "ytdjehimkijlhgaadoor", sum := "aff6a17e0f8bdd508dd5c6a94aa1977aacb2f9b8fb6cc0029a0562b7f47fadf5", func := "lectern/lecternlaw02.ReferJoins", spec := "referJoins", inPlace := ["internal/bytealg.IndexByte", "sync/atomic.LoadUint32", "(*internal/sync.Mutex).Lock", "internal/race.Disable", "sync/atomic.CompareAndSwapInt32", "internal/race.Enable", "internal/race.Acquire", "(*internal/sync.Mutex).lockSlow", "internal/sync.runtime_canSpin", "internal/sync.runtime_doSpin", "internal/sync.throw", "internal/sync.runtime_nanotime", "internal/sync.runtime_SemacquireMutex", "sync/atomic.AddInt32", "(*internal/sync.Mutex).Unlock", "internal/race.ReleaseMerge", "(*internal/sync.Mutex).unlockSlow", "internal/sync.fatal", "internal/sync.runtime_Semrelease", "sync/atomic.StoreUint32"], unfollowed := true, recurses := true, named := ["unicode/utf8.first", "unicode/utf8.acceptRanges"], apart := false, laid := [("unicode/utf8.acceptRanges", laid_unicode_utf8_acceptRanges), ("unicode/utf8.first", laid_unicode_utf8_first)] }
def ReferJoinsSaid : Prop := referJoinsRow.holds Tryd.pinned (OpenSpec.ofChange referJoinsSpec)

/-- ITS FALSE NEIGHBOUR: 'it returns false'. Refute it at one input. -/
def referJoinsWrong : ChangeSpec := { name := "referJoins", fn := fun _ => fun
  | [d1, d2] => { results := [.lit (.bool false)], args := [d1, d2] }
  | _ => none }
def ReferJoinsWrongFalsely : Prop := referJoinsRow.holds Tryd.pinned (OpenSpec.ofChange referJoinsWrong)

/-- 'lecternlaw02.ReferWrites': WHATEVER THE INPUT: true; the input reads as it did. -/
def referWritesSpec : ChangeSpec := { name := "referWrites", fn := fun _ => fun
  | [d] => { results := [.lit (.bool true)], args := [d] }
  | _ => none }
def referWritesRow : OpenClaim := { program := "ytdjehimkijlhgaadoor", sum := "aff6a17e0f8bdd508dd5c6a94aa1977aacb2f9b8fb6cc0029a0562b7f47fadf5", func := "lectern/lecternlaw02.ReferWrites", spec := "referWrites", inPlace := ["internal/bytealg.IndexByte", "sync/atomic.LoadUint32", "(*internal/sync.Mutex).Lock", "internal/race.Disable", "sync/atomic.CompareAndSwapInt32", "internal/race.Enable", "internal/race.Acquire", "(*internal/sync.Mutex).lockSlow", "internal/sync.runtime_canSpin", "internal/sync.runtime_doSpin", "internal/sync.throw", "internal/sync.runtime_nanotime", "internal/sync.runtime_SemacquireMutex", "sync/atomic.AddInt32", "(*internal/sync.Mutex).Unlock", "internal/race.ReleaseMerge", "(*internal/sync.Mutex).unlockSlow", "internal/sync.fatal", "internal/sync.runtime_Semrelease", "sync/atomic.StoreUint32"], unfollowed := true, recurses := true, named := ["unicode/utf8.first", "unicode/utf8.acceptRanges"], apart := false, laid := [("unicode/utf8.acceptRanges", laid_unicode_utf8_acceptRanges), ("unicode/utf8.first", laid_unicode_utf8_first)] }
def ReferWritesSaid : Prop := referWritesRow.holds Tryd.pinned (OpenSpec.ofChange referWritesSpec)

/-- ITS FALSE NEIGHBOUR: 'it returns false'. Refute it at one input. -/
def referWritesWrong : ChangeSpec := { name := "referWrites", fn := fun _ => fun
  | [d] => { results := [.lit (.bool false)], args := [d] }
  | _ => none }
def ReferWritesWrongFalsely : Prop := referWritesRow.holds Tryd.pinned (OpenSpec.ofChange referWritesWrong)

/-- 'lecternlaw02.ReferPlain': WHATEVER THE INPUT: true; the input reads as it did. -/
def referPlainSpec : ChangeSpec := { name := "referPlain", fn := fun _ => fun
  | [d] => { results := [.lit (.bool true)], args := [d] }
  | _ => none }
def referPlainRow : OpenClaim := { program := "ytdjehimkijlhgaadoor", sum := "aff6a17e0f8bdd508dd5c6a94aa1977aacb2f9b8fb6cc0029a0562b7f47fadf5", func := "lectern/lecternlaw02.ReferPlain", spec := "referPlain", inPlace := ["internal/bytealg.IndexByte", "sync/atomic.LoadUint32", "(*internal/sync.Mutex).Lock", "internal/race.Disable", "sync/atomic.CompareAndSwapInt32", "internal/race.Enable", "internal/race.Acquire", "(*internal/sync.Mutex).lockSlow", "internal/sync.runtime_canSpin", "internal/sync.runtime_doSpin", "internal/sync.throw", "internal/sync.runtime_nanotime", "internal/sync.runtime_SemacquireMutex", "sync/atomic.AddInt32", "(*internal/sync.Mutex).Unlock", "internal/race.ReleaseMerge", "(*internal/sync.Mutex).unlockSlow", "internal/sync.fatal", "internal/sync.runtime_Semrelease", "sync/atomic.StoreUint32"], unfollowed := true, recurses := true, named := ["unicode/utf8.first", "unicode/utf8.acceptRanges"], apart := false, laid := [("unicode/utf8.acceptRanges", laid_unicode_utf8_acceptRanges), ("unicode/utf8.first", laid_unicode_utf8_first)] }
def ReferPlainSaid : Prop := referPlainRow.holds Tryd.pinned (OpenSpec.ofChange referPlainSpec)

/-- ITS FALSE NEIGHBOUR: 'it returns false'. Refute it at one input. -/
def referPlainWrong : ChangeSpec := { name := "referPlain", fn := fun _ => fun
  | [d] => { results := [.lit (.bool false)], args := [d] }
  | _ => none }
def ReferPlainWrongFalsely : Prop := referPlainRow.holds Tryd.pinned (OpenSpec.ofChange referPlainWrong)

/-- 'lecternlaw02.ReferBack': WHATEVER THE INPUT: true; the input reads as it did. -/
def referBackSpec : ChangeSpec := { name := "referBack", fn := fun _ => fun
  | [d] => { results := [.lit (.bool true)], args := [d] }
  | _ => none }
def referBackRow : OpenClaim := { program := "ytdjehimkijlhgaadoor", sum := "aff6a17e0f8bdd508dd5c6a94aa1977aacb2f9b8fb6cc0029a0562b7f47fadf5", func := "lectern/lecternlaw02.ReferBack", spec := "referBack", inPlace := ["internal/bytealg.IndexByte", "sync/atomic.LoadUint32", "(*internal/sync.Mutex).Lock", "internal/race.Disable", "sync/atomic.CompareAndSwapInt32", "internal/race.Enable", "internal/race.Acquire", "(*internal/sync.Mutex).lockSlow", "internal/sync.runtime_canSpin", "internal/sync.runtime_doSpin", "internal/sync.throw", "internal/sync.runtime_nanotime", "internal/sync.runtime_SemacquireMutex", "sync/atomic.AddInt32", "(*internal/sync.Mutex).Unlock", "internal/race.ReleaseMerge", "(*internal/sync.Mutex).unlockSlow", "internal/sync.fatal", "internal/sync.runtime_Semrelease", "sync/atomic.StoreUint32"], unfollowed := true, recurses := true, named := ["unicode/utf8.first", "unicode/utf8.acceptRanges"], apart := false, laid := [("unicode/utf8.acceptRanges", laid_unicode_utf8_acceptRanges), ("unicode/utf8.first", laid_unicode_utf8_first)] }
def ReferBackSaid : Prop := referBackRow.holds Tryd.pinned (OpenSpec.ofChange referBackSpec)

/-- ITS FALSE NEIGHBOUR: 'it returns false'. Refute it at one input. -/
def referBackWrong : ChangeSpec := { name := "referBack", fn := fun _ => fun
  | [d] => { results := [.lit (.bool false)], args := [d] }
  | _ => none }
def ReferBackWrongFalsely : Prop := referBackRow.holds Tryd.pinned (OpenSpec.ofChange referBackWrong)

/-- 'lecternlaw04.ScopeAttrs': WHATEVER THE INPUT: true; the input reads as it did. -/
def scopeAttrsSpec : ChangeSpec := { name := "scopeAttrs", fn := fun _ => fun
  | [d1, d2] => { results := [.lit (.bool true)], args := [d1, d2] }
  | _ => none }
def scopeAttrsRow : OpenClaim := { program := "ytdjehimkijlhgaadoor", sum := "aff6a17e0f8bdd508dd5c6a94aa1977aacb2f9b8fb6cc0029a0562b7f47fadf5", func := "lectern/lecternlaw04.ScopeAttrs", spec := "scopeAttrs", inPlace := ["internal/bytealg.IndexByteString", "internal/bytealg.IndexString"], unfollowed := true, recurses := true, named := ["internal/bytealg.MaxLen", "unicode/utf8.first", "unicode/utf8.acceptRanges"], apart := false, laid := [("unicode/utf8.acceptRanges", laid_unicode_utf8_acceptRanges), ("unicode/utf8.first", laid_unicode_utf8_first)] }
def ScopeAttrsSaid : Prop := scopeAttrsRow.holds Tryd.pinned (OpenSpec.ofChange scopeAttrsSpec)

/-- ITS FALSE NEIGHBOUR: 'it returns false'. Refute it at one input. -/
def scopeAttrsWrong : ChangeSpec := { name := "scopeAttrs", fn := fun _ => fun
  | [d1, d2] => { results := [.lit (.bool false)], args := [d1, d2] }
  | _ => none }
def ScopeAttrsWrongFalsely : Prop := scopeAttrsRow.holds Tryd.pinned (OpenSpec.ofChange scopeAttrsWrong)

/-- 'lecternlaw04.ScopeRenames': WHATEVER THE INPUT: true; the input reads as it did. -/
def scopeRenamesSpec : ChangeSpec := { name := "scopeRenames", fn := fun _ => fun
  | [d1, d2, d3, d4] => { results := [.lit (.bool true)], args := [d1, d2, d3, d4] }
  | _ => none }
def scopeRenamesRow : OpenClaim := { program := "ytdjehimkijlhgaadoor", sum := "aff6a17e0f8bdd508dd5c6a94aa1977aacb2f9b8fb6cc0029a0562b7f47fadf5", func := "lectern/lecternlaw04.ScopeRenames", spec := "scopeRenames", inPlace := ["internal/bytealg.IndexByteString", "internal/bytealg.IndexString"], unfollowed := true, recurses := true, named := ["internal/bytealg.MaxLen", "unicode/utf8.first", "unicode/utf8.acceptRanges"], apart := false, laid := [("unicode/utf8.acceptRanges", laid_unicode_utf8_acceptRanges), ("unicode/utf8.first", laid_unicode_utf8_first)] }
def ScopeRenamesSaid : Prop := scopeRenamesRow.holds Tryd.pinned (OpenSpec.ofChange scopeRenamesSpec)

/-- ITS FALSE NEIGHBOUR: 'it returns false'. Refute it at one input. -/
def scopeRenamesWrong : ChangeSpec := { name := "scopeRenames", fn := fun _ => fun
  | [d1, d2, d3, d4] => { results := [.lit (.bool false)], args := [d1, d2, d3, d4] }
  | _ => none }
def ScopeRenamesWrongFalsely : Prop := scopeRenamesRow.holds Tryd.pinned (OpenSpec.ofChange scopeRenamesWrong)

/-- 'lecternlaw04.ScopeOrders': WHATEVER THE INPUT: true; the input reads as it did. -/
def scopeOrdersSpec : ChangeSpec := { name := "scopeOrders", fn := fun _ => fun
  | [d1, d2] => { results := [.lit (.bool true)], args := [d1, d2] }
  | _ => none }
def scopeOrdersRow : OpenClaim := { program := "ytdjehimkijlhgaadoor", sum := "aff6a17e0f8bdd508dd5c6a94aa1977aacb2f9b8fb6cc0029a0562b7f47fadf5", func := "lectern/lecternlaw04.ScopeOrders", spec := "scopeOrders", inPlace := ["internal/bytealg.IndexByteString", "internal/bytealg.IndexString"], unfollowed := true, recurses := true, named := ["internal/bytealg.MaxLen", "unicode/utf8.first", "unicode/utf8.acceptRanges"], apart := false, laid := [("unicode/utf8.acceptRanges", laid_unicode_utf8_acceptRanges), ("unicode/utf8.first", laid_unicode_utf8_first)] }
def ScopeOrdersSaid : Prop := scopeOrdersRow.holds Tryd.pinned (OpenSpec.ofChange scopeOrdersSpec)

/-- ITS FALSE NEIGHBOUR: 'it returns false'. Refute it at one input. -/
def scopeOrdersWrong : ChangeSpec := { name := "scopeOrders", fn := fun _ => fun
  | [d1, d2] => { results := [.lit (.bool false)], args := [d1, d2] }
  | _ => none }
def ScopeOrdersWrongFalsely : Prop := scopeOrdersRow.holds Tryd.pinned (OpenSpec.ofChange scopeOrdersWrong)

/-- 'lecternlaw04.ScopeOpens': WHATEVER THE INPUT: true; the input reads as it did. -/
def scopeOpensSpec : ChangeSpec := { name := "scopeOpens", fn := fun _ => fun
  | [d1, d2] => { results := [.lit (.bool true)], args := [d1, d2] }
  | _ => none }
def scopeOpensRow : OpenClaim := { program := "ytdjehimkijlhgaadoor", sum := "aff6a17e0f8bdd508dd5c6a94aa1977aacb2f9b8fb6cc0029a0562b7f47fadf5", func := "lectern/lecternlaw04.ScopeOpens", spec := "scopeOpens", inPlace := ["internal/bytealg.IndexByteString", "internal/bytealg.IndexString"], unfollowed := true, recurses := true, named := ["internal/bytealg.MaxLen", "unicode/utf8.first", "unicode/utf8.acceptRanges"], apart := false, laid := [("unicode/utf8.acceptRanges", laid_unicode_utf8_acceptRanges), ("unicode/utf8.first", laid_unicode_utf8_first)] }
def ScopeOpensSaid : Prop := scopeOpensRow.holds Tryd.pinned (OpenSpec.ofChange scopeOpensSpec)

/-- ITS FALSE NEIGHBOUR: 'it returns false'. Refute it at one input. -/
def scopeOpensWrong : ChangeSpec := { name := "scopeOpens", fn := fun _ => fun
  | [d1, d2] => { results := [.lit (.bool false)], args := [d1, d2] }
  | _ => none }
def ScopeOpensWrongFalsely : Prop := scopeOpensRow.holds Tryd.pinned (OpenSpec.ofChange scopeOpensWrong)

/- THE SECOND FORM. 'bulk': how many values and letters a reading holds, each counted each time it is reached (what is shared counts as often as it is met; a slice's spare places count too). A statement '..UptoSaid' is the law's where the arguments, and the package variables that the reading takes, are together of bulk at most 1048576: NARROWER than '..Said'. Prove '..Said' where nothing that the law and all that it calls make is longer than what came in: it says more and counts as full. Else prove '..UptoSaid'. A law counts once. -/
mutual
def uptoBulk {H : Type} : DataW H → Nat
  | .lit (.string bytes) => bytes.length + 1
  | .lit _ => 1
  | .nil => 1
  | .ptr d => uptoBulk d + 1
  | .slice elems spare => uptoBulkAll elems + uptoBulkAll spare + 1
  | .agg parts => uptoBulkAll parts + 1
  | .iface _ d => uptoBulk d + 1
  | .map entries => uptoBulkEntries entries + 1
  | .held _ => 1
def uptoBulkAll {H : Type} : List (DataW H) → Nat
  | [] => 0
  | d :: r => uptoBulk d + uptoBulkAll r
def uptoBulkEntries {H : Type} : List (Lit × DataW H) → Nat
  | [] => 0
  | x :: r => uptoBulkEntry x + uptoBulkEntries r
def uptoBulkEntry {H : Type} : Lit × DataW H → Nat
  | (.string bytes, d) => bytes.length + uptoBulk d + 1
  | (_, d) => uptoBulk d + 1
 end
def uptoSmall : (H : Type) → List (DataW H) → Bool := fun _ ds => decide (uptoBulkAll ds ≤ 1048576)
def OpenSpec.upto (s : _root_.Go.ChangeSpec) : _root_.Go.OpenSpec := { _root_.Go.OpenSpec.ofChange s with cond := some uptoSmall }

/-- 'lecternlaw04.ScopeNames', WHERE WHAT IT READS IS OF BULK AT MOST 1048576: true; the input reads as it did. -/
def scopeNamesUptoRow : OpenClaim := { program := "ytdjehimkijlhgaadoor", sum := "aff6a17e0f8bdd508dd5c6a94aa1977aacb2f9b8fb6cc0029a0562b7f47fadf5", func := "lectern/lecternlaw04.ScopeNames", spec := "scopeNames", inPlace := ["internal/bytealg.IndexByteString", "internal/bytealg.IndexString"], unfollowed := true, recurses := true, named := ["internal/bytealg.MaxLen", "unicode/utf8.first", "unicode/utf8.acceptRanges"], apart := false, laid := [("unicode/utf8.acceptRanges", laid_unicode_utf8_acceptRanges), ("unicode/utf8.first", laid_unicode_utf8_first)], narrowed := true }
def ScopeNamesUptoSaid : Prop := scopeNamesUptoRow.holds Tryd.pinned (OpenSpec.upto scopeNamesSpec)

/-- 'lecternlaw02.ReferExpands', WHERE WHAT IT READS IS OF BULK AT MOST 1048576: true; the input reads as it did. -/
def referExpandsUptoRow : OpenClaim := { program := "ytdjehimkijlhgaadoor", sum := "aff6a17e0f8bdd508dd5c6a94aa1977aacb2f9b8fb6cc0029a0562b7f47fadf5", func := "lectern/lecternlaw02.ReferExpands", spec := "referExpands", inPlace := ["internal/bytealg.IndexByte", "sync/atomic.LoadUint32", "(*internal/sync.Mutex).Lock", "internal/race.Disable", "sync/atomic.CompareAndSwapInt32", "internal/race.Enable", "internal/race.Acquire", "(*internal/sync.Mutex).lockSlow", "internal/sync.runtime_canSpin", "internal/sync.runtime_doSpin", "internal/sync.throw", "internal/sync.runtime_nanotime", "internal/sync.runtime_SemacquireMutex", "sync/atomic.AddInt32", "(*internal/sync.Mutex).Unlock", "internal/race.ReleaseMerge", "(*internal/sync.Mutex).unlockSlow", "internal/sync.fatal", "internal/sync.runtime_Semrelease", "sync/atomic.StoreUint32"], unfollowed := true, recurses := true, named := ["unicode/utf8.first", "unicode/utf8.acceptRanges"], apart := false, laid := [("unicode/utf8.acceptRanges", laid_unicode_utf8_acceptRanges), ("unicode/utf8.first", laid_unicode_utf8_first)], narrowed := true }
def ReferExpandsUptoSaid : Prop := referExpandsUptoRow.holds Tryd.pinned (OpenSpec.upto referExpandsSpec)

/-- 'lecternlaw02.ReferNumbers', WHERE WHAT IT READS IS OF BULK AT MOST 1048576: true; the input reads as it did. -/
def referNumbersUptoRow : OpenClaim := { program := "ytdjehimkijlhgaadoor", sum := "aff6a17e0f8bdd508dd5c6a94aa1977aacb2f9b8fb6cc0029a0562b7f47fadf5", func := "lectern/lecternlaw02.ReferNumbers", spec := "referNumbers", inPlace := ["internal/bytealg.IndexByte", "sync/atomic.LoadUint32", "(*internal/sync.Mutex).Lock", "internal/race.Disable", "sync/atomic.CompareAndSwapInt32", "internal/race.Enable", "internal/race.Acquire", "(*internal/sync.Mutex).lockSlow", "internal/sync.runtime_canSpin", "internal/sync.runtime_doSpin", "internal/sync.throw", "internal/sync.runtime_nanotime", "internal/sync.runtime_SemacquireMutex", "sync/atomic.AddInt32", "(*internal/sync.Mutex).Unlock", "internal/race.ReleaseMerge", "(*internal/sync.Mutex).unlockSlow", "internal/sync.fatal", "internal/sync.runtime_Semrelease", "sync/atomic.StoreUint32"], unfollowed := true, recurses := true, named := ["unicode/utf8.first", "unicode/utf8.acceptRanges"], apart := false, laid := [("unicode/utf8.acceptRanges", laid_unicode_utf8_acceptRanges), ("unicode/utf8.first", laid_unicode_utf8_first)], narrowed := true }
def ReferNumbersUptoSaid : Prop := referNumbersUptoRow.holds Tryd.pinned (OpenSpec.upto referNumbersSpec)

/-- 'lecternlaw02.ReferJoins', WHERE WHAT IT READS IS OF BULK AT MOST 1048576: true; the input reads as it did. -/
def referJoinsUptoRow : OpenClaim := { program := "ytdjehimkijlhgaadoor", sum := "aff6a17e0f8bdd508dd5c6a94aa1977aacb2f9b8fb6cc0029a0562b7f47fadf5", func := "lectern/lecternlaw02.ReferJoins", spec := "referJoins", inPlace := ["internal/bytealg.IndexByte", "sync/atomic.LoadUint32", "(*internal/sync.Mutex).Lock", "internal/race.Disable", "sync/atomic.CompareAndSwapInt32", "internal/race.Enable", "internal/race.Acquire", "(*internal/sync.Mutex).lockSlow", "internal/sync.runtime_canSpin", "internal/sync.runtime_doSpin", "internal/sync.throw", "internal/sync.runtime_nanotime", "internal/sync.runtime_SemacquireMutex", "sync/atomic.AddInt32", "(*internal/sync.Mutex).Unlock", "internal/race.ReleaseMerge", "(*internal/sync.Mutex).unlockSlow", "internal/sync.fatal", "internal/sync.runtime_Semrelease", "sync/atomic.StoreUint32"], unfollowed := true, recurses := true, named := ["unicode/utf8.first", "unicode/utf8.acceptRanges"], apart := false, laid := [("unicode/utf8.acceptRanges", laid_unicode_utf8_acceptRanges), ("unicode/utf8.first", laid_unicode_utf8_first)], narrowed := true }
def ReferJoinsUptoSaid : Prop := referJoinsUptoRow.holds Tryd.pinned (OpenSpec.upto referJoinsSpec)

/-- 'lecternlaw02.ReferWrites', WHERE WHAT IT READS IS OF BULK AT MOST 1048576: true; the input reads as it did. -/
def referWritesUptoRow : OpenClaim := { program := "ytdjehimkijlhgaadoor", sum := "aff6a17e0f8bdd508dd5c6a94aa1977aacb2f9b8fb6cc0029a0562b7f47fadf5", func := "lectern/lecternlaw02.ReferWrites", spec := "referWrites", inPlace := ["internal/bytealg.IndexByte", "sync/atomic.LoadUint32", "(*internal/sync.Mutex).Lock", "internal/race.Disable", "sync/atomic.CompareAndSwapInt32", "internal/race.Enable", "internal/race.Acquire", "(*internal/sync.Mutex).lockSlow", "internal/sync.runtime_canSpin", "internal/sync.runtime_doSpin", "internal/sync.throw", "internal/sync.runtime_nanotime", "internal/sync.runtime_SemacquireMutex", "sync/atomic.AddInt32", "(*internal/sync.Mutex).Unlock", "internal/race.ReleaseMerge", "(*internal/sync.Mutex).unlockSlow", "internal/sync.fatal", "internal/sync.runtime_Semrelease", "sync/atomic.StoreUint32"], unfollowed := true, recurses := true, named := ["unicode/utf8.first", "unicode/utf8.acceptRanges"], apart := false, laid := [("unicode/utf8.acceptRanges", laid_unicode_utf8_acceptRanges), ("unicode/utf8.first", laid_unicode_utf8_first)], narrowed := true }
def ReferWritesUptoSaid : Prop := referWritesUptoRow.holds Tryd.pinned (OpenSpec.upto referWritesSpec)

/-- 'lecternlaw02.ReferPlain', WHERE WHAT IT READS IS OF BULK AT MOST 1048576: true; the input reads as it did. -/
def referPlainUptoRow : OpenClaim := { program := "ytdjehimkijlhgaadoor", sum := "aff6a17e0f8bdd508dd5c6a94aa1977aacb2f9b8fb6cc0029a0562b7f47fadf5", func := "lectern/lecternlaw02.ReferPlain", spec := "referPlain", inPlace := ["internal/bytealg.IndexByte", "sync/atomic.LoadUint32", "(*internal/sync.Mutex).Lock", "internal/race.Disable", "sync/atomic.CompareAndSwapInt32", "internal/race.Enable", "internal/race.Acquire", "(*internal/sync.Mutex).lockSlow", "internal/sync.runtime_canSpin", "internal/sync.runtime_doSpin", "internal/sync.throw", "internal/sync.runtime_nanotime", "internal/sync.runtime_SemacquireMutex", "sync/atomic.AddInt32", "(*internal/sync.Mutex).Unlock", "internal/race.ReleaseMerge", "(*internal/sync.Mutex).unlockSlow", "internal/sync.fatal", "internal/sync.runtime_Semrelease", "sync/atomic.StoreUint32"], unfollowed := true, recurses := true, named := ["unicode/utf8.first", "unicode/utf8.acceptRanges"], apart := false, laid := [("unicode/utf8.acceptRanges", laid_unicode_utf8_acceptRanges), ("unicode/utf8.first", laid_unicode_utf8_first)], narrowed := true }
def ReferPlainUptoSaid : Prop := referPlainUptoRow.holds Tryd.pinned (OpenSpec.upto referPlainSpec)

/-- 'lecternlaw02.ReferBack', WHERE WHAT IT READS IS OF BULK AT MOST 1048576: true; the input reads as it did. -/
def referBackUptoRow : OpenClaim := { program := "ytdjehimkijlhgaadoor", sum := "aff6a17e0f8bdd508dd5c6a94aa1977aacb2f9b8fb6cc0029a0562b7f47fadf5", func := "lectern/lecternlaw02.ReferBack", spec := "referBack", inPlace := ["internal/bytealg.IndexByte", "sync/atomic.LoadUint32", "(*internal/sync.Mutex).Lock", "internal/race.Disable", "sync/atomic.CompareAndSwapInt32", "internal/race.Enable", "internal/race.Acquire", "(*internal/sync.Mutex).lockSlow", "internal/sync.runtime_canSpin", "internal/sync.runtime_doSpin", "internal/sync.throw", "internal/sync.runtime_nanotime", "internal/sync.runtime_SemacquireMutex", "sync/atomic.AddInt32", "(*internal/sync.Mutex).Unlock", "internal/race.ReleaseMerge", "(*internal/sync.Mutex).unlockSlow", "internal/sync.fatal", "internal/sync.runtime_Semrelease", "sync/atomic.StoreUint32"], unfollowed := true, recurses := true, named := ["unicode/utf8.first", "unicode/utf8.acceptRanges"], apart := false, laid := [("unicode/utf8.acceptRanges", laid_unicode_utf8_acceptRanges), ("unicode/utf8.first", laid_unicode_utf8_first)], narrowed := true }
def ReferBackUptoSaid : Prop := referBackUptoRow.holds Tryd.pinned (OpenSpec.upto referBackSpec)

/-- 'lecternlaw04.ScopeAttrs', WHERE WHAT IT READS IS OF BULK AT MOST 1048576: true; the input reads as it did. -/
def scopeAttrsUptoRow : OpenClaim := { program := "ytdjehimkijlhgaadoor", sum := "aff6a17e0f8bdd508dd5c6a94aa1977aacb2f9b8fb6cc0029a0562b7f47fadf5", func := "lectern/lecternlaw04.ScopeAttrs", spec := "scopeAttrs", inPlace := ["internal/bytealg.IndexByteString", "internal/bytealg.IndexString"], unfollowed := true, recurses := true, named := ["internal/bytealg.MaxLen", "unicode/utf8.first", "unicode/utf8.acceptRanges"], apart := false, laid := [("unicode/utf8.acceptRanges", laid_unicode_utf8_acceptRanges), ("unicode/utf8.first", laid_unicode_utf8_first)], narrowed := true }
def ScopeAttrsUptoSaid : Prop := scopeAttrsUptoRow.holds Tryd.pinned (OpenSpec.upto scopeAttrsSpec)

/-- 'lecternlaw04.ScopeRenames', WHERE WHAT IT READS IS OF BULK AT MOST 1048576: true; the input reads as it did. -/
def scopeRenamesUptoRow : OpenClaim := { program := "ytdjehimkijlhgaadoor", sum := "aff6a17e0f8bdd508dd5c6a94aa1977aacb2f9b8fb6cc0029a0562b7f47fadf5", func := "lectern/lecternlaw04.ScopeRenames", spec := "scopeRenames", inPlace := ["internal/bytealg.IndexByteString", "internal/bytealg.IndexString"], unfollowed := true, recurses := true, named := ["internal/bytealg.MaxLen", "unicode/utf8.first", "unicode/utf8.acceptRanges"], apart := false, laid := [("unicode/utf8.acceptRanges", laid_unicode_utf8_acceptRanges), ("unicode/utf8.first", laid_unicode_utf8_first)], narrowed := true }
def ScopeRenamesUptoSaid : Prop := scopeRenamesUptoRow.holds Tryd.pinned (OpenSpec.upto scopeRenamesSpec)

/-- 'lecternlaw04.ScopeOrders', WHERE WHAT IT READS IS OF BULK AT MOST 1048576: true; the input reads as it did. -/
def scopeOrdersUptoRow : OpenClaim := { program := "ytdjehimkijlhgaadoor", sum := "aff6a17e0f8bdd508dd5c6a94aa1977aacb2f9b8fb6cc0029a0562b7f47fadf5", func := "lectern/lecternlaw04.ScopeOrders", spec := "scopeOrders", inPlace := ["internal/bytealg.IndexByteString", "internal/bytealg.IndexString"], unfollowed := true, recurses := true, named := ["internal/bytealg.MaxLen", "unicode/utf8.first", "unicode/utf8.acceptRanges"], apart := false, laid := [("unicode/utf8.acceptRanges", laid_unicode_utf8_acceptRanges), ("unicode/utf8.first", laid_unicode_utf8_first)], narrowed := true }
def ScopeOrdersUptoSaid : Prop := scopeOrdersUptoRow.holds Tryd.pinned (OpenSpec.upto scopeOrdersSpec)

/-- 'lecternlaw04.ScopeOpens', WHERE WHAT IT READS IS OF BULK AT MOST 1048576: true; the input reads as it did. -/
def scopeOpensUptoRow : OpenClaim := { program := "ytdjehimkijlhgaadoor", sum := "aff6a17e0f8bdd508dd5c6a94aa1977aacb2f9b8fb6cc0029a0562b7f47fadf5", func := "lectern/lecternlaw04.ScopeOpens", spec := "scopeOpens", inPlace := ["internal/bytealg.IndexByteString", "internal/bytealg.IndexString"], unfollowed := true, recurses := true, named := ["internal/bytealg.MaxLen", "unicode/utf8.first", "unicode/utf8.acceptRanges"], apart := false, laid := [("unicode/utf8.acceptRanges", laid_unicode_utf8_acceptRanges), ("unicode/utf8.first", laid_unicode_utf8_first)], narrowed := true }
def ScopeOpensUptoSaid : Prop := scopeOpensUptoRow.holds Tryd.pinned (OpenSpec.upto scopeOpensSpec)

end Rows
end Go.Proofs.YtdjehimkijlhgaaDoor
