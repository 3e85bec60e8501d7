/- What the conditions of these functions are, reckoned by the reading; printed by program. -/
import Derived.Test.YtdjehimkijlhgaaDoorNm
import Derived.KernelRfl
set_option maxRecDepth 100000
set_option linter.unusedVariables false
namespace Go.Proofs.YtdjehimkijlhgaaDoor
open Go Go.Vc

/-- (sync.Once).Do -/
def VC_sync_Once_Do (o0 : Option Addr) (f1 : Value) (w : World) (J : World → Prop) : Prop :=
  nonNil o0 fun a5 =>
  callJ Tryd.prog fn_sync_atomic_Bool_Load #[.pointer (some a5)] w [.one .bool] fun (r7 : Bool) (w1 : World) =>
  condB (!r7) (
  callJ Tryd.prog fn_sync_Once_doSlow #[.pointer o0, f1] w1 [] fun (w2 : World) =>
  J w2) (
  J w1)
def ann_sync_Once_Do : Ann := .s (.o) (.c (.o) (.o))
theorem eq_sync_Once_Do (o0 : Option Addr) (f1 : Value) (w : World) (J : World → Prop) : vcFun Tryd.prog Tryd.f77 ann_sync_Once_Do [] [.pointer o0, f1] w J = VC_sync_Once_Do o0 f1 w J := by kernel_rfl
theorem c_sync_Once_Do {o0 : Option Addr} {f1 : Value} {w : World} {J : World → Prop} (h : VC_sync_Once_Do o0 f1 w J) : callJ Tryd.prog fn_sync_Once_Do #[.pointer o0, f1] w [] J := vc_calls Tryd.func77 ann_sync_Once_Do (Eq.mpr (eq_sync_Once_Do o0 f1 w J) h)

/-- (sync.Mutex).Lock -/
def VC_sync_Mutex_Lock (m0 : Option Addr) (w : World) (J : World → Prop) : Prop :=
  nonNil m0 fun a3 =>
  callJ Tryd.prog fn_internal_sync_Mutex_Lock #[.pointer (some a3)] w [] fun (w1 : World) =>
  J w1
def ann_sync_Mutex_Lock : Ann := .o
theorem eq_sync_Mutex_Lock (m0 : Option Addr) (w : World) (J : World → Prop) : vcFun Tryd.prog Tryd.f113 ann_sync_Mutex_Lock [] [.pointer m0] w J = VC_sync_Mutex_Lock m0 w J := by kernel_rfl
theorem c_sync_Mutex_Lock {m0 : Option Addr} {w : World} {J : World → Prop} (h : VC_sync_Mutex_Lock m0 w J) : callJ Tryd.prog fn_sync_Mutex_Lock #[.pointer m0] w [] J := vc_calls Tryd.func113 ann_sync_Mutex_Lock (Eq.mpr (eq_sync_Mutex_Lock m0 w J) h)

/-- (sync.Mutex).Unlock -/
def VC_sync_Mutex_Unlock (m0 : Option Addr) (w : World) (J : World → Prop) : Prop :=
  nonNil m0 fun a3 =>
  callJ Tryd.prog fn_internal_sync_Mutex_Unlock #[.pointer (some a3)] w [] fun (w1 : World) =>
  J w1
def ann_sync_Mutex_Unlock : Ann := .o
theorem eq_sync_Mutex_Unlock (m0 : Option Addr) (w : World) (J : World → Prop) : vcFun Tryd.prog Tryd.f114 ann_sync_Mutex_Unlock [] [.pointer m0] w J = VC_sync_Mutex_Unlock m0 w J := by kernel_rfl
theorem c_sync_Mutex_Unlock {m0 : Option Addr} {w : World} {J : World → Prop} (h : VC_sync_Mutex_Unlock m0 w J) : callJ Tryd.prog fn_sync_Mutex_Unlock #[.pointer m0] w [] J := vc_calls Tryd.func114 ann_sync_Mutex_Unlock (Eq.mpr (eq_sync_Mutex_Unlock m0 w J) h)

/-- (sync/atomic.Bool).Load -/
def VC_sync_atomic_Bool_Load (x0 : Option Addr) (w : World) (J : Bool → World → Prop) : Prop :=
  nonNil x0 fun a4 =>
  extJ Tryd.prog fn_sync_atomic_LoadUint32 #[.pointer (some a4)] w [.one (.int .u32)] fun (r6 : Int) (w1 : World) =>
  J (r6 != (0 : Int)) w1
def ann_sync_atomic_Bool_Load : Ann := .s (.o) (.s (.o) (.o))
theorem eq_sync_atomic_Bool_Load (x0 : Option Addr) (w : World) (J : Bool → World → Prop) : vcFun Tryd.prog Tryd.f92 ann_sync_atomic_Bool_Load [.one .bool] [.pointer x0] w J = VC_sync_atomic_Bool_Load x0 w J := by kernel_rfl
theorem c_sync_atomic_Bool_Load {x0 : Option Addr} {w : World} {J : Bool → World → Prop} (h : VC_sync_atomic_Bool_Load x0 w J) : callJ Tryd.prog fn_sync_atomic_Bool_Load #[.pointer x0] w [.one .bool] J := vc_calls Tryd.func92 ann_sync_atomic_Bool_Load (Eq.mpr (eq_sync_atomic_Bool_Load x0 w J) h)

/-- (sync/atomic.Bool).Store -/
def VC_sync_atomic_Bool_Store (x0 : Option Addr) (val1 : Bool) (w : World) (J : World → Prop) : Prop :=
  nonNil x0 fun a5 =>
  callJ Tryd.prog fn_sync_atomic_b32 #[.bool val1] w.drew [.one (.int .u32)] fun (r8 : Int) (w1 : World) =>
  extJ Tryd.prog fn_sync_atomic_StoreUint32 #[.pointer (some a5), .int .u32 r8] w1 [] fun (w2 : World) =>
  J w2
def ann_sync_atomic_Bool_Store : Ann := .d (.take 0 (.take 1 (.take 2 (.take 3 (.eff 4 (.eff 5 (.done) (.none)) (.none))))))
theorem eq_sync_atomic_Bool_Store (x0 : Option Addr) (val1 : Bool) (w : World) (J : World → Prop) : vcFun Tryd.prog Tryd.f115 ann_sync_atomic_Bool_Store [] [.pointer x0, .bool val1] w J = VC_sync_atomic_Bool_Store x0 val1 w J := by kernel_rfl
theorem c_sync_atomic_Bool_Store {x0 : Option Addr} {val1 : Bool} {w : World} {J : World → Prop} (h : VC_sync_atomic_Bool_Store x0 val1 w J) : callJ Tryd.prog fn_sync_atomic_Bool_Store #[.pointer x0, .bool val1] w [] J := vc_calls Tryd.func115 ann_sync_atomic_Bool_Store (Eq.mpr (eq_sync_atomic_Bool_Store x0 val1 w J) h)

/-- sync/atomic.b32 -/
def VC_sync_atomic_b32 (b0 : Bool) (w : World) (J : Int → World → Prop) : Prop :=
  condB b0 (
  J (1 : Int) w) (
  J (0 : Int) w)
def ann_sync_atomic_b32 : Ann := .s (.o) (.s (.s (.o) (.c (.s (.o) (.o)) (.o))) (.s (.o) (.o)))
theorem eq_sync_atomic_b32 (b0 : Bool) (w : World) (J : Int → World → Prop) : vcFun Tryd.prog Tryd.f131 ann_sync_atomic_b32 [.one (.int .u32)] [.bool b0] w J = VC_sync_atomic_b32 b0 w J := by kernel_rfl
theorem c_sync_atomic_b32 {b0 : Bool} {w : World} {J : Int → World → Prop} (h : VC_sync_atomic_b32 b0 w J) : callJ Tryd.prog fn_sync_atomic_b32 #[.bool b0] w [.one (.int .u32)] J := vc_calls Tryd.func131 ann_sync_atomic_b32 (Eq.mpr (eq_sync_atomic_b32 b0 w J) h)

end Go.Proofs.YtdjehimkijlhgaaDoor
