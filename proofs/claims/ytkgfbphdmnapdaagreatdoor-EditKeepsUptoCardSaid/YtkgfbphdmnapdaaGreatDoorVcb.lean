/-
  The reading of the loaded code, second part: operations that make or write memory, calls, pieces of code, and the theorem that it implies 'Calls'.
-/
import Derived.Test.YtkgfbphdmnapdaaGreatDoorVc
import Derived.ScopeJumps
namespace Go.Vc
open Go Go.RowKit

/-! ## Words on integers (what 'intBin' writes out) -/

def bAnd (k : IntKind) (x y : Int) : Int := k.wrap (BitVec.ofInt k.bits x &&& BitVec.ofInt k.bits y).toNat
def bOr (k : IntKind) (x y : Int) : Int := k.wrap (BitVec.ofInt k.bits x ||| BitVec.ofInt k.bits y).toNat
def bAndNot (k : IntKind) (x y : Int) : Int := k.wrap (BitVec.ofInt k.bits x &&& ~~~(BitVec.ofInt k.bits y)).toNat
def shlI (k : IntKind) (x y : Int) : Int := k.wrap (x * 2 ^ (min y.toNat k.bits))
def shrI (k : IntKind) (x y : Int) : Int := x.fdiv (2 ^ (min y.toNat k.bits))

/-! ## Values by their kinds -/

inductive Sh where
  | one (s : Sc) | agg (l : List Sc)

def scs : List Sh → List Sc
  | [] => []
  | .one s :: r => s :: scs r
  | .agg l :: r => l ++ scs r

def packs : List Sh → List Value → List Value
  | [], _ => []
  | .one _ :: r, v :: vs => v :: packs r vs
  | .one _ :: _, [] => []
  | .agg l :: r, vs => .agg ⟨vs.take l.length⟩ :: packs r (vs.drop l.length)

def packR (l : List Sh) (vs : List Value) : Value :=
  match packs l vs with
  | [v] => v
  | us => .tuple ⟨us⟩

def Sc.fn : Sc → Type → Type
  | .int _, X => Int → X
  | .bool, X => Bool → X
  | .ptr, X => Option Addr → X
  | .slice, X => Option Addr → Nat → Nat → X
  | .str, X => ByteArray → X
  | .val, X => Value → X

def JT (R : Type) : List Sc → Type
  | [] => R
  | s :: l => s.fn (JT R l)

def JT.lam {R : Type} : (l : List Sc) → (List Value → R) → JT R l
  | [], F => F []
  | .int k :: l, F => fun n : Int => JT.lam l fun vs => F (.int k n :: vs)
  | .bool :: l, F => fun b : Bool => JT.lam l fun vs => F (.bool b :: vs)
  | .ptr :: l, F => fun p : Option Addr => JT.lam l fun vs => F (.pointer p :: vs)
  | .slice :: l, F => fun (p : Option Addr) (m c : Nat) => JT.lam l fun vs => F (.slice p m c :: vs)
  | .str :: l, F => fun s : ByteArray => JT.lam l fun vs => F (.string s :: vs)
  | .val :: l, F => fun v : Value => JT.lam l fun vs => F (v :: vs)

def JT.app {R : Type} : (l : List Sc) → JT R l → List (Option Value) → (R → Prop) → Prop
  | [], J, [], G => G J
  | .int k :: l, J, some (.int k' n) :: vs, G => (bif k == k' then JT.app l (J n) vs G else False)
  | .bool :: l, J, some (.bool b) :: vs, G => JT.app l (J b) vs G
  | .ptr :: l, J, some (.pointer p) :: vs, G => JT.app l (J p) vs G
  | .slice :: l, J, some (.slice p m c) :: vs, G => JT.app l (J p m c) vs G
  | .str :: l, J, some (.string s) :: vs, G => JT.app l (J s) vs G
  | .val :: l, J, some v :: vs, G => JT.app l (J v) vs G
  | _, _, _, _ => False

def JT.ex {R : Type} : (l : List Sc) → JT R l → (List Value → R → Prop) → Prop
  | [], J, F => F [] J
  | .int k :: l, J, F => ∃ n : Int, JT.ex l (J n) fun vs r => F (.int k n :: vs) r
  | .bool :: l, J, F => ∃ b : Bool, JT.ex l (J b) fun vs r => F (.bool b :: vs) r
  | .ptr :: l, J, F => ∃ p : Option Addr, JT.ex l (J p) fun vs r => F (.pointer p :: vs) r
  | .slice :: l, J, F => ∃ (p : Option Addr) (m c : Nat), JT.ex l (J p m c) fun vs r => F (.slice p m c :: vs) r
  | .str :: l, J, F => ∃ s : ByteArray, JT.ex l (J s) fun vs r => F (.string s :: vs) r
  | .val :: l, J, F => ∃ v : Value, JT.ex l (J v) fun vs r => F (v :: vs) r

def JT.all {R : Type} : (l : List Sc) → JT R l → (List Value → R → Prop) → Prop
  | [], J, F => F [] J
  | .int k :: l, J, F => ∀ n : Int, JT.all l (J n) fun vs r => F (.int k n :: vs) r
  | .bool :: l, J, F => ∀ b : Bool, JT.all l (J b) fun vs r => F (.bool b :: vs) r
  | .ptr :: l, J, F => ∀ p : Option Addr, JT.all l (J p) fun vs r => F (.pointer p :: vs) r
  | .slice :: l, J, F => ∀ (p : Option Addr) (m c : Nat), JT.all l (J p m c) fun vs r => F (.slice p m c :: vs) r
  | .str :: l, J, F => ∀ s : ByteArray, JT.all l (J s) fun vs r => F (.string s :: vs) r
  | .val :: l, J, F => ∀ v : Value, JT.all l (J v) fun vs r => F (v :: vs) r

theorem JT.ex_lam {R : Type} : ∀ {l : List Sc} {G : List Value → R} {F : List Value → R → Prop}, JT.ex l (JT.lam l G) F → ∃ vs, F vs (G vs)
  | [], _, _, h => ⟨_, h⟩
  | .int _ :: _, _, _, ⟨_, h⟩ => let ⟨vs, h⟩ := JT.ex_lam h; ⟨_ :: vs, h⟩
  | .bool :: _, _, _, ⟨_, h⟩ => let ⟨vs, h⟩ := JT.ex_lam h; ⟨_ :: vs, h⟩
  | .ptr :: _, _, _, ⟨_, h⟩ => let ⟨vs, h⟩ := JT.ex_lam h; ⟨_ :: vs, h⟩
  | .slice :: _, _, _, ⟨_, _, _, h⟩ => let ⟨vs, h⟩ := JT.ex_lam h; ⟨_ :: vs, h⟩
  | .str :: _, _, _, ⟨_, h⟩ => let ⟨vs, h⟩ := JT.ex_lam h; ⟨_ :: vs, h⟩
  | .val :: _, _, _, ⟨_, h⟩ => let ⟨vs, h⟩ := JT.ex_lam h; ⟨_ :: vs, h⟩

theorem JT.app_lam {R : Type} : ∀ {l : List Sc} {G : List Value → R} {ovs : List (Option Value)} {Φ : R → Prop}, JT.app l (JT.lam l G) ovs Φ →
    ∃ vs : List Value, ovs = vs.map some ∧ Φ (G vs) := by
  intro l
  induction l with
  | nil =>
    intro G ovs Φ h
    cases ovs with
    | nil => exact ⟨[], rfl, h⟩
    | cons o r => exact h.elim
  | cons s l ih =>
    intro G ovs Φ h
    cases ovs with
    | nil => cases s <;> exact h.elim
    | cons o r =>
      cases o with
      | none => cases s <;> exact h.elim
      | some v =>
        cases s with
        | int k =>
          cases v <;> first | exact h.elim | skip
          rename_i k' n
          simp only [JT.app] at h
          cases hk : (k == k') with
          | false => simp [hk] at h
          | true =>
            simp only [hk, cond_true] at h
            have hk' : k = k' := by simpa using hk
            subst hk'
            obtain ⟨vs, h1, h2⟩ := ih h
            exact ⟨.int k n :: vs, by simp [h1], h2⟩
        | bool => cases v <;> first | exact h.elim | (obtain ⟨vs, h1, h2⟩ := ih h; exact ⟨_ :: vs, by simp [h1], h2⟩)
        | ptr => cases v <;> first | exact h.elim | (obtain ⟨vs, h1, h2⟩ := ih h; exact ⟨_ :: vs, by simp [h1], h2⟩)
        | slice => cases v <;> first | exact h.elim | (obtain ⟨vs, h1, h2⟩ := ih h; exact ⟨_ :: vs, by simp [h1], h2⟩)
        | str => cases v <;> first | exact h.elim | (obtain ⟨vs, h1, h2⟩ := ih h; exact ⟨_ :: vs, by simp [h1], h2⟩)
        | val => obtain ⟨vs, h1, h2⟩ := ih h; exact ⟨v :: vs, by simp [h1], h2⟩

theorem JT.all_app {R : Type} : ∀ {l : List Sc} {I : JT R l} {F : List Value → R → Prop} {ovs : List (Option Value)} {Φ : R → Prop}, JT.all l I F → JT.app l I ovs Φ →
    ∃ (vs : List Value) (r : R), ovs = vs.map some ∧ F vs r ∧ Φ r := by
  intro l
  induction l with
  | nil =>
    intro I F ovs Φ hF h
    cases ovs with
    | nil => exact ⟨[], _, rfl, hF, h⟩
    | cons o r => exact h.elim
  | cons s l ih =>
    intro I F ovs Φ hF h
    cases ovs with
    | nil => cases s <;> exact h.elim
    | cons o r =>
      cases o with
      | none => cases s <;> exact h.elim
      | some v =>
        cases s with
        | int k =>
          cases v <;> first | exact h.elim | skip
          rename_i k' n
          simp only [JT.app] at h
          cases hk : (k == k') with
          | false => simp [hk] at h
          | true =>
            simp only [hk, cond_true] at h
            have hk' : k = k' := by simpa using hk
            subst hk'
            obtain ⟨vs, r', h1, h2, h3⟩ := ih (hF n) h
            exact ⟨.int k n :: vs, r', by simp [h1], h2, h3⟩
        | bool => cases v <;> first | exact h.elim | (obtain ⟨vs, r', h1, h2, h3⟩ := ih (hF _) h; exact ⟨_ :: vs, r', by simp [h1], h2, h3⟩)
        | ptr => cases v <;> first | exact h.elim | (obtain ⟨vs, r', h1, h2, h3⟩ := ih (hF _) h; exact ⟨_ :: vs, r', by simp [h1], h2, h3⟩)
        | slice => cases v <;> first | exact h.elim | (obtain ⟨vs, r', h1, h2, h3⟩ := ih (hF _ _ _) h; exact ⟨_ :: vs, r', by simp [h1], h2, h3⟩)
        | str => cases v <;> first | exact h.elim | (obtain ⟨vs, r', h1, h2, h3⟩ := ih (hF _) h; exact ⟨_ :: vs, r', by simp [h1], h2, h3⟩)
        | val => obtain ⟨vs, r', h1, h2, h3⟩ := ih (hF v) h; exact ⟨v :: vs, r', by simp [h1], h2, h3⟩

theorem JT.ex_of_app : ∀ {l : List Sc} {J : JT (World → Prop) l} {us : List Value} {w : World} {F : List Value → Prop}, JT.app l J (us.map some) (fun r => r w) → F us →
    JT.ex l J fun vs r => F vs ∧ r w := by
  intro l
  induction l with
  | nil =>
    intro J us w F h hF
    cases us with
    | nil => exact ⟨hF, h⟩
    | cons o r => exact h.elim
  | cons s l ih =>
    intro J us w F h hF
    cases us with
    | nil => cases s <;> exact h.elim
    | cons v r =>
      simp only [List.map_cons] at h
      cases s with
      | int k =>
        cases v <;> first | exact h.elim | skip
        rename_i k' n
        simp only [JT.app] at h
        cases hk : (k == k') with
        | false => simp [hk] at h
        | true =>
          simp only [hk, cond_true] at h
          have hk' : k = k' := by simpa using hk
          subst hk'
          exact ⟨n, ih (F := fun vs => F (.int k n :: vs)) h hF⟩
      | bool => cases v <;> first | exact h.elim | exact ⟨_, ih (F := fun vs => F (_ :: vs)) h hF⟩
      | ptr => cases v <;> first | exact h.elim | exact ⟨_, ih (F := fun vs => F (_ :: vs)) h hF⟩
      | slice => cases v <;> first | exact h.elim | exact ⟨_, _, _, ih (F := fun vs => F (_ :: vs)) h hF⟩
      | str => cases v <;> first | exact h.elim | exact ⟨_, ih (F := fun vs => F (_ :: vs)) h hF⟩
      | val => exact ⟨v, ih (F := fun vs => F (v :: vs)) h hF⟩

/-- Another continuation reached by several ways. -/
def withJ {T : Type} (k : T) (A : T → Prop) : Prop := A k
theorem withJ_i {T : Type} {k : T} {A : T → Prop} (h : ∀ J : T, J = k → A J) : withJ k A := h k rfl

/-- A call; its results by their kinds. -/
def callJ (P : Program) (f : FuncId) (args : Array Value) (w : World) (l : List Sh) (J : JT (World → Prop) (scs l)) : Prop :=
  Calls P f args w fun e w' => JT.ex (scs l) J fun vs r => e = .returned (packR l vs) ∧ r w'

def shOf (P : Program) (t : TypeId) : Sh :=
  match P.underlying t with
  | some (.struct _) | some (.array _ _) => .agg (flat P 8 t)
  | _ => .one (scOf P t)
def shsOf (P : Program) (t : TypeId) : List Sh :=
  match P.underlying t with
  | some (.tuple ts) => ts.toList.map (shOf P)
  | _ => [shOf P t]

/-! ## Operations that make or write memory -/

def newB (w : World) (o : Obj) (K : Nat → World → Prop) : Prop := K w.heap.size (w.alloc o)
theorem newB_i {w : World} {o : Obj} {K : Nat → World → Prop} (h : ∀ b w', b = w.heap.size → w' = w.alloc o → K b w') : newB w o K := h _ _ rfl rfl

def zeroC (P : Program) (t : TypeId) : Array Value := match (P.info? t).bind (·.zero) with | some z => z.cells | none => #[]

def setCells (w : World) (a : Addr) : Nat → List Value → World
  | _, [] => w
  | i, v :: l => setCells (w.setCell (a.add i) v) a (i + 1) l

/-- May a cell be written? -/
def canW (w : World) (a : Addr) : Prop := (∃ u, w.cell? a = some u) ∧ w.frozen? a = false
def stV (w : World) (a : Addr) (v : Value) (K : World → Prop) : Prop := canW w a ∧ K (w.setCell a v)
def stN (w : World) (a : Addr) (cs : Array Value) (n : Nat) (K : World → Prop) : Prop :=
  cs.size = n ∧ (∀ v ∈ cs.toList, v.oneCell' = true) ∧ (∀ j, j < n → canW w (a.add j)) ∧ K (setCells w a 0 cs.toList)
def vcStore (P : Program) (t : TypeId) (a : Addr) (v : Value) (w : World) (K : World → Prop) : Prop :=
  match P.info? t with
  | none => False
  | some i =>
    match P.underlying t with
    | some (.interface _) => bif Nat.beq i.size 1 then condT v.oneCell' (stV w a v K) else False
    | _ => match v with
      | .agg cs => stN w a cs i.size K
      | v => bif Nat.beq i.size 1 then condT v.oneCell' (stV w a v K) else False

def appJ (P : Program) (t1 t2 : TypeId) (s x : Value) (w : World) (K : Option Addr → Nat → Nat → World → Prop) : Prop :=
  ∃ p l c w', (∀ ty, (Builtin.append_ #[t1, t2] ty #[s, x]).run P w = .ok (.slice p l c) w') ∧ K p l c w'
def cpyJ (P : Program) (t1 t2 : TypeId) (d x : Value) (w : World) (K : Int → World → Prop) : Prop :=
  ∃ n w', (∀ ty, (Builtin.copy_ #[t1, t2] ty #[d, x]).run P w = .ok (.int .i64 n) w') ∧ K n w'
def clrJ (P : Program) (t1 : TypeId) (x : Value) (w : World) (K : World → Prop) : Prop :=
  ∃ w', (∀ ty, (Builtin.clear_ #[t1] ty #[x]).run P w = .ok (.tuple #[]) w') ∧ K w'
def cvJ (P : Program) (t1 t2 : TypeId) (x : Value) (w : World) (K : Option Addr → Nat → Nat → World → Prop) : Prop :=
  ∃ p l c w', (convert t1 t2 x).run P w = .ok (.slice p l c) w' ∧ K p l c w'
def cvStrJ (P : Program) (t1 t2 : TypeId) (x : Value) (w : World) (K : ByteArray → World → Prop) : Prop :=
  ∃ s w', (convert t1 t2 x).run P w = .ok (.string s) w' ∧ K s w'

def mkS (w : World) (e : TypeId) (z : Array Value) (sz bytes : Nat) (len cap : Int) (K : Nat → World → Prop) : Prop :=
  0 ≤ len ∧ len ≤ cap ∧ (bytes : Int) * cap ≤ 281474976710656 ∧ cap ≤ 9223372036854775807 ∧ newB w (.cells (madeCells z (cap.toNat * sz)) e) K

def setBlk (w : World) (b : Nat) (o : Obj) : World := { w with heap := w.heap.setIfInBounds b o }
def nextS (w : World) (b : Nat) (K1 : Nat → Int → World → Prop) (K2 : World → Prop) : Prop :=
  ∃ s pos, w.heap[b]? = some (.stringIter s pos) ∧
    (pos < s.size → K1 pos (Utf8.decode s pos).1 (setBlk w b (.stringIter s (pos + (Utf8.decode s pos).2)))) ∧ (¬ pos < s.size → K2 w)

def plainFn (P : Program) (f : FuncId) : Bool :=
  match P.funcs[f]? with
  | some fn => !(fn.name == "runtime.NumGoroutine") && fn.body.isSome
  | none => false

/-- A call of a function that the model gives itself. -/
def extJ (P : Program) (f : FuncId) (args : Array Value) (w : World) (l : List Sh) (J : JT (World → Prop) (scs l)) : Prop :=
  ∃ v w', (callFunc f args).run P w = .ok (.value v) w' ∧ JT.ex (scs l) J fun vs r => v = packR l vs ∧ r w'

/-- A call of a function value. -/
def callVal (P : Program) (v : Value) (vs : List Value) (w : World) (l : List Sh) (J : JT (World → Prop) (scs l)) : Prop :=
  match v with
  | .func (.func g) first captured => bif plainFn P g then callJ P g (first.toList ++ vs ++ captured.toList).toArray w l J else extJ P g (first.toList ++ vs ++ captured.toList).toArray w l J
  | _ => False

def vcEff (P : Program) (fr : Fr) (o : Oper) (w : World) (K : Value → World → Prop) : Prop :=
  match o.op with
  | .store t x y => (match ev fr x, ev fr y with
    | some (.pointer p), some v => nonNil p fun a => vcStore P t a v w (K undef)
    | _, _ => False)
  | .alloc t => bif ((P.info? t).bind (·.zero)).isSome then newB w (.cells (zeroC P t) t) fun b w' => K (.pointer (some ⟨b, 0, none⟩)) w' else False
  | .box t x => (match ev fr x with | some v => newB w (.cells v.cells t) fun b w' => K (.pointer (some ⟨b, 0, none⟩)) w' | none => False)
  | .buildSlice t len parts => (match P.underlying t, evParts fr parts.toList with
    | some (.slice e), some vs => (match P.info? e with
      | some j => (match j.zero with
        | some z => bif Nat.ble (len * j.size) 16777216 && Nat.beq z.cells.size j.size then
            spC (len * j.size) (fun i => some (i * j.size, j.size)) vs (List.replicate len z.cells.toList).flatten fun l =>
              newB w (.cells ⟨l⟩ e) fun b w' => K (.slice (some ⟨b, 0, none⟩) len len) w'
          else False
        | none => False)
      | none => False)
    | _, _ => False)
  | .makeSlice t x y => (match P.underlying t, ev fr x, ev fr y with
    | some (.slice e), some (.int _ l), some (.int _ c) => (match P.info? e with
      | some j => bif j.zero.isSome then mkS w e (zeroC P e) j.size j.bytes l c fun b w' => K (.slice (some ⟨b, 0, none⟩) l.toNat c.toNat) w' else False
      | none => False)
    | _, _, _ => False)
  | .convert s d x => (match P.underlying d, ev fr x with
    | some (.slice _), some v => cvJ P s d v w fun p l c w' => K (.slice p l c) w'
    | some .string, some v => cvStrJ P s d v w fun s' w' => K (.string s') w'
    | _, _ => False)
  | .range t x => (match P.underlying t, ev fr x with
    | some .string, some (.string s) => newB w (.stringIter s 0) fun b w' => K (.pointer (some ⟨b, 0, none⟩)) w'
    | _, _ => False)
  | .next x isStr => (match ev fr x with
    | some (.pointer p) => nonNil p fun a => bif Nat.beq a.off 0 && isStr then
        nextS w a.block (fun pos c w' => K (.tuple #[.bool true, .int .i64 pos, .int .i32 c]) w') (fun w' => K (.tuple #[.bool false]) w') else False
    | _ => False)
  | .call { callee := .value f, args, .. } => (match ev fr f, evs fr args.toList with
    | some fv, some vs => callVal P fv vs w (shsOf P o.type) (JT.lam _ fun us w' => K (packR (shsOf P o.type) us) w')
    | _, _ => False)
  | .call { callee := .builtin .append, args, argTypes } => (match args.toList, argTypes.toList with
    | [x, y], [t1, t2] => (match ev fr x, ev fr y with
      | some s, some v => appJ P t1 t2 s v w fun p l c w' => K (.slice p l c) w'
      | _, _ => False)
    | _, _ => False)
  | .call { callee := .builtin .copy, args, argTypes } => (match args.toList, argTypes.toList with
    | [x, y], [t1, t2] => (match ev fr x, ev fr y with
      | some s, some v => cpyJ P t1 t2 s v w fun k w' => K (.int .i64 k) w'
      | _, _ => False)
    | _, _ => False)
  | .call { callee := .builtin .clear, args, argTypes } => (match args.toList, argTypes.toList with
    | [x], [t1] => (match ev fr x with
      | some s => clrJ P t1 s w fun w' => K (.tuple #[]) w'
      | _ => False)
    | _, _ => False)
  | _ => False

section sound
variable {P : Program} {n : Nat} {fr : Fr} {a : Act}

theorem wp_of_run {o : Oper} {w w' : World} {v : Value} {next : Act → World → Prop} {Q : Exit → Act → World → Prop}
    (h : (execOp a.eval o).run P w = .ok (.value v) w') (hk : next (a.put o.dst v) w') : o.wp P a w next Q := by
  unfold Oper.wp; rw [h]; exact hk
theorem wp_of_skip {o : Oper} {w w' : World} {next : Act → World → Prop} {Q : Exit → Act → World → Prop}
    (h : (execOp a.eval o).run P w = .ok .skip w') (hk : next (a.put o.dst undef) w') : o.wp P a w next Q := by
  unfold Oper.wp; rw [h]; exact hk

theorem add_zero' (a : Addr) : a.add 0 = a := by simp [Addr.add]

theorem canW_setCell {w : World} {a b : Addr} {v : Value} (h : canW w b) : canW (w.setCell a v) b := by
  obtain ⟨⟨u, hu⟩, hf⟩ := h
  refine ⟨?_, ?_⟩
  · by_cases hab : a = b
    · subst hab; exact ⟨v, World.cell?_setCell_same w a v hu⟩
    · exact ⟨u, by rw [World.cell?_setCell_other w a b v hab]; exact hu⟩
  · rw [World.frozen?_setCell]; exact hf

theorem run_storeCells : ∀ (l : List Value) (i : Nat) (w : World) (ad : Addr), (∀ v ∈ l, v.oneCell' = true) → (∀ j, j < l.length → canW w (ad.add (i + j))) →
    (storeCells ad l i).run P w = .ok () (setCells w ad i l)
  | [], i, w, ad, _, _ => rfl
  | v :: l, i, w, ad, h1, h2 => by
    have h0 := h2 0 (by simp)
    obtain ⟨⟨u, hu⟩, hf⟩ := h0
    simp only [Nat.add_zero] at hu hf
    have hst : (store (ad.add i) v).run P w = .ok () (w.setCell (ad.add i) v) := by
      rw [run_store P w _ v _ (h1 v (by simp)), hu]
      simp [hf]
    simp only [storeCells, Sem.run_bind, hst, Result.andThen_ok, setCells]
    exact run_storeCells l (i + 1) _ ad (fun x hx => h1 x (by simp [hx])) (fun j hj => canW_setCell (by
      have := h2 (j + 1) (by simp; omega)
      rwa [show i + (j + 1) = i + 1 + j by omega] at this))

theorem vcStore_o {t : TypeId} {ad : Addr} {v : Value} {w : World} {K : World → Prop} (h : vcStore P t ad v w K) :
    ∃ w', (storeVar t ad v).run P w = .ok () w' ∧ K w' := by
  unfold vcStore at h
  split at h
  · exact h.elim
  · rename_i i hi
    split at h
    · cases hb : Nat.beq i.size 1 with
      | false => simp [hb] at h
      | true =>
        simp only [hb, cond_true] at h
        obtain ⟨ho, hc, hk⟩ := condT_o h
        have hv : v.cells = #[v] := by cases v <;> first | rfl | (simp [Value.oneCell'] at ho)
        have h1 : i.size = 1 := Nat.eq_of_beq_eq_true hb
        refine ⟨_, ?_, hk⟩
        have := run_storeCells (P := P) [v] 0 w ad (by simpa using ho) (by intro j hj; simp at hj; subst hj; simpa [add_zero'] using hc)
        simp only [setCells, add_zero'] at this
        simp [storeVar, sizeOf, typeInfo, hi, hv, h1, this]
    · split at h
      · rename_i cs
        obtain ⟨h1, h2, h3, h4⟩ := h
        refine ⟨_, ?_, h4⟩
        have := run_storeCells (P := P) cs.toList 0 w ad h2 (by intro j hj; rw [Nat.zero_add]; exact h3 j (by simpa [h1] using hj))
        simp [storeVar, sizeOf, typeInfo, hi, Value.cells, h1, this]
      · cases hb : Nat.beq i.size 1 with
        | false => simp [hb] at h
        | true =>
          simp only [hb, cond_true] at h
          obtain ⟨ho, hc, hk⟩ := condT_o h
          have hv : v.cells = #[v] := by cases v <;> first | rfl | (simp [Value.oneCell'] at ho)
          have h1 : i.size = 1 := Nat.eq_of_beq_eq_true hb
          refine ⟨_, ?_, hk⟩
          have := run_storeCells (P := P) [v] 0 w ad (by simpa using ho) (by intro j hj; simp at hj; subst hj; simpa [add_zero'] using hc)
          simp only [setCells, add_zero'] at this
          simp [storeVar, sizeOf, typeInfo, hi, hv, h1, this]

theorem flatten_replicate (l : List Value) : ∀ (k i : Nat), i < k * l.length → (List.replicate k l).flatten[i]? = l[i % l.length]?
  | 0, i, h => by simp at h
  | k + 1, i, h => by
    rw [List.replicate_succ, List.flatten_cons]
    by_cases hi : i < l.length
    · rw [List.getElem?_append_left hi, Nat.mod_eq_of_lt hi]
    · rw [List.getElem?_append_right (by omega), flatten_replicate l k (i - l.length) (by rw [Nat.succ_mul] at h; omega)]
      congr 1
      rw [← Nat.mod_eq_sub_mod (by omega)]

theorem zrow_eq (z : Array Value) (k : Nat) : (Array.range (k * z.size)).map (z[· % z.size]!) = (List.replicate k z.toList).flatten.toArray := by
  apply Array.ext'
  apply List.ext_getElem?
  intro i
  by_cases hi : i < k * z.size
  · have h0 : 0 < z.size := by
      rcases Nat.eq_zero_or_pos z.size with h | h
      · rw [h] at hi; omega
      · exact h
    have hm : i % z.size < z.size := Nat.mod_lt _ h0
    rw [flatten_replicate z.toList k i (by simpa using hi)]
    simp [hi, hm]
  · have e1 : (List.replicate k z.toList).flatten.length = k * z.size := by simp
    rw [List.getElem?_eq_none (by simp; omega), List.getElem?_eq_none (by rw [e1]; omega)]

theorem zeroC_of {t : TypeId} {i : TypeInfo} {z : Value} (hi : P.info? t = some i) (hz : i.zero = some z) : zeroC P t = z.cells := by
  simp [zeroC, hi, hz]

theorem vcEff_o (hs : Sim n fr a) {o : Oper} {w : World} {K : Value → World → Prop} {next : Act → World → Prop} {Q : Exit → Act → World → Prop}
    (h : vcEff P fr o w K) (hK : ∀ v w', K v w' → next (a.put o.dst v) w') : o.wp P a w next Q := by
  obtain ⟨dst, op, ty, pos, aft, gd⟩ := o
  unfold vcEff at h
  dsimp only at h
  split at h
  · -- store
    rename_i t x y
    split at h
    · rename_i p v hx hy
      obtain ⟨ad, rfl, h⟩ := nonNil_o h
      obtain ⟨w', hr, hk⟩ := vcStore_o h
      exact wp_of_skip (w' := w') (by simp [execOp, hs.eval hx, hs.eval hy, Instr.storeAt, Instr.sureAddr, hr]) (hK _ _ hk)
    · exact h.elim
  · -- alloc
    rename_i t
    cases hz : (P.info? t).bind (·.zero) with
    | none => simp [hz] at h
    | some z =>
      simp only [hz, Option.isSome_some, cond_true] at h
      cases hi : P.info? t with
      | none => simp [hi] at hz
      | some i =>
        have hz' : i.zero = some z := by simpa [hi] using hz
        refine wp_of_run (v := .pointer (some ⟨w.heap.size, 0, none⟩)) (w' := w.alloc (.cells z.cells t)) ?_ (hK _ _ ?_)
        · simp [execOp, Instr.alloc, zeroValue, typeInfo, hi, hz', newVar, newRow]
        · have := h; rw [zeroC_of hi hz'] at this; exact this
  · -- box
    rename_i t x
    split at h
    · rename_i v hx
      refine wp_of_run (v := .pointer (some ⟨w.heap.size, 0, none⟩)) (w' := w.alloc (.cells v.cells t)) ?_ (hK _ _ h)
      simp [execOp, hs.eval hx, Instr.box, newVar, newRow]
    · exact h.elim
  · -- buildSlice
    rename_i t len parts
    split at h
    · rename_i e vs hu he
      split at h
      · rename_i j hj
        split at h
        · rename_i z hz
          cases hb : (Nat.ble (len * j.size) 16777216 && Nat.beq z.cells.size j.size) with
          | false => simp [hb] at h
          | true =>
            simp only [hb, cond_true] at h
            simp only [Bool.and_eq_true] at hb
            have h1 : len * j.size ≤ 16777216 := Nat.le_of_ble_eq_true hb.1
            have h2 : z.cells.size = j.size := Nat.eq_of_beq_eq_true hb.2
            obtain ⟨l', g1, g2, g3⟩ := spC_o (by simp [h2]) h
            rw [← zrow_eq, h2] at g2
            refine wp_of_run (v := .slice (some ⟨w.heap.size, 0, none⟩) len len) (w' := w.alloc (.cells ⟨l'⟩ e)) ?_ (hK _ _ g3)
            have hp2 : (parts.map fun (i, x) => (i, a.eval x)) = vs.toArray := by
              apply Array.ext'; simpa using evParts_o hs he
            have hn : ¬ (len * j.size > 2 ^ 24) := by omega
            by_cases h0 : len * j.size = 0
            · rw [h0] at g2
              have g2' : Instr.fill (fun i => some (i * j.size, j.size)) #[] vs = some l'.toArray := by simpa [Array.range_zero'] using g2
              simp [execOp, hp2, Instr.buildSlice, run_underlying' hu, sizeOf, typeInfo, hj, h0, Array.range_zero', g2', newRow]
            · simp only [execOp, hp2, Instr.buildSlice, run_underlying' hu, sizeOf, typeInfo, hj, hn, h0, if_false, Sem.run_bind, run_program, Result.andThen_ok, Sem.run_pure, zeroValue, hz]
              simp [h2, g2, newRow]
        · exact h.elim
      · exact h.elim
    · exact h.elim
  · -- makeSlice
    rename_i t x y
    split at h
    · rename_i e kl l kc c hu hx hy
      split at h
      · rename_i j hj
        cases hz : j.zero with
        | none => simp [hz] at h
        | some z =>
          simp only [hz, Option.isSome_some, cond_true] at h
          obtain ⟨h1, h2, h3, h4, h5⟩ := h
          rw [zeroC_of hj hz] at h5
          have hr := run_make (P := P) w t e j z hu hj hz kl kc l c h1 h2 h3 h4
          exact wp_of_run (by simp [execOp, hs.eval hx, hs.eval hy, hr]) (hK _ _ h5)
      · exact h.elim
    · exact h.elim
  · -- convert
    rename_i s d x
    split at h
    · rename_i v hu hx
      obtain ⟨p, l, c, w', hr, hk⟩ := h
      exact wp_of_run (w' := w') (by simp [execOp, hs.eval hx, hr]) (hK _ _ hk)
    · rename_i v hu hx
      obtain ⟨s', w', hr, hk⟩ := h
      exact wp_of_run (w' := w') (by simp [execOp, hs.eval hx, hr]) (hK _ _ hk)
    · exact h.elim
  · -- range
    rename_i t x
    split at h
    · rename_i s hu hx
      refine wp_of_run (v := .pointer (some ⟨w.heap.size, 0, none⟩)) (w' := w.alloc (.stringIter s 0)) ?_ (hK _ _ h)
      simp [execOp, hs.eval hx, Instr.range, run_underlying' hu]
    · exact h.elim
  · -- next
    rename_i x isStr
    split at h
    · rename_i p hx
      obtain ⟨ad, rfl, hn⟩ := nonNil_o h
      clear h
      cases hb : (Nat.beq ad.off 0 && isStr) with
      | false => rw [hb] at hn; exact hn.elim
      | true =>
        rw [hb] at hn
        simp only [Bool.and_eq_true] at hb
        obtain ⟨hb1, rfl⟩ := hb
        have hoff : ad.off = 0 := Nat.eq_of_beq_eq_true hb1
        obtain ⟨s, pos, hh, h1, h2⟩ := hn
        obtain ⟨bk, off, sp⟩ := ad
        simp only at hoff hh h1 h2
        subst hoff
        have hlt : bk < w.heap.size := by
          rcases Nat.lt_or_ge bk w.heap.size with h | h
          · exact h
          · simp [Array.getElem?_eq_none h] at hh
        by_cases hp : pos < s.size
        · refine wp_of_run (v := .tuple #[.bool true, .int .i64 pos, .int .i32 (Utf8.decode s pos).1]) (w' := setBlk w bk (.stringIter s (pos + (Utf8.decode s pos).2))) ?_ (hK _ _ (h1 hp))
          simp [execOp, hs.eval hx, Instr.next, getObj, setObj, Sem.run, hh, hp, goInt, setBlk]
        · refine wp_of_run (v := .tuple #[.bool false]) (w' := w) ?_ (hK _ _ (h2 hp))
          simp [execOp, hs.eval hx, Instr.next, getObj, Sem.run, hh, hp]
    · exact h.elim
  · -- call
    rename_i f args ats
    split at h
    · rename_i fv vs hf hv
      unfold callVal at h
      split at h
      rotate_left
      · exact h.elim
      rename_i g first captured
      have hargs : args.map a.eval = vs.toArray := by apply Array.ext'; simpa using hs.evals hv
      have hap : first ++ vs.toArray ++ captured = (first.toList ++ vs ++ captured.toList).toArray := by apply Array.ext'; simp
      cases hp : plainFn P g with
      | false =>
        simp only [hp, cond_false] at h
        obtain ⟨v, w', hr, hJ⟩ := h
        obtain ⟨us, he, hk⟩ := JT.ex_lam hJ
        subst he
        refine wp_of_run (w' := w') ?_ (hK _ _ hk)
        have : (execOp a.eval ⟨dst, .call { callee := .value f, args := args, argTypes := ats }, ty, pos, aft, gd⟩).run P w = (callFunc g (first.toList ++ vs ++ captured.toList).toArray).run P w := by
          simp only [execOp, resolve, hs.eval hf, hargs, Deferred.ofValue, invoke, Sem.run_bind, Sem.run_pure, Result.andThen_ok, hap]
        rw [this]; exact hr
      | true =>
        simp only [hp, cond_true] at h
        unfold plainFn at hp
        split at hp
        · rename_i fn hfn
          simp only [Bool.and_eq_true, Bool.not_eq_true'] at hp
          have hbody : fn.body.isNone = false := by cases hb : fn.body <;> simp_all
          have hargs : args.map a.eval = vs.toArray := by apply Array.ext'; simpa using hs.evals hv
          have hrun : (execOp a.eval ⟨dst, .call { callee := .value f, args := args, argTypes := ats }, ty, pos, aft, gd⟩).run P w =
              .ok (.enter g (first.toList ++ vs ++ captured.toList).toArray) w := by
            have he : first ++ vs.toArray ++ captured = (first.toList ++ vs ++ captured.toList).toArray := by apply Array.ext'; simp
            simp only [execOp, resolve, hs.eval hf, hargs, Deferred.ofValue, invoke, callFunc, Sem.run_bind, Sem.run_pure, Result.andThen_ok, run_program, hfn, hp.1, Bool.false_eq_true, if_false, hbody, he]
          unfold Oper.wp
          rw [hrun]
          refine Calls.mono h fun e w' he => ?_
          obtain ⟨us, he, hr⟩ := JT.ex_lam he
          subst he
          exact hK _ _ hr
        · simp at hp
    · exact h.elim
  · -- append
    rename_i args ats
    split at h
    · rename_i x y t1 t2 e1 e2
      split at h
      · rename_i s v hx hy
        obtain ⟨p, l, c, w', hr, hk⟩ := h
        have e1' : args = #[x, y] := by apply Array.ext'; simpa using e1
        have e2' : ats = #[t1, t2] := by apply Array.ext'; simpa using e2
        subst e1'; subst e2'
        exact wp_of_run (w' := w') (by simp [execOp, resolve, invoke, builtin, hs.eval hx, hs.eval hy, hr]) (hK _ _ hk)
      · exact h.elim
    · exact h.elim
  · -- copy
    rename_i args ats
    split at h
    · rename_i x y t1 t2 e1 e2
      split at h
      · rename_i s v hx hy
        obtain ⟨k, w', hr, hk⟩ := h
        have e1' : args = #[x, y] := by apply Array.ext'; simpa using e1
        have e2' : ats = #[t1, t2] := by apply Array.ext'; simpa using e2
        subst e1'; subst e2'
        exact wp_of_run (w' := w') (by simp [execOp, resolve, invoke, builtin, hs.eval hx, hs.eval hy, hr]) (hK _ _ hk)
      · exact h.elim
    · exact h.elim
  · -- clear
    rename_i args ats
    split at h
    · rename_i x t1 e1 e2
      split at h
      · rename_i s hx
        obtain ⟨w', hr, hk⟩ := h
        have e1' : args = #[x] := by apply Array.ext'; simpa using e1
        have e2' : ats = #[t1] := by apply Array.ext'; simpa using e2
        subst e1'; subst e2'
        exact wp_of_run (w' := w') (by simp [execOp, resolve, invoke, builtin, hs.eval hx, hr]) (hK _ _ hk)
      · exact h.elim
    · exact h.elim
  · exact h.elim

end sound

end Go.Vc

/-
  The reading of the loaded code, third part: regions in whatever order, code, functions.
-/

namespace Go.Vc
open Go Go.RowKit

/-! ## Guards -/

def vcG (all : Array Oper) (o : Oper) (fr : Fr) (K : Fr → Bool → Prop) : Prop :=
  match o.guard with
  | none => K fr true
  | some (j, want) => match (all[j]?).bind (·.dst) with
    | none => False
    | some d => match fr d with
      | some (.bool g) => condB g (K (fr.set d (some (.bool true))) want) (K (fr.set d (some (.bool false))) (!want))
      | some (.tuple _) => K fr false
      | _ => False

theorem vcG_o {n : Nat} {fr : Fr} {a : Act} (hs : Sim n fr a) {all : Array Oper} {o : Oper} {K : Fr → Bool → Prop} (h : vcG all o fr K) :
    ∃ fr' r, Sim n fr' a ∧ K fr' r ∧ Region.wanted o (yielded all a.tmps) = r := by
  unfold vcG at h
  split at h
  · rename_i hg; exact ⟨fr, true, hs, h, by simp [Region.wanted, hg]⟩
  · rename_i j want hg
    split at h
    · exact h.elim
    · rename_i d hd
      split at h
      · rename_i g hfr
        have hy : yielded all a.tmps j = some g := by simp [yielded, hd, hs.val d _ hfr]
        have h' := condB_o h
        clear h
        rcases h' with ⟨rfl, h⟩ | ⟨rfl, h⟩
        · exact ⟨_, want, hs.know hfr, h, by simp only [Region.wanted, hg, hy]; cases want <;> rfl⟩
        · exact ⟨_, !want, hs.know hfr, h, by simp only [Region.wanted, hg, hy]; cases want <;> rfl⟩
      · rename_i vs hfr
        have hy : yielded all a.tmps j = none := by simp [yielded, hd, hs.val d _ hfr]
        exact ⟨fr, false, hs, h, by simp only [Region.wanted, hg, hy]; rfl⟩
      · exact h.elim

def isEff (P : Program) (o : Oper) : Bool :=
  match o.op with
  | .store .. | .alloc .. | .box .. | .buildSlice .. | .makeSlice .. | .range .. | .next .. => true
  | .call { callee := .value _, .. } | .call { callee := .builtin .append, .. } | .call { callee := .builtin .copy, .. } | .call { callee := .builtin .clear, .. } => true
  | .convert s d _ => (match P.underlying d, P.underlying s with
    | some (.slice _), _ => true
    | some .string, some (.int _) => true
    | some .string, some (.slice _) => !isByteSlice P s
    | _, _ => false)
  | _ => false

/-- One operation, carried out or passed over. -/
def vcOp1 (P : Program) (n : Nat) (all : Array Oper) (o : Oper) (fr : Fr) (w : World) (K : Fr → World → Prop) : Prop :=
  vcG all o fr fun fr' run => bif run then
      (bif isEff P o then vcEff P fr' o w fun v w' => K (fr'.put n o.dst v) w' else vcRead P fr' o w fun v _ => K (fr'.put n o.dst v) w)
    else K (fr'.put n o.dst undef) w

def vcOps (P : Program) (n : Nat) (all : Array Oper) : List Oper → Fr → World → (Fr → World → Prop) → Prop
  | [], fr, w, K => K fr w
  | o :: r, fr, w, K => vcOp1 P n all o fr w fun fr' w' => vcOps P n all r fr' w' K

/-- The slots outside a list are as they were. -/
def Keep (L : List Nat) (a a' : Act) : Prop := ∀ t, t ∉ L → a'.tmps[t]? = a.tmps[t]?
theorem Keep.refl (L : List Nat) (a : Act) : Keep L a a := fun _ _ => rfl
theorem Keep.trans {L : List Nat} {a b c : Act} (h : Keep L a b) (k : Keep L b c) : Keep L a c := fun t ht => (k t ht).trans (h t ht)
theorem Keep.mono {L L' : List Nat} {a b : Act} (h : Keep L a b) (hl : ∀ t, t ∈ L → t ∈ L') : Keep L' a b := fun t ht => h t (fun hc => ht (hl t hc))
theorem Keep.put {a : Act} {dst : Option Tmp} {v : Value} {L : List Nat} (h : ∀ d, dst = some d → d ∈ L) : Keep L a (a.put dst v) := by
  intro t ht
  cases dst with
  | none => rfl
  | some d =>
    have : d ≠ t := fun e => ht (e ▸ h d rfl)
    simp [Act.put, Array.getElem?_setIfInBounds_ne this]

def wrOps (l : List Oper) : List Nat := l.filterMap (·.dst)
theorem mem_wrOps {l : List Oper} {o : Oper} {d : Nat} (ho : o ∈ l) (hd : o.dst = some d) : d ∈ wrOps l := List.mem_filterMap.2 ⟨o, ho, hd⟩

theorem vcOps_o {P : Program} {n : Nat} {all : Array Oper} {Q : Exit → Act → World → Prop} {L : List Nat} {K : Fr → World → Prop} :
    ∀ {l : List Oper} {fr : Fr} {a : Act} {w : World}, Sim n fr a → (∀ o ∈ l, ∀ d, o.dst = some d → d ∈ L) → vcOps P n all l fr w K →
      (∀ fr' a' w', Sim n fr' a' → Keep L a a' → K fr' w' → Q .normal a' w') → wpList P all Q l a w
  | [], fr, a, w, hs, _, h, hQ => hQ fr a w hs (Keep.refl L a) h
  | o :: r, fr, a, w, hs, hL, h, hQ => by
    simp only [vcOps, vcOp1] at h
    obtain ⟨fr', run, hs', hk, hw⟩ := vcG_o hs h
    have hput : ∀ v, Keep L a (a.put o.dst v) := fun v => Keep.put (hL o (by simp))
    have rest : ∀ v w', vcOps P n all r (fr'.put n o.dst v) w' K → wpList P all Q r (a.put o.dst v) w' := fun v w' hr =>
      vcOps_o (hs'.put o.dst v) (fun o' ho' => hL o' (by simp [ho'])) hr (fun fr2 a2 w2 h1 h2 h3 => hQ fr2 a2 w2 h1 ((hput v).trans h2) h3)
    refine wpList_step fun K' hK' => ?_
    rw [hw]
    cases run with
    | false => exact hK' _ _ (rest undef w hk)
    | true =>
      simp only [cond_true] at hk
      simp only [if_true]
      cases he : isEff P o with
      | true =>
        simp only [he, cond_true] at hk
        exact vcEff_o hs' hk (fun v w' hv => hK' _ _ (rest v w' hv))
      | false =>
        simp only [he, cond_false] at hk
        obtain ⟨v, S, hv, hS, _, hrun⟩ := vcRead_o hs' hk
        exact wp_of_run (hrun w hS) (hK' _ _ (rest v w hv))

/-! ## A region in whatever order -/

/-- Of each operation those that must have come before it, as bits. -/
def befL : List Oper → List Nat → List Nat
  | [], acc => acc
  | o :: r, acc => befL r (acc ++ [o.after.toList.foldl (fun s e => bif Region.binds .any e then s ||| 2 ^ e.on ||| acc.getD e.on 0 else s) 0])
def dep (ops : Array Oper) (j i : Nat) : Bool := ((befL ops.toList []).getD j 0).testBit i

theorem foldl_bits (acc : List Nat) (i : Nat) : ∀ (es : List Edge) (s : Nat),
    (es.foldl (fun s e => bif Region.binds .any e then s ||| 2 ^ e.on ||| acc.getD e.on 0 else s) s).testBit i = true →
    s.testBit i = true ∨ ∃ e ∈ es, Region.binds .any e = true ∧ (e.on = i ∨ (acc.getD e.on 0).testBit i = true)
  | [], s, h => .inl h
  | e :: es, s, h => by
    simp only [List.foldl_cons] at h
    rcases foldl_bits acc i es _ h with h1 | ⟨e', he', hb, hx⟩
    · cases hb : Region.binds .any e with
      | false => simp only [hb, cond_false] at h1; exact .inl h1
      | true =>
        simp only [hb, cond_true, Nat.testBit_or, Bool.or_eq_true, Nat.testBit_two_pow, decide_eq_true_eq] at h1
        rcases h1 with (h1 | h1) | h1
        · exact .inl h1
        · exact .inr ⟨e, by simp, hb, .inl h1⟩
        · exact .inr ⟨e, by simp, hb, .inr h1⟩
    · exact .inr ⟨e', by simp [he'], hb, hx⟩

/-- Each bit has a way to it. -/
def Ways (ops : List Oper) (acc : List Nat) : Prop :=
  ∀ j i, (acc.getD j 0).testBit i = true → ∃ o, ops[j]? = some o ∧ ∃ e ∈ o.after.toList, Region.binds .any e = true ∧ (e.on = i ∨ (e.on < j ∧ (acc.getD e.on 0).testBit i = true))

theorem befL_ways (ops : List Oper) : ∀ (l pre : List Oper) (acc : List Nat), ops = pre ++ l → acc.length = pre.length → Ways ops acc → Ways ops (befL l acc)
  | [], _, _, _, _, h => h
  | o :: r, pre, acc, h1, h2, h3 => by
    refine befL_ways ops r (pre ++ [o]) _ (by simp [h1]) (by simp [h2]) ?_
    intro j i hb
    by_cases hj : j < acc.length
    · have e1 : ∀ x, (acc ++ [x]).getD j 0 = acc.getD j 0 := fun x => by simp [List.getElem?_append_left hj]
      rw [e1] at hb
      obtain ⟨o', ho', e, he, hbd, hx⟩ := h3 j i hb
      refine ⟨o', ho', e, he, hbd, hx.imp id fun ⟨hlt, ht⟩ => ⟨hlt, ?_⟩⟩
      have : e.on < acc.length := by omega
      simpa [List.getElem?_append_left this] using ht
    · by_cases hj2 : j = acc.length
      · subst hj2
        have e1 : ∀ x : Nat, (acc ++ [x]).getD acc.length 0 = x := fun x => by simp
        rw [e1] at hb
        rcases foldl_bits acc i _ _ hb with h0 | ⟨e, he, hbd, hx⟩
        · simp at h0
        · refine ⟨o, by simp [h1, h2], e, he, hbd, ?_⟩
          rcases hx with hx | hx
          · exact .inl hx
          · have hlt : e.on < acc.length := by
              rcases Nat.lt_or_ge e.on acc.length with h | h
              · exact h
              · simp [List.getElem?_eq_none h] at hx
            exact .inr ⟨hlt, by simpa [List.getElem?_append_left hlt] using hx⟩
      · exfalso
        have : (acc ++ [o.after.toList.foldl (fun s e => bif Region.binds .any e then s ||| 2 ^ e.on ||| acc.getD e.on 0 else s) 0]).length ≤ j := by simp; omega
        rw [List.getD_eq_getElem?_getD, List.getElem?_eq_none this] at hb
        simp at hb

/-- What has come up has all that must come before it. -/
def Closed (ops : Array Oper) (listed : Array Bool) : Prop :=
  ∀ j o, ops[j]? = some o → listed.getD j true = true → ∀ e ∈ o.after, Region.binds .any e = true → listed.getD e.on false = true

theorem Closed.start (ops : Array Oper) : Closed ops (Array.replicate ops.size false) := by
  intro j o ho h
  have hlt : j < ops.size := (Array.getElem?_eq_some_iff.1 ho).1
  simp [hlt] at h

theorem Closed.step {ops : Array Oper} {listed : Array Bool} (h : Closed ops listed) {i : Nat} (hi : i ∈ Region.ready .any ops listed) : Closed ops (listed.setIfInBounds i true) := by
  intro j o ho hj e he hb
  by_cases hij : i = j
  · subst hij
    obtain ⟨_, o', ho', hall⟩ := mem_ready.1 hi
    rw [ho] at ho'
    have : o = o' := by simpa using ho'
    subst this
    exact getD_set_true (hall e he hb)
  · rw [getD_set_ne true hij] at hj
    exact getD_set_true (h j o ho hj e he hb)

theorem Closed.dep {ops : Array Oper} {listed : Array Bool} (hsz : listed.size = ops.size) (h : Closed ops listed) {i : Nat} (hi : listed.getD i true = false) :
    ∀ j, listed.getD j true = true → j < ops.size → ((befL ops.toList []).getD j 0).testBit i = true → False := by
  have hw : Ways ops.toList (befL ops.toList []) := befL_ways ops.toList ops.toList [] [] rfl rfl (by intro j i hb; simp at hb)
  intro j
  induction j using Nat.strongRecOn with
  | _ j ih =>
    intro hj hlt hb
    obtain ⟨o, ho, e, he, hbd, hx⟩ := hw j i hb
    have ho' : ops[j]? = some o := by simpa using ho
    have hl := h j o ho' hj e (by simpa using he) hbd
    rcases hx with hx | ⟨hlt2, hb2⟩
    · subst hx
      have : e.on < listed.size := by
        rcases Nat.lt_or_ge e.on listed.size with h | h
        · exact h
        · simp [Array.getElem?_eq_none h] at hl
      simp [this] at hl hi
      rw [hl] at hi
      cases hi
    · have hl2 : listed.getD e.on true = true := by
        have : e.on < listed.size := by omega
        simp [this] at hl ⊢
        exact hl
      exact ih e.on hlt2 hl2 (by omega) hb2

theorem ready_dep {ops : Array Oper} {listed : Array Bool} (hsz : listed.size = ops.size) (h : Closed ops listed) {i j : Nat} (hi : listed.getD i true = false) (hj : j ∈ Region.ready .any ops listed) :
    dep ops j i = false := by
  cases hd : dep ops j i with
  | false => rfl
  | true =>
    exfalso
    have hw : Ways ops.toList (befL ops.toList []) := befL_ways ops.toList ops.toList [] [] rfl rfl (by intro j i hb; simp at hb)
    obtain ⟨o, ho, e, he, hbd, hx⟩ := hw j i hd
    obtain ⟨_, o', ho', hall⟩ := mem_ready.1 hj
    have : o = o' := by
      have : ops[j]? = some o := by simpa using ho
      rw [this] at ho'; simpa using ho'
    subst this
    have hl := hall e (by simpa using he) hbd
    have hlt : e.on < listed.size := by
      rcases Nat.lt_or_ge e.on listed.size with h | h
      · exact h
      · simp [Array.getElem?_eq_none h] at hl
    have hl2 : listed.getD e.on true = true := by simp [hlt] at hl ⊢; exact hl
    rcases hx with hx | ⟨_, hb2⟩
    · subst hx; rw [hl2] at hi; cases hi
    · exact Closed.dep hsz h hi e.on hl2 (by omega) hb2

abbrev Held := List (Nat × (World → Prop))

def wpAnyG (P : Program) (ops : Array Oper) (Q : Exit → Act → World → Prop) (Γ : Held) : Nat → Array Bool → Act → World → Prop
  | 0, listed, a, w => Region.ready .any ops listed = [] ∧ Q .normal a w
  | fuel + 1, listed, a, w =>
    (Region.ready .any ops listed = [] → Q .normal a w) ∧
    ∀ i ∈ Region.ready .any ops listed, wpOp P ops Q i (fun a' w' => (∀ p ∈ Γ, dep ops i p.1 = false → p.2 w → p.2 w') ∧ wpAnyG P ops Q Γ fuel (listed.setIfInBounds i true) a' w') a w

section
variable {P : Program} {ops : Array Oper} {Q : Exit → Act → World → Prop}

theorem wpAny_of_G {Γ : Held} : ∀ (fuel : Nat) (listed : Array Bool) (a : Act) (w : World), wpAnyG P ops Q Γ fuel listed a w → wpAny P .any ops Q fuel listed a w
  | 0, _, _, _, h => h
  | fuel + 1, _, _, _, h => ⟨h.1, fun i hi => wpOp_mono (fun a' w' h' => wpAny_of_G fuel _ a' w' h'.2) (h.2 i hi)⟩

theorem wpAnyG_less {Γ : Held} {p : Nat × (World → Prop)} : ∀ (fuel : Nat) (listed : Array Bool) (a : Act) (w : World), wpAnyG P ops Q (p :: Γ) fuel listed a w → wpAnyG P ops Q Γ fuel listed a w
  | 0, _, _, _, h => h
  | fuel + 1, _, _, _, h => ⟨h.1, fun i hi => wpOp_mono (fun a' w' h' => ⟨fun q hq => h'.1 q (by simp [hq]), wpAnyG_less fuel _ a' w' h'.2⟩) (h.2 i hi)⟩

theorem wpAnyG_moreS {Γ : Held} {i : Nat} {S : World → Prop} (hS : ∀ w, S w) : ∀ {fuel : Nat} {listed : Array Bool} {a : Act} {w : World}, wpAnyG P ops Q Γ fuel listed a w → wpAnyG P ops Q ((i, S) :: Γ) fuel listed a w
  | 0, _, _, _, h => h
  | fuel + 1, _, _, _, h => ⟨h.1, fun j hj => wpOp_mono (fun a' w' h' => ⟨fun q hq hd => by
      rcases List.mem_cons.1 hq with rfl | hq
      · exact fun _ => hS w'
      · exact h'.1 q hq hd, wpAnyG_moreS hS h'.2⟩) (h.2 j hj)⟩

theorem wpAnyG_first {i : Nat} {oi : Oper} {v : Value} {S : World → Prop} {Γ : Held} (hi : ops[i]? = some oi) (hsel : ∀ (j : Nat) (o : Oper) cs b, ops[j]? = some o → o.op ≠ .select cs b)
    (hQ : ∀ c a w, Q (.panic c) (a.put oi.dst v) w → Q (.panic c) a w) :
    ∀ (fuel : Nat) (listed : Array Bool) (a : Act) (w : World), listed.size = ops.size → Closed ops listed →
      (∀ j oj, ops[j]? = some oj → j ≠ i → listed.getD j true = false → (∀ e ∈ oj.after, Region.binds .any e = true → e.on ≠ i) → oi.apart ops oj = true) →
      i ∈ Region.ready .any ops listed → YieldsIf P ops S oi v a → S w →
      wpAnyG P ops Q ((i, S) :: Γ) fuel (listed.setIfInBounds i true) (a.put oi.dst v) w → wpAnyG P ops Q Γ (fuel + 1) listed a w := by
  intro fuel
  induction fuel with
  | zero =>
    intro listed a w hsz hcl _ hr hy hS H
    refine ⟨fun h => (by rw [h] at hr; cases hr), fun j hj => ?_⟩
    by_cases hji : j = i
    · subst hji; exact hy.wpOp hi hS ⟨fun _ _ _ h => h, H⟩
    · have := ready_mono hj hji
      rw [H.1] at this
      cases this
  | succ fuel ih =>
    intro listed a w hsz hcl hfree hr hy hS H
    refine ⟨fun h => (by rw [h] at hr; cases hr), fun j hj => ?_⟩
    by_cases hji : j = i
    · subst hji; exact hy.wpOp hi hS ⟨fun _ _ _ h => h, wpAnyG_less _ _ _ _ H⟩
    · have h1 := H.2 j (ready_mono hj hji)
      obtain ⟨hjun, oj, hoj, hall⟩ := mem_ready.1 hj
      have hdep := ready_dep hsz hcl (mem_ready.1 hr).1 hj
      have hnot : ∀ e ∈ oj.after, Region.binds .any e = true → e.on ≠ i := fun e he hb heq => by
        have h1 := hall e he hb
        have h0 := (mem_ready.1 hr).1
        rw [heq] at h1
        rcases Nat.lt_or_ge i listed.size with h' | h'
        · simp [h'] at h0 h1; rw [h0] at h1; cases h1
        · simp [Array.getElem?_eq_none h'] at h1
      have h2 := wpOp_putIf hoj (hfree j oj hoj hji hjun hnot) (fun cs b => hsel i oi cs b hi) (fun cs b => hsel j oj cs b hoj) hQ hy h1
      have hfree' : ∀ k ok, ops[k]? = some ok → k ≠ i → (listed.setIfInBounds j true).getD k true = false →
          (∀ e ∈ ok.after, Region.binds .any e = true → e.on ≠ i) → oi.apart ops ok = true := fun k ok hk hki hun hno => by
        refine hfree k ok hk hki ?_ hno
        by_cases hjk : j = k
        · subst hjk; exact hjun
        · rw [getD_set_ne true hjk] at hun; exact hun
      refine wpOp_mono (fun a' w' h3 => ⟨fun p hp => h3.2.1 p (by simp [hp]), ih (listed.setIfInBounds j true) a' w' (by simp [hsz]) (hcl.step hj) hfree' (ready_mono hr (Ne.symm hji)) h3.1
        (h3.2.1 (i, S) (by simp) hdep hS) ?_⟩) h2
      rw [Array.setIfInBounds_comm _ _ hji]
      exact h3.2.2

end

/-- In which order a region is read: 'take': an operation that only reads is taken first; 'eff': one comes up, and the others that may come up instead. -/
inductive DA where
  | done | take (i : Nat) (k : DA) | eff (i : Nat) (k alt : DA) | none

def DA.idx : DA → List Nat
  | .eff i _ alt => i :: alt.idx
  | _ => []

def oblC (ops : Array Oper) (i : Nat) (w' : World) (X : Prop) : Held → Prop
  | [] => X
  | (k, S) :: r => bif dep ops i k then oblC ops i w' X r else S w' ∧ oblC ops i w' X r

theorem oblC_o {ops : Array Oper} {i : Nat} {w w' : World} {X : Prop} : ∀ {Γ : Held}, oblC ops i w' X Γ → (∀ p ∈ Γ, dep ops i p.1 = false → p.2 w → p.2 w') ∧ X
  | [], h => ⟨by simp, h⟩
  | (k, S) :: r, h => by
    unfold oblC at h
    cases hd : dep ops i k with
    | true =>
      simp only [hd, cond_true] at h
      obtain ⟨h1, h2⟩ := oblC_o (w := w) h
      refine ⟨fun p hp hf => ?_, h2⟩
      rcases List.mem_cons.1 hp with rfl | hp
      · rw [hd] at hf; cases hf
      · exact h1 p hp hf
    | false =>
      simp only [hd, cond_false] at h
      obtain ⟨h1, h2⟩ := oblC_o (w := w) h.2
      refine ⟨fun p hp hf => ?_, h2⟩
      rcases List.mem_cons.1 hp with rfl | hp
      · exact fun _ => h.1
      · exact h1 p hp hf

def andAlt (alt : DA) (X Y : Prop) : Prop := match alt with | .none => X | _ => X ∧ Y

def vcDA (P : Program) (n : Nat) (ops : Array Oper) : Bool → DA → Nat → Array Bool → Held → Fr → World → (Fr → World → Prop) → Prop
  | _, .done, _, listed, _, fr, w, K => bif (Region.ready .any ops listed).isEmpty then K fr w else False
  | _, .take i k, fuel + 1, listed, Γ, fr, w, K => (match ops[i]? with
    | none => False
    | some o => bif Region.free .any ops listed i && (Region.ready .any ops listed).contains i && !isEff P o then
        vcG ops o fr fun fr' run => bif run then
            vcRead P fr' o w fun v S => vcDA P n ops true k fuel (listed.setIfInBounds i true) (bif isLd P o then (i, S) :: Γ else Γ) (fr'.put n o.dst v) w K
          else vcDA P n ops true k fuel (listed.setIfInBounds i true) Γ (fr'.put n o.dst undef) w K
      else False)
  | chk, .eff i k alt, fuel + 1, listed, Γ, fr, w, K => (match ops[i]? with
    | none => False
    | some o => bif !chk || (i :: alt.idx) == Region.ready .any ops listed then
        andAlt alt (vcG ops o fr fun fr' run => bif run then
            (bif isEff P o then vcEff P fr' o w fun v w' => oblC ops i w' (vcDA P n ops true k fuel (listed.setIfInBounds i true) Γ (fr'.put n o.dst v) w' K) Γ
              else vcRead P fr' o w fun v _ => vcDA P n ops true k fuel (listed.setIfInBounds i true) Γ (fr'.put n o.dst v) w K)
          else vcDA P n ops true k fuel (listed.setIfInBounds i true) Γ (fr'.put n o.dst undef) w K)
          (vcDA P n ops false alt (fuel + 1) listed Γ fr w K)
      else False)
  | false, .none, _, _, _, _, _, _ => True
  | _, _, _, _, _, _, _, _ => False

theorem vcDA_o {P : Program} {n : Nat} {ops : Array Oper} {Q : Exit → Act → World → Prop} {K : Fr → World → Prop} (hns : Region.noSelect ops = true)
    (hP : ∀ c a w, Q (.panic c) a w → False) {L : List Nat} {a0 : Act} (hL : ∀ o ∈ ops.toList, ∀ d, o.dst = some d → d ∈ L)
    (hQ : ∀ fr' a' w', Sim n fr' a' → Keep L a0 a' → K fr' w' → Q .normal a' w') :
    ∀ (d : DA) (fuel : Nat) (listed : Array Bool) (Γ : Held) (fr : Fr) (a : Act) (w : World), listed.size = ops.size → Closed ops listed → Sim n fr a → Keep L a0 a →
      (vcDA P n ops true d fuel listed Γ fr w K → wpAnyG P ops Q Γ fuel listed a w) ∧
      (vcDA P n ops false d fuel listed Γ fr w K → (∀ i ∈ d.idx, i ∈ Region.ready .any ops listed) → ∀ fuel', fuel = fuel' + 1 →
        ∀ i ∈ d.idx, wpOp P ops Q i (fun a' w' => (∀ p ∈ Γ, dep ops i p.1 = false → p.2 w → p.2 w') ∧ wpAnyG P ops Q Γ fuel' (listed.setIfInBounds i true) a' w') a w) := by
  intro d
  induction d with
  | done =>
    intro fuel listed Γ fr a w hsz hcl hs hk
    refine ⟨fun h => ?_, fun _ _ _ _ i hi => by simp [DA.idx] at hi⟩
    unfold vcDA at h
    cases hr : (Region.ready .any ops listed).isEmpty with
    | false => simp [hr] at h
    | true =>
      simp only [hr, cond_true] at h
      have hr' : Region.ready .any ops listed = [] := by simpa using hr
      have := hQ fr a w hs hk h
      cases fuel with
      | zero => exact ⟨hr', this⟩
      | succ f => exact ⟨fun _ => this, by rw [hr']; simp⟩
  | none =>
    intro fuel listed Γ fr a w hsz hcl hs hk
    exact ⟨fun h => by unfold vcDA at h; exact h.elim, fun _ _ _ _ i hi => by simp [DA.idx] at hi⟩
  | take i k ih =>
    intro fuel listed Γ fr a w hsz hcl hs hk
    refine ⟨fun h => ?_, fun _ _ _ _ j hj => by simp [DA.idx] at hj⟩
    cases fuel with
    | zero => unfold vcDA at h; exact h.elim
    | succ fuel =>
      unfold vcDA at h
      split at h
      · exact h.elim
      · rename_i o ho
        cases hb : (Region.free .any ops listed i && (Region.ready .any ops listed).contains i && !isEff P o) with
        | false => rw [hb] at h; exact h.elim
        | true =>
          rw [hb] at h
          simp only [cond_true] at h
          simp only [Bool.and_eq_true] at hb
          obtain ⟨⟨hfree, hready⟩, _⟩ := hb
          have hmem : i ∈ Region.ready .any ops listed := by simpa using hready
          obtain ⟨fr', run, hs', hk', hw⟩ := vcG_o hs h
          have keep : ∀ v, Keep L a0 (a.put o.dst v) := fun v => hk.trans (Keep.put (hL o (by
            have : ops[i]? = some o := ho
            exact Array.mem_toList_iff.2 (Array.mem_of_getElem? this))))
          have cl' := hcl.step hmem
          cases run with
          | false =>
            simp only [cond_false] at hk'
            have H := (ih fuel (listed.setIfInBounds i true) Γ (fr'.put n o.dst undef) (a.put o.dst undef) w (by simp [hsz]) cl' (hs'.put o.dst undef) (keep undef)).1 hk'
            have hy : YieldsIf P ops (fun _ => True) o undef a := .inr ⟨hw, rfl⟩
            refine wpAnyG_first ho (Region.noSelect_spec hns) (fun c a' w' hc => (hP c _ _ hc).elim) fuel listed a w hsz hcl (Region.free_spec ho hfree) hmem hy trivial ?_
            exact wpAnyG_moreS (fun _ => trivial) H
          | true =>
            simp only [cond_true] at hk'
            obtain ⟨v, S, hv, hS, hSall, hrun⟩ := vcRead_o hs' hk'
            have hy : YieldsIf P ops S o v a := .inl ⟨hw, hrun⟩
            have H := (ih fuel (listed.setIfInBounds i true) _ (fr'.put n o.dst v) (a.put o.dst v) w (by simp [hsz]) cl' (hs'.put o.dst v) (keep v)).1 hv
            refine wpAnyG_first ho (Region.noSelect_spec hns) (fun c a' w' hc => (hP c _ _ hc).elim) fuel listed a w hsz hcl (Region.free_spec ho hfree) hmem hy hS ?_
            cases hld : isLd P o with
            | true => simp only [hld, cond_true] at H; exact H
            | false =>
              simp only [hld, cond_false] at H
              exact wpAnyG_moreS (hSall hld) H
  | eff i k alt ih1 ih2 =>
    intro fuel listed Γ fr a w hsz hcl hs hk
    -- the one operation
    have one : ∀ (fuel : Nat) (o : Oper), ops[i]? = some o → i ∈ Region.ready .any ops listed →
        vcG ops o fr (fun fr' run => bif run then
            (bif isEff P o then vcEff P fr' o w fun v w' => oblC ops i w' (vcDA P n ops true k fuel (listed.setIfInBounds i true) Γ (fr'.put n o.dst v) w' K) Γ
              else vcRead P fr' o w fun v _ => vcDA P n ops true k fuel (listed.setIfInBounds i true) Γ (fr'.put n o.dst v) w K)
          else vcDA P n ops true k fuel (listed.setIfInBounds i true) Γ (fr'.put n o.dst undef) w K) →
        wpOp P ops Q i (fun a' w' => (∀ p ∈ Γ, dep ops i p.1 = false → p.2 w → p.2 w') ∧ wpAnyG P ops Q Γ fuel (listed.setIfInBounds i true) a' w') a w := by
      intro fuel o ho hmem h
      obtain ⟨fr', run, hs', hk', hw⟩ := vcG_o hs h
      have keep : ∀ v, Keep L a0 (a.put o.dst v) := fun v => hk.trans (Keep.put (hL o (Array.mem_toList_iff.2 (Array.mem_of_getElem? ho))))
      have cl' := hcl.step hmem
      have go : ∀ v w', vcDA P n ops true k fuel (listed.setIfInBounds i true) Γ (fr'.put n o.dst v) w' K → wpAnyG P ops Q Γ fuel (listed.setIfInBounds i true) (a.put o.dst v) w' := fun v w' hv =>
        (ih1 fuel (listed.setIfInBounds i true) Γ (fr'.put n o.dst v) (a.put o.dst v) w' (by simp [hsz]) cl' (hs'.put o.dst v) (keep v)).1 hv
      unfold wpOp
      simp only [ho]
      rw [hw]
      cases run with
      | false => exact ⟨fun _ _ _ h => h, go undef w hk'⟩
      | true =>
        simp only [if_true]
        simp only [cond_true] at hk'
        cases he : isEff P o with
        | true =>
          simp only [he, cond_true] at hk'
          exact .inl (vcEff_o hs' hk' (fun v w' hv => let ⟨h1, h2⟩ := oblC_o hv; ⟨h1, go v w' h2⟩))
        | false =>
          simp only [he, cond_false] at hk'
          obtain ⟨v, S, hv, hS, _, hrun⟩ := vcRead_o hs' hk'
          exact .inl (wp_of_run (hrun w hS) ⟨fun _ _ _ h => h, go v w hv⟩)
    have parts : ∀ X Y : Prop, andAlt alt X Y → X ∧ (alt.idx ≠ [] → Y) := by
      intro X Y h
      cases alt <;> first | exact ⟨h.1, fun _ => h.2⟩ | exact ⟨h, fun hne => by simp [DA.idx] at hne⟩
    refine ⟨fun h => ?_, fun h hall fuel' hf j hj => ?_⟩
    · cases fuel with
      | zero => unfold vcDA at h; exact h.elim
      | succ fuel =>
        unfold vcDA at h
        split at h
        · exact h.elim
        · rename_i o ho
          cases hb : (!true || (i :: alt.idx) == Region.ready .any ops listed) with
          | false => rw [hb] at h; exact h.elim
          | true =>
            rw [hb] at h
            simp only [cond_true] at h
            have hidx : (i :: alt.idx) = Region.ready .any ops listed := by simpa using hb
            obtain ⟨h1, h2⟩ := parts _ _ h
            refine ⟨fun h0 => by rw [← hidx] at h0; simp at h0, fun j hj => ?_⟩
            rw [← hidx] at hj
            rcases List.mem_cons.1 hj with rfl | hj
            · exact one fuel o ho (by rw [← hidx]; simp) h1
            · have hne : alt.idx ≠ [] := fun e => by rw [e] at hj; cases hj
              exact (ih2 (fuel + 1) listed Γ fr a w hsz hcl hs hk).2 (h2 hne) (fun x hx => by rw [← hidx]; simp [hx]) fuel rfl j hj
    · subst hf
      unfold vcDA at h
      split at h
      · exact h.elim
      · rename_i o ho
        simp only [Bool.not_false, Bool.true_or, cond_true] at h
        obtain ⟨h1, h2⟩ := parts _ _ h
        simp only [DA.idx] at hj hall
        rcases List.mem_cons.1 hj with rfl | hj
        · exact one fuel' o ho (hall j (by simp)) h1
        · have hne : alt.idx ≠ [] := fun e => by rw [e] at hj; cases hj
          exact (ih2 (fuel' + 1) listed Γ fr a w hsz hcl hs hk).2 (h2 hne) (fun x hx => hall x (by simp [hx])) fuel' rfl j hj

/-! ## Code -/

inductive Ex where
  | normal | exit (id : Nat) | ret | goto (l : Nat)

def exOf : Exit → Option Ex
  | .normal => some .normal
  | .exit id => some (.exit id)
  | .ret => some .ret
  | .goto l => some (.goto l)
  | _ => none

/-- The slots that a piece of code writes. -/
def wr : Code → List Nat
  | .region _ ops _ => wrOps ops.toList
  | .seq x y => wr x ++ wr y
  | .cond _ x y => wr x ++ wr y
  | .block _ x => wr x
  | .loop x => wr x
  | .scope x => wr x
  | _ => []

def Fr.over (fr : Fr) (W : List Nat) (L : List Nat) (vs : List Value) : Fr := fun t =>
  match (L.zip vs).lookup t with
  | some v => some v
  | none => bif W.elem t then none else fr t

/-- How a piece of code is read: where ways meet, and which slots a loop hands on. -/
inductive Ann where
  | o | d (x : DA)
  | s (a b : Ann)
  | j (L : List (Nat × Sc)) (a b : Ann)
  | c (a b : Ann)
  | b (a : Ann)
  | l (L : List (Nat × Sc)) (a : Ann)
  | g (l : Nat) (a b : Ann)
  | u

abbrev Post := Ex → Fr → World → Prop
def Post.then (Q : Post) (K : Fr → World → Prop) : Post := fun e fr w => match e with | .normal => K fr w | e => Q e fr w

/-- By a goto to this label: so much; by another: no way out. -/
def Post.jump (l : Nat) (K : Fr → World → Prop) (Q : Post) : Post := fun e fr w => match e with | .goto l' => bif Nat.beq l' l then K fr w else False | e => Q e fr w

def vcCode (P : Program) (n : Nat) : Ann → Code → Fr → World → Post → Prop
  | .o, c, fr, w, Q => (match c with
      | .skip => Q .normal fr w
      | .ret => Q .ret fr w
      | .exit id => Q (.exit id) fr w
      | .goto l => Q (.goto l) fr w
      | .label _ => Q .normal fr w
      | .region _ ops draw => bif draw then False else vcOps P n ops ops.toList fr w (Q .normal)
      | _ => False)
  | .d x, c, fr, w, Q => (match c with
      | .region _ ops draw => bif draw && P.follows .mixedOrders && Region.noSelect ops then
          vcDA P n ops true x ops.size (Array.replicate ops.size false) [] fr w.drew (Q .normal) else False
      | _ => False)
  | .s a b, c, fr, w, Q => (match c with
      | .seq x y => vcCode P n a x fr w (Q.then fun fr' w' => vcCode P n b y fr' w' Q)
      | _ => False)
  | .j L a b, c, fr, w, Q => (match c with
      | .seq x y =>
        withJ (JT.lam (L.map (·.2)) fun vs w' => vcCode P n b y (fr.over (wr x) (L.map (·.1)) vs) w' Q) fun J =>
          vcCode P n a x fr w (Q.then fun fr' w' => JT.app (L.map (·.2)) J (L.map fun p => fr' p.1) fun r => r w')
      | _ => False)
  | .c a b, c, fr, w, Q => (match c with
      | .cond c x y => (match ev fr c with
        | some (.bool g) => condB g (vcCode P n a x fr w Q) (vcCode P n b y fr w Q)
        | _ => False)
      | _ => False)
  | .b a, c, fr, w, Q => (match c with
      | .block id x => vcCode P n a x fr w fun e fr' w' => match e with
        | .exit id' => bif Nat.beq id' id then Q .normal fr' w' else Q (.exit id') fr' w'
        | e => Q e fr' w'
      | _ => False)
  | .l L a, c, fr, w, Q => (match c with
      | .loop x => ∃ I : JT (World → Nat → Prop) (L.map (·.2)),
          (∃ m, JT.app (L.map (·.2)) I (L.map fun p => fr p.1) fun r => r w m) ∧
          JT.all (L.map (·.2)) I fun vs r => ∀ w' m, r w' m →
            vcCode P n a x (fr.over (wr x) (L.map (·.1)) vs) w' (Q.then fun fr' w'' => ∃ m', m' < m ∧ JT.app (L.map (·.2)) I (L.map fun p => fr' p.1) fun r => r w'' m')
      | _ => False)
  | .g l a b, c, fr, w, Q => (match c with
      | .scope x => (match findLabel x l with
        | some rest => vcCode P n a x fr w (Post.jump l (fun fr' w' => vcCode P n b rest fr' w' (Post.jump l (fun _ _ => False) Q)) Q)
        | none => False)
      | _ => False)
  | .u, _, _, _, _ => False

theorem wr_find {l : Nat} : ∀ {c rest : Code}, findLabel c l = some rest → ∀ t, t ∈ wr rest → t ∈ wr c
  | .seq a b, rest, h, t, ht => by
    unfold findLabel at h
    split at h
    · rename_i r hr
      cases h
      simp only [wr, List.mem_append] at ht ⊢
      exact ht.imp (wr_find hr t) id
    · simp only [wr, List.mem_append]; exact .inr (wr_find h t ht)
  | .label l', rest, h, t, ht => by
    unfold findLabel at h
    split at h
    · cases h; simp [wr] at ht
    · cases h
  | .skip, _, h, _, _ => by simp [findLabel] at h
  | .region .., _, h, _, _ => by simp [findLabel] at h
  | .cond .., _, h, _, _ => by simp [findLabel] at h
  | .block .., _, h, _, _ => by simp [findLabel] at h
  | .loop .., _, h, _, _ => by simp [findLabel] at h
  | .exit .., _, h, _, _ => by simp [findLabel] at h
  | .ret, _, h, _, _ => by simp [findLabel] at h
  | .scope .., _, h, _, _ => by simp [findLabel] at h
  | .goto .., _, h, _, _ => by simp [findLabel] at h

def QX (n : Nat) (L : List Nat) (a0 : Act) (Q : Post) : Exit → Act → World → Prop := fun e a w =>
  match exOf e with
  | some x => ∃ fr, Sim n fr a ∧ Keep L a0 a ∧ Q x fr w
  | none => False

theorem lookup_zip (t : Nat) (v : Value) : ∀ (L : List Nat) (vs : List Value), (L.zip vs).lookup t = some v → ∃ k : Nat, L[k]? = some t ∧ vs[k]? = some v
  | [], _, h => by simp at h
  | _ :: _, [], h => by simp at h
  | l :: L, u :: vs, h => by
    simp only [List.zip_cons_cons, List.lookup_cons] at h
    split at h
    · rename_i hb
      have : t = l := by simpa using hb
      subst this
      exact ⟨0, rfl, by simpa using h⟩
    · obtain ⟨k, h1, h2⟩ := lookup_zip t v L vs h
      exact ⟨k + 1, h1, h2⟩

theorem Sim.over {n : Nat} {fr fr' : Fr} {a a' : Act} {W : List Nat} {L : List (Nat × Sc)} {vs : List Value} (h : Sim n fr a) (h' : Sim n fr' a') (hk : Keep W a a')
    (hv : (L.map fun p => fr' p.1) = vs.map some) : Sim n (fr.over W (L.map (·.1)) vs) a' := by
  refine ⟨h'.defers, h'.size, fun t v ht => ?_⟩
  unfold Fr.over at ht
  split at ht
  · rename_i u hl
    simp only [Option.some.injEq] at ht
    subst ht
    obtain ⟨k, h1, h2⟩ := lookup_zip t u _ _ hl
    have h3 : (L.map fun p => fr' p.1)[k]? = some (some u) := by rw [hv]; simp [h2]
    rw [List.getElem?_map] at h1 h3
    cases hL : L[k]? with
    | none => simp [hL] at h1
    | some p =>
      simp only [hL, Option.map_some, Option.some.injEq] at h1 h3
      subst h1
      exact h'.val _ _ h3
  · cases hw : W.elem t with
    | true => rw [hw] at ht; cases ht
    | false =>
      simp only [hw, cond_false] at ht
      rw [hk t (fun hc => by have := List.elem_eq_true_of_mem hc; rw [this] at hw; cases hw)]
      exact h.val t v ht

theorem wp_loop_rel {P : Program} {c : Code} {Q : Exit → Act → World → Prop} {a : Act} {w : World} (I : Nat → Act → World → Prop) (m : Nat) (h₀ : I m a w)
    (round : ∀ m a w, I m a w → c.wp P (Exit.then (fun a' w' => ∃ m', m' < m ∧ I m' a' w') Q) a w) : (Code.loop c).wp P Q a w := by
  intro b k cs
  have key : ∀ m a w, I m a w → ∃ e a' w', Q e a' w' ∧ Arrives P (lone (b.at a (.code c :: .inLoop c :: k)) cs w) b k cs e a' w' := by
    intro m
    induction m using Nat.strongRecOn with
    | _ m ih =>
      intro a w hI
      obtain ⟨e, a₁, w₁, hq, harr⟩ := round m a w hI b (.inLoop c :: k) cs
      cases e with
      | normal =>
        obtain ⟨m', hlt, hI₁⟩ := hq
        obtain ⟨e₂, a₂, w₂, hq₂, harr₂⟩ := ih m' hlt a₁ w₁ hI₁
        exact ⟨e₂, a₂, w₂, hq₂, .of_steps (Steps.trans harr (.one step_inLoop)) harr₂⟩
      | exit id => exact ⟨_, a₁, w₁, hq, .pass (x := .inLoop c) rfl (fun _ _ => .inl (by simp)) harr⟩
      | goto l => exact ⟨_, a₁, w₁, hq, .pass (x := .inLoop c) rfl (fun _ _ => .inl (by simp)) harr⟩
      | ret => exact ⟨_, a₁, w₁, hq, .pass (x := .inLoop c) rfl (fun _ _ => .inl (by simp)) harr⟩
      | panic ch => exact ⟨_, a₁, w₁, hq, .pass (x := .inLoop c) rfl (fun _ _ => .inl (by simp)) harr⟩
      | outgrown => exact ⟨_, a₁, w₁, hq, .pass (x := .inLoop c) rfl (fun _ _ => .inl (by simp)) harr⟩
  obtain ⟨e, a', w', hq, harr⟩ := key m a w h₀
  exact ⟨e, a', w', hq, .of_steps (.one step_loop) harr⟩

theorem QX.of {n : Nat} {L L' : List Nat} {a0 a1 : Act} {Q Q' : Post} {e : Exit} {a : Act} {w : World} (h : QX n L a0 Q e a w) (hk : Keep L' a1 a0) (hl : ∀ t, t ∈ L → t ∈ L')
    (hq : ∀ x fr, Q x fr w → Q' x fr w) : QX n L' a1 Q' e a w := by
  unfold QX at *
  split
  · rename_i x hx
    rw [hx] at h
    obtain ⟨fr, h1, h2, h3⟩ := h
    exact ⟨fr, h1, hk.trans (h2.mono hl), hq x fr h3⟩
  · rename_i hx
    rw [hx] at h
    exact h

theorem vcCode_o {P : Program} {n : Nat} : ∀ (ann : Ann) (c : Code) (fr : Fr) (a : Act) (w : World) (Q : Post), Sim n fr a → vcCode P n ann c fr w Q → c.wp P (QX n (wr c) a Q) a w := by
  intro ann
  induction ann with
  | u => intro c fr a w Q hs h; unfold vcCode at h; exact h.elim
  | o =>
    intro c fr a w Q hs h
    unfold vcCode at h
    split at h
    · exact wp_skip ⟨fr, hs, Keep.refl _ _, h⟩
    · exact wp_ret ⟨fr, hs, Keep.refl _ _, h⟩
    · exact wp_exit ⟨fr, hs, Keep.refl _ _, h⟩
    · exact wp_goto ⟨fr, hs, Keep.refl _ _, h⟩
    · exact wp_label ⟨fr, hs, Keep.refl _ _, h⟩
    · rename_i id ops draw
      cases draw with
      | true => exact h.elim
      | false => exact wp_region_list (vcOps_o hs (fun o ho d hd => mem_wrOps ho hd) h (fun fr' a' w' h1 h2 h3 => ⟨fr', h1, h2, h3⟩))
    · exact h.elim
  | d x =>
    intro c fr a w Q hs h
    unfold vcCode at h
    split at h
    · rename_i id ops draw
      cases hb : (draw && P.follows .mixedOrders && Region.noSelect ops) with
      | false => rw [hb] at h; exact h.elim
      | true =>
        rw [hb] at h
        simp only [cond_true] at h
        simp only [Bool.and_eq_true] at hb
        obtain ⟨⟨hd, hm⟩, hns⟩ := hb
        subst hd
        refine wp_region_any hm (wpAny_of_G (Γ := []) _ _ _ _ ?_)
        exact (vcDA_o hns (fun c a w hq => hq) (L := wrOps ops.toList) (a0 := a) (fun o ho d hd => mem_wrOps ho hd) (fun fr' a' w' h1 h2 h3 => ⟨fr', h1, h2, h3⟩)
          x ops.size (Array.replicate ops.size false) [] fr a w.drew (by simp) (Closed.start ops) hs (Keep.refl _ _)).1 h
    · exact h.elim
  | s a b iha ihb =>
    intro c fr ac w Q hs h
    unfold vcCode at h
    split at h
    · rename_i x y
      refine wp_seq (wp_mono (iha x fr ac w _ hs h) fun e a' w' hq => ?_)
      unfold QX at hq
      split at hq
      · rename_i ex hex
        obtain ⟨fr', h1, h2, h3⟩ := hq
        cases e <;> simp only [exOf, Option.some.injEq, reduceCtorEq] at hex <;> subst hex
        · exact wp_mono (ihb y fr' a' w' Q h1 h3) fun e2 a2 w2 hq2 => hq2.of (h2.mono (fun t ht => by simp [wr, ht])) (fun t ht => by simp [wr, ht]) (fun _ _ h => h)
        · exact ⟨fr', h1, h2.mono (fun t ht => by simp [wr, ht]), h3⟩
        · exact ⟨fr', h1, h2.mono (fun t ht => by simp [wr, ht]), h3⟩
        · exact ⟨fr', h1, h2.mono (fun t ht => by simp [wr, ht]), h3⟩
      · exact hq.elim
    · exact h.elim
  | j L a b iha ihb =>
    intro c fr ac w Q hs h
    unfold vcCode at h
    split at h
    · rename_i x y
      unfold withJ at h
      refine wp_seq (wp_mono (iha x fr ac w _ hs h) fun e a' w' hq => ?_)
      unfold QX at hq
      split at hq
      · rename_i ex hex
        obtain ⟨fr', h1, h2, h3⟩ := hq
        cases e <;> simp only [exOf, Option.some.injEq, reduceCtorEq] at hex <;> subst hex
        · obtain ⟨vs, hv, hc⟩ := JT.app_lam h3
          have hs2 := hs.over h1 h2 hv
          exact wp_mono (ihb y _ a' w' Q hs2 hc) fun e2 a2 w2 hq2 => hq2.of (h2.mono (fun t ht => by simp [wr, ht])) (fun t ht => by simp [wr, ht]) (fun _ _ h => h)
        · exact ⟨fr', h1, h2.mono (fun t ht => by simp [wr, ht]), h3⟩
        · exact ⟨fr', h1, h2.mono (fun t ht => by simp [wr, ht]), h3⟩
        · exact ⟨fr', h1, h2.mono (fun t ht => by simp [wr, ht]), h3⟩
      · exact hq.elim
    · exact h.elim
  | c a b iha ihb =>
    intro c fr ac w Q hs h
    unfold vcCode at h
    split at h
    · rename_i c x y
      split at h
      · rename_i g hg
        have hc := hs.eval hg
        have h' := condB_o h
        clear h
        rcases h' with ⟨rfl, h⟩ | ⟨rfl, h⟩
        · exact wp_cond_true hc (wp_mono (iha x fr ac w Q hs h) fun e a' w' hq => hq.of (Keep.refl _ _) (fun t ht => by simp [wr, ht]) (fun _ _ h => h))
        · exact wp_cond_false hc (wp_mono (ihb y fr ac w Q hs h) fun e a' w' hq => hq.of (Keep.refl _ _) (fun t ht => by simp [wr, ht]) (fun _ _ h => h))
      · exact h.elim
    · exact h.elim
  | b a iha =>
    intro c fr ac w Q hs h
    unfold vcCode at h
    split at h
    · rename_i id x
      refine wp_block (wp_mono (iha x fr ac w _ hs h) fun e a' w' hq => ?_)
      unfold QX at hq
      split at hq
      · rename_i ex hex
        obtain ⟨fr', h1, h2, h3⟩ := hq
        cases e <;> simp only [exOf, Option.some.injEq, reduceCtorEq] at hex <;> subst hex
        · exact ⟨fr', h1, h2, h3⟩
        · rename_i id'
          simp only at h3
          cases hb : Nat.beq id' id with
          | true =>
            have := Nat.eq_of_beq_eq_true hb
            subst this
            rw [hb] at h3
            simp only [Exit.inBlock, if_true]
            exact ⟨fr', h1, h2, h3⟩
          | false =>
            have : id' ≠ id := fun e => by subst e; rw [show Nat.beq id' id' = true from Nat.beq_refl id'] at hb; cases hb
            rw [hb] at h3
            simp only [Exit.inBlock, this, if_false]
            exact ⟨fr', h1, h2, h3⟩
        · exact ⟨fr', h1, h2, h3⟩
        · exact ⟨fr', h1, h2, h3⟩
      · exact hq.elim
    · exact h.elim
  | l L a iha =>
    intro c fr ac w Q hs h
    unfold vcCode at h
    split at h
    · rename_i x
      obtain ⟨I, ⟨m, hm⟩, hall⟩ := h
      refine wp_loop_rel (fun m a' w' => ∃ fr', Sim n fr' a' ∧ Keep (wr x) ac a' ∧ JT.app (L.map (·.2)) I (L.map fun p => fr' p.1) fun r => r w' m) m ⟨fr, hs, Keep.refl _ _, hm⟩ ?_
      rintro m a' w' ⟨fr', h1, h2, h3⟩
      obtain ⟨vs, r, hv, hF, hr⟩ := JT.all_app hall h3
      have hs2 := hs.over h1 h2 hv
      refine wp_mono (iha x _ a' w' _ hs2 (hF w' m hr)) fun e a2 w2 hq => ?_
      unfold QX at hq
      split at hq
      · rename_i ex hex
        obtain ⟨fr2, g1, g2, g3⟩ := hq
        cases e <;> simp only [exOf, Option.some.injEq, reduceCtorEq] at hex <;> subst hex
        · obtain ⟨m', hlt, happ⟩ := g3
          exact ⟨m', hlt, fr2, g1, h2.trans g2, happ⟩
        · exact ⟨fr2, g1, h2.trans g2, g3⟩
        · exact ⟨fr2, g1, h2.trans g2, g3⟩
        · exact ⟨fr2, g1, h2.trans g2, g3⟩
      · exact hq.elim
    · exact h.elim
  | g l a b iha ihb =>
    intro c fr ac w Q hs h
    unfold vcCode at h
    split at h
    · rename_i x
      split at h
      · rename_i rest hf
        refine wp_scope_jumps l (fun a' w' => ∃ fr', Sim n fr' a' ∧ Keep (wr x) ac a' ∧ vcCode P n b rest fr' w' (Post.jump l (fun _ _ => False) Q)) (fun _ _ => 0) hf ?_ ?_
        · refine wp_mono (iha x fr ac w _ hs h) fun e a' w' hq => ?_
          unfold QX at hq
          split at hq
          · rename_i ex hex
            obtain ⟨fr', h1, h2, h3⟩ := hq
            cases e <;> simp only [exOf, Option.some.injEq, reduceCtorEq] at hex <;> subst hex
            · exact ⟨fr', h1, h2, h3⟩
            · exact ⟨fr', h1, h2, h3⟩
            · rename_i l'
              simp only [Post.jump] at h3
              cases hb : Nat.beq l' l with
              | true => rw [hb] at h3; exact ⟨Nat.eq_of_beq_eq_true hb, fr', h1, h2, h3⟩
              | false => rw [hb] at h3; exact h3.elim
            · exact ⟨fr', h1, h2, h3⟩
          · exact hq.elim
        · rintro a' w' ⟨fr', h1, h2, h3⟩
          refine wp_mono (ihb rest fr' a' w' _ h1 h3) fun e a2 w2 hq => ?_
          unfold QX at hq
          split at hq
          · rename_i ex hex
            obtain ⟨fr2, g1, g2, g3⟩ := hq
            have g2' := g2.mono (wr_find hf)
            cases e <;> simp only [exOf, Option.some.injEq, reduceCtorEq] at hex <;> subst hex
            · exact ⟨fr2, g1, h2.trans g2', g3⟩
            · exact ⟨fr2, g1, h2.trans g2', g3⟩
            · rename_i l'
              simp only [Post.jump] at g3
              cases hb : Nat.beq l' l <;> (rw [hb] at g3; exact g3.elim)
            · exact ⟨fr2, g1, h2.trans g2', g3⟩
          · exact hq.elim
      · exact h.elim
    · exact h.elim

/-! ## Functions -/

def initFr (args : List Value) : Fr := fun t => args[t]?

/-- The results' values. -/
def retV (P : Program) (fr : Fr) (w : World) : List ResultVar → (List Value → Prop) → Prop
  | [], K => K []
  | .tmp t :: r, K => (match fr t with | some v => retV P fr w r fun vs => K (v :: vs) | none => False)
  | .cell a t :: r, K => (match fr a with
    | some (.pointer p) => nonNil p fun ad => vcLoad P t ad w fun v _ => retV P fr w r fun vs => K (v :: vs)
    | _ => False)

/-- The cells of values of kinds. -/
def unpack : List Sh → List Value → Option (List Value)
  | [], [] => some []
  | .one _ :: r, v :: vs => (match unpack r vs with | some us => some (v :: us) | none => none)
  | .agg l :: r, .agg cs :: vs => bif Nat.beq cs.toList.length l.length then (match unpack r vs with | some us => some (cs.toList ++ us) | none => none) else none
  | _, _ => none

theorem unpack_packs : ∀ {l : List Sh} {vs us : List Value}, unpack l vs = some us → packs l us = vs
  | [], [], us, h => by simp only [unpack, Option.some.injEq] at h; simp [packs]
  | [], _ :: _, _, h => by simp [unpack] at h
  | .one _ :: r, [], _, h => by simp [unpack] at h
  | .one _ :: r, v :: vs, us, h => by
    simp only [unpack] at h
    split at h
    · rename_i us' h2
      simp only [Option.some.injEq] at h
      subst h
      simp [packs, unpack_packs h2]
    · simp at h
  | .agg l :: r, [], _, h => by simp [unpack] at h
  | .agg l :: r, v :: vs, us, h => by
    cases v <;> simp only [unpack, reduceCtorEq] at h
    rename_i cs
    cases hb : Nat.beq cs.toList.length l.length with
    | false => rw [hb] at h; simp at h
    | true =>
      rw [hb] at h
      have hl := Nat.eq_of_beq_eq_true hb
      simp only [cond_true] at h
      split at h
      · rename_i us' h2
        simp only [Option.some.injEq] at h
        subst h
        simp only [packs]
        rw [List.take_append_of_le_length (by omega), List.drop_append_of_le_length (by omega), List.take_of_length_le (by omega), List.drop_of_length_le (by omega)]
        simp [unpack_packs h2]
      · simp at h

def retC (P : Program) (res : List ResultVar) (l : List Sh) (J : JT (World → Prop) (scs l)) (fr : Fr) (w : World) : Prop :=
  retV P fr w res fun vs => match unpack l vs with
    | some us => JT.app (scs l) J (us.map some) fun r => r w
    | none => False

def vcFun (P : Program) (fn : Func) (ann : Ann) (l : List Sh) (args : List Value) (w : World) (J : JT (World → Prop) (scs l)) : Prop :=
  match fn.body with
  | none => False
  | some c => bif Nat.ble args.length fn.ntmps then
      vcCode P fn.ntmps ann c (initFr args) w fun e fr w' => match e with
        | .exit _ => False
        | .goto _ => False
        | _ => retC P fn.results.toList l J fr w'
    else False

def resF (tmps : Array Value) : ResultVar → Sem Value
  | .tmp t => pure (tmps.getD t undef)
  | .cell a t => do loadVar t (← asAddr (tmps.getD a undef))

theorem results_eq (fn : Func) (tmps : Array Value) : results fn tmps = (do
    let vs ← fn.results.mapM (resF tmps)
    pure (if h : vs.size = 1 then vs[0] else .tuple vs)) := rfl

theorem retV_o {P : Program} {n : Nat} {fr : Fr} {a : Act} (hs : Sim n fr a) {w : World} : ∀ {res : List ResultVar} {K : List Value → Prop}, retV P fr w res K →
    ∃ vs : List Value, vs.length = res.length ∧ K vs ∧ (res.mapM (resF a.tmps)).run P w = .ok vs w
  | [], K, h => ⟨[], rfl, h, rfl⟩
  | .tmp t :: r, K, h => by
    simp only [retV] at h
    split at h
    · rename_i v hv
      obtain ⟨vs, h1, h2, h3⟩ := retV_o hs h
      have : a.tmps.getD t undef = v := by simp [hs.val t v hv]
      exact ⟨v :: vs, by simp [h1], h2, by simp only [List.mapM_cons, resF, Sem.run_bind, Sem.run_pure, Result.andThen_ok, this]; rw [h3]; rfl⟩
    · exact h.elim
  | .cell ad t :: r, K, h => by
    simp only [retV] at h
    split at h
    · rename_i p hp
      obtain ⟨x, rfl, hn⟩ := nonNil_o h
      obtain ⟨v, S, hK, hS, hrun⟩ := vcLoad_o hn
      obtain ⟨vs, h1, h2, h3⟩ := retV_o hs hK
      have e1 : a.tmps.getD ad undef = .pointer (some x) := by simp [hs.val ad _ hp]
      exact ⟨v :: vs, by simp [h1], h2, by
        have ha : (asAddr (.pointer (some x))).run P w = .ok x w := rfl
        simp only [List.mapM_cons, resF, Sem.run_bind, e1, ha, Result.andThen_ok, hrun w hS, Sem.run_pure]; rw [h3]; rfl⟩
    · exact h.elim

theorem vc_calls {P : Program} {f : FuncId} {fn : Func} (hf : P.funcs[f]? = some fn) (ann : Ann) {l : List Sh} {args : List Value} {w : World} {J : JT (World → Prop) (scs l)}
    (h : vcFun P fn ann l args w J) : callJ P f ⟨args⟩ w l J := by
  unfold vcFun at h
  split at h
  · exact h.elim
  · rename_i c hc
    cases hb : Nat.ble args.length fn.ntmps with
    | false => rw [hb] at h; exact h.elim
    | true =>
      rw [hb] at h
      simp only [cond_true] at h
      have hle : args.length ≤ fn.ntmps := Nat.le_of_ble_eq_true hb
      refine calls_of_wp hf hc ?_
      have hs : Sim fn.ntmps (initFr args) { tmps := (⟨args⟩ : Array Value) ++ Array.replicate (fn.ntmps - (⟨args⟩ : Array Value).size) undef, defers := [] } := by
        refine ⟨rfl, by simp; omega, fun t v hv => ?_⟩
        simp only [initFr] at hv
        have hlt : t < args.length := (List.getElem?_eq_some_iff.1 hv).1
        rw [Array.getElem?_append_left (by simpa using hlt)]
        simpa using hv
      refine wp_mono (vcCode_o ann c _ _ w _ hs h) fun e a' w' hq => ?_
      have fin : ∀ fr', Sim fn.ntmps fr' a' → retC P fn.results.toList l J fr' w' → a'.defers = [] ∧ ∃ v, (results fn a'.tmps).run P w' = .ok v w' ∧
          JT.ex (scs l) J fun vs r => Ending.returned v = .returned (packR l vs) ∧ r w' := by
        intro fr' hs' hr
        obtain ⟨vs, h1, h2, h3⟩ := retV_o hs' hr
        split at h2
        · rename_i us hu
          refine ⟨hs'.defers, packR l us, ?_, ?_⟩
          · have hm := List.mapM_toArray (m := Sem) (l := fn.results.toList) (f := resF a'.tmps)
            rw [Array.toArray_toList] at hm
            have hp := unpack_packs hu
            rw [results_eq, hm]
            simp only [Sem.run_bind, Sem.run_map, h3, Result.andThen_ok, Sem.run_pure]
            congr 1
            unfold packR
            rw [hp]
            cases vs with
            | nil => rfl
            | cons v vs => cases vs with
              | nil => rfl
              | cons u vs => simp
          · exact JT.ex_of_app h2 rfl
        · exact h2.elim
      unfold QX at hq
      split at hq
      · rename_i ex hex
        obtain ⟨fr', h1, _, h3⟩ := hq
        cases e <;> simp only [exOf, Option.some.injEq, reduceCtorEq] at hex <;> subst hex
        · exact fin fr' h1 h3
        · exact h3.elim
        · exact h3.elim
        · exact fin fr' h1 h3
      · exact hq.elim

end Go.Vc

