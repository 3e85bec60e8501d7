/-
  The reading of the loaded code, second part: operations that make or write memory, calls, pieces of code, and the theorem that it implies 'Calls'.
-/
import Derived.Test.YtmmfookfpdcohaaDoorVc
namespace Go.Vc
open Go Go.RowKit

/-! ## Words on integers (what 'intBin' writes out) -/

def bAnd (k : IntKind) (x y : Int) : Int := k.wrap (BitVec.ofInt k.bits x &&& BitVec.ofInt k.bits y).toNat
def bOr (k : IntKind) (x y : Int) : Int := k.wrap (BitVec.ofInt k.bits x ||| BitVec.ofInt k.bits y).toNat
def bXor (k : IntKind) (x y : Int) : Int := k.wrap (BitVec.ofInt k.bits x ^^^ BitVec.ofInt k.bits y).toNat
def bAndNot (k : IntKind) (x y : Int) : Int := k.wrap (BitVec.ofInt k.bits x &&& ~~~(BitVec.ofInt k.bits y)).toNat
def bNot (k : IntKind) (x : Int) : Int := k.wrap (BitVec.ofInt k.bits (if k.signed then -1 else k.max) ^^^ BitVec.ofInt k.bits x).toNat
def shlI (k : IntKind) (x y : Int) : Int := k.wrap (x * 2 ^ (min y.toNat k.bits))
def shrI (k : IntKind) (x y : Int) : Int := x.fdiv (2 ^ (min y.toNat k.bits))

/-! ## Values by their kinds -/

inductive Sh where
  | one (s : Sc) | agg (l : List Sc)

def scs : List Sh → List Sc
  | [] => []
  | .one s :: r => s :: scs r
  | .agg l :: r => l ++ scs r

def packs : List Sh → List Value → List Value
  | [], _ => []
  | .one _ :: r, v :: vs => v :: packs r vs
  | .one _ :: _, [] => []
  | .agg l :: r, vs => .agg ⟨vs.take l.length⟩ :: packs r (vs.drop l.length)

def packR (l : List Sh) (vs : List Value) : Value :=
  match packs l vs with
  | [v] => v
  | us => .tuple ⟨us⟩

def Sc.fn : Sc → Type → Type
  | .int _, X => Int → X
  | .bool, X => Bool → X
  | .ptr, X => Option Addr → X
  | .slice, X => Option Addr → Nat → Nat → X
  | .str, X => ByteArray → X
  | .val, X => Value → X

def JT (R : Type) : List Sc → Type
  | [] => R
  | s :: l => s.fn (JT R l)

def JT.lam {R : Type} : (l : List Sc) → (List Value → R) → JT R l
  | [], F => F []
  | .int k :: l, F => fun n : Int => JT.lam l fun vs => F (.int k n :: vs)
  | .bool :: l, F => fun b : Bool => JT.lam l fun vs => F (.bool b :: vs)
  | .ptr :: l, F => fun p : Option Addr => JT.lam l fun vs => F (.pointer p :: vs)
  | .slice :: l, F => fun (p : Option Addr) (m c : Nat) => JT.lam l fun vs => F (.slice p m c :: vs)
  | .str :: l, F => fun s : ByteArray => JT.lam l fun vs => F (.string s :: vs)
  | .val :: l, F => fun v : Value => JT.lam l fun vs => F (v :: vs)

def JT.app {R : Type} : (l : List Sc) → JT R l → List (Option Value) → (R → Prop) → Prop
  | [], J, [], G => G J
  | .int k :: l, J, some (.int k' n) :: vs, G => (bif k == k' then JT.app l (J n) vs G else False)
  | .bool :: l, J, some (.bool b) :: vs, G => JT.app l (J b) vs G
  | .ptr :: l, J, some (.pointer p) :: vs, G => JT.app l (J p) vs G
  | .slice :: l, J, some (.slice p m c) :: vs, G => JT.app l (J p m c) vs G
  | .str :: l, J, some (.string s) :: vs, G => JT.app l (J s) vs G
  | .val :: l, J, some v :: vs, G => JT.app l (J v) vs G
  | _, _, _, _ => False

def JT.ex {R : Type} : (l : List Sc) → JT R l → (List Value → R → Prop) → Prop
  | [], J, F => F [] J
  | .int k :: l, J, F => ∃ n : Int, JT.ex l (J n) fun vs r => F (.int k n :: vs) r
  | .bool :: l, J, F => ∃ b : Bool, JT.ex l (J b) fun vs r => F (.bool b :: vs) r
  | .ptr :: l, J, F => ∃ p : Option Addr, JT.ex l (J p) fun vs r => F (.pointer p :: vs) r
  | .slice :: l, J, F => ∃ (p : Option Addr) (m c : Nat), JT.ex l (J p m c) fun vs r => F (.slice p m c :: vs) r
  | .str :: l, J, F => ∃ s : ByteArray, JT.ex l (J s) fun vs r => F (.string s :: vs) r
  | .val :: l, J, F => ∃ v : Value, JT.ex l (J v) fun vs r => F (v :: vs) r

def JT.all {R : Type} : (l : List Sc) → JT R l → (List Value → R → Prop) → Prop
  | [], J, F => F [] J
  | .int k :: l, J, F => ∀ n : Int, JT.all l (J n) fun vs r => F (.int k n :: vs) r
  | .bool :: l, J, F => ∀ b : Bool, JT.all l (J b) fun vs r => F (.bool b :: vs) r
  | .ptr :: l, J, F => ∀ p : Option Addr, JT.all l (J p) fun vs r => F (.pointer p :: vs) r
  | .slice :: l, J, F => ∀ (p : Option Addr) (m c : Nat), JT.all l (J p m c) fun vs r => F (.slice p m c :: vs) r
  | .str :: l, J, F => ∀ s : ByteArray, JT.all l (J s) fun vs r => F (.string s :: vs) r
  | .val :: l, J, F => ∀ v : Value, JT.all l (J v) fun vs r => F (v :: vs) r

/-- One function of a row of cells is below another. -/
def JT.le : (l : List Sc) → JT (World → Prop) l → JT (World → Prop) l → Prop
  | [], J, J' => ∀ w, J w → J' w
  | .int _ :: l, J, J' => ∀ n : Int, JT.le l (J n) (J' n)
  | .bool :: l, J, J' => ∀ b : Bool, JT.le l (J b) (J' b)
  | .ptr :: l, J, J' => ∀ p : Option Addr, JT.le l (J p) (J' p)
  | .slice :: l, J, J' => ∀ (p : Option Addr) (m c : Nat), JT.le l (J p m c) (J' p m c)
  | .str :: l, J, J' => ∀ s : ByteArray, JT.le l (J s) (J' s)
  | .val :: l, J, J' => ∀ v : Value, JT.le l (J v) (J' v)

theorem JT.ex_lam {R : Type} : ∀ {l : List Sc} {G : List Value → R} {F : List Value → R → Prop}, JT.ex l (JT.lam l G) F → ∃ vs, F vs (G vs)
  | [], _, _, h => ⟨_, h⟩
  | .int _ :: _, _, _, ⟨_, h⟩ => let ⟨vs, h⟩ := JT.ex_lam h; ⟨_ :: vs, h⟩
  | .bool :: _, _, _, ⟨_, h⟩ => let ⟨vs, h⟩ := JT.ex_lam h; ⟨_ :: vs, h⟩
  | .ptr :: _, _, _, ⟨_, h⟩ => let ⟨vs, h⟩ := JT.ex_lam h; ⟨_ :: vs, h⟩
  | .slice :: _, _, _, ⟨_, _, _, h⟩ => let ⟨vs, h⟩ := JT.ex_lam h; ⟨_ :: vs, h⟩
  | .str :: _, _, _, ⟨_, h⟩ => let ⟨vs, h⟩ := JT.ex_lam h; ⟨_ :: vs, h⟩
  | .val :: _, _, _, ⟨_, h⟩ => let ⟨vs, h⟩ := JT.ex_lam h; ⟨_ :: vs, h⟩

theorem JT.ex_mono : ∀ {l : List Sc} {J J' : JT (World → Prop) l} {F : List Value → (World → Prop) → Prop}, JT.le l J J' →
    (∀ vs (r r' : World → Prop), (∀ w, r w → r' w) → F vs r → F vs r') → JT.ex l J F → JT.ex l J' F
  | [], _, _, _, hl, hF, h => hF _ _ _ hl h
  | .int _ :: _, _, _, _, hl, hF, ⟨n, h⟩ => ⟨n, JT.ex_mono (hl n) (fun vs => hF (_ :: vs)) h⟩
  | .bool :: _, _, _, _, hl, hF, ⟨n, h⟩ => ⟨n, JT.ex_mono (hl n) (fun vs => hF (_ :: vs)) h⟩
  | .ptr :: _, _, _, _, hl, hF, ⟨n, h⟩ => ⟨n, JT.ex_mono (hl n) (fun vs => hF (_ :: vs)) h⟩
  | .slice :: _, _, _, _, hl, hF, ⟨p, m, c, h⟩ => ⟨p, m, c, JT.ex_mono (hl p m c) (fun vs => hF (_ :: vs)) h⟩
  | .str :: _, _, _, _, hl, hF, ⟨n, h⟩ => ⟨n, JT.ex_mono (hl n) (fun vs => hF (_ :: vs)) h⟩
  | .val :: _, _, _, _, hl, hF, ⟨n, h⟩ => ⟨n, JT.ex_mono (hl n) (fun vs => hF (_ :: vs)) h⟩

theorem JT.app_lam {R : Type} : ∀ {l : List Sc} {G : List Value → R} {ovs : List (Option Value)} {Φ : R → Prop}, JT.app l (JT.lam l G) ovs Φ →
    ∃ vs : List Value, ovs = vs.map some ∧ Φ (G vs) := by
  intro l
  induction l with
  | nil =>
    intro G ovs Φ h
    cases ovs with
    | nil => exact ⟨[], rfl, h⟩
    | cons o r => exact h.elim
  | cons s l ih =>
    intro G ovs Φ h
    cases ovs with
    | nil => cases s <;> exact h.elim
    | cons o r =>
      cases o with
      | none => cases s <;> exact h.elim
      | some v =>
        cases s with
        | int k =>
          cases v <;> first | exact h.elim | skip
          rename_i k' n
          simp only [JT.app] at h
          cases hk : (k == k') with
          | false => simp [hk] at h
          | true =>
            simp only [hk, cond_true] at h
            have hk' : k = k' := by simpa using hk
            subst hk'
            obtain ⟨vs, h1, h2⟩ := ih h
            exact ⟨.int k n :: vs, by simp [h1], h2⟩
        | bool => cases v <;> first | exact h.elim | (obtain ⟨vs, h1, h2⟩ := ih h; exact ⟨_ :: vs, by simp [h1], h2⟩)
        | ptr => cases v <;> first | exact h.elim | (obtain ⟨vs, h1, h2⟩ := ih h; exact ⟨_ :: vs, by simp [h1], h2⟩)
        | slice => cases v <;> first | exact h.elim | (obtain ⟨vs, h1, h2⟩ := ih h; exact ⟨_ :: vs, by simp [h1], h2⟩)
        | str => cases v <;> first | exact h.elim | (obtain ⟨vs, h1, h2⟩ := ih h; exact ⟨_ :: vs, by simp [h1], h2⟩)
        | val => obtain ⟨vs, h1, h2⟩ := ih h; exact ⟨v :: vs, by simp [h1], h2⟩

theorem JT.all_app {R : Type} : ∀ {l : List Sc} {I : JT R l} {F : List Value → R → Prop} {ovs : List (Option Value)} {Φ : R → Prop}, JT.all l I F → JT.app l I ovs Φ →
    ∃ (vs : List Value) (r : R), ovs = vs.map some ∧ F vs r ∧ Φ r := by
  intro l
  induction l with
  | nil =>
    intro I F ovs Φ hF h
    cases ovs with
    | nil => exact ⟨[], _, rfl, hF, h⟩
    | cons o r => exact h.elim
  | cons s l ih =>
    intro I F ovs Φ hF h
    cases ovs with
    | nil => cases s <;> exact h.elim
    | cons o r =>
      cases o with
      | none => cases s <;> exact h.elim
      | some v =>
        cases s with
        | int k =>
          cases v <;> first | exact h.elim | skip
          rename_i k' n
          simp only [JT.app] at h
          cases hk : (k == k') with
          | false => simp [hk] at h
          | true =>
            simp only [hk, cond_true] at h
            have hk' : k = k' := by simpa using hk
            subst hk'
            obtain ⟨vs, r', h1, h2, h3⟩ := ih (hF n) h
            exact ⟨.int k n :: vs, r', by simp [h1], h2, h3⟩
        | bool => cases v <;> first | exact h.elim | (obtain ⟨vs, r', h1, h2, h3⟩ := ih (hF _) h; exact ⟨_ :: vs, r', by simp [h1], h2, h3⟩)
        | ptr => cases v <;> first | exact h.elim | (obtain ⟨vs, r', h1, h2, h3⟩ := ih (hF _) h; exact ⟨_ :: vs, r', by simp [h1], h2, h3⟩)
        | slice => cases v <;> first | exact h.elim | (obtain ⟨vs, r', h1, h2, h3⟩ := ih (hF _ _ _) h; exact ⟨_ :: vs, r', by simp [h1], h2, h3⟩)
        | str => cases v <;> first | exact h.elim | (obtain ⟨vs, r', h1, h2, h3⟩ := ih (hF _) h; exact ⟨_ :: vs, r', by simp [h1], h2, h3⟩)
        | val => obtain ⟨vs, r', h1, h2, h3⟩ := ih (hF v) h; exact ⟨v :: vs, r', by simp [h1], h2, h3⟩

theorem JT.ex_of_app : ∀ {l : List Sc} {J : JT (World → Prop) l} {us : List Value} {w : World} {F : List Value → Prop}, JT.app l J (us.map some) (fun r => r w) → F us →
    JT.ex l J fun vs r => F vs ∧ r w := by
  intro l
  induction l with
  | nil =>
    intro J us w F h hF
    cases us with
    | nil => exact ⟨hF, h⟩
    | cons o r => exact h.elim
  | cons s l ih =>
    intro J us w F h hF
    cases us with
    | nil => cases s <;> exact h.elim
    | cons v r =>
      simp only [List.map_cons] at h
      cases s with
      | int k =>
        cases v <;> first | exact h.elim | skip
        rename_i k' n
        simp only [JT.app] at h
        cases hk : (k == k') with
        | false => simp [hk] at h
        | true =>
          simp only [hk, cond_true] at h
          have hk' : k = k' := by simpa using hk
          subst hk'
          exact ⟨n, ih (F := fun vs => F (.int k n :: vs)) h hF⟩
      | bool => cases v <;> first | exact h.elim | exact ⟨_, ih (F := fun vs => F (_ :: vs)) h hF⟩
      | ptr => cases v <;> first | exact h.elim | exact ⟨_, ih (F := fun vs => F (_ :: vs)) h hF⟩
      | slice => cases v <;> first | exact h.elim | exact ⟨_, _, _, ih (F := fun vs => F (_ :: vs)) h hF⟩
      | str => cases v <;> first | exact h.elim | exact ⟨_, ih (F := fun vs => F (_ :: vs)) h hF⟩
      | val => exact ⟨v, ih (F := fun vs => F (v :: vs)) h hF⟩

/-- Another continuation reached by several ways. -/
def withJ {T : Type} (k : T) (A : T → Prop) : Prop := A k
theorem withJ_i {T : Type} {k : T} {A : T → Prop} (h : ∀ J : T, J = k → A J) : withJ k A := h k rfl

/-- A call; its results by their kinds. -/
def callJ (P : Program) (f : FuncId) (args : Array Value) (w : World) (l : List Sh) (J : JT (World → Prop) (scs l)) : Prop :=
  Calls P f args w fun e w' => JT.ex (scs l) J fun vs r => e = .returned (packR l vs) ∧ r w'

theorem callJ.mono {P : Program} {f : FuncId} {args : Array Value} {w : World} {l : List Sh} {J J' : JT (World → Prop) (scs l)} (h : callJ P f args w l J) (hl : JT.le (scs l) J J') : callJ P f args w l J' :=
  Calls.mono h fun _ _ he => JT.ex_mono hl (fun _ _ _ hr hF => ⟨hF.1, hr _ hF.2⟩) he

def shOf (P : Program) (t : TypeId) : Sh :=
  match P.underlying t with
  | some (.struct _) | some (.array _ _) => .agg (flat P 8 t)
  | _ => .one (scOf P t)
def shsOf (P : Program) (t : TypeId) : List Sh :=
  match P.underlying t with
  | some (.tuple ts) => ts.toList.map (shOf P)
  | _ => [shOf P t]

/-! ## Operations that make or write memory -/

def newB (w : World) (o : Obj) (K : Nat → World → Prop) : Prop := K w.heap.size (w.alloc o)
theorem newB_i {w : World} {o : Obj} {K : Nat → World → Prop} (h : ∀ b w', b = w.heap.size → w' = w.alloc o → K b w') : newB w o K := h _ _ rfl rfl

def zeroC (P : Program) (t : TypeId) : Array Value := match (P.info? t).bind (·.zero) with | some z => z.cells | none => #[]

def setCells (w : World) (a : Addr) : Nat → List Value → World
  | _, [] => w
  | i, v :: l => setCells (w.setCell (a.add i) v) a (i + 1) l

/-- May a cell be written? -/
def canW (w : World) (a : Addr) : Prop := (∃ u, w.cell? a = some u) ∧ w.frozen? a = false
def stV (w : World) (a : Addr) (v : Value) (K : World → Prop) : Prop := canW w a ∧ K (w.setCell a v)
def stN (w : World) (a : Addr) (cs : Array Value) (n : Nat) (K : World → Prop) : Prop :=
  cs.size = n ∧ (∀ v ∈ cs.toList, v.oneCell' = true) ∧ (∀ j, j < n → canW w (a.add j)) ∧ K (setCells w a 0 cs.toList)
theorem stV_i {w : World} {a : Addr} {v u : Value} {K : World → Prop} (h : w.cell? a = some u) (hf : w.frozen? a = false) (hk : K (w.setCell a v)) : stV w a v K := ⟨⟨⟨u, h⟩, hf⟩, hk⟩

def vcStore (P : Program) (t : TypeId) (a : Addr) (v : Value) (w : World) (K : World → Prop) : Prop :=
  match P.info? t with
  | none => False
  | some i =>
    match P.underlying t with
    | some (.interface _) => bif Nat.beq i.size 1 then condT v.oneCell' (stV w a v K) else False
    | _ => match v with
      | .agg cs => stN w a cs i.size K
      | v => bif Nat.beq i.size 1 then condT v.oneCell' (stV w a v K) else False

def appJ (P : Program) (t1 t2 : TypeId) (s x : Value) (w : World) (K : Option Addr → Nat → Nat → World → Prop) : Prop :=
  ∃ p l c w', (∀ ty, (Builtin.append_ #[t1, t2] ty #[s, x]).run P w = .ok (.slice p l c) w') ∧ K p l c w'
def cpyJ (P : Program) (t1 t2 : TypeId) (d x : Value) (w : World) (K : Int → World → Prop) : Prop :=
  ∃ n w', (∀ ty, (Builtin.copy_ #[t1, t2] ty #[d, x]).run P w = .ok (.int .i64 n) w') ∧ K n w'
def clrJ (P : Program) (t1 : TypeId) (x : Value) (w : World) (K : World → Prop) : Prop :=
  ∃ w', (∀ ty, (Builtin.clear_ #[t1] ty #[x]).run P w = .ok (.tuple #[]) w') ∧ K w'
def cvJ (P : Program) (t1 t2 : TypeId) (x : Value) (w : World) (K : Option Addr → Nat → Nat → World → Prop) : Prop :=
  ∃ p l c w', (convert t1 t2 x).run P w = .ok (.slice p l c) w' ∧ K p l c w'
def cvStrJ (P : Program) (t1 t2 : TypeId) (x : Value) (w : World) (K : ByteArray → World → Prop) : Prop :=
  ∃ s w', (convert t1 t2 x).run P w = .ok (.string s) w' ∧ K s w'

def mkS (w : World) (e : TypeId) (z : Array Value) (sz bytes : Nat) (len cap : Int) (K : Nat → World → Prop) : Prop :=
  0 ≤ len ∧ len ≤ cap ∧ (bytes : Int) * cap ≤ 281474976710656 ∧ cap ≤ 9223372036854775807 ∧ newB w (.cells (madeCells z (cap.toNat * sz)) e) K

def setBlk (w : World) (b : Nat) (o : Obj) : World := { w with heap := w.heap.setIfInBounds b o }
def nextS (w : World) (b : Nat) (K1 : Nat → Int → World → Prop) (K2 : World → Prop) : Prop :=
  ∃ s pos, w.heap[b]? = some (.stringIter s pos) ∧
    (pos < s.size → K1 pos (Utf8.decode s pos).1 (setBlk w b (.stringIter s (pos + (Utf8.decode s pos).2)))) ∧ (¬ pos < s.size → K2 w)

def plainFn (P : Program) (f : FuncId) : Bool :=
  match P.funcs[f]? with
  | some fn => !(fn.name == "runtime.NumGoroutine") && fn.body.isSome
  | none => false

/-- A call of a function that the model gives itself. -/
def extJ (P : Program) (f : FuncId) (args : Array Value) (w : World) (l : List Sh) (J : JT (World → Prop) (scs l)) : Prop :=
  ∃ v w', (callFunc f args).run P w = .ok (.value v) w' ∧ JT.ex (scs l) J fun vs r => v = packR l vs ∧ r w'

def vcEff (P : Program) (fr : Fr) (o : Oper) (w : World) (K : Value → World → Prop) : Prop :=
  match o.op with
  | .store t x y => (match ev fr x, ev fr y with
    | some (.pointer p), some v => nonNil p fun a => vcStore P t a v w (K undef)
    | _, _ => False)
  | .alloc t => bif ((P.info? t).bind (·.zero)).isSome then newB w (.cells (zeroC P t) t) fun b w' => K (.pointer (some ⟨b, 0, none⟩)) w' else False
  | .box t x => (match ev fr x with | some v => newB w (.cells v.cells t) fun b w' => K (.pointer (some ⟨b, 0, none⟩)) w' | none => False)
  | .buildSlice t len parts => (match P.underlying t, evParts fr parts.toList with
    | some (.slice e), some vs => (match P.info? e with
      | some j => (match j.zero with
        | some z => bif Nat.ble (len * j.size) 16777216 && Nat.beq z.cells.size j.size then
            spC (len * j.size) (fun i => some (i * j.size, j.size)) vs (List.replicate len z.cells.toList).flatten fun l =>
              newB w (.cells ⟨l⟩ e) fun b w' => K (.slice (some ⟨b, 0, none⟩) len len) w'
          else False
        | none => False)
      | none => False)
    | _, _ => False)
  | .makeSlice t x y => (match P.underlying t, ev fr x, ev fr y with
    | some (.slice e), some (.int _ l), some (.int _ c) => (match P.info? e with
      | some j => bif j.zero.isSome then mkS w e (zeroC P e) j.size j.bytes l c fun b w' => K (.slice (some ⟨b, 0, none⟩) l.toNat c.toNat) w' else False
      | none => False)
    | _, _, _ => False)
  | .convert s d x => (match P.underlying d, ev fr x with
    | some (.slice _), some v => cvJ P s d v w fun p l c w' => K (.slice p l c) w'
    | some .string, some v => cvStrJ P s d v w fun s' w' => K (.string s') w'
    | _, _ => False)
  | .range t x => (match P.underlying t, ev fr x with
    | some .string, some (.string s) => newB w (.stringIter s 0) fun b w' => K (.pointer (some ⟨b, 0, none⟩)) w'
    | _, _ => False)
  | .next x isStr => (match ev fr x with
    | some (.pointer p) => nonNil p fun a => bif Nat.beq a.off 0 && isStr then
        nextS w a.block (fun pos c w' => K (.tuple #[.bool true, .int .i64 pos, .int .i32 c]) w') (fun w' => K (.tuple #[.bool false]) w') else False
    | _ => False)
  | .call { callee := .value f, args, .. } => (match ev fr f, evs fr args.toList with
    | some (.func (.func g) first captured), some vs => bif plainFn P g then
        callJ P g (first.toList ++ vs ++ captured.toList).toArray w (shsOf P o.type) (JT.lam _ fun us w' => K (packR (shsOf P o.type) us) w')
        else extJ P g (first.toList ++ vs ++ captured.toList).toArray w (shsOf P o.type) (JT.lam _ fun us w' => K (packR (shsOf P o.type) us) w')
    | _, _ => False)
  | .call { callee := .builtin .append, args, argTypes } => (match args.toList, argTypes.toList with
    | [x, y], [t1, t2] => (match ev fr x, ev fr y with
      | some s, some v => appJ P t1 t2 s v w fun p l c w' => K (.slice p l c) w'
      | _, _ => False)
    | _, _ => False)
  | .call { callee := .builtin .copy, args, argTypes } => (match args.toList, argTypes.toList with
    | [x, y], [t1, t2] => (match ev fr x, ev fr y with
      | some s, some v => cpyJ P t1 t2 s v w fun k w' => K (.int .i64 k) w'
      | _, _ => False)
    | _, _ => False)
  | .call { callee := .builtin .clear, args, argTypes } => (match args.toList, argTypes.toList with
    | [x], [t1] => (match ev fr x with
      | some s => clrJ P t1 s w fun w' => K (.tuple #[]) w'
      | _ => False)
    | _, _ => False)
  | _ => False

section sound
variable {P : Program} {n : Nat} {fr : Fr} {a : Act}

theorem wp_of_run {o : Oper} {w w' : World} {v : Value} {next : Act → World → Prop} {Q : Exit → Act → World → Prop}
    (h : (execOp a.eval o).run P w = .ok (.value v) w') (hk : next (a.put o.dst v) w') : o.wp P a w next Q := by
  unfold Oper.wp; rw [h]; exact hk
theorem wp_of_skip {o : Oper} {w w' : World} {next : Act → World → Prop} {Q : Exit → Act → World → Prop}
    (h : (execOp a.eval o).run P w = .ok .skip w') (hk : next (a.put o.dst undef) w') : o.wp P a w next Q := by
  unfold Oper.wp; rw [h]; exact hk

theorem add_zero' (a : Addr) : a.add 0 = a := by simp [Addr.add]

theorem canW_setCell {w : World} {a b : Addr} {v : Value} (h : canW w b) : canW (w.setCell a v) b := by
  obtain ⟨⟨u, hu⟩, hf⟩ := h
  refine ⟨?_, ?_⟩
  · by_cases hab : a = b
    · subst hab; exact ⟨v, World.cell?_setCell_same w a v hu⟩
    · exact ⟨u, by rw [World.cell?_setCell_other w a b v hab]; exact hu⟩
  · rw [World.frozen?_setCell]; exact hf

theorem run_storeCells : ∀ (l : List Value) (i : Nat) (w : World) (ad : Addr), (∀ v ∈ l, v.oneCell' = true) → (∀ j, j < l.length → canW w (ad.add (i + j))) →
    (storeCells ad l i).run P w = .ok () (setCells w ad i l)
  | [], i, w, ad, _, _ => rfl
  | v :: l, i, w, ad, h1, h2 => by
    have h0 := h2 0 (by simp)
    obtain ⟨⟨u, hu⟩, hf⟩ := h0
    simp only [Nat.add_zero] at hu hf
    have hst : (store (ad.add i) v).run P w = .ok () (w.setCell (ad.add i) v) := by
      rw [run_store P w _ v _ (h1 v (by simp)), hu]
      simp [hf]
    simp only [storeCells, Sem.run_bind, hst, Result.andThen_ok, setCells]
    exact run_storeCells l (i + 1) _ ad (fun x hx => h1 x (by simp [hx])) (fun j hj => canW_setCell (by
      have := h2 (j + 1) (by simp; omega)
      rwa [show i + (j + 1) = i + 1 + j by omega] at this))

theorem vcStore_o {t : TypeId} {ad : Addr} {v : Value} {w : World} {K : World → Prop} (h : vcStore P t ad v w K) :
    ∃ w', (storeVar t ad v).run P w = .ok () w' ∧ K w' := by
  unfold vcStore at h
  split at h
  · exact h.elim
  · rename_i i hi
    split at h
    · cases hb : Nat.beq i.size 1 with
      | false => simp [hb] at h
      | true =>
        simp only [hb, cond_true] at h
        obtain ⟨ho, hc, hk⟩ := condT_o h
        have hv : v.cells = #[v] := by cases v <;> first | rfl | (simp [Value.oneCell'] at ho)
        have h1 : i.size = 1 := Nat.eq_of_beq_eq_true hb
        refine ⟨_, ?_, hk⟩
        have := run_storeCells (P := P) [v] 0 w ad (by simpa using ho) (by intro j hj; simp at hj; subst hj; simpa [add_zero'] using hc)
        simp only [setCells, add_zero'] at this
        simp [storeVar, sizeOf, typeInfo, hi, hv, h1, this]
    · split at h
      · rename_i cs
        obtain ⟨h1, h2, h3, h4⟩ := h
        refine ⟨_, ?_, h4⟩
        have := run_storeCells (P := P) cs.toList 0 w ad h2 (by intro j hj; rw [Nat.zero_add]; exact h3 j (by simpa [h1] using hj))
        simp [storeVar, sizeOf, typeInfo, hi, Value.cells, h1, this]
      · cases hb : Nat.beq i.size 1 with
        | false => simp [hb] at h
        | true =>
          simp only [hb, cond_true] at h
          obtain ⟨ho, hc, hk⟩ := condT_o h
          have hv : v.cells = #[v] := by cases v <;> first | rfl | (simp [Value.oneCell'] at ho)
          have h1 : i.size = 1 := Nat.eq_of_beq_eq_true hb
          refine ⟨_, ?_, hk⟩
          have := run_storeCells (P := P) [v] 0 w ad (by simpa using ho) (by intro j hj; simp at hj; subst hj; simpa [add_zero'] using hc)
          simp only [setCells, add_zero'] at this
          simp [storeVar, sizeOf, typeInfo, hi, hv, h1, this]

theorem flatten_replicate (l : List Value) : ∀ (k i : Nat), i < k * l.length → (List.replicate k l).flatten[i]? = l[i % l.length]?
  | 0, i, h => by simp at h
  | k + 1, i, h => by
    rw [List.replicate_succ, List.flatten_cons]
    by_cases hi : i < l.length
    · rw [List.getElem?_append_left hi, Nat.mod_eq_of_lt hi]
    · rw [List.getElem?_append_right (by omega), flatten_replicate l k (i - l.length) (by rw [Nat.succ_mul] at h; omega)]
      congr 1
      rw [← Nat.mod_eq_sub_mod (by omega)]

theorem zrow_eq (z : Array Value) (k : Nat) : (Array.range (k * z.size)).map (z[· % z.size]!) = (List.replicate k z.toList).flatten.toArray := by
  apply Array.ext'
  apply List.ext_getElem?
  intro i
  by_cases hi : i < k * z.size
  · have h0 : 0 < z.size := by
      rcases Nat.eq_zero_or_pos z.size with h | h
      · rw [h] at hi; omega
      · exact h
    have hm : i % z.size < z.size := Nat.mod_lt _ h0
    rw [flatten_replicate z.toList k i (by simpa using hi)]
    simp [hi, hm]
  · have e1 : (List.replicate k z.toList).flatten.length = k * z.size := by simp
    rw [List.getElem?_eq_none (by simp; omega), List.getElem?_eq_none (by rw [e1]; omega)]

theorem zeroC_of {t : TypeId} {i : TypeInfo} {z : Value} (hi : P.info? t = some i) (hz : i.zero = some z) : zeroC P t = z.cells := by
  simp [zeroC, hi, hz]

theorem vcEff_o (hs : Sim n fr a) {o : Oper} {w : World} {K : Value → World → Prop} {next : Act → World → Prop} {Q : Exit → Act → World → Prop}
    (h : vcEff P fr o w K) (hK : ∀ v w', K v w' → next (a.put o.dst v) w') : o.wp P a w next Q := by
  obtain ⟨dst, op, ty, pos, aft, gd⟩ := o
  unfold vcEff at h
  dsimp only at h
  split at h
  · -- store
    rename_i t x y
    split at h
    · rename_i p v hx hy
      obtain ⟨ad, rfl, h⟩ := nonNil_o h
      obtain ⟨w', hr, hk⟩ := vcStore_o h
      exact wp_of_skip (w' := w') (by simp [execOp, hs.eval hx, hs.eval hy, Instr.storeAt, Instr.sureAddr, hr]) (hK _ _ hk)
    · exact h.elim
  · -- alloc
    rename_i t
    cases hz : (P.info? t).bind (·.zero) with
    | none => simp [hz] at h
    | some z =>
      simp only [hz, Option.isSome_some, cond_true] at h
      cases hi : P.info? t with
      | none => simp [hi] at hz
      | some i =>
        have hz' : i.zero = some z := by simpa [hi] using hz
        refine wp_of_run (v := .pointer (some ⟨w.heap.size, 0, none⟩)) (w' := w.alloc (.cells z.cells t)) ?_ (hK _ _ ?_)
        · simp [execOp, Instr.alloc, zeroValue, typeInfo, hi, hz', newVar, newRow]
        · have := h; rw [zeroC_of hi hz'] at this; exact this
  · -- box
    rename_i t x
    split at h
    · rename_i v hx
      refine wp_of_run (v := .pointer (some ⟨w.heap.size, 0, none⟩)) (w' := w.alloc (.cells v.cells t)) ?_ (hK _ _ h)
      simp [execOp, hs.eval hx, Instr.box, newVar, newRow]
    · exact h.elim
  · -- buildSlice
    rename_i t len parts
    split at h
    · rename_i e vs hu he
      split at h
      · rename_i j hj
        split at h
        · rename_i z hz
          cases hb : (Nat.ble (len * j.size) 16777216 && Nat.beq z.cells.size j.size) with
          | false => simp [hb] at h
          | true =>
            simp only [hb, cond_true] at h
            simp only [Bool.and_eq_true] at hb
            have h1 : len * j.size ≤ 16777216 := Nat.le_of_ble_eq_true hb.1
            have h2 : z.cells.size = j.size := Nat.eq_of_beq_eq_true hb.2
            obtain ⟨l', g1, g2, g3⟩ := spC_o (by simp [h2]) h
            rw [← zrow_eq, h2] at g2
            refine wp_of_run (v := .slice (some ⟨w.heap.size, 0, none⟩) len len) (w' := w.alloc (.cells ⟨l'⟩ e)) ?_ (hK _ _ g3)
            have hp2 : (parts.map fun (i, x) => (i, a.eval x)) = vs.toArray := by
              apply Array.ext'; simpa using evParts_o hs he
            have hn : ¬ (len * j.size > 2 ^ 24) := by omega
            by_cases h0 : len * j.size = 0
            · rw [h0] at g2
              have g2' : Instr.fill (fun i => some (i * j.size, j.size)) #[] vs = some l'.toArray := by simpa [Array.range_zero'] using g2
              simp [execOp, hp2, Instr.buildSlice, run_underlying' hu, sizeOf, typeInfo, hj, h0, Array.range_zero', g2', newRow]
            · simp only [execOp, hp2, Instr.buildSlice, run_underlying' hu, sizeOf, typeInfo, hj, hn, h0, if_false, Sem.run_bind, run_program, Result.andThen_ok, Sem.run_pure, zeroValue, hz]
              simp [h2, g2, newRow]
        · exact h.elim
      · exact h.elim
    · exact h.elim
  · -- makeSlice
    rename_i t x y
    split at h
    · rename_i e kl l kc c hu hx hy
      split at h
      · rename_i j hj
        cases hz : j.zero with
        | none => simp [hz] at h
        | some z =>
          simp only [hz, Option.isSome_some, cond_true] at h
          obtain ⟨h1, h2, h3, h4, h5⟩ := h
          rw [zeroC_of hj hz] at h5
          have hr := run_make (P := P) w t e j z hu hj hz kl kc l c h1 h2 h3 h4
          exact wp_of_run (by simp [execOp, hs.eval hx, hs.eval hy, hr]) (hK _ _ h5)
      · exact h.elim
    · exact h.elim
  · -- convert
    rename_i s d x
    split at h
    · rename_i v hu hx
      obtain ⟨p, l, c, w', hr, hk⟩ := h
      exact wp_of_run (w' := w') (by simp [execOp, hs.eval hx, hr]) (hK _ _ hk)
    · rename_i v hu hx
      obtain ⟨s', w', hr, hk⟩ := h
      exact wp_of_run (w' := w') (by simp [execOp, hs.eval hx, hr]) (hK _ _ hk)
    · exact h.elim
  · -- range
    rename_i t x
    split at h
    · rename_i s hu hx
      refine wp_of_run (v := .pointer (some ⟨w.heap.size, 0, none⟩)) (w' := w.alloc (.stringIter s 0)) ?_ (hK _ _ h)
      simp [execOp, hs.eval hx, Instr.range, run_underlying' hu]
    · exact h.elim
  · -- next
    rename_i x isStr
    split at h
    · rename_i p hx
      obtain ⟨ad, rfl, hn⟩ := nonNil_o h
      clear h
      cases hb : (Nat.beq ad.off 0 && isStr) with
      | false => rw [hb] at hn; exact hn.elim
      | true =>
        rw [hb] at hn
        simp only [Bool.and_eq_true] at hb
        obtain ⟨hb1, rfl⟩ := hb
        have hoff : ad.off = 0 := Nat.eq_of_beq_eq_true hb1
        obtain ⟨s, pos, hh, h1, h2⟩ := hn
        obtain ⟨bk, off, sp⟩ := ad
        simp only at hoff hh h1 h2
        subst hoff
        have hlt : bk < w.heap.size := by
          rcases Nat.lt_or_ge bk w.heap.size with h | h
          · exact h
          · simp [Array.getElem?_eq_none h] at hh
        by_cases hp : pos < s.size
        · refine wp_of_run (v := .tuple #[.bool true, .int .i64 pos, .int .i32 (Utf8.decode s pos).1]) (w' := setBlk w bk (.stringIter s (pos + (Utf8.decode s pos).2))) ?_ (hK _ _ (h1 hp))
          simp [execOp, hs.eval hx, Instr.next, getObj, setObj, Sem.run, hh, hp, goInt, setBlk]
        · refine wp_of_run (v := .tuple #[.bool false]) (w' := w) ?_ (hK _ _ (h2 hp))
          simp [execOp, hs.eval hx, Instr.next, getObj, Sem.run, hh, hp]
    · exact h.elim
  · -- call
    rename_i f args ats
    split at h
    · rename_i g first captured vs hf hv
      have hargs : args.map a.eval = vs.toArray := by apply Array.ext'; simpa using hs.evals hv
      have hap : first ++ vs.toArray ++ captured = (first.toList ++ vs ++ captured.toList).toArray := by apply Array.ext'; simp
      cases hp : plainFn P g with
      | false =>
        simp only [hp, cond_false] at h
        obtain ⟨v, w', hr, hJ⟩ := h
        obtain ⟨us, he, hk⟩ := JT.ex_lam hJ
        subst he
        refine wp_of_run (w' := w') ?_ (hK _ _ hk)
        have : (execOp a.eval ⟨dst, .call { callee := .value f, args := args, argTypes := ats }, ty, pos, aft, gd⟩).run P w = (callFunc g (first.toList ++ vs ++ captured.toList).toArray).run P w := by
          simp only [execOp, resolve, hs.eval hf, hargs, Deferred.ofValue, invoke, Sem.run_bind, Sem.run_pure, Result.andThen_ok, hap]
        rw [this]; exact hr
      | true =>
        simp only [hp, cond_true] at h
        unfold plainFn at hp
        split at hp
        · rename_i fn hfn
          simp only [Bool.and_eq_true, Bool.not_eq_true'] at hp
          have hbody : fn.body.isNone = false := by cases hb : fn.body <;> simp_all
          have hargs : args.map a.eval = vs.toArray := by apply Array.ext'; simpa using hs.evals hv
          have hrun : (execOp a.eval ⟨dst, .call { callee := .value f, args := args, argTypes := ats }, ty, pos, aft, gd⟩).run P w =
              .ok (.enter g (first.toList ++ vs ++ captured.toList).toArray) w := by
            have he : first ++ vs.toArray ++ captured = (first.toList ++ vs ++ captured.toList).toArray := by apply Array.ext'; simp
            simp only [execOp, resolve, hs.eval hf, hargs, Deferred.ofValue, invoke, callFunc, Sem.run_bind, Sem.run_pure, Result.andThen_ok, run_program, hfn, hp.1, Bool.false_eq_true, if_false, hbody, he]
          unfold Oper.wp
          rw [hrun]
          refine Calls.mono h fun e w' he => ?_
          obtain ⟨us, he, hr⟩ := JT.ex_lam he
          subst he
          exact hK _ _ hr
        · simp at hp
    · exact h.elim
  · -- append
    rename_i args ats
    split at h
    · rename_i x y t1 t2 e1 e2
      split at h
      · rename_i s v hx hy
        obtain ⟨p, l, c, w', hr, hk⟩ := h
        have e1' : args = #[x, y] := by apply Array.ext'; simpa using e1
        have e2' : ats = #[t1, t2] := by apply Array.ext'; simpa using e2
        subst e1'; subst e2'
        exact wp_of_run (w' := w') (by simp [execOp, resolve, invoke, builtin, hs.eval hx, hs.eval hy, hr]) (hK _ _ hk)
      · exact h.elim
    · exact h.elim
  · -- copy
    rename_i args ats
    split at h
    · rename_i x y t1 t2 e1 e2
      split at h
      · rename_i s v hx hy
        obtain ⟨k, w', hr, hk⟩ := h
        have e1' : args = #[x, y] := by apply Array.ext'; simpa using e1
        have e2' : ats = #[t1, t2] := by apply Array.ext'; simpa using e2
        subst e1'; subst e2'
        exact wp_of_run (w' := w') (by simp [execOp, resolve, invoke, builtin, hs.eval hx, hs.eval hy, hr]) (hK _ _ hk)
      · exact h.elim
    · exact h.elim
  · -- clear
    rename_i args ats
    split at h
    · rename_i x t1 e1 e2
      split at h
      · rename_i s hx
        obtain ⟨w', hr, hk⟩ := h
        have e1' : args = #[x] := by apply Array.ext'; simpa using e1
        have e2' : ats = #[t1] := by apply Array.ext'; simpa using e2
        subst e1'; subst e2'
        exact wp_of_run (w' := w') (by simp [execOp, resolve, invoke, builtin, hs.eval hx, hr]) (hK _ _ hk)
      · exact h.elim
    · exact h.elim
  · exact h.elim

end sound

end Go.Vc

