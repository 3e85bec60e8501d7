/-
  A weakest-precondition reading of the loaded code, typed slot by slot: 'vcFun' reckons a proposition out of a function's code;
  'vc_calls' says that it implies 'Calls'. Nothing here speaks of one program.
-/
import Derived.WalkKit
import Derived.OrdersHeld
import Derived.Laws.StructEq
import Derived.ChangeKeysEq
namespace Go.Vc
open Go Go.RowKit

/-! ## Frames: what is known of the slots -/

abbrev Fr := Nat → Option Value

def Fr.set (fr : Fr) (d : Nat) (v : Option Value) : Fr := fun t => bif Nat.beq t d then v else fr t

/-- A slot is written, if there is such a slot. -/
def Fr.put (n : Nat) (fr : Fr) (dst : Option Nat) (v : Value) : Fr :=
  match dst with
  | some d => fr.set d (bif Nat.blt d n then some v else none)
  | none => fr

def ev (fr : Fr) : Operand → Option Value
  | .tmp t => fr t
  | .const v => some v
  | .global g => some (.pointer (some ⟨g, 0, none⟩))
  | .func f => some (.func (.func f) #[] #[])

def evs (fr : Fr) : List Operand → Option (List Value)
  | [] => some []
  | x :: xs => match ev fr x with
    | none => none
    | some v => match evs fr xs with
      | none => none
      | some vs => some (v :: vs)

structure Sim (n : Nat) (fr : Fr) (a : Act) : Prop where
  defers : a.defers = []
  size : a.tmps.size = n
  val : ∀ t v, fr t = some v → a.tmps[t]? = some v

theorem Sim.eval {n : Nat} {fr : Fr} {a : Act} (h : Sim n fr a) {x : Operand} {v : Value} (hx : ev fr x = some v) : a.eval x = v := by
  cases x with
  | tmp t => simp only [ev] at hx; simp [Act.eval, h.val t v hx]
  | const u => simp only [ev, Option.some.injEq] at hx; exact hx
  | global g => simp only [ev, Option.some.injEq] at hx; exact hx
  | func f => simp only [ev, Option.some.injEq] at hx; exact hx

theorem Sim.evals {n : Nat} {fr : Fr} {a : Act} (h : Sim n fr a) : ∀ {xs : List Operand} {vs : List Value}, evs fr xs = some vs → xs.map a.eval = vs
  | [], vs, hx => by simp only [evs, Option.some.injEq] at hx; simp [hx]
  | x :: xs, vs, hx => by
    simp only [evs] at hx
    cases h1 : ev fr x with
    | none => simp [h1] at hx
    | some v =>
      cases h2 : evs fr xs with
      | none => simp [h1, h2] at hx
      | some us =>
        simp only [h1, h2, Option.some.injEq] at hx
        simp [← hx, h.eval h1, h.evals h2]

theorem Sim.put {n : Nat} {fr : Fr} {a : Act} (h : Sim n fr a) (dst : Option Nat) (v : Value) : Sim n (fr.put n dst v) (a.put dst v) := by
  cases dst with
  | none => exact h
  | some d =>
    refine ⟨h.defers, by simp [Act.put, h.size], fun t u hu => ?_⟩
    simp only [Fr.put, Fr.set] at hu
    by_cases htd : t = d
    · subst htd
      rw [show Nat.beq t t = true from Nat.beq_refl t, cond_true] at hu
      by_cases hn : t < n
      · have : Nat.blt t n = true := by simpa [Nat.blt_eq] using hn
        simp only [this, cond_true, Option.some.injEq] at hu
        simp [Act.put, h.size, hn, hu]
      · have : Nat.blt t n = false := by
          cases hb : Nat.blt t n with
          | false => rfl
          | true => exact absurd (by simpa [Nat.blt_eq] using hb) hn
        simp [this] at hu
    · have : Nat.beq t d = false := by
        cases hb : Nat.beq t d with
        | false => rfl
        | true => exact absurd (Nat.eq_of_beq_eq_true hb) htd
      simp only [this, cond_false] at hu
      simp [Act.put, Array.getElem?_setIfInBounds_ne (Ne.symm htd), h.val t u hu]

/-- A slot whose Bool is known by now. -/
theorem Sim.know {n : Nat} {fr : Fr} {a : Act} (h : Sim n fr a) {d : Nat} {v : Value} (hd : fr d = some v) : Sim n (fr.set d (some v)) a := by
  refine ⟨h.defers, h.size, fun t u hu => ?_⟩
  simp only [Fr.set] at hu
  by_cases htd : t = d
  · subst htd
    rw [show Nat.beq t t = true from Nat.beq_refl t, cond_true] at hu
    exact h.val t u (by rw [hd]; exact hu)
  · have : Nat.beq t d = false := by
      cases hb : Nat.beq t d with
      | false => rfl
      | true => exact absurd (Nat.eq_of_beq_eq_true hb) htd
    simp only [this, cond_false] at hu
    exact h.val t u hu

/-! ## The words of a condition -/

def condB (b : Bool) (A B : Prop) : Prop := match b with | true => A | false => B
theorem condB_i {b : Bool} {A B : Prop} (h1 : b = true → A) (h2 : b = false → B) : condB b A B := by
  cases b
  · exact h2 rfl
  · exact h1 rfl
theorem condB_d {p : Prop} [Decidable p] {A B : Prop} (h1 : p → A) (h2 : ¬ p → B) : condB (decide p) A B :=
  condB_i (fun h => h1 (of_decide_eq_true h)) (fun h => h2 (of_decide_eq_false h))
theorem condB_eq {x y : Int} {A B : Prop} (h1 : x = y → A) (h2 : x ≠ y → B) : condB (x == y) A B :=
  condB_i (fun h => h1 (by simpa using h)) (fun h => h2 (by simpa using h))
theorem condB_ne {x y : Int} {A B : Prop} (h1 : x ≠ y → A) (h2 : x = y → B) : condB (x != y) A B :=
  condB_i (fun h => h1 (by simpa using h)) (fun h => h2 (by simpa using h))
theorem condB_not {b : Bool} {A B : Prop} (h1 : b = false → A) (h2 : b = true → B) : condB (!b) A B :=
  condB_i (fun h => h1 (by simpa using h)) (fun h => h2 (by simpa using h))
theorem condB_o {b : Bool} {A B : Prop} : condB b A B → (b = true ∧ A) ∨ (b = false ∧ B) := by
  cases b
  · exact fun h => .inr ⟨rfl, h⟩
  · exact fun h => .inl ⟨rfl, h⟩

def nonNil (p : Option Addr) (K : Addr → Prop) : Prop := match p with | some a => K a | none => False
theorem nonNil_o {p : Option Addr} {K : Addr → Prop} (h : nonNil p K) : ∃ a, p = some a ∧ K a := by
  cases p with
  | none => exact h.elim
  | some a => exact ⟨a, rfl, h⟩

def optC {α : Type} (o : Option α) (K : α → Prop) : Prop := match o with | some a => K a | none => False
theorem optC_o {α : Type} {o : Option α} {K : α → Prop} (h : optC o K) : ∃ a, o = some a ∧ K a := by
  cases o with
  | none => exact h.elim
  | some a => exact ⟨a, rfl, h⟩
def ldI (k : IntKind) (w : World) (a : Addr) (K : Int → Prop) : Prop := ∃ n, w.cell? a = some (.int k n) ∧ K n
def ldB (w : World) (a : Addr) (K : Bool → Prop) : Prop := ∃ b, w.cell? a = some (.bool b) ∧ K b
def ldP (w : World) (a : Addr) (K : Option Addr → Prop) : Prop := ∃ p, w.cell? a = some (.pointer p) ∧ K p
def ldS (w : World) (a : Addr) (K : Option Addr → Nat → Nat → Prop) : Prop := ∃ p l c, w.cell? a = some (.slice p l c) ∧ K p l c
def ldStr (w : World) (a : Addr) (K : ByteArray → Prop) : Prop := ∃ s, w.cell? a = some (.string s) ∧ K s
def ldV (w : World) (a : Addr) (K : Value → Prop) : Prop := ∃ v, w.cell? a = some v ∧ K v
def cellsAt (w : World) (a : Addr) (cs : List Value) : Prop := ∀ j v, cs[j]? = some v → w.cell? (a.add j) = some v
def ldN (w : World) (a : Addr) (n : Nat) (K : List Value → Prop) : Prop := ∃ cs : List Value, cs.length = n ∧ cellsAt w a cs ∧ K cs

theorem ldI_i {k : IntKind} {w : World} {a : Addr} {K : Int → Prop} {n : Int} (h : w.cell? a = some (.int k n)) (hk : K n) : ldI k w a K := ⟨n, h, hk⟩
theorem ldStr_i {w : World} {a : Addr} {K : ByteArray → Prop} {s : ByteArray} (h : w.cell? a = some (.string s)) (hk : K s) : ldStr w a K := ⟨s, h, hk⟩
/-! ## Kinds of cells -/

inductive Sc where
  | int (k : IntKind) | bool | ptr | slice | str | val

def scOf (P : Program) (t : TypeId) : Sc :=
  match P.underlying t with
  | some (.int k) => .int k
  | some .bool => .bool
  | some (.pointer _) => .ptr
  | some (.slice _) => .slice
  | some .string => .str
  | _ => .val

def ldSc (s : Sc) (w : World) (a : Addr) (K : Value → Prop) : Prop :=
  match s with
  | .int k => ldI k w a fun n => K (.int k n)
  | .bool => ldB w a fun b => K (.bool b)
  | .ptr => ldP w a fun p => K (.pointer p)
  | .slice => ldS w a fun p l c => K (.slice p l c)
  | .str => ldStr w a fun s => K (.string s)
  | .val => ldV w a fun v => K v

theorem ldSc_o {s : Sc} {w : World} {a : Addr} {K : Value → Prop} (h : ldSc s w a K) : ∃ v, w.cell? a = some v ∧ K v := by
  cases s with
  | int k => obtain ⟨n, h1, h2⟩ := h; exact ⟨_, h1, h2⟩
  | bool => obtain ⟨n, h1, h2⟩ := h; exact ⟨_, h1, h2⟩
  | ptr => obtain ⟨n, h1, h2⟩ := h; exact ⟨_, h1, h2⟩
  | slice => obtain ⟨p, l, c, h1, h2⟩ := h; exact ⟨_, h1, h2⟩
  | str => obtain ⟨n, h1, h2⟩ := h; exact ⟨_, h1, h2⟩
  | val => obtain ⟨n, h1, h2⟩ := h; exact ⟨_, h1, h2⟩

/-- The kinds of a variable's cells, in their order. -/
def flat (P : Program) : Nat → TypeId → List Sc
  | 0, _ => []
  | d + 1, t =>
    match P.underlying t with
    | some (.struct fs) => fs.toList.flatMap fun f => flat P d f.type
    | some (.array n e) => (List.replicate n (flat P d e)).flatten
    | _ => [scOf P t]

def ldCells (w : World) (a : Addr) : Nat → List Sc → (List Value → Prop) → Prop
  | _, [], K => K []
  | i, s :: l, K => ldSc s w (a.add i) fun v => ldCells w a (i + 1) l fun vs => K (v :: vs)

theorem ldCells_o {w : World} {a : Addr} : ∀ {l : List Sc} {i : Nat} {K : List Value → Prop}, ldCells w a i l K →
    ∃ vs : List Value, vs.length = l.length ∧ (∀ j v, vs[j]? = some v → w.cell? (a.add (i + j)) = some v) ∧ K vs
  | [], i, K, h => ⟨[], rfl, by simp, h⟩
  | s :: l, i, K, h => by
    obtain ⟨v, h1, h2⟩ := ldSc_o h
    obtain ⟨vs, h3, h4, h5⟩ := ldCells_o h2
    refine ⟨v :: vs, by simp [h3], fun j u hu => ?_, h5⟩
    cases j with
    | zero => simp at hu; subst hu; simpa using h1
    | succ j => have := h4 j u (by simpa using hu); rwa [show i + (j + 1) = i + 1 + j by omega]

/-! ## What only reads: a value, and on what of the world it hangs -/

def w64 (n : Int) : Int := IntKind.i64.wrap n

def intBin (op : BinOp) (k : IntKind) (x y : Int) (K : Value → Prop) : Prop :=
  match op with
  | .add => K (.int k (k.wrap (x + y)))
  | .sub => K (.int k (k.wrap (x - y)))
  | .mul => K (.int k (k.wrap (x * y)))
  | .quo => y ≠ 0 ∧ K (.int k (k.wrap (x.tdiv y)))
  | .rem => y ≠ 0 ∧ K (.int k (x.tmod y))
  | .and => K (.int k (k.wrap (BitVec.ofInt k.bits x &&& BitVec.ofInt k.bits y).toNat))
  | .or => K (.int k (k.wrap (BitVec.ofInt k.bits x ||| BitVec.ofInt k.bits y).toNat))
  | .xor => K (.int k (k.wrap (BitVec.ofInt k.bits x ^^^ BitVec.ofInt k.bits y).toNat))
  | .andNot => K (.int k (k.wrap (BitVec.ofInt k.bits x &&& ~~~(BitVec.ofInt k.bits y)).toNat))
  | .shl => 0 ≤ y ∧ K (.int k (k.wrap (x * 2 ^ (min y.toNat k.bits))))
  | .shr => 0 ≤ y ∧ K (.int k (x.fdiv (2 ^ (min y.toNat k.bits))))
  | .eql => K (.bool (x == y))
  | .neq => K (.bool (x != y))
  | .lss => K (.bool (decide (x < y)))
  | .leq => K (.bool (decide (x ≤ y)))
  | .gtr => K (.bool (decide (x > y)))
  | .geq => K (.bool (decide (x ≥ y)))

def isShift : BinOp → Bool | .shl | .shr => true | _ => false

def strBin (op : BinOp) (x y : ByteArray) (K : Value → Prop) : Prop :=
  match op with
  | .add => ((x.size + y.size : Nat) : Int) ≤ 9223372036854775807 ∧ K (.string (x ++ y))
  | .eql => K (.bool (x.toList == y.toList))
  | .neq => K (.bool !(x.toList == y.toList))
  | .lss => K (.bool (Op.bytesLess x.toList y.toList))
  | .leq => K (.bool (Op.bytesLess x.toList y.toList || x.toList == y.toList))
  | .gtr => K (.bool !(Op.bytesLess x.toList y.toList || x.toList == y.toList))
  | .geq => K (.bool !(Op.bytesLess x.toList y.toList))
  | _ => False

/-- Two structs' fields, compared in turn ('sub': two structs within them). -/
def eqFsL (P : Program) (sub : Array Value → Array Value → List Field → Option Bool) (xs ys : Array Value) : List Field → Option Bool
  | [] => some true
  | f :: fs => bif f.name == "_" then none else
    match P.underlying f.type, xs[f.offset]?, ys[f.offset]?, eqFsL P sub xs ys fs with
    | some (.int _), some (.int k a), some (.int k' b), some r => bif k == k' then some ((a == b) && r) else none
    | some .bool, some (.bool a), some (.bool b), some r => some ((a == b) && r)
    | some .string, some (.string a), some (.string b), some r => some ((a.toList == b.toList) && r)
    | some (.struct gs), _, _, some r => bif P.stoodInHeld f.type then none else
      match P.info? f.type with
      | some i => (match sub (xs.extract f.offset (f.offset + i.size)) (ys.extract f.offset (f.offset + i.size)) gs.toList with | some a => some (a && r) | none => none)
      | none => none
    | _, _, _, _ => none
def eqFs (P : Program) : Nat → Array Value → Array Value → List Field → Option Bool
  | 0 => fun _ _ _ => none
  | d + 1 => fun xs ys fs => eqFsL P (eqFs P d) xs ys fs

def vcBin (P : Program) (op : BinOp) (t : TypeId) (x y : Value) (K : Value → Prop) : Prop :=
  match x, y with
  | .agg xs, .agg ys => match P.underlying t with
    | some (.struct fs) => bif P.eqGuardType P.depth t || P.stoodInHeld t then False else
      match eqFs P 3 xs ys fs.toList with
      | some b => match op with | .eql => K (.bool b) | .neq => K (.bool !b) | _ => False
      | none => False
    | _ => False
  | .int k a, .int k' b => bif isShift op || k == k' then intBin op k a b K else False
  | .string a, .string b => strBin op a b K
  | .bool a, .bool b => match P.underlying t with
    | some .bool => match op with | .eql => K (.bool (a == b)) | .neq => K (.bool !(a == b)) | _ => False
    | _ => False
  | .pointer p, .pointer none => match P.underlying t with
    | some (.pointer _) => match op with | .eql => K (.bool p.isNone) | .neq => K (.bool !p.isNone) | _ => False
    | _ => False
  | .slice p _ _, .slice none _ _ => match P.underlying t with
    | some (.slice _) => match op with | .eql => K (.bool p.isNone) | .neq => K (.bool !p.isNone) | _ => False
    | _ => False
  | _, _ => False

def isFn (x : Value) : Prop := ∃ g a b, x = .func g a b
/-- A function value, compared with nil. -/
def vcFnNil (P : Program) (op : BinOp) (t : TypeId) (x : Value) (K : Value → Prop) : Prop :=
  match P.underlying t with
  | some (.func _ _ _) => (match op with | .eql => isFn x ∧ K (.bool false) | .neq => isFn x ∧ K (.bool true) | _ => False)
  | _ => False
def vcBinV (P : Program) (op : BinOp) (t : TypeId) (x y : Value) (K : Value → Prop) : Prop :=
  match y with
  | .nilFunc => vcFnNil P op t x K
  | y => vcBin P op t x y K
def vcUn (op : UnOp) (x : Value) (K : Value → Prop) : Prop :=
  match op, x with
  | .neg, .int k n => K (.int k (k.wrap (0 - n)))
  | .xor, .int k n => K (.int k (k.wrap (BitVec.ofInt k.bits (if k.signed then -1 else k.max) ^^^ BitVec.ofInt k.bits n).toNat))
  | .not, .bool b => K (.bool !b)
  | _, _ => False

def idxA (p : Option Addr) (len : Nat) (i : Int) (K : Addr → Prop) : Prop := 0 ≤ i ∧ i < len ∧ nonNil p K
theorem idxA_i {a : Addr} {len : Nat} {i : Int} {K : Addr → Prop} (h0 : 0 ≤ i) (h1 : i < len) (hk : K a) : idxA (some a) len i K := ⟨h0, h1, hk⟩

def idxStr (s : ByteArray) (i : Int) (K : Int → Prop) : Prop := ∃ b : UInt8, 0 ≤ i ∧ s[i.toNat]? = some b ∧ K b.toNat

/-- An array's element at any place, a string. -/
def idxAgg (cs : Array Value) (n : Nat) (i : Int) (K : ByteArray → Prop) : Prop := ∃ s : ByteArray, 0 ≤ i ∧ i < n ∧ cs[i.toNat]? = some (.string s) ∧ K s

/-- .. a whole number. -/
def idxAggI (k : IntKind) (cs : Array Value) (n : Nat) (i : Int) (K : Int → Prop) : Prop := ∃ x : Int, 0 ≤ i ∧ i < n ∧ cs[i.toNat]? = some (.int k x) ∧ K x

/-- x[lo:hi:mx]: of a slice or an array; the bounds as natural numbers. -/
def slS (p : Option Addr) (len cap sz : Nat) (lo hi mx : Option Int) (K : Option Addr → Nat → Nat → Prop) : Prop :=
  ∃ l h m : Nat, lo.getD 0 = (l : Int) ∧ hi.getD len = (h : Int) ∧ mx.getD cap = (m : Int) ∧ l ≤ h ∧ h ≤ m ∧ m ≤ cap ∧ K (if m = l then p else p.map (·.add (l * sz))) (h - l) (m - l)

def slStr (s : ByteArray) (lo hi : Option Int) (K : ByteArray → Prop) : Prop :=
  ∃ l h : Nat, lo.getD 0 = (l : Int) ∧ hi.getD s.size = (h : Int) ∧ l ≤ h ∧ h ≤ s.size ∧ K (s.extract l h)

/-- An index operand, if there is one. -/
def evI (fr : Fr) : Option Operand → Option (Option Int)
  | none => some none
  | some x => match ev fr x with
    | some (.int _ n) => some (some n)
    | _ => none

def condT (b : Bool) (K : Prop) : Prop := match b with | true => K | false => False
theorem condT_o {b : Bool} {K : Prop} (h : condT b K) : b = true ∧ K := by
  cases b
  · exact h.elim
  · exact ⟨rfl, h⟩
/-- Two rows, one behind the other. -/
def jn (l m : List Value) : List Value := match m with | [] => l | m => l ++ m
theorem jn_eq (l m : List Value) : jn l m = l ++ m := by cases m <;> simp [jn]

/-- Parts laid into a row of so many cells. -/
def spC (N : Nat) (place : Nat → Option (Nat × Nat)) : List (Nat × Value) → List Value → (List Value → Prop) → Prop
  | [], l, K => K l
  | (i, v) :: r, l, K =>
    match place i with
    | none => False
    | some (off, size) => bif Nat.ble (off + size) N then
        (match v with
        | .agg cs => cs.size = size ∧ spC N place r (jn (l.take off ++ cs.toList) (l.drop (off + size))) K
        | v => bif Nat.beq size 1 then condT v.oneCell' (spC N place r (l.take off ++ v :: l.drop (off + 1)) K) else False)
      else False

def evParts (fr : Fr) : List (Nat × Operand) → Option (List (Nat × Value))
  | [] => some []
  | (i, x) :: xs => match ev fr x with
    | none => none
    | some v => match evParts fr xs with
      | none => none
      | some vs => some ((i, v) :: vs)

/-- Bytes as cells. -/
def bcells (bs : List UInt8) : List Value := bs.map fun b => .int .u8 b.toNat
/-- The bytes of a slice of bytes. -/
def bytesAt (w : World) (p : Option Addr) (l : Nat) (bs : List UInt8) : Prop :=
  match p with
  | none => bs = []
  | some a => bs.length = l ∧ cellsAt w a (bcells bs)
def bytesOf (w : World) (p : Option Addr) (l : Nat) (K : List UInt8 → Prop) : Prop := ∃ bs, bytesAt w p l bs ∧ K bs

abbrev KR := Value → (World → Prop) → Prop
def pureK (K : KR) (v : Value) : Prop := K v fun _ => True

def vcLoad (P : Program) (t : TypeId) (a : Addr) (w : World) (K : KR) : Prop :=
  match P.underlying t with
  | none => False
  | some (.struct _) => vcLoadAgg
  | some (.array _ _) => vcLoadAgg
  | some _ => ldSc (scOf P t) w a fun v => K v fun w' => w'.cell? a = some v
  where vcLoadAgg : Prop :=
  match P.info? t with
  | none => False
  | some i =>
    bif Nat.ble i.size 16 then
      (bif Nat.beq (flat P 8 t).length i.size then ldCells w a 0 (flat P 8 t) fun vs => K (.agg ⟨vs⟩) fun w' => cellsAt w' a vs else False)
    else ldN w a i.size fun cs => K (.agg ⟨cs⟩) fun w' => cellsAt w' a cs

def isByteSlice (P : Program) (t : TypeId) : Bool :=
  match P.underlying t with
  | some (.slice e) => (match P.underlying e with | some (.int .u8) => true | _ => false)
  | _ => false

def vcConv (P : Program) (src dst : TypeId) (x : Value) (w : World) (K : KR) : Prop :=
  match P.underlying src with
  | none => False
  | some d0 =>
  match P.underlying dst, x with
  | some (.int k), .int _ n => pureK K (.int k (k.wrap n))
  | some .string, .string s => pureK K (.string s)
  | some .string, .slice p l _ =>
    match d0 with
    | .slice e => (match P.underlying e with
      | some (.int .u8) => bytesOf w p l fun bs => K (.string ⟨bs.toArray⟩) fun w' => bytesAt w' p l bs
      | _ => False)
    | _ => False
  | _, _ => False

def lenV (P : Program) (t : TypeId) (x : Value) (K : KR) : Prop :=
  match P.underlying t, x with
  | some .string, .string s => pureK K (.int .i64 s.size)
  | some (.slice _), .slice _ n _ => pureK K (.int .i64 n)
  | some (.array n _), _ => pureK K (.int .i64 n)
  | _, _ => False
def capV (P : Program) (t : TypeId) (x : Value) (K : KR) : Prop :=
  match P.underlying t, x with
  | some (.slice _), .slice _ _ c => pureK K (.int .i64 c)
  | some (.array n _), _ => pureK K (.int .i64 n)
  | _, _ => False

/-- Does it look at cells? -/
def isLd (P : Program) (o : Oper) : Bool :=
  match o.op with
  | .load _ _ => true
  | .convert s d _ => (match P.underlying d with | some .string => isByteSlice P s | _ => false)
  | _ => false

/-- What reads alone: the value, and a condition on the world under which it is that value. -/
def vcRead (P : Program) (fr : Fr) (o : Oper) (w : World) (K : KR) : Prop :=
  match o.op with
  | .move x | .assign x => (match ev fr x with | some v => pureK K v | none => False)
  | .pick c x y => (match ev fr c with
    | some (.bool g) => condB g (match ev fr x with | some v => pureK K v | none => False) (match ev fr y with | some v => pureK K v | none => False)
    | _ => False)
  | .nilCheck x => (match ev fr x with | some (.pointer p) => nonNil p fun a => pureK K (.pointer (some a)) | _ => False)
  | .binOp op t x y _ => (match ev fr x, ev fr y with | some a, some b => vcBinV P op t a b (pureK K) | _, _ => False)
  | .unOp op _ x => (match ev fr x with | some a => vcUn op a (pureK K) | none => False)
  | .convert s d x => (match ev fr x with | some a => vcConv P s d a w K | none => False)
  | .fieldAddr s x f => (match ev fr x, P.underlying s with
    | some (.pointer p), some (.struct fs) => (match fs[f]? with
      | some fd => (match P.info? fd.type with
        | some i => bif Nat.beq i.size 0 then False else nonNil p fun a => pureK K (.pointer (some (a.add fd.offset)))
        | none => False)
      | none => False)
    | _, _ => False)
  | .field s x f => (match ev fr x, P.underlying s with
    | some (.agg cs), some (.struct fs) => (match fs[f]? with
      | some fd => (match P.underlying fd.type with
        | none => False
        | some (.struct _) | some (.array _ _) => (match P.info? fd.type with | some i => pureK K (.agg (cs.extract fd.offset (fd.offset + i.size))) | none => False)
        | some _ => optC cs[fd.offset]? (pureK K))
      | none => False)
    | _, _ => False)
  | .index t x ix => (match P.underlying t, ev fr x, ev fr ix with
    | some .string, some (.string s), some (.int _ i) => idxStr s i fun b => pureK K (.int .u8 b)
    | some (.array n e), some (.agg cs), some (.int _ i) => (match P.underlying e, P.info? e with
      | some .string, some j => bif Nat.beq j.size 1 then idxAgg cs n i fun s => pureK K (.string s) else False
      | some (.int k), some j => bif Nat.beq j.size 1 then idxAggI k cs n i fun x => pureK K (.int k x) else False
      | _, _ => False)
    | _, _, _ => False)
  | .indexAddr t x ix => (match P.underlying t, ev fr x, ev fr ix with
    | some (.slice e), some (.slice p l _), some (.int _ i) => (match P.info? e with | some j => idxA p l i fun a => pureK K (.pointer (some (a.add (i.toNat * j.size)))) | none => False)
    | some (.array n e), some (.pointer p), some (.int _ i) => (match P.info? e with | some j => idxA p n i fun a => pureK K (.pointer (some (a.add (i.toNat * j.size)))) | none => False)
    | _, _, _ => False)
  | .slice t x lo hi mx => (match evI fr lo, evI fr hi, evI fr mx with
    | some lo', some hi', some mx' => (match P.underlying t, ev fr x with
      | some (.slice e), some (.slice p l c) => (match P.info? e with
        | some j => bif mx'.isSome && hi'.isNone then False else slS p l c j.size lo' hi' mx' fun p' l' c' => pureK K (.slice p' l' c')
        | none => False)
      | some (.array n e), some (.pointer p) => (match P.info? e with
        | some j => bif mx'.isSome && hi'.isNone then False else nonNil p fun a => slS (some a) n n j.size lo' hi' mx' fun p' l' c' => pureK K (.slice p' l' c')
        | none => False)
      | some .string, some (.string s) => bif mx'.isSome then False else slStr s lo' hi' fun s' => pureK K (.string s')
      | _, _ => False)
    | _, _, _ => False)
  | .load t x => (match ev fr x with | some (.pointer p) => nonNil p fun a => vcLoad P t a w K | _ => False)
  | .build t parts => (match evParts fr parts.toList, (P.info? t).bind (·.zero), P.underlying t with
    | some vs, some z, some (.struct fs) => bif fs.toList.all (fun f => (P.info? f.type).isSome) then
        spC z.cells.size (fun i => (fs[i]?).map fun f => (f.offset, P.cellsOf f.type)) vs z.cells.toList fun l => pureK K (.agg ⟨l⟩) else False
    | some vs, some z, some (.array _ e) => (match P.info? e with
      | some j => spC z.cells.size (fun i => some (i * j.size, j.size)) vs z.cells.toList fun l => pureK K (.agg ⟨l⟩)
      | none => False)
    | _, _, _ => False)
  | .extract x i => (match ev fr x with | some (.tuple vs) => optC vs[i]? (pureK K) | _ => False)
  | .makeFunc f xs ys => (match evs fr xs.toList, evs fr ys.toList with | some vs, some us => pureK K (.func f vs.toArray us.toArray) | _, _ => False)
  | .makeInterface t x => (match P.underlying t, ev fr x with
    | some (.interface _), _ => False
    | some _, some v => pureK K (.iface t v)
    | _, _ => False)
  | .call { callee := .builtin .len, args, argTypes } => (match args.toList, argTypes.toList with
    | [x], [t] => (match ev fr x with | some v => lenV P t v K | none => False)
    | _, _ => False)
  | .call { callee := .builtin .cap, args, argTypes } => (match args.toList, argTypes.toList with
    | [x], [t] => (match ev fr x with | some v => capV P t v K | none => False)
    | _, _ => False)
  | .call { callee := .builtin .max, args, .. } => (match args.toList with
    | [x, y] => (match ev fr x, ev fr y with | some (.int k a), some (.int _ b) => pureK K (.int k (if b > a then b else a)) | _, _ => False)
    | _ => False)
  | .call { callee := .builtin .min, args, .. } => (match args.toList with
    | [x, y] => (match ev fr x, ev fr y with | some (.int k a), some (.int _ b) => pureK K (.int k (if b < a then b else a)) | _, _ => False)
    | _ => False)
  | _ => False


/-! ### It is so -/

section sound
variable {P : Program} {n : Nat} {fr : Fr} {a : Act}

theorem run_underlying' {t : TypeId} {d : TypeDesc} (h : P.underlying t = some d) (w : World) : (underlying t).run P w = .ok d w := by
  simp [underlying, h]

theorem intBin_o {op : BinOp} {k k' : IntKind} {t : TypeId} {x y : Int} {K : Value → Prop} (hk : isShift op = true ∨ k = k') (h : intBin op k x y K) :
    ∃ v, K v ∧ ∀ w, (binOp op t (.int k x) (.int k' y)).run P w = .ok v w := by
  cases op <;> simp only [intBin, isShift] at h hk <;> (try simp only [Bool.false_eq_true, false_or] at hk; subst hk)
  case quo => exact ⟨_, h.2, fun w => by simp [binOp, Op.intDiv, h.1]⟩
  case rem => exact ⟨_, h.2, fun w => by simp [binOp, Op.intDiv, h.1]⟩
  case shl => exact ⟨_, h.2, fun w => by simp [binOp, Op.shift, show ¬ y < 0 by omega]⟩
  case shr => exact ⟨_, h.2, fun w => by simp [binOp, Op.shift, show ¬ y < 0 by omega]⟩
  all_goals exact ⟨_, h, fun w => by simp [binOp, Op.intArith, Op.intBits, Op.intCmp]⟩

theorem strBin_o {op : BinOp} {t : TypeId} {x y : ByteArray} {K : Value → Prop} (h : strBin op x y K) :
    ∃ v, K v ∧ ∀ w, (binOp op t (.string x) (.string y)).run P w = .ok v w := by
  cases op <;> simp only [strBin] at h
  case add =>
    refine ⟨_, h.2, fun w => ?_⟩
    have h1 := h.1
    have : ¬ (((x.size + y.size : Nat) : Int) > IntKind.i64.max) := by
      have : IntKind.i64.max = 9223372036854775807 := by decide
      omega
    simp only [binOp, Op.stringOp, this, if_false, Sem.run_pure]
  all_goals first | exact ⟨_, h, fun w => by simp [binOp, Op.stringOp]⟩ | exact h.elim

theorem guard_int (op : BinOp) (t : TypeId) (X Y : Operand) (k k' : IntKind) (a b : Int) (w : World) : (eqGuard op t X Y (.int k a) (.int k' b)).run P w = .ok () w := by cases op <;> rfl
theorem guard_str (op : BinOp) (t : TypeId) (X Y : Operand) (a b : ByteArray) (w : World) : (eqGuard op t X Y (.string a) (.string b)).run P w = .ok () w := by cases op <;> rfl
theorem guard_bool (op : BinOp) (t : TypeId) (X Y : Operand) (a b : Bool) (w : World) : (eqGuard op t X Y (.bool a) (.bool b)).run P w = .ok () w := by cases op <;> rfl
theorem guard_ptr (op : BinOp) (t : TypeId) (X Y : Operand) (a b : Option Addr) (w : World) : (eqGuard op t X Y (.pointer a) (.pointer b)).run P w = .ok () w := by cases op <;> rfl
theorem guard_slice (op : BinOp) (t : TypeId) (X Y : Operand) (a b : Option Addr) (l c l' c' : Nat) (w : World) : (eqGuard op t X Y (.slice a l c) (.slice b l' c')).run P w = .ok () w := by cases op <;> rfl

theorem equalIn_bool {t : TypeId} (h : P.underlying t = some .bool) (a b : Bool) (w : World) : (Op.equal t (.bool a) (.bool b)).run P w = .ok (a == b) w := by
  simp only [Op.equal, Op.maxDepth]; unfold Op.equalIn; simp [run_underlying' h]
theorem equalIn_ptr {t e : TypeId} (h : P.underlying t = some (.pointer e)) (p : Option Addr) (w : World) : (Op.equal t (.pointer p) (.pointer none)).run P w = .ok p.isNone w := by
  simp only [Op.equal, Op.maxDepth]; unfold Op.equalIn; cases p <;> simp [run_underlying' h]
theorem equalIn_slice {t e : TypeId} (h : P.underlying t = some (.slice e)) (p : Option Addr) (l c l' c' : Nat) (w : World) : (Op.equal t (.slice p l c) (.slice none l' c')).run P w = .ok p.isNone w := by
  simp only [Op.equal, Op.maxDepth]; unfold Op.equalIn; cases p <;> simp [run_underlying' h]

theorem run_part_struct {t : TypeId} {i : TypeInfo} {gs : Array Field} (hu : P.underlying t = some (.struct gs)) (hi : P.info? t = some i) (xs : Array Value) (off : Nat) (w : World) :
    (part t xs off).run P w = .ok (.agg (xs.extract off (off + i.size))) w := by
  simp [part, isAgg, run_underlying hu, sizeOf, typeInfo, hi]
theorem eqFsL_o {sub : Array Value → Array Value → List Field → Option Bool} {n : Nat} (hsub : ∀ {xs ys : Array Value} {fs : List Field} {r : Bool}, sub xs ys fs = some r → ∀ (d : Nat) (w : World), (Op.eqFields (d + n) xs ys fs).run P w = .ok r w) {xs ys : Array Value} :
    ∀ {fs : List Field} {r : Bool}, eqFsL P sub xs ys fs = some r → ∀ (d : Nat) (w : World), (Op.eqFields (d + n + 1) xs ys fs).run P w = .ok r w
  | [], r, h, d, w => by simp only [eqFsL, Option.some.injEq] at h; subst h; simp [Op.eqFields]
  | f :: fs, r, h, d, w => by
    simp only [eqFsL] at h
    cases hn : f.name == "_" with
    | true => simp [hn] at h
    | false =>
      simp only [hn, cond_false] at h
      have hn' : f.name ≠ "_" := by simpa using hn
      split at h
      · rename_i kk k a k' b r' hu hx hy hr
        have ih := eqFsL_o hsub hr d w
        have hp : P.plainKey f.type = true := by unfold Program.plainKey; rw [hu]
        cases hk : k == k' with
        | false => simp [hk] at h
        | true =>
          simp only [hk, cond_true, Option.some.injEq] at h
          have hkk : k = k' := by simpa using hk
          subst hkk
          simp only [Op.eqFields, hn', ne_eq, not_false_eq_true, if_true, Sem.run_bind, Go.run_part_plain w hp hx, Go.run_part_plain w hp hy, Result.andThen_ok, run_equalIn_int w (d + n) f.type k kk a b hu, Sem.run_ite, ih]
          subst h
          cases h2 : a == b <;> simp
      · rename_i a b r' hu hx hy hr
        have ih := eqFsL_o hsub hr d w
        have hp : P.plainKey f.type = true := by unfold Program.plainKey; rw [hu]
        simp only [Option.some.injEq] at h
        simp only [Op.eqFields, hn', ne_eq, not_false_eq_true, if_true, Sem.run_bind, Go.run_part_plain w hp hx, Go.run_part_plain w hp hy, Result.andThen_ok, run_equalIn_bool' w (d + n) f.type a b hu, Sem.run_ite, ih]
        subst h
        cases h2 : a == b <;> simp
      · rename_i a b r' hu hx hy hr
        have ih := eqFsL_o hsub hr d w
        have hp : P.plainKey f.type = true := by unfold Program.plainKey; rw [hu]
        simp only [Option.some.injEq] at h
        simp only [Op.eqFields, hn', ne_eq, not_false_eq_true, if_true, Sem.run_bind, Go.run_part_plain w hp hx, Go.run_part_plain w hp hy, Result.andThen_ok, run_equalIn_string w (d + n) f.type a b hu, Sem.run_ite, ih]
        subst h
        cases h2 : a.toList == b.toList <;> simp
      · rename_i gs r' hu hr
        have ih := eqFsL_o hsub hr d w
        cases hs : P.stoodInHeld f.type with
        | true => simp [hs] at h
        | false =>
          simp only [hs, cond_false] at h
          split at h
          · next i hi =>
            split at h
            · next a ha =>
              simp only [Option.some.injEq] at h
              have hf : P.fieldsOf f.type = gs := by unfold Program.fieldsOf; rw [hu]
              have hu' : P.underlying f.type = some (.struct (P.fieldsOf f.type)) := by rw [hf]; exact hu
              have he := run_equalIn_agg w (d + n) f.type (xs.extract f.offset (f.offset + i.size)) (ys.extract f.offset (f.offset + i.size)) hu' hs
              rw [hf, hsub ha d w] at he
              simp only [Op.eqFields, hn', ne_eq, not_false_eq_true, if_true, Sem.run_bind, run_part_struct hu hi, Result.andThen_ok, he, Sem.run_ite, ih]
              subst h
              cases a <;> simp
            · cases h
          · cases h
      · simp at h
theorem eqFs_o : ∀ {n : Nat} {xs ys : Array Value} {fs : List Field} {r : Bool}, eqFs P n xs ys fs = some r → ∀ (d : Nat) (w : World), (Op.eqFields (d + n) xs ys fs).run P w = .ok r w
  | 0, _, _, _, _, h, _, _ => by simp [eqFs] at h
  | n + 1, xs, ys, fs, r, h, d, w => eqFsL_o (fun h d w => eqFs_o h d w) h d w

theorem vcBin_o {op : BinOp} {t : TypeId} {x y : Value} {K : Value → Prop} (X Y : Operand) (h : vcBin P op t x y K) :
    ∃ v, K v ∧ ∀ w, (do eqGuard op t X Y x y; binOp op t x y : Sem Value).run P w = .ok v w := by
  unfold vcBin at h
  split at h
  · rename_i xs ys
    split at h
    · rename_i fs hu
      cases hg : (P.eqGuardType P.depth t || P.stoodInHeld t) with
      | true => simp [hg] at h
      | false =>
        simp only [hg, cond_false] at h
        simp only [Bool.or_eq_false_iff] at hg
        split at h
        · rename_i b hb
          have hf : P.fieldsOf t = fs := by unfold Program.fieldsOf; rw [hu]
          have hu' : P.underlying t = some (.struct (P.fieldsOf t)) := by rw [hf]; exact hu
          have he : ∀ w, (Op.equalIn 10000 t (.agg xs) (.agg ys)).run P w = .ok b w := fun w => by
            rw [run_equalIn_agg w 9999 t xs ys hu' hg.2, hf]; exact eqFs_o (n := 3) hb 9996 w
          split at h
          · exact ⟨_, h, fun w => by simp [run_eqGuard_agg w _ t X Y xs ys hg.1, run_eql_struct w t xs ys, he]⟩
          · exact ⟨_, h, fun w => by simp [run_eqGuard_agg w _ t X Y xs ys hg.1, run_neq_struct w t xs ys, he]⟩
          · exact h.elim
        · exact h.elim
    · exact h.elim
  · rename_i k a k' b
    cases hc : (isShift op || k == k') with
    | false => simp [hc] at h
    | true =>
      simp only [hc, cond_true] at h
      obtain ⟨v, hv, hr⟩ := intBin_o (P := P) (t := t) (k' := k') (by simpa using hc) h
      exact ⟨v, hv, fun w => by simp [guard_int, hr]⟩
  · obtain ⟨v, hv, hr⟩ := strBin_o (P := P) (t := t) h
    exact ⟨v, hv, fun w => by simp [guard_str, hr]⟩
  · split at h
    · rename_i hu
      split at h
      · exact ⟨_, h, fun w => by simp [guard_bool, binOp, equalIn_bool hu]⟩
      · exact ⟨_, h, fun w => by simp [guard_bool, binOp, equalIn_bool hu]⟩
      · exact h.elim
    · exact h.elim
  · split at h
    · rename_i hu
      split at h
      · exact ⟨_, h, fun w => by simp [guard_ptr, binOp, equalIn_ptr hu]⟩
      · exact ⟨_, h, fun w => by simp [guard_ptr, binOp, equalIn_ptr hu]⟩
      · exact h.elim
    · exact h.elim
  · split at h
    · rename_i hu
      split at h
      · exact ⟨_, h, fun w => by simp [guard_slice, binOp, equalIn_slice hu]⟩
      · exact ⟨_, h, fun w => by simp [guard_slice, binOp, equalIn_slice hu]⟩
      · exact h.elim
    · exact h.elim
  · exact h.elim

theorem guard_fn (op : BinOp) (t : TypeId) (X Y : Operand) (g : Fn) (a b : Array Value) (w : World) : (eqGuard op t X Y (.func g a b) .nilFunc).run P w = .ok () w := by cases op <;> rfl
theorem equalIn_fn {t : TypeId} {ps rs : Array TypeId} {v : Bool} (h : P.underlying t = some (.func ps rs v)) (g : Fn) (a b : Array Value) (w : World) : (Op.equal t (.func g a b) .nilFunc).run P w = .ok false w := by
  simp only [Op.equal, Op.maxDepth]; unfold Op.equalIn; simp [run_underlying' h]
theorem vcBinV_o {op : BinOp} {t : TypeId} {x y : Value} {K : Value → Prop} (X Y : Operand) (h : vcBinV P op t x y K) :
    ∃ v, K v ∧ ∀ w, (do eqGuard op t X Y x y; binOp op t x y : Sem Value).run P w = .ok v w := by
  unfold vcBinV at h
  split at h
  · unfold vcFnNil at h
    split at h
    · rename_i ps rs v hq
      split at h
      · obtain ⟨⟨g, a, b, rfl⟩, h⟩ := h
        exact ⟨_, h, fun w => by simp [guard_fn, binOp, equalIn_fn hq]⟩
      · obtain ⟨⟨g, a, b, rfl⟩, h⟩ := h
        exact ⟨_, h, fun w => by simp [guard_fn, binOp, equalIn_fn hq]⟩
      · exact h.elim
    · exact h.elim
  · exact vcBin_o X Y h
theorem vcUn_o {op : UnOp} {x : Value} {K : Value → Prop} (h : vcUn op x K) : ∃ v, K v ∧ ∀ w, (Op.unary op x).run P w = .ok v w := by
  unfold vcUn at h
  split at h
  · exact ⟨_, h, fun w => by simp [Op.unary, Op.intArith]⟩
  · exact ⟨_, h, fun w => by simp [Op.unary, Op.intBits]⟩
  · exact ⟨_, h, fun w => by simp [Op.unary]⟩
  · exact h.elim


theorem lenV_o {t : TypeId} {x : Value} {K : KR} (_w : World) (h : lenV P t x K) : ∃ v S, K v S ∧ (∀ w, S w) ∧ ∀ w', S w' → ∀ ty, (Builtin.len_ #[t] ty #[x]).run P w' = .ok v w' := by
  unfold lenV at h
  split at h
  · rename_i hu; exact ⟨_, _, h, fun _ => trivial, fun w' _ ty => by simp [Builtin.len_, run_underlying' hu, goInt]⟩
  · rename_i hu; exact ⟨_, _, h, fun _ => trivial, fun w' _ ty => by simp [Builtin.len_, run_underlying' hu, goInt]⟩
  · rename_i hu; exact ⟨_, _, h, fun _ => trivial, fun w' _ ty => by simp [Builtin.len_, run_underlying' hu, goInt]⟩
  · exact h.elim

theorem capV_o {t : TypeId} {x : Value} {K : KR} (_w : World) (h : capV P t x K) : ∃ v S, K v S ∧ (∀ w, S w) ∧ ∀ w', S w' → ∀ ty, (Builtin.cap_ #[t] ty #[x]).run P w' = .ok v w' := by
  unfold capV at h
  split at h
  · rename_i hu; exact ⟨_, _, h, fun _ => trivial, fun w' _ ty => by simp [Builtin.cap_, run_underlying' hu, goInt]⟩
  · rename_i hu; exact ⟨_, _, h, fun _ => trivial, fun w' _ ty => by simp [Builtin.cap_, run_underlying' hu, goInt]⟩
  · exact h.elim

theorem run_load_some {w : World} {a : Addr} {v : Value} (h : w.cell? a = some v) : (load a).run P w = .ok v w := by simp [h]

theorem vcLoad_o {t : TypeId} {ad : Addr} {w : World} {K : KR} (h : vcLoad P t ad w K) :
    ∃ v S, K v S ∧ S w ∧ ∀ w', S w' → (loadVar t ad).run P w' = .ok v w' := by
  have agg : ∀ d, P.underlying t = some d → ((∃ fs, d = .struct fs) ∨ (∃ k e, d = .array k e)) → vcLoad.vcLoadAgg P t ad w K →
      ∃ v S, K v S ∧ S w ∧ ∀ w', S w' → (loadVar t ad).run P w' = .ok v w' := by
    intro d hd hk h
    have hagg : ∀ w', (isAgg t).run P w' = .ok true w' := fun w' => by
      rcases hk with ⟨fs, rfl⟩ | ⟨k, e, rfl⟩ <;> simp [isAgg, run_underlying' hd]
    unfold vcLoad.vcLoadAgg at h
    split at h
    · exact h.elim
    · rename_i i hi
      have fin : ∀ vs : List Value, vs.length = i.size → ∀ w', cellsAt w' ad vs → (loadVar t ad).run P w' = .ok (.agg ⟨vs⟩) w' := by
        intro vs hl w' hc
        have := run_loadCells_list (P := P) w' ad vs hc
        simp [loadVar, hagg, sizeOf, typeInfo, hi, ← hl, this]
      cases hb : Nat.ble i.size 16 with
      | true =>
        simp only [hb, cond_true] at h
        cases hf : Nat.beq (flat P 8 t).length i.size with
        | false => simp [hf] at h
        | true =>
          simp only [hf, cond_true] at h
          obtain ⟨vs, h1, h2, h3⟩ := ldCells_o h
          refine ⟨_, _, h3, fun j v hv => by simpa using h2 j v hv, fun w' hw' => fin vs (h1.trans (Nat.eq_of_beq_eq_true hf)) w' hw'⟩
      | false =>
        simp only [hb, cond_false] at h
        obtain ⟨cs, h1, h2, h3⟩ := h
        exact ⟨_, _, h3, h2, fun w' hw' => fin cs h1 w' hw'⟩
  unfold vcLoad at h
  split at h
  · exact h.elim
  · rename_i fs hu; exact agg _ hu (.inl ⟨_, rfl⟩) h
  · rename_i k e hu; exact agg _ hu (.inr ⟨_, _, rfl⟩) h
  · rename_i d h1 h2 hu
    obtain ⟨v, hv, hK⟩ := ldSc_o h
    refine ⟨v, _, hK, hv, fun w' hw' => ?_⟩
    have hagg : (isAgg t).run P w' = .ok false w' := by
      simp only [isAgg, Sem.run_bind, run_underlying' hu, Result.andThen_ok]
      cases d <;> first | exact absurd rfl (h1 _) | exact absurd rfl (h2 _ _) | rfl
    simp only [loadVar, Sem.run_bind, hagg, Result.andThen_ok, Bool.false_eq_true, if_false]
    exact run_load_some hw'

theorem push_all (bs : List UInt8) : ∀ s : ByteArray, (bs.map fun b : UInt8 => (b.toNat : Int)).foldl (fun r n => r.push (UInt8.ofNat n.toNat)) s = ⟨s.data ++ bs.toArray⟩ := by
  induction bs with
  | nil => intro s; cases s; simp
  | cons b bs ih =>
    intro s
    simp only [List.map_cons, List.foldl_cons, ih]
    cases s
    simp [ByteArray.push]

theorem run_bytes {w : World} {ad : Addr} {bs : List UInt8} (c : Nat) (h : cellsAt w ad (bcells bs)) :
    (Conv.bytesToString (.slice (some ad) bs.length c)).run P w = .ok (.string ⟨bs.toArray⟩) w := by
  have h1 := run_loadCells_list (P := P) w ad _ h
  have h2 : bcells bs = (bs.map fun b : UInt8 => (b.toNat : Int)).map (Value.int .u8) := by simp [bcells]
  rw [h2, List.length_map, List.length_map] at h1
  rw [run_bytesToString w ad bs.length c _ h1, push_all]
  simp

theorem vcConv_o {s d : TypeId} {x : Value} {w : World} {K : KR} {dst : Option Tmp} {X : Operand} {ty : TypeId} {pos : String} {aft : Array Edge} {gd : Option (Nat × Bool)} (h : vcConv P s d x w K) :
    ∃ v S, K v S ∧ S w ∧ (isLd P ⟨dst, .convert s d X, ty, pos, aft, gd⟩ = false → ∀ w', S w') ∧ ∀ w', S w' → (convert s d x).run P w' = .ok v w' := by
  unfold vcConv at h
  split at h
  · exact h.elim
  · rename_i d0 h0
    split at h
    · rename_i hu; exact ⟨_, _, h, trivial, fun _ _ => trivial, fun w' _ => by cases d0 <;> simp [convert, run_underlying' hu, run_underlying' h0, Conv.intToInt]⟩
    · rename_i hu; exact ⟨_, _, h, trivial, fun _ _ => trivial, fun w' _ => by cases d0 <;> simp [convert, run_underlying' hu, run_underlying' h0]⟩
    · rename_i p l c hu
      split at h
      · rename_i e
        split at h
        · rename_i he
          obtain ⟨bs, hb, hK⟩ := h
          refine ⟨_, _, hK, hb, fun hld => by simp [isLd, hu, isByteSlice, h0, he] at hld, fun w' hw' => ?_⟩
          rw [run_convert_bytes_string w' s d e p l c h0 he hu]
          cases p with
          | none =>
            have hw2 : bs = [] := hw'
            subst hw2; rfl
          | some ad =>
            obtain ⟨hsz, hc⟩ := hw'
            subst hsz
            exact run_bytes c hc
        · exact h.elim
      · exact h.elim
    · exact h.elim

theorem fieldPlace_o {ad : Addr} {f : Field} {i : TypeInfo} (hi : P.info? f.type = some i) (h0 : Nat.beq i.size 0 = false) (w : World) :
    (fieldPlace ad f).run P w = .ok (ad.add f.offset) w := by
  have : ¬ i.size = 0 := fun h => by rw [h] at h0; exact absurd h0 (by decide)
  simp [fieldPlace, sizeOf, typeInfo, hi, this]

theorem sliceBound_o (k : IntKind) (i : Int) (q y : Nat) (c : BoundsCode) (hn : i = (q : Int)) (hy : q ≤ y) (w : World) : (Instr.sliceBound (.int k i) y c).run P w = .ok q w := by
  subst hn
  simp [Instr.sliceBound, asIntOf, hy]

/-- The operand of a bound, and its number. -/
inductive IsB : Option Value → Option Int → Prop
  | no : IsB none none
  | yes (k : IntKind) (i : Int) : IsB (some (.int k i)) (some i)

theorem IsB.none_of {x : Option Value} (h : IsB x none) : x = none := by cases h; rfl

theorem slice_bound {isS : Bool} {len cap l h m : Nat} {lo hi mx : Option Value} {lo' hi' mx' : Option Int}
    (e1 : IsB lo lo') (e2 : IsB hi hi') (e3 : IsB mx mx') (hx : (mx'.isSome && hi'.isNone) = false)
    (h1 : lo'.getD 0 = (l : Int)) (h2 : hi'.getD len = (h : Int)) (h3 : mx'.getD cap = (m : Int)) (hlh : l ≤ h) (hhm : h ≤ m) (hmc : m ≤ cap) (w : World) :
    (Instr.sliceBounds isS len cap lo hi mx).run P w = .ok (l, h, m) w := by
  cases e1 <;> cases e2 <;> cases e3 <;> simp only [Option.getD_none, Option.getD_some] at h1 h2 h3 <;> (try (simp at hx; done)) <;>
    simp only [Instr.sliceBounds, Sem.run_bind, Sem.run_pure, Result.andThen_ok]
  case no.no.no =>
    rw [show l = 0 by omega, show h = len by omega, show m = cap by omega]
  case no.yes.no k i =>
    have a1 : m = cap := by omega
    subst a1
    rw [sliceBound_o k i h m _ h2 hhm]
    rw [show l = 0 by omega]; rfl
  case no.yes.yes k i k' i' =>
    rw [sliceBound_o k' i' m cap _ h3 hmc]
    simp only [Result.andThen_ok]
    rw [sliceBound_o k i h m _ h2 hhm]
    rw [show l = 0 by omega]; rfl
  case yes.no.no k i =>
    have a1 : m = cap := by omega
    have a2 : h = len := by omega
    subst a1; subst a2
    simp only [Option.isSome]
    rw [sliceBound_o k i l h _ h1 hlh]; rfl
  case yes.yes.no k i k' i' =>
    have a1 : m = cap := by omega
    subst a1
    rw [sliceBound_o k' i' h m _ h2 hhm]
    simp only [Result.andThen_ok, Option.isSome]
    rw [sliceBound_o k i l h _ h1 hlh]; rfl
  case yes.yes.yes k i k' i' k2 i2 =>
    rw [sliceBound_o k2 i2 m cap _ h3 hmc]
    simp only [Result.andThen_ok]
    rw [sliceBound_o k' i' h m _ h2 hhm]
    simp only [Result.andThen_ok, Option.isSome]
    rw [sliceBound_o k i l h _ h1 hlh]; rfl

theorem evI_o (hs : Sim n fr a) {x : Option Operand} {x' : Option Int} (h : evI fr x = some x') : IsB (x.map a.eval) x' := by
  cases x with
  | none => simp only [evI, Option.some.injEq] at h; subst h; exact .no
  | some y =>
    simp only [evI] at h
    split at h
    · rename_i k i he
      simp only [Option.some.injEq] at h
      subst h
      rw [Option.map_some, hs.eval he]
      exact .yes k i
    · simp at h

theorem evParts_o (hs : Sim n fr a) : ∀ {xs : List (Nat × Operand)} {vs : List (Nat × Value)}, evParts fr xs = some vs → (xs.map fun (i, x) => (i, a.eval x)) = vs
  | [], vs, h => by simp only [evParts, Option.some.injEq] at h; simp [← h]
  | (i, x) :: xs, vs, h => by
    simp only [evParts] at h
    cases h1 : ev fr x with
    | none => simp [h1] at h
    | some v =>
      cases h2 : evParts fr xs with
      | none => simp [h1, h2] at h
      | some us =>
        simp only [h1, h2, Option.some.injEq] at h
        simp [← h, hs.eval h1, evParts_o hs h2]

theorem foldl_set (vs : List Value) : ∀ (k off : Nat) (cells : List Value), off + k + vs.length ≤ cells.length →
    ((vs.zipIdx k).foldl (fun cs (x : Value × Nat) => cs.setIfInBounds (off + x.2) x.1) cells.toArray).toList = cells.take (off + k) ++ vs ++ cells.drop (off + k + vs.length) := by
  induction vs with
  | nil => intro k off cells h; simp
  | cons v vs ih =>
    intro k off cells h
    simp only [List.length_cons] at h
    simp only [List.zipIdx_cons, List.foldl_cons, List.setIfInBounds_toArray]
    rw [ih (k + 1) off (cells.set (off + k) v) (by simp; omega)]
    have := list_seg_step cells (off + k) v vs (by omega)
    simp only [List.length_cons]
    rw [show off + (k + 1) = off + k + 1 by omega]
    exact this

theorem spC_o {N : Nat} {place : Nat → Option (Nat × Nat)} {K : List Value → Prop} : ∀ {parts : List (Nat × Value)} {l : List Value}, l.length = N → spC N place parts l K →
    ∃ l' : List Value, l'.length = N ∧ Instr.fill place l.toArray parts = some l'.toArray ∧ K l'
  | [], l, hl, h => ⟨l, hl, rfl, h⟩
  | (i, v) :: r, l, hl, h => by
    unfold spC at h
    split at h
    · exact h.elim
    · rename_i off size hp
      cases hb : Nat.ble (off + size) N with
      | false => simp [hb] at h
      | true =>
        have hle : off + size ≤ N := Nat.le_of_ble_eq_true hb
        simp only [hb, cond_true] at h
        split at h
        · rename_i cs
          obtain ⟨hsz, h⟩ := h
          rw [jn_eq] at h
          obtain ⟨l', h1, h2, h3⟩ := spC_o (by simp [hl]; omega) h
          refine ⟨l', h1, ?_, h3⟩
          rw [← h2, Instr.fill, hp]
          have hc : ¬ ((Value.cells (.agg cs)).size ≠ size || decide (off + (Value.cells (.agg cs)).size > l.toArray.size)) = true := by
            simp [Value.cells, hsz, hl]; omega
          dsimp only
          rw [if_neg hc]
          congr 1
          apply Array.ext'
          have := foldl_set cs.toList 0 off l (by simp [hsz, hl]; omega)
          simp only [Nat.add_zero, Array.length_toList, hsz] at this
          rw [← this]
          obtain ⟨L⟩ := cs
          simp [Value.cells]
        · rename_i hna
          cases h1 : Nat.beq size 1 with
          | false => simp [h1] at h
          | true =>
            have hs1 : size = 1 := Nat.eq_of_beq_eq_true h1
            subst hs1
            simp only [h1, cond_true] at h
            obtain ⟨ho, h⟩ := condT_o h
            have hv : v.cells = #[v] := by cases v <;> first | rfl | (simp [Value.oneCell'] at ho)
            obtain ⟨l', g1, g2, g3⟩ := spC_o (by simp [hl]; omega) h
            refine ⟨l', g1, ?_, g3⟩
            rw [← g2, Instr.fill, hp]
            have hc : ¬ (v.cells.size ≠ 1 || decide (off + v.cells.size > l.toArray.size)) = true := by
              simp [hv, hl]; omega
            dsimp only
            rw [if_neg hc]
            congr 1
            apply Array.ext'
            have := foldl_set [v] 0 off l (by simp [hl]; omega)
            simp only [Nat.add_zero, List.length_cons, List.length_nil, Nat.zero_add] at this
            rw [hv]
            have e2 : (List.take off l ++ v :: List.drop (off + 1) l) = List.take off l ++ [v] ++ List.drop (off + 1) l := by simp
            rw [e2, ← this]
            simp

theorem vcRead_o (hs : Sim n fr a) {o : Oper} {w : World} {K : KR} (h : vcRead P fr o w K) :
    ∃ v S, K v S ∧ S w ∧ (isLd P o = false → ∀ w', S w') ∧ ∀ w', S w' → (execOp a.eval o).run P w' = .ok (.value v) w' := by
  obtain ⟨dst, op, ty, pos, aft, gd⟩ := o
  unfold vcRead at h
  dsimp only at h
  split at h
  · -- move
    split at h
    · rename_i x v he; exact ⟨_, _, h, trivial, fun _ _ => trivial, fun w' _ => by simp [execOp, hs.eval he]⟩
    · exact h.elim
  · split at h
    · rename_i x v he; exact ⟨_, _, h, trivial, fun _ _ => trivial, fun w' _ => by simp [execOp, hs.eval he]⟩
    · exact h.elim
  · -- pick
    rename_i c x y
    split at h
    · rename_i g hc
      have h' := condB_o h
      clear h
      rcases h' with ⟨rfl, h⟩ | ⟨rfl, h⟩
      · split at h
        · rename_i v he; exact ⟨_, _, h, trivial, fun _ _ => trivial, fun w' _ => by simp [execOp, hs.eval he, hs.eval hc, asBool]⟩
        · exact h.elim
      · split at h
        · rename_i v he; exact ⟨_, _, h, trivial, fun _ _ => trivial, fun w' _ => by simp [execOp, hs.eval he, hs.eval hc, asBool]⟩
        · exact h.elim
    · exact h.elim
  · -- nilCheck
    split at h
    · rename_i x p he
      obtain ⟨ad, rfl, h⟩ := nonNil_o h
      exact ⟨_, _, h, trivial, fun _ _ => trivial, fun w' _ => by simp [execOp, hs.eval he]⟩
    · exact h.elim
  · -- binOp
    rename_i op t x y yt
    split at h
    · rename_i u v hu hv
      obtain ⟨r, hr, hrun⟩ := vcBinV_o x y h
      refine ⟨r, _, hr, trivial, fun _ _ => trivial, fun w' _ => ?_⟩
      have := hrun w'
      simp only [execOp, hs.eval hu, hs.eval hv, Sem.run_bind, this, Result.andThen_ok, Sem.run_pure] at this ⊢
    · exact h.elim
  · -- unOp
    split at h
    · rename_i u hu
      obtain ⟨r, hr, hrun⟩ := vcUn_o (P := P) h
      exact ⟨r, _, hr, trivial, fun _ _ => trivial, fun w' _ => by simp [execOp, hs.eval hu, hrun w']⟩
    · exact h.elim
  · -- convert
    split at h
    · rename_i u hu
      obtain ⟨r, S, hr, hS, hS2, hrun⟩ := vcConv_o h
      exact ⟨r, S, hr, hS, hS2, fun w' hw' => by simp [execOp, hs.eval hu, hrun w' hw']⟩
    · exact h.elim
  · -- fieldAddr
    split at h
    · rename_i p fs he hu
      split at h
      · rename_i fd hf
        split at h
        · rename_i i hi
          cases h0 : Nat.beq i.size 0 with
          | true => simp [h0] at h
          | false =>
            simp only [h0, cond_false] at h
            obtain ⟨ad, rfl, h⟩ := nonNil_o h
            refine ⟨_, _, h, trivial, fun _ _ => trivial, fun w' _ => ?_⟩
            simp [execOp, hs.eval he, Instr.fieldAt, run_underlying' hu, hf, Instr.sureAddr, fieldPlace_o hi h0]
        · exact h.elim
      · exact h.elim
    · exact h.elim
  · -- field
    split at h
    · rename_i cs fs he hu
      split at h
      · rename_i fd hf
        split at h
        · exact h.elim
        · rename_i fs2 hu2
          split at h
          · rename_i i hi
            exact ⟨_, _, h, trivial, fun _ _ => trivial, fun w' _ => by simp [execOp, hs.eval he, Instr.field, run_underlying' hu, hf, part, isAgg, run_underlying' hu2, asAgg, sizeOf, typeInfo, hi]⟩
          · exact h.elim
        · rename_i k2 e2 hu2
          split at h
          · rename_i i hi
            exact ⟨_, _, h, trivial, fun _ _ => trivial, fun w' _ => by simp [execOp, hs.eval he, Instr.field, run_underlying' hu, hf, part, isAgg, run_underlying' hu2, asAgg, sizeOf, typeInfo, hi]⟩
          · exact h.elim
        · rename_i d h1 h2 hu2
          obtain ⟨v, hv, h⟩ := optC_o h
          refine ⟨_, _, h, trivial, fun _ _ => trivial, fun w' _ => ?_⟩
          have hagg : (isAgg fd.type).run P w' = .ok false w' := by
            simp only [isAgg, Sem.run_bind, run_underlying' hu2, Result.andThen_ok]
            cases d <;> first | exact absurd rfl (h1 _) | exact absurd rfl (h2 _ _) | rfl
          simp [execOp, hs.eval he, Instr.field, run_underlying' hu, hf, part, hagg, asAgg, hv]
      · exact h.elim
    · exact h.elim
  · -- index
    split at h
    · rename_i s k i hu he hi
      obtain ⟨b, h0, hb, h⟩ := h
      exact ⟨_, _, h, trivial, fun _ _ => trivial, fun w' _ => by simp [execOp, hs.eval he, hs.eval hi, Instr.index, asIntOf, run_underlying' hu, h0, hb]⟩
    · rename_i n e cs k i hu he hi
      split at h
      · rename_i j hu2 hj
        cases hj1 : Nat.beq j.size 1 with
        | false => simp [hj1] at h
        | true =>
          simp only [hj1, cond_true] at h
          obtain ⟨s, h0, h1, hc, h⟩ := h
          have hs1 : j.size = 1 := Nat.eq_of_beq_eq_true hj1
          refine ⟨_, _, h, trivial, fun _ _ => trivial, fun w' _ => ?_⟩
          have hagg : (isAgg e).run P w' = .ok false w' := by
            simp only [isAgg, Sem.run_bind, run_underlying' hu2, Result.andThen_ok]
            rfl
          simp [execOp, hs.eval he, hs.eval hi, Instr.index, asIntOf, run_underlying' hu, h0, h1, part, hagg, sizeOf, typeInfo, hj, hs1, hc]
      · rename_i k2 j hu2 hj
        cases hj1 : Nat.beq j.size 1 with
        | false => simp [hj1] at h
        | true =>
          simp only [hj1, cond_true] at h
          obtain ⟨s, h0, h1, hc, h⟩ := h
          have hs1 : j.size = 1 := Nat.eq_of_beq_eq_true hj1
          refine ⟨_, _, h, trivial, fun _ _ => trivial, fun w' _ => ?_⟩
          have hagg : (isAgg e).run P w' = .ok false w' := by
            simp only [isAgg, Sem.run_bind, run_underlying' hu2, Result.andThen_ok]
            rfl
          simp [execOp, hs.eval he, hs.eval hi, Instr.index, asIntOf, run_underlying' hu, h0, h1, part, hagg, sizeOf, typeInfo, hj, hs1, hc]
      · exact h.elim
    · exact h.elim
  · -- indexAddr
    split at h
    · rename_i e p l c k i hu he hi
      split at h
      · rename_i j hj
        obtain ⟨h0, h1, h⟩ := h
        obtain ⟨ad, rfl, h⟩ := nonNil_o h
        exact ⟨_, _, h, trivial, fun _ _ => trivial, fun w' _ => by simp [execOp, hs.eval he, hs.eval hi, Instr.indexAt, asIntOf, run_underlying' hu, h0, h1, sizeOf, typeInfo, hj]⟩
      · exact h.elim
    · rename_i m e p k i hu he hi
      split at h
      · rename_i j hj
        obtain ⟨h0, h1, h⟩ := h
        obtain ⟨ad, rfl, h⟩ := nonNil_o h
        exact ⟨_, _, h, trivial, fun _ _ => trivial, fun w' _ => by simp [execOp, hs.eval he, hs.eval hi, Instr.indexAt, asIntOf, run_underlying' hu, h0, h1, sizeOf, typeInfo, hj, Instr.sureAddr]⟩
      · exact h.elim
    · exact h.elim
  · -- slice
    rename_i t x lo hi mx
    split at h
    · rename_i lo' hi' mx' e1 e2 e3
      split at h
      · rename_i e p l c hu he
        split at h
        · rename_i j hj
          cases hx : (mx'.isSome && hi'.isNone) with
          | true => simp [hx] at h
          | false =>
            simp only [hx, cond_false] at h
            obtain ⟨l1, h1, m1, a1, a2, a3, b1, b2, b3, h⟩ := h
            refine ⟨_, _, h, trivial, fun _ _ => trivial, fun w' _ => ?_⟩
            have hb := slice_bound (P := P) (isS := true) (evI_o hs e1) (evI_o hs e2) (evI_o hs e3) hx a1 a2 a3 b1 b2 b3 w'
            simp [execOp, hs.eval he, Instr.sliceAt, run_underlying' hu, Instr.slice, hb, sizeOf, typeInfo, hj]
        · exact h.elim
      · rename_i m e p hu he
        split at h
        · rename_i j hj
          cases hx : (mx'.isSome && hi'.isNone) with
          | true => simp [hx] at h
          | false =>
            simp only [hx, cond_false] at h
            obtain ⟨ad, rfl, h⟩ := nonNil_o h
            obtain ⟨l1, h1, m1, a1, a2, a3, b1, b2, b3, h⟩ := h
            refine ⟨_, _, h, trivial, fun _ _ => trivial, fun w' _ => ?_⟩
            have hb := slice_bound (P := P) (isS := false) (evI_o hs e1) (evI_o hs e2) (evI_o hs e3) hx a1 a2 a3 b1 b2 b3 w'
            by_cases hml : m1 = l1
            · simp [execOp, hs.eval he, Instr.sliceAt, run_underlying' hu, hb, sizeOf, typeInfo, hj, Instr.sureAddr, hml]
            · simp [execOp, hs.eval he, Instr.sliceAt, run_underlying' hu, hb, sizeOf, typeInfo, hj, Instr.sureAddr, hml]
        · exact h.elim
      · rename_i s hu he
        cases hx : mx'.isSome with
        | true => simp [hx] at h
        | false =>
          simp only [hx, cond_false] at h
          obtain ⟨l1, h1, a1, a2, b1, b2, h⟩ := h
          refine ⟨_, _, h, trivial, fun _ _ => trivial, fun w' _ => ?_⟩
          have e3' := evI_o hs e3
          cases mx' with
          | some m => simp at hx
          | none =>
            cases mx with
            | some m => exact absurd e3'.none_of (by simp)
            | none =>
              have hb := slice_bound (P := P) (isS := false) (cap := s.size) (m := s.size) (evI_o hs e1) (evI_o hs e2) .no (by simp) a1 a2 (by simp) b1 b2 (Nat.le_refl _) w'
              simp [execOp, hs.eval he, Instr.sliceAt, run_underlying' hu, Instr.slice, hb]
      · exact h.elim
    · exact h.elim
  · -- load
    split at h
    · rename_i t x p he
      obtain ⟨ad, rfl, h⟩ := nonNil_o h
      obtain ⟨v, S, hK, hS, hrun⟩ := vcLoad_o h
      exact ⟨v, S, hK, hS, fun hld => by simp [isLd] at hld, fun w' hw' => by simp [execOp, hs.eval he, Instr.loadAt, Instr.sureAddr, hrun w' hw']⟩
    · exact h.elim
  · -- build
    rename_i t parts
    split at h
    · rename_i vs z fs he hz hu
      cases hall : fs.toList.all (fun f => (P.info? f.type).isSome) with
      | false => simp [hall] at h
      | true =>
        simp only [hall, cond_true] at h
        obtain ⟨l', h1, h2, h3⟩ := spC_o (by simp) h
        refine ⟨_, _, h3, trivial, fun _ _ => trivial, fun w' _ => ?_⟩
        have hp2 : (parts.map fun (i, x) => (i, a.eval x)) = vs.toArray := by
          apply Array.ext'; simpa using evParts_o hs he
        cases hi : P.info? t with
        | none => simp [hi] at hz
        | some ti =>
          have hz' : ti.zero = some z := by simpa [hi] using hz
          have places : ∀ l : List Field, l.all (fun f => (P.info? f.type).isSome) = true →
              (l.mapM fun f : Field => do pure (f.offset, ← sizeOf f.type) : Sem (List (Nat × Nat))).run P w' = .ok (l.map fun f => (f.offset, P.cellsOf f.type)) w' := by
            intro l
            induction l with
            | nil => intro _; simp
            | cons f l ih =>
              intro hl
              simp only [List.all_cons, Bool.and_eq_true] at hl
              cases hf : P.info? f.type with
              | none => simp [hf] at hl
              | some j =>
                have h1 : (sizeOf f.type).run P w' = .ok j.size w' := by simp [sizeOf, typeInfo, hf]
                have h2 := ih hl.2
                simp only [List.mapM_cons, Sem.run_bind, h1, Result.andThen_ok, Sem.run_pure, List.map_cons, Program.cellsOf, hf, Option.map_some, Option.getD_some]
                rw [h2]; rfl
          have pl := places fs.toList hall
          have hf2 : (fun i : Nat => (fs.toList.map fun f : Field => (f.offset, P.cellsOf f.type)).toArray[i]?) = fun i => (fs[i]?).map fun f => (f.offset, P.cellsOf f.type) := by
            funext i; simp
          have hm : (fs.mapM fun f : Field => do pure (f.offset, ← sizeOf f.type) : Sem (Array (Nat × Nat))).run P w' = .ok (fs.toList.map fun f => (f.offset, P.cellsOf f.type)).toArray w' := by
            have := List.mapM_toArray (m := Sem) (f := fun f : Field => (do pure (f.offset, ← sizeOf f.type) : Sem (Nat × Nat))) (l := fs.toList)
            rw [Array.toArray_toList] at this
            rw [this, Sem.run_map, pl]
            rfl
          rw [Array.toArray_toList] at h2
          simp only [execOp, hp2, Instr.build, zeroValue, typeInfo, Sem.run_bind, run_program, Result.andThen_ok, hi, hz', Sem.run_pure, run_underlying' hu, hm, hf2, h2]
    · rename_i vs z k e he hz hu
      split at h
      · rename_i j hj
        obtain ⟨l', h1, h2, h3⟩ := spC_o (by simp) h
        refine ⟨_, _, h3, trivial, fun _ _ => trivial, fun w' _ => ?_⟩
        have hp2 : (parts.map fun (i, x) => (i, a.eval x)) = vs.toArray := by
          apply Array.ext'; simpa using evParts_o hs he
        cases hi : P.info? t with
        | none => simp [hi] at hz
        | some ti =>
          have hz' : ti.zero = some z := by simpa [hi] using hz
          rw [Array.toArray_toList] at h2
          simp only [execOp, hp2, Instr.build, zeroValue, sizeOf, typeInfo, hj, Sem.run_bind, run_program, Result.andThen_ok, hi, hz', Sem.run_pure, run_underlying' hu, h2]
      · exact h.elim
    · exact h.elim
  · -- extract
    split at h
    · rename_i x i vs he
      obtain ⟨v, hv, h⟩ := optC_o h
      exact ⟨_, _, h, trivial, fun _ _ => trivial, fun w' _ => by simp [execOp, hs.eval he, Instr.extract, hv]⟩
    · exact h.elim
  · -- makeFunc
    rename_i f xs ys
    split at h
    · rename_i vs us e1 e2
      refine ⟨_, _, h, trivial, fun _ _ => trivial, fun w' _ => ?_⟩
      have h1 : xs.map a.eval = vs.toArray := by apply Array.ext'; simpa using hs.evals e1
      have h2 : ys.map a.eval = us.toArray := by apply Array.ext'; simpa using hs.evals e2
      simp [execOp, h1, h2, Instr.makeFunc]
    · exact h.elim
  · -- makeInterface
    rename_i t x
    split at h
    · exact h.elim
    · rename_i d v hu he hni
      refine ⟨_, _, h, trivial, fun _ _ => trivial, fun w' _ => ?_⟩
      simp only [execOp, hs.eval hni, Instr.makeInterface, Sem.run_bind, run_underlying' he, Result.andThen_ok]
      cases d <;> first | rfl | exact absurd rfl (hu _)
    · exact h.elim
  · -- len
    rename_i args ats
    split at h
    · rename_i x t e1 e2
      split at h
      · rename_i v he
        obtain ⟨r, S, hK, hS, hrun⟩ := lenV_o w h
        refine ⟨r, S, hK, hS w, fun _ => hS, fun w' hw' => ?_⟩
        have e1' : args = #[x] := by apply Array.ext'; simpa using e1
        have e2' : ats = #[t] := by apply Array.ext'; simpa using e2
        subst e1'; subst e2'
        simp [execOp, resolve, invoke, builtin, hs.eval he, hrun w' hw']
      · exact h.elim
    · exact h.elim
  · -- cap
    rename_i args ats
    split at h
    · rename_i x t e1 e2
      split at h
      · rename_i v he
        obtain ⟨r, S, hK, hS, hrun⟩ := capV_o w h
        refine ⟨r, S, hK, hS w, fun _ => hS, fun w' hw' => ?_⟩
        have e1' : args = #[x] := by apply Array.ext'; simpa using e1
        have e2' : ats = #[t] := by apply Array.ext'; simpa using e2
        subst e1'; subst e2'
        simp [execOp, resolve, invoke, builtin, hs.eval he, hrun w' hw']
      · exact h.elim
    · exact h.elim
  · -- max
    rename_i args ats
    split at h
    · rename_i x y e1
      split at h
      · rename_i k u k' v hu hv
        refine ⟨_, _, h, trivial, fun _ _ => trivial, fun w' _ => ?_⟩
        have e1' : args = #[x, y] := by apply Array.ext'; simpa using e1
        subst e1'
        simp [execOp, resolve, invoke, builtin, hs.eval hu, hs.eval hv, Builtin.max_, Builtin.max2]
      · exact h.elim
    · exact h.elim
  · -- min
    rename_i args ats
    split at h
    · rename_i x y e1
      split at h
      · rename_i k u k' v hu hv
        refine ⟨_, _, h, trivial, fun _ _ => trivial, fun w' _ => ?_⟩
        have e1' : args = #[x, y] := by apply Array.ext'; simpa using e1
        subst e1'
        simp [execOp, resolve, invoke, builtin, hs.eval hu, hs.eval hv, Builtin.min_, Builtin.min2]
      · exact h.elim
    · exact h.elim
  · exact h.elim

end sound

end Go.Vc

