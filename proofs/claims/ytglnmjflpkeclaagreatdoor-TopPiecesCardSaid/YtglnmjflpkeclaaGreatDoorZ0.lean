/- What the statement needs, part 0. -/
import Derived.WalkKit
import Derived.OrdersHeld
import Derived.Laws.StructEq
import Derived.ChangeKeysEq
import Derived.ScopeJumps
import Derived.Test.YtglnmjflpkeclaaGreatDoorProg
import Derived.KernelRfl
import Derived.Lib.SlBytesConst
import Derived.Tactics
import Derived.Tactics2
import Derived.Defers
import Derived.Laws.Pointers
import Derived.Laws.LoneSync
import Derived.RegionTactic
import Derived.RegionCalls
import Derived.ChangeAlike
import Derived.Lib.DecodeNEq
import Derived.Lib.Strings
import Derived.Lib.ValidAsc
import Derived.Lib.EndianBits
import Derived.Laws.BitsAllLaws
import Derived.Shelf.Unicode.DecodeSlow
import Derived.Lib.ConvBytes
import Derived.Lib.Bytealg
import Derived.Laws.Externs
import Derived.Lib.BytesEntry
import Derived.Lib.AppendStr
import Derived.ArgAppend
import Derived.Laws.Runes
import Derived.ChangeArms
import Derived.OpenShut
import Derived.SizedLaws
import Derived.Test.YtglnmjflpkeclaaGreatDoorRows
import Derived.Shelf.Strings.Search3
import Derived.Shelf.Strings.SlTrimAscii
import Derived.Shelf.Sort.Plain
import Derived.Sort.OwnSorted
import Derived.Shelf.Slices.CompactS
import Derived.Shelf.Bytes.SlIndexWhole
import Derived.Shelf.Strings.Fold
import Derived.Shelf.Bytes.SlCountOne
import Derived.Lib.LaidU8T
import Derived.MakeChecks
import GoSem.PinnedTables
import Derived.Shelf.Vars
import Derived.Shelf.Strings.Builder1
import Derived.Shelf.Strconv.Itoa3
import Derived.Shelf.Spec.SearchS
import Derived.Lib.ItoaLen
import Derived.Test.YtglnmjflpkeclaaGreatDoorTie
import Derived.Test.YtglnmjflpkeclaaGreatDoorCards
import Derived.ProofKit
import Derived.ShutString
import Derived.ChangeOld
import Derived.Below
import Derived.Handed
import Derived.LaidLaws
import Derived.Lay
import Derived.LaidOnce
import Derived.SevenTiedAt
import Derived.Deep.DeepHandedRow
import Derived.JoinedCond
import Derived.Stop.Joined
set_option linter.unusedSectionVars false
set_option linter.unusedVariables false
set_option linter.unusedSimpArgs false
set_option maxRecDepth 100000
open List
section
namespace Go.Vc
open Go Go.RowKit
abbrev Fr:=Nat -> Option Value
def Fr.set (fr : Fr) (d : Nat) (v : Option Value) : Fr:=fun t => bif Nat.beq t d then v else fr t
def Fr.put (n : Nat) (fr : Fr) (dst : Option Nat) (v : Value) : Fr :=
 match dst with
 | some d => fr.set d (bif Nat.blt d n then some v else none)
 | none => fr
def ev (fr : Fr) : Operand -> Option Value
 | .tmp t => fr t
 | .const v => some v
 | .global g => some (.pointer (some ⟨g, 0, none⟩))
 | .func f => some (.func (.func f) #[] #[])
def evs (fr : Fr) : List Operand -> Option (List Value)
 | [] => some []
 | x :: xs => match ev fr x with
  | none => none
  | some v => match evs fr xs with
   | none => none
   | some vs => some (v :: vs)
structure Sim (n : Nat) (fr : Fr) (a : Act) : Prop where
 defers : a.defers = []
 size : a.tmps.size = n
 val : ∀ t v, fr t = some v -> a.tmps[t]? = some v
theorem Sim.eval {n : Nat} {fr : Fr} {a : Act} (h : Sim n fr a) {x : Operand} {v : Value} (hx : ev fr x = some v) : a.eval x = v:=by
 cases x with
 | tmp t => simp only [ev] at hx; simp [Act.eval, h.val t v hx]
 | const u => simp only [ev, Option.some.injEq] at hx; exact hx
 | global g => simp only [ev, Option.some.injEq] at hx; exact hx
 | func f => simp only [ev, Option.some.injEq] at hx; exact hx
theorem Sim.evals {n : Nat} {fr : Fr} {a : Act} (h : Sim n fr a) : ∀ {xs : List Operand} {vs : List Value}, evs fr xs = some vs -> xs.map a.eval = vs
 | [], vs, hx => by simp only [evs, Option.some.injEq] at hx; simp [hx]
 | x :: xs, vs, hx => by
  simp only [evs] at hx
  cases h1 : ev fr x with
  | none => simp [h1] at hx
  | some v =>
   cases h2 : evs fr xs with
   | none => simp [h1, h2] at hx
   | some us =>
    simp only [h1, h2, Option.some.injEq] at hx
    simp [<- hx, h.eval h1, h.evals h2]
theorem Sim.put {n : Nat} {fr : Fr} {a : Act} (h : Sim n fr a) (dst : Option Nat) (v : Value) : Sim n (fr.put n dst v) (a.put dst v):=by
 cases dst with
 | none => exact h
 | some d =>
  refine ⟨h.defers, by simp [Act.put, h.size], fun t u hu => ?_⟩
  simp only [Fr.put, Fr.set] at hu
  by_cases htd : t = d
  ·subst htd
   rw [show Nat.beq t t = true from Nat.beq_refl t, cond_true] at hu
   by_cases hn : t < n
   ·have : Nat.blt t n = true:=by simpa [Nat.blt_eq] using hn
    simp only [this, cond_true, Option.some.injEq] at hu
    simp [Act.put, h.size, hn, hu]
   ·have : Nat.blt t n = false:=by
     cases hb : Nat.blt t n with
     | false => rfl
     | true => exact absurd (by simpa [Nat.blt_eq] using hb) hn
    simp [this] at hu
  ·have : Nat.beq t d = false:=by
    cases hb : Nat.beq t d with
    | false => rfl
    | true => exact absurd (Nat.eq_of_beq_eq_true hb) htd
   simp only [this, cond_false] at hu
   simp [Act.put, Array.getElem?_setIfInBounds_ne (Ne.symm htd), h.val t u hu]
theorem Sim.know {n : Nat} {fr : Fr} {a : Act} (h : Sim n fr a) {d : Nat} {v : Value} (hd : fr d = some v) : Sim n (fr.set d (some v)) a:=by
 refine ⟨h.defers, h.size, fun t u hu => ?_⟩
 simp only [Fr.set] at hu
 by_cases htd : t = d
 ·subst htd
  rw [show Nat.beq t t = true from Nat.beq_refl t, cond_true] at hu
  exact h.val t u (by rw [hd]; exact hu)
 ·have : Nat.beq t d = false:=by
   cases hb : Nat.beq t d with
   | false => rfl
   | true => exact absurd (Nat.eq_of_beq_eq_true hb) htd
  simp only [this, cond_false] at hu
  exact h.val t u hu
def Zz1 (b : Bool) (A B : Prop) : Prop:=match b with | true => A | false => B
theorem Zz9 {b : Bool} {A B : Prop} (h1 : b = true -> A) (h2 : b = false -> B) : Zz1 b A B:=by
 cases b
 ·exact h2 rfl
 ·exact h1 rfl
theorem Zz4 {p : Prop} [Decidable p] {A B : Prop} (h1 : p -> A) (h2 : ¬ p -> B) : Zz1 (decide p) A B :=
 Zz9 (fun h => h1 (of_decide_eq_true h)) (fun h => h2 (of_decide_eq_false h))
theorem Zzd {x y : Int} {A B : Prop} (h1 : x = y -> A) (h2 : x ≠ y -> B) : Zz1 (x == y) A B :=
 Zz9 (fun h => h1 (by simpa using h)) (fun h => h2 (by simpa using h))
theorem Zzi {x y : Int} {A B : Prop} (h1 : x ≠ y -> A) (h2 : x = y -> B) : Zz1 (x != y) A B :=
 Zz9 (fun h => h1 (by simpa using h)) (fun h => h2 (by simpa using h))
theorem Zzm {b : Bool} {A B : Prop} (h1 : b = false -> A) (h2 : b = true -> B) : Zz1 (!b) A B :=
 Zz9 (fun h => h1 (by simpa using h)) (fun h => h2 (by simpa using h))
theorem condB_o {b : Bool} {A B : Prop} : Zz1 b A B -> (b = true /\ A) \/ (b = false /\ B):=by
 cases b
 ·exact fun h => .inr ⟨rfl, h⟩
 ·exact fun h => .inl ⟨rfl, h⟩
def ZzC (p : Option Addr) (K : Addr -> Prop) : Prop:=match p with | some a => K a | none => False
theorem Ybz {p : Option Addr} {K : Addr -> Prop} (h : ZzC p K) : ∃ a, p = some a /\ K a:=by
 cases p with
 | none => exact h.elim
 | some a => exact ⟨a, rfl, h⟩
def optC {α : Type} (o : Option α) (K : α -> Prop) : Prop:=match o with | some a => K a | none => False
theorem optC_o {α : Type} {o : Option α} {K : α -> Prop} (h : optC o K) : ∃ a, o = some a /\ K a:=by
 cases o with
 | none => exact h.elim
 | some a => exact ⟨a, rfl, h⟩
def ldI (k : IntKind) (w : World) (a : Addr) (K : Int -> Prop) : Prop := ∃ n, w.cell? a = some (.int k n) /\ K n
def ldB (w : World) (a : Addr) (K : Bool -> Prop) : Prop := ∃ b, w.cell? a = some (.bool b) /\ K b
def ldP (w : World) (a : Addr) (K : Option Addr -> Prop) : Prop := ∃ p, w.cell? a = some (.pointer p) /\ K p
def ldS (w : World) (a : Addr) (K : Option Addr -> Nat -> Nat -> Prop) : Prop := ∃ p l c, w.cell? a = some (.slice p l c) /\ K p l c
def ldStr (w : World) (a : Addr) (K : ByteArray -> Prop) : Prop := ∃ s, w.cell? a = some (.string s) /\ K s
def ldV (w : World) (a : Addr) (K : Value -> Prop) : Prop := ∃ v, w.cell? a = some v /\ K v
def ZzV (w : World) (a : Addr) (cs : List Value) : Prop := ∀ j v, cs[j]? = some v -> w.cell? (a.add j) = some v
def ldN (w : World) (a : Addr) (n : Nat) (K : List Value -> Prop) : Prop := ∃ cs : List Value, cs.length = n /\ ZzV w a cs /\ K cs
theorem ZxJ {k : IntKind} {w : World} {a : Addr} {K : Int -> Prop} {n : Int} (h : w.cell? a = some (.int k n)) (hk : K n) : ldI k w a K:=⟨n, h, hk⟩
theorem ldB_i {w : World} {a : Addr} {K : Bool -> Prop} {b : Bool} (h : w.cell? a = some (.bool b)) (hk : K b) : ldB w a K:=⟨b, h, hk⟩
theorem Yd4 {w : World} {a : Addr} {K : Option Addr -> Nat -> Nat -> Prop} {p : Option Addr} {l c : Nat} (h : w.cell? a = some (.slice p l c)) (hk : K p l c) : ldS w a K:=⟨p, l, c, h, hk⟩
theorem ZzB {w : World} {a : Addr} {K : ByteArray -> Prop} {s : ByteArray} (h : w.cell? a = some (.string s)) (hk : K s) : ldStr w a K:=⟨s, h, hk⟩
inductive Sc where
 | int (k : IntKind) | bool | ptr | slice | str | val
def scOf (P : Program) (t : TypeId) : Sc :=
 match P.underlying t with
 | some (.int k) => .int k
 | some .bool => .bool
 | some (.pointer _) => .ptr
 | some (.slice _) => .slice
 | some .string => .str
 | _ => .val
def ldSc (s : Sc) (w : World) (a : Addr) (K : Value -> Prop) : Prop :=
 match s with
 | .int k => ldI k w a fun n => K (.int k n)
 | .bool => ldB w a fun b => K (.bool b)
 | .ptr => ldP w a fun p => K (.pointer p)
 | .slice => ldS w a fun p l c => K (.slice p l c)
 | .str => ldStr w a fun s => K (.string s)
 | .val => ldV w a fun v => K v
theorem ldSc_o {s : Sc} {w : World} {a : Addr} {K : Value -> Prop} (h : ldSc s w a K) : ∃ v, w.cell? a = some v /\ K v:=by
 cases s with
 | int k => obtain ⟨n, h1, h2⟩:=h; exact ⟨_, h1, h2⟩
 | bool => obtain ⟨n, h1, h2⟩:=h; exact ⟨_, h1, h2⟩
 | ptr => obtain ⟨n, h1, h2⟩:=h; exact ⟨_, h1, h2⟩
 | slice => obtain ⟨p, l, c, h1, h2⟩:=h; exact ⟨_, h1, h2⟩
 | str => obtain ⟨n, h1, h2⟩:=h; exact ⟨_, h1, h2⟩
 | val => obtain ⟨n, h1, h2⟩:=h; exact ⟨_, h1, h2⟩
def flat (P : Program) : Nat -> TypeId -> List Sc
 | 0, _ => []
 | d + 1, t =>
  match P.underlying t with
  | some (.struct fs) => fs.toList.flatMap fun f => flat P d f.type
  | some (.array n e) => (replicate n (flat P d e)).flatten
  | _ => [scOf P t]
def ldCells (w : World) (a : Addr) : Nat -> List Sc -> (List Value -> Prop) -> Prop
 | _, [], K => K []
 | i, s :: l, K => ldSc s w (a.add i) fun v => ldCells w a (i + 1) l fun vs => K (v :: vs)
theorem ldCells_o {w : World} {a : Addr} : ∀ {l : List Sc} {i : Nat} {K : List Value -> Prop}, ldCells w a i l K ->
  ∃ vs : List Value, vs.length = l.length /\ (∀ j v, vs[j]? = some v -> w.cell? (a.add (i + j)) = some v) /\ K vs
 | [], i, K, h => ⟨[], rfl, by simp, h⟩
 | s :: l, i, K, h => by
  obtain ⟨v, h1, h2⟩:=ldSc_o h
  obtain ⟨vs, h3, h4, h5⟩:=ldCells_o h2
  refine ⟨v :: vs, by simp [h3], fun j u hu => ?_, h5⟩
  cases j with
  | zero => simp at hu; subst hu; simpa using h1
  | succ j => have:=h4 j u (by simpa using hu); rwa [show i + (j + 1) = i + 1 + j by omega]
def w64 (n : Int) : Int:=IntKind.i64.wrap n
def intBin (op : BinOp) (k : IntKind) (x y : Int) (K : Value -> Prop) : Prop :=
 match op with
 | .add => K (.int k (k.wrap (x + y)))
 | .sub => K (.int k (k.wrap (x - y)))
 | .mul => K (.int k (k.wrap (x * y)))
 | .quo => y ≠ 0 /\ K (.int k (k.wrap (x.tdiv y)))
 | .rem => y ≠ 0 /\ K (.int k (x.tmod y))
 | .and => K (.int k (k.wrap (BitVec.ofInt k.bits x &&& BitVec.ofInt k.bits y).toNat))
 | .or => K (.int k (k.wrap (BitVec.ofInt k.bits x ||| BitVec.ofInt k.bits y).toNat))
 | .xor => K (.int k (k.wrap (BitVec.ofInt k.bits x ^^^ BitVec.ofInt k.bits y).toNat))
 | .andNot => K (.int k (k.wrap (BitVec.ofInt k.bits x &&& ~~~(BitVec.ofInt k.bits y)).toNat))
 | .shl => 0 <= y /\ K (.int k (k.wrap (x * 2 ^ (min y.toNat k.bits))))
 | .shr => 0 <= y /\ K (.int k (x.fdiv (2 ^ (min y.toNat k.bits))))
 | .eql => K (.bool (x == y))
 | .neq => K (.bool (x != y))
 | .lss => K (.bool (decide (x < y)))
 | .leq => K (.bool (decide (x <= y)))
 | .gtr => K (.bool (decide (x > y)))
 | .geq => K (.bool (decide (x >= y)))
def isShift : BinOp -> Bool | .shl | .shr => true | _ => false
def strBin (op : BinOp) (x y : ByteArray) (K : Value -> Prop) : Prop :=
 match op with
 | .add => ((x.size + y.size : Nat) : Int) <= 9223372036854775807 /\ K (.string (x ++ y))
 | .eql => K (.bool (x.toList == y.toList))
 | .neq => K (.bool !(x.toList == y.toList))
 | .lss => K (.bool (Op.bytesLess x.toList y.toList))
 | .leq => K (.bool (Op.bytesLess x.toList y.toList || x.toList == y.toList))
 | .gtr => K (.bool !(Op.bytesLess x.toList y.toList || x.toList == y.toList))
 | .geq => K (.bool !(Op.bytesLess x.toList y.toList))
 | _ => False
def eqFsL (P : Program) (sub : Array Value -> Array Value -> List Field -> Option Bool) (xs ys : Array Value) : List Field -> Option Bool
 | [] => some true
 | f :: fs => bif f.name == "_" then none else
  match P.underlying f.type, xs[f.offset]?, ys[f.offset]?, eqFsL P sub xs ys fs with
  | some (.int _), some (.int k a), some (.int k' b), some r => bif k == k' then some ((a == b) && r) else none
  | some .bool, some (.bool a), some (.bool b), some r => some ((a == b) && r)
  | some .string, some (.string a), some (.string b), some r => some ((a.toList == b.toList) && r)
  | some (.struct gs), _, _, some r => bif P.stoodInHeld f.type then none else
   match P.info? f.type with
   | some i => (match sub (xs.extract f.offset (f.offset + i.size)) (ys.extract f.offset (f.offset + i.size)) gs.toList with | some a => some (a && r) | none => none)
   | none => none
  | _, _, _, _ => none
def eqFs (P : Program) : Nat -> Array Value -> Array Value -> List Field -> Option Bool
 | 0 => fun _ _ _ => none
 | d + 1 => fun xs ys fs => eqFsL P (eqFs P d) xs ys fs
def vcBin (P : Program) (op : BinOp) (t : TypeId) (x y : Value) (K : Value -> Prop) : Prop :=
 match x, y with
 | .agg xs, .agg ys => match P.underlying t with
  | some (.struct fs) => bif P.eqGuardType P.depth t || P.stoodInHeld t then False else
   match eqFs P 3 xs ys fs.toList with
   | some b => match op with | .eql => K (.bool b) | .neq => K (.bool !b) | _ => False
   | none => False
  | _ => False
 | .int k a, .int k' b => bif isShift op || k == k' then intBin op k a b K else False
 | .string a, .string b => strBin op a b K
 | .bool a, .bool b => match P.underlying t with
  | some .bool => match op with | .eql => K (.bool (a == b)) | .neq => K (.bool !(a == b)) | _ => False
  | _ => False
 | .pointer p, .pointer none => match P.underlying t with
  | some (.pointer _) => match op with | .eql => K (.bool p.isNone) | .neq => K (.bool !p.isNone) | _ => False
  | _ => False
 | .slice p _ _, .slice none _ _ => match P.underlying t with
  | some (.slice _) => match op with | .eql => K (.bool p.isNone) | .neq => K (.bool !p.isNone) | _ => False
  | _ => False
 | _, _ => False
def isFn (x : Value) : Prop := ∃ g a b, x = .func g a b
def vcFnNil (P : Program) (op : BinOp) (t : TypeId) (x : Value) (K : Value -> Prop) : Prop :=
 match P.underlying t with
 | some (.func _ _ _) => (match op with | .eql => isFn x /\ K (.bool false) | .neq => isFn x /\ K (.bool true) | _ => False)
 | _ => False
def vcBinV (P : Program) (op : BinOp) (t : TypeId) (x y : Value) (K : Value -> Prop) : Prop :=
 match y with
 | .nilFunc => vcFnNil P op t x K
 | y => vcBin P op t x y K
def vcUn (op : UnOp) (x : Value) (K : Value -> Prop) : Prop :=
 match op, x with
 | .neg, .int k n => K (.int k (k.wrap (0 - n)))
 | .xor, .int k n => K (.int k (k.wrap (BitVec.ofInt k.bits (if k.signed then -1 else k.max) ^^^ BitVec.ofInt k.bits n).toNat))
 | .not, .bool b => K (.bool !b)
 | _, _ => False
def ZzS (p : Option Addr) (len : Nat) (i : Int) (K : Addr -> Prop) : Prop:=0 <= i /\ i < len /\ ZzC p K
theorem Ygv {a : Addr} {len : Nat} {i : Int} {K : Addr -> Prop} (h0 : 0 <= i) (h1 : i < len) (hk : K a) : ZzS (some a) len i K:=⟨h0, h1, hk⟩
def Zy6 (s : ByteArray) (i : Int) (K : Int -> Prop) : Prop := ∃ b : UInt8, 0 <= i /\ s[i.toNat]? = some b /\ K b.toNat
def idxAgg (cs : Array Value) (n : Nat) (i : Int) (K : ByteArray -> Prop) : Prop := ∃ s : ByteArray, 0 <= i /\ i < n /\ cs[i.toNat]? = some (.string s) /\ K s
def idxAggI (k : IntKind) (cs : Array Value) (n : Nat) (i : Int) (K : Int -> Prop) : Prop := ∃ x : Int, 0 <= i /\ i < n /\ cs[i.toNat]? = some (.int k x) /\ K x
def slS (p : Option Addr) (len cap sz : Nat) (lo hi mx : Option Int) (K : Option Addr -> Nat -> Nat -> Prop) : Prop :=
 ∃ l h m : Nat, lo.getD 0 = (l : Int) /\ hi.getD len = (h : Int) /\ mx.getD cap = (m : Int) /\ l <= h /\ h <= m /\ m <= cap /\ K (if m = l then p else p.map (·.add (l * sz))) (h - l) (m - l)
def YaO (s : ByteArray) (lo hi : Option Int) (K : ByteArray -> Prop) : Prop :=
 ∃ l h : Nat, lo.getD 0 = (l : Int) /\ hi.getD s.size = (h : Int) /\ l <= h /\ h <= s.size /\ K (s.extract l h)
def evI (fr : Fr) : Option Operand -> Option (Option Int)
 | none => some none
 | some x => match ev fr x with
  | some (.int _ n) => some (some n)
  | _ => none
def condT (b : Bool) (K : Prop) : Prop:=match b with | true => K | false => False
theorem condT_o {b : Bool} {K : Prop} (h : condT b K) : b = true /\ K:=by
 cases b
 ·exact h.elim
 ·exact ⟨rfl, h⟩
def jn (l m : List Value) : List Value:=match m with | [] => l | m => l ++ m
theorem jn_eq (l m : List Value) : jn l m = l ++ m:=by cases m <;> simp [jn]
def spC (N : Nat) (place : Nat -> Option (Nat × Nat)) : List (Nat × Value) -> List Value -> (List Value -> Prop) -> Prop
 | [], l, K => K l
 | (i, v) :: r, l, K =>
  match place i with
  | none => False
  | some (off, size) => bif Nat.ble (off + size) N then
    (match v with
    | .agg cs => cs.size = size /\ spC N place r (jn (l.take off ++ cs.toList) (l.drop (off + size))) K
    | v => bif Nat.beq size 1 then condT v.oneCell' (spC N place r (l.take off ++ v :: l.drop (off + 1)) K) else False)
   else False
def Yff (fr : Fr) : List (Nat × Operand) -> Option (List (Nat × Value))
 | [] => some []
 | (i, x) :: xs => match ev fr x with
  | none => none
  | some v => match Yff fr xs with
   | none => none
   | some vs => some ((i, v) :: vs)
def bcells (bs : List UInt8) : List Value:=bs.map fun b => .int .u8 b.toNat
def bytesAt (w : World) (p : Option Addr) (l : Nat) (bs : List UInt8) : Prop :=
 match p with
 | none => bs = []
 | some a => bs.length = l /\ ZzV w a (bcells bs)
def bytesOf (w : World) (p : Option Addr) (l : Nat) (K : List UInt8 -> Prop) : Prop := ∃ bs, bytesAt w p l bs /\ K bs
abbrev KR:=Value -> (World -> Prop) -> Prop
def Yam (K : KR) (v : Value) : Prop:=K v fun _ => True
def vcLoad (P : Program) (t : TypeId) (a : Addr) (w : World) (K : KR) : Prop :=
 match P.underlying t with
 | none => False
 | some (.struct _) => vcLoadAgg
 | some (.array _ _) => vcLoadAgg
 | some _ => ldSc (scOf P t) w a fun v => K v fun w' => w'.cell? a = some v
 where vcLoadAgg : Prop :=
 match P.info? t with
 | none => False
 | some i =>
  bif Nat.ble i.size 16 then
   (bif Nat.beq (flat P 8 t).length i.size then ldCells w a 0 (flat P 8 t) fun vs => K (.agg ⟨vs⟩) fun w' => ZzV w' a vs else False)
  else ldN w a i.size fun cs => K (.agg ⟨cs⟩) fun w' => ZzV w' a cs
def Yfb (P : Program) (t : TypeId) : Bool :=
 match P.underlying t with
 | some (.slice e) => (match P.underlying e with | some (.int .u8) => true | _ => false)
 | _ => false
def vcConv (P : Program) (src dst : TypeId) (x : Value) (w : World) (K : KR) : Prop :=
 match P.underlying src with
 | none => False
 | some d0 =>
 match P.underlying dst, x with
 | some (.int k), .int _ n => Yam K (.int k (k.wrap n))
 | some .string, .string s => Yam K (.string s)
 | some .string, .slice p l _ =>
  match d0 with
  | .slice e => (match P.underlying e with
   | some (.int .u8) => bytesOf w p l fun bs => K (.string ⟨bs.toArray⟩) fun w' => bytesAt w' p l bs
   | _ => False)
  | _ => False
 | _, _ => False
def lenV (P : Program) (t : TypeId) (x : Value) (K : KR) : Prop :=
 match P.underlying t, x with
 | some .string, .string s => Yam K (.int .i64 s.size)
 | some (.slice _), .slice _ n _ => Yam K (.int .i64 n)
 | some (.array n _), _ => Yam K (.int .i64 n)
 | _, _ => False
def capV (P : Program) (t : TypeId) (x : Value) (K : KR) : Prop :=
 match P.underlying t, x with
 | some (.slice _), .slice _ _ c => Yam K (.int .i64 c)
 | some (.array n _), _ => Yam K (.int .i64 n)
 | _, _ => False
def isLd (P : Program) (o : Oper) : Bool :=
 match o.op with
 | .load _ _ => true
 | .convert s d _ => (match P.underlying d with | some .string => Yfb P s | _ => false)
 | _ => false
def vcRead (P : Program) (fr : Fr) (o : Oper) (w : World) (K : KR) : Prop :=
 match o.op with
 | .move x | .assign x => (match ev fr x with | some v => Yam K v | none => False)
 | .pick c x y => (match ev fr c with
  | some (.bool g) => Zz1 g (match ev fr x with | some v => Yam K v | none => False) (match ev fr y with | some v => Yam K v | none => False)
  | _ => False)
 | .nilCheck x => (match ev fr x with | some (.pointer p) => ZzC p fun a => Yam K (.pointer (some a)) | _ => False)
 | .binOp op t x y _ => (match ev fr x, ev fr y with | some a, some b => vcBinV P op t a b (Yam K) | _, _ => False)
 | .unOp op _ x => (match ev fr x with | some a => vcUn op a (Yam K) | none => False)
 | .convert s d x => (match ev fr x with | some a => vcConv P s d a w K | none => False)
 | .fieldAddr s x f => (match ev fr x, P.underlying s with
  | some (.pointer p), some (.struct fs) => (match fs[f]? with
   | some fd => (match P.info? fd.type with
    | some i => bif Nat.beq i.size 0 then False else ZzC p fun a => Yam K (.pointer (some (a.add fd.offset)))
    | none => False)
   | none => False)
  | _, _ => False)
 | .field s x f => (match ev fr x, P.underlying s with
  | some (.agg cs), some (.struct fs) => (match fs[f]? with
   | some fd => (match P.underlying fd.type with
    | none => False
    | some (.struct _) | some (.array _ _) => (match P.info? fd.type with | some i => Yam K (.agg (cs.extract fd.offset (fd.offset + i.size))) | none => False)
    | some _ => optC cs[fd.offset]? (Yam K))
   | none => False)
  | _, _ => False)
 | .index t x ix => (match P.underlying t, ev fr x, ev fr ix with
  | some .string, some (.string s), some (.int _ i) => Zy6 s i fun b => Yam K (.int .u8 b)
  | some (.array n e), some (.agg cs), some (.int _ i) => (match P.underlying e, P.info? e with
   | some .string, some j => bif Nat.beq j.size 1 then idxAgg cs n i fun s => Yam K (.string s) else False
   | some (.int k), some j => bif Nat.beq j.size 1 then idxAggI k cs n i fun x => Yam K (.int k x) else False
   | _, _ => False)
  | _, _, _ => False)
 | .indexAddr t x ix => (match P.underlying t, ev fr x, ev fr ix with
  | some (.slice e), some (.slice p l _), some (.int _ i) => (match P.info? e with | some j => ZzS p l i fun a => Yam K (.pointer (some (a.add (i.toNat * j.size)))) | none => False)
  | some (.array n e), some (.pointer p), some (.int _ i) => (match P.info? e with | some j => ZzS p n i fun a => Yam K (.pointer (some (a.add (i.toNat * j.size)))) | none => False)
  | _, _, _ => False)
 | .slice t x lo hi mx => (match evI fr lo, evI fr hi, evI fr mx with
  | some lo', some hi', some mx' => (match P.underlying t, ev fr x with
   | some (.slice e), some (.slice p l c) => (match P.info? e with
    | some j => bif mx'.isSome && hi'.isNone then False else slS p l c j.size lo' hi' mx' fun p' l' c' => Yam K (.slice p' l' c')
    | none => False)
   | some (.array n e), some (.pointer p) => (match P.info? e with
    | some j => bif mx'.isSome && hi'.isNone then False else ZzC p fun a => slS (some a) n n j.size lo' hi' mx' fun p' l' c' => Yam K (.slice p' l' c')
    | none => False)
   | some .string, some (.string s) => bif mx'.isSome then False else YaO s lo' hi' fun s' => Yam K (.string s')
   | _, _ => False)
  | _, _, _ => False)
 | .load t x => (match ev fr x with | some (.pointer p) => ZzC p fun a => vcLoad P t a w K | _ => False)
 | .build t parts => (match Yff fr parts.toList, (P.info? t).bind (·.zero), P.underlying t with
  | some vs, some z, some (.struct fs) => bif fs.toList.all (fun f => (P.info? f.type).isSome) then
    spC z.cells.size (fun i => (fs[i]?).map fun f => (f.offset, P.cellsOf f.type)) vs z.cells.toList fun l => Yam K (.agg ⟨l⟩) else False
  | some vs, some z, some (.array _ e) => (match P.info? e with
   | some j => spC z.cells.size (fun i => some (i * j.size, j.size)) vs z.cells.toList fun l => Yam K (.agg ⟨l⟩)
   | none => False)
  | _, _, _ => False)
 | .extract x i => (match ev fr x with | some (.tuple vs) => optC vs[i]? (Yam K) | _ => False)
 | .makeFunc f xs ys => (match evs fr xs.toList, evs fr ys.toList with | some vs, some us => Yam K (.func f vs.toArray us.toArray) | _, _ => False)
 | .makeInterface t x => (match P.underlying t, ev fr x with
  | some (.interface _), _ => False
  | some _, some v => Yam K (.iface t v)
  | _, _ => False)
 | .call { callee := .builtin .len, args, argTypes } => (match args.toList, argTypes.toList with
  | [x], [t] => (match ev fr x with | some v => lenV P t v K | none => False)
  | _, _ => False)
 | .call { callee := .builtin .cap, args, argTypes } => (match args.toList, argTypes.toList with
  | [x], [t] => (match ev fr x with | some v => capV P t v K | none => False)
  | _, _ => False)
 | .call { callee := .builtin .max, args, .. } => (match args.toList with
  | [x, y] => (match ev fr x, ev fr y with | some (.int k a), some (.int _ b) => Yam K (.int k (if b > a then b else a)) | _, _ => False)
  | _ => False)
 | .call { callee := .builtin .min, args, .. } => (match args.toList with
  | [x, y] => (match ev fr x, ev fr y with | some (.int k a), some (.int _ b) => Yam K (.int k (if b < a then b else a)) | _, _ => False)
  | _ => False)
 | _ => False
section sound
variable {P : Program} {n : Nat} {fr : Fr} {a : Act}
theorem Zza {t : TypeId} {d : TypeDesc} (h : P.underlying t = some d) (w : World) : (underlying t).run P w = .ok d w:=by
 simp [underlying, h]
theorem intBin_o {op : BinOp} {k k' : IntKind} {t : TypeId} {x y : Int} {K : Value -> Prop} (hk : isShift op = true \/ k = k') (h : intBin op k x y K) :
  ∃ v, K v /\ ∀ w, (binOp op t (.int k x) (.int k' y)).run P w = .ok v w:=by
 cases op <;> simp only [intBin, isShift] at h hk <;> (try simp only [Bool.false_eq_true, false_or] at hk; subst hk)
 case quo => exact ⟨_, h.2, fun w => by simp [binOp, Op.intDiv, h.1]⟩
 case rem => exact ⟨_, h.2, fun w => by simp [binOp, Op.intDiv, h.1]⟩
 case shl => exact ⟨_, h.2, fun w => by simp [binOp, Op.shift, show ¬ y < 0 by omega]⟩
 case shr => exact ⟨_, h.2, fun w => by simp [binOp, Op.shift, show ¬ y < 0 by omega]⟩
 all_goals exact ⟨_, h, fun w => by simp [binOp, Op.intArith, Op.intBits, Op.intCmp]⟩
theorem strBin_o {op : BinOp} {t : TypeId} {x y : ByteArray} {K : Value -> Prop} (h : strBin op x y K) :
  ∃ v, K v /\ ∀ w, (binOp op t (.string x) (.string y)).run P w = .ok v w:=by
 cases op <;> simp only [strBin] at h
 case add =>
  refine ⟨_, h.2, fun w => ?_⟩
  have h1:=h.1
  have : ¬ (((x.size + y.size : Nat) : Int) > IntKind.i64.max):=by
   have : IntKind.i64.max = 9223372036854775807:=by decide
   omega
  simp only [binOp, Op.stringOp, this, if_false, Sem.run_pure]
 all_goals first | exact ⟨_, h, fun w => by simp [binOp, Op.stringOp]⟩ | exact h.elim
theorem guard_int (op : BinOp) (t : TypeId) (X Y : Operand) (k k' : IntKind) (a b : Int) (w : World) : (eqGuard op t X Y (.int k a) (.int k' b)).run P w = .ok () w:=by cases op <;> rfl
theorem guard_str (op : BinOp) (t : TypeId) (X Y : Operand) (a b : ByteArray) (w : World) : (eqGuard op t X Y (.string a) (.string b)).run P w = .ok () w:=by cases op <;> rfl
theorem guard_bool (op : BinOp) (t : TypeId) (X Y : Operand) (a b : Bool) (w : World) : (eqGuard op t X Y (.bool a) (.bool b)).run P w = .ok () w:=by cases op <;> rfl
theorem guard_ptr (op : BinOp) (t : TypeId) (X Y : Operand) (a b : Option Addr) (w : World) : (eqGuard op t X Y (.pointer a) (.pointer b)).run P w = .ok () w:=by cases op <;> rfl
theorem YhD (op : BinOp) (t : TypeId) (X Y : Operand) (a b : Option Addr) (l c l' c' : Nat) (w : World) : (eqGuard op t X Y (.slice a l c) (.slice b l' c')).run P w = .ok () w:=by cases op <;> rfl
theorem Ygy {t : TypeId} (h : P.underlying t = some .bool) (a b : Bool) (w : World) : (Op.equal t (.bool a) (.bool b)).run P w = .ok (a == b) w:=by
 simp only [Op.equal, Op.maxDepth]; unfold Op.equalIn; simp [Zza h]
theorem YhM {t e : TypeId} (h : P.underlying t = some (.pointer e)) (p : Option Addr) (w : World) : (Op.equal t (.pointer p) (.pointer none)).run P w = .ok p.isNone w:=by
 simp only [Op.equal, Op.maxDepth]; unfold Op.equalIn; cases p <;> simp [Zza h]
theorem YfL {t e : TypeId} (h : P.underlying t = some (.slice e)) (p : Option Addr) (l c l' c' : Nat) (w : World) : (Op.equal t (.slice p l c) (.slice none l' c')).run P w = .ok p.isNone w:=by
 simp only [Op.equal, Op.maxDepth]; unfold Op.equalIn; cases p <;> simp [Zza h]
theorem Yhg {t : TypeId} {i : TypeInfo} {gs : Array Field} (hu : P.underlying t = some (.struct gs)) (hi : P.info? t = some i) (xs : Array Value) (off : Nat) (w : World) :
  (part t xs off).run P w = .ok (.agg (xs.extract off (off + i.size))) w:=by
 simp [part, isAgg, run_underlying hu, sizeOf, typeInfo, hi]
theorem YhN {sub : Array Value -> Array Value -> List Field -> Option Bool} {n : Nat} (hsub : ∀ {xs ys : Array Value} {fs : List Field} {r : Bool}, sub xs ys fs = some r -> ∀ (d : Nat) (w : World), (Op.eqFields (d + n) xs ys fs).run P w = .ok r w) {xs ys : Array Value} :
  ∀ {fs : List Field} {r : Bool}, eqFsL P sub xs ys fs = some r -> ∀ (d : Nat) (w : World), (Op.eqFields (d + n + 1) xs ys fs).run P w = .ok r w
 | [], r, h, d, w => by simp only [eqFsL, Option.some.injEq] at h; subst h; simp [Op.eqFields]
 | f :: fs, r, h, d, w => by
  simp only [eqFsL] at h
  cases hn : f.name == "_" with
  | true => simp [hn] at h
  | false =>
   simp only [hn, cond_false] at h
   have hn' : f.name ≠ "_" := by simpa using hn
   split at h
   ·rename_i kk k a k' b r' hu hx hy hr
    have ih:=YhN hsub hr d w
    have hp : P.plainKey f.type = true:=by unfold Program.plainKey; rw [hu]
    cases hk : k == k' with
    | false => simp [hk] at h
    | true =>
     simp only [hk, cond_true, Option.some.injEq] at h
     have hkk : k = k':=by simpa using hk
     subst hkk
     simp only [Op.eqFields, hn', ne_eq, not_false_eq_true, if_true, Sem.run_bind, Go.run_part_plain w hp hx, Go.run_part_plain w hp hy, Result.andThen_ok, run_equalIn_int w (d + n) f.type k kk a b hu, Sem.run_ite, ih]
     subst h
     cases h2 : a == b <;> simp
   ·rename_i a b r' hu hx hy hr
    have ih:=YhN hsub hr d w
    have hp : P.plainKey f.type = true:=by unfold Program.plainKey; rw [hu]
    simp only [Option.some.injEq] at h
    simp only [Op.eqFields, hn', ne_eq, not_false_eq_true, if_true, Sem.run_bind, Go.run_part_plain w hp hx, Go.run_part_plain w hp hy, Result.andThen_ok, run_equalIn_bool' w (d + n) f.type a b hu, Sem.run_ite, ih]
    subst h
    cases h2 : a == b <;> simp
   ·rename_i a b r' hu hx hy hr
    have ih:=YhN hsub hr d w
    have hp : P.plainKey f.type = true:=by unfold Program.plainKey; rw [hu]
    simp only [Option.some.injEq] at h
    simp only [Op.eqFields, hn', ne_eq, not_false_eq_true, if_true, Sem.run_bind, Go.run_part_plain w hp hx, Go.run_part_plain w hp hy, Result.andThen_ok, run_equalIn_string w (d + n) f.type a b hu, Sem.run_ite, ih]
    subst h
    cases h2 : a.toList == b.toList <;> simp
   ·rename_i gs r' hu hr
    have ih:=YhN hsub hr d w
    cases hs : P.stoodInHeld f.type with
    | true => simp [hs] at h
    | false =>
     simp only [hs, cond_false] at h
     split at h
     ·next i hi =>
      split at h
      ·next a ha =>
       simp only [Option.some.injEq] at h
       have hf : P.fieldsOf f.type = gs:=by unfold Program.fieldsOf; rw [hu]
       have hu' : P.underlying f.type = some (.struct (P.fieldsOf f.type)):=by rw [hf]; exact hu
       have he:=run_equalIn_agg w (d + n) f.type (xs.extract f.offset (f.offset + i.size)) (ys.extract f.offset (f.offset + i.size)) hu' hs
       rw [hf, hsub ha d w] at he
       simp only [Op.eqFields, hn', ne_eq, not_false_eq_true, if_true, Sem.run_bind, Yhg hu hi, Result.andThen_ok, he, Sem.run_ite, ih]
       subst h
       cases a <;> simp
      ·cases h
     ·cases h
   ·simp at h
theorem eqFs_o : ∀ {n : Nat} {xs ys : Array Value} {fs : List Field} {r : Bool}, eqFs P n xs ys fs = some r -> ∀ (d : Nat) (w : World), (Op.eqFields (d + n) xs ys fs).run P w = .ok r w
 | 0, _, _, _, _, h, _, _ => by simp [eqFs] at h
 | n + 1, xs, ys, fs, r, h, d, w => YhN (fun h d w => eqFs_o h d w) h d w
theorem vcBin_o {op : BinOp} {t : TypeId} {x y : Value} {K : Value -> Prop} (X Y : Operand) (h : vcBin P op t x y K) :
  ∃ v, K v /\ ∀ w, (do eqGuard op t X Y x y; binOp op t x y : Sem Value).run P w = .ok v w:=by
 unfold vcBin at h
 split at h
 ·rename_i xs ys
  split at h
  ·rename_i fs hu
   cases hg : (P.eqGuardType P.depth t || P.stoodInHeld t) with
   | true => simp [hg] at h
   | false =>
    simp only [hg, cond_false] at h
    simp only [Bool.or_eq_false_iff] at hg
    split at h
    ·rename_i b hb
     have hf : P.fieldsOf t = fs:=by unfold Program.fieldsOf; rw [hu]
     have hu' : P.underlying t = some (.struct (P.fieldsOf t)):=by rw [hf]; exact hu
     have he : ∀ w, (Op.equalIn 10000 t (.agg xs) (.agg ys)).run P w = .ok b w:=fun w => by
      rw [run_equalIn_agg w 9999 t xs ys hu' hg.2, hf]; exact eqFs_o (n:=3) hb 9996 w
     split at h
     ·exact ⟨_, h, fun w => by simp [run_eqGuard_agg w _ t X Y xs ys hg.1, run_eql_struct w t xs ys, he]⟩
     ·exact ⟨_, h, fun w => by simp [run_eqGuard_agg w _ t X Y xs ys hg.1, run_neq_struct w t xs ys, he]⟩
     ·exact h.elim
    ·exact h.elim
  ·exact h.elim
 ·rename_i k a k' b
  cases hc : (isShift op || k == k') with
  | false => simp [hc] at h
  | true =>
   simp only [hc, cond_true] at h
   obtain ⟨v, hv, hr⟩:=intBin_o (P:=P) (t:=t) (k':=k') (by simpa using hc) h
   exact ⟨v, hv, fun w => by simp [guard_int, hr]⟩
 ·obtain ⟨v, hv, hr⟩:=strBin_o (P:=P) (t:=t) h
  exact ⟨v, hv, fun w => by simp [guard_str, hr]⟩
 ·split at h
  ·rename_i hu
   split at h
   ·exact ⟨_, h, fun w => by simp [guard_bool, binOp, Ygy hu]⟩
   ·exact ⟨_, h, fun w => by simp [guard_bool, binOp, Ygy hu]⟩
   ·exact h.elim
  ·exact h.elim
 ·split at h
  ·rename_i hu
   split at h
   ·exact ⟨_, h, fun w => by simp [guard_ptr, binOp, YhM hu]⟩
   ·exact ⟨_, h, fun w => by simp [guard_ptr, binOp, YhM hu]⟩
   ·exact h.elim
  ·exact h.elim
 ·split at h
  ·rename_i hu
   split at h
   ·exact ⟨_, h, fun w => by simp [YhD, binOp, YfL hu]⟩
   ·exact ⟨_, h, fun w => by simp [YhD, binOp, YfL hu]⟩
   ·exact h.elim
  ·exact h.elim
 ·exact h.elim
theorem guard_fn (op : BinOp) (t : TypeId) (X Y : Operand) (g : Fn) (a b : Array Value) (w : World) : (eqGuard op t X Y (.func g a b) .nilFunc).run P w = .ok () w:=by cases op <;> rfl
theorem equalIn_fn {t : TypeId} {ps rs : Array TypeId} {v : Bool} (h : P.underlying t = some (.func ps rs v)) (g : Fn) (a b : Array Value) (w : World) : (Op.equal t (.func g a b) .nilFunc).run P w = .ok false w:=by
 simp only [Op.equal, Op.maxDepth]; unfold Op.equalIn; simp [Zza h]
theorem vcBinV_o {op : BinOp} {t : TypeId} {x y : Value} {K : Value -> Prop} (X Y : Operand) (h : vcBinV P op t x y K) :
  ∃ v, K v /\ ∀ w, (do eqGuard op t X Y x y; binOp op t x y : Sem Value).run P w = .ok v w:=by
 unfold vcBinV at h
 split at h
 ·unfold vcFnNil at h
  split at h
  ·rename_i ps rs v hq
   split at h
   ·obtain ⟨⟨g, a, b, rfl⟩, h⟩:=h
    exact ⟨_, h, fun w => by simp [guard_fn, binOp, equalIn_fn hq]⟩
   ·obtain ⟨⟨g, a, b, rfl⟩, h⟩:=h
    exact ⟨_, h, fun w => by simp [guard_fn, binOp, equalIn_fn hq]⟩
   ·exact h.elim
  ·exact h.elim
 ·exact vcBin_o X Y h
theorem vcUn_o {op : UnOp} {x : Value} {K : Value -> Prop} (h : vcUn op x K) : ∃ v, K v /\ ∀ w, (Op.unary op x).run P w = .ok v w:=by
 unfold vcUn at h
 split at h
 ·exact ⟨_, h, fun w => by simp [Op.unary, Op.intArith]⟩
 ·exact ⟨_, h, fun w => by simp [Op.unary, Op.intBits]⟩
 ·exact ⟨_, h, fun w => by simp [Op.unary]⟩
 ·exact h.elim
theorem lenV_o {t : TypeId} {x : Value} {K : KR} (_w : World) (h : lenV P t x K) : ∃ v S, K v S /\ (∀ w, S w) /\ ∀ w', S w' -> ∀ ty, (Builtin.len_ #[t] ty #[x]).run P w' = .ok v w':=by
 unfold lenV at h
 split at h
 ·rename_i hu; exact ⟨_, _, h, fun _ => trivial, fun w' _ ty => by simp [Builtin.len_, Zza hu, goInt]⟩
 ·rename_i hu; exact ⟨_, _, h, fun _ => trivial, fun w' _ ty => by simp [Builtin.len_, Zza hu, goInt]⟩
 ·rename_i hu; exact ⟨_, _, h, fun _ => trivial, fun w' _ ty => by simp [Builtin.len_, Zza hu, goInt]⟩
 ·exact h.elim
theorem capV_o {t : TypeId} {x : Value} {K : KR} (_w : World) (h : capV P t x K) : ∃ v S, K v S /\ (∀ w, S w) /\ ∀ w', S w' -> ∀ ty, (Builtin.cap_ #[t] ty #[x]).run P w' = .ok v w':=by
 unfold capV at h
 split at h
 ·rename_i hu; exact ⟨_, _, h, fun _ => trivial, fun w' _ ty => by simp [Builtin.cap_, Zza hu, goInt]⟩
 ·rename_i hu; exact ⟨_, _, h, fun _ => trivial, fun w' _ ty => by simp [Builtin.cap_, Zza hu, goInt]⟩
 ·exact h.elim
theorem run_load_some {w : World} {a : Addr} {v : Value} (h : w.cell? a = some v) : (load a).run P w = .ok v w:=by simp [h]
theorem vcLoad_o {t : TypeId} {ad : Addr} {w : World} {K : KR} (h : vcLoad P t ad w K) :
  ∃ v S, K v S /\ S w /\ ∀ w', S w' -> (loadVar t ad).run P w' = .ok v w':=by
 have agg : ∀ d, P.underlying t = some d -> ((∃ fs, d = .struct fs) \/ (∃ k e, d = .array k e)) -> vcLoad.vcLoadAgg P t ad w K ->
   ∃ v S, K v S /\ S w /\ ∀ w', S w' -> (loadVar t ad).run P w' = .ok v w':=by
  intro d hd hk h
  have hagg : ∀ w', (isAgg t).run P w' = .ok true w':=fun w' => by
   rcases hk with ⟨fs, rfl⟩ | ⟨k, e, rfl⟩ <;> simp [isAgg, Zza hd]
  unfold vcLoad.vcLoadAgg at h
  split at h
  ·exact h.elim
  ·rename_i i hi
   have fin : ∀ vs : List Value, vs.length = i.size -> ∀ w', ZzV w' ad vs -> (loadVar t ad).run P w' = .ok (.agg ⟨vs⟩) w':=by
    intro vs hl w' hc
    have:=run_loadCells_list (P:=P) w' ad vs hc
    simp [loadVar, hagg, sizeOf, typeInfo, hi, <- hl, this]
   cases hb : Nat.ble i.size 16 with
   | true =>
    simp only [hb, cond_true] at h
    cases hf : Nat.beq (flat P 8 t).length i.size with
    | false => simp [hf] at h
    | true =>
     simp only [hf, cond_true] at h
     obtain ⟨vs, h1, h2, h3⟩:=ldCells_o h
     refine ⟨_, _, h3, fun j v hv => by simpa using h2 j v hv, fun w' hw' => fin vs (h1.trans (Nat.eq_of_beq_eq_true hf)) w' hw'⟩
   | false =>
    simp only [hb, cond_false] at h
    obtain ⟨cs, h1, h2, h3⟩:=h
    exact ⟨_, _, h3, h2, fun w' hw' => fin cs h1 w' hw'⟩
 unfold vcLoad at h
 split at h
 ·exact h.elim
 ·rename_i fs hu; exact agg _ hu (.inl ⟨_, rfl⟩) h
 ·rename_i k e hu; exact agg _ hu (.inr ⟨_, _, rfl⟩) h
 ·rename_i d h1 h2 hu
  obtain ⟨v, hv, hK⟩:=ldSc_o h
  refine ⟨v, _, hK, hv, fun w' hw' => ?_⟩
  have hagg : (isAgg t).run P w' = .ok false w':=by
   simp only [isAgg, Sem.run_bind, Zza hu, Result.andThen_ok]
   cases d <;> first | exact absurd rfl (h1 _) | exact absurd rfl (h2 _ _) | rfl
  simp only [loadVar, Sem.run_bind, hagg, Result.andThen_ok, Bool.false_eq_true, if_false]
  exact run_load_some hw'
theorem push_all (bs : List UInt8) : ∀ s : ByteArray, (bs.map fun b : UInt8 => (b.toNat : Int)).foldl (fun r n => r.push (UInt8.ofNat n.toNat)) s = ⟨s.data ++ bs.toArray⟩:=by
 induction bs with
 | nil => intro s; cases s; simp
 | cons b bs ih =>
  intro s
  simp only [map_cons, foldl_cons, ih]
  cases s
  simp [ByteArray.push]
theorem run_bytes {w : World} {ad : Addr} {bs : List UInt8} (c : Nat) (h : ZzV w ad (bcells bs)) :
  (Conv.bytesToString (.slice (some ad) bs.length c)).run P w = .ok (.string ⟨bs.toArray⟩) w:=by
 have h1:=run_loadCells_list (P:=P) w ad _ h
 have h2 : bcells bs = (bs.map fun b : UInt8 => (b.toNat : Int)).map (Value.int .u8):=by simp [bcells]
 rw [h2, length_map, length_map] at h1
 rw [run_bytesToString w ad bs.length c _ h1, push_all]
 simp
theorem vcConv_o {s d : TypeId} {x : Value} {w : World} {K : KR} {dst : Option Tmp} {X : Operand} {ty : TypeId} {pos : String} {aft : Array Edge} {gd : Option (Nat × Bool)} (h : vcConv P s d x w K) :
  ∃ v S, K v S /\ S w /\ (isLd P ⟨dst, .convert s d X, ty, pos, aft, gd⟩ = false -> ∀ w', S w') /\ ∀ w', S w' -> (convert s d x).run P w' = .ok v w':=by
 unfold vcConv at h
 split at h
 ·exact h.elim
 ·rename_i d0 h0
  split at h
  ·rename_i hu; exact ⟨_, _, h, trivial, fun _ _ => trivial, fun w' _ => by cases d0 <;> simp [convert, Zza hu, Zza h0, Conv.intToInt]⟩
  ·rename_i hu; exact ⟨_, _, h, trivial, fun _ _ => trivial, fun w' _ => by cases d0 <;> simp [convert, Zza hu, Zza h0]⟩
  ·rename_i p l c hu
   split at h
   ·rename_i e
    split at h
    ·rename_i he
     obtain ⟨bs, hb, hK⟩:=h
     refine ⟨_, _, hK, hb, fun hld => by simp [isLd, hu, Yfb, h0, he] at hld, fun w' hw' => ?_⟩
     rw [run_convert_bytes_string w' s d e p l c h0 he hu]
     cases p with
     | none =>
      have hw2 : bs = []:=hw'
      subst hw2; rfl
     | some ad =>
      obtain ⟨hsz, hc⟩:=hw'
      subst hsz
      exact run_bytes c hc
    ·exact h.elim
   ·exact h.elim
  ·exact h.elim
theorem fieldPlace_o {ad : Addr} {f : Field} {i : TypeInfo} (hi : P.info? f.type = some i) (h0 : Nat.beq i.size 0 = false) (w : World) :
  (fieldPlace ad f).run P w = .ok (ad.add f.offset) w:=by
 have : ¬ i.size = 0:=fun h => by rw [h] at h0; exact absurd h0 (by decide)
 simp [fieldPlace, sizeOf, typeInfo, hi, this]
theorem Zxi (k : IntKind) (i : Int) (q y : Nat) (c : BoundsCode) (hn : i = (q : Int)) (hy : q <= y) (w : World) : (Instr.sliceBound (.int k i) y c).run P w = .ok q w:=by
 subst hn
 simp [Instr.sliceBound, asIntOf, hy]
inductive IsB : Option Value -> Option Int -> Prop
 | no : IsB none none
 | yes (k : IntKind) (i : Int) : IsB (some (.int k i)) (some i)
theorem IsB.none_of {x : Option Value} (h : IsB x none) : x = none:=by cases h; rfl
theorem Yf2 {isS : Bool} {len cap l h m : Nat} {lo hi mx : Option Value} {lo' hi' mx' : Option Int}
  (e1 : IsB lo lo') (e2 : IsB hi hi') (e3 : IsB mx mx') (hx : (mx'.isSome && hi'.isNone) = false)
  (h1 : lo'.getD 0 = (l : Int)) (h2 : hi'.getD len = (h : Int)) (h3 : mx'.getD cap = (m : Int)) (hlh : l <= h) (hhm : h <= m) (hmc : m <= cap) (w : World) :
  (Instr.sliceBounds isS len cap lo hi mx).run P w = .ok (l, h, m) w:=by
 cases e1 <;> cases e2 <;> cases e3 <;> simp only [Option.getD_none, Option.getD_some] at h1 h2 h3 <;> (try (simp at hx; done)) <;>
  simp only [Instr.sliceBounds, Sem.run_bind, Sem.run_pure, Result.andThen_ok]
 case no.no.no =>
  rw [show l = 0 by omega, show h = len by omega, show m = cap by omega]
 case no.yes.no k i =>
  have a1 : m = cap:=by omega
  subst a1
  rw [Zxi k i h m _ h2 hhm]
  rw [show l = 0 by omega]; rfl
 case no.yes.yes k i k' i' =>
  rw [Zxi k' i' m cap _ h3 hmc]
  simp only [Result.andThen_ok]
  rw [Zxi k i h m _ h2 hhm]
  rw [show l = 0 by omega]; rfl
 case yes.no.no k i =>
  have a1 : m = cap:=by omega
  have a2 : h = len:=by omega
  subst a1; subst a2
  simp only [Option.isSome]
  rw [Zxi k i l h _ h1 hlh]; rfl
 case yes.yes.no k i k' i' =>
  have a1 : m = cap:=by omega
  subst a1
  rw [Zxi k' i' h m _ h2 hhm]
  simp only [Result.andThen_ok, Option.isSome]
  rw [Zxi k i l h _ h1 hlh]; rfl
 case yes.yes.yes k i k' i' k2 i2 =>
  rw [Zxi k2 i2 m cap _ h3 hmc]
  simp only [Result.andThen_ok]
  rw [Zxi k' i' h m _ h2 hhm]
  simp only [Result.andThen_ok, Option.isSome]
  rw [Zxi k i l h _ h1 hlh]; rfl
theorem evI_o (hs : Sim n fr a) {x : Option Operand} {x' : Option Int} (h : evI fr x = some x') : IsB (x.map a.eval) x':=by
 cases x with
 | none => simp only [evI, Option.some.injEq] at h; subst h; exact .no
 | some y =>
  simp only [evI] at h
  split at h
  ·rename_i k i he
   simp only [Option.some.injEq] at h
   subst h
   rw [Option.map_some, hs.eval he]
   exact .yes k i
  ·simp at h
theorem YfK (hs : Sim n fr a) : ∀ {xs : List (Nat × Operand)} {vs : List (Nat × Value)}, Yff fr xs = some vs -> (xs.map fun (i, x) => (i, a.eval x)) = vs
 | [], vs, h => by simp only [Yff, Option.some.injEq] at h; simp [<- h]
 | (i, x) :: xs, vs, h => by
  simp only [Yff] at h
  cases h1 : ev fr x with
  | none => simp [h1] at h
  | some v =>
   cases h2 : Yff fr xs with
   | none => simp [h1, h2] at h
   | some us =>
    simp only [h1, h2, Option.some.injEq] at h
    simp [<- h, hs.eval h1, YfK hs h2]
theorem foldl_set (vs : List Value) : ∀ (k off : Nat) (cells : List Value), off + k + vs.length <= cells.length ->
  ((vs.zipIdx k).foldl (fun cs (x : Value × Nat) => cs.setIfInBounds (off + x.2) x.1) cells.toArray).toList = cells.take (off + k) ++ vs ++ cells.drop (off + k + vs.length):=by
 induction vs with
 | nil => intro k off cells h; simp
 | cons v vs ih =>
  intro k off cells h
  simp only [length_cons] at h
  simp only [zipIdx_cons, foldl_cons, setIfInBounds_toArray]
  rw [ih (k + 1) off (cells.set (off + k) v) (by simp; omega)]
  have:=list_seg_step cells (off + k) v vs (by omega)
  simp only [length_cons]
  rw [show off + (k + 1) = off + k + 1 by omega]
  exact this
theorem spC_o {N : Nat} {place : Nat -> Option (Nat × Nat)} {K : List Value -> Prop} : ∀ {parts : List (Nat × Value)} {l : List Value}, l.length = N -> spC N place parts l K ->
  ∃ l' : List Value, l'.length = N /\ Instr.fill place l.toArray parts = some l'.toArray /\ K l'
 | [], l, hl, h => ⟨l, hl, rfl, h⟩
 | (i, v) :: r, l, hl, h => by
  unfold spC at h
  split at h
  ·exact h.elim
  ·rename_i off size hp
   cases hb : Nat.ble (off + size) N with
   | false => simp [hb] at h
   | true =>
    have hle : off + size <= N:=Nat.le_of_ble_eq_true hb
    simp only [hb, cond_true] at h
    split at h
    ·rename_i cs
     obtain ⟨hsz, h⟩:=h
     rw [jn_eq] at h
     obtain ⟨l', h1, h2, h3⟩:=spC_o (by simp [hl]; omega) h
     refine ⟨l', h1, ?_, h3⟩
     rw [<- h2, Instr.fill, hp]
     have hc : ¬ ((Value.cells (.agg cs)).size ≠ size || decide (off + (Value.cells (.agg cs)).size > l.toArray.size)) = true:=by
      simp [Value.cells, hsz, hl]; omega
     dsimp only
     rw [if_neg hc]
     congr 1
     apply Array.ext'
     have:=foldl_set cs.toList 0 off l (by simp [hsz, hl]; omega)
     simp only [Nat.add_zero, Array.length_toList, hsz] at this
     rw [<- this]
     obtain ⟨L⟩:=cs
     simp [Value.cells]
    ·rename_i hna
     cases h1 : Nat.beq size 1 with
     | false => simp [h1] at h
     | true =>
      have hs1 : size = 1:=Nat.eq_of_beq_eq_true h1
      subst hs1
      simp only [h1, cond_true] at h
      obtain ⟨ho, h⟩:=condT_o h
      have hv : v.cells = #[v]:=by cases v <;> first | rfl | (simp [Value.oneCell'] at ho)
      obtain ⟨l', g1, g2, g3⟩:=spC_o (by simp [hl]; omega) h
      refine ⟨l', g1, ?_, g3⟩
      rw [<- g2, Instr.fill, hp]
      have hc : ¬ (v.cells.size ≠ 1 || decide (off + v.cells.size > l.toArray.size)) = true:=by
       simp [hv, hl]; omega
      dsimp only
      rw [if_neg hc]
      congr 1
      apply Array.ext'
      have:=foldl_set [v] 0 off l (by simp [hl]; omega)
      simp only [Nat.add_zero, length_cons, length_nil, Nat.zero_add] at this
      rw [hv]
      have e2 : (take off l ++ v :: drop (off + 1) l) = take off l ++ [v] ++ drop (off + 1) l:=by simp
      rw [e2, <- this]
      simp
theorem vcRead_o (hs : Sim n fr a) {o : Oper} {w : World} {K : KR} (h : vcRead P fr o w K) :
  ∃ v S, K v S /\ S w /\ (isLd P o = false -> ∀ w', S w') /\ ∀ w', S w' -> (execOp a.eval o).run P w' = .ok (.value v) w':=by
 obtain ⟨dst, op, ty, pos, aft, gd⟩:=o
 unfold vcRead at h
 dsimp only at h
 split at h
 · -- move
  split at h
  ·rename_i x v he; exact ⟨_, _, h, trivial, fun _ _ => trivial, fun w' _ => by simp [execOp, hs.eval he]⟩
  ·exact h.elim
 ·split at h
  ·rename_i x v he; exact ⟨_, _, h, trivial, fun _ _ => trivial, fun w' _ => by simp [execOp, hs.eval he]⟩
  ·exact h.elim
 · -- pick
  rename_i c x y
  split at h
  ·rename_i g hc
   have h':=condB_o h
   clear h
   rcases h' with ⟨rfl, h⟩ | ⟨rfl, h⟩
   ·split at h
    ·rename_i v he; exact ⟨_, _, h, trivial, fun _ _ => trivial, fun w' _ => by simp [execOp, hs.eval he, hs.eval hc, asBool]⟩
    ·exact h.elim
   ·split at h
    ·rename_i v he; exact ⟨_, _, h, trivial, fun _ _ => trivial, fun w' _ => by simp [execOp, hs.eval he, hs.eval hc, asBool]⟩
    ·exact h.elim
  ·exact h.elim
 · -- nilCheck
  split at h
  ·rename_i x p he
   obtain ⟨ad, rfl, h⟩:=Ybz h
   exact ⟨_, _, h, trivial, fun _ _ => trivial, fun w' _ => by simp [execOp, hs.eval he]⟩
  ·exact h.elim
 · -- binOp
  rename_i op t x y yt
  split at h
  ·rename_i u v hu hv
   obtain ⟨r, hr, hrun⟩:=vcBinV_o x y h
   refine ⟨r, _, hr, trivial, fun _ _ => trivial, fun w' _ => ?_⟩
   have:=hrun w'
   simp only [execOp, hs.eval hu, hs.eval hv, Sem.run_bind, this, Result.andThen_ok, Sem.run_pure] at this ⊢
  ·exact h.elim
 · -- unOp
  split at h
  ·rename_i u hu
   obtain ⟨r, hr, hrun⟩:=vcUn_o (P:=P) h
   exact ⟨r, _, hr, trivial, fun _ _ => trivial, fun w' _ => by simp [execOp, hs.eval hu, hrun w']⟩
  ·exact h.elim
 · -- convert
  split at h
  ·rename_i u hu
   obtain ⟨r, S, hr, hS, hS2, hrun⟩:=vcConv_o h
   exact ⟨r, S, hr, hS, hS2, fun w' hw' => by simp [execOp, hs.eval hu, hrun w' hw']⟩
  ·exact h.elim
 · -- fieldAddr
  split at h
  ·rename_i p fs he hu
   split at h
   ·rename_i fd hf
    split at h
    ·rename_i i hi
     cases h0 : Nat.beq i.size 0 with
     | true => simp [h0] at h
     | false =>
      simp only [h0, cond_false] at h
      obtain ⟨ad, rfl, h⟩:=Ybz h
      refine ⟨_, _, h, trivial, fun _ _ => trivial, fun w' _ => ?_⟩
      simp [execOp, hs.eval he, Instr.fieldAt, Zza hu, hf, Instr.sureAddr, fieldPlace_o hi h0]
    ·exact h.elim
   ·exact h.elim
  ·exact h.elim
 · -- field
  split at h
  ·rename_i cs fs he hu
   split at h
   ·rename_i fd hf
    split at h
    ·exact h.elim
    ·rename_i fs2 hu2
     split at h
     ·rename_i i hi
      exact ⟨_, _, h, trivial, fun _ _ => trivial, fun w' _ => by simp [execOp, hs.eval he, Instr.field, Zza hu, hf, part, isAgg, Zza hu2, asAgg, sizeOf, typeInfo, hi]⟩
     ·exact h.elim
    ·rename_i k2 e2 hu2
     split at h
     ·rename_i i hi
      exact ⟨_, _, h, trivial, fun _ _ => trivial, fun w' _ => by simp [execOp, hs.eval he, Instr.field, Zza hu, hf, part, isAgg, Zza hu2, asAgg, sizeOf, typeInfo, hi]⟩
     ·exact h.elim
    ·rename_i d h1 h2 hu2
     obtain ⟨v, hv, h⟩:=optC_o h
     refine ⟨_, _, h, trivial, fun _ _ => trivial, fun w' _ => ?_⟩
     have hagg : (isAgg fd.type).run P w' = .ok false w':=by
      simp only [isAgg, Sem.run_bind, Zza hu2, Result.andThen_ok]
      cases d <;> first | exact absurd rfl (h1 _) | exact absurd rfl (h2 _ _) | rfl
     simp [execOp, hs.eval he, Instr.field, Zza hu, hf, part, hagg, asAgg, hv]
   ·exact h.elim
  ·exact h.elim
 · -- index
  split at h
  ·rename_i s k i hu he hi
   obtain ⟨b, h0, hb, h⟩:=h
   exact ⟨_, _, h, trivial, fun _ _ => trivial, fun w' _ => by simp [execOp, hs.eval he, hs.eval hi, Instr.index, asIntOf, Zza hu, h0, hb]⟩
  ·rename_i n e cs k i hu he hi
   split at h
   ·rename_i j hu2 hj
    cases hj1 : Nat.beq j.size 1 with
    | false => simp [hj1] at h
    | true =>
     simp only [hj1, cond_true] at h
     obtain ⟨s, h0, h1, hc, h⟩:=h
     have hs1 : j.size = 1:=Nat.eq_of_beq_eq_true hj1
     refine ⟨_, _, h, trivial, fun _ _ => trivial, fun w' _ => ?_⟩
     have hagg : (isAgg e).run P w' = .ok false w':=by
      simp only [isAgg, Sem.run_bind, Zza hu2, Result.andThen_ok]
      rfl
     simp [execOp, hs.eval he, hs.eval hi, Instr.index, asIntOf, Zza hu, h0, h1, part, hagg, sizeOf, typeInfo, hj, hs1, hc]
   ·rename_i k2 j hu2 hj
    cases hj1 : Nat.beq j.size 1 with
    | false => simp [hj1] at h
    | true =>
     simp only [hj1, cond_true] at h
     obtain ⟨s, h0, h1, hc, h⟩:=h
     have hs1 : j.size = 1:=Nat.eq_of_beq_eq_true hj1
     refine ⟨_, _, h, trivial, fun _ _ => trivial, fun w' _ => ?_⟩
     have hagg : (isAgg e).run P w' = .ok false w':=by
      simp only [isAgg, Sem.run_bind, Zza hu2, Result.andThen_ok]
      rfl
     simp [execOp, hs.eval he, hs.eval hi, Instr.index, asIntOf, Zza hu, h0, h1, part, hagg, sizeOf, typeInfo, hj, hs1, hc]
   ·exact h.elim
  ·exact h.elim
 · -- indexAddr
  split at h
  ·rename_i e p l c k i hu he hi
   split at h
   ·rename_i j hj
    obtain ⟨h0, h1, h⟩:=h
    obtain ⟨ad, rfl, h⟩:=Ybz h
    exact ⟨_, _, h, trivial, fun _ _ => trivial, fun w' _ => by simp [execOp, hs.eval he, hs.eval hi, Instr.indexAt, asIntOf, Zza hu, h0, h1, sizeOf, typeInfo, hj]⟩
   ·exact h.elim
  ·rename_i m e p k i hu he hi
   split at h
   ·rename_i j hj
    obtain ⟨h0, h1, h⟩:=h
    obtain ⟨ad, rfl, h⟩:=Ybz h
    exact ⟨_, _, h, trivial, fun _ _ => trivial, fun w' _ => by simp [execOp, hs.eval he, hs.eval hi, Instr.indexAt, asIntOf, Zza hu, h0, h1, sizeOf, typeInfo, hj, Instr.sureAddr]⟩
   ·exact h.elim
  ·exact h.elim
 · -- slice
  rename_i t x lo hi mx
  split at h
  ·rename_i lo' hi' mx' e1 e2 e3
   split at h
   ·rename_i e p l c hu he
    split at h
    ·rename_i j hj
     cases hx : (mx'.isSome && hi'.isNone) with
     | true => simp [hx] at h
     | false =>
      simp only [hx, cond_false] at h
      obtain ⟨l1, h1, m1, a1, a2, a3, b1, b2, b3, h⟩:=h
      refine ⟨_, _, h, trivial, fun _ _ => trivial, fun w' _ => ?_⟩
      have hb:=Yf2 (P:=P) (isS:=true) (evI_o hs e1) (evI_o hs e2) (evI_o hs e3) hx a1 a2 a3 b1 b2 b3 w'
      simp [execOp, hs.eval he, Instr.sliceAt, Zza hu, Instr.slice, hb, sizeOf, typeInfo, hj]
    ·exact h.elim
   ·rename_i m e p hu he
    split at h
    ·rename_i j hj
     cases hx : (mx'.isSome && hi'.isNone) with
     | true => simp [hx] at h
     | false =>
      simp only [hx, cond_false] at h
      obtain ⟨ad, rfl, h⟩:=Ybz h
      obtain ⟨l1, h1, m1, a1, a2, a3, b1, b2, b3, h⟩:=h
      refine ⟨_, _, h, trivial, fun _ _ => trivial, fun w' _ => ?_⟩
      have hb:=Yf2 (P:=P) (isS:=false) (evI_o hs e1) (evI_o hs e2) (evI_o hs e3) hx a1 a2 a3 b1 b2 b3 w'
      by_cases hml : m1 = l1
      ·simp [execOp, hs.eval he, Instr.sliceAt, Zza hu, hb, sizeOf, typeInfo, hj, Instr.sureAddr, hml]
      ·simp [execOp, hs.eval he, Instr.sliceAt, Zza hu, hb, sizeOf, typeInfo, hj, Instr.sureAddr, hml]
    ·exact h.elim
   ·rename_i s hu he
    cases hx : mx'.isSome with
    | true => simp [hx] at h
    | false =>
     simp only [hx, cond_false] at h
     obtain ⟨l1, h1, a1, a2, b1, b2, h⟩:=h
     refine ⟨_, _, h, trivial, fun _ _ => trivial, fun w' _ => ?_⟩
     have e3':=evI_o hs e3
     cases mx' with
     | some m => simp at hx
     | none =>
      cases mx with
      | some m => exact absurd e3'.none_of (by simp)
      | none =>
       have hb:=Yf2 (P:=P) (isS:=false) (cap:=s.size) (m:=s.size) (evI_o hs e1) (evI_o hs e2) .no (by simp) a1 a2 (by simp) b1 b2 (Nat.le_refl _) w'
       simp [execOp, hs.eval he, Instr.sliceAt, Zza hu, Instr.slice, hb]
   ·exact h.elim
  ·exact h.elim
 · -- load
  split at h
  ·rename_i t x p he
   obtain ⟨ad, rfl, h⟩:=Ybz h
   obtain ⟨v, S, hK, hS, hrun⟩:=vcLoad_o h
   exact ⟨v, S, hK, hS, fun hld => by simp [isLd] at hld, fun w' hw' => by simp [execOp, hs.eval he, Instr.loadAt, Instr.sureAddr, hrun w' hw']⟩
  ·exact h.elim
 · -- build
  rename_i t parts
  split at h
  ·rename_i vs z fs he hz hu
   cases hall : fs.toList.all (fun f => (P.info? f.type).isSome) with
   | false => simp [hall] at h
   | true =>
    simp only [hall, cond_true] at h
    obtain ⟨l', h1, h2, h3⟩:=spC_o (by simp) h
    refine ⟨_, _, h3, trivial, fun _ _ => trivial, fun w' _ => ?_⟩
    have hp2 : (parts.map fun (i, x) => (i, a.eval x)) = vs.toArray:=by
     apply Array.ext'; simpa using YfK hs he
    cases hi : P.info? t with
    | none => simp [hi] at hz
    | some ti =>
     have hz' : ti.zero = some z:=by simpa [hi] using hz
     have places : ∀ l : List Field, l.all (fun f => (P.info? f.type).isSome) = true ->
       (l.mapM fun f : Field => do pure (f.offset, <- sizeOf f.type) : Sem (List (Nat × Nat))).run P w' = .ok (l.map fun f => (f.offset, P.cellsOf f.type)) w':=by
      intro l
      induction l with
      | nil => intro _; simp
      | cons f l ih =>
       intro hl
       simp only [all_cons, Bool.and_eq_true] at hl
       cases hf : P.info? f.type with
       | none => simp [hf] at hl
       | some j =>
        have h1 : (sizeOf f.type).run P w' = .ok j.size w':=by simp [sizeOf, typeInfo, hf]
        have h2:=ih hl.2
        simp only [mapM_cons, Sem.run_bind, h1, Result.andThen_ok, Sem.run_pure, map_cons, Program.cellsOf, hf, Option.map_some, Option.getD_some]
        rw [h2]; rfl
     have pl:=places fs.toList hall
     have hf2 : (fun i : Nat => (fs.toList.map fun f : Field => (f.offset, P.cellsOf f.type)).toArray[i]?) = fun i => (fs[i]?).map fun f => (f.offset, P.cellsOf f.type):=by
      funext i; simp
     have hm : (fs.mapM fun f : Field => do pure (f.offset, <- sizeOf f.type) : Sem (Array (Nat × Nat))).run P w' = .ok (fs.toList.map fun f => (f.offset, P.cellsOf f.type)).toArray w':=by
      have:=mapM_toArray (m:=Sem) (f:=fun f : Field => (do pure (f.offset, <- sizeOf f.type) : Sem (Nat × Nat))) (l:=fs.toList)
      rw [Array.toArray_toList] at this
      rw [this, Sem.run_map, pl]
      rfl
     rw [Array.toArray_toList] at h2
     simp only [execOp, hp2, Instr.build, zeroValue, typeInfo, Sem.run_bind, run_program, Result.andThen_ok, hi, hz', Sem.run_pure, Zza hu, hm, hf2, h2]
  ·rename_i vs z k e he hz hu
   split at h
   ·rename_i j hj
    obtain ⟨l', h1, h2, h3⟩:=spC_o (by simp) h
    refine ⟨_, _, h3, trivial, fun _ _ => trivial, fun w' _ => ?_⟩
    have hp2 : (parts.map fun (i, x) => (i, a.eval x)) = vs.toArray:=by
     apply Array.ext'; simpa using YfK hs he
    cases hi : P.info? t with
    | none => simp [hi] at hz
    | some ti =>
     have hz' : ti.zero = some z:=by simpa [hi] using hz
     rw [Array.toArray_toList] at h2
     simp only [execOp, hp2, Instr.build, zeroValue, sizeOf, typeInfo, hj, Sem.run_bind, run_program, Result.andThen_ok, hi, hz', Sem.run_pure, Zza hu, h2]
   ·exact h.elim
  ·exact h.elim
 · -- extract
  split at h
  ·rename_i x i vs he
   obtain ⟨v, hv, h⟩:=optC_o h
   exact ⟨_, _, h, trivial, fun _ _ => trivial, fun w' _ => by simp [execOp, hs.eval he, Instr.extract, hv]⟩
  ·exact h.elim
 · -- makeFunc
  rename_i f xs ys
  split at h
  ·rename_i vs us e1 e2
   refine ⟨_, _, h, trivial, fun _ _ => trivial, fun w' _ => ?_⟩
   have h1 : xs.map a.eval = vs.toArray:=by apply Array.ext'; simpa using hs.evals e1
   have h2 : ys.map a.eval = us.toArray:=by apply Array.ext'; simpa using hs.evals e2
   simp [execOp, h1, h2, Instr.makeFunc]
  ·exact h.elim
 · -- makeInterface
  rename_i t x
  split at h
  ·exact h.elim
  ·rename_i d v hu he hni
   refine ⟨_, _, h, trivial, fun _ _ => trivial, fun w' _ => ?_⟩
   simp only [execOp, hs.eval hni, Instr.makeInterface, Sem.run_bind, Zza he, Result.andThen_ok]
   cases d <;> first | rfl | exact absurd rfl (hu _)
  ·exact h.elim
 · -- len
  rename_i args ats
  split at h
  ·rename_i x t e1 e2
   split at h
   ·rename_i v he
    obtain ⟨r, S, hK, hS, hrun⟩:=lenV_o w h
    refine ⟨r, S, hK, hS w, fun _ => hS, fun w' hw' => ?_⟩
    have e1' : args = #[x]:=by apply Array.ext'; simpa using e1
    have e2' : ats = #[t]:=by apply Array.ext'; simpa using e2
    subst e1'; subst e2'
    simp [execOp, resolve, invoke, builtin, hs.eval he, hrun w' hw']
   ·exact h.elim
  ·exact h.elim
 · -- cap
  rename_i args ats
  split at h
  ·rename_i x t e1 e2
   split at h
   ·rename_i v he
    obtain ⟨r, S, hK, hS, hrun⟩:=capV_o w h
    refine ⟨r, S, hK, hS w, fun _ => hS, fun w' hw' => ?_⟩
    have e1' : args = #[x]:=by apply Array.ext'; simpa using e1
    have e2' : ats = #[t]:=by apply Array.ext'; simpa using e2
    subst e1'; subst e2'
    simp [execOp, resolve, invoke, builtin, hs.eval he, hrun w' hw']
   ·exact h.elim
  ·exact h.elim
 · -- max
  rename_i args ats
  split at h
  ·rename_i x y e1
   split at h
   ·rename_i k u k' v hu hv
    refine ⟨_, _, h, trivial, fun _ _ => trivial, fun w' _ => ?_⟩
    have e1' : args = #[x, y]:=by apply Array.ext'; simpa using e1
    subst e1'
    simp [execOp, resolve, invoke, builtin, hs.eval hu, hs.eval hv, Builtin.max_, Builtin.max2]
   ·exact h.elim
  ·exact h.elim
 · -- min
  rename_i args ats
  split at h
  ·rename_i x y e1
   split at h
   ·rename_i k u k' v hu hv
    refine ⟨_, _, h, trivial, fun _ _ => trivial, fun w' _ => ?_⟩
    have e1' : args = #[x, y]:=by apply Array.ext'; simpa using e1
    subst e1'
    simp [execOp, resolve, invoke, builtin, hs.eval hu, hs.eval hv, Builtin.min_, Builtin.min2]
   ·exact h.elim
  ·exact h.elim
 ·exact h.elim
end sound
end Go.Vc
end
section
namespace Go.Vc
open Go Go.RowKit
def Yfr (k : IntKind) (x y : Int) : Int:=k.wrap (BitVec.ofInt k.bits x &&& BitVec.ofInt k.bits y).toNat
def bOr (k : IntKind) (x y : Int) : Int:=k.wrap (BitVec.ofInt k.bits x ||| BitVec.ofInt k.bits y).toNat
def bAndNot (k : IntKind) (x y : Int) : Int:=k.wrap (BitVec.ofInt k.bits x &&& ~~~(BitVec.ofInt k.bits y)).toNat
def YgP (k : IntKind) (x y : Int) : Int:=k.wrap (x * 2 ^ (min y.toNat k.bits))
def Ya3 (k : IntKind) (x y : Int) : Int:=x.fdiv (2 ^ (min y.toNat k.bits))
inductive Sh where
 | one (s : Sc) | agg (l : List Sc)
def scs : List Sh -> List Sc
 | [] => []
 | .one s :: r => s :: scs r
 | .agg l :: r => l ++ scs r
def packs : List Sh -> List Value -> List Value
 | [], _ => []
 | .one _ :: r, v :: vs => v :: packs r vs
 | .one _ :: _, [] => []
 | .agg l :: r, vs => .agg ⟨vs.take l.length⟩ :: packs r (vs.drop l.length)
def packR (l : List Sh) (vs : List Value) : Value :=
 match packs l vs with
 | [v] => v
 | us => .tuple ⟨us⟩
def Sc.fn : Sc -> Type -> Type
 | .int _, X => Int -> X
 | .bool, X => Bool -> X
 | .ptr, X => Option Addr -> X
 | .slice, X => Option Addr -> Nat -> Nat -> X
 | .str, X => ByteArray -> X
 | .val, X => Value -> X
def JT (R : Type) : List Sc -> Type
 | [] => R
 | s :: l => s.fn (JT R l)
def JT.lam {R : Type} : (l : List Sc) -> (List Value -> R) -> JT R l
 | [], F => F []
 | .int k :: l, F => fun n : Int => JT.lam l fun vs => F (.int k n :: vs)
 | .bool :: l, F => fun b : Bool => JT.lam l fun vs => F (.bool b :: vs)
 | .ptr :: l, F => fun p : Option Addr => JT.lam l fun vs => F (.pointer p :: vs)
 | .slice :: l, F => fun (p : Option Addr) (m c : Nat) => JT.lam l fun vs => F (.slice p m c :: vs)
 | .str :: l, F => fun s : ByteArray => JT.lam l fun vs => F (.string s :: vs)
 | .val :: l, F => fun v : Value => JT.lam l fun vs => F (v :: vs)
def JT.app {R : Type} : (l : List Sc) -> JT R l -> List (Option Value) -> (R -> Prop) -> Prop
 | [], J, [], G => G J
 | .int k :: l, J, some (.int k' n) :: vs, G => (bif k == k' then JT.app l (J n) vs G else False)
 | .bool :: l, J, some (.bool b) :: vs, G => JT.app l (J b) vs G
 | .ptr :: l, J, some (.pointer p) :: vs, G => JT.app l (J p) vs G
 | .slice :: l, J, some (.slice p m c) :: vs, G => JT.app l (J p m c) vs G
 | .str :: l, J, some (.string s) :: vs, G => JT.app l (J s) vs G
 | .val :: l, J, some v :: vs, G => JT.app l (J v) vs G
 | _, _, _, _ => False
def JT.ex {R : Type} : (l : List Sc) -> JT R l -> (List Value -> R -> Prop) -> Prop
 | [], J, F => F [] J
 | .int k :: l, J, F => ∃ n : Int, JT.ex l (J n) fun vs r => F (.int k n :: vs) r
 | .bool :: l, J, F => ∃ b : Bool, JT.ex l (J b) fun vs r => F (.bool b :: vs) r
 | .ptr :: l, J, F => ∃ p : Option Addr, JT.ex l (J p) fun vs r => F (.pointer p :: vs) r
 | .slice :: l, J, F => ∃ (p : Option Addr) (m c : Nat), JT.ex l (J p m c) fun vs r => F (.slice p m c :: vs) r
 | .str :: l, J, F => ∃ s : ByteArray, JT.ex l (J s) fun vs r => F (.string s :: vs) r
 | .val :: l, J, F => ∃ v : Value, JT.ex l (J v) fun vs r => F (v :: vs) r
def JT.all {R : Type} : (l : List Sc) -> JT R l -> (List Value -> R -> Prop) -> Prop
 | [], J, F => F [] J
 | .int k :: l, J, F => ∀ n : Int, JT.all l (J n) fun vs r => F (.int k n :: vs) r
 | .bool :: l, J, F => ∀ b : Bool, JT.all l (J b) fun vs r => F (.bool b :: vs) r
 | .ptr :: l, J, F => ∀ p : Option Addr, JT.all l (J p) fun vs r => F (.pointer p :: vs) r
 | .slice :: l, J, F => ∀ (p : Option Addr) (m c : Nat), JT.all l (J p m c) fun vs r => F (.slice p m c :: vs) r
 | .str :: l, J, F => ∀ s : ByteArray, JT.all l (J s) fun vs r => F (.string s :: vs) r
 | .val :: l, J, F => ∀ v : Value, JT.all l (J v) fun vs r => F (v :: vs) r
theorem JT.ex_lam {R : Type} : ∀ {l : List Sc} {G : List Value -> R} {F : List Value -> R -> Prop}, JT.ex l (JT.lam l G) F -> ∃ vs, F vs (G vs)
 | [], _, _, h => ⟨_, h⟩
 | .int _ :: _, _, _, ⟨_, h⟩ => let ⟨vs, h⟩:=JT.ex_lam h; ⟨_ :: vs, h⟩
 | .bool :: _, _, _, ⟨_, h⟩ => let ⟨vs, h⟩:=JT.ex_lam h; ⟨_ :: vs, h⟩
 | .ptr :: _, _, _, ⟨_, h⟩ => let ⟨vs, h⟩:=JT.ex_lam h; ⟨_ :: vs, h⟩
 | .slice :: _, _, _, ⟨_, _, _, h⟩ => let ⟨vs, h⟩:=JT.ex_lam h; ⟨_ :: vs, h⟩
 | .str :: _, _, _, ⟨_, h⟩ => let ⟨vs, h⟩:=JT.ex_lam h; ⟨_ :: vs, h⟩
 | .val :: _, _, _, ⟨_, h⟩ => let ⟨vs, h⟩:=JT.ex_lam h; ⟨_ :: vs, h⟩
theorem JT.app_lam {R : Type} : ∀ {l : List Sc} {G : List Value -> R} {ovs : List (Option Value)} {Φ : R -> Prop}, JT.app l (JT.lam l G) ovs Φ ->
  ∃ vs : List Value, ovs = vs.map some /\ Φ (G vs):=by
 intro l
 induction l with
 | nil =>
  intro G ovs Φ h
  cases ovs with
  | nil => exact ⟨[], rfl, h⟩
  | cons o r => exact h.elim
 | cons s l ih =>
  intro G ovs Φ h
  cases ovs with
  | nil => cases s <;> exact h.elim
  | cons o r =>
   cases o with
   | none => cases s <;> exact h.elim
   | some v =>
    cases s with
    | int k =>
     cases v <;> first | exact h.elim | skip
     rename_i k' n
     simp only [JT.app] at h
     cases hk : (k == k') with
     | false => simp [hk] at h
     | true =>
      simp only [hk, cond_true] at h
      have hk' : k = k':=by simpa using hk
      subst hk'
      obtain ⟨vs, h1, h2⟩:=ih h
      exact ⟨.int k n :: vs, by simp [h1], h2⟩
    | bool => cases v <;> first | exact h.elim | (obtain ⟨vs, h1, h2⟩:=ih h; exact ⟨_ :: vs, by simp [h1], h2⟩)
    | ptr => cases v <;> first | exact h.elim | (obtain ⟨vs, h1, h2⟩:=ih h; exact ⟨_ :: vs, by simp [h1], h2⟩)
    | slice => cases v <;> first | exact h.elim | (obtain ⟨vs, h1, h2⟩:=ih h; exact ⟨_ :: vs, by simp [h1], h2⟩)
    | str => cases v <;> first | exact h.elim | (obtain ⟨vs, h1, h2⟩:=ih h; exact ⟨_ :: vs, by simp [h1], h2⟩)
    | val => obtain ⟨vs, h1, h2⟩:=ih h; exact ⟨v :: vs, by simp [h1], h2⟩
theorem JT.all_app {R : Type} : ∀ {l : List Sc} {I : JT R l} {F : List Value -> R -> Prop} {ovs : List (Option Value)} {Φ : R -> Prop}, JT.all l I F -> JT.app l I ovs Φ ->
  ∃ (vs : List Value) (r : R), ovs = vs.map some /\ F vs r /\ Φ r:=by
 intro l
 induction l with
 | nil =>
  intro I F ovs Φ hF h
  cases ovs with
  | nil => exact ⟨[], _, rfl, hF, h⟩
  | cons o r => exact h.elim
 | cons s l ih =>
  intro I F ovs Φ hF h
  cases ovs with
  | nil => cases s <;> exact h.elim
  | cons o r =>
   cases o with
   | none => cases s <;> exact h.elim
   | some v =>
    cases s with
    | int k =>
     cases v <;> first | exact h.elim | skip
     rename_i k' n
     simp only [JT.app] at h
     cases hk : (k == k') with
     | false => simp [hk] at h
     | true =>
      simp only [hk, cond_true] at h
      have hk' : k = k':=by simpa using hk
      subst hk'
      obtain ⟨vs, r', h1, h2, h3⟩:=ih (hF n) h
      exact ⟨.int k n :: vs, r', by simp [h1], h2, h3⟩
    | bool => cases v <;> first | exact h.elim | (obtain ⟨vs, r', h1, h2, h3⟩:=ih (hF _) h; exact ⟨_ :: vs, r', by simp [h1], h2, h3⟩)
    | ptr => cases v <;> first | exact h.elim | (obtain ⟨vs, r', h1, h2, h3⟩:=ih (hF _) h; exact ⟨_ :: vs, r', by simp [h1], h2, h3⟩)
    | slice => cases v <;> first | exact h.elim | (obtain ⟨vs, r', h1, h2, h3⟩:=ih (hF _ _ _) h; exact ⟨_ :: vs, r', by simp [h1], h2, h3⟩)
    | str => cases v <;> first | exact h.elim | (obtain ⟨vs, r', h1, h2, h3⟩:=ih (hF _) h; exact ⟨_ :: vs, r', by simp [h1], h2, h3⟩)
    | val => obtain ⟨vs, r', h1, h2, h3⟩:=ih (hF v) h; exact ⟨v :: vs, r', by simp [h1], h2, h3⟩
theorem JT.ex_of_app : ∀ {l : List Sc} {J : JT (World -> Prop) l} {us : List Value} {w : World} {F : List Value -> Prop}, JT.app l J (us.map some) (fun r => r w) -> F us ->
  JT.ex l J fun vs r => F vs /\ r w:=by
 intro l
 induction l with
 | nil =>
  intro J us w F h hF
  cases us with
  | nil => exact ⟨hF, h⟩
  | cons o r => exact h.elim
 | cons s l ih =>
  intro J us w F h hF
  cases us with
  | nil => cases s <;> exact h.elim
  | cons v r =>
   simp only [map_cons] at h
   cases s with
   | int k =>
    cases v <;> first | exact h.elim | skip
    rename_i k' n
    simp only [JT.app] at h
    cases hk : (k == k') with
    | false => simp [hk] at h
    | true =>
     simp only [hk, cond_true] at h
     have hk' : k = k':=by simpa using hk
     subst hk'
     exact ⟨n, ih (F:=fun vs => F (.int k n :: vs)) h hF⟩
   | bool => cases v <;> first | exact h.elim | exact ⟨_, ih (F:=fun vs => F (_ :: vs)) h hF⟩
   | ptr => cases v <;> first | exact h.elim | exact ⟨_, ih (F:=fun vs => F (_ :: vs)) h hF⟩
   | slice => cases v <;> first | exact h.elim | exact ⟨_, _, _, ih (F:=fun vs => F (_ :: vs)) h hF⟩
   | str => cases v <;> first | exact h.elim | exact ⟨_, ih (F:=fun vs => F (_ :: vs)) h hF⟩
   | val => exact ⟨v, ih (F:=fun vs => F (v :: vs)) h hF⟩
def Zzf {T : Type} (k : T) (A : T -> Prop) : Prop:=A k
theorem Zz7 {T : Type} {k : T} {A : T -> Prop} (h : ∀ J : T, J = k -> A J) : Zzf k A:=h k rfl
def Zz0 (P : Program) (f : FuncId) (args : Array Value) (w : World) (l : List Sh) (J : JT (World -> Prop) (scs l)) : Prop :=
 Calls P f args w fun e w' => JT.ex (scs l) J fun vs r => e = .returned (packR l vs) /\ r w'
def shOf (P : Program) (t : TypeId) : Sh :=
 match P.underlying t with
 | some (.struct _) | some (.array _ _) => .agg (flat P 8 t)
 | _ => .one (scOf P t)
def shsOf (P : Program) (t : TypeId) : List Sh :=
 match P.underlying t with
 | some (.tuple ts) => ts.toList.map (shOf P)
 | _ => [shOf P t]
def newB (w : World) (o : Obj) (K : Nat -> World -> Prop) : Prop:=K w.heap.size (w.alloc o)
theorem newB_i {w : World} {o : Obj} {K : Nat -> World -> Prop} (h : ∀ b w', b = w.heap.size -> w' = w.alloc o -> K b w') : newB w o K:=h _ _ rfl rfl
def Zy2 (P : Program) (t : TypeId) : Array Value:=match (P.info? t).bind (·.zero) with | some z => z.cells | none => #[]
def setCells (w : World) (a : Addr) : Nat -> List Value -> World
 | _, [] => w
 | i, v :: l => setCells (w.setCell (a.add i) v) a (i + 1) l
def canW (w : World) (a : Addr) : Prop:=(∃ u, w.cell? a = some u) /\ w.frozen? a = false
def stV (w : World) (a : Addr) (v : Value) (K : World -> Prop) : Prop:=canW w a /\ K (w.setCell a v)
def stN (w : World) (a : Addr) (cs : Array Value) (n : Nat) (K : World -> Prop) : Prop :=
 cs.size = n /\ (∀ v ∈ cs.toList, v.oneCell' = true) /\ (∀ j, j < n -> canW w (a.add j)) /\ K (setCells w a 0 cs.toList)
def vcStore (P : Program) (t : TypeId) (a : Addr) (v : Value) (w : World) (K : World -> Prop) : Prop :=
 match P.info? t with
 | none => False
 | some i =>
  match P.underlying t with
  | some (.interface _) => bif Nat.beq i.size 1 then condT v.oneCell' (stV w a v K) else False
  | _ => match v with
   | .agg cs => stN w a cs i.size K
   | v => bif Nat.beq i.size 1 then condT v.oneCell' (stV w a v K) else False
def YeJ (P : Program) (t1 t2 : TypeId) (s x : Value) (w : World) (K : Option Addr -> Nat -> Nat -> World -> Prop) : Prop :=
 ∃ p l c w', (∀ ty, (Builtin.append_ #[t1, t2] ty #[s, x]).run P w = .ok (.slice p l c) w') /\ K p l c w'
def cpyJ (P : Program) (t1 t2 : TypeId) (d x : Value) (w : World) (K : Int -> World -> Prop) : Prop :=
 ∃ n w', (∀ ty, (Builtin.copy_ #[t1, t2] ty #[d, x]).run P w = .ok (.int .i64 n) w') /\ K n w'
def clrJ (P : Program) (t1 : TypeId) (x : Value) (w : World) (K : World -> Prop) : Prop :=
 ∃ w', (∀ ty, (Builtin.clear_ #[t1] ty #[x]).run P w = .ok (.tuple #[]) w') /\ K w'
def cvJ (P : Program) (t1 t2 : TypeId) (x : Value) (w : World) (K : Option Addr -> Nat -> Nat -> World -> Prop) : Prop :=
 ∃ p l c w', (convert t1 t2 x).run P w = .ok (.slice p l c) w' /\ K p l c w'
def cvStrJ (P : Program) (t1 t2 : TypeId) (x : Value) (w : World) (K : ByteArray -> World -> Prop) : Prop :=
 ∃ s w', (convert t1 t2 x).run P w = .ok (.string s) w' /\ K s w'
def mkS (w : World) (e : TypeId) (z : Array Value) (sz bytes : Nat) (len cap : Int) (K : Nat -> World -> Prop) : Prop :=
 0 <= len /\ len <= cap /\ (bytes : Int) * cap <= 281474976710656 /\ cap <= 9223372036854775807 /\ newB w (.cells (madeCells z (cap.toNat * sz)) e) K
def setBlk (w : World) (b : Nat) (o : Obj) : World:={ w with heap:=w.heap.setIfInBounds b o }
def nextS (w : World) (b : Nat) (K1 : Nat -> Int -> World -> Prop) (K2 : World -> Prop) : Prop :=
 ∃ s pos, w.heap[b]? = some (.stringIter s pos) /\
  (pos < s.size -> K1 pos (Utf8.decode s pos).1 (setBlk w b (.stringIter s (pos + (Utf8.decode s pos).2)))) /\ (¬ pos < s.size -> K2 w)
def plainFn (P : Program) (f : FuncId) : Bool :=
 match P.funcs[f]? with
 | some fn => !(fn.name == "runtime.NumGoroutine") && fn.body.isSome
 | none => false
def extJ (P : Program) (f : FuncId) (args : Array Value) (w : World) (l : List Sh) (J : JT (World -> Prop) (scs l)) : Prop :=
 ∃ v w', (callFunc f args).run P w = .ok (.value v) w' /\ JT.ex (scs l) J fun vs r => v = packR l vs /\ r w'
def callVal (P : Program) (v : Value) (vs : List Value) (w : World) (l : List Sh) (J : JT (World -> Prop) (scs l)) : Prop :=
 match v with
 | .func (.func g) first captured => bif plainFn P g then Zz0 P g (first.toList ++ vs ++ captured.toList).toArray w l J else extJ P g (first.toList ++ vs ++ captured.toList).toArray w l J
 | _ => False
def vcEff (P : Program) (fr : Fr) (o : Oper) (w : World) (K : Value -> World -> Prop) : Prop :=
 match o.op with
 | .store t x y => (match ev fr x, ev fr y with
  | some (.pointer p), some v => ZzC p fun a => vcStore P t a v w (K undef)
  | _, _ => False)
 | .alloc t => bif ((P.info? t).bind (·.zero)).isSome then newB w (.cells (Zy2 P t) t) fun b w' => K (.pointer (some ⟨b, 0, none⟩)) w' else False
 | .box t x => (match ev fr x with | some v => newB w (.cells v.cells t) fun b w' => K (.pointer (some ⟨b, 0, none⟩)) w' | none => False)
 | .buildSlice t len parts => (match P.underlying t, Yff fr parts.toList with
  | some (.slice e), some vs => (match P.info? e with
   | some j => (match j.zero with
    | some z => bif Nat.ble (len * j.size) 16777216 && Nat.beq z.cells.size j.size then
      spC (len * j.size) (fun i => some (i * j.size, j.size)) vs (replicate len z.cells.toList).flatten fun l =>
       newB w (.cells ⟨l⟩ e) fun b w' => K (.slice (some ⟨b, 0, none⟩) len len) w'
     else False
    | none => False)
   | none => False)
  | _, _ => False)
 | .makeSlice t x y => (match P.underlying t, ev fr x, ev fr y with
  | some (.slice e), some (.int _ l), some (.int _ c) => (match P.info? e with
   | some j => bif j.zero.isSome then mkS w e (Zy2 P e) j.size j.bytes l c fun b w' => K (.slice (some ⟨b, 0, none⟩) l.toNat c.toNat) w' else False
   | none => False)
  | _, _, _ => False)
 | .convert s d x => (match P.underlying d, ev fr x with
  | some (.slice _), some v => cvJ P s d v w fun p l c w' => K (.slice p l c) w'
  | some .string, some v => cvStrJ P s d v w fun s' w' => K (.string s') w'
  | _, _ => False)
 | .range t x => (match P.underlying t, ev fr x with
  | some .string, some (.string s) => newB w (.stringIter s 0) fun b w' => K (.pointer (some ⟨b, 0, none⟩)) w'
  | _, _ => False)
 | .next x isStr => (match ev fr x with
  | some (.pointer p) => ZzC p fun a => bif Nat.beq a.off 0 && isStr then
    nextS w a.block (fun pos c w' => K (.tuple #[.bool true, .int .i64 pos, .int .i32 c]) w') (fun w' => K (.tuple #[.bool false]) w') else False
  | _ => False)
 | .call { callee := .value f, args, .. } => (match ev fr f, evs fr args.toList with
  | some fv, some vs => callVal P fv vs w (shsOf P o.type) (JT.lam _ fun us w' => K (packR (shsOf P o.type) us) w')
  | _, _ => False)
 | .call { callee := .builtin .append, args, argTypes } => (match args.toList, argTypes.toList with
  | [x, y], [t1, t2] => (match ev fr x, ev fr y with
   | some s, some v => YeJ P t1 t2 s v w fun p l c w' => K (.slice p l c) w'
   | _, _ => False)
  | _, _ => False)
 | .call { callee := .builtin .copy, args, argTypes } => (match args.toList, argTypes.toList with
  | [x, y], [t1, t2] => (match ev fr x, ev fr y with
   | some s, some v => cpyJ P t1 t2 s v w fun k w' => K (.int .i64 k) w'
   | _, _ => False)
  | _, _ => False)
 | .call { callee := .builtin .clear, args, argTypes } => (match args.toList, argTypes.toList with
  | [x], [t1] => (match ev fr x with
   | some s => clrJ P t1 s w fun w' => K (.tuple #[]) w'
   | _ => False)
  | _, _ => False)
 | _ => False
section sound
variable {P : Program} {n : Nat} {fr : Fr} {a : Act}
theorem Zx1 {o : Oper} {w w' : World} {v : Value} {next : Act -> World -> Prop} {Q : Exit -> Act -> World -> Prop}
  (h : (execOp a.eval o).run P w = .ok (.value v) w') (hk : next (a.put o.dst v) w') : o.wp P a w next Q:=by
 unfold Oper.wp; rw [h]; exact hk
theorem wp_of_skip {o : Oper} {w w' : World} {next : Act -> World -> Prop} {Q : Exit -> Act -> World -> Prop}
  (h : (execOp a.eval o).run P w = .ok .skip w') (hk : next (a.put o.dst undef) w') : o.wp P a w next Q:=by
 unfold Oper.wp; rw [h]; exact hk
theorem add_zero' (a : Addr) : a.add 0 = a:=by simp [Addr.add]
theorem canW_setCell {w : World} {a b : Addr} {v : Value} (h : canW w b) : canW (w.setCell a v) b:=by
 obtain ⟨⟨u, hu⟩, hf⟩:=h
 refine ⟨?_, ?_⟩
 ·by_cases hab : a = b
  ·subst hab; exact ⟨v, World.cell?_setCell_same w a v hu⟩
  ·exact ⟨u, by rw [World.cell?_setCell_other w a b v hab]; exact hu⟩
 ·rw [World.frozen?_setCell]; exact hf
theorem Ya4 : ∀ (l : List Value) (i : Nat) (w : World) (ad : Addr), (∀ v ∈ l, v.oneCell' = true) -> (∀ j, j < l.length -> canW w (ad.add (i + j))) ->
  (storeCells ad l i).run P w = .ok () (setCells w ad i l)
 | [], i, w, ad, _, _ => rfl
 | v :: l, i, w, ad, h1, h2 => by
  have h0:=h2 0 (by simp)
  obtain ⟨⟨u, hu⟩, hf⟩:=h0
  simp only [Nat.add_zero] at hu hf
  have hst : (store (ad.add i) v).run P w = .ok () (w.setCell (ad.add i) v):=by
   rw [run_store P w _ v _ (h1 v (by simp)), hu]
   simp [hf]
  simp only [storeCells, Sem.run_bind, hst, Result.andThen_ok, setCells]
  exact Ya4 l (i + 1) _ ad (fun x hx => h1 x (by simp [hx])) (fun j hj => canW_setCell (by
   have:=h2 (j + 1) (by simp; omega)
   rwa [show i + (j + 1) = i + 1 + j by omega] at this))
theorem vcStore_o {t : TypeId} {ad : Addr} {v : Value} {w : World} {K : World -> Prop} (h : vcStore P t ad v w K) :
  ∃ w', (storeVar t ad v).run P w = .ok () w' /\ K w':=by
 unfold vcStore at h
 split at h
 ·exact h.elim
 ·rename_i i hi
  split at h
  ·cases hb : Nat.beq i.size 1 with
   | false => simp [hb] at h
   | true =>
    simp only [hb, cond_true] at h
    obtain ⟨ho, hc, hk⟩:=condT_o h
    have hv : v.cells = #[v]:=by cases v <;> first | rfl | (simp [Value.oneCell'] at ho)
    have h1 : i.size = 1:=Nat.eq_of_beq_eq_true hb
    refine ⟨_, ?_, hk⟩
    have:=Ya4 (P:=P) [v] 0 w ad (by simpa using ho) (by intro j hj; simp at hj; subst hj; simpa [add_zero'] using hc)
    simp only [setCells, add_zero'] at this
    simp [storeVar, sizeOf, typeInfo, hi, hv, h1, this]
  ·split at h
   ·rename_i cs
    obtain ⟨h1, h2, h3, h4⟩:=h
    refine ⟨_, ?_, h4⟩
    have:=Ya4 (P:=P) cs.toList 0 w ad h2 (by intro j hj; rw [Nat.zero_add]; exact h3 j (by simpa [h1] using hj))
    simp [storeVar, sizeOf, typeInfo, hi, Value.cells, h1, this]
   ·cases hb : Nat.beq i.size 1 with
    | false => simp [hb] at h
    | true =>
     simp only [hb, cond_true] at h
     obtain ⟨ho, hc, hk⟩:=condT_o h
     have hv : v.cells = #[v]:=by cases v <;> first | rfl | (simp [Value.oneCell'] at ho)
     have h1 : i.size = 1:=Nat.eq_of_beq_eq_true hb
     refine ⟨_, ?_, hk⟩
     have:=Ya4 (P:=P) [v] 0 w ad (by simpa using ho) (by intro j hj; simp at hj; subst hj; simpa [add_zero'] using hc)
     simp only [setCells, add_zero'] at this
     simp [storeVar, sizeOf, typeInfo, hi, hv, h1, this]
theorem Yd8 (l : List Value) : ∀ (k i : Nat), i < k * l.length -> (replicate k l).flatten[i]? = l[i % l.length]?
 | 0, i, h => by simp at h
 | k + 1, i, h => by
  rw [replicate_succ, flatten_cons]
  by_cases hi : i < l.length
  ·rw [getElem?_append_left hi, Nat.mod_eq_of_lt hi]
  ·rw [getElem?_append_right (by omega), Yd8 l k (i - l.length) (by rw [Nat.succ_mul] at h; omega)]
   congr 1
   rw [<- Nat.mod_eq_sub_mod (by omega)]
theorem zrow_eq (z : Array Value) (k : Nat) : (Array.range (k * z.size)).map (z[· % z.size]!) = (replicate k z.toList).flatten.toArray:=by
 apply Array.ext'
 apply ext_getElem?
 intro i
 by_cases hi : i < k * z.size
 ·have h0 : 0 < z.size:=by
   rcases Nat.eq_zero_or_pos z.size with h | h
   ·rw [h] at hi; omega
   ·exact h
  have hm : i % z.size < z.size:=Nat.mod_lt _ h0
  rw [Yd8 z.toList k i (by simpa using hi)]
  simp [hi, hm]
 ·have e1 : (replicate k z.toList).flatten.length = k * z.size:=by simp
  rw [getElem?_eq_none (by simp; omega), getElem?_eq_none (by rw [e1]; omega)]
theorem zeroC_of {t : TypeId} {i : TypeInfo} {z : Value} (hi : P.info? t = some i) (hz : i.zero = some z) : Zy2 P t = z.cells:=by
 simp [Zy2, hi, hz]
theorem vcEff_o (hs : Sim n fr a) {o : Oper} {w : World} {K : Value -> World -> Prop} {next : Act -> World -> Prop} {Q : Exit -> Act -> World -> Prop}
  (h : vcEff P fr o w K) (hK : ∀ v w', K v w' -> next (a.put o.dst v) w') : o.wp P a w next Q:=by
 obtain ⟨dst, op, ty, pos, aft, gd⟩:=o
 unfold vcEff at h
 dsimp only at h
 split at h
 · -- store
  rename_i t x y
  split at h
  ·rename_i p v hx hy
   obtain ⟨ad, rfl, h⟩:=Ybz h
   obtain ⟨w', hr, hk⟩:=vcStore_o h
   exact wp_of_skip (w':=w') (by simp [execOp, hs.eval hx, hs.eval hy, Instr.storeAt, Instr.sureAddr, hr]) (hK _ _ hk)
  ·exact h.elim
 · -- alloc
  rename_i t
  cases hz : (P.info? t).bind (·.zero) with
  | none => simp [hz] at h
  | some z =>
   simp only [hz, Option.isSome_some, cond_true] at h
   cases hi : P.info? t with
   | none => simp [hi] at hz
   | some i =>
    have hz' : i.zero = some z:=by simpa [hi] using hz
    refine Zx1 (v := .pointer (some ⟨w.heap.size, 0, none⟩)) (w':=w.alloc (.cells z.cells t)) ?_ (hK _ _ ?_)
    ·simp [execOp, Instr.alloc, zeroValue, typeInfo, hi, hz', newVar, newRow]
    ·have:=h; rw [zeroC_of hi hz'] at this; exact this
 · -- box
  rename_i t x
  split at h
  ·rename_i v hx
   refine Zx1 (v := .pointer (some ⟨w.heap.size, 0, none⟩)) (w':=w.alloc (.cells v.cells t)) ?_ (hK _ _ h)
   simp [execOp, hs.eval hx, Instr.box, newVar, newRow]
  ·exact h.elim
 · -- buildSlice
  rename_i t len parts
  split at h
  ·rename_i e vs hu he
   split at h
   ·rename_i j hj
    split at h
    ·rename_i z hz
     cases hb : (Nat.ble (len * j.size) 16777216 && Nat.beq z.cells.size j.size) with
     | false => simp [hb] at h
     | true =>
      simp only [hb, cond_true] at h
      simp only [Bool.and_eq_true] at hb
      have h1 : len * j.size <= 16777216:=Nat.le_of_ble_eq_true hb.1
      have h2 : z.cells.size = j.size:=Nat.eq_of_beq_eq_true hb.2
      obtain ⟨l', g1, g2, g3⟩:=spC_o (by simp [h2]) h
      rw [<- zrow_eq, h2] at g2
      refine Zx1 (v := .slice (some ⟨w.heap.size, 0, none⟩) len len) (w':=w.alloc (.cells ⟨l'⟩ e)) ?_ (hK _ _ g3)
      have hp2 : (parts.map fun (i, x) => (i, a.eval x)) = vs.toArray:=by
       apply Array.ext'; simpa using YfK hs he
      have hn : ¬ (len * j.size > 2 ^ 24):=by omega
      by_cases h0 : len * j.size = 0
      ·rw [h0] at g2
       have g2' : Instr.fill (fun i => some (i * j.size, j.size)) #[] vs = some l'.toArray:=by simpa [Array.range_zero'] using g2
       simp [execOp, hp2, Instr.buildSlice, Zza hu, sizeOf, typeInfo, hj, h0, Array.range_zero', g2', newRow]
      ·simp only [execOp, hp2, Instr.buildSlice, Zza hu, sizeOf, typeInfo, hj, hn, h0, if_false, Sem.run_bind, run_program, Result.andThen_ok, Sem.run_pure, zeroValue, hz]
       simp [h2, g2, newRow]
    ·exact h.elim
   ·exact h.elim
  ·exact h.elim
 · -- makeSlice
  rename_i t x y
  split at h
  ·rename_i e kl l kc c hu hx hy
   split at h
   ·rename_i j hj
    cases hz : j.zero with
    | none => simp [hz] at h
    | some z =>
     simp only [hz, Option.isSome_some, cond_true] at h
     obtain ⟨h1, h2, h3, h4, h5⟩:=h
     rw [zeroC_of hj hz] at h5
     have hr:=run_make (P:=P) w t e j z hu hj hz kl kc l c h1 h2 h3 h4
     exact Zx1 (by simp [execOp, hs.eval hx, hs.eval hy, hr]) (hK _ _ h5)
   ·exact h.elim
  ·exact h.elim
 · -- convert
  rename_i s d x
  split at h
  ·rename_i v hu hx
   obtain ⟨p, l, c, w', hr, hk⟩:=h
   exact Zx1 (w':=w') (by simp [execOp, hs.eval hx, hr]) (hK _ _ hk)
  ·rename_i v hu hx
   obtain ⟨s', w', hr, hk⟩:=h
   exact Zx1 (w':=w') (by simp [execOp, hs.eval hx, hr]) (hK _ _ hk)
  ·exact h.elim
 · -- range
  rename_i t x
  split at h
  ·rename_i s hu hx
   refine Zx1 (v := .pointer (some ⟨w.heap.size, 0, none⟩)) (w':=w.alloc (.stringIter s 0)) ?_ (hK _ _ h)
   simp [execOp, hs.eval hx, Instr.range, Zza hu]
  ·exact h.elim
 · -- next
  rename_i x isStr
  split at h
  ·rename_i p hx
   obtain ⟨ad, rfl, hn⟩:=Ybz h
   clear h
   cases hb : (Nat.beq ad.off 0 && isStr) with
   | false => rw [hb] at hn; exact hn.elim
   | true =>
    rw [hb] at hn
    simp only [Bool.and_eq_true] at hb
    obtain ⟨hb1, rfl⟩:=hb
    have hoff : ad.off = 0:=Nat.eq_of_beq_eq_true hb1
    obtain ⟨s, pos, hh, h1, h2⟩:=hn
    obtain ⟨bk, off, sp⟩:=ad
    simp only at hoff hh h1 h2
    subst hoff
    have hlt : bk < w.heap.size:=by
     rcases Nat.lt_or_ge bk w.heap.size with h | h
     ·exact h
     ·simp [Array.getElem?_eq_none h] at hh
    by_cases hp : pos < s.size
    ·refine Zx1 (v := .tuple #[.bool true, .int .i64 pos, .int .i32 (Utf8.decode s pos).1]) (w':=setBlk w bk (.stringIter s (pos + (Utf8.decode s pos).2))) ?_ (hK _ _ (h1 hp))
     simp [execOp, hs.eval hx, Instr.next, getObj, setObj, Sem.run, hh, hp, goInt, setBlk]
    ·refine Zx1 (v := .tuple #[.bool false]) (w':=w) ?_ (hK _ _ (h2 hp))
     simp [execOp, hs.eval hx, Instr.next, getObj, Sem.run, hh, hp]
  ·exact h.elim
 · -- call
  rename_i f args ats
  split at h
  ·rename_i fv vs hf hv
   unfold callVal at h
   split at h
   rotate_left
   ·exact h.elim
   rename_i g first captured
   have hargs : args.map a.eval = vs.toArray:=by apply Array.ext'; simpa using hs.evals hv
   have hap : first ++ vs.toArray ++ captured = (first.toList ++ vs ++ captured.toList).toArray:=by apply Array.ext'; simp
   cases hp : plainFn P g with
   | false =>
    simp only [hp, cond_false] at h
    obtain ⟨v, w', hr, hJ⟩:=h
    obtain ⟨us, he, hk⟩:=JT.ex_lam hJ
    subst he
    refine Zx1 (w':=w') ?_ (hK _ _ hk)
    have : (execOp a.eval ⟨dst, .call { callee := .value f, args:=args, argTypes:=ats }, ty, pos, aft, gd⟩).run P w = (callFunc g (first.toList ++ vs ++ captured.toList).toArray).run P w:=by
     simp only [execOp, resolve, hs.eval hf, hargs, Deferred.ofValue, invoke, Sem.run_bind, Sem.run_pure, Result.andThen_ok, hap]
    rw [this]; exact hr
   | true =>
    simp only [hp, cond_true] at h
    unfold plainFn at hp
    split at hp
    ·rename_i fn hfn
     simp only [Bool.and_eq_true, Bool.not_eq_true'] at hp
     have hbody : fn.body.isNone = false:=by cases hb : fn.body <;> simp_all
     have hargs : args.map a.eval = vs.toArray:=by apply Array.ext'; simpa using hs.evals hv
     have hrun : (execOp a.eval ⟨dst, .call { callee := .value f, args:=args, argTypes:=ats }, ty, pos, aft, gd⟩).run P w =
       .ok (.enter g (first.toList ++ vs ++ captured.toList).toArray) w:=by
      have he : first ++ vs.toArray ++ captured = (first.toList ++ vs ++ captured.toList).toArray:=by apply Array.ext'; simp
      simp only [execOp, resolve, hs.eval hf, hargs, Deferred.ofValue, invoke, callFunc, Sem.run_bind, Sem.run_pure, Result.andThen_ok, run_program, hfn, hp.1, Bool.false_eq_true, if_false, hbody, he]
     unfold Oper.wp
     rw [hrun]
     refine Calls.mono h fun e w' he => ?_
     obtain ⟨us, he, hr⟩:=JT.ex_lam he
     subst he
     exact hK _ _ hr
    ·simp at hp
  ·exact h.elim
 · -- append
  rename_i args ats
  split at h
  ·rename_i x y t1 t2 e1 e2
   split at h
   ·rename_i s v hx hy
    obtain ⟨p, l, c, w', hr, hk⟩:=h
    have e1' : args = #[x, y]:=by apply Array.ext'; simpa using e1
    have e2' : ats = #[t1, t2]:=by apply Array.ext'; simpa using e2
    subst e1'; subst e2'
    exact Zx1 (w':=w') (by simp [execOp, resolve, invoke, builtin, hs.eval hx, hs.eval hy, hr]) (hK _ _ hk)
   ·exact h.elim
  ·exact h.elim
 · -- copy
  rename_i args ats
  split at h
  ·rename_i x y t1 t2 e1 e2
   split at h
   ·rename_i s v hx hy
    obtain ⟨k, w', hr, hk⟩:=h
    have e1' : args = #[x, y]:=by apply Array.ext'; simpa using e1
    have e2' : ats = #[t1, t2]:=by apply Array.ext'; simpa using e2
    subst e1'; subst e2'
    exact Zx1 (w':=w') (by simp [execOp, resolve, invoke, builtin, hs.eval hx, hs.eval hy, hr]) (hK _ _ hk)
   ·exact h.elim
  ·exact h.elim
 · -- clear
  rename_i args ats
  split at h
  ·rename_i x t1 e1 e2
   split at h
   ·rename_i s hx
    obtain ⟨w', hr, hk⟩:=h
    have e1' : args = #[x]:=by apply Array.ext'; simpa using e1
    have e2' : ats = #[t1]:=by apply Array.ext'; simpa using e2
    subst e1'; subst e2'
    exact Zx1 (w':=w') (by simp [execOp, resolve, invoke, builtin, hs.eval hx, hr]) (hK _ _ hk)
   ·exact h.elim
  ·exact h.elim
 ·exact h.elim
end sound
end Go.Vc
namespace Go.Vc
open Go Go.RowKit
def vcG (all : Array Oper) (o : Oper) (fr : Fr) (K : Fr -> Bool -> Prop) : Prop :=
 match o.guard with
 | none => K fr true
 | some (j, want) => match (all[j]?).bind (·.dst) with
  | none => False
  | some d => match fr d with
   | some (.bool g) => Zz1 g (K (fr.set d (some (.bool true))) want) (K (fr.set d (some (.bool false))) (!want))
   | some (.tuple _) => K fr false
   | _ => False
theorem vcG_o {n : Nat} {fr : Fr} {a : Act} (hs : Sim n fr a) {all : Array Oper} {o : Oper} {K : Fr -> Bool -> Prop} (h : vcG all o fr K) :
  ∃ fr' r, Sim n fr' a /\ K fr' r /\ Region.wanted o (yielded all a.tmps) = r:=by
 unfold vcG at h
 split at h
 ·rename_i hg; exact ⟨fr, true, hs, h, by simp [Region.wanted, hg]⟩
 ·rename_i j want hg
  split at h
  ·exact h.elim
  ·rename_i d hd
   split at h
   ·rename_i g hfr
    have hy : yielded all a.tmps j = some g:=by simp [yielded, hd, hs.val d _ hfr]
    have h':=condB_o h
    clear h
    rcases h' with ⟨rfl, h⟩ | ⟨rfl, h⟩
    ·exact ⟨_, want, hs.know hfr, h, by simp only [Region.wanted, hg, hy]; cases want <;> rfl⟩
    ·exact ⟨_, !want, hs.know hfr, h, by simp only [Region.wanted, hg, hy]; cases want <;> rfl⟩
   ·rename_i vs hfr
    have hy : yielded all a.tmps j = none:=by simp [yielded, hd, hs.val d _ hfr]
    exact ⟨fr, false, hs, h, by simp only [Region.wanted, hg, hy]; rfl⟩
   ·exact h.elim
def isEff (P : Program) (o : Oper) : Bool :=
 match o.op with
 | .store .. | .alloc .. | .box .. | .buildSlice .. | .makeSlice .. | .range .. | .next .. => true
 | .call { callee := .value _, .. } | .call { callee := .builtin .append, .. } | .call { callee := .builtin .copy, .. } | .call { callee := .builtin .clear, .. } => true
 | .convert s d _ => (match P.underlying d, P.underlying s with
  | some (.slice _), _ => true
  | some .string, some (.int _) => true
  | some .string, some (.slice _) => !Yfb P s
  | _, _ => false)
 | _ => false
def vcOp1 (P : Program) (n : Nat) (all : Array Oper) (o : Oper) (fr : Fr) (w : World) (K : Fr -> World -> Prop) : Prop :=
 vcG all o fr fun fr' run => bif run then
   (bif isEff P o then vcEff P fr' o w fun v w' => K (fr'.put n o.dst v) w' else vcRead P fr' o w fun v _ => K (fr'.put n o.dst v) w)
  else K (fr'.put n o.dst undef) w
def vcOps (P : Program) (n : Nat) (all : Array Oper) : List Oper -> Fr -> World -> (Fr -> World -> Prop) -> Prop
 | [], fr, w, K => K fr w
 | o :: r, fr, w, K => vcOp1 P n all o fr w fun fr' w' => vcOps P n all r fr' w' K
def YdQ (L : List Nat) (a a' : Act) : Prop := ∀ t, t ∉ L -> a'.tmps[t]? = a.tmps[t]?
theorem YdQ.refl (L : List Nat) (a : Act) : YdQ L a a:=fun _ _ => rfl
theorem YdQ.trans {L : List Nat} {a b c : Act} (h : YdQ L a b) (k : YdQ L b c) : YdQ L a c:=fun t ht => (k t ht).trans (h t ht)
theorem YdQ.mono {L L' : List Nat} {a b : Act} (h : YdQ L a b) (hl : ∀ t, t ∈ L -> t ∈ L') : YdQ L' a b:=fun t ht => h t (fun hc => ht (hl t hc))
theorem YdQ.put {a : Act} {dst : Option Tmp} {v : Value} {L : List Nat} (h : ∀ d, dst = some d -> d ∈ L) : YdQ L a (a.put dst v):=by
 intro t ht
 cases dst with
 | none => rfl
 | some d =>
  have : d ≠ t:=fun e => ht (e ▸ h d rfl)
  simp [Act.put, Array.getElem?_setIfInBounds_ne this]
def wrOps (l : List Oper) : List Nat:=l.filterMap (·.dst)
theorem mem_wrOps {l : List Oper} {o : Oper} {d : Nat} (ho : o ∈ l) (hd : o.dst = some d) : d ∈ wrOps l:=mem_filterMap.2 ⟨o, ho, hd⟩
theorem vcOps_o {P : Program} {n : Nat} {all : Array Oper} {Q : Exit -> Act -> World -> Prop} {L : List Nat} {K : Fr -> World -> Prop} :
  ∀ {l : List Oper} {fr : Fr} {a : Act} {w : World}, Sim n fr a -> (∀ o ∈ l, ∀ d, o.dst = some d -> d ∈ L) -> vcOps P n all l fr w K ->
   (∀ fr' a' w', Sim n fr' a' -> YdQ L a a' -> K fr' w' -> Q .normal a' w') -> wpList P all Q l a w
 | [], fr, a, w, hs, _, h, hQ => hQ fr a w hs (YdQ.refl L a) h
 | o :: r, fr, a, w, hs, hL, h, hQ => by
  simp only [vcOps, vcOp1] at h
  obtain ⟨fr', run, hs', hk, hw⟩:=vcG_o hs h
  have hput : ∀ v, YdQ L a (a.put o.dst v):=fun v => YdQ.put (hL o (by simp))
  have rest : ∀ v w', vcOps P n all r (fr'.put n o.dst v) w' K -> wpList P all Q r (a.put o.dst v) w':=fun v w' hr =>
   vcOps_o (hs'.put o.dst v) (fun o' ho' => hL o' (by simp [ho'])) hr (fun fr2 a2 w2 h1 h2 h3 => hQ fr2 a2 w2 h1 ((hput v).trans h2) h3)
  refine wpList_step fun K' hK' => ?_
  rw [hw]
  cases run with
  | false => exact hK' _ _ (rest undef w hk)
  | true =>
   simp only [cond_true] at hk
   simp only [if_true]
   cases he : isEff P o with
   | true =>
    simp only [he, cond_true] at hk
    exact vcEff_o hs' hk (fun v w' hv => hK' _ _ (rest v w' hv))
   | false =>
    simp only [he, cond_false] at hk
    obtain ⟨v, S, hv, hS, _, hrun⟩:=vcRead_o hs' hk
    exact Zx1 (hrun w hS) (hK' _ _ (rest v w hv))
def befL : List Oper -> List Nat -> List Nat
 | [], acc => acc
 | o :: r, acc => befL r (acc ++ [o.after.toList.foldl (fun s e => bif Region.binds .any e then s ||| 2 ^ e.on ||| acc.getD e.on 0 else s) 0])
def dep (ops : Array Oper) (j i : Nat) : Bool:=((befL ops.toList []).getD j 0).testBit i
theorem foldl_bits (acc : List Nat) (i : Nat) : ∀ (es : List Edge) (s : Nat),
  (es.foldl (fun s e => bif Region.binds .any e then s ||| 2 ^ e.on ||| acc.getD e.on 0 else s) s).testBit i = true ->
  s.testBit i = true \/ ∃ e ∈ es, Region.binds .any e = true /\ (e.on = i \/ (acc.getD e.on 0).testBit i = true)
 | [], s, h => .inl h
 | e :: es, s, h => by
  simp only [foldl_cons] at h
  rcases foldl_bits acc i es _ h with h1 | ⟨e', he', hb, hx⟩
  ·cases hb : Region.binds .any e with
   | false => simp only [hb, cond_false] at h1; exact .inl h1
   | true =>
    simp only [hb, cond_true, Nat.testBit_or, Bool.or_eq_true, Nat.testBit_two_pow, decide_eq_true_eq] at h1
    rcases h1 with (h1 | h1) | h1
    ·exact .inl h1
    ·exact .inr ⟨e, by simp, hb, .inl h1⟩
    ·exact .inr ⟨e, by simp, hb, .inr h1⟩
  ·exact .inr ⟨e', by simp [he'], hb, hx⟩
def Ways (ops : List Oper) (acc : List Nat) : Prop :=
 ∀ j i, (acc.getD j 0).testBit i = true -> ∃ o, ops[j]? = some o /\ ∃ e ∈ o.after.toList, Region.binds .any e = true /\ (e.on = i \/ (e.on < j /\ (acc.getD e.on 0).testBit i = true))
theorem Yi1 (ops : List Oper) : ∀ (l pre : List Oper) (acc : List Nat), ops = pre ++ l -> acc.length = pre.length -> Ways ops acc -> Ways ops (befL l acc)
 | [], _, _, _, _, h => h
 | o :: r, pre, acc, h1, h2, h3 => by
  refine Yi1 ops r (pre ++ [o]) _ (by simp [h1]) (by simp [h2]) ?_
  intro j i hb
  by_cases hj : j < acc.length
  ·have e1 : ∀ x, (acc ++ [x]).getD j 0 = acc.getD j 0:=fun x => by simp [getElem?_append_left hj]
   rw [e1] at hb
   obtain ⟨o', ho', e, he, hbd, hx⟩:=h3 j i hb
   refine ⟨o', ho', e, he, hbd, hx.imp id fun ⟨hlt, ht⟩ => ⟨hlt, ?_⟩⟩
   have : e.on < acc.length:=by omega
   simpa [getElem?_append_left this] using ht
  ·by_cases hj2 : j = acc.length
   ·subst hj2
    have e1 : ∀ x : Nat, (acc ++ [x]).getD acc.length 0 = x:=fun x => by simp
    rw [e1] at hb
    rcases foldl_bits acc i _ _ hb with h0 | ⟨e, he, hbd, hx⟩
    ·simp at h0
    ·refine ⟨o, by simp [h1, h2], e, he, hbd, ?_⟩
     rcases hx with hx | hx
     ·exact .inl hx
     ·have hlt : e.on < acc.length:=by
       rcases Nat.lt_or_ge e.on acc.length with h | h
       ·exact h
       ·simp [getElem?_eq_none h] at hx
      exact .inr ⟨hlt, by simpa [getElem?_append_left hlt] using hx⟩
   ·exfalso
    have : (acc ++ [o.after.toList.foldl (fun s e => bif Region.binds .any e then s ||| 2 ^ e.on ||| acc.getD e.on 0 else s) 0]).length <= j:=by simp; omega
    rw [getD_eq_getElem?_getD, getElem?_eq_none this] at hb
    simp at hb
def Ye0 (ops : Array Oper) (listed : Array Bool) : Prop :=
 ∀ j o, ops[j]? = some o -> listed.getD j true = true -> ∀ e ∈ o.after, Region.binds .any e = true -> listed.getD e.on false = true
theorem Ye0.start (ops : Array Oper) : Ye0 ops (Array.replicate ops.size false):=by
 intro j o ho h
 have hlt : j < ops.size:=(Array.getElem?_eq_some_iff.1 ho).1
 simp [hlt] at h
theorem Ye0.step {ops : Array Oper} {listed : Array Bool} (h : Ye0 ops listed) {i : Nat} (hi : i ∈ Region.ready .any ops listed) : Ye0 ops (listed.setIfInBounds i true):=by
 intro j o ho hj e he hb
 by_cases hij : i = j
 ·subst hij
  obtain ⟨_, o', ho', hall⟩:=mem_ready.1 hi
  rw [ho] at ho'
  have : o = o':=by simpa using ho'
  subst this
  exact getD_set_true (hall e he hb)
 ·rw [getD_set_ne true hij] at hj
  exact getD_set_true (h j o ho hj e he hb)
theorem Ye0.dep {ops : Array Oper} {listed : Array Bool} (hsz : listed.size = ops.size) (h : Ye0 ops listed) {i : Nat} (hi : listed.getD i true = false) :
  ∀ j, listed.getD j true = true -> j < ops.size -> ((befL ops.toList []).getD j 0).testBit i = true -> False:=by
 have hw : Ways ops.toList (befL ops.toList []):=Yi1 ops.toList ops.toList [] [] rfl rfl (by intro j i hb; simp at hb)
 intro j
 induction j using Nat.strongRecOn with
 | _ j ih =>
  intro hj hlt hb
  obtain ⟨o, ho, e, he, hbd, hx⟩:=hw j i hb
  have ho' : ops[j]? = some o:=by simpa using ho
  have hl:=h j o ho' hj e (by simpa using he) hbd
  rcases hx with hx | ⟨hlt2, hb2⟩
  ·subst hx
   have : e.on < listed.size:=by
    rcases Nat.lt_or_ge e.on listed.size with h | h
    ·exact h
    ·simp [Array.getElem?_eq_none h] at hl
   simp [this] at hl hi
   rw [hl] at hi
   cases hi
  ·have hl2 : listed.getD e.on true = true:=by
    have : e.on < listed.size:=by omega
    simp [this] at hl ⊢
    exact hl
   exact ih e.on hlt2 hl2 (by omega) hb2
theorem ready_dep {ops : Array Oper} {listed : Array Bool} (hsz : listed.size = ops.size) (h : Ye0 ops listed) {i j : Nat} (hi : listed.getD i true = false) (hj : j ∈ Region.ready .any ops listed) :
  dep ops j i = false:=by
 cases hd : dep ops j i with
 | false => rfl
 | true =>
  exfalso
  have hw : Ways ops.toList (befL ops.toList []):=Yi1 ops.toList ops.toList [] [] rfl rfl (by intro j i hb; simp at hb)
  obtain ⟨o, ho, e, he, hbd, hx⟩:=hw j i hd
  obtain ⟨_, o', ho', hall⟩:=mem_ready.1 hj
  have : o = o':=by
   have : ops[j]? = some o:=by simpa using ho
   rw [this] at ho'; simpa using ho'
  subst this
  have hl:=hall e (by simpa using he) hbd
  have hlt : e.on < listed.size:=by
   rcases Nat.lt_or_ge e.on listed.size with h | h
   ·exact h
   ·simp [Array.getElem?_eq_none h] at hl
  have hl2 : listed.getD e.on true = true:=by simp [hlt] at hl ⊢; exact hl
  rcases hx with hx | ⟨_, hb2⟩
  ·subst hx; rw [hl2] at hi; cases hi
  ·exact Ye0.dep hsz h hi e.on hl2 (by omega) hb2
abbrev Held:=List (Nat × (World -> Prop))
def YdU (P : Program) (ops : Array Oper) (Q : Exit -> Act -> World -> Prop) (Γ : Held) : Nat -> Array Bool -> Act -> World -> Prop
 | 0, listed, a, w => Region.ready .any ops listed = [] /\ Q .normal a w
 | fuel + 1, listed, a, w =>
  (Region.ready .any ops listed = [] -> Q .normal a w) /\
  ∀ i ∈ Region.ready .any ops listed, wpOp P ops Q i (fun a' w' => (∀ p ∈ Γ, dep ops i p.1 = false -> p.2 w -> p.2 w') /\ YdU P ops Q Γ fuel (listed.setIfInBounds i true) a' w') a w
section
variable {P : Program} {ops : Array Oper} {Q : Exit -> Act -> World -> Prop}
theorem wpAny_of_G {Γ : Held} : ∀ (fuel : Nat) (listed : Array Bool) (a : Act) (w : World), YdU P ops Q Γ fuel listed a w -> wpAny P .any ops Q fuel listed a w
 | 0, _, _, _, h => h
 | fuel + 1, _, _, _, h => ⟨h.1, fun i hi => wpOp_mono (fun a' w' h' => wpAny_of_G fuel _ a' w' h'.2) (h.2 i hi)⟩
theorem Yh3 {Γ : Held} {p : Nat × (World -> Prop)} : ∀ (fuel : Nat) (listed : Array Bool) (a : Act) (w : World), YdU P ops Q (p :: Γ) fuel listed a w -> YdU P ops Q Γ fuel listed a w
 | 0, _, _, _, h => h
 | fuel + 1, _, _, _, h => ⟨h.1, fun i hi => wpOp_mono (fun a' w' h' => ⟨fun q hq => h'.1 q (by simp [hq]), Yh3 fuel _ a' w' h'.2⟩) (h.2 i hi)⟩
theorem Ye9 {Γ : Held} {i : Nat} {S : World -> Prop} (hS : ∀ w, S w) : ∀ {fuel : Nat} {listed : Array Bool} {a : Act} {w : World}, YdU P ops Q Γ fuel listed a w -> YdU P ops Q ((i, S) :: Γ) fuel listed a w
 | 0, _, _, _, h => h
 | fuel + 1, _, _, _, h => ⟨h.1, fun j hj => wpOp_mono (fun a' w' h' => ⟨fun q hq hd => by
   rcases mem_cons.1 hq with rfl | hq
   ·exact fun _ => hS w'
   ·exact h'.1 q hq hd, Ye9 hS h'.2⟩) (h.2 j hj)⟩
theorem Ygp {i : Nat} {oi : Oper} {v : Value} {S : World -> Prop} {Γ : Held} (hi : ops[i]? = some oi) (hsel : ∀ (j : Nat) (o : Oper) cs b, ops[j]? = some o -> o.op ≠ .select cs b)
  (hQ : ∀ c a w, Q (.panic c) (a.put oi.dst v) w -> Q (.panic c) a w) :
  ∀ (fuel : Nat) (listed : Array Bool) (a : Act) (w : World), listed.size = ops.size -> Ye0 ops listed ->
   (∀ j oj, ops[j]? = some oj -> j ≠ i -> listed.getD j true = false -> (∀ e ∈ oj.after, Region.binds .any e = true -> e.on ≠ i) -> oi.apart ops oj = true) ->
   i ∈ Region.ready .any ops listed -> YieldsIf P ops S oi v a -> S w ->
   YdU P ops Q ((i, S) :: Γ) fuel (listed.setIfInBounds i true) (a.put oi.dst v) w -> YdU P ops Q Γ (fuel + 1) listed a w:=by
 intro fuel
 induction fuel with
 | zero =>
  intro listed a w hsz hcl _ hr hy hS H
  refine ⟨fun h => (by rw [h] at hr; cases hr), fun j hj => ?_⟩
  by_cases hji : j = i
  ·subst hji; exact hy.wpOp hi hS ⟨fun _ _ _ h => h, H⟩
  ·have:=ready_mono hj hji
   rw [H.1] at this
   cases this
 | succ fuel ih =>
  intro listed a w hsz hcl hfree hr hy hS H
  refine ⟨fun h => (by rw [h] at hr; cases hr), fun j hj => ?_⟩
  by_cases hji : j = i
  ·subst hji; exact hy.wpOp hi hS ⟨fun _ _ _ h => h, Yh3 _ _ _ _ H⟩
  ·have h1:=H.2 j (ready_mono hj hji)
   obtain ⟨hjun, oj, hoj, hall⟩:=mem_ready.1 hj
   have hdep:=ready_dep hsz hcl (mem_ready.1 hr).1 hj
   have hnot : ∀ e ∈ oj.after, Region.binds .any e = true -> e.on ≠ i:=fun e he hb heq => by
    have h1:=hall e he hb
    have h0:=(mem_ready.1 hr).1
    rw [heq] at h1
    rcases Nat.lt_or_ge i listed.size with h' | h'
    ·simp [h'] at h0 h1; rw [h0] at h1; cases h1
    ·simp [Array.getElem?_eq_none h'] at h1
   have h2:=wpOp_putIf hoj (hfree j oj hoj hji hjun hnot) (fun cs b => hsel i oi cs b hi) (fun cs b => hsel j oj cs b hoj) hQ hy h1
   have hfree' : ∀ k ok, ops[k]? = some ok -> k ≠ i -> (listed.setIfInBounds j true).getD k true = false ->
     (∀ e ∈ ok.after, Region.binds .any e = true -> e.on ≠ i) -> oi.apart ops ok = true:=fun k ok hk hki hun hno => by
    refine hfree k ok hk hki ?_ hno
    by_cases hjk : j = k
    ·subst hjk; exact hjun
    ·rw [getD_set_ne true hjk] at hun; exact hun
   refine wpOp_mono (fun a' w' h3 => ⟨fun p hp => h3.2.1 p (by simp [hp]), ih (listed.setIfInBounds j true) a' w' (by simp [hsz]) (hcl.step hj) hfree' (ready_mono hr (Ne.symm hji)) h3.1
    (h3.2.1 (i, S) (by simp) hdep hS) ?_⟩) h2
   rw [Array.setIfInBounds_comm _ _ hji]
   exact h3.2.2
end
inductive DA where
 | done | take (i : Nat) (k : DA) | eff (i : Nat) (k alt : DA) | none
def DA.idx : DA -> List Nat
 | .eff i _ alt => i :: alt.idx
 | _ => []
def oblC (ops : Array Oper) (i : Nat) (w' : World) (X : Prop) : Held -> Prop
 | [] => X
 | (k, S) :: r => bif dep ops i k then oblC ops i w' X r else S w' /\ oblC ops i w' X r
theorem oblC_o {ops : Array Oper} {i : Nat} {w w' : World} {X : Prop} : ∀ {Γ : Held}, oblC ops i w' X Γ -> (∀ p ∈ Γ, dep ops i p.1 = false -> p.2 w -> p.2 w') /\ X
 | [], h => ⟨by simp, h⟩
 | (k, S) :: r, h => by
  unfold oblC at h
  cases hd : dep ops i k with
  | true =>
   simp only [hd, cond_true] at h
   obtain ⟨h1, h2⟩:=oblC_o (w:=w) h
   refine ⟨fun p hp hf => ?_, h2⟩
   rcases mem_cons.1 hp with rfl | hp
   ·rw [hd] at hf; cases hf
   ·exact h1 p hp hf
  | false =>
   simp only [hd, cond_false] at h
   obtain ⟨h1, h2⟩:=oblC_o (w:=w) h.2
   refine ⟨fun p hp hf => ?_, h2⟩
   rcases mem_cons.1 hp with rfl | hp
   ·exact fun _ => h.1
   ·exact h1 p hp hf
def andAlt (alt : DA) (X Y : Prop) : Prop:=match alt with | .none => X | _ => X /\ Y
def vcDA (P : Program) (n : Nat) (ops : Array Oper) : Bool -> DA -> Nat -> Array Bool -> Held -> Fr -> World -> (Fr -> World -> Prop) -> Prop
 | _, .done, _, listed, _, fr, w, K => bif (Region.ready .any ops listed).isEmpty then K fr w else False
 | _, .take i k, fuel + 1, listed, Γ, fr, w, K => (match ops[i]? with
  | none => False
  | some o => bif Region.free .any ops listed i && (Region.ready .any ops listed).contains i && !isEff P o then
    vcG ops o fr fun fr' run => bif run then
      vcRead P fr' o w fun v S => vcDA P n ops true k fuel (listed.setIfInBounds i true) (bif isLd P o then (i, S) :: Γ else Γ) (fr'.put n o.dst v) w K
     else vcDA P n ops true k fuel (listed.setIfInBounds i true) Γ (fr'.put n o.dst undef) w K
   else False)
 | chk, .eff i k alt, fuel + 1, listed, Γ, fr, w, K => (match ops[i]? with
  | none => False
  | some o => bif !chk || (i :: alt.idx) == Region.ready .any ops listed then
    andAlt alt (vcG ops o fr fun fr' run => bif run then
      (bif isEff P o then vcEff P fr' o w fun v w' => oblC ops i w' (vcDA P n ops true k fuel (listed.setIfInBounds i true) Γ (fr'.put n o.dst v) w' K) Γ
       else vcRead P fr' o w fun v _ => vcDA P n ops true k fuel (listed.setIfInBounds i true) Γ (fr'.put n o.dst v) w K)
     else vcDA P n ops true k fuel (listed.setIfInBounds i true) Γ (fr'.put n o.dst undef) w K)
     (vcDA P n ops false alt (fuel + 1) listed Γ fr w K)
   else False)
 | false, .none, _, _, _, _, _, _ => True
 | _, _, _, _, _, _, _, _ => False
theorem vcDA_o {P : Program} {n : Nat} {ops : Array Oper} {Q : Exit -> Act -> World -> Prop} {K : Fr -> World -> Prop} (hns : Region.noSelect ops = true)
  (hP : ∀ c a w, Q (.panic c) a w -> False) {L : List Nat} {a0 : Act} (hL : ∀ o ∈ ops.toList, ∀ d, o.dst = some d -> d ∈ L)
  (hQ : ∀ fr' a' w', Sim n fr' a' -> YdQ L a0 a' -> K fr' w' -> Q .normal a' w') :
  ∀ (d : DA) (fuel : Nat) (listed : Array Bool) (Γ : Held) (fr : Fr) (a : Act) (w : World), listed.size = ops.size -> Ye0 ops listed -> Sim n fr a -> YdQ L a0 a ->
   (vcDA P n ops true d fuel listed Γ fr w K -> YdU P ops Q Γ fuel listed a w) /\
   (vcDA P n ops false d fuel listed Γ fr w K -> (∀ i ∈ d.idx, i ∈ Region.ready .any ops listed) -> ∀ fuel', fuel = fuel' + 1 ->
    ∀ i ∈ d.idx, wpOp P ops Q i (fun a' w' => (∀ p ∈ Γ, dep ops i p.1 = false -> p.2 w -> p.2 w') /\ YdU P ops Q Γ fuel' (listed.setIfInBounds i true) a' w') a w):=by
 intro d
 induction d with
 | done =>
  intro fuel listed Γ fr a w hsz hcl hs hk
  refine ⟨fun h => ?_, fun _ _ _ _ i hi => by simp [DA.idx] at hi⟩
  unfold vcDA at h
  cases hr : (Region.ready .any ops listed).isEmpty with
  | false => simp [hr] at h
  | true =>
   simp only [hr, cond_true] at h
   have hr' : Region.ready .any ops listed = []:=by simpa using hr
   have:=hQ fr a w hs hk h
   cases fuel with
   | zero => exact ⟨hr', this⟩
   | succ f => exact ⟨fun _ => this, by rw [hr']; simp⟩
 | none =>
  intro fuel listed Γ fr a w hsz hcl hs hk
  exact ⟨fun h => by unfold vcDA at h; exact h.elim, fun _ _ _ _ i hi => by simp [DA.idx] at hi⟩
 | take i k ih =>
  intro fuel listed Γ fr a w hsz hcl hs hk
  refine ⟨fun h => ?_, fun _ _ _ _ j hj => by simp [DA.idx] at hj⟩
  cases fuel with
  | zero => unfold vcDA at h; exact h.elim
  | succ fuel =>
   unfold vcDA at h
   split at h
   ·exact h.elim
   ·rename_i o ho
    cases hb : (Region.free .any ops listed i && (Region.ready .any ops listed).contains i && !isEff P o) with
    | false => rw [hb] at h; exact h.elim
    | true =>
     rw [hb] at h
     simp only [cond_true] at h
     simp only [Bool.and_eq_true] at hb
     obtain ⟨⟨hfree, hready⟩, _⟩:=hb
     have hmem : i ∈ Region.ready .any ops listed:=by simpa using hready
     obtain ⟨fr', run, hs', hk', hw⟩:=vcG_o hs h
     have keep : ∀ v, YdQ L a0 (a.put o.dst v):=fun v => hk.trans (YdQ.put (hL o (by
      have : ops[i]? = some o:=ho
      exact Array.mem_toList_iff.2 (Array.mem_of_getElem? this))))
     have cl':=hcl.step hmem
     cases run with
     | false =>
      simp only [cond_false] at hk'
      have H:=(ih fuel (listed.setIfInBounds i true) Γ (fr'.put n o.dst undef) (a.put o.dst undef) w (by simp [hsz]) cl' (hs'.put o.dst undef) (keep undef)).1 hk'
      have hy : YieldsIf P ops (fun _ => True) o undef a := .inr ⟨hw, rfl⟩
      refine Ygp ho (Region.noSelect_spec hns) (fun c a' w' hc => (hP c _ _ hc).elim) fuel listed a w hsz hcl (Region.free_spec ho hfree) hmem hy trivial ?_
      exact Ye9 (fun _ => trivial) H
     | true =>
      simp only [cond_true] at hk'
      obtain ⟨v, S, hv, hS, hSall, hrun⟩:=vcRead_o hs' hk'
      have hy : YieldsIf P ops S o v a := .inl ⟨hw, hrun⟩
      have H:=(ih fuel (listed.setIfInBounds i true) _ (fr'.put n o.dst v) (a.put o.dst v) w (by simp [hsz]) cl' (hs'.put o.dst v) (keep v)).1 hv
      refine Ygp ho (Region.noSelect_spec hns) (fun c a' w' hc => (hP c _ _ hc).elim) fuel listed a w hsz hcl (Region.free_spec ho hfree) hmem hy hS ?_
      cases hld : isLd P o with
      | true => simp only [hld, cond_true] at H; exact H
      | false =>
       simp only [hld, cond_false] at H
       exact Ye9 (hSall hld) H
 | eff i k alt ih1 ih2 =>
  intro fuel listed Γ fr a w hsz hcl hs hk
  -- the one operation
  have one : ∀ (fuel : Nat) (o : Oper), ops[i]? = some o -> i ∈ Region.ready .any ops listed ->
    vcG ops o fr (fun fr' run => bif run then
      (bif isEff P o then vcEff P fr' o w fun v w' => oblC ops i w' (vcDA P n ops true k fuel (listed.setIfInBounds i true) Γ (fr'.put n o.dst v) w' K) Γ
       else vcRead P fr' o w fun v _ => vcDA P n ops true k fuel (listed.setIfInBounds i true) Γ (fr'.put n o.dst v) w K)
     else vcDA P n ops true k fuel (listed.setIfInBounds i true) Γ (fr'.put n o.dst undef) w K) ->
    wpOp P ops Q i (fun a' w' => (∀ p ∈ Γ, dep ops i p.1 = false -> p.2 w -> p.2 w') /\ YdU P ops Q Γ fuel (listed.setIfInBounds i true) a' w') a w:=by
   intro fuel o ho hmem h
   obtain ⟨fr', run, hs', hk', hw⟩:=vcG_o hs h
   have keep : ∀ v, YdQ L a0 (a.put o.dst v):=fun v => hk.trans (YdQ.put (hL o (Array.mem_toList_iff.2 (Array.mem_of_getElem? ho))))
   have cl':=hcl.step hmem
   have go : ∀ v w', vcDA P n ops true k fuel (listed.setIfInBounds i true) Γ (fr'.put n o.dst v) w' K -> YdU P ops Q Γ fuel (listed.setIfInBounds i true) (a.put o.dst v) w':=fun v w' hv =>
    (ih1 fuel (listed.setIfInBounds i true) Γ (fr'.put n o.dst v) (a.put o.dst v) w' (by simp [hsz]) cl' (hs'.put o.dst v) (keep v)).1 hv
   unfold wpOp
   simp only [ho]
   rw [hw]
   cases run with
   | false => exact ⟨fun _ _ _ h => h, go undef w hk'⟩
   | true =>
    simp only [if_true]
    simp only [cond_true] at hk'
    cases he : isEff P o with
    | true =>
     simp only [he, cond_true] at hk'
     exact .inl (vcEff_o hs' hk' (fun v w' hv => let ⟨h1, h2⟩:=oblC_o hv; ⟨h1, go v w' h2⟩))
    | false =>
     simp only [he, cond_false] at hk'
     obtain ⟨v, S, hv, hS, _, hrun⟩:=vcRead_o hs' hk'
     exact .inl (Zx1 (hrun w hS) ⟨fun _ _ _ h => h, go v w hv⟩)
  have parts : ∀ X Y : Prop, andAlt alt X Y -> X /\ (alt.idx ≠ [] -> Y):=by
   intro X Y h
   cases alt <;> first | exact ⟨h.1, fun _ => h.2⟩ | exact ⟨h, fun hne => by simp [DA.idx] at hne⟩
  refine ⟨fun h => ?_, fun h hall fuel' hf j hj => ?_⟩
  ·cases fuel with
   | zero => unfold vcDA at h; exact h.elim
   | succ fuel =>
    unfold vcDA at h
    split at h
    ·exact h.elim
    ·rename_i o ho
     cases hb : (!true || (i :: alt.idx) == Region.ready .any ops listed) with
     | false => rw [hb] at h; exact h.elim
     | true =>
      rw [hb] at h
      simp only [cond_true] at h
      have hidx : (i :: alt.idx) = Region.ready .any ops listed:=by simpa using hb
      obtain ⟨h1, h2⟩:=parts _ _ h
      refine ⟨fun h0 => by rw [<- hidx] at h0; simp at h0, fun j hj => ?_⟩
      rw [<- hidx] at hj
      rcases mem_cons.1 hj with rfl | hj
      ·exact one fuel o ho (by rw [<- hidx]; simp) h1
      ·have hne : alt.idx ≠ []:=fun e => by rw [e] at hj; cases hj
       exact (ih2 (fuel + 1) listed Γ fr a w hsz hcl hs hk).2 (h2 hne) (fun x hx => by rw [<- hidx]; simp [hx]) fuel rfl j hj
  ·subst hf
   unfold vcDA at h
   split at h
   ·exact h.elim
   ·rename_i o ho
    simp only [Bool.not_false, Bool.true_or, cond_true] at h
    obtain ⟨h1, h2⟩:=parts _ _ h
    simp only [DA.idx] at hj hall
    rcases mem_cons.1 hj with rfl | hj
    ·exact one fuel' o ho (hall j (by simp)) h1
    ·have hne : alt.idx ≠ []:=fun e => by rw [e] at hj; cases hj
     exact (ih2 (fuel' + 1) listed Γ fr a w hsz hcl hs hk).2 (h2 hne) (fun x hx => hall x (by simp [hx])) fuel' rfl j hj
inductive Ex where
 | normal | exit (id : Nat) | ret | goto (l : Nat)
def exOf : Exit -> Option Ex
 | .normal => some .normal
 | .exit id => some (.exit id)
 | .ret => some .ret
 | .goto l => some (.goto l)
 | _ => none
def wr : Code -> List Nat
 | .region _ ops _ => wrOps ops.toList
 | .seq x y => wr x ++ wr y
 | .cond _ x y => wr x ++ wr y
 | .block _ x => wr x
 | .loop x => wr x
 | .scope x => wr x
 | _ => []
def Fr.over (fr : Fr) (W : List Nat) (L : List Nat) (vs : List Value) : Fr:=fun t =>
 match (L.zip vs).lookup t with
 | some v => some v
 | none => bif W.elem t then none else fr t
inductive Ann where
 | o | d (x : DA)
 | s (a b : Ann)
 | j (L : List (Nat × Sc)) (a b : Ann)
 | c (a b : Ann)
 | b (a : Ann)
 | l (L : List (Nat × Sc)) (a : Ann)
 | g (l : Nat) (a b : Ann)
 | k (l : Nat) (a : Ann)
 | h (L : List (Nat × Sc)) (a : Ann)
 | u
abbrev Yi7:=Ex -> Fr -> World -> Prop
def Yi7.then (Q : Yi7) (K : Fr -> World -> Prop) : Yi7:=fun e fr w => match e with | .normal => K fr w | e => Q e fr w
def Yi7.jump (l : Nat) (K : Fr -> World -> Prop) (Q : Yi7) : Yi7:=fun e fr w => match e with | .goto l' => bif Nat.beq l' l then K fr w else False | e => Q e fr w
mutual
def ZxM (P : Program) (n : Nat) : Ann -> Code -> Fr -> World -> Yi7 -> Prop
 | .o, c, fr, w, Q => (match c with
   | .skip => Q .normal fr w
   | .ret => Q .ret fr w
   | .exit id => Q (.exit id) fr w
   | .goto l => Q (.goto l) fr w
   | .label _ => Q .normal fr w
   | .region _ ops draw => bif draw then False else vcOps P n ops ops.toList fr w (Q .normal)
   | _ => False)
 | .d x, c, fr, w, Q => (match c with
   | .region _ ops draw => bif draw && P.follows .mixedOrders && Region.noSelect ops then
     vcDA P n ops true x ops.size (Array.replicate ops.size false) [] fr w.drew (Q .normal) else False
   | _ => False)
 | .s a b, c, fr, w, Q => (match c with
   | .seq x y => ZxM P n a x fr w (Q.then fun fr' w' => ZxM P n b y fr' w' Q)
   | _ => False)
 | .j L a b, c, fr, w, Q => (match c with
   | .seq x y =>
    Zzf (JT.lam (L.map (·.2)) fun vs w' => ZxM P n b y (fr.over (wr x) (L.map (·.1)) vs) w' Q) fun J =>
     ZxM P n a x fr w (Q.then fun fr' w' => JT.app (L.map (·.2)) J (L.map fun p => fr' p.1) fun r => r w')
   | _ => False)
 | .c a b, c, fr, w, Q => (match c with
   | .cond c x y => (match ev fr c with
    | some (.bool g) => Zz1 g (ZxM P n a x fr w Q) (ZxM P n b y fr w Q)
    | _ => False)
   | _ => False)
 | .b a, c, fr, w, Q => (match c with
   | .block id x => ZxM P n a x fr w fun e fr' w' => match e with
    | .exit id' => bif Nat.beq id' id then Q .normal fr' w' else Q (.exit id') fr' w'
    | e => Q e fr' w'
   | _ => False)
 | .l L a, c, fr, w, Q => (match c with
   | .loop x => ∃ I : JT (World -> Nat -> Prop) (L.map (·.2)),
     (∃ m, JT.app (L.map (·.2)) I (L.map fun p => fr p.1) fun r => r w m) /\
     JT.all (L.map (·.2)) I fun vs r => ∀ w' m, r w' m ->
      ZxM P n a x (fr.over (wr x) (L.map (·.1)) vs) w' (Q.then fun fr' w'' => ∃ m', m' < m /\ JT.app (L.map (·.2)) I (L.map fun p => fr' p.1) fun r => r w'' m')
   | _ => False)
 | .g l a b, c, fr, w, Q => (match c with
   | .scope x => (match findLabel x l with
    | some rest => ZxM P n a x fr w (Yi7.jump l (fun fr' w' => ZxM P n b rest fr' w' (Yi7.jump l (fun _ _ => False) Q)) Q)
    | none => False)
   | _ => False)
 | .k l a, c, fr, w, Q => (match c with
   | .scope x => bif (findLabel x l).isSome then YaA P n l a x fr w Q else False
   | _ => False)
 | .h _ _, _, _, _, _ => False
 | .u, _, _, _, _ => False
/-- A scope's code up to a label to which is jumped back, and the rounds from there on. -/
def YaA (P : Program) (n : Nat) (l : Nat) : Ann -> Code -> Fr -> World -> Yi7 -> Prop
 | .s a b, c, fr, w, Q => (match c with
   | .seq x y => bif (findLabel x l).isNone then ZxM P n a x fr w ((Yi7.jump l (fun _ _ => False) Q).then fun fr' w' => YaA P n l b y fr' w' Q) else False
   | _ => False)
 | .h L a, c, fr, w, Q => (match c with
   | .seq (.label l') y => bif Nat.beq l' l then
     ∃ I : JT (World -> Nat -> Prop) (L.map (·.2)),
      (∃ m, JT.app (L.map (·.2)) I (L.map fun p => fr p.1) fun r => r w m) /\
      JT.all (L.map (·.2)) I fun vs r => ∀ w' m, r w' m ->
       ZxM P n a y (fr.over (wr y) (L.map (·.1)) vs) w' (Yi7.jump l (fun fr' w'' => ∃ m', m' < m /\ JT.app (L.map (·.2)) I (L.map fun p => fr' p.1) fun r => r w'' m') Q)
     else False
   | _ => False)
 | _, _, _, _, _ => False
end
theorem wr_find {l : Nat} : ∀ {c rest : Code}, findLabel c l = some rest -> ∀ t, t ∈ wr rest -> t ∈ wr c
 | .seq a b, rest, h, t, ht => by
  unfold findLabel at h
  split at h
  ·rename_i r hr
   cases h
   simp only [wr, mem_append] at ht ⊢
   exact ht.imp (wr_find hr t) id
  ·simp only [wr, mem_append]; exact .inr (wr_find h t ht)
 | .label l', rest, h, t, ht => by
  unfold findLabel at h
  split at h
  ·cases h; simp [wr] at ht
  ·cases h
 | .skip, _, h, _, _ => by simp [findLabel] at h
 | .region .., _, h, _, _ => by simp [findLabel] at h
 | .cond .., _, h, _, _ => by simp [findLabel] at h
 | .block .., _, h, _, _ => by simp [findLabel] at h
 | .loop .., _, h, _, _ => by simp [findLabel] at h
 | .exit .., _, h, _, _ => by simp [findLabel] at h
 | .ret, _, h, _, _ => by simp [findLabel] at h
 | .scope .., _, h, _, _ => by simp [findLabel] at h
 | .goto .., _, h, _, _ => by simp [findLabel] at h
def QX (n : Nat) (L : List Nat) (a0 : Act) (Q : Yi7) : Exit -> Act -> World -> Prop:=fun e a w =>
 match exOf e with
 | some x => ∃ fr, Sim n fr a /\ YdQ L a0 a /\ Q x fr w
 | none => False
theorem lookup_zip (t : Nat) (v : Value) : ∀ (L : List Nat) (vs : List Value), (L.zip vs).lookup t = some v -> ∃ k : Nat, L[k]? = some t /\ vs[k]? = some v
 | [], _, h => by simp at h
 | _ :: _, [], h => by simp at h
 | l :: L, u :: vs, h => by
  simp only [zip_cons_cons, lookup_cons] at h
  split at h
  ·rename_i hb
   have : t = l:=by simpa using hb
   subst this
   exact ⟨0, rfl, by simpa using h⟩
  ·obtain ⟨k, h1, h2⟩:=lookup_zip t v L vs h
   exact ⟨k + 1, h1, h2⟩
theorem Sim.over {n : Nat} {fr fr' : Fr} {a a' : Act} {W : List Nat} {L : List (Nat × Sc)} {vs : List Value} (h : Sim n fr a) (h' : Sim n fr' a') (hk : YdQ W a a')
  (hv : (L.map fun p => fr' p.1) = vs.map some) : Sim n (fr.over W (L.map (·.1)) vs) a':=by
 refine ⟨h'.defers, h'.size, fun t v ht => ?_⟩
 unfold Fr.over at ht
 split at ht
 ·rename_i u hl
  simp only [Option.some.injEq] at ht
  subst ht
  obtain ⟨k, h1, h2⟩:=lookup_zip t u _ _ hl
  have h3 : (L.map fun p => fr' p.1)[k]? = some (some u):=by rw [hv]; simp [h2]
  rw [getElem?_map] at h1 h3
  cases hL : L[k]? with
  | none => simp [hL] at h1
  | some p =>
   simp only [hL, Option.map_some, Option.some.injEq] at h1 h3
   subst h1
   exact h'.val _ _ h3
 ·cases hw : W.elem t with
  | true => rw [hw] at ht; cases ht
  | false =>
   simp only [hw, cond_false] at ht
   rw [hk t (fun hc => by have:=elem_eq_true_of_mem hc; rw [this] at hw; cases hw)]
   exact h.val t v ht
theorem wp_loop_rel {P : Program} {c : Code} {Q : Exit -> Act -> World -> Prop} {a : Act} {w : World} (I : Nat -> Act -> World -> Prop) (m : Nat) (h₀ : I m a w)
  (round : ∀ m a w, I m a w -> c.wp P (Exit.then (fun a' w' => ∃ m', m' < m /\ I m' a' w') Q) a w) : (Code.loop c).wp P Q a w:=by
 intro b k cs
 have key : ∀ m a w, I m a w -> ∃ e a' w', Q e a' w' /\ Arrives P (lone (b.at a (.code c :: .inLoop c :: k)) cs w) b k cs e a' w':=by
  intro m
  induction m using Nat.strongRecOn with
  | _ m ih =>
   intro a w hI
   obtain ⟨e, a₁, w₁, hq, harr⟩:=round m a w hI b (.inLoop c :: k) cs
   cases e with
   | normal =>
    obtain ⟨m', hlt, hI₁⟩:=hq
    obtain ⟨e₂, a₂, w₂, hq₂, harr₂⟩:=ih m' hlt a₁ w₁ hI₁
    exact ⟨e₂, a₂, w₂, hq₂, .of_steps (Steps.trans harr (.one step_inLoop)) harr₂⟩
   | exit id => exact ⟨_, a₁, w₁, hq, .pass (x := .inLoop c) rfl (fun _ _ => .inl (by simp)) harr⟩
   | goto l => exact ⟨_, a₁, w₁, hq, .pass (x := .inLoop c) rfl (fun _ _ => .inl (by simp)) harr⟩
   | ret => exact ⟨_, a₁, w₁, hq, .pass (x := .inLoop c) rfl (fun _ _ => .inl (by simp)) harr⟩
   | panic ch => exact ⟨_, a₁, w₁, hq, .pass (x := .inLoop c) rfl (fun _ _ => .inl (by simp)) harr⟩
   | outgrown => exact ⟨_, a₁, w₁, hq, .pass (x := .inLoop c) rfl (fun _ _ => .inl (by simp)) harr⟩
 obtain ⟨e, a', w', hq, harr⟩:=key m a w h₀
 exact ⟨e, a', w', hq, .of_steps (.one step_loop) harr⟩
theorem QX.of {n : Nat} {L L' : List Nat} {a0 a1 : Act} {Q Q' : Yi7} {e : Exit} {a : Act} {w : World} (h : QX n L a0 Q e a w) (hk : YdQ L' a1 a0) (hl : ∀ t, t ∈ L -> t ∈ L')
  (hq : ∀ x fr, Q x fr w -> Q' x fr w) : QX n L' a1 Q' e a w:=by
 unfold QX at *
 split
 ·rename_i x hx
  rw [hx] at h
  obtain ⟨fr, h1, h2, h3⟩:=h
  exact ⟨fr, h1, hk.trans (h2.mono hl), hq x fr h3⟩
 ·rename_i hx
  rw [hx] at h
  exact h
theorem wp_scope_rel {P : Program} {c rest : Code} {Q : Exit -> Act -> World -> Prop} {a : Act} {w : World} (l : Nat) (J : Nat -> Act -> World -> Prop) (hf : findLabel c l = some rest)
  (first : c.wp P (Exit.jump l (fun a w => ∃ m, J m a w) Q) a w)
  (pass : ∀ m a w, J m a w -> rest.wp P (Exit.jump l (fun a' w' => ∃ m', m' < m /\ J m' a' w') Q) a w) : (Code.scope c).wp P Q a w:=by
 intro b k cs
 have hg : gotoIn l (.inScope c :: k) = some (.code rest :: .inScope c :: k):=by simp [gotoIn, hf]
 have key : ∀ m a w, J m a w -> ∃ e a' w', Q e a' w' /\ Arrives P (lone (b.at a (.code rest :: .inScope c :: k)) cs w) b k cs e a' w':=by
  intro m
  induction m using Nat.strongRecOn with
  | _ m ih =>
   intro a w hJ
   obtain ⟨e, a₁, w₁, hq, harr⟩:=pass m a w hJ b (.inScope c :: k) cs
   cases e with
   | normal => exact ⟨.normal, a₁, w₁, hq, Steps.trans harr (.one step_inScope)⟩
   | exit id => exact ⟨.exit id, a₁, w₁, hq, fun k' hk => harr k' (by simp [exitTo, hk])⟩
   | goto l' =>
    obtain ⟨rfl, m', hlt, hJ'⟩:=hq
    obtain ⟨e₂, a₂, w₂, hq₂, harr₂⟩:=ih m' hlt a₁ w₁ hJ'
    exact ⟨e₂, a₂, w₂, hq₂, .of_steps (harr _ hg) harr₂⟩
   | ret => exact ⟨_, a₁, w₁, hq, harr⟩
   | panic ch => exact ⟨_, a₁, w₁, hq, harr⟩
   | outgrown => exact ⟨_, a₁, w₁, hq, harr⟩
 obtain ⟨e, a₁, w₁, hq, harr⟩:=first b (.inScope c :: k) cs
 cases e with
 | normal => exact ⟨.normal, a₁, w₁, hq, .head step_scope (Steps.trans harr (.one step_inScope))⟩
 | exit id => exact ⟨.exit id, a₁, w₁, hq, fun k' hk => .head step_scope (harr k' (by simp [exitTo, hk]))⟩
 | goto l' =>
  obtain ⟨rfl, m, hJ'⟩:=hq
  obtain ⟨e₂, a₂, w₂, hq₂, harr₂⟩:=key m a₁ w₁ hJ'
  exact ⟨e₂, a₂, w₂, hq₂, .of_steps (.head step_scope (harr _ hg)) harr₂⟩
 | ret => exact ⟨_, a₁, w₁, hq, .of_steps (.one step_scope) harr⟩
 | panic ch => exact ⟨_, a₁, w₁, hq, .of_steps (.one step_scope) harr⟩
 | outgrown => exact ⟨_, a₁, w₁, hq, .of_steps (.one step_scope) harr⟩
def AccJ (P : Program) (l : Nat) (rest : Code) (QA : Exit -> Act -> World -> Prop) (m : Nat) (a : Act) (w : World) : Prop :=
 rest.wp P (Exit.jump l (fun a' w' => ∃ m', ∃ _h : m' < m, AccJ P l rest QA m' a' w') QA) a w
termination_by m
theorem AccJ.eq {P : Program} {l : Nat} {rest : Code} {QA : Exit -> Act -> World -> Prop} {m : Nat} {a : Act} {w : World} :
  AccJ P l rest QA m a w = rest.wp P (Exit.jump l (fun a' w' => ∃ m', ∃ _h : m' < m, AccJ P l rest QA m' a' w') QA) a w:=by
 rw [AccJ]
theorem vcCode_both {P : Program} {n : Nat} : ∀ (ann : Ann), (∀ (c : Code) (fr : Fr) (a : Act) (w : World) (Q : Yi7), Sim n fr a -> ZxM P n ann c fr w Q -> c.wp P (QX n (wr c) a Q) a w) /\
    (∀ (l : Nat) (c rest : Code) (fr : Fr) (a : Act) (w : World) (Q : Yi7) (W : List Nat) (a0 : Act), Sim n fr a -> YdQ W a0 a -> (∀ t, t ∈ wr c -> t ∈ W) -> findLabel c l = some rest -> YaA P n l ann c fr w Q ->
      c.wp P (Exit.jump l (fun a' w' => ∃ m, AccJ P l rest (QX n W a0 Q) m a' w') (QX n W a0 Q)) a w):=by
  intro ann
  induction ann with
  | u => exact ⟨fun c fr a w Q hs h => by (unfold ZxM at h; exact h.elim), fun l c rest fr a w Q W a0 hs hk hW hf h => by (unfold YaA at h; exact h.elim)⟩
  | o =>
    refine ⟨?_, ?_⟩
    · intro c fr a w Q hs h
      unfold ZxM at h
      split at h
      · exact wp_skip ⟨fr, hs, YdQ.refl _ _, h⟩
      · exact wp_ret ⟨fr, hs, YdQ.refl _ _, h⟩
      · exact wp_exit ⟨fr, hs, YdQ.refl _ _, h⟩
      · exact wp_goto ⟨fr, hs, YdQ.refl _ _, h⟩
      · exact wp_label ⟨fr, hs, YdQ.refl _ _, h⟩
      · rename_i id ops draw
        cases draw with
        | true => exact h.elim
        | false => exact wp_region_list (vcOps_o hs (fun o ho d hd => mem_wrOps ho hd) h (fun fr' a' w' h1 h2 h3 => ⟨fr', h1, h2, h3⟩))
      · exact h.elim
    · intro l c rest fr ac w Q W a0 hs hk hW hf h
      unfold YaA at h
      exact h.elim
  | d x =>
    refine ⟨?_, ?_⟩
    · intro c fr a w Q hs h
      unfold ZxM at h
      split at h
      · rename_i id ops draw
        cases hb : (draw && P.follows .mixedOrders && Region.noSelect ops) with
        | false => rw [hb] at h; exact h.elim
        | true =>
          rw [hb] at h
          simp only [cond_true] at h
          simp only [Bool.and_eq_true] at hb
          obtain ⟨⟨hd, hm⟩, hns⟩:=hb
          subst hd
          refine wp_region_any hm (wpAny_of_G (Γ:=[]) _ _ _ _ ?_)
          exact (vcDA_o hns (fun c a w hq => hq) (L:=wrOps ops.toList) (a0:=a) (fun o ho d hd => mem_wrOps ho hd) (fun fr' a' w' h1 h2 h3 => ⟨fr', h1, h2, h3⟩)
            x ops.size (Array.replicate ops.size false) [] fr a w.drew (by simp) (Ye0.start ops) hs (YdQ.refl _ _)).1 h
      · exact h.elim
    · intro l c rest fr ac w Q W a0 hs hk hW hf h
      unfold YaA at h
      exact h.elim
  | s a b iha ihb =>
    refine ⟨?_, ?_⟩
    · intro c fr ac w Q hs h
      unfold ZxM at h
      split at h
      · rename_i x y
        refine wp_seq (wp_mono (iha.1 x fr ac w _ hs h) fun e a' w' hq => ?_)
        unfold QX at hq
        split at hq
        · rename_i ex hex
          obtain ⟨fr', h1, h2, h3⟩:=hq
          cases e <;> simp only [exOf, Option.some.injEq, reduceCtorEq] at hex <;> subst hex
          · exact wp_mono (ihb.1 y fr' a' w' Q h1 h3) fun e2 a2 w2 hq2 => hq2.of (h2.mono (fun t ht => by simp [wr, ht])) (fun t ht => by simp [wr, ht]) (fun _ _ h => h)
          · exact ⟨fr', h1, h2.mono (fun t ht => by simp [wr, ht]), h3⟩
          · exact ⟨fr', h1, h2.mono (fun t ht => by simp [wr, ht]), h3⟩
          · exact ⟨fr', h1, h2.mono (fun t ht => by simp [wr, ht]), h3⟩
        · exact hq.elim
      · exact h.elim
    · intro l c rest fr ac w Q W a0 hs hk hW hf h
      unfold YaA at h
      split at h
      · rename_i x y
        cases hn : (findLabel x l).isNone with
        | false => rw [hn] at h; exact h.elim
        | true =>
          rw [hn] at h
          have hfx : findLabel x l = none:=by simpa using hn
          have hfy : findLabel y l = some rest:=by
            unfold findLabel at hf
            rw [hfx] at hf
            exact hf
          have hwx : ∀ t, t ∈ wr x -> t ∈ W:=fun t ht => hW t (by simp [wr, ht])
          have hwy : ∀ t, t ∈ wr y -> t ∈ W:=fun t ht => hW t (by simp [wr, ht])
          refine wp_seq (wp_mono (iha.1 x fr ac w _ hs h) fun e a' w' hq => ?_)
          unfold QX at hq
          split at hq
          · rename_i ex hex
            obtain ⟨fr', h1, h2, h3⟩:=hq
            cases e <;> simp only [exOf, Option.some.injEq, reduceCtorEq] at hex <;> subst hex
            · exact ihb.2 l y rest fr' a' w' Q W a0 h1 (hk.trans (h2.mono hwx)) hwy hfy h3
            · exact ⟨fr', h1, hk.trans (h2.mono hwx), h3⟩
            · rename_i l'
              simp only [Yi7.then, Yi7.jump] at h3
              cases hb : Nat.beq l' l <;> (rw [hb] at h3; exact h3.elim)
            · exact ⟨fr', h1, hk.trans (h2.mono hwx), h3⟩
          · exact hq.elim
      · exact h.elim
  | j L a b iha ihb =>
    refine ⟨?_, ?_⟩
    · intro c fr ac w Q hs h
      unfold ZxM at h
      split at h
      · rename_i x y
        unfold Zzf at h
        refine wp_seq (wp_mono (iha.1 x fr ac w _ hs h) fun e a' w' hq => ?_)
        unfold QX at hq
        split at hq
        · rename_i ex hex
          obtain ⟨fr', h1, h2, h3⟩:=hq
          cases e <;> simp only [exOf, Option.some.injEq, reduceCtorEq] at hex <;> subst hex
          · obtain ⟨vs, hv, hc⟩:=JT.app_lam h3
            have hs2:=hs.over h1 h2 hv
            exact wp_mono (ihb.1 y _ a' w' Q hs2 hc) fun e2 a2 w2 hq2 => hq2.of (h2.mono (fun t ht => by simp [wr, ht])) (fun t ht => by simp [wr, ht]) (fun _ _ h => h)
          · exact ⟨fr', h1, h2.mono (fun t ht => by simp [wr, ht]), h3⟩
          · exact ⟨fr', h1, h2.mono (fun t ht => by simp [wr, ht]), h3⟩
          · exact ⟨fr', h1, h2.mono (fun t ht => by simp [wr, ht]), h3⟩
        · exact hq.elim
      · exact h.elim
    · intro l c rest fr ac w Q W a0 hs hk hW hf h
      unfold YaA at h
      exact h.elim
  | c a b iha ihb =>
    refine ⟨?_, ?_⟩
    · intro c fr ac w Q hs h
      unfold ZxM at h
      split at h
      · rename_i c x y
        split at h
        · rename_i g hg
          have hc:=hs.eval hg
          have h':=condB_o h
          clear h
          rcases h' with ⟨rfl, h⟩ | ⟨rfl, h⟩
          · exact wp_cond_true hc (wp_mono (iha.1 x fr ac w Q hs h) fun e a' w' hq => hq.of (YdQ.refl _ _) (fun t ht => by simp [wr, ht]) (fun _ _ h => h))
          · exact wp_cond_false hc (wp_mono (ihb.1 y fr ac w Q hs h) fun e a' w' hq => hq.of (YdQ.refl _ _) (fun t ht => by simp [wr, ht]) (fun _ _ h => h))
        · exact h.elim
      · exact h.elim
    · intro l c rest fr ac w Q W a0 hs hk hW hf h
      unfold YaA at h
      exact h.elim
  | b a iha =>
    refine ⟨?_, ?_⟩
    · intro c fr ac w Q hs h
      unfold ZxM at h
      split at h
      · rename_i id x
        refine wp_block (wp_mono (iha.1 x fr ac w _ hs h) fun e a' w' hq => ?_)
        unfold QX at hq
        split at hq
        · rename_i ex hex
          obtain ⟨fr', h1, h2, h3⟩:=hq
          cases e <;> simp only [exOf, Option.some.injEq, reduceCtorEq] at hex <;> subst hex
          · exact ⟨fr', h1, h2, h3⟩
          · rename_i id'
            simp only at h3
            cases hb : Nat.beq id' id with
            | true =>
              have:=Nat.eq_of_beq_eq_true hb
              subst this
              rw [hb] at h3
              simp only [Exit.inBlock, if_true]
              exact ⟨fr', h1, h2, h3⟩
            | false =>
              have : id' ≠ id:=fun e => by subst e; rw [show Nat.beq id' id' = true from Nat.beq_refl id'] at hb; cases hb
              rw [hb] at h3
              simp only [Exit.inBlock, this, if_false]
              exact ⟨fr', h1, h2, h3⟩
          · exact ⟨fr', h1, h2, h3⟩
          · exact ⟨fr', h1, h2, h3⟩
        · exact hq.elim
      · exact h.elim
    · intro l c rest fr ac w Q W a0 hs hk hW hf h
      unfold YaA at h
      exact h.elim
  | l L a iha =>
    refine ⟨?_, ?_⟩
    · intro c fr ac w Q hs h
      unfold ZxM at h
      split at h
      · rename_i x
        obtain ⟨I, ⟨m, hm⟩, hall⟩:=h
        refine wp_loop_rel (fun m a' w' => ∃ fr', Sim n fr' a' /\ YdQ (wr x) ac a' /\ JT.app (L.map (·.2)) I (L.map fun p => fr' p.1) fun r => r w' m) m ⟨fr, hs, YdQ.refl _ _, hm⟩ ?_
        rintro m a' w' ⟨fr', h1, h2, h3⟩
        obtain ⟨vs, r, hv, hF, hr⟩:=JT.all_app hall h3
        have hs2:=hs.over h1 h2 hv
        refine wp_mono (iha.1 x _ a' w' _ hs2 (hF w' m hr)) fun e a2 w2 hq => ?_
        unfold QX at hq
        split at hq
        · rename_i ex hex
          obtain ⟨fr2, g1, g2, g3⟩:=hq
          cases e <;> simp only [exOf, Option.some.injEq, reduceCtorEq] at hex <;> subst hex
          · obtain ⟨m', hlt, happ⟩:=g3
            exact ⟨m', hlt, fr2, g1, h2.trans g2, happ⟩
          · exact ⟨fr2, g1, h2.trans g2, g3⟩
          · exact ⟨fr2, g1, h2.trans g2, g3⟩
          · exact ⟨fr2, g1, h2.trans g2, g3⟩
        · exact hq.elim
      · exact h.elim
    · intro l c rest fr ac w Q W a0 hs hk hW hf h
      unfold YaA at h
      exact h.elim
  | g l a b iha ihb =>
    refine ⟨?_, ?_⟩
    · intro c fr ac w Q hs h
      unfold ZxM at h
      split at h
      · rename_i x
        split at h
        · rename_i rest hf
          refine wp_scope_jumps l (fun a' w' => ∃ fr', Sim n fr' a' /\ YdQ (wr x) ac a' /\ ZxM P n b rest fr' w' (Yi7.jump l (fun _ _ => False) Q)) (fun _ _ => 0) hf ?_ ?_
          · refine wp_mono (iha.1 x fr ac w _ hs h) fun e a' w' hq => ?_
            unfold QX at hq
            split at hq
            · rename_i ex hex
              obtain ⟨fr', h1, h2, h3⟩:=hq
              cases e <;> simp only [exOf, Option.some.injEq, reduceCtorEq] at hex <;> subst hex
              · exact ⟨fr', h1, h2, h3⟩
              · exact ⟨fr', h1, h2, h3⟩
              · rename_i l'
                simp only [Yi7.jump] at h3
                cases hb : Nat.beq l' l with
                | true => rw [hb] at h3; exact ⟨Nat.eq_of_beq_eq_true hb, fr', h1, h2, h3⟩
                | false => rw [hb] at h3; exact h3.elim
              · exact ⟨fr', h1, h2, h3⟩
            · exact hq.elim
          · rintro a' w' ⟨fr', h1, h2, h3⟩
            refine wp_mono (ihb.1 rest fr' a' w' _ h1 h3) fun e a2 w2 hq => ?_
            unfold QX at hq
            split at hq
            · rename_i ex hex
              obtain ⟨fr2, g1, g2, g3⟩:=hq
              have g2':=g2.mono (wr_find hf)
              cases e <;> simp only [exOf, Option.some.injEq, reduceCtorEq] at hex <;> subst hex
              · exact ⟨fr2, g1, h2.trans g2', g3⟩
              · exact ⟨fr2, g1, h2.trans g2', g3⟩
              · rename_i l'
                simp only [Yi7.jump] at g3
                cases hb : Nat.beq l' l <;> (rw [hb] at g3; exact g3.elim)
              · exact ⟨fr2, g1, h2.trans g2', g3⟩
            · exact hq.elim
        · exact h.elim
      · exact h.elim
    · intro l c rest fr ac w Q W a0 hs hk hW hf h
      unfold YaA at h
      exact h.elim
  | k l a iha =>
    refine ⟨?_, ?_⟩
    · intro c fr ac w Q hs h
      unfold ZxM at h
      split at h
      · rename_i x
        cases hn : findLabel x l with
        | none => rw [hn] at h; exact h.elim
        | some rest =>
          rw [hn] at h
          refine wp_scope_rel l (fun m a w => AccJ P l rest (QX n (wr x) ac Q) m a w) hn (iha.2 l x rest fr ac w Q (wr x) ac hs (YdQ.refl _ _) (fun _ h => h) hn h) ?_
          intro m a' w' hJ
          rw [AccJ.eq] at hJ
          refine wp_mono hJ fun e a2 w2 hq => ?_
          cases e <;> simp only [Exit.jump] at hq ⊢
          all_goals first
            | exact hq
            | (obtain ⟨h1, m', h2, h3⟩:=hq
               exact ⟨h1, m', h2, h3⟩)
      · exact h.elim
    · intro l c rest fr ac w Q W a0 hs hk hW hf h
      unfold YaA at h
      exact h.elim
  | h L a iha =>
    refine ⟨?_, ?_⟩
    · intro c fr ac w Q hs h
      unfold ZxM at h
      exact h.elim
    · intro l c rest fr ac w Q W a0 hs hk hW hf h
      unfold YaA at h
      split at h
      · rename_i l' y
        cases hb : Nat.beq l' l with
        | false => rw [hb] at h; exact h.elim
        | true =>
          rw [hb] at h
          have hll:=Nat.eq_of_beq_eq_true hb
          subst hll
          obtain ⟨I, ⟨m0, hm0⟩, hall⟩:=h
          have hr : rest = .seq .skip y:=by
            simp [findLabel] at hf
            exact hf.symm
          subst hr
          have hwy : ∀ t, t ∈ wr y -> t ∈ W:=fun t ht => hW t (by simp [wr, ht])
          have claim : ∀ m a' w', (∃ fr', Sim n fr' a' /\ YdQ (wr y) ac a' /\ JT.app (L.map (·.2)) I (L.map fun p => fr' p.1) fun r => r w' m) ->
              y.wp P (Exit.jump l' (fun a' w' => ∃ m', ∃ _h : m' < m, AccJ P l' (.seq .skip y) (QX n W a0 Q) m' a' w') (QX n W a0 Q)) a' w':=by
            intro m
            induction m using Nat.strongRecOn with
            | _ m ih =>
              rintro a' w' ⟨fr', h1, h2, h3⟩
              obtain ⟨vs, r, hv, hF, hr⟩:=JT.all_app hall h3
              have hs2:=hs.over h1 h2 hv
              refine wp_mono (iha.1 y _ a' w' _ hs2 (hF w' m hr)) fun e a2 w2 hq => ?_
              unfold QX at hq
              split at hq
              · rename_i ex hex
                obtain ⟨fr2, g1, g2, g3⟩:=hq
                cases e <;> simp only [exOf, Option.some.injEq, reduceCtorEq] at hex <;> subst hex
                · exact ⟨fr2, g1, hk.trans ((h2.trans g2).mono hwy), g3⟩
                · exact ⟨fr2, g1, hk.trans ((h2.trans g2).mono hwy), g3⟩
                · rename_i l2
                  simp only [Yi7.jump] at g3
                  cases hb2 : Nat.beq l2 l' with
                  | false => rw [hb2] at g3; exact g3.elim
                  | true =>
                    rw [hb2] at g3
                    obtain ⟨m', hlt, happ⟩:=g3
                    refine ⟨Nat.eq_of_beq_eq_true hb2, m', hlt, ?_⟩
                    rw [AccJ.eq]
                    exact wp_seq (wp_skip (ih m' hlt a2 w2 ⟨fr2, g1, h2.trans g2, happ⟩))
                · exact ⟨fr2, g1, hk.trans ((h2.trans g2).mono hwy), g3⟩
              · exact hq.elim
          refine wp_seq (wp_label (wp_mono (claim m0 ac w ⟨fr, hs, YdQ.refl _ _, hm0⟩) fun e a2 w2 hq => ?_))
          cases e <;> simp only [Exit.jump] at hq ⊢
          all_goals first
            | exact hq
            | (obtain ⟨h1, m', h2, h3⟩:=hq
               exact ⟨h1, m', h3⟩)
      · exact h.elim
theorem vcCode_o {P : Program} {n : Nat} (ann : Ann) (c : Code) (fr : Fr) (a : Act) (w : World) (Q : Yi7) (hs : Sim n fr a) (h : ZxM P n ann c fr w Q) : c.wp P (QX n (wr c) a Q) a w:=(vcCode_both ann).1 c fr a w Q hs h
def initFr (args : List Value) : Fr:=fun t => args[t]?
def retV (P : Program) (fr : Fr) (w : World) : List ResultVar -> (List Value -> Prop) -> Prop
 | [], K => K []
 | .tmp t :: r, K => (match fr t with | some v => retV P fr w r fun vs => K (v :: vs) | none => False)
 | .cell a t :: r, K => (match fr a with
  | some (.pointer p) => ZzC p fun ad => vcLoad P t ad w fun v _ => retV P fr w r fun vs => K (v :: vs)
  | _ => False)
def unpack : List Sh -> List Value -> Option (List Value)
 | [], [] => some []
 | .one _ :: r, v :: vs => (match unpack r vs with | some us => some (v :: us) | none => none)
 | .agg l :: r, .agg cs :: vs => bif Nat.beq cs.toList.length l.length then (match unpack r vs with | some us => some (cs.toList ++ us) | none => none) else none
 | _, _ => none
theorem Yeb : ∀ {l : List Sh} {vs us : List Value}, unpack l vs = some us -> packs l us = vs
 | [], [], us, h => by simp only [unpack, Option.some.injEq] at h; simp [packs]
 | [], _ :: _, _, h => by simp [unpack] at h
 | .one _ :: r, [], _, h => by simp [unpack] at h
 | .one _ :: r, v :: vs, us, h => by
  simp only [unpack] at h
  split at h
  ·rename_i us' h2
   simp only [Option.some.injEq] at h
   subst h
   simp [packs, Yeb h2]
  ·simp at h
 | .agg l :: r, [], _, h => by simp [unpack] at h
 | .agg l :: r, v :: vs, us, h => by
  cases v <;> simp only [unpack, reduceCtorEq] at h
  rename_i cs
  cases hb : Nat.beq cs.toList.length l.length with
  | false => rw [hb] at h; simp at h
  | true =>
   rw [hb] at h
   have hl:=Nat.eq_of_beq_eq_true hb
   simp only [cond_true] at h
   split at h
   ·rename_i us' h2
    simp only [Option.some.injEq] at h
    subst h
    simp only [packs]
    rw [take_append_of_le_length (by omega), drop_append_of_le_length (by omega), take_of_length_le (by omega), drop_of_length_le (by omega)]
    simp [Yeb h2]
   ·simp at h
def retC (P : Program) (res : List ResultVar) (l : List Sh) (J : JT (World -> Prop) (scs l)) (fr : Fr) (w : World) : Prop :=
 retV P fr w res fun vs => match unpack l vs with
  | some us => JT.app (scs l) J (us.map some) fun r => r w
  | none => False
def vcFun (P : Program) (fn : Func) (ann : Ann) (l : List Sh) (args : List Value) (w : World) (J : JT (World -> Prop) (scs l)) : Prop :=
 match fn.body with
 | none => False
 | some c => bif Nat.ble args.length fn.ntmps then
   ZxM P fn.ntmps ann c (initFr args) w fun e fr w' => match e with
    | .exit _ => False
    | .goto _ => False
    | _ => retC P fn.results.toList l J fr w'
  else False
def resF (tmps : Array Value) : ResultVar -> Sem Value
 | .tmp t => pure (tmps.getD t undef)
 | .cell a t => do loadVar t (<- asAddr (tmps.getD a undef))
theorem results_eq (fn : Func) (tmps : Array Value) : results fn tmps = (do
  let vs <- fn.results.mapM (resF tmps)
  pure (if h : vs.size = 1 then vs[0] else .tuple vs)):=rfl
theorem retV_o {P : Program} {n : Nat} {fr : Fr} {a : Act} (hs : Sim n fr a) {w : World} : ∀ {res : List ResultVar} {K : List Value -> Prop}, retV P fr w res K ->
  ∃ vs : List Value, vs.length = res.length /\ K vs /\ (res.mapM (resF a.tmps)).run P w = .ok vs w
 | [], K, h => ⟨[], rfl, h, rfl⟩
 | .tmp t :: r, K, h => by
  simp only [retV] at h
  split at h
  ·rename_i v hv
   obtain ⟨vs, h1, h2, h3⟩:=retV_o hs h
   have : a.tmps.getD t undef = v:=by simp [hs.val t v hv]
   exact ⟨v :: vs, by simp [h1], h2, by simp only [mapM_cons, resF, Sem.run_bind, Sem.run_pure, Result.andThen_ok, this]; rw [h3]; rfl⟩
  ·exact h.elim
 | .cell ad t :: r, K, h => by
  simp only [retV] at h
  split at h
  ·rename_i p hp
   obtain ⟨x, rfl, hn⟩:=Ybz h
   obtain ⟨v, S, hK, hS, hrun⟩:=vcLoad_o hn
   obtain ⟨vs, h1, h2, h3⟩:=retV_o hs hK
   have e1 : a.tmps.getD ad undef = .pointer (some x):=by simp [hs.val ad _ hp]
   exact ⟨v :: vs, by simp [h1], h2, by
    have ha : (asAddr (.pointer (some x))).run P w = .ok x w:=rfl
    simp only [mapM_cons, resF, Sem.run_bind, e1, ha, Result.andThen_ok, hrun w hS, Sem.run_pure]; rw [h3]; rfl⟩
  ·exact h.elim
theorem Zz3 {P : Program} {f : FuncId} {fn : Func} (hf : P.funcs[f]? = some fn) (ann : Ann) {l : List Sh} {args : List Value} {w : World} {J : JT (World -> Prop) (scs l)}
    (h : vcFun P fn ann l args w J) : Zz0 P f ⟨args⟩ w l J:=by
  unfold vcFun at h
  split at h
  · exact h.elim
  · rename_i c hc
    cases hb : Nat.ble args.length fn.ntmps with
    | false => rw [hb] at h; exact h.elim
    | true =>
      rw [hb] at h
      simp only [cond_true] at h
      have hle : args.length <= fn.ntmps:=Nat.le_of_ble_eq_true hb
      refine calls_of_wp hf hc ?_
      have hs : Sim fn.ntmps (initFr args) { tmps:=(⟨args⟩ : Array Value) ++ Array.replicate (fn.ntmps - (⟨args⟩ : Array Value).size) undef, defers:=[] }:=by
        refine ⟨rfl, by simp; omega, fun t v hv => ?_⟩
        simp only [initFr] at hv
        have hlt : t < args.length:=(List.getElem?_eq_some_iff.1 hv).1
        rw [Array.getElem?_append_left (by simpa using hlt)]
        simpa using hv
      refine wp_mono (vcCode_o ann c _ _ w _ hs h) fun e a' w' hq => ?_
      have fin : ∀ fr', Sim fn.ntmps fr' a' -> retC P fn.results.toList l J fr' w' -> a'.defers = [] /\ ∃ v, (results fn a'.tmps).run P w' = .ok v w' /\
          JT.ex (scs l) J fun vs r => Ending.returned v = .returned (packR l vs) /\ r w':=by
        intro fr' hs' hr
        obtain ⟨vs, h1, h2, h3⟩:=retV_o hs' hr
        split at h2
        · rename_i us hu
          refine ⟨hs'.defers, packR l us, ?_, ?_⟩
          · have hm:=List.mapM_toArray (m:=Sem) (l:=fn.results.toList) (f:=resF a'.tmps)
            rw [Array.toArray_toList] at hm
            have hp:=Yeb hu
            rw [results_eq, hm]
            simp only [Sem.run_bind, Sem.run_map, h3, Result.andThen_ok, Sem.run_pure]
            congr 1
            unfold packR
            rw [hp]
            cases vs with
            | nil => rfl
            | cons v vs => cases vs with
              | nil => rfl
              | cons u vs => simp
          · exact JT.ex_of_app h2 rfl
        · exact h2.elim
      unfold QX at hq
      split at hq
      · rename_i ex hex
        obtain ⟨fr', h1, _, h3⟩:=hq
        cases e <;> simp only [exOf, Option.some.injEq, reduceCtorEq] at hex <;> subst hex
        · exact fin fr' h1 h3
        · exact h3.elim
        · exact h3.elim
        · exact fin fr' h1 h3
      · exact hq.elim
end Go.Vc
end
section
namespace Go.Proofs.YtglnmjflpkeclaaGreatDoor
open Go
abbrev YdY : FuncId:=4
abbrev Yek : FuncId:=5
abbrev ZxB : FuncId:=6
abbrev Zql : FuncId:=7
abbrev YbH : FuncId:=8
abbrev YbK : FuncId:=10
abbrev YbI : FuncId:=11
abbrev Ycu : FuncId:=12
abbrev Yfe : FuncId:=13
abbrev Yem : FuncId:=14
abbrev Ya0 : FuncId:=15
abbrev YaH : FuncId:=16
abbrev Ydu : FuncId:=17
abbrev Yb1 : FuncId:=18
abbrev Zy8 : FuncId:=19
abbrev ZyX : FuncId:=20
abbrev Zqn : FuncId:=21
abbrev Ya6 : FuncId:=22
abbrev Zya : FuncId:=23
abbrev ZzF : FuncId:=24
abbrev Ydw : FuncId:=25
abbrev Ydx : FuncId:=26
abbrev Yb8 : FuncId:=27
abbrev YbL : FuncId:=28
abbrev Zqw : FuncId:=29
abbrev ZyA : FuncId:=30
abbrev ZqZ : FuncId:=31
abbrev Zxl : FuncId:=32
abbrev ZyH : FuncId:=33
abbrev ZzU : FuncId:=34
abbrev YdA : FuncId:=35
abbrev Yas : FuncId:=36
abbrev Ycs : FuncId:=37
abbrev Zz2 : FuncId:=38
abbrev Yds : FuncId:=39
abbrev Yct : FuncId:=40
abbrev YbG : FuncId:=41
abbrev Yai : FuncId:=42
abbrev Yb5 : FuncId:=43
abbrev ZqK : FuncId:=44
abbrev ZqI : FuncId:=45
abbrev Zy7 : FuncId:=46
abbrev YcI : FuncId:=47
abbrev Zqb : FuncId:=48
abbrev Zzr : FuncId:=49
abbrev Ydv : FuncId:=50
abbrev Zqa : FuncId:=51
abbrev ZyW : FuncId:=52
abbrev Ycx : FuncId:=53
abbrev Zzk : FuncId:=54
abbrev Zzv : FuncId:=55
abbrev ZqY : FuncId:=56
abbrev ZyU : FuncId:=57
abbrev ZzJ : FuncId:=58
abbrev Zqx : FuncId:=59
abbrev Zq9 : FuncId:=60
abbrev Yaq : FuncId:=61
abbrev ZqX : FuncId:=62
abbrev YaF : FuncId:=63
abbrev Zyz : FuncId:=64
abbrev Zx8 : FuncId:=65
abbrev ZqW : FuncId:=66
abbrev ZyM : FuncId:=67
abbrev Zz6 : FuncId:=68
abbrev YbF : FuncId:=69
abbrev Yfc : FuncId:=70
abbrev YcH : FuncId:=71
abbrev Yc1 : FuncId:=72
abbrev Zzc : FuncId:=73
abbrev YaE : FuncId:=74
abbrev ZqJ : FuncId:=75
abbrev Zq6 : FuncId:=76
abbrev Zyp : FuncId:=77
abbrev Yc2 : FuncId:=78
abbrev Ybl : FuncId:=79
abbrev Ydt : FuncId:=80
abbrev Zx4 : FuncId:=81
abbrev ZqT : FuncId:=82
abbrev Yc3 : FuncId:=83
abbrev Zy9 : FuncId:=84
abbrev Yb6 : FuncId:=85
abbrev Zyy : FuncId:=86
abbrev Zxg : FuncId:=87
abbrev ZyF : FuncId:=88
abbrev Zx7 : FuncId:=89
abbrev Zqv : FuncId:=90
abbrev ZyV : FuncId:=91
abbrev ZqA : FuncId:=92
abbrev Zqk : FuncId:=93
abbrev fn_internal_abi_NoEscape : FuncId:=94
abbrev Zyu : FuncId:=95
abbrev Yaa : FuncId:=96
abbrev ZxL : FuncId:=97
abbrev Zxa : FuncId:=98
abbrev Zx9 : FuncId:=99
abbrev Yen : FuncId:=100
abbrev YcN : FuncId:=101
abbrev Zyq : FuncId:=102
abbrev YaI : FuncId:=103
abbrev Zxo : FuncId:=104
abbrev Yb0 : FuncId:=105
abbrev YcO : FuncId:=106
abbrev Zy1 : FuncId:=114
abbrev ZqM : FuncId:=115
abbrev YcL : FuncId:=116
abbrev Zyd : FuncId:=117
abbrev ZzM : FuncId:=118
abbrev Zxk : FuncId:=119
abbrev ZqN : FuncId:=120
abbrev ZqV : FuncId:=121
abbrev ZzL : FuncId:=122
abbrev ZzY : FuncId:=123
abbrev Ydz : FuncId:=124
abbrev Zyg : FuncId:=125
abbrev YeU : FuncId:=126
abbrev Zzq : FuncId:=127
abbrev Zx3 : FuncId:=128
abbrev Zqz : FuncId:=129
abbrev Ya9 : FuncId:=130
abbrev Zxf : FuncId:=131
abbrev Zxj : FuncId:=132
abbrev YgH : FuncId:=133
abbrev Zxm : FuncId:=134
abbrev Zy5 : FuncId:=135
abbrev YdZ : FuncId:=136
abbrev Yel : FuncId:=137
abbrev ZyO : FuncId:=138
abbrev ZyG : FuncId:=139
abbrev YhF : FuncId:=140
abbrev ZyE : FuncId:=141
abbrev YbT : FuncId:=142
abbrev Zzz : FuncId:=143
abbrev ZyS : FuncId:=144
abbrev Yc6 : FuncId:=146
abbrev YbJ : FuncId:=148
abbrev Zqg : FuncId:=149
abbrev YcG : FuncId:=150
abbrev Ya8 : FuncId:=151
abbrev ZxG : FuncId:=155
abbrev ZzR : FuncId:=156
abbrev YcK : FuncId:=157
abbrev ZxF : FuncId:=158
abbrev Yar : FuncId:=159
abbrev Zzt : FuncId:=160
abbrev ZqH : FuncId:=161
abbrev Ycg : FuncId:=162
abbrev YaW : FuncId:=163
abbrev ZyP : FuncId:=164
abbrev ZyT : FuncId:=165
abbrev YaQ : FuncId:=166
abbrev ZqU : FuncId:=167
abbrev Yap : FuncId:=168
abbrev Ya7 : FuncId:=169
abbrev Zq4 : FuncId:=170
abbrev Ycw : FuncId:=171
abbrev ZqL : FuncId:=172
abbrev YaG : FuncId:=173
abbrev Ycv : FuncId:=175
abbrev Yaw : FuncId:=176
abbrev Yfd : FuncId:=177
abbrev ZxA : FuncId:=178
abbrev Zye : FuncId:=181
abbrev Zxn : FuncId:=182
abbrev Yc4 : FuncId:=184
abbrev YaD : FuncId:=185
abbrev Zqy : FuncId:=188
abbrev ZzD : FuncId:=189
abbrev Zzx : FuncId:=190
abbrev ZxQ : FuncId:=191
abbrev Zqo : FuncId:=192
abbrev YcJ : FuncId:=198
abbrev YfI : FuncId:=199
abbrev Yao : FuncId:=202
abbrev Ybb : FuncId:=203
abbrev Zym : FuncId:=205
abbrev YcM : FuncId:=206
abbrev Zyt : FuncId:=208
abbrev Yc5 : FuncId:=211
abbrev Yb7 : FuncId:=221
abbrev ZzA : FuncId:=222
abbrev Yd6 : FuncId:=223
abbrev Ydy : FuncId:=225
abbrev Yd7 : FuncId:=226
abbrev Ybn : FuncId:=228
abbrev ZyR : FuncId:=275
abbrev Ybm : FuncId:=277
abbrev ZxR : FuncId:=278
abbrev T_int : TypeId:=3
abbrev Zzs : TypeId:=5
abbrev Zz8 : TypeId:=9
abbrev T_int32 : TypeId:=21
abbrev Zzj : TypeId:=22
abbrev Zyr : TypeId:=25
abbrev YdO : TypeId:=26
abbrev Zyo : TypeId:=27
abbrev Zz5 : TypeId:=29
abbrev Ycd : TypeId:=40
abbrev Zq3 : TypeId:=44
abbrev Zzh : TypeId:=46
abbrev Zyh : TypeId:=49
abbrev Yce : TypeId:=50
abbrev YcU : TypeId:=52
abbrev Yae : TypeId:=53
abbrev Zze : TypeId:=55
abbrev Zyn : TypeId:=60
abbrev T_ptr_strings_Builder : TypeId:=62
abbrev Ydj : TypeId:=64
abbrev Zyk : TypeId:=66
abbrev ZzO : TypeId:=75
abbrev Zqm : TypeId:=82
abbrev T_unsafe_Pointer : TypeId:=127
abbrev Zzo : TypeId:=136
abbrev Zzp : TypeId:=152
abbrev ZzQ : TypeId:=187
abbrev ZqE : TypeId:=193
abbrev T_256_uint8 : TypeId:=206
abbrev ZyN : TypeId:=208
abbrev Yey : TypeId:=209
abbrev T_uint16 : TypeId:=210
abbrev T_128_uint16 : TypeId:=211
abbrev T_uint64 : TypeId:=228
abbrev Yaz : TypeId:=251
abbrev Ybs : TypeId:=253
abbrev YaY : TypeId:=255
abbrev Ycm : TypeId:=256
abbrev Zzg : TypeId:=259
abbrev Zzu : TypeId:=260
abbrev T_20_uint64 : TypeId:=296
end Go.Proofs.YtglnmjflpkeclaaGreatDoor
end
section
namespace Go.Proofs.YtglnmjflpkeclaaGreatDoor
open Go Go.Vc
theorem c_sync_Once_Do {a : Option Addr} {b : Value} {w : World} {J : World -> Prop} (h :
 ZzC a fun c =>
 Zz0 Tryz.prog Yaw #[.pointer (some c)] w [.one .bool] fun d e =>
 Zz1 (!d) (
 Zz0 Tryz.prog Yfd #[.pointer a, b] e [] fun f =>
 J f) (
 J e)) : Zz0 Tryz.prog Yel #[.pointer a, b] w [] J:=Zz3 Tryz.func137 (.s .o (.c .o .o)) (Eq.mpr (by kernel_rfl) h)
theorem Ygg {a : Option Addr} {w : World} {J : World -> Prop} (h :
 ZzC a fun b =>
 Zz0 Tryz.prog Yc5 #[.pointer (some b)] w [] fun c =>
 J c) : Zz0 Tryz.prog YfI #[.pointer a] w [] J:=Zz3 Tryz.func199 (.o) (Eq.mpr (by kernel_rfl) h)
theorem YdH {a : Option Addr} {w : World} {J : Bool -> World -> Prop} (h :
 ZzC a fun b =>
 extJ Tryz.prog YcJ #[.pointer (some b)] w [.one (.int .u32)] fun c d =>
 J (c != (0 : Int)) d) : Zz0 Tryz.prog Yaw #[.pointer a] w [.one .bool] J:=Zz3 Tryz.func176 (.s .o (.s .o .o)) (Eq.mpr (by kernel_rfl) h)
end Go.Proofs.YtglnmjflpkeclaaGreatDoor
end
section
namespace Go.Vc
open Go Go.RowKit
structure Chg (S : Nat -> Prop) (w w' : World) : Prop where
 os : w'.os = w.os
 tape : w'.tape = w.tape
 output : w'.output = w.output
 size : w.heap.size <= w'.heap.size
 keep : ∀ b, b < w.heap.size -> ¬ S b -> w'.heap[b]? = w.heap[b]?
def No : Nat -> Prop:=fun _ => False
section
variable {S S' : Nat -> Prop} {a w w' : World}
theorem Chg.refl (S : Nat -> Prop) (w : World) : Chg S w w:=⟨rfl, rfl, rfl, Nat.le_refl _, fun _ _ _ => rfl⟩
theorem Chg.trans (h : Chg S a w) (k : Chg S' w w') (hS : ∀ b, b < a.heap.size -> S' b -> S b) : Chg S a w' :=
 ⟨k.os.trans h.os, k.tape.trans h.tape, k.output.trans h.output, Nat.le_trans h.size k.size, fun b hb hn =>
  (k.keep b (Nat.lt_of_lt_of_le hb h.size) (fun hs => hn (hS b hb hs))).trans (h.keep b hb hn)⟩
theorem Chg.trans0 (h : Chg S a w) (k : Chg No w w') : Chg S a w':=h.trans k fun _ _ hf => hf.elim
theorem Chg.mono (h : Chg S a w) (hS : ∀ b, b < a.heap.size -> S b -> S' b) : Chg S' a w :=
 ⟨h.os, h.tape, h.output, h.size, fun b hb hn => h.keep b hb (fun hs => hn (hS b hb hs))⟩
theorem Chg.drew (h : Chg S a w) : Chg S a w.drew:=⟨h.os, h.tape, h.output, h.size, h.keep⟩
theorem Chg.alloc (h : Chg S a w) (o : Obj) : Chg S a (w.alloc o) :=
 h.trans0 ⟨rfl, rfl, rfl, by simp, fun b hb _ => heap_alloc_old w o hb⟩
theorem Chg.setRow (h : Chg S a w) (b : Nat) (cs : Array Value) (hb : b < a.heap.size -> S b) : Chg S a (w.setRow b cs) :=
 h.trans (S':=fun x => x = b) ⟨rfl, rfl, rfl, by simp, fun x _ hx => setRow_other w b x cs hx⟩ (fun x hx he => by subst he; exact hb hx)
theorem Chg.setBlk (h : Chg S a w) (b : Nat) (o : Obj) (hb : b < a.heap.size -> S b) : Chg S a (setBlk w b o) :=
 h.trans (S':=fun x => x = b) ⟨rfl, rfl, rfl, by simp [Vc.setBlk], fun x _ hx => by simp [Vc.setBlk, Array.getElem?_setIfInBounds_ne (Ne.symm hx)]⟩ (fun x hx he => by subst he; exact hb hx)
theorem Chg.of_grown {row : Option Nat} (h : w.grownBy w' row) (hr : ∀ b, row = some b -> S b) : Chg S w w' :=
 ⟨h.os, h.tape, h.output, h.size, fun b hb hn => h.block b hb (fun e => hn (hr b e.symm))⟩
theorem Chg.below (h : Chg No w w') : Below w.heap.size w w':=⟨h.os, h.tape, h.output, h.size, fun b hb => h.keep b hb (fun hf => hf.elim)⟩
theorem Chg.of_below (h : Below w.heap.size w w') : Chg No w w':=⟨h.os, h.tape, h.output, h.size, fun b hb _ => h.block b hb⟩
theorem Zy4 {b : Nat} {o : Obj} (h : w.heap[b]? = some o) : b < w.heap.size:=(Array.getElem?_eq_some_iff.1 h).1
theorem lt_of_cell {ad : Addr} {v : Value} (h : w.cell? ad = some v) : ad.block < w.heap.size:=World.block_lt_of_cell? w ad h
theorem Chg.heap {b : Nat} {o : Obj} (h : Chg S w w') (hb : w.heap[b]? = some o) (hn : ¬ S b) : w'.heap[b]? = some o:=(h.keep b (Zy4 hb) hn).trans hb
theorem Chg.cell {ad : Addr} {v : Value} (h : Chg S w w') (hc : w.cell? ad = some v) (hn : ¬ S ad.block) : w'.cell? ad = some v:=by
 rw [World.cell?_of_block (h.keep ad.block (lt_of_cell hc) hn)]; exact hc
theorem Chg.cells {ad : Addr} {cs : List Value} (h : Chg S w w') (hc : ZzV w ad cs) (hn : ¬ S ad.block) : ZzV w' ad cs:=by
 intro j v hv
 have : (ad.add j).block = ad.block:=by unfold Addr.add; split <;> rfl
 exact h.cell (hc j v hv) (by rw [this]; exact hn)
end
theorem Addr.add_mk (b o n : Nat) : (⟨b, o, none⟩ : Addr).add n = ⟨b, o + n, none⟩:=by unfold Addr.add; split <;> simp_all
theorem Addr.add_block (a : Addr) (n : Nat) : (a.add n).block = a.block:=by unfold Addr.add; split <;> rfl
theorem Addr.add_add {a : Addr} (n m : Nat) (h : a.spot = none) : (a.add n).add m = a.add (n + m):=by
 obtain ⟨b, o, s⟩:=a
 subst h
 simp only [Addr.add_mk, Nat.add_assoc]
theorem YhT (w : World) (a : Addr) : ZzV w a []:=by intro j v hv; simp at hv
theorem cellsAt_spot {w : World} {a : Addr} {cs : List Value} (h : ZzV w a cs) (hn : cs ≠ []) : a.spot = none:=by
 cases cs with
 | nil => exact absurd rfl hn
 | cons c cs => have:=h 0 c rfl; rw [add_zero'] at this; exact World.cell?_spot this
theorem ZqC {w : World} {a : Addr} {cs : List Value} (k : Nat) (h : ZzV w a cs) : ZzV w (a.add k) (cs.drop k):=by
 intro j v hv
 rw [getElem?_drop] at hv
 have hne : cs ≠ []:=by rintro rfl; simp at hv
 rw [Addr.add_add _ _ (cellsAt_spot h hne)]
 exact h (k + j) v hv
theorem ZyZ {w : World} {a : Addr} {cs : List Value} (k : Nat) (h : ZzV w a cs) : ZzV w a (cs.take k):=by
 intro j v hv
 rw [getElem?_take] at hv
 split at hv
 ·exact h j v hv
 ·simp at hv
theorem Ybc {w : World} {b off : Nat} {cs : List Value} {e : TypeId} {fz : Nat × Nat} (h : w.heap[b]? = some (.cells ⟨cs⟩ e fz)) : ZzV w ⟨b, off, none⟩ (cs.drop off):=by
 intro j v hv
 rw [Addr.add_mk, cell_of_row w b (off + j) ⟨cs⟩ e fz h]
 rw [getElem?_drop] at hv
 simpa using hv
def Sl (w : World) (p : Option Addr) (l sz : Nat) (vs : List Value) : Prop:=vs.length = l * sz /\ (l = 0 \/ ∃ a, p = some a /\ ZzV w a vs)
def Bytes (w : World) (p : Option Addr) (l : Nat) (bs : List UInt8) : Prop:=Sl w p l 1 (bcells bs)
def off (p : Option Addr) (S : Nat -> Prop) : Prop := ∀ a, p = some a -> ¬ S a.block
section
variable {w w' : World} {p : Option Addr} {l sz : Nat} {vs : List Value} {bs : List UInt8} {S : Nat -> Prop}
theorem off_no (p : Option Addr) : off p No:=fun _ _ h => h.elim
theorem Sl.len (h : Sl w p l sz vs) : vs.length = l * sz:=h.1
theorem Sl.at (h : Sl w p l sz vs) (hl : l ≠ 0) : ∃ a, p = some a /\ ZzV w a vs:=h.2.resolve_left hl
theorem Sl.chg (h : Sl w p l sz vs) (hc : Chg S w w') (hn : off p S) : Sl w' p l sz vs :=
 ⟨h.1, h.2.imp id fun ⟨a, ha, hcs⟩ => ⟨a, ha, hc.cells hcs (hn a ha)⟩⟩
theorem Sl.nil (w : World) (p : Option Addr) (sz : Nat) : Sl w p 0 sz []:=⟨by simp, .inl rfl⟩
theorem Zyc (bs : List UInt8) : (bcells bs).length = bs.length:=by simp [bcells]
theorem Bytes.len (h : Bytes w p l bs) : bs.length = l:=by have:=h.1; simpa [bcells] using this
theorem Bytes.chg (h : Bytes w p l bs) (hc : Chg S w w') (hn : off p S) : Bytes w' p l bs:=Sl.chg h hc hn
theorem Bytes.bytesAt (h : Bytes w p l bs) : Vc.bytesAt w p l bs:=by
 have hl:=h.len
 rcases h.2 with h0 | ⟨a, ha, hc⟩
 ·subst h0
  have : bs = []:=eq_nil_of_length_eq_zero hl
  subst this
  cases p with
  | none => rfl
  | some a => exact ⟨rfl, YhT _ _⟩
 ·subst ha
  exact ⟨hl, hc⟩
theorem Zq2 {K : List UInt8 -> Prop} (h : Bytes w p l bs) (k : K bs) : bytesOf w p l K:=⟨bs, h.bytesAt, k⟩
theorem idx_sl {i : Int} {K : Addr -> Prop} (h : Sl w p l sz vs) (h0 : 0 <= i) (h1 : i < l)
  (k : ∀ a, p = some a -> ZzV w (a.add (i.toNat * sz)) (vs.drop (i.toNat * sz)) -> K a) : ZzS p l i K:=by
 obtain ⟨a, ha, hc⟩:=h.at (by omega)
 subst ha
 exact ⟨h0, h1, k a rfl (ZqC _ hc)⟩
theorem ZzG {w : World} {a : Addr} {v : Value} {vs : List Value} (h : ZzV w a (v :: vs)) : w.cell? a = some v:=by
 have:=h 0 v rfl; rwa [add_zero'] at this
theorem Yfh {w : World} {a : Addr} {cs : List Value} {v : Value} (h : ZzV w a cs) (j : Nat) (hv : cs[j]? = some v) : w.cell? (a.add j) = some v:=h j v hv
theorem Ycb {i : Int} {K : Int -> Prop} (h : Bytes w p l bs) (h0 : 0 <= i) (h1 : i < l) (k : ∀ b : UInt8, bs[i.toNat]? = some b -> K b.toNat) :
  ZzS p l i fun a => ldI .u8 w (a.add (i.toNat * 1)) K:=by
 have hl:=h.len
 have hlt : i.toNat < bs.length:=by omega
 refine idx_sl h h0 h1 fun a _ hc => ?_
 rw [Nat.mul_one] at hc ⊢
 have hb : bs[i.toNat]? = some bs[i.toNat]:=getElem?_eq_getElem hlt
 refine ⟨bs[i.toNat].toNat, ?_, k _ hb⟩
 have:=hc 0 (.int .u8 bs[i.toNat].toNat) (by rw [getElem?_drop]; simp [bcells, hb])
 rwa [add_zero'] at this
theorem slS_sl {c : Nat} {lo hi : Option Int} {K : Option Addr -> Nat -> Nat -> Prop} {i j : Nat} (h : Sl w p l sz vs) (e1 : lo.getD 0 = (i : Int)) (e2 : hi.getD l = (j : Int)) (hij : i <= j) (hjl : j <= l) (hlc : l <= c)
  (k : ∀ p', Sl w p' (j - i) sz ((vs.drop (i * sz)).take ((j - i) * sz)) -> (∀ S, off p S -> off p' S) -> K p' (j - i) (c - i)) : slS p l c sz lo hi none K:=by
 refine ⟨i, j, c, e1, e2, rfl, hij, by omega, Nat.le_refl _, k _ ⟨?_, ?_⟩ ?_⟩
 ·rw [length_take, length_drop, h.1]
  have : (j - i) * sz <= l * sz - i * sz:=by rw [<- Nat.sub_mul]; exact Nat.mul_le_mul_right _ (by omega)
  omega
 ·by_cases h0 : j - i = 0
  ·exact .inl h0
  ·right
   obtain ⟨a, ha, hc⟩:=h.at (by omega)
   have hci : c ≠ i:=by omega
   refine ⟨a.add (i * sz), by simp [hci, ha], ZyZ _ (ZqC _ hc)⟩
 ·intro S hS a ha
  split at ha
  ·exact hS a ha
  ·cases p with
   | none => simp at ha
   | some x => simp at ha; subst ha; rw [Addr.add_block]; exact hS x rfl
end
structure SlT (P : Program) (t e : TypeId) (sz bytes : Nat) (z : Array Value) : Prop where
 hu : P.underlying t = some (.slice e)
 info : ∃ (i : TypeInfo) (v : Value), P.info? e = some i /\ i.zero = some v /\ i.size = sz /\ i.bytes = bytes /\ v.cells = z
 hz : z.size = sz
 pos : 0 < sz
theorem SlT.of {P : Program} {t e : TypeId} {sz bytes : Nat} {z : Array Value} (hu : P.underlying t = some (.slice e))
  (hi : (P.info? e).map (fun i => (i.zero.map Value.cells, i.size, i.bytes)) = some (some z, sz, bytes)) (hz : z.size = sz) (pos : 0 < sz) : SlT P t e sz bytes z:=by
 refine ⟨hu, ?_, hz, pos⟩
 cases h : P.info? e with
 | none => simp [h] at hi
 | some i =>
  simp only [h, Option.map_some, Option.some.injEq, Prod.mk.injEq] at hi
  obtain ⟨h1, h2, h3⟩:=hi
  cases hv : i.zero with
  | none => simp [hv] at h1
  | some v => exact ⟨i, v, rfl, hv, h2, h3, by simpa [hv] using h1⟩
def isB (p : Option Addr) : Nat -> Prop:=fun b => ∃ a, p = some a /\ a.block = b
def fresh (w : World) (p : Option Addr) : Prop := ∀ a, p = some a -> w.heap.size <= a.block
def Row (w : World) (e : TypeId) (sz : Nat) (p : Option Addr) (l c : Nat) (xs : List Value) : Prop :=
 xs.length = l * sz /\ ((p = none /\ l = 0 /\ c = 0) \/ ∃ b rest, p = some ⟨b, 0, none⟩ /\ w.heap[b]? = some (.cells ⟨xs ++ rest⟩ e (0, 0)) /\ l <= c /\ c <= maxLen /\ (xs ++ rest).length = c * sz)
section
variable {w w' : World} {e : TypeId} {sz : Nat} {p : Option Addr} {l c : Nat} {xs : List Value} {S : Nat -> Prop}
theorem Row.len (h : Row w e sz p l c xs) : xs.length = l * sz:=h.1
theorem Row.sl (h : Row w e sz p l c xs) : Sl w p l sz xs:=by
 refine ⟨h.1, ?_⟩
 rcases h.2 with ⟨_, h0, _⟩ | ⟨b, rest, hp, hh, _⟩
 ·exact .inl h0
 ·right
  refine ⟨_, hp, ?_⟩
  have:=ZyZ xs.length (Ybc (off:=0) hh)
  simpa using this
theorem Row.le (h : Row w e sz p l c xs) : l <= c /\ c <= maxLen:=by
 rcases h.2 with ⟨_, h0, h1⟩ | ⟨b, rest, hp, hh, h1, h2, _⟩
 ·subst h0; subst h1; exact ⟨Nat.le_refl _, Nat.zero_le _⟩
 ·exact ⟨h1, h2⟩
theorem Row.lt (h : Row w e sz p l c xs) : ∀ a, p = some a -> a.block < w.heap.size:=by
 intro a ha
 rcases h.2 with ⟨h0, _⟩ | ⟨b, rest, hp, hh, _⟩
 ·rw [h0] at ha; cases ha
 ·rw [hp] at ha; cases ha; exact Zy4 hh
theorem Row.chg (h : Row w e sz p l c xs) (hc : Chg S w w') (hn : off p S) : Row w' e sz p l c xs:=by
 refine ⟨h.1, h.2.imp id ?_⟩
 rintro ⟨b, rest, hp, hh, r⟩
 exact ⟨b, rest, hp, hc.heap hh (hn _ hp), r⟩
theorem Row.none0 (h : Row w e sz p l c xs) : p = none -> l = 0:=by
 intro hp
 rcases h.2 with ⟨_, h0, _⟩ | ⟨b, rest, hp', _⟩
 ·exact h0
 ·rw [hp] at hp'; cases hp'
theorem Row.some0 (h : Row w e sz p l c xs) (hl : l ≠ 0) : ∃ b rest, p = some ⟨b, 0, none⟩ /\ w.heap[b]? = some (.cells ⟨xs ++ rest⟩ e (0, 0)) /\ l <= c /\ c <= maxLen /\ (xs ++ rest).length = c * sz:=by
 rcases h.2 with ⟨_, h0, _⟩ | h
 ·exact absurd h0 hl
 ·exact h
theorem Row.at0 (h : Row w e sz p l c xs) (hl : l ≠ 0) : ∃ b, p = some ⟨b, 0, none⟩:=by
 obtain ⟨b, _, hp, _⟩:=h.some0 hl
 exact ⟨b, hp⟩
theorem Row.nil (w : World) (e : TypeId) (sz : Nat) : Row w e sz none 0 0 []:=⟨by simp, .inl ⟨rfl, rfl, rfl⟩⟩
theorem Row.owns (h : Row w e sz p l c xs) : w.ownsRow 0 e sz (.slice p l c) l xs:=by
 refine ⟨h.1, ?_⟩
 rcases h.2 with ⟨h0, h1, h2⟩ | ⟨b, rest, hp, hh, h1, h2, h3⟩
 ·subst h0; subst h1; subst h2; exact .inl ⟨rfl, rfl⟩
 ·subst hp
  refine .inr ⟨b, c, _, rfl, Nat.zero_le _, hh, h1, h2, by simpa using h3, ?_⟩
  rw [<- h.1]; simp
theorem Row.of_owns {v : Value} {n : Nat} (h : w.ownsRow 0 e sz v n xs) : ∃ p c, v = .slice p n c /\ Row w e sz p n c xs:=by
 obtain ⟨hl, h⟩:=h
 rcases h with ⟨rfl, rfl⟩ | ⟨g, cap, cur, rfl, _, hh, h1, h2, h3, h4⟩
 ·exact ⟨none, 0, rfl, hl, .inl ⟨rfl, rfl, rfl⟩⟩
 ·refine ⟨_, _, rfl, hl, .inr ⟨g, cur.toList.drop (n * sz), rfl, ?_, h1, h2, ?_⟩⟩
  ·rw [<- h4, take_append_drop]; simpa using hh
  ·rw [<- h4, take_append_drop]; simpa using h3
theorem Row.bytes {t : TypeId} {bs : List UInt8} (h : Row w t 1 p l c (bcells bs)) : Bytes w p l bs:=h.sl
end
def typ (w : World) (b : Nat) : Option TypeId:=match w.heap[b]? with | some (.cells _ e _) => some e | _ => none
theorem Zzy {w : World} {b : Nat} {cs : Array Value} {e : TypeId} {fz : Nat × Nat} (h : w.heap[b]? = some (.cells cs e fz)) : typ w b = some e:=by unfold typ; rw [h]
theorem typ_lt {w : World} {b : Nat} {e : TypeId} (h : typ w b = some e) : b < w.heap.size:=by
 unfold typ at h
 split at h
 ·next hh => exact Zy4 hh
 ·cases h
theorem Zxh {w w' : World} {S : Nat -> Prop} {b : Nat} {e : TypeId} (hc : Chg S w w') (h : typ w b = some e) (hn : ¬ S b) : typ w' b = some e:=by
 unfold typ; rw [hc.keep b (typ_lt h) hn]; exact h
theorem Row.typ {w : World} {e : TypeId} {sz : Nat} {p : Option Addr} {l c : Nat} {xs : List Value} (h : Row w e sz p l c xs) : ∀ a, p = some a -> typ w a.block = some e:=by
 intro a ha
 rcases h.2 with ⟨h0, _⟩ | ⟨b, rest, hp, hh, _⟩
 ·rw [h0] at ha; cases ha
 ·rw [hp] at ha; cases ha; exact Zzy hh
def one1 (vs : List Value) : Prop := ∀ v ∈ vs, v.oneCell' = true
theorem Yf6 (bs : List UInt8) : one1 (bcells bs):=by
 intro v hv; obtain ⟨b, _, rfl⟩:=mem_map.1 hv; rfl
theorem YeB : one1 []:=by intro v hv; cases hv
theorem Ya5 {v : Value} {vs : List Value} (h : v.oneCell' = true) (k : one1 vs) : one1 (v :: vs):=by
 intro x hx; rcases mem_cons.1 hx with rfl | hx
 ·exact h
 ·exact k x hx
theorem Ycc {P : Program} {t e : TypeId} {sz by_ : Nat} {z : Array Value} (T : SlT P t e sz by_ z) {w : World} {p q : Option Addr} {l c m c2 : Nat} {xs news : List Value}
  {K : Option Addr -> Nat -> Nat -> World -> Prop} (h : Row w e sz p l c xs) (src : Sl w q m sz news) (h1 : one1 news) (hm : q = none -> m = 0) (hb : (l + m) * by_ <= 140737488355328) (hmax : l + m <= maxLen)
  (k : ∀ p' c' w', Row w' e sz p' (l + m) c' (xs ++ news) -> Chg (isB p) w w' -> (p' = p \/ (fresh w p' /\ c < l + m)) -> K p' (l + m) c' w') :
  YeJ P t t (.slice p l c) (.slice q m c2) w K:=by
 obtain ⟨i, v, hi, hz, hsz, hby, hv⟩:=T.info
 have hown:=h.owns
 have fin : ∀ v' w', (∀ ty, (Builtin.append_ #[t, t] ty #[.slice p l c, .slice q m c2]).run P w = .ok v' w') -> w'.ownsRow 0 e sz v' (l + m) (xs ++ news) -> Chg (isB p) w w' ->
   (v' = .slice p (l + m) c \/ ∀ p' c', v' = .slice p' (l + m) c' -> (fresh w p' /\ c < l + m)) -> YeJ P t t (.slice p l c) (.slice q m c2) w K:=by
  intro v' w' hr ho hc hf
  obtain ⟨p', c', rfl, hrow⟩:=Row.of_owns ho
  refine ⟨p', l + m, c', w', hr, k p' c' w' hrow hc ?_⟩
  rcases hf with hf | hf
  ·left; injection hf
  ·exact .inr (hf p' c' rfl)
 cases q with
 | none =>
  have h0:=hm rfl
  subst h0
  have hn : news = []:=eq_nil_of_length_eq_zero (by simpa using src.1)
  subst hn
  refine fin (.slice p l c) w (fun ty => ?_) (by simpa using hown) (Chg.refl _ _) (.inl rfl)
  have hle:=h.le.1
  cases p with
  | none => simp [Builtin.append_, run_underlying T.hu, sizeOf, typeInfo, hi, Builtin.lenOf, Builtin.firstCells, hle]
  | some a => simp [Builtin.append_, run_underlying T.hu, sizeOf, typeInfo, hi, Builtin.lenOf, Builtin.firstCells, hle, storeCells]
 | some ad =>
  have hnews : ∀ j u, news[j]? = some u -> w.cell? (ad.add j) = some u:=by
   rcases src.2 with h0 | ⟨a, ha, hc⟩
   ·intro j u hu
    have hn : news = []:=eq_nil_of_length_eq_zero (by have:=src.1; rw [h0] at this; simpa using this)
    subst hn; simp at hu
   ·cases ha; exact hc
  have fz : v.cells.size = sz:=by rw [hv]; exact T.hz
  obtain ⟨v', w', hr, ho, hg, hnil⟩:=run_append_own (P:=P) w 0 t 0 e i v sz by_ (T.hu) hi hz hsz hby fz T.pos (.slice p l c) l xs hown ad m c2 news src.1 hnews h1 hmax hb (Nat.zero_le _)
  have hr' : ∀ ty, (Builtin.append_ #[t, t] ty #[.slice p l c, .slice (some ad) m c2]).run P w = .ok v' w':=fun ty => hr
  have hcg : Chg (isB p) w w':=Chg.of_grown hg (fun b hb => by
   cases p with
   | none => simp [Value.ownBlock] at hb
   | some x => simp [Value.ownBlock] at hb; exact ⟨x, rfl, hb⟩)
  -- where the new row lies
  by_cases hroom : l + m <= c
  · -- in place
   rcases h.2 with ⟨h0, h2, h3⟩ | ⟨b, rest, hp, hh, hlc, hcm, hcs⟩
   ·subst h0; subst h2; subst h3
    have hm0 : m = 0:=by omega
    subst hm0
    have:=hnil.2 ⟨rfl, rfl⟩
    subst this
    exact fin _ _ hr' ho hcg (.inl rfl)
   ·subst hp
    subst hsz
    have hroomr:=run_append_room (P:=P) w t 0 e i T.hu hi b l c ⟨xs ++ rest⟩ hh ad m c2 news src.1 hnews h1 hroom (by
     rw [src.1, <- Nat.add_mul]; simp only [size_toArray]; rw [hcs]; exact Nat.mul_le_mul_right _ hroom)
    rw [hr] at hroomr
    injection hroomr with e1 e2
    exact fin _ _ hr' ho hcg (.inl e1)
  · -- a new block
   refine fin _ _ hr' ho hcg (.inr ?_)
   intro p' c' hp'
   refine ⟨?_, by omega⟩
   intro a ha
   subst hp'
   obtain ⟨p2, c2', e1, hrow⟩:=Row.of_owns ho
   have hp2 : p' = p2:=by injection e1
   subst hp2
   -- the block's cells are more than the old ones: else it lies where it was; decided by the run itself
   rcases h.2 with ⟨h0, h2, h3⟩ | ⟨b, rest, hp, hh, hlc, hcm, hcs⟩
   ·subst h0; subst h2; subst h3
    have hr2:=run_append_nil (P:=P) w t 0 e i v T.hu hi hz ad m c2 news (by rw [hsz]; exact src.1) hnews (by omega) (by simp only [maxLen] at hmax; omega) (by rw [hby]; have hb':=hb; simp only [Nat.zero_add] at hb'; omega)
    rw [hr] at hr2
    injection hr2 with e2 e3
    injection e2 with e4
    rw [ha] at e4
    injection e4 with e5
    rw [e5]
    exact Nat.le_refl _
   ·subst hp
    subst hsz
    have holds : ∀ j u, xs[j]? = some u -> w.cell? ((⟨b, 0, none⟩ : Addr).add j) = some u:=by
     have:=h.sl
     rcases this.2 with h0 | ⟨a', ha', hc'⟩
     ·intro j u hu
      have hn : xs = []:=eq_nil_of_length_eq_zero (by have:=h.1; rw [h0] at this; simpa using this)
      subst hn; simp at hu
     ·cases ha'; exact hc'
    have hr2:=run_append_grow (P:=P) w t 0 e i v T.hu hi hz ⟨b, 0, none⟩ l c xs h.1 holds ad m c2 news src.1 hnews (by omega) (by simp only [maxLen] at hmax; omega) (growslice_fits (by omega) (by rw [hby]; exact hb))
    rw [hr] at hr2
    injection hr2 with e2 e3
    injection e2 with e4
    rw [ha] at e4
    injection e4 with e5
    rw [e5]
    exact Nat.le_refl _
theorem YbR {P : Program} {t e : TypeId} {sz by_ : Nat} {z : Array Value} (T : SlT P t e sz by_ z) {w : World} {p q : Option Addr} {l c m c2 : Nat} {xs news : List Value}
  {K : Option Addr -> Nat -> Nat -> World -> Prop} (h : Row w e sz p l c xs) (src : Sl w q m sz news) (h1 : one1 news) (hm : q = none -> m = 0) (hb : (l + m) * by_ <= 140737488355328) (hmax : l + m <= maxLen)
  (k : ∀ p' c' w', Row w' e sz p' (l + m) c' (xs ++ news) -> Chg (isB p) w w' -> (p' = p \/ fresh w p') -> K p' (l + m) c' w') :
  YeJ P t t (.slice p l c) (.slice q m c2) w K :=
 Ycc T h src h1 hm hb hmax fun p' c' w' hr hc hf => k p' c' w' hr hc (hf.imp id (·.1))
def splice (cs : List Value) (off : Nat) (vs : List Value) : List Value:=cs.take off ++ vs ++ cs.drop (off + vs.length)
theorem ZyK {cs vs : List Value} (h : cs.length = vs.length) : splice cs 0 vs = vs:=by simp [splice, <- h]
theorem Yed {b : Nat} {e : TypeId} : ∀ (vs : List Value) (i off : Nat) (cs : List Value) (w : World), w.heap[b]? = some (.cells ⟨cs⟩ e (0, 0)) -> off + i + vs.length <= cs.length ->
  setCells w ⟨b, off, none⟩ i vs = w.setRow b ⟨cs.take (off + i) ++ vs ++ cs.drop (off + i + vs.length)⟩
 | [], i, off, cs, w, h, _ => by
  simp only [setCells, append_nil, length_nil, Nat.add_zero, take_append_drop]
  rw [setRow_self w b ⟨cs⟩ e (0, 0) h]
 | v :: vs, i, off, cs, w, h, hl => by
  simp only [length_cons] at hl
  simp only [setCells, Addr.add_mk]
  rw [setCell_eq_setRow w b (off + i) ⟨cs⟩ e (0, 0) v h]
  have h2:=setRow_heap w b ⟨cs⟩ ((⟨cs⟩ : Array Value).setIfInBounds (off + i) v) e (0, 0) h
  have e1 : (⟨cs⟩ : Array Value).setIfInBounds (off + i) v = ⟨cs.set (off + i) v⟩:=by apply Array.ext'; simp
  rw [e1] at h2 ⊢
  rw [Yed vs (i + 1) off (cs.set (off + i) v) _ h2 (by simp; omega), setRow_setRow]
  congr 2
  have:=list_seg_step cs (off + i) v vs (by omega)
  simp only [length_cons]
  rw [show off + (i + 1) = off + i + 1 by omega]
  exact this
structure Blk where
 b : Nat
 cs : List Value
 e : TypeId
structure Hp (w0 : World) (S : Nat -> Prop) (w : World) (Γ : List Blk) : Prop where
 chg : Chg S w0 w
 is : ∀ p ∈ Γ, w.heap[p.b]? = some (.cells ⟨p.cs⟩ p.e (0, 0))
 nd : (Γ.map (·.b)).Nodup
 own : ∀ p ∈ Γ, p.b < w0.heap.size -> S p.b
section
variable {w0 w w' : World} {S S' : Nat -> Prop} {Γ : List Blk} {b : Nat} {cs : List Value} {e : TypeId}
theorem Yht {l : List Nat} (h : l.Nodup) {i j x : Nat} (hi : l[i]? = some x) (hj : l[j]? = some x) : i = j:=by
  have h1:=(List.getElem?_eq_some_iff.1 hi)
  have h2:=(List.getElem?_eq_some_iff.1 hj)
  obtain ⟨a1, a2⟩:=h1
  obtain ⟨b1, b2⟩:=h2
  have hp:=List.pairwise_iff_getElem.1 h
  rcases Nat.lt_trichotomy i j with hlt | heq | hgt
  · exact absurd (a2.trans b2.symm) (hp i j a1 b1 hlt)
  · exact heq
  · exact absurd (b2.trans a2.symm) (hp j i b1 a1 hgt)
theorem Hp.start (w : World) (S : Nat -> Prop) : Hp w S w []:=⟨Chg.refl _ _, by simp, by simp, by simp⟩
theorem Hp.of_chg (h : Chg S w0 w) : Hp w0 S w []:=⟨h, by simp, by simp, by simp⟩
theorem Hp.get (H : Hp w0 S w Γ) (i : Nat) (hi : Γ[i]? = some ⟨b, cs, e⟩) : w.heap[b]? = some (.cells ⟨cs⟩ e (0, 0)):=H.is _ (mem_of_getElem? hi)
theorem Hp.cell (H : Hp w0 S w Γ) (i : Nat) (hi : Γ[i]? = some ⟨b, cs, e⟩) {off : Nat} {v : Value} (hv : cs[off]? = some v) : w.cell? ⟨b, off, none⟩ = some v:=by
 rw [cell_of_row w b off _ e (0, 0) (H.get i hi)]; simpa using hv
theorem Hp.ldI (H : Hp w0 S w Γ) (i : Nat) (hi : Γ[i]? = some ⟨b, cs, e⟩) {off : Nat} {k : IntKind} {n : Int} {K : Int -> Prop} (hv : cs[off]? = some (.int k n)) (hk : K n) : Vc.ldI k w ⟨b, off, none⟩ K:=⟨n, H.cell i hi hv, hk⟩
theorem Hp.ldS (H : Hp w0 S w Γ) (i : Nat) (hi : Γ[i]? = some ⟨b, cs, e⟩) {off l c : Nat} {p : Option Addr} {K : Option Addr -> Nat -> Nat -> Prop} (hv : cs[off]? = some (.slice p l c)) (hk : K p l c) : Vc.ldS w ⟨b, off, none⟩ K:=⟨p, l, c, H.cell i hi hv, hk⟩
theorem Hp.ldStr (H : Hp w0 S w Γ) (i : Nat) (hi : Γ[i]? = some ⟨b, cs, e⟩) {off : Nat} {x : ByteArray} {K : ByteArray -> Prop} (hv : cs[off]? = some (.string x)) (hk : K x) : Vc.ldStr w ⟨b, off, none⟩ K:=⟨x, H.cell i hi hv, hk⟩
theorem Hp.drew (H : Hp w0 S w Γ) : Hp w0 S w.drew Γ:=⟨H.chg.drew, H.is, H.nd, H.own⟩
theorem Hp.fresh (H : Hp w0 S w Γ) (i : Nat) (hi : Γ[i]? = some ⟨b, cs, e⟩) (hS : ¬ S b) : w0.heap.size <= b :=
 Nat.le_of_not_lt fun h => hS (H.own _ (mem_of_getElem? hi) h)
theorem Hp.lt (H : Hp w0 S w Γ) (i : Nat) (hi : Γ[i]? = some ⟨b, cs, e⟩) : b < w.heap.size:=Zy4 (H.get i hi)
theorem Hp.row (H : Hp w0 S w Γ) (i : Nat) (hi : Γ[i]? = some ⟨b, cs, e⟩) (cs' : List Value) : Hp w0 S (w.setRow b ⟨cs'⟩) (Γ.set i ⟨b, cs', e⟩):=by
  have hlt : i < Γ.length:=(List.getElem?_eq_some_iff.1 hi).1
  have hget : Γ[i] = ⟨b, cs, e⟩:=(List.getElem?_eq_some_iff.1 hi).2
  have hb:=H.own ⟨b, cs, e⟩ (List.mem_of_getElem? hi)
  refine ⟨H.chg.setRow b _ hb, fun p hp => ?_, ?_, fun p hp => ?_⟩
  · obtain ⟨j, hj⟩:=List.mem_iff_getElem?.1 hp
    rw [List.getElem?_set] at hj
    by_cases hij : i = j
    · rw [if_pos hij] at hj
      have hj' : some (⟨b, cs', e⟩ : Blk) = some p:=by subst hij; simpa [hlt] using hj
      cases hj'
      exact setRow_heap w b _ _ e (0, 0) (H.get i hi)
    · rw [if_neg hij] at hj
      have hne : p.b ≠ b:=by
        intro he
        have h1 : (Γ.map (·.b))[j]? = some b:=by rw [List.getElem?_map, hj]; simp [he]
        have h2 : (Γ.map (·.b))[i]? = some b:=by rw [List.getElem?_map, hi]; simp
        exact hij (Yht H.nd h2 h1)
      rw [setRow_other w b p.b _ hne]
      exact H.is p (List.mem_of_getElem? hj)
  · have : (Γ.set i ⟨b, cs', e⟩).map (·.b) = Γ.map (·.b):=by
      apply List.ext_getElem?
      intro j
      simp only [List.getElem?_map, List.getElem?_set]
      by_cases hij : i = j
      · subst hij; simp [hlt, hget]
      · simp [hij]
    rw [this]; exact H.nd
  · rcases List.mem_or_eq_of_mem_set hp with hp | rfl
    · exact H.own p hp
    · exact hb
theorem YeI (w : World) (b : Nat) (cs : Array Value) : Chg (fun x => x = b) w (w.setRow b cs):=(Chg.refl _ w).setRow b cs (fun _ => rfl)
theorem Hp.stV (H : Hp w0 S w Γ) (i : Nat) (hi : Γ[i]? = some ⟨b, cs, e⟩) {off : Nat} {v : Value} {K : World -> Prop} (ho : off < cs.length)
  (k : ∀ w', Hp w0 S w' (Γ.set i ⟨b, cs.set off v, e⟩) -> Chg (fun x => x = b) w w' -> K w') : Vc.stV w ⟨b, off, none⟩ v K:=by
 have hh:=H.get i hi
 refine ⟨⟨⟨cs[off], by rw [cell_of_row w b off _ e (0, 0) hh]; simp [ho]⟩, frozen_of_row w b off _ e hh⟩, ?_⟩
 have e1 : w.setCell ⟨b, off, none⟩ v = w.setRow b ⟨cs.set off v⟩:=by
  rw [setCell_eq_setRow w b off ⟨cs⟩ e (0, 0) v hh]
  congr 1; apply Array.ext'; simp
 rw [e1]
 exact k _ (H.row i hi _) (YeI _ _ _)
theorem Hp.stN (H : Hp w0 S w Γ) (i : Nat) (hi : Γ[i]? = some ⟨b, cs, e⟩) {off n : Nat} {vs : List Value} {K : World -> Prop} (hn : vs.length = n) (ho : off + n <= cs.length) (h1 : one1 vs)
  (k : ∀ w', Hp w0 S w' (Γ.set i ⟨b, splice cs off vs, e⟩) -> Chg (fun x => x = b) w w' -> K w') : Vc.stN w ⟨b, off, none⟩ ⟨vs⟩ n K:=by
 have hh:=H.get i hi
 refine ⟨by simpa using hn, h1, fun j hj => ?_, ?_⟩
 ·rw [Addr.add_mk]
  have : off + j < cs.length:=by omega
  exact ⟨⟨cs[off + j], by rw [cell_of_row w b (off + j) _ e (0, 0) hh]; simp [this]⟩, frozen_of_row w b (off + j) _ e hh⟩
 ·have e1 : setCells w ⟨b, off, none⟩ 0 vs = w.setRow b ⟨splice cs off vs⟩:=by
   rw [Yed vs 0 off cs w hh (by omega)]; rfl
  rw [show (⟨vs⟩ : Array Value).toList = vs from rfl, e1]
  exact k _ (H.row i hi _) (YeI _ _ _)
theorem YfO (w : World) (o : Obj) : Chg No w (w.alloc o):=(Chg.refl _ w).alloc o
theorem Hp.new (H : Hp w0 S w Γ) (cs : List Value) (e : TypeId) : Hp w0 S (w.alloc (.cells ⟨cs⟩ e)) (⟨w.heap.size, cs, e⟩ :: Γ):=by
 refine ⟨H.chg.alloc _, fun p hp => ?_, ?_, fun p hp hlt => ?_⟩
 ·rcases mem_cons.1 hp with rfl | hp
  ·exact heap_alloc_new w _
  ·exact (YfO w _).heap (H.is p hp) (fun h => h)
 ·simp only [map_cons, nodup_cons]
  refine ⟨fun hm => ?_, H.nd⟩
  obtain ⟨p, hp, hpb⟩:=mem_map.1 hm
  have:=Zy4 (H.is p hp)
  omega
 ·rcases mem_cons.1 hp with rfl | hp
  ·have:=H.chg.size
   simp only at hlt
   omega
  ·exact H.own p hp hlt
theorem Hp.newB (H : Hp w0 S w Γ) {cs : List Value} {e : TypeId} {K : Nat -> World -> Prop}
  (k : ∀ b w', Hp w0 S w' (⟨b, cs, e⟩ :: Γ) -> w.heap.size <= b -> Chg No w w' -> K b w') : Vc.newB w (.cells ⟨cs⟩ e) K :=
 k _ _ (H.new cs e) (Nat.le_refl _) (YfO _ _)
theorem madeCells_eq (z : Array Value) (k sz : Nat) (h : z.size = sz) : madeCells z (k * sz) = ⟨(replicate k z.toList).flatten⟩:=by
 subst h; exact zrow_eq z k
theorem Hp.mkS (H : Hp w0 S w Γ) {e : TypeId} {z : Array Value} {sz by_ : Nat} {l c : Int} {K : Nat -> World -> Prop} (hz : z.size = sz) (h0 : 0 <= l) (h1 : l <= c) (h2 : (by_ : Int) * c <= 281474976710656) (h3 : c <= 9223372036854775807)
  (k : ∀ b w', Hp w0 S w' (⟨b, (replicate c.toNat z.toList).flatten, e⟩ :: Γ) -> w.heap.size <= b -> Chg No w w' -> K b w') : Vc.mkS w e z sz by_ l c K:=by
 refine ⟨h0, h1, h2, h3, ?_⟩
 rw [madeCells_eq z c.toNat sz hz]
 exact H.newB k
theorem Hp.step (H : Hp w0 S w Γ) (hc : Chg S' w w') (hn : ∀ p ∈ Γ, ¬ S' p.b) (hS : ∀ b, b < w0.heap.size -> S' b -> S b) : Hp w0 S w' Γ :=
 ⟨H.chg.trans hc hS, fun p hp => hc.heap (H.is p hp) (hn p hp), H.nd, H.own⟩
theorem Hp.step0 (H : Hp w0 S w Γ) (hc : Chg No w w') : Hp w0 S w' Γ:=H.step hc (fun _ _ h => h) (fun _ _ h => h.elim)
theorem Hp.add (H : Hp w0 S w Γ) (hb : w.heap[b]? = some (.cells ⟨cs⟩ e (0, 0))) (hn : ∀ p ∈ Γ, p.b ≠ b) (hS : b < w0.heap.size -> S b) : Hp w0 S w (⟨b, cs, e⟩ :: Γ):=by
 refine ⟨H.chg, fun p hp => ?_, ?_, fun p hp => ?_⟩
 ·rcases mem_cons.1 hp with rfl | hp
  ·exact hb
  ·exact H.is p hp
 ·simp only [map_cons, nodup_cons]
  refine ⟨fun hm => ?_, H.nd⟩
  obtain ⟨p, hp, hpb⟩:=mem_map.1 hm
  exact hn p hp hpb
 ·rcases mem_cons.1 hp with rfl | hp
  ·exact hS
  ·exact H.own p hp
theorem Hp.oldSl {p : Option Addr} {l sz : Nat} {vs : List Value} (H : Hp w0 S w Γ) (h : Sl w0 p l sz vs) (hn : off p S) : Sl w p l sz vs:=h.chg H.chg hn
theorem Hp.asRow (H : Hp w0 S w Γ) (i : Nat) (hi : Γ[i]? = some ⟨b, cs, e⟩) {sz l c : Nat} {xs rest : List Value} (hcs : cs = xs ++ rest) (hl : xs.length = l * sz) (hlc : l <= c) (hc : c <= maxLen) (hlen : cs.length = c * sz) :
  Row w e sz (some ⟨b, 0, none⟩) l c xs:=⟨hl, .inr ⟨b, rest, rfl, by rw [H.get i hi, hcs], hlc, hc, by rw [<- hcs]; exact hlen⟩⟩
theorem slS_pre {p : Option Addr} {l c sz j : Nat} {K : Option Addr -> Nat -> Nat -> Prop} (hp : ∃ b, p = some ⟨b, 0, none⟩) (hj : j <= c) (hc : c ≠ 0) (k : K p j c) : slS p l c sz none (some (j : Int)) none K:=by
 obtain ⟨b, rfl⟩:=hp
 refine ⟨0, j, c, rfl, rfl, rfl, Nat.zero_le _, hj, Nat.le_refl _, ?_⟩
 simp only [Nat.sub_zero, hc, if_false, Nat.zero_mul, Option.map_some, Addr.add_mk, Nat.add_zero]
 exact k
theorem Hp.cpy {P : Program} (H : Hp w0 S w Γ) (i : Nat) (hi : Γ[i]? = some ⟨b, cs, e⟩) {t el : TypeId} {by_ : Nat} {z : Array Value} (T : SlT P t el 1 by_ z) {off l c m c2 : Nat} {q : Option Addr} {vs : List Value} {K : Int -> World -> Prop}
  (src : Sl w q m 1 vs) (hq : q = none -> m = 0) (h1 : one1 vs) (fit : off + min m l <= cs.length)
  (k : ∀ w', Hp w0 S w' (Γ.set i ⟨b, splice cs off (vs.take (min m l)), e⟩) -> Chg (fun x => x = b) w w' -> K ((min m l : Nat) : Int) w') :
  cpyJ P t t (.slice (some ⟨b, off, none⟩) l c) (.slice q m c2) w K:=by
 obtain ⟨ti, v, hti, hz, hsz, hby, hv⟩:=T.info
 have hh:=H.get i hi
 have hlen : vs.length = m:=by simpa using src.1
 cases q with
 | none =>
  have h0:=hq rfl
  subst h0
  have hvs : vs = []:=eq_nil_of_length_eq_zero hlen
  subst hvs
  refine ⟨0, w, fun ty => ?_, ?_⟩
  ·simp [Builtin.copy_, run_underlying T.hu, Builtin.lenOf, Builtin.firstCells, sizeOf, typeInfo, hti, storeCells, goInt]
  ·have hk:=k (w.setRow b ⟨splice cs off ([].take (min 0 l))⟩) (H.row i hi _) (YeI _ _ _)
   have e2 : splice cs off (([] : List Value).take (min 0 l)) = cs:=by simp [splice]
   rw [e2, setRow_self w b ⟨cs⟩ e (0, 0) hh] at hk
   simpa using hk
 | some ad =>
  have hcells : ZzV w ad (vs.take (min m l)):=by
   rcases src.2 with h0 | ⟨a, ha, hc⟩
   ·have hvs : vs = []:=eq_nil_of_length_eq_zero (by omega)
    subst hvs; simp [YhT]
   ·cases ha; exact ZyZ _ hc
  have hl2 : (vs.take (min m l)).length = min m l:=by rw [length_take, hlen]; omega
  refine ⟨((min m l : Nat) : Int), w.setRow b ⟨splice cs off (vs.take (min m l))⟩, fun ty => ?_, ?_⟩
  ·have:=run_copy_row P w t t ty el b off l c ad m c2 ⟨cs⟩ e (vs.take (min m l)) T.hu (by rw [hti]; simp [hsz]) hh hl2 hcells (by rw [hl2]; exact fit) (fun x hx => h1 x (mem_of_mem_take hx))
   rw [this, hl2]
   simp [goInt, splice, hl2]
  ·exact k _ (H.row i hi _) (YeI _ _ _)
end
end Go.Vc
end
section
namespace Go.Vc
open Go
section
variable {α : Type} {f : α -> List Value} {k : Nat} {L : List α}
def rows (f : α -> List Value) (L : List α) : List Value:=L.flatMap f
def Ygo (f : α -> List Value) (k : Nat) (L : List α) : Prop := ∀ x ∈ L, (f x).length = k
theorem Ygo.cons {x : α} (h : Ygo f k (x :: L)) : (f x).length = k /\ Ygo f k L:=⟨h x (by simp), fun y hy => h y (by simp [hy])⟩
theorem Ygo.set (h : Ygo f k L) {x : α} (hx : (f x).length = k) (i : Nat) : Ygo f k (L.set i x):=by
 intro y hy
 rcases mem_or_eq_of_mem_set hy with hy | rfl
 ·exact h y hy
 ·exact hx
theorem rows_nil : rows f [] = []:=rfl
theorem YaB (x : α) : rows f (x :: L) = f x ++ rows f L:=by simp [rows]
theorem Zyx (M : List α) : rows f (L ++ M) = rows f L ++ rows f M:=by simp [rows]
theorem Yag (h : Ygo f k L) : (rows f L).length = L.length * k:=by
 induction L with
 | nil => simp [rows]
 | cons x L ih =>
  obtain ⟨h1, h2⟩:=h.cons
  rw [YaB, length_append, h1, ih h2, length_cons, Nat.succ_mul]; omega
theorem rows_drop (h : Ygo f k L) (i : Nat) : (rows f L).drop (i * k) = rows f (L.drop i):=by
 induction i generalizing L with
 | zero => simp
 | succ i ih =>
  cases L with
  | nil => simp [rows]
  | cons x L =>
   obtain ⟨h1, h2⟩:=h.cons
   rw [YaB, drop_succ_cons, <- ih h2, Nat.succ_mul, Nat.add_comm, <- drop_drop, <- h1, drop_left]
theorem rows_take (h : Ygo f k L) (i : Nat) : (rows f L).take (i * k) = rows f (L.take i):=by
 induction i generalizing L with
 | zero => simp [rows]
 | succ i ih =>
  cases L with
  | nil => simp [rows]
  | cons x L =>
   obtain ⟨h1, h2⟩:=h.cons
   rw [YaB, take_succ_cons, YaB, <- ih h2, Nat.succ_mul, Nat.add_comm, take_append, h1]
   congr 1
   ·exact take_of_length_le (by omega)
   ·congr 1; omega
theorem Yfw (h : Ygo f k L) {i : Nat} {x : α} (hi : L[i]? = some x) : ((rows f L).drop (i * k)).take k = f x:=by
  rw [rows_drop h i]
  have hlt:=(List.getElem?_eq_some_iff.1 hi).1
  have hx:=(List.getElem?_eq_some_iff.1 hi).2
  rw [List.drop_eq_getElem_cons hlt, YaB, hx, <- h x (List.mem_of_getElem? hi), List.take_left]
theorem rows_at (h : Ygo f k L) {i j : Nat} {x : α} (hi : L[i]? = some x) (hj : j < k) : (rows f L)[i * k + j]? = (f x)[j]? := by
 rw [<- Yfw h hi, getElem?_take, if_pos hj, getElem?_drop]
theorem Yhh (h : Ygo f k L) {i : Nat} (hi : i < L.length) {x : α} (hx : (f x).length = k) : splice (rows f L) (i * k) (f x) = rows f (L.set i x):=by
 unfold splice
 rw [rows_take h, hx, show i * k + k = (i + 1) * k by rw [Nat.succ_mul], rows_drop h, set_eq_take_append_cons_drop, if_pos hi, Zyx, YaB]
 simp
theorem one1_rows (h : ∀ x ∈ L, one1 (f x)) : one1 (rows f L):=by
 intro v hv
 obtain ⟨x, hx, hvx⟩:=mem_flatMap.1 hv
 exact h x hx v hvx
end
theorem splice_append {xs rest vs : List Value} {off : Nat} (h : off + vs.length <= xs.length) : splice (xs ++ rest) off vs = splice xs off vs ++ rest:=by
 unfold splice
 rw [take_append_of_le_length (by omega), drop_append_of_le_length (by omega)]
 simp
theorem Sl.row {α : Type} {f : α -> List Value} {k : Nat} {L : List α} {w : World} {p : Option Addr} {l : Nat} (h : Sl w p l k (rows f L)) (hE : Ygo f k L) (hk : 0 < k) : L.length = l:=by
 have:=h.1
 rw [Yag hE] at this
 exact Nat.eq_of_mul_eq_mul_right hk this
theorem ZzT {α : Type} {f : α -> List Value} {k : Nat} {L : List α} {w : World} {p : Option Addr} {l : Nat} {i : Int} {K : Addr -> Prop} (h : Sl w p l k (rows f L)) (hE : Ygo f k L) (hk : 0 < k) (h0 : 0 <= i) (h1 : i < l)
  (go : ∀ (a : Addr) (x : α), p = some a -> L[i.toNat]? = some x -> ZzV w (a.add (i.toNat * k)) (f x) -> K a) : ZzS p l i K:=by
 have hl:=h.row hE hk
 have hlt : i.toNat < L.length:=by omega
 refine idx_sl h h0 h1 fun a ha hc => ?_
 have hx : L[i.toNat]? = some L[i.toNat]:=getElem?_eq_getElem hlt
 refine go a _ ha hx ?_
 have:=ZyZ k hc
 rwa [Yfw hE hx] at this
theorem Zzb {n : Int} (h1 : -9223372036854775808 <= n) (h2 : n <= 9223372036854775807) : w64 n = n:=by
 unfold w64; rw [IntKind.wrap_i64]; omega
end Go.Vc
end
section
namespace Go.Proofs.YtglnmjflpkeclaaGreatDoor
open Go Go.Vc
theorem slT_u8 : SlT Tryz.prog Zzj Zzs 1 1 #[.int .u8 0]:=SlT.of (by kernel_rfl) (by kernel_rfl) rfl (by decide)
theorem twin_row {t e : TypeId} {sz by_ : Nat} {z : Array Value} (T : SlT Tryz.prog t e sz by_ z) {w : World} {p : Option Addr} {l c : Nat} {vs : List Value} {J : Option Addr -> Nat -> Nat -> World -> Prop}
  (h : Sl w p l sz vs) (h1 : one1 vs) (hp : p = none -> l = 0) (hb : l * by_ <= 140737488355328) (hm : l <= maxLen)
  (k : ∀ p' c' w', Row w' e sz p' l c' vs -> fresh w p' -> Chg No w w' -> J p' l c' w') :
  newB w (.cells ⟨[]⟩ e) fun b w1 => YeJ Tryz.prog t t (.slice (some ⟨b, 0, none⟩) 0 0) (.slice p l c) w1 fun p' l' c' w2 => J p' l' c' w2:=by
 refine (Hp.start w No).newB fun b w1 H hbw hc1 => ?_
 refine YbR T (H.asRow 0 rfl (xs:=[]) (rest:=[]) rfl (by simp) (Nat.le_refl _) (Nat.zero_le _) (by simp)) (h.chg hc1 (off_no _)) h1 hp (by simpa using hb) (by simpa using hm)
  fun p' c' w' hr hc hf => ?_
 rw [Nat.zero_add] at hr ⊢
 refine k _ _ _ (by simpa using hr) ?_ (hc1.trans hc ?_)
 ·rcases hf with rfl | hf
  ·rintro a ⟨⟩; exact hbw
  ·intro a ha; exact Nat.le_trans hc1.size (hf a ha)
 ·rintro x hx ⟨a, ha, hax⟩
  cases ha
  simp only at hax
  omega
theorem clone_cond {t e : TypeId} {sz by_ : Nat} {z : Array Value} (T : SlT Tryz.prog t e sz by_ z) {w : World} {p : Option Addr} {l c : Nat} {vs : List Value} {J : Option Addr -> Nat -> Nat -> World -> Prop}
  (h : Sl w p l sz vs) (h1 : one1 vs) (hp : p = none -> l = 0) (hb : l * by_ <= 140737488355328) (hm : l <= maxLen)
  (k : ∀ p' c' w', Row w' e sz p' l c' vs -> fresh w p' -> Chg No w w' -> J p' l c' w') :
  Zz1 p.isNone (J none 0 0 w) (newB w (.cells ⟨[]⟩ e) fun b w1 => YeJ Tryz.prog t t (.slice (some ⟨b, 0, none⟩) 0 0) (.slice p l c) w1 fun p' l' c' w2 => J p' l' c' w2):=by
 cases p with
 | none =>
  have h0:=hp rfl
  subst h0
  have hn : vs = []:=eq_nil_of_length_eq_zero (by simpa using h.1)
  subst hn
  exact k none 0 w (Row.nil _ _ _) (by rintro a ⟨⟩) (Chg.refl _ _)
 | some a => exact twin_row T h h1 hp hb hm k
theorem litB {w : World} {bs : List UInt8} {n : Nat} {K : Option Addr -> Nat -> Nat -> World -> Prop} (hn : bs.length = n)
  (k : ∀ b w', Bytes w' (some ⟨b, 0, none⟩) n bs -> w.heap.size <= b -> Chg No w w' -> K (some ⟨b, 0, none⟩) n n w') :
  newB w (.cells ⟨bcells bs⟩ Zzs) fun b w1 => cvJ Tryz.prog Zzj Zzj (.slice (some ⟨b, 0, none⟩) n n) w1 K:=by
 refine ⟨_, _, _, _, Lib.run_convert_bytes_const w Zzj Zzs ⟨bcells bs⟩ n n (by kernel_rfl) (by kernel_rfl), k _ _ ⟨by simp [bcells, hn], .inr ⟨_, rfl, ?_⟩⟩ (Nat.le_refl _) (YfO _ _)⟩
 have:=Ybc (off:=0) (heap_alloc_new w (.cells ⟨bcells bs⟩ Zzs ((⟨bcells bs⟩ : Array Value).size, (⟨bcells bs⟩ : Array Value).size + 1)))
 simpa using this
theorem newRow {w : World} {e : TypeId} {cs : List Value} {sz n : Nat} {K : Nat -> World -> Prop} (hn : cs.length = n * sz) (hm : n <= maxLen)
  (k : ∀ b w', Row w' e sz (some ⟨b, 0, none⟩) n n cs -> w.heap.size <= b -> Chg No w w' -> K b w') : newB w (.cells ⟨cs⟩ e) K :=
 (Hp.start w No).newB fun b w' H hb hc => k b w' (H.asRow 0 rfl (rest:=[]) (by simp) hn (Nat.le_refl _) hm hn) hb hc
end Go.Proofs.YtglnmjflpkeclaaGreatDoor
end
section
namespace Go.Proofs.YtglnmjflpkeclaaGreatDoor
open Go Go.Vc Go.Lib
theorem disable (w : World) : (callFunc Yd6 #[]).run Tryz.prog w = .ok (.value (.tuple #[])) w:=run_call_mark0 Tryz.func223 (by kernel_rfl) (by kernel_rfl) (by kernel_rfl) .disable (by kernel_rfl) w
theorem enable (w : World) : (callFunc Ydy #[]).run Tryz.prog w = .ok (.value (.tuple #[])) w:=run_call_mark0 Tryz.func225 (by kernel_rfl) (by kernel_rfl) (by kernel_rfl) .enable (by kernel_rfl) w
theorem acquire (a : Addr) (w : World) : (callFunc Yd7 #[.pointer (some a)]).run Tryz.prog w = .ok (.value (.tuple #[])) w:=run_call_marked Tryz.func226 (by kernel_rfl) (by kernel_rfl) (by kernel_rfl) .acquire (by kernel_rfl) a w
theorem releaseMerge (a : Addr) (w : World) : (callFunc Ybn #[.pointer (some a)]).run Tryz.prog w = .ok (.value (.tuple #[])) w:=run_call_marked Tryz.func228 (by kernel_rfl) (by kernel_rfl) (by kernel_rfl) .releaseMerge (by kernel_rfl) a w
set_option maxRecDepth 100000 in
theorem unlock_in (a : Addr) (w : World) (hc : w.cell? a = some (.int .i32 1)) (hz : w.frozen? a = false) :
  Calls Tryz.prog 212 #[.pointer (some a)] w fun e w' => e = .returned (.tuple #[]) /\ w' = w.setCell a (.int .i32 0):=by
 have hd:=disable
 have he:=enable
 have hr:=releaseMerge
 have hadd:=run_call_add (P:=Tryz.prog) Tryz.func229 (by kernel_rfl) (by kernel_rfl) (by kernel_rfl) .i32 (by kernel_rfl) (y := -1) (s:=0) hc hz (by simp [go_sem]; rfl)
 have hcv:=run_convert_to_unsafe (P:=Tryz.prog) (src:=286) (dst:=127) Tryz.underlying286 Tryz.underlying127 (by kernel_rfl) hc
 go_enter Tryz.func212, Tryz.ntmps212
 go_wp2
 go_end0
 go_wp2
set_option maxRecDepth 100000 in
theorem lock_in (a : Addr) (w : World) (hc : w.cell? a = some (.int .i32 0)) (hz : w.frozen? a = false) :
  Calls Tryz.prog 211 #[.pointer (some a)] w fun e w' => e = .returned (.tuple #[]) /\ w' = w.setCell a (.int .i32 1):=by
 have hd:=disable
 have he:=enable
 have ha:=acquire
 have hcas:=run_call_cas_hit (P:=Tryz.prog) Tryz.func224 (by kernel_rfl) (by kernel_rfl) (by kernel_rfl) .i32 (by kernel_rfl) (y:=1) hc hz
 have hc' : (w.setCell a (.int .i32 1)).cell? a = some (.int .i32 1):=World.cell?_setCell_same w a _ hc
 have hcv:=run_convert_to_unsafe (P:=Tryz.prog) (src:=286) (dst:=127) Tryz.underlying286 Tryz.underlying127 (by kernel_rfl) hc'
 go_enter Tryz.func211, Tryz.ntmps211
 go_wp2
 first | go_end0 | (simp only [Exit.inBlock, Exit.then]; refine bodyPost_ret (results_none rfl _ _ _) rfl ?_) | refine bodyPost_ret (results_none rfl _ _ _) rfl ?_
 go_wp2
end Go.Proofs.YtglnmjflpkeclaaGreatDoor
namespace Go.Proofs.YtglnmjflpkeclaaGreatDoor
open Go Go.Vc Go.Lib
theorem lockM (a : Addr) (w : World) (h : canW w a) (hc : w.cell? a = some (.int .i32 0)) :
  Calls Tryz.prog 199 #[.pointer (some a)] w fun e w' => e = .returned (.tuple #[]) /\ w' = w.setCell a (.int .i32 1):=by
 refine Ygg ?_
 exact Calls.mono (lock_in a w hc h.2) fun e w' he => he
theorem loadM (a : Addr) (w : World) (hc : w.cell? a = some (.int .u32 0)) :
  Calls Tryz.prog 176 #[.pointer (some a)] w fun e w' => e = .returned (.bool false) /\ w' = w:=by
 have h : Zz0 Tryz.prog 176 #[.pointer (some a)] w [.one .bool] fun b w' => b = false /\ w' = w:=by
  refine YdH ?_
  exact ⟨_, _, run_call_load Tryz.func198 (by kernel_rfl) (by kernel_rfl) (by kernel_rfl) .u32 (by kernel_rfl) hc, 0, rfl, rfl, rfl⟩
 refine Calls.mono h fun e w' he => ?_
 obtain ⟨b, h1, h2, h3⟩:=he
 subst h2
 exact ⟨h1, h3⟩
set_option maxRecDepth 100000 in
theorem unlockD (a : Addr) (u : FrameMode) (w : World) (h : canW w a) (hc : w.cell? a = some (.int .i32 1)) :
  CallsD Tryz.prog 200 #[.pointer (some a)] u w fun e u' w' => u' = u /\ (e = .returned (.tuple #[]) /\ w' = w.setCell a (.int .i32 0)):=by
 go_enter_d Tryz.func200, Tryz.ntmps200
 go_wp2_with (go_at_call 212; refine (unlock_in a _ hc h.2).mono ?_; rintro e w' ⟨rfl, rfl⟩)
 go_end0
 exact ⟨rfl, rfl⟩
set_option maxRecDepth 100000 in
theorem storeD0 (a : Addr) (x : Value) (u : FrameMode) (w : World) (hc : w.cell? a = some x) (hz : w.frozen? a = false) :
  CallsD Tryz.prog 201 #[.pointer (some a), .bool true] u w fun e u' w' => u' = u /\ (e = .returned (.tuple #[]) /\ w' = w.drew.setCell a (.int .u32 1)):=by
 have hc' : w.drew.cell? a = some x:=by go_simp
 have hz' : w.drew.frozen? a = false:=by go_simp
 have hst:=run_call_store (P:=Tryz.prog) Tryz.func213 (by kernel_rfl) (by kernel_rfl) (by kernel_rfl) (by kernel_rfl) (k := .u32) (y:=1) hc' hz'
 go_enter_d Tryz.func201, Tryz.ntmps201
 go_wp2
 go_region_calls
 all_goals (go_end0; exact ⟨rfl, rfl⟩)
set_option maxRecDepth 100000 in
theorem storeD {w0 w : World} {S : Nat -> Prop} {Γ : List Blk} {b : Nat} {x : Value} {rest : List Value} {e : TypeId} (u : FrameMode) (H : Hp w0 S w (⟨b, x :: rest, e⟩ :: Γ)) :
  CallsD Tryz.prog 201 #[.pointer (some ⟨b, 0, none⟩), .bool true] u w fun e' u' w' => u' = u /\ (e' = .returned (.tuple #[]) /\ Hp w0 S w' (⟨b, .int .u32 1 :: rest, e⟩ :: Γ) /\ Chg (fun x => x = b) w w'):=by
 obtain ⟨⟨⟨x', hc⟩, hz⟩, H1⟩:=H.drew.stV 0 rfl (off:=0) (v := .int .u32 1) (K:=fun w' => Hp w0 S w' (⟨b, .int .u32 1 :: rest, e⟩ :: Γ) /\ Chg (fun x => x = b) w w') (by simp) (fun w' H' hc' => ⟨H', (Chg.refl _ w).drew.trans hc' fun _ _ h => h⟩)
 have hc0 : w.cell? ⟨b, 0, none⟩ = some x:=H.cell 0 rfl rfl
 have hz0 : w.frozen? ⟨b, 0, none⟩ = false:=hz
 refine (storeD0 ⟨b, 0, none⟩ x u w hc0 hz0).mono ?_
 rintro e' u' w' ⟨rfl, rfl, rfl⟩
 exact ⟨rfl, rfl, H1⟩
set_option maxRecDepth 100000 in
set_option maxHeartbeats 1600000 in
theorem doSlow_ok {w0 w : World} {S : Nat -> Prop} {Γ : List Blk} {b : Nat} {rest : List Value} {e : TypeId} (H : Hp w0 S w (⟨b, .int .u32 0 :: .int .i32 0 :: rest, e⟩ :: Γ)) {R : World -> Prop}
  (hb : ∀ w1, Hp w0 S w1 (⟨b, .int .u32 0 :: .int .i32 1 :: rest, e⟩ :: Γ) -> Calls Tryz.prog 138 #[.pointer (some ⟨b, 0, none⟩)] w1 fun e' w' => e' = .returned (.tuple #[]) /\ ∃ rest' Γ', Hp w0 S w' (⟨b, .int .u32 0 :: .int .i32 1 :: rest', e⟩ :: Γ') /\ ∀ w'', Hp w0 S w'' (⟨b, .int .u32 1 :: .int .i32 0 :: rest', e⟩ :: Γ') -> Chg (fun x => x = b) w' w'' -> R w'') :
  Calls Tryz.prog 177 #[.pointer (some ⟨b, 0, none⟩), .func (.func 138) #[.pointer (some ⟨b, 0, none⟩)] #[]] w fun e' w' => e' = .returned (.tuple #[]) /\ R w':=by
 have hl:=H.stV 0 rfl (off:=1) (v := .int .i32 1) (K:=fun w' => Hp w0 S w' (⟨b, .int .u32 0 :: .int .i32 1 :: rest, e⟩ :: Γ)) (by simp) (fun w' H' _ => H')
 have hc:=H.cell 0 rfl (off:=1) rfl
 obtain ⟨hcan, H1⟩:=hl
 have hx:=H1.cell 0 rfl (off:=0) rfl
 go_enter_defers Tryz.func177, Tryz.ntmps177
 go_wp2_with (first
  | (go_at_call 199; refine (lockM ⟨b, 1, none⟩ _ hcan hc).mono ?_; rintro e' w' ⟨rfl, rfl⟩)
  | (go_at_call 176; refine (loadM ⟨b, 0, none⟩ _ hx).mono ?_; rintro e' w' ⟨rfl, rfl⟩)
  | (go_at_call 138; refine (hb _ H1).mono ?_; rintro e' w' ⟨rfl, rest', Γ', H2, hR⟩))
 refine leaves_cons (f:=201) (args := #[.pointer (some ⟨b, 0, none⟩), .bool true]) (by simp) (by simp [go_sem]) ?_
 refine (storeD .returning H2).mono ?_
 rintro e' u' w'' ⟨rfl, rfl, H3, hcc⟩
 obtain ⟨hcan3, H4⟩:=H3.stV 0 rfl (off:=1) (v := .int .i32 0) (K:=fun w9 => Hp w0 S w9 (⟨b, .int .u32 1 :: .int .i32 0 :: rest', e⟩ :: Γ') /\ Chg (fun x => x = b) w' w9) (by simp) (fun w9 H' hc9 => ⟨H', hcc.trans hc9 fun _ _ h => h⟩)
 refine leaves_cons (f:=200) (args := #[.pointer (some ⟨b, 1, none⟩)]) (by simp [settle]) (by simp [go_sem]) ?_
 refine (unlockD ⟨b, 1, none⟩ _ _ hcan3 (H3.cell 0 rfl rfl)).mono ?_
 rintro e' u' w3 ⟨rfl, rfl, rfl⟩
 have:=hR _ H4.1 H4.2
 simp [Leaves, settle, results, Tryz.results177, this]
end Go.Proofs.YtglnmjflpkeclaaGreatDoor
end
section
namespace Go.Proofs.YtglnmjflpkeclaaGreatDoor
open Go Go.Vc
theorem YbO {a : Option Addr} {w : World} {J : World -> Prop} (h :
 Zz0 Tryz.prog ZxA #[.pointer a] w [.one .val] fun b c =>
 ZzC a fun d =>
 condT (Value.oneCell' b) (
 stV c ((d.add 3)) b fun e =>
 ZzC a fun f =>
 stV e ((f.add 4)) (.slice none 0 0) fun g =>
 J g)) : Zz0 Tryz.prog ZyO #[.pointer a] w [] J:=Zz3 Tryz.func138 (.s .o .o) (Eq.mpr (by kernel_rfl) h)
theorem Yes {a : Option Addr} {b c : Nat} {w : World} {J : Option Addr -> World -> Prop} (h :
 (2 : Int) ≠ 0 /\
 Zz1 ((Int.tmod (b : Int) (2 : Int)) == (1 : Int)) (
 False) (
 YeJ Tryz.prog Zyn Zyn (.slice none 0 0) (.slice a b c) w fun d e f g =>
 newB g (.cells ⟨[.int .u32 0, .int .i32 0, .int .u32 0, .nilIface, .slice d e f]⟩ ZzQ) fun i j =>
 J (some ⟨i, 0, none⟩) j)) : Zz0 Tryz.prog Zx7 #[.slice a b c] w [.one .ptr] J:=Zz3 Tryz.func89 (.s .o (.s (.s .o (.c .o .o)) (.s .o .o))) (Eq.mpr (by kernel_rfl) h)
theorem Ydb {a : Option Addr} {w : World} {J : Value -> World -> Prop} (h :
 ZzC a fun b =>
 ldS w ((b.add 4)) fun c d e =>
 Zzf (fun (bn : Bool) (bo : World) =>
 Zz1 bn (
 ZzS c d (0 : Int) fun f =>
 ldStr bo.drew ((f.add ((0 : Int).toNat * 1))) fun g =>
 ZzS c d (1 : Int) fun i =>
 ldStr bo.drew ((i.add ((1 : Int).toNat * 1))) fun j =>
 Zz0 Tryz.prog Yao #[.string g, .string j] bo.drew [.one .ptr] fun k l =>
 J ((.iface Yaz (.pointer k))) l) (
 ∃ bv : Bool -> Int -> World -> Nat -> Prop, (∃ bx, bv true (0 : Int) bo bx) /\ ∀ (bp : Bool) (bq : Int) (br : World) (bx : Nat), bv bp bq br bx -> (
 Zz1 (decide (bq < (d : Int))) (
 Zzf (fun (bs : Bool) (bt : World) =>
 ∃ bz, bz < bx /\ bv bs (w64 (bq + (2 : Int))) bt bz) fun m =>
 ZzS c d bq fun n =>
 ldStr br ((n.add (bq.toNat * 1))) fun o =>
 Zz1 ((o.size : Int) != (1 : Int)) (
 Zz0 Tryz.prog Ybb #[.slice c d e] br [.one .ptr] fun p q =>
 J ((.iface Ybs (.pointer p))) q) (
 ZzS c d (w64 (bq + (1 : Int))) fun r =>
 ldStr br ((r.add ((w64 (bq + (1 : Int))).toNat * 1))) fun s =>
 Zz1 ((s.size : Int) != (1 : Int)) (
 m false br) (
 m bp br))) (
 Zz1 bp (
 newB br (.cells (Zy2 Tryz.prog YaY) YaY) fun t u =>
 stN u ⟨t, 0, none⟩ ⟨[.int .u8 0, .int .u8 0, .int .u8 0, .int .u8 0, .int .u8 0, .int .u8 0, .int .u8 0, .int .u8 0, .int .u8 0, .int .u8 0, .int .u8 0, .int .u8 0, .int .u8 0, .int .u8 0, .int .u8 0, .int .u8 0, .int .u8 0, .int .u8 0, .int .u8 0, .int .u8 0, .int .u8 0, .int .u8 0, .int .u8 0, .int .u8 0, .int .u8 0, .int .u8 0, .int .u8 0, .int .u8 0, .int .u8 0, .int .u8 0, .int .u8 0, .int .u8 0, .int .u8 0, .int .u8 0, .int .u8 0, .int .u8 0, .int .u8 0, .int .u8 0, .int .u8 0, .int .u8 0, .int .u8 0, .int .u8 0, .int .u8 0, .int .u8 0, .int .u8 0, .int .u8 0, .int .u8 0, .int .u8 0, .int .u8 0, .int .u8 0, .int .u8 0, .int .u8 0, .int .u8 0, .int .u8 0, .int .u8 0, .int .u8 0, .int .u8 0, .int .u8 0, .int .u8 0, .int .u8 0, .int .u8 0, .int .u8 0, .int .u8 0, .int .u8 0, .int .u8 0, .int .u8 0, .int .u8 0, .int .u8 0, .int .u8 0, .int .u8 0, .int .u8 0, .int .u8 0, .int .u8 0, .int .u8 0, .int .u8 0, .int .u8 0, .int .u8 0, .int .u8 0, .int .u8 0, .int .u8 0, .int .u8 0, .int .u8 0, .int .u8 0, .int .u8 0, .int .u8 0, .int .u8 0, .int .u8 0, .int .u8 0, .int .u8 0, .int .u8 0, .int .u8 0, .int .u8 0, .int .u8 0, .int .u8 0, .int .u8 0, .int .u8 0, .int .u8 0, .int .u8 0, .int .u8 0, .int .u8 0, .int .u8 0, .int .u8 0, .int .u8 0, .int .u8 0, .int .u8 0, .int .u8 0, .int .u8 0, .int .u8 0, .int .u8 0, .int .u8 0, .int .u8 0, .int .u8 0, .int .u8 0, .int .u8 0, .int .u8 0, .int .u8 0, .int .u8 0, .int .u8 0, .int .u8 0, .int .u8 0, .int .u8 0, .int .u8 0, .int .u8 0, .int .u8 0, .int .u8 0, .int .u8 0, .int .u8 0, .int .u8 0, .int .u8 0, .int .u8 0, .int .u8 0, .int .u8 0, .int .u8 0, .int .u8 0, .int .u8 0, .int .u8 0, .int .u8 0, .int .u8 0, .int .u8 0, .int .u8 0, .int .u8 0, .int .u8 0, .int .u8 0, .int .u8 0, .int .u8 0, .int .u8 0, .int .u8 0, .int .u8 0, .int .u8 0, .int .u8 0, .int .u8 0, .int .u8 0, .int .u8 0, .int .u8 0, .int .u8 0, .int .u8 0, .int .u8 0, .int .u8 0, .int .u8 0, .int .u8 0, .int .u8 0, .int .u8 0, .int .u8 0, .int .u8 0, .int .u8 0, .int .u8 0, .int .u8 0, .int .u8 0, .int .u8 0, .int .u8 0, .int .u8 0, .int .u8 0, .int .u8 0, .int .u8 0, .int .u8 0, .int .u8 0, .int .u8 0, .int .u8 0, .int .u8 0, .int .u8 0, .int .u8 0, .int .u8 0, .int .u8 0, .int .u8 0, .int .u8 0, .int .u8 0, .int .u8 0, .int .u8 0, .int .u8 0, .int .u8 0, .int .u8 0, .int .u8 0, .int .u8 0, .int .u8 0, .int .u8 0, .int .u8 0, .int .u8 0, .int .u8 0, .int .u8 0, .int .u8 0, .int .u8 0, .int .u8 0, .int .u8 0, .int .u8 0, .int .u8 0, .int .u8 0, .int .u8 0, .int .u8 0, .int .u8 0, .int .u8 0, .int .u8 0, .int .u8 0, .int .u8 0, .int .u8 0, .int .u8 0, .int .u8 0, .int .u8 0, .int .u8 0, .int .u8 0, .int .u8 0, .int .u8 0, .int .u8 0, .int .u8 0, .int .u8 0, .int .u8 0, .int .u8 0, .int .u8 0, .int .u8 0, .int .u8 0, .int .u8 0, .int .u8 0, .int .u8 0, .int .u8 0, .int .u8 0, .int .u8 0, .int .u8 0, .int .u8 0, .int .u8 0, .int .u8 0, .int .u8 0, .int .u8 0, .int .u8 0, .int .u8 0, .int .u8 0, .int .u8 0, .int .u8 0, .int .u8 0, .int .u8 0, .int .u8 0, .int .u8 0, .int .u8 0, .int .u8 0, .int .u8 0, .int .u8 0, .int .u8 0, .int .u8 0]⟩ 256 fun v =>
 ∃ b0 : Int -> World -> Nat -> Prop, (∃ bx, b0 (0 : Int) v bx) /\ ∀ b1 b2 b3, b0 b1 b2 b3 -> (
 Zz1 (decide (b1 < (256 : Int))) (
 ZzS (some ⟨t, 0, none⟩) 256 b1 fun x =>
 stV b2 ((x.add (b1.toNat * 1))) (.int .u8 (IntKind.u8.wrap b1)) fun y =>
 ∃ bz, bz < b3 /\ b0 (w64 (b1 + (1 : Int))) y bz) (
 ∃ b4 : Int -> World -> Nat -> Prop, (∃ bx, b4 (w64 ((d : Int) - (2 : Int))) b2 bx) /\ ∀ b5 b6 b7, b4 b5 b6 b7 -> (
 Zz1 (decide (b5 >= (0 : Int))) (
 ZzS c d b5 fun z =>
 ldStr b6 ((z.add (b5.toNat * 1))) fun aa =>
 Zy6 aa (0 : Int) fun ab =>
 ZzS c d (w64 (b5 + (1 : Int))) fun ac =>
 ldStr b6 ((ac.add ((w64 (b5 + (1 : Int))).toNat * 1))) fun ad =>
 Zy6 ad (0 : Int) fun ae =>
 ZzS (some ⟨t, 0, none⟩) 256 ab fun af =>
 stV b6 ((af.add (ab.toNat * 1))) (.int .u8 ae) fun ag =>
 ∃ bz, bz < b7 /\ b4 (w64 (b5 - (2 : Int))) ag bz) (
 J ((.iface Ycm (.pointer (some ⟨t, 0, none⟩)))) b6))))) (
 (2 : Int) ≠ 0 /\
 mkS br Zz8 (Zy2 Tryz.prog Zz8) 1 16 (0 : Int) (w64 (Int.tdiv (d : Int) (2 : Int))) fun ai aj =>
 newB aj (.cells (Zy2 Tryz.prog Zzg) Zzg) fun ak al =>
 stN al ⟨ak, 0, none⟩ ⟨[.slice none 0 0, .slice none 0 0, .slice none 0 0, .slice none 0 0, .slice none 0 0, .slice none 0 0, .slice none 0 0, .slice none 0 0, .slice none 0 0, .slice none 0 0, .slice none 0 0, .slice none 0 0, .slice none 0 0, .slice none 0 0, .slice none 0 0, .slice none 0 0, .slice none 0 0, .slice none 0 0, .slice none 0 0, .slice none 0 0, .slice none 0 0, .slice none 0 0, .slice none 0 0, .slice none 0 0, .slice none 0 0, .slice none 0 0, .slice none 0 0, .slice none 0 0, .slice none 0 0, .slice none 0 0, .slice none 0 0, .slice none 0 0, .slice none 0 0, .slice none 0 0, .slice none 0 0, .slice none 0 0, .slice none 0 0, .slice none 0 0, .slice none 0 0, .slice none 0 0, .slice none 0 0, .slice none 0 0, .slice none 0 0, .slice none 0 0, .slice none 0 0, .slice none 0 0, .slice none 0 0, .slice none 0 0, .slice none 0 0, .slice none 0 0, .slice none 0 0, .slice none 0 0, .slice none 0 0, .slice none 0 0, .slice none 0 0, .slice none 0 0, .slice none 0 0, .slice none 0 0, .slice none 0 0, .slice none 0 0, .slice none 0 0, .slice none 0 0, .slice none 0 0, .slice none 0 0, .slice none 0 0, .slice none 0 0, .slice none 0 0, .slice none 0 0, .slice none 0 0, .slice none 0 0, .slice none 0 0, .slice none 0 0, .slice none 0 0, .slice none 0 0, .slice none 0 0, .slice none 0 0, .slice none 0 0, .slice none 0 0, .slice none 0 0, .slice none 0 0, .slice none 0 0, .slice none 0 0, .slice none 0 0, .slice none 0 0, .slice none 0 0, .slice none 0 0, .slice none 0 0, .slice none 0 0, .slice none 0 0, .slice none 0 0, .slice none 0 0, .slice none 0 0, .slice none 0 0, .slice none 0 0, .slice none 0 0, .slice none 0 0, .slice none 0 0, .slice none 0 0, .slice none 0 0, .slice none 0 0, .slice none 0 0, .slice none 0 0, .slice none 0 0, .slice none 0 0, .slice none 0 0, .slice none 0 0, .slice none 0 0, .slice none 0 0, .slice none 0 0, .slice none 0 0, .slice none 0 0, .slice none 0 0, .slice none 0 0, .slice none 0 0, .slice none 0 0, .slice none 0 0, .slice none 0 0, .slice none 0 0, .slice none 0 0, .slice none 0 0, .slice none 0 0, .slice none 0 0, .slice none 0 0, .slice none 0 0, .slice none 0 0, .slice none 0 0, .slice none 0 0, .slice none 0 0, .slice none 0 0, .slice none 0 0, .slice none 0 0, .slice none 0 0, .slice none 0 0, .slice none 0 0, .slice none 0 0, .slice none 0 0, .slice none 0 0, .slice none 0 0, .slice none 0 0, .slice none 0 0, .slice none 0 0, .slice none 0 0, .slice none 0 0, .slice none 0 0, .slice none 0 0, .slice none 0 0, .slice none 0 0, .slice none 0 0, .slice none 0 0, .slice none 0 0, .slice none 0 0, .slice none 0 0, .slice none 0 0, .slice none 0 0, .slice none 0 0, .slice none 0 0, .slice none 0 0, .slice none 0 0, .slice none 0 0, .slice none 0 0, .slice none 0 0, .slice none 0 0, .slice none 0 0, .slice none 0 0, .slice none 0 0, .slice none 0 0, .slice none 0 0, .slice none 0 0, .slice none 0 0, .slice none 0 0, .slice none 0 0, .slice none 0 0, .slice none 0 0, .slice none 0 0, .slice none 0 0, .slice none 0 0, .slice none 0 0, .slice none 0 0, .slice none 0 0, .slice none 0 0, .slice none 0 0, .slice none 0 0, .slice none 0 0, .slice none 0 0, .slice none 0 0, .slice none 0 0, .slice none 0 0, .slice none 0 0, .slice none 0 0, .slice none 0 0, .slice none 0 0, .slice none 0 0, .slice none 0 0, .slice none 0 0, .slice none 0 0, .slice none 0 0, .slice none 0 0, .slice none 0 0, .slice none 0 0, .slice none 0 0, .slice none 0 0, .slice none 0 0, .slice none 0 0, .slice none 0 0, .slice none 0 0, .slice none 0 0, .slice none 0 0, .slice none 0 0, .slice none 0 0, .slice none 0 0, .slice none 0 0, .slice none 0 0, .slice none 0 0, .slice none 0 0, .slice none 0 0, .slice none 0 0, .slice none 0 0, .slice none 0 0, .slice none 0 0, .slice none 0 0, .slice none 0 0, .slice none 0 0, .slice none 0 0, .slice none 0 0, .slice none 0 0, .slice none 0 0, .slice none 0 0, .slice none 0 0, .slice none 0 0, .slice none 0 0, .slice none 0 0, .slice none 0 0, .slice none 0 0, .slice none 0 0, .slice none 0 0, .slice none 0 0, .slice none 0 0, .slice none 0 0, .slice none 0 0, .slice none 0 0, .slice none 0 0, .slice none 0 0, .slice none 0 0, .slice none 0 0, .slice none 0 0, .slice none 0 0, .slice none 0 0, .slice none 0 0, .slice none 0 0, .slice none 0 0, .slice none 0 0, .slice none 0 0, .slice none 0 0, .slice none 0 0, .slice none 0 0, .slice none 0 0, .slice (some ⟨ai, 0, none⟩) 0 ((w64 (Int.tdiv (d : Int) (2 : Int))).toNat)]⟩ 257 fun am =>
 ∃ b8 : Int -> World -> Nat -> Prop, (∃ bx, b8 (w64 ((d : Int) - (2 : Int))) am bx) /\ ∀ b9 ca cb, b8 b9 ca cb -> (
 Zz1 (decide (b9 >= (0 : Int))) (
 ZzS c d b9 fun an =>
 ldStr ca ((an.add (b9.toNat * 1))) fun ao =>
 Zy6 ao (0 : Int) fun ap =>
 ZzS c d (w64 (b9 + (1 : Int))) fun aq =>
 ldStr ca ((aq.add ((w64 (b9 + (1 : Int))).toNat * 1))) fun ar =>
 Zzf (fun (bu : World) =>
 cvJ Tryz.prog Zz8 Zzj (.string ar) bu fun au av ax ay =>
 ZzS (some ⟨ak, 0, none⟩) 256 ap fun az =>
 stV ay ((az.add (ap.toNat * 1))) (.slice au av ax) fun a0 =>
 ∃ bz, bz < cb /\ b8 (w64 (b9 - (2 : Int))) a0 bz) fun a1 =>
 ZzS (some ⟨ak, 0, none⟩) 256 ap fun a2 =>
 ldS ca ((a2.add (ap.toNat * 1))) fun a3 a4 a5 =>
 Zz1 a3.isNone (
 ldS ca ⟨ak, 256, none⟩ fun a6 a7 a8 =>
 newB ca (.cells ⟨[.int .u8 ap]⟩ Zzs) fun a9 ba =>
 bytesOf ba (some ⟨a9, 0, none⟩) 1 fun bb =>
 newB ba (.cells ⟨[.string ⟨bb.toArray⟩]⟩ Zz8) fun bc bd =>
 YeJ Tryz.prog Zyn Zyn (.slice a6 a7 a8) (.slice (some ⟨bc, 0, none⟩) 1 1) bd fun be bf bg bi =>
 stV bi ⟨ak, 256, none⟩ (.slice be bf bg) fun bj =>
 a1 bj) (
 a1 ca)) (
 J ((.iface Zzu (.pointer (some ⟨ak, 0, none⟩)))) ca))))))) fun bk =>
 Zz1 ((d : Int) == (2 : Int)) (
 ZzS c d (0 : Int) fun bl =>
 ldStr w ((bl.add ((0 : Int).toNat * 1))) fun bm =>
 bk (decide ((bm.size : Int) > (1 : Int))) w) (
 bk false w)) : Zz0 Tryz.prog ZxA #[.pointer a] w [.one .val] J:=Zz3 Tryz.func178 (.s .o (.s .o (.s (.j [(28, .bool)] .o (.c (.s (.d (.take 0 (.take 1 (.take 2 (.take 3 (.take 4 (.take 5 (.eff 6 (.take 7 (.take 8 .done)) .none)))))))) .o) .o)) (.s .o (.s (.s .o (.b (.l [(4, .bool), (5, .int .i64)] (.s (.s .o (.c .o .o)) (.j [(4, .bool)] (.b (.s (.s .o (.c (.s .o .o) .o)) (.s .o (.c .o .o)))) .o))))) (.s (.s .o (.c (.s .o (.s (.s .o (.b (.l [(61, .int .i64)] (.s .o (.s (.c .o .o) (.s (.b (.s .o .o)) .o)))))) (.s (.s .o (.b (.l [(8, .int .i64)] (.s (.s .o (.c .o .o)) (.s (.b (.s .o (.s .o .o))) .o))))) (.s .o .o)))) .o)) (.s .o (.s (.s .o (.b (.l [(12, .int .i64)] (.s (.s .o (.c .o .o)) (.s (.b (.s .o (.s .o (.j [] (.s .o (.c .o .o)) .o)))) .o))))) (.s .o .o))))))))) (Eq.mpr (by kernel_rfl) h)
theorem Yac {a : Option Addr} {b : ByteArray} {w : World} {J : ByteArray -> World -> Prop} (h :
 Zzf (fun (ba : Int) (bb : Bool) (bc : World) =>
 Zz1 (!bb) (
 J b bc) (
 mkS bc Zzs (Zy2 Tryz.prog Zzs) 1 1 ba ba fun c d =>
 ∃ bz : Int -> Int -> World -> Nat -> Prop, (∃ b0, bz (0 : Int) (0 : Int) d b0) /\ ∀ (bd : Int) (be : Int) (bf : World) (b0 : Nat), bz bd be bf b0 -> (
 Zz1 (decide (be < (b.size : Int))) (
 Zzf (fun (bg : Int) (bi : World) =>
 ∃ b1, b1 < b0 /\ bz bg (w64 (be + (1 : Int))) bi b1) fun e =>
 Zy6 b be fun f =>
 ZzC a fun g =>
 ZzS (some g) 256 f fun i =>
 ldS bf ((i.add (f.toNat * 1))) fun j k l =>
 Zz1 (!j.isNone) (
 slS (some ⟨c, 0, none⟩) (ba.toNat) (ba.toNat) 1 (some bd) none none fun m n o =>
 ZzC a fun p =>
 ZzS (some p) 256 f fun q =>
 ldS bf.drew ((q.add (f.toNat * 1))) fun r s t =>
 cpyJ Tryz.prog Zzj Zzj (.slice m n o) (.slice r s t) bf.drew fun u v =>
 e (w64 (bd + u)) v) (
 ZzS (some ⟨c, 0, none⟩) (ba.toNat) bd fun x =>
 stV bf ((x.add (bd.toNat * 1))) (.int .u8 f) fun y =>
 e (w64 (bd + (1 : Int))) y)) (
 bytesOf bf (some ⟨c, 0, none⟩) (ba.toNat) fun z =>
 J ⟨z.toArray⟩ bf)))) fun aa =>
 ZzC a fun ab =>
 ldS w ((ab.add 256)) fun ac ad ae =>
 Zz1 (decide ((w64 ((ad : Int) * (8 : Int))) <= (b.size : Int))) (
 ZzC a fun af =>
 ldS w ((af.add 256)) fun ag ai aj =>
 ∃ b2 : Int -> Bool -> Int -> World -> Nat -> Prop, (∃ b0, b2 (b.size : Int) false (0 : Int) w b0) /\ ∀ (bj : Int) (bk : Bool) (bl : Int) (bm : World) (m_1 : Nat), b2 bj bk bl bm m_1 -> (
 Zz1 (decide (bl < (ai : Int))) (
 Zzf (fun (bn : Int) (bo : Bool) (bp : World) =>
 ∃ b1, b1 < m_1 /\ b2 bn bo (w64 (bl + (1 : Int))) bp b1) fun ak =>
 ZzS ag ai bl fun al =>
 ldStr bm ((al.add (bl.toNat * 1))) fun am =>
 Zz0 Tryz.prog Ybm #[.string b, .string am] bm [.one (.int .i64)] fun an ao =>
 Zz1 (an != (0 : Int)) (
 Zy6 am (0 : Int) fun ap =>
 ZzC a fun aq =>
 ZzS (some aq) 256 ap fun ar =>
 ldS ao.drew ((ar.add (ap.toNat * 1))) fun au av ax =>
 ak (w64 (bj + (w64 (an * (w64 ((av : Int) - (1 : Int))))))) true ao.drew) (
 ak bj bk ao)) (
 aa bj bk bm))) (
 ∃ b3 : Int -> Bool -> Int -> World -> Nat -> Prop, (∃ b0, b3 (b.size : Int) false (0 : Int) w b0) /\ ∀ (bq : Int) (br : Bool) (bs : Int) (bt : World) (m_2 : Nat), b3 bq br bs bt m_2 -> (
 Zz1 (decide (bs < (b.size : Int))) (
 Zzf (fun (bu : Int) (bv : Bool) (bx : World) =>
 ∃ b1, b1 < m_2 /\ b3 bu bv (w64 (bs + (1 : Int))) bx b1) fun ay =>
 Zy6 b bs fun az =>
 ZzC a fun a0 =>
 ZzS (some a0) 256 az fun a1 =>
 ldS bt ((a1.add (az.toNat * 1))) fun a2 a3 a4 =>
 Zz1 (!a2.isNone) (
 ZzC a fun a5 =>
 ZzS (some a5) 256 az fun a6 =>
 ldS bt ((a6.add (az.toNat * 1))) fun a7 a8 a9 =>
 ay (w64 (bq + (w64 ((a8 : Int) - (1 : Int))))) true bt) (
 ay bq br bt)) (
 aa bq br bt)))) : Zz0 Tryz.prog ZyR #[.pointer a, .string b] w [.one .str] J:=Zz3 Tryz.func275 (.s .o (.s .o (.s .o (.j [(5, .int .i64), (6, .bool)] (.s .o (.c (.s .o (.b (.l [(5, .int .i64), (6, .bool), (32, .int .i64)] (.s .o (.s (.c .o .o) (.j [(5, .int .i64), (6, .bool)] (.b (.s .o (.s .o (.s .o (.c (.s (.d (.take 0 (.take 1 (.take 2 (.take 3 (.take 4 (.take 5 (.take 6 (.take 7 (.take 8 (.take 9 (.take 10 (.take 11 (.take 12 (.take 13 .done))))))))))))))) .o) .o))))) .o)))))) (.s .o (.b (.l [(5, .int .i64), (6, .bool), (10, .int .i64)] (.s (.s .o (.c .o .o)) (.j [(5, .int .i64), (6, .bool)] (.b (.s .o (.s .o (.c (.s .o .o) .o)))) .o))))))) (.s (.s .o (.c (.s .o .o) .o)) (.s .o (.s .o (.s (.s .o (.b (.l [(13, .int .i64), (14, .int .i64)] (.s (.s .o (.c .o .o)) (.j [(13, .int .i64)] (.b (.s .o (.s .o (.c (.d (.take 0 (.take 1 (.take 2 (.take 3 (.take 4 (.take 5 (.take 6 (.take 7 (.take 8 (.take 9 (.eff 10 (.take 11 (.take 12 .done)) .none)))))))))))) (.s .o .o))))) .o))))) (.s .o .o))))))))) (Eq.mpr (by kernel_rfl) h)
theorem YhZ {a b : ByteArray} {w : World} {J : Int -> World -> Prop} (h :
 Zz1 ((b.size : Int) == (0 : Int)) (
 Zz0 Tryz.prog YaD #[.string a] w [.one (.int .i64)] fun c d =>
 J (w64 (c + (1 : Int))) d) (
 Zz1 ((b.size : Int) == (1 : Int)) (
 Zy6 b (0 : Int) fun e =>
 extJ Tryz.prog ZxR #[.string a, .int .u8 e] w [.one (.int .i64)] fun f g =>
 J f g) (
 ∃ n : ByteArray -> Int -> World -> Nat -> Prop, (∃ o, n a (0 : Int) w o) /\ ∀ (a : ByteArray) (l : Int) (m : World) (o : Nat), n a l m o -> (
 Zz0 Tryz.prog YgH #[.string a, .string b] m [.one (.int .i64)] fun i j =>
 Zz1 (i == (-1 : Int)) (
 J l j) (
 YaO a (some (w64 (i + (b.size : Int)))) none fun k =>
 ∃ p, p < o /\ n k (w64 (l + (1 : Int))) j p))))) : Zz0 Tryz.prog Ybm #[.string a, .string b] w [.one (.int .i64)] J:=Zz3 Tryz.func277 (.s .o (.s (.s .o (.c (.s .o .o) .o)) (.s (.s .o (.c (.s .o .o) .o)) (.s .o (.b (.l [(0, .str), (5, .int .i64)] (.b (.s .o (.s (.s .o (.c (.s .o .o) .o)) (.s .o .o)))))))))) (Eq.mpr (by kernel_rfl) h)
theorem c_refer_Text {a : ByteArray} {w : World} {J : ByteArray -> World -> Prop} (h :
 newB w (.cells ⟨[.string ⟨#[38]⟩, .string ⟨#[38, 97, 109, 112, 59]⟩, .string ⟨#[60]⟩, .string ⟨#[38, 108, 116, 59]⟩, .string ⟨#[62]⟩, .string ⟨#[38, 103, 116, 59]⟩, .string ⟨#[13]⟩, .string ⟨#[38, 35, 49, 51, 59]⟩]⟩ Zz8) fun b c =>
 Zz0 Tryz.prog Zx7 #[.slice (some ⟨b, 0, none⟩) 8 8] c [.one .ptr] fun d e =>
 Zz0 Tryz.prog Zqv #[.pointer d, .string a] e [.one .str] fun f g =>
 J f g) : Zz0 Tryz.prog Ydv #[.string a] w [.one .str] J:=Zz3 Tryz.func50 (.s .o (.s .o .o)) (Eq.mpr (by kernel_rfl) h)
theorem c_refer_Quote {a : ByteArray} {w : World} {J : ByteArray -> World -> Prop} (h :
 newB w (.cells ⟨[.string ⟨#[38]⟩, .string ⟨#[38, 97, 109, 112, 59]⟩, .string ⟨#[60]⟩, .string ⟨#[38, 108, 116, 59]⟩, .string ⟨#[34]⟩, .string ⟨#[38, 113, 117, 111, 116, 59]⟩, .string ⟨#[9]⟩, .string ⟨#[38, 35, 57, 59]⟩, .string ⟨#[10]⟩, .string ⟨#[38, 35, 49, 48, 59]⟩, .string ⟨#[13]⟩, .string ⟨#[38, 35, 49, 51, 59]⟩]⟩ Zz8) fun b c =>
 Zz0 Tryz.prog Zx7 #[.slice (some ⟨b, 0, none⟩) 12 12] c [.one .ptr] fun d e =>
 Zz0 Tryz.prog Zqv #[.pointer d, .string a] e [.one .str] fun f g =>
 J f g) : Zz0 Tryz.prog Zqk #[.string a] w [.one .str] J:=Zz3 Tryz.func93 (.s .o (.s .o .o)) (Eq.mpr (by kernel_rfl) h)
end Go.Proofs.YtglnmjflpkeclaaGreatDoor
end
section
namespace Go.Vc
open Go Go.RowKit
structure Fit (xs rest : List Value) (l c sz : Nat) : Prop where
 len : xs.length = l * sz
 le : l <= c
 max : c <= maxLen
 all : (xs ++ rest).length = c * sz
section
variable {w0 w w' : World} {S : Nat -> Prop} {Γ Γ' : List Blk} {b : Nat} {cs xs rest : List Value} {e : TypeId} {l c sz : Nat}
theorem Hp.rowAt (H : Hp w0 S w Γ) (i : Nat) (hi : Γ[i]? = some ⟨b, xs ++ rest, e⟩) (F : Fit xs rest l c sz) : Row w e sz (some ⟨b, 0, none⟩) l c xs:=H.asRow i hi rfl F.len F.le F.max F.all
theorem Hp.slAt (H : Hp w0 S w Γ) (i : Nat) (hi : Γ[i]? = some ⟨b, xs ++ rest, e⟩) (F : Fit xs rest l c sz) : Sl w (some ⟨b, 0, none⟩) l sz xs:=(H.rowAt i hi F).sl
theorem Row.fit {p : Option Addr} (h : Row w e sz p l c xs) (hp : p ≠ none) : ∃ b rest, p = some ⟨b, 0, none⟩ /\ w.heap[b]? = some (.cells ⟨xs ++ rest⟩ e (0, 0)) /\ Fit xs rest l c sz:=by
 rcases h.2 with ⟨h0, _⟩ | ⟨b, rest, hp', hh, h1, h2, h3⟩
 ·exact absurd h0 hp
 ·exact ⟨b, rest, hp', hh, h.1, h1, h2, h3⟩
theorem Hp.appG {P : Program} {t : TypeId} {by_ : Nat} {z : Array Value} (T : SlT P t e sz by_ z) (H : Hp w0 S w Γ) (i : Nat) (hi : Γ[i]? = some ⟨b, xs ++ rest, e⟩) (F : Fit xs rest l c sz) {q : Option Addr} {m c2 : Nat} {news : List Value} {K : Option Addr -> Nat -> Nat -> World -> Prop}
    (src : Sl w q m sz news) (h1 : one1 news) (hq : q = none -> m = 0) (hb : (l + m) * by_ <= 140737488355328) (hmax : l + m <= maxLen)
    (k : ∀ b' rest' c' w', Hp w0 S w' (Γ.set i ⟨b', (xs ++ news) ++ rest', e⟩) -> Fit (xs ++ news) rest' (l + m) c' sz -> (b' = b \/ w.heap.size <= b') -> Chg (fun x => x = b) w w' -> K (some ⟨b', 0, none⟩) (l + m) c' w') :
    YeJ P t t (.slice (some ⟨b, 0, none⟩) l c) (.slice q m c2) w K:=by
  refine Ycc T (H.rowAt i hi F) src h1 hq hb hmax fun p' c' w' hr hc hf => ?_
  have hc' : Chg (fun x => x = b) w w':=hc.mono fun x _ ⟨a, ha, e⟩ => by cases ha; exact e.symm
  have hp' : p' ≠ none:=by
    rcases hf with rfl | ⟨_, hlt⟩
    · simp
    · intro e0
      have:=hr.none0 e0
      have:=F.le
      omega
  obtain ⟨b', rest', rfl, hh, F'⟩:=hr.fit hp'
  have hilt : i < Γ.length:=(List.getElem?_eq_some_iff.1 hi).1
  have hget : Γ[i] = ⟨b, xs ++ rest, e⟩:=(List.getElem?_eq_some_iff.1 hi).2
  have hbb : b' = b \/ w.heap.size <= b':=by
    rcases hf with h | ⟨h, _⟩
    · left; injection h with h; injection h
    · exact .inr (h _ rfl)
  have hown:=H.own ⟨b, xs ++ rest, e⟩ (List.mem_of_getElem? hi)
  have hne : ∀ j p, Γ[j]? = some p -> j ≠ i -> p.b ≠ b:=by
    intro j p hj hji he
    have h1 : (Γ.map (·.b))[j]? = some b:=by rw [List.getElem?_map, hj]; simp [he]
    have h2 : (Γ.map (·.b))[i]? = some b:=by rw [List.getElem?_map, hi]; simp
    exact hji (Yht H.nd h1 h2)
  refine k b' rest' c' w' ⟨H.chg.trans hc' fun x hx e => by subst e; exact hown hx, fun p hp => ?_, ?_, fun p hp hlt => ?_⟩ F' hbb hc'
  · obtain ⟨j, hj⟩:=List.mem_iff_getElem?.1 hp
    rw [List.getElem?_set] at hj
    by_cases hij : i = j
    · rw [if_pos hij] at hj
      have : some (⟨b', (xs ++ news) ++ rest', e⟩ : Blk) = some p:=by subst hij; simpa [hilt] using hj
      cases this
      exact hh
    · rw [if_neg hij] at hj
      exact hc'.heap (H.is p (List.mem_of_getElem? hj)) (hne j p hj (Ne.symm hij))
  · rw [List.map_set]
    refine List.pairwise_iff_getElem.2 fun j1 j2 h1 h2 hlt => ?_
    have hp:=List.pairwise_iff_getElem.1 H.nd
    rw [List.length_set, List.length_map] at h1 h2
    have blk : ∀ j (hj : j < Γ.length), j ≠ i -> Γ[j].b ≠ b':=by
      intro j hj hji
      rcases hbb with rfl | hge
      · exact hne j _ (List.getElem?_eq_getElem hj) hji
      · have:=Zy4 (H.is Γ[j] (List.getElem_mem hj))
        omega
    rw [List.getElem_set, List.getElem_set]
    split
    · next hi1 =>
      rw [if_neg (by omega), List.getElem_map]
      exact (blk j2 h2 (by omega)).symm
    · next hi1 =>
      split
      · rw [List.getElem_map]; exact blk j1 h1 (Ne.symm hi1)
      · have:=hp j1 j2 (by simpa using h1) (by simpa using h2) hlt
        exact this
  · rcases List.mem_or_eq_of_mem_set hp with hp | rfl
    · exact H.own p hp hlt
    · rcases hbb with h | h
      · simp only at hlt ⊢; rw [h] at hlt ⊢; exact hown hlt
      · have:=H.chg.size; simp only at hlt; omega
theorem Hp.perm (H : Hp w0 S w Γ) (h : Γ.Perm Γ') : Hp w0 S w Γ' :=
 ⟨H.chg, fun p hp => H.is p (h.mem_iff.2 hp), (h.map (·.b)).nodup_iff.1 H.nd, fun p hp => H.own p (h.mem_iff.2 hp)⟩
theorem Hp.sub (H : Hp w0 S w Γ) (h : Γ'.Sublist Γ) : Hp w0 S w Γ' :=
 ⟨H.chg, fun p hp => H.is p (h.subset hp), List.Pairwise.sublist (h.map (·.b)) H.nd, fun p hp => H.own p (h.subset hp)⟩
theorem Hp.blk_ne (H : Hp w0 S w Γ) {i j : Nat} {b1 b2 : Nat} {c1 c2 : List Value} {e1 e2 : TypeId} (hi : Γ[i]? = some ⟨b1, c1, e1⟩) (hj : Γ[j]? = some ⟨b2, c2, e2⟩) (hij : i ≠ j) : b1 ≠ b2:=by
 intro he
 have h1 : (Γ.map (·.b))[i]? = some b1:=by rw [getElem?_map, hi]; rfl
 have h2 : (Γ.map (·.b))[j]? = some b1:=by rw [getElem?_map, hj, he]; rfl
 exact hij (Yht H.nd h1 h2)
end
end Go.Vc
end
