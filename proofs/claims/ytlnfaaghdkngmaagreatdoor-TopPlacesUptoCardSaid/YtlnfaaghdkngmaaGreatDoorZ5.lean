/- What the statement needs, part 5. -/
import Derived.Test.YtlnfaaghdkngmaaGreatDoorZ4
set_option linter.unusedSectionVars false
set_option linter.unusedVariables false
set_option linter.unusedSimpArgs false
set_option maxRecDepth 100000
open List
section
namespace Go.Vc
open Go Go.RowKit
section
variable {R : Type}
def putK (n : Nat) (fr : Tr VV) (dst : Option Nat) (v : VV) (k : Tr VV -> Option R) : Option R :=
 match dst with
 | none => k fr
 | some d => bif Nat.blt d n then fr.setK d v k else none
end
section
variable {P : Program} {w0 w w' : World} {ph ph' : Ph} {H : Tr VB} {fr : Tr VV} {F : Fr}
theorem Yeo {R : Type} {n : Nat} {dst : Option Nat} {v : VV} {V : Value} {k : Tr VV -> Option R} {r : R} (h : putK n fr dst v k = some r) (hf : ZqK ph fr F) (rv : Rel ph v V) : ∃ fr', k fr' = some r /\ ZqK ph fr' (F.put n dst V) := by
 unfold putK at h
 split at h
 ·exact ⟨fr, h, hf⟩
 ·next d =>
  cases hb : Nat.blt d n with
  | false => rw [hb] at h; cases h
  | true =>
   simp only [hb, cond_true, Tr.setK_eq] at h
   refine ⟨_, h, fun t x hx => ?_⟩
   simp only [Fr.put, Fr.set, hb, cond_true]
   by_cases e : t = d
   ·subst e
    rw [Tr.get_same] at hx
    cases hx
    exact ⟨V, by simp, rv⟩
   ·rw [Tr.get_other _ _ e] at hx
    rw [beqN, decide_eq_false e, cond_false]
    exact hf t x hx
def evG (all : Array Oper) (o : Oper) (fr : Tr VV) : Option Bool :=
 match o.guard with
 | none => some true
 | some (j, want) => match (all[j]?).bind (·.dst) with
  | none => none
  | some d => match fr.get d with
   | some (.bool true) => some want
   | some (.bool false) => some (!want)
   | some (.tup _) => some false
   | _ => none
theorem evG_o {all : Array Oper} {o : Oper} {b : Bool} (h : evG all o fr = some b) (hf : ZqK ph fr F) {K : Fr -> Bool -> Prop} (hK : ∀ Fr', ZqK ph fr Fr' -> K Fr' b) : vcG all o F K := by
 unfold evG at h
 unfold vcG
 split at h
 ·next hg => simp only [Option.some.injEq] at h; subst h; simp only [hg]; exact hK _ hf
 ·next j want hg =>
  simp only [hg]
  split at h
  ·cases h
  ·next d hd =>
   simp only [hd]
   have know : ∀ g : Bool, F d = some (.bool g) -> ZqK ph fr (F.set d (some (.bool g))) := by
    intro g hg t x hx
    simp only [Fr.set]
    by_cases e : t = d
    ·subst e; rw [show Nat.beq t t = true from Nat.beq_refl t, cond_true, <- hg]; exact hf t x hx
    ·rw [beqN, decide_eq_false e, cond_false]; exact hf t x hx
   split at h
   ·next hx =>
    obtain ⟨V, e, r⟩ := hf _ _ hx
    simp only [Rel] at r; subst r
    simp only [Option.some.injEq] at h; subst h
    simp only [e]
    exact hK _ (know true e)
   ·next hx =>
    obtain ⟨V, e, r⟩ := hf _ _ hx
    simp only [Rel] at r; subst r
    simp only [Option.some.injEq] at h; subst h
    simp only [e]
    exact hK _ (know false e)
   ·next vs hx =>
    obtain ⟨V, e, r⟩ := hf _ _ hx
    simp only [Rel] at r; obtain ⟨L, _, rfl⟩ := r
    simp only [Option.some.injEq] at h; subst h
    simp only [e]
    exact hK _ hf
   ·cases h
abbrev OutT := Option (Tr VV × Tr VB × Nat)
def evOps (P : Program) (call : Zxe) (n : Nat) (all : Array Oper) : List Oper -> Tr VV -> Tr VB -> Nat -> OutT
 | [], fr, H, N => some (fr, H, N)
 | o :: r, fr, H, N => match evG all o fr with
  | none => none
  | some false => putK n fr o.dst (.tup []) fun fr => evOps P call n all r fr H N
  | some true => match Yfh P o with
   | true => (match evEff P call H fr N o with
    | none => none
    | some (v, H, N) => fN N fun N => putK n fr o.dst v fun fr => evOps P call n all r fr H N)
   | false => (match evRead P H fr o with
    | none => none
    | some (v, _) => putK n fr o.dst v fun fr => evOps P call n all r fr H N)
theorem YgA : Rel ph (.tup []) undef := by simp only [Rel]; exact ⟨[], Zzz.nil, rfl⟩
theorem evOps_o {call : Zxe} (hc : Ybc P w0 call) {n : Nat} {all : Array Oper} : ∀ {l : List Oper} {ph : Ph} {w : World} {fr : Tr VV} {H : Tr VB} {N : Nat} {F : Fr} {fr' : Tr VV} {H' : Tr VB} {N' : Nat} {K : Fr -> World -> Prop},
  evOps P call n all l fr H N = some (fr', H', N') -> RH w0 ph H w -> ZqK ph fr F -> (∀ Fr' ph' w', ph.le ph' -> RH w0 ph' H' w' -> ZqK ph' fr' Fr' -> K Fr' w') -> vcOps P n all l F w K
 | [], ph, w, fr, H, N, F, fr', H', N', K, h, hR, hf, hK => by
  simp only [evOps, Option.some.injEq, Prod.mk.injEq] at h
  obtain ⟨rfl, rfl, _⟩ := h
  exact hK _ ph _ (Ph.le.refl _) hR hf
 | o :: r, ph, w, fr, H, N, F, fr', H', N', K, h, hR, hf, hK => by
  unfold evOps at h
  simp only [vcOps, vcOp1]
  split at h
  ·cases h
  ·next hg =>
   refine evG_o hg hf fun Fr1 hf1 => ?_
   simp only [cond_false]
   obtain ⟨fr2, h2, hf2⟩ := Yeo h hf1 YgA
   exact evOps_o hc h2 hR hf2 hK
  ·next hg =>
   refine evG_o hg hf fun Fr1 hf1 => ?_
   simp only [cond_true]
   split at h
   ·next he =>
    simp only [he, cond_true]
    split at h
    ·cases h
    ·next v H1 N1 hv =>
     simp only [fN_eq] at h
     refine evEff_o hc hR hf1 hv fun V ph1 w1 hle hR1 rv => ?_
     obtain ⟨fr2, h2, hf2⟩ := Yeo h (hf1.mono hle) rv
     exact evOps_o hc h2 hR1 hf2 fun Fr' ph' w' hle' => hK Fr' ph' w' (hle.trans hle')
   ·next he =>
    simp only [he, cond_false]
    split at h
    ·cases h
    ·next v ld hv =>
     refine Ygq hR hf1 hv fun V S rv _ => ?_
     obtain ⟨fr2, h2, hf2⟩ := Yeo h hf1 rv
     exact evOps_o hc h2 hR hf2 hK
def eqI (a b : Int) : Bool := match a, b with
 | .ofNat m, .ofNat n => Nat.beq m n
 | .negSucc m, .negSucc n => Nat.beq m n
 | _, _ => false
theorem eqI_o {a b : Int} (h : eqI a b = true) : a = b := by
 unfold eqI at h
 split at h
 ·rw [Nat.eq_of_beq_eq_true h]
 ·rw [Nat.eq_of_beq_eq_true h]
 ·cases h
theorem eqU_o {a b : List UInt8} (h : eqU a b = true) : a = b := by rw [eqU_eq] at h; exact eq_of_beq h
def eqCP (a b : CP) : Bool := match a, b with
 | .num m, .num n => Nat.beq m n
 | .blk s o, .blk s' o' => Nat.beq s s' && Nat.beq o o'
 | _, _ => false
theorem eqCP_o {a b : CP} (h : eqCP a b = true) : a = b := by
 unfold eqCP at h
 split at h
 ·rw [Nat.eq_of_beq_eq_true h]
 ·simp only [Bool.and_eq_true] at h; rw [Nat.eq_of_beq_eq_true h.1, Nat.eq_of_beq_eq_true h.2]
 ·cases h
def eqV0 (a b : VV) : Bool := match a, b with
 | .int k m, .int k' n => k == k' && eqI m n
 | .bool a, .bool b => a == b
 | .str s, .str t => eqU s t
 | .ptr none, .ptr none => true
 | .ptr (some (n, o)), .ptr (some (n', o')) => Nat.beq n n' && Nat.beq o o'
 | .sln, .sln => true
 | .sl n o l c, .sl n' o' l' c' => Nat.beq n n' && Nat.beq o o' && Nat.beq l l' && eqCP c c'
 | .slz n a b s o, .slz n' a' b' s' o' => Nat.beq n n' && Nat.beq a a' && Nat.beq b b' && Nat.beq s s' && Nat.beq o o'
 | .nf, .nf => true
 | .ni, .ni => true
 | _, _ => false
theorem eqV0_o {a b : VV} (h : eqV0 a b = true) : a = b := by
 unfold eqV0 at h
 split at h <;> (try simp only [Bool.and_eq_true] at h)
 ·rw [eq_of_beq h.1, eqI_o h.2]
 ·rw [eq_of_beq h]
 ·rw [eqU_o h]
 ·rfl
 ·rw [Nat.eq_of_beq_eq_true h.1, Nat.eq_of_beq_eq_true h.2]
 ·rfl
 ·rw [Nat.eq_of_beq_eq_true h.1.1.1, Nat.eq_of_beq_eq_true h.1.1.2, Nat.eq_of_beq_eq_true h.1.2, eqCP_o h.2]
 ·rw [Nat.eq_of_beq_eq_true h.1.1.1.1, Nat.eq_of_beq_eq_true h.1.1.1.2, Nat.eq_of_beq_eq_true h.1.1.2, Nat.eq_of_beq_eq_true h.1.2, Nat.eq_of_beq_eq_true h.2]
 ·rfl
 ·rfl
 ·cases h
def eqVs (e : VV -> VV -> Bool) : List VV -> List VV -> Bool
 | [], [] => true
 | a :: r, b :: s => e a b && eqVs e r s
 | _, _ => false
theorem YeM {e : VV -> VV -> Bool} (he : ∀ {a b}, e a b = true -> a = b) : ∀ {a b : List VV}, eqVs e a b = true -> a = b
 | [], [], _ => rfl
 | [], _ :: _, h => by simp [eqVs] at h
 | _ :: _, [], h => by simp [eqVs] at h
 | _ :: _, _ :: _, h => by
  simp only [eqVs, Bool.and_eq_true] at h
  rw [he h.1, YeM he h.2]
def eqV1 (a b : VV) : Bool := match a, b with
 | .agg l, .agg m => eqVs eqV0 l m
 | .fn g x y, .fn g' x' y' => Nat.beq g g' && eqVs eqV0 x x' && eqVs eqV0 y y'
 | .iface t v, .iface t' v' => Nat.beq t t' && eqV0 v v'
 | a, b => eqV0 a b
theorem eqV1_o {a b : VV} (h : eqV1 a b = true) : a = b := by
 unfold eqV1 at h
 split at h
 ·rw [YeM eqV0_o h]
 ·simp only [Bool.and_eq_true] at h
  rw [Nat.eq_of_beq_eq_true h.1.1, YeM eqV0_o h.1.2, YeM eqV0_o h.2]
 ·simp only [Bool.and_eq_true] at h
  rw [Nat.eq_of_beq_eq_true h.1, eqV0_o h.2]
 ·exact eqV0_o h
def eqV (a b : VV) : Bool := match a, b with
 | .tup l, .tup m => eqVs eqV1 l m
 | a, b => eqV1 a b
theorem eqV_o {a b : VV} (h : eqV a b = true) : a = b := by
 unfold eqV at h
 split at h
 ·rw [YeM eqV1_o h]
 ·exact eqV1_o h
def eqVB (a b : VB) : Bool := match a, b with
 | .dead, .dead => true
 | .con x, .con y => eqVs eqV1 x y
 | .cells x e s, .cells y e' s' => eqVs eqV1 x y && Nat.beq e e' && Nat.beq s s'
 | .iter s p, .iter t q => eqU s t && Nat.beq p q
 | _, _ => false
theorem eqVB_o {a b : VB} (h : eqVB a b = true) : a = b := by
 unfold eqVB at h
 split at h <;> (try simp only [Bool.and_eq_true] at h)
 ·rfl
 ·rw [YeM eqV1_o h]
 ·rw [YeM eqV1_o h.1.1, Nat.eq_of_beq_eq_true h.1.2, Nat.eq_of_beq_eq_true h.2]
 ·rw [eqU_o h.1, Nat.eq_of_beq_eq_true h.2]
 ·cases h
def eqTr {α : Type} (e : α -> α -> Bool) : Tr α -> Tr α -> Bool
 | .lf, .lf => true
 | .nd none l r, .nd none l' r' => eqTr e l l' && eqTr e r r'
 | .nd (some x) l r, .nd (some y) l' r' => e x y && eqTr e l l' && eqTr e r r'
 | _, _ => false
theorem eqTr_o {α : Type} {e : α -> α -> Bool} (he : ∀ {a b}, e a b = true -> a = b) : ∀ {a b : Tr α}, eqTr e a b = true -> a = b
 | .lf, .lf, _ => rfl
 | .lf, .nd .., h => by simp [eqTr] at h
 | .nd none _ _, .lf, h => by simp [eqTr] at h
 | .nd (some _) _ _, .lf, h => by simp [eqTr] at h
 | .nd none l r, .nd none l' r', h => by
  simp only [eqTr, Bool.and_eq_true] at h
  rw [eqTr_o he h.1, eqTr_o he h.2]
 | .nd none _ _, .nd (some _) _ _, h => by simp [eqTr] at h
 | .nd (some _) _ _, .nd none _ _, h => by simp [eqTr] at h
 | .nd (some x) l r, .nd (some y) l' r', h => by
  simp only [eqTr, Bool.and_eq_true] at h
  rw [he h.1.1, eqTr_o he h.1.2, eqTr_o he h.2]
def YgC (H : Tr VB) : Option Ld -> Bool
 | none => true
 | some (n, off, vs) => match YeP H n off vs.length with
  | some us => eqVs eqV us vs
  | none => false
def Yf0 (ph : Ph) (ld : Option Ld) (S : World -> Prop) : Prop :=
 match ld with
 | none => ∀ w, S w
 | some (n, off, vs) => ∃ b g Vs, ph n = some (b, g) /\ Zzz ph vs Vs /\ ∀ w', Zzn w' ⟨b, off, none⟩ Vs -> S w'
theorem Yf0.mono {ld : Option Ld} {S : World -> Prop} (h : Yf0 ph ld S) (hle : ph.le ph') : Yf0 ph' ld S := by
 cases ld with
 | none => exact h
 | some x => obtain ⟨n, off, vs⟩ := x; obtain ⟨b, g, Vs, h1, h2, h3⟩ := h; exact ⟨b, g, Vs, hle _ _ h1, h2.mono hle, h3⟩
theorem Yf0.of (hR : RH w0 ph H w) {ld : Option Ld} {S : World -> Prop} (h : LdOk ph ld S) (hs : YgC H ld = true) : Yf0 ph ld S := by
 cases ld with
 | none => exact h
 | some x =>
  obtain ⟨n, off, vs⟩ := x
  unfold YgC at hs
  simp only at hs
  split at hs
  ·next us hus =>
   obtain ⟨b, g, Us, hp, r, hl, hc⟩ := YaQ hR hus
   have := YeM eqV_o hs
   subst this
   exact ⟨b, g, Us, hp, r, fun w' hw' => h b g Us hp r w' hw'⟩
  ·cases hs
theorem Yf0.still (hR : RH w0 ph H w) {ld : Option Ld} {S : World -> Prop} (h : Yf0 ph ld S) (hs : YgC H ld = true) : S w := by
 cases ld with
 | none => exact h w
 | some x =>
  obtain ⟨n, off, vs⟩ := x
  obtain ⟨b, g, Vs, h1, h2, h3⟩ := h
  unfold YgC at hs
  simp only at hs
  split at hs
  ·next us hus =>
   obtain ⟨b', g', Us, hp, r, hl, hc⟩ := YaQ hR hus
   have := YeM eqV_o hs
   subst this
   obtain ⟨rfl, rfl⟩ := phdet h1 hp
   rw [Zzz.det h2 r] at h3
   exact h3 w hc
  ·cases hs
abbrev VHeld := List (Nat × Option Ld)
def HRel (ph : Ph) : VHeld -> Held -> Prop
 | [], Γ => Γ = []
 | (i, ld) :: r, Γ => ∃ S Δ, Γ = (i, S) :: Δ /\ Yf0 ph ld S /\ HRel ph r Δ
theorem HRel.mono {Λ : VHeld} : ∀ {Γ : Held}, HRel ph Λ Γ -> ph.le ph' -> HRel ph' Λ Γ := by
 induction Λ with
 | nil => intro Γ h _; exact h
 | cons x r ih =>
  obtain ⟨i, ld⟩ := x
  intro Γ h hle
  obtain ⟨S, Δ, rfl, h1, h2⟩ := h
  exact ⟨S, Δ, rfl, h1.mono hle, ih h2 hle⟩
def Yej (ops : Array Oper) (i : Nat) (H : Tr VB) : VHeld -> Bool
 | [] => true
 | (k, ld) :: r => (dep ops i k || YgC H ld) && Yej ops i H r
theorem Yf8 (hR : RH w0 ph H w) {ops : Array Oper} {i : Nat} {X : Prop} (hX : X) : ∀ {Λ : VHeld} {Γ : Held}, Yej ops i H Λ = true -> HRel ph Λ Γ -> oblC ops i w X Γ
 | [], Γ, _, h => by simp only [HRel] at h; subst h; exact hX
 | (k, ld) :: r, Γ, hs, h => by
  obtain ⟨S, Δ, rfl, h1, h2⟩ := h
  simp only [Yej, Bool.and_eq_true] at hs
  unfold oblC
  cases hd : dep ops i k with
  | true => rw [cond_true]; exact Yf8 hR hX hs.2 h2
  | false =>
   rw [hd, Bool.false_or] at hs
   rw [cond_false]
   exact ⟨h1.still hR hs.1, Yf8 hR hX hs.2 h2⟩
def isCall (o : Oper) : Bool := match o.op with | .call { callee := .value _, .. } => true | _ => false
def evOne (P : Program) (call : Zxe) (n : Nat) (ops : Array Oper) (B i : Nat) (o : Oper) (Λ : VHeld) (fr : Tr VV) (H : Tr VB) (N : Nat) (k : Tr VV -> Tr VB -> Nat -> OutT) : OutT :=
 match evG ops o fr with
 | none => none
 | some false => putK n fr o.dst (.tup []) fun fr => k fr H N
 | some true => match Yfh P o with
  | true => (match evEff P call H fr (bif isCall o then N else Nat.add B i) o with
   | none => none
   | some (v, H', N') => bif Yej ops i H' Λ then fN (bif isCall o then N' else N) fun N => putK n fr o.dst v fun fr => k fr H' N else none)
  | false => (match evRead P H fr o with
   | none => none
   | some (v, _) => putK n fr o.dst v fun fr => k fr H N)
def sameOut (a b : OutT) : OutT := match a, b with
 | some (fr, H, N), some (fr', H', _) => bif eqTr eqV fr fr' && eqTr eqVB H H' then some (fr, H, N) else none
 | _, _ => none
def evDA (P : Program) (call : Zxe) (n : Nat) (ops : Array Oper) (B : Nat) : DA -> VHeld -> Tr VV -> Tr VB -> Nat -> OutT
 | .done, _, fr, H, N => some (fr, H, N)
 | .take i k, Λ, fr, H, N => (match ops[i]? with
  | none => none
  | some o => match evG ops o fr with
   | none => none
   | some false => putK n fr o.dst (.tup []) fun fr => evDA P call n ops B k Λ fr H N
   | some true => match evRead P H fr o with
    | none => none
    | some (v, ld) => match isLd P o with
     | true => bif YgC H ld then putK n fr o.dst v fun fr => evDA P call n ops B k ((i, ld) :: Λ) fr H N else none
     | false => putK n fr o.dst v fun fr => evDA P call n ops B k Λ fr H N)
 | .eff i k .none, Λ, fr, H, N => (match ops[i]? with
  | none => none
  | some o => evOne P call n ops B i o Λ fr H N fun fr H N => evDA P call n ops B k Λ fr H N)
 | .eff i k alt, Λ, fr, H, N => (match ops[i]? with
  | none => none
  | some o => sameOut (evOne P call n ops B i o Λ fr H N fun fr H N => evDA P call n ops B k Λ fr H N) (evDA P call n ops B alt Λ fr H N))
 | .none, _, _, _, _ => none
def wfDA (P : Program) (ops : Array Oper) : Bool -> DA -> Nat -> Array Bool -> Bool
 | _, .done, _, listed => (Region.ready .any ops listed).isEmpty
 | _, .take i k, fuel + 1, listed => (match ops[i]? with
  | none => false
  | some o => (Region.free .any ops listed i && (Region.ready .any ops listed).contains i && !Yfh P o) && wfDA P ops true k fuel (listed.setIfInBounds i true))
 | chk, .eff i k alt, fuel + 1, listed => (!chk || (i :: alt.idx) == Region.ready .any ops listed) && wfDA P ops true k fuel (listed.setIfInBounds i true) &&
   (match alt with | .none => true | alt => wfDA P ops false alt (fuel + 1) listed)
 | _, _, _, _ => false
theorem sameOut_o {a b : OutT} {fr : Tr VV} {H : Tr VB} {N : Nat} (h : sameOut a b = some (fr, H, N)) : a = some (fr, H, N) /\ ∃ N', b = some (fr, H, N') := by
 unfold sameOut at h
 split at h
 ·next fr1 H1 N1 fr2 H2 N2 =>
  cases hb : (eqTr eqV fr1 fr2 && eqTr eqVB H1 H2) with
  | false => simp [hb] at h
  | true =>
   simp only [hb, cond_true, Option.some.injEq, Prod.mk.injEq] at h
   obtain ⟨rfl, rfl, rfl⟩ := h
   simp only [Bool.and_eq_true] at hb
   rw [<- eqTr_o eqV_o hb.1, <- eqTr_o eqVB_o hb.2]
   exact ⟨rfl, _, rfl⟩
 ·cases h
theorem evOne_o {call : Zxe} (hc : Ybc P w0 call) (hR : RH w0 ph H w) (hf : ZqK ph fr F) {n : Nat} {ops : Array Oper} {B i : Nat} {o : Oper} {Λ : VHeld} {Γ : Held} (hΛ : HRel ph Λ Γ) {N : Nat} {k : Tr VV -> Tr VB -> Nat -> OutT} {r : Tr VV × Tr VB × Nat}
  (h : evOne P call n ops B i o Λ fr H N k = some r) {D : Fr -> World -> Prop}
  (hK : ∀ (ph' : Ph) fr' H' N' Fr' w', ph.le ph' -> RH w0 ph' H' w' -> ZqK ph' fr' Fr' -> HRel ph' Λ Γ -> k fr' H' N' = some r -> D Fr' w') :
  vcG ops o F fun Fr' run => bif run then
   (bif Yfh P o then vcEff P Fr' o w fun v w' => oblC ops i w' (D (Fr'.put n o.dst v) w') Γ else Ydt P Fr' o w fun v _ => D (Fr'.put n o.dst v) w)
  else D (Fr'.put n o.dst undef) w := by
 unfold evOne at h
 split at h
 ·cases h
 ·next hg =>
  refine evG_o hg hf fun Fr1 hf1 => ?_
  simp only [cond_false]
  obtain ⟨fr2, h2, hf2⟩ := Yeo h hf1 YgA
  exact hK ph _ _ _ _ _ (Ph.le.refl _) hR hf2 hΛ h2
 ·next hg =>
  refine evG_o hg hf fun Fr1 hf1 => ?_
  simp only [cond_true]
  split at h
  ·next he =>
   simp only [he, cond_true]
   split at h
   ·cases h
   ·next v H1 N1 hv =>
    cases hs : Yej ops i H1 Λ with
    | false => rw [hs] at h; cases h
    | true =>
     simp only [hs, cond_true, fN_eq] at h
     refine evEff_o hc hR hf1 hv fun V ph1 w1 hle hR1 rv => ?_
     obtain ⟨fr2, h2, hf2⟩ := Yeo h (hf1.mono hle) rv
     exact Yf8 hR1 (hK ph1 _ _ _ _ _ hle hR1 hf2 (hΛ.mono hle) h2) hs (hΛ.mono hle)
  ·next he =>
   simp only [he, cond_false]
   split at h
   ·cases h
   ·next v ld hv =>
    refine Ygq hR hf1 hv fun V S rv _ => ?_
    obtain ⟨fr2, h2, hf2⟩ := Yeo h hf1 rv
    exact hK ph _ _ _ _ _ (Ph.le.refl _) hR hf2 hΛ h2
theorem evDA_o {call : Zxe} (hc : Ybc P w0 call) {n : Nat} {ops : Array Oper} {B : Nat} : ∀ (d : DA) (chk : Bool) (fuel : Nat) (listed : Array Bool) {ph : Ph} {w : World} {fr : Tr VV} {H : Tr VB} {N : Nat} {F : Fr} {Λ : VHeld} {Γ : Held} {fr' : Tr VV} {H' : Tr VB} {N' : Nat} {K : Fr -> World -> Prop},
  wfDA P ops chk d fuel listed = true -> evDA P call n ops B d Λ fr H N = some (fr', H', N') -> RH w0 ph H w -> ZqK ph fr F -> HRel ph Λ Γ -> (∀ Fr' ph' w', ph.le ph' -> RH w0 ph' H' w' -> ZqK ph' fr' Fr' -> K Fr' w') ->
  Yf1 P n ops chk d fuel listed Γ F w K := by
 intro d
 induction d with
 | done =>
  intro chk fuel listed ph w fr H N F Λ Γ fr' H' N' K hw h hR hf hΛ hK
  simp only [evDA, Option.some.injEq, Prod.mk.injEq] at h
  obtain ⟨rfl, rfl, _⟩ := h
  unfold wfDA at hw
  unfold Yf1
  rw [hw, cond_true]
  exact hK _ ph _ (Ph.le.refl _) hR hf
 | none =>
  intro chk fuel listed ph w fr H N F Λ Γ fr' H' N' K hw h hR hf hΛ hK
  simp only [evDA, reduceCtorEq] at h
 | take i k ih =>
  intro chk fuel listed ph w fr H N F Λ Γ fr' H' N' K hw h hR hf hΛ hK
  cases fuel with
  | zero => unfold wfDA at hw; cases hw
  | succ fuel =>
   unfold wfDA at hw
   unfold evDA at h
   unfold Yf1
   split at h
   ·cases h
   ·next o ho =>
    rw [ho] at hw
    simp only [Bool.and_eq_true] at hw
    obtain ⟨⟨⟨w1, w2⟩, w3⟩, w4⟩ := hw
    have hb : (Region.free .any ops listed i && (Region.ready .any ops listed).contains i && !Yfh P o) = true := by rw [w1, w2, w3]; rfl
    simp only [ho, hb, cond_true]
    split at h
    ·cases h
    ·next hg =>
     refine evG_o hg hf fun Fr1 hf1 => ?_
     simp only [cond_false]
     obtain ⟨fr2, h2, hf2⟩ := Yeo h hf1 YgA
     exact ih true fuel _ w4 h2 hR hf2 hΛ hK
    ·next hg =>
     refine evG_o hg hf fun Fr1 hf1 => ?_
     simp only [cond_true]
     split at h
     ·cases h
     ·next v ld hv =>
      split at h
      ·next hl =>
       cases hs : YgC H ld with
       | false => rw [hs] at h; cases h
       | true =>
        simp only [hs, cond_true] at h
        refine Ygq hR hf1 hv fun V S rv hS => ?_
        obtain ⟨fr2, h2, hf2⟩ := Yeo h hf1 rv
        simp only [hl, cond_true]
        exact ih true fuel _ w4 h2 hR hf2 ⟨S, Γ, rfl, Yf0.of hR hS hs, hΛ⟩ hK
      ·next hl =>
       refine Ygq hR hf1 hv fun V S rv hS => ?_
       obtain ⟨fr2, h2, hf2⟩ := Yeo h hf1 rv
       simp only [hl, cond_false]
       exact ih true fuel _ w4 h2 hR hf2 hΛ hK
 | eff i k alt ih1 ih2 =>
  intro chk fuel listed ph w fr H N F Λ Γ fr' H' N' K hw h hR hf hΛ hK
  cases fuel with
  | zero => unfold wfDA at hw; cases chk <;> cases hw
  | succ fuel =>
   unfold wfDA at hw
   simp only [Bool.and_eq_true] at hw
   obtain ⟨⟨w1, w2⟩, w3⟩ := hw
   unfold Yf1
   have one : ∀ (o : Oper) {N' : Nat}, evOne P call n ops B i o Λ fr H N (fun fr H N => evDA P call n ops B k Λ fr H N) = some (fr', H', N') ->
     vcG ops o F fun fr' run => bif run then
      (bif Yfh P o then vcEff P fr' o w fun v w' => oblC ops i w' (Yf1 P n ops true k fuel (listed.setIfInBounds i true) Γ (fr'.put n o.dst v) w' K) Γ
       else Ydt P fr' o w fun v _ => Yf1 P n ops true k fuel (listed.setIfInBounds i true) Γ (fr'.put n o.dst v) w K)
     else Yf1 P n ops true k fuel (listed.setIfInBounds i true) Γ (fr'.put n o.dst undef) w K := by
    intro o N' h1
    exact evOne_o hc hR hf hΛ h1 (D := fun F w => Yf1 P n ops true k fuel (listed.setIfInBounds i true) Γ F w K) fun ph1 fr1 H1 N1 Fr1 w1 hle hR1 hf1 hΛ1 hk =>
     ih1 true fuel _ w2 hk hR1 hf1 hΛ1 fun Fr' ph' w' hle' => hK Fr' ph' w' (hle.trans hle')
   by_cases ha : alt = .none
   ·subst ha
    unfold evDA at h
    split at h
    ·cases h
    ·next o ho =>
     simp only [ho, w1, cond_true, andAlt]
     exact one o h
   ·have h' : (match ops[i]? with
      | none => none
      | some o => sameOut (evOne P call n ops B i o Λ fr H N fun fr H N => evDA P call n ops B k Λ fr H N) (evDA P call n ops B alt Λ fr H N)) = some (fr', H', N') := by
     cases alt <;> first | exact absurd rfl ha | (unfold evDA at h; exact h)
    split at h'
    ·cases h'
    ·next o ho =>
     obtain ⟨h1, N2, h2⟩ := sameOut_o h'
     have w3' : wfDA P ops false alt (fuel + 1) listed = true := by cases alt <;> first | exact absurd rfl ha | exact w3
     have := ih2 false (fuel + 1) listed w3' h2 hR hf hΛ hK
     simp only [ho, w1, cond_true]
     have key : ∀ X Y : Prop, X -> Y -> andAlt alt X Y := by
      intro X Y x y
      cases alt <;> first | exact absurd rfl ha | exact ⟨x, y⟩
     exact key _ _ (one o h1) this
abbrev Yef := Option (Ex × Tr VV × Tr VB × Nat)
abbrev RecT := Nat -> Ann -> Code -> Tr VV -> Tr VB -> Nat -> Yef
def evRes (P : Program) (H : Tr VB) (fr : Tr VV) : List ResultVar -> Option (List VV)
 | [] => some []
 | .tmp t :: r => (match fr.get t with
  | some v => (match evRes P H fr r with
   | some vs => some (v :: vs)
   | none => none)
  | none => none)
 | .cell a t :: r => (match fr.get a with
  | some p => (match evLoad P t p H with
   | some (v, _) => (match evRes P H fr r with
    | some vs => some (v :: vs)
    | none => none)
   | none => none)
  | none => none)
def packV : List VV -> VV
 | [v] => v
 | vs => .tup vs
def frOf : List VV -> Nat -> Tr VV -> Tr VV
 | [], _, t => t
 | v :: r, i, t => frOf r (Nat.succ i) (t.set i v)
def frK {R : Type} : List VV -> Nat -> Tr VV -> (Tr VV -> R) -> R
 | [], _, t, k => k t
 | v :: r, i, t, k => t.setK i v fun t => fN (Nat.succ i) fun i => frK r i t k
theorem frK_eq {R : Type} : ∀ (l : List VV) (i : Nat) (t : Tr VV) (k : Tr VV -> R), frK l i t k = k (frOf l i t)
 | [], _, _, _ => rfl
 | v :: r, i, t, k => by simp only [frK, frOf, Tr.setK_eq, fN_eq, frK_eq r]
abbrev TabT := FuncId -> Option Ann
def evFun (P : Program) (tab : TabT) (orc : Zxe -> Zxe) (self : RecT) (call : Zxe) : Zxe := fun f args H N =>
 match tab f with
 | none => orc call f args H N
 | some ann => match P.funcs[f]? with
  | none => none
  | some fn => match fn.body with
   | none => none
   | some c => bif Nat.ble args.length fn.ntmps then
     (fSp args fun args => frK args 0 .lf fun fr => match self fn.ntmps ann c fr H N with
     | some (e, fr, H, N) => (match e with
      | .exit _ => none
      | .goto _ => none
      | _ => match evRes P H fr fn.results.toList with
       | some vs => some (packV vs, H, N)
       | none => none)
     | none => none) else none
def evL (run : Tr VV -> Tr VB -> Nat -> Yef) : Nat -> Tr VV -> Tr VB -> Nat -> Yef
 | 0, _, _, _ => none
 | g + 1, fr, H, N => match run fr H N with
  | some (.normal, fr, H, N) => evL run g fr H N
  | r => r
def evJ (run : Tr VV -> Tr VB -> Nat -> Yef) (l : Nat) : Nat -> Tr VV -> Tr VB -> Nat -> Yef
 | 0, _, _, _ => none
 | g + 1, fr, H, N => match run fr H N with
  | some (.goto l', fr, H, N) => bif Nat.beq l' l then evJ run l g fr H N else none
  | r => r
def normal (o : OutT) : Yef := match o with | some s => some (.normal, s) | none => none
def rgC (P : Program) (call : Zxe) (n : Nat) (ann : Ann) (ops : Array Oper) (draw : Bool) (fr : Tr VV) (H : Tr VB) (N : Nat) : Yef :=
 match draw with
 | false => normal (evOps P call n ops ops.toList fr H N)
 | true => match ann with
  | .d x => normal (evDA P call n ops N x [] fr H (Nat.add N ops.size))
  | _ => none
def sqC (self : RecT) (n : Nat) (ann : Ann) (x y : Code) (fr : Tr VV) (H : Tr VB) (N : Nat) : Yef :=
 match ann with
 | .s a b => (match self n a x fr H N with
  | some (.normal, fr, H, N) => self n b y fr H N
  | r => r)
 | _ => none
def cdC (self : RecT) (n : Nat) (ann : Ann) (cc : Operand) (x y : Code) (fr : Tr VV) (H : Tr VB) (N : Nat) : Yef :=
 match ann with
 | .c a b => (match evO H fr cc with
  | some (.bool true) => self n a x fr H N
  | some (.bool false) => self n b y fr H N
  | _ => none)
 | _ => none
def bkC (self : RecT) (n : Nat) (ann : Ann) (id : Nat) (x : Code) (fr : Tr VV) (H : Tr VB) (N : Nat) : Yef :=
 match ann with
 | .b a => (match self n a x fr H N with
  | some (.exit id', fr, H, N) => bif Nat.beq id' id then some (.normal, fr, H, N) else some (.exit id', fr, H, N)
  | r => r)
 | _ => none
def lpC (self : RecT) (f n : Nat) (ann : Ann) (x : Code) (fr : Tr VV) (H : Tr VB) (N : Nat) : Yef :=
 match ann with
 | .l _ a => evL (self n a x) f fr H N
 | _ => none
def scC (self : RecT) (f n : Nat) (ann : Ann) (x : Code) (fr : Tr VV) (H : Tr VB) (N : Nat) : Yef :=
 match ann with
 | .g l a b => (match findLabel x l with
  | none => none
  | some rest => (match self n a x fr H N with
   | some (.goto l', fr, H, N) => bif Nat.beq l' l then evJ (self n b rest) l f fr H N else none
   | r => r))
 | _ => none
def stC (P : Program) (self : RecT) (call : Zxe) (f : Nat) : RecT := fun n ann c fr H N => match c with
 | .skip => some (.normal, fr, H, N)
 | .ret => some (.ret, fr, H, N)
 | .exit id => some (.exit id, fr, H, N)
 | .goto l => some (.goto l, fr, H, N)
 | .label _ => some (.normal, fr, H, N)
 | .region _ ops draw => rgC P call n ann ops draw fr H N
 | .seq x y => sqC self n ann x y fr H N
 | .cond cc x y => cdC self n ann cc x y fr H N
 | .block id x => bkC self n ann id x fr H N
 | .loop x => lpC self f n ann x fr H N
 | .scope x => scC self f n ann x fr H N
 | _ => none
def evC (P : Program) (tab : TabT) (orc : Zxe -> Zxe) : Nat -> RecT × Zxe
 | 0 => (fun _ _ _ _ _ _ => none, fun _ _ _ _ => none)
 | f + 1 => (stC P (evC P tab orc f).1 (evC P tab orc f).2 f, evFun P tab orc (evC P tab orc f).1 (evC P tab orc f).2)
def wfC (P : Program) : Ann -> Code -> Bool
 | .d x, .region _ ops _ => P.follows .mixedOrders && Region.noSelect ops && wfDA P ops true x ops.size (Array.replicate ops.size false)
 | .s a b, .seq x y => wfC P a x && wfC P b y
 | .c a b, .cond _ x y => wfC P a x && wfC P b y
 | .b a, .block _ x => wfC P a x
 | .l _ a, .loop x => wfC P a x
 | .g l a b, .scope x => wfC P a x && (match findLabel x l with | some rest => wfC P b rest | none => true)
 | _, _ => true
def EP (w0 : World) (n : Nat) (ph : Ph) (e : Ex) (fr : Tr VV) (H : Tr VB) : Exit -> Act -> World -> Prop := fun ex a w =>
 YfQ ex = some e /\ ∃ F ph', Sim [] n F a /\ ph.le ph' /\ RH w0 ph' H w /\ ZqK ph' fr F
theorem EP.mono {n : Nat} {ph ph1 : Ph} {e : Ex} {fr : Tr VV} {H : Tr VB} {ex : Exit} {a : Act} {w : World} (h : EP w0 n ph1 e fr H ex a w) (hle : ph.le ph1) : EP w0 n ph e fr H ex a w :=
 ⟨h.1, let ⟨F, ph', h1, h2, h3⟩ := h.2; ⟨F, ph', h1, hle.trans h2, h3⟩⟩
def CodeOk (P : Program) (w0 : World) (n : Nat) (c : Code) (run : Tr VV -> Tr VB -> Nat -> Yef) : Prop :=
 ∀ {ph : Ph} {w : World} {fr : Tr VV} {H : Tr VB} {N : Nat} {e : Ex} {fr' : Tr VV} {H' : Tr VB} {N' : Nat} {F : Fr} {a : Act}, run fr H N = some (e, fr', H', N') -> RH w0 ph H w -> Sim [] n F a -> ZqK ph fr F ->
  c.wp P (EP w0 n ph e fr' H') a w
theorem YgX {ex : Exit} (h : YfQ ex = some .normal) : ex = .normal := by cases ex <;> simp [YfQ] at h; rfl
theorem evL_o {n : Nat} {x : Code} {run : Tr VV -> Tr VB -> Nat -> Yef} (hx : CodeOk P w0 n x run) {g : Nat} : CodeOk P w0 n (.loop x) (evL run g) := by
  intro ph w fr H N e fr' H' N' F a h hR hs hf
  refine Ygx (fun m a w => ∃ (ph1 : Ph) (fr1 : Tr VV) (H1 : Tr VB) (N1 : Nat) (Fr1 : Fr), evL run m fr1 H1 N1 = some (e, fr', H', N') /\ ph.le ph1 /\ RH w0 ph1 H1 w /\ Sim [] n Fr1 a /\ ZqK ph1 fr1 Fr1) g ⟨ph, fr, H, N, F, h, Ph.le.refl _, hR, hs, hf⟩ ?_
  rintro m a1 w1 ⟨ph1, fr1, H1, N1, Fr1, h1, hle, hR1, hs1, hf1⟩
  cases m with
  | zero => simp [evL] at h1
  | succ m =>
    unfold evL at h1
    split at h1
    · next fr2 H2 N2 hrun =>
      refine wp_mono (hx hrun hR1 hs1 hf1) fun ex a2 w2 hq => ?_
      obtain ⟨he, Fr2, ph2, hs2, hle2, hR2, hf2⟩ := hq
      have := YgX he
      subst this
      exact ⟨m, Nat.lt_succ_self m, ph2, fr2, H2, N2, Fr2, h1, hle.trans hle2, hR2, hs2, hf2⟩
    · next hne =>
      refine wp_mono (hx h1 hR1 hs1 hf1) fun ex a2 w2 hq => ?_
      have he := hq.1
      cases ex <;> first
        | exact hq.mono hle
        | (simp only [YfQ, Option.some.injEq] at he
           subst he
           exact (hne _ _ _ h1).elim)
theorem evJ_o {n l : Nat} {rest : Code} {run : Tr VV -> Tr VB -> Nat -> Yef} (hx : CodeOk P w0 n rest run) {ph : Ph} {e : Ex} {fr' : Tr VV} {H' : Tr VB} {N' : Nat} (m : Nat) (a : Act) (w : World)
    (hJ : ∃ (ph1 : Ph) (fr1 : Tr VV) (H1 : Tr VB) (N1 : Nat) (Fr1 : Fr), evJ run l m fr1 H1 N1 = some (e, fr', H', N') /\ ph.le ph1 /\ RH w0 ph1 H1 w /\ Sim [] n Fr1 a /\ ZqK ph1 fr1 Fr1) :
    rest.wp P (Exit.jump l (fun a' w' => ∃ m', m' < m /\ ∃ (ph1 : Ph) (fr1 : Tr VV) (H1 : Tr VB) (N1 : Nat) (Fr1 : Fr), evJ run l m' fr1 H1 N1 = some (e, fr', H', N') /\ ph.le ph1 /\ RH w0 ph1 H1 w' /\ Sim [] n Fr1 a' /\ ZqK ph1 fr1 Fr1) (EP w0 n ph e fr' H')) a w := by
  obtain ⟨ph1, fr1, H1, N1, Fr1, h1, hle, hR1, hs1, hf1⟩ := hJ
  cases m with
  | zero => simp [evJ] at h1
  | succ m =>
    unfold evJ at h1
    split at h1
    · next l' fr2 H2 N2 hrun =>
      cases hb : Nat.beq l' l with
      | false => rw [hb] at h1; cases h1
      | true =>
        simp only [hb, cond_true] at h1
        refine wp_mono (hx hrun hR1 hs1 hf1) fun ex a2 w2 hq => ?_
        obtain ⟨he, Fr2, ph2, hs2, hle2, hR2, hf2⟩ := hq
        cases ex <;> simp only [YfQ, Option.some.injEq, reduceCtorEq, Ex.goto.injEq] at he
        subst he
        exact ⟨Nat.eq_of_beq_eq_true hb, m, Nat.lt_succ_self m, ph2, fr2, H2, N2, Fr2, h1, hle.trans hle2, hR2, hs2, hf2⟩
    · next hne =>
      refine wp_mono (hx h1 hR1 hs1 hf1) fun ex a2 w2 hq => ?_
      have he := hq.1
      cases ex <;> first
        | (simp only [YfQ, Option.some.injEq] at he
           subst he
           exact (hne _ _ _ _ h1).elim)
        | exact hq.mono hle
theorem evRes_o (hR : RH w0 ph H w) (hf : ZqK ph fr F) : ∀ {res : List ResultVar} {vs : List VV} {K : List Value -> Prop}, evRes P H fr res = some vs -> (∀ Vs, Zzz ph vs Vs -> K Vs) -> retV P F w res K
 | [], vs, K, h, hK => by simp only [evRes, Option.some.injEq] at h; subst h; exact hK _ Zzz.nil
 | .tmp t :: r, vs, K, h, hK => by
  unfold evRes at h
  unfold retV
  split at h
  ·next v hv =>
   split at h
   ·next us hus =>
    simp only [Option.some.injEq] at h
    subst h
    obtain ⟨V, e, rv⟩ := hf _ _ hv
    simp only [e]
    exact evRes_o hR hf hus fun Vs rVs => hK _ (Zzz.cons rv rVs)
   ·cases h
  ·cases h
 | .cell ad t :: r, vs, K, h, hK => by
  unfold evRes at h
  unfold retV
  split at h
  ·next p hp =>
   split at h
   ·next v ld hv =>
    split at h
    ·next us hus =>
     simp only [Option.some.injEq] at h
     subst h
     obtain ⟨V, e, rp⟩ := hf _ _ hp
     obtain ⟨x, rfl, hl⟩ := evLoad_o (K := fun v _ => retV P F w r fun vs => K (v :: vs)) hR hv rp fun V S rv _ => evRes_o hR hf hus fun Vs rVs => hK _ (Zzz.cons rv rVs)
     simp only [e]
     exact hl
    ·cases h
   ·cases h
  ·cases h
theorem frOf_get : ∀ {l : List VV} {i k : Nat} {t : Tr VV} {v : VV}, (frOf l i t).get k = some v -> (i <= k /\ l[k - i]? = some v) \/ t.get k = some v
 | [], i, k, t, v, h => .inr h
 | x :: r, i, k, t, v, h => by
  rcases frOf_get (l := r) h with ⟨h1, h2⟩ | h1
  ·left
   refine ⟨by omega, ?_⟩
   rw [show k - i = (k - Nat.succ i) + 1 by omega, getElem?_cons_succ]
   exact h2
  ·by_cases e : k = i
   ·subst e
    rw [Tr.get_same] at h1
    left
    exact ⟨Nat.le_refl _, by rw [Nat.sub_self]; simpa using h1⟩
   ·rw [Tr.get_other _ _ e] at h1
    exact .inr h1
theorem frOf_rel {l : List VV} {L : List Value} (r : Zzz ph l L) : ZqK ph (frOf l 0 .lf) (Yev L) := by
 intro t v h
 rcases frOf_get h with ⟨_, h2⟩ | h1
 ·rw [Nat.sub_zero] at h2
  obtain ⟨V, e, rv⟩ := r.get h2
  exact ⟨V, e, rv⟩
 ·cases h1
def TabOk (P : Program) (tab : TabT) : Prop := ∀ f ann, tab f = some ann -> ∀ fn, P.funcs[f]? = some fn -> Zqt P f = true /\ ∀ c, fn.body = some c -> wfC P ann c = true
theorem evFun_o {tab : TabT} {orc : Zxe -> Zxe} {self : RecT} {call : Zxe} (ht : TabOk P tab) (ho : Ybc P w0 (orc call)) (hself : ∀ n ann c, wfC P ann c = true -> CodeOk P w0 n c (self n ann c)) : Ybc P w0 (evFun P tab orc self call) := by
  intro f args H N v H' N' h ph w Args hR ra
  unfold evFun at h
  split at h
  · exact ho _ _ _ _ _ _ _ h ph w Args hR ra
  · next ann htab =>
    split at h
    · cases h
    · next fn hfn =>
      split at h
      · cases h
      · next c hc =>
        obtain ⟨hp, hw⟩ := ht f ann htab fn hfn
        have hw := hw c hc
        unfold Zyd
        rw [hp, cond_true]
        cases hb : Nat.ble args.length fn.ntmps with
        | false => rw [hb] at h; cases h
        | true =>
          simp only [hb, cond_true, fSp_eq, frK_eq] at h
          have hle : Args.length <= fn.ntmps := by rw [ra.len]; exact Nat.le_of_ble_eq_true hb
          have hs : Sim [] fn.ntmps (Yev Args) { tmps := (⟨Args⟩ : Array Value) ++ Array.replicate (fn.ntmps - (⟨Args⟩ : Array Value).size) undef, defers := [] } := by
            refine ⟨rfl, by simp; omega, fun t v hv => ?_⟩
            simp only [Yev] at hv
            have hlt : t < Args.length := (List.getElem?_eq_some_iff.1 hv).1
            rw [Array.getElem?_append_left (by simpa using hlt)]
            simpa using hv
          split at h
          · next e fr1 H1 N1 hrun =>
            refine calls_of_wp hfn hc (wp_mono (hself _ _ _ hw hrun hR hs (frOf_rel ra)) fun ex a1 w1 hq => ?_)
            obtain ⟨he, Fr1, ph1, hs1, hle1, hR1, hf1⟩ := hq
            have fin : ∀ vs, evRes P H1 fr1 fn.results.toList = some vs -> some (packV vs, H1, N1) = some (v, H', N') -> a1.defers = [] /\ ∃ V, (results fn a1.tmps).run P w1 = .ok V w1 /\ ∃ V' ph', ph.le ph' /\ RH w0 ph' H' w1 /\ Rel ph' v V' /\ Ending.returned V = .returned V' := by
              intro vs hvs hv
              simp only [Option.some.injEq, Prod.mk.injEq] at hv
              obtain ⟨rfl, rfl, _⟩ := hv
              obtain ⟨Vs, h1, h2, h3⟩ := retV_o hs1 (evRes_o (K := fun Vs => Zzz ph1 vs Vs) hR1 hf1 hvs fun Vs r => r)
              have hm := List.mapM_toArray (m := Sem) (l := fn.results.toList) (f := resF a1.tmps)
              rw [Array.toArray_toList] at hm
              refine ⟨hs1.defers, _, by rw [Yfc, hm]; simp only [Sem.run_bind, Sem.run_map, h3, Result.andThen_ok, Sem.run_pure]; rfl, _, ph1, hle1, hR1, ?_, rfl⟩
              cases vs with
              | nil => simp only [Zzz] at h2; subst h2; simp only [packV, Rel]; exact ⟨[], Zzz.nil, rfl⟩
              | cons a r =>
                obtain ⟨A, R, rfl, r1, r2⟩ := h2.uncons
                cases r with
                | nil => simp only [Zzz] at r2; subst r2; exact r1
                | cons b r =>
                  have hne : R.length ≠ 0 := by rw [r2.len]; simp
                  simp only [packV, Rel]
                  refine ⟨A :: R, h2, ?_⟩
                  cases R with
                  | nil => simp at hne
                  | cons => simp
            cases ex <;> simp only [YfQ, Option.some.injEq, reduceCtorEq] at he <;> subst he
            · dsimp only at h
              split at h
              · next vs hvs => exact fin vs hvs h
              · cases h
            · cases h
            · cases h
            · dsimp only at h
              split at h
              · next vs hvs => exact fin vs hvs h
              · cases h
          · cases h
theorem normal_o {o : OutT} {e : Ex} {s : Tr VV × Tr VB × Nat} (h : normal o = some (e, s)) : o = some s /\ e = .normal := by
 unfold normal at h
 split at h
 ·simp only [Option.some.injEq, Prod.mk.injEq] at h; exact ⟨by rw [h.2], h.1.symm⟩
 ·cases h
theorem evC_o {tab : TabT} {orc : Zxe -> Zxe} (ht : TabOk P tab) (ho : ∀ call, Ybc P w0 call -> Ybc P w0 (orc call)) : ∀ f, (∀ n ann c, wfC P ann c = true -> CodeOk P w0 n c ((evC P tab orc f).1 n ann c)) /\ Ybc P w0 (evC P tab orc f).2 := by
  intro f
  induction f with
  | zero =>
    refine ⟨fun n ann c _ => ?_, ?_⟩
    · intro ph w fr H N e fr' H' N' F a h
      simp [evC] at h
    · intro f args H N v H' N' h
      simp [evC] at h
  | succ f ih =>
    obtain ⟨ih1, ih2⟩ := ih
    refine ⟨fun n ann c hw => ?_, evFun_o ht (ho _ ih2) ih1⟩
    intro ph w fr H N e fr' H' N' F a h hR hs hf
    unfold evC at h
    simp only at h
    unfold stC at h
    split at h
    · simp only [Option.some.injEq, Prod.mk.injEq] at h
      obtain ⟨rfl, rfl, rfl, _⟩ := h
      exact wp_skip ⟨rfl, F, ph, hs, Ph.le.refl _, hR, hf⟩
    · simp only [Option.some.injEq, Prod.mk.injEq] at h
      obtain ⟨rfl, rfl, rfl, _⟩ := h
      exact wp_ret ⟨rfl, F, ph, hs, Ph.le.refl _, hR, hf⟩
    · simp only [Option.some.injEq, Prod.mk.injEq] at h
      obtain ⟨rfl, rfl, rfl, _⟩ := h
      exact wp_exit ⟨rfl, F, ph, hs, Ph.le.refl _, hR, hf⟩
    · simp only [Option.some.injEq, Prod.mk.injEq] at h
      obtain ⟨rfl, rfl, rfl, _⟩ := h
      exact wp_goto ⟨rfl, F, ph, hs, Ph.le.refl _, hR, hf⟩
    · simp only [Option.some.injEq, Prod.mk.injEq] at h
      obtain ⟨rfl, rfl, rfl, _⟩ := h
      exact wp_label ⟨rfl, F, ph, hs, Ph.le.refl _, hR, hf⟩
    · -- region
      next id ops draw =>
      unfold rgC at h
      split at h
      · obtain ⟨h1, rfl⟩ := normal_o h
        refine wp_region_list (vcOps_o (L := wrOps ops.toList) hs (fun o ho d hd => Yes ho hd) (evOps_o ih2 h1 hR hf (K := fun Fr' w' => ∃ ph', ph.le ph' /\ RH w0 ph' H' w' /\ ZqK ph' fr' Fr') fun Fr' ph' w' hle hR' hf' => ⟨ph', hle, hR', hf'⟩) fun Fr' a' w' hs' _ hk => ?_)
        obtain ⟨ph', hle, hR', hf'⟩ := hk
        exact ⟨rfl, Fr', ph', hs', hle, hR', hf'⟩
      · split at h
        · next x =>
          obtain ⟨h1, rfl⟩ := normal_o h
          simp only [wfC, Bool.and_eq_true] at hw
          obtain ⟨⟨hm, hns⟩, hda⟩ := hw
          refine wp_region_any hm (Yf7 (Γ := []) _ _ _ _ ?_)
          refine (vcDA_o (K := fun Fr' w' => ∃ ph', ph.le ph' /\ RH w0 ph' H' w' /\ ZqK ph' fr' Fr') hns (fun c a w hq => by have := hq.1; simp [YfQ] at this) (L := wrOps ops.toList) (a0 := a) (fun o ho d hd => Yes ho hd) (fun Fr' a' w' hs' _ hk => ?_)
            x ops.size (Array.replicate ops.size false) [] F a w.drew (by simp) (YbO.start ops) hs (YbP.refl _ _)).1 ?_
          · obtain ⟨ph', hle, hR', hf'⟩ := hk
            exact ⟨rfl, Fr', ph', hs', hle, hR', hf'⟩
          · exact evDA_o ih2 x true _ _ hda h1 hR.drew hf (by simp [HRel]) fun Fr' ph' w' hle hR' hf' => ⟨ph', hle, hR', hf'⟩
        · cases h
    · -- seq
      next x y =>
      unfold sqC at h
      split at h
      · next a1 b1 =>
        simp only [wfC, Bool.and_eq_true] at hw
        refine wp_seq ?_
        split at h
        · next fr1 H1 N1 hrun =>
          refine wp_mono (ih1 n a1 x hw.1 hrun hR hs hf) fun ex a2 w2 hq => ?_
          obtain ⟨he, Fr2, ph2, hs2, hle2, hR2, hf2⟩ := hq
          have := YgX he
          subst this
          exact wp_mono (ih1 n b1 y hw.2 h hR2 hs2 hf2) fun ex a3 w3 hq3 => hq3.mono hle2
        · next hne =>
          refine wp_mono (ih1 n a1 x hw.1 h hR hs hf) fun ex a2 w2 hq => ?_
          have he := hq.1
          cases ex <;> first
            | exact hq
            | (simp only [YfQ, Option.some.injEq] at he
               subst he
               exact (hne _ _ _ h).elim)
      · cases h
    · -- cond
      next cc x y =>
      unfold cdC at h
      split at h
      · next a1 b1 =>
        simp only [wfC, Bool.and_eq_true] at hw
        split at h
        · next hcc =>
          obtain ⟨V, ev, rv⟩ := ZyK hR hf hcc
          simp only [Rel] at rv; subst rv
          exact wp_cond_true (hs.eval ev) (ih1 n a1 x hw.1 h hR hs hf)
        · next hcc =>
          obtain ⟨V, ev, rv⟩ := ZyK hR hf hcc
          simp only [Rel] at rv; subst rv
          exact wp_cond_false (hs.eval ev) (ih1 n b1 y hw.2 h hR hs hf)
        · cases h
      · cases h
    · -- block
      next id x =>
      unfold bkC at h
      split at h
      · next a1 =>
        simp only [wfC] at hw
        refine wp_block ?_
        split at h
        · next id' fr1 H1 N1 hrun =>
          refine wp_mono (ih1 n a1 x hw hrun hR hs hf) fun ex a2 w2 hq => ?_
          obtain ⟨he, Fr2, ph2, hs2, hle2, hR2, hf2⟩ := hq
          cases ex <;> simp only [YfQ, Option.some.injEq, reduceCtorEq, Ex.exit.injEq] at he
          rename_i id1
          subst he
          cases hb : Nat.beq id1 id with
          | true =>
            simp only [hb, cond_true, Option.some.injEq, Prod.mk.injEq] at h
            obtain ⟨rfl, rfl, rfl, _⟩ := h
            have := Nat.eq_of_beq_eq_true hb
            subst this
            simp only [Exit.inBlock, if_true]
            exact ⟨rfl, Fr2, ph2, hs2, hle2, hR2, hf2⟩
          | false =>
            simp only [hb, cond_false, Option.some.injEq, Prod.mk.injEq] at h
            obtain ⟨rfl, rfl, rfl, _⟩ := h
            have : id1 ≠ id := Nat.ne_of_beq_eq_false hb
            simp only [Exit.inBlock, this, if_false]
            exact ⟨rfl, Fr2, ph2, hs2, hle2, hR2, hf2⟩
        · next hne =>
          refine wp_mono (ih1 n a1 x hw h hR hs hf) fun ex a2 w2 hq => ?_
          have he := hq.1
          cases ex <;> first
            | exact hq
            | (simp only [YfQ, Option.some.injEq] at he
               subst he
               exact (hne _ _ _ _ h).elim)
      · cases h
    · -- loop
      next x =>
      unfold lpC at h
      split at h
      · next L a1 =>
        simp only [wfC] at hw
        exact evL_o (ih1 n _ x hw) h hR hs hf
      · cases h
    · -- scope
      next x =>
      unfold scC at h
      split at h
      · next l a1 b1 =>
        split at h
        · cases h
        · next rest hrest =>
          simp only [wfC, hrest, Bool.and_eq_true] at hw
          refine YfL l (fun m a' w' => ∃ (ph1 : Ph) (fr1 : Tr VV) (H1 : Tr VB) (N1 : Nat) (Fr1 : Fr), evJ ((evC P tab orc f).1 n b1 rest) l m fr1 H1 N1 = some (e, fr', H', N') /\ ph.le ph1 /\ RH w0 ph1 H1 w' /\ Sim [] n Fr1 a' /\ ZqK ph1 fr1 Fr1) hrest ?_ fun m a' w' hJ => evJ_o (ih1 n b1 rest hw.2) m a' w' hJ
          split at h
          · next l' fr1 H1 N1 hrun =>
            cases hb : Nat.beq l' l with
            | false => rw [hb] at h; cases h
            | true =>
              simp only [hb, cond_true] at h
              refine wp_mono (ih1 n a1 x hw.1 hrun hR hs hf) fun ex a2 w2 hq => ?_
              obtain ⟨he, Fr2, ph2, hs2, hle2, hR2, hf2⟩ := hq
              cases ex <;> simp only [YfQ, Option.some.injEq, reduceCtorEq, Ex.goto.injEq] at he
              subst he
              exact ⟨Nat.eq_of_beq_eq_true hb, f, ph2, fr1, H1, N1, Fr2, h, hle2, hR2, hs2, hf2⟩
          · next hne =>
            refine wp_mono (ih1 n a1 x hw.1 h hR hs hf) fun ex a2 w2 hq => ?_
            have he := hq.1
            cases ex <;> first
              | (simp only [YfQ, Option.some.injEq] at he
                 subst he
                 exact (hne _ _ _ _ h).elim)
              | exact hq
      · cases h
    · cases h
inductive BT where
 | lf
 | nd (k : Nat) (a : Ann) (l r : BT)
def BT.get : BT -> Nat -> Option Ann
 | .lf, _ => none
 | .nd k a l r, f => bif Nat.beq f k then some a else bif Nat.blt f k then l.get f else r.get f
def BT.ok (P : Program) : BT -> Bool
 | .lf => true
 | .nd k a l r => (Zqt P k && (match P.funcs[k]? with | some fn => (match fn.body with | some c => wfC P a c | none => true) | none => true)) && (l.ok P && r.ok P)
theorem BT.tab : ∀ {t : BT}, t.ok P = true -> TabOk P t.get
 | .lf, _, f, ann, h => by simp [BT.get] at h
 | .nd k a l r, hk, f, ann, h => by
  simp only [BT.ok, Bool.and_eq_true] at hk
  obtain ⟨⟨h1, h2⟩, h3, h4⟩ := hk
  unfold BT.get at h
  cases hb : Nat.beq f k with
  | true =>
   simp only [hb, cond_true, Option.some.injEq] at h
   subst h
   have := Nat.eq_of_beq_eq_true hb
   subst this
   intro fn hfn
   refine ⟨h1, fun c hc => ?_⟩
   rw [hfn] at h2
   simp only [hc] at h2
   exact h2
  | false =>
   simp only [hb, cond_false] at h
   cases hc : Nat.blt f k with
   | true => rw [hc, cond_true] at h; exact BT.tab h3 f ann h
   | false => rw [hc, cond_false] at h; exact BT.tab h4 f ann h
theorem ev_calls {tab : TabT} {orc : Zxe -> Zxe} (ht : TabOk P tab) (ho : ∀ call, Ybc P w0 call -> Ybc P w0 (orc call)) {n : Nat} {f : FuncId} {args : List VV} {N N' : Nat} {v : VV} {H H' : Tr VB} (h : (evC P tab orc n).2 f args H N = some (v, H', N'))
  {ph : Ph} {w : World} {Args : List Value} (hR : RH w0 ph H w) (ra : Zzz ph args Args) : Zyd P w0 ph f Args w v H' := (evC_o ht ho n).2 _ _ _ _ _ _ _ h ph w Args hR ra
theorem RH.start (w : World) : RH w (fun _ => none) .lf w :=
 ⟨Chg.refl _ _, fun n vb h => (by cases h), fun n m vb vb' b g g' h => (by cases h), fun n _ => rfl, fun n b g _ h => (by cases h)⟩
end
end Go.Vc
end
