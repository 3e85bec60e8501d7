/- What the statement needs, part 4. -/
import Derived.Test.YtglnmjflpkeclaaGreatDoorZ3
set_option linter.unusedSectionVars false
set_option linter.unusedVariables false
set_option linter.unusedSimpArgs false
set_option maxRecDepth 100000
open List
section
namespace Go.Vc
open Go Go.Lib
structure PfxOk2 (P : List ByteArray) : Prop where
 ok : PfxOk P
 all : ∀ u ∈ P, u ≠ kE /\ u ≠ Zys /\ u ≠ kSX /\ u.size <= 100
structure BindsP (P : List ByteArray) (B : List Pr) : Prop where
 get : ∀ i u, P[i]? = some u -> Zzl B (mkB (Ycf i)) = (u, true)
 dflt : (Zzl B kE).1 = kE
theorem Ybk {a b : List UInt8} (h : mkB a = mkB b) : a = b:=by rw [<- ZzH a, h, ZzH]
theorem YgT : mkB [120, 109, 108] = kXml:=rfl
theorem Yd2 : mkB [120, 109, 108, 110, 115] = Zqf:=rfl
theorem mkB_kE : mkB [] = kE:=rfl
theorem bound_xml (B : List Pr) : Zzl B kXml = (Zys, true):=by unfold Zzl; rw [if_pos rfl]
theorem bound_pfx {P : List ByteArray} {B : List Pr} (h : BindsP P B) {u : ByteArray} (hu : u = kE \/ u = Zys \/ u ∈ P) : Zzl B (mkB (pfxW P u)) = (u, true):=by
 unfold pfxW
 by_cases h1 : u = kE
 ·rw [if_pos h1, mkB_kE, h1]
  exact Prod.ext h.dflt (Go.Proofs.YtglnmjflpkeclaaGreatDoor.boundP_kE B)
 rw [if_neg h1]
 by_cases h2 : u = Zys
 ·rw [if_pos h2, YgT, bound_xml, h2]
 ·rw [if_neg h2]
  exact h.get _ _ (YhJ ((hu.resolve_left h1).resolve_left h2))
theorem elem_back {P : List ByteArray} {B : List Pr} (h : BindsP P B) (hP : P.length <= 10000000) {n : Pr} (hl : nm (bl n.2) = true) (hu : n.1 = kE \/ n.1 = Zys \/ n.1 ∈ P) : YaR (Zzl B) (mkB (ZzW P n)) = (n, 0):=by
 have hs:=(qn_of (P:=P) hl hP).spl
 unfold YaR
 rw [ZzH, hs]
 simp only
 rw [if_neg (by decide), if_neg (fun e => Yg4 P n.1 (Ybk (e.trans Yd2.symm))), bound_pfx h hu]
 simp only
 rw [if_neg (by decide), Ybv]
theorem pfxW_nil {P : List ByteArray} {u : ByteArray} (h : pfxW P u = []) : u = kE:=by
 unfold pfxW at h
 split at h
 ·assumption
 ·split at h
  ·cases h
  ·exact absurd h (YeA _)
theorem attr_back {P : List ByteArray} {B : List Pr} (h : BindsP P B) (hP : P.length <= 10000000) {a : At} (hl : nm (bl a.2.1) = true) (hu : a.1 = kE \/ a.1 = Zys \/ a.1 ∈ P) : attr1 (Zzl B) (YbW (attrQ P a)) = (a, 0):=by
 have hs:=(qn_of (P:=P) (n:=nameOf a) hl hP).spl
 unfold attr1 YbW attrQ
 simp only
 rw [ZzH, hs]
 simp only
 rw [if_neg (by decide)]
 by_cases h0 : pfxW P (nameOf a).1 = []
 ·rw [if_pos h0]
  have e : a.1 = kE:=pfxW_nil h0
  rw [Ybv, Ybv, <- e]; rfl
 ·rw [if_neg h0, bound_pfx (u:=(nameOf a).1) h hu]
  simp only
  rw [if_neg (by decide), Ybv, Ybv]; rfl
theorem Yi3 {P : List ByteArray} (hP : P.length <= 10000000) {a : At} (ha : YdM a = true) : decl (YbW (attrQ P a)) = none:=by
 have hl:=Yh1 ha
 have hs:=(qn_of (P:=P) (n:=nameOf a) hl hP).spl
 unfold decl YbW attrQ
 simp only
 rw [ZzH, hs]
 simp only
 rw [if_neg ?_, if_neg ?_]
 ·rintro ⟨_, h2⟩
  exact Yg4 P _ h2
 ·intro e
  have e1 : ZzW P (nameOf a) = [120, 109, 108, 110, 115]:=Ybk (e.trans Yd2.symm)
  rw [e1] at hs
  have e2 : spl [120, 109, 108, 110, 115] = ([], [120, 109, 108, 110, 115], true):=(show QN [120, 109, 108, 110, 115] [] [120, 109, 108, 110, 115] from ⟨YeC, .inl ⟨rfl, rfl⟩⟩).spl
  rw [e2] at hs
  simp only [Prod.mk.injEq] at hs
  have u0 : a.1 = kE:=pfxW_nil hs.1.symm
  have l0 : a.2.1 = Zqf:=Zqt hs.2.1.symm
  unfold YdM at ha
  rw [Bool.and_eq_true] at ha
  have : decide (a.1 = ZzN /\ a.2.1 = kXn) = true:=decide_eq_true ⟨u0, l0⟩
  rw [this] at ha
  exact absurd ha.2 (by decide)
theorem decl_of {i : Nat} {v : List UInt8} (hi : i < 99999999) : decl (YbW (ZzX ++ Ycf i, v)) = some (mkB (Ycf i)):=by
 have hq : QN (ZzX ++ Ycf i) [120, 109, 108, 110, 115] (Ycf i):=⟨pfx_nm hi, .inr ⟨YeC, by simp [ZzX]⟩⟩
 unfold decl YbW
 simp only
 rw [ZzH, hq.spl]
 simp only
 refine Eq.trans (if_neg (fun e => ?_)) (if_pos ⟨trivial, rfl⟩)
 have e1 : ZzX ++ Ycf i = [120, 109, 108, 110, 115]:=Ybk (e.trans Yd2.symm)
 have:=congrArg length e1
 simp [ZzX, Ycf] at this
theorem wrong_ok {i : Nat} {u : ByteArray} (h : u ≠ kE /\ u ≠ Zys /\ u ≠ kSX /\ u.size <= 100) : Yco (mkB (Ycf i)) u = 0:=by
 have h1 : mkB (Ycf i) ≠ Zqf:=fun e => Ygr i (Ybk (e.trans Yd2.symm))
 have h2 : mkB (Ycf i) ≠ kXml:=fun e => Yd1 i (Ybk (e.trans YgT.symm))
 unfold Yco
 rw [if_neg (by simp [h1, h.2.2.1, h2, h.2.1]), if_neg (by simp [h.1]), if_neg (by omega)]
theorem Yfo (B : List Pr) {p : ByteArray} (hp : p ≠ kXml) : Zzl B p = match lookB B p with | some u => (u, true) | none => (kE, decide (p = kE)):=by
 unfold Zzl lookB
 rw [if_neg hp]
 cases B.find? fun b => decide (b.1 = p) <;> rfl
theorem Yg6 : ∀ {L : List Pr} (had : List ByteArray) (B : List Pr), (∀ x ∈ L, decl x = none) -> ZyD L had B = (B, 0)
 | [], _, _, _ => rfl
 | x :: L, had, B, h => by
  simp only [ZyD, h x (by simp)]
  exact Yg6 had B fun y hy => h y (by simp [hy])
theorem openP_top {rest : List Pr} (hrest : ∀ x ∈ rest, decl x = none) : ∀ (Q : List ByteArray) (i : Nat) (had : List ByteArray) (B : List Pr), i + Q.length <= 10000000 -> (∀ u ∈ Q, u ≠ kE /\ u ≠ Zys /\ u ≠ kSX /\ u.size <= 100) -> (∀ j, i <= j -> mkB (Ycf j) ∉ had) ->
  ∃ B', ZyD ((Ycz i Q).map YbW ++ rest) had B = (B', 0) /\ (∀ j u, Q[j]? = some u -> lookB B' (mkB (Ycf (i + j))) = some u) /\ ∀ q, (∀ j, i <= j -> q ≠ mkB (Ycf j)) -> lookB B' q = lookB B q
 | [], i, had, B, _, _, _ => ⟨B, by simp [Ycz]; exact Yg6 had B hrest, by simp, fun _ _ => rfl⟩
 | u :: Q, i, had, B, hl, hu, hh => by
  rw [length_cons] at hl
  obtain ⟨B', e, f1, f2⟩:=openP_top hrest Q (i + 1) (had ++ [mkB (Ycf i)]) (putP B (mkB (Ycf i)) u) (by omega) (fun v hv => hu v (by simp [hv])) (fun j hj hm => by
   rcases mem_append.1 hm with hm | hm
   ·exact hh j (by omega) hm
   ·have:=pfx_inj (Ybk (mem_singleton.1 hm)); omega)
  refine ⟨B', ?_, fun j v hv => ?_, fun q hq => ?_⟩
  ·rw [Ycz, map_cons, cons_append]
   unfold ZyD declQ
   rw [decl_of (by omega)]
   simp only
   have hx : (YbW (ZzX ++ Ycf i, bl u)).2 = u:=Ybv u
   rw [hx, wrong_ok (hu u (by simp)), if_neg (by simp)]
   have : memB (mkB (Ycf i)) had = false:=by
    cases hm : memB (mkB (Ycf i)) had with
    | false => rfl
    | true => exact absurd (memB_iff.1 hm) (hh i (Nat.le_refl _))
   rw [this, if_neg (by decide)]
   exact e
  ·cases j with
   | zero =>
    have hv : u = v:=by simpa using hv
    subst hv
    rw [Nat.add_zero, f2 _ (fun j hj e => by have:=pfx_inj (Ybk e); omega), lookB_put, if_pos rfl, if_pos ⟨fun e => Yd1 i (Ybk (e.trans YgT.symm)), (hu u (by simp)).1⟩]
   | succ k =>
    rw [show i + (k + 1) = i + 1 + k by omega]
    exact f1 k v (by simpa using hv)
  ·rw [f2 q (fun j hj => hq j (by omega)), lookB_put, if_neg (hq i (Nat.le_refl _))]
theorem binds_top {P : List ByteArray} (hP : PfxOk2 P) {rest : List Pr} (hrest : ∀ x ∈ rest, decl x = none) {B : List Pr} (hB : (Zzl B kE).1 = kE) : ∃ B', ZyD ((Ycz 0 P).map YbW ++ rest) [] B = (B', 0) /\ BindsP P B':=by
 obtain ⟨B', e, f1, f2⟩:=openP_top hrest P 0 [] B (by have:=hP.ok.len; omega) hP.all (by simp)
 refine ⟨B', e, ⟨fun i u hu => ?_, ?_⟩⟩
 ·have:=f1 i u hu
  rw [Nat.zero_add] at this
  rw [Yfo B' (fun e => Yd1 i (Ybk (e.trans YgT.symm))), this]
 ·have hk : kE ≠ kXml:=by decide
  have:=f2 kE (fun j _ e => YeA j (Ybk (e.symm.trans mkB_kE.symm)))
  rw [Yfo B' hk, this, <- Yfo B hk]
  exact hB
theorem YgC {bound : BoundF} : ∀ {D : List Pr} {L : List Pr} (acc : List At), (∀ x ∈ D, (decl x).isSome = true) -> Zyb bound (D ++ L) acc = Zyb bound L acc
 | [], _, _, _ => rfl
 | x :: D, L, acc, h => by
  rw [cons_append, Zyb, if_pos (h x (by simp))]
  exact YgC acc fun y hy => h y (by simp [hy])
theorem Yi2 {P : List ByteArray} {B : List Pr} (h : BindsP P B) (hP : P.length <= 10000000) : ∀ (ats : List At) (acc : List At), (∀ a ∈ ats, YdM a = true) -> (∀ a ∈ ats, a.1 = kE \/ a.1 = Zys \/ a.1 ∈ P) ->
  Zyb (Zzl B) ((ats.map (attrQ P)).map YbW) acc = (acc ++ ats, 0)
 | [], acc, _, _ => by simp [Zyb]
 | a :: r, acc, hn, hs => by
  rw [map_cons, map_cons, Zyb, Yi3 hP (hn a (by simp)), attr_back h hP (Yh1 (hn a (by simp))) (hs a (by simp))]
  simp only
  rw [if_neg (by simp), if_neg (by decide), Yi2 h hP r _ (fun b hb => hn b (by simp [hb])) (fun b hb => hs b (by simp [hb]))]
  simp
theorem srtA_asc : ∀ {ats : List At}, Asc ats -> srtA ats = ats
 | [], _ => rfl
 | a :: r, h => by
  have h1:=pairwise_cons.1 h
  rw [srtA, srtA_asc h1.2]
  cases r with
  | nil => rfl
  | cons b s =>
   rw [insA, if_neg]
   rw [ZyI.asym (h1.1 b (by simp))]; decide
theorem great_of {x : Nd} (h : Ycr x = false) : YdX x.attrs = false:=by
 unfold Ycr at h
 simp only [Bool.or_eq_false_iff] at h
 unfold YdX
 rw [h.1.1, h.2]
 simp
theorem begin_back {P : List ByteArray} (hP : PfxOk2 P) {top : Bool} {u l t : ByteArray} {ats : List At} {ks : List Nd} (hg : NodeG (.mk 2 u l t ats ks)) (hsp : SpcP P (.mk 2 u l t ats ks)) {s : PSt} (hB : top = false -> BindsP P s.top.binds) (hB2 : (Zzl s.top.binds kE).1 = kE)
    (hd : ¬ (s.rest = [] /\ s.done = true)) (hdeep : s.rest.length <= 32) :
    ∃ B', BindsP P B' /\ YaX (mkB (ZzW P (u, l))) ((Zq5 P top ats).map YbW) s = .ok { top:=⟨2, (u, l), ats, [], mkB (ZzW P (u, l)), B'⟩, rest:=s.top :: s.rest, nodes:=s.nodes + 1, done:=s.done }:=by
  have hA : ∀ a ∈ ats, YdM a = true:=fun a ha => Ydo hg.name ha
  have hS : ∀ a ∈ ats, a.1 = kE \/ a.1 = Zys \/ a.1 ∈ P:=fun a ha => attrs_spc hsp ha
  have hun : ∀ x ∈ (ats.map (attrQ P)).map YbW, decl x = none:=by
    intro x hx
    obtain ⟨q, hq, rfl⟩:=List.mem_map.1 hx
    obtain ⟨a, ha, rfl⟩:=List.mem_map.1 hq
    exact Yi3 hP.ok.len (hA a ha)
  obtain ⟨B', hb, hop⟩ : ∃ B', BindsP P B' /\ ZyD ((Zq5 P top ats).map YbW) [] s.top.binds = (B', 0):=by
    unfold Zq5
    cases top with
    | false =>
      refine ⟨s.top.binds, hB rfl, ?_⟩
      rw [if_neg (by decide), List.nil_append]
      exact Yg6 _ _ hun
    | true =>
      rw [if_pos rfl, List.map_append]
      obtain ⟨B', e, h⟩:=binds_top hP hun hB2
      exact ⟨B', h, e⟩
  have hatt : Zyb (Zzl B') ((Zq5 P top ats).map YbW) [] = (ats, 0):=by
    unfold Zq5
    rw [List.map_append, YgC, Yi2 hb hP.ok.len ats [] hA hS]
    · rfl
    · intro x hx
      obtain ⟨q, hq, rfl⟩:=List.mem_map.1 hx
      cases top with
      | false => rw [if_neg (by decide)] at hq; cases hq
      | true =>
        rw [if_pos rfl] at hq
        obtain ⟨i, v, hv, rfl⟩:=Yd9 hq
        have:=(List.getElem?_eq_some_iff.1 hv).1
        have:=hP.ok.len
        unfold declQ
        rw [decl_of (by omega)]; rfl
  have hAsc : Asc ats:=Yi4 hg.order
  refine ⟨B', hb, ?_⟩
  unfold YaX
  rw [if_neg hd, if_neg (by omega), hop]
  simp only
  rw [if_neg (by simp), elem_back hb hP.ok.len (YhV hg.elem_nm) (self_spc hsp)]
  simp only
  rw [if_neg (by simp), hatt]
  simp only
  rw [if_neg (by simp), if_neg (by simpa using Yi5 hAsc), srtA_asc hAsc, if_neg (by rw [show YdX ats = false from great_of hg.great]; decide)]
theorem ZyJ {t : TokQ} {L : List TokQ} {s s' : PSt} (h : Zxe t s = .ok s') (hn : s'.nodes <= 2000) : ZyQ (t :: L) s = ZyQ L s':=by
 rw [ZyQ, YgF, h]
 simp only
 rw [if_neg (by omega)]
theorem take1_clr (t : TokQ) (s : PSt) : Zxe (clr t) s = Zxe t s:=rfl
theorem Yh9 : ∀ {T : List TokQ} {s s' : PSt}, ZyQ (T.map clr) s = .ok s' -> ZyQ T s = .ok s'
 | [], _, _, h => h
 | t :: T, s, s', h => by
  rw [map_cons, ZyQ, YgF, take1_clr] at h
  rw [ZyQ, YgF]
  cases h1 : Zxe t s with
  | error e => rw [h1] at h; simp at h
  | ok s1 =>
   rw [h1] at h
   simp only at h ⊢
   by_cases h2 : 2000 < s1.nodes
   ·rw [if_pos h2] at h; simp at h
   ·rw [if_neg h2] at h ⊢
    exact Yh9 h
def Yi8 (ks : List Nd) : Prop := ∀ x, ks.getLast? = some x -> x.kind ≠ 3
theorem addText_none {ks : List Nd} (h : Yi8 ks) (t : ByteArray) : Ybr ks t = none:=by
 unfold Ybr
 cases hl : ks.getLast? with
 | none => rfl
 | some x =>
  cases x with
  | mk k u l y ats s =>
   have:=h _ hl
   simp only [Nd.kind] at this
   simp only
   rw [if_neg this]
theorem Yf9 {n : Nd} (h : YaP n = true) (hk : n.kind = 3 \/ n.kind = 4) : n.uri = kE /\ n.loc = kE /\ n.attrs = [] /\ n.kids = []:=by
 unfold YaP at h
 rw [Bool.and_eq_true] at h
 have h2:=h.2
 rw [if_neg (by omega), if_neg (by omega), if_pos hk, Bool.and_eq_true] at h2
 have:=of_decide_eq_true h2.1
 exact ⟨this.1, this.2.1, this.2.2, by simpa using h2.2⟩
theorem Yhy {n : Nd} (h : YaP n = true) (hk : n.kind = 5) : n.uri = kE /\ n.attrs = [] /\ n.kids = []:=by
 unfold YaP at h
 rw [Bool.and_eq_true] at h
 have h2:=h.2
 rw [if_neg (by omega), if_neg (by omega), if_neg (by omega), if_pos hk, Bool.and_eq_true] at h2
 have:=of_decide_eq_true h2.1
 exact ⟨this.1, this.2, by simpa using h2.2⟩
theorem kindN_elem {n : Nd} (h : YaP n = true) (hk : n.kind = 2) : n.text = kE:=by
 unfold YaP at h
 rw [Bool.and_eq_true] at h
 have h2:=h.2
 rw [if_neg (by omega), if_pos hk] at h2
 exact of_decide_eq_true h2
theorem Yfa {k : Int} {u l t : ByteArray} {ats : List At} {ks : List Nd} (h : YaP (.mk k u l t ats ks) = true) (hk : k = 3 \/ k = 4) : u = kE /\ l = kE /\ ats = [] /\ ks = []:=Yf9 h hk
theorem kindG_instr {u l t : ByteArray} {ats : List At} {ks : List Nd} (h : YaP (.mk 5 u l t ats ks) = true) : u = kE /\ ats = [] /\ ks = []:=Yhy h rfl
theorem kindG_elem {u l t : ByteArray} {ats : List At} {ks : List Nd} (h : YaP (.mk 2 u l t ats ks) = true) : t = kE:=kindN_elem h rfl
theorem Yg9 {k : Int} {u l t : ByteArray} {ats : List At} {ks : List Nd} (h : Ycr (.mk k u l t ats ks) = false) : ¬ 8192 < t.size:=by
 unfold Ycr at h
 simp only [Bool.or_eq_false_iff, decide_eq_false_iff_not] at h
 exact h.1.2
theorem put_ok {n : Nd} {s : PSt} (h : ¬ 8192 < n.text.size) : putM n s = .ok { s with top:=s.top.add n, nodes:=s.nodes + 1 }:=by unfold putM; rw [if_neg h]
theorem take_node {P : List ByteArray} (hP : PfxOk2 P) (n : Nd) : Ycn n -> SpcP P n -> (n.kind = 2 \/ n.kind = 3 \/ n.kind = 4 \/ n.kind = 5) -> ∀ (top : Bool) (s : PSt) (L : List TokQ), (top = false -> BindsP P s.top.binds) -> (Zzl s.top.binds kE).1 = kE ->
  (n.kind = 2 -> ¬ (s.rest = [] /\ s.done = true)) -> (n.kind = 3 -> s.rest ≠ [] /\ Yi8 s.top.kids) -> Ych (s.rest.length : Nat) n = false -> s.nodes + n.flat.length <= 2000 ->
  ZyQ (Ybg P top n ++ L) s = ZyQ L { top:=s.top.add n, rest:=s.rest, nodes:=s.nodes + n.flat.length, done:=s.done || (decide (n.kind = 2) && s.rest.isEmpty) }:=by
 induction n using Nd.ind with
 | h k u l t ats ks ih =>
 intro hg hsp hk top s L hB hB2 hd ht hdeep hn
 simp only [Nd.kind] at hk hd ht
 have hs:=hg.self
 rcases hk with rfl | rfl | rfl | rfl
 ·have ht0:=kindG_elem hs.kind
  subst ht0
  have hdp : s.rest.length <= 32 /\ Yer ((s.rest.length : Nat) + 1) ks = false:=by
   rw [Ych, if_pos rfl] at hdeep
   split at hdeep
   ·cases hdeep
   ·exact ⟨by omega, hdeep⟩
  obtain ⟨B', hb, hbeg⟩:=begin_back hP hs hsp hB hB2 (hd rfl) hdp.1 (top:=top)
  have hfl : (Nd.mk 2 u l kE ats ks).flat.length = (Nd.flatL ks).length + 1:=by simp [Nd.flat]
  rw [hfl] at hn
  -- the children
  have kids : ∀ (ls : List Nd), (∀ y ∈ ls, y ∈ ks) -> ZzP ls = false -> ∀ (s1 : PSt) (L : List TokQ), BindsP P s1.top.binds -> s1.rest ≠ [] -> (∀ y r, ls = y :: r -> y.kind = 3 -> Yi8 s1.top.kids) -> Yer (s1.rest.length : Nat) ls = false -> s1.nodes + (Nd.flatL ls).length <= 2000 ->
    ZyQ (YgE P ls ++ L) s1 = ZyQ L { top:={ s1.top with kids:=s1.top.kids ++ ls }, rest:=s1.rest, nodes:=s1.nodes + (Nd.flatL ls).length, done:=s1.done }:=by
   intro ls
   induction ls with
   | nil => intro _ _ s1 L _ _ _ _ _; simp [YgE, Nd.flatL]
   | cons y r ihr =>
    intro hm h2 s1 L hb1 hr1 hnt hdd hnn
    have h2r : ZzP r = false:=by
     cases r with
     | nil => rfl
     | cons c r' => simp only [ZzP, Bool.or_eq_false_iff] at h2; exact h2.2
    rw [Yer, Bool.or_eq_false_iff] at hdd
    rw [Nd.flatL, length_append] at hnn
    have hy:=hm y (by simp)
    have hky:=(Yd3 (hg.kids hy)).2
    rw [YgE, append_assoc, ih y hy (hg.kid hy) (kid_spc hsp hy) hky false s1 _ (fun _ => hb1) hb1.dflt (fun _ h => hr1 h.1) (fun h3 => ⟨hr1, hnt y r rfl h3⟩) hdd.1 (by omega)]
    have he : s1.rest.isEmpty = false:=by cases hc : s1.rest with
     | nil => exact absurd hc hr1
     | cons _ _ => rfl
    refine (ihr (fun z hz => hm z (by simp [hz])) h2r { top:=s1.top.add y, rest:=s1.rest, nodes:=s1.nodes + y.flat.length, done:=s1.done || (decide (y.kind = 2) && s1.rest.isEmpty) } L hb1 hr1 (fun z r' e hz => ?_) hdd.2 (by simp only; omega)).trans ?_
    rotate_left
    ·congr 1
     simp only [Opn.add, he, Bool.and_false, Bool.or_false, Nd.flatL, length_append, append_assoc, singleton_append, Nat.add_assoc]
    ·subst e
     intro x hx
     simp only [Opn.add, getLast?_concat, Option.some.injEq] at hx
     subst hx
     intro h3
     simp only [ZzP, h3, hz, decide_true, Bool.and_self, Bool.true_or] at h2
     cases h2
  have h2 : ZzP ks = false:=by
   have:=hs.text
   unfold Yh7 at this
   rw [Bool.and_eq_true, Bool.not_eq_true'] at this
   exact this.1
  have eT : Ybg P top (.mk 2 u l kE ats ks) = ⟨2, 0, mkB (ZzW P (u, l)), (Zq5 P top ats).map YbW, kE, 0⟩ :: (YgE P ks ++ [⟨3, 0, mkB (ZzW P (u, l)), [], kE, 0⟩]):=by
   rw [Ybg, if_neg (by decide), if_neg (by decide), if_neg (by decide), if_pos rfl]
  rw [eT, cons_append, append_assoc]
  rw [ZyJ (s':={ top:=⟨2, (u, l), ats, [], mkB (ZzW P (u, l)), B'⟩, rest:=s.top :: s.rest, nodes:=s.nodes + 1, done:=s.done }) (by
   unfold Zxe
   simp only
   rw [if_neg (by decide), if_neg (by decide), if_neg (by decide), if_pos trivial]
   exact hbeg) (by simp only; omega)]
  rw [kids ks (fun _ h => h) h2 _ _ hb (by simp) (fun y r _ _ x hx => by simp at hx) (by simp only [length_cons]; push_cast; exact hdp.2) (by simp only; omega)]
  rw [singleton_append, ZyJ (s':={ top:=s.top.add (.mk 2 u l kE ats ks), rest:=s.rest, nodes:=s.nodes + 1 + (Nd.flatL ks).length, done:=s.done || s.rest.isEmpty }) (by
   unfold Zxe
   simp only
   rw [if_neg (by decide), if_neg (by decide), if_neg (by decide), if_neg (by decide), if_neg (by decide), if_pos trivial, if_neg (by simp)]
   rfl) (by simp only; omega)]
  congr 1
  simp only [Nd.flat, Nd.kind, length_cons, decide_true, Bool.true_and, PSt.mk.injEq]
  exact ⟨trivial, trivial, by omega, trivial⟩
 ·obtain ⟨rfl, rfl, rfl, rfl⟩:=Yfa hs.kind (.inl rfl)
  obtain ⟨hr, hnt⟩:=ht rfl
  rw [Ybg, if_pos rfl, singleton_append]
  rw [ZyJ (s':={ s with top:=s.top.add (YdV t), nodes:=s.nodes + 1 }) (by
   unfold Zxe
   simp only
   rw [if_neg (by decide), if_neg (by decide), if_pos (.inl trivial)]
   unfold Yh8
   rw [if_neg hr, if_neg (textQ_3 hs.textq), addText_none hnt]
   exact put_ok (Yg9 hs.great)) (by simp [Nd.flat, Nd.flatL] at hn ⊢; omega)]
  simp [Nd.flat, Nd.flatL, Nd.kind, YdV]
 ·obtain ⟨rfl, rfl, rfl, rfl⟩:=Yfa hs.kind (.inr rfl)
  rw [Ybg, if_neg (by decide), if_pos rfl, singleton_append]
  rw [ZyJ (s':={ s with top:=s.top.add (.mk 4 kE kE t [] []), nodes:=s.nodes + 1 }) (by
   unfold Zxe
   simp only
   rw [if_pos trivial]
   exact put_ok (Yg9 hs.great)) (by simp [Nd.flat, Nd.flatL] at hn ⊢; omega)]
  simp [Nd.flat, Nd.flatL, Nd.kind]
 ·obtain ⟨rfl, rfl, rfl⟩:=kindG_instr hs.kind
  rw [Ybg, if_neg (by decide), if_neg (by decide), if_pos rfl, singleton_append]
  rw [ZyJ (s':={ s with top:=s.top.add (.mk 5 kE l t [] []), nodes:=s.nodes + 1 }) (by
   unfold Zxe
   simp only
   rw [if_neg (by decide), if_pos trivial]
   exact put_ok (Yg9 hs.great)) (by simp [Nd.flat, Nd.flatL] at hn ⊢; omega)]
  simp [Nd.flat, Nd.flatL, Nd.kind]
end Go.Vc
end
section
namespace Go.Vc
open Go Go.Lib
def Clean (s : List UInt8) : Prop:=Zxd s /\ (13 : UInt8) ∉ s
theorem YhR : Clean []:=⟨Yc7, by simp⟩
theorem ZzZ {a b : List UInt8} (ha : Clean a) (hb : Clean b) : Clean (a ++ b):=⟨Zqs ha.1 hb.1, by simp [ha.2, hb.2]⟩
theorem Zx5 {l : List UInt8} (h : asc l = true /\ (13 : UInt8) ∉ l) : Clean l:=⟨Zqr h.1, h.2⟩
theorem YeH {a : List UInt8} (h : nm a = true) : Clean a:=⟨nm_fine h, nm_no h (by decide) (by decide)⟩
theorem clean_quo {s : List UInt8} (h : Zxd s) : Clean (subst YgQ s):=⟨sub_fine true s h, sub_no13 true s⟩
theorem clean_txt {s : List UInt8} (h : Zxd s) : Clean (subst txtP s):=⟨sub_fine false s h, sub_no13 false s⟩
theorem clean_qn {q p l : List UInt8} (h : QN q p l) : Clean q:=by
 obtain ⟨hl, ⟨rfl, rfl⟩ | ⟨hp, rfl⟩⟩:=h
 ·exact YeH hl
 ·exact ZzZ (YeH hp) (ZzZ (a:=[58]) (Zx5 (by decide)) (YeH hl))
theorem YhQ : ∀ {L : List (List UInt8 × List UInt8)}, (∀ a ∈ L, ∃ p l, QN a.1 p l) -> (∀ a ∈ L, Zxd a.2) -> Clean (ZyC L)
 | [], _, _ => YhR
 | a :: r, hq, hv => by
  obtain ⟨p, l, h⟩:=hq a (by simp)
  have e : ZyC (a :: r) = [32] ++ (a.1 ++ ([61, 34] ++ (subst YgQ a.2 ++ ([34] ++ ZyC r)))):=by simp [ZyC, YgG]
  rw [e]
  exact ZzZ (Zx5 (by decide)) (ZzZ (clean_qn h) (ZzZ (Zx5 (by decide)) (ZzZ (clean_quo (hv a (by simp))) (ZzZ (Zx5 (by decide)) (YhQ (fun b hb => hq b (by simp [hb])) (fun b hb => hv b (by simp [hb])))))))
theorem pairsQ_qn {P : List ByteArray} (hP : PfxOk P) {top : Bool} {ats : List At} (hA : ∀ a ∈ ats, nm (bl a.2.1) = true) : ∀ a ∈ Zq5 P top ats, ∃ p l, QN a.1 p l:=by
 intro a ha
 unfold Zq5 at ha
 rcases mem_append.1 ha with h1 | h1
 ·cases top with
  | false => rw [if_neg (by decide)] at h1; cases h1
  | true =>
   rw [if_pos rfl] at h1
   obtain ⟨i, hi⟩:=decl_qn hP.len h1
   exact ⟨_, _, hi⟩
 ·obtain ⟨b, hb, rfl⟩:=mem_map.1 h1
  exact ⟨_, _, qn_of (hA b hb) hP.len⟩
theorem pairsQ_fine {P : List ByteArray} (hP : PfxOk P) {top : Bool} {ats : List At} (hA : ∀ a ∈ ats, Zxd (bl a.2.2)) : ∀ a ∈ Zq5 P top ats, Zxd a.2:=by
 intro a ha
 unfold Zq5 at ha
 rcases mem_append.1 ha with h1 | h1
 ·cases top with
  | false => rw [if_neg (by decide)] at h1; cases h1
  | true =>
   rw [if_pos rfl] at h1
   obtain ⟨i, v, hv, rfl⟩:=Yd9 h1
   exact hP.fine v (mem_of_getElem? hv)
 ·obtain ⟨b, hb, rfl⟩:=mem_map.1 h1
  exact hA b hb
theorem clean_node {P : List ByteArray} (hP : PfxOk P) (n : Nd) : Ycn n -> SpcP P n -> (n.kind = 2 \/ n.kind = 3 \/ n.kind = 4 \/ n.kind = 5) -> ∀ top, Clean (Zy3 P top n) /\ (Ybg P top n).length <= (Zy3 P top n).length:=by
 induction n using Nd.ind with
 | h k u l t ats ks ih =>
 intro hg hsp hk top
 simp only [Nd.kind] at hk
 have hs:=hg.self
 rcases hk with rfl | rfl | rfl | rfl
 ·have kids : ∀ ls : List Nd, (∀ y ∈ ls, y ∈ ks) -> Clean (ZyL P ls) /\ (YgE P ls).length <= (ZyL P ls).length:=by
   intro ls
   induction ls with
   | nil => intro _; exact ⟨YhR, Nat.le_refl _⟩
   | cons y r ihr =>
    intro hm
    have hy:=hm y (by simp)
    have h1:=ih y hy (hg.kid hy) (kid_spc hsp hy) (Yd3 (hg.kids hy)).2 false
    have h2:=ihr fun z hz => hm z (by simp [hz])
    refine ⟨ZzZ h1.1 h2.1, ?_⟩
    rw [YgE, ZyL, length_append, length_append]
    omega
  have hk:=kids ks fun _ h => h
  have hq:=qn_of (P:=P) (n:=(u, l)) (YhV hs.elem_nm) hP.len
  have hp : Clean (ZyC (Zq5 P top ats)):=YhQ (pairsQ_qn hP fun a ha => Yh1 (Ydo hs.name ha)) (pairsQ_fine hP fun a ha => hs.fine_attr ha)
  have eW : Zy3 P top (.mk 2 u l t ats ks) = [60] ++ (ZzW P (u, l) ++ (ZyC (Zq5 P top ats) ++ ([62] ++ (ZyL P ks ++ ([60, 47] ++ (ZzW P (u, l) ++ [62])))))):=by
   rw [Zy3, if_neg (by decide), if_neg (by decide), if_neg (by decide), if_pos rfl, pairsQ_W]
   simp
  have eT : Ybg P top (.mk 2 u l t ats ks) = ⟨2, 0, mkB (ZzW P (u, l)), (Zq5 P top ats).map YbW, kE, 0⟩ :: (YgE P ks ++ [⟨3, 0, mkB (ZzW P (u, l)), [], kE, 0⟩]):=by
   rw [Ybg, if_neg (by decide), if_neg (by decide), if_neg (by decide), if_pos rfl]
  rw [eW, eT]
  refine ⟨ZzZ (Zx5 (by decide)) (ZzZ (clean_qn hq) (ZzZ hp (ZzZ (Zx5 (by decide)) (ZzZ hk.1 (ZzZ (Zx5 (by decide)) (ZzZ (clean_qn hq) (Zx5 (by decide)))))))), ?_⟩
  have:=hk.2
  simp only [length_cons, length_append, length_nil]
  omega
 ·have eW : Zy3 P top (.mk 3 u l t ats ks) = subst txtP (bl t):=by rw [Zy3, if_pos rfl]
  rw [eW, Ybg, if_pos rfl]
  refine ⟨clean_txt hs.fine_text, ?_⟩
  have:=length_pos_iff.2 (text_sub (textQ_3 hs.textq))
  rw [length_singleton]; omega
 ·obtain ⟨h1, h2, h3⟩:=textQ_4 hs.textq
  have eW : Zy3 P top (.mk 4 u l t ats ks) = [60, 33, 45, 45] ++ (bl t ++ [45, 45, 62]):=by rw [Zy3, if_neg (by decide), if_pos rfl]; simp
  rw [eW, Ybg, if_neg (by decide), if_pos rfl]
  exact ⟨ZzZ (Zx5 (by decide)) (ZzZ ⟨hs.fine_text, YgV h2⟩ (Zx5 (by decide))), by simp⟩
 ·obtain ⟨h1, h2, h3⟩:=textQ_5 hs.textq
  have eW : Zy3 P top (.mk 5 u l t ats ks) = [60, 63] ++ (bl l ++ ((if t ≠ kE then 32 :: bl t else []) ++ [63, 62])):=by rw [Zy3, if_neg (by decide), if_neg (by decide), if_pos rfl]; simp
  rw [eW, Ybg, if_neg (show ¬ ((5 : Int) = 3) by decide), if_neg (show ¬ ((5 : Int) = 4) by decide), if_pos rfl]
  refine ⟨ZzZ (Zx5 (by decide)) (ZzZ (YeH hs.instr_nm.1) (ZzZ ?_ (Zx5 (by decide)))), by simp⟩
  split
  ·exact ZzZ (a:=[32]) (Zx5 (by decide)) ⟨hs.fine_text, YgV h2⟩
  ·exact YhR
theorem plain_clean {b : List UInt8} (h : (13 : UInt8) ∉ b) (hh : b = [] \/ ∃ r, b = 60 :: r) : Zyv b = b:=by
 unfold Zyv
 rw [if_neg, YgU b h]
 rcases hh with rfl | ⟨r, rfl⟩ <;> simp [bomL, isPrefixOf]
theorem Right.good {d : Nd} (h : Right d) : Ycn d:=fun x hx => ⟨h.kinds x hx, h.great x hx, h.names x hx, h.chars x hx, h.order x hx, h.texts x hx⟩
theorem kindN_doc {n : Nd} (h : YaP n = true) (hk : n.kind = 1) : n.uri = kE /\ n.loc = kE /\ n.text = kE /\ n.attrs = []:=by
 unfold YaP at h
 rw [Bool.and_eq_true] at h
 have h2:=h.2
 rw [if_pos hk] at h2
 exact of_decide_eq_true h2
theorem spc_kids {P : List ByteArray} {d : Nd} (h : SpcP P d) {x : Nd} (hx : x ∈ d.kids) : SpcP P x:=by
 cases d with
 | mk k u l t ats ks => exact kid_spc h hx
end Go.Vc
end
section
namespace Go.Vc
open Go Go.Lib
mutual
def Nd.meaN : Nd -> Nat
 | .mk _ u l t ats ks => 1 + u.size + l.size + t.size + (ats.map ZxI).sum + Nd.meaNL ks
def Nd.meaNL : List Nd -> Nat
 | [] => 0
 | x :: r => x.meaN + Nd.meaNL r
end
theorem Yei : ∀ a b : List Nd, Nd.meaNL (a ++ b) = Nd.meaNL a + Nd.meaNL b
 | [], b => by simp [Nd.meaNL]
 | x :: r, b => by rw [cons_append, Nd.meaNL, Nd.meaNL, Yei r b]; omega
mutual
theorem mea_nd : ∀ v : NV, v.nd.meaN = v.mea
 | .mk k u l t ap al ac ats kp kl kc ks => by
  have:=mea_ndL ks
  simp only [NV.nd, Nd.meaN, NV.mea, this]
theorem mea_ndL : ∀ ks : List NV, Nd.meaNL (NV.ndL ks) = NV.meaL ks
 | [] => rfl
 | x :: r => by
  have:=mea_nd x; have:=mea_ndL r
  simp only [NV.ndL, Nd.meaNL, NV.meaL, *]
end
theorem esc_six (v : Bool) : ∀ p ∈ Yab v, p.2.length <= 6:=by cases v <;> decide
theorem sub_len (v : Bool) : ∀ s : List UInt8, (subst (Yab v) s).length <= 6 * s.length
 | [] => by simp [subst]
 | b :: r => by
  have ih:=sub_len v r
  rw [ZxN, length_append, length_cons]
  cases hl : Zx2 (Yab v) b with
  | none => simp only [Option.getD_none, length_singleton]; omega
  | some m =>
   obtain ⟨p, hp, rfl, rfl⟩:=Ydp hl
   have:=esc_six v p hp
   simp only [Option.getD_some]; omega
theorem pfx_len {k : Nat} (h : k < 99999999) : (Ycf k).length <= 9:=by
 have:=decD_len 7 (k + 1) (by omega)
 simp only [Ycf, length_cons]; omega
theorem qname_len {P : List ByteArray} (hP : P.length <= 10000000) (n : Pr) : (ZzW P n).length <= n.2.size + 10:=by
 unfold ZzW
 split
 ·rw [Zzn]; omega
 ·split
  ·simp only [length_append, length_cons, length_nil, Zzn]; omega
  ·have:=pfx_len (k:=Yb2 P n.1) (by have:=findU_le P n.1; omega)
   simp only [length_append, length_cons, length_nil, Zzn]; omega
theorem attrs_wlen {P : List ByteArray} (hP : P.length <= 10000000) : ∀ ats : List At, (Zqi P ats).length <= 20 * (ats.map ZxI).sum
 | [] => by simp [Zqi]
 | a :: r => by
  have ih:=attrs_wlen hP r
  have h1:=qname_len hP (nameOf a)
  have h2:=sub_len true (bl a.2.2)
  have h3 : ZxI a = 1 + a.1.size + a.2.1.size + a.2.2.size:=rfl
  have h4 : (nameOf a).2.size = a.2.1.size:=rfl
  rw [<- quo_esc, Zzn] at h2
  rw [Zqi, length_append, map_cons, sum_cons]
  unfold attrW
  simp only [length_append, length_cons, length_nil]
  omega
theorem decls_wlen : ∀ (P : List ByteArray) (k : Nat), k + P.length <= 10000000 -> (∀ u ∈ P, u.size <= 100) -> (Zxq k P).length <= 1000 * P.length
 | [], _, _, _ => by simp [Zxq]
 | u :: r, k, hk, hu => by
  rw [length_cons] at hk
  have ih:=decls_wlen r (k + 1) (by omega) fun v hv => hu v (by simp [hv])
  have h1:=pfx_len (k:=k) (by omega)
  have h2:=sub_len true (bl u)
  have h3:=hu u (by simp)
  rw [<- quo_esc, Zzn] at h2
  rw [Zxq, length_append, length_cons]
  unfold declW
  simp only [length_append, length_cons, length_nil]
  omega
theorem node_wlen {P : List ByteArray} (hP : P.length <= 10000000) (n : Nd) : ∀ top, (Zy3 P top n).length <= 50 * n.meaN + (if top = true /\ n.kind = 2 then (Zxq 0 P).length else 0):=by
 induction n using Nd.ind with
 | h k u l t ats ks ih =>
 intro top
 have kids : ∀ ls : List Nd, (∀ y ∈ ls, y ∈ ks) -> (ZyL P ls).length <= 50 * Nd.meaNL ls:=by
  intro ls
  induction ls with
  | nil => intro _; simp [ZyL]
  | cons y r ihr =>
   intro hm
   have h1:=ih y (hm y (by simp)) false
   rw [if_neg (by simp)] at h1
   have h2:=ihr fun z hz => hm z (by simp [hz])
   rw [ZyL, length_append, Nd.meaNL]
   omega
 have hk:=kids ks fun _ h => h
 rw [Zy3, Nd.meaN]
 by_cases h3 : k = 3
 ·rw [if_pos h3]
  have:=sub_len false (bl t)
  rw [<- txt_esc, Zzn] at this
  omega
 rw [if_neg h3]
 by_cases h4 : k = 4
 ·rw [if_pos h4]
  simp only [length_append, length_cons, length_nil, Zzn]
  omega
 rw [if_neg h4]
 by_cases h5 : k = 5
 ·rw [if_pos h5]
  have : (if t ≠ kE then 32 :: bl t else []).length <= 1 + t.size:=by
   split
   ·rw [length_cons, Zzn]; omega
   ·simp
  simp only [length_append, length_cons, length_nil, Zzn]
  omega
 rw [if_neg h5]
 by_cases h2 : k = 2
 ·rw [if_pos h2]
  have h6:=qname_len hP (u, l)
  have h7:=attrs_wlen hP ats
  have h8 : (if top = true then Zxq 0 P else []).length = if top = true /\ k = 2 then (Zxq 0 P).length else 0:=by cases top <;> simp [h2]
  have h9 : (Nd.mk k u l t ats ks).kind = k:=rfl
  rw [h9]
  simp only [length_append, length_cons, length_nil, h8]
  simp only at h6
  omega
 ·rw [if_neg h2]; simp
theorem tops_wlen {P : List ByteArray} (hP : P.length <= 10000000) : ∀ ls : List Nd, (Zq7 P ls).length <= 51 * Nd.meaNL ls + (ls.countP fun k => decide (k.kind = 2)) * (Zxq 0 P).length
 | [] => by simp [Zq7]
 | y :: r => by
  have h1:=node_wlen hP y true
  have h2:=tops_wlen hP r
  have h3 : 1 <= y.meaN:=by cases y; simp only [Nd.meaN]; omega
  rw [Zq7, length_append, length_append, length_singleton, Nd.meaNL, countP_cons]
  by_cases h4 : y.kind = 2
  ·rw [if_pos ⟨rfl, h4⟩] at h1
   simp only [h4, decide_true, if_true, Nat.add_mul, Nat.one_mul]
   omega
  ·rw [if_neg (fun h => h4 h.2)] at h1
   simp only [h4, decide_false]
   simp only [Bool.false_eq_true, if_false, Nat.add_zero]
   omega
theorem right_pfx {d : Nd} (h : Right d) {P : List ByteArray} (hs : ∀ s, s ∈ P ↔ s ∈ d.spc /\ s ≠ Zys) (hl : P.length <= 10000000) : PfxOk2 P /\ SpcP P d:=by
 have key : ∀ n : Nd, Ycn n -> ∀ s ∈ n.spc, s ≠ kE /\ s.size <= 100 /\ Zxd (bl s) /\ s ≠ kSX:=by
  intro n
  induction n using Nd.ind with
  | h k u l t ats ks ih =>
   intro hg s hsp
   have hc : ∀ m : Pr, Zqc m = true -> s ∈ neB m.1 -> s ≠ kE /\ s.size <= 100 /\ Zxd (bl s) /\ s ≠ kSX:=by
    intro m hm hn
    unfold Zqc at hm
    simp only [Bool.and_eq_true, decide_eq_true_eq] at hm
    unfold neB at hn
    split at hn
    ·cases hn
    ·next hne =>
     rw [mem_singleton.1 hn]
     exact ⟨hne, hm.1.1.2, ZqB.1 hm.1.2, hm.2⟩
   simp only [Nd.spc, mem_append, mem_flatMap] at hsp
   rcases hsp with (hn | ⟨a, ha, hn⟩) | hk
   ·by_cases h2 : k = 2
    ·subst h2
     exact hc (u, l) hg.self.elem_nm hn
    ·exfalso
     have hu : u = kE:=by
      have hkg:=hg.self.kind
      have hkk : k = 1 \/ k = 3 \/ k = 4 \/ k = 5:=by
       unfold YaP at hkg
       rw [Bool.and_eq_true] at hkg
       have h3:=hkg.2
       by_cases e1 : (Nd.mk k u l t ats ks).kind = 1
       ·exact .inl e1
       rw [if_neg e1] at h3
       by_cases e2 : (Nd.mk k u l t ats ks).kind = 2
       ·exact absurd e2 h2
       rw [if_neg e2] at h3
       by_cases e3 : (Nd.mk k u l t ats ks).kind = 3 \/ (Nd.mk k u l t ats ks).kind = 4
       ·exact .inr (e3.elim .inl fun h => .inr (.inl h))
       rw [if_neg e3] at h3
       by_cases e5 : (Nd.mk k u l t ats ks).kind = 5
       ·exact .inr (.inr (.inr e5))
       ·rw [if_neg e5] at h3; cases h3
      rcases hkk with rfl | rfl | rfl | rfl
      ·exact (kindN_doc hkg rfl).1
      ·exact (Yf9 hkg (.inl rfl)).1
      ·exact (Yf9 hkg (.inr rfl)).1
      ·exact (Yhy hkg rfl).1
     rw [hu] at hn
     simp [neB, kE, ZzN] at hn
   ·have:=Ydo hg.self.name ha
    unfold YdM at this
    rw [Bool.and_eq_true] at this
    exact hc (nameOf a) this.1 hn
   ·obtain ⟨x, hx, hxs⟩ : ∃ x ∈ ks, s ∈ x.spc:=by
     have : ∀ ls : List Nd, s ∈ Nd.spcL ls -> ∃ x ∈ ls, s ∈ x.spc:=by
      intro ls
      induction ls with
      | nil => intro h; simp [Nd.spcL] at h
      | cons y r ihr =>
       intro h
       simp only [Nd.spcL, mem_append] at h
       rcases h with h | h
       ·exact ⟨y, by simp, h⟩
       ·obtain ⟨x, hx, hxs⟩:=ihr h
        exact ⟨x, by simp [hx], hxs⟩
     exact this ks hk
    exact ih x hx (hg.kid hx) s hxs
 have hall:=key d h.good
 refine ⟨⟨⟨hl, fun u hu => (hall u ((hs u).1 hu).1).2.2.1⟩, fun u hu => ?_⟩, fun s hsp => ?_⟩
 ·have h1:=(hs u).1 hu
  have h2:=hall u h1.1
  exact ⟨h2.1, h1.2, h2.2.2.2, h2.2.1⟩
 ·by_cases e : s = Zys
  ·exact .inl e
  ·exact .inr ((hs s).2 ⟨hsp, e⟩)
end Go.Vc
end
section
namespace Go.Vc
open Go Go.Lib
theorem Zqj (r : List UInt8) : (ZzE r).length <= r.length:=(dropWhile_sublist _).length_le
theorem Yh4 {w r v r2 : List UInt8} (h : Yea w r = .ok (v, r2)) : r2.length <= r.length:=by
 unfold Yea at h
 split at h
 ·simp only [Except.ok.injEq, Prod.mk.injEq] at h
  rw [<- h.2, length_drop]; omega
 ·cases h
theorem Yhe {w r r2 : List UInt8} (h : YbV w r = .ok r2) : r2.length <= r.length:=by
 unfold YbV at h
 split at h
 ·simp only [Except.ok.injEq] at h
  rw [<- h, length_drop]; omega
 ·cases h
theorem YbY {r r2 n : List UInt8} (h : YbB r = .ok (n, r2)) : r2.length <= r.length:=by
 unfold YbB at h
 split at h
 ·cases h
 ·split at h
  ·cases h
  ·simp only [Except.ok.injEq, Prod.mk.injEq] at h
   rw [<- h.2, length_drop]; omega
theorem Yfg {r r2 : List UInt8} (h : Yat r = .ok r2) : r2.length <= r.length:=by
 unfold Yat at h
 split at h
 ·simp only [Except.ok.injEq] at h
  have h2:=Zqj ((ZzE r).drop 1)
  have h3:=Zqj r
  rw [length_drop] at h2
  rw [<- h]; omega
 ·cases h
theorem Yf5 {r r2 v : List UInt8} (h : ZqR r = .ok (v, r2)) : r2.length <= r.length:=by
 unfold ZqR at h
 split at h
 ·cases h
 ·split at h
  ·simp only [Except.ok.injEq, Prod.mk.injEq] at h
   rw [<- h.2, length_drop, length_cons]; omega
  ·cases h
theorem declStep_len {w r r2 : List UInt8} {o : Option (List UInt8)} (h : Yaj w r = .ok (o, r2)) : r2.length <= r.length:=by
 unfold Yaj at h
 split at h
 ·split at h
  ·cases h
  ·simp only [Except.ok.injEq, Prod.mk.injEq] at h
   rw [<- h.2]; exact Nat.le_refl _
 ·split at h
  ·cases h
  ·next r3 he =>
   split at h
   ·cases h
   ·next v r4 hq =>
    split at h
    ·cases h
    ·simp only [Except.ok.injEq, Prod.mk.injEq] at h
     have h1:=Yfg he
     have h2:=Yf5 hq
     have h3:=Zqj r
     rw [length_drop] at h1
     rw [<- h.2]; omega
theorem stepsD_len : ∀ {ws : List (List UInt8)} {r r2 last l2 : List UInt8} {acc l : List Pr}, Ybt ws r acc last = .ok (l, l2, r2) -> r2.length <= r.length
 | [], r, r2, last, l2, acc, l, h => by
  simp only [Ybt, Except.ok.injEq, Prod.mk.injEq] at h
  rw [h.2.2]; exact Nat.le_refl _
 | w :: ws, r, r2, last, l2, acc, l, h => by
  unfold Ybt at h
  split at h
  ·cases h
  ·next o r3 hd =>
   have h1:=stepsD_len h
   have h2:=declStep_len hd
   omega
theorem declR_len {r r2 : List UInt8} {l : List Pr} (h : Yge r = .ok (l, r2)) : r2.length <= r.length:=by
 unfold Yge at h
 split at h
 ·cases h
 ·next l1 la r3 hs =>
  split at h
  ·cases h
  ·next r4 hg =>
   split at h
   ·cases h
   ·simp only [Except.ok.injEq, Prod.mk.injEq] at h
    have h1:=stepsD_len hs
    have h2:=Yhe hg
    have h3:=Zqj r3
    rw [<- h.2]; omega
theorem instrR_len {r r2 n t : List UInt8} (h : YdW r = .ok (n, t, r2)) : r2.length <= r.length:=by
 unfold YdW at h
 split at h
 ·cases h
 ·next n1 r3 hn =>
  have h1:=YbY hn
  split at h
  ·cases h
  ·split at h
   ·cases h
   ·split at h
    ·simp only [Except.ok.injEq, Prod.mk.injEq] at h
     rw [<- h.2.2, length_drop]; omega
    ·split at h
     ·cases h
     ·split at h
      ·cases h
      ·next t1 r4 hu =>
       simp only [Except.ok.injEq, Prod.mk.injEq] at h
       have h2:=Yh4 hu
       have h3:=Zqj r3
       rw [<- h.2.2]; omega
theorem closingR_len {r r2 n : List UInt8} (h : Yak r = .ok (n, r2)) : r2.length <= r.length:=by
 unfold Yak at h
 split at h
 ·cases h
 ·next n1 r3 hn =>
  split at h
  ·cases h
  ·next r4 hg =>
   simp only [Except.ok.injEq, Prod.mk.injEq] at h
   have h1:=YbY hn
   have h2:=Yhe hg
   have h3:=Zqj r3
   rw [<- h.2]; omega
theorem pairR_len {r r2 : List UInt8} {p : Pr} (h : YeL r = .ok (p, r2)) : r2.length <= r.length:=by
 unfold YeL at h
 split at h
 ·cases h
 ·next n1 r3 hn =>
  split at h
  ·cases h
  ·next r4 he =>
   split at h
   ·cases h
   ·next v r5 hq =>
    split at h
    ·cases h
    ·simp only [Except.ok.injEq, Prod.mk.injEq] at h
     have h1:=YbY hn
     have h2:=Yfg he
     have h3:=Yf5 hq
     rw [<- h.2]; omega
theorem pairsR_len : ∀ {n : Nat} {r r2 : List UInt8} {acc l : List Pr} {k : Int}, ZxE n r acc = .ok (k, l, r2) -> r2.length <= r.length
 | 0, _, _, _, _, _, h => by simp [ZxE] at h
 | n + 1, r, r2, acc, l, k, h => by
  unfold ZxE at h
  have h3:=Zqj r
  split at h
  ·simp only [Except.ok.injEq, Prod.mk.injEq] at h
   rw [<- h.2.2, length_drop]; omega
  ·split at h
   ·simp only [Except.ok.injEq, Prod.mk.injEq] at h
    rw [<- h.2.2, length_drop]; omega
   ·split at h
    ·cases h
    ·split at h
     ·cases h
     ·next p r4 hp =>
      split at h
      ·cases h
      ·have h1:=pairsR_len h
       have h2:=pairR_len hp
       omega
theorem pre_le {w r : List UInt8} (h : w.isPrefixOf r = true) : w.length <= r.length:=(isPrefixOf_iff_prefix.1 h).length_le
theorem tokR_len {first : Bool} {r r2 : List UInt8} {t : TokQ} (hr : r ≠ []) (h : Yez first r = .ok (t, r2)) : r2.length < r.length:=by
 have hpos:=length_pos_iff.2 hr
 unfold Yez at h
 split at h
 ·next hc =>
  have hp:=pre_le hc.2.1
  simp only [length_cons, length_nil] at hp
  split at h
  ·cases h
  ·next l1 r3 hd =>
   simp only [Except.ok.injEq, Prod.mk.injEq] at h
   have:=declR_len hd
   rw [length_drop] at this
   rw [<- h.2]; omega
 split at h
 ·next hc =>
  split at h
  ·cases h
  ·next t1 r3 hu =>
   split at h
   ·cases h
   ·next r4 hg =>
    simp only [Except.ok.injEq, Prod.mk.injEq] at h
    have h1:=Yh4 hu
    have h2:=Yhe hg
    rw [length_drop] at h1
    rw [<- h.2]; omega
 split at h
 ·split at h
  ·cases h
  ·next t1 r3 hu =>
   simp only [Except.ok.injEq, Prod.mk.injEq] at h
   have h1:=Yh4 hu
   rw [length_drop] at h1
   rw [<- h.2]; omega
 split at h
 ·cases h
 split at h
 ·cases h
 split at h
 ·split at h
  ·cases h
  ·next n t1 r3 hu =>
   simp only [Except.ok.injEq, Prod.mk.injEq] at h
   have h1:=instrR_len hu
   rw [length_drop] at h1
   rw [<- h.2]; omega
 split at h
 ·split at h
  ·cases h
  ·next n r3 hu =>
   simp only [Except.ok.injEq, Prod.mk.injEq] at h
   have h1:=closingR_len hu
   rw [length_drop] at h1
   rw [<- h.2]; omega
 split at h
 ·split at h
  ·cases h
  ·next n r3 hu =>
   split at h
   ·cases h
   ·next k l1 r4 hp =>
    simp only [Except.ok.injEq, Prod.mk.injEq] at h
    have h1:=YbY hu
    have h2:=pairsR_len hp
    rw [length_drop] at h1
    rw [<- h.2]; omega
 ·next hp =>
  split at h
  ·cases h
  ·simp only [Except.ok.injEq, Prod.mk.injEq] at h
   have : 0 < (r.takeWhile (· != 60)).length:=by
    cases r with
    | nil => exact absurd rfl hr
    | cons v s =>
     have hv : v ≠ 60:=by rintro rfl; simp [isPrefixOf] at hp
     rw [takeWhile_cons, if_pos (by rw [bne_iff_ne]; exact hv)]
     simp
   rw [<- h.2, length_drop]; omega
end Go.Vc
end
section
namespace Go.Vc
open Go Go.Lib
structure Small (t : TokQ) : Prop where
 name : t.name.size <= 65536
 text : t.text.size <= 65536
 len : t.pairs.length <= 65536
 pairs : ∀ p ∈ t.pairs, p.1.size <= 65536
theorem Zyi (l : List UInt8) : (mkB l).size = l.length:=by rw [<- Zzn, ZzH]
theorem Yfx (v : Bool) : ∀ (n : Nat) (y : List UInt8), y.length <= n -> ∀ (i : Nat) (out : List UInt8), (ZyB v i y out).1.length <= out.length + y.length
 | 0, y, h, i, out => by
  have : y = []:=eq_nil_of_length_eq_zero (by omega)
  subst this; rw [Yba]; simp
 | n + 1, y, h, i, out => by
  by_cases hy : y = []
  ·subst hy; rw [Yba]; simp
  by_cases h2 : (Zyf v y).2.2 = 0
  ·rw [YcZ hy h2]
   have h3:=Yfu h2
   have h4:=(stepL_le (value:=v) hy).1
   have h5:=stepL_out h2
   have:=Yfx v n (y.drop (Zyf v y).2.1) (by rw [length_drop]; omega) (i + (Zyf v y).2.1) (out ++ (Zyf v y).1)
   rw [length_append, length_drop] at this
   omega
  ·rw [Yef hy h2]; simp
theorem Ydn {r r2 n : List UInt8} (h : YbB r = .ok (n, r2)) : n.length <= r.length:=by
 unfold YbB at h
 split at h
 ·cases h
 ·split at h
  ·cases h
  ·simp only [Except.ok.injEq, Prod.mk.injEq] at h
   rw [<- h.1, length_take]; omega
theorem Yf0 {w r v r2 : List UInt8} (h : Yea w r = .ok (v, r2)) : v.length <= r.length:=by
 unfold Yea at h
 split at h
 ·simp only [Except.ok.injEq, Prod.mk.injEq] at h
  rw [<- h.1, length_take]; omega
 ·cases h
theorem pairR_small {r r2 : List UInt8} {p : Pr} (h : YeL r = .ok (p, r2)) : p.1.size <= r.length:=by
 unfold YeL at h
 split at h
 ·cases h
 ·next n1 r3 hn =>
  split at h
  ·cases h
  ·split at h
   ·cases h
   ·split at h
    ·cases h
    ·simp only [Except.ok.injEq, Prod.mk.injEq] at h
     rw [<- h.1]
     dsimp only
     rw [Zyi]; exact Ydn hn
theorem Ygs : ∀ {n : Nat} {r r2 : List UInt8} {acc l : List Pr} {k : Int}, ZxE n r acc = .ok (k, l, r2) -> r.length <= 65536 -> (∀ p ∈ acc, p.1.size <= 65536) -> l.length <= acc.length + r.length /\ ∀ p ∈ l, p.1.size <= 65536
 | 0, _, _, _, _, _, h, _, _ => by simp [ZxE] at h
 | n + 1, r, r2, acc, l, k, h, hr, ha => by
  unfold ZxE at h
  have h3:=Zqj r
  split at h
  ·simp only [Except.ok.injEq, Prod.mk.injEq] at h
   rw [<- h.2.1]; exact ⟨by omega, ha⟩
  ·split at h
   ·simp only [Except.ok.injEq, Prod.mk.injEq] at h
    rw [<- h.2.1]; exact ⟨by omega, ha⟩
   ·split at h
    ·cases h
    ·next hne =>
     split at h
     ·cases h
     ·next p r4 hp =>
      split at h
      ·cases h
      ·have h2:=pairR_len hp
       have h4:=pairR_small hp
       have h1:=Ygs h (by omega) (fun q hq => by
        rcases mem_append.1 hq with hq | hq
        ·exact ha q hq
        ·rw [mem_singleton.1 hq]; omega)
       rw [length_append, length_singleton] at h1
       exact ⟨by omega, h1.2⟩
theorem Ygq : ∀ {ws : List (List UInt8)} {r r2 last l2 : List UInt8} {acc l : List Pr}, Ybt ws r acc last = .ok (l, l2, r2) -> (∀ w ∈ ws, w.length <= 100) -> (∀ p ∈ acc, p.1.size <= 65536) -> l.length <= acc.length + ws.length /\ ∀ p ∈ l, p.1.size <= 65536
 | [], r, r2, last, l2, acc, l, h, _, ha => by
  simp only [Ybt, Except.ok.injEq, Prod.mk.injEq] at h
  rw [<- h.1]; exact ⟨by simp, ha⟩
 | w :: ws, r, r2, last, l2, acc, l, h, hw, ha => by
  unfold Ybt at h
  split at h
  ·cases h
  ·next o r3 hd =>
   have hpl : (Yc8 w o).length <= 1 /\ ∀ p ∈ Yc8 w o, p.1.size <= 65536:=by
    unfold Yc8
    split
    ·refine ⟨by simp, fun p hp => ?_⟩
     rw [mem_singleton.1 hp]
     dsimp only
     rw [Zyi]
     have:=hw w mem_cons_self
     omega
    ·simp
   have h1:=Ygq h (fun x hx => hw x (mem_cons_of_mem _ hx)) (fun q hq => by
    rcases mem_append.1 hq with hq | hq
    ·exact ha q hq
    ·exact hpl.2 q hq)
   rw [length_append] at h1
   rw [length_cons]
   exact ⟨by omega, h1.2⟩
theorem declR_small {r r2 : List UInt8} {l : List Pr} (h : Yge r = .ok (l, r2)) : l.length <= 3 /\ ∀ p ∈ l, p.1.size <= 65536:=by
 unfold Yge at h
 split at h
 ·cases h
 ·next l1 la r3 hs =>
  split at h
  ·cases h
  ·split at h
   ·cases h
   ·simp only [Except.ok.injEq, Prod.mk.injEq] at h
    have h1:=Ygq hs (by decide) (by simp)
    rw [<- h.1]
    simpa using h1
theorem instrR_small {r r2 n t : List UInt8} (h : YdW r = .ok (n, t, r2)) : n.length <= r.length /\ t.length <= r.length:=by
 unfold YdW at h
 split at h
 ·cases h
 ·next n1 r3 hn =>
  have h1:=Ydn hn
  have h2:=YbY hn
  split at h
  ·cases h
  ·split at h
   ·cases h
   ·split at h
    ·simp only [Except.ok.injEq, Prod.mk.injEq] at h
     rw [<- h.1, <- h.2.1]; exact ⟨h1, by simp⟩
    ·split at h
     ·cases h
     ·split at h
      ·cases h
      ·next t1 r4 hu =>
       simp only [Except.ok.injEq, Prod.mk.injEq] at h
       have h3:=Yf0 hu
       have h4:=Zqj r3
       rw [<- h.1, <- h.2.1]; exact ⟨h1, by omega⟩
theorem closingR_small {r r2 n : List UInt8} (h : Yak r = .ok (n, r2)) : n.length <= r.length:=by
 unfold Yak at h
 split at h
 ·cases h
 ·next n1 r3 hn =>
  split at h
  ·cases h
  ·simp only [Except.ok.injEq, Prod.mk.injEq] at h
   rw [<- h.1]; exact Ydn hn
theorem YcD : kE.size = 0:=rfl
theorem kEs : kE.size <= 65536:=by decide
theorem tokR_small {first : Bool} {r r2 : List UInt8} {t : TokQ} (hr : r.length <= 65536) (h : Yez first r = .ok (t, r2)) : Small t:=by
 unfold Yez at h
 split at h
 ·split at h
  ·cases h
  ·next l1 r3 hd =>
   simp only [Except.ok.injEq, Prod.mk.injEq] at h
   have:=declR_small hd
   rw [<- h.1]; exact ⟨kEs, kEs, by dsimp only; omega, this.2⟩
 split at h
 ·split at h
  ·cases h
  ·next t1 r3 hu =>
   split at h
   ·cases h
   ·simp only [Except.ok.injEq, Prod.mk.injEq] at h
    have h1:=Yf0 hu
    rw [length_drop] at h1
    rw [<- h.1]; exact ⟨kEs, by dsimp only; rw [Zyi]; omega, by simp, by simp⟩
 split at h
 ·split at h
  ·cases h
  ·next t1 r3 hu =>
   simp only [Except.ok.injEq, Prod.mk.injEq] at h
   have h1:=Yf0 hu
   rw [length_drop] at h1
   rw [<- h.1]; exact ⟨kEs, by dsimp only; rw [Zyi]; omega, by simp, by simp⟩
 split at h
 ·cases h
 split at h
 ·cases h
 split at h
 ·split at h
  ·cases h
  ·next n t1 r3 hu =>
   simp only [Except.ok.injEq, Prod.mk.injEq] at h
   have h1:=instrR_small hu
   rw [length_drop] at h1
   rw [<- h.1]; exact ⟨by dsimp only; rw [Zyi]; omega, by dsimp only; rw [Zyi]; omega, by simp, by simp⟩
 split at h
 ·split at h
  ·cases h
  ·next n r3 hu =>
   simp only [Except.ok.injEq, Prod.mk.injEq] at h
   have h1:=closingR_small hu
   rw [length_drop] at h1
   rw [<- h.1]; exact ⟨by dsimp only; rw [Zyi]; omega, kEs, by simp, by simp⟩
 split at h
 ·split at h
  ·cases h
  ·next n r3 hu =>
   split at h
   ·cases h
   ·next k l1 r4 hp =>
    simp only [Except.ok.injEq, Prod.mk.injEq] at h
    have h1:=Ydn hu
    have h2:=YbY hu
    rw [length_drop] at h1 h2
    have h3:=Ygs hp (by omega) (by simp)
    rw [<- h.1]; exact ⟨by dsimp only; rw [Zyi]; omega, kEs, by dsimp only; simp at h3; omega, h3.2⟩
 ·split at h
  ·cases h
  ·simp only [Except.ok.injEq, Prod.mk.injEq] at h
   have h1:=Yfx false _ (r.takeWhile (· != 60)) (Nat.le_refl _) 0 []
   have h2 : (r.takeWhile (· != 60)).length <= r.length:=(takeWhile_sublist _).length_le
   simp only [length_nil, Nat.zero_add] at h1
   rw [<- h.1]; exact ⟨kEs, by dsimp only; rw [Zyi]; omega, by simp, by simp⟩
theorem Yh5 {n : Nat} : ∀ {k : Nat} {r : List UInt8} {acc L : List TokQ}, r.length <= 65536 -> Ybh n k r acc = .ok L -> (∀ t ∈ acc, Small t) -> ∀ t ∈ L, Small t
 | 0, _, _, _, _, h, _ => by simp [Ybh] at h
 | k + 1, r, acc, L, hr, h, ha => by
  unfold Ybh at h
  split at h
  ·simp only [Except.ok.injEq] at h
   rw [<- h]; exact ha
  ·next hne =>
   split at h
   ·cases h
   ·next t r2 ht =>
    have h1:=tokR_len hne ht
    refine Yh5 (by omega) h fun x hx => ?_
    rcases mem_append.1 hx with hx | hx
    ·exact ha x hx
    ·have hs:=tokR_small hr ht
     rw [mem_singleton.1 hx]
     exact ⟨hs.name, hs.text, hs.len, hs.pairs⟩
theorem allR_small {b : List UInt8} {L : List TokQ} (h : allR b = .ok L) : ∀ t ∈ L, Small t:=by
 unfold allR at h
 split at h
 ·cases h
 ·next hb =>
  split at h
  ·cases h
  ·refine Yh5 ?_ h (by simp)
   have h1 : ∀ (p : Bool) (x : List UInt8), (lns p x).length <= x.length:=lns_len
   have h2:=h1 false (if bomL.isPrefixOf b = true then b.drop 3 else b)
   unfold Zyv
   split at h2
   ·rw [if_pos (by assumption)]; rw [length_drop] at h2; omega
   ·rw [if_neg (by assumption)]; omega
end Go.Vc
end
section
namespace Go.Vc
open Go Go.Lib
theorem mem_tw {p : UInt8 -> Bool} : ∀ {l : List UInt8} {b : UInt8}, b ∈ l.takeWhile p -> p b = true
 | [], _, h => by simp at h
 | c :: r, b, h => by
  rw [takeWhile_cons] at h
  split at h
  ·next hc =>
   rcases mem_cons.1 h with rfl | h
   ·exact hc
   ·exact mem_tw h
  ·cases h
theorem Yf4 (r : List UInt8) : ∃ s, r = s ++ ZzE r /\ ∀ b ∈ s, Yfq b = true :=
 ⟨r.takeWhile Yfq, (takeWhile_append_dropWhile).symm, fun b hb => mem_tw hb⟩
theorem ws_asc {b : UInt8} (h : Yfq b = true) : b.toNat < 128:=by rcases ws_vals h with rfl | rfl | rfl | rfl <;> decide
theorem skip_head {r : List UInt8} {b : UInt8} (h : (ZzE r).head? = some b) : Yfq b = false:=by
 induction r with
 | nil => simp [ZzE] at h
 | cons c r ih =>
  cases hc : Yfq c with
  | true => rw [Yf3 hc] at h; exact ih h
  | false =>
   rw [ZxP hc] at h
   have : c = b:=by simpa using h
   rw [<- this]; exact hc
theorem findL_some {w : List UInt8} (hw : w ≠ []) : ∀ {r : List UInt8} {n : Nat}, YcP w r = some n -> w.isPrefixOf (r.drop n) = true /\ ∀ i, i < n -> w.isPrefixOf (r.drop i) = false
 | [], n, h => by simp [YcP, hw] at h
 | b :: r, n, h => by
  unfold YcP at h
  split at h
  ·next hp =>
   have : n = 0:=by simpa using h.symm
   subst this
   exact ⟨hp, fun i hi => by omega⟩
  ·next hp =>
   obtain ⟨m, hm, rfl⟩:=Option.map_eq_some_iff.1 h
   obtain ⟨h1, h2⟩:=findL_some hw hm
   refine ⟨h1, fun i hi => ?_⟩
   cases i with
   | zero => exact Bool.eq_false_iff.2 hp
   | succ j => exact h2 j (by omega)
theorem upTo_eq {w r v r2 : List UInt8} (hw : w ≠ []) (h : Yea w r = .ok (v, r2)) : r = v ++ (w ++ r2) /\ ∀ i, i < v.length -> w.isPrefixOf (r.drop i) = false:=by
 unfold Yea at h
 split at h
 ·next n hn =>
  simp only [Except.ok.injEq, Prod.mk.injEq] at h
  obtain ⟨h1, h2⟩:=findL_some hw hn
  obtain ⟨t, ht⟩:=isPrefixOf_iff_prefix.1 h1
  have e2 : r2 = t:=by rw [<- h.2, <- drop_drop, <- ht, drop_left]
  refine ⟨?_, fun i hi => h2 i ?_⟩
  ·rw [<- h.1, e2, ht, take_append_drop]
  ·rw [<- h.1, length_take] at hi; omega
 ·cases h
theorem sign_eq {w r r2 : List UInt8} (h : YbV w r = .ok r2) : r = w ++ r2:=by
 unfold YbV at h
 split at h
 ·next hp =>
  simp only [Except.ok.injEq] at h
  obtain ⟨t, ht⟩:=isPrefixOf_iff_prefix.1 hp
  rw [<- h, <- ht, drop_left]
 ·cases h
theorem Yeh {w r : List UInt8} (h : w.isPrefixOf r = true) : r = w ++ r.drop w.length:=by
 obtain ⟨t, ht⟩:=isPrefixOf_iff_prefix.1 h
 rw [<- ht, drop_left]
theorem YgS {r n r2 : List UInt8} (h : YbB r = .ok (n, r2)) : r = n ++ r2 /\ n ≠ [] /\ (spl n).2.2 = true:=by
 unfold YbB at h
 split at h
 ·cases h
 ·next h0 =>
  split at h
  ·cases h
  ·next hs =>
   simp only [Except.ok.injEq, Prod.mk.injEq] at h
   refine ⟨by rw [<- h.1, <- h.2, take_append_drop], ?_, by rw [<- h.1]; simpa using hs⟩
   rw [<- h.1]
   intro e
   have h1:=congrArg length e
   have h2:=nmL_le _ true r (Nat.le_refl _)
   rw [length_take, length_nil] at h1
   omega
theorem qn_spl {q : List UInt8} (h : (spl q).2.2 = true) : QN q (spl q).1 (spl q).2.1:=by
  unfold spl at h ⊢
  cases hc : colon q with
  | none =>
    rw [hc] at h
    simp only at h ⊢
    split at h
    · next hn => rw [if_pos hn]; exact ⟨hn, .inl ⟨rfl, rfl⟩⟩
    · cases h
  | some i =>
    rw [hc] at h
    simp only at h ⊢
    split at h
    · next hn =>
      rw [if_pos hn]
      rw [Bool.and_eq_true] at hn
      obtain ⟨h1, _⟩:=Yda.1 hc
      obtain ⟨h2, h3⟩:=List.getElem?_eq_some_iff.1 h1
      refine ⟨hn.2, .inr ⟨hn.1, ?_⟩⟩
      have:=List.drop_eq_getElem_cons h2
      rw [h3] at this
      rw [<- this, List.take_append_drop]
    · cases h
theorem equals_eq {r r2 : List UInt8} (h : Yat r = .ok r2) : ∃ s, r = s ++ r2 /\ 1 <= s.length:=by
 unfold Yat at h
 split at h
 ·next hp =>
  simp only [Except.ok.injEq] at h
  obtain ⟨s1, e1, _⟩:=Yf4 r
  have e2:=Yeh hp
  obtain ⟨s2, e3, _⟩:=Yf4 ((ZzE r).drop 1)
  rw [h] at e3
  refine ⟨s1 ++ ([61] ++ s2), ?_, by simp only [length_append, length_cons, length_nil]; omega⟩
  conv => lhs; rw [e1, e2]
  rw [show [(61 : UInt8)].length = 1 from rfl, e3]
  simp
 ·cases h
theorem quoted_eq {r v r2 : List UInt8} (h : ZqR r = .ok (v, r2)) : ∃ q, r = q :: (v ++ q :: r2):=by
 unfold ZqR at h
 split at h
 ·cases h
 ·next q s =>
  split at h
  ·next hq =>
   simp only [Except.ok.injEq, Prod.mk.injEq] at h
   obtain ⟨a, b, e, hna⟩:=eq_append_cons_of_mem hq.2
   have ht : s.takeWhile (· != q) = a:=by rw [e]; exact tw_q hna
   rw [ht] at h
   refine ⟨q, ?_⟩
   rw [<- h.1, <- h.2, e]
   congr 2
   rw [<- drop_drop, drop_left]
   rfl
  ·cases h
def pairC (p : Pr) : Nat:=101 + p.1.size + p.2.size
theorem pair_eq {r r2 : List UInt8} {p : Pr} (h : YeL r = .ok (p, r2)) : ∃ s, r = s ++ r2 /\ Zxd (bl p.2) /\ p.1.size + p.2.size + 3 <= s.length:=by
 unfold YeL at h
 split at h
 ·cases h
 ·next n r1 hn =>
  split at h
  ·cases h
  ·next r3 he =>
   split at h
   ·cases h
   ·next v r4 hq =>
    split at h
    ·cases h
    ·next hv =>
     simp only [Except.ok.injEq, Prod.mk.injEq] at h
     have h0 : (ZyB true 0 v []).2.2 = 0:=by simpa using hv
     obtain ⟨e1, _, _⟩:=YgS hn
     obtain ⟨s, e2, hs⟩:=equals_eq he
     obtain ⟨q, e3⟩:=quoted_eq hq
     have hl:=Yfx true _ v (Nat.le_refl _) 0 []
     have hf:=Yhk true _ v (Nat.le_refl _) 0 [] Yc7 h0
     rw [<- h.1]
     refine ⟨n ++ (s ++ (q :: (v ++ [q]))), ?_, ?_, ?_⟩
     ·rw [e1, e2, e3, <- h.2]; simp
     ·show Zxd (bl (mkB _)); rw [ZzH]; exact hf
     ·show (mkB n).size + (mkB _).size + 3 <= _
      rw [Zyi, Zyi]
      simp only [length_append, length_cons, length_nil] at hl ⊢
      omega
theorem pairs_eq : ∀ {n : Nat} {r r2 : List UInt8} {acc L : List Pr} {k : Int}, ZxE n r acc = .ok (k, L, r2) -> (∀ p ∈ acc, Zxd (bl p.2)) ->
  (k = 2 \/ k = 4) /\ (∃ s, r = s ++ r2) /\ (∀ p ∈ L, Zxd (bl p.2)) /\ (L.map pairC).sum + 35 * r2.length + 35 <= (acc.map pairC).sum + 35 * r.length
 | 0, _, _, _, _, _, h, _ => by simp [ZxE] at h
 | n + 1, r, r2, acc, L, k, h, ha => by
  unfold ZxE at h
  obtain ⟨s0, e0, _⟩:=Yf4 r
  have l0:=Zqj r
  split at h
  ·next hp =>
   simp only [Except.ok.injEq, Prod.mk.injEq] at h
   have e1:=Yeh hp
   rw [show [(47 : UInt8), 62].length = 2 from rfl, h.2.2] at e1
   have l1:=congrArg length e1
   simp only [length_append, length_cons, length_nil] at l1
   refine ⟨.inr h.1.symm, ⟨s0 ++ [47, 62], by rw [e0, e1]; simp⟩, by rw [<- h.2.1]; exact ha, by rw [<- h.2.1]; omega⟩
  ·split at h
   ·next hp =>
    simp only [Except.ok.injEq, Prod.mk.injEq] at h
    have e1:=Yeh hp
    rw [show [(62 : UInt8)].length = 1 from rfl, h.2.2] at e1
    have l1:=congrArg length e1
    simp only [length_append, length_cons, length_nil] at l1
    refine ⟨.inl h.1.symm, ⟨s0 ++ [62], by rw [e0, e1]; simp⟩, by rw [<- h.2.1]; exact ha, by rw [<- h.2.1]; omega⟩
   ·split at h
    ·cases h
    ·next hne =>
     split at h
     ·cases h
     ·next p r4 hp =>
      split at h
      ·cases h
      ·obtain ⟨s1, e1, f1, c1⟩:=pair_eq hp
       obtain ⟨hk, ⟨s2, e2⟩, hf, hc⟩:=pairs_eq h (fun q hq => by
        rcases mem_append.1 hq with hq | hq
        ·exact ha q hq
        ·rw [mem_singleton.1 hq]; exact f1)
       have l1:=congrArg length e1
       rw [length_append] at l1
       refine ⟨hk, ⟨s0 ++ (s1 ++ s2), by rw [e0, e1, e2]; simp⟩, hf, ?_⟩
       rw [map_append, sum_append] at hc
       have e5 : ([p].map pairC).sum = 101 + p.1.size + p.2.size:=by simp [pairC]
       omega
structure TokG (t : TokQ) : Prop where
 cmt : t.kind = 7 -> Yb9 4 t.text = true /\ Zxd (bl t.text)
 ins : t.kind = 8 -> nm (bl t.name) = true /\ Ydq (bl t.name) = false /\ Yb9 5 t.text = true /\ Zxd (bl t.text)
 txt : t.kind = 5 \/ t.kind = 6 -> Zxd (bl t.text)
 val : t.kind = 2 \/ t.kind = 4 -> ∀ p ∈ t.pairs, Zxd (bl p.2)
def YdG (t : TokQ) : Nat:=if t.kind = 2 \/ t.kind = 4 then 102 + t.name.size + (t.pairs.map pairC).sum else 1 + t.name.size + t.text.size
theorem hasS_of {w : List UInt8} (hw : w ≠ []) : ∀ {s : List UInt8}, (∀ i, i < s.length -> w.isPrefixOf (s.drop i) = false) -> YeT w s = false
 | [], _ => by
  cases w with
  | nil => exact absurd rfl hw
  | cons b r => rfl
 | b :: s, h => by
  unfold YeT
  rw [Bool.or_eq_false_iff]
  exact ⟨h 0 (by simp), hasS_of hw fun i hi => h (i + 1) (by simpa using hi)⟩
theorem hasS_upTo {w v x : List UInt8} (hw : w ≠ []) (h : ∀ i, i < v.length -> w.isPrefixOf ((v ++ x).drop i) = false) : YeT w v = false:=by
 refine hasS_of hw fun i hi => ?_
 cases hp : w.isPrefixOf (v.drop i) with
 | false => rfl
 | true =>
  have h1:=h i hi
  rw [drop_append_of_le_length (by omega)] at h1
  obtain ⟨t, ht⟩:=isPrefixOf_iff_prefix.1 hp
  have : w.isPrefixOf (v.drop i ++ x) = true:=isPrefixOf_iff_prefix.2 ⟨t ++ x, by rw [<- ht]; simp⟩
  rw [this] at h1; cases h1
theorem no13_has {v : List UInt8} (h : (13 : UInt8) ∉ v) : YeT [13] v = false:=by
 refine hasS_of (by simp) fun i hi => ?_
 rw [drop_eq_getElem_cons hi]
 simp only [isPrefixOf, Bool.and_true, beq_eq_false_iff_ne]
 intro e
 exact h (e ▸ getElem_mem hi)
theorem textQ4_of {v x : List UInt8} (h : ∀ i, i < v.length -> [45, 45].isPrefixOf ((v ++ ([45, 45] ++ x)).drop i) = false) (h13 : (13 : UInt8) ∉ v) : Yb9 4 (mkB v) = true:=by
  have h1:=hasS_upTo (by simp) h
  have h2 : v.getLast? ≠ some 45:=by
    intro e
    rw [List.getLast?_eq_getElem?] at e
    have hl:=(List.getElem?_eq_some_iff.1 e).1
    have:=h (v.length - 1) hl
    have hp : [45, 45].isPrefixOf ((v ++ ([45, 45] ++ x)).drop (v.length - 1)) = true:=by
      rw [pre2_iff]
      simp only [List.getElem?_drop, Nat.add_zero]
      refine ⟨by rw [List.getElem?_append_left hl]; exact e, ?_⟩
      rw [show v.length - 1 + 1 = v.length by omega, List.getElem?_append_right (Nat.le_refl _)]
      simp
    rw [this] at hp; cases hp
  unfold Yb9
  rw [if_neg (by decide), if_pos rfl, ZzH, h1, no13_has h13, decide_eq_true h2]
  rfl
theorem textQ5_of {v x : List UInt8} (h : ∀ i, i < v.length -> [63, 62].isPrefixOf ((v ++ ([63, 62] ++ x)).drop i) = false) (h13 : (13 : UInt8) ∉ v) (hh : ∀ b, v.head? = some b -> Yfq b = false) : Yb9 5 (mkB v) = true:=by
 have h1:=hasS_upTo (by simp) h
 have key : ∀ b, Yfq b = true -> v.head? ≠ some b:=fun b hb e => by rw [hh b e] at hb; cases hb
 unfold Yb9
 rw [if_neg (by decide), if_neg (by decide), if_pos rfl, ZzH, h1, no13_has h13, decide_eq_true ⟨key 32 (by decide), key 9 (by decide), key 10 (by decide)⟩]
 rfl
theorem YgX {a v w x : List UInt8} {c d : UInt8} (hc : c.toNat < 128) (hd : d.toNat < 128) (h : Zxd (a ++ c :: (v ++ d :: x))) : Zxd v:=fine_head hd (fine_tail hc (fine_back hc h))
theorem declStep_suf {w r r2 : List UInt8} {o : Option (List UInt8)} (h : Yaj w r = .ok (o, r2)) : ∃ s, r = s ++ r2:=by
 unfold Yaj at h
 split at h
 ·split at h
  ·cases h
  ·simp only [Except.ok.injEq, Prod.mk.injEq] at h
   exact ⟨[], by rw [<- h.2]; rfl⟩
 ·next hn =>
  have hp : w.isPrefixOf (ZzE r) = true:=by
   cases hq : w.isPrefixOf (ZzE r) with
   | true => rfl
   | false => exact absurd (.inr hq) hn
  split at h
  ·cases h
  ·next r3 he =>
   split at h
   ·cases h
   ·next v r4 hq =>
    split at h
    ·cases h
    ·simp only [Except.ok.injEq, Prod.mk.injEq] at h
     obtain ⟨s1, e1, _⟩:=Yf4 r
     have e2:=Yeh hp
     obtain ⟨s2, e3, _⟩:=equals_eq he
     obtain ⟨q, e4⟩:=quoted_eq hq
     rw [h.2] at e4
     refine ⟨s1 ++ (w ++ (s2 ++ (q :: (v ++ [q])))), ?_⟩
     conv => lhs; rw [e1, e2, e3, e4]
     simp
theorem stepsD_suf : ∀ {ws : List (List UInt8)} {r r2 last l2 : List UInt8} {acc l : List Pr}, Ybt ws r acc last = .ok (l, l2, r2) -> ∃ s, r = s ++ r2
 | [], r, r2, last, l2, acc, l, h => by
  simp only [Ybt, Except.ok.injEq, Prod.mk.injEq] at h
  exact ⟨[], by rw [h.2.2]; rfl⟩
 | w :: ws, r, r2, last, l2, acc, l, h => by
  unfold Ybt at h
  split at h
  ·cases h
  ·next o r3 hd =>
   obtain ⟨s1, e1⟩:=stepsD_suf h
   obtain ⟨s2, e2⟩:=declStep_suf hd
   exact ⟨s2 ++ s1, by rw [e2, e1]; simp⟩
theorem declR_suf {r r2 : List UInt8} {l : List Pr} (h : Yge r = .ok (l, r2)) : ∃ s, r = s ++ r2:=by
 unfold Yge at h
 split at h
 ·cases h
 ·next l1 la r3 hs =>
  split at h
  ·cases h
  ·next r4 hg =>
   split at h
   ·cases h
   ·simp only [Except.ok.injEq, Prod.mk.injEq] at h
    obtain ⟨s1, e1⟩:=stepsD_suf hs
    obtain ⟨s2, e2, _⟩:=Yf4 r3
    have e3:=sign_eq hg
    rw [h.2] at e3
    refine ⟨s1 ++ (s2 ++ [63, 62]), ?_⟩
    conv => lhs; rw [e1, e2, e3]
    simp
theorem tok_good {first : Bool} {B pre r r2 : List UInt8} {t : TokQ} (hB : Zxd B) (h13 : (13 : UInt8) ∉ B) (he : B = pre ++ r) (hr : r ≠ []) (h : Yez first r = .ok (t, r2)) :
  TokG t /\ (∃ s, r = s ++ r2) /\ YdG t + 35 * r2.length <= 35 * r.length:=by
 have n13 : ∀ v : List UInt8, (∀ b ∈ v, b ∈ r) -> (13 : UInt8) ∉ v:=fun v hv hm => h13 (by rw [he]; exact mem_append.2 (.inr (hv 13 hm)))
 have hrl:=length_pos_iff.2 hr
 unfold Yez at h
 split at h
 · -- the declaration
  next hd =>
  split at h
  ·cases h
  ·next l1 r3 hdec =>
   simp only [Except.ok.injEq, Prod.mk.injEq] at h
   obtain ⟨s, hs⟩:=declR_suf hdec
   have e0:=Yeh hd.2.1
   rw [show [(60 : UInt8), 63, 120, 109, 108].length = 5 from rfl, hs] at e0
   have l0:=congrArg length e0
   simp only [length_append, length_cons, length_nil] at l0
   rw [<- h.1, <- h.2]
   refine ⟨⟨fun e => by simp at e, fun e => by simp at e, fun e => by simp at e, fun e => by simp at e⟩, ⟨[60, 63, 120, 109, 108] ++ s, by rw [e0]; simp⟩, ?_⟩
   unfold YdG
   rw [if_neg (by simp)]
   simp only [YcD]
   omega
 split at h
 · -- a comment
  next hp =>
  split at h
  ·cases h
  ·next t1 r3 hu =>
   split at h
   ·cases h
   ·next r4 hg =>
    simp only [Except.ok.injEq, Prod.mk.injEq] at h
    have e0:=Yeh hp
    rw [show [(60 : UInt8), 33, 45, 45].length = 4 from rfl] at e0
    obtain ⟨e1, hno⟩:=upTo_eq (by simp) hu
    have e2:=sign_eq hg
    rw [h.2] at e2
    rw [e1] at hno
    rw [e1, e2] at e0
    have l0:=congrArg length e0
    simp only [length_append, length_cons, length_nil] at l0
    have ht13 : (13 : UInt8) ∉ t1:=n13 t1 fun b hb => by rw [e0]; simp [hb]
    have hf : Zxd t1:=by
     rw [he, e0] at hB
     exact YgX (a:=pre ++ [60, 33, 45]) (c:=45) (d:=45) (w:=[]) (x:=[45] ++ ([62] ++ r2)) (by decide) (by decide) (by simpa using hB)
    rw [<- h.1]
    refine ⟨⟨fun _ => ⟨textQ4_of hno ht13, by simpa [ZzH] using hf⟩, fun e => by simp at e, fun e => by simp at e, fun e => by simp at e⟩, ⟨[60, 33, 45, 45] ++ (t1 ++ ([45, 45] ++ [62])), by rw [e0]; simp⟩, ?_⟩
    unfold YdG
    rw [if_neg (by simp)]
    simp only [YcD, Zyi]
    omega
 split at h
 · -- data
  next hp =>
  split at h
  ·cases h
  ·next t1 r3 hu =>
   simp only [Except.ok.injEq, Prod.mk.injEq] at h
   have e0:=Yeh hp
   rw [show [(60 : UInt8), 33, 91, 67, 68, 65, 84, 65, 91].length = 9 from rfl] at e0
   obtain ⟨e1, hno⟩:=upTo_eq (by simp) hu
   rw [h.2] at e1
   rw [e1] at e0
   have l0:=congrArg length e0
   simp only [length_append, length_cons, length_nil] at l0
   have hf : Zxd t1:=by
    rw [he, e0] at hB
    exact YgX (a:=pre ++ [60, 33, 91, 67, 68, 65, 84, 65]) (c:=91) (d:=93) (w:=[]) (x:=[93, 62] ++ r2) (by decide) (by decide) (by simpa using hB)
   rw [<- h.1]
   refine ⟨⟨fun e => by simp at e, fun e => by simp at e, fun _ => by simpa [ZzH] using hf, fun e => by simp at e⟩, ⟨[60, 33, 91, 67, 68, 65, 84, 65, 91] ++ (t1 ++ [93, 93, 62]), by rw [e0]; simp⟩, ?_⟩
   unfold YdG
   rw [if_neg (by simp)]
   simp only [YcD, Zyi]
   omega
 split at h
 ·cases h
 split at h
 ·cases h
 split at h
 · -- an instruction
  next hp =>
  split at h
  ·cases h
  ·next n t1 r3 hi =>
   simp only [Except.ok.injEq, Prod.mk.injEq] at h
   have e0:=Yeh hp
   rw [show [(60 : UInt8), 63].length = 2 from rfl] at e0
   rw [<- h.1]
   unfold YdW at hi
   split at hi
   ·cases hi
   ·next n1 r4 hn =>
    obtain ⟨e1, hne, _⟩:=YgS hn
    split at hi
    ·cases hi
    next hnm =>
    split at hi
    ·cases hi
    next hxm =>
    have hnm' : nm n1 = true:=by simpa using hnm
    have hxm' : Ydq n1 = false:=by simpa using hxm
    split at hi
    ·next hq =>
     simp only [Except.ok.injEq, Prod.mk.injEq] at hi
     obtain ⟨rfl, rfl, e3⟩:=hi
     have e2:=Yeh hq
     rw [show [(63 : UInt8), 62].length = 2 from rfl, e3, h.2] at e2
     rw [e1, e2] at e0
     have l0:=congrArg length e0
     simp only [length_append, length_cons, length_nil] at l0
     refine ⟨⟨fun e => by simp at e, fun _ => ⟨by simpa [ZzH] using hnm', by simpa [ZzH] using hxm', (by show Yb9 5 (mkB []) = true; decide), Yc7⟩, fun e => by simp at e, fun e => by simp at e⟩, ⟨[60, 63] ++ (n1 ++ [63, 62]), by rw [e0]; simp⟩, ?_⟩
     unfold YdG
     rw [if_neg (by simp)]
     simp only [Zyi, length_nil]
     omega
    ·split at hi
     ·cases hi
     next hsk =>
     split at hi
     ·cases hi
     next t2 r5 hu =>
     simp only [Except.ok.injEq, Prod.mk.injEq] at hi
     obtain ⟨rfl, rfl, e3⟩:=hi
     obtain ⟨s, es, hws⟩:=Yf4 r4
     obtain ⟨e2, hno⟩:=upTo_eq (by simp) hu
     rw [e3, h.2] at e2
     have hsne : s ≠ []:=by
      rintro rfl
      exact hsk (by rw [nil_append] at es; rw [<- es])
     have hhd : ∀ b, t2.head? = some b -> Yfq b = false:=fun b hb => skip_head (r:=r4) (b:=b) (by
      rw [e2]
      cases t2 with
      | nil => cases hb
      | cons c r' => simpa using hb)
     rw [e2] at hno
     rw [e1, es, e2] at e0
     have l0:=congrArg length e0
     simp only [length_append, length_cons, length_nil] at l0
     have ht13 : (13 : UInt8) ∉ t2:=n13 t2 fun b hb => by rw [e0]; simp [hb]
     have hf : Zxd t2:=by
      rw [he, e0] at hB
      obtain ⟨s', c, rfl⟩ : ∃ s' c, s = s' ++ [c]:=⟨s.dropLast, s.getLast hsne, (dropLast_concat_getLast hsne).symm⟩
      exact YgX (a:=pre ++ ([60, 63] ++ (n1 ++ s'))) (c:=c) (d:=63) (w:=[]) (x:=[62] ++ r2) (ws_asc (hws c (by simp))) (by decide) (by simpa using hB)
     refine ⟨⟨fun e => by simp at e, fun _ => ⟨by simpa [ZzH] using hnm', by simpa [ZzH] using hxm', textQ5_of hno ht13 hhd, by simpa [ZzH] using hf⟩, fun e => by simp at e, fun e => by simp at e⟩, ⟨[60, 63] ++ (n1 ++ (s ++ (t2 ++ [63, 62]))), by rw [e0]; simp⟩, ?_⟩
     unfold YdG
     rw [if_neg (by simp)]
     simp only [Zyi]
     omega
 split at h
 · -- a closing
  next hp =>
  split at h
  ·cases h
  ·next n r3 hc =>
   simp only [Except.ok.injEq, Prod.mk.injEq] at h
   have e0:=Yeh hp
   rw [show [(60 : UInt8), 47].length = 2 from rfl] at e0
   unfold Yak at hc
   split at hc
   ·cases hc
   ·next n1 r4 hn =>
    obtain ⟨e1, hne, _⟩:=YgS hn
    split at hc
    ·cases hc
    ·next r5 hg =>
     simp only [Except.ok.injEq, Prod.mk.injEq] at hc
     obtain ⟨s, es, _⟩:=Yf4 r4
     have e2:=sign_eq hg
     rw [hc.2, h.2] at e2
     rw [e1, es, e2] at e0
     have l0:=congrArg length e0
     simp only [length_append, length_cons, length_nil] at l0
     rw [<- h.1, <- hc.1]
     refine ⟨⟨fun e => by simp at e, fun e => by simp at e, fun e => by simp at e, fun e => by simp at e⟩, ⟨[60, 47] ++ (n1 ++ (s ++ [62])), by rw [e0]; simp⟩, ?_⟩
     unfold YdG
     rw [if_neg (by simp)]
     simp only [YcD, Zyi]
     omega
 split at h
 · -- an opening
  next hp =>
  split at h
  ·cases h
  ·next n r3 hn =>
   split at h
   ·cases h
   ·next k l1 r4 hps =>
    simp only [Except.ok.injEq, Prod.mk.injEq] at h
    have e0:=Yeh hp
    rw [show [(60 : UInt8)].length = 1 from rfl] at e0
    obtain ⟨e1, hne, _⟩:=YgS hn
    obtain ⟨hk, ⟨s, es⟩, hf, hc⟩:=pairs_eq hps (by simp)
    have hnl:=length_pos_iff.2 hne
    rw [e1] at e0
    have l0:=congrArg length e0
    simp only [length_append, length_cons, length_nil] at l0
    rw [<- h.1, <- h.2]
    refine ⟨⟨fun e => by have e : k = 7:=e; omega, fun e => by have e : k = 8:=e; omega, fun e => by have e : k = 5 \/ k = 6:=e; omega, fun _ => hf⟩, ⟨[60] ++ (n ++ s), by rw [e0, es]; simp⟩, ?_⟩
    unfold YdG
    rw [if_pos hk]
    simp only [Zyi]
    simp only [map_nil, sum_nil] at hc
    omega
 · -- a text
  next hn60 =>
  split at h
  ·cases h
  ·next hrd =>
   simp only [Except.ok.injEq, Prod.mk.injEq] at h
   have h0 : (ZyB false 0 (r.takeWhile (· != 60)) []).2.2 = 0:=by simpa using hrd
   have hf:=Yhk false _ (r.takeWhile (· != 60)) (Nat.le_refl _) 0 [] Yc7 h0
   have hl:=Yfx false _ (r.takeWhile (· != 60)) (Nat.le_refl _) 0 []
   have hpos : 1 <= (r.takeWhile (· != 60)).length:=by
    cases r with
    | nil => exact absurd rfl hr
    | cons b r' =>
     have hb : b ≠ 60:=fun e => hn60 (by rw [e]; simp [isPrefixOf])
     rw [takeWhile_cons, if_pos (by simpa using hb)]
     simp
   have e0 : r = r.takeWhile (· != 60) ++ r2:=by
    rw [<- h.2]
    conv => lhs; rw [<- take_append_drop (r.takeWhile (· != 60)).length r]
    congr 1
    exact prefix_iff_eq_take.1 (takeWhile_prefix _) |>.symm
   have l0:=congrArg length e0
   rw [length_append] at l0
   rw [<- h.1]
   refine ⟨⟨fun e => by simp at e, fun e => by simp at e, fun _ => by simpa [ZzH] using hf, fun e => by simp at e⟩, ⟨_, e0⟩, ?_⟩
   unfold YdG
   rw [if_neg (by simp)]
   simp only [YcD, Zyi, length_nil] at hl ⊢
   omega
end Go.Vc
end
section
namespace Go.Proofs.YtglnmjflpkeclaaGreatDoor
open Go Go.Vc
theorem c_parse_Parse {a : Option Addr} {b c : Nat} {w : World} {J : Int -> ByteArray -> ByteArray -> Option Addr -> Nat -> Nat -> Option Addr -> Nat -> Nat -> ByteArray -> Int -> Int -> World -> Prop} (h :
 newB w (.cells (Zy2 Tryz.prog Zz5) Zz5) fun d e =>
 Zz0 Tryz.prog Yfe #[.slice a b c] e [.one .slice, .one (.int .i64), .one (.int .i64)] fun f g i j k l =>
 Zz1 (k != (0 : Int)) (
 stN l ⟨d, 0, none⟩ ⟨[.int .i64 0, .string ByteArray.empty, .string ByteArray.empty, .slice none 0 0, .slice none 0 0, .string ByteArray.empty]⟩ 6 fun m =>
 ldI .i64 m ⟨d, 0, none⟩ fun n =>
 ldStr m ⟨d, 1, none⟩ fun o =>
 ldStr m ⟨d, 2, none⟩ fun p =>
 ldS m ⟨d, 3, none⟩ fun q r s =>
 ldS m ⟨d, 4, none⟩ fun t u v =>
 ldStr m ⟨d, 5, none⟩ fun x =>
 J n o p q r s t u v x j k m) (
 Zz0 Tryz.prog Yem #[] l [.agg [.slice]] fun y z aa ab =>
 Array.size (⟨[.int .i64 1, .string ByteArray.empty, .string ByteArray.empty, .slice none 0 0, .slice none 0 0, .string ByteArray.empty]⟩ : Array Value) = 6 /\
 Array.size (⟨[.slice y z aa]⟩ : Array Value) = 1 /\
 Array.size (⟨[.int .i64 1, .string ByteArray.empty, .string ByteArray.empty, .slice none 0 0, .slice none 0 0, .string ByteArray.empty, .string ByteArray.empty, .slice y z aa]⟩ : Array Value) = 8 /\
 newB ab (.cells ⟨[.int .i64 1, .string ByteArray.empty, .string ByteArray.empty, .slice none 0 0, .slice none 0 0, .string ByteArray.empty, .string ByteArray.empty, .slice y z aa]⟩ Zyh) fun ac ad =>
 newB ad (.cells ⟨[.slice (some ⟨ac, 0, none⟩) 1 1, .int .i64 0, .bool false]⟩ YcU) fun ae af =>
 ∃ da : Int -> World -> Nat -> Prop, (∃ db, da (0 : Int) af db) /\ ∀ dc dd db, da dc dd db -> (
 Zz1 (decide (dc < (g : Int))) (
 ZzS f g dc fun ag =>
 ldI .i64 dd ((ag.add (dc.toNat * 6))) fun ai =>
 ldI .i64 dd (((ag.add (dc.toNat * 6)).add 1)) fun aj =>
 ldStr dd (((ag.add (dc.toNat * 6)).add 2)) fun ak =>
 ldS dd (((ag.add (dc.toNat * 6)).add 3)) fun al am an =>
 ldStr dd (((ag.add (dc.toNat * 6)).add 4)) fun ao =>
 ldI .i64 dd (((ag.add (dc.toNat * 6)).add 5)) fun ap =>
 newB dd (.cells (Zy2 Tryz.prog Zze) Zze) fun aq ar =>
 stN ar ⟨aq, 0, none⟩ ⟨[.int .i64 ai, .int .i64 aj, .string ak, .slice al am an, .string ao, .int .i64 ap]⟩ 6 fun au =>
 ldI .i64 au ⟨aq, 0, none⟩ fun av =>
 ldI .i64 au ⟨aq, 1, none⟩ fun ax =>
 ldStr au ⟨aq, 2, none⟩ fun ay =>
 ldS au ⟨aq, 3, none⟩ fun az a0 a1 =>
 ldStr au ⟨aq, 4, none⟩ fun a2 =>
 ldI .i64 au ⟨aq, 5, none⟩ fun a3 =>
 Zz0 Tryz.prog Ya0 #[.pointer (some ⟨ae, 0, none⟩), .agg ⟨[.int .i64 av, .int .i64 ax, .string ay, .slice az a0 a1, .string a2, .int .i64 a3]⟩] au [.one (.int .i64)] fun a4 a5 =>
 Zz1 (a4 != (0 : Int)) (
 ldI .i64 a5.drew ⟨aq, 1, none⟩ fun a6 =>
 stN a5.drew ⟨d, 0, none⟩ ⟨[.int .i64 0, .string ByteArray.empty, .string ByteArray.empty, .slice none 0 0, .slice none 0 0, .string ByteArray.empty]⟩ 6 fun a7 =>
 a7.cell? ⟨aq, 1, none⟩ = some (.int .i64 a6) /\
 ldI .i64 a7 ⟨d, 0, none⟩ fun a8 =>
 ldStr a7 ⟨d, 1, none⟩ fun a9 =>
 ldStr a7 ⟨d, 2, none⟩ fun ba =>
 ldS a7 ⟨d, 3, none⟩ fun bb bc bd =>
 ldS a7 ⟨d, 4, none⟩ fun be bf bg =>
 ldStr a7 ⟨d, 5, none⟩ fun bi =>
 J a8 a9 ba bb bc bd be bf bg bi a6 a4 a7) (
 ∃ de, de < db /\ da (w64 (dc + (1 : Int))) a5 de)) (
 ldS dd ⟨ae, 0, none⟩ fun bj bk bl =>
 Zz1 (decide ((bk : Int) > (1 : Int))) (
 Zz0 Tryz.prog YaH #[.slice a b c] dd [.one .slice] fun bm bn bo bp =>
 stN bp ⟨d, 0, none⟩ ⟨[.int .i64 0, .string ByteArray.empty, .string ByteArray.empty, .slice none 0 0, .slice none 0 0, .string ByteArray.empty]⟩ 6 fun bq =>
 ldI .i64 bq ⟨d, 0, none⟩ fun br =>
 ldStr bq ⟨d, 1, none⟩ fun bs =>
 ldStr bq ⟨d, 2, none⟩ fun bt =>
 ldS bq ⟨d, 3, none⟩ fun bu bv bx =>
 ldS bq ⟨d, 4, none⟩ fun bz b0 b1 =>
 ldStr bq ⟨d, 5, none⟩ fun b2 =>
 J br bs bt bu bv bx bz b0 b1 b2 (bn : Int) (26 : Int) bq) (
 ldB dd ⟨ae, 2, none⟩ fun b3 =>
 Zz1 (!b3) (
 Zz0 Tryz.prog YaH #[.slice a b c] dd [.one .slice] fun b4 b5 b6 b7 =>
 stN b7 ⟨d, 0, none⟩ ⟨[.int .i64 0, .string ByteArray.empty, .string ByteArray.empty, .slice none 0 0, .slice none 0 0, .string ByteArray.empty]⟩ 6 fun b8 =>
 ldI .i64 b8 ⟨d, 0, none⟩ fun b9 =>
 ldStr b8 ⟨d, 1, none⟩ fun ca =>
 ldStr b8 ⟨d, 2, none⟩ fun cb =>
 ldS b8 ⟨d, 3, none⟩ fun cc cd ce =>
 ldS b8 ⟨d, 4, none⟩ fun cf cg ci =>
 ldStr b8 ⟨d, 5, none⟩ fun cj =>
 J b9 ca cb cc cd ce cf cg ci cj (b5 : Int) (30 : Int) b8) (
 ldS dd ⟨ae, 0, none⟩ fun ck cl cm =>
 ZzS ck cl (0 : Int) fun cn =>
 ldI .i64 dd ((cn.add ((0 : Int).toNat * 8))) fun co =>
 ldStr dd (((cn.add ((0 : Int).toNat * 8)).add 1)) fun cp =>
 ldStr dd (((cn.add ((0 : Int).toNat * 8)).add 2)) fun cq =>
 ldS dd (((cn.add ((0 : Int).toNat * 8)).add 3)) fun cr cs ct =>
 ldS dd (((cn.add ((0 : Int).toNat * 8)).add 4)) fun cu cv cx =>
 ldStr dd (((cn.add ((0 : Int).toNat * 8)).add 5)) fun cy =>
 stN dd ⟨d, 0, none⟩ ⟨[.int .i64 co, .string cp, .string cq, .slice cr cs ct, .slice cu cv cx, .string cy]⟩ 6 fun cz =>
 ldI .i64 cz ⟨d, 0, none⟩ fun c0 =>
 ldStr cz ⟨d, 1, none⟩ fun c1 =>
 ldStr cz ⟨d, 2, none⟩ fun c2 =>
 ldS cz ⟨d, 3, none⟩ fun c3 c4 c5 =>
 ldS cz ⟨d, 4, none⟩ fun c6 c7 c8 =>
 ldStr cz ⟨d, 5, none⟩ fun c9 =>
 J c0 c1 c2 c3 c4 c5 c6 c7 c8 c9 (0 : Int) (0 : Int) cz)))))) : Zz0 Tryz.prog ZxB #[.slice a b c] w [.agg [.int .i64, .str, .str, .slice, .slice, .str], .one (.int .i64), .one (.int .i64)] J:=Zz3 Tryz.func6 (.s .o (.s .o (.s (.s .o (.c (.s .o .o) .o)) (.s .o (.s (.s .o (.b (.l [(31, .int .i64)] (.s .o (.s (.c .o .o) (.s (.b (.s .o (.s .o (.s .o (.c (.s (.d (.take 0 (.take 1 (.take 2 (.take 3 (.eff 4 (.take 5 (.take 6 .done)) .none)))))) .o) .o))))) .o)))))) (.s (.b (.s .o (.c (.s .o .o) (.s .o (.c (.s .o .o) .o))))) (.s .o .o))))))) (Eq.mpr (by kernel_rfl) h)
theorem Ye5 {a : Addr} {b c : Int} {d : ByteArray} {e : Option Addr} {f g : Nat} {i : ByteArray} {j : Int} {w : World} {J : Int -> World -> Prop} (h :
 newB w (.cells ⟨[.int .i64 b, .int .i64 c, .string d, .slice e f g, .string i, .int .i64 j]⟩ Zze) fun k l =>
 Zzf (fun (bj : Int) (bk : World) =>
 Zzf (fun (bl : Bool) (bm : World) =>
 Zz1 bl (
 J (5 : Int) bm) (
 J bj bm)) fun m =>
 Zz1 (bj == (0 : Int)) (
 ldI .i64 bk ((a.add 1)) fun n =>
 m (decide (n > (2000 : Int))) bk) (
 m false bk)) fun o =>
 ldI .i64 l ⟨k, 0, none⟩ fun p =>
 Zz1 (p == (7 : Int)) (
 ldStr l ⟨k, 4, none⟩ fun q =>
 Zz0 Tryz.prog ZyA #[.pointer (some a), .agg ⟨[.int .i64 4, .string ByteArray.empty, .string ByteArray.empty, .slice none 0 0, .slice none 0 0, .string q]⟩] l [.one (.int .i64)] fun r s =>
 o r s) (
 Zz1 (p == (8 : Int)) (
 ldStr l ⟨k, 2, none⟩ fun t =>
 ldStr l ⟨k, 4, none⟩ fun u =>
 Array.size (⟨[.string ByteArray.empty, .string t]⟩ : Array Value) = 2 /\
 Zz0 Tryz.prog ZyA #[.pointer (some a), .agg ⟨[.int .i64 5, .string ByteArray.empty, .string t, .slice none 0 0, .slice none 0 0, .string u]⟩] l [.one (.int .i64)] fun v x =>
 o v x) (
 Zzf (fun (bn : Bool) (bo : World) =>
 Zz1 bn (
 ldI .i64 bo ⟨k, 0, none⟩ fun y =>
 ldI .i64 bo ⟨k, 1, none⟩ fun z =>
 ldStr bo ⟨k, 2, none⟩ fun aa =>
 ldS bo ⟨k, 3, none⟩ fun ab ac ad =>
 ldStr bo ⟨k, 4, none⟩ fun ae =>
 ldI .i64 bo ⟨k, 5, none⟩ fun af =>
 Zz0 Tryz.prog ZqZ #[.pointer (some a), .agg ⟨[.int .i64 y, .int .i64 z, .string aa, .slice ab ac ad, .string ae, .int .i64 af]⟩] bo [.one (.int .i64)] fun ag ai =>
 o ag ai) (
 Zz1 (p == (2 : Int)) (
 ldI .i64 bo ⟨k, 0, none⟩ fun aj =>
 ldI .i64 bo ⟨k, 1, none⟩ fun ak =>
 ldStr bo ⟨k, 2, none⟩ fun al =>
 ldS bo ⟨k, 3, none⟩ fun am an ao =>
 ldStr bo ⟨k, 4, none⟩ fun ap =>
 ldI .i64 bo ⟨k, 5, none⟩ fun aq =>
 Zz0 Tryz.prog Zxl #[.pointer (some a), .agg ⟨[.int .i64 aj, .int .i64 ak, .string al, .slice am an ao, .string ap, .int .i64 aq]⟩] bo [.one (.int .i64)] fun ar au =>
 o ar au) (
 Zz1 (p == (4 : Int)) (
 ldI .i64 bo ⟨k, 0, none⟩ fun av =>
 ldI .i64 bo ⟨k, 1, none⟩ fun ax =>
 ldStr bo ⟨k, 2, none⟩ fun ay =>
 ldS bo ⟨k, 3, none⟩ fun az a0 a1 =>
 ldStr bo ⟨k, 4, none⟩ fun a2 =>
 ldI .i64 bo ⟨k, 5, none⟩ fun a3 =>
 Zz0 Tryz.prog Zxl #[.pointer (some a), .agg ⟨[.int .i64 av, .int .i64 ax, .string ay, .slice az a0 a1, .string a2, .int .i64 a3]⟩] bo [.one (.int .i64)] fun a4 a5 =>
 Zz1 (a4 == (0 : Int)) (
 Zz0 Tryz.prog ZyH #[.pointer (some a)] a5 [] fun a6 =>
 o a4 a6) (
 o a4 a5)) (
 Zz1 (p == (3 : Int)) (
 Zzf (fun (bp : Bool) (bq : World) =>
 Zz1 bp (
 J (26 : Int) bq) (
 Zz0 Tryz.prog ZyH #[.pointer (some a)] bq [] fun a7 =>
 o (0 : Int) a7)) fun a8 =>
 ldS bo.drew a fun a9 ba bb =>
 Zz1 ((ba : Int) == (1 : Int)) (
 a8 true bo.drew) (
 ldStr bo.drew ⟨k, 2, none⟩ fun bc =>
 Zz0 Tryz.prog ZzU #[.pointer (some a)] bo.drew [.one .ptr] fun bd be =>
 be.cell? ⟨k, 2, none⟩ = some (.string bc) /\
 ZzC bd fun bf =>
 ldStr be ((bf.add 6)) fun bg =>
 a8 (!(bg.toList == bc.toList)) be)) (
 o (0 : Int) bo))))) fun bi =>
 Zz1 (p == (5 : Int)) (
 bi (p == (5 : Int)) l) (
 bi (p == (6 : Int)) l)))) : Zz0 Tryz.prog Ya0 #[.pointer (some a), .agg ⟨[.int .i64 b, .int .i64 c, .string d, .slice e f g, .string i, .int .i64 j]⟩] w [.one (.int .i64)] J:=Zz3 Tryz.func15 (.s .o (.s .o (.j [(5, .int .i64)] (.s .o (.b (.s .o (.c .o (.s .o (.c .o (.j [(25, .bool)] (.s .o (.c .o .o)) (.c .o (.s .o (.c .o (.s .o (.c (.s .o (.s .o (.c .o .o))) (.s .o (.c (.s (.j [(62, .bool)] (.d (.take 0 (.take 1 (.take 2 (.take 3 (.take 4 (.take 5 (.take 6 (.take 7 (.take 12 (.take 13 (.eff 8 (.take 9 (.take 10 (.take 11 (.take 14 (.take 15 .done))))) .none)))))))))))) (.c (.s .o .o) .o)) .o) .o)))))))))))))) (.s (.j [(73, .bool)] .o (.c (.s .o .o) .o)) (.s .o .o))))) (Eq.mpr (by kernel_rfl) h)
theorem Yev {a : Addr} {w : World} {J : Option Addr -> World -> Prop} (h :
 ldS w.drew a fun b c d =>
 ldS w.drew a fun e f g =>
 ZzS b c (w64 ((f : Int) - (1 : Int))) fun i =>
 J (some ((i.add ((w64 ((f : Int) - (1 : Int))).toNat * 8)))) w.drew) : Zz0 Tryz.prog ZzU #[.pointer (some a)] w [.one .ptr] J:=Zz3 Tryz.func34 (.s .o (.s (.d (.take 0 (.take 1 (.take 2 (.take 3 (.take 4 (.take 5 (.take 6 (.take 7 (.take 8 (.take 9 (.take 10 (.take 11 .done))))))))))))) .o)) (Eq.mpr (by kernel_rfl) h)
theorem Yew {a : Addr} {b : Int} {c d : ByteArray} {e : Option Addr} {f g : Nat} {i : Option Addr} {j k : Nat} {l : ByteArray} {w : World} {J : Int -> World -> Prop} (h :
 newB w (.cells ⟨[.int .i64 b, .string c, .string d, .slice e f g, .slice i j k, .string l]⟩ Zz5) fun m n =>
 ldStr n ⟨m, 5, none⟩ fun o =>
 Zz1 (decide ((o.size : Int) > (8192 : Int))) (
 J (5 : Int) n) (
 Zz0 Tryz.prog ZzU #[.pointer (some a)] n [.one .ptr] fun p q =>
 Zzf (fun (az : World) =>
 ldI .i64 az ((a.add 1)) fun r =>
 stV az ((a.add 1)) (.int .i64 (w64 (r + (1 : Int)))) fun s =>
 J (0 : Int) s) fun t =>
 ZzC p fun u =>
 ldS q.drew ((u.add 4)) fun v x y =>
 ldI .i64 q.drew ⟨m, 0, none⟩ fun z =>
 ldStr q.drew ⟨m, 1, none⟩ fun aa =>
 ldStr q.drew ⟨m, 2, none⟩ fun ab =>
 ldS q.drew ⟨m, 3, none⟩ fun ac ad ae =>
 ldS q.drew ⟨m, 4, none⟩ fun af ag ai =>
 ldStr q.drew ⟨m, 5, none⟩ fun aj =>
 Array.size (⟨[.int .i64 0, .string ⟨#[]⟩, .string ⟨#[]⟩, .slice none 0 0, .slice none 0 0, .string ⟨#[]⟩]⟩ : Array Value) = 6 /\
 newB q.drew (.cells ⟨[.int .i64 0, .string ⟨#[]⟩, .string ⟨#[]⟩, .slice none 0 0, .slice none 0 0, .string ⟨#[]⟩]⟩ Zz5) fun ak al =>
 ZzV al ⟨m, 0, none⟩ [.int .i64 z, .string aa, .string ab, .slice ac ad ae, .slice af ag ai, .string aj] /\
 al.cell? ((u.add 4)) = some (.slice v x y) /\
 YeJ Tryz.prog Zyo Zyo (.slice v x y) (.slice (some ⟨ak, 0, none⟩) 1 1) al fun am an ao ap =>
 ZzS am an (x : Int) fun aq =>
 ZzC p fun ar =>
 (
 stN ap ((aq.add ((x : Int).toNat * 6))) ⟨[.int .i64 z, .string aa, .string ab, .slice ac ad ae, .slice af ag ai, .string aj]⟩ 6 fun au =>
 stV au ((ar.add 4)) (.slice am an ao) fun av =>
 t av) /\ (
 stV ap ((ar.add 4)) (.slice am an ao) fun ax =>
 stN ax ((aq.add ((x : Int).toNat * 6))) ⟨[.int .i64 z, .string aa, .string ab, .slice ac ad ae, .slice af ag ai, .string aj]⟩ 6 fun ay =>
 t ay))) : Zz0 Tryz.prog ZyA #[.pointer (some a), .agg ⟨[.int .i64 b, .string c, .string d, .slice e f g, .slice i j k, .string l]⟩] w [.one (.int .i64)] J:=Zz3 Tryz.func30 (.s .o (.s (.s .o (.c (.s .o .o) .o)) (.s .o (.j [] (.d (.take 0 (.take 1 (.take 2 (.take 3 (.take 4 (.take 5 (.take 6 (.eff 7 (.eff 8 (.take 9 (.take 11 (.take 12 (.take 13 (.eff 10 (.eff 14 .done .none) (.eff 14 (.eff 10 .done .none) .none)))))) .none) .none))))))))) (.s .o (.s .o .o)))))) (Eq.mpr (by kernel_rfl) h)
theorem Ye4 {a : Addr} {b c : Int} {d : ByteArray} {e : Option Addr} {f g : Nat} {i : ByteArray} {j : Int} {w : World} {J : Int -> World -> Prop} (h :
 newB w (.cells ⟨[.int .i64 b, .int .i64 c, .string d, .slice e f g, .string i, .int .i64 j]⟩ Zze) fun k l =>
 ldS l a fun m n o =>
 Zz1 ((n : Int) == (1 : Int)) (
 Zzf (fun (a6 : Bool) (a7 : World) =>
 Zz1 a6 (
 J (30 : Int) a7) (
 J (0 : Int) a7)) fun p =>
 ldI .i64 l ⟨k, 0, none⟩ fun q =>
 Zz1 (q == (6 : Int)) (
 p true l) (
 ldI .i64 l ⟨k, 5, none⟩ fun r =>
 Zz1 (decide (r > (0 : Int))) (
 p true l) (
 ldStr l ⟨k, 4, none⟩ fun s =>
 Zz0 Tryz.prog YaF #[.string s, .string ⟨#[32, 9, 10, 13]⟩] l [.one .str] fun t u =>
 p (!(t.toList == (⟨#[]⟩ : ByteArray).toList)) u))) (
 Zz0 Tryz.prog ZzU #[.pointer (some a)] l [.one .ptr] fun v x =>
 ZzC v fun y =>
 ldS x ((y.add 4)) fun z aa ab =>
 ldStr x ⟨k, 4, none⟩ fun ac =>
 Zz1 (ac.toList == (⟨#[]⟩ : ByteArray).toList) (
 J (0 : Int) x) (
 Zzf (fun (a8 : Bool) (a9 : World) =>
 Zz1 a8 (
 ldStr a9 ⟨k, 4, none⟩ fun ad =>
 Zz0 Tryz.prog ZyA #[.pointer (some a), .agg ⟨[.int .i64 3, .string ByteArray.empty, .string ByteArray.empty, .slice none 0 0, .slice none 0 0, .string ad]⟩] a9 [.one (.int .i64)] fun ae af =>
 J ae af) (
 ZzC v fun ag =>
 ldS a9.drew ((ag.add 4)) fun ai aj ak =>
 ZzS ai aj (w64 ((aa : Int) - (1 : Int))) fun al =>
 ldStr a9.drew (((al.add ((w64 ((aa : Int) - (1 : Int))).toNat * 6)).add 5)) fun am =>
 ldStr a9.drew ⟨k, 4, none⟩ fun an =>
 ((am.size + an.size : Nat) : Int) <= 9223372036854775807 /\
 ZzS ai aj (w64 ((aa : Int) - (1 : Int))) fun ao =>
 stV a9.drew (((ao.add ((w64 ((aa : Int) - (1 : Int))).toNat * 6)).add 5)) (.string (am ++ an)) fun ap =>
 ZzC v fun aq =>
 ldS ap ((aq.add 4)) fun ar au av =>
 ZzS ar au (w64 ((aa : Int) - (1 : Int))) fun ax =>
 ldStr ap (((ax.add ((w64 ((aa : Int) - (1 : Int))).toNat * 6)).add 5)) fun ay =>
 Zz1 (decide ((ay.size : Int) > (8192 : Int))) (
 J (5 : Int) ap) (
 J (0 : Int) ap))) fun az =>
 Zz1 (decide ((w64 ((aa : Int) - (1 : Int))) < (0 : Int))) (
 az true x) (
 ZzC v fun a0 =>
 ldS x ((a0.add 4)) fun a1 a2 a3 =>
 ZzS a1 a2 (w64 ((aa : Int) - (1 : Int))) fun a4 =>
 ldI .i64 x ((a4.add ((w64 ((aa : Int) - (1 : Int))).toNat * 6))) fun a5 =>
 az (a5 != (3 : Int)) x)))) : Zz0 Tryz.prog ZqZ #[.pointer (some a), .agg ⟨[.int .i64 b, .int .i64 c, .string d, .slice e f g, .string i, .int .i64 j]⟩] w [.one (.int .i64)] J:=Zz3 Tryz.func31 (.s .o (.s (.s .o (.c (.s (.j [(26, .bool)] .o (.c (.s .o .o) .o)) (.s .o .o)) .o)) (.s .o (.s .o (.s (.b (.s .o (.c (.s .o .o) (.j [(40, .bool)] .o (.c (.s .o .o) .o))))) (.s (.d (.take 0 (.take 1 (.take 2 (.take 3 (.take 4 (.take 5 (.take 6 (.take 7 (.take 8 (.take 9 (.take 10 (.take 11 (.take 12 (.take 13 (.eff 14 .done .none)))))))))))))))) (.s (.s .o (.c (.s .o .o) .o)) (.s .o .o)))))))) (Eq.mpr (by kernel_rfl) h)
theorem YdK {a : Addr} {b c : Int} {d : ByteArray} {e : Option Addr} {f g : Nat} {i : ByteArray} {j : Int} {w : World} {J : Int -> World -> Prop} (h :
 newB w (.cells ⟨[.int .i64 b, .int .i64 c, .string d, .slice e f g, .string i, .int .i64 j]⟩ Zze) fun k l =>
 Zzf (fun (cy : Bool) (cz : World) =>
 Zz1 cy (
 J (30 : Int) cz) (
 ldS cz a fun m n o =>
 Zz1 (decide ((w64 ((n : Int) - (1 : Int))) > (32 : Int))) (
 J (31 : Int) cz) (
 Zzf (fun (c0 : Option Addr) (c1 : Int) (c2 : World) =>
 Zz1 (c1 != (0 : Int)) (
 J c1 c2) (
 ZzC c0 fun p =>
 ldS c2 p fun q r s =>
 ldStr c2 ⟨k, 2, none⟩ fun t =>
 Zz0 Tryz.prog Zx8 #[.agg ⟨[.slice q r s]⟩, .string t] c2 [.agg [.str, .str], .one (.int .i64)] fun u v x y =>
 newB y (.cells (Zy2 Tryz.prog Zyr) Zyr) fun z aa =>
 stN aa ⟨z, 0, none⟩ ⟨[.string u, .string v]⟩ 2 fun ab =>
 Zz1 (x != (0 : Int)) (
 J x ab) (
 ZzC c0 fun ac =>
 ldS ab ac fun ad ae af =>
 ldS ab ⟨k, 3, none⟩ fun ag ai aj =>
 Zz0 Tryz.prog ZqW #[.agg ⟨[.slice ad ae af]⟩, .slice ag ai aj] ab [.one .slice, .one (.int .i64)] fun ak al am an ao =>
 Zz1 (an != (0 : Int)) (
 J an ao) (
 ∃ c5 : Int -> World -> Nat -> Prop, (∃ c6, c5 (0 : Int) ao c6) /\ ∀ c7 c8 c6, c5 c7 c8 c6 -> (
 Zz1 (decide (c7 < (al : Int))) (
 ZzS ak al c7 fun ap =>
 ldStr c8 ((ap.add (c7.toNat * 3))) fun aq =>
 ldStr c8 (((ap.add (c7.toNat * 3)).add 1)) fun ar =>
 ldStr c8 (((ap.add (c7.toNat * 3)).add 2)) fun au =>
 newB c8 (.cells (Zy2 Tryz.prog ZzO) ZzO) fun av ax =>
 stN ax ⟨av, 0, none⟩ ⟨[.string aq, .string ar, .string au]⟩ 3 fun ay =>
 Zzf (fun (c3 : Bool) (c4 : World) =>
 Zz1 c3 (
 J (5 : Int) c4) (
 ∃ c9, c9 < c6 /\ c5 (w64 (c7 + (1 : Int))) c4 c9)) fun az =>
 Zz1 (decide ((al : Int) > (64 : Int))) (
 az true ay) (
 ldStr ay ⟨av, 2, none⟩ fun a0 =>
 az (decide ((a0.size : Int) > (8192 : Int))) ay)) (
 ldS c8.drew a fun a1 a2 a3 =>
 ldStr c8.drew ⟨z, 0, none⟩ fun a4 =>
 ldStr c8.drew ⟨z, 1, none⟩ fun a5 =>
 Array.size (⟨[.string a4, .string a5]⟩ : Array Value) = 2 /\
 ldStr c8.drew ⟨k, 2, none⟩ fun a6 =>
 ZzC c0 fun a7 =>
 ldS c8.drew a7 fun a8 a9 ba =>
 Array.size (⟨[.int .i64 2, .string a4, .string a5, .slice ak al am, .slice none 0 0, .string ByteArray.empty]⟩ : Array Value) = 6 /\
 Array.size (⟨[.slice a8 a9 ba]⟩ : Array Value) = 1 /\
 Array.size (⟨[.int .i64 2, .string a4, .string a5, .slice ak al am, .slice none 0 0, .string ByteArray.empty, .string a6, .slice a8 a9 ba]⟩ : Array Value) = 8 /\
 newB c8.drew (.cells ⟨[.int .i64 2, .string a4, .string a5, .slice ak al am, .slice none 0 0, .string ByteArray.empty, .string a6, .slice a8 a9 ba]⟩ Zyh) fun bb bc =>
 bc.cell? a = some (.slice a1 a2 a3) /\
 YeJ Tryz.prog Yce Yce (.slice a1 a2 a3) (.slice (some ⟨bb, 0, none⟩) 1 1) bc fun bd be bf bg =>
 stV bg a (.slice bd be bf) fun bi =>
 ldI .i64 bi ((a.add 1)) fun bj =>
 stV bi ((a.add 1)) (.int .i64 (w64 (bj + (1 : Int)))) fun bk =>
 J (0 : Int) bk)))))) fun bl =>
 ldS cz.drew ⟨k, 3, none⟩ fun bm bn bo =>
 (
 Zz0 Tryz.prog ZzU #[.pointer (some a)] cz.drew [.one .ptr] fun bp bq =>
 bq.cell? ⟨k, 3, none⟩ = some (.slice bm bn bo) /\
 ZzC bp fun br =>
 ldS bq ((br.add 7)) fun bs bt bu =>
 (
 Zz0 Tryz.prog Zyz #[.agg ⟨[.slice bs bt bu]⟩, .slice bm bn bo] bq [.agg [.slice], .one (.int .i64)] fun bv bx bz b0 b1 =>
 newB b1 (.cells (Zy2 Tryz.prog Zzh) Zzh) fun b2 b3 =>
 ZzV b3 ((br.add 7)) [.slice bs bt bu] /\
 b3.cell? ⟨k, 3, none⟩ = some (.slice bm bn bo) /\
 stN b3 ⟨b2, 0, none⟩ ⟨[.slice bv bx bz]⟩ 1 fun b4 =>
 bl (some ⟨b2, 0, none⟩) b0 b4) /\ (
 newB bq (.cells (Zy2 Tryz.prog Zzh) Zzh) fun b5 b6 =>
 ZzV b6 ((br.add 7)) [.slice bs bt bu] /\
 b6.cell? ⟨k, 3, none⟩ = some (.slice bm bn bo) /\
 Zz0 Tryz.prog Zyz #[.agg ⟨[.slice bs bt bu]⟩, .slice bm bn bo] b6 [.agg [.slice], .one (.int .i64)] fun b7 b8 b9 ca cb =>
 stN cb ⟨b5, 0, none⟩ ⟨[.slice b7 b8 b9]⟩ 1 fun cc =>
 bl (some ⟨b5, 0, none⟩) ca cc)) /\ (
 newB cz.drew (.cells (Zy2 Tryz.prog Zzh) Zzh) fun cd ce =>
 ce.cell? ⟨k, 3, none⟩ = some (.slice bm bn bo) /\
 Zz0 Tryz.prog ZzU #[.pointer (some a)] ce [.one .ptr] fun cf cg =>
 cg.cell? ⟨k, 3, none⟩ = some (.slice bm bn bo) /\
 ZzC cf fun ci =>
 ldS cg ((ci.add 7)) fun cj ck cl =>
 Zz0 Tryz.prog Zyz #[.agg ⟨[.slice cj ck cl]⟩, .slice bm bn bo] cg [.agg [.slice], .one (.int .i64)] fun cm cn co cp cq =>
 stN cq ⟨cd, 0, none⟩ ⟨[.slice cm cn co]⟩ 1 fun cr =>
 bl (some ⟨cd, 0, none⟩) cp cr)))) fun cs =>
 ldS l a fun ct cu cv =>
 Zz1 ((cu : Int) == (1 : Int)) (
 ldB l ((a.add 2)) fun cx =>
 cs cx l) (
 cs false l)) : Zz0 Tryz.prog Zxl #[.pointer (some a), .agg ⟨[.int .i64 b, .int .i64 c, .string d, .slice e f g, .string i, .int .i64 j]⟩] w [.one (.int .i64)] J:=Zz3 Tryz.func32 (.s .o (.s (.b (.j [(11, .bool)] .o (.c (.s .o .o) (.s .o (.c (.s .o .o) .o))))) (.j [(5, .ptr), (6, .int .i64)] (.d (.take 0 (.take 5 (.take 6 (.eff 1 (.take 2 (.take 3 (.take 4 (.eff 7 (.take 8 (.take 9 (.take 10 (.eff 11 (.eff 12 (.take 13 .done) .none) .none)))) (.eff 11 (.eff 7 (.take 8 (.take 9 (.take 10 (.eff 12 (.take 13 .done) .none)))) .none) .none))))) (.eff 11 (.eff 1 (.take 2 (.take 3 (.take 4 (.eff 7 (.take 8 (.take 9 (.take 10 (.eff 12 (.take 13 .done) .none)))) .none)))) .none) .none)))))) (.s (.s .o (.c (.s .o .o) .o)) (.s .o (.s (.s .o (.c (.s .o .o) .o)) (.s .o (.s (.s .o (.c (.s .o .o) .o)) (.s (.s .o (.b (.l [(68, .int .i64)] (.s .o (.s (.c .o .o) (.s (.b (.s .o (.j [(80, .bool)] .o (.c (.s .o .o) .o)))) .o)))))) (.s (.d (.take 0 (.take 1 (.take 2 (.take 3 (.take 4 (.take 5 (.take 6 (.take 7 (.take 8 (.take 9 (.take 10 (.take 11 (.eff 12 (.eff 13 (.take 14 (.take 15 (.eff 16 .done .none))) .none) .none)))))))))))))) (.s .o (.s .o .o)))))))))))) (Eq.mpr (by kernel_rfl) h)
theorem YdJ {a : Addr} {w : World} {J : World -> Prop} (h :
 Zz0 Tryz.prog ZzU #[.pointer (some a)] w [.one .ptr] fun b c =>
 ZzC b fun d =>
 ldI .i64 c d fun e =>
 ldStr c ((d.add 1)) fun f =>
 ldStr c ((d.add 2)) fun g =>
 ldS c ((d.add 3)) fun i j k =>
 ldS c ((d.add 4)) fun l m n =>
 ldStr c ((d.add 5)) fun o =>
 newB c (.cells (Zy2 Tryz.prog Zz5) Zz5) fun p q =>
 stN q ⟨p, 0, none⟩ ⟨[.int .i64 e, .string f, .string g, .slice i j k, .slice l m n, .string o]⟩ 6 fun r =>
 ldS r.drew a fun s t u =>
 ldS r.drew a fun v x y =>
 slS s t u 8 none (some (w64 ((x : Int) - (1 : Int)))) none fun z aa ab =>
 stV r.drew a (.slice z aa ab) fun ac =>
 Zz0 Tryz.prog ZzU #[.pointer (some a)] ac [.one .ptr] fun ad ae =>
 Zzf (fun (bg : World) =>
 ldB bg ((a.add 2)) fun af =>
 Zz1 af (
 stV bg ((a.add 2)) (.bool true) fun ag =>
 J ag) (
 ldS bg a fun ai aj ak =>
 stV bg ((a.add 2)) (.bool ((aj : Int) == (1 : Int))) fun al =>
 J al)) fun am =>
 ZzC ad fun an =>
 ldS ae.drew ((an.add 4)) fun ao ap aq =>
 ldI .i64 ae.drew ⟨p, 0, none⟩ fun ar =>
 ldStr ae.drew ⟨p, 1, none⟩ fun au =>
 ldStr ae.drew ⟨p, 2, none⟩ fun av =>
 ldS ae.drew ⟨p, 3, none⟩ fun ax ay az =>
 ldS ae.drew ⟨p, 4, none⟩ fun a0 a1 a2 =>
 ldStr ae.drew ⟨p, 5, none⟩ fun a3 =>
 Array.size (⟨[.int .i64 0, .string ⟨#[]⟩, .string ⟨#[]⟩, .slice none 0 0, .slice none 0 0, .string ⟨#[]⟩]⟩ : Array Value) = 6 /\
 newB ae.drew (.cells ⟨[.int .i64 0, .string ⟨#[]⟩, .string ⟨#[]⟩, .slice none 0 0, .slice none 0 0, .string ⟨#[]⟩]⟩ Zz5) fun a4 a5 =>
 ZzV a5 ⟨p, 0, none⟩ [.int .i64 ar, .string au, .string av, .slice ax ay az, .slice a0 a1 a2, .string a3] /\
 a5.cell? ((an.add 4)) = some (.slice ao ap aq) /\
 YeJ Tryz.prog Zyo Zyo (.slice ao ap aq) (.slice (some ⟨a4, 0, none⟩) 1 1) a5 fun a6 a7 a8 a9 =>
 ZzS a6 a7 (ap : Int) fun ba =>
 ZzC ad fun bb =>
 (
 stN a9 ((ba.add ((ap : Int).toNat * 6))) ⟨[.int .i64 ar, .string au, .string av, .slice ax ay az, .slice a0 a1 a2, .string a3]⟩ 6 fun bc =>
 stV bc ((bb.add 4)) (.slice a6 a7 a8) fun bd =>
 am bd) /\ (
 stV a9 ((bb.add 4)) (.slice a6 a7 a8) fun be =>
 stN be ((ba.add ((ap : Int).toNat * 6))) ⟨[.int .i64 ar, .string au, .string av, .slice ax ay az, .slice a0 a1 a2, .string a3]⟩ 6 fun bf =>
 am bf)) : Zz0 Tryz.prog ZyH #[.pointer (some a)] w [] J:=Zz3 Tryz.func33 (.s .o (.s (.d (.take 0 (.take 1 (.take 2 (.take 3 (.take 4 (.take 5 (.take 6 (.take 7 (.take 8 (.take 9 (.take 10 (.take 11 (.take 12 (.take 13 (.eff 14 .done .none)))))))))))))))) (.s .o (.j [] (.d (.take 0 (.take 1 (.take 2 (.take 3 (.take 4 (.take 5 (.take 6 (.eff 7 (.eff 8 (.take 9 (.take 11 (.take 12 (.take 13 (.eff 10 (.eff 14 .done .none) (.eff 14 (.eff 10 .done .none) .none)))))) .none) .none))))))))) .o)))) (Eq.mpr (by kernel_rfl) h)
end Go.Proofs.YtglnmjflpkeclaaGreatDoor
end
section
namespace Go.Proofs.YtglnmjflpkeclaaGreatDoor
open Go Go.Vc
theorem c_scan_Plain {a : Option Addr} {b c : Nat} {w : World} {J : Option Addr -> Nat -> Nat -> World -> Prop} (h :
 newB w (.cells ⟨[.int .u8 239, .int .u8 187, .int .u8 191]⟩ Zzs) fun d e =>
 Zz0 Tryz.prog Yas #[.slice a b c, .slice (some ⟨d, 0, none⟩) 3 3] e [.one .slice] fun f g i j =>
 Zz0 Tryz.prog YdA #[.slice f g i] j [.one .slice] fun k l m n =>
 J k l m n) : Zz0 Tryz.prog YaH #[.slice a b c] w [.one .slice] J:=Zz3 Tryz.func16 (.s .o (.s .o .o)) (Eq.mpr (by kernel_rfl) h)
theorem c_scan_All {a : Option Addr} {b c : Nat} {w : World} {J : Option Addr -> Nat -> Nat -> Int -> Int -> World -> Prop} (h :
 Zz1 (decide ((b : Int) > (65536 : Int))) (
 J none 0 0 (0 : Int) (6 : Int) w) (
 Zz0 Tryz.prog YaH #[.slice a b c] w [.one .slice] fun d e f g =>
 newB g (.cells ⟨[.slice d e f, .int .i64 0]⟩ Zqm) fun i j =>
 ldS j ⟨i, 0, none⟩ fun k l m =>
 Zz0 Tryz.prog YbL #[.slice k l m] j [.one (.int .i64), .one (.int .i64)] fun n o p =>
 Zz1 (o != (0 : Int)) (
 J none 0 0 n o p) (
 ∃ ax : Option Addr -> Nat -> Nat -> World -> Nat -> Prop, (∃ ay, ax none 0 0 p ay) /\ ∀ (aq : Option Addr) (ar : Nat) (au : Nat) (av : World) (ay : Nat), ax aq ar au av ay -> (
 ldI .i64 av.drew ⟨i, 1, none⟩ fun q =>
 ldS av.drew ⟨i, 0, none⟩ fun r s t =>
 Zz1 (q == (s : Int)) (
 J aq ar au (0 : Int) (0 : Int) av.drew) (
 ldI .i64 av.drew ⟨i, 1, none⟩ fun u =>
 newB av.drew (.cells (Zy2 Tryz.prog Zze) Zze) fun v x =>
 stN x ⟨v, 0, none⟩ ⟨[.int .i64 0, .int .i64 u, .string ByteArray.empty, .slice none 0 0, .string ByteArray.empty, .int .i64 0]⟩ 6 fun y =>
 Zz0 Tryz.prog Zqw #[.pointer (some ⟨i, 0, none⟩), .pointer (some ⟨v, 0, none⟩)] y [.one (.int .i64)] fun z aa =>
 Zz1 (z != (0 : Int)) (
 J none 0 0 u z aa) (
 ldI .i64 aa ⟨v, 0, none⟩ fun ab =>
 ldI .i64 aa ⟨v, 1, none⟩ fun ac =>
 ldStr aa ⟨v, 2, none⟩ fun ad =>
 ldS aa ⟨v, 3, none⟩ fun ae af ag =>
 ldStr aa ⟨v, 4, none⟩ fun ai =>
 ldI .i64 aa ⟨v, 5, none⟩ fun aj =>
 Array.size (⟨[.int .i64 ab, .int .i64 ac, .string ad, .slice ae af ag, .string ai, .int .i64 aj]⟩ : Array Value) = 6 /\
 newB aa (.cells ⟨[.int .i64 ab, .int .i64 ac, .string ad, .slice ae af ag, .string ai, .int .i64 aj]⟩ Zze) fun ak al =>
 YeJ Tryz.prog Ycd Ycd (.slice aq ar au) (.slice (some ⟨ak, 0, none⟩) 1 1) al fun am an ao ap =>
 ∃ az, az < ay /\ ax am an ao ap az)))))) : Zz0 Tryz.prog Yfe #[.slice a b c] w [.one .slice, .one (.int .i64), .one (.int .i64)] J:=Zz3 Tryz.func13 (.s .o (.k 0 (.s (.s .o (.c (.s .o .o) .o)) (.s .o (.s (.s .o (.s .o (.c (.s .o .o) .o))) (.s .o (.s .o (.h [(8, .slice)] (.s (.s (.d (.take 0 (.take 1 (.take 2 (.take 3 (.take 4 (.take 5 (.take 6 (.take 7 (.take 8 (.take 9 .done))))))))))) (.c (.s .o .o) .o)) (.s .o (.s .o (.s .o (.s (.s .o (.c (.s .o .o) .o)) (.s .o .o)))))))))))))) (Eq.mpr (by kernel_rfl) h)
theorem YcR {a b : Addr} {w : World} {J : Int -> World -> Prop} (h :
 Zzf (fun (ar : Bool) (au : World) =>
 Zz1 ar (
 Zz0 Tryz.prog ZqY #[.pointer (some a), .pointer (some b)] au [.one (.int .i64)] fun c d =>
 J c d) (
 Zz0 Tryz.prog Zzk #[.pointer (some a), .string ⟨#[60, 33, 45, 45]⟩] au [.one .bool] fun e f =>
 Zz1 e (
 stV f b (.int .i64 7) fun g =>
 Zz0 Tryz.prog ZyU #[.pointer (some a), .pointer (some b), .int .i64 4, .string ⟨#[45, 45]⟩] g [.one (.int .i64)] fun i j =>
 Zz1 (i != (0 : Int)) (
 J i j) (
 Zz0 Tryz.prog ZzJ #[.pointer (some a), .string ⟨#[62]⟩] j [.one (.int .i64)] fun k l =>
 J k l)) (
 Zz0 Tryz.prog Zzk #[.pointer (some a), .string ⟨#[60, 33, 91, 67, 68, 65, 84, 65, 91]⟩] f [.one .bool] fun m n =>
 Zz1 m (
 stV n b (.int .i64 6) fun o =>
 Zz0 Tryz.prog ZyU #[.pointer (some a), .pointer (some b), .int .i64 9, .string ⟨#[93, 93, 62]⟩] o [.one (.int .i64)] fun p q =>
 J p q) (
 Zz0 Tryz.prog Zzk #[.pointer (some a), .string ⟨#[60, 33, 68, 79, 67, 84, 89, 80, 69]⟩] n [.one .bool] fun r s =>
 Zz1 r (
 J (25 : Int) s) (
 Zz0 Tryz.prog Zzk #[.pointer (some a), .string ⟨#[60, 33]⟩] s [.one .bool] fun t u =>
 Zz1 t (
 J (23 : Int) u) (
 Zz0 Tryz.prog Zzk #[.pointer (some a), .string ⟨#[60, 63]⟩] u [.one .bool] fun v x =>
 Zz1 v (
 Zz0 Tryz.prog Zqx #[.pointer (some a), .pointer (some b)] x [.one (.int .i64)] fun y z =>
 J y z) (
 Zz0 Tryz.prog Zzk #[.pointer (some a), .string ⟨#[60, 47]⟩] x [.one .bool] fun aa ab =>
 Zz1 aa (
 Zz0 Tryz.prog Zq9 #[.pointer (some a), .pointer (some b)] ab [.one (.int .i64)] fun ac ad =>
 J ac ad) (
 Zz0 Tryz.prog Zzk #[.pointer (some a), .string ⟨#[60]⟩] ab [.one .bool] fun ae af =>
 Zz1 ae (
 Zz0 Tryz.prog Yaq #[.pointer (some a), .pointer (some b)] af [.one (.int .i64)] fun ag ai =>
 J ag ai) (
 Zz0 Tryz.prog ZqX #[.pointer (some a), .pointer (some b)] af [.one (.int .i64)] fun aj ak =>
 J aj ak))))))))) fun al =>
 ldI .i64 w ((a.add 1)) fun am =>
 Zz1 (am == (0 : Int)) (
 Zz0 Tryz.prog Zzk #[.pointer (some a), .string ⟨#[60, 63, 120, 109, 108]⟩] w [.one .bool] fun an ao =>
 Zz1 an (
 Zz0 Tryz.prog Zzv #[.pointer (some a), .int .i64 5] ao [.one (.int .i64)] fun ap aq =>
 al (decide (ap > (5 : Int))) aq) (
 al false ao)) (
 al false w)) : Zz0 Tryz.prog Zqw #[.pointer (some a), .pointer (some b)] w [.one (.int .i64)] J:=Zz3 Tryz.func29 (.s .o (.s (.b (.j [(6, .bool)] .o (.c (.s .o .o) (.s .o (.c (.s .o (.s (.s .o (.s .o (.c (.s .o .o) .o))) (.s .o .o))) (.s .o (.c (.s .o (.s .o .o)) (.s .o (.c (.s .o .o) (.s .o (.c (.s .o .o) (.s .o (.c (.s .o .o) (.s .o (.c (.s .o .o) (.s .o (.c (.s .o .o) .o))))))))))))))))) (.s .o .o))) (Eq.mpr (by kernel_rfl) h)
theorem Ye3 {a : Addr} {b : ByteArray} {w : World} {J : Bool -> World -> Prop} (h :
 ldS w.drew a fun c d e =>
 ldI .i64 w.drew ((a.add 1)) fun f =>
 slS c d e 1 (some f) none none fun g i j =>
 cvJ Tryz.prog Zz8 Zzj (.string b) w.drew fun k l m n =>
 n.cell? ((a.add 1)) = some (.int .i64 f) /\
 n.cell? a = some (.slice c d e) /\
 Zz0 Tryz.prog ZyM #[.slice g i j, .slice k l m] n [.one .bool] fun o p =>
 J o p) : Zz0 Tryz.prog Zzk #[.pointer (some a), .string b] w [.one .bool] J:=Zz3 Tryz.func54 (.s .o (.s (.d (.take 0 (.take 1 (.take 2 (.take 3 (.take 4 (.take 5 (.take 6 (.take 7 (.take 8 (.take 9 (.eff 10 (.eff 11 (.take 12 .done) .none) .none)))))))))))) .o)) (Eq.mpr (by kernel_rfl) h)
theorem Ye1 {a : Addr} {b : ByteArray} {w : World} {J : Int -> World -> Prop} (h :
 Zz0 Tryz.prog Zzk #[.pointer (some a), .string b] w [.one .bool] fun c d =>
 Zz1 (!c) (
 J (23 : Int) d) (
 ldI .i64 d ((a.add 1)) fun e =>
 stV d ((a.add 1)) (.int .i64 (w64 (e + (b.size : Int)))) fun f =>
 J (0 : Int) f)) : Zz0 Tryz.prog ZzJ #[.pointer (some a), .string b] w [.one (.int .i64)] J:=Zz3 Tryz.func58 (.s .o (.s (.s .o (.c (.s .o .o) .o)) (.s .o (.s .o .o)))) (Eq.mpr (by kernel_rfl) h)
theorem Ydf {a : Addr} {b : Int} {w : World} {J : Int -> World -> Prop} (h :
 ∃ q : Int -> World -> Nat -> Prop, (∃ r, q b w r) /\ ∀ b s r, q b s r -> (
 Zzf (fun (o : Bool) (p : World) =>
 Zz1 o (
 ∃ t, t < r /\ q (w64 (b + (1 : Int))) p t) (
 J b p)) fun c =>
 ldS s a fun d e f =>
 Zz1 (decide (b < (e : Int))) (
 ldS s a fun g i j =>
 ZzS g i b fun k =>
 ldI .u8 s ((k.add (b.toNat * 1))) fun l =>
 Zz0 Tryz.prog ZxL #[.string ⟨#[32, 9, 10, 13]⟩, .int .u8 l] s [.one (.int .i64)] fun m n =>
 c (decide (m >= (0 : Int))) n) (
 c false s))) : Zz0 Tryz.prog Zzv #[.pointer (some a), .int .i64 b] w [.one (.int .i64)] J:=Zz3 Tryz.func55 (.s .o (.s (.b (.l [(1, .int .i64)] (.s (.j [(22, .bool)] .o (.c .o .o)) (.b .o)))) (.s .o .o))) (Eq.mpr (by kernel_rfl) h)
theorem Ydd {a b : Addr} {c : Int} {d : ByteArray} {w : World} {J : Int -> World -> Prop} (h :
 ldS w.drew a fun e f g =>
 ldI .i64 w.drew ((a.add 1)) fun i =>
 slS e f g 1 (some (w64 (i + c))) none none fun j k l =>
 cvJ Tryz.prog Zz8 Zzj (.string d) w.drew fun m n o p =>
 Zz0 Tryz.prog YcN #[.slice j k l, .slice m n o] p [.one (.int .i64)] fun q r =>
 Zz1 (decide (q < (0 : Int))) (
 J (23 : Int) r) (
 slS j k l 1 none (some q) none fun s t u =>
 bytesOf r s t fun v =>
 stV r ((b.add 4)) (.string ⟨v.toArray⟩) fun x =>
 ldI .i64 x ((a.add 1)) fun y =>
 stV x ((a.add 1)) (.int .i64 (w64 (y + (w64 ((w64 (c + q)) + (d.size : Int)))))) fun z =>
 J (0 : Int) z)) : Zz0 Tryz.prog ZyU #[.pointer (some a), .pointer (some b), .int .i64 c, .string d] w [.one (.int .i64)] J:=Zz3 Tryz.func57 (.s .o (.s (.d (.take 0 (.take 1 (.take 2 (.take 3 (.take 4 (.take 5 (.take 6 (.take 7 (.take 8 (.take 9 (.take 10 (.take 11 .done))))))))))))) (.s .o (.s (.s .o (.c (.s .o .o) .o)) (.s .o (.s .o (.s .o .o))))))) (Eq.mpr (by kernel_rfl) h)
theorem Ye2 {a : Addr} {w : World} {J : ByteArray -> Int -> World -> Prop} (h :
 ldI .i64 w ((a.add 1)) fun b =>
 Zzf (fun (al : Int) (am : World) =>
 ldS am.drew a fun c d e =>
 ldI .i64 am.drew ((a.add 1)) fun f =>
 slS c d e 1 (some f) (some al) none fun g i j =>
 bytesOf am.drew g i fun k =>
 Zz1 ((⟨k.toArray⟩ : ByteArray).toList == (⟨#[]⟩ : ByteArray).toList) (
 J ⟨#[]⟩ (23 : Int) am.drew) (
 Zz0 Tryz.prog ZqN #[.string ⟨k.toArray⟩] am.drew [.one .str, .one .str, .one .bool] fun l m n o =>
 Zz1 (!n) (
 J ⟨#[]⟩ (24 : Int) o) (
 stV o ((a.add 1)) (.int .i64 al) fun p =>
 J ⟨k.toArray⟩ (0 : Int) p))) fun q =>
 ∃ ap : Int -> World -> Nat -> Prop, (∃ aq, ap b w aq) /\ ∀ ar au aq, ap ar au aq -> (
 ldS au a fun r s t =>
 Zz1 (decide (ar < (s : Int))) (
 ldS au a fun u v x =>
 slS u v x 1 (some ar) none none fun y z aa =>
 Zz0 Tryz.prog Zyu #[.slice y z aa] au [.one (.int .i32), .one (.int .i64)] fun ab ac ad =>
 Zzf (fun (an : Bool) (ao : World) =>
 Zz1 an (
 q ar ao) (
 ∃ av, av < aq /\ ap (w64 (ar + ac)) ao av)) fun ae =>
 Zz1 (ab != (58 : Int)) (
 Zz0 Tryz.prog Ya9 #[.int .i32 ab] ad [.one .bool] fun af ag =>
 Zz1 (!af) (
 ae true ag) (
 ldI .i64 ag ((a.add 1)) fun ai =>
 Zz1 (ar == ai) (
 Zz0 Tryz.prog Zqz #[.int .i32 ab] ag [.one .bool] fun aj ak =>
 ae (!aj) ak) (
 ae false ag))) (
 ae false ad)) (
 q ar au))) : Zz0 Tryz.prog Zyq #[.pointer (some a)] w [.one .str, .one (.int .i64)] J:=Zz3 Tryz.func102 (.s .o (.s .o (.j [(4, .int .i64)] (.b (.l [(4, .int .i64)] (.s (.s .o (.c .o .o)) (.b (.s .o (.s (.j [(51, .bool)] .o (.c .o .o)) .o)))))) (.s (.d (.take 0 (.take 1 (.take 2 (.take 3 (.take 4 (.take 5 (.take 6 (.take 7 (.take 8 (.take 9 (.take 10 (.take 11 .done))))))))))))) (.s (.s .o (.c (.s .o .o) .o)) (.s (.s .o (.s .o (.c (.s .o .o) .o))) (.s .o (.s .o .o)))))))) (Eq.mpr (by kernel_rfl) h)
theorem Ydh {a : Addr} {w : World} {J : Int -> World -> Prop} (h :
 ldI .i64 w ((a.add 1)) fun b =>
 Zz0 Tryz.prog Zzv #[.pointer (some a), .int .i64 b] w [.one (.int .i64)] fun c d =>
 stV d ((a.add 1)) (.int .i64 c) fun e =>
 Zz0 Tryz.prog ZzJ #[.pointer (some a), .string ⟨#[61]⟩] e [.one (.int .i64)] fun f g =>
 ldI .i64 g ((a.add 1)) fun i =>
 Zz0 Tryz.prog Zzv #[.pointer (some a), .int .i64 i] g [.one (.int .i64)] fun j k =>
 stV k ((a.add 1)) (.int .i64 j) fun l =>
 J f l) : Zz0 Tryz.prog Zxa #[.pointer (some a)] w [.one (.int .i64)] J:=Zz3 Tryz.func98 (.s .o (.s .o (.s .o (.s .o (.s .o .o))))) (Eq.mpr (by kernel_rfl) h)
theorem Ydg {a : Addr} {w : World} {J : Option Addr -> Nat -> Nat -> Int -> World -> Prop} (h :
 Zzf (fun (ac : Bool) (ad : World) =>
 Zz1 ac (
 J none 0 0 (23 : Int) ad) (
 ldS ad.drew a fun b c d =>
 ldI .i64 ad.drew ((a.add 1)) fun e =>
 slS b c d 1 (some (w64 (e + (1 : Int)))) none none fun f g i =>
 ldS ad.drew.drew a fun j k l =>
 ldI .i64 ad.drew.drew ((a.add 1)) fun m =>
 ZzS j k m fun n =>
 ldI .u8 ad.drew.drew ((n.add (m.toNat * 1))) fun o =>
 Zz0 Tryz.prog Zxo #[.slice f g i, .int .u8 o] ad.drew.drew [.one (.int .i64)] fun p q =>
 Zz1 (decide (p < (0 : Int))) (
 J none 0 0 (23 : Int) q) (
 ldI .i64 q ((a.add 1)) fun r =>
 stV q ((a.add 1)) (.int .i64 (w64 (r + (w64 (p + (2 : Int)))))) fun s =>
 slS f g i 1 none (some p) none fun t u v =>
 J t u v (0 : Int) s))) fun x =>
 Zz0 Tryz.prog Zzk #[.pointer (some a), .string ⟨#[39]⟩] w [.one .bool] fun y z =>
 Zz1 (!y) (
 Zz0 Tryz.prog Zzk #[.pointer (some a), .string ⟨#[34]⟩] z [.one .bool] fun aa ab =>
 x (!aa) ab) (
 x false z)) : Zz0 Tryz.prog Zx9 #[.pointer (some a)] w [.one .slice, .one (.int .i64)] J:=Zz3 Tryz.func99 (.s .o (.s (.j [(13, .bool)] .o (.c (.s .o .o) .o)) (.s (.d (.take 0 (.take 1 (.take 2 (.take 3 (.take 4 (.take 5 (.take 6 (.take 7 (.take 8 (.take 9 (.take 10 .done)))))))))))) (.s (.d (.take 0 (.take 1 (.take 2 (.take 3 (.take 4 (.take 5 (.take 6 (.take 7 (.take 8 (.take 9 (.take 10 (.eff 11 (.take 12 .done) .none))))))))))))) (.s (.s .o (.c (.s .o .o) .o)) (.s .o (.s .o .o))))))) (Eq.mpr (by kernel_rfl) h)
theorem Ydi {a b : Addr} {w : World} {J : Int -> World -> Prop} (h :
 stV w b (.int .i64 1) fun c =>
 stV c ((a.add 1)) (.int .i64 5) fun d =>
 newB d (.cells ⟨[.string ⟨#[118, 101, 114, 115, 105, 111, 110]⟩, .string ⟨#[101, 110, 99, 111, 100, 105, 110, 103]⟩, .string ⟨#[115, 116, 97, 110, 100, 97, 108, 111, 110, 101]⟩]⟩ Zz8) fun e f =>
 ∃ bp : ByteArray -> Int -> World -> Nat -> Prop, (∃ bq, bp ⟨#[]⟩ (0 : Int) f bq) /\ ∀ (bd : ByteArray) (be : Int) (bf : World) (bq : Nat), bp bd be bf bq -> (
 Zz1 (decide (be < (3 : Int))) (
 Zzf (fun (bg : ByteArray) (bi : World) =>
 ∃ br, br < bq /\ bp bg (w64 (be + (1 : Int))) bi br) fun g =>
 ZzS (some ⟨e, 0, none⟩) 3 be fun i =>
 ldStr bf ((i.add (be.toNat * 1))) fun j =>
 ldI .i64 bf ((a.add 1)) fun k =>
 Zz0 Tryz.prog Zzv #[.pointer (some a), .int .i64 k] bf [.one (.int .i64)] fun l m =>
 Zzf (fun (bj : Bool) (bk : World) =>
 Zz1 bj (
 Zz1 (j.toList == (⟨#[118, 101, 114, 115, 105, 111, 110]⟩ : ByteArray).toList) (
 J (23 : Int) bk) (
 g bd bk)) (
 stV bk ((a.add 1)) (.int .i64 (w64 (l + (j.size : Int)))) fun n =>
 Zz0 Tryz.prog Zxa #[.pointer (some a)] n [.one (.int .i64)] fun o p =>
 Zz1 (o != (0 : Int)) (
 J (23 : Int) p) (
 Zz0 Tryz.prog Zx9 #[.pointer (some a)] p [.one .slice, .one (.int .i64)] fun q r s t u =>
 Zzf (fun (bl : Bool) (bm : World) =>
 Zz1 bl (
 J (23 : Int) bm) (
 ldS bm.drew ((b.add 3)) fun v x y =>
 bytesOf bm.drew q r fun z =>
 Array.size (⟨[.string j, .string ⟨z.toArray⟩]⟩ : Array Value) = 2 /\
 newB bm.drew (.cells ⟨[.string j, .string ⟨z.toArray⟩]⟩ Zzo) fun aa ab =>
 ab.cell? ((b.add 3)) = some (.slice v x y) /\
 YeJ Tryz.prog Yae Yae (.slice v x y) (.slice (some ⟨aa, 0, none⟩) 1 1) ab fun ac ad ae af =>
 stV af ((b.add 3)) (.slice ac ad ae) fun ag =>
 Zz1 (j.toList == (⟨#[101, 110, 99, 111, 100, 105, 110, 103]⟩ : ByteArray).toList) (
 bytesOf ag q r fun ai =>
 g ⟨ai.toArray⟩ ag) (
 g bd ag))) fun aj =>
 Zz1 (t != (0 : Int)) (
 aj true u) (
 bytesOf u q r fun ak =>
 Zz0 Tryz.prog Yen #[.string j, .string ⟨ak.toArray⟩] u [.one .bool] fun al am =>
 aj (!al) am)))) fun an =>
 ldI .i64 m ((a.add 1)) fun ao =>
 Zz1 (l == ao) (
 an true m) (
 ldS m a fun ap aq ar =>
 slS ap aq ar 1 (some l) none none fun au av ax =>
 cvJ Tryz.prog Zz8 Zzj (.string j) m fun ay az a0 a1 =>
 Zz0 Tryz.prog ZyM #[.slice au av ax, .slice ay az a0] a1 [.one .bool] fun a2 a3 =>
 an (!a2) a3)) (
 ldI .i64 bf ((a.add 1)) fun a4 =>
 Zz0 Tryz.prog Zzv #[.pointer (some a), .int .i64 a4] bf [.one (.int .i64)] fun a5 a6 =>
 stV a6 ((a.add 1)) (.int .i64 a5) fun a7 =>
 Zz0 Tryz.prog ZzJ #[.pointer (some a), .string ⟨#[63, 62]⟩] a7 [.one (.int .i64)] fun a8 a9 =>
 Zz1 (a8 != (0 : Int)) (
 J a8 a9) (
 Zzf (fun (bn : Bool) (bo : World) =>
 Zz1 bn (
 J (25 : Int) bo) (
 J (0 : Int) bo)) fun ba =>
 Zz1 (!(bd.toList == (⟨#[]⟩ : ByteArray).toList)) (
 Zz0 Tryz.prog Zyp #[.string bd, .string ⟨#[117, 116, 102, 45, 56]⟩] a9 [.one .bool] fun bb bc =>
 ba (!bb) bc) (
 ba false a9))))) : Zz0 Tryz.prog ZqY #[.pointer (some a), .pointer (some b)] w [.one (.int .i64)] J:=Zz3 Tryz.func56 (.s .o (.s .o (.s .o (.s .o (.s (.s .o (.b (.l [(5, .str), (20, .int .i64)] (.s .o (.s (.c .o .o) (.j [(5, .str)] (.b (.s .o (.s .o (.s (.j [(47, .bool)] .o (.c (.s (.s .o (.c (.s .o .o) .o)) .o) .o)) (.s .o (.s (.s .o (.c (.s .o .o) .o)) (.s .o (.s (.j [(73, .bool)] .o (.c (.s .o .o) .o)) (.s (.d (.take 0 (.take 1 (.take 2 (.take 3 (.take 4 (.take 5 (.take 6 (.take 7 (.take 8 (.eff 9 (.eff 10 (.take 11 (.take 12 (.eff 13 .done .none))) .none) .none))))))))))) (.s .o (.c .o .o))))))))))) .o)))))) (.s .o (.s (.s .o (.s .o (.c (.s .o .o) .o))) (.s (.j [(112, .bool)] .o (.c (.s .o .o) .o)) (.s .o .o))))))))) (Eq.mpr (by kernel_rfl) h)
theorem c_scan_fits {a b : ByteArray} {w : World} {J : Bool -> World -> Prop} (h :
 Zz1 (a.toList == (⟨#[118, 101, 114, 115, 105, 111, 110]⟩ : ByteArray).toList) (
 Zz0 Tryz.prog ZyS #[.string b, .string ⟨#[49, 46]⟩] w [.one .str, .one .bool] fun c d e =>
 Zzf (fun (q : Bool) (r : World) =>
 J q r) fun f =>
 Zz1 d (
 Zz1 (!(c.toList == (⟨#[]⟩ : ByteArray).toList)) (
 Zz0 Tryz.prog YaF #[.string c, .string ⟨#[48, 49, 50, 51, 52, 53, 54, 55, 56, 57]⟩] e [.one .str] fun g i =>
 f (g.toList == (⟨#[]⟩ : ByteArray).toList) i) (
 f false e)) (
 f false e)) (
 Zz1 (a.toList == (⟨#[101, 110, 99, 111, 100, 105, 110, 103]⟩ : ByteArray).toList) (
 Zzf (fun (s : Bool) (t : World) =>
 J s t) fun j =>
 Zz1 (!(b.toList == (⟨#[]⟩ : ByteArray).toList)) (
 Zy6 b (0 : Int) fun k =>
 Zz0 Tryz.prog ZxL #[.string ⟨#[65, 66, 67, 68, 69, 70, 71, 72, 73, 74, 75, 76, 77, 78, 79, 80, 81, 82, 83, 84, 85, 86, 87, 88, 89, 90, 97, 98, 99, 100, 101, 102, 103, 104, 105, 106, 107, 108, 109, 110, 111, 112, 113, 114, 115, 116, 117, 118, 119, 120, 121, 122]⟩, .int .u8 k] w [.one (.int .i64)] fun l m =>
 Zz1 (decide (l >= (0 : Int))) (
 Zz0 Tryz.prog YaF #[.string b, .string ⟨#[65, 66, 67, 68, 69, 70, 71, 72, 73, 74, 75, 76, 77, 78, 79, 80, 81, 82, 83, 84, 85, 86, 87, 88, 89, 90, 97, 98, 99, 100, 101, 102, 103, 104, 105, 106, 107, 108, 109, 110, 111, 112, 113, 114, 115, 116, 117, 118, 119, 120, 121, 122, 48, 49, 50, 51, 52, 53, 54, 55, 56, 57, 46, 95, 45]⟩] m [.one .str] fun n o =>
 j (n.toList == (⟨#[]⟩ : ByteArray).toList) o) (
 j false m)) (
 j false w)) (
 Zzf (fun (u : Bool) (v : World) =>
 J u v) fun p =>
 Zz1 (b.toList == (⟨#[121, 101, 115]⟩ : ByteArray).toList) (
 p true w) (
 p (b.toList == (⟨#[110, 111]⟩ : ByteArray).toList) w)))) : Zz0 Tryz.prog Yen #[.string a, .string b] w [.one .bool] J:=Zz3 Tryz.func100 (.s .o (.s (.s .o (.b (.s .o (.c (.s .o (.j [(4, .bool)] .o .o)) (.s .o (.c (.j [(4, .bool)] .o .o) .o)))))) (.j [(4, .bool)] .o .o))) (Eq.mpr (by kernel_rfl) h)
theorem YcS {a b : Addr} {w : World} {J : Int -> World -> Prop} (h :
 stV w b (.int .i64 8) fun c =>
 ldI .i64 c ((a.add 1)) fun d =>
 stV c ((a.add 1)) (.int .i64 (w64 (d + (2 : Int)))) fun e =>
 Zz0 Tryz.prog Zyq #[.pointer (some a)] e [.one .str, .one (.int .i64)] fun f g i =>
 Zz1 (g != (0 : Int)) (
 J g i) (
 Zz0 Tryz.prog Zq6 #[.string f] i [.one .bool] fun j k =>
 Zz1 (!j) (
 J (24 : Int) k) (
 Zz0 Tryz.prog Zyp #[.string f, .string ⟨#[120, 109, 108]⟩] k [.one .bool] fun l m =>
 Zz1 l (
 J (29 : Int) m) (
 stV m ((b.add 2)) (.string f) fun n =>
 Zz0 Tryz.prog Zzk #[.pointer (some a), .string ⟨#[63, 62]⟩] n [.one .bool] fun o p =>
 Zz1 o (
 Zz0 Tryz.prog ZzJ #[.pointer (some a), .string ⟨#[63, 62]⟩] p [.one (.int .i64)] fun q r =>
 J q r) (
 ldI .i64 p ((a.add 1)) fun s =>
 Zz0 Tryz.prog Zzv #[.pointer (some a), .int .i64 s] p [.one (.int .i64)] fun t u =>
 ldI .i64 u ((a.add 1)) fun v =>
 Zz1 (t == v) (
 J (23 : Int) u) (
 stV u ((a.add 1)) (.int .i64 t) fun x =>
 Zz0 Tryz.prog ZyU #[.pointer (some a), .pointer (some b), .int .i64 0, .string ⟨#[63, 62]⟩] x [.one (.int .i64)] fun y z =>
 J y z)))))) : Zz0 Tryz.prog Zqx #[.pointer (some a), .pointer (some b)] w [.one (.int .i64)] J:=Zz3 Tryz.func59 (.s .o (.s .o (.s .o (.s .o (.s (.b (.s .o (.c (.s .o .o) (.s .o (.c (.s .o .o) (.s .o (.c (.s .o .o) .o))))))) (.s .o (.s (.s .o (.c (.s .o .o) .o)) (.s .o (.s (.s .o (.c (.s .o .o) .o)) (.s .o (.s .o .o))))))))))) (Eq.mpr (by kernel_rfl) h)
theorem Yca {a b : Addr} {w : World} {J : Int -> World -> Prop} (h :
 stV w b (.int .i64 3) fun c =>
 ldI .i64 c ((a.add 1)) fun d =>
 stV c ((a.add 1)) (.int .i64 (w64 (d + (2 : Int)))) fun e =>
 Zz0 Tryz.prog Zyq #[.pointer (some a)] e [.one .str, .one (.int .i64)] fun f g i =>
 Zz1 (g != (0 : Int)) (
 J g i) (
 stV i ((b.add 2)) (.string f) fun j =>
 ldI .i64 j ((a.add 1)) fun k =>
 Zz0 Tryz.prog Zzv #[.pointer (some a), .int .i64 k] j [.one (.int .i64)] fun l m =>
 stV m ((a.add 1)) (.int .i64 l) fun n =>
 Zz0 Tryz.prog ZzJ #[.pointer (some a), .string ⟨#[62]⟩] n [.one (.int .i64)] fun o p =>
 J o p)) : Zz0 Tryz.prog Zq9 #[.pointer (some a), .pointer (some b)] w [.one (.int .i64)] J:=Zz3 Tryz.func60 (.s .o (.s .o (.s .o (.s .o (.s (.s .o (.c (.s .o .o) .o)) (.s .o (.s .o (.s .o .o)))))))) (Eq.mpr (by kernel_rfl) h)
theorem YdI {a b : Addr} {w : World} {J : Int -> World -> Prop} (h :
 newB w (.cells (Zy2 Tryz.prog Zzo) Zzo) fun c d =>
 ldI .i64 d ((a.add 1)) fun e =>
 stV d ((a.add 1)) (.int .i64 (w64 (e + (1 : Int)))) fun f =>
 Zz0 Tryz.prog Zyq #[.pointer (some a)] f [.one .str, .one (.int .i64)] fun g i j =>
 Zz1 (i != (0 : Int)) (
 J i j) (
 stV j ((b.add 2)) (.string g) fun k =>
 stV k b (.int .i64 2) fun l =>
 ∃ bk : World -> Nat -> Prop, (∃ bl, bk l bl) /\ ∀ (bj : World) (bl : Nat), bk bj bl -> (
 ldI .i64 bj ((a.add 1)) fun m =>
 Zz0 Tryz.prog Zzv #[.pointer (some a), .int .i64 m] bj [.one (.int .i64)] fun n o =>
 stV o ((a.add 1)) (.int .i64 n) fun p =>
 Zz0 Tryz.prog Zzk #[.pointer (some a), .string ⟨#[47, 62]⟩] p [.one .bool] fun q r =>
 Zz1 q (
 stV r b (.int .i64 4) fun s =>
 Zz0 Tryz.prog ZzJ #[.pointer (some a), .string ⟨#[47, 62]⟩] s [.one (.int .i64)] fun t u =>
 J t u) (
 Zz0 Tryz.prog Zzk #[.pointer (some a), .string ⟨#[62]⟩] r [.one .bool] fun v x =>
 Zz1 v (
 Zz0 Tryz.prog ZzJ #[.pointer (some a), .string ⟨#[62]⟩] x [.one (.int .i64)] fun y z =>
 J y z) (
 ldI .i64 x ((a.add 1)) fun aa =>
 Zz1 (aa == m) (
 J (23 : Int) x) (
 Zz0 Tryz.prog Zyq #[.pointer (some a)] x [.one .str, .one (.int .i64)] fun ab ac ad =>
 stV ad ⟨c, 0, none⟩ (.string ab) fun ae =>
 Zz1 (ac != (0 : Int)) (
 J ac ae) (
 Zz0 Tryz.prog Zxa #[.pointer (some a)] ae [.one (.int .i64)] fun af ag =>
 Zz1 (af != (0 : Int)) (
 J af ag) (
 Zz0 Tryz.prog Zx9 #[.pointer (some a)] ag [.one .slice, .one (.int .i64)] fun ai aj ak al am =>
 Zz1 (al != (0 : Int)) (
 J al am) (
 Zz0 Tryz.prog YaI #[.slice ai aj ak] am [.one .str, .one (.int .i64), .one (.int .i64)] fun an ao ap aq =>
 stV aq ⟨c, 1, none⟩ (.string an) fun ar =>
 Zz1 (ap != (0 : Int)) (
 J ap ar) (
 ldS ar ((b.add 3)) fun au av ax =>
 ∃ bm : Int -> World -> Nat -> Prop, (∃ bl, bm (0 : Int) ar bl) /\ ∀ bn bo bp, bm bn bo bp -> (
 Zz1 (decide (bn < (av : Int))) (
 ZzS au av bn fun ay =>
 ldStr bo ((ay.add (bn.toNat * 2))) fun az =>
 ldStr bo (((ay.add (bn.toNat * 2)).add 1)) fun a0 =>
 newB bo (.cells (Zy2 Tryz.prog Zzo) Zzo) fun a1 a2 =>
 stN a2 ⟨a1, 0, none⟩ ⟨[.string az, .string a0]⟩ 2 fun a3 =>
 ldStr a3 ⟨a1, 0, none⟩ fun a4 =>
 ldStr a3 ⟨c, 0, none⟩ fun a5 =>
 Zz1 (a4.toList == a5.toList) (
 J (27 : Int) a3) (
 ∃ bq, bq < bp /\ bm (w64 (bn + (1 : Int))) a3 bq)) (
 ldS bo.drew ((b.add 3)) fun a6 a7 a8 =>
 ldStr bo.drew ⟨c, 0, none⟩ fun a9 =>
 ldStr bo.drew ⟨c, 1, none⟩ fun ba =>
 Array.size (⟨[.string a9, .string ba]⟩ : Array Value) = 2 /\
 newB bo.drew (.cells ⟨[.string a9, .string ba]⟩ Zzo) fun bb bc =>
 bc.cell? ((b.add 3)) = some (.slice a6 a7 a8) /\
 YeJ Tryz.prog Yae Yae (.slice a6 a7 a8) (.slice (some ⟨bb, 0, none⟩) 1 1) bc fun bd be bf bg =>
 stV bg ((b.add 3)) (.slice bd be bf) fun bi =>
 ∃ bq, bq < bl /\ bk bi bq)))))))))))) : Zz0 Tryz.prog Yaq #[.pointer (some a), .pointer (some b)] w [.one (.int .i64)] J:=Zz3 Tryz.func61 (.s .o (.k 0 (.s .o (.s .o (.s .o (.s .o (.s .o (.s (.s .o (.c (.s .o .o) .o)) (.s .o (.h [] (.s .o (.s .o (.s (.s .o (.c (.s .o (.s .o .o)) .o)) (.s (.s .o (.c (.s .o .o) .o)) (.s (.s .o (.c (.s .o .o) .o)) (.s (.s .o (.s .o (.c (.s .o .o) .o))) (.s (.s .o (.s .o (.c (.s .o .o) .o))) (.s (.s .o (.s .o (.c (.s .o .o) .o))) (.s (.s .o (.s .o (.c (.s .o .o) .o))) (.s (.s .o (.b (.l [(98, .int .i64)] (.s .o (.s (.c .o .o) (.s (.b (.s .o (.s .o (.c (.s .o .o) .o)))) .o)))))) (.s (.d (.take 0 (.take 1 (.take 2 (.take 3 (.take 4 (.take 5 (.eff 6 (.eff 7 (.take 8 (.take 9 (.eff 10 .done .none))) .none) .none)))))))) .o))))))))))))))))))))) (Eq.mpr (by kernel_rfl) h)
theorem Yde {a b : Addr} {w : World} {J : Int -> World -> Prop} (h :
 stV w b (.int .i64 5) fun c =>
 ldS c.drew a fun d e f =>
 ldI .i64 c.drew ((a.add 1)) fun g =>
 slS d e f 1 (some g) none none fun i j k =>
 Zzf (fun (aj : Option Addr) (ak : Nat) (al : Nat) (am : World) =>
 Zz0 Tryz.prog Yb0 #[.slice aj ak al] am [.one .str, .one (.int .i64), .one (.int .i64)] fun l m n o =>
 newB o (.cells ⟨[.int .u8 38]⟩ Zzs) fun p q =>
 cvJ Tryz.prog Zzj Zzj (.slice (some ⟨p, 0, none⟩) 1 1) q fun r s t u =>
 Zz0 Tryz.prog YcO #[.slice aj ak al, .slice r s t] u [.one (.int .i64)] fun v x =>
 stV x ((b.add 4)) (.string l) fun y =>
 stV y ((b.add 5)) (.int .i64 v) fun z =>
 ldI .i64 z ((a.add 1)) fun aa =>
 stV z ((a.add 1)) (.int .i64 (w64 (aa + (ak : Int)))) fun ab =>
 J n ab) fun ac =>
 Zz0 Tryz.prog Zxo #[.slice i j k, .int .u8 60] c.drew [.one (.int .i64)] fun ad ae =>
 Zz1 (decide (ad >= (0 : Int))) (
 slS i j k 1 none (some ad) none fun af ag ai =>
 ac af ag ai ae) (
 ac i j k ae)) : Zz0 Tryz.prog ZqX #[.pointer (some a), .pointer (some b)] w [.one (.int .i64)] J:=Zz3 Tryz.func62 (.s .o (.s .o (.s (.d (.take 0 (.take 1 (.take 2 (.take 3 (.take 4 (.take 5 (.take 6 (.take 7 (.take 8 (.take 9 .done))))))))))) (.j [(5, .slice)] (.s .o (.s .o (.c .o .o))) (.s .o (.s .o (.s .o (.s .o .o)))))))) (Eq.mpr (by kernel_rfl) h)
theorem YfR {a : Option Addr} {b c : Nat} {d : Option Addr} {e f : Nat} {w : World} {J : Option Addr -> Nat -> Nat -> World -> Prop} (h :
 Zz0 Tryz.prog ZyM #[.slice a b c, .slice d e f] w [.one .bool] fun g i =>
 Zz1 g (
 slS a b c 1 (some (e : Int)) none none fun j k l =>
 J j k l i) (
 J a b c i)) : Zz0 Tryz.prog Yas #[.slice a b c, .slice d e f] w [.one .slice] J:=Zz3 Tryz.func36 (.s .o (.s (.s .o (.c (.s .o .o) .o)) (.s .o .o))) (Eq.mpr (by kernel_rfl) h)
theorem c_bytes_Count {a : Option Addr} {b c : Nat} {d : Option Addr} {e f : Nat} {w : World} {J : Int -> World -> Prop} (h :
 Zz1 ((e : Int) == (0 : Int)) (
 Zz0 Tryz.prog YcG #[.slice a b c] w [.one (.int .i64)] fun g i =>
 J (w64 (g + (1 : Int))) i) (
 Zz1 ((e : Int) == (1 : Int)) (
 ZzS d e (0 : Int) fun j =>
 ldI .u8 w ((j.add ((0 : Int).toNat * 1))) fun k =>
 extJ Tryz.prog Ya8 #[.slice a b c, .int .u8 k] w [.one (.int .i64)] fun l m =>
 J l m) (
 ∃ u : Option Addr -> Nat -> Nat -> Int -> World -> Nat -> Prop, (∃ v, u a b c (0 : Int) w v) /\ ∀ (a : Option Addr) (b : Nat) (c : Nat) (s : Int) (t : World) (v : Nat), u a b c s t v -> (
 Zz0 Tryz.prog YcN #[.slice a b c, .slice d e f] t [.one (.int .i64)] fun n o =>
 Zz1 (n == (-1 : Int)) (
 J s o) (
 slS a b c 1 (some (w64 (n + (e : Int)))) none none fun p q r =>
 ∃ x, x < v /\ u p q r (w64 (s + (1 : Int))) o x))))) : Zz0 Tryz.prog YcO #[.slice a b c, .slice d e f] w [.one (.int .i64)] J:=Zz3 Tryz.func106 (.s .o (.s (.s .o (.c (.s .o .o) .o)) (.s (.s .o (.c (.s .o .o) .o)) (.s .o (.b (.l [(0, .slice), (5, .int .i64)] (.b (.s .o (.s (.s .o (.c (.s .o .o) .o)) (.s .o .o)))))))))) (Eq.mpr (by kernel_rfl) h)
theorem Yfi {a : ByteArray} {b : Int} {w : World} {J : Int -> World -> Prop} (h :
 Zz0 Tryz.prog Zzz #[.string a, .int .u8 b] w [.one (.int .i64)] fun c d =>
 J c d) : Zz0 Tryz.prog ZxL #[.string a, .int .u8 b] w [.one (.int .i64)] J:=Zz3 Tryz.func97 (.s .o (.s .o .o)) (Eq.mpr (by kernel_rfl) h)
end Go.Proofs.YtglnmjflpkeclaaGreatDoor
end
section
namespace Go.Proofs
open Go.Shelf
def Tryz.lays185_ren : Go.Shelf.Ren:=⟨fun | 185 => 101 | 187 => 104 | 115 => 126 | 253 => 145 | 224 => 146 | 254 => 147 | 255 => 149 | 291 => 183 | n => n, fun | 37 => 22 | 3 => 3 | 4 => 4 | 0 => 0 | 5 => 5 | 46 => 171 | 9 => 9 | 146 => 231 | 51 => 175 | n => n, fun | 1 => 0 | n => n⟩
theorem Tryz.lays185 : Go.Proofs.Lays.n185 Tryz.prog Tryz.lays185_ren where
 mixed:=by kernel_rfl
 f115:=by kernel_rfl
 f185:=by kernel_rfl
 f187:=by kernel_rfl
 f224:=by kernel_rfl
 f253:=by kernel_rfl
 f254:=by kernel_rfl
 f255:=by kernel_rfl
 f291:=by kernel_rfl
 t0:=by kernel_rfl
 a0:=fun w => by kernel_rfl
 z0:=fun w => by kernel_rfl
 v0:=fun w => by kernel_rfl
 t3:=by kernel_rfl
 a3:=fun w => by kernel_rfl
 z3:=fun w => by kernel_rfl
 v3:=fun w => by kernel_rfl
 t4:=by kernel_rfl
 a4:=fun w => by kernel_rfl
 z4:=fun w => by kernel_rfl
 v4:=fun w => by kernel_rfl
 t5:=by kernel_rfl
 a5:=fun w => by kernel_rfl
 z5:=fun w => by kernel_rfl
 v5:=fun w => by kernel_rfl
 t9:=by kernel_rfl
 a9:=fun w => by kernel_rfl
 z9:=fun w => by kernel_rfl
 v9:=fun w => by kernel_rfl
 t37:=by kernel_rfl
 a37:=fun w => by kernel_rfl
 z37:=fun w => by kernel_rfl
 v37:=fun w => by kernel_rfl
 t46:=by kernel_rfl
 a46:=fun w => by kernel_rfl
 z46:=fun w => by kernel_rfl
 v46:=fun w => by kernel_rfl
 t51:=by kernel_rfl
 a51:=fun w => by kernel_rfl
 z51:=fun w => by kernel_rfl
 v51:=fun w => by kernel_rfl
 t146:=by kernel_rfl
 a146:=fun w => by kernel_rfl
 z146:=fun w => by kernel_rfl
 v146:=fun w => by kernel_rfl
 g1:=by kernel_rfl
def Tryz.lays160_ren : Go.Shelf.Ren:=⟨fun | 160 => 63 | 232 => 108 | 231 => 107 | 227 => 109 | 234 => 111 | 233 => 110 | 236 => 113 | 235 => 112 | 228 => 152 | 271 => 154 | 151 => 153 | 197 => 131 | 120 => 187 | 152 => 186 | 260 => 161 | 137 => 97 | 119 => 207 | 224 => 146 | 225 => 191 | 217 => 143 | 266 => 181 | n => n, fun | 9 => 9 | 4 => 4 | 3 => 3 | 5 => 5 | 117 => 146 | 116 => 145 | 0 => 0 | 124 => 149 | 21 => 21 | 105 => 129 | 46 => 171 | 119 => 206 | 139 => 209 | 138 => 208 | n => n, fun | 3 => 1 | 4 => 2 | n => n⟩
theorem Tryz.lays160 : Go.Proofs.Lays.n160 Tryz.prog Tryz.lays160_ren where
 mixed:=by kernel_rfl
 f119:=by kernel_rfl
 f120:=by kernel_rfl
 f137:=by kernel_rfl
 f151:=by kernel_rfl
 f152:=by kernel_rfl
 f160:=by kernel_rfl
 f197:=by kernel_rfl
 f217:=by kernel_rfl
 f224:=by kernel_rfl
 f225:=by kernel_rfl
 f227:=by kernel_rfl
 f228:=by kernel_rfl
 f231:=by kernel_rfl
 f232:=by kernel_rfl
 f233:=by kernel_rfl
 f234:=by kernel_rfl
 f235:=by kernel_rfl
 f236:=by kernel_rfl
 f260:=by kernel_rfl
 f266:=by kernel_rfl
 f271:=by kernel_rfl
 t0:=by kernel_rfl
 a0:=fun w => by kernel_rfl
 z0:=fun w => by kernel_rfl
 v0:=fun w => by kernel_rfl
 t3:=by kernel_rfl
 a3:=fun w => by kernel_rfl
 z3:=fun w => by kernel_rfl
 v3:=fun w => by kernel_rfl
 t4:=by kernel_rfl
 a4:=fun w => by kernel_rfl
 z4:=fun w => by kernel_rfl
 v4:=fun w => by kernel_rfl
 t5:=by kernel_rfl
 a5:=fun w => by kernel_rfl
 z5:=fun w => by kernel_rfl
 v5:=fun w => by kernel_rfl
 t9:=by kernel_rfl
 a9:=fun w => by kernel_rfl
 z9:=fun w => by kernel_rfl
 v9:=fun w => by kernel_rfl
 t21:=by kernel_rfl
 a21:=fun w => by kernel_rfl
 z21:=fun w => by kernel_rfl
 v21:=fun w => by kernel_rfl
 t46:=by kernel_rfl
 a46:=fun w => by kernel_rfl
 z46:=fun w => by kernel_rfl
 v46:=fun w => by kernel_rfl
 t105:=by kernel_rfl
 a105:=fun w => by kernel_rfl
 z105:=fun w => by kernel_rfl
 v105:=fun w => by kernel_rfl
 t116:=by kernel_rfl
 a116:=fun w => by kernel_rfl
 z116:=fun w => by kernel_rfl
 t117:=by kernel_rfl
 a117:=fun w => by kernel_rfl
 z117:=fun w => by kernel_rfl
 v117:=fun w => by kernel_rfl
 t119:=by kernel_rfl
 a119:=fun w => by kernel_rfl
 z119:=fun w => by kernel_rfl
 t124:=by kernel_rfl
 a124:=fun w => by kernel_rfl
 z124:=fun w => by kernel_rfl
 v124:=fun w => by kernel_rfl
 t138:=by kernel_rfl
 a138:=fun w => by kernel_rfl
 z138:=fun w => by kernel_rfl
 v138:=fun w => by kernel_rfl
 t139:=by kernel_rfl
 a139:=fun w => by kernel_rfl
 z139:=fun w => by kernel_rfl
 v139:=fun w => by kernel_rfl
 g3:=by kernel_rfl
 g4:=by kernel_rfl
def Tryz.lays164_ren : Go.Shelf.Ren:=⟨fun | 164 => 77 | 197 => 131 | 239 => 132 | 260 => 161 | 274 => 162 | 275 => 163 | n => n, fun | 9 => 9 | 4 => 4 | 3 => 3 | 5 => 5 | 0 => 0 | 21 => 21 | 105 => 129 | 156 => 211 | 49 => 210 | 157 => 212 | 46 => 171 | 159 => 214 | 162 => 217 | 160 => 215 | 119 => 206 | 139 => 209 | 138 => 208 | 208 => 240 | 51 => 175 | 206 => 238 | n => n, fun | 11 => 3 | 12 => 4 | 13 => 5 | 3 => 1 | 4 => 2 | n => n⟩
theorem Tryz.lays164 : Go.Proofs.Lays.n164 Tryz.prog Tryz.lays164_ren where
 mixed:=by kernel_rfl
 f164:=by kernel_rfl
 f197:=by kernel_rfl
 f239:=by kernel_rfl
 f260:=by kernel_rfl
 f274:=by kernel_rfl
 f275:=by kernel_rfl
 t0:=by kernel_rfl
 a0:=fun w => by kernel_rfl
 z0:=fun w => by kernel_rfl
 v0:=fun w => by kernel_rfl
 t3:=by kernel_rfl
 a3:=fun w => by kernel_rfl
 z3:=fun w => by kernel_rfl
 v3:=fun w => by kernel_rfl
 t4:=by kernel_rfl
 a4:=fun w => by kernel_rfl
 z4:=fun w => by kernel_rfl
 v4:=fun w => by kernel_rfl
 t5:=by kernel_rfl
 a5:=fun w => by kernel_rfl
 z5:=fun w => by kernel_rfl
 v5:=fun w => by kernel_rfl
 t9:=by kernel_rfl
 a9:=fun w => by kernel_rfl
 z9:=fun w => by kernel_rfl
 v9:=fun w => by kernel_rfl
 t21:=by kernel_rfl
 a21:=fun w => by kernel_rfl
 z21:=fun w => by kernel_rfl
 v21:=fun w => by kernel_rfl
 t46:=by kernel_rfl
 a46:=fun w => by kernel_rfl
 z46:=fun w => by kernel_rfl
 v46:=fun w => by kernel_rfl
 t49:=by kernel_rfl
 a49:=fun w => by kernel_rfl
 z49:=fun w => by kernel_rfl
 v49:=fun w => by kernel_rfl
 t51:=by kernel_rfl
 a51:=fun w => by kernel_rfl
 z51:=fun w => by kernel_rfl
 v51:=fun w => by kernel_rfl
 t105:=by kernel_rfl
 a105:=fun w => by kernel_rfl
 z105:=fun w => by kernel_rfl
 v105:=fun w => by kernel_rfl
 t119:=by kernel_rfl
 a119:=fun w => by kernel_rfl
 z119:=fun w => by kernel_rfl
 t138:=by kernel_rfl
 a138:=fun w => by kernel_rfl
 z138:=fun w => by kernel_rfl
 v138:=fun w => by kernel_rfl
 t139:=by kernel_rfl
 a139:=fun w => by kernel_rfl
 z139:=fun w => by kernel_rfl
 v139:=fun w => by kernel_rfl
 t156:=by kernel_rfl
 a156:=fun w => by kernel_rfl
 z156:=fun w => by kernel_rfl
 t157:=by kernel_rfl
 a157:=fun w => by kernel_rfl
 z157:=fun w => by kernel_rfl
 v157:=fun w => by kernel_rfl
 t159:=by kernel_rfl
 a159:=fun w => by kernel_rfl
 z159:=fun w => by kernel_rfl
 v159:=fun w => by kernel_rfl
 t160:=by kernel_rfl
 a160:=fun w => by kernel_rfl
 z160:=fun w => by kernel_rfl
 v160:=fun w => by kernel_rfl
 t162:=by kernel_rfl
 a162:=fun w => by kernel_rfl
 z162:=fun w => by kernel_rfl
 v162:=fun w => by kernel_rfl
 t206:=by kernel_rfl
 a206:=fun w => by kernel_rfl
 z206:=fun w => by kernel_rfl
 v206:=fun w => by kernel_rfl
 t208:=by kernel_rfl
 a208:=fun w => by kernel_rfl
 z208:=fun w => by kernel_rfl
 v208:=fun w => by kernel_rfl
 g3:=by kernel_rfl
 g4:=by kernel_rfl
 g11:=by kernel_rfl
 g12:=by kernel_rfl
 g13:=by kernel_rfl
end Go.Proofs
namespace Go.Vc
open Go Go.Lib
theorem index_find (w : List UInt8) (hw : w ≠ []) : ∀ s : List UInt8, Lib.index s w = (match YcP w s with | some n => (n : Int) | none => -1)
 | [] => by
  unfold Lib.index YcP
  cases w with
  | nil => exact absurd rfl hw
  | cons a r => simp
 | b :: s => by
  unfold Lib.index YcP
  rw [index_find w hw s]
  cases h : w.isPrefixOf (b :: s) with
  | true => simp
  | false =>
   cases hf : YcP w s with
   | none => simp
   | some n => simp <;> omega
theorem YhB : ∀ {l : List UInt8} {c : UInt8}, c ∈ l -> 0 <= indexByte l c
  | [], _, h => by simp at h
  | b :: l, c, h => by
    unfold indexByte
    by_cases hb : b = c
    · rw [if_pos (by simp [hb])]; exact Int.le_refl _
    · have hm : c ∈ l:=by
        rcases List.mem_cons.1 h with h | h
        · exact absurd h.symm hb
        · exact h
      have:=YhB hm
      rw [if_neg (by simp [hb])]
      split
      · next he => have h1 : indexByte l c = -1:=by simpa using he
                   omega
      · omega
theorem slS_cap {w : World} {p : Option Addr} {l c sz : Nat} {vs : List Value} {K : Option Addr -> Nat -> Nat -> Prop} {i : Nat} (h : Sl w p l sz vs) (hi : i <= l) (hlc : l <= c) (hp : p ≠ none)
  (k : ∀ p', Sl w p' (l - i) sz ((vs.drop (i * sz)).take ((l - i) * sz)) -> (p' = none -> c - i = 0) -> (∀ S, off p S -> off p' S) -> K p' (l - i) (c - i)) : slS p l c sz (some (i : Int)) none none K:=by
 refine ⟨i, l, c, rfl, rfl, rfl, hi, hlc, Nat.le_refl _, k _ ⟨?_, ?_⟩ ?_ ?_⟩
 ·rw [length_take, length_drop, h.1]
  have : (l - i) * sz <= l * sz - i * sz:=by rw [<- Nat.sub_mul]; exact Nat.le_refl _
  omega
 ·by_cases h0 : l - i = 0
  ·exact .inl h0
  ·right
   obtain ⟨a, ha, hc⟩:=h.at (by omega)
   have hci : c ≠ i:=by omega
   exact ⟨a.add (i * sz), by simp [hci, ha], ZyZ _ (ZqC _ hc)⟩
 ·intro hn
  by_cases hci : c = i
  ·omega
  ·cases p with
   | none => exact absurd rfl hp
   | some a => simp [hci] at hn
 ·intro S hS a ha
  split at ha
  ·exact hS a ha
  ·cases p with
   | none => simp at ha
   | some x => simp at ha; subst ha; rw [Addr.add_block]; exact hS x rfl
theorem find_le (w : List UInt8) : ∀ {s : List UInt8} {n : Nat}, YcP w s = some n -> n + w.length <= s.length
 | [], n, h => by
  unfold YcP at h
  split at h
  ·next hw => cases h; subst hw; simp
  ·cases h
 | b :: s, n, h => by
  unfold YcP at h
  split at h
  ·next hp =>
   cases h
   have:=(isPrefixOf_iff_prefix.1 hp).length_le
   simpa using this
  ·cases hf : YcP w s with
   | none => rw [hf] at h; cases h
   | some k =>
    rw [hf] at h
    simp only [Option.map_some, Option.some.injEq] at h
    subst h
    have:=find_le w hf
    simp only [length_cons]; omega
theorem trim_nil {l cs : List UInt8} : Lib.trimS l cs = [] ↔ l.all (cs.contains ·) = true:=by
 have dn : ∀ (x : List UInt8) (p : UInt8 -> Bool), x.dropWhile p = [] ↔ x.all p = true:=by
  intro x p
  induction x with
  | nil => simp
  | cons a r ih =>
   rw [dropWhile_cons, all_cons]
   cases hp : p a <;> simp [ih]
 unfold Lib.trimS Lib.trimLeftS Lib.trimRightS
 rw [dn]
 constructor
 ·intro h
  rw [all_reverse] at h
  have h2 : (l.reverse.dropWhile (cs.contains ·)) = []:=by
   cases hd : l.reverse.dropWhile (cs.contains ·) with
   | nil => rfl
   | cons a r =>
    have hne : l.reverse.dropWhile (cs.contains ·) ≠ []:=by rw [hd]; simp
    have h3:=head_dropWhile_not (cs.contains ·) hne
    have h4:=all_eq_true.1 h ((l.reverse.dropWhile (cs.contains ·)).head hne) (head_mem hne)
    rw [h3] at h4; cases h4
  rw [dn, all_reverse] at h2
  exact h2
 ·intro h
  have h2 : l.reverse.dropWhile (cs.contains ·) = []:=by rw [dn, all_reverse]; exact h
  rw [h2]; rfl
end Go.Vc
namespace Go.Proofs.YtglnmjflpkeclaaGreatDoor
open Go Go.Vc Go.Lib
section
variable {w : World}
theorem chg_drewN (w : World) (q : Nat) : Chg No w (w.drewN q):=⟨rfl, rfl, rfl, Nat.le_refl _, fun _ _ _ => rfl⟩
theorem Yd5 (bs : List UInt8) : Lib.bytesOf (bs.map fun b => (b.toNat : Int)) = bs:=by
 unfold Lib.bytesOf
 rw [map_map]
 conv => rhs; rw [<- map_id bs]
 refine map_congr_left fun b _ => ?_
 simp
theorem YhA {p : Addr} {l : Nat} {bs : List UInt8} (h : Bytes w (some p) l bs) : ∀ i, i < l -> w.cell? (p.add i) = some (.int .u8 ((bs.map fun b => (b.toNat : Int)).getD i 0)):=by
 intro i hi
 have hl:=h.len
 obtain ⟨a, ha, hc⟩:=h.at (by omega)
 cases ha
 refine hc i _ ?_
 have hb : bs[i]? = some bs[i]:=getElem?_eq_getElem (by omega)
 simp [bcells, hb]
theorem IndexBB_ok {p q : Option Addr} {l c m d : Nat} {bs ps : List UInt8} {J : Int -> World -> Prop} (T : TT w) (h : Bytes w p l bs) (h2 : Bytes w q m ps) (hp : p = none -> c = 0) (hq : q ≠ none) (hlc : l <= c) (hm : l <= 100000000) (hps : ps ≠ []) (hp2 : 2 <= ps.length) (hpl : ps.length <= 100)
  (K : ∀ w', Chg No w w' -> J (match YcP ps bs with | some n => (n : Int) | none => -1) w') : Zz0 Tryz.prog YcN #[.slice p l c, .slice q m d] w [.one (.int .i64)] J:=by
 obtain ⟨mx, hmx⟩:=T.maxl
 cases q with
 | none => exact absurd rfl hq
 | some a2 =>
 have hl:=h.len
 have hm2:=h2.len
 cases p with
 | none =>
  have h0 : l = 0:=by
   rcases h.2 with h | ⟨a, ha, _⟩
   ·exact h
   ·cases ha
  have hb : bs = []:=eq_nil_of_length_eq_zero (by omega)
  subst hb
  have hf : YcP ps [] = none:=by unfold YcP; rw [if_neg hps]
  rw [hf] at K
  have hc0:=hp rfl
  subst h0 hc0
  refine Calls.mono (Any.bytes_Index_nil Tryz.lays185 (some a2) m d w (by omega) (fun e => by omega)) fun e w' he => ?_
  obtain ⟨rfl, rfl⟩:=he
  rw [if_neg (by omega)]
  exact ⟨_, rfl, K _ (Chg.refl _ _)⟩
 | some a =>
 have rng : ∀ L : List UInt8, ∀ x ∈ L.map fun b => (b.toNat : Int), 0 <= x /\ x < 256:=by
  intro L x hx
  obtain ⟨b, _, rfl⟩:=mem_map.1 hx
  have:=b.toNat_lt
  omega
 refine Calls.mono (Any.bytes_Index_at Tryz.lays185 a a2 l c m d _ _ mx w (by rw [length_map]; exact hl) (by rw [length_map]; exact hm2) (rng bs) (rng ps) (YhA h) (YhA h2) hlc (by omega) (by omega) hmx) fun e w' he => ?_
 obtain ⟨rfl, k, rfl⟩:=he
 rw [Yd5, Yd5, index_find ps hps]
 exact ⟨_, rfl, K _ (chg_drewN w k)⟩
theorem IndexS_ok {s : ByteArray} {v : UInt8} {J : Int -> World -> Prop} (k : J (indexByte (bl s) v) w) : Zz0 Tryz.prog Zzz #[.string s, .int .u8 ((v.toNat : Nat) : Int)] w [.one (.int .i64)] J:=by
 refine ZxH ?_
 refine ⟨_, w, ?_, indexByte (bl s) v, rfl, k⟩
 rw [run_callFunc_extern (fn:=Tryz.prog.funcs[Zye]!) (by kernel_rfl) (by kernel_rfl) (by kernel_rfl) (by kernel_rfl) (e:=Extern.BytealgIndexByte.indexByte) (by kernel_rfl), Lib.run_indexByteString]
 have e : ((v.toNat : Nat) : Int).toNat.toUInt8 = v:=by simp
 rw [e]
 rfl
theorem IndexS2_ok {s : ByteArray} {v : UInt8} {J : Int -> World -> Prop} (k : J (indexByte (bl s) v) w) : Zz0 Tryz.prog ZxL #[.string s, .int .u8 ((v.toNat : Nat) : Int)] w [.one (.int .i64)] J:=by
 refine Yfi ?_
 exact IndexS_ok k
theorem TrimPre_ok {p q : Option Addr} {l c m d : Nat} {bs ps : List UInt8} {J : Option Addr -> Nat -> Nat -> World -> Prop} (h : Bytes w p l bs) (h2 : Bytes w q m ps) (hlc : l <= c)
  (K1 : ps.isPrefixOf bs = true -> ∀ p', Bytes w p' (l - m) (bs.drop m) -> (∀ S, off p S -> off p' S) -> J p' (l - m) (c - m) w) (K2 : ps.isPrefixOf bs = false -> J p l c w) :
  Zz0 Tryz.prog Yas #[.slice p l c, .slice q m d] w [.one .slice] J:=by
 refine YfR ?_
 have hl:=h.len
 have hm:=h2.len
 refine YbS h h2 hlc ?_
 refine Zz9 (fun hp => ?_) (fun hp => K2 hp)
 have hle:=(isPrefixOf_iff_prefix.1 hp).length_le
 refine slS_sl (i:=m) (j:=l) h rfl rfl (by omega) (Nat.le_refl _) hlc fun p' h' ho => K1 hp p' ?_ ho
 have e : ((bcells bs).drop (m * 1)).take ((l - m) * 1) = bcells (bs.drop m):=by
  rw [Nat.mul_one, Nat.mul_one, take_of_length_le (by rw [length_drop, Zyc]; omega)]
  simp [bcells]
 rw [e] at h'; exact h'
theorem Trim_ok {s cs : ByteArray} {J : ByteArray -> World -> Prop} (hs : s.size <= 100000000) (hc : cs.size <= 1000) (ha : ∀ (j : Nat) b, cs.data.toList[j]? = some b -> b.toNat < 128) (K : ∀ w', Chg No w w' -> J (mkB (Lib.trimS (bl s) (bl cs))) w') : Zz0 Tryz.prog YaF #[.string s, .string cs] w [.one .str] J:=by
 refine Calls.mono (Any.strings_Trim_laid Tryz.lays160 (by kernel_rfl) s cs w (by omega) (by omega) ha) fun e w' he => ?_
 obtain ⟨rfl, hb⟩:=he
 exact ⟨_, rfl, K w' (Chg.of_below hb)⟩
theorem EqAsc_ok {s t : ByteArray} {J : Bool -> World -> Prop} (hs : s.size <= 100000000) (h1 : ∀ (j : Nat) b, s.data.toList[j]? = some b -> b.toNat < 128) (h2 : ∀ (j : Nat) b, t.data.toList[j]? = some b -> b.toNat < 128) (K : J (Lib.equalFold (bl s) (bl t)) w) : Zz0 Tryz.prog Zyp #[.string s, .string t] w [.one .bool] J:=by
 refine Calls.mono (Any.strings_EqualFold Tryz.lays164 s t w (by omega) h1 h2) fun e w' he => ?_
 obtain ⟨rfl, rfl⟩:=he
 exact ⟨_, rfl, K⟩
end
end Go.Proofs.YtglnmjflpkeclaaGreatDoor
end
section
namespace Go.Proofs.YtglnmjflpkeclaaGreatDoor
open Go Go.Vc Go.Lib
structure ScS (w : World) (s : Nat) (p : Option Addr) (l c : Nat) (b : List UInt8) (i : Nat) : Prop where
 cell : w.heap[s]? = some (.cells ⟨[.slice p l c, .int .i64 (i : Int)]⟩ Zqm (0, 0))
 txt : Bytes w p l b
 ty : ∀ a, p = some a -> typ w a.block = some Zzs
 nn : p ≠ none
 lc : l <= c
 len : l <= 65536
 le : i <= l
def TkC (k a : Int) (n : ByteArray) (pp : Option Addr) (pl pc : Nat) (x : ByteArray) (r : Int) : List Value:=[.int .i64 k, .int .i64 a, .string n, .slice pp pl pc, .string x, .int .i64 r]
section
variable {w w' : World} {s t : Nat} {p : Option Addr} {l c : Nat} {b : List UInt8} {i : Nat}
theorem stB {b off : Nat} {cs : List Value} {e : TypeId} {v : Value} {K : World -> Prop} (hh : w.heap[b]? = some (.cells ⟨cs⟩ e (0, 0))) (ho : off < cs.length)
  (k : ∀ w', w'.heap[b]? = some (.cells ⟨cs.set off v⟩ e (0, 0)) -> Chg (fun x => x = b) w w' -> K w') : stV w ⟨b, off, none⟩ v K:=by
 refine ((Hp.start w (fun x => x = b)).add hh (by simp) (fun _ => rfl)).stV 0 rfl ho fun w' H hc => k w' ?_ hc
 simp only [set_cons_zero] at H
 exact H.get 0 rfl
theorem Ybp {b off : Nat} {cs : List Value} {e : TypeId} {v : Value} (hh : w.heap[b]? = some (.cells ⟨cs⟩ e (0, 0))) (hv : cs[off]? = some v) : w.cell? ⟨b, off, none⟩ = some v:=by
 rw [cell_of_row w b off _ e (0, 0) hh]; simpa using hv
theorem ScS.blen (h : ScS w s p l c b i) : b.length = l:=h.txt.len
theorem ScS.c0 (h : ScS w s p l c b i) : w.cell? ⟨s, 0, none⟩ = some (.slice p l c):=Ybp h.cell rfl
theorem ScS.c1 (h : ScS w s p l c b i) : w.cell? ⟨s, 1, none⟩ = some (.int .i64 (i : Int)):=Ybp h.cell rfl
theorem ScS.chg {S : Nat -> Prop} (h : ScS w s p l c b i) (hc : Chg S w w') (hs : ¬ S s) (hn : ∀ x, S x -> typ w x ≠ some Zzs) : ScS w' s p l c b i:=by
 have ho : off p S:=fun a ha hS => hn _ hS (h.ty a ha)
 exact ⟨hc.heap h.cell hs, h.txt.chg hc ho, fun a ha => Zxh hc (h.ty a ha) (ho a ha), h.nn, h.lc, h.len, h.le⟩
theorem ScS.chg0 (h : ScS w s p l c b i) (hc : Chg No w w') : ScS w' s p l c b i:=h.chg hc (fun f => f) (fun _ f => f.elim)
theorem ScS.drew (h : ScS w s p l c b i) : ScS w.drew s p l c b i:=h.chg0 ((Chg.refl No w).drew)
theorem _root_.Go.Vc.Chg.pre {S : Nat -> Prop} {a w w' : World} (h : Chg No a w) (k : Chg S w w') : Chg S a w':=(h.mono fun _ _ f => f.elim).trans k fun _ _ h => h
theorem Zy0 (w : World) : Chg No w w.drew:=(Chg.refl No w).drew
theorem ScS.ts (h : ScS w s p l c b i) : typ w s = some Zqm:=Zzy h.cell
theorem ty_ne {x : Nat} (h : typ w x = some Zqm) : typ w x ≠ some Zzs:=by rw [h]; decide
theorem ScS.chgT {e : TypeId} (h : ScS w s p l c b i) (hc : Chg (fun x => x = t) w w') (ht : typ w t = some e) (h1 : e ≠ Zqm) (h2 : e ≠ Zzs) : ScS w' s p l c b i :=
 h.chg hc (fun e2 => by have:=h.ts; rw [e2, ht] at this; exact h1 (Option.some.inj this)) (fun x hx => by subst hx; rw [ht]; exact fun e2 => h2 (Option.some.inj e2))
theorem ScS.st {j : Nat} {n : Int} {K : World -> Prop} (h : ScS w s p l c b i) (hn : n = (j : Int)) (hj : j <= l) (k : ∀ w', ScS w' s p l c b j -> Chg (fun x => x = s) w w' -> K w') : stV w ⟨s, 1, none⟩ (.int .i64 n) K:=by
 subst hn
 refine stB h.cell (by simp) fun w' hh hc => ?_
 have ho : off p (fun x => x = s):=fun a ha e => ty_ne h.ts (by rw [<- e]; exact h.ty a ha)
 exact k w' ⟨hh, h.txt.chg hc ho, fun a ha => Zxh hc (h.ty a ha) (ho a ha), h.nn, h.lc, h.len, hj⟩ hc
theorem drop_bytes {w : World} {q : Option Addr} {l j : Nat} {b : List UInt8} (hl : b.length = l) (h : Sl w q (l - j) 1 (((bcells b).drop (j * 1)).take ((l - j) * 1))) : Bytes w q (l - j) (b.drop j):=by
 have e : ((bcells b).drop (j * 1)).take ((l - j) * 1) = bcells (b.drop j):=by
  rw [Nat.mul_one, Nat.mul_one, take_of_length_le (by rw [length_drop, Zyc]; omega)]
  simp [bcells]
 rw [e] at h; exact h
theorem ScS.rest {j : Nat} {n : Int} {K : Option Addr -> Nat -> Nat -> Prop} (h : ScS w s p l c b i) (hn : n = (j : Int)) (hj : j <= l) (k : ∀ q, Bytes w q (l - j) (b.drop j) -> (q = none -> c - j = 0) -> (∀ S, off p S -> off q S) -> K q (l - j) (c - j)) : slS p l c 1 (some n) none none K:=by
 subst hn
 exact slS_cap h.txt hj h.lc h.nn fun q hq hz ho => k q (drop_bytes h.blen hq) hz ho
theorem YfX {w : World} {q : Option Addr} {l c n : Nat} {b : List UInt8} {K : Option Addr -> Nat -> Nat -> Prop} (h : Bytes w q l b) (hlc : l <= c) {v : Int} (hv : v = (n : Int)) (hn : n <= l) (k : ∀ q' c', Bytes w q' n (b.take n) -> n <= c' -> (∀ S, off q S -> off q' S) -> K q' n c') : slS q l c 1 none (some v) none K:=by
 subst hv
 refine slS_sl (i:=0) (j:=n) h rfl rfl (Nat.zero_le _) hn hlc fun q' hq ho => ?_
 have e : ((bcells b).drop (0 * 1)).take ((n - 0) * 1) = bcells (b.take n):=by simp [bcells]
 rw [e] at hq
 exact k q' _ hq (by omega) ho
theorem YaN {wd : ByteArray} {J : Bool -> World -> Prop} (h : ScS w s p l c b i) (K : ∀ w', Chg No w w' -> J ((bl wd).isPrefixOf (b.drop i)) w') :
  Zz0 Tryz.prog Zzk #[.pointer (some ⟨s, 0, none⟩), .string wd] w [.one .bool] J:=by
 refine Ye3 ?_
 simp only [Addr.add_mk, Nat.zero_add]
 have hd:=h.drew
 refine ⟨_, _, _, hd.c0, _, hd.c1, ?_⟩
 refine hd.rest rfl h.le fun q hq _ _ => ?_
 refine cvB fun b15 c15 w1 hb15 _ hc1 => ?_
 refine ⟨(hd.chg0 hc1).c1, (hd.chg0 hc1).c0, ?_⟩
 exact YbS (hq.chg hc1 (off_no _)) hb15 (by have:=h.lc; omega) (K _ ((Zy0 w).trans0 hc1))
theorem Yfp {wd : ByteArray} {J : Int -> World -> Prop} (h : ScS w s p l c b i) (K0 : YbV (bl wd) (b.drop i) = .error 23 -> ∀ w', ScS w' s p l c b i -> Chg No w w' -> J 23 w')
  (K1 : ∀ i', YbV (bl wd) (b.drop i) = .ok (b.drop i') -> i' <= l -> ∀ w', ScS w' s p l c b i' -> Chg (fun x => x = s) w w' -> J 0 w') :
  Zz0 Tryz.prog ZzJ #[.pointer (some ⟨s, 0, none⟩), .string wd] w [.one (.int .i64)] J:=by
 refine Ye1 ?_
 simp only [Addr.add_mk, Nat.zero_add]
 refine YaN h fun w1 hc1 => ?_
 refine Zzm (fun hf => K0 (by unfold YbV; rw [hf]; rfl) w1 (h.chg0 hc1) hc1) (fun ht => ?_)
 have h1:=h.chg0 hc1
 have hle:=(isPrefixOf_iff_prefix.1 ht).length_le
 rw [length_drop, h.blen, Zzn] at hle
 have:=h.len
 have:=h.le
 refine ZxJ h1.c1 ?_
 refine h1.st (j:=i + wd.size) (by rw [Zzb] <;> omega) (by omega) fun w2 h2 hc2 => ?_
 refine K1 (i + wd.size) ?_ (by omega) w2 h2 (hc1.pre hc2)
 unfold YbV; rw [ht, drop_drop, Zzn]; rfl
theorem ws_iff {v : UInt8} : (0 <= indexByte (bl ⟨#[32, 9, 10, 13]⟩) v) ↔ Yfq v = true:=by
 rw [show bl ⟨#[32, 9, 10, 13]⟩ = [32, 9, 10, 13] from rfl]
 unfold Yfq
 by_cases h : v ∈ ([32, 9, 10, 13] : List UInt8)
 ·have h1:=YhB h
  simp only [mem_cons, not_mem_nil, or_false] at h
  refine iff_of_true h1 ?_
  rcases h with rfl | rfl | rfl | rfl <;> decide
 ·have h1:=index_none h
  refine iff_of_false (by rw [h1]; decide) ?_
  simp only [mem_cons, not_mem_nil, or_false, not_or] at h
  simp [h.1, h.2.1, h.2.2.1, h.2.2.2]
theorem ZqF {j : Nat} {n : Int} {J : Int -> World -> Prop} (h : ScS w s p l c b i) (hn : n = (j : Int)) (hj : j <= l) (K : ∀ j' w', b.drop j' = ZzE (b.drop j) -> j <= j' -> j' <= l -> Chg No w w' -> J (j' : Int) w') :
    Zz0 Tryz.prog Zzv #[.pointer (some ⟨s, 0, none⟩), .int .i64 n] w [.one (.int .i64)] J:=by
  subst hn
  refine Ydf ?_
  have hl:=h.blen
  have:=h.len
  refine ⟨fun x w' m => ∃ q : Nat, x = q /\ j <= q /\ q <= l /\ m = l - q /\ Chg No w w' /\ ZzE (b.drop q) = ZzE (b.drop j), ⟨_, j, rfl, Nat.le_refl _, hj, rfl, Chg.refl _ _, rfl⟩, ?_⟩
  rintro x w1 m ⟨q, rfl, h1, h2, rfl, hc1, he⟩
  have hs:=h.chg0 hc1
  refine Zz7 fun J22 hJ => ?_
  refine ⟨_, _, _, hs.c0, ?_⟩
  refine Zz4 (fun hlt => ?_) (fun hge => ?_)
  · refine ⟨_, _, _, hs.c0, ?_⟩
    refine Ycb hs.txt (by omega) hlt fun v hv => ?_
    rw [Int.toNat_natCast] at hv
    have hd : b.drop q = v :: b.drop (q + 1):=by
      obtain ⟨g1, g2⟩:=List.getElem?_eq_some_iff.1 hv
      rw [List.drop_eq_getElem_cons g1, g2]
    refine IndexS2_ok ?_
    subst hJ
    refine Zz9 (fun hw => ?_) (fun hw => ?_)
    · have hw':=ws_iff.1 (of_decide_eq_true hw)
      refine ⟨_, by omega, q + 1, by rw [Zzb] <;> omega, by omega, by omega, rfl, hc1, ?_⟩
      rw [<- he, hd, Yf3 hw']
    · have hw' : Yfq v = false:=by
        cases hv2 : Yfq v with
        | false => rfl
        | true => exact absurd (ws_iff.2 hv2) (of_decide_eq_false hw)
      refine K q w1 ?_ h1 h2 hc1
      rw [<- he, hd, ZxP hw']
  · subst hJ
    have hq : q = l:=by omega
    subst hq
    refine K q w1 ?_ h1 h2 hc1
    rw [<- he, List.drop_eq_nil_of_le (by omega)]; rfl
theorem UpTo_ok {sk : Nat} {n : Int} {wd : ByteArray} {cs : List Value} {J : Int -> World -> Prop} (T : TT w) (h : ScS w s p l c b i) (ht : w.heap[t]? = some (.cells ⟨cs⟩ Zze (0, 0))) (hcs : cs.length = 6) (hn : n = (sk : Int)) (hi : i + sk <= l) (hw : 2 <= wd.size) (hw2 : wd.size <= 10)
  (K0 : Yea (bl wd) (b.drop (i + sk)) = .error 23 -> ∀ w', Chg (fun x => x = s \/ x = t) w w' -> J 23 w')
  (K1 : ∀ v i', Yea (bl wd) (b.drop (i + sk)) = .ok (v, b.drop i') -> i' <= l -> ∀ w', ScS w' s p l c b i' -> w'.heap[t]? = some (.cells ⟨cs.set 4 (.string (mkB v))⟩ Zze (0, 0)) -> Chg (fun x => x = s \/ x = t) w w' -> J 0 w') :
  Zz0 Tryz.prog ZyU #[.pointer (some ⟨s, 0, none⟩), .pointer (some ⟨t, 0, none⟩), .int .i64 n, .string wd] w [.one (.int .i64)] J:=by
 subst hn
 refine Ydd ?_
 simp only [Addr.add_mk, Nat.zero_add]
 have hl:=h.blen
 have:=h.len
 have hd:=h.drew
 refine ⟨_, _, _, hd.c0, _, hd.c1, ?_⟩
 refine hd.rest (j:=i + sk) (by rw [Zzb] <;> omega) hi fun q hq hqn _ => ?_
 refine cvB fun b24 c24 w1 hb24 _ hc1 => ?_
 have hne : bl wd ≠ []:=by intro e; have:=Zzn wd; rw [e] at this; simp at this; omega
 refine IndexBB_ok ((T.chg (Zy0 w)).chg hc1) (hq.chg hc1 (off_no _)) hb24 hqn (by simp) (by have:=h.lc; omega) (by omega) hne (by rw [Zzn]; omega) (by rw [Zzn]; omega) fun w2 hc2 => ?_
 have c2 : Chg No w w2:=((Zy0 w).trans0 hc1).trans0 hc2
 have h2:=h.chg0 c2
 have ht2:=c2.heap ht (fun f => f)
 cases hf : YcP (bl wd) (b.drop (i + sk)) with
 | none =>
  refine Zz9 (fun _ => ?_) (fun h => by simp at h)
  exact K0 (by unfold Yea; rw [hf]) w2 (c2.mono fun _ _ f => f.elim)
 | some k =>
  dsimp only
  have hk:=find_le (bl wd) hf
  rw [length_drop, Zzn, hl] at hk
  refine Zz9 (fun h => by simp at h; omega) (fun _ => ?_)
  refine YfX ((hq.chg hc1 (off_no _)).chg hc2 (off_no _)) (by have:=h.lc; omega) rfl (by omega) fun q' c' hq' _ _ => ?_
  refine Zq2 hq' ?_
  have hne2 : s ≠ t:=fun e => by subst e; have h1:=h2.cell; rw [ht2] at h1; have:=Zzy ht2; rw [h2.ts] at this; revert this; decide
  refine stB ht2 (by omega) fun w3 hh3 hc3 => ?_
  have h3:=h2.chgT hc3 (Zzy ht2) (by decide) (by decide)
  refine ZxJ h3.c1 ?_
  have e1 : w64 ((sk : Int) + (k : Int)) = ((sk + k : Nat) : Int):=by rw [Zzb] <;> omega
  have e2 : w64 (((sk + k : Nat) : Int) + (wd.size : Int)) = ((sk + k + wd.size : Nat) : Int):=by rw [Zzb] <;> omega
  refine h3.st (j:=i + sk + k + wd.size) (by rw [e1, e2, Zzb] <;> omega) (by omega) fun w4 h4 hc4 => ?_
  refine K1 ((b.drop (i + sk)).take k) (i + sk + k + wd.size) ?_ (by omega) w4 h4 (hc4.heap hh3 (fun e => hne2 e.symm)) ((c2.pre (hc3.mono fun _ _ e => Or.inr e)).trans hc4 fun _ _ e => Or.inl e)
  unfold Yea; rw [hf]; dsimp only; rw [drop_drop, Zzn, <- Nat.add_assoc]
theorem nmC_eq (f : Bool) (c : Nat) : nmC f c = (decide (c = 58) || (isPt (c : Int) && (!f || isSt (c : Int)))):=rfl
theorem Name_ok {J : ByteArray -> Int -> World -> Prop} (T : TT w) (h : ScS w s p l c b i) (K0 : ∀ e, YbB (b.drop i) = .error e -> ∀ w', Chg (fun x => x = s) w w' -> J ⟨#[]⟩ e w')
  (K1 : ∀ v i', YbB (b.drop i) = .ok (v, b.drop i') -> i' <= l -> ∀ w', ScS w' s p l c b i' -> Chg (fun x => x = s) w w' -> J (mkB v) 0 w') :
  Zz0 Tryz.prog Zyq #[.pointer (some ⟨s, 0, none⟩)] w [.one .str, .one (.int .i64)] J:=by
 refine Ye2 ?_
 simp only [Addr.add_mk, Nat.zero_add]
 have hl:=h.blen
 have hlen:=h.len
 have hle:=h.le
 refine ZxJ h.c1 ?_
 refine Zz7 fun J4 hJ4 => ?_
 have k4 : ∀ (q : Nat) (w1 : World), i <= q -> q <= l -> nmL true (b.drop i) = q - i -> Chg No w w1 -> J4 (q : Int) w1:=by
  intro q w1 h1 h2 hq hc1
  subst hJ4
  dsimp only
  have hs:=(h.chg0 hc1).drew
  have c1:=hc1.trans0 (Zy0 w1)
  refine ⟨_, _, _, hs.c0, _, hs.c1, ?_⟩
  refine slS_sl (i:=i) (j:=q) hs.txt rfl rfl h1 h2 hs.lc fun p' hp' _ => ?_
  have hb : Bytes w1.drew p' (q - i) ((b.drop i).take (q - i)):=by
   have e : ((bcells b).drop (i * 1)).take ((q - i) * 1) = bcells ((b.drop i).take (q - i)):=by simp [bcells]
   rw [e] at hp'; exact hp'
  refine Zq2 hb ?_
  rw [Ycl]
  refine Zz4 (fun he => ?_) (fun hne => ?_)
  ·have h0 : q - i = 0:=by
    have:=congrArg (fun x : ByteArray => (bl x).length) he
    simp only [bl, toList_toArray] at this
    have e2 : ((b.drop i).take (q - i)).length = q - i:=by rw [length_take, length_drop]; omega
    rw [<- e2, this]; rfl
   refine K0 23 (by unfold YbB; rw [hq, h0]; rfl) _ (c1.mono fun _ _ f => f.elim)
  ·have h0 : q - i ≠ 0:=by
    intro h0
    rw [h0, take_zero] at hne
    exact hne rfl
   have e3 : mkB ((b.drop i).take (q - i)) = ⟨((b.drop i).take (q - i)).toArray⟩:=rfl
   rw [<- e3]
   refine YfS (by rw [<- Zzn, ZzH, length_take]; omega) (T.tabs.chg c1) fun x y ok w2 hc2 hsp => ?_
   unfold Spl at hsp
   rw [ZzH] at hsp
   have ho : ok = (spl ((b.drop i).take (q - i))).2.2:=by rw [<- hsp]
   have c2:=c1.trans0 hc2
   have hs2:=h.chg0 c2
   refine Zzm (fun hf => ?_) (fun ht => ?_)
   ·refine K0 24 (by unfold YbB; rw [hq, if_neg h0, <- ho, hf]; rfl) _ (c2.mono fun _ _ f => f.elim)
   ·refine hs2.st (j:=q) rfl h2 fun w3 h3 hc3 => ?_
    refine K1 _ q ?_ h2 w3 h3 (c2.pre hc3)
    unfold YbB; rw [hq, if_neg h0, <- ho, ht, drop_drop, show i + (q - i) = q by omega]; rfl
 clear hJ4
 refine ⟨fun x w' m => ∃ q : Nat, x = q /\ i <= q /\ q <= l /\ m = l - q /\ Chg No w w' /\ nmL true (b.drop i) = (q - i) + nmL (decide (q = i)) (b.drop q), ⟨_, i, rfl, Nat.le_refl _, hle, rfl, Chg.refl _ _, by simp⟩, ?_⟩
 rintro x w1 m ⟨q, rfl, h1, h2, rfl, hc1, he⟩
 have hs:=h.chg0 hc1
 refine ⟨_, _, _, hs.c0, ?_⟩
 refine Zz4 (fun hlt => ?_) (fun hge => ?_)
 ·refine ⟨_, _, _, hs.c0, ?_⟩
  refine hs.rest rfl h2 fun p' hp' _ _ => ?_
  have hne : b.drop q ≠ []:=by intro e; have:=congrArg length e; rw [length_drop] at this; simp at this; omega
  refine YfU hp' (by omega) (T.tabs.chg hc1) fun w2 hc2 => ?_
  have c2:=hc1.trans0 hc2
  have d1:=dec_pos (b.drop q)
  have d2:=dec_le hne
  rw [length_drop, hl] at d2
  refine Zz7 fun J51 hJ51 => ?_
  have k51 : ∀ (x : Bool) (w' : World), nmC (decide (q = i)) (dec (b.drop q)).1 = !x -> Chg No w w' -> J51 x w':=by
   intro x w' hx hc
   subst hJ51
   dsimp only
   cases x with
   | true =>
    refine k4 q w' h1 h2 ?_ hc
    rw [he, nmL_stop hx]; omega
   | false =>
    refine ⟨_, by omega, q + (dec (b.drop q)).2, by rw [Zzb] <;> omega, by omega, by omega, rfl, hc, ?_⟩
    have hne2 : decide (q + (dec (b.drop q)).2 = i) = false:=decide_eq_false (by omega)
    rw [he, YfB hne hx, drop_drop, hne2]; omega
  clear hJ51
  rw [nmC_eq] at k51
  refine Zzi (fun h58 => ?_) (fun h58 => ?_)
  ·have n58 : decide ((dec (b.drop q)).1 = 58) = false:=decide_eq_false (by omega)
   rw [n58, Bool.false_or] at k51
   refine Yi9 fun w3 hc3 => ?_
   have c3:=c2.trans0 hc3
   refine Zzm (fun hf => k51 true w3 (by rw [hf]; rfl) c3) (fun hp => ?_)
   rw [hp, Bool.true_and] at k51
   refine ZxJ (h.chg0 c3).c1 ?_
   refine Zzd (fun hqi => ?_) (fun hqi => ?_)
   ·have e1 : decide (q = i) = true:=decide_eq_true (by omega)
    rw [e1] at k51
    refine Ygm fun w4 hc4 => k51 _ w4 (by simp) (c3.trans0 hc4)
   ·have e1 : decide (q = i) = false:=decide_eq_false (by omega)
    rw [e1] at k51
    exact k51 false w3 rfl c3
  ·have n58 : decide ((dec (b.drop q)).1 = 58) = true:=decide_eq_true (by omega)
   rw [n58, Bool.true_or] at k51
   exact k51 false w2 rfl c2
 ·have hq : q = l:=by omega
  subst hq
  refine k4 q w1 h1 h2 ?_ hc1
  rw [he, drop_eq_nil_of_le (by omega), nmL_nil]; omega
theorem Equals_ok {J : Int -> World -> Prop} (h : ScS w s p l c b i) (K0 : Yat (b.drop i) = .error 23 -> ∀ w', Chg (fun x => x = s) w w' -> J 23 w')
  (K1 : ∀ i', Yat (b.drop i) = .ok (b.drop i') -> i' <= l -> ∀ w', ScS w' s p l c b i' -> Chg (fun x => x = s) w w' -> J 0 w') :
  Zz0 Tryz.prog Zxa #[.pointer (some ⟨s, 0, none⟩)] w [.one (.int .i64)] J:=by
 refine Ydh ?_
 simp only [Addr.add_mk, Nat.zero_add]
 refine ZxJ h.c1 ?_
 refine ZqF h rfl h.le fun j w1 hj _ hjl hc1 => ?_
 have h1:=h.chg0 hc1
 refine h1.st (j:=j) rfl hjl fun w2 h2 hc2 => ?_
 have c2:=hc1.pre hc2
 have fin : ∀ (e : Int) (j2 : Nat) (w3 : World), ScS w3 s p l c b j2 -> Chg (fun x => x = s) w w3 -> (∀ j3 w', b.drop j3 = ZzE (b.drop j2) -> j3 <= l -> ScS w' s p l c b j3 -> Chg (fun x => x = s) w w' -> J e w') ->
   ldI .i64 w3 ⟨s, 1, none⟩ fun x20 => Zz0 Tryz.prog Zzv #[.pointer (some ⟨s, 0, none⟩), .int .i64 x20] w3 [.one (.int .i64)] fun (r21 : Int) (w4 : World) => stV w4 ⟨s, 1, none⟩ (.int .i64 r21) fun w5 => J e w5:=by
  intro e j2 w3 h3 c3 k
  refine ZxJ h3.c1 ?_
  refine ZqF h3 rfl h3.le fun j3 w4 hj3 _ hjl3 hc4 => ?_
  refine (h3.chg0 hc4).st (j:=j3) rfl hjl3 fun w5 h5 hc5 => k j3 w5 hj3 hjl3 h5 ((c3.trans0 hc4).trans hc5 fun _ _ e => e)
 refine Yfp h2 (fun he w3 h3 hc3 => ?_) (fun j2 he hj2 w3 h3 hc3 => ?_)
 ·rw [show bl ⟨#[61]⟩ = [61] from rfl, hj] at he
  have hp : ([61] : List UInt8).isPrefixOf (ZzE (b.drop i)) = false:=by
   unfold YbV at he
   cases hh : ([61] : List UInt8).isPrefixOf (ZzE (b.drop i)) with
   | true => rw [hh] at he; cases he
   | false => rfl
  exact fin 23 j w3 h3 (c2.trans0 hc3) fun j3 w' _ _ _ hc => K0 (by unfold Yat; rw [hp]; rfl) w' hc
 ·rw [show bl ⟨#[61]⟩ = [61] from rfl, hj] at he
  refine fin 0 j2 w3 h3 (c2.trans hc3 fun _ _ e => e) fun j3 w' hj3 hjl3 h' hc => K1 j3 ?_ hjl3 w' h' hc
  unfold YbV at he
  unfold Yat
  cases hh : ([61] : List UInt8).isPrefixOf (ZzE (b.drop i)) with
  | false => rw [hh] at he; cases he
  | true =>
   rw [hh] at he
   simp only [if_true, Except.ok.injEq] at he ⊢
   rw [hj3, <- he]; rfl
theorem head_drop {b : List UInt8} {i : Nat} {v : UInt8} (h : b[i]? = some v) : b.drop i = v :: b.drop (i + 1):=by
  obtain ⟨g1, g2⟩:=List.getElem?_eq_some_iff.1 h
  rw [List.drop_eq_getElem_cons g1, g2]
theorem pre_one {v : UInt8} {r : List UInt8} : ([v] : List UInt8).isPrefixOf r = true ↔ ∃ r', r = v :: r':=by
 cases r with
 | nil => simp [isPrefixOf]
 | cons a r =>
  simp only [isPrefixOf, Bool.and_true, beq_iff_eq, cons.injEq]
  exact ⟨fun h => ⟨r, h.symm, rfl⟩, fun ⟨_, h, _⟩ => h.symm⟩
theorem tw_index {r : List UInt8} {v : UInt8} (h : v ∈ r) : indexByte r v = ((r.takeWhile (· != v)).length : Nat):=by
 induction r with
 | nil => simp at h
 | cons a r ih =>
  by_cases ha : a = v
  ·subst ha
   unfold indexByte; simp
  ·have hm : v ∈ r:=by
    rcases mem_cons.1 h with h | h
    ·exact absurd h.symm ha
    ·exact h
   have e1 : (a :: r).takeWhile (· != v) = a :: r.takeWhile (· != v):=by rw [takeWhile_cons]; simp [ha]
   rw [e1]
   unfold indexByte
   rw [if_neg (by simp [ha]), ih hm, if_neg (by simp <;> omega)]
   simp
theorem tw_take (r : List UInt8) (q : UInt8 -> Bool) : r.take (r.takeWhile q).length = r.takeWhile q:=by
 conv => lhs; arg 2; rw [<- takeWhile_append_dropWhile (p:=q) (l:=r)]
 rw [take_left]
theorem Quoted_ok {J : Option Addr -> Nat -> Nat -> Int -> World -> Prop} (h : ScS w s p l c b i) (K0 : ZqR (b.drop i) = .error 23 -> ∀ w', Chg (fun x => x = s) w w' -> J none 0 0 23 w')
  (K1 : ∀ v i' q c', ZqR (b.drop i) = .ok (v, b.drop i') -> i' <= l -> ∀ w', ScS w' s p l c b i' -> Bytes w' q v.length v -> v.length <= c' -> v.length <= l -> (∀ S, off p S -> off q S) -> Chg (fun x => x = s) w w' -> J q v.length c' 0 w') :
  Zz0 Tryz.prog Zx9 #[.pointer (some ⟨s, 0, none⟩)] w [.one .slice, .one (.int .i64)] J:=by
 refine Ydg ?_
 simp only [Addr.add_mk, Nat.zero_add]
 have hl:=h.blen
 have hlen:=h.len
 refine Zz7 fun J13 hJ13 => ?_
 have k1 : ∀ (w1 : World), Chg No w w1 -> (∀ v r, b.drop i = v :: r -> ¬ (v = 39 \/ v = 34)) -> J13 true w1:=by
  intro w1 hc hn
  subst hJ13
  refine Zz9 (fun _ => ?_) (fun h => by cases h)
  refine K0 ?_ w1 (hc.mono fun _ _ f => f.elim)
  unfold ZqR
  cases hb : b.drop i with
  | nil => rfl
  | cons v r => simp only; rw [if_neg (fun e => hn v r hb e.1)]
 have k2 : ∀ (w1 : World) (v : UInt8) (r : List UInt8), Chg No w w1 -> b.drop i = v :: r -> (v = 39 \/ v = 34) -> J13 false w1:=by
  intro w1 v r hc hb hv
  subst hJ13
  refine Zz9 (fun h => by cases h) (fun _ => ?_)
  have hs1:=(h.chg0 hc).drew
  have c1:=hc.trans0 (Zy0 w1)
  have hil : i < l:=by
   have:=congrArg length hb
   rw [length_drop, length_cons] at this; omega
  refine ⟨_, _, _, hs1.c0, _, hs1.c1, ?_⟩
  refine hs1.rest (j:=i + 1) (by rw [Zzb] <;> omega) (by omega) fun q hq _ hoq => ?_
  have hs2:=hs1.drew
  have c2:=c1.trans0 (Zy0 w1.drew)
  refine ⟨_, _, _, hs2.c0, _, hs2.c1, ?_⟩
  have hbi : b[i]? = some v:=by
   have:=congrArg (fun x : List UInt8 => x[0]?) hb
   simpa [getElem?_drop] using this
  refine Ycb hs2.txt (by omega) (by omega) fun x hx => ?_
  rw [Int.toNat_natCast, hbi] at hx
  cases hx
  have hr : b.drop (i + 1) = r:=by have:=head_drop hbi; rw [hb] at this; exact (cons.inj this).2.symm
  refine Yia (hq.chg (Zy0 w1.drew) (off_no _)) ?_
  rw [hr]
  rw [hr] at hq
  have hrl : r.length = l - (i + 1):=hq.len
  by_cases hm : v ∈ r
  ·have htl : (r.takeWhile (· != v)).length < r.length:=by
    have h1:=takeWhile_append_dropWhile (p:=(· != v)) (l:=r)
    have h2 : r.dropWhile (· != v) ≠ []:=by
     intro e
     rw [e, append_nil] at h1
     have:=all_eq_true.1 (all_takeWhile (p:=(· != v)) (l:=r)) v (by rw [h1]; exact hm)
     simp at this
    have h3:=congrArg length h1
    rw [length_append] at h3
    have:=length_pos_iff.2 h2
    omega
   rw [tw_index hm]
   refine Zz4 (fun hh => absurd hh (by omega)) (fun _ => ?_)
   refine ZxJ hs2.c1 ?_
   have e1 : w64 (((r.takeWhile (· != v)).length : Int) + (2 : Int)) = (((r.takeWhile (· != v)).length + 2 : Nat) : Int):=by rw [Zzb] <;> omega
   refine hs2.st (j:=i + ((r.takeWhile (· != v)).length + 2)) (by rw [e1, Zzb] <;> omega) (by omega) fun w3 h3 hc3 => ?_
   have hq3 : Bytes w3 q (l - (i + 1)) r:=by
    have ho : off p (fun x => x = s):=fun a ha e => ty_ne h.ts (by rw [<- e]; exact h.ty a ha)
    exact (hq.chg (Zy0 w1.drew) (off_no _)).chg hc3 (hoq _ ho)
   refine YfX hq3 (by have:=h.lc; omega) rfl (by omega) fun q' c' hq' hc' hoq' => ?_
   rw [tw_take] at hq'
   refine K1 (r.takeWhile (· != v)) (i + ((r.takeWhile (· != v)).length + 2)) q' c' ?_ (by omega) w3 h3 hq' hc' (by omega) (fun S hS => hoq' S (hoq S hS)) (c2.pre hc3)
   unfold ZqR
   rw [hb]
   simp only
   rw [if_pos ⟨hv, hm⟩, <- hr, drop_drop]
   congr 3
   omega
  ·rw [index_none hm]
   refine Zz4 (fun _ => ?_) (fun hh => absurd hh (by decide))
   refine K0 ?_ _ (c2.mono fun _ _ f => f.elim)
   unfold ZqR
   rw [hb]
   simp only
   rw [if_neg (fun e => hm e.2)]
 clear hJ13
 refine YaN h fun w4 hc4 => ?_
 rw [show bl ⟨#[39]⟩ = [39] from rfl]
 refine Zzm (fun h1 => ?_) (fun h1 => ?_)
 ·refine YaN (h.chg0 hc4) fun w5 hc5 => ?_
  rw [show bl ⟨#[34]⟩ = [34] from rfl]
  cases h2 : ([34] : List UInt8).isPrefixOf (b.drop i) with
  | true =>
   obtain ⟨r, hr⟩:=pre_one.1 h2
   exact k2 w5 34 r (hc4.trans0 hc5) hr (.inr rfl)
  | false =>
   refine k1 w5 (hc4.trans0 hc5) fun v r hb hv => ?_
   rcases hv with rfl | rfl
   ·rw [hb] at h1; simp [isPrefixOf] at h1
   ·rw [hb] at h2; simp [isPrefixOf] at h2
 ·obtain ⟨r, hr⟩:=pre_one.1 h1
  exact k2 w4 39 r hc4 hr (.inl rfl)
end
end Go.Proofs.YtglnmjflpkeclaaGreatDoor
end
section
namespace Go.Vc
open Go Go.Lib
theorem u8_all {P : UInt8 -> Prop} (h : ∀ n : Fin 256, P (UInt8.ofNat n.val)) (b : UInt8) : P b:=by
 have:=h ⟨b.toNat, b.toNat_lt⟩
 simpa using this
def YbD : List UInt8:=[65, 66, 67, 68, 69, 70, 71, 72, 73, 74, 75, 76, 77, 78, 79, 80, 81, 82, 83, 84, 85, 86, 87, 88, 89, 90, 97, 98, 99, 100, 101, 102, 103, 104, 105, 106, 107, 108, 109, 110, 111, 112, 113, 114, 115, 116, 117, 118, 119, 120, 121, 122]
def Yej : List UInt8:=[48, 49, 50, 51, 52, 53, 54, 55, 56, 57]
theorem lt_in (b : UInt8) : YbD.contains b = isLt b:=u8_all (P:=fun b => YbD.contains b = isLt b) (by decide +kernel) b
theorem dg_in (b : UInt8) : Yej.contains b = isDg b:=u8_all (P:=fun b => Yej.contains b = isDg b) (by decide +kernel) b
theorem en_in (b : UInt8) : (YbD ++ Yej ++ [46, 95, 45]).contains b = isEn b:=u8_all (P:=fun b => (YbD ++ Yej ++ [46, 95, 45]).contains b = isEn b) (by decide +kernel) b
theorem en_low (b : UInt8) : isEn b = true -> b.toNat < 128:=u8_all (P:=fun b => isEn b = true -> b.toNat < 128) (by decide +kernel) b
theorem fold_low (a : UInt8) : ∀ t ∈ [(117 : UInt8), 116, 102, 45, 56], foldEq a t = decide (low3 a = t) :=
 u8_all (P:=fun a => ∀ t ∈ [(117 : UInt8), 116, 102, 45, 56], foldEq a t = decide (low3 a = t)) (by decide +kernel) a
theorem fold_map : ∀ (l t : List UInt8), (∀ x ∈ t, x ∈ [(117 : UInt8), 116, 102, 45, 56]) -> Lib.equalFold l t = decide (l.map low3 = t)
 | [], [], _ => by simp [Lib.equalFold]
 | [], _ :: _, _ => by simp [Lib.equalFold]
 | _ :: _, [], _ => by simp [Lib.equalFold]
 | a :: l, x :: t, h => by
  unfold Lib.equalFold
  rw [fold_low a x (h x mem_cons_self), fold_map l t (fun y hy => h y (mem_cons_of_mem _ hy)), Bool.eq_iff_iff]
  simp
theorem head_dropG {α : Type} {b : List α} {i : Nat} {v : α} (h : b[i]? = some v) : b.drop i = v :: b.drop (i + 1):=by
  obtain ⟨g1, g2⟩:=List.getElem?_eq_some_iff.1 h
  rw [List.drop_eq_getElem_cons g1, g2]
theorem tw_self {q : UInt8 -> Bool} : ∀ {l : List UInt8}, (∀ x ∈ l, q x = true) -> l.takeWhile q = l
 | [], _ => rfl
 | a :: r, h => by rw [takeWhile_cons, if_pos (h a mem_cons_self), tw_self (fun x hx => h x (mem_cons_of_mem _ hx))]
theorem isUtf8_fold (l : List UInt8) : Lib.equalFold l [117, 116, 102, 45, 56] = isUtf8 l:=fold_map l _ (fun _ h => h)
end Go.Vc
namespace Go.Proofs.YtglnmjflpkeclaaGreatDoor
open Go Go.Vc Go.Lib
section
variable {w w' : World} {s t : Nat} {p : Option Addr} {l c : Nat} {b : List UInt8} {i : Nat}
theorem mkB_nil {x : List UInt8} : ((mkB x).toList == (⟨#[]⟩ : ByteArray).toList) = decide (x = []):=by
 rw [Ycl, decide_eq_decide]
 constructor
 ·intro h
  have:=congrArg bl h
  rw [ZzH] at this; exact this
 ·rintro rfl; rfl
theorem all_mem {x cs : List UInt8} {q : UInt8 -> Bool} (h : ∀ b, cs.contains b = q b) : decide (Lib.trimS x cs = []) = x.all q:=by
 rw [Bool.eq_iff_iff, decide_eq_true_eq, trim_nil]
 simp only [h]
theorem Fits_ok {wd v : ByteArray} {J : Bool -> World -> Prop} (hv : v.size <= 100000) (K : ∀ w', Chg No w w' -> J (fitsL (bl wd) (bl v)) w') : Zz0 Tryz.prog Yen #[.string wd, .string v] w [.one .bool] J:=by
 refine c_scan_fits ?_
 have ek : ∀ (k : ByteArray), (wd.toList == k.toList) = decide (bl wd = bl k):=fun k => by
  rw [Ycl, decide_eq_decide]; exact ⟨fun h => by rw [h], fun h => Zqt h⟩
 have ev : ∀ (k : ByteArray), (v.toList == k.toList) = decide (bl v = bl k):=fun k => by
  rw [Ycl, decide_eq_decide]; exact ⟨fun h => by rw [h], fun h => Zqt h⟩
 simp only [ek, ev]
 rw [show bl ⟨#[118, 101, 114, 115, 105, 111, 110]⟩ = YeD from rfl, show bl ⟨#[101, 110, 99, 111, 100, 105, 110, 103]⟩ = Yc0 from rfl, show bl ⟨#[]⟩ = [] from rfl]
 unfold fitsL at K
 refine Zz4 (fun h => ?_) (fun h => ?_)
 ·rw [if_pos h] at K
  refine YcB (fun d hp hd => ?_) (fun hp => ?_)
  ·rw [show bl ⟨#[49, 46]⟩ = [49, 46] from rfl] at hp
   rw [show (⟨#[49, 46]⟩ : ByteArray).size = 2 from rfl] at hd
   rw [hp, Bool.true_and, <- hd] at K
   refine Zz7 fun J4 hJ => ?_
   subst hJ
   refine Zz9 (fun _ => ?_) (fun h => by cases h)
   have e0 : (d.toList == (⟨#[]⟩ : ByteArray).toList) = decide (bl d = []):=by
    rw [Ycl, decide_eq_decide]; exact ⟨fun h => by rw [h], fun h => Zqt (h.trans rfl)⟩
   rw [e0]
   refine Zzm (fun hne => ?_) (fun he => ?_)
   ·have hne':=of_decide_eq_false hne
    rw [decide_eq_true hne', Bool.true_and] at K
    refine Trim_ok (by have:=congrArg length hd; rw [length_drop, Zzn, Zzn] at this; omega) (by decide) (fun j b hb => ?_) fun w3 hc3 => ?_
    ·have:=mem_of_getElem? hb
     revert b
     intro b _ hm
     have : ∀ x ∈ Yej, x.toNat < 128:=by decide
     exact this b hm
    ·rw [mkB_nil, show bl ⟨#[48, 49, 50, 51, 52, 53, 54, 55, 56, 57]⟩ = Yej from rfl, all_mem dg_in]
     exact K w3 hc3
   ·have he':=of_decide_eq_true he
    rw [he'] at K
    exact K w (Chg.refl _ _)
  ·rw [show bl ⟨#[49, 46]⟩ = [49, 46] from rfl] at hp
   rw [hp] at K
   refine Zz7 fun J4 hJ => ?_
   subst hJ
   refine Zz9 (fun h => by cases h) (fun _ => K w (Chg.refl _ _))
 rw [if_neg h] at K
 refine Zz4 (fun h2 => ?_) (fun h2 => ?_)
 ·rw [if_pos h2] at K
  refine Zz7 fun J4 hJ => ?_
  subst hJ
  refine Zzm (fun hne => ?_) (fun he => ?_)
  ·have hne':=of_decide_eq_false hne
   cases hb : bl v with
   | nil => exact absurd hb hne'
   | cons x r =>
    rw [hb] at K
    simp only at K
    refine Zyl (i:=0) (by have:=Zzn v; rw [hb] at this; simp at this; omega) ?_
    rw [YhE (show (bl v)[0]? = some x by rw [hb]; rfl)]
    refine IndexS2_ok ?_
    rw [show bl ⟨#[65, 66, 67, 68, 69, 70, 71, 72, 73, 74, 75, 76, 77, 78, 79, 80, 81, 82, 83, 84, 85, 86, 87, 88, 89, 90, 97, 98, 99, 100, 101, 102, 103, 104, 105, 106, 107, 108, 109, 110, 111, 112, 113, 114, 115, 116, 117, 118, 119, 120, 121, 122]⟩ = YbD from rfl]
    cases hl : isLt x with
    | true =>
     rw [hl, Bool.true_and] at K
     have hm : x ∈ YbD:=by have:=lt_in x; rw [hl] at this; simpa using this
     refine Zz4 (fun _ => ?_) (fun hh => absurd (YhB hm) hh)
     refine Trim_ok (by omega) (by decide) (fun j b hb => ?_) fun w3 hc3 => ?_
     ·have hm:=mem_of_getElem? hb
      have : ∀ x ∈ YbD ++ Yej ++ [46, 95, 45], x.toNat < 128:=by decide
      exact this b hm
     ·rw [mkB_nil, hb, show bl ⟨#[65, 66, 67, 68, 69, 70, 71, 72, 73, 74, 75, 76, 77, 78, 79, 80, 81, 82, 83, 84, 85, 86, 87, 88, 89, 90, 97, 98, 99, 100, 101, 102, 103, 104, 105, 106, 107, 108, 109, 110, 111, 112, 113, 114, 115, 116, 117, 118, 119, 120, 121, 122, 48, 49, 50, 51, 52, 53, 54, 55, 56, 57, 46, 95, 45]⟩ = YbD ++ Yej ++ [46, 95, 45] from rfl, all_mem en_in]
      exact K w3 hc3
    | false =>
     rw [hl, Bool.false_and] at K
     have hm : x ∉ YbD:=by have:=lt_in x; rw [hl] at this; simpa using this
     rw [index_none hm]
     refine Zz4 (fun hh => absurd hh (by decide)) (fun _ => K w (Chg.refl _ _))
  ·have he':=of_decide_eq_true he
   rw [he'] at K
   exact K w (Chg.refl _ _)
 ·rw [if_neg h2] at K
  refine Zz7 fun J4 hJ => ?_
  subst hJ
  refine Zz4 (fun h3 => ?_) (fun h3 => ?_)
  ·have:=K w (Chg.refl _ _)
   rw [decide_eq_true (.inl h3)] at this
   exact this
  ·have:=K w (Chg.refl _ _)
   have e : decide (bl v = [121, 101, 115] \/ bl v = [110, 111]) = decide (bl v = bl ⟨#[110, 111]⟩):=by
    rw [decide_eq_decide]
    exact ⟨fun h => h.resolve_left h3, .inr⟩
   rw [e] at this
   exact this
structure Cx (w0 w : World) (s t : Nat) : Prop where
 T : TT w0
 chg : Chg No w0 w
 fs : w0.heap.size <= s
 ft : w0.heap.size <= t
theorem Cx.st {S : Nat -> Prop} {w0 : World} (C : Cx w0 w s t) (hc : Chg S w w') (hS : ∀ x, S x -> x = s \/ x = t) : Cx w0 w' s t :=
 ⟨C.T, C.chg.trans hc fun x hx h => by have:=C.fs; have:=C.ft; rcases hS x h with rfl | rfl <;> omega, C.fs, C.ft⟩
theorem Cx.tt {w0 : World} (C : Cx w0 w s t) : TT w:=C.T.chg C.chg
def S2 (s t : Nat) : Nat -> Prop:=fun x => x = s \/ x = t
theorem _root_.Go.Vc.Chg.s2 {a : World} (h : Chg (fun x => x = s) a w) : Chg (S2 s t) a w:=h.mono fun _ _ e => .inl e
theorem _root_.Go.Vc.Chg.t2 {a : World} (h : Chg (fun x => x = t) a w) : Chg (S2 s t) a w:=h.mono fun _ _ e => .inr e
theorem _root_.Go.Vc.Chg.n2 {a : World} (h : Chg No a w) : Chg (S2 s t) a w:=h.mono fun _ _ e => e.elim
theorem _root_.Go.Vc.Chg.and2 {a : World} (h : Chg (S2 s t) a w) (k : Chg (S2 s t) w w') : Chg (S2 s t) a w':=h.trans k fun _ _ e => e
theorem YfC {r : List UInt8} {e : Int} (h : YbB r = .error e) : e ≠ 0:=by
 unfold YbB at h
 split at h
 ·cases h; decide
 ·split at h
  ·cases h; decide
  ·cases h
theorem st_ne {w : World} {cs : List Value} (h : ScS w s p l c b i) (ht : w.heap[t]? = some (.cells ⟨cs⟩ Zze (0, 0))) : s ≠ t:=fun e => by
 subst e; have:=Zzy ht; rw [h.ts] at this; revert this; decide
theorem Instr_ok {w0 : World} {k0 a : Int} {pp : Option Addr} {pl pc : Nat} {J : Int -> World -> Prop} (C : Cx w0 w s t) (h : ScS w s p l c b i) (ht : w.heap[t]? = some (.cells ⟨TkC k0 a kE pp pl pc kE 0⟩ Zze (0, 0))) (hi : i + 2 <= l)
  (K0 : ∀ e, YdW (b.drop (i + 2)) = .error e -> e ≠ 0 -> ∀ w', Chg (S2 s t) w w' -> J e w')
  (K1 : ∀ n v i', YdW (b.drop (i + 2)) = .ok (n, v, b.drop i') -> i' <= l -> ∀ w', ScS w' s p l c b i' -> w'.heap[t]? = some (.cells ⟨TkC 8 a (mkB n) pp pl pc (mkB v) 0⟩ Zze (0, 0)) -> Chg (S2 s t) w w' -> J 0 w') :
  Zz0 Tryz.prog Zqx #[.pointer (some ⟨s, 0, none⟩), .pointer (some ⟨t, 0, none⟩)] w [.one (.int .i64)] J:=by
 refine YcS ?_
 simp only [Addr.add_mk, Nat.zero_add]
 have hl:=h.blen
 have hlen:=h.len
 have hne:=st_ne h ht
 refine stB ht (by simp [TkC]) fun w1 ht1 hc1 => ?_
 have h1:=h.chgT hc1 (Zzy ht) (by decide) (by decide)
 have c1 : Chg (S2 s t) w w1:=hc1.t2
 refine ZxJ h1.c1 ?_
 refine h1.st (j:=i + 2) (by rw [Zzb] <;> omega) hi fun w2 h2 hc2 => ?_
 have ht2:=hc2.heap ht1 (fun e => hne e.symm)
 have c2:=c1.and2 hc2.s2
 refine Name_ok (C.st c2 fun _ h => h).tt h2 (fun e he w3 hc3 => ?_) (fun n j he hj w3 h3 hc3 => ?_)
 ·have hne0:=YfC he
  refine Zzi (fun _ => ?_) (fun hh => absurd hh hne0)
  exact K0 e (by unfold YdW; rw [he]) hne0 w3 (c2.and2 hc3.s2)
 ·refine Zzi (fun hh => absurd rfl hh) (fun _ => ?_)
  have c3:=c2.and2 hc3.s2
  have ht3:=hc3.heap ht2 (fun e => hne e.symm)
  have C3:=C.st c3 fun _ h => h
  have ei : YdW (b.drop (i + 2)) = if nm n = false then .error 24 else if Ydq n = true then .error 29
    else if [63, 62].isPrefixOf (b.drop j) = true then .ok (n, [], (b.drop j).drop 2) else if (ZzE (b.drop j)).length = (b.drop j).length then .error 23
    else match Yea [63, 62] (ZzE (b.drop j)) with | .error e => .error e | .ok (x, r3) => .ok (n, x, r3):=by unfold YdW; rw [he]; rfl
  refine YeK C3.tt.tabs fun w4 hc4 => ?_
  rw [ZzH]
  refine Zzm (fun hf => ?_) (fun hnm => ?_)
  ·exact K0 24 (by rw [ei, if_pos hf]) (by decide) w4 (c3.and2 hc4.n2)
  rw [if_neg (by rw [hnm]; decide)] at ei
  have C4:=C3.st hc4 (fun _ f => f.elim)
  refine EqFold_ok C4.tt.fold (by rw [<- Zzn, ZzH]; simp only [nm, Bool.and_eq_true, decide_eq_true_eq] at hnm; omega) fun w5 hc5 => ?_
  rw [ZzH]
  refine Zz9 (fun hx => ?_) (fun hx => ?_)
  ·exact K0 29 (by rw [ei, if_pos hx]) (by decide) w5 ((c3.and2 hc4.n2).and2 hc5.n2)
  rw [if_neg (by rw [hx]; decide)] at ei
  have c5:=(c3.and2 hc4.n2).and2 hc5.n2
  have ht5:=(hc4.trans0 hc5).heap ht3 (fun f => f)
  have h5:=(h3.chg0 hc4).chg0 hc5
  refine stB ht5 (by simp [TkC]) fun w6 ht6 hc6 => ?_
  have h6:=h5.chgT hc6 (Zzy ht5) (by decide) (by decide)
  have c6:=c5.and2 hc6.t2
  refine YaN h6 fun w7 hc7 => ?_
  have h7:=h6.chg0 hc7
  have ht7:=hc7.heap ht6 (fun f => f)
  have c7:=c6.and2 hc7.n2
  rw [show bl ⟨#[63, 62]⟩ = [63, 62] from rfl]
  refine Zz9 (fun hp => ?_) (fun hp => ?_)
  ·rw [if_pos hp] at ei
   refine Yfp h7 (fun hs w8 _ hc8 => ?_) (fun i' hs hi' w8 h8 hc8 => ?_)
   ·exfalso
    unfold YbV at hs
    rw [show bl ⟨#[63, 62]⟩ = [63, 62] from rfl, hp] at hs; cases hs
   ·unfold YbV at hs
    rw [show bl ⟨#[63, 62]⟩ = [63, 62] from rfl, hp] at hs
    simp only [if_true, Except.ok.injEq] at hs
    refine K1 n [] i' (by rw [ei, <- hs]; rfl) hi' w8 h8 (hc8.heap ht7 (fun e => hne e.symm)) (c7.and2 hc8.s2)
  ·rw [if_neg (by rw [hp]; decide)] at ei
   refine ZxJ h7.c1 ?_
   refine ZqF h7 rfl h7.le fun j' w8 hj' hjj hjl hc8 => ?_
   have h8:=h7.chg0 hc8
   have c8:=c7.and2 hc8.n2
   refine ZxJ h8.c1 ?_
   refine Zzd (fun hjj2 => ?_) (fun hjj2 => ?_)
   ·have : j' = j:=by omega
    subst this
    exact K0 23 (by rw [ei, <- hj', if_pos rfl]) (by decide) w8 c8
   ·refine h8.st (j:=j') rfl hjl fun w9 h9 hc9 => ?_
    have c9:=c8.and2 hc9.s2
    have ht9:=hc9.heap (hc8.heap ht7 (fun f => f)) (fun e => hne e.symm)
    rw [<- hj', if_neg (by rw [length_drop, length_drop]; omega)] at ei
    refine UpTo_ok (sk:=0) (C.st c9 fun _ h => h).tt h9 ht9 rfl rfl hjl (by decide) (by decide) (fun hu w10 hc10 => ?_) (fun v i' hu hi' w10 h10 ht10 hc10 => ?_)
    ·rw [show bl ⟨#[63, 62]⟩ = [63, 62] from rfl, Nat.add_zero] at hu
     exact K0 23 (by rw [ei, hu]) (by decide) w10 (c9.and2 hc10)
    ·rw [show bl ⟨#[63, 62]⟩ = [63, 62] from rfl, Nat.add_zero] at hu
     exact K1 n v i' (by rw [ei, hu]) hi' w10 h10 ht10 (c9.and2 hc10)
theorem Closing_ok {w0 : World} {k0 a : Int} {pp : Option Addr} {pl pc : Nat} {J : Int -> World -> Prop} (C : Cx w0 w s t) (h : ScS w s p l c b i) (ht : w.heap[t]? = some (.cells ⟨TkC k0 a kE pp pl pc kE 0⟩ Zze (0, 0))) (hi : i + 2 <= l)
  (K0 : ∀ e, Yak (b.drop (i + 2)) = .error e -> e ≠ 0 -> ∀ w', Chg (S2 s t) w w' -> J e w')
  (K1 : ∀ n i', Yak (b.drop (i + 2)) = .ok (n, b.drop i') -> i' <= l -> ∀ w', ScS w' s p l c b i' -> w'.heap[t]? = some (.cells ⟨TkC 3 a (mkB n) pp pl pc kE 0⟩ Zze (0, 0)) -> Chg (S2 s t) w w' -> J 0 w') :
  Zz0 Tryz.prog Zq9 #[.pointer (some ⟨s, 0, none⟩), .pointer (some ⟨t, 0, none⟩)] w [.one (.int .i64)] J:=by
 refine Yca ?_
 simp only [Addr.add_mk, Nat.zero_add]
 have hl:=h.blen
 have hlen:=h.len
 have hne:=st_ne h ht
 refine stB ht (by simp [TkC]) fun w1 ht1 hc1 => ?_
 have h1:=h.chgT hc1 (Zzy ht) (by decide) (by decide)
 have c1 : Chg (S2 s t) w w1:=hc1.t2
 refine ZxJ h1.c1 ?_
 refine h1.st (j:=i + 2) (by rw [Zzb] <;> omega) hi fun w2 h2 hc2 => ?_
 have ht2:=hc2.heap ht1 (fun e => hne e.symm)
 have c2:=c1.and2 hc2.s2
 refine Name_ok (C.st c2 fun _ h => h).tt h2 (fun e he w3 hc3 => ?_) (fun n j he hj w3 h3 hc3 => ?_)
 ·have hne0:=YfC he
  refine Zzi (fun _ => ?_) (fun hh => absurd hh hne0)
  exact K0 e (by unfold Yak; rw [he]) hne0 w3 (c2.and2 hc3.s2)
 ·refine Zzi (fun hh => absurd rfl hh) (fun _ => ?_)
  have c3:=c2.and2 hc3.s2
  have ht3:=hc3.heap ht2 (fun e => hne e.symm)
  have ei : Yak (b.drop (i + 2)) = match YbV [62] (ZzE (b.drop j)) with | .error e => .error e | .ok r3 => .ok (n, r3):=by unfold Yak; rw [he]; rfl
  refine stB ht3 (by simp [TkC]) fun w4 ht4 hc4 => ?_
  have h4:=h3.chgT hc4 (Zzy ht3) (by decide) (by decide)
  have c4:=c3.and2 hc4.t2
  refine ZxJ h4.c1 ?_
  refine ZqF h4 rfl h4.le fun j' w5 hj' hjj hjl hc5 => ?_
  have h5:=h4.chg0 hc5
  refine h5.st (j:=j') rfl hjl fun w6 h6 hc6 => ?_
  have c6:=(c4.and2 hc5.n2).and2 hc6.s2
  have ht6:=hc6.heap (hc5.heap ht4 (fun f => f)) (fun e => hne e.symm)
  refine Yfp h6 (fun hs w7 _ hc7 => ?_) (fun i' hs hi' w7 h7 hc7 => ?_)
  ·rw [show bl ⟨#[62]⟩ = [62] from rfl, hj'] at hs
   exact K0 23 (by rw [ei, hs]) (by decide) w7 (c6.and2 hc7.n2)
  ·rw [show bl ⟨#[62]⟩ = [62] from rfl, hj'] at hs
   exact K1 n i' (by rw [ei, hs]) hi' w7 h7 (hc7.heap ht6 (fun e => hne e.symm)) (c6.and2 hc7.s2)
theorem ReadTxt_ok {p : Option Addr} {l c : Nat} {bs : List UInt8} {J : ByteArray -> Int -> Int -> World -> Prop} (h : Bytes w p l bs) (hlc : l <= c) (hm : l <= 140737488355328) (T : Tabs w)
  (K : ∀ w', Chg No w w' -> J (mkB (ZyB false 0 bs []).1) ((ZyB false 0 bs []).2.1 : Int) ((ZyB false 0 bs []).2.2 : Int) w') : Zz0 Tryz.prog Yb0 #[.slice p l c] w [.one .str, .one (.int .i64), .one (.int .i64)] J:=by
 refine YgM ?_
 exact ReadC_ok h hlc hm T K
theorem ReadVal_ok {p : Option Addr} {l c : Nat} {bs : List UInt8} {J : ByteArray -> Int -> Int -> World -> Prop} (h : Bytes w p l bs) (hlc : l <= c) (hm : l <= 140737488355328) (T : Tabs w)
  (K : ∀ w', Chg No w w' -> J (mkB (ZyB true 0 bs []).1) ((ZyB true 0 bs []).2.1 : Int) ((ZyB true 0 bs []).2.2 : Int) w') : Zz0 Tryz.prog YaI #[.slice p l c] w [.one .str, .one (.int .i64), .one (.int .i64)] J:=by
 refine Ygh ?_
 exact ReadC_ok h hlc hm T K
theorem CountB_ok {q : Option Addr} {m d b2 e2 : Nat} {bs : List UInt8} {v : UInt8} {J : Int -> World -> Prop} (h : Bytes w q m bs) (hm : m ≠ 0) (h2 : Bytes w (some ⟨b2, 0, none⟩) 1 [v]) (K : J ((bs.count v : Nat) : Int) w) :
  Zz0 Tryz.prog YcO #[.slice q m d, .slice (some ⟨b2, 0, none⟩) 1 e2] w [.one (.int .i64)] J:=by
 obtain ⟨a, rfl, _⟩:=h.at hm
 have hl:=h.len
 refine c_bytes_Count ?_
 refine Zz9 (fun h => absurd h (by decide)) fun _ => ?_
 refine Zz9 (fun _ => ?_) (fun h => absurd h (by decide))
 refine Ycb h2 (by decide) (by decide) fun x hx => ?_
 simp at hx
 subst hx
 refine ⟨_, _, ?_, _, rfl, K⟩
 rw [run_callFunc_extern (fn:=Tryz.prog.funcs[Ya8]!) (by kernel_rfl) (by kernel_rfl) (by kernel_rfl) (by kernel_rfl) (e:=Extern.BytealgCount.count) (by kernel_rfl), Lib.run_countAt w a m d (bs.map fun b => (b.toNat : Int)) (by rw [length_map]; exact hl) (YhA h)]
 have e3 : ((v.toNat : Nat) : Int).toNat.toUInt8 = v:=by simp
 rw [Yd5, e3]
 rfl
theorem TextT_ok {w0 : World} {k0 a : Int} {pp : Option Addr} {pl pc : Nat} {n0 x0 : ByteArray} {J : Int -> World -> Prop} (C : Cx w0 w s t) (h : ScS w s p l c b i) (ht : w.heap[t]? = some (.cells ⟨TkC k0 a n0 pp pl pc x0 0⟩ Zze (0, 0))) (hne0 : (b.drop i).takeWhile (· != 60) ≠ [])
  (K0 : (ZyB false 0 ((b.drop i).takeWhile (· != 60)) []).2.2 ≠ 0 -> ∀ w', Chg (S2 s t) w w' -> J ((ZyB false 0 ((b.drop i).takeWhile (· != 60)) []).2.2 : Nat) w')
  (K1 : (ZyB false 0 ((b.drop i).takeWhile (· != 60)) []).2.2 = 0 -> ∀ i', i' = i + ((b.drop i).takeWhile (· != 60)).length -> i' <= l -> ∀ w', ScS w' s p l c b i' ->
   w'.heap[t]? = some (.cells ⟨TkC 5 a n0 pp pl pc (mkB (ZyB false 0 ((b.drop i).takeWhile (· != 60)) []).1) (((b.drop i).takeWhile (· != 60)).count 38 : Nat)⟩ Zze (0, 0)) -> Chg (S2 s t) w w' -> J 0 w') :
  Zz0 Tryz.prog ZqX #[.pointer (some ⟨s, 0, none⟩), .pointer (some ⟨t, 0, none⟩)] w [.one (.int .i64)] J:=by
 refine Yde ?_
 simp only [Addr.add_mk, Nat.zero_add]
 have hl:=h.blen
 have hlen:=h.len
 have hle:=h.le
 have hne:=st_ne h ht
 refine stB ht (by simp [TkC]) fun w1 ht1 hc1 => ?_
 have h1:=h.chgT hc1 (Zzy ht) (by decide) (by decide)
 have h1d:=h1.drew
 have c1 : Chg (S2 s t) w w1.drew:=hc1.t2.and2 (Zy0 w1).n2
 have ht1d:=(Zy0 w1).heap ht1 (fun f => f)
 refine ⟨_, _, _, h1d.c0, _, h1d.c1, ?_⟩
 refine h1d.rest rfl hle fun q hq _ hoq => ?_
 have hrl : (b.drop i).length = l - i:=hq.len
 generalize hR : b.drop i = R at *
 have htl : (R.takeWhile (· != 60)).length <= R.length:=(takeWhile_sublist _).length_le
 have hpos:=length_pos_iff.2 hne0
 refine Zz7 fun J5 hJ5 => ?_
 have k5 : ∀ (q' : Option Addr) (m c' : Nat) (w2 : World), Bytes w2 q' m (R.takeWhile (· != 60)) -> m <= c' -> Chg No w1.drew w2 -> J5 q' m c' w2:=by
  intro q' m c' w2 hq' hc' hc2
  subst hJ5
  dsimp only
  have hml:=hq'.len
  have c2:=c1.and2 hc2.n2
  have C2:=C.st c2 fun _ h => h
  refine ReadTxt_ok hq' hc' (by omega) C2.tt.tabs fun w3 hc3 => ?_
  refine litB (bs:=[38]) rfl fun b39 w5 hb hb39 hc5 => ?_
  have c5:=(c2.and2 hc3.n2).and2 hc5.n2
  refine CountB_ok (v:=38) ((hq'.chg hc3 (off_no _)).chg hc5 (off_no _)) (by omega) hb ?_
  have ht5:=hc5.heap (hc3.heap (hc2.heap ht1d (fun f => f)) (fun f => f)) (fun f => f)
  have h5:=((h1d.chg0 hc2).chg0 hc3).chg0 hc5
  refine stB ht5 (by simp [TkC]) fun w7 ht7 hc7 => ?_
  refine stB ht7 (by simp [TkC]) fun w8 ht8 hc8 => ?_
  have h7:=h5.chgT hc7 (Zzy ht5) (by decide) (by decide)
  have h8:=h7.chgT hc8 (Zzy ht7) (by decide) (by decide)
  have c8:=(c5.and2 hc7.t2).and2 hc8.t2
  refine ZxJ h8.c1 ?_
  refine h8.st (j:=i + (R.takeWhile (· != 60)).length) (by rw [<- hml, Zzb] <;> omega) (by omega) fun w9 h9 hc9 => ?_
  have ht9:=hc9.heap ht8 (fun e => hne e.symm)
  have c9:=c8.and2 hc9.s2
  by_cases he : (ZyB false 0 (R.takeWhile (· != 60)) []).2.2 = 0
  ·have:=K1 he _ rfl (by omega) w9 h9 ht9 c9
   rw [he]; exact this
  ·exact K0 he w9 c9
 clear hJ5
 refine Yia (v:=60) hq ?_
 by_cases hm : (60 : UInt8) ∈ R
 ·rw [tw_index hm]
  refine Zz4 (fun _ => ?_) (fun hh => absurd (Int.natCast_nonneg _) hh)
  refine YfX hq (by have:=h.lc; omega) rfl (by omega) fun q' c' hq' hc' _ => ?_
  rw [tw_take] at hq'
  exact k5 q' _ c' _ hq' hc' (Chg.refl _ _)
 ·have htw : R.takeWhile (· != 60) = R:=by
   refine tw_self fun x hx => ?_
   rw [bne_iff_ne]; rintro rfl; exact hm hx
  rw [index_none hm]
  refine Zz4 (fun hh => absurd hh (by decide)) (fun _ => ?_)
  exact k5 q _ _ _ (by rw [htw]; exact hq) (by have:=h.lc; omega) (Chg.refl _ _)
theorem slT_pairT : SlT Tryz.prog Yae Zzo 2 32 #[.string ByteArray.empty, .string ByteArray.empty]:=SlT.of (by kernel_rfl) (by kernel_rfl) rfl (by decide)
theorem Yav {w0 w1 : World} {q : Option Addr} (hs : w0.heap.size <= w1.heap.size) (h : fresh w1 q) : fresh w0 q:=fun a ha => Nat.le_trans hs (h a ha)
theorem Yal {w : World} {e : TypeId} {sz m d x : Nat} {q : Option Addr} {xs : List Value} (h : Row w e sz q m d xs) {e2 : TypeId} (hx : typ w x = some e2) (he : e ≠ e2) : off q (fun y => y = x):=by
 intro a ha hy
 have:=h.typ a ha
 rw [hy, hx] at this
 exact he (Option.some.inj this).symm
theorem Tag_ok {w0 : World} {k0 a : Int} {J : Int -> World -> Prop} (C : Cx w0 w s t) (h : ScS w s p l c b i) (ht : w.heap[t]? = some (.cells ⟨TkC k0 a kE none 0 0 kE 0⟩ Zze (0, 0))) (hi : i + 1 <= l)
  (K0 : ∀ e, (YbB (b.drop (i + 1)) = .error e \/ ∃ n r2, YbB (b.drop (i + 1)) = .ok (n, r2) /\ ZxE ((b.drop i).length + 1) r2 [] = .error e) -> e ≠ 0 -> ∀ w', Chg (S2 s t) w w' -> J e w')
  (K1 : ∀ n r2 k L i', YbB (b.drop (i + 1)) = .ok (n, r2) -> ZxE ((b.drop i).length + 1) r2 [] = .ok (k, L, b.drop i') -> i' <= l -> ∀ w' pp pc, ScS w' s p l c b i' ->
   w'.heap[t]? = some (.cells ⟨TkC k a (mkB n) pp L.length pc kE 0⟩ Zze (0, 0)) -> Row w' Zzo 2 pp L.length pc (rows pr L) -> fresh w pp -> Chg (S2 s t) w w' -> J 0 w') :
  Zz0 Tryz.prog Yaq #[.pointer (some ⟨s, 0, none⟩), .pointer (some ⟨t, 0, none⟩)] w [.one (.int .i64)] J:=by
 refine YdI ?_
 simp only [Addr.add_mk, Nat.zero_add]
 have hl:=h.blen
 have hlen:=h.len
 have hne:=st_ne h ht
 rw [YfV]
 refine (Hp.start w No).newB fun b6 w1 H1 hb6 hc1 => ?_
 have q1:=H1.get 0 rfl
 have h1:=h.chg0 hc1
 have ht1:=hc1.heap ht (fun f => f)
 have hs6 : s < w.heap.size:=Zy4 h.cell
 have ht6 : t < w.heap.size:=Zy4 ht
 have hb61 : b6 < w1.heap.size:=Zy4 q1
 have n6s : b6 ≠ s:=by omega
 have n6t : b6 ≠ t:=by omega
 refine ZxJ h1.c1 ?_
 refine h1.st (j:=i + 1) (by rw [Zzb] <;> omega) hi fun w2 h2 hc2 => ?_
 have c2 : Chg (S2 s t) w w2:=hc1.n2.and2 hc2.s2
 have ht2:=hc2.heap ht1 (fun e => hne e.symm)
 have q2:=hc2.heap q1 (fun e => n6s e)
 refine Name_ok (C.st c2 fun _ h => h).tt h2 (fun e he w3 hc3 => ?_) (fun n j0 he hj0 w3 h3 hc3 => ?_)
 ·have hne0:=YfC he
  refine Zzi (fun _ => ?_) (fun hh => absurd hh hne0)
  exact K0 e (.inl he) hne0 w3 (c2.and2 hc3.s2)
 refine Zzi (fun hh => absurd rfl hh) (fun _ => ?_)
 have c3:=c2.and2 hc3.s2
 have ht3:=hc3.heap ht2 (fun e => hne e.symm)
 have q3:=hc3.heap q2 (fun e => n6s e)
 refine stB ht3 (by simp [TkC]) fun w4 ht4 hc4 => ?_
 refine stB ht4 (by simp [TkC]) fun w5 ht5 hc5 => ?_
 have h4:=h3.chgT hc4 (Zzy ht3) (by decide) (by decide)
 have h5:=h4.chgT hc5 (Zzy ht4) (by decide) (by decide)
 have c5:=(c3.and2 hc4.t2).and2 hc5.t2
 have q5:=hc5.heap (hc4.heap q3 (fun e => n6t e)) (fun e => n6t e)
 have hNl : (b.drop i).length = l - i:=by rw [length_drop, hl]
 have hj1 : i + 1 <= j0:=by
  have : YbB (b.drop (i + 1)) = .ok (n, b.drop j0):=he
  unfold YbB at this
  split at this
  ·cases this
  ·split at this
   ·cases this
   ·simp only [Except.ok.injEq, Prod.mk.injEq] at this
    have h2:=congrArg length this.2
    rw [drop_drop, length_drop, length_drop] at h2
    omega
 have K0' : ∀ e, ZxE ((b.drop i).length + 1) (b.drop j0) [] = .error e -> e ≠ 0 -> ∀ w', Chg (S2 s t) w w' -> J e w':=fun e hp he0 w' hc => K0 e (.inr ⟨n, _, he, hp⟩) he0 w' hc
 have K1':=fun k L i' => K1 n (b.drop j0) k L i' he
 clear K0 K1
 generalize hR0 : ZxE ((b.drop i).length + 1) (b.drop j0) [] = R0 at K0' K1'
 refine ⟨fun w' m => ∃ (j : Nat) (acc : List Pr) (f : Nat) (pp : Option Addr) (pc : Nat) (u v : ByteArray), m = l - j /\ ScS w' s p l c b j /\ w'.heap[t]? = some (.cells ⟨TkC 2 a (mkB n) pp acc.length pc kE 0⟩ Zze (0, 0)) /\ Row w' Zzo 2 pp acc.length pc (rows pr acc) /\ (∀ a, pp = some a -> b6 < a.block) /\
   l - j < f /\ acc.length + (l - j) <= l /\ ZxE f (b.drop j) acc = R0 /\ w'.heap[b6]? = some (.cells ⟨[.string u, .string v]⟩ Zzo (0, 0)) /\ Chg (S2 s t) w w',
  ⟨_, j0, [], (b.drop i).length + 1, none, 0, _, _, rfl, h5, ht5, Row.nil _ _ _, (by rintro a ⟨⟩), by omega, by simp, hR0, q5, c5⟩, ?_⟩
 clear h1 h2 h3 h4 h5 ht1 ht2 ht3 ht4 ht5 q1 q2 q3 q5 H1 c2 c3 c5 hc2 hc3 hc4 hc5
 rintro w6 m ⟨j, acc, f, pp, pc, u, v, rfl, h6, ht6', hr6, hf6, hfuel, hacc, hpe, q6, c6⟩
 have hjle:=h6.le
 obtain ⟨f', rfl⟩ : ∃ f', f = f' + 1:=⟨f - 1, by omega⟩
 unfold ZxE at hpe
 refine ZxJ h6.c1 ?_
 refine ZqF h6 rfl hjle fun j' w7 hj' hjj hjl hc7 => ?_
 rw [<- hj'] at hpe
 have h7:=h6.chg0 hc7
 refine h7.st (j:=j') rfl hjl fun w8 h8 hc8 => ?_
 have ht8:=hc8.heap (hc7.heap ht6' (fun f => f)) (fun e => hne e.symm)
 have q8:=hc8.heap (hc7.heap q6 (fun f => f)) (fun e => n6s e)
 have c8:=(c6.and2 hc7.n2).and2 hc8.s2
 have hr8:=(hr6.chg hc7 (off_no _)).chg hc8 (Yal (hr6.chg hc7 (off_no _)) h7.ts (by decide))
 refine YaN h8 fun w9 hc9 => ?_
 have h9:=h8.chg0 hc9
 have ht9:=hc9.heap ht8 (fun f => f)
 have c9:=c8.and2 hc9.n2
 have hr9:=hr8.chg hc9 (off_no _)
 have q9:=hc9.heap q8 (fun f => f)
 rw [show bl ⟨#[47, 62]⟩ = [47, 62] from rfl]
 have hfw : fresh w pp:=fun a ha => by have:=hf6 a ha; omega
 refine Zz9 (fun hp => ?_) (fun hp => ?_)
 ·rw [if_pos hp] at hpe
  refine stB ht9 (by simp [TkC]) fun w10 ht10 hc10 => ?_
  have h10:=h9.chgT hc10 (Zzy ht9) (by decide) (by decide)
  have hr10:=hr9.chg hc10 (Yal hr9 (Zzy ht9) (by decide))
  refine Yfp h10 (fun hs w11 _ hc11 => ?_) (fun i' hs hi' w11 h11 hc11 => ?_)
  ·exfalso
   unfold YbV at hs
   rw [show bl ⟨#[47, 62]⟩ = [47, 62] from rfl, hp] at hs; cases hs
  ·unfold YbV at hs
   rw [show bl ⟨#[47, 62]⟩ = [47, 62] from rfl, hp] at hs
   simp only [if_true, Except.ok.injEq] at hs
   refine K1' 4 acc i' (by rw [<- hpe, <- hs]; rfl) hi' w11 pp pc h11 (hc11.heap ht10 (fun e => hne e.symm)) (hr10.chg hc11 (Yal hr10 h10.ts (by decide))) hfw ((c9.and2 hc10.t2).and2 hc11.s2)
 rw [if_neg (by rw [hp]; decide)] at hpe
 refine YaN h9 fun w12 hc12 => ?_
 have h12:=h9.chg0 hc12
 have ht12:=hc12.heap ht9 (fun f => f)
 have c12:=c9.and2 hc12.n2
 have hr12:=hr9.chg hc12 (off_no _)
 have q12:=hc12.heap q9 (fun f => f)
 rw [show bl ⟨#[62]⟩ = [62] from rfl]
 refine Zz9 (fun hp2 => ?_) (fun hp2 => ?_)
 ·rw [if_pos hp2] at hpe
  refine Yfp h12 (fun hs w13 _ hc13 => ?_) (fun i' hs hi' w13 h13 hc13 => ?_)
  ·exfalso
   unfold YbV at hs
   rw [show bl ⟨#[62]⟩ = [62] from rfl, hp2] at hs; cases hs
  ·unfold YbV at hs
   rw [show bl ⟨#[62]⟩ = [62] from rfl, hp2] at hs
   simp only [if_true, Except.ok.injEq] at hs
   refine K1' 2 acc i' (by rw [<- hpe, <- hs]; rfl) hi' w13 pp pc h13 (hc13.heap ht12 (fun e => hne e.symm)) (hr12.chg hc13 (Yal hr12 h12.ts (by decide))) hfw (c12.and2 hc13.s2)
 rw [if_neg (by rw [hp2]; decide)] at hpe
 refine ZxJ h12.c1 ?_
 refine Zzd (fun hjj2 => ?_) (fun hjj2 => ?_)
 ·have : j' = j:=by omega
  subst this
  exact K0' 23 (by rw [<- hpe, if_pos rfl]) (by decide) w12 c12
 have hjlt : j < j':=by omega
 rw [if_neg (by rw [length_drop, length_drop]; omega)] at hpe
 unfold YeL at hpe
 refine Name_ok (C.st c12 fun _ h => h).tt h12 (fun e he2 w14 hc14 => ?_) (fun pn j2 he2 hj2 w14 h14 hc14 => ?_)
 ·have hne0:=YfC he2
  rw [he2] at hpe
  refine stB (hc14.heap q12 (fun e => n6s e)) (by simp) fun w15 q15 hc15 => ?_
  refine Zzi (fun _ => ?_) (fun hh => absurd hh hne0)
  exact K0' e hpe.symm hne0 w15 ((c12.and2 hc14.s2).trans hc15 fun x hx e => by subst e; omega)
 rw [he2] at hpe
 dsimp only at hpe
 have ht14:=hc14.heap ht12 (fun e => hne e.symm)
 have hr14:=hr12.chg hc14 (Yal hr12 h12.ts (by decide))
 have c14:=c12.and2 hc14.s2
 have q14:=hc14.heap q12 (fun e => n6s e)
 have tq14:=Zzy q14
 have hpb : off pp (fun x => x = b6):=fun a ha e => by have:=hf6 a ha; omega
 refine stB q14 (by simp) fun w15 q15 hc15 => ?_
 have h15:=h14.chgT hc15 tq14 (by decide) (by decide)
 have ht15:=hc15.heap ht14 (fun e => n6t e.symm)
 have hr15:=hr14.chg hc15 hpb
 have c15 : Chg (S2 s t) w w15:=c14.trans hc15 fun x hx e => by subst e; omega
 refine Zzi (fun hh => absurd rfl hh) (fun _ => ?_)
 refine Equals_ok h15 (fun he3 w16 hc16 => ?_) (fun j3 he3 hj3 w16 h16 hc16 => ?_)
 ·refine Zzi (fun _ => ?_) (fun hh => absurd hh (by decide))
  exact K0' 23 (by rw [<- hpe, he3]) (by decide) w16 (c15.and2 hc16.s2)
 refine Zzi (fun hh => absurd rfl hh) (fun _ => ?_)
 rw [he3] at hpe
 dsimp only at hpe
 have ht16:=hc16.heap ht15 (fun e => hne e.symm)
 have hr16:=hr15.chg hc16 (Yal hr15 h15.ts (by decide))
 have c16:=c15.and2 hc16.s2
 have q16:=hc16.heap q15 (fun e => n6s e)
 refine Quoted_ok h16 (fun he4 w17 hc17 => ?_) (fun qv j4 q c' he4 hj4 w17 h17 hqb hqc hql _ hc17 => ?_)
 ·refine Zzi (fun _ => ?_) (fun hh => absurd hh (by decide))
  exact K0' 23 (by rw [<- hpe, he4]) (by decide) w17 (c16.and2 hc17.s2)
 refine Zzi (fun hh => absurd rfl hh) (fun _ => ?_)
 rw [he4] at hpe
 dsimp only at hpe
 have ht17:=hc17.heap ht16 (fun e => hne e.symm)
 have hr17:=hr16.chg hc17 (Yal hr16 h16.ts (by decide))
 have c17:=c16.and2 hc17.s2
 have q17:=hc17.heap q16 (fun e => n6s e)
 refine ReadVal_ok hqb hqc (by omega) (C.st c17 fun _ h => h).tt.tabs fun w18 hc18 => ?_
 have q18:=hc18.heap q17 (fun f => f)
 refine stB q18 (by simp) fun w19 q19 hc19 => ?_
 have h18:=h17.chg0 hc18
 have h19:=h18.chgT hc19 (Zzy q18) (by decide) (by decide)
 have ht19:=hc19.heap (hc18.heap ht17 (fun f => f)) (fun e => n6t e.symm)
 have hr19:=(hr17.chg hc18 (off_no _)).chg hc19 hpb
 have c19 : Chg (S2 s t) w w19:=(c17.and2 hc18.n2).trans hc19 fun x hx e => by subst e; omega
 by_cases hrd : (ZyB true 0 qv []).2.2 ≠ 0
 ·rw [if_pos hrd] at hpe
  refine Zzi (fun _ => ?_) (fun hh => absurd hh (by omega))
  exact K0' _ (by rw [<- hpe]) (by omega) w19 c19
 rw [if_neg hrd] at hpe
 have hrd : (ZyB true 0 qv []).2.2 = 0:=Decidable.not_not.1 hrd
 dsimp only at hpe
 refine Zzi (fun hh => absurd (by rw [hrd]; rfl) hh) (fun _ => ?_)
 refine Yd4 (Ybp ht19 rfl) ?_
 simp only [set_cons_zero, set_cons_succ] at q19
 have hal : acc.length = acc.length:=rfl
 refine ⟨fun x w' m => ∃ k : Nat, x = k /\ k <= acc.length /\ m = acc.length - k /\ Chg No w19 w' /\ ∀ q ∈ acc.take k, q.1 ≠ mkB pn, ⟨_, 0, rfl, Nat.zero_le _, rfl, Chg.refl _ _, by simp⟩, ?_⟩
 rintro x w20 m2 ⟨k, rfl, hk, rfl, hc20, hno⟩
 have hr20:=hr19.chg hc20 (off_no _)
 have q20:=hc20.heap q19 (fun f => f)
 refine Zz4 (fun hlt => ?_) (fun hge => ?_)
 ·refine pr_i hr20.sl (by omega) hlt fun ad y hy e1 e2 => ?_
  rw [Int.toNat_natCast] at hy
  refine ZzB e1 (ZzB e2 ?_)
  refine (Hp.start w20 No).newB fun b11 w21 H21 hb11 hc21 => ?_
  refine H21.stN 0 rfl (off:=0) rfl (by simp) (YaZ y) fun w22 H22 hc22 => ?_
  simp only [set_cons_zero] at H22
  refine H22.ldStr 0 rfl (off:=0) rfl ?_
  have c2022 : Chg No w20 w22:=H22.chg
  have q22:=c2022.heap q20 (fun f => f)
  refine ZzB (Ybp q22 rfl) ?_
  rw [Ycl]
  refine Zz4 (fun heq => ?_) (fun hneq => ?_)
  ·refine K0' 27 ?_ (by decide) w22 ((c19.and2 hc20.n2).and2 c2022.n2)
   have : acc.any (fun q => decide (q.1 = mkB pn)) = true:=any_eq_true.2 ⟨y, mem_of_getElem? hy, decide_eq_true heq⟩
   rw [<- hpe, if_pos this]
  ·refine ⟨_, by omega, k + 1, by rw [Zzb] <;> omega, by omega, rfl, hc20.trans0 c2022, fun q hq => ?_⟩
   rw [Yaf hy] at hq
   rcases mem_append.1 hq with hq | hq
   ·exact hno q hq
   ·rw [mem_singleton.1 hq]; exact hneq
 ·have hk2 : k = acc.length:=by omega
  subst hk2
  rw [take_length] at hno
  have hany : acc.any (fun q => decide (q.1 = mkB pn)) = false:=by
   rw [any_eq_false]; intro q hq; simpa using hno q hq
  rw [if_neg (by rw [hany]; decide)] at hpe
  have hd:=Zy0 w20
  have ht20:=hc20.heap ht19 (fun f => f)
  have q20d:=hd.heap q20 (fun f => f)
  have ht20d:=hd.heap ht20 (fun f => f)
  refine Yd4 (Ybp ht20d rfl) ?_
  refine ZzB (Ybp q20d rfl) (ZzB (Ybp q20d rfl) ?_)
  refine ⟨rfl, ?_⟩
  refine newRow (n:=1) (sz:=2) rfl (by decide) fun b114 w23 hrow hb114 hc23 => ?_
  have ht23:=hc23.heap ht20d (fun f => f)
  refine ⟨Ybp ht23 rfl, ?_⟩
  have hr23:=((hr20.chg hd (off_no _)).chg hc23 (off_no _))
  refine Ycc slT_pairT hr23 hrow.sl (YaZ (mkB pn, mkB (ZyB true 0 qv []).1)) (by simp) (by omega) (by unfold maxLen; omega) fun p' c2' w24 hr24 hc24 hf24 => ?_
  have ht24:=hc24.heap ht23 (fun ⟨a, ha, e⟩ => by
   have:=hr23.typ a ha
   rw [e, Zzy ht23] at this; revert this; decide)
  have h24 : ScS w24 s p l c b j4:=((((h19.chg0 hc20).drew).chg0 hc23)).chg hc24 (fun ⟨a, ha, e⟩ => by
   have:=hr23.typ a ha
   rw [e, ((((h19.chg0 hc20).drew).chg0 hc23)).ts] at this; revert this; decide) (fun x ⟨a, ha, e⟩ => by
   have:=hr23.typ a ha
   rw [e] at this; rw [this]; decide)
  have q24:=hc24.heap (hc23.heap q20d (fun f => f)) (fun ⟨a, ha, e⟩ => hpb a ha e)
  refine stB ht24 (by simp [TkC]) fun w25 ht25 hc25 => ?_
  have h25:=h24.chgT hc25 (Zzy ht24) (by decide) (by decide)
  have q25:=hc25.heap q24 (fun e => n6t e)
  have hr25:=hr24.chg hc25 (Yal hr24 (Zzy ht24) (by decide))
  have hcw : Chg (S2 s t) w w25:=by
   have e1 : Chg (S2 s t) w w23:=((c19.and2 hc20.n2).and2 hd.n2).and2 hc23.n2
   exact (e1.trans hc24 fun x hx ⟨a, ha, e⟩ => by have:=hfw a ha; omega).and2 hc25.t2
  have g2:=YbY he2
  have g3:=Yfg he3
  have g4:=Yf5 he4
  simp only [length_drop, hl] at g2 g3 g4
  refine ⟨_, ?_, j4, acc ++ [(mkB pn, mkB (ZyB true 0 qv []).1)], f', p', c2', _, _, rfl, h25, ?_, ?_, ?_, ?_, ?_, hpe, q25, hcw⟩
  ·omega
  ·rw [length_append]; exact ht25
  ·rw [length_append, Zyx]; exact hr25
  ·rcases hf24 with rfl | ⟨hf24, _⟩
   ·exact hf6
   ·intro a ha
    have:=hf24 a ha
    have:=Zy4 (hc23.heap q20d (fun f => f))
    omega
  ·omega
  ·rw [length_append, length_singleton]; omega
end
end Go.Proofs.YtglnmjflpkeclaaGreatDoor
end
section
namespace Go.Proofs.YtglnmjflpkeclaaGreatDoor
open Go Go.Vc Go.Lib
section
variable {w w' : World} {s t : Nat} {p : Option Addr} {l c : Nat} {b : List UInt8} {i : Nat}
def YfF : List ByteArray:=[⟨#[118, 101, 114, 115, 105, 111, 110]⟩, ⟨#[101, 110, 99, 111, 100, 105, 110, 103]⟩, ⟨#[115, 116, 97, 110, 100, 97, 108, 111, 110, 101]⟩]
theorem fits_en {v : List UInt8} (h : fitsL Yc0 v = true) : v.all isEn = true:=by
 unfold fitsL at h
 rw [if_neg (by decide), if_pos rfl, Bool.and_eq_true] at h
 exact h.2
set_option maxHeartbeats 400000 in
theorem Decl_ok {w0 : World} {k0 a : Int} {J : Int -> World -> Prop} (C : Cx w0 w s t) (h : ScS w s p l c b i) (ht : w.heap[t]? = some (.cells ⟨TkC k0 a kE none 0 0 kE 0⟩ Zze (0, 0))) (hi : 5 <= l)
  (K0 : ∀ e, Yge (b.drop 5) = .error e -> e ≠ 0 -> ∀ w', Chg (S2 s t) w w' -> J e w')
  (K1 : ∀ L i', Yge (b.drop 5) = .ok (L, b.drop i') -> i' <= l -> ∀ w' pp pc, ScS w' s p l c b i' ->
   w'.heap[t]? = some (.cells ⟨TkC 1 a kE pp L.length pc kE 0⟩ Zze (0, 0)) -> Row w' Zzo 2 pp L.length pc (rows pr L) -> fresh w pp -> Chg (S2 s t) w w' -> J 0 w') :
  Zz0 Tryz.prog ZqY #[.pointer (some ⟨s, 0, none⟩), .pointer (some ⟨t, 0, none⟩)] w [.one (.int .i64)] J:=by
 refine Ydi ?_
 simp only [Addr.add_mk, Nat.zero_add]
 have hl:=h.blen
 have hlen:=h.len
 have hne:=st_ne h ht
 have hs0 : s < w.heap.size:=Zy4 h.cell
 have ht0 : t < w.heap.size:=Zy4 ht
 refine stB ht (by simp [TkC]) fun w1 ht1 hc1 => ?_
 have h1:=h.chgT hc1 (Zzy ht) (by decide) (by decide)
 have c1 : Chg (S2 s t) w w1:=hc1.t2
 refine h1.st (j:=5) rfl hi fun w2 h2 hc2 => ?_
 have ht2:=hc2.heap ht1 (fun e => hne e.symm)
 have c2:=c1.and2 hc2.s2
 refine newRow (n:=3) (sz:=1) (cs:=strs YfF) rfl (by decide) fun b18 w3 hrow hb18 hc3 => ?_
 have h3:=h2.chg0 hc3
 have ht3:=hc3.heap ht2 (fun f => f)
 have c3:=c2.and2 hc3.n2
 have tW:=hrow.typ _ rfl
 dsimp only at tW
 have hW3:=hrow.sl
 clear h1 h2 ht1 ht2 hc1 hc2 hc3 c1 c2 hrow
 generalize hR0 : Ybt [YeD, Yc0, Yhz] (b.drop 5) [] [] = R0
 refine ⟨fun last x w' m => ∃ (k j : Nat) (acc : List Pr) (la : List UInt8) (pp : Option Addr) (pc : Nat), x = k /\ k <= 3 /\ m = 3 - k /\ last = mkB la /\ la.all isEn = true /\ la.length <= l /\ acc.length <= k /\ ScS w' s p l c b j /\
   w'.heap[t]? = some (.cells ⟨TkC 1 a kE pp acc.length pc kE 0⟩ Zze (0, 0)) /\ Row w' Zzo 2 pp acc.length pc (rows pr acc) /\ fresh w pp /\
   Ybt ((YfF.drop k).map bl) (b.drop j) acc la = R0 /\ Sl w' (some ⟨b18, 0, none⟩) 3 1 (strs YfF) /\ typ w' b18 = some Zz8 /\ Chg (S2 s t) w w',
  ⟨_, 0, 5, [], [], none, 0, rfl, Nat.zero_le _, rfl, rfl, rfl, Nat.zero_le _, Nat.le_refl _, h3, ht3, Row.nil _ _ _, (by rintro a ⟨⟩), hR0, hW3, tW, c3⟩, ?_⟩
 clear h3 ht3 c3 tW hW3
 rintro last x w4 m ⟨k, j, acc, la, pp, pc, rfl, hk, rfl, rfl, hen, hlal, hacc, h4, ht4, hr4, hf4, hst, hW4, tW4, c4⟩
 have hjle:=h4.le
 have n18s : b18 ≠ s:=fun e => by rw [e, h4.ts] at tW4; revert tW4; decide
 have n18t : b18 ≠ t:=fun e => by rw [e, Zzy ht4] at tW4; revert tW4; decide
 refine Zz4 (fun hlt => ?_) (fun hge => ?_)
 ·refine Zz7 fun J5 hJ5 => ?_
  refine Yhb hW4 (by omega) hlt fun wd hwd => ?_
  rw [Int.toNat_natCast] at hwd
  have hwk : (YfF.drop k).map bl = bl wd :: (YfF.drop (k + 1)).map bl:=by rw [head_dropG hwd]; rfl
  rw [hwk] at hst
  unfold Ybt at hst
  have hws : wd.size <= 10 /\ bl wd ≠ []:=by
   have : ∀ y ∈ YfF, y.size <= 10 /\ bl y ≠ []:=by decide
   exact this wd (mem_of_getElem? hwd)
  have next : ∀ (w' : World) (j2 : Nat) (acc2 : List Pr) (la2 : List UInt8) (pp2 : Option Addr) (pc2 : Nat), la2.all isEn = true -> la2.length <= l -> acc2.length <= k + 1 -> ScS w' s p l c b j2 ->
    w'.heap[t]? = some (.cells ⟨TkC 1 a kE pp2 acc2.length pc2 kE 0⟩ Zze (0, 0)) -> Row w' Zzo 2 pp2 acc2.length pc2 (rows pr acc2) -> fresh w pp2 ->
    Ybt ((YfF.drop (k + 1)).map bl) (b.drop j2) acc2 la2 = R0 -> Chg No w4 w' \/ Chg (S2 s t) w4 w' \/ True -> Sl w' (some ⟨b18, 0, none⟩) 3 1 (strs YfF) -> typ w' b18 = some Zz8 -> Chg (S2 s t) w w' -> J5 (mkB la2) w':=by
   intro w' j2 acc2 la2 pp2 pc2 g1 g2 g3 g4 g5 g6 g7 g8 _ g9 g10 g11
   subst hJ5
   exact ⟨_, by omega, k + 1, j2, acc2, la2, pp2, pc2, by rw [Zzb] <;> omega, by omega, rfl, rfl, g1, g2, g3, g4, g5, g6, g7, g8, g9, g10, g11⟩
  clear hJ5
  refine ZxJ h4.c1 ?_
  refine ZqF h4 rfl hjle fun j' w6 hj' hjj hjl hc6 => ?_
  have h6:=h4.chg0 hc6
  have ht6:=hc6.heap ht4 (fun f => f)
  have hr6:=hr4.chg hc6 (off_no _)
  have c6:=c4.and2 hc6.n2
  have hW6:=hW4.chg hc6 (off_no _)
  have tW6:=Zxh hc6 tW4 (fun f => f)
  have ekv : ∀ (kk : ByteArray), (wd.toList == kk.toList) = decide (bl wd = bl kk):=fun kk => by
   rw [Ycl, decide_eq_decide]; exact ⟨fun h => by rw [h], fun h => Zqt h⟩
  have same : (ZzE (b.drop j)).length = (b.drop j).length ↔ j' = j:=by
   rw [<- hj', length_drop, length_drop]
   constructor
   ·intro e; omega
   ·rintro rfl; rfl
  refine Zz7 fun J47 hJ47 => ?_
  have k47 : ∀ (x : Bool) (w7 : World), (x = true ↔ ((ZzE (b.drop j)).length = (b.drop j).length \/ (bl wd).isPrefixOf (ZzE (b.drop j)) = false)) -> Chg No w6 w7 -> J47 x w7:=by
   intro x w7 hx hc7
   subst hJ47
   have h7:=h6.chg0 hc7
   have ht7:=hc7.heap ht6 (fun f => f)
   have hr7:=hr6.chg hc7 (off_no _)
   have c7:=c6.and2 hc7.n2
   have hW7:=hW6.chg hc7 (off_no _)
   have tW7:=Zxh hc7 tW6 (fun f => f)
   refine Zz9 (fun hx1 => ?_) (fun hx0 => ?_)
   ·have hsk:=hx.1 hx1
    rw [ekv, show bl ⟨#[118, 101, 114, 115, 105, 111, 110]⟩ = YeD from rfl]
    refine Zz4 (fun hv => ?_) (fun hv => ?_)
    ·refine K0 23 ?_ (by decide) w7 c7
     have : Yaj (bl wd) (b.drop j) = .error 23:=by unfold Yaj; rw [if_pos hsk, if_pos hv]
     rw [this] at hst
     dsimp only at hst
     unfold Yge; rw [hR0, <- hst]
    ·have : Yaj (bl wd) (b.drop j) = .ok (none, b.drop j):=by unfold Yaj; rw [if_pos hsk, if_neg hv]
     rw [this] at hst
     dsimp only at hst
     have e1 : YdF (bl wd) none la = la:=by unfold YdF; split <;> rfl
     have e2 : acc ++ Yc8 (bl wd) none = acc:=append_nil _
     rw [e1, e2] at hst
     exact next w7 j acc la pp pc hen hlal (by omega) h7 ht7 hr7 hf4 hst (.inr (.inr trivial)) hW7 tW7 c7
   ·have hsk : ¬ ((ZzE (b.drop j)).length = (b.drop j).length \/ (bl wd).isPrefixOf (ZzE (b.drop j)) = false):=fun e => by rw [hx.2 e] at hx0; cases hx0
    have hpre : (bl wd).isPrefixOf (ZzE (b.drop j)) = true:=by
     cases hh : (bl wd).isPrefixOf (ZzE (b.drop j)) with
     | true => rfl
     | false => exact absurd (.inr hh) hsk
    have hle:=(isPrefixOf_iff_prefix.1 hpre).length_le
    rw [<- hj', length_drop, hl, Zzn] at hle
    refine h7.st (j:=j' + wd.size) (by rw [Zzb] <;> omega) (by omega) fun w8 h8 hc8 => ?_
    have c8:=c7.and2 hc8.s2
    have ht8:=hc8.heap ht7 (fun e => hne e.symm)
    have hr8:=hr7.chg hc8 (Yal hr7 h7.ts (by decide))
    have hW8:=hW7.chg hc8 (fun a ha e => by cases ha; exact n18s e)
    have tW8:=Zxh hc8 tW7 (fun e => n18s e)
    have ed : Yaj (bl wd) (b.drop j) = match Yat (b.drop (j' + wd.size)) with
      | .error _ => .error 23
      | .ok r2 => match ZqR r2 with
       | .error _ => .error 23
       | .ok (v, r3) => if fitsL (bl wd) v = false then .error 23 else .ok (some v, r3):=by
     unfold Yaj
     rw [if_neg hsk, <- hj', drop_drop, Zzn]
     rfl
    have bad : Yaj (bl wd) (b.drop j) = .error 23 -> ∀ w', Chg (S2 s t) w w' -> J 23 w':=by
     intro e w' hc
     refine K0 23 ?_ (by decide) w' hc
     rw [e] at hst
     dsimp only at hst
     unfold Yge; rw [hR0, <- hst]
    refine Equals_ok h8 (fun he w9 hc9 => ?_) (fun j3 he hj3 w9 h9 hc9 => ?_)
    ·refine Zzi (fun _ => ?_) (fun hh => absurd hh (by decide))
     exact bad (by rw [ed, he]) w9 (c8.and2 hc9.s2)
    refine Zzi (fun hh => absurd rfl hh) (fun _ => ?_)
    rw [he] at ed
    dsimp only at ed
    have c9:=c8.and2 hc9.s2
    have ht9:=hc9.heap ht8 (fun e => hne e.symm)
    have hr9:=hr8.chg hc9 (Yal hr8 h8.ts (by decide))
    have hW9:=hW8.chg hc9 (fun a ha e => by cases ha; exact n18s e)
    have tW9:=Zxh hc9 tW8 (fun e => n18s e)
    refine Quoted_ok h9 (fun he4 w10 hc10 => ?_) (fun qv j4 q c' he4 hj4 w10 h10 hqb hqc hql hoq hc10 => ?_)
    ·refine Zz7 fun J73 hJ73 => ?_
     subst hJ73
     refine Zzi (fun _ => ?_) (fun hh => absurd hh (by decide))
     refine Zz9 (fun _ => ?_) (fun h => by cases h)
     exact bad (by rw [ed, he4]) w10 (c9.and2 hc10.s2)
    rw [he4] at ed
    dsimp only at ed
    have c10:=c9.and2 hc10.s2
    have ht10:=hc10.heap ht9 (fun e => hne e.symm)
    have hr10:=hr9.chg hc10 (Yal hr9 h9.ts (by decide))
    have hW10:=hW9.chg hc10 (fun a ha e => by cases ha; exact n18s e)
    have tW10:=Zxh hc10 tW9 (fun e => n18s e)
    have hqs : off q (S2 s t):=hoq _ fun a ha e => by
     have:=h10.ty a ha
     rcases e with e | e
     ·rw [e, h10.ts] at this; revert this; decide
     ·rw [e, Zzy ht10] at this; revert this; decide
    refine Zz7 fun J73 hJ73 => ?_
    refine Zzi (fun hh => absurd rfl hh) (fun _ => ?_)
    refine Zq2 hqb ?_
    have emk : ∀ x : List UInt8, (⟨x.toArray⟩ : ByteArray) = mkB x:=fun _ => rfl
    rw [emk]
    refine Fits_ok (by rw [<- Zzn, ZzH]; omega) fun w15 hc15 => ?_
    rw [ZzH]
    have c15:=c10.and2 hc15.n2
    cases hfit : fitsL (bl wd) qv with
    | false =>
     subst hJ73
     refine Zz9 (fun _ => ?_) (fun h => by cases h)
     exact bad (by rw [ed, if_pos hfit]) w15 c15
    | true =>
     rw [if_neg (by rw [hfit]; decide)] at ed
     rw [ed] at hst
     dsimp only at hst
     subst hJ73
     refine Zz9 (fun h => by cases h) (fun _ => ?_)
     have hd:=Zy0 w15
     have c15d:=hc15.trans0 hd
     have ht15:=c15d.heap ht10 (fun f => f)
     have hr15:=hr10.chg c15d (off_no _)
     have hq15:=hqb.chg c15d (off_no _)
     refine Yd4 (Ybp ht15 rfl) ?_
     refine Zq2 hq15 ?_
     refine ⟨rfl, ?_⟩
     rw [emk]
     refine newRow (n:=1) (sz:=2) rfl (by decide) fun b83 w16 hrow hb83 hc16 => ?_
     have ht16:=hc16.heap ht15 (fun f => f)
     refine ⟨Ybp ht16 rfl, ?_⟩
     have hr16:=hr15.chg hc16 (off_no _)
     refine Ycc slT_pairT hr16 hrow.sl (YaZ (wd, mkB qv)) (by simp) (by omega) (by unfold maxLen; omega) fun p' c2' w24 hr24 hc24 hf24 => ?_
     have offT : ∀ {y : Nat} {ty : TypeId}, typ w16 y = some ty -> ty ≠ Zzo -> ¬ isB pp y:=fun hy hn ⟨a, ha, e⟩ => by
      have:=hr16.typ a ha
      rw [e, hy] at this
      exact hn (Option.some.inj this)
     have h16:=((h10.chg0 c15d)).chg0 hc16
     have ht24:=hc24.heap ht16 (offT (Zzy ht16) (by decide))
     have h24:=h16.chg hc24 (offT h16.ts (by decide)) (fun x ⟨a, ha, e⟩ => by
      have:=hr16.typ a ha
      rw [e] at this; rw [this]; decide)
     have tW16:=Zxh (c15d.trans0 hc16) tW10 (fun f => f)
     have hW24:=(hW10.chg (c15d.trans0 hc16) (off_no _)).chg hc24 (fun a ha e => by cases ha; exact offT tW16 (by decide) e)
     have tW24:=Zxh hc24 tW16 (offT tW16 (by decide))
     have hq24:=(hq15.chg hc16 (off_no _)).chg hc24 (hoq _ fun a ha e => by
      exact offT (((h10.chg0 c15d).chg0 hc16).ty a ha) (by decide) e)
     have hfw : fresh w p':=by
      rcases hf24 with rfl | ⟨hf24, _⟩
      ·exact hf4
      ·intro a ha
       have:=hf24 a ha
       have:=Zy4 ht16
       have s1:=(c15.and2 hd.n2).size
       have s2:=hc16.size
       omega
     have c24 : Chg (S2 s t) w w24:=((c15.and2 hd.n2).and2 hc16.n2).trans hc24 fun x hx ⟨a, ha, e⟩ => by have:=hf4 a ha; omega
     refine stB ht24 (by simp [TkC]) fun w25 ht25 hc25 => ?_
     have h25:=h24.chgT hc25 (Zzy ht24) (by decide) (by decide)
     have hr25:=hr24.chg hc25 (Yal hr24 (Zzy ht24) (by decide))
     have hW25:=hW24.chg hc25 (fun a ha e => by cases ha; exact n18t e)
     have tW25:=Zxh hc25 tW24 (fun e => n18t e)
     have c25:=c24.and2 hc25.t2
     have hq25:=hq24.chg hc25 (fun a ha e => hqs a ha (.inr e))
     have hlen2 : (acc ++ [(wd, mkB qv)]).length = acc.length + 1:=by rw [length_append]; rfl
     have hpairs : Yc8 (bl wd) (some qv) = [(wd, mkB qv)]:=by unfold Yc8; rw [Ybv]
     rw [hpairs] at hst
     have hcell : w25.heap[t]? = some (.cells ⟨TkC 1 a kE p' (acc ++ [(wd, mkB qv)]).length c2' kE 0⟩ Zze (0, 0)):=by rw [hlen2]; exact ht25
     have hrow25 : Row w25 Zzo 2 p' (acc ++ [(wd, mkB qv)]).length c2' (rows pr (acc ++ [(wd, mkB qv)])):=by rw [hlen2, Zyx]; exact hr25
     rw [ekv, show bl ⟨#[101, 110, 99, 111, 100, 105, 110, 103]⟩ = Yc0 from rfl]
     refine Zz4 (fun henc => ?_) (fun henc => ?_)
     ·refine Zq2 hq25 ?_
      rw [emk]
      have e1 : YdF (bl wd) (some qv) la = qv:=by unfold YdF; rw [if_pos henc]; rfl
      rw [e1] at hst
      exact next w25 j4 _ qv p' c2' (fits_en (by rw [<- henc]; exact hfit)) hql (by omega) h25 hcell hrow25 hfw hst (.inr (.inr trivial)) hW25 tW25 c25
     ·have e1 : YdF (bl wd) (some qv) la = la:=by unfold YdF; rw [if_neg henc]
      rw [e1] at hst
      exact next w25 j4 _ la p' c2' hen hlal (by omega) h25 hcell hrow25 hfw hst (.inr (.inr trivial)) hW25 tW25 c25
  clear hJ47
  refine ZxJ h6.c1 ?_
  refine Zzd (fun he => ?_) (fun hn => ?_)
  ·exact k47 true w6 ⟨fun _ => .inl (same.2 (by omega)), fun _ => rfl⟩ (Chg.refl _ _)
  ·refine ⟨_, _, _, h6.c0, ?_⟩
   refine h6.rest rfl hjl fun q hq _ _ => ?_
   refine cvB fun b44 c44 w16 hb44 _ hc16 => ?_
   refine YbS (hq.chg hc16 (off_no _)) hb44 (by have:=h.lc; omega) ?_
   rw [hj']
   refine k47 _ w16 ?_ hc16
   constructor
   ·intro e; exact .inr (by simpa using e)
   ·rintro (e | e)
    ·exact absurd (same.1 e) (by omega)
    ·rw [e]; rfl
 ·have hk3 : k = 3:=by omega
  subst hk3
  have e0 : Ybt ((YfF.drop 3).map bl) (b.drop j) acc la = .ok (acc, la, b.drop j):=rfl
  rw [e0] at hst
  refine ZxJ h4.c1 ?_
  refine ZqF h4 rfl hjle fun j' w5 hj' hjj hjl hc5 => ?_
  have h5:=h4.chg0 hc5
  refine h5.st (j:=j') rfl hjl fun w6 h6 hc6 => ?_
  have c6:=(c4.and2 hc5.n2).and2 hc6.s2
  have ht6:=hc6.heap (hc5.heap ht4 (fun f => f)) (fun e => hne e.symm)
  have hr6:=(hr4.chg hc5 (off_no _)).chg hc6 (Yal (hr4.chg hc5 (off_no _)) h5.ts (by decide))
  have ed : Yge (b.drop 5) = match YbV [63, 62] (ZzE (b.drop j)) with | .error e => .error e | .ok r4 => if la ≠ [] /\ isUtf8 la = false then .error 25 else .ok (acc, r4):=by
   unfold Yge; rw [hR0, <- hst]; rfl
  refine Yfp h6 (fun hs w7 _ hc7 => ?_) (fun i' hs hi' w7 h7 hc7 => ?_)
  ·rw [show bl ⟨#[63, 62]⟩ = [63, 62] from rfl, hj'] at hs
   refine Zzi (fun _ => ?_) (fun hh => absurd hh (by decide))
   exact K0 23 (by rw [ed, hs]) (by decide) w7 (c6.and2 hc7.n2)
  ·rw [show bl ⟨#[63, 62]⟩ = [63, 62] from rfl, hj'] at hs
   refine Zzi (fun hh => absurd rfl hh) (fun _ => ?_)
   rw [hs] at ed
   dsimp only at ed
   have ht7:=hc7.heap ht6 (fun e => hne e.symm)
   have hr7:=hr6.chg hc7 (Yal hr6 h6.ts (by decide))
   have c7:=c6.and2 hc7.s2
   refine Zz7 fun J112 hJ => ?_
   have fin : ∀ x : Bool, (x = true ↔ la ≠ [] /\ isUtf8 la = false) -> J112 x w7:=by
    intro x hx
    subst hJ
    refine Zz9 (fun h => ?_) (fun h => ?_)
    ·exact K0 25 (by rw [ed, if_pos (hx.1 h)]) (by decide) w7 c7
    ·exact K1 acc i' (by rw [ed, if_neg (fun hh => by rw [hx.2 hh] at h; cases h)]) hi' w7 pp pc h7 ht7 hr7 hf4 c7
   clear hJ
   rw [mkB_nil]
   refine Zzm (fun hne2 => ?_) (fun hn => ?_)
   ·have hne3:=of_decide_eq_false hne2
    refine EqAsc_ok (by rw [<- Zzn, ZzH]; omega) (fun j b hb => ?_) (fun j b hb => ?_) ?_
    ·exact en_low b (all_eq_true.1 hen b (by have:=mem_of_getElem? hb; simpa [mkB] using this))
    ·have hm:=mem_of_getElem? hb
     have : ∀ x ∈ [(117 : UInt8), 116, 102, 45, 56], x.toNat < 128:=by decide
     exact this b hm
    ·rw [ZzH, show bl ⟨#[117, 116, 102, 45, 56]⟩ = [117, 116, 102, 45, 56] from rfl, isUtf8_fold]
     exact fin _ ⟨fun h => ⟨hne3, by simpa using h⟩, fun h => by rw [h.2]; rfl⟩
   ·have hn':=of_decide_eq_true hn
    exact fin false ⟨fun h => (by cases h), fun h => absurd hn' h.1⟩
theorem Yg3 {wd r : List UInt8} (h : wd.isPrefixOf r = true) : wd.length <= r.length:=(isPrefixOf_iff_prefix.1 h).length_le
theorem Token_ok {w0 : World} {a : Int} {J : Int -> World -> Prop} (C : Cx w0 w s t) (h : ScS w s p l c b i) (ht : w.heap[t]? = some (.cells ⟨TkC 0 a kE none 0 0 kE 0⟩ Zze (0, 0))) (hi : i < l)
  (K0 : ∀ e, Yez (decide (i = 0)) (b.drop i) = .error e -> e ≠ 0 -> ∀ w', Chg (S2 s t) w w' -> J e w')
  (K1 : ∀ tk i', Yez (decide (i = 0)) (b.drop i) = .ok (tk, b.drop i') -> i' <= l -> ∀ w' pp pc, ScS w' s p l c b i' ->
   w'.heap[t]? = some (.cells ⟨TkC tk.kind a tk.name pp tk.pairs.length pc tk.text tk.refs⟩ Zze (0, 0)) -> Row w' Zzo 2 pp tk.pairs.length pc (rows pr tk.pairs) -> fresh w pp -> Chg (S2 s t) w w' -> J 0 w') :
  Zz0 Tryz.prog Zqw #[.pointer (some ⟨s, 0, none⟩), .pointer (some ⟨t, 0, none⟩)] w [.one (.int .i64)] J:=by
 refine YcR ?_
 simp only [Addr.add_mk, Nat.zero_add]
 have hl:=h.blen
 have hlen:=h.len
 have hrl : (b.drop i).length = l - i:=by rw [length_drop, hl]
 have hne:=st_ne h ht
 have nofresh : fresh w none:=by rintro a ⟨⟩
 obtain ⟨R, hR⟩ : ∃ R, Yez (decide (i = 0)) (b.drop i) = R:=⟨_, rfl⟩
 rw [hR] at K0
 simp only [hR] at K1
 unfold Yez at hR
 refine Zz7 fun J6 hJ6 => ?_
 have k6 : ∀ (x : Bool) (w1 : World), (x = true ↔ (decide (i = 0) = true /\ [60, 63, 120, 109, 108].isPrefixOf (b.drop i) = true /\ (ZzE ((b.drop i).drop 5)).length ≠ ((b.drop i).drop 5).length)) -> Chg No w w1 -> J6 x w1:=by
  intro x w1 hx hc1
  subst hJ6
  have h1:=h.chg0 hc1
  have ht1:=hc1.heap ht (fun f => f)
  have C1:=C.st hc1 (fun _ f => f.elim)
  refine Zz9 (fun hx1 => ?_) (fun hx0 => ?_)
  ·have hcnd:=hx.1 hx1
   rw [if_pos hcnd] at hR
   have hi0 : i = 0:=of_decide_eq_true hcnd.1
   have h5:=Yg3 hcnd.2.1
   rw [hrl] at h5
   simp only [length_cons, length_nil] at h5
   rw [drop_drop, hi0, Nat.zero_add] at hR
   refine Decl_ok C1 h1 ht1 (by omega) (fun e he hne0 w2 hc2 => ?_) (fun L i' he hi' w2 pp pc h2 ht2 hr2 hf2 hc2 => ?_)
   ·rw [he] at hR
    exact K0 e hR.symm hne0 w2 (hc1.n2.and2 hc2)
   ·rw [he] at hR
    exact K1 ⟨1, 0, kE, L, kE, 0⟩ i' hR.symm hi' w2 pp pc h2 ht2 hr2 (Yav hc1.size hf2) (hc1.n2.and2 hc2)
  have hcnd : ¬ (decide (i = 0) = true /\ [60, 63, 120, 109, 108].isPrefixOf (b.drop i) = true /\ (ZzE ((b.drop i).drop 5)).length ≠ ((b.drop i).drop 5).length):=fun e => by rw [hx.2 e] at hx0; cases hx0
  rw [if_neg hcnd] at hR
  clear hx hx0 hcnd x
  refine YaN h1 fun w3 hc3 => ?_
  have c3:=hc1.trans0 hc3
  rw [show bl ⟨#[60, 33, 45, 45]⟩ = [60, 33, 45, 45] from rfl]
  refine Zz9 (fun hp => ?_) (fun hp => ?_)
  ·rw [if_pos hp] at hR
   have hpl:=Yg3 hp
   rw [hrl] at hpl
   simp only [length_cons, length_nil] at hpl
   have ht3:=c3.heap ht (fun f => f)
   refine stB ht3 (by simp [TkC]) fun w4 ht4 hc4 => ?_
   have h4:=(h.chg0 c3).chgT hc4 (Zzy ht3) (by decide) (by decide)
   have c4 : Chg (S2 s t) w w4:=c3.n2.and2 hc4.t2
   rw [drop_drop] at hR
   refine UpTo_ok (sk:=4) (C.st c4 fun _ h => h).tt h4 ht4 rfl rfl (by omega) (by decide) (by decide) (fun hu w5 hc5 => ?_) (fun v i' hu hi' w5 h5 ht5 hc5 => ?_)
   ·rw [show bl ⟨#[45, 45]⟩ = [45, 45] from rfl] at hu
    rw [hu] at hR
    refine Zzi (fun _ => ?_) (fun hh => absurd hh (by decide))
    exact K0 23 hR.symm (by decide) w5 (c4.and2 hc5)
   ·rw [show bl ⟨#[45, 45]⟩ = [45, 45] from rfl] at hu
    rw [hu] at hR
    dsimp only at hR
    refine Zzi (fun hh => absurd rfl hh) (fun _ => ?_)
    refine Yfp h5 (fun hs w6 _ hc6 => ?_) (fun i2 hs hi2 w6 h6 hc6 => ?_)
    ·rw [show bl ⟨#[62]⟩ = [62] from rfl] at hs
     rw [hs] at hR
     exact K0 23 hR.symm (by decide) w6 ((c4.and2 hc5).and2 hc6.n2)
    ·rw [show bl ⟨#[62]⟩ = [62] from rfl] at hs
     rw [hs] at hR
     exact K1 ⟨7, 0, kE, [], mkB v, 0⟩ i2 hR.symm hi2 w6 none 0 h6 (hc6.heap ht5 (fun e => hne e.symm)) (Row.nil _ _ _) nofresh ((c4.and2 hc5).and2 hc6.s2)
  rw [if_neg (by rw [hp]; decide)] at hR
  refine YaN (h.chg0 c3) fun w7 hc7 => ?_
  have c7:=c3.trans0 hc7
  rw [show bl ⟨#[60, 33, 91, 67, 68, 65, 84, 65, 91]⟩ = [60, 33, 91, 67, 68, 65, 84, 65, 91] from rfl]
  refine Zz9 (fun hp => ?_) (fun hp => ?_)
  ·rw [if_pos hp] at hR
   have hpl:=Yg3 hp
   rw [hrl] at hpl
   simp only [length_cons, length_nil] at hpl
   have ht7:=c7.heap ht (fun f => f)
   refine stB ht7 (by simp [TkC]) fun w4 ht4 hc4 => ?_
   have h4:=(h.chg0 c7).chgT hc4 (Zzy ht7) (by decide) (by decide)
   have c4 : Chg (S2 s t) w w4:=c7.n2.and2 hc4.t2
   rw [drop_drop] at hR
   refine UpTo_ok (sk:=9) (C.st c4 fun _ h => h).tt h4 ht4 rfl rfl (by omega) (by decide) (by decide) (fun hu w5 hc5 => ?_) (fun v i' hu hi' w5 h5 ht5 hc5 => ?_)
   ·rw [show bl ⟨#[93, 93, 62]⟩ = [93, 93, 62] from rfl] at hu
    rw [hu] at hR
    exact K0 23 hR.symm (by decide) w5 (c4.and2 hc5)
   ·rw [show bl ⟨#[93, 93, 62]⟩ = [93, 93, 62] from rfl] at hu
    rw [hu] at hR
    exact K1 ⟨6, 0, kE, [], mkB v, 0⟩ i' hR.symm hi' w5 none 0 h5 ht5 (Row.nil _ _ _) nofresh (c4.and2 hc5)
  rw [if_neg (by rw [hp]; decide)] at hR
  refine YaN (h.chg0 c7) fun w10 hc10 => ?_
  have c10:=c7.trans0 hc10
  rw [show bl ⟨#[60, 33, 68, 79, 67, 84, 89, 80, 69]⟩ = [60, 33, 68, 79, 67, 84, 89, 80, 69] from rfl]
  refine Zz9 (fun hp => ?_) (fun hp => ?_)
  ·rw [if_pos hp] at hR
   exact K0 25 hR.symm (by decide) w10 c10.n2
  rw [if_neg (by rw [hp]; decide)] at hR
  refine YaN (h.chg0 c10) fun w11 hc11 => ?_
  have c11:=c10.trans0 hc11
  rw [show bl ⟨#[60, 33]⟩ = [60, 33] from rfl]
  refine Zz9 (fun hp => ?_) (fun hp => ?_)
  ·rw [if_pos hp] at hR
   exact K0 23 hR.symm (by decide) w11 c11.n2
  rw [if_neg (by rw [hp]; decide)] at hR
  refine YaN (h.chg0 c11) fun w12 hc12 => ?_
  have c12:=c11.trans0 hc12
  rw [show bl ⟨#[60, 63]⟩ = [60, 63] from rfl]
  refine Zz9 (fun hp => ?_) (fun hp => ?_)
  ·rw [if_pos hp] at hR
   have hpl:=Yg3 hp
   rw [hrl] at hpl
   simp only [length_cons, length_nil] at hpl
   rw [drop_drop] at hR
   refine Instr_ok (C.st c12 fun _ f => f.elim) (h.chg0 c12) (c12.heap ht (fun f => f)) (by omega) (fun e he hne0 w2 hc2 => ?_) (fun n v i' he hi' w2 h2 ht2 hc2 => ?_)
   ·rw [he] at hR
    exact K0 e hR.symm hne0 w2 (c12.n2.and2 hc2)
   ·rw [he] at hR
    exact K1 ⟨8, 0, mkB n, [], mkB v, 0⟩ i' hR.symm hi' w2 none 0 h2 ht2 (Row.nil _ _ _) nofresh (c12.n2.and2 hc2)
  rw [if_neg (by rw [hp]; decide)] at hR
  refine YaN (h.chg0 c12) fun w14 hc14 => ?_
  have c14:=c12.trans0 hc14
  rw [show bl ⟨#[60, 47]⟩ = [60, 47] from rfl]
  refine Zz9 (fun hp => ?_) (fun hp => ?_)
  ·rw [if_pos hp] at hR
   have hpl:=Yg3 hp
   rw [hrl] at hpl
   simp only [length_cons, length_nil] at hpl
   rw [drop_drop] at hR
   refine Closing_ok (C.st c14 fun _ f => f.elim) (h.chg0 c14) (c14.heap ht (fun f => f)) (by omega) (fun e he hne0 w2 hc2 => ?_) (fun n i' he hi' w2 h2 ht2 hc2 => ?_)
   ·rw [he] at hR
    exact K0 e hR.symm hne0 w2 (c14.n2.and2 hc2)
   ·rw [he] at hR
    exact K1 ⟨3, 0, mkB n, [], kE, 0⟩ i' hR.symm hi' w2 none 0 h2 ht2 (Row.nil _ _ _) nofresh (c14.n2.and2 hc2)
  rw [if_neg (by rw [hp]; decide)] at hR
  refine YaN (h.chg0 c14) fun w16 hc16 => ?_
  have c16:=c14.trans0 hc16
  rw [show bl ⟨#[60]⟩ = [60] from rfl]
  refine Zz9 (fun hp => ?_) (fun hp => ?_)
  ·rw [if_pos hp] at hR
   rw [drop_drop] at hR
   refine Tag_ok (C.st c16 fun _ f => f.elim) (h.chg0 c16) (c16.heap ht (fun f => f)) (by omega) (fun e he hne0 w2 hc2 => ?_) (fun n r2 k L i' he hpe hi' w2 pp pc h2 ht2 hr2 hf2 hc2 => ?_)
   ·rcases he with he | ⟨n, r2, he, hpe⟩
    ·rw [he] at hR
     exact K0 e hR.symm hne0 w2 (c16.n2.and2 hc2)
    ·rw [he] at hR
     dsimp only at hR
     rw [hpe] at hR
     exact K0 e hR.symm hne0 w2 (c16.n2.and2 hc2)
   ·rw [he] at hR
    dsimp only at hR
    rw [hpe] at hR
    exact K1 ⟨k, 0, mkB n, L, kE, 0⟩ i' hR.symm hi' w2 pp pc h2 ht2 hr2 (Yav c16.size hf2) (c16.n2.and2 hc2)
  rw [if_neg (by rw [hp]; decide)] at hR
  have htw : (b.drop i).takeWhile (· != 60) ≠ []:=by
   cases hb : b.drop i with
   | nil => rw [hb] at hrl; simp at hrl; omega
   | cons v r =>
    rw [hb] at hp
    have hv : v ≠ 60:=by rintro rfl; simp [isPrefixOf] at hp
    rw [takeWhile_cons, if_pos (by rw [bne_iff_ne]; exact hv)]
    simp
  refine TextT_ok (C.st c16 fun _ f => f.elim) (h.chg0 c16) (c16.heap ht (fun f => f)) htw (fun he w2 hc2 => ?_) (fun he i' hi1 hi' w2 h2 ht2 hc2 => ?_)
  ·rw [if_pos he] at hR
   exact K0 _ hR.symm (by omega) w2 (c16.n2.and2 hc2)
  ·rw [if_neg (by rw [he]; decide), drop_drop, <- hi1] at hR
   exact K1 ⟨5, 0, kE, [], _, _⟩ i' hR.symm hi' w2 none 0 h2 ht2 (Row.nil _ _ _) nofresh (c16.n2.and2 hc2)
 clear hJ6 K0 K1 hR
 refine ZxJ h.c1 ?_
 refine Zzd (fun h0 => ?_) (fun h0 => ?_)
 ·have hi0 : i = 0:=by omega
  subst hi0
  refine YaN h fun w19 hc19 => ?_
  rw [show bl ⟨#[60, 63, 120, 109, 108]⟩ = [60, 63, 120, 109, 108] from rfl]
  refine Zz9 (fun hp => ?_) (fun hp => ?_)
  ·have hpl:=Yg3 hp
   rw [hrl] at hpl
   simp only [length_cons, length_nil] at hpl
   refine ZqF (j:=5) (h.chg0 hc19) rfl (by omega) fun j' w20 hj' hjj hjl hc20 => ?_
   refine k6 _ w20 ?_ (hc19.trans0 hc20)
   rw [drop_drop, Nat.zero_add, <- hj', length_drop, length_drop]
   constructor
   ·intro e
    have:=of_decide_eq_true e
    exact ⟨rfl, hp, by omega⟩
   ·rintro ⟨_, _, e⟩
    exact decide_eq_true (by omega)
  ·refine k6 false w19 ⟨fun e => (by cases e), fun e => ?_⟩ hc19
   rw [hp] at e; exact absurd e.2.1 (by decide)
 ·refine k6 false w ⟨fun e => (by cases e), fun e => ?_⟩ (Chg.refl _ _)
  have:=of_decide_eq_true e.1
  omega
end
end Go.Proofs.YtglnmjflpkeclaaGreatDoor
end
section
namespace Go.Proofs.YtglnmjflpkeclaaGreatDoor
open Go Go.Vc Go.Lib
structure TkV where
 kind : Int
 at_ : Nat
 name : ByteArray
 pp : Option Addr
 pc : Nat
 pairs : List Pr
 text : ByteArray
 refs : Nat
def TkV.cells (x : TkV) : List Value:=TkC x.kind x.at_ x.name x.pp x.pairs.length x.pc x.text x.refs
def TkV.tok (x : TkV) : TokQ:=⟨x.kind, x.at_, x.name, x.pairs, x.text, x.refs⟩
theorem even_tk (L : List TkV) : Ygo TkV.cells 6 L:=fun _ _ => rfl
theorem one1_tk (x : TkV) : one1 x.cells:=by
 intro v hv
 simp only [TkV.cells, TkC, mem_cons, not_mem_nil, or_false] at hv
 rcases hv with rfl | rfl | rfl | rfl | rfl | rfl <;> rfl
section
variable {w w' : World} {p : Option Addr} {l c : Nat} {bs : List UInt8}
theorem slT_tok : SlT Tryz.prog Ycd Zze 6 80 #[.int .i64 0, .int .i64 0, .string ByteArray.empty, .slice none 0 0, .string ByteArray.empty, .int .i64 0]:=SlT.of (by kernel_rfl) (by kernel_rfl) rfl (by decide)
theorem zeroC_tok : Zy2 Tryz.prog Zze = ⟨[.int .i64 0, .int .i64 0, .string ByteArray.empty, .slice none 0 0, .string ByteArray.empty, .int .i64 0]⟩:=by kernel_rfl
theorem Plain_ok {J : Option Addr -> Nat -> Nat -> World -> Prop} (h : Bytes w p l bs) (hlc : l <= c) (hm : l <= 100000000)
  (K : ∀ p' c' w', Row w' Zzs 1 p' (Zyv bs).length c' (bcells (Zyv bs)) -> fresh w p' -> Chg No w w' -> J p' (Zyv bs).length c' w') :
  Zz0 Tryz.prog YaH #[.slice p l c] w [.one .slice] J:=by
 refine c_scan_Plain ?_
 have hl:=h.len
 have fin : ∀ (x : List UInt8) (w1 : World) (p' : Option Addr) (l' c' : Nat) (w2 : World), Zyv bs = lns false x -> Chg No w w1 -> Row w2 Zzs 1 p' l' c' (bcells (lns false x)) -> fresh w1 p' -> Chg No w1 w2 -> J p' l' c' w2:=by
  intro x w1 p' l' c' w2 e hc1 hr hf hc2
  have e2 : l' = (Zyv bs).length:=by have:=hr.len; rw [Zyc] at this; rw [e]; omega
  subst e2
  rw [<- e] at hr
  exact K p' c' w2 hr (Yav hc1.size hf) (hc1.trans0 hc2)
 refine newRow (cs:=bcells bomL) (n:=3) (sz:=1) rfl (by decide) fun b4 w1 hrow hb4 hc1 => ?_
 have hbm : Bytes w1 (some ⟨b4, 0, none⟩) 3 bomL:=hrow.sl
 have h1:=h.chg hc1 (off_no _)
 refine TrimPre_ok h1 hbm hlc (fun hp q hq ho => ?_) (fun hp => ?_)
 ·have e : Zyv bs = lns false (bs.drop 3):=by unfold Zyv; rw [if_pos hp]
  exact LinesC_ok hq (by omega) fun p' l' c' w2 hr hf hc2 => fin _ w1 p' l' c' w2 e hc1 hr hf hc2
 ·have e : Zyv bs = lns false bs:=by unfold Zyv; rw [if_neg (by rw [hp]; decide)]
  exact LinesC_ok h1 (by omega) fun p' l' c' w2 hr hf hc2 => fin _ w1 p' l' c' w2 e hc1 hr hf hc2
theorem Yhn (bs : List UInt8) : (Zyv bs).length <= bs.length:=by
 unfold Zyv
 have h1:=lns_len false (if bomL.isPrefixOf bs = true then bs.drop 3 else bs)
 split at h1
 ·rw [length_drop] at h1; rw [if_pos (by assumption)]; omega
 ·rw [if_neg (by assumption)]; exact h1
theorem All_ok {J : Option Addr -> Nat -> Nat -> Int -> Int -> World -> Prop} (T : TT w) (h : Bytes w p l bs) (hlc : l <= c)
    (K0 : ∀ at_ e, allR bs = .error (at_, e) -> e ≠ 0 -> ∀ w', Chg No w w' -> J none 0 0 (at_ : Int) e w')
    (K1 : ∀ (L : List TkV), allR bs = .ok (L.map TkV.tok) -> L.length <= 65536 -> ∀ p' c' w', Row w' Zze 6 p' L.length c' (rows TkV.cells L) -> (∀ x ∈ L, Row w' Zzo 2 x.pp x.pairs.length x.pc (rows pr x.pairs)) -> Chg No w w' -> J p' L.length c' 0 0 w') :
    Zz0 Tryz.prog Yfe #[.slice p l c] w [.one .slice, .one (.int .i64), .one (.int .i64)] J:=by
  refine c_scan_All ?_
  have hl:=h.len
  refine Zz4 (fun hbig => ?_) (fun hsm => ?_)
  · exact K0 0 6 (by unfold allR; rw [if_pos (by omega)]) (by decide) w (Chg.refl _ _)
  have hal : allR bs = if (flt 0 (Zyv bs)).2 ≠ 0 then .error ((flt 0 (Zyv bs)).1, ((flt 0 (Zyv bs)).2 : Nat)) else Ybh (Zyv bs).length ((Zyv bs).length + 1) (Zyv bs) []:=by
    unfold allR; rw [if_neg (by omega)]
  have hpl:=Yhn bs
  rw [hal] at K0 K1
  refine Plain_ok h hlc (by omega) fun q qc w1 hr1 hf1 hc1 => ?_
  generalize hB : Zyv bs = b at *
  have tq:=hr1.typ
  refine (Hp.start w1 No).newB fun s w2 H2 hs2 hc2 => ?_
  have c2:=hc1.trans0 hc2
  refine H2.ldS 0 rfl (off:=0) rfl ?_
  have hb2 : Bytes w2 q b.length b:=hr1.sl.chg hc2 (off_no _)
  refine FaultC_ok hb2 hr1.le.1 (by omega) (T.tabs.chg c2) fun w3 hc3 => ?_
  have c3:=c2.trans0 hc3
  have H3:=H2.step0 hc3
  refine Zzi (fun hne => ?_) (fun h0 => ?_)
  · exact K0 _ _ (by rw [if_pos (by omega)]) (by omega) w3 c3
  rw [if_neg (by omega)] at K0 K1
  by_cases hq : q = none
  · have hb0 : b.length = 0:=hr1.none0 hq
    have hbn : b = []:=List.eq_nil_of_length_eq_zero hb0
    subst hbn hq
    refine ⟨fun lp ll lc w' m => lp = none /\ ll = 0 /\ lc = 0 /\ w' = w3, ⟨0, rfl, rfl, rfl, rfl⟩, ?_⟩
    rintro lp ll lc w' m ⟨rfl, rfl, rfl, rfl⟩
    have H3d:=H3.drew
    refine H3d.ldI 0 rfl (off:=1) rfl ?_
    refine H3d.ldS 0 rfl (off:=0) rfl ?_
    refine Zzd (fun _ => ?_) (fun h => absurd rfl h)
    exact K1 [] (by unfold Ybh; rfl) (by simp) none 0 _ (Row.nil _ _ _) (by simp) (c3.trans0 (Zy0 _))
  have hS : ScS w3 s q b.length qc b 0:=⟨H3.get 0 rfl, hb2.chg hc3 (off_no _), fun a ha => Zxh (hc2.trans0 hc3) (tq a ha) (fun f => f), hq, hr1.le.1, by omega, Nat.zero_le _⟩
  obtain ⟨R0, hR0⟩ : ∃ R0, Ybh b.length (b.length + 1) b [] = R0:=⟨_, rfl⟩
  rw [hR0] at K0 K1
  have hsw : w.heap.size <= s:=by have:=hc1.size; omega
  refine ⟨fun lp ll lc w' m => ∃ (i f : Nat) (L : List TkV), m = b.length - i /\ ScS w' s q b.length qc b i /\ ll = L.length /\ Row w' Zze 6 lp L.length lc (rows TkV.cells L) /\ fresh w lp /\ (∀ x ∈ L, Row w' Zzo 2 x.pp x.pairs.length x.pc (rows pr x.pairs) /\ fresh w x.pp) /\
      b.length - i < f /\ L.length <= i /\ Ybh b.length f (b.drop i) (L.map TkV.tok) = R0 /\ Chg No w w',
    ⟨_, 0, b.length + 1, [], rfl, hS, rfl, Row.nil _ _ _, (by rintro a ⟨⟩), (by simp), by omega, Nat.le_refl _, hR0, c3⟩, ?_⟩
  clear hS H3 H2 hc3 c3 hb2
  rintro lp ll lc w4 m ⟨i, f, L, rfl, h4, rfl, hr4, hf4, hps, hfuel, hLi, hst, c4⟩
  have hd:=Zy0 w4
  have h5:=h4.chg0 hd
  have hr5:=hr4.chg hd (off_no _)
  have c5:=c4.trans0 hd
  have hps5 : ∀ x ∈ L, Row w4.drew Zzo 2 x.pp x.pairs.length x.pc (rows pr x.pairs) /\ fresh w x.pp:=fun x hx => ⟨(hps x hx).1.chg hd (off_no _), (hps x hx).2⟩
  have hile:=h4.le
  obtain ⟨f', rfl⟩ : ∃ f', f = f' + 1:=⟨f - 1, by omega⟩
  unfold Ybh at hst
  refine ZxJ h5.c1 ?_
  refine ⟨_, _, _, h5.c0, ?_⟩
  refine Zzd (fun he => ?_) (fun he => ?_)
  · have hie : b.drop i = []:=List.drop_eq_nil_of_le (by omega)
    rw [if_pos hie] at hst
    exact K1 L hst.symm (by omega) lp lc _ hr5 (fun x hx => (hps5 x hx).1) c5
  have hil : i < b.length:=by omega
  have hdl : (b.drop i).length = b.length - i:=List.length_drop
  rw [if_neg (by intro e; rw [e] at hdl; simp at hdl; omega), hdl, show decide (b.length - i = b.length) = decide (i = 0) from by rw [decide_eq_decide]; omega, show b.length - (b.length - i) = i by omega] at hst
  refine ZxJ h5.c1 ?_
  rw [zeroC_tok]
  refine (Hp.start w4.drew No).newB fun t w5 H5 ht5 hc5 => ?_
  refine H5.stN 0 rfl (off:=0) rfl (by simp) (one1_tk ⟨0, i, ByteArray.empty, none, 0, [], ByteArray.empty, 0⟩) fun w6 H6 hc6 => ?_
  simp only [List.set_cons_zero] at H6
  have c56 : Chg No w4.drew w6:=H6.chg
  have ht6 : w6.heap[t]? = some (.cells ⟨TkC 0 i kE none 0 0 kE 0⟩ Zze (0, 0)):=H6.get 0 rfl
  have h6:=h5.chg0 c56
  have c6:=c5.trans0 c56
  have htw : w.heap.size <= t:=by have:=c5.size; omega
  refine Token_ok ⟨T, c6, hsw, htw⟩ h6 ht6 hil (fun e he hne0 w7 hc7 => ?_) (fun tk i' he hi' w7 pp pc h7 ht7 hrp hfp hc7 => ?_)
  · rw [he] at hst
    dsimp only at hst
    refine Zzi (fun _ => ?_) (fun hh => absurd hh hne0)
    exact K0 i e hst.symm hne0 w7 (c6.trans hc7 fun x hx e => by rcases e with rfl | rfl <;> omega)
  · refine Zzi (fun hh => absurd rfl hh) (fun _ => ?_)
    rw [he] at hst
    dsimp only at hst
    have c7 : Chg No w w7:=c6.trans hc7 fun x hx e => by rcases e with rfl | rfl <;> omega
    refine ⟨_, Ybp ht7 rfl, _, Ybp ht7 rfl, _, Ybp ht7 rfl, _, _, _, Ybp ht7 rfl, _, Ybp ht7 rfl, _, Ybp ht7 rfl, rfl, ?_⟩
    refine newRow (n:=1) (sz:=6) rfl (by decide) fun b56 w8 hrow hb56 hc8 => ?_
    have off7 : ∀ {e : TypeId} {sz m d : Nat} {x : Option Addr} {xs : List Value}, Row w6 e sz x m d xs -> fresh w x -> e ≠ Zqm -> (∀ a, x = some a -> a.block ≠ t) -> off x (S2 s t):=by
      intro e sz m d x xs hr _ h1 h2 a ha hy
      rcases hy with hy | hy
      · exact Yal hr h6.ts h1 a ha hy
      · exact h2 a ha hy
    have hr6:=hr5.chg c56 (off_no _)
    have hlt4:=hr5.lt
    have hr7:=hr6.chg hc7 (off7 hr6 hf4 (by decide) fun a ha e => by have:=hlt4 a ha; omega)
    have hps7 : ∀ x ∈ L, Row w7 Zzo 2 x.pp x.pairs.length x.pc (rows pr x.pairs) /\ fresh w x.pp:=fun x hx => by
      have hx5:=(hps5 x hx).1
      have hx6:=hx5.chg c56 (off_no _)
      exact ⟨hx6.chg hc7 (off7 hx6 (hps5 x hx).2 (by decide) fun a ha e => by have:=hx5.lt a ha; omega), (hps5 x hx).2⟩
    have hr8:=hr7.chg hc8 (off_no _)
    have hgap : i < i':=by
      have:=tokR_len (by intro e; rw [e] at hdl; simp at hdl; omega) he
      rw [List.length_drop, List.length_drop] at this; omega
    refine Ycc slT_tok hr8 hrow.sl (one1_tk ⟨tk.kind, i, tk.name, pp, pc, tk.pairs, tk.text, tk.refs⟩) (by simp) (by omega) (by unfold maxLen; omega) fun p' c' w9 hr9 hc9 hf9 => ?_
    have offT : ∀ {y : Nat} {ty : TypeId}, typ w8 y = some ty -> ty ≠ Zze -> ¬ isB lp y:=fun hy hn ⟨a, ha, e⟩ => by
      have:=hr8.typ a ha
      rw [e, hy] at this
      exact hn (Option.some.inj this)
    have offR : ∀ {e : TypeId} {sz m d : Nat} {x : Option Addr} {xs : List Value}, Row w8 e sz x m d xs -> e ≠ Zze -> off x (isB lp):=fun hr hn a ha hy => offT (hr.typ a ha) hn hy
    have h9:=(h7.chg0 hc8).chg hc9 (offT (h7.chg0 hc8).ts (by decide)) (fun x ⟨a, ha, e⟩ => by
      have:=hr8.typ a ha
      rw [e] at this; rw [this]; decide)
    have c9 : Chg No w w9:=(c7.trans0 hc8).trans hc9 fun x hx ⟨a, ha, e⟩ => by have:=hf4 a ha; omega
    have hfw : fresh w p':=by
      rcases hf9 with rfl | ⟨hf9, _⟩
      · exact hf4
      · exact Yav (c7.trans0 hc8).size hf9
    refine ⟨_, ?_, i', f', L ++ [⟨tk.kind, i, tk.name, pp, pc, tk.pairs, tk.text, tk.refs⟩], rfl, h9, ?_, ?_, hfw, ?_, ?_, ?_, ?_, c9⟩
    · have:=h9.le; omega
    · rw [List.length_append]; rfl
    · rw [List.length_append, Zyx]; exact hr9
    · intro x hx
      rcases List.mem_append.1 hx with hx | hx
      · have hx8:=(hps7 x hx).1.chg hc8 (off_no _)
        exact ⟨hx8.chg hc9 (offR hx8 (by decide)), (hps7 x hx).2⟩
      · rw [List.mem_singleton.1 hx]
        have hx8:=hrp.chg hc8 (off_no _)
        exact ⟨hx8.chg hc9 (offR hx8 (by decide)), Yav c6.size hfp⟩
    · omega
    · rw [List.length_append, List.length_singleton]; omega
    · rw [List.map_append]; exact hst
end
end Go.Proofs.YtglnmjflpkeclaaGreatDoor
end
section
namespace Go.Proofs.YtglnmjflpkeclaaGreatDoor
open Go Go.Vc Go.Lib Go.Shelf
def ren8 : Ren:=⟨fun x => x, fun n => if n = 5 then Zzs else if n = 119 then T_256_uint8 else if n = 138 then ZyN else Yey, fun n => if n = 3 then 1 else 2⟩
theorem u8Types : U8Types Tryz.prog ren8:=⟨by kernel_rfl, by kernel_rfl, by kernel_rfl, by kernel_rfl⟩
theorem u8Extra : U8Extra Tryz.prog ren8:=⟨by kernel_rfl, by kernel_rfl, by kernel_rfl, by kernel_rfl, by kernel_rfl, by kernel_rfl, by kernel_rfl⟩
theorem first_eq : Rows.laid_unicode_utf8_first = firstData:=by kernel_rfl
theorem accept_eq : Rows.laid_unicode_utf8_acceptRanges (H:=Unit) = acceptData:=by kernel_rfl
end Go.Proofs.YtglnmjflpkeclaaGreatDoor
end
section
namespace Go.Vc
open Go Go.Lib
end Go.Vc
namespace Go.Proofs.YtglnmjflpkeclaaGreatDoor
open Go Go.Vc Go.Lib
section
variable {w : World}
end
end Go.Proofs.YtglnmjflpkeclaaGreatDoor
namespace Go.Proofs.YtglnmjflpkeclaaGreatDoor
open Go Go.Vc Go.Lib Go.Shelf
def foldZ : List Int:=match (Rows.laid_unicode_asciiFold (H:=Unit)) with
 | .agg ds => ds.map fun d => match d with | .lit (.int _ z) => z | _ => 0
 | _ => []
theorem fold_eq : Rows.laid_unicode_asciiFold (H:=Unit) = tabData .u16 foldZ:=by kernel_rfl
theorem fold_of_reads {W : World} (h : VarReads Tryz.prog W "unicode.asciiFold" (tabData .u16 foldZ)) : FoldTab W:=by
 obtain ⟨g, t, cs, fuel, p, hg, hty, hvar, hd⟩:=h
 have n : Tryz.prog.globalNamed "unicode.asciiFold" = some 3:=by kernel_rfl
 have y : (Tryz.prog.globals[3]?).map (·.type) = some T_128_uint16:=by kernel_rfl
 obtain rfl:=Option.some.inj (n.symm.trans hg)
 obtain rfl:=Option.some.inj (y.symm.trans hty)
 have hcs:=cells_of_tab (n:=128) (e:=T_uint16) (by kernel_rfl) (by kernel_rfl) (by kernel_rfl) (by kernel_rfl) hd
 intro q hq
 have hc:=World.var?_cell hg hvar q.1
 rw [hc, <- Array.getElem?_toList, hcs, getElem?_map]
 simp only [mem_cons, not_mem_nil, or_false] at hq
 rcases hq with rfl | rfl | rfl | rfl | rfl | rfl
 ·exact congrArg (Option.map _) (show foldZ[120]? = some 88 by kernel_rfl)
 ·exact congrArg (Option.map _) (show foldZ[88]? = some 120 by kernel_rfl)
 ·exact congrArg (Option.map _) (show foldZ[109]? = some 77 by kernel_rfl)
 ·exact congrArg (Option.map _) (show foldZ[77]? = some 109 by kernel_rfl)
 ·exact congrArg (Option.map _) (show foldZ[108]? = some 76 by kernel_rfl)
 ·exact congrArg (Option.map _) (show foldZ[76]? = some 108 by kernel_rfl)
theorem maxl_of_shape {W : World} (h : W.ShapedOpen Tryz.prog) : ∃ m : Int, W.cell? ⟨0, 0, none⟩ = some (.int .i64 m) :=
 cell_of_shapedOpen_int (t:=T_int) (zero := #[.int .i64 0]) h (of_decide_eq_true (by kernel_rfl)) (by kernel_rfl) rfl (by kernel_rfl) (by kernel_rfl) (by kernel_rfl)
end Go.Proofs.YtglnmjflpkeclaaGreatDoor
end
