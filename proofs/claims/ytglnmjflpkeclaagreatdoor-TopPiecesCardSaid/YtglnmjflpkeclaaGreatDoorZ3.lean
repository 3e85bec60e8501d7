/- What the statement needs, part 3. -/
import Derived.Test.YtglnmjflpkeclaaGreatDoorZ2
set_option linter.unusedSectionVars false
set_option linter.unusedVariables false
set_option linter.unusedSimpArgs false
set_option maxRecDepth 100000
open List
section
namespace Go.Vc
open Go Go.Lib
theorem YhO {b : UInt8} (r : List UInt8) (h : b.toNat < 128) : dec (b :: r) = (b.toNat, 1):=by
 have hr : rd (b :: r) = (b.toNat, 1):=ZzI b r h
 rw [YeV, hr]; rfl
theorem YgR {f : Bool} {b : UInt8} {r : List UInt8} (h : b.toNat < 128) : nmL f (b :: r) = if nmC f b.toNat = true then 1 + nmL false r else 0:=by
 cases hc : nmC f b.toNat with
 | false => rw [nmL_stop (by rw [YhO r h]; exact hc)]; simp
 | true => rw [YfB (by simp) (by rw [YhO r h]; exact hc), YhO r h]; simp
theorem nmL_part (x : List UInt8) : ∀ a, prt a = true -> nmL false (a ++ x) = a.length + nmL false x:=by
 refine Yfz ?_ ?_ ?_
 ·intro _; simp
 ·intro a h hk hp; rw [Yeg h hk] at hp; cases hp
 ·intro a h hk ih hp
  rw [Yby h hk, Bool.and_eq_true] at hp
  have hd : dec (a ++ x) = rd a:=by rw [YeV, Yhm a x hk h, if_neg hk]
  have hle:=Yfy a h
  rw [YfB (by simp [h]) (by rw [hd]; unfold nmC; rw [hp.1]; simp), hd, drop_append_of_le_length hle, ih hp.2, length_drop]
  omega
theorem YbX {a : List UInt8} (h : nm a = true) : a ≠ []:=by
 simp only [nm, Bool.and_eq_true, decide_eq_true_eq] at h
 exact h.1.1.1
theorem nm_rd {a : List UInt8} (h : nm a = true) : (rd a).2 ≠ 0:=by
 have hp : prt a = true:=by simp only [nm, Bool.and_eq_true] at h; exact h.2
 intro h0
 rw [Yeg (YbX h) h0] at hp; cases hp
theorem nmL_name {a x : List UInt8} (h : nm a = true) : nmL true (a ++ x) = a.length + nmL false x:=by
 have hne:=YbX h
 have hk:=nm_rd h
 have hp : prt a = true:=by simp only [nm, Bool.and_eq_true] at h; exact h.2
 have hs : isSt (rd a).1 = true:=by simp only [nm, Bool.and_eq_true] at h; exact h.1.2
 rw [Yby hne hk, Bool.and_eq_true] at hp
 have hd : dec (a ++ x) = rd a:=by rw [YeV, Yhm a x hk hne, if_neg hk]
 have hle:=Yfy a hne
 rw [YfB (by simp [hne]) (by rw [hd]; unfold nmC; rw [hp.1, hs]; simp), hd, drop_append_of_le_length hle, nmL_part x _ hp.2, length_drop]
 omega
theorem nmL_colon (x : List UInt8) : nmL false (58 :: x) = 1 + nmL false x:=by rw [YgR (by decide)]; rw [if_pos (by decide)]
def Stop (x : List UInt8) : Prop:=nmL false x = 0
theorem stop_nil : Stop []:=nmL_nil false
theorem Ya2 {b : UInt8} {r : List UInt8} (h : b.toNat < 128) (hc : nmC false b.toNat = false) : Stop (b :: r):=by unfold Stop; rw [YgR h, if_neg (by rw [hc]; decide)]
def QN (q p l : List UInt8) : Prop:=nm l = true /\ ((p = [] /\ q = l) \/ (nm p = true /\ q = p ++ 58 :: l))
theorem QN.spl {q p l : List UInt8} (h : QN q p l) : spl q = (p, l, true):=by
 obtain ⟨hl, ⟨rfl, rfl⟩ | ⟨hp, rfl⟩⟩:=h
 ·unfold Vc.spl
  rw [colon_none.2 (nm_colon hl)]
  simp only [hl, if_true]
 ·have hc : colon (p ++ 58 :: l) = some p.length:=Yda.2 ⟨by simp, by rw [take_left]; exact nm_colon hp⟩
  unfold Vc.spl
  rw [hc]
  simp only [take_left, hp, Bool.true_and]
  have hd : (p ++ 58 :: l).drop (p.length + 1) = l:=by rw [<- drop_drop, drop_left]; rfl
  rw [hd, hl]; simp
theorem QN.nmL {q p l x : List UInt8} (h : QN q p l) (hx : Stop x) : nmL true (q ++ x) = q.length:=by
 obtain ⟨hl, ⟨rfl, rfl⟩ | ⟨hp, rfl⟩⟩:=h
 ·rw [nmL_name hl, hx]; rfl
 ·rw [append_assoc, nmL_name hp, cons_append, nmL_colon, nmL_part _ _ (by simp only [nm, Bool.and_eq_true] at hl; exact hl.2), hx]
  simp only [length_append, length_cons]; omega
theorem QN.ne {q p l : List UInt8} (h : QN q p l) : q ≠ []:=by
 obtain ⟨hl, ⟨rfl, rfl⟩ | ⟨hp, rfl⟩⟩:=h
 ·exact YbX hl
 ·simp
theorem YbA {q p l x : List UInt8} (h : QN q p l) (hx : Stop x) : YbB (q ++ x) = .ok (q, x):=by
 unfold YbB
 rw [h.nmL hx, if_neg (by have:=length_pos_iff.2 h.ne; omega), take_left, drop_left, h.spl]
 simp
theorem equals_of (x : List UInt8) : Yat (61 :: 34 :: x) = .ok (34 :: x):=by
 unfold Yat
 rw [ZxP (by decide)]
 rw [if_pos (by simp [isPrefixOf])]
 rw [drop_succ_cons, drop_zero, ZxP (by decide)]
theorem tw_q {s r : List UInt8} {q : UInt8} (h : q ∉ s) : (s ++ q :: r).takeWhile (· != q) = s:=by
 rw [takeWhile_append_of_pos (fun a ha => by rw [bne_iff_ne]; rintro rfl; exact h ha)]
 simp
theorem quoted_of {s : List UInt8} (x : List UInt8) (h : (34 : UInt8) ∉ s) : ZqR (34 :: (s ++ 34 :: x)) = .ok (s, x):=by
 unfold ZqR
 simp only
 rw [if_pos ⟨.inr trivial, by simp⟩, tw_q h]
 rw [show (s ++ 34 :: x).drop (s.length + 1) = x by rw [<- drop_drop, drop_left]; rfl]
theorem quo_esc : YgQ = Yab true:=rfl
theorem txt_esc : txtP = Yab false:=rfl
theorem read_quo {s : List UInt8} (h : (flt 0 s).2 = 0) : ZyB true 0 (subst YgQ s) [] = (s, 0, 0):=by
 have:=(read_back true s 0 0 []).1 h
 rw [quo_esc, this, nil_append]
theorem read_txt {s : List UInt8} (h : (flt 0 s).2 = 0) : ZyB false 0 (subst txtP s) [] = (s, 0, 0):=by
 have:=(read_back false s 0 0 []).1 h
 rw [txt_esc, this, nil_append]
theorem quo_free {s : List UInt8} : (34 : UInt8) ∉ subst YgQ s:=fun h => (((Yft true s 34 (by rw [quo_esc] at h; exact h)).2.2.1 rfl).2.2) rfl
def YgG (q v : List UInt8) : List UInt8:=q ++ [61, 34] ++ subst YgQ v ++ [34]
theorem pairR_of {q p l v : List UInt8} (x : List UInt8) (h : QN q p l) (hv : (flt 0 v).2 = 0) : YeL (YgG q v ++ x) = .ok ((mkB q, mkB v), x):=by
 unfold YeL YgG
 rw [show q ++ [61, 34] ++ subst YgQ v ++ [34] ++ x = q ++ (61 :: 34 :: (subst YgQ v ++ 34 :: x)) by simp]
 rw [YbA h (Ya2 (by decide) (by decide))]
 simp only
 rw [equals_of]
 simp only
 rw [quoted_of _ quo_free]
 simp only
 rw [read_quo hv]
 simp
def ZyC : List (List UInt8 × List UInt8) -> List UInt8
 | [] => []
 | a :: r => 32 :: (YgG a.1 a.2 ++ ZyC r)
def YbW (a : List UInt8 × List UInt8) : Pr:=(mkB a.1, mkB a.2)
theorem skip_name {q p l x : List UInt8} (h : QN q p l) : ZzE (q ++ x) = q ++ x:=by
 cases q with
 | nil => exact absurd rfl h.ne
 | cons b r =>
  refine ZxP ?_
  cases hs : Yfq b with
  | false => rfl
  | true =>
   exfalso
   have hb : b = 32 \/ b = 9 \/ b = 10 \/ b = 13:=by
    unfold Yfq at hs
    simp only [Bool.or_eq_true, beq_iff_eq] at hs
    rcases hs with ((h | h) | h) | h
    ·exact .inl h
    ·exact .inr (.inl h)
    ·exact .inr (.inr (.inl h))
    ·exact .inr (.inr (.inr h))
   have h0:=QN.nmL (x:=[]) h stop_nil
   rw [append_nil, length_cons] at h0
   have h128 : b.toNat < 128:=by rcases hb with rfl | rfl | rfl | rfl <;> decide
   rw [YgR h128, if_neg (by rcases hb with rfl | rfl | rfl | rfl <;> decide)] at h0
   omega
theorem Yg1 {q p l x w : List UInt8} {b : UInt8} (h : QN q p l) (hb : b.toNat < 128) (hc : nmC true b.toNat = false) : (b :: w).isPrefixOf (q ++ x) = false:=by
 cases q with
 | nil => exact absurd rfl h.ne
 | cons c r =>
  simp only [cons_append, isPrefixOf]
  cases hbc : (b == c) with
  | false => rfl
  | true =>
   exfalso
   have : b = c:=by simpa using hbc
   subst this
   have h0:=QN.nmL (x:=[]) h stop_nil
   rw [append_nil, length_cons, YgR hb, if_neg (by rw [hc]; decide)] at h0
   omega
theorem pairs_of (fin : List UInt8) (k : Int) (after : List UInt8) (hfin : ∀ n acc, 0 < n -> ZxE n fin acc = .ok (k, acc, after)) (hfs : ∃ c s, fin = c :: s) :
  ∀ (L : List (List UInt8 × List UInt8)) (n : Nat) (acc : List Pr), L.length < n -> (∀ a ∈ L, ∃ p l, QN a.1 p l) -> (∀ a ∈ L, (flt 0 a.2).2 = 0) -> (L.map (·.1)).Nodup -> (∀ a ∈ L, ∀ q ∈ acc, q.1 ≠ mkB a.1) ->
   ZxE n (ZyC L ++ fin) acc = .ok (k, acc ++ L.map YbW, after)
 | [], n, acc, hn, _, _, _, _ => by
  rw [show ZyC [] ++ fin = fin from rfl, hfin n acc (by simpa using hn)]; simp
 | a :: L, 0, acc, hn, _, _, _, _ => by simp at hn
 | a :: L, n + 1, acc, hn, hq, hv, hd, hac => by
  obtain ⟨p, l, h⟩:=hq a mem_cons_self
  have e1 : ZzE (ZyC (a :: L) ++ fin) = a.1 ++ ([61, 34] ++ subst YgQ a.2 ++ [34] ++ (ZyC L ++ fin)):=by
   show ZzE (32 :: (YgG a.1 a.2 ++ ZyC L ++ fin)) = _
   rw [Yf3 (by decide)]
   have : YgG a.1 a.2 ++ ZyC L ++ fin = a.1 ++ ([61, 34] ++ subst YgQ a.2 ++ [34] ++ (ZyC L ++ fin)):=by simp [YgG]
   rw [this]; exact skip_name h
  unfold ZxE
  rw [e1]
  have hlen : ¬ (a.1 ++ ([61, 34] ++ subst YgQ a.2 ++ [34] ++ (ZyC L ++ fin))).length = (ZyC (a :: L) ++ fin).length:=by
   simp only [ZyC, YgG, length_append, length_cons]; omega
  rw [if_neg (by rw [Yg1 h (by decide) (by decide)]; decide), if_neg (by rw [Yg1 h (by decide) (by decide)]; decide), if_neg hlen]
  rw [show a.1 ++ ([61, 34] ++ subst YgQ a.2 ++ [34] ++ (ZyC L ++ fin)) = YgG a.1 a.2 ++ (ZyC L ++ fin) by simp [YgG]]
  rw [pairR_of _ h (hv a mem_cons_self)]
  simp only
  have hno : acc.any (fun q => decide (q.1 = mkB a.1)) = false:=by
   rw [any_eq_false]
   intro q hqm
   simpa using hac a mem_cons_self q hqm
  rw [hno, if_neg (by decide)]
  simp only [map_cons, nodup_cons] at hd
  rw [pairs_of fin k after hfin hfs L n (acc ++ [(mkB a.1, mkB a.2)]) (by simp only [length_cons] at hn; omega) (fun b hb => hq b (mem_cons_of_mem _ hb)) (fun b hb => hv b (mem_cons_of_mem _ hb)) hd.2 (fun b hb q hqm => by
   rcases mem_append.1 hqm with hqm | hqm
   ·exact hac b (mem_cons_of_mem _ hb) q hqm
   ·rw [mem_singleton.1 hqm]
    intro e
    have e2 : a.1 = b.1:=by rw [<- ZzH a.1, <- ZzH b.1]; exact congrArg bl e
    exact hd.1 (mem_map.2 ⟨b, hb, e2.symm⟩))]
  simp [YbW]
theorem fin_open (x : List UInt8) : ∀ n (acc : List Pr), 0 < n -> ZxE n (62 :: x) acc = .ok (2, acc, x)
 | 0, _, h => by omega
 | n + 1, acc, _ => by
  unfold ZxE
  rw [ZxP (by decide), if_neg (by simp [isPrefixOf]), if_pos (by simp [isPrefixOf])]
  rfl
theorem find_at {w s x : List UInt8} (hw : w ≠ []) (h : ∀ i, i < s.length -> w.isPrefixOf ((s ++ w ++ x).drop i) = false) : YcP w (s ++ w ++ x) = some s.length:=by
 induction s with
 | nil =>
  cases w with
  | nil => exact absurd rfl hw
  | cons b r =>
   simp only [nil_append, cons_append, YcP]
   rw [if_pos (by rw [<- cons_append]; simp)]; rfl
 | cons b s ih =>
  have h0:=h 0 (by simp)
  rw [drop_zero] at h0
  simp only [cons_append, YcP] at h0 ⊢
  rw [if_neg (by rw [h0]; decide), ih (fun i hi => by have:=h (i + 1) (by simp; omega); simpa using this)]
  rfl
end Go.Vc
end
section
namespace Go.Vc
open Go Go.Lib
def Zxd (s : List UInt8) : Prop:=(flt 0 s).2 = 0
theorem Yc7 : Zxd []:=by unfold Zxd; rw [Yga]
theorem flt_fine {s : List UInt8} (h : Zxd s) (i : Nat) : (flt i s).2 = 0:=by
 rcases YhH s i with ⟨h1, _, _⟩ | ⟨h1, h2⟩
 ·exact h1
 ·rw [h2]; exact h
theorem Zqs {a b : List UInt8} (ha : Zxd a) (hb : Zxd b) : Zxd (a ++ b):=by
 unfold Zxd at ha
 rcases flt_join b a 0 with ⟨h, _⟩ | ⟨h, _⟩ | ⟨_, h⟩
 ·omega
 ·omega
 ·unfold Zxd; rw [h]; exact flt_fine hb _
theorem fine_char {b : UInt8} (h : b.toNat < 128) (hc : chr (b.toNat : Nat) = true) : Zxd [b]:=by
 unfold Zxd
 have e:=ZzI b [] h
 rw [YbM (by simp) (by rw [e]; exact Nat.one_ne_zero) (by rw [e]; exact hc), e]
 simp [Yga]
theorem fine_all : ∀ {l : List UInt8}, (∀ b ∈ l, b.toNat < 128 /\ chr (b.toNat : Nat) = true) -> Zxd l
 | [], _ => Yc7
 | b :: r, h => Zqs (a:=[b]) (fine_char (h b (by simp)).1 (h b (by simp)).2) (fine_all fun x hx => h x (by simp [hx]))
def asc (l : List UInt8) : Bool:=l.all fun b => decide ((32 <= b.toNat /\ b.toNat < 127) \/ b.toNat = 10)
theorem chr_asc {n : Nat} (h : (32 <= n /\ n < 127) \/ n = 10) : chr (n : Int) = true:=by
 unfold chr; refine decide_eq_true ?_; unfold Chr; omega
theorem Zqr {l : List UInt8} (h : asc l = true) : Zxd l:=fine_all fun b hb => by
 have:=of_decide_eq_true (all_eq_true.1 h b hb)
 exact ⟨by omega, chr_asc this⟩
theorem Yep {s : List UInt8} (hs : s ≠ []) (h : Zxd s) : (rd s).2 ≠ 0 /\ chr (rd s).1 = true /\ Zxd (s.drop (rd s).2):=by
 unfold Zxd at h
 by_cases hk : (rd s).2 = 0
 ·rw [YhG hs hk] at h; cases h
 cases hc : chr (rd s).1 with
 | false => rw [Ygb hs hk hc] at h; cases h
 | true =>
  refine ⟨hk, rfl, ?_⟩
  rw [YbM hs hk hc] at h
  rcases YhH (s.drop (rd s).2) (0 + (rd s).2) with ⟨_, _, h3⟩ | ⟨h1, _⟩
  ·unfold Zxd; rw [h3]
  ·exact absurd h h1
theorem Ycy {s : List UInt8} (hs : s ≠ []) (hk : (rd s).2 ≠ 0) (hc : chr (rd s).1 = true) (h : Zxd (s.drop (rd s).2)) : Zxd s:=by
 unfold Zxd; rw [YbM hs hk hc]; exact flt_fine h _
theorem fine_tail {b : UInt8} {r : List UInt8} (hb : b.toNat < 128) (h : Zxd (b :: r)) : Zxd r:=by
 have:=(Yep (by simp) h).2.2
 rw [ZzI b r hb] at this
 simpa using this
theorem Ygc {c : UInt8} (hc : c.toNat < 128) (b : List UInt8) : ∀ (n : Nat) (a : List UInt8), a.length <= n -> Zxd (a ++ c :: b) -> Zxd a /\ Zxd (c :: b)
 | 0, a, hn, h => by
  have : a = []:=eq_nil_of_length_eq_zero (by omega)
  subst this
  exact ⟨Yc7, h⟩
 | n + 1, a, hn, h => by
  by_cases ha : a = []
  ·subst ha; exact ⟨Yc7, h⟩
  have hs : a ++ c :: b ≠ []:=by simp [ha]
  obtain ⟨hk, hch, hd⟩:=Yep hs h
  have hla:=length_pos_iff.2 ha
  have hle : (rd (a ++ c :: b)).2 <= a.length:=by
   rcases Yha hs hk with hall | ⟨x, r, e, hx, er⟩
   ·rcases Nat.lt_or_ge a.length (rd (a ++ c :: b)).2 with hlt | hge
    ·exfalso
     have hm : c ∈ (a ++ c :: b).take (rd (a ++ c :: b)).2:=by
      rw [take_append]
      refine mem_append.2 (.inr ?_)
      obtain ⟨m, hm⟩ : ∃ m, (rd (a ++ c :: b)).2 - a.length = m + 1:=⟨_, (Nat.succ_pred_eq_of_pos (by omega)).symm⟩
      rw [hm]; simp
     have:=hall c hm
     omega
    ·exact hge
   ·rw [er]; exact hla
  have hz : a.take (rd (a ++ c :: b)).2 = (a ++ c :: b).take (rd (a ++ c :: b)).2:=by rw [take_append_of_le_length hle]
  have er : rd a = rd (a ++ c :: b):=rd_same hs hk hz
  rw [drop_append_of_le_length hle] at hd
  have ih:=Ygc hc b n (a.drop (rd (a ++ c :: b)).2) (by rw [length_drop]; omega) hd
  refine ⟨Ycy ha (by rw [er]; exact hk) (by rw [er]; exact hch) (by rw [er]; exact ih.1), ih.2⟩
theorem fine_head {c : UInt8} (hc : c.toNat < 128) {a b : List UInt8} (h : Zxd (a ++ c :: b)) : Zxd a:=(Ygc hc b _ a (Nat.le_refl _) h).1
theorem fine_back {c : UInt8} (hc : c.toNat < 128) {a b : List UInt8} (h : Zxd (a ++ c :: b)) : Zxd (c :: b):=(Ygc hc b _ a (Nat.le_refl _) h).2
theorem fine_enc {c : Nat} (h : chr (c : Int) = true) : Zxd (YeN c):=by
 have e:=rd_enc c (chr_le h) []
 rw [append_nil] at e
 have hl:=YgZ c
 have hne : YeN c ≠ []:=fun e => by rw [e] at hl; simp at hl
 refine Ycy hne (by rw [e]; simp; omega) (by rw [e]; exact h) ?_
 rw [e]; simp [Yc7]
theorem fine_stepL {v : Bool} {y : List UInt8} (h : (Zyf v y).2.2 = 0) : Zxd (Zyf v y).1:=by
 unfold Zyf at h ⊢
 by_cases h1 : (rd y).2 = 0
 ·rw [if_pos h1] at h; cases h
 rw [if_neg h1] at h ⊢
 by_cases h2 : chr (rd y).1 = false
 ·rw [if_pos h2] at h; cases h
 rw [if_neg h2] at h ⊢
 by_cases h3 : (rd y).1 = 60 \/ (v = false /\ [93, 93, 62].isPrefixOf y = true)
 ·rw [if_pos h3] at h; cases h
 rw [if_neg h3] at h ⊢
 by_cases h4 : (rd y).1 = 38
 ·rw [if_pos h4] at h ⊢
  by_cases h5 : (Ygx (y.drop 1)).2.2 = 0
  ·rw [if_pos h5]; exact fine_enc (expL_chr h5)
  ·rw [if_neg h5] at h; exact absurd h h5
 rw [if_neg h4] at h ⊢
 by_cases h5 : v = true /\ ((rd y).1 = 9 \/ (rd y).1 = 10 \/ (rd y).1 = 13)
 ·rw [if_pos h5]; exact Zqr (l:=[32]) (by decide)
 ·rw [if_neg h5]; exact fine_enc (by simpa using h2)
theorem Yhk (v : Bool) : ∀ (n : Nat) (y : List UInt8), y.length <= n -> ∀ (i : Nat) (out : List UInt8), Zxd out -> (ZyB v i y out).2.2 = 0 -> Zxd (ZyB v i y out).1
 | 0, y, h, i, out, ho, hr => by
  have : y = []:=eq_nil_of_length_eq_zero (by omega)
  subst this; rw [Yba]; exact ho
 | n + 1, y, h, i, out, ho, hr => by
  by_cases hy : y = []
  ·subst hy; rw [Yba]; exact ho
  by_cases h2 : (Zyf v y).2.2 = 0
  ·rw [YcZ hy h2] at hr ⊢
   have h3:=Yfu h2
   have:=length_pos_iff.2 hy
   exact Yhk v n _ (by rw [length_drop]; omega) _ _ (Zqs ho (fine_stepL h2)) hr
  ·rw [Yef hy h2] at hr; exact absurd hr h2
theorem chr_part {c : Nat} (h : isPt (c : Int) = true) : chr (c : Int) = true:=by
 have h:=of_decide_eq_true h
 unfold chr; refine decide_eq_true ?_
 unfold Prt Sta Pr2 at h
 unfold Chr
 omega
theorem prt_fine : ∀ a, prt a = true -> Zxd a:=by
 refine Yfz ?_ ?_ ?_
 ·intro _; exact Yc7
 ·intro a h hk hp; rw [Yeg h hk] at hp; cases hp
 ·intro a h hk ih hp
  rw [Yby h hk, Bool.and_eq_true] at hp
  exact Ycy h hk (chr_part hp.1) (ih hp.2)
theorem nm_prt {a : List UInt8} (h : nm a = true) : prt a = true:=by simp only [nm, Bool.and_eq_true] at h; exact h.2
theorem nm_fine {a : List UInt8} (h : nm a = true) : Zxd a:=prt_fine a (nm_prt h)
theorem prt_mem : ∀ a, prt a = true -> ∀ x ∈ a, 128 <= x.toNat \/ isPt (x.toNat : Nat) = true:=by
 refine Yfz ?_ ?_ ?_
 ·intro _ x hx; cases hx
 ·intro a h hk hp; rw [Yeg h hk] at hp; cases hp
 ·intro a h hk ih hp x hx
  rw [Yby h hk, Bool.and_eq_true] at hp
  rw [<- take_append_drop (rd a).2 a, mem_append] at hx
  rcases hx with hx | hx
  ·rcases Yha h hk with hall | ⟨b, r, e, hb, er⟩
   ·exact .inl (hall x hx)
   ·rw [er, e] at hx
    have : x = b:=by simpa using hx
    subst this
    rw [er] at hp
    exact .inr hp.1
  ·exact ih hp.2 x hx
theorem nm_mem {a : List UInt8} (h : nm a = true) {x : UInt8} (hx : x ∈ a) : 128 <= x.toNat \/ isPt (x.toNat : Nat) = true:=prt_mem a (nm_prt h) x hx
theorem nm_no {a : List UInt8} (h : nm a = true) {x : UInt8} (h1 : x.toNat < 128) (h2 : isPt (x.toNat : Nat) = false) : x ∉ a:=fun hx => by
 rcases nm_mem h hx with h3 | h3
 ·omega
 ·rw [h2] at h3; cases h3
theorem Yfs (v : Bool) : ∀ {s : List UInt8}, (∀ x ∈ s, 128 <= x.toNat) -> subst (Yab v) s = s
 | [], _ => rfl
 | b :: r, h => by rw [ZxN, look_big v (h b (by simp)), Yfs v (fun x hx => h x (by simp [hx]))]; rfl
theorem esc_asc (v : Bool) : ∀ p ∈ Yab v, asc p.2 = true:=by cases v <;> decide
theorem sub_fine (v : Bool) : ∀ (s : List UInt8), Zxd s -> Zxd (subst (Yab v) s):=by
 refine Yfz ?_ ?_ ?_
 ·intro _; exact Yc7
 ·intro a h hk hf; exact absurd hk (Yep h hf).1
 ·intro a h hk ih hf
  obtain ⟨_, hc, hd⟩:=Yep h hf
  rw [<- take_append_drop (rd a).2 a, Ycp]
  refine Zqs ?_ (ih hd)
  rcases Yha h hk with hall | ⟨b, r, e, hb, er⟩
  ·rw [Yfs v hall]
   have hle:=Yfy a h
   have hne : a.take (rd a).2 ≠ []:=by
    intro e
    have:=congrArg length e
    rw [length_take] at this
    rw [length_nil] at this
    omega
   have e2 : rd (a.take (rd a).2) = rd a:=rd_same h hk (by rw [take_take, Nat.min_self])
   refine Ycy hne (by rw [e2]; exact hk) (by rw [e2]; exact hc) ?_
   rw [e2]
   rw [drop_take]
   simp [Yc7]
  ·rw [er, e]
   rw [er] at hc
   simp only [take_succ_cons, take_zero]
   rw [ZxN]
   refine Zqs ?_ Yc7
   cases hl : Zx2 (Yab v) b with
   | none => exact fine_char hb hc
   | some m =>
    obtain ⟨p, hp, rfl, rfl⟩:=Ydp hl
    exact Zqr (esc_asc v p hp)
theorem sub_no13 (v : Bool) (s : List UInt8) : (13 : UInt8) ∉ subst (Yab v) s:=fun h => (Yft v s 13 h).2.1 rfl
theorem sub_no60 (v : Bool) (s : List UInt8) : (60 : UInt8) ∉ subst (Yab v) s:=fun h => (Yft v s 60 h).1 rfl
end Go.Vc
end
section
namespace Go.Proofs.YtglnmjflpkeclaaGreatDoor
open Go Go.Vc
theorem c_tree_Order {a b c d : ByteArray} {w : World} {J : Int -> World -> Prop} (h :
 newB w (.cells ⟨[.string a, .string b]⟩ Zyr) fun e f =>
 newB f (.cells ⟨[.string c, .string d]⟩ Zyr) fun g i =>
 ldStr i.drew ⟨e, 0, none⟩ fun j =>
 ldStr i.drew ⟨g, 0, none⟩ fun k =>
 ldStr i.drew ⟨e, 1, none⟩ fun l =>
 ldStr i.drew ⟨g, 1, none⟩ fun m =>
 Zz0 Tryz.prog Zyg #[.string j, .string k] i.drew [.one (.int .i64)] fun n o =>
 o.cell? ⟨g, 1, none⟩ = some (.string m) /\
 o.cell? ⟨e, 1, none⟩ = some (.string l) /\
 Zz0 Tryz.prog Zyg #[.string l, .string m] o [.one (.int .i64)] fun p q =>
 newB q (.cells ⟨[.int .i64 n, .int .i64 p]⟩ T_int) fun r s =>
 Zz0 Tryz.prog Ydz #[.slice (some ⟨r, 0, none⟩) 2 2] s [.one (.int .i64)] fun t u =>
 J t u) : Zz0 Tryz.prog Ydt #[.agg ⟨[.string a, .string b]⟩, .agg ⟨[.string c, .string d]⟩] w [.one (.int .i64)] J:=Zz3 Tryz.func80 (.s .o (.s (.d (.take 0 (.take 1 (.take 2 (.take 3 (.take 5 (.take 6 (.take 7 (.take 8 (.eff 4 (.eff 9 (.eff 10 (.eff 11 (.take 12 .done) .none) .none) .none) .none)))))))))) .o)) (Eq.mpr (by kernel_rfl) h)
theorem c_tree_Check {a : Int} {b c : ByteArray} {d : Option Addr} {e f : Nat} {g : Option Addr} {i j : Nat} {k : ByteArray} {w : World} {J : Int -> World -> Prop} (h :
 newB w (.cells ⟨[.int .i64 a, .string b, .string c, .slice d e f, .slice g i j, .string k]⟩ Zz5) fun l m =>
 ldI .i64 m ⟨l, 0, none⟩ fun n =>
 ldStr m ⟨l, 1, none⟩ fun o =>
 ldStr m ⟨l, 2, none⟩ fun p =>
 ldS m ⟨l, 3, none⟩ fun q r s =>
 ldS m ⟨l, 4, none⟩ fun t u v =>
 ldStr m ⟨l, 5, none⟩ fun x =>
 Zz0 Tryz.prog Ycs #[.agg ⟨[.int .i64 n, .string o, .string p, .slice q r s, .slice t u v, .string x]⟩, .slice none 0 0] m [.one .slice] fun y z aa ab =>
 Zzf (fun (br : Bool) (bs : World) =>
 Zz1 br (
 J (33 : Int) bs) (
 ldI .i64 bs ⟨l, 0, none⟩ fun ac =>
 ldStr bs ⟨l, 1, none⟩ fun ad =>
 ldStr bs ⟨l, 2, none⟩ fun ae =>
 ldS bs ⟨l, 3, none⟩ fun af ag ai =>
 ldS bs ⟨l, 4, none⟩ fun aj ak al =>
 ldStr bs ⟨l, 5, none⟩ fun am =>
 Zz0 Tryz.prog Yct #[.agg ⟨[.int .i64 ac, .string ad, .string ae, .slice af ag ai, .slice aj ak al, .string am]⟩, .int .i64 0] bs [.one .bool] fun an ao =>
 Zz1 an (
 J (31 : Int) ao) (
 Zzf (fun (bt : Bool) (bu : World) =>
 Zz1 bt (
 J (5 : Int) bu) (
 Zz0 Tryz.prog Zz2 #[.slice y z aa, .func (.func 42) #[] #[]] bu [.one .bool] fun ap aq =>
 Zz1 ap (
 J (24 : Int) aq) (
 Zz0 Tryz.prog Zz2 #[.slice y z aa, .func (.func 43) #[] #[]] aq [.one .bool] fun ar au =>
 Zz1 ar (
 J (21 : Int) au) (
 Zz0 Tryz.prog Zz2 #[.slice y z aa, .func (.func 44) #[] #[]] au [.one .bool] fun av ax =>
 Zz1 av (
 J (34 : Int) ax) (
 Zz0 Tryz.prog Zz2 #[.slice y z aa, .func (.func 45) #[] #[]] ax [.one .bool] fun ay az =>
 Zz1 ay (
 J (32 : Int) az) (
 ldS az ⟨l, 4, none⟩ fun a0 a1 a2 =>
 ∃ b2 : Int -> Int -> World -> Nat -> Prop, (∃ b3, b2 (0 : Int) (0 : Int) az b3) /\ ∀ (bv : Int) (bx : Int) (bz : World) (b3 : Nat), b2 bv bx bz b3 -> (
 Zz1 (decide (bx < (a1 : Int))) (
 Zzf (fun (b0 : Int) (b1 : World) =>
 ∃ b4, b4 < b3 /\ b2 b0 (w64 (bx + (1 : Int))) b1 b4) fun a3 =>
 ZzS a0 a1 bx fun a4 =>
 ldI .i64 bz ((a4.add (bx.toNat * 6))) fun a5 =>
 ldStr bz (((a4.add (bx.toNat * 6)).add 1)) fun a6 =>
 ldStr bz (((a4.add (bx.toNat * 6)).add 2)) fun a7 =>
 ldS bz (((a4.add (bx.toNat * 6)).add 3)) fun a8 a9 ba =>
 ldS bz (((a4.add (bx.toNat * 6)).add 4)) fun bb bc bd =>
 ldStr bz (((a4.add (bx.toNat * 6)).add 5)) fun be =>
 newB bz (.cells (Zy2 Tryz.prog Zz5) Zz5) fun bf bg =>
 stN bg ⟨bf, 0, none⟩ ⟨[.int .i64 a5, .string a6, .string a7, .slice a8 a9 ba, .slice bb bc bd, .string be]⟩ 6 fun bi =>
 ldI .i64 bi ⟨bf, 0, none⟩ fun bj =>
 Zz1 (bj == (2 : Int)) (
 a3 (w64 (bv + (1 : Int))) bi) (
 a3 bv bi)) (
 Zz1 (bv != (1 : Int)) (
 J (30 : Int) bz) (
 J (0 : Int) bz))))))))) fun bk =>
 Zz1 (decide ((w64 ((z : Int) - (1 : Int))) > (2000 : Int))) (
 bk true ao) (
 Zz0 Tryz.prog Zz2 #[.slice y z aa, .func (.func 41) #[] #[]] ao [.one .bool] fun bl bm =>
 bk bl bm)))) fun bn =>
 ldI .i64 ab ⟨l, 0, none⟩ fun bo =>
 Zz1 (bo != (1 : Int)) (
 bn true ab) (
 Zz0 Tryz.prog Zz2 #[.slice y z aa, .func (.func 39) #[] #[]] ab [.one .bool] fun bp bq =>
 bn bp bq)) : Zz0 Tryz.prog Ydu #[.agg ⟨[.int .i64 a, .string b, .string c, .slice d e f, .slice g i j, .string k]⟩] w [.one (.int .i64)] J:=Zz3 Tryz.func17 (.s .o (.s .o (.s (.b (.j [(9, .bool)] .o (.c (.s .o .o) (.s .o (.c (.s .o .o) (.j [(20, .bool)] .o (.c (.s .o .o) (.s .o (.c (.s .o .o) (.s .o (.c (.s .o .o) (.s .o (.c (.s .o .o) (.s .o (.c (.s .o .o) .o))))))))))))))) (.s .o (.s (.s .o (.b (.l [(4, .int .i64), (44, .int .i64)] (.s .o (.s (.c .o .o) (.j [(4, .int .i64)] (.b (.s .o (.s .o (.c .o .o)))) .o)))))) (.s (.s .o (.c (.s .o .o) .o)) (.s .o .o))))))) (Eq.mpr (by kernel_rfl) h)
theorem c_tree_flat {a : Int} {b c : ByteArray} {d : Option Addr} {e f : Nat} {g : Option Addr} {i j : Nat} {k : ByteArray} {l : Option Addr} {m n : Nat} {w : World} {J : Option Addr -> Nat -> Nat -> World -> Prop} (h :
 newB w (.cells ⟨[.int .i64 a, .string b, .string c, .slice d e f, .slice g i j, .string k]⟩ Zz5) fun o p =>
 ldI .i64 p ⟨o, 0, none⟩ fun q =>
 ldStr p ⟨o, 1, none⟩ fun r =>
 ldStr p ⟨o, 2, none⟩ fun s =>
 ldS p ⟨o, 3, none⟩ fun t u v =>
 ldS p ⟨o, 4, none⟩ fun x y z =>
 ldStr p ⟨o, 5, none⟩ fun aa =>
 Array.size (⟨[.int .i64 q, .string r, .string s, .slice t u v, .slice x y z, .string aa]⟩ : Array Value) = 6 /\
 newB p (.cells ⟨[.int .i64 q, .string r, .string s, .slice t u v, .slice x y z, .string aa]⟩ Zz5) fun ab ac =>
 YeJ Tryz.prog Zyo Zyo (.slice l m n) (.slice (some ⟨ab, 0, none⟩) 1 1) ac fun ad ae af ag =>
 ldS ag ⟨o, 4, none⟩ fun ai aj ak =>
 ∃ bj : Option Addr -> Nat -> Nat -> Int -> World -> Nat -> Prop, (∃ bk, bj ad ae af (0 : Int) ag bk) /\ ∀ (l : Option Addr) (m : Nat) (n : Nat) (bg : Int) (bi : World) (bk : Nat), bj l m n bg bi bk -> (
 Zz1 (decide (bg < (aj : Int))) (
 ZzS ai aj bg fun al =>
 ldI .i64 bi ((al.add (bg.toNat * 6))) fun am =>
 ldStr bi (((al.add (bg.toNat * 6)).add 1)) fun an =>
 ldStr bi (((al.add (bg.toNat * 6)).add 2)) fun ao =>
 ldS bi (((al.add (bg.toNat * 6)).add 3)) fun ap aq ar =>
 ldS bi (((al.add (bg.toNat * 6)).add 4)) fun au av ax =>
 ldStr bi (((al.add (bg.toNat * 6)).add 5)) fun ay =>
 newB bi (.cells (Zy2 Tryz.prog Zz5) Zz5) fun az a0 =>
 stN a0 ⟨az, 0, none⟩ ⟨[.int .i64 am, .string an, .string ao, .slice ap aq ar, .slice au av ax, .string ay]⟩ 6 fun a1 =>
 ldI .i64 a1 ⟨az, 0, none⟩ fun a2 =>
 ldStr a1 ⟨az, 1, none⟩ fun a3 =>
 ldStr a1 ⟨az, 2, none⟩ fun a4 =>
 ldS a1 ⟨az, 3, none⟩ fun a5 a6 a7 =>
 ldS a1 ⟨az, 4, none⟩ fun a8 a9 ba =>
 ldStr a1 ⟨az, 5, none⟩ fun bb =>
 Zz0 Tryz.prog Ycs #[.agg ⟨[.int .i64 a2, .string a3, .string a4, .slice a5 a6 a7, .slice a8 a9 ba, .string bb]⟩, .slice l m n] a1 [.one .slice] fun bc bd be bf =>
 ∃ bl, bl < bk /\ bj bc bd be (w64 (bg + (1 : Int))) bf bl) (
 J l m n bi))) : Zz0 Tryz.prog Ycs #[.agg ⟨[.int .i64 a, .string b, .string c, .slice d e f, .slice g i j, .string k]⟩, .slice l m n] w [.one .slice] J:=Zz3 Tryz.func37 (.s .o (.s .o (.s (.s .o (.b (.l [(1, .slice), (14, .int .i64)] (.s .o (.s (.c .o .o) (.s (.b (.s .o .o)) .o)))))) (.s .o .o)))) (Eq.mpr (by kernel_rfl) h)
theorem c_tree_odd {a : Int} {b c : ByteArray} {d : Option Addr} {e f : Nat} {g : Option Addr} {i j : Nat} {k : ByteArray} {w : World} {J : Bool -> World -> Prop} (h :
 newB w (.cells ⟨[.int .i64 a, .string b, .string c, .slice d e f, .slice g i j, .string k]⟩ Zz5) fun l m =>
 Zzf (fun (aj : Bool) (ak : World) =>
 Zzf (fun (al : Bool) (am : World) =>
 Zzf (fun (an : Bool) (ao : World) =>
 J an ao) fun n =>
 Zz1 al (
 n true am) (
 ldS am ⟨l, 4, none⟩ fun o p q =>
 Zz0 Tryz.prog Zz2 #[.slice o p q, .func (.func 69) #[] #[.pointer (some ⟨l, 0, none⟩)]] am [.one .bool] fun r s =>
 n r s)) fun t =>
 ldI .i64 ak ⟨l, 0, none⟩ fun u =>
 Zz1 (u == (1 : Int)) (
 Zz1 aj (
 t true ak) (
 ldStr ak ⟨l, 1, none⟩ fun v =>
 ldStr ak ⟨l, 2, none⟩ fun x =>
 Zz1 (!((v.toList == ByteArray.empty.toList) && ((x.toList == ByteArray.empty.toList) && true))) (
 t true ak) (
 ldStr ak ⟨l, 5, none⟩ fun y =>
 t (!(y.toList == (⟨#[]⟩ : ByteArray).toList)) ak))) (
 Zz1 (u == (2 : Int)) (
 ldStr ak ⟨l, 5, none⟩ fun z =>
 t (!(z.toList == (⟨#[]⟩ : ByteArray).toList)) ak) (
 Zz1 (u == (5 : Int)) (
 Zz1 aj (
 t true ak) (
 ldStr ak ⟨l, 1, none⟩ fun aa =>
 t (!(aa.toList == (⟨#[]⟩ : ByteArray).toList)) ak)) (
 Zz1 aj (
 t true ak) (
 ldStr ak ⟨l, 1, none⟩ fun ab =>
 ldStr ak ⟨l, 2, none⟩ fun ac =>
 t (!((ab.toList == ByteArray.empty.toList) && ((ac.toList == ByteArray.empty.toList) && true))) ak))))) fun ad =>
 ldI .i64 m ⟨l, 0, none⟩ fun ae =>
 Zz1 (ae != (2 : Int)) (
 ldS m ⟨l, 3, none⟩ fun af ag ai =>
 ad (decide ((ag : Int) > (0 : Int))) m) (
 ad false m)) : Zz0 Tryz.prog Yds #[.agg ⟨[.int .i64 a, .string b, .string c, .slice d e f, .slice g i j, .string k]⟩] w [.one .bool] J:=Zz3 Tryz.func39 (.s .o (.j [(3, .bool)] .o (.j [(3, .bool)] (.s .o (.b (.s .o (.c .o (.s .o (.c .o (.s .o (.c .o .o)))))))) (.j [(2, .bool)] .o .o)))) (Eq.mpr (by kernel_rfl) h)
theorem c_tree_odd_1 {a : Int} {b c : ByteArray} {d : Option Addr} {e f : Nat} {g : Option Addr} {i j : Nat} {k : ByteArray} {l : Addr} {w : World} {J : Bool -> World -> Prop} (h :
 newB w (.cells ⟨[.int .i64 a, .string b, .string c, .slice d e f, .slice g i j, .string k]⟩ Zz5) fun m n =>
 ldI .i64 n l fun o =>
 ldI .i64 n ⟨m, 0, none⟩ fun p =>
 Zz0 Tryz.prog Yfc #[.int .i64 o, .int .i64 p] n [.one .bool] fun q r =>
 J (!q) r) : Zz0 Tryz.prog YbF #[.agg ⟨[.int .i64 a, .string b, .string c, .slice d e f, .slice g i j, .string k]⟩, .pointer (some l)] w [.one .bool] J:=Zz3 Tryz.func69 (.s .o (.s .o .o)) (Eq.mpr (by kernel_rfl) h)
theorem c_tree_may {a b : Int} {w : World} {J : Bool -> World -> Prop} (h :
 Zz1 (a == (1 : Int)) (
 Zzf (fun (e : Bool) (f : World) =>
 J e f) fun c =>
 Zz1 (b == (2 : Int)) (
 c true w) (
 Zz1 (b == (4 : Int)) (
 c true w) (
 c (b == (5 : Int)) w))) (
 Zz1 (a == (2 : Int)) (
 Zzf (fun (g : Bool) (i : World) =>
 J g i) fun d =>
 Zz1 (decide (b >= (2 : Int))) (
 d (decide (b <= (5 : Int))) w) (
 d false w)) (
 J false w))) : Zz0 Tryz.prog Yfc #[.int .i64 a, .int .i64 b] w [.one .bool] J:=Zz3 Tryz.func70 (.s .o (.s (.s .o (.b (.s .o (.c (.j [(4, .bool)] .o .o) (.s .o (.c (.j [(4, .bool)] .o .o) .o)))))) (.s .o .o))) (Eq.mpr (by kernel_rfl) h)
theorem c_tree_deep {a : Int} {b c : ByteArray} {d : Option Addr} {e f : Nat} {g : Option Addr} {i j : Nat} {k : ByteArray} {l : Int} {w : World} {J : Bool -> World -> Prop} (h :
 newB w (.cells ⟨[.int .i64 a, .string b, .string c, .slice d e f, .slice g i j, .string k]⟩ Zz5) fun m n =>
 newB n (.cells #[.int .i64 l] T_int) fun o p =>
 Zzf (fun (ab : World) =>
 ldS ab ⟨m, 4, none⟩ fun q r s =>
 Zz0 Tryz.prog Zz2 #[.slice q r s, .func (.func 71) #[] #[.pointer (some ⟨o, 0, none⟩)]] ab [.one .bool] fun t u =>
 J t u) fun v =>
 ldI .i64 p ⟨m, 0, none⟩ fun x =>
 Zz1 (x == (2 : Int)) (
 ldI .i64 p ⟨o, 0, none⟩ fun y =>
 Zz1 (decide (y > (32 : Int))) (
 J true p) (
 ldI .i64 p ⟨o, 0, none⟩ fun z =>
 stV p ⟨o, 0, none⟩ (.int .i64 (w64 (z + (1 : Int)))) fun aa =>
 v aa)) (
 v p)) : Zz0 Tryz.prog Yct #[.agg ⟨[.int .i64 a, .string b, .string c, .slice d e f, .slice g i j, .string k]⟩, .int .i64 l] w [.one .bool] J:=Zz3 Tryz.func40 (.s .o (.j [] (.s .o (.c (.s (.s .o (.c (.s .o .o) .o)) .o) .o)) (.s .o .o))) (Eq.mpr (by kernel_rfl) h)
theorem c_tree_deep_1 {a : Int} {b c : ByteArray} {d : Option Addr} {e f : Nat} {g : Option Addr} {i j : Nat} {k : ByteArray} {l : Addr} {w : World} {J : Bool -> World -> Prop} (h :
 newB w (.cells ⟨[.int .i64 a, .string b, .string c, .slice d e f, .slice g i j, .string k]⟩ Zz5) fun m n =>
 ldI .i64 n ⟨m, 0, none⟩ fun o =>
 ldStr n ⟨m, 1, none⟩ fun p =>
 ldStr n ⟨m, 2, none⟩ fun q =>
 ldS n ⟨m, 3, none⟩ fun r s t =>
 ldS n ⟨m, 4, none⟩ fun u v x =>
 ldStr n ⟨m, 5, none⟩ fun y =>
 ldI .i64 n l fun z =>
 Zz0 Tryz.prog Yct #[.agg ⟨[.int .i64 o, .string p, .string q, .slice r s t, .slice u v x, .string y]⟩, .int .i64 z] n [.one .bool] fun aa ab =>
 J aa ab) : Zz0 Tryz.prog YcH #[.agg ⟨[.int .i64 a, .string b, .string c, .slice d e f, .slice g i j, .string k]⟩, .pointer (some l)] w [.one .bool] J:=Zz3 Tryz.func71 (.s .o (.s .o .o)) (Eq.mpr (by kernel_rfl) h)
theorem c_tree_great {a : Int} {b c : ByteArray} {d : Option Addr} {e f : Nat} {g : Option Addr} {i j : Nat} {k : ByteArray} {w : World} {J : Bool -> World -> Prop} (h :
 newB w (.cells ⟨[.int .i64 a, .string b, .string c, .slice d e f, .slice g i j, .string k]⟩ Zz5) fun l m =>
 Zzf (fun (y : Bool) (z : World) =>
 J y z) fun n =>
 ldS m ⟨l, 3, none⟩ fun o p q =>
 Zz1 (decide ((p : Int) > (64 : Int))) (
 n true m) (
 ldStr m ⟨l, 5, none⟩ fun r =>
 Zz1 (decide ((r.size : Int) > (8192 : Int))) (
 n true m) (
 ldS m ⟨l, 3, none⟩ fun s t u =>
 Zz0 Tryz.prog Zzc #[.slice s t u, .func (.func 72) #[] #[]] m [.one .bool] fun v x =>
 n v x))) : Zz0 Tryz.prog YbG #[.agg ⟨[.int .i64 a, .string b, .string c, .slice d e f, .slice g i j, .string k]⟩] w [.one .bool] J:=Zz3 Tryz.func41 (.s .o (.s .o (.j [(2, .bool)] .o .o))) (Eq.mpr (by kernel_rfl) h)
theorem c_tree_great_1 {a b c : ByteArray} {w : World} {J : Bool -> World -> Prop} (h :
 newB w (.cells ⟨[.string a, .string b, .string c]⟩ ZzO) fun d e =>
 ldStr e ⟨d, 2, none⟩ fun f =>
 J (decide ((f.size : Int) > (8192 : Int))) e) : Zz0 Tryz.prog Yc1 #[.agg ⟨[.string a, .string b, .string c]⟩] w [.one .bool] J:=Zz3 Tryz.func72 (.s .o (.s .o .o)) (Eq.mpr (by kernel_rfl) h)
theorem YhX {a : Int} {b c : ByteArray} {d : Option Addr} {e f : Nat} {g : Option Addr} {i j : Nat} {k : ByteArray} {w : World} {J : Bool -> World -> Prop} (h :
 newB w (.cells ⟨[.int .i64 a, .string b, .string c, .slice d e f, .slice g i j, .string k]⟩ Zz5) fun l m =>
 ldI .i64 m ⟨l, 0, none⟩ fun n =>
 Zz1 (n == (2 : Int)) (
 Zzf (fun (ag : Bool) (ai : World) =>
 J ag ai) fun o =>
 ldStr m ⟨l, 1, none⟩ fun p =>
 ldStr m ⟨l, 2, none⟩ fun q =>
 Zz0 Tryz.prog ZqJ #[.agg ⟨[.string p, .string q]⟩] m [.one .bool] fun r s =>
 Zz1 r (
 o true s) (
 ldS s ⟨l, 3, none⟩ fun t u v =>
 Zz0 Tryz.prog Zzc #[.slice t u v, .func (.func 74) #[] #[]] s [.one .bool] fun x y =>
 o x y)) (
 Zz1 (n == (5 : Int)) (
 Zzf (fun (aj : Bool) (ak : World) =>
 J aj ak) fun z =>
 ldStr m ⟨l, 2, none⟩ fun aa =>
 Zz0 Tryz.prog Zq6 #[.string aa] m [.one .bool] fun ab ac =>
 Zz1 (!ab) (
 z true ac) (
 ldStr ac ⟨l, 2, none⟩ fun ad =>
 Zz0 Tryz.prog Zyp #[.string ad, .string ⟨#[120, 109, 108]⟩] ac [.one .bool] fun ae af =>
 z ae af)) (
 J false m))) : Zz0 Tryz.prog Yai #[.agg ⟨[.int .i64 a, .string b, .string c, .slice d e f, .slice g i j, .string k]⟩] w [.one .bool] J:=Zz3 Tryz.func42 (.s .o (.s .o (.s (.s .o (.b (.s .o (.c (.j [(2, .bool)] .o .o) (.s .o (.c (.j [(2, .bool)] .o .o) .o)))))) (.s .o .o)))) (Eq.mpr (by kernel_rfl) h)
theorem Ygf {a b c : ByteArray} {w : World} {J : Bool -> World -> Prop} (h :
 newB w (.cells ⟨[.string a, .string b, .string c]⟩ ZzO) fun d e =>
 Zzf (fun (n : Bool) (o : World) =>
 J n o) fun f =>
 ldStr e ⟨d, 0, none⟩ fun g =>
 ldStr e ⟨d, 1, none⟩ fun i =>
 Zz0 Tryz.prog ZqJ #[.agg ⟨[.string g, .string i]⟩] e [.one .bool] fun j k =>
 Zz1 j (
 f true k) (
 ldStr k ⟨d, 0, none⟩ fun l =>
 ldStr k ⟨d, 1, none⟩ fun m =>
 f ((l.toList == ByteArray.empty.toList) && ((m.toList == (⟨#[120, 109, 108, 110, 115]⟩ : ByteArray).toList) && true)) k)) : Zz0 Tryz.prog YaE #[.agg ⟨[.string a, .string b, .string c]⟩] w [.one .bool] J:=Zz3 Tryz.func74 (.s .o (.j [(2, .bool)] .o .o)) (Eq.mpr (by kernel_rfl) h)
theorem YgJ {a b : ByteArray} {w : World} {J : Bool -> World -> Prop} (h :
 newB w (.cells ⟨[.string a, .string b]⟩ Zyr) fun c d =>
 Zzf (fun (o : Bool) (p : World) =>
 J o p) fun e =>
 ldStr d ⟨c, 1, none⟩ fun f =>
 Zz0 Tryz.prog Zq6 #[.string f] d [.one .bool] fun g i =>
 Zz1 (!g) (
 e true i) (
 ldStr i ⟨c, 0, none⟩ fun j =>
 Zz1 (decide ((j.size : Int) > (100 : Int))) (
 e true i) (
 ldStr i ⟨c, 0, none⟩ fun k =>
 Zz0 Tryz.prog Yc2 #[.string k] i [.one .bool] fun l m =>
 Zz1 l (
 e true m) (
 ldStr m ⟨c, 0, none⟩ fun n =>
 e (n.toList == (⟨#[104, 116, 116, 112, 58, 47, 47, 119, 119, 119, 46, 119, 51, 46, 111, 114, 103, 47, 50, 48, 48, 48, 47, 120, 109, 108, 110, 115, 47]⟩ : ByteArray).toList) m)))) : Zz0 Tryz.prog ZqJ #[.agg ⟨[.string a, .string b]⟩] w [.one .bool] J:=Zz3 Tryz.func75 (.s .o (.j [(2, .bool)] .o .o)) (Eq.mpr (by kernel_rfl) h)
theorem c_tree_bad {a : ByteArray} {w : World} {J : Bool -> World -> Prop} (h :
 cvJ Tryz.prog Zz8 Zzj (.string a) w fun b c d e =>
 Zz0 Tryz.prog YbL #[.slice b c d] e [.one (.int .i64), .one (.int .i64)] fun f g i =>
 J (g != (0 : Int)) i) : Zz0 Tryz.prog Yc2 #[.string a] w [.one .bool] J:=Zz3 Tryz.func78 (.s .o (.s .o (.s .o .o))) (Eq.mpr (by kernel_rfl) h)
theorem c_tree_spoilt {a : Int} {b c : ByteArray} {d : Option Addr} {e f : Nat} {g : Option Addr} {i j : Nat} {k : ByteArray} {w : World} {J : Bool -> World -> Prop} (h :
 newB w (.cells ⟨[.int .i64 a, .string b, .string c, .slice d e f, .slice g i j, .string k]⟩ Zz5) fun l m =>
 Zzf (fun (x : Bool) (y : World) =>
 J x y) fun n =>
 ldStr m ⟨l, 5, none⟩ fun o =>
 Zz0 Tryz.prog Yc2 #[.string o] m [.one .bool] fun p q =>
 Zz1 p (
 n true q) (
 ldS q ⟨l, 3, none⟩ fun r s t =>
 Zz0 Tryz.prog Zzc #[.slice r s t, .func (.func 79) #[] #[]] q [.one .bool] fun u v =>
 n u v)) : Zz0 Tryz.prog Yb5 #[.agg ⟨[.int .i64 a, .string b, .string c, .slice d e f, .slice g i j, .string k]⟩] w [.one .bool] J:=Zz3 Tryz.func43 (.s .o (.j [(2, .bool)] .o .o)) (Eq.mpr (by kernel_rfl) h)
theorem YhW {a b c : ByteArray} {w : World} {J : Bool -> World -> Prop} (h :
 newB w (.cells ⟨[.string a, .string b, .string c]⟩ ZzO) fun d e =>
 ldStr e ⟨d, 2, none⟩ fun f =>
 Zz0 Tryz.prog Yc2 #[.string f] e [.one .bool] fun g i =>
 J g i) : Zz0 Tryz.prog Ybl #[.agg ⟨[.string a, .string b, .string c]⟩] w [.one .bool] J:=Zz3 Tryz.func79 (.s .o (.s .o .o)) (Eq.mpr (by kernel_rfl) h)
theorem YgK {a : Int} {b c : ByteArray} {d : Option Addr} {e f : Nat} {g : Option Addr} {i j : Nat} {k : ByteArray} {w : World} {J : Bool -> World -> Prop} (h :
 newB w (.cells ⟨[.int .i64 a, .string b, .string c, .slice d e f, .slice g i j, .string k]⟩ Zz5) fun l m =>
 ldS m ⟨l, 3, none⟩ fun n o p =>
 ∃ aj : Int -> World -> Nat -> Prop, (∃ ak, aj (0 : Int) m ak) /\ ∀ al am ak, aj al am ak -> (
 Zz1 (decide (al < (o : Int))) (
 Zzf (fun (ag : Bool) (ai : World) =>
 Zz1 ag (
 J true ai) (
 ∃ an, an < ak /\ aj (w64 (al + (1 : Int))) ai an)) fun q =>
 Zz1 (decide (al > (0 : Int))) (
 ldS am.drew ⟨l, 3, none⟩ fun r s t =>
 ZzS r s (w64 (al - (1 : Int))) fun u =>
 ldStr am.drew ((u.add ((w64 (al - (1 : Int))).toNat * 3))) fun v =>
 ldStr am.drew (((u.add ((w64 (al - (1 : Int))).toNat * 3)).add 1)) fun x =>
 ldS am.drew ⟨l, 3, none⟩ fun y z aa =>
 ZzS y z al fun ab =>
 ldStr am.drew ((ab.add (al.toNat * 3))) fun ac =>
 ldStr am.drew (((ab.add (al.toNat * 3)).add 1)) fun ad =>
 Zz0 Tryz.prog Ydt #[.agg ⟨[.string v, .string x]⟩, .agg ⟨[.string ac, .string ad]⟩] am.drew [.one (.int .i64)] fun ae af =>
 q (decide (ae >= (0 : Int))) af) (
 q false am.drew)) (
 J false am))) : Zz0 Tryz.prog ZqK #[.agg ⟨[.int .i64 a, .string b, .string c, .slice d e f, .slice g i j, .string k]⟩] w [.one .bool] J:=Zz3 Tryz.func44 (.s .o (.s (.s .o (.b (.l [(7, .int .i64)] (.s .o (.s (.c .o .o) (.s (.b (.s .o (.j [(28, .bool)] (.d (.take 0 (.take 1 (.take 2 (.take 3 (.take 4 (.take 5 (.take 6 (.take 7 (.take 8 (.take 9 (.take 10 (.take 11 (.take 12 (.take 13 (.take 14 (.take 15 (.eff 16 (.take 17 (.take 18 .done)) .none)))))))))))))))))) (.c (.s .o .o) .o)))) .o)))))) (.s .o .o))) (Eq.mpr (by kernel_rfl) h)
theorem YgI {a : Int} {b c : ByteArray} {d : Option Addr} {e f : Nat} {g : Option Addr} {i j : Nat} {k : ByteArray} {w : World} {J : Bool -> World -> Prop} (h :
 newB w (.cells ⟨[.int .i64 a, .string b, .string c, .slice d e f, .slice g i j, .string k]⟩ Zz5) fun l m =>
 ldS m ⟨l, 4, none⟩ fun n o p =>
 ∃ bk : Int -> World -> Nat -> Prop, (∃ bl, bk (0 : Int) m bl) /\ ∀ bm bn bl, bk bm bn bl -> (
 Zz1 (decide (bm < (o : Int))) (
 ZzS n o bm fun q =>
 ldI .i64 bn ((q.add (bm.toNat * 6))) fun r =>
 ldStr bn (((q.add (bm.toNat * 6)).add 1)) fun s =>
 ldStr bn (((q.add (bm.toNat * 6)).add 2)) fun t =>
 ldS bn (((q.add (bm.toNat * 6)).add 3)) fun u v x =>
 ldS bn (((q.add (bm.toNat * 6)).add 4)) fun y z aa =>
 ldStr bn (((q.add (bm.toNat * 6)).add 5)) fun ab =>
 newB bn (.cells (Zy2 Tryz.prog Zz5) Zz5) fun ac ad =>
 stN ad ⟨ac, 0, none⟩ ⟨[.int .i64 r, .string s, .string t, .slice u v x, .slice y z aa, .string ab]⟩ 6 fun ae =>
 Zzf (fun (bd : Bool) (be : World) =>
 Zz1 bd (
 J true be) (
 ∃ bo, bo < bl /\ bk (w64 (bm + (1 : Int))) be bo)) fun af =>
 Zz1 (decide (bm > (0 : Int))) (
 ldI .i64 ae ⟨ac, 0, none⟩ fun ag =>
 Zz1 (ag == (3 : Int)) (
 ldS ae ⟨l, 4, none⟩ fun ai aj ak =>
 ZzS ai aj (w64 (bm - (1 : Int))) fun al =>
 ldI .i64 ae ((al.add ((w64 (bm - (1 : Int))).toNat * 6))) fun am =>
 af (am == (3 : Int)) ae) (
 af false ae)) (
 af false ae)) (
 ldI .i64 bn ⟨l, 0, none⟩ fun an =>
 Zz1 (an == (3 : Int)) (
 ldStr bn ⟨l, 5, none⟩ fun ao =>
 J (ao.toList == (⟨#[]⟩ : ByteArray).toList) bn) (
 Zz1 (an == (4 : Int)) (
 Zzf (fun (bf : Bool) (bg : World) =>
 J bf bg) fun ap =>
 ldStr bn ⟨l, 5, none⟩ fun aq =>
 Zz0 Tryz.prog Zx4 #[.string aq, .string ⟨#[45, 45]⟩] bn [.one .bool] fun ar au =>
 Zz1 ar (
 ap true au) (
 ldStr au ⟨l, 5, none⟩ fun av =>
 Zz0 Tryz.prog ZqT #[.string av, .string ⟨#[45]⟩] au [.one .bool] fun ax ay =>
 Zz1 ax (
 ap true ay) (
 ldStr ay ⟨l, 5, none⟩ fun az =>
 Zz0 Tryz.prog Zx4 #[.string az, .string ⟨#[13]⟩] ay [.one .bool] fun a0 a1 =>
 ap a0 a1))) (
 Zz1 (an == (5 : Int)) (
 Zzf (fun (bi : Bool) (bj : World) =>
 J bi bj) fun a2 =>
 ldStr bn.drew ⟨l, 5, none⟩ fun a3 =>
 Zz0 Tryz.prog Zx4 #[.string a3, .string ⟨#[63, 62]⟩] bn.drew [.one .bool] fun a4 a5 =>
 Zz1 a4 (
 a2 true a5) (
 ldStr a5 ⟨l, 5, none⟩ fun a6 =>
 Zz0 Tryz.prog Zx4 #[.string a6, .string ⟨#[13]⟩] a5 [.one .bool] fun a7 a8 =>
 Zz1 a7 (
 a2 true a8) (
 ldStr a8 ⟨l, 5, none⟩ fun a9 =>
 ldStr a8 ⟨l, 5, none⟩ fun ba =>
 Zz0 Tryz.prog Yc3 #[.string ba, .string ⟨#[32, 9, 10]⟩] a8 [.one .str] fun bb bc =>
 bc.cell? ⟨l, 5, none⟩ = some (.string a9) /\
 a2 (!(a9.toList == bb.toList)) bc))) (
 J false bn)))))) : Zz0 Tryz.prog ZqI #[.agg ⟨[.int .i64 a, .string b, .string c, .slice d e f, .slice g i j, .string k]⟩] w [.one .bool] J:=Zz3 Tryz.func45 (.s .o (.s (.s .o (.b (.l [(8, .int .i64)] (.s .o (.s (.c .o .o) (.s (.b (.s .o (.j [(29, .bool)] .o (.c (.s .o .o) .o)))) .o)))))) (.s (.s .o (.b (.s .o (.c (.s .o .o) (.s .o (.c (.j [(2, .bool)] .o .o) (.s .o (.c (.j [(2, .bool)] (.d (.take 0 (.take 1 (.eff 2 (.take 3 (.take 4 (.take 5 (.eff 6 (.take 7 (.take 8 (.take 9 (.take 10 (.take 11 (.take 12 (.eff 13 (.take 14 (.take 15 (.take 16 .done))) .none))))))) .none)))) .none)))) .o) .o)))))))) (.s .o .o)))) (Eq.mpr (by kernel_rfl) h)
theorem Zxw {a : Option Addr} {b c : Nat} {w : World} {J : Bool -> World -> Prop} (h :
 Zz0 Tryz.prog Zz6 #[.slice a b c, .func (.func 39) #[] #[]] w [.one (.int .i64)] fun d e =>
 J (decide (d >= (0 : Int))) e) : Zz0 Tryz.prog Zz2 #[.slice a b c, .func (.func 39) #[] #[]] w [.one .bool] J:=Zz3 Tryz.func38 (.s .o (.s .o .o)) (Eq.mpr (by kernel_rfl) h)
theorem Zxv {a : Option Addr} {b c : Nat} {w : World} {J : Bool -> World -> Prop} (h :
 Zz0 Tryz.prog Zz6 #[.slice a b c, .func (.func 41) #[] #[]] w [.one (.int .i64)] fun d e =>
 J (decide (d >= (0 : Int))) e) : Zz0 Tryz.prog Zz2 #[.slice a b c, .func (.func 41) #[] #[]] w [.one .bool] J:=Zz3 Tryz.func38 (.s .o (.s .o .o)) (Eq.mpr (by kernel_rfl) h)
theorem Zxu {a : Option Addr} {b c : Nat} {w : World} {J : Bool -> World -> Prop} (h :
 Zz0 Tryz.prog Zz6 #[.slice a b c, .func (.func 42) #[] #[]] w [.one (.int .i64)] fun d e =>
 J (decide (d >= (0 : Int))) e) : Zz0 Tryz.prog Zz2 #[.slice a b c, .func (.func 42) #[] #[]] w [.one .bool] J:=Zz3 Tryz.func38 (.s .o (.s .o .o)) (Eq.mpr (by kernel_rfl) h)
theorem Zxt {a : Option Addr} {b c : Nat} {w : World} {J : Bool -> World -> Prop} (h :
 Zz0 Tryz.prog Zz6 #[.slice a b c, .func (.func 43) #[] #[]] w [.one (.int .i64)] fun d e =>
 J (decide (d >= (0 : Int))) e) : Zz0 Tryz.prog Zz2 #[.slice a b c, .func (.func 43) #[] #[]] w [.one .bool] J:=Zz3 Tryz.func38 (.s .o (.s .o .o)) (Eq.mpr (by kernel_rfl) h)
theorem Zxs {a : Option Addr} {b c : Nat} {w : World} {J : Bool -> World -> Prop} (h :
 Zz0 Tryz.prog Zz6 #[.slice a b c, .func (.func 44) #[] #[]] w [.one (.int .i64)] fun d e =>
 J (decide (d >= (0 : Int))) e) : Zz0 Tryz.prog Zz2 #[.slice a b c, .func (.func 44) #[] #[]] w [.one .bool] J:=Zz3 Tryz.func38 (.s .o (.s .o .o)) (Eq.mpr (by kernel_rfl) h)
theorem Zxr {a : Option Addr} {b c : Nat} {w : World} {J : Bool -> World -> Prop} (h :
 Zz0 Tryz.prog Zz6 #[.slice a b c, .func (.func 45) #[] #[]] w [.one (.int .i64)] fun d e =>
 J (decide (d >= (0 : Int))) e) : Zz0 Tryz.prog Zz2 #[.slice a b c, .func (.func 45) #[] #[]] w [.one .bool] J:=Zz3 Tryz.func38 (.s .o (.s .o .o)) (Eq.mpr (by kernel_rfl) h)
theorem Zxc {a : Option Addr} {b c : Nat} {d : Addr} {w : World} {J : Bool -> World -> Prop} (h :
 Zz0 Tryz.prog Zz6 #[.slice a b c, .func (.func 69) #[] #[.pointer (some d)]] w [.one (.int .i64)] fun e f =>
 J (decide (e >= (0 : Int))) f) : Zz0 Tryz.prog Zz2 #[.slice a b c, .func (.func 69) #[] #[.pointer (some d)]] w [.one .bool] J:=Zz3 Tryz.func38 (.s .o (.s .o .o)) (Eq.mpr (by kernel_rfl) h)
theorem Zxb {a : Option Addr} {b c : Nat} {d : Addr} {w : World} {J : Bool -> World -> Prop} (h :
 Zz0 Tryz.prog Zz6 #[.slice a b c, .func (.func 71) #[] #[.pointer (some d)]] w [.one (.int .i64)] fun e f =>
 J (decide (e >= (0 : Int))) f) : Zz0 Tryz.prog Zz2 #[.slice a b c, .func (.func 71) #[] #[.pointer (some d)]] w [.one .bool] J:=Zz3 Tryz.func38 (.s .o (.s .o .o)) (Eq.mpr (by kernel_rfl) h)
theorem ZxY {a : Option Addr} {b c : Nat} {w : World} {J : Int -> World -> Prop} (h :
 ∃ r : Int -> World -> Nat -> Prop, (∃ s, r (0 : Int) w s) /\ ∀ t u s, r t u s -> (
 Zz1 (decide (t < (b : Int))) (
 ZzS a b t fun d =>
 ldI .i64 u ((d.add (t.toNat * 6))) fun e =>
 ldStr u (((d.add (t.toNat * 6)).add 1)) fun f =>
 ldStr u (((d.add (t.toNat * 6)).add 2)) fun g =>
 ldS u (((d.add (t.toNat * 6)).add 3)) fun i j k =>
 ldS u (((d.add (t.toNat * 6)).add 4)) fun l m n =>
 ldStr u (((d.add (t.toNat * 6)).add 5)) fun o =>
 Zz0 Tryz.prog Yds #[.agg ⟨[.int .i64 e, .string f, .string g, .slice i j k, .slice l m n, .string o]⟩] u [.one .bool] fun p q =>
 Zz1 p (
 J t q) (
 ∃ v, v < s /\ r (w64 (t + (1 : Int))) q v)) (
 J (-1 : Int) u))) : Zz0 Tryz.prog Zz6 #[.slice a b c, .func (.func 39) #[] #[]] w [.one (.int .i64)] J:=Zz3 Tryz.func68 (.s .o (.s (.s .o (.b (.l [(8, .int .i64)] (.s .o (.s (.c .o .o) (.s (.b (.s .o (.s .o (.c (.s .o .o) .o)))) .o)))))) (.s .o .o))) (Eq.mpr (by kernel_rfl) h)
theorem ZxX {a : Option Addr} {b c : Nat} {w : World} {J : Int -> World -> Prop} (h :
 ∃ r : Int -> World -> Nat -> Prop, (∃ s, r (0 : Int) w s) /\ ∀ t u s, r t u s -> (
 Zz1 (decide (t < (b : Int))) (
 ZzS a b t fun d =>
 ldI .i64 u ((d.add (t.toNat * 6))) fun e =>
 ldStr u (((d.add (t.toNat * 6)).add 1)) fun f =>
 ldStr u (((d.add (t.toNat * 6)).add 2)) fun g =>
 ldS u (((d.add (t.toNat * 6)).add 3)) fun i j k =>
 ldS u (((d.add (t.toNat * 6)).add 4)) fun l m n =>
 ldStr u (((d.add (t.toNat * 6)).add 5)) fun o =>
 Zz0 Tryz.prog YbG #[.agg ⟨[.int .i64 e, .string f, .string g, .slice i j k, .slice l m n, .string o]⟩] u [.one .bool] fun p q =>
 Zz1 p (
 J t q) (
 ∃ v, v < s /\ r (w64 (t + (1 : Int))) q v)) (
 J (-1 : Int) u))) : Zz0 Tryz.prog Zz6 #[.slice a b c, .func (.func 41) #[] #[]] w [.one (.int .i64)] J:=Zz3 Tryz.func68 (.s .o (.s (.s .o (.b (.l [(8, .int .i64)] (.s .o (.s (.c .o .o) (.s (.b (.s .o (.s .o (.c (.s .o .o) .o)))) .o)))))) (.s .o .o))) (Eq.mpr (by kernel_rfl) h)
theorem ZxW {a : Option Addr} {b c : Nat} {w : World} {J : Int -> World -> Prop} (h :
 ∃ r : Int -> World -> Nat -> Prop, (∃ s, r (0 : Int) w s) /\ ∀ t u s, r t u s -> (
 Zz1 (decide (t < (b : Int))) (
 ZzS a b t fun d =>
 ldI .i64 u ((d.add (t.toNat * 6))) fun e =>
 ldStr u (((d.add (t.toNat * 6)).add 1)) fun f =>
 ldStr u (((d.add (t.toNat * 6)).add 2)) fun g =>
 ldS u (((d.add (t.toNat * 6)).add 3)) fun i j k =>
 ldS u (((d.add (t.toNat * 6)).add 4)) fun l m n =>
 ldStr u (((d.add (t.toNat * 6)).add 5)) fun o =>
 Zz0 Tryz.prog Yai #[.agg ⟨[.int .i64 e, .string f, .string g, .slice i j k, .slice l m n, .string o]⟩] u [.one .bool] fun p q =>
 Zz1 p (
 J t q) (
 ∃ v, v < s /\ r (w64 (t + (1 : Int))) q v)) (
 J (-1 : Int) u))) : Zz0 Tryz.prog Zz6 #[.slice a b c, .func (.func 42) #[] #[]] w [.one (.int .i64)] J:=Zz3 Tryz.func68 (.s .o (.s (.s .o (.b (.l [(8, .int .i64)] (.s .o (.s (.c .o .o) (.s (.b (.s .o (.s .o (.c (.s .o .o) .o)))) .o)))))) (.s .o .o))) (Eq.mpr (by kernel_rfl) h)
theorem ZxV {a : Option Addr} {b c : Nat} {w : World} {J : Int -> World -> Prop} (h :
 ∃ r : Int -> World -> Nat -> Prop, (∃ s, r (0 : Int) w s) /\ ∀ t u s, r t u s -> (
 Zz1 (decide (t < (b : Int))) (
 ZzS a b t fun d =>
 ldI .i64 u ((d.add (t.toNat * 6))) fun e =>
 ldStr u (((d.add (t.toNat * 6)).add 1)) fun f =>
 ldStr u (((d.add (t.toNat * 6)).add 2)) fun g =>
 ldS u (((d.add (t.toNat * 6)).add 3)) fun i j k =>
 ldS u (((d.add (t.toNat * 6)).add 4)) fun l m n =>
 ldStr u (((d.add (t.toNat * 6)).add 5)) fun o =>
 Zz0 Tryz.prog Yb5 #[.agg ⟨[.int .i64 e, .string f, .string g, .slice i j k, .slice l m n, .string o]⟩] u [.one .bool] fun p q =>
 Zz1 p (
 J t q) (
 ∃ v, v < s /\ r (w64 (t + (1 : Int))) q v)) (
 J (-1 : Int) u))) : Zz0 Tryz.prog Zz6 #[.slice a b c, .func (.func 43) #[] #[]] w [.one (.int .i64)] J:=Zz3 Tryz.func68 (.s .o (.s (.s .o (.b (.l [(8, .int .i64)] (.s .o (.s (.c .o .o) (.s (.b (.s .o (.s .o (.c (.s .o .o) .o)))) .o)))))) (.s .o .o))) (Eq.mpr (by kernel_rfl) h)
theorem ZxU {a : Option Addr} {b c : Nat} {w : World} {J : Int -> World -> Prop} (h :
 ∃ r : Int -> World -> Nat -> Prop, (∃ s, r (0 : Int) w s) /\ ∀ t u s, r t u s -> (
 Zz1 (decide (t < (b : Int))) (
 ZzS a b t fun d =>
 ldI .i64 u ((d.add (t.toNat * 6))) fun e =>
 ldStr u (((d.add (t.toNat * 6)).add 1)) fun f =>
 ldStr u (((d.add (t.toNat * 6)).add 2)) fun g =>
 ldS u (((d.add (t.toNat * 6)).add 3)) fun i j k =>
 ldS u (((d.add (t.toNat * 6)).add 4)) fun l m n =>
 ldStr u (((d.add (t.toNat * 6)).add 5)) fun o =>
 Zz0 Tryz.prog ZqK #[.agg ⟨[.int .i64 e, .string f, .string g, .slice i j k, .slice l m n, .string o]⟩] u [.one .bool] fun p q =>
 Zz1 p (
 J t q) (
 ∃ v, v < s /\ r (w64 (t + (1 : Int))) q v)) (
 J (-1 : Int) u))) : Zz0 Tryz.prog Zz6 #[.slice a b c, .func (.func 44) #[] #[]] w [.one (.int .i64)] J:=Zz3 Tryz.func68 (.s .o (.s (.s .o (.b (.l [(8, .int .i64)] (.s .o (.s (.c .o .o) (.s (.b (.s .o (.s .o (.c (.s .o .o) .o)))) .o)))))) (.s .o .o))) (Eq.mpr (by kernel_rfl) h)
theorem ZxT {a : Option Addr} {b c : Nat} {w : World} {J : Int -> World -> Prop} (h :
 ∃ r : Int -> World -> Nat -> Prop, (∃ s, r (0 : Int) w s) /\ ∀ t u s, r t u s -> (
 Zz1 (decide (t < (b : Int))) (
 ZzS a b t fun d =>
 ldI .i64 u ((d.add (t.toNat * 6))) fun e =>
 ldStr u (((d.add (t.toNat * 6)).add 1)) fun f =>
 ldStr u (((d.add (t.toNat * 6)).add 2)) fun g =>
 ldS u (((d.add (t.toNat * 6)).add 3)) fun i j k =>
 ldS u (((d.add (t.toNat * 6)).add 4)) fun l m n =>
 ldStr u (((d.add (t.toNat * 6)).add 5)) fun o =>
 Zz0 Tryz.prog ZqI #[.agg ⟨[.int .i64 e, .string f, .string g, .slice i j k, .slice l m n, .string o]⟩] u [.one .bool] fun p q =>
 Zz1 p (
 J t q) (
 ∃ v, v < s /\ r (w64 (t + (1 : Int))) q v)) (
 J (-1 : Int) u))) : Zz0 Tryz.prog Zz6 #[.slice a b c, .func (.func 45) #[] #[]] w [.one (.int .i64)] J:=Zz3 Tryz.func68 (.s .o (.s (.s .o (.b (.l [(8, .int .i64)] (.s .o (.s (.c .o .o) (.s (.b (.s .o (.s .o (.c (.s .o .o) .o)))) .o)))))) (.s .o .o))) (Eq.mpr (by kernel_rfl) h)
theorem ZxD {a : Option Addr} {b c : Nat} {d : Addr} {w : World} {J : Int -> World -> Prop} (h :
 ∃ s : Int -> World -> Nat -> Prop, (∃ t, s (0 : Int) w t) /\ ∀ u v t, s u v t -> (
 Zz1 (decide (u < (b : Int))) (
 ZzS a b u fun e =>
 ldI .i64 v ((e.add (u.toNat * 6))) fun f =>
 ldStr v (((e.add (u.toNat * 6)).add 1)) fun g =>
 ldStr v (((e.add (u.toNat * 6)).add 2)) fun i =>
 ldS v (((e.add (u.toNat * 6)).add 3)) fun j k l =>
 ldS v (((e.add (u.toNat * 6)).add 4)) fun m n o =>
 ldStr v (((e.add (u.toNat * 6)).add 5)) fun p =>
 Zz0 Tryz.prog YbF #[.agg ⟨[.int .i64 f, .string g, .string i, .slice j k l, .slice m n o, .string p]⟩, .pointer (some d)] v [.one .bool] fun q r =>
 Zz1 q (
 J u r) (
 ∃ x, x < t /\ s (w64 (u + (1 : Int))) r x)) (
 J (-1 : Int) v))) : Zz0 Tryz.prog Zz6 #[.slice a b c, .func (.func 69) #[] #[.pointer (some d)]] w [.one (.int .i64)] J:=Zz3 Tryz.func68 (.s .o (.s (.s .o (.b (.l [(8, .int .i64)] (.s .o (.s (.c .o .o) (.s (.b (.s .o (.s .o (.c (.s .o .o) .o)))) .o)))))) (.s .o .o))) (Eq.mpr (by kernel_rfl) h)
theorem ZxC {a : Option Addr} {b c : Nat} {d : Addr} {w : World} {J : Int -> World -> Prop} (h :
 ∃ s : Int -> World -> Nat -> Prop, (∃ t, s (0 : Int) w t) /\ ∀ u v t, s u v t -> (
 Zz1 (decide (u < (b : Int))) (
 ZzS a b u fun e =>
 ldI .i64 v ((e.add (u.toNat * 6))) fun f =>
 ldStr v (((e.add (u.toNat * 6)).add 1)) fun g =>
 ldStr v (((e.add (u.toNat * 6)).add 2)) fun i =>
 ldS v (((e.add (u.toNat * 6)).add 3)) fun j k l =>
 ldS v (((e.add (u.toNat * 6)).add 4)) fun m n o =>
 ldStr v (((e.add (u.toNat * 6)).add 5)) fun p =>
 Zz0 Tryz.prog YcH #[.agg ⟨[.int .i64 f, .string g, .string i, .slice j k l, .slice m n o, .string p]⟩, .pointer (some d)] v [.one .bool] fun q r =>
 Zz1 q (
 J u r) (
 ∃ x, x < t /\ s (w64 (u + (1 : Int))) r x)) (
 J (-1 : Int) v))) : Zz0 Tryz.prog Zz6 #[.slice a b c, .func (.func 71) #[] #[.pointer (some d)]] w [.one (.int .i64)] J:=Zz3 Tryz.func68 (.s .o (.s (.s .o (.b (.l [(8, .int .i64)] (.s .o (.s (.c .o .o) (.s (.b (.s .o (.s .o (.c (.s .o .o) .o)))) .o)))))) (.s .o .o))) (Eq.mpr (by kernel_rfl) h)
theorem Zxz {a : Option Addr} {b c : Nat} {w : World} {J : Bool -> World -> Prop} (h :
 Zz0 Tryz.prog Zzq #[.slice a b c, .func (.func 72) #[] #[]] w [.one (.int .i64)] fun d e =>
 J (decide (d >= (0 : Int))) e) : Zz0 Tryz.prog Zzc #[.slice a b c, .func (.func 72) #[] #[]] w [.one .bool] J:=Zz3 Tryz.func73 (.s .o (.s .o .o)) (Eq.mpr (by kernel_rfl) h)
theorem Zxy {a : Option Addr} {b c : Nat} {w : World} {J : Bool -> World -> Prop} (h :
 Zz0 Tryz.prog Zzq #[.slice a b c, .func (.func 74) #[] #[]] w [.one (.int .i64)] fun d e =>
 J (decide (d >= (0 : Int))) e) : Zz0 Tryz.prog Zzc #[.slice a b c, .func (.func 74) #[] #[]] w [.one .bool] J:=Zz3 Tryz.func73 (.s .o (.s .o .o)) (Eq.mpr (by kernel_rfl) h)
theorem Zxx {a : Option Addr} {b c : Nat} {w : World} {J : Bool -> World -> Prop} (h :
 Zz0 Tryz.prog Zzq #[.slice a b c, .func (.func 79) #[] #[]] w [.one (.int .i64)] fun d e =>
 J (decide (d >= (0 : Int))) e) : Zz0 Tryz.prog Zzc #[.slice a b c, .func (.func 79) #[] #[]] w [.one .bool] J:=Zz3 Tryz.func73 (.s .o (.s .o .o)) (Eq.mpr (by kernel_rfl) h)
theorem Zq1 {a : Option Addr} {b c : Nat} {w : World} {J : Int -> World -> Prop} (h :
 ∃ k : Int -> World -> Nat -> Prop, (∃ l, k (0 : Int) w l) /\ ∀ m n l, k m n l -> (
 Zz1 (decide (m < (b : Int))) (
 ZzS a b m fun d =>
 ldStr n ((d.add (m.toNat * 3))) fun e =>
 ldStr n (((d.add (m.toNat * 3)).add 1)) fun f =>
 ldStr n (((d.add (m.toNat * 3)).add 2)) fun g =>
 Zz0 Tryz.prog Yc1 #[.agg ⟨[.string e, .string f, .string g]⟩] n [.one .bool] fun i j =>
 Zz1 i (
 J m j) (
 ∃ o, o < l /\ k (w64 (m + (1 : Int))) j o)) (
 J (-1 : Int) n))) : Zz0 Tryz.prog Zzq #[.slice a b c, .func (.func 72) #[] #[]] w [.one (.int .i64)] J:=Zz3 Tryz.func127 (.s .o (.s (.s .o (.b (.l [(8, .int .i64)] (.s .o (.s (.c .o .o) (.s (.b (.s .o (.s .o (.c (.s .o .o) .o)))) .o)))))) (.s .o .o))) (Eq.mpr (by kernel_rfl) h)
theorem Zq0 {a : Option Addr} {b c : Nat} {w : World} {J : Int -> World -> Prop} (h :
 ∃ k : Int -> World -> Nat -> Prop, (∃ l, k (0 : Int) w l) /\ ∀ m n l, k m n l -> (
 Zz1 (decide (m < (b : Int))) (
 ZzS a b m fun d =>
 ldStr n ((d.add (m.toNat * 3))) fun e =>
 ldStr n (((d.add (m.toNat * 3)).add 1)) fun f =>
 ldStr n (((d.add (m.toNat * 3)).add 2)) fun g =>
 Zz0 Tryz.prog YaE #[.agg ⟨[.string e, .string f, .string g]⟩] n [.one .bool] fun i j =>
 Zz1 i (
 J m j) (
 ∃ o, o < l /\ k (w64 (m + (1 : Int))) j o)) (
 J (-1 : Int) n))) : Zz0 Tryz.prog Zzq #[.slice a b c, .func (.func 74) #[] #[]] w [.one (.int .i64)] J:=Zz3 Tryz.func127 (.s .o (.s (.s .o (.b (.l [(8, .int .i64)] (.s .o (.s (.c .o .o) (.s (.b (.s .o (.s .o (.c (.s .o .o) .o)))) .o)))))) (.s .o .o))) (Eq.mpr (by kernel_rfl) h)
theorem ZxZ {a : Option Addr} {b c : Nat} {w : World} {J : Int -> World -> Prop} (h :
 ∃ k : Int -> World -> Nat -> Prop, (∃ l, k (0 : Int) w l) /\ ∀ m n l, k m n l -> (
 Zz1 (decide (m < (b : Int))) (
 ZzS a b m fun d =>
 ldStr n ((d.add (m.toNat * 3))) fun e =>
 ldStr n (((d.add (m.toNat * 3)).add 1)) fun f =>
 ldStr n (((d.add (m.toNat * 3)).add 2)) fun g =>
 Zz0 Tryz.prog Ybl #[.agg ⟨[.string e, .string f, .string g]⟩] n [.one .bool] fun i j =>
 Zz1 i (
 J m j) (
 ∃ o, o < l /\ k (w64 (m + (1 : Int))) j o)) (
 J (-1 : Int) n))) : Zz0 Tryz.prog Zzq #[.slice a b c, .func (.func 79) #[] #[]] w [.one (.int .i64)] J:=Zz3 Tryz.func127 (.s .o (.s (.s .o (.b (.l [(8, .int .i64)] (.s .o (.s (.c .o .o) (.s (.b (.s .o (.s .o (.c (.s .o .o) .o)))) .o)))))) (.s .o .o))) (Eq.mpr (by kernel_rfl) h)
end Go.Proofs.YtglnmjflpkeclaaGreatDoor
end
section
namespace Go.Proofs.YtglnmjflpkeclaaGreatDoor
open Go Go.Vc
theorem Yfk {a b : ByteArray} {w : World} {J : Bool -> World -> Prop} (h :
 ∃ ar : Int -> World -> Nat -> Prop, (∃ au, ar (0 : Int) w au) /\ ∀ av ax au, ar av ax au -> (
 Zz1 (decide (av < (if (b.size : Int) < (a.size : Int) then (b.size : Int) else (a.size : Int)))) (
 Zzf (fun (ac : World) =>
 ∃ ay, ay < au /\ ar (w64 (av + (1 : Int))) ac ay) fun c =>
 Zy6 a av fun d =>
 Zy6 b av fun e =>
 Zz1 (decide ((bOr .u8 d e) >= (128 : Int))) (
 YaO a (some av) none fun f =>
 YaO b (some av) none fun g =>
 newB ax (.stringIter f 0) fun i j =>
 ∃ az : ByteArray -> World -> Nat -> Prop, (∃ au, az g j au) /\ ∀ (b : ByteArray) (ad : World) (m_1 : Nat), az b ad m_1 -> (
 nextS ad i (fun k l m =>
 Zz1 ((b.size : Int) == (0 : Int)) (
 J false m) (
 Zz0 Tryz.prog Zxf #[.string b] m [.one (.int .i32), .one (.int .i64)] fun n o p =>
 YaO b (some o) none fun q =>
 Zz1 (n == l) (
 ∃ ay, ay < m_1 /\ az q p ay) (
 Zzf (fun (ae : Int) (af : Int) (ag : World) =>
 Zz1 (decide (af < (128 : Int))) (
 Zzf (fun (ai : Bool) (aj : World) =>
 Zz1 ai (
 ∃ ay, ay < m_1 /\ az q aj ay) (
 J false aj)) fun r =>
 Zz1 (decide ((65 : Int) <= ae)) (
 Zz1 (decide (ae <= (90 : Int))) (
 r (af == (IntKind.i32.wrap ((IntKind.i32.wrap (ae + (97 : Int))) - (65 : Int)))) ag) (
 r false ag)) (
 r false ag)) (
 Zz0 Tryz.prog Zxj #[.int .i32 ae] ag [.one (.int .i32)] fun s t =>
 ∃ a0 : Int -> World -> Nat -> Prop, (∃ au, a0 s t au) /\ ∀ a1 a2 a3, a0 a1 a2 a3 -> (
 Zzf (fun (ak : Bool) (al : World) =>
 Zz1 ak (
 Zz0 Tryz.prog Zxj #[.int .i32 a1] al [.one (.int .i32)] fun u v =>
 ∃ ay, ay < a3 /\ a0 u v ay) (
 Zz1 (a1 == af) (
 ∃ ay, ay < m_1 /\ az q al ay) (
 J false al))) fun x =>
 Zz1 (a1 != ae) (
 x (decide (a1 < af)) a2) (
 x false a2)))) fun y =>
 Zz1 (decide (n < l)) (
 y n l p) (
 y l n p)))) (fun z =>
 J ((b.size : Int) == (0 : Int)) z))) (
 Zz1 (e == d) (
 c ax) (
 Zzf (fun (am : Int) (an : Int) (ao : World) =>
 Zzf (fun (ap : Bool) (aq : World) =>
 Zz1 ap (
 c aq) (
 J false aq)) fun aa =>
 Zz1 (decide ((65 : Int) <= am)) (
 Zz1 (decide (am <= (90 : Int))) (
 aa (an == (IntKind.u8.wrap ((IntKind.u8.wrap (am + (97 : Int))) - (65 : Int)))) ao) (
 aa false ao)) (
 aa false ao)) fun ab =>
 Zz1 (decide (e < d)) (
 ab e d ax) (
 ab d e ax)))) (
 J ((a.size : Int) == (b.size : Int)) ax))) : Zz0 Tryz.prog Zyp #[.string a, .string b] w [.one .bool] J:=Zz3 Tryz.func77 (.s .o (.g 0 (.s .o (.s (.s .o (.b (.l [(5, .int .i64)] (.s (.s .o (.c .o .o)) (.j [] (.b (.s .o (.s .o (.s (.s .o (.c .o .o)) (.s (.s .o (.c .o .o)) (.j [(7, .int .u8), (8, .int .u8)] (.s .o (.c .o .o)) (.s (.j [(54, .bool)] .o (.c .o .o)) (.s .o .o)))))))) .o))))) (.s (.s .o .o) .u))) (.s .o (.s .o (.s .o (.s (.s .o (.b (.l [(1, .str)] (.s .o (.s (.c .o .o) (.b (.s .o (.s (.s .o (.c (.s .o .o) .o)) (.s .o (.s .o (.s (.s .o (.c .o .o)) (.j [(10, .int .i32) , (11, .int .i32)] (.s .o (.c .o .o)) (.s (.s .o (.c (.s (.j [(104, .bool)] .o (.c .o .o)) (.s .o .o)) .o)) (.s .o (.s (.b (.l [(13, .int .i32)] (.s (.j [(114, .bool)] .o (.c .o .o)) (.b .o)))) (.s (.s .o (.c .o .o)) (.s .o .o))))))))))))))))) (.s .o .o))))))) (Eq.mpr (by kernel_rfl) h)
theorem Yfj {a b : ByteArray} {w : World} {J : Bool -> World -> Prop} (h :
 Zz0 Tryz.prog Zxm #[.string a, .string b] w [.one .bool] fun c d =>
 J c d) : Zz0 Tryz.prog ZqT #[.string a, .string b] w [.one .bool] J:=Zz3 Tryz.func82 (.s .o (.s .o .o)) (Eq.mpr (by kernel_rfl) h)
theorem YaT {a b : ByteArray} {w : World} {J : Bool -> World -> Prop} (h :
 Zzf (fun (e : Bool) (f : World) =>
 J e f) fun c =>
 Zz1 (decide ((a.size : Int) >= (b.size : Int))) (
 YaO a (some (w64 ((a.size : Int) - (b.size : Int)))) none fun d =>
 c (d.toList == b.toList) w) (
 c false w)) : Zz0 Tryz.prog Zxm #[.string a, .string b] w [.one .bool] J:=Zz3 Tryz.func134 (.s .o (.j [(4, .bool)] .o .o)) (Eq.mpr (by kernel_rfl) h)
theorem YeO {a : Int} {w : World} {J : Int -> World -> Prop} (h :
 Zzf (fun (am : Bool) (an : World) =>
 Zz1 am (
 J a an) (
 Zz1 (decide ((w64 a) < (128 : Int))) (
 ZzS (some ⟨3, 0, none⟩) 128 a fun b =>
 ldI .u16 an ((b.add (a.toNat * 1))) fun c =>
 J (IntKind.i32.wrap c) an) (
 ldS an ⟨4, 0, none⟩ fun d e f =>
 ∃ av : Int -> Int -> World -> Nat -> Prop, (∃ ax, av (0 : Int) (e : Int) an ax) /\ ∀ (ao : Int) (ap : Int) (aq : World) (ax : Nat), av ao ap aq ax -> (
 Zz1 (decide (ao < ap)) (
 0 <= (1 : Int) /\
 ldS aq ⟨4, 0, none⟩ fun g i j =>
 ZzS g i (w64 (Ya3 .u64 (IntKind.u64.wrap (w64 (ao + ap))) (1 : Int))) fun k =>
 ldI .u16 aq ((k.add ((w64 (Ya3 .u64 (IntKind.u64.wrap (w64 (ao + ap))) (1 : Int))).toNat * 2))) fun l =>
 Zz1 (decide ((IntKind.i32.wrap l) < a)) (
 ∃ ay, ay < ax /\ av (w64 ((w64 (Ya3 .u64 (IntKind.u64.wrap (w64 (ao + ap))) (1 : Int))) + (1 : Int))) ap aq ay) (
 ∃ ay, ay < ax /\ av ao (w64 (Ya3 .u64 (IntKind.u64.wrap (w64 (ao + ap))) (1 : Int))) aq ay)) (
 Zzf (fun (ar : Bool) (au : World) =>
 Zz1 ar (
 ldS au ⟨4, 0, none⟩ fun m n o =>
 ZzS m n ao fun p =>
 ldI .u16 au (((p.add (ao.toNat * 2)).add 1)) fun q =>
 J (IntKind.i32.wrap q) au) (
 ldS au ⟨5, 0, none⟩ fun r s t =>
 Zz0 Tryz.prog Ycg #[.int .i32 a, .slice r s t] au [.one .ptr] fun u v =>
 Zz1 (!u.isNone) (
 Zz0 Tryz.prog YaW #[.int .i64 1, .int .i32 a, .pointer u] v [.one (.int .i32)] fun x y =>
 Zz1 (x != a) (
 J x y) (
 Zz0 Tryz.prog YaW #[.int .i64 0, .int .i32 a, .pointer u] y [.one (.int .i32)] fun z aa =>
 J z aa)) (
 J a v))) fun ab =>
 ldS aq ⟨4, 0, none⟩ fun ac ad ae =>
 Zz1 (decide (ao < (ad : Int))) (
 ldS aq ⟨4, 0, none⟩ fun af ag ai =>
 ZzS af ag ao fun aj =>
 ldI .u16 aq ((aj.add (ao.toNat * 2))) fun ak =>
 ab ((IntKind.i32.wrap ak) == a) aq) (
 ab false aq)))))) fun al =>
 Zz1 (decide (a < (0 : Int))) (
 al true w) (
 al (decide (a > (1114111 : Int))) w)) : Zz0 Tryz.prog Zxj #[.int .i32 a] w [.one (.int .i32)] J:=Zz3 Tryz.func132 (.s .o (.s (.j [(13, .bool)] .o (.c (.s .o .o) .o)) (.s (.s .o (.c (.s .o .o) .o)) (.s .o (.s .o (.s (.b (.l [(3, .int .i64), (4, .int .i64)] (.s (.s .o (.c .o .o)) (.b (.s .o (.s .o (.c .o .o))))))) (.s (.j [(57, .bool)] .o (.c (.s .o .o) .o)) (.s (.s .o (.s .o (.c (.s (.s .o (.s .o (.c (.s .o .o) .o))) (.s .o .o)) .o))) (.s .o .o))))))))) (Eq.mpr (by kernel_rfl) h)
theorem YaL {a : ByteArray} {w : World} {J : Int -> Int -> World -> Prop} (h :
 Zzf (fun (i : Bool) (j : World) =>
 Zz1 i (
 Zy6 a (0 : Int) fun b =>
 J (IntKind.i32.wrap b) (1 : Int) j) (
 Zz0 Tryz.prog ZqH #[.string a] j [.one (.int .i32), .one (.int .i64)] fun c d e =>
 J c d e)) fun f =>
 Zz1 (!(a.toList == (⟨#[]⟩ : ByteArray).toList)) (
 Zy6 a (0 : Int) fun g =>
 f (decide (g < (128 : Int))) w) (
 f false w)) : Zz0 Tryz.prog Zxf #[.string a] w [.one (.int .i32), .one (.int .i64)] J:=Zz3 Tryz.func131 (.s .o (.s (.j [(10, .bool)] .o (.c (.s .o .o) .o)) .o)) (Eq.mpr (by kernel_rfl) h)
end Go.Proofs.YtglnmjflpkeclaaGreatDoor
end
section
namespace Go.Proofs.YtglnmjflpkeclaaGreatDoor
open Go Go.Vc
theorem c_tree_Size {a : Int} {b c : ByteArray} {d : Option Addr} {e f : Nat} {g : Option Addr} {i j : Nat} {k : ByteArray} {w : World} {J : Int -> World -> Prop} (h :
 newB w (.cells ⟨[.int .i64 a, .string b, .string c, .slice d e f, .slice g i j, .string k]⟩ Zz5) fun l m =>
 ldS m ⟨l, 4, none⟩ fun n o p =>
 ∃ ay : Int -> Int -> World -> Nat -> Prop, (∃ az, ay (1 : Int) (0 : Int) m az) /\ ∀ (au : Int) (av : Int) (ax : World) (az : Nat), ay au av ax az -> (
 Zz1 (decide (av < (o : Int))) (
 ZzS n o av fun q =>
 ldI .i64 ax ((q.add (av.toNat * 6))) fun r =>
 ldStr ax (((q.add (av.toNat * 6)).add 1)) fun s =>
 ldStr ax (((q.add (av.toNat * 6)).add 2)) fun t =>
 ldS ax (((q.add (av.toNat * 6)).add 3)) fun u v x =>
 ldS ax (((q.add (av.toNat * 6)).add 4)) fun y z aa =>
 ldStr ax (((q.add (av.toNat * 6)).add 5)) fun ab =>
 newB ax (.cells (Zy2 Tryz.prog Zz5) Zz5) fun ac ad =>
 stN ad ⟨ac, 0, none⟩ ⟨[.int .i64 r, .string s, .string t, .slice u v x, .slice y z aa, .string ab]⟩ 6 fun ae =>
 ldI .i64 ae ⟨ac, 0, none⟩ fun af =>
 ldStr ae ⟨ac, 1, none⟩ fun ag =>
 ldStr ae ⟨ac, 2, none⟩ fun ai =>
 ldS ae ⟨ac, 3, none⟩ fun aj ak al =>
 ldS ae ⟨ac, 4, none⟩ fun am an ao =>
 ldStr ae ⟨ac, 5, none⟩ fun ap =>
 Zz0 Tryz.prog Ycu #[.agg ⟨[.int .i64 af, .string ag, .string ai, .slice aj ak al, .slice am an ao, .string ap]⟩] ae [.one (.int .i64)] fun aq ar =>
 ∃ a0, a0 < az /\ ay (w64 (au + aq)) (w64 (av + (1 : Int))) ar a0) (
 J au ax))) : Zz0 Tryz.prog Ycu #[.agg ⟨[.int .i64 a, .string b, .string c, .slice d e f, .slice g i j, .string k]⟩] w [.one (.int .i64)] J:=Zz3 Tryz.func12 (.s .o (.s .o (.s (.s .o (.b (.l [(3, .int .i64), (9, .int .i64)] (.s .o (.s (.c .o .o) (.s (.b (.s .o .o)) .o)))))) (.s .o .o)))) (Eq.mpr (by kernel_rfl) h)
theorem c_tree_Depth {a : Int} {b c : ByteArray} {d : Option Addr} {e f : Nat} {g : Option Addr} {i j : Nat} {k : ByteArray} {w : World} {J : Int -> World -> Prop} (h :
 newB w (.cells ⟨[.int .i64 a, .string b, .string c, .slice d e f, .slice g i j, .string k]⟩ Zz5) fun l m =>
 ldS m ⟨l, 4, none⟩ fun n o p =>
 ∃ ay : Int -> Int -> World -> Nat -> Prop, (∃ az, ay (0 : Int) (0 : Int) m az) /\ ∀ (au : Int) (av : Int) (ax : World) (az : Nat), ay au av ax az -> (
 Zz1 (decide (av < (o : Int))) (
 ZzS n o av fun q =>
 ldI .i64 ax ((q.add (av.toNat * 6))) fun r =>
 ldStr ax (((q.add (av.toNat * 6)).add 1)) fun s =>
 ldStr ax (((q.add (av.toNat * 6)).add 2)) fun t =>
 ldS ax (((q.add (av.toNat * 6)).add 3)) fun u v x =>
 ldS ax (((q.add (av.toNat * 6)).add 4)) fun y z aa =>
 ldStr ax (((q.add (av.toNat * 6)).add 5)) fun ab =>
 newB ax (.cells (Zy2 Tryz.prog Zz5) Zz5) fun ac ad =>
 stN ad ⟨ac, 0, none⟩ ⟨[.int .i64 r, .string s, .string t, .slice u v x, .slice y z aa, .string ab]⟩ 6 fun ae =>
 ldI .i64 ae ⟨ac, 0, none⟩ fun af =>
 ldStr ae ⟨ac, 1, none⟩ fun ag =>
 ldStr ae ⟨ac, 2, none⟩ fun ai =>
 ldS ae ⟨ac, 3, none⟩ fun aj ak al =>
 ldS ae ⟨ac, 4, none⟩ fun am an ao =>
 ldStr ae ⟨ac, 5, none⟩ fun ap =>
 Zz0 Tryz.prog YbI #[.agg ⟨[.int .i64 af, .string ag, .string ai, .slice aj ak al, .slice am an ao, .string ap]⟩] ae [.one (.int .i64)] fun aq ar =>
 ∃ a0, a0 < az /\ ay (if aq > au then aq else au) (w64 (av + (1 : Int))) ar a0) (
 J (w64 (au + (1 : Int))) ax))) : Zz0 Tryz.prog YbI #[.agg ⟨[.int .i64 a, .string b, .string c, .slice d e f, .slice g i j, .string k]⟩] w [.one (.int .i64)] J:=Zz3 Tryz.func11 (.s .o (.s .o (.s (.s .o (.b (.l [(3, .int .i64), (9, .int .i64)] (.s .o (.s (.c .o .o) (.s (.b (.s .o .o)) .o)))))) (.s .o .o)))) (Eq.mpr (by kernel_rfl) h)
theorem c_tree_Spaces {a : Int} {b c : ByteArray} {d : Option Addr} {e f : Nat} {g : Option Addr} {i j : Nat} {k : ByteArray} {w : World} {J : Option Addr -> Nat -> Nat -> World -> Prop} (h :
 newB w (.cells ⟨[.int .i64 a, .string b, .string c, .slice d e f, .slice g i j, .string k]⟩ Zz5) fun l m =>
 ldI .i64 m ⟨l, 0, none⟩ fun n =>
 ldStr m ⟨l, 1, none⟩ fun o =>
 ldStr m ⟨l, 2, none⟩ fun p =>
 ldS m ⟨l, 3, none⟩ fun q r s =>
 ldS m ⟨l, 4, none⟩ fun t u v =>
 ldStr m ⟨l, 5, none⟩ fun x =>
 Zz0 Tryz.prog Yb6 #[.agg ⟨[.int .i64 n, .string o, .string p, .slice q r s, .slice t u v, .string x]⟩, .slice none 0 0] m [.one .slice] fun y z aa ab =>
 Zz0 Tryz.prog Zyy #[.slice y z aa] ab [] fun ac =>
 Zz0 Tryz.prog Zxg #[.slice y z aa] ac [.one .slice] fun ad ae af ag =>
 J ad ae af ag) : Zz0 Tryz.prog YcI #[.agg ⟨[.int .i64 a, .string b, .string c, .slice d e f, .slice g i j, .string k]⟩] w [.one .slice] J:=Zz3 Tryz.func47 (.s .o (.s .o (.s .o (.s .o .o)))) (Eq.mpr (by kernel_rfl) h)
theorem c_tree_spaces {a : Int} {b c : ByteArray} {d : Option Addr} {e f : Nat} {g : Option Addr} {i j : Nat} {k : ByteArray} {l : Option Addr} {m n : Nat} {w : World} {J : Option Addr -> Nat -> Nat -> World -> Prop} (h :
 newB w (.cells ⟨[.int .i64 a, .string b, .string c, .slice d e f, .slice g i j, .string k]⟩ Zz5) fun o p =>
 Zzf (fun (l : Option Addr) (m : Nat) (n : Nat) (bt : World) =>
 ldS bt ⟨o, 3, none⟩ fun q r s =>
 ∃ ca : Option Addr -> Nat -> Nat -> Int -> World -> Nat -> Prop, (∃ cb, ca l m n (0 : Int) bt cb) /\ ∀ (bu : Option Addr) (bv : Nat) (bx : Nat) (bz : Int) (b0 : World) (cb : Nat), ca bu bv bx bz b0 cb -> (
 Zz1 (decide (bz < (r : Int))) (
 Zzf (fun (b1 : Option Addr) (b2 : Nat) (b3 : Nat) (b4 : World) =>
 ∃ cc, cc < cb /\ ca b1 b2 b3 (w64 (bz + (1 : Int))) b4 cc) fun t =>
 ZzS q r bz fun u =>
 ldStr b0 ((u.add (bz.toNat * 3))) fun v =>
 ldStr b0 (((u.add (bz.toNat * 3)).add 1)) fun x =>
 ldStr b0 (((u.add (bz.toNat * 3)).add 2)) fun y =>
 newB b0 (.cells (Zy2 Tryz.prog ZzO) ZzO) fun z aa =>
 stN aa ⟨z, 0, none⟩ ⟨[.string v, .string x, .string y]⟩ 3 fun ab =>
 ldStr ab ⟨z, 0, none⟩ fun ac =>
 Zz1 (!(ac.toList == (⟨#[]⟩ : ByteArray).toList)) (
 ldStr ab ⟨z, 0, none⟩ fun ad =>
 newB ab (.cells ⟨[.string ad]⟩ Zz8) fun ae af =>
 YeJ Tryz.prog Zyn Zyn (.slice bu bv bx) (.slice (some ⟨ae, 0, none⟩) 1 1) af fun ag ai aj ak =>
 t ag ai aj ak) (
 t bu bv bx ab)) (
 ldS b0 ⟨o, 4, none⟩ fun al am an =>
 ∃ cd : Option Addr -> Nat -> Nat -> Int -> World -> Nat -> Prop, (∃ cb, cd bu bv bx (0 : Int) b0 cb) /\ ∀ (b5 : Option Addr) (b6 : Nat) (b7 : Nat) (b8 : Int) (b9 : World) (m_1 : Nat), cd b5 b6 b7 b8 b9 m_1 -> (
 Zz1 (decide (b8 < (am : Int))) (
 ZzS al am b8 fun ao =>
 ldI .i64 b9 ((ao.add (b8.toNat * 6))) fun ap =>
 ldStr b9 (((ao.add (b8.toNat * 6)).add 1)) fun aq =>
 ldStr b9 (((ao.add (b8.toNat * 6)).add 2)) fun ar =>
 ldS b9 (((ao.add (b8.toNat * 6)).add 3)) fun au av ax =>
 ldS b9 (((ao.add (b8.toNat * 6)).add 4)) fun ay az a0 =>
 ldStr b9 (((ao.add (b8.toNat * 6)).add 5)) fun a1 =>
 newB b9 (.cells (Zy2 Tryz.prog Zz5) Zz5) fun a2 a3 =>
 stN a3 ⟨a2, 0, none⟩ ⟨[.int .i64 ap, .string aq, .string ar, .slice au av ax, .slice ay az a0, .string a1]⟩ 6 fun a4 =>
 ldI .i64 a4 ⟨a2, 0, none⟩ fun a5 =>
 ldStr a4 ⟨a2, 1, none⟩ fun a6 =>
 ldStr a4 ⟨a2, 2, none⟩ fun a7 =>
 ldS a4 ⟨a2, 3, none⟩ fun a8 a9 ba =>
 ldS a4 ⟨a2, 4, none⟩ fun bb bc bd =>
 ldStr a4 ⟨a2, 5, none⟩ fun be =>
 Zz0 Tryz.prog Yb6 #[.agg ⟨[.int .i64 a5, .string a6, .string a7, .slice a8 a9 ba, .slice bb bc bd, .string be]⟩, .slice b5 b6 b7] a4 [.one .slice] fun bf bg bi bj =>
 ∃ cc, cc < m_1 /\ cd bf bg bi (w64 (b8 + (1 : Int))) bj cc) (
 J b5 b6 b7 b9))))) fun bk =>
 ldStr p ⟨o, 1, none⟩ fun bl =>
 Zz1 (!(bl.toList == (⟨#[]⟩ : ByteArray).toList)) (
 ldStr p ⟨o, 1, none⟩ fun bm =>
 newB p (.cells ⟨[.string bm]⟩ Zz8) fun bn bo =>
 YeJ Tryz.prog Zyn Zyn (.slice l m n) (.slice (some ⟨bn, 0, none⟩) 1 1) bo fun bp bq br bs =>
 bk bp bq br bs) (
 bk l m n p)) : Zz0 Tryz.prog Yb6 #[.agg ⟨[.int .i64 a, .string b, .string c, .slice d e f, .slice g i j, .string k]⟩, .slice l m n] w [.one .slice] J:=Zz3 Tryz.func85 (.s .o (.j [(1, .slice)] (.s .o (.c .o .o)) (.s (.s .o (.b (.l [(1, .slice), (22, .int .i64)] (.s .o (.s (.c .o .o) (.j [(1, .slice)] (.b (.s .o (.s .o (.c .o .o)))) .o)))))) (.s (.s .o (.b (.l [(1, .slice), (40, .int .i64)] (.s .o (.s (.c .o .o) (.s (.b (.s .o .o)) .o)))))) (.s .o .o))))) (Eq.mpr (by kernel_rfl) h)
end Go.Proofs.YtglnmjflpkeclaaGreatDoor
end
section
namespace Go.Vc
open Go Go.Lib
section
variable {w : World}
theorem ldNode {a : Addr} {k0 : Int} {u0 l0 t0 : ByteArray} {ap kp : Option Addr} {al ac kl kc : Nat} (hc : ZzV w a [.int .i64 k0, .string u0, .string l0, .slice ap al ac, .slice kp kl kc, .string t0])
  {K : Int -> ByteArray -> ByteArray -> Option Addr -> Nat -> Nat -> Option Addr -> Nat -> Nat -> ByteArray -> Prop} (k : K k0 u0 l0 ap al ac kp kl kc t0) :
  ldI .i64 w a fun x0 => ldStr w (a.add 1) fun x1 => ldStr w (a.add 2) fun x2 => ldS w (a.add 3) fun p3 l3 c3 => ldS w (a.add 4) fun p4 l4 c4 => ldStr w (a.add 5) fun x5 => K x0 x1 x2 p3 l3 c3 p4 l4 c4 x5 :=
 ⟨_, ZzG hc, _, hc 1 _ rfl, _, hc 2 _ rfl, _, _, _, hc 3 _ rfl, _, _, _, hc 4 _ rfl, _, hc 5 _ rfl, k⟩
theorem ldAttr {a : Addr} {u0 l0 t0 : ByteArray} (hc : ZzV w a [.string u0, .string l0, .string t0]) {K : ByteArray -> ByteArray -> ByteArray -> Prop} (k : K u0 l0 t0) :
  ldStr w a fun x0 => ldStr w (a.add 1) fun x1 => ldStr w (a.add 2) fun x2 => K x0 x1 x2 :=
 ⟨_, ZzG hc, _, hc 1 _ rfl, _, hc 2 _ rfl, k⟩
theorem YcC {w0 : World} {S : Nat -> Prop} {Γ : List Blk} {b : Nat} {e : TypeId} (H : Hp w0 S w Γ) (i : Nat) {k0 : Int} {u0 l0 t0 : ByteArray} {ap kp : Option Addr} {al ac kl kc : Nat} (hi : Γ[i]? = some ⟨b, [.int .i64 k0, .string u0, .string l0, .slice ap al ac, .slice kp kl kc, .string t0], e⟩)
  {K : Int -> ByteArray -> ByteArray -> Option Addr -> Nat -> Nat -> Option Addr -> Nat -> Nat -> ByteArray -> Prop} (k : K k0 u0 l0 ap al ac kp kl kc t0) :
  ldI .i64 w ⟨b, 0, none⟩ fun x0 => ldStr w ⟨b, 1, none⟩ fun x1 => ldStr w ⟨b, 2, none⟩ fun x2 => ldS w ⟨b, 3, none⟩ fun p3 l3 c3 => ldS w ⟨b, 4, none⟩ fun p4 l4 c4 => ldStr w ⟨b, 5, none⟩ fun x5 => K x0 x1 x2 p3 l3 c3 p4 l4 c4 x5 :=
 ⟨_, H.cell i hi rfl, _, H.cell i hi rfl, _, H.cell i hi rfl, _, _, _, H.cell i hi rfl, _, _, _, H.cell i hi rfl, _, H.cell i hi rfl, k⟩
def YdR (call : List Value -> World -> (Bool -> World -> Prop) -> Prop) (s0p : Option Addr) (s0l : Nat) (w : World) (J : Int -> World -> Prop) : Prop :=
 ∃ I_8 : Int -> World -> Nat -> Prop, (∃ m : Nat, I_8 (0 : Int) w m) /\ ∀ (x8 : Int) (w1 : World) (m : Nat), I_8 x8 w1 m -> (
 Zz1 (decide (x8 < ((s0l : Nat) : Int))) (
 ZzS s0p s0l x8 fun a14 =>
 ldI .i64 w1 ((a14.add (x8.toNat * 6))) fun x15_0 =>
 ldStr w1 (((a14.add (x8.toNat * 6)).add 1)) fun x15_1 =>
 ldStr w1 (((a14.add (x8.toNat * 6)).add 2)) fun x15_2 =>
 ldS w1 (((a14.add (x8.toNat * 6)).add 3)) fun x15_3p x15_3l x15_3c =>
 ldS w1 (((a14.add (x8.toNat * 6)).add 4)) fun x15_4p x15_4l x15_4c =>
 ldStr w1 (((a14.add (x8.toNat * 6)).add 5)) fun x15_5 =>
 call [.int .i64 x15_0, .string x15_1, .string x15_2, .slice x15_3p x15_3l x15_3c, .slice x15_4p x15_4l x15_4c, .string x15_5] w1 fun (r16 : Bool) (w2 : World) =>
 Zz1 r16 (
 J x8 w2) (
 ∃ m' : Nat, m' < m /\ I_8 (w64 (x8 + (1 : Int))) w2 m')) (
 J (-1 : Int) w1))
theorem Yax {call : List Value -> World -> (Bool -> World -> Prop) -> Prop} {p : Option Addr} {l : Nat} {L : List NV} {q : NV -> Bool} {J : Int -> World -> Prop} (h : Sl w p l 6 (rows NV.cells L)) (hm : l <= 100000000)
    (hcall : ∀ x ∈ L, ∀ (w' : World) (K : Bool -> World -> Prop), Chg No w w' -> (∀ w'', Chg No w w'' -> K (q x) w'') -> call x.cells w' K)
    (K : ∀ (r : Int) w', Chg No w w' -> (0 <= r ↔ L.any q = true) -> J r w') : YdR call p l w J:=by
  have hl:=h.row (Zzw L) (by decide)
  refine ⟨fun i w' t => ∃ k : Nat, i = k /\ k <= l /\ t = l - k /\ Chg No w w' /\ (L.take k).any q = false, ⟨_, 0, rfl, Nat.zero_le _, rfl, Chg.refl _ _, rfl⟩, ?_⟩
  rintro i w1 t ⟨k, rfl, hk, rfl, hc, hno⟩
  refine Zz4 (fun hlt => ?_) (fun hge => ?_)
  · refine ZzT (h.chg hc (off_no _)) (Zzw L) (by decide) (by omega) hlt fun a x _ hx hcs => ?_
    rw [Int.toNat_natCast] at hx
    have hmem:=List.mem_of_getElem? hx
    obtain ⟨g1, g2⟩:=List.getElem?_eq_some_iff.1 hx
    have htake : L.take (k + 1) = L.take k ++ [x]:=by rw [List.take_succ_eq_append_getElem g1, g2]
    have hc2:=hcall x hmem w1
    cases x with
    | mk xk xu xl xt xap xal xac xas xkp xkl xkc xks =>
      refine ldNode hcs ?_
      refine hc2 _ hc fun w2 c2 => ?_
      refine Zz9 (fun hq => ?_) (fun hq => ?_)
      · exact K k w2 c2 ⟨fun _ => List.any_eq_true.2 ⟨_, hmem, hq⟩, fun _ => by omega⟩
      · refine ⟨_, by omega, k + 1, by rw [Zzb] <;> omega, by omega, rfl, c2, ?_⟩
        rw [htake, List.any_append, hno, List.any_cons, hq]; rfl
  · rw [List.take_of_length_le (by omega)] at hno
    exact K (-1) w1 hc ⟨fun h => by omega, fun h => by rw [hno] at h; cases h⟩
def IdxAttr (call : List Value -> World -> (Bool -> World -> Prop) -> Prop) (s0p : Option Addr) (s0l : Nat) (w : World) (J : Int -> World -> Prop) : Prop :=
 ∃ I_8 : Int -> World -> Nat -> Prop, (∃ m : Nat, I_8 (0 : Int) w m) /\ ∀ (x8 : Int) (w1 : World) (m : Nat), I_8 x8 w1 m -> (
 Zz1 (decide (x8 < ((s0l : Nat) : Int))) (
 ZzS s0p s0l x8 fun a14 =>
 ldStr w1 ((a14.add (x8.toNat * 3))) fun x15_0 =>
 ldStr w1 (((a14.add (x8.toNat * 3)).add 1)) fun x15_1 =>
 ldStr w1 (((a14.add (x8.toNat * 3)).add 2)) fun x15_2 =>
 call [.string x15_0, .string x15_1, .string x15_2] w1 fun (r16 : Bool) (w2 : World) =>
 Zz1 r16 (
 J x8 w2) (
 ∃ m' : Nat, m' < m /\ I_8 (w64 (x8 + (1 : Int))) w2 m')) (
 J (-1 : Int) w1))
theorem YaJ (L : List At) : Ygo atc 3 L:=fun _ _ => rfl
theorem Ygn {call : List Value -> World -> (Bool -> World -> Prop) -> Prop} {p : Option Addr} {l : Nat} {L : List At} {q : At -> Bool} {J : Int -> World -> Prop} (h : Sl w p l 3 (rows atc L)) (hm : l <= 100000000)
    (hcall : ∀ x ∈ L, ∀ (w' : World) (K : Bool -> World -> Prop), Chg No w w' -> (∀ w'', Chg No w w'' -> K (q x) w'') -> call (atc x) w' K)
    (K : ∀ (r : Int) w', Chg No w w' -> (0 <= r ↔ L.any q = true) -> J r w') : IdxAttr call p l w J:=by
  have hl:=h.row (YaJ L) (by decide)
  refine ⟨fun i w' t => ∃ k : Nat, i = k /\ k <= l /\ t = l - k /\ Chg No w w' /\ (L.take k).any q = false, ⟨_, 0, rfl, Nat.zero_le _, rfl, Chg.refl _ _, rfl⟩, ?_⟩
  rintro i w1 t ⟨k, rfl, hk, rfl, hc, hno⟩
  refine Zz4 (fun hlt => ?_) (fun hge => ?_)
  · refine ZzT (h.chg hc (off_no _)) (YaJ L) (by decide) (by omega) hlt fun a x _ hx hcs => ?_
    rw [Int.toNat_natCast] at hx
    have hmem:=List.mem_of_getElem? hx
    obtain ⟨g1, g2⟩:=List.getElem?_eq_some_iff.1 hx
    have htake : L.take (k + 1) = L.take k ++ [x]:=by rw [List.take_succ_eq_append_getElem g1, g2]
    refine ldAttr hcs ?_
    refine hcall x hmem w1 _ hc fun w2 c2 => ?_
    refine Zz9 (fun hq => ?_) (fun hq => ?_)
    · exact K k w2 c2 ⟨fun _ => List.any_eq_true.2 ⟨_, hmem, hq⟩, fun _ => by omega⟩
    · refine ⟨_, by omega, k + 1, by rw [Zzb] <;> omega, by omega, rfl, c2, ?_⟩
      rw [htake, List.any_append, hno, List.any_cons, hq]; rfl
  · rw [List.take_of_length_le (by omega)] at hno
    exact K (-1) w1 hc ⟨fun h => by omega, fun h => by rw [hno] at h; cases h⟩
end
end Go.Vc
namespace Go.Proofs.YtglnmjflpkeclaaGreatDoor
open Go Go.Vc Go.Lib
section
variable {w : World}
theorem YcW : Zy2 Tryz.prog Zz5 = ⟨[.int .i64 0, .string ByteArray.empty, .string ByteArray.empty, .slice none 0 0, .slice none 0 0, .string ByteArray.empty]⟩:=by kernel_rfl
theorem slT_node : SlT Tryz.prog Zyo Zz5 6 104 #[.int .i64 0, .string ByteArray.empty, .string ByteArray.empty, .slice none 0 0, .slice none 0 0, .string ByteArray.empty]:=SlT.of (by kernel_rfl) (by kernel_rfl) rfl (by decide)
theorem Ydl {w0 : World} {S : Nat -> Prop} {Γ : List Blk} (H : Hp w0 S w Γ) {a : Addr} {k0 : Int} {u0 l0 t0 : ByteArray} {ap kp : Option Addr} {al ac kl kc : Nat} (hc : ZzV w a [.int .i64 k0, .string u0, .string l0, .slice ap al ac, .slice kp kl kc, .string t0])
  {K : Nat -> World -> Prop} (k : ∀ b w', Hp w0 S w' (⟨b, [.int .i64 k0, .string u0, .string l0, .slice ap al ac, .slice kp kl kc, .string t0], Zz5⟩ :: Γ) -> w.heap.size <= b -> Chg No w w' -> K b w') :
  ldI .i64 w a fun x0 => ldStr w (a.add 1) fun x1 => ldStr w (a.add 2) fun x2 => ldS w (a.add 3) fun p3 l3 c3 => ldS w (a.add 4) fun p4 l4 c4 => ldStr w (a.add 5) fun x5 =>
   newB w (.cells (Zy2 Tryz.prog Zz5) Zz5) fun b w1 => stN w1 ⟨b, 0, none⟩ ⟨[.int .i64 x0, .string x1, .string x2, .slice p3 l3 c3, .slice p4 l4 c4, .string x5]⟩ 6 fun w2 => K b w2:=by
 refine ldNode hc ?_
 rw [YcW]
 refine H.newB fun b w1 H1 hb hc1 => ?_
 refine H1.stN 0 rfl (off:=0) rfl (by simp) (Zqe (.mk k0 u0 l0 t0 ap al ac [] kp kl kc [])) fun w2 H2 hc2 => ?_
 simp only [set_cons_zero] at H2
 exact k b w2 H2 hb (hc1.trans hc2 fun x hx e => by subst e; omega)
theorem Zq8 {w0 : World} {S : Nat -> Prop} {Γ : List Blk} (H : Hp w0 S w Γ) {cs : List Value} {e : TypeId} {K : Nat -> World -> Prop} (k : ∀ b w', Hp w0 S w' (⟨b, cs, e⟩ :: Γ) -> w.heap.size <= b -> Chg No w w' -> K b w') :
  newB w (.cells ⟨cs⟩ e) K:=H.newB k
end
end Go.Proofs.YtglnmjflpkeclaaGreatDoor
namespace Go.Vc
open Go Go.Lib
theorem Ydm (k : Int) (u l t : ByteArray) (ap : Option Addr) (al ac : Nat) (ats : List At) (kp : Option Addr) (kl kc : Nat) (ks : List NV) : (NV.mk k u l t ap al ac ats kp kl kc ks).nd = .mk k u l t ats (ks.map NV.nd):=by
 simp only [NV.nd, Yf7]
def NV.kd : NV -> Int | .mk k _ _ _ _ _ _ _ _ _ _ _ => k
theorem Yg8 (v : NV) : v.nd.kind = v.kd:=by cases v; rfl
end Go.Vc
namespace Go.Proofs.YtglnmjflpkeclaaGreatDoor
open Go Go.Vc Go.Lib
section
variable {w : World}
theorem May_ok {p k : Int} {J : Bool -> World -> Prop} (K : J (YfE p k) w) : Zz0 Tryz.prog Yfc #[.int .i64 p, .int .i64 k] w [.one .bool] J:=by
 refine c_tree_may ?_
 have kT : YfE p k = true -> J true w:=fun h => by rw [h] at K; exact K
 have kF : YfE p k = false -> J false w:=fun h => by rw [h] at K; exact K
 have tT : ((p = 1 /\ (k = 2 \/ k = 4 \/ k = 5)) \/ (p = 2 /\ 2 <= k /\ k <= 5)) -> J true w:=fun h => kT (decide_eq_true h)
 have tF : ¬ ((p = 1 /\ (k = 2 \/ k = 4 \/ k = 5)) \/ (p = 2 /\ 2 <= k /\ k <= 5)) -> J false w:=fun h => kF (decide_eq_false h)
 refine Zzd (fun h1 => ?_) (fun h1 => ?_)
 ·simp only [Zzf]
  refine Zzd (fun h => tT (by omega)) (fun h2 => ?_)
  refine Zzd (fun h => tT (by omega)) (fun h3 => ?_)
  by_cases h4 : k = 5
  ·rw [beq_iff_eq.2 h4]; exact tT (by omega)
  ·rw [beq_eq_false_iff_ne.2 h4]; exact tF (by omega)
 ·refine Zzd (fun h2 => ?_) (fun h2 => tF (by omega))
  simp only [Zzf]
  refine Zz4 (fun h3 => ?_) (fun h3 => tF (by omega))
  by_cases h4 : k <= 5
  ·rw [decide_eq_true h4]; exact tT (by omega)
  ·rw [decide_eq_false h4]; exact tF (by omega)
theorem Odd1_ok {x : NV} {fv : Addr} {p : Int} {J : Bool -> World -> Prop} (hf : w.cell? fv = some (.int .i64 p)) (K : ∀ w', Chg No w w' -> J (!YfE p x.kd) w') : Zz0 Tryz.prog YbF #[.agg ⟨x.cells⟩, .pointer (some fv)] w [.one .bool] J:=by
 cases x with
 | mk k u l t ap al ac ats kp kl kc ks =>
  refine c_tree_odd_1 ?_
  refine Zq8 (Hp.start w No) fun b w1 H1 hb hc1 => ?_
  refine ZxJ (hc1.cell hf (fun h => h)) ?_
  refine H1.ldI 0 rfl (off:=0) rfl ?_
  exact May_ok (K w1 hc1)
theorem IdxOdd1_ok {p : Option Addr} {l c : Nat} {L : List NV} {fv : Addr} {pk : Int} {J : Bool -> World -> Prop} (h : Sl w p l 6 (rows NV.cells L)) (hm : l <= 100000000) (hf : w.cell? fv = some (.int .i64 pk)) (K : ∀ w', Chg No w w' -> J (L.any fun x => !YfE pk x.kd) w') :
  Zz0 Tryz.prog Zz2 #[.slice p l c, .func (.func 69) #[] #[.pointer (some fv)]] w [.one .bool] J:=by
 refine Zxc ?_
 refine ZxD ?_
 show YdR (fun cs w' K => Zz0 Tryz.prog YbF #[.agg ⟨cs⟩, .pointer (some fv)] w' [.one .bool] K) p l w _
 refine Yax (q:=fun x => !YfE pk x.kd) h hm (fun x hx w' K' hc k => Odd1_ok (hc.cell hf (fun h => h)) fun w'' c2 => k w'' (hc.trans0 c2)) fun r w' hc hr => ?_
 by_cases h0 : 0 <= r
 ·have:=hr.1 h0
  rw [decide_eq_true (show r >= 0 from h0), <- this]; exact K w' hc
 ·have : (L.any fun x => !YfE pk x.kd) = false:=by rw [Bool.eq_false_iff]; exact fun h => h0 (hr.2 h)
  rw [decide_eq_false (show ¬ r >= 0 from h0), <- this]; exact K w' hc
theorem any_kids (k : Int) (u l t : ByteArray) (ats : List At) (ks : List NV) : ((Nd.mk k u l t ats (ks.map NV.nd)).kids.any fun x => !YfE (Nd.mk k u l t ats (ks.map NV.nd)).kind x.kind) = ks.any fun x => !YfE k x.kd:=by
 show (ks.map NV.nd).any (fun x => !YfE k x.kind) = _
 rw [any_map]
 congr 1
 funext x
 show (!YfE k x.nd.kind) = _
 rw [Yg8]
theorem Odd_ok {x : NV} {J : Bool -> World -> Prop} (hx : x.Ok w) (hm : x.mea <= 100000000) (K : ∀ w', Chg No w w' -> J (oddP x.nd) w') : Zz0 Tryz.prog Yds #[.agg ⟨x.cells⟩] w [.one .bool] J:=by
 cases hx with
 | @mk k u l t ap al ac ats kp kl kc ks ha hn hac hk hkn hkc hks =>
  have hal:=ha.row (YaJ ats) (by decide)
  have hkl:=hk.row (Zzw ks) (by decide)
  have hmm : kl <= 100000000:=by
   have:=YbC ks
   simp only [NV.mea] at hm; omega
  rw [Ydm] at K
  unfold oddP at K
  rw [any_kids] at K
  simp only [Nd.kind, Nd.uri, Nd.loc, Nd.text, Nd.attrs] at K
  refine c_tree_odd ?_
  refine Zq8 (Hp.start w No) fun b w1 H1 hb hc1 => ?_
  refine Zz7 fun J3 hJ3 => ?_
  have k3 : ∀ (bad : Bool), bad = (decide (k ≠ 2) && decide (ats ≠ [])) -> J3 bad w1:=by
   intro bad hbad; subst hJ3
   refine Zz7 fun J31 hJ31 => ?_
   have k31 : ∀ bad2 : Bool, bad2 = oddQ k u l t ats -> J31 bad2 w1:=by
    intro bad2 hb2; subst hJ31
    rw [<- hb2] at K
    simp only [Zzf]
    refine Zz9 (fun ht => ?_) (fun hf => ?_)
    ·rw [ht] at K; exact K w1 hc1
    ·rw [hf] at K
     refine H1.ldS 0 rfl (off:=4) rfl ?_
     refine IdxOdd1_ok (hk.chg hc1 (off_no _)) hmm (H1.cell 0 rfl rfl) fun w2 hc2 => ?_
     have:=K w2 (hc1.trans0 hc2)
     rw [Bool.false_or] at this; exact this
   clear hJ31 K
   unfold oddQ at k31
   have eE : ByteArray.empty = ZzN:=rfl
   refine H1.ldI 0 rfl (off:=0) rfl ?_
   refine Zzd (fun e1 => ?_) (fun e1 => ?_)
   ·rw [decide_eq_true (show k ≠ 2 by omega), Bool.true_and] at hbad
    refine Zz9 (fun ht => k31 _ (by rw [if_pos e1, <- hbad, ht]; rfl)) (fun hf => ?_)
    refine H1.ldStr 0 rfl (off:=1) rfl ?_
    refine H1.ldStr 0 rfl (off:=2) rfl ?_
    rw [if_pos e1, <- hbad, hf] at k31
    simp only [Ycl, eE, Bool.and_true]
    rw [show (decide (u = ZzN) && decide (l = ZzN)) = decide (u = ZzN /\ l = ZzN) from (Bool.decide_and _ _).symm]
    by_cases hul : u = ZzN /\ l = ZzN
    ·rw [decide_eq_true hul]
     refine Zz9 (fun h => by cases h) (fun _ => ?_)
     refine H1.ldStr 0 rfl (off:=5) rfl ?_
     refine k31 _ ?_
     rw [decide_eq_false (show ¬ ¬ (u = ZzN /\ l = ZzN) from fun h => h hul)]
     by_cases ht : t = ZzN
     ·simp [ht, ZzN]
     ·have : ¬ t = ⟨#[]⟩:=ht
      simp [ht, this]
    ·rw [decide_eq_false hul]
     refine Zz9 (fun _ => k31 _ (by rw [decide_eq_true hul]; rfl)) (fun h => by cases h)
   ·refine Zzd (fun e2 => ?_) (fun e2 => ?_)
    ·refine H1.ldStr 0 rfl (off:=5) rfl ?_
     refine k31 _ ?_
     rw [if_neg e1, if_pos e2, Ycl]
     by_cases ht : t = ZzN
     ·simp [ht, ZzN]
     ·have : ¬ t = ⟨#[]⟩:=ht
      simp [ht, this]
    ·rw [decide_eq_true (show k ≠ 2 from e2), Bool.true_and] at hbad
     rw [if_neg e1, if_neg e2] at k31
     refine Zzd (fun e5 => ?_) (fun e5 => ?_)
     ·rw [if_pos e5, <- hbad] at k31
      refine Zz9 (fun ht => k31 _ (by rw [ht]; rfl)) (fun hf => ?_)
      refine H1.ldStr 0 rfl (off:=1) rfl ?_
      refine k31 _ ?_
      rw [hf, Ycl]
      by_cases ht : u = ZzN
      ·simp [ht, ZzN]
      ·have : ¬ u = ⟨#[]⟩:=ht
       simp [ht, this]
     ·rw [if_neg e5, <- hbad] at k31
      refine Zz9 (fun ht => k31 _ (by rw [ht]; rfl)) (fun hf => ?_)
      refine H1.ldStr 0 rfl (off:=1) rfl ?_
      refine H1.ldStr 0 rfl (off:=2) rfl ?_
      refine k31 _ ?_
      rw [hf]
      simp only [Ycl, eE, Bool.and_true]
      rw [show (decide (u = ZzN) && decide (l = ZzN)) = decide (u = ZzN /\ l = ZzN) from (Bool.decide_and _ _).symm]
      by_cases hul : u = ZzN /\ l = ZzN
      ·rw [decide_eq_true hul, decide_eq_false (show ¬ ¬ (u = ZzN /\ l = ZzN) from fun h => h hul)]; rfl
      ·rw [decide_eq_false hul, decide_eq_true hul]; rfl
  clear hJ3 K
  refine H1.ldI 0 rfl (off:=0) rfl ?_
  refine Zzi (fun e2 => ?_) (fun e2 => ?_)
  ·refine H1.ldS 0 rfl (off:=3) rfl ?_
   refine k3 _ ?_
   rw [decide_eq_true (show k ≠ 2 from e2), Bool.true_and]
   by_cases h0 : ats = []
   ·have : al = 0:=by rw [<- hal, h0]; rfl
    rw [decide_eq_false (show ¬ ats ≠ [] from fun h => h h0), decide_eq_false (by omega)]
   ·have : 0 < ats.length:=length_pos_iff.2 h0
    rw [decide_eq_true (show ats ≠ [] from h0), decide_eq_true (by omega)]
  ·exact k3 _ (by rw [decide_eq_false (fun h => h e2)]; rfl)
theorem Deep_ok : ∀ (x : NV) {w : World} {above : Int} {J : Bool -> World -> Prop}, x.Ok w -> x.mea <= 100000000 -> 0 <= above -> above <= 40 -> (∀ w', Chg No w w' -> J (Ych above x.nd) w') -> Zz0 Tryz.prog Yct #[.agg ⟨x.cells⟩, .int .i64 above] w [.one .bool] J:=by
 intro x
 induction x using NV.ind with
 | h k u l t ap al ac ats kp kl kc ks ih =>
  intro w above J hx hm h0 h40 K
  cases hx with
  | mk ha hn hac hk hkn hkc hks =>
  have hkl:=hk.row (Zzw ks) (by decide)
  have hmm : kl <= 100000000:=by
   have:=YbC ks
   simp only [NV.mea] at hm; omega
  have hkm : ∀ y ∈ ks, y.mea <= 100000000:=fun y hy => by
   have:=Yf8 hy
   simp only [NV.mea] at hm; omega
  rw [Ydm] at K
  unfold Ych at K
  have hany : ∀ ab : Int, Yer ab (ks.map NV.nd) = ks.any fun y => Ych ab y.nd:=fun ab => by rw [YeG, any_map]; rfl
  rw [hany, hany] at K
  refine c_tree_deep ?_
  refine Zq8 (Hp.start w No) fun b w1 H1 hb hc1 => ?_
  refine H1.newB fun b3 w2 H2 hb3 hc2 => ?_
  have c02:=hc1.trans0 hc2
  refine Zz7 fun J0 hJ0 => ?_
  have k0 : ∀ (ab : Int) (w3 : World), 0 <= ab -> ab <= 40 -> Hp w No w3 [⟨b3, [.int .i64 ab], T_int⟩, ⟨b, [.int .i64 k, .string u, .string l, .slice ap al ac, .slice kp kl kc, .string t], Zz5⟩] -> (∀ w', Chg No w w' -> J (ks.any fun y => Ych ab y.nd) w') -> J0 w3:=by
   intro ab w3 g0 g40 H3 K3; subst hJ0
   have c03:=H3.chg
   refine H3.ldS 1 rfl (off:=4) rfl ?_
   have hcell:=H3.cell 0 rfl (off:=0) rfl
   refine Zxb ?_
   refine ZxC ?_
   show YdR (fun cs w' K => Zz0 Tryz.prog YcH #[.agg ⟨cs⟩, .pointer (some ⟨b3, 0, none⟩)] w' [.one .bool] K) kp kl w3 _
   refine Yax (q:=fun y => Ych ab y.nd) (hk.chg c03 (off_no _)) hmm (fun y hy w' K' hc kk => ?_) fun r w' hc hr => ?_
   ·have hy2:=(hks y hy).chg0 (c03.trans0 hc)
    have ihy := @ih y hy
    have hmy:=hkm y hy
    cases y with
    | mk yk yu yl yt yap yal yac yas ykp ykl ykc yks =>
     refine c_tree_deep_1 ?_
     refine Zq8 (Hp.start w' No) fun b5 w5 H5 hb5 hc5 => ?_
     refine YcC H5 0 rfl ?_
     refine ZxJ (hc5.cell (hc.cell hcell (fun h => h)) (fun h => h)) ?_
     exact ihy (hy2.chg0 hc5) hmy g0 g40 fun w6 hc6 => kk w6 ((hc.trans0 hc5).trans0 hc6)
   ·by_cases h0 : 0 <= r
    ·have:=hr.1 h0
     rw [decide_eq_true (show r >= 0 from h0), <- this]; exact K3 w' (c03.trans0 hc)
    ·have : (ks.any fun y => Ych ab y.nd) = false:=by rw [Bool.eq_false_iff]; exact fun h => h0 (hr.2 h)
     rw [decide_eq_false (show ¬ r >= 0 from h0), <- this]; exact K3 w' (c03.trans0 hc)
  clear hJ0
  refine H2.ldI 1 rfl (off:=0) rfl ?_
  refine Zzd (fun e2 => ?_) (fun e2 => ?_)
  ·rw [if_pos e2] at K
   refine H2.ldI 0 rfl (off:=0) rfl ?_
   refine Zz4 (fun hd => ?_) (fun hd => ?_)
   ·rw [if_pos hd] at K; exact K w2 c02
   ·rw [if_neg hd] at K
    refine H2.ldI 0 rfl (off:=0) rfl ?_
    rw [Zzb (by omega) (by omega)]
    refine H2.stV 0 rfl (off:=0) (by simp) fun w5 H5 hc5 => ?_
    simp only [set_cons_zero] at H5
    exact k0 (above + 1) w5 (by omega) (by omega) H5 K
  ·rw [if_neg e2] at K
   exact k0 above w2 h0 h40 H2 K
end
end Go.Proofs.YtglnmjflpkeclaaGreatDoor
namespace Go.Proofs
open Go.Shelf
def Tryz.lays144_ren : Go.Shelf.Ren:=⟨fun | 144 => 81 | 143 => 133 | 219 => 164 | 217 => 143 | 225 => 191 | 224 => 146 | 267 => 192 | 266 => 181 | 314 => 209 | n => n, fun | 9 => 9 | 4 => 4 | 3 => 3 | 5 => 5 | 46 => 171 | 146 => 231 | 51 => 175 | n => n, fun | 1 => 0 | n => n⟩
theorem Tryz.lays144 : Go.Proofs.Lays.n144 Tryz.prog Tryz.lays144_ren where
 mixed:=by kernel_rfl
 f143:=by kernel_rfl
 f144:=by kernel_rfl
 f217:=by kernel_rfl
 f219:=by kernel_rfl
 f224:=by kernel_rfl
 f225:=by kernel_rfl
 f266:=by kernel_rfl
 f267:=by kernel_rfl
 f314:=by kernel_rfl
 t3:=by kernel_rfl
 a3:=fun w => by kernel_rfl
 z3:=fun w => by kernel_rfl
 v3:=fun w => by kernel_rfl
 t4:=by kernel_rfl
 a4:=fun w => by kernel_rfl
 z4:=fun w => by kernel_rfl
 v4:=fun w => by kernel_rfl
 t5:=by kernel_rfl
 a5:=fun w => by kernel_rfl
 z5:=fun w => by kernel_rfl
 v5:=fun w => by kernel_rfl
 t9:=by kernel_rfl
 a9:=fun w => by kernel_rfl
 z9:=fun w => by kernel_rfl
 v9:=fun w => by kernel_rfl
 t46:=by kernel_rfl
 a46:=fun w => by kernel_rfl
 z46:=fun w => by kernel_rfl
 v46:=fun w => by kernel_rfl
 t51:=by kernel_rfl
 a51:=fun w => by kernel_rfl
 z51:=fun w => by kernel_rfl
 v51:=fun w => by kernel_rfl
 t146:=by kernel_rfl
 a146:=fun w => by kernel_rfl
 z146:=fun w => by kernel_rfl
 v146:=fun w => by kernel_rfl
 g1:=by kernel_rfl
def Tryz.lays161_ren : Go.Shelf.Ren:=⟨fun | 161 => 83 | 231 => 107 | 227 => 109 | 233 => 110 | 235 => 112 | 228 => 152 | 197 => 131 | 151 => 153 | 260 => 161 | 152 => 186 | 137 => 97 | 119 => 207 | 224 => 146 | 225 => 191 | 217 => 143 | 266 => 181 | n => n, fun | 9 => 9 | 4 => 4 | 3 => 3 | 5 => 5 | 117 => 146 | 116 => 145 | 0 => 0 | 124 => 149 | 105 => 129 | 21 => 21 | 119 => 206 | 46 => 171 | 139 => 209 | 138 => 208 | n => n, fun | 3 => 1 | 4 => 2 | n => n⟩
theorem Tryz.lays161 : Go.Proofs.Lays.n161 Tryz.prog Tryz.lays161_ren where
 mixed:=by kernel_rfl
 f119:=by kernel_rfl
 f137:=by kernel_rfl
 f151:=by kernel_rfl
 f152:=by kernel_rfl
 f161:=by kernel_rfl
 f197:=by kernel_rfl
 f217:=by kernel_rfl
 f224:=by kernel_rfl
 f225:=by kernel_rfl
 f227:=by kernel_rfl
 f228:=by kernel_rfl
 f231:=by kernel_rfl
 f233:=by kernel_rfl
 f235:=by kernel_rfl
 f260:=by kernel_rfl
 f266:=by kernel_rfl
 t0:=by kernel_rfl
 a0:=fun w => by kernel_rfl
 z0:=fun w => by kernel_rfl
 v0:=fun w => by kernel_rfl
 t3:=by kernel_rfl
 a3:=fun w => by kernel_rfl
 z3:=fun w => by kernel_rfl
 v3:=fun w => by kernel_rfl
 t4:=by kernel_rfl
 a4:=fun w => by kernel_rfl
 z4:=fun w => by kernel_rfl
 v4:=fun w => by kernel_rfl
 t5:=by kernel_rfl
 a5:=fun w => by kernel_rfl
 z5:=fun w => by kernel_rfl
 v5:=fun w => by kernel_rfl
 t9:=by kernel_rfl
 a9:=fun w => by kernel_rfl
 z9:=fun w => by kernel_rfl
 v9:=fun w => by kernel_rfl
 t21:=by kernel_rfl
 a21:=fun w => by kernel_rfl
 z21:=fun w => by kernel_rfl
 v21:=fun w => by kernel_rfl
 t46:=by kernel_rfl
 a46:=fun w => by kernel_rfl
 z46:=fun w => by kernel_rfl
 v46:=fun w => by kernel_rfl
 t105:=by kernel_rfl
 a105:=fun w => by kernel_rfl
 z105:=fun w => by kernel_rfl
 v105:=fun w => by kernel_rfl
 t116:=by kernel_rfl
 a116:=fun w => by kernel_rfl
 z116:=fun w => by kernel_rfl
 t117:=by kernel_rfl
 a117:=fun w => by kernel_rfl
 z117:=fun w => by kernel_rfl
 v117:=fun w => by kernel_rfl
 t119:=by kernel_rfl
 a119:=fun w => by kernel_rfl
 z119:=fun w => by kernel_rfl
 t124:=by kernel_rfl
 a124:=fun w => by kernel_rfl
 z124:=fun w => by kernel_rfl
 v124:=fun w => by kernel_rfl
 t138:=by kernel_rfl
 a138:=fun w => by kernel_rfl
 z138:=fun w => by kernel_rfl
 v138:=fun w => by kernel_rfl
 t139:=by kernel_rfl
 a139:=fun w => by kernel_rfl
 z139:=fun w => by kernel_rfl
 v139:=fun w => by kernel_rfl
 g3:=by kernel_rfl
 g4:=by kernel_rfl
end Go.Proofs
namespace Go.Vc
open Go Go.Lib
theorem index_has (w : List UInt8) : ∀ l : List UInt8, (0 <= Lib.index l w ↔ YeT w l = true)
 | [] => by
  unfold Lib.index YeT
  cases w with
  | nil => simp
  | cons a w => simp [isPrefixOf]
 | b :: l => by
  have ih:=index_has w l
  unfold Lib.index YeT
  cases h : w.isPrefixOf (b :: l) with
  | true => simp
  | false =>
   simp only [Bool.false_eq_true, if_false, Bool.false_or]
   rw [<- ih]
   split
   ·rename_i h1
    have : Lib.index l w = -1:=by simpa using h1
    omega
   ·rename_i h1
    have : Lib.index l w ≠ -1:=by simpa using h1
    constructor
    ·intro h2
     have:=Lib.index_ge l w
     omega
    ·intro h2; omega
theorem contains_has (l w : List UInt8) : Lib.contains l w = YeT w l:=by
 unfold Lib.contains
 rw [Bool.eq_iff_iff, decide_eq_true_eq, index_has]
theorem trim_same (l : List UInt8) : decide (l = Lib.trimLeftS l [32, 9, 10]) = decide (l.head? ≠ some 32 /\ l.head? ≠ some 9 /\ l.head? ≠ some 10):=by
 unfold Lib.trimLeftS
 rw [decide_eq_decide]
 cases l with
 | nil => simp
 | cons b l =>
  rw [dropWhile_cons]
  simp only [head?_cons, ne_eq, Option.some.injEq]
  constructor
  ·intro h
   split at h
   ·have h1:=congrArg length h
    have h2:=(dropWhile_suffix (l:=l) (fun x => [32, 9, 10].contains x)).length_le
    simp only [length_cons] at h1
    omega
   ·rename_i hc
    simp at hc
    exact ⟨hc.1, hc.2.1, hc.2.2⟩
  ·intro h
   rw [if_neg (by simp; exact h)]
theorem low_case : ∀ (a : Fin 256), a.val < 128 -> ∀ x ∈ [(120 : UInt8), 109, 108],
  (((UInt8.ofNat a.val) = x) \/ ((if x.toNat < a.val then x.toNat else a.val) >= 65 /\ (if x.toNat < a.val then x.toNat else a.val) <= 90 /\ (if x.toNat < a.val then a.val else x.toNat) = (if x.toNat < a.val then x.toNat else a.val) + 32)) ↔ low3 (UInt8.ofNat a.val) = x:=by decide +kernel
theorem or_big : ∀ (a : Fin 256), ∀ x ∈ [(120 : Int), 109, 108], bOr .u8 ((a.val : Nat) : Int) x >= 128 ↔ 128 <= a.val:=by decide +kernel
theorem low3_big {a : UInt8} (h : 128 <= a.toNat) : low3 a = a:=by unfold low3; rw [if_neg (by omega)]
end Go.Vc
namespace Go.Proofs.YtglnmjflpkeclaaGreatDoor
open Go Go.Vc Go.Lib
def FoldTab (w : World) : Prop := ∀ p ∈ [(120, (88 : Int)), (88, 120), (109, 77), (77, 109), (108, 76), (76, 108)], w.cell? ⟨3, p.1, none⟩ = some (.int .u16 p.2)
structure TT (w : World) : Prop where
 tabs : Tabs w
 fold : FoldTab w
 maxl : ∃ m : Int, w.cell? ⟨0, 0, none⟩ = some (.int .i64 m)
theorem TT.chg {w w' : World} (h : TT w) (hc : Chg No w w') : TT w' :=
 ⟨h.tabs.chg hc, fun p hp => hc.cell (h.fold p hp) (fun f => f), by obtain ⟨m, hm⟩:=h.maxl; exact ⟨m, hc.cell hm (fun f => f)⟩⟩
section
variable {w : World}
theorem YdS {s t : ByteArray} {J : Bool -> World -> Prop} (T : TT w) (hs : s.size <= 100000000) (K : J (YeT (bl t) (bl s)) w) : Zz0 Tryz.prog Zx4 #[.string s, .string t] w [.one .bool] J:=by
 obtain ⟨m, hm⟩:=T.maxl
 refine Calls.mono (Any.strings_Contains Tryz.lays144 s t m w (by omega) hm) fun e w' he => ?_
 obtain ⟨rfl, rfl⟩:=he
 rw [contains_has]
 exact ⟨_, rfl, K⟩
theorem HasSuffix_ok {s : ByteArray} {b : UInt8} {J : Bool -> World -> Prop} (hs : s.size <= 100000000) (K : J (decide ((bl s).getLast? = some b)) w) : Zz0 Tryz.prog ZqT #[.string s, .string ⟨#[b]⟩] w [.one .bool] J:=by
 refine Yfj ?_
 refine YaT ?_
 have hsl:=Zzn s
 simp only [Zzf]
 refine Zz4 (fun h1 => ?_) (fun h1 => ?_)
 ·have e1 : (⟨#[b]⟩ : ByteArray).size = 1:=rfl
  rw [e1] at h1 ⊢
  have e2 : w64 ((s.size : Int) - ((1 : Nat) : Int)) = ((s.size - 1 : Nat) : Int):=by rw [Zzb] <;> omega
  rw [e2]
  refine Zyw (by omega) fun t ht _ => ?_
  rw [Ycl]
  have : decide (t = (⟨#[b]⟩ : ByteArray)) = decide ((bl s).getLast? = some b):=by
   rw [decide_eq_decide]
   have hne : bl s ≠ []:=by intro e; rw [e] at hsl; simp at hsl; omega
   have hd : (bl s).drop (s.size - 1) = [(bl s).getLast hne]:=by
    have hdl : (bl s).dropLast ++ [(bl s).getLast hne] = bl s:=dropLast_concat_getLast hne
    conv => lhs; rw [<- hdl]
    exact drop_left' (by rw [length_dropLast, hsl])
   rw [getLast?_eq_some_getLast hne, Option.some.injEq]
   constructor
   ·intro h
    rw [h, hd] at ht
    have : [b] = [(bl s).getLast hne]:=ht
    simpa using this.symm
   ·intro h
    apply Zqt
    rw [ht, hd, h]
  rw [this]; exact K
 ·have h0 : bl s = []:=eq_nil_of_length_eq_zero (by have : (⟨#[b]⟩ : ByteArray).size = 1:=rfl; omega)
  rw [h0] at K
  simpa using K
theorem TrimLeft_ok {s : ByteArray} {J : ByteArray -> World -> Prop} (K : ∀ w', Chg No w w' -> J (mkB (Lib.trimLeftS (bl s) [32, 9, 10])) w') : Zz0 Tryz.prog Yc3 #[.string s, .string ⟨#[32, 9, 10]⟩] w [.one .str] J:=by
 refine Calls.mono (Any.strings_TrimLeft_laid Tryz.lays161 (by kernel_rfl) s ⟨#[32, 9, 10]⟩ w (by decide) (fun j b hb => ?_)) fun e w' he => ?_
 ·match j with
  | 0 | 1 | 2 => simp at hb; subst hb; decide
  | j + 3 => simp at hb
 ·obtain ⟨rfl, hb⟩:=he
  exact ⟨_, rfl, K w' (Chg.of_below hb)⟩
end
end Go.Proofs.YtglnmjflpkeclaaGreatDoor
namespace Go.Vc
open Go Go.Lib
def xmlB : List UInt8:=[120, 109, 108]
theorem xml_mem {i : Nat} {x : UInt8} (h : xmlB[i]? = some x) : x ∈ [(120 : UInt8), 109, 108]:=mem_of_getElem? h
theorem isXml_take {l : List UInt8} {i : Nat} {a x : UInt8} (ha : l[i]? = some a) (hx : xmlB[i]? = some x) (hne : low3 a ≠ x) : Ydq l = false:=by
 unfold Ydq
 rw [decide_eq_false_iff_not]
 intro h
 have : (l.map low3)[i]? = some (low3 a):=by rw [getElem?_map, ha]; rfl
 rw [h] at this
 have h2 : ([120, 109, 108] : List UInt8)[i]? = some x:=hx
 rw [h2] at this
 exact hne (Option.some.inj this).symm
theorem Yaf {α : Type} {l : List α} {k : Nat} {c : α} (h : l[k]? = some c) : l.take (k + 1) = l.take k ++ [c]:=by
  obtain ⟨h1, h2⟩:=List.getElem?_eq_some_iff.1 h
  rw [List.take_succ_eq_append_getElem h1, h2]
theorem dec_big {l : List UInt8} {a : UInt8} (h : l[0]? = some a) (ha : 128 <= a.toNat) : 128 <= (dec l).1:=by
 have hg:=YhE h
 rw [YeV]
 split
 ·decide
 ·rename_i h0
  rcases rd_facts l with ⟨q, _⟩ | ⟨q, q2⟩ | q | q | q
  ·exact absurd q h0
  ·omega
  ·exact q.2.2.2.2.2.1
  ·omega
  ·omega
theorem small_case : ∀ x ∈ [(120 : UInt8), 109, 108], x.toNat < 128 /\ 91 <= x.toNat:=by decide
end Go.Vc
namespace Go.Proofs.YtglnmjflpkeclaaGreatDoor
open Go Go.Vc Go.Lib
section
variable {w : World}
theorem Fold_ok {r : Nat} {v : Int} {J : Int -> World -> Prop} (hr : r < 128) (hc : w.cell? ⟨3, r, none⟩ = some (.int .u16 v)) (hv : 0 <= v /\ v < 128) (K : J v w) : Zz0 Tryz.prog Zxj #[.int .i32 (r : Int)] w [.one (.int .i32)] J:=by
 refine YeO ?_
 generalize hQ : (1114111 : Int) = Q
 refine Zz7 fun J13 hJ13 => ?_
 have k : ∀ b, b = false -> J13 b w:=by
  intro b hb; subst hJ13; subst hb
  have e64 : w64 (r : Int) = (r : Int):=Zzb (by omega) (by omega)
  have e128 : decide ((r : Int) < 128) = true:=decide_eq_true (by omega)
  simp only [e64, e128, Zz1]
  refine ⟨by omega, by omega, ?_⟩
  simp only [ZzC, Addr.add_mk, Int.toNat_natCast, Nat.mul_one, Nat.zero_add]
  refine ZxJ hc ?_
  rw [wrap_i32 _ (by omega) (by omega)]
  exact K
 clear hJ13
 refine Zz4 (fun h => by omega) (fun _ => ?_)
 exact k _ (decide_eq_false (by omega))
set_option maxRecDepth 100000 in
theorem EqFold_ok {s : ByteArray} {J : Bool -> World -> Prop} (F : FoldTab w) (hs : s.size <= 140737488355328) (K : ∀ w', Chg No w w' -> J (Ydq (bl s)) w') : Zz0 Tryz.prog Zyp #[.string s, .string ⟨#[120, 109, 108]⟩] w [.one .bool] J:=by
 refine Yfk ?_
 have hsl:=Zzn s
 have ht3 : (⟨#[120, 109, 108]⟩ : ByteArray).size = 3:=rfl
 have htb : bl ⟨#[120, 109, 108]⟩ = xmlB:=rfl
 rw [ht3]
 refine ⟨fun i w' t => ∃ k : Nat, i = k /\ k <= s.size /\ k <= 3 /\ t = 3 - k /\ w' = w /\ ((bl s).take k).map low3 = xmlB.take k, ⟨_, 0, rfl, Nat.zero_le _, Nat.zero_le _, rfl, rfl, rfl⟩, ?_⟩
 rintro i w1 t ⟨k, rfl, hk, hk3, rfl, rfl, hpre⟩
 refine Zz4 (fun hlt => ?_) (fun hge => ?_)
 ·have hks : k < s.size:=by split at hlt <;> omega
  have hk3' : k < 3:=by split at hlt <;> omega
  have ha:=getElem?_eq_getElem (l:=bl s) (i:=k) (by omega)
  generalize (bl s)[k]'(by omega) = a at ha
  have hx:=getElem?_eq_getElem (l:=xmlB) (i:=k) (by show k < 3; exact hk3')
  generalize xmlB[k]'(by show k < 3; exact hk3') = x at hx
  have hxm:=xml_mem hx
  have hxs:=small_case x hxm
  have hal:=a.toNat_lt
  refine Zz7 fun J0 hJ0 => ?_
  have k0 : low3 a = x -> J0 w1:=by
   intro he; subst hJ0
   refine ⟨_, by omega, k + 1, by rw [Zzb] <;> omega, by omega, by omega, rfl, rfl, ?_⟩
   rw [Yaf ha, Yaf hx, map_append, hpre, map_cons, he]; rfl
  clear hJ0
  refine YbE (by omega) (by omega) fun a2 ha2 => ?_
  rw [Int.toNat_natCast, ha] at ha2
  obtain rfl:=Option.some.inj ha2
  refine YbE (by omega) (by rw [ht3]; omega) fun x2 hx2 => ?_
  rw [Int.toNat_natCast, htb, hx] at hx2
  obtain rfl:=Option.some.inj hx2
  have hor : bOr .u8 ((a.toNat : Nat) : Int) ((x.toNat : Nat) : Int) >= 128 ↔ 128 <= a.toNat:=or_big ⟨a.toNat, hal⟩ ((x.toNat : Nat) : Int) (by
   have : ∀ x ∈ [(120 : UInt8), 109, 108], ((x.toNat : Nat) : Int) ∈ [(120 : Int), 109, 108]:=by decide
   exact this x hxm)
  have hof : UInt8.ofNat a.toNat = a:=by simp
  refine Zz4 (fun hbig => ?_) (fun hsmall => ?_)
  ·have h128:=hor.1 hbig
   have hfalse : Ydq (bl s) = false:=isXml_take ha hx (by
    rw [low3_big h128]; intro e; subst e; omega)
   rw [hfalse] at K
   refine Zyw (by omega) fun s62 h62 hz62 => ?_
   refine Zyw (by rw [ht3]; omega) fun s65 h65 hz65 => ?_
   refine newB_i fun b67 w3 hb67 hw3 => ?_
   have hc3 : Chg No w1 w3:=by rw [hw3]; exact YfO _ _
   have hh3 : w3.heap[b67]? = some (.stringIter s62 0):=by rw [hb67, hw3]; exact heap_alloc_new w1 _
   refine ⟨fun t w' m => t = s65 /\ w' = w3, ⟨0, rfl, rfl⟩, ?_⟩
   rintro t1 w4 m1 ⟨rfl, rfl⟩
   refine ⟨s62, 0, hh3, fun hlt2 => ?_, fun hge2 => by omega⟩
   generalize hw5 : setBlk w4 b67 _ = w5
   have hc5 : Chg No w1 w5:=by rw [<- hw5]; exact hc3.setBlk _ _ (fun h => by rw [hb67] at h; omega)
   have hdec : (Utf8.decode s62 0).1 = ((dec (bl s62)).1 : Int) /\ 128 <= (dec (bl s62)).1:=by
    refine ⟨by rw [decode_dec, drop_zero], dec_big (a:=a) ?_ h128⟩
    rw [h62, getElem?_drop]; exact ha
   rw [hdec.1]
   generalize hch : (dec (bl s62)).1 = ch at hdec ⊢
   have hch2:=hdec.2
   have hz : t1.size = 3 - k:=by rw [hz65, ht3]
   refine Zzd (fun h => by omega) (fun _ => ?_)
   have ht0 : (bl t1)[0]? = some x:=by
    rw [h65, getElem?_drop, htb, Nat.add_zero]; exact hx
   refine YaL ?_
   refine Zz7 fun J10 hJ10 => ?_
   have k10 : J10 true w5:=by
    subst hJ10
    refine Zz9 (fun _ => ?_) (fun h => by cases h)
    refine YbE (by decide) (by omega) fun y hy => ?_
    rw [show (0 : Int).toNat = 0 from rfl, ht0] at hy
    obtain rfl:=Option.some.inj hy
    rw [wrap_i32 _ (by omega) (by omega)]
    refine Zyw (i:=1) (by omega) fun s81 h81 hz81 => ?_
    refine Zzd (fun h => by omega) (fun _ => ?_)
    refine Zz7 fun J10 hJ10 => ?_
    have kk : J10 ((x.toNat : Nat) : Int) (ch : Int) w5:=by
     subst hJ10
     refine Zz4 (fun h => by omega) (fun _ => ?_)
     have hF : ∃ y : Nat, y < 128 /\ y ≠ x.toNat /\ w5.cell? ⟨3, x.toNat, none⟩ = some (.int .u16 (y : Int)) /\ w5.cell? ⟨3, y, none⟩ = some (.int .u16 (x.toNat : Int)):=by
      have g : ∀ p ∈ [(120, (88 : Int)), (88, 120), (109, 77), (77, 109), (108, 76), (76, 108)], w5.cell? ⟨3, p.1, none⟩ = some (.int .u16 p.2):=fun p hp => hc5.cell (F p hp) (fun f => f)
      simp only [mem_cons, not_mem_nil, or_false] at hxm
      rcases hxm with rfl | rfl | rfl
      ·exact ⟨88, by decide, by decide, g (120, 88) (by simp), g (88, 120) (by simp)⟩
      ·exact ⟨77, by decide, by decide, g (109, 77) (by simp), g (77, 109) (by simp)⟩
      ·exact ⟨76, by decide, by decide, g (108, 76) (by simp), g (76, 108) (by simp)⟩
     obtain ⟨y, hy1, hy2, hy3, hy4⟩:=hF
     refine Fold_ok (r:=x.toNat) hxs.1 hy3 (by omega) ?_
     refine ⟨fun r w' m => w' = w5 /\ ((r = (y : Int) /\ m = 1) \/ (r = (x.toNat : Int) /\ m = 0)), ⟨1, rfl, .inl ⟨rfl, rfl⟩⟩, ?_⟩
     rintro r w6 m2 ⟨rfl, hr⟩
     refine Zz7 fun J114 hJ114 => ?_
     rcases hr with ⟨rfl, rfl⟩ | ⟨rfl, rfl⟩
     ·have : J114 true w6:=by
       subst hJ114
       refine Zz9 (fun _ => ?_) (fun h => by cases h)
       exact Fold_ok (r:=y) hy1 hy4 (by omega) ⟨0, by decide, rfl, .inr ⟨rfl, rfl⟩⟩
      clear hJ114
      refine Zzi (fun _ => ?_) (fun h => by omega)
      rw [decide_eq_true (by omega)]; exact this
     ·have : J114 false w6:=by
       subst hJ114
       refine Zz9 (fun h => by cases h) (fun _ => ?_)
       refine Zzd (fun h => by omega) (fun _ => ?_)
       exact K w6 hc5
      clear hJ114
      exact Zzi (fun h => absurd rfl h) (fun _ => this)
    clear hJ10
    exact Zz4 (fun _ => kk) (fun h => by omega)
   clear hJ10
   rw [Ycl]
   have hne : ¬ t1 = ⟨#[]⟩:=by
    intro e
    have : t1.size = 0:=by rw [e]; rfl
    omega
   rw [decide_eq_false hne]
   refine Zz9 (fun _ => ?_) (fun h => by cases h)
   refine YbE (by decide) (by omega) fun y hy => ?_
   rw [show (0 : Int).toNat = 0 from rfl, ht0] at hy
   obtain rfl:=Option.some.inj hy
   rw [decide_eq_true (by omega)]
   exact k10
  ·have h128 : a.toNat < 128:=by
    rcases Nat.lt_or_ge a.toNat 128 with h | h
    ·exact h
    ·exact absurd (hor.2 h) hsmall
   have hcase:=low_case ⟨a.toNat, hal⟩ h128 x hxm
   simp only [hof] at hcase
   have kbad : low3 a ≠ x -> J false w1:=fun hne => by
    have:=isXml_take ha hx hne
    rw [this] at K; exact K w1 (Chg.refl _ _)
   refine Zzd (fun he => ?_) (fun hne => ?_)
   ·have : a = x:=UInt8.toNat_inj.1 (by omega)
    exact k0 (hcase.1 (.inl this))
   ·have hne' : a ≠ x:=fun e => hne (by rw [e])
    refine Zz7 fun J7 hJ7 => ?_
    have k7 : ∀ sr tr : Nat, sr < 128 -> tr < 128 -> ((sr >= 65 /\ sr <= 90 /\ tr = sr + 32) ↔ low3 a = x) -> J7 (sr : Int) (tr : Int) w1:=by
     intro sr tr h1 h2 hiff; subst hJ7
     have e : IntKind.u8.wrap ((IntKind.u8.wrap ((sr : Int) + 97)) - 65) = ((sr + 32 : Nat) : Int):=by
      have e1 : IntKind.u8.wrap ((sr : Int) + 97) = ((sr + 97 : Nat) : Int):=by simp [IntKind.wrap, IntKind.bits, IntKind.signed] <;> omega
      rw [e1]; simp [IntKind.wrap, IntKind.bits, IntKind.signed] <;> omega
     refine Zz7 fun J54 hJ54 => ?_
     have k54 : ∀ b : Bool, (b = true ↔ low3 a = x) -> J54 b w1:=by
      intro b hb; subst hJ54
      exact Yan hb (fun h => k0 h) (fun h => kbad h)
     clear hJ54
     refine Zz4 (fun g1 => ?_) (fun g1 => k54 _ (bF (by rw [<- hiff]; omega)))
     refine Zz4 (fun g2 => ?_) (fun g2 => k54 _ (bF (by rw [<- hiff]; omega)))
     rw [e]
     exact k54 _ (bQ (by rw [<- hiff]; omega))
    clear hJ7
    refine Zz4 (fun h => ?_) (fun h => ?_)
    ·refine k7 _ _ hxs.1 h128 ?_
     rw [<- hcase, if_pos (by omega), if_pos (by omega)]
     exact ⟨fun h => .inr h, fun h => h.resolve_left hne'⟩
    ·refine k7 _ _ h128 hxs.1 ?_
     rw [<- hcase, if_neg (by omega), if_neg (by omega)]
     exact ⟨fun h => .inr h, fun h => h.resolve_left hne'⟩
 ·have:=K w1 (Chg.refl _ _)
  have hx : Ydq (bl s) = ((s.size : Int) == ((3 : Nat) : Int)):=by
   unfold Ydq
   by_cases h3 : s.size = 3
   ·have hk : k = 3:=by rw [h3] at hge; simp at hge; omega
    subst hk
    rw [take_of_length_le (by omega), take_of_length_le (by decide)] at hpre
    rw [decide_eq_true (show (bl s).map low3 = [120, 109, 108] from hpre), h3]; rfl
   ·rw [decide_eq_false (fun h => h3 (by have:=congrArg length h; rw [length_map, hsl] at this; exact this)), beq_eq_false_iff_ne.2 (by omega)]
  rw [hx] at this
  exact this
end
end Go.Proofs.YtglnmjflpkeclaaGreatDoor
namespace Go.Vc
open Go Go.Lib
theorem YfN {α : Type} {l : List α} {q : α -> Bool} {r : Int} (hr : 0 <= r ↔ l.any q = true) : decide (r >= 0) = l.any q:=by
 rw [Bool.eq_iff_iff, decide_eq_true_eq]; exact hr
theorem not_all {α : Type} (l : List α) (q : α -> Bool) : (l.any fun x => !q x) = !l.all q:=by
 rw [not_all_eq_any_not]
end Go.Vc
namespace Go.Proofs.YtglnmjflpkeclaaGreatDoor
open Go Go.Vc Go.Lib
section
variable {w : World}
theorem AnyAttr_great {p : Option Addr} {l c : Nat} {L : List At} {J : Bool -> World -> Prop} (h : Sl w p l 3 (rows atc L)) (hm : l <= 100000000) (K : ∀ w', Chg No w w' -> J (L.any fun a => decide (8192 < a.2.2.size)) w') :
  Zz0 Tryz.prog Zzc #[.slice p l c, .func (.func 72) #[] #[]] w [.one .bool] J:=by
 refine Zxz ?_
 refine Zq1 ?_
 show IdxAttr (fun cs w' K => Zz0 Tryz.prog Yc1 #[.agg ⟨cs⟩] w' [.one .bool] K) p l w _
 refine Ygn (q:=fun a => decide (8192 < a.2.2.size)) h hm (fun x hx w' K' hc k => ?_) fun r w' hc hr => by rw [YfN hr]; exact K w' hc
 refine c_tree_great_1 ?_
 refine Zq8 (Hp.start w' No) fun b w1 H1 hb hc1 => ?_
 refine H1.ldStr 0 rfl (off:=2) rfl ?_
 rw [show decide ((x.2.2.size : Int) > 8192) = decide (8192 < x.2.2.size) from decide_eq_decide.2 (by omega)]
 exact k w1 (hc.trans0 hc1)
theorem Great_ok {x : NV} {J : Bool -> World -> Prop} (hx : x.Ok w) (hm : x.mea <= 100000000) (K : ∀ w', Chg No w w' -> J (Ycr x.nd) w') : Zz0 Tryz.prog YbG #[.agg ⟨x.cells⟩] w [.one .bool] J:=by
 cases hx with
 | @mk k u l t ap al ac ats kp kl kc ks ha hn hac hk hkn hkc hks =>
  have hal:=ha.row (YaJ ats) (by decide)
  have hmm : al <= 100000000:=by
   have:=YbZ ats
   simp only [NV.mea] at hm; omega
  have hg : Ycr (NV.mk k u l t ap al ac ats kp kl kc ks).nd = (decide (64 < ats.length) || decide (8192 < t.size) || ats.any (fun a => decide (8192 < a.2.2.size))):=rfl
  rw [hg] at K
  refine c_tree_great ?_
  refine Zq8 (Hp.start w No) fun b w1 H1 hb hc1 => ?_
  simp only [Zzf]
  refine H1.ldS 0 rfl (off:=3) rfl ?_
  refine Zz4 (fun h1 => ?_) (fun h1 => ?_)
  ·rw [decide_eq_true (show 64 < ats.length by omega)] at K; exact K w1 hc1
  rw [decide_eq_false (show ¬ 64 < ats.length by omega)] at K
  refine H1.ldStr 0 rfl (off:=5) rfl ?_
  refine Zz4 (fun h2 => ?_) (fun h2 => ?_)
  ·rw [decide_eq_true (show 8192 < t.size by omega)] at K; exact K w1 hc1
  rw [decide_eq_false (show ¬ 8192 < t.size by omega)] at K
  refine H1.ldS 0 rfl (off:=3) rfl ?_
  exact AnyAttr_great (ha.chg hc1 (off_no _)) hmm fun w2 hc2 => K w2 (hc1.trans0 hc2)
theorem cvBe {s : ByteArray} {K : Option Addr -> Nat -> Nat -> World -> Prop} (k : ∀ b c w', Bytes w' (some ⟨b, 0, none⟩) s.size (bl s) -> s.size <= c -> Chg No w w' -> K (some ⟨b, 0, none⟩) s.size c w') :
    cvJ Tryz.prog Zz8 Zzj (.string s) w K:=by
  refine ⟨_, _, _, _, Lib.run_convert_string_bytes (P:=Tryz.prog) w Zz8 Zzj Zzs s (u := .string) (by kernel_rfl) (by kernel_rfl) (by kernel_rfl), k _ _ _ ⟨by rw [Zyc, Zzn, Nat.mul_one], .inr ⟨_, rfl, ?_⟩⟩ (grownCap_ge _ _ _ _) ?_⟩
  · intro j v hv
    unfold bcells at hv
    rw [List.getElem?_map, Option.map_eq_some_iff] at hv
    obtain ⟨b, hb, rfl⟩:=hv
    have hj : j < s.size:=by rw [<- Zzn]; exact (List.getElem?_eq_some_iff.1 hb).1
    have:=Lib.bytesWorld_cell w Zzs s j hj
    rw [Addr.add_mk, Nat.zero_add, this, List.getD_eq_getElem?_getD, hb]; rfl
  · exact ⟨rfl, rfl, rfl, by rw [Lib.bytesWorld_size]; omega, fun b hb _ => Lib.bytesWorld_at_old w Zzs s b hb⟩
theorem Bad_ok {s : ByteArray} {J : Bool -> World -> Prop} (T : Tabs w) (hs : s.size <= 100000000) (K : ∀ w', Chg No w w' -> J (!YdB s) w') : Zz0 Tryz.prog Yc2 #[.string s] w [.one .bool] J:=by
 refine c_tree_bad ?_
 refine cvBe fun b c w1 hB hle hc1 => ?_
 refine FaultC_ok hB hle (by omega) (T.chg hc1) fun w2 hc2 => ?_
 have e : ((((flt 0 (bl s)).2 : Nat) : Int) != 0) = !YdB s:=by
  unfold YdB
  by_cases h : (flt 0 (bl s)).2 = 0
  ·rw [h]; rfl
  ·rw [decide_eq_false h, bne_iff_ne.2 (by omega)]; rfl
 rw [e]
 exact K w2 (hc1.trans0 hc2)
theorem YgD {n : Pr} {J : Bool -> World -> Prop} (T : Tabs w) (h1 : n.1.size <= 100000000) (h2 : n.2.size <= 100000000) (K : ∀ w', Chg No w w' -> J (!Zqc n) w') : Zz0 Tryz.prog ZqJ #[.agg ⟨pr n⟩] w [.one .bool] J:=by
 refine YgJ ?_
 refine Zq8 (Hp.start w No) fun b w1 H1 hb hc1 => ?_
 simp only [Zzf]
 refine H1.ldStr 0 rfl (off:=1) rfl ?_
 refine YeK (T.chg hc1) fun w2 hc2 => ?_
 have c02:=hc1.trans0 hc2
 unfold Zqc at K
 refine Zzm (fun hn => ?_) (fun hn => ?_)
 ·rw [hn] at K; exact K w2 c02
 rw [hn, Bool.true_and] at K
 have H2:=H1.step0 hc2
 refine H2.ldStr 0 rfl (off:=0) rfl ?_
 refine Zz4 (fun h => ?_) (fun h => ?_)
 ·rw [decide_eq_false (show ¬ n.1.size <= 100 by omega)] at K; exact K w2 c02
 rw [decide_eq_true (show n.1.size <= 100 by omega), Bool.true_and] at K
 refine H2.ldStr 0 rfl (off:=0) rfl ?_
 refine Bad_ok (T.chg c02) h1 fun w3 hc3 => ?_
 have c03:=c02.trans0 hc3
 refine Zzm (fun hf => ?_) (fun hf => ?_)
 ·rw [hf] at K; exact K w3 c03
 rw [hf, Bool.true_and] at K
 refine (H2.step0 hc3).ldStr 0 rfl (off:=0) rfl ?_
 rw [Ycl]
 have:=K w3 c03
 rw [show (!decide (n.1 ≠ kXMLNS)) = decide (n.1 = kXMLNS) from by by_cases h : n.1 = kXMLNS <;> simp [h]] at this
 exact this
theorem AnyAttr_mis {p : Option Addr} {l c : Nat} {L : List At} {J : Bool -> World -> Prop} (T : Tabs w) (h : Sl w p l 3 (rows atc L)) (hm : l <= 100000000) (hz : ∀ a ∈ L, ZxI a <= 100000000) (K : ∀ w', Chg No w w' -> J (!L.all YdM) w') :
  Zz0 Tryz.prog Zzc #[.slice p l c, .func (.func 74) #[] #[]] w [.one .bool] J:=by
 refine Zxy ?_
 refine Zq0 ?_
 show IdxAttr (fun cs w' K => Zz0 Tryz.prog YaE #[.agg ⟨cs⟩] w' [.one .bool] K) p l w _
 rw [<- not_all] at K
 refine Ygn (q:=fun a => !YdM a) h hm (fun x hx w' K' hc k => ?_) fun r w' hc hr => by rw [YfN hr]; exact K w' hc
 have hzx:=hz x hx
 unfold ZxI at hzx
 refine Ygf ?_
 refine Zq8 (Hp.start w' No) fun b w1 H1 hb hc1 => ?_
 simp only [Zzf]
 refine H1.ldStr 0 rfl (off:=0) rfl ?_
 refine H1.ldStr 0 rfl (off:=1) rfl ?_
 refine YgD (n:=(x.1, x.2.1)) ((T.chg hc).chg hc1) (by simp only; omega) (by simp only; omega) fun w2 hc2 => ?_
 have c2:=(hc.trans0 hc1).trans0 hc2
 unfold YdM nameOf at k
 refine Zzm (fun hf => ?_) (fun hf => ?_)
 ·rw [hf] at k; exact k w2 c2
 rw [hf, Bool.true_and] at k
 have H2:=H1.step0 hc2
 refine H2.ldStr 0 rfl (off:=0) rfl ?_
 refine H2.ldStr 0 rfl (off:=1) rfl ?_
 have:=k w2 c2
 rw [Bool.not_not] at this
 simp only [Ycl, Bool.and_true]
 rw [show (decide (x.1 = ByteArray.empty) && decide (x.2.1 = ⟨#[120, 109, 108, 110, 115]⟩)) = decide (x.1 = ZzN /\ x.2.1 = kXn) from (Bool.decide_and _ _).symm]
 exact this
theorem Misnamed_ok {x : NV} {J : Bool -> World -> Prop} (T : TT w) (hx : x.Ok w) (hm : x.mea <= 100000000) (K : ∀ w', Chg No w w' -> J (!nameP x.nd) w') : Zz0 Tryz.prog Yai #[.agg ⟨x.cells⟩] w [.one .bool] J:=by
 cases hx with
 | @mk k u l t ap al ac ats kp kl kc ks ha hn hac hk hkn hkc hks =>
  have hal:=ha.row (YaJ ats) (by decide)
  have hmm : al <= 100000000:=by
   have:=YbZ ats
   simp only [NV.mea] at hm; omega
  have hz : ∀ a ∈ ats, ZxI a <= 100000000:=fun a h => by
   have:=Yhx ZxI h
   simp only [NV.mea] at hm; omega
  have hu : u.size <= 100000000 /\ l.size <= 100000000:=by simp only [NV.mea] at hm; omega
  have hg : nameP (NV.mk k u l t ap al ac ats kp kl kc ks).nd = (if k = 2 then Zqc (u, l) && ats.all YdM else if k = 5 then nm (bl l) && !Ydq (bl l) else true):=rfl
  rw [hg] at K
  refine YhX ?_
  refine Zq8 (Hp.start w No) fun b w1 H1 hb hc1 => ?_
  refine H1.ldI 0 rfl (off:=0) rfl ?_
  refine Zzd (fun e2 => ?_) (fun e2 => ?_)
  ·rw [if_pos e2] at K
   simp only [Zzf]
   refine H1.ldStr 0 rfl (off:=1) rfl ?_
   refine H1.ldStr 0 rfl (off:=2) rfl ?_
   refine YgD (n:=(u, l)) (T.tabs.chg hc1) hu.1 hu.2 fun w2 hc2 => ?_
   have c2:=hc1.trans0 hc2
   refine Zzm (fun hf => ?_) (fun hf => ?_)
   ·rw [hf] at K; exact K w2 c2
   rw [hf, Bool.true_and] at K
   refine (H1.step0 hc2).ldS 0 rfl (off:=3) rfl ?_
   exact AnyAttr_mis (T.tabs.chg c2) (ha.chg c2 (off_no _)) hmm hz fun w3 hc3 => K w3 (c2.trans0 hc3)
  ·rw [if_neg e2] at K
   refine Zzd (fun e5 => ?_) (fun e5 => ?_)
   ·rw [if_pos e5] at K
    simp only [Zzf]
    refine H1.ldStr 0 rfl (off:=2) rfl ?_
    refine YeK (T.tabs.chg hc1) fun w2 hc2 => ?_
    have c2:=hc1.trans0 hc2
    refine Zzm (fun hf => ?_) (fun hf => ?_)
    ·rw [hf] at K; exact K w2 c2
    rw [hf, Bool.true_and, Bool.not_not] at K
    refine (H1.step0 hc2).ldStr 0 rfl (off:=2) rfl ?_
    exact EqFold_ok (T.chg c2).fold (by omega) fun w3 hc3 => K w3 (c2.trans0 hc3)
   ·rw [if_neg e5] at K; exact K w1 hc1
theorem AnyAttr_spo {p : Option Addr} {l c : Nat} {L : List At} {J : Bool -> World -> Prop} (T : Tabs w) (h : Sl w p l 3 (rows atc L)) (hm : l <= 100000000) (hz : ∀ a ∈ L, ZxI a <= 100000000) (K : ∀ w', Chg No w w' -> J (!L.all fun a => YdB a.2.2) w') :
  Zz0 Tryz.prog Zzc #[.slice p l c, .func (.func 79) #[] #[]] w [.one .bool] J:=by
 refine Zxx ?_
 refine ZxZ ?_
 show IdxAttr (fun cs w' K => Zz0 Tryz.prog Ybl #[.agg ⟨cs⟩] w' [.one .bool] K) p l w _
 rw [<- not_all] at K
 refine Ygn (q:=fun a => !YdB a.2.2) h hm (fun x hx w' K' hc k => ?_) fun r w' hc hr => by rw [YfN hr]; exact K w' hc
 have hzx:=hz x hx
 unfold ZxI at hzx
 refine YhW ?_
 refine Zq8 (Hp.start w' No) fun b w1 H1 hb hc1 => ?_
 refine H1.ldStr 0 rfl (off:=2) rfl ?_
 exact Bad_ok ((T.chg hc).chg hc1) (by omega) fun w2 hc2 => k w2 ((hc.trans0 hc1).trans0 hc2)
theorem Spoilt_ok {x : NV} {J : Bool -> World -> Prop} (T : TT w) (hx : x.Ok w) (hm : x.mea <= 100000000) (K : ∀ w', Chg No w w' -> J (!YeW x.nd) w') : Zz0 Tryz.prog Yb5 #[.agg ⟨x.cells⟩] w [.one .bool] J:=by
 cases hx with
 | @mk k u l t ap al ac ats kp kl kc ks ha hn hac hk hkn hkc hks =>
  have hal:=ha.row (YaJ ats) (by decide)
  have hmm : al <= 100000000:=by
   have:=YbZ ats
   simp only [NV.mea] at hm; omega
  have hz : ∀ a ∈ ats, ZxI a <= 100000000:=fun a h => by
   have:=Yhx ZxI h
   simp only [NV.mea] at hm; omega
  have ht : t.size <= 100000000:=by simp only [NV.mea] at hm; omega
  have hg : YeW (NV.mk k u l t ap al ac ats kp kl kc ks).nd = (YdB t && ats.all fun a => YdB a.2.2):=rfl
  rw [hg] at K
  refine c_tree_spoilt ?_
  refine Zq8 (Hp.start w No) fun b w1 H1 hb hc1 => ?_
  simp only [Zzf]
  refine H1.ldStr 0 rfl (off:=5) rfl ?_
  refine Bad_ok (T.tabs.chg hc1) ht fun w2 hc2 => ?_
  have c2:=hc1.trans0 hc2
  refine Zzm (fun hf => ?_) (fun hf => ?_)
  ·rw [hf] at K; exact K w2 c2
  rw [hf, Bool.true_and] at K
  refine (H1.step0 hc2).ldS 0 rfl (off:=3) rfl ?_
  exact AnyAttr_spo (T.tabs.chg c2) (ha.chg c2 (off_no _)) hmm hz fun w3 hc3 => K w3 (c2.trans0 hc3)
end
end Go.Proofs.YtglnmjflpkeclaaGreatDoor
namespace Go.Vc
open Go Go.Lib
def cmpS (x y : ByteArray) : Int:=if sLt x y = true then -1 else if x = y then 0 else 1
def ordZ (a b : Pr) : Int:=if cmpS a.1 b.1 ≠ 0 then cmpS a.1 b.1 else cmpS a.2 b.2
theorem cmpS_cases (x y : ByteArray) : (cmpS x y = -1 /\ sLt x y = true /\ x ≠ y /\ sLt y x = false) \/ (cmpS x y = 0 /\ x = y /\ sLt x y = false) \/ (cmpS x y = 1 /\ sLt x y = false /\ x ≠ y /\ sLt y x = true):=by
 unfold cmpS
 by_cases h : sLt x y = true
 ·left; rw [if_pos h]
  refine ⟨rfl, h, ?_, sLt_asym h⟩
  rintro rfl; rw [Ybj] at h; cases h
 ·rw [if_neg h]
  by_cases h2 : x = y
  ·right; left; rw [if_pos h2]; exact ⟨rfl, h2, by simpa using h⟩
  ·right; right; rw [if_neg h2]
   refine ⟨rfl, by simpa using h, h2, ?_⟩
   rcases Yhf x y with h3 | h3 | h3
   ·exact absurd h3 h
   ·exact absurd h3 h2
   ·exact h3
theorem ordZ_lt (a b : Pr) : ordZ a b < 0 ↔ nLt a b = true:=by
 rw [Yhw]
 unfold ordZ
 rcases cmpS_cases a.1 b.1 with ⟨h1, h2, h3, h4⟩ | ⟨h1, h2, h3⟩ | ⟨h1, h2, h3, h4⟩
 ·rw [if_pos (by omega), h1]; simp [h2]
 ·rw [if_neg (by omega)]
  rcases cmpS_cases a.2 b.2 with ⟨g1, g2, g3, g4⟩ | ⟨g1, g2, g3⟩ | ⟨g1, g2, g3, g4⟩
  ·rw [g1]; simp [h2, g2]
  ·rw [g1]; simp [h3, g3]
  ·rw [g1]; simp [h3, g2]
 ·rw [if_pos (by omega), h1]; simp [h2, h3]
theorem asc_get : ∀ {l : List At}, ascB l = true ↔ ∀ i a b, l[i]? = some a -> l[i + 1]? = some b -> aLt a b = true
 | [] => by simp [ascB]
 | [a] => by
  simp only [ascB, true_iff]
  intro i x y h1 h2
  simp at h2
 | a :: b :: r => by
  have ih:=asc_get (l:=b :: r)
  unfold ascB
  rw [Bool.and_eq_true, ih]
  constructor
  ·rintro ⟨h1, h2⟩ i x y hx hy
   cases i with
   | zero => simp at hx hy; subst hx; subst hy; exact h1
   | succ i => exact h2 i x y (by simpa using hx) (by simpa using hy)
  ·intro h
   exact ⟨h 0 a b rfl rfl, fun i x y hx hy => h (i + 1) x y (by simpa using hx) (by simpa using hy)⟩
theorem two_get : ∀ {l : List Nd}, ZzP l = true ↔ ∃ (i : Nat) (a b : Nd), l[i]? = some a /\ l[i + 1]? = some b /\ a.kind = 3 /\ b.kind = 3
 | [] => by simp [ZzP]
 | [a] => by simp [ZzP]
 | a :: b :: r => by
  have ih:=two_get (l:=b :: r)
  unfold ZzP
  rw [Bool.or_eq_true, ih, Bool.and_eq_true, decide_eq_true_eq, decide_eq_true_eq]
  constructor
  ·rintro (⟨h1, h2⟩ | ⟨i, x, y, hx, hy, h1, h2⟩)
   ·exact ⟨0, a, b, rfl, rfl, h1, h2⟩
   ·exact ⟨i + 1, x, y, by simpa using hx, by simpa using hy, h1, h2⟩
  ·rintro ⟨i, x, y, hx, hy, h1, h2⟩
   cases i with
   | zero => simp at hx hy; subst hx; subst hy; exact .inl ⟨h1, h2⟩
   | succ i => exact .inr ⟨i, x, y, by simpa using hx, by simpa using hy, h1, h2⟩
end Go.Vc
namespace Go.Proofs.YtglnmjflpkeclaaGreatDoor
open Go Go.Vc Go.Lib
section
variable {w : World}
theorem Order_ok {a b : Pr} {J : Int -> World -> Prop} (k : ∀ w', Chg No w w' -> J (ordZ a b) w') :
  Zz0 Tryz.prog Ydt #[.agg ⟨pr a⟩, .agg ⟨pr b⟩] w [.one (.int .i64)] J:=by
 refine c_tree_Order ?_
 refine (Hp.start w No).newB fun b2 w1 H1 _ _ => ?_
 refine H1.newB fun b3 w2 H2 _ _ => ?_
 have H2d:=H2.drew
 refine H2d.ldStr 1 rfl (off:=0) rfl ?_
 refine H2d.ldStr 0 rfl (off:=0) rfl ?_
 refine H2d.ldStr 1 rfl (off:=1) rfl ?_
 refine H2d.ldStr 0 rfl (off:=1) rfl ?_
 refine YdT ⟨H2d.cell 0 rfl (off:=1) rfl, H2d.cell 1 rfl (off:=1) rfl, YdT ?_⟩
 generalize hr1 : (if sLt a.1 b.1 = true then (-1 : Int) else if a.1 = b.1 then 0 else 1) = r1
 generalize hr2 : (if sLt a.2 b.2 = true then (-1 : Int) else if a.2 = b.2 then 0 else 1) = r2
 have f1 : cmpS a.1 b.1 = r1:=hr1
 have f2 : cmpS a.2 b.2 = r2:=hr2
 refine newRow (sz:=1) (n:=2) rfl (by decide) fun b19 w5 hr5 _ hc5 => ?_
 refine YgB ?_
 have hcell:=(Ybc (off:=0) (e:=T_int) (fz:=(0, 0)) (b:=b19) (cs:=[.int .i64 r1, .int .i64 r2]) (w:=w5) (by
  obtain ⟨b', rest, e1, e2, _, _, e3⟩:=hr5.some0 (by decide)
  cases e1
  simp at e3
  subst e3
  simpa using e2))
 have fin : ∀ r, (r = r1 /\ r1 ≠ 0 \/ r1 = 0 /\ r = r2) -> J r w5:=by
  intro r hr
  have:=k w5 (H2d.chg.trans0 hc5)
  unfold ordZ at this
  rw [f1, f2] at this
  rcases hr with ⟨rfl, h⟩ | ⟨h, rfl⟩
  ·rw [if_pos h] at this; exact this
  ·rw [if_neg (by omega)] at this; exact this
 refine ⟨fun x w' t => ∃ i : Nat, x = i /\ i <= 2 /\ t = 2 - i /\ w' = w5 /\ (1 <= i -> r1 = 0) /\ (2 <= i -> r2 = 0), ⟨_, 0, rfl, by decide, rfl, rfl, by omega, by omega⟩, ?_⟩
 rintro x w' t ⟨i, rfl, hi, rfl, rfl, h1, h2⟩
 refine Zz4 (fun hlt => ?_) (fun hge => ?_)
 ·refine Ygv (by omega) hlt ?_
  rw [Addr.add_mk, Int.toNat_natCast, Nat.zero_add, Nat.mul_one]
  have hi2 : i = 0 \/ i = 1:=by omega
  rcases hi2 with rfl | rfl
  ·refine ZxJ (n:=r1) (by have:=hcell 0 _ rfl; rwa [add_zero'] at this) ?_
   refine Zzi (fun hne => fin r1 (.inl ⟨rfl, hne⟩)) (fun he => ⟨_, by omega, 1, by rw [Zzb] <;> decide, by omega, rfl, rfl, fun _ => he, fun h => by omega⟩)
  ·refine ZxJ (n:=r2) (by have:=hcell 1 _ rfl; rwa [Addr.add_mk] at this) ?_
   refine Zzi (fun hne => fin r2 (.inr ⟨h1 (by omega), rfl⟩)) (fun he => ⟨_, by omega, 2, by rw [Zzb] <;> decide, by omega, rfl, rfl, fun _ => h1 (by omega), fun _ => he⟩)
 ·exact fin 0 (.inr ⟨h1 (by omega), (h2 (by omega)).symm⟩)
theorem Unordered_ok {x : NV} {J : Bool -> World -> Prop} (hx : x.Ok w) (hm : x.mea <= 100000000) (K : ∀ w', Chg No w w' -> J (!Ygu x.nd) w') : Zz0 Tryz.prog ZqK #[.agg ⟨x.cells⟩] w [.one .bool] J:=by
  cases hx with
  | @mk k u l t ap al ac ats kp kl kc ks ha hn hac hk hkn hkc hks =>
    have hal:=ha.row (YaJ ats) (by decide)
    have hmm : al <= 100000000:=by
      have:=YbZ ats
      simp only [NV.mea] at hm; omega
    have hg : Ygu (NV.mk k u l t ap al ac ats kp kl kc ks).nd = ascB ats:=rfl
    rw [hg] at K
    refine YgK ?_
    refine Zq8 (Hp.start w No) fun b w1 H1 hb hc1 => ?_
    refine H1.ldS 0 rfl (off:=3) rfl ?_
    refine ⟨fun i w' m => ∃ q : Nat, i = q /\ q <= al /\ m = al - q /\ Hp w No w' [⟨b, [.int .i64 k, .string u, .string l, .slice ap al ac, .slice kp kl kc, .string t], Zz5⟩] /\ ∀ j x y, j + 1 < q -> ats[j]? = some x -> ats[j + 1]? = some y -> aLt x y = true, ⟨_, 0, rfl, Nat.zero_le _, rfl, H1, by omega⟩, ?_⟩
    rintro i w2 m ⟨q, rfl, hq, rfl, H2, hup⟩
    refine Zz4 (fun hlt => ?_) (fun hge => ?_)
    · refine Zz7 fun J28 hJ28 => ?_
      have k28 : ∀ (bb : Bool) (w3 : World), Hp w No w3 [⟨b, [.int .i64 k, .string u, .string l, .slice ap al ac, .slice kp kl kc, .string t], Zz5⟩] ->
          (bb = true -> ascB ats = false) -> (bb = false -> ∀ x y, 0 < q -> ats[q - 1]? = some x -> ats[q]? = some y -> aLt x y = true) -> J28 bb w3:=by
        intro bb w3 H3 g1 g2; subst hJ28
        refine Zz9 (fun h => ?_) (fun h => ?_)
        · have:=g1 h; rw [this] at K; exact K w3 H3.chg
        · refine ⟨_, by omega, q + 1, by rw [Zzb] <;> omega, by omega, rfl, H3, ?_⟩
          intro j x y hj hx hy
          rcases Nat.lt_or_ge (j + 1) q with h1 | h1
          · exact hup j x y h1 hx hy
          · have hjq : j + 1 = q:=by omega
            exact g2 h x y (by omega) (by rw [<- hjq]; exact hx) (by rw [<- hjq]; exact hy)
      clear hJ28
      refine Zz4 (fun hpos => ?_) (fun hz => k28 _ _ H2.drew (fun h => by cases h) (fun _ x y h => by omega))
      have H2d:=H2.drew
      have e1 : w64 ((q : Int) - 1) = ((q - 1 : Nat) : Int):=by rw [Zzb] <;> omega
      rw [e1]
      refine H2d.ldS 0 rfl (off:=3) rfl ?_
      refine ZzT (ha.chg H2d.chg (off_no _)) (YaJ ats) (by decide) (by omega) (by omega) fun a x _ hx hcs => ?_
      rw [Int.toNat_natCast] at hx
      refine ZzB (ZzG hcs) (ZzB (hcs 1 _ rfl) ?_)
      refine H2d.ldS 0 rfl (off:=3) rfl ?_
      refine ZzT (ha.chg H2d.chg (off_no _)) (YaJ ats) (by decide) (by omega) (by omega) fun a' y _ hy hcs' => ?_
      rw [Int.toNat_natCast] at hy
      refine ZzB (ZzG hcs') (ZzB (hcs' 1 _ rfl) ?_)
      refine Order_ok (a:=(x.1, x.2.1)) (b:=(y.1, y.2.1)) fun w4 hc4 => ?_
      have hlt2:=ordZ_lt (x.1, x.2.1) (y.1, y.2.1)
      refine k28 _ _ (H2d.step0 hc4) (fun h => ?_) (fun h x' y' _ hx' hy' => ?_)
      · have h':=of_decide_eq_true h
        rw [Bool.eq_false_iff]
        intro hasc
        have:=asc_get.1 hasc (q - 1) x y hx (by rw [show q - 1 + 1 = q from by omega]; exact hy)
        have:=hlt2.2 this
        omega
      · rw [hx] at hx'; rw [hy] at hy'
        obtain rfl:=Option.some.inj hx'
        obtain rfl:=Option.some.inj hy'
        have h':=of_decide_eq_false h
        exact hlt2.1 (by omega)
    · have : ascB ats = true:=asc_get.2 fun j x y hx hy => hup j x y (by have:=(List.getElem?_eq_some_iff.1 hy).1; omega) hx hy
      rw [this] at K
      exact K w2 H2.chg
theorem WrongText_ok {x : NV} {J : Bool -> World -> Prop} (T : TT w) (hx : x.Ok w) (hm : x.mea <= 100000000) (K : ∀ w', Chg No w w' -> J (!Yh7 x.nd) w') : Zz0 Tryz.prog ZqI #[.agg ⟨x.cells⟩] w [.one .bool] J:=by
  cases hx with
  | @mk k u l t ap al ac ats kp kl kc ks ha hn hac hk hkn hkc hks =>
    have hkl:=hk.row (Zzw ks) (by decide)
    have hmm : kl <= 100000000:=by
      have:=YbC ks
      simp only [NV.mea] at hm; omega
    have ht : t.size <= 100000000:=by simp only [NV.mea] at hm; omega
    rw [Ydm] at K
    unfold Yh7 at K
    change ∀ w', Chg No w w' -> J (!(!ZzP (ks.map NV.nd) && Yb9 k t)) w' at K
    have kk : ∀ {i : Nat} {y : NV}, ks[i]? = some y -> (ks.map NV.nd)[i]? = some y.nd:=fun h => by rw [List.getElem?_map, h]; rfl
    refine YgI ?_
    refine Zq8 (Hp.start w No) fun b w1 H1 hb hc1 => ?_
    refine H1.ldS 0 rfl (off:=4) rfl ?_
    refine ⟨fun i w' m => ∃ q : Nat, i = q /\ q <= kl /\ m = kl - q /\ Hp w No w' [⟨b, [.int .i64 k, .string u, .string l, .slice ap al ac, .slice kp kl kc, .string t], Zz5⟩] /\ ∀ j x y, j + 1 < q -> ks[j]? = some x -> ks[j + 1]? = some y -> ¬ (x.kd = 3 /\ y.kd = 3), ⟨_, 0, rfl, Nat.zero_le _, rfl, H1, by omega⟩, ?_⟩
    rintro i w2 m ⟨q, rfl, hq, rfl, H2, hup⟩
    refine Zz4 (fun hlt => ?_) (fun hge => ?_)
    · refine ZzT (hk.chg H2.chg (off_no _)) (Zzw ks) (by decide) (by omega) hlt fun a y _ hy hcs => ?_
      rw [Int.toNat_natCast] at hy
      cases y with
      | mk yk yu yl yt yap yal yac yas ykp ykl ykc yks =>
      refine Ydl H2 hcs fun b4 w4 H4 _ _ => ?_
      have H4b : Hp w No w4 [⟨b, [.int .i64 k, .string u, .string l, .slice ap al ac, .slice kp kl kc, .string t], Zz5⟩]:=H4.sub (.cons _ (.refl _))
      refine Zz7 fun J29 hJ29 => ?_
      have k29 : ∀ (bb : Bool), (bb = true -> ZzP (ks.map NV.nd) = true) -> (bb = false -> ∀ x, 0 < q -> ks[q - 1]? = some x -> ¬ (x.kd = 3 /\ yk = 3)) -> J29 bb w4:=by
        intro bb g1 g2; subst hJ29
        refine Zz9 (fun h => ?_) (fun h => ?_)
        · have:=g1 h; rw [this] at K; exact K w4 H4.chg
        · refine ⟨_, by omega, q + 1, by rw [Zzb] <;> omega, by omega, rfl, H4b, ?_⟩
          intro j x y' hj hx hy'
          rcases Nat.lt_or_ge (j + 1) q with h1 | h1
          · exact hup j x y' h1 hx hy'
          · have hjq : j + 1 = q:=by omega
            rw [hjq, hy] at hy'
            obtain rfl:=Option.some.inj hy'
            exact g2 h x (by omega) (by rw [<- hjq]; exact hx)
      clear hJ29
      refine Zz4 (fun hpos => ?_) (fun hz => k29 _ (fun h => by cases h) (fun _ x h => by omega))
      refine H4.ldI 0 rfl (off:=0) rfl ?_
      refine Zzd (fun h3 => ?_) (fun h3 => k29 _ (fun h => by cases h) (fun _ x _ _ h => h3 h.2))
      refine H4.ldS 1 rfl (off:=4) rfl ?_
      have e1 : w64 ((q : Int) - 1) = ((q - 1 : Nat) : Int):=by rw [Zzb] <;> omega
      rw [e1]
      refine ZzT (hk.chg H4.chg (off_no _)) (Zzw ks) (by decide) (by omega) (by omega) fun a' x _ hx hcs' => ?_
      rw [Int.toNat_natCast] at hx
      cases x with
      | mk xk xu xl xt xap xal xac xas xkp xkl xkc xks =>
      refine ZxJ (ZzG hcs') ?_
      refine k29 _ (fun h => ?_) (fun h x' _ hx' => ?_)
      · have h' : xk = 3:=by simpa using h
        exact two_get.2 ⟨q - 1, _, _, kk hx, by rw [show q - 1 + 1 = q from by omega]; exact kk hy, by rw [Yg8]; exact h', by rw [Yg8]; exact h3⟩
      · rw [hx] at hx'
        obtain rfl:=Option.some.inj hx'
        have h' : xk ≠ 3:=by simpa using h
        exact fun hh => h' hh.1
    · have htt : ZzP (ks.map NV.nd) = false:=by
        rw [Bool.eq_false_iff]
        intro h
        obtain ⟨j, x, y, hx, hy, h1, h2⟩:=two_get.1 h
        rw [List.getElem?_map, Option.map_eq_some_iff] at hx hy
        obtain ⟨x', hx', rfl⟩:=hx
        obtain ⟨y', hy', rfl⟩:=hy
        rw [Yg8] at h1 h2
        exact hup j x' y' (by have:=(List.getElem?_eq_some_iff.1 hy').1; omega) hx' hy' ⟨h1, h2⟩
      rw [htt] at K
      rw [Bool.not_false, Bool.true_and] at K
      change ∀ w', Chg No w w' -> J (!Yb9 k t) w' at K
      unfold Yb9 at K
      refine H2.ldI 0 rfl (off:=0) rfl ?_
      refine Zzd (fun e3 => ?_) (fun e3 => ?_)
      · rw [if_pos e3] at K
        refine H2.ldStr 0 rfl (off:=5) rfl ?_
        rw [Ycl]
        have:=K w2 H2.chg
        rw [show (!decide (t ≠ ZzN)) = decide (t = ZzN) from by by_cases h : t = ZzN <;> simp [h]] at this
        exact this
      rw [if_neg e3] at K
      refine Zzd (fun e4 => ?_) (fun e4 => ?_)
      · rw [if_pos e4] at K
        simp only [Zzf]
        refine H2.ldStr 0 rfl (off:=5) rfl ?_
        refine YdS (T.chg H2.chg) ht ?_
        refine Zz9 (fun h => ?_) (fun h => ?_)
        · have : YeT [45, 45] (bl t) = true:=h
          rw [this] at K; exact K w2 H2.chg
        have h0 : YeT [45, 45] (bl t) = false:=h
        rw [h0] at K
        refine H2.ldStr 0 rfl (off:=5) rfl ?_
        refine HasSuffix_ok ht ?_
        refine Zz4 (fun h => ?_) (fun h => ?_)
        · rw [decide_eq_false (fun hh => hh h)] at K
          simp only [Bool.and_false, Bool.not_false] at K
          exact K w2 H2.chg
        rw [decide_eq_true h] at K
        refine H2.ldStr 0 rfl (off:=5) rfl ?_
        refine YdS (T.chg H2.chg) ht ?_
        have:=K w2 H2.chg
        simp only [Bool.not_false, Bool.true_and, Bool.and_true, Bool.not_not] at this
        exact this
      rw [if_neg e4] at K
      refine Zzd (fun e5 => ?_) (fun e5 => ?_)
      · rw [if_pos e5] at K
        have H2d:=H2.drew
        simp only [Zzf]
        refine H2d.ldStr 0 rfl (off:=5) rfl ?_
        refine YdS (T.chg H2d.chg) ht ?_
        refine Zz9 (fun h => ?_) (fun h => ?_)
        · have : YeT [63, 62] (bl t) = true:=h
          rw [this] at K; exact K _ H2d.chg
        have h0 : YeT [63, 62] (bl t) = false:=h
        rw [h0] at K
        refine H2d.ldStr 0 rfl (off:=5) rfl ?_
        refine YdS (T.chg H2d.chg) ht ?_
        refine Zz9 (fun h => ?_) (fun h => ?_)
        · have h1 : YeT [13] (bl t) = true:=h
          rw [h1] at K
          exact K _ H2d.chg
        have h1 : YeT [13] (bl t) = false:=h
        rw [h1] at K
        refine H2d.ldStr 0 rfl (off:=5) rfl ?_
        refine H2d.ldStr 0 rfl (off:=5) rfl ?_
        refine TrimLeft_ok fun w13 hc13 => ?_
        have H13:=H2d.step0 hc13
        refine ⟨H13.cell 0 rfl rfl, ?_⟩
        rw [Ycl]
        have:=K w13 H13.chg
        simp only [Bool.not_false, Bool.true_and] at this
        rw [<- trim_same] at this
        rw [show decide (t = mkB (Lib.trimLeftS (bl t) [32, 9, 10])) = decide (bl t = Lib.trimLeftS (bl t) [32, 9, 10]) from decide_eq_decide.2 ⟨fun h => by conv => lhs; rw [h, ZzH], fun h => Zqt (by rw [ZzH]; exact h)⟩]
        exact this
      · rw [if_neg e5] at K
        exact K w2 H2.chg
end
end Go.Proofs.YtglnmjflpkeclaaGreatDoor
end
section
namespace Go.Vc
open Go Go.Lib
theorem flatL_take {ks : List NV} {q : Nat} {x : NV} (h : ks[q]? = some x) : NV.flatL (ks.take (q + 1)) = NV.flatL (ks.take q) ++ x.flat:=by
 rw [Yaf h, Ygw]; simp [NV.flatL]
theorem len_flatL : ∀ ks : List NV, ks.length <= (NV.flatL ks).length
 | [] => Nat.le_refl _
 | x :: r => by
  have:=len_flatL r
  have h1 : 1 <= x.flat.length:=by cases x; simp [NV.flat]
  simp only [NV.flatL, length_append, length_cons]; omega
theorem flatL_le : ∀ (ks : List NV) (q : Nat), (NV.flatL (ks.take q)).length <= (NV.flatL ks).length
 | [], q => by simp
 | x :: r, 0 => by simp [NV.flatL]
 | x :: r, q + 1 => by
  have:=flatL_le r q
  simp only [take_succ_cons, NV.flatL, length_append]; omega
theorem countP_take {α : Type} {p : α -> Bool} {l : List α} {q : Nat} {x : α} (h : l[q]? = some x) : (l.take (q + 1)).countP p = (l.take q).countP p + (if p x then 1 else 0):=by
 rw [Yaf h, countP_append, countP_cons, countP_nil]; simp
mutual
def Nd.size : Nd -> Nat
 | .mk _ _ _ _ _ ks => 1 + Nd.sizeL ks
def Nd.sizeL : List Nd -> Nat
 | [] => 0
 | x :: r => x.size + Nd.sizeL r
end
mutual
def Nd.depth : Nd -> Nat
 | .mk _ _ _ _ _ ks => Nd.depthL ks + 1
def Nd.depthL : List Nd -> Nat
 | [] => 0
 | x :: r => max x.depth (Nd.depthL r)
end
theorem Ycq : ∀ a b : List Nd, Nd.sizeL (a ++ b) = Nd.sizeL a + Nd.sizeL b
 | [], _ => by simp [Nd.sizeL]
 | x :: r, b => by simp only [cons_append, Nd.sizeL, Ycq r b]; omega
theorem YdD : ∀ a b : List Nd, Nd.depthL (a ++ b) = max (Nd.depthL a) (Nd.depthL b)
 | [], _ => by simp [Nd.depthL]
 | x :: r, b => by simp only [cons_append, Nd.depthL, YdD r b]; omega
mutual
theorem Yhc : ∀ d : Nd, d.size = d.flat.length
 | .mk k u l t ats ks => by
  have:=sizeL_flat ks
  simp only [Nd.size, Nd.flat, length_cons]; omega
theorem sizeL_flat : ∀ ks : List Nd, Nd.sizeL ks = (Nd.flatL ks).length
 | [] => rfl
 | x :: r => by
  have:=Yhc x; have:=sizeL_flat r
  simp only [Nd.sizeL, Nd.flatL, length_append]; omega
end
mutual
theorem depth_le : ∀ d : Nd, d.depth <= d.size
 | .mk k u l t ats ks => by
  have:=depthL_le ks
  simp only [Nd.size, Nd.depth]; omega
theorem depthL_le : ∀ ks : List Nd, Nd.depthL ks <= Nd.sizeL ks
 | [] => Nat.le_refl _
 | x :: r => by
  have:=depth_le x; have:=depthL_le r
  simp only [Nd.sizeL, Nd.depthL]; omega
end
theorem size_mea (v : NV) : v.nd.size <= v.mea:=by
 rw [Yhc, <- flat_nd, length_map]; exact flat_len v
theorem sizeL_take (ks : List Nd) (q : Nat) : Nd.sizeL (ks.take q) <= Nd.sizeL ks:=by
 have:=Ycq (ks.take q) (ks.drop q)
 rw [take_append_drop] at this; omega
theorem depthL_take (ks : List Nd) (q : Nat) : Nd.depthL (ks.take q) <= Nd.depthL ks:=by
 have:=YdD (ks.take q) (ks.drop q)
 rw [take_append_drop] at this; omega
end Go.Vc
namespace Go.Proofs.YtglnmjflpkeclaaGreatDoor
open Go Go.Vc Go.Lib
section
variable {w : World}
theorem AnyNode_odd {p : Option Addr} {l c : Nat} {L : List NV} {J : Bool -> World -> Prop} (T : TT w) (h : Sl w p l 6 (rows NV.cells L)) (hm : l <= 100000000) (hk : ∀ x ∈ L, x.Ok w /\ x.mea <= 100000000) (K : ∀ w', Chg No w w' -> J (L.any fun x => oddP x.nd) w') :
  Zz0 Tryz.prog Zz2 #[.slice p l c, .func (.func 39) #[] #[]] w [.one .bool] J:=by
 refine Zxw ?_
 refine ZxY ?_
 show YdR (fun cs w' K => Zz0 Tryz.prog Yds #[.agg ⟨cs⟩] w' [.one .bool] K) p l w _
 refine Yax (q:=fun x => oddP x.nd) h hm (fun x hx w' K' hc k => ?_) fun r w' hc hr => by rw [YfN hr]; exact K w' hc
 obtain ⟨hok, hmx⟩:=hk x hx
 exact Odd_ok (hok.chg0 hc) hmx fun w'' c2 => k w'' (hc.trans0 c2)
theorem AnyNode_great {p : Option Addr} {l c : Nat} {L : List NV} {J : Bool -> World -> Prop} (T : TT w) (h : Sl w p l 6 (rows NV.cells L)) (hm : l <= 100000000) (hk : ∀ x ∈ L, x.Ok w /\ x.mea <= 100000000) (K : ∀ w', Chg No w w' -> J (L.any fun x => Ycr x.nd) w') :
  Zz0 Tryz.prog Zz2 #[.slice p l c, .func (.func 41) #[] #[]] w [.one .bool] J:=by
 refine Zxv ?_
 refine ZxX ?_
 show YdR (fun cs w' K => Zz0 Tryz.prog YbG #[.agg ⟨cs⟩] w' [.one .bool] K) p l w _
 refine Yax (q:=fun x => Ycr x.nd) h hm (fun x hx w' K' hc k => ?_) fun r w' hc hr => by rw [YfN hr]; exact K w' hc
 obtain ⟨hok, hmx⟩:=hk x hx
 exact Great_ok (hok.chg0 hc) hmx fun w'' c2 => k w'' (hc.trans0 c2)
theorem AnyNode_mis {p : Option Addr} {l c : Nat} {L : List NV} {J : Bool -> World -> Prop} (T : TT w) (h : Sl w p l 6 (rows NV.cells L)) (hm : l <= 100000000) (hk : ∀ x ∈ L, x.Ok w /\ x.mea <= 100000000) (K : ∀ w', Chg No w w' -> J (L.any fun x => !nameP x.nd) w') :
  Zz0 Tryz.prog Zz2 #[.slice p l c, .func (.func 42) #[] #[]] w [.one .bool] J:=by
 refine Zxu ?_
 refine ZxW ?_
 show YdR (fun cs w' K => Zz0 Tryz.prog Yai #[.agg ⟨cs⟩] w' [.one .bool] K) p l w _
 refine Yax (q:=fun x => !nameP x.nd) h hm (fun x hx w' K' hc k => ?_) fun r w' hc hr => by rw [YfN hr]; exact K w' hc
 obtain ⟨hok, hmx⟩:=hk x hx
 exact Misnamed_ok (T.chg hc) (hok.chg0 hc) hmx fun w'' c2 => k w'' (hc.trans0 c2)
theorem AnyNode_spo {p : Option Addr} {l c : Nat} {L : List NV} {J : Bool -> World -> Prop} (T : TT w) (h : Sl w p l 6 (rows NV.cells L)) (hm : l <= 100000000) (hk : ∀ x ∈ L, x.Ok w /\ x.mea <= 100000000) (K : ∀ w', Chg No w w' -> J (L.any fun x => !YeW x.nd) w') :
  Zz0 Tryz.prog Zz2 #[.slice p l c, .func (.func 43) #[] #[]] w [.one .bool] J:=by
 refine Zxt ?_
 refine ZxV ?_
 show YdR (fun cs w' K => Zz0 Tryz.prog Yb5 #[.agg ⟨cs⟩] w' [.one .bool] K) p l w _
 refine Yax (q:=fun x => !YeW x.nd) h hm (fun x hx w' K' hc k => ?_) fun r w' hc hr => by rw [YfN hr]; exact K w' hc
 obtain ⟨hok, hmx⟩:=hk x hx
 exact Spoilt_ok (T.chg hc) (hok.chg0 hc) hmx fun w'' c2 => k w'' (hc.trans0 c2)
theorem AnyNode_uno {p : Option Addr} {l c : Nat} {L : List NV} {J : Bool -> World -> Prop} (T : TT w) (h : Sl w p l 6 (rows NV.cells L)) (hm : l <= 100000000) (hk : ∀ x ∈ L, x.Ok w /\ x.mea <= 100000000) (K : ∀ w', Chg No w w' -> J (L.any fun x => !Ygu x.nd) w') :
  Zz0 Tryz.prog Zz2 #[.slice p l c, .func (.func 44) #[] #[]] w [.one .bool] J:=by
 refine Zxs ?_
 refine ZxU ?_
 show YdR (fun cs w' K => Zz0 Tryz.prog ZqK #[.agg ⟨cs⟩] w' [.one .bool] K) p l w _
 refine Yax (q:=fun x => !Ygu x.nd) h hm (fun x hx w' K' hc k => ?_) fun r w' hc hr => by rw [YfN hr]; exact K w' hc
 obtain ⟨hok, hmx⟩:=hk x hx
 exact Unordered_ok (hok.chg0 hc) hmx fun w'' c2 => k w'' (hc.trans0 c2)
theorem AnyNode_wro {p : Option Addr} {l c : Nat} {L : List NV} {J : Bool -> World -> Prop} (T : TT w) (h : Sl w p l 6 (rows NV.cells L)) (hm : l <= 100000000) (hk : ∀ x ∈ L, x.Ok w /\ x.mea <= 100000000) (K : ∀ w', Chg No w w' -> J (L.any fun x => !Yh7 x.nd) w') :
  Zz0 Tryz.prog Zz2 #[.slice p l c, .func (.func 45) #[] #[]] w [.one .bool] J:=by
 refine Zxr ?_
 refine ZxT ?_
 show YdR (fun cs w' K => Zz0 Tryz.prog ZqI #[.agg ⟨cs⟩] w' [.one .bool] K) p l w _
 refine Yax (q:=fun x => !Yh7 x.nd) h hm (fun x hx w' K' hc k => ?_) fun r w' hc hr => by rw [YfN hr]; exact K w' hc
 obtain ⟨hok, hmx⟩:=hk x hx
 exact WrongText_ok (T.chg hc) (hok.chg0 hc) hmx fun w'' c2 => k w'' (hc.trans0 c2)
theorem appN {w0 wa : World} {p : Option Addr} {l c : Nat} {L : List NV} {x : NV} {K : Option Addr -> Nat -> Nat -> World -> Prop} (hr : Row wa Zz5 6 p l c (rows NV.cells L)) (hlm : l + 1 <= 1000000000) (hf : fresh w0 p) (hc : Chg No w0 wa)
  (k : ∀ p' c' w', Row w' Zz5 6 p' (l + 1) c' (rows NV.cells (L ++ [x])) -> fresh w0 p' -> Chg No w0 w' -> Chg (isB p) wa w' -> K p' (l + 1) c' w') :
  newB wa (.cells ⟨x.cells⟩ Zz5) fun b w1 => YeJ Tryz.prog Zyo Zyo (.slice p l c) (.slice (some ⟨b, 0, none⟩) 1 1) w1 K:=by
 refine newRow (sz:=6) (n:=1) (by cases x; rfl) (by decide) fun b w1 hr1 hb hc1 => ?_
 refine YbR slT_node (hr.chg hc1 (off_no _)) hr1.sl (Zqe x) (by simp) (by omega) (by simp only [maxLen]; omega) fun p' c' w' hr' hc' hf' => ?_
 have hc2 : Chg (isB p) wa w':=(hc1.mono fun _ _ h => h.elim).trans hc' fun b hb h => h
 refine k p' c' w' ?_ ?_ (hc.trans hc2 fun b hb ⟨a, ha, e⟩ => by have:=hf a ha; omega) hc2
 ·rw [Zyx, YaB, rows_nil, append_nil]; exact hr'
 ·rcases hf' with rfl | hf'
  ·exact hf
  ·intro a ha; have:=hf' a ha; have:=hc.size; have:=hc1.size; omega
theorem Flat_ok : ∀ (v : NV) {w0 w : World} {p : Option Addr} {l c : Nat} {L : List NV} {J : Option Addr -> Nat -> Nat -> World -> Prop}, v.Ok w0 -> Row w Zz5 6 p l c (rows NV.cells L) -> fresh w0 p -> Chg No w0 w -> l + v.flat.length <= 100000000 ->
  (∀ p' c' w', Row w' Zz5 6 p' (l + v.flat.length) c' (rows NV.cells (L ++ v.flat)) -> fresh w0 p' -> Chg No w0 w' -> J p' (l + v.flat.length) c' w') ->
  Zz0 Tryz.prog Ycs #[.agg ⟨v.cells⟩, .slice p l c] w [.one .slice] J:=by
 intro v
 induction v using NV.ind with
 | h k u lo t ap al ac ats kp kl kc ks ih =>
  intro w0 w p l c L J hv hr hf hc hm K
  cases hv with
  | mk ha hn hac hk hkn hkc hks =>
  have hkl:=hk.row (Zzw ks) (by decide)
  have hfl : (NV.mk k u lo t ap al ac ats kp kl kc ks).flat = NV.mk k u lo t ap al ac ats kp kl kc ks :: NV.flatL ks:=rfl
  rw [hfl, length_cons] at hm
  rw [hfl] at K
  have hkf:=len_flatL ks
  refine c_tree_flat ?_
  refine Zq8 (Hp.start w No) fun b w1 H1 hb hc1 => ?_
  refine YcC H1 0 rfl ?_
  refine ⟨rfl, ?_⟩
  refine appN (w0:=w0) (x := .mk k u lo t ap al ac ats kp kl kc ks) (hr.chg hc1 (off_no _)) (by omega) hf (hc.trans0 hc1) fun p3 c3 w3 hr3 hf3 hc3 hcb => ?_
  have hcell : w3.cell? ⟨b, 4, none⟩ = some (.slice kp kl kc):=hcb.cell (H1.cell 0 rfl rfl) (by
   rintro ⟨a, ha, e⟩
   have:=hr.lt a ha
   simp only at e; omega)
  refine ⟨_, _, _, hcell, ?_⟩
  refine ⟨fun lp ll lc i w' m => ∃ q : Nat, i = q /\ q <= kl /\ m = kl - q /\ ll = l + 1 + (NV.flatL (ks.take q)).length /\ Row w' Zz5 6 lp ll lc (rows NV.cells (L ++ [.mk k u lo t ap al ac ats kp kl kc ks] ++ NV.flatL (ks.take q))) /\ fresh w0 lp /\ Chg No w0 w',
   ⟨_, 0, rfl, Nat.zero_le _, rfl, rfl, by rw [take_zero]; simpa [NV.flatL] using hr3, hf3, hc3⟩, ?_⟩
  rintro lp ll lc i w4 m ⟨q, rfl, hq, rfl, rfl, hr4, hf4, hc4⟩
  refine Zz4 (fun hlt => ?_) (fun hge => ?_)
  ·refine ZzT (hk.chg hc4 (off_no _)) (Zzw ks) (by decide) (by omega) hlt fun a y _ hy hcs => ?_
   rw [Int.toNat_natCast] at hy
   have hymem:=mem_of_getElem? hy
   have ihy := @ih y hymem
   have hyok:=hks y hymem
   have hft:=flatL_take hy
   have hle:=flatL_le ks (q + 1)
   rw [hft, length_append] at hle
   cases y with
   | mk yk yu yl yt yap yal yac yas ykp ykl ykc yks =>
   refine Ydl (Hp.start w4 No) hcs fun b6 w6 H6 _ hc6 => ?_
   refine YcC H6 0 rfl ?_
   refine ihy hyok (hr4.chg hc6 (off_no _)) hf4 (hc4.trans0 hc6) (by omega) fun p7 c7 w7 hr7 hf7 hc7 => ?_
   refine ⟨_, by omega, q + 1, by rw [Zzb] <;> omega, by omega, rfl, ?_, ?_, hf7, hc7⟩
   ·rw [hft, length_append]; omega
   ·rw [hft, <- append_assoc]; exact hr7
  ·have hqk : q = kl:=by omega
   subst hqk
   rw [take_of_length_le (by omega)] at hr4 ⊢
   have e1 : l + 1 + (NV.flatL ks).length = l + (NV.mk k u lo t ap al ac ats kp q kc ks :: NV.flatL ks).length:=by rw [length_cons]; omega
   rw [e1] at hr4 ⊢
   exact K lp lc w4 (by rw [append_assoc] at hr4; exact hr4) hf4 hc4
theorem any_nd (L : List NV) (q : Nd -> Bool) : (L.any fun x => q x.nd) = (L.map NV.nd).any q:=by rw [any_map]; rfl
theorem YfA (L : List NV) (q : Nd -> Bool) : (L.any fun x => !q x.nd) = !(L.map NV.nd).all q:=by rw [any_nd L (fun x => !q x), not_all]
theorem Check_ok {x : NV} {J : Int -> World -> Prop} (T : TT w) (hx : x.Ok w) (hm : x.mea <= 10000000) (K : ∀ w', Chg No w w' -> J (YgA x.nd) w') : Zz0 Tryz.prog Ydu #[.agg ⟨x.cells⟩] w [.one (.int .i64)] J:=by
 have hx0:=hx
 have hfl:=flat_len x
 have hok : ∀ y ∈ x.flat, y.Ok w /\ y.mea <= 100000000:=fun y hy => ⟨flat_mem hy hx, by have:=flat_mea hy; omega⟩
 have hfn:=flat_nd x
 have hkind : x.nd.kind = x.kd:=Yg8 x
 cases hx with
 | @mk k u l t ap al ac ats kp kl kc ks ha hn hac hk hkn hkc hks =>
  have hkl:=hk.row (Zzw ks) (by decide)
  refine c_tree_Check ?_
  refine Zq8 (Hp.start w No) fun b w1 H1 hb hc1 => ?_
  refine YcC H1 0 rfl ?_
  refine Flat_ok (.mk k u l t ap al ac ats kp kl kc ks) (w0:=w1) (w:=w1) (L:=[]) (hx0.chg0 hc1) (Row.nil _ _ _) (by rintro a ⟨⟩) (Chg.refl _ _) (by omega) fun p2 c2 w2 hr2 hf2 hc2 => ?_
  rw [Nat.zero_add, nil_append] at hr2
  rw [Nat.zero_add]
  generalize hL : (NV.mk k u l t ap al ac ats kp kl kc ks).flat = L at *
  have c02:=hc1.trans0 hc2
  have H2:=H1.step0 hc2
  have hokc : ∀ {wx : World}, Chg No w wx -> ∀ y ∈ L, y.Ok wx /\ y.mea <= 100000000:=fun hcx y hy => ⟨(hok y hy).1.chg0 hcx, (hok y hy).2⟩
  have hLl : L.length <= 10000000:=by omega
  generalize hd : (NV.mk k u l t ap al ac ats kp kl kc ks).nd = d at *
  have hdl : d.flat.length = L.length:=by rw [<- hfn, length_map]
  have hkd : d.kind = k:=by rw [hkind]; rfl
  have hdk : d.kids = ks.map NV.nd:=by rw [<- hd, Ydm]; rfl
  unfold YgA at K
  refine Zz7 fun J9 hJ9 => ?_
  have k9 : ∀ (bb : Bool) (w3 : World), (bb = true ↔ ¬ d.kind = 1 \/ d.flat.all YaP = false) -> Chg No w2 w3 -> J9 bb w3:=by
   intro bb w3 hbb hc3; subst hJ9
   have c03:=c02.trans0 hc3
   refine Yan hbb (fun h => ?_) (fun h => ?_)
   ·rw [if_pos h] at K; exact K w3 c03
   rw [if_neg h] at K
   have hall : d.flat.all YaP = true:=by
    cases hh : d.flat.all YaP with
    | true => rfl
    | false => exact absurd (.inr hh) h
   have H3:=H2.step0 hc3
   refine YcC H3 0 rfl ?_
   refine Deep_ok (.mk k u l t ap al ac ats kp kl kc ks) (hx0.chg0 c03) (by omega) (by decide) (by decide) fun w4 hc4 => ?_
   have c04:=c03.trans0 hc4
   have H4:=H3.step0 hc4
   rw [hd]
   refine Zz9 (fun h => ?_) (fun h => ?_)
   ·rw [if_pos h] at K; exact K w4 c04
   rw [if_neg (by rw [h]; decide)] at K
   have hr4:=(hr2.chg hc3 (off_no _)).chg hc4 (off_no _)
   refine Zz7 fun J20 hJ20 => ?_
   have k20 : ∀ (bb : Bool) (w5 : World), (bb = true ↔ 2001 < d.flat.length \/ d.flat.any Ycr = true) -> Chg No w4 w5 -> J20 bb w5:=by
    intro bb w5 hbb hc5; subst hJ20
    have c05:=c04.trans0 hc5
    refine Yan hbb (fun h => ?_) (fun h => ?_)
    ·rw [if_pos h] at K; exact K w5 c05
    rw [if_neg h] at K
    have hr5:=hr4.chg hc5 (off_no _)
    refine AnyNode_mis (T.chg c05) hr5.sl (by omega) (hokc c05) fun w6 hc6 => ?_
    have c06:=c05.trans0 hc6
    have hr6:=hr5.chg hc6 (off_no _)
    have hname : (L.any fun x => !nameP x.nd) = !d.flat.all Yhu:=by
     rw [YfA, hfn]
     congr 1
     rw [Bool.eq_iff_iff, all_eq_true, all_eq_true]
     exact ⟨fun h y hy => by rw [<- name_eq (all_eq_true.1 hall y hy)]; exact h y hy, fun h y hy => by rw [name_eq (all_eq_true.1 hall y hy)]; exact h y hy⟩
    rw [hname]
    refine Zzm (fun h => ?_) (fun h => ?_)
    ·rw [if_pos h] at K; exact K w6 c06
    rw [if_neg (by rw [h]; decide)] at K
    refine AnyNode_spo (T.chg c06) hr6.sl (by omega) (hokc c06) fun w7 hc7 => ?_
    have c07:=c06.trans0 hc7
    have hr7:=hr6.chg hc7 (off_no _)
    rw [YfA, hfn]
    refine Zzm (fun h => ?_) (fun h => ?_)
    ·rw [if_pos h] at K; exact K w7 c07
    rw [if_neg (by rw [h]; decide)] at K
    refine AnyNode_uno (T.chg c07) hr7.sl (by omega) (hokc c07) fun w8 hc8 => ?_
    have c08:=c07.trans0 hc8
    have hr8:=hr7.chg hc8 (off_no _)
    rw [YfA, hfn]
    refine Zzm (fun h => ?_) (fun h => ?_)
    ·rw [if_pos h] at K; exact K w8 c08
    rw [if_neg (by rw [h]; decide)] at K
    refine AnyNode_wro (T.chg c08) hr8.sl (by omega) (hokc c08) fun w9 hc9 => ?_
    have c09:=c08.trans0 hc9
    rw [YfA, hfn]
    refine Zzm (fun h => ?_) (fun h => ?_)
    ·rw [if_pos h] at K; exact K w9 c09
    rw [if_neg (by rw [h]; decide)] at K
    have H9 : Hp w No w9 [⟨b, [.int .i64 k, .string u, .string l, .slice ap al ac, .slice kp kl kc, .string t], Zz5⟩]:=((((H4.step0 hc5).step0 hc6).step0 hc7).step0 hc8).step0 hc9
    refine H9.ldS 0 rfl (off:=4) rfl ?_
    have hkm:=YbC ks
    have hmm : kl <= 10000000:=by simp only [NV.mea] at hm; omega
    refine ⟨fun e i w' m => ∃ q : Nat, i = q /\ q <= kl /\ m = kl - q /\ Chg No w w' /\ e = (((ks.take q).countP fun y => decide (y.kd = 2) : Nat) : Int), ⟨_, 0, rfl, Nat.zero_le _, rfl, c09, rfl⟩, ?_⟩
    rintro e i w10 m ⟨q, rfl, hq, rfl, hc10, rfl⟩
    have hcl:=countP_le_length (p:=fun y : NV => decide (y.kd = 2)) (l:=ks.take q)
    rw [length_take] at hcl
    refine Zz4 (fun hlt => ?_) (fun hge => ?_)
    ·refine Zz7 fun J4 hJ4 => ?_
     have k4 : ∀ (e : Int) (w11 : World), e = (((ks.take (q + 1)).countP fun y => decide (y.kd = 2) : Nat) : Int) -> Chg No w w11 -> J4 e w11:=by
      intro e w11 he c11; subst hJ4
      exact ⟨_, by omega, q + 1, by rw [Zzb] <;> omega, by omega, rfl, c11, he⟩
     clear hJ4
     refine ZzT (hk.chg hc10 (off_no _)) (Zzw ks) (by decide) (by omega) hlt fun a y _ hy hcs => ?_
     rw [Int.toNat_natCast] at hy
     have hct:=countP_take (p:=fun y : NV => decide (y.kd = 2)) hy
     cases y with
     | mk yk yu yl yt yap yal yac yas ykp ykl ykc yks =>
     refine Ydl (Hp.start w10 No) hcs fun b6 w13 H13 _ hc13 => ?_
     refine H13.ldI 0 rfl (off:=0) rfl ?_
     refine Zzd (fun h2 => ?_) (fun h2 => ?_)
     ·refine k4 _ _ ?_ (hc10.trans0 hc13)
      rw [hct, if_pos (show decide ((NV.mk yk yu yl yt yap yal yac yas ykp ykl ykc yks).kd = 2) = true from decide_eq_true h2), Zzb (by omega) (by omega)]; omega
     ·refine k4 _ _ ?_ (hc10.trans0 hc13)
      rw [hct, if_neg (by rw [decide_eq_false (show ¬ (NV.mk yk yu yl yt yap yal yac yas ykp ykl ykc yks).kd = 2 from h2)]; decide)]; rfl
    ·have hroots : Yhj d = (ks.take q).countP fun y => decide (y.kd = 2):=by
      unfold Yhj
      rw [hdk, countP_map, take_of_length_le (by omega)]
      congr 1
      funext y
      show decide (y.nd.kind = 2) = _
      rw [Yg8]
     rw [hroots] at K
     refine Zzi (fun h => ?_) (fun h => ?_)
     ·rw [if_pos (by omega)] at K; exact K w10 hc10
     ·rw [if_neg (by omega)] at K; exact K w10 hc10
   clear hJ20
   rw [Zzb (by omega) (by omega)]
   refine Zz4 (fun h => k20 _ _ (bT (.inl (by omega))) (Chg.refl _ _)) (fun h => ?_)
   refine AnyNode_great (T.chg c04) hr4.sl (by omega) (hokc c04) fun w14 hc14 => ?_
   refine k20 _ _ ?_ hc14
   rw [any_nd, hfn]
   exact ⟨fun hh => .inr hh, fun hh => hh.resolve_left (by omega)⟩
  clear hJ9
  refine H2.ldI 0 rfl (off:=0) rfl ?_
  refine Zzi (fun h => k9 _ _ (bT (.inl (by rw [hkd]; exact h))) (Chg.refl _ _)) (fun h => ?_)
  refine AnyNode_odd (T.chg c02) hr2.sl (by omega) (hokc c02) fun w15 hc15 => ?_
  refine k9 _ _ ?_ hc15
  have hk1 : d.kind = 1:=by rw [hkd]; exact h
  rw [any_nd, hfn, odd_all hk1]
  simp [hk1]
theorem Size_ok : ∀ (x : NV) {w : World} {J : Int -> World -> Prop}, x.Ok w -> x.mea <= 100000000 -> (∀ w', Chg No w w' -> J (x.nd.size : Int) w') -> Zz0 Tryz.prog Ycu #[.agg ⟨x.cells⟩] w [.one (.int .i64)] J:=by
 intro x
 induction x using NV.ind with
 | h k u l t ap al ac ats kp kl kc ks ih =>
  intro w J hx hm K
  cases hx with
  | mk ha hn hac hk hkn hkc hks =>
  have hkl:=hk.row (Zzw ks) (by decide)
  have hsm:=size_mea (.mk k u l t ap al ac ats kp kl kc ks)
  rw [Ydm] at K hsm
  simp only [Nd.size] at K hsm
  have hkm : ∀ y ∈ ks, y.mea <= 100000000:=fun y hy => by
   have:=Yf8 hy
   simp only [NV.mea] at hm; omega
  have hlm:=YbC ks
  have hmm : kl <= 100000000:=by simp only [NV.mea] at hm; omega
  refine c_tree_Size ?_
  refine Zq8 (Hp.start w No) fun b w1 H1 hb hc1 => ?_
  refine H1.ldS 0 rfl (off:=4) rfl ?_
  refine ⟨fun s i w' m => ∃ q : Nat, i = q /\ q <= kl /\ m = kl - q /\ Chg No w w' /\ s = ((1 + Nd.sizeL ((ks.map NV.nd).take q) : Nat) : Int), ⟨_, 0, rfl, Nat.zero_le _, rfl, hc1, rfl⟩, ?_⟩
  rintro s i w2 m ⟨q, rfl, hq, rfl, hc2, rfl⟩
  refine Zz4 (fun hlt => ?_) (fun hge => ?_)
  ·refine ZzT (hk.chg hc2 (off_no _)) (Zzw ks) (by decide) (by omega) hlt fun a y _ hy hcs => ?_
   rw [Int.toNat_natCast] at hy
   have hymem:=mem_of_getElem? hy
   have ihy := @ih y hymem
   have hyok:=hks y hymem
   have hym:=hkm y hymem
   have ht : (ks.map NV.nd).take (q + 1) = (ks.map NV.nd).take q ++ [y.nd]:=Yaf (by rw [getElem?_map, hy]; rfl)
   have hs1:=sizeL_take (ks.map NV.nd) (q + 1)
   rw [ht, Ycq] at hs1
   simp only [Nd.sizeL] at hs1
   cases y with
   | mk yk yu yl yt yap yal yac yas ykp ykl ykc yks =>
   refine Ydl (Hp.start w2 No) hcs fun b6 w6 H6 _ hc6 => ?_
   refine YcC H6 0 rfl ?_
   refine ihy ((hyok.chg0 hc2).chg0 hc6) hym fun w7 hc7 => ?_
   refine ⟨_, by omega, q + 1, by rw [Zzb] <;> omega, by omega, rfl, (hc2.trans0 hc6).trans0 hc7, ?_⟩
   rw [ht, Ycq]
   simp only [Nd.sizeL]
   rw [Zzb (by omega) (by omega)]; omega
  ·rw [take_of_length_le (by rw [length_map]; omega)]
   exact K w2 hc2
theorem Depth_ok : ∀ (x : NV) {w : World} {J : Int -> World -> Prop}, x.Ok w -> x.mea <= 100000000 -> (∀ w', Chg No w w' -> J (x.nd.depth : Int) w') -> Zz0 Tryz.prog YbI #[.agg ⟨x.cells⟩] w [.one (.int .i64)] J:=by
 intro x
 induction x using NV.ind with
 | h k u l t ap al ac ats kp kl kc ks ih =>
  intro w J hx hm K
  cases hx with
  | mk ha hn hac hk hkn hkc hks =>
  have hkl:=hk.row (Zzw ks) (by decide)
  have hsm:=size_mea (.mk k u l t ap al ac ats kp kl kc ks)
  have hdm:=depth_le (NV.mk k u l t ap al ac ats kp kl kc ks).nd
  rw [Ydm] at K hsm hdm
  simp only [Nd.depth] at K hdm
  have hkm : ∀ y ∈ ks, y.mea <= 100000000:=fun y hy => by
   have:=Yf8 hy
   simp only [NV.mea] at hm; omega
  have hlm:=YbC ks
  have hmm : kl <= 100000000:=by simp only [NV.mea] at hm; omega
  refine c_tree_Depth ?_
  refine Zq8 (Hp.start w No) fun b w1 H1 hb hc1 => ?_
  refine H1.ldS 0 rfl (off:=4) rfl ?_
  refine ⟨fun s i w' m => ∃ q : Nat, i = q /\ q <= kl /\ m = kl - q /\ Chg No w w' /\ s = ((Nd.depthL ((ks.map NV.nd).take q) : Nat) : Int), ⟨_, 0, rfl, Nat.zero_le _, rfl, hc1, rfl⟩, ?_⟩
  rintro s i w2 m ⟨q, rfl, hq, rfl, hc2, rfl⟩
  have hq1:=depthL_take (ks.map NV.nd) q
  refine Zz4 (fun hlt => ?_) (fun hge => ?_)
  ·refine ZzT (hk.chg hc2 (off_no _)) (Zzw ks) (by decide) (by omega) hlt fun a y _ hy hcs => ?_
   rw [Int.toNat_natCast] at hy
   have hymem:=mem_of_getElem? hy
   have ihy := @ih y hymem
   have hyok:=hks y hymem
   have hym:=hkm y hymem
   have ht : (ks.map NV.nd).take (q + 1) = (ks.map NV.nd).take q ++ [y.nd]:=Yaf (by rw [getElem?_map, hy]; rfl)
   cases y with
   | mk yk yu yl yt yap yal yac yas ykp ykl ykc yks =>
   refine Ydl (Hp.start w2 No) hcs fun b6 w6 H6 _ hc6 => ?_
   refine YcC H6 0 rfl ?_
   refine ihy ((hyok.chg0 hc2).chg0 hc6) hym fun w7 hc7 => ?_
   refine ⟨_, by omega, q + 1, by rw [Zzb] <;> omega, by omega, rfl, (hc2.trans0 hc6).trans0 hc7, ?_⟩
   rw [ht, YdD]
   simp only [Nd.depthL]
   split <;> omega
  ·rw [take_of_length_le (by rw [length_map]; omega)] at hq1 ⊢
   rw [Zzb (by omega) (by omega)]
   exact K w2 hc2
end
end Go.Proofs.YtglnmjflpkeclaaGreatDoor
end
section
namespace Go.Proofs.YtglnmjflpkeclaaGreatDoor
open Go Go.Vc
theorem Ybf {a : Option Addr} {b c : Nat} {w : World} {J : World -> Prop} (h :
 Zz0 Tryz.prog YdZ #[.int .u64 (IntKind.u64.wrap (b : Int))] w [.one (.int .i64)] fun d e =>
 Zz0 Tryz.prog Zy5 #[.slice a b c, .int .i64 0, .int .i64 (b : Int), .int .i64 d] e [] fun f =>
 J f) : Zz0 Tryz.prog Zyy #[.slice a b c] w [] J:=Zz3 Tryz.func86 (.s .o .o) (Eq.mpr (by kernel_rfl) h)
end Go.Proofs.YtglnmjflpkeclaaGreatDoor
end
section
namespace Go.Proofs.YtglnmjflpkeclaaGreatDoor
open Go Go.Vc
theorem Yad {a : Option Addr} {b c : Nat} {d e : Int} {w : World} {J : World -> Prop} (h :
 ∃ y : Int -> World -> Nat -> Prop, (∃ z, y (w64 (d + (1 : Int))) w z) /\ ∀ aa ab z, y aa ab z -> (
 Zz1 (decide (aa < e)) (
 ∃ ac : Int -> World -> Nat -> Prop, (∃ z, ac aa ab z) /\ ∀ ad ae af, ac ad ae af -> (
 Zzf (fun (v : Bool) (x : World) =>
 Zz1 v (
 ZzS a b (w64 (ad - (1 : Int))) fun f =>
 ldStr x.drew ((f.add ((w64 (ad - (1 : Int))).toNat * 1))) fun g =>
 ZzS a b ad fun i =>
 ldStr x.drew ((i.add (ad.toNat * 1))) fun j =>
 ZzS a b ad fun k =>
 stV x.drew ((k.add (ad.toNat * 1))) (.string g) fun l =>
 ZzS a b (w64 (ad - (1 : Int))) fun m =>
 stV l ((m.add ((w64 (ad - (1 : Int))).toNat * 1))) (.string j) fun n =>
 ∃ ag, ag < af /\ ac (w64 (ad - (1 : Int))) n ag) (
 ∃ ag, ag < z /\ y (w64 (aa + (1 : Int))) x ag)) fun o =>
 Zz1 (decide (ad > d)) (
 ZzS a b ad fun p =>
 ldStr ae.drew ((p.add (ad.toNat * 1))) fun q =>
 ZzS a b (w64 (ad - (1 : Int))) fun r =>
 ldStr ae.drew ((r.add ((w64 (ad - (1 : Int))).toNat * 1))) fun s =>
 Zz0 Tryz.prog Ycw #[.string q, .string s] ae.drew [.one .bool] fun t u =>
 o t u) (
 o false ae.drew))) (
 J ab))) : Zz0 Tryz.prog ZyT #[.slice a b c, .int .i64 d, .int .i64 e] w [] J:=Zz3 Tryz.func165 (.s .o (.b (.l [(6, .int .i64)] (.s (.s .o (.c .o .o)) (.s (.b (.s .o (.b (.l [(7, .int .i64)] (.s (.j [(30, .bool)] (.d (.take 0 (.take 1 (.take 2 (.take 3 (.take 4 (.take 5 (.take 6 (.take 7 (.take 8 (.take 9 (.take 10 (.take 11 (.take 12 (.eff 13 (.take 14 .done) .none))))))))))))))) (.c .o .o)) (.s (.b (.d (.take 0 (.take 1 (.take 2 (.take 3 (.take 4 (.take 5 (.take 6 (.take 7 (.take 8 (.take 9 (.take 10 (.take 11 (.take 12 (.take 13 (.take 14 (.eff 15 (.take 16 (.eff 17 .done .none)) .none)))))))))))))))))) .o)))))) .o))))) (Eq.mpr (by kernel_rfl) h)
theorem Ybe {a : Option Addr} {b c : Nat} {d e f : Int} {w : World} {J : World -> Prop} (h :
 ∃ a0 : Int -> Int -> Int -> Bool -> Bool -> World -> Nat -> Prop, (∃ a1, a0 d e f true true w a1) /\ ∀ (d : Int) (e : Int) (f : Int) (ak : Bool) (al : Bool) (am : World) (a1 : Nat), a0 d e f ak al am a1 -> (
 Zz1 (decide ((w64 (e - d)) <= (12 : Int))) (
 Zz0 Tryz.prog ZyT #[.slice a b c, .int .i64 d, .int .i64 e] am [] fun g =>
 J g) (
 Zz1 (f == (0 : Int)) (
 Zz0 Tryz.prog YaQ #[.slice a b c, .int .i64 d, .int .i64 e] am [] fun i =>
 J i) (
 Zzf (fun (an : Int) (ao : World) =>
 Zz0 Tryz.prog Yap #[.slice a b c, .int .i64 d, .int .i64 e] ao [.one (.int .i64), .one (.int .i64)] fun j k l =>
 Zzf (fun (ap : Int) (aq : Int) (ar : World) =>
 Zzf (fun (au : World) =>
 Zzf (fun (av : Bool) (ax : World) =>
 Zz1 av (
 Zz0 Tryz.prog ZqL #[.slice a b c, .int .i64 d, .int .i64 e, .int .i64 ap] ax [.one (.int .i64)] fun m n =>
 ∃ a2, a2 < a1 /\ a0 m e an ak al n a2) (
 Zz0 Tryz.prog YaG #[.slice a b c, .int .i64 d, .int .i64 e, .int .i64 ap] ax [.one (.int .i64), .one .bool] fun o p q =>
 (8 : Int) ≠ 0 /\
 Zz1 (decide ((w64 (o - d)) < (w64 (e - o)))) (
 Zz0 Tryz.prog Zy5 #[.slice a b c, .int .i64 d, .int .i64 o, .int .i64 an] q [] fun r =>
 ∃ a2, a2 < a1 /\ a0 (w64 (o + (1 : Int))) e an (decide ((w64 (o - d)) >= (w64 (Int.tdiv (w64 (e - d)) (8 : Int))))) p r a2) (
 Zz0 Tryz.prog Zy5 #[.slice a b c, .int .i64 (w64 (o + (1 : Int))), .int .i64 e, .int .i64 an] q [] fun s =>
 ∃ a2, a2 < a1 /\ a0 d o an (decide ((w64 (e - o)) >= (w64 (Int.tdiv (w64 (e - d)) (8 : Int))))) p s a2))) fun t =>
 Zz1 (decide (d > (0 : Int))) (
 ZzS a b (w64 (d - (1 : Int))) fun u =>
 ldStr au.drew ((u.add ((w64 (d - (1 : Int))).toNat * 1))) fun v =>
 ZzS a b ap fun x =>
 ldStr au.drew ((x.add (ap.toNat * 1))) fun y =>
 Zz0 Tryz.prog Ycw #[.string v, .string y] au.drew [.one .bool] fun z aa =>
 t (!z) aa) (
 t false au.drew)) fun ab =>
 Zzf (fun (ay : Bool) (az : World) =>
 Zz1 ay (
 Zz0 Tryz.prog Zq4 #[.slice a b c, .int .i64 d, .int .i64 e] az [.one .bool] fun ac ad =>
 Zz1 ac (
 J ad) (
 ab ad)) (
 ab az)) fun ae =>
 Zz1 ak (
 Zz1 al (
 ae (aq == (1 : Int)) ar) (
 ae false ar)) (
 ae false ar)) fun af =>
 Zz1 (k == (2 : Int)) (
 Zz0 Tryz.prog Ya7 #[.slice a b c, .int .i64 d, .int .i64 e] l [] fun ag =>
 af (w64 ((w64 (e - (1 : Int))) - (w64 (j - d)))) (1 : Int) ag) (
 af j k l)) fun ai =>
 Zz1 (!ak) (
 Zz0 Tryz.prog ZqU #[.slice a b c, .int .i64 d, .int .i64 e] am [] fun aj =>
 ai (w64 (f - (1 : Int))) aj) (
 ai f am))))) : Zz0 Tryz.prog Zy5 #[.slice a b c, .int .i64 d, .int .i64 e, .int .i64 f] w [] J:=Zz3 Tryz.func135 (.s .o (.s .o (.b (.l [(1, .int .i64), (2, .int .i64), (3, .int .i64), (8, .bool), (9, .bool)] (.b (.s .o (.s (.s .o (.c (.s .o .o) .o)) (.s (.s .o (.c (.s .o .o) .o)) (.j [(3, .int .i64)] (.s .o (.c (.s .o .o) .o)) (.s .o (.j [(11, .int .i64), (12, .int .i64)] (.s .o (.c (.s .o (.s .o .o)) .o)) (.j [] (.j [(68, .bool)] .o (.c (.s .o (.c .o .o)) .o)) (.s (.j [(87, .bool)] (.d (.take 0 (.take 1 (.take 2 (.take 3 (.take 4 (.take 5 (.take 6 (.take 7 (.take 8 (.take 9 (.take 10 (.take 11 (.eff 12 (.take 13 (.take 14 .done)) .none)))))))))))))) (.c (.s .o (.s .o .o)) .o)) (.s .o (.s .o (.s .o (.s .o (.s .o (.c (.s .o (.s .o .o)) (.s .o (.s .o .o))))))))))))))))))))) (Eq.mpr (by kernel_rfl) h)
theorem Yi0 {a : Int} {w : World} {J : Int -> World -> Prop} (h :
 Zz0 Tryz.prog Ycv #[.int .u64 a] w [.one (.int .i64)] fun b c =>
 J b c) : Zz0 Tryz.prog YdZ #[.int .u64 a] w [.one (.int .i64)] J:=Zz3 Tryz.func136 (.s .o (.s (.c .u .o) (.s .o .o))) (Eq.mpr (by kernel_rfl) h)
theorem Ygi {a : Int} {w : World} {J : Int -> World -> Prop} (h :
 Zzf (fun (a : Int) (f : Int) (g : World) =>
 Zzf (fun (i : Int) (j : Int) (k : World) =>
 Zzf (fun (l : Int) (m : Int) (n : World) =>
 Zy6 ⟨#[0, 1, 2, 2, 3, 3, 3, 3, 4, 4, 4, 4, 4, 4, 4, 4, 5, 5, 5, 5, 5, 5, 5, 5, 5, 5, 5, 5, 5, 5, 5, 5, 6, 6, 6, 6, 6, 6, 6, 6, 6, 6, 6, 6, 6, 6, 6, 6, 6, 6, 6, 6, 6, 6, 6, 6, 6, 6, 6, 6, 6, 6, 6, 6, 7, 7, 7, 7, 7, 7, 7, 7, 7, 7, 7, 7, 7, 7, 7, 7, 7, 7, 7, 7, 7, 7, 7, 7, 7, 7, 7, 7, 7, 7, 7, 7, 7, 7, 7, 7, 7, 7, 7, 7, 7, 7, 7, 7, 7, 7, 7, 7, 7, 7, 7, 7, 7, 7, 7, 7, 7, 7, 7, 7, 7, 7, 7, 7, 8, 8, 8, 8, 8, 8, 8, 8, 8, 8, 8, 8, 8, 8, 8, 8, 8, 8, 8, 8, 8, 8, 8, 8, 8, 8, 8, 8, 8, 8, 8, 8, 8, 8, 8, 8, 8, 8, 8, 8, 8, 8, 8, 8, 8, 8, 8, 8, 8, 8, 8, 8, 8, 8, 8, 8, 8, 8, 8, 8, 8, 8, 8, 8, 8, 8, 8, 8, 8, 8, 8, 8, 8, 8, 8, 8, 8, 8, 8, 8, 8, 8, 8, 8, 8, 8, 8, 8, 8, 8, 8, 8, 8, 8, 8, 8, 8, 8, 8, 8, 8, 8, 8, 8, 8, 8, 8, 8, 8, 8, 8, 8, 8, 8, 8, 8, 8, 8, 8, 8, 8, 8, 8, 8, 8, 8, 8, 8]⟩ (IntKind.u8.wrap l) fun b =>
 J (w64 (m + (w64 b))) n) fun c =>
 Zz1 (decide (i >= (256 : Int))) (
 0 <= (8 : Int) /\
 c (Ya3 .u64 i (8 : Int)) (w64 (j + (8 : Int))) k) (
 c i j k)) fun d =>
 Zz1 (decide (a >= (65536 : Int))) (
 0 <= (16 : Int) /\
 d (Ya3 .u64 a (16 : Int)) (w64 (f + (16 : Int))) g) (
 d a f g)) fun e =>
 Zz1 (decide (a >= (4294967296 : Int))) (
 0 <= (32 : Int) /\
 e (Ya3 .u64 a (32 : Int)) (32 : Int) w) (
 e a (0 : Int) w)) : Zz0 Tryz.prog Ycv #[.int .u64 a] w [.one (.int .i64)] J:=Zz3 Tryz.func175 (.s .o (.j [(0, .int .u64), (2, .int .i64)] (.s .o (.c (.s .o .o) .o)) (.j [(0, .int .u64), (2, .int .i64)] (.s .o (.c (.s .o .o) .o)) (.j [(0, .int .u64), (2, .int .i64)] (.s .o (.c (.s .o .o) .o)) (.s .o .o))))) (Eq.mpr (by kernel_rfl) h)
end Go.Proofs.YtglnmjflpkeclaaGreatDoor
end
section
namespace Go.Proofs
open Go.Shelf
def Tryz.lays190_ren : Go.Shelf.Ren:=⟨fun | 190 => 86 | 125 => 136 | 258 => 135 | 128 => 174 | 129 => 175 | 302 => 165 | 303 => 166 | 304 => 167 | 305 => 168 | 306 => 169 | 307 => 170 | 308 => 171 | 309 => 172 | 310 => 173 | 333 => 193 | 329 => 194 | 330 => 195 | 334 => 196 | 335 => 197 | 336 => 159 | 344 => 210 | n => n, fun | 31 => 60 | 9 => 9 | 3 => 3 | 46 => 171 | 0 => 0 | 51 => 175 | 53 => 228 | 4 => 4 | 183 => 221 | 182 => 220 | 131 => 189 | 5 => 5 | 218 => 241 | 222 => 245 | 228 => 265 | 229 => 77 | n => n, fun | n => n⟩
theorem Tryz.lays190 : Go.Proofs.Lays.n190 Tryz.prog Tryz.lays190_ren where
 mixed:=by kernel_rfl
 f125:=by kernel_rfl
 f128:=by kernel_rfl
 f129:=by kernel_rfl
 f190:=by kernel_rfl
 f258:=by kernel_rfl
 f302:=by kernel_rfl
 f303:=by kernel_rfl
 f304:=by kernel_rfl
 f305:=by kernel_rfl
 f306:=by kernel_rfl
 f307:=by kernel_rfl
 f308:=by kernel_rfl
 f309:=by kernel_rfl
 f310:=by kernel_rfl
 f329:=by kernel_rfl
 f330:=by kernel_rfl
 f333:=by kernel_rfl
 f334:=by kernel_rfl
 f335:=by kernel_rfl
 f336:=by kernel_rfl
 f344:=by kernel_rfl
 t0:=by kernel_rfl
 a0:=fun w => by kernel_rfl
 z0:=fun w => by kernel_rfl
 v0:=fun w => by kernel_rfl
 t3:=by kernel_rfl
 a3:=fun w => by kernel_rfl
 z3:=fun w => by kernel_rfl
 v3:=fun w => by kernel_rfl
 t4:=by kernel_rfl
 a4:=fun w => by kernel_rfl
 z4:=fun w => by kernel_rfl
 v4:=fun w => by kernel_rfl
 t5:=by kernel_rfl
 a5:=fun w => by kernel_rfl
 z5:=fun w => by kernel_rfl
 v5:=fun w => by kernel_rfl
 t9:=by kernel_rfl
 a9:=fun w => by kernel_rfl
 z9:=fun w => by kernel_rfl
 v9:=fun w => by kernel_rfl
 t31:=by kernel_rfl
 a31:=fun w => by kernel_rfl
 z31:=fun w => by kernel_rfl
 v31:=fun w => by kernel_rfl
 t46:=by kernel_rfl
 a46:=fun w => by kernel_rfl
 z46:=fun w => by kernel_rfl
 v46:=fun w => by kernel_rfl
 t51:=by kernel_rfl
 a51:=fun w => by kernel_rfl
 z51:=fun w => by kernel_rfl
 v51:=fun w => by kernel_rfl
 t53:=by kernel_rfl
 a53:=fun w => by kernel_rfl
 z53:=fun w => by kernel_rfl
 v53:=fun w => by kernel_rfl
 t131:=by kernel_rfl
 a131:=fun w => by kernel_rfl
 z131:=fun w => by kernel_rfl
 v131:=fun w => by kernel_rfl
 t182:=by kernel_rfl
 a182:=fun w => by kernel_rfl
 z182:=fun w => by kernel_rfl
 v182:=fun w => by kernel_rfl
 t183:=by kernel_rfl
 a183:=fun w => by kernel_rfl
 z183:=fun w => by kernel_rfl
 v183:=fun w => by kernel_rfl
 t218:=by kernel_rfl
 a218:=fun w => by kernel_rfl
 z218:=fun w => by kernel_rfl
 v218:=fun w => by kernel_rfl
 t222:=by kernel_rfl
 a222:=fun w => by kernel_rfl
 z222:=fun w => by kernel_rfl
 v222:=fun w => by kernel_rfl
 t228:=by kernel_rfl
 a228:=fun w => by kernel_rfl
 z228:=fun w => by kernel_rfl
 v228:=fun w => by kernel_rfl
 t229:=by kernel_rfl
 a229:=fun w => by kernel_rfl
 z229:=fun w => by kernel_rfl
 v229:=fun w => by kernel_rfl
end Go.Proofs
namespace Go.Vc
open Go Go.Lib
def SAsc (X : List ByteArray) : Prop:=X.Pairwise fun a b => sLt a b = true
theorem sasc_uniq : ∀ {X Y : List ByteArray}, SAsc X -> SAsc Y -> (∀ s, s ∈ X ↔ s ∈ Y) -> X = Y
 | [], [], _, _, _ => rfl
 | [], y :: Y, _, _, h => by have:=(h y).2 (by simp); simp at this
 | x :: X, [], _, _, h => by have:=(h x).1 (by simp); simp at this
 | x :: X, y :: Y, hx, hy, h => by
  have h1:=pairwise_cons.1 hx
  have h2:=pairwise_cons.1 hy
  have e : x = y:=by
   rcases mem_cons.1 ((h x).1 (by simp)) with e | m1
   ·exact e
   ·rcases mem_cons.1 ((h y).2 (by simp)) with e | m2
    ·exact e.symm
    ·have a1:=h2.1 x m1
     have a2:=h1.1 y m2
     rw [sLt_asym a1] at a2; cases a2
  subst e
  rw [sasc_uniq h1.2 h2.2 fun s => ?_]
  constructor
  ·intro hs
   rcases mem_cons.1 ((h s).1 (by simp [hs])) with e | m
   ·subst e; have:=h1.1 s hs; rw [Ybj] at this; cases this
   ·exact m
  ·intro hs
   rcases mem_cons.1 ((h s).2 (by simp [hs])) with e | m
   ·subst e; have:=h2.1 s hs; rw [Ybj] at this; cases this
   ·exact m
theorem YgY (xs : List ByteArray) : (xs.map bl).map Go.Proofs.encStr = strs xs:=by
 unfold strs
 rw [map_map]
 refine map_congr_left fun x _ => ?_
 exact congrArg Value.string (Ybv x)
theorem sort_strs (xs : List ByteArray) : ∃ ys : List ByteArray, ((xs.map bl).mergeSort fun x y => decide (x <= y)) = ys.map bl /\ ys.Perm xs /\ ys.Pairwise fun a b => sLt b a = false:=by
  have hp:=List.mergeSort_perm (xs.map bl) fun x y => decide (x <= y)
  have hs:=List.pairwise_mergeSort (le:=fun x y : List UInt8 => decide (x <= y)) (fun a b c h k => by simp only [decide_eq_true_eq] at *; exact List.le_trans h k) (fun a b => by simp only [Bool.or_eq_true, decide_eq_true_eq]; exact List.le_total a b) (xs.map bl)
  refine ⟨((xs.map bl).mergeSort fun x y => decide (x <= y)).map mkB, ?_, ?_, ?_⟩
  · rw [List.map_map]
    conv => lhs; rw [<- List.map_id ((xs.map bl).mergeSort fun x y => decide (x <= y))]
    refine List.map_congr_left fun x _ => ?_
    exact (ZzH x).symm
  · have:=hp.map mkB
    rw [List.map_map] at this
    refine this.trans ?_
    have e : xs.map (mkB ∘ bl) = xs:=by
      conv => rhs; rw [<- List.map_id xs]
      exact List.map_congr_left fun x _ => Ybv x
    rw [e]
  · refine List.Pairwise.map _ (fun a b hab => ?_) hs
    unfold sLt
    rw [Ya1, Ya1, ZzH, ZzH, Go.Proofs.bytesLess_eq]
    simp only [decide_eq_true_eq] at hab
    exact decide_eq_false (List.not_lt.2 hab)
end Go.Vc
namespace Go.Proofs.YtglnmjflpkeclaaGreatDoor
open Go Go.Vc Go.Lib
section
variable {w : World}
theorem SortS_ok {p : Option Addr} {l c : Nat} {xs : List ByteArray} {J : World -> Prop} (h : Row w Zz8 1 p l c (strs xs)) (hm : l <= 1000000000)
  (K : ∀ ys w', ys.Perm xs -> (ys.Pairwise fun a b => sLt b a = false) -> Row w' Zz8 1 p l c (strs ys) -> Chg (isB p) w w' -> J w') :
  Zz0 Tryz.prog Zyy #[.slice p l c] w [] J:=by
 by_cases hl : l = 0
 ·subst hl
  have e : xs = []:=by have:=h.len; rw [ZzK] at this; exact eq_nil_of_length_eq_zero (by omega)
  subst e
  have k:=K [] w (.refl _) List.Pairwise.nil h (Chg.refl _ _)
  refine Ybf ?_
  refine Yi0 ?_
  refine Ygi ?_
  refine Zz7 fun J0 hJ0 => ?_
  refine Zz9 (fun h => absurd h (by decide)) (fun _ => ?_)
  subst hJ0
  refine Zz7 fun J1 hJ1 => ?_
  refine Zz9 (fun h => absurd h (by decide)) (fun _ => ?_)
  subst hJ1
  refine Zz7 fun J2 hJ2 => ?_
  refine Zz9 (fun h => absurd h (by decide)) (fun _ => ?_)
  subst hJ2
  refine ⟨0, by decide +kernel, by kernel_rfl, ?_⟩
  refine Ybe ?_
  refine ⟨fun a b lim _ _ w' _ => a = 0 /\ b = 0 /\ w' = w, ⟨0, rfl, rfl, rfl⟩, ?_⟩
  rintro a b lim _ _ w' t ⟨rfl, rfl, rfl⟩
  refine Zz9 (fun _ => ?_) (fun h => absurd h (by decide))
  refine Yad ?_
  refine ⟨fun i w1 _ => i = 1 /\ w1 = w', ⟨0, by decide, rfl⟩, ?_⟩
  rintro i w1 t1 ⟨rfl, rfl⟩
  refine Zz9 (fun h => absurd h (by decide)) (fun _ => ?_)
  exact k
 ·obtain ⟨b, rest, rfl, hb, h1, h2, h3⟩:=h.some0 hl
  obtain ⟨ys, e1, e2, e3⟩:=sort_strs xs
  have hxl : xs.length = l:=by have:=h.len; rw [ZzK] at this; omega
  have htake : (strs xs ++ rest).take (xs.map bl).length = (xs.map bl).map encStr:=by
   rw [YgY, length_map, take_left' (by rw [ZzK])]
  have hH:=holds_of_block (cur:=⟨strs xs ++ rest⟩) (ss:=xs.map bl) hb htake
  have hc:=Any.slices_Sort_string Tryz.lays190 b 0 c (xs.map bl) w hH (Zy4 hb) (by rw [length_map]; omega)
  rw [length_map, hxl] at hc
  refine Calls.mono hc fun e w' he => ?_
  obtain ⟨rfl, n, os, rfl⟩:=he
  rw [e1]
  refine ⟨rfl, K ys _ e2 e3 ?_ (Chg.of_grown (grownBy_sorted _) (fun z hz => by cases hz; exact ⟨_, rfl, rfl⟩))⟩
  have ho:=ownsRow_sorted (n:=n) (os:=os) (base:=0) (cap:=c) (ss:=xs.map bl) (ts:=ys.map bl) (by rw [length_map, length_map, e2.length_eq]) (Nat.zero_le _) hb (by rw [length_map]; omega) h2 (by simpa using h3)
  obtain ⟨p', c', e4, hr⟩:=Row.of_owns ho
  cases e4
  rw [YgY, length_map, hxl] at hr
  exact hr
end
end Go.Proofs.YtglnmjflpkeclaaGreatDoor
end
section
namespace Go.Proofs
open Go.Shelf
def Tryz.lays194_ren : Go.Shelf.Ren:=⟨fun | 194 => 87 | n => n, fun | 31 => 60 | 9 => 9 | 3 => 3 | 4 => 4 | 0 => 0 | n => n, fun | n => n⟩
theorem Tryz.lays194 : Go.Proofs.Lays.n194 Tryz.prog Tryz.lays194_ren where
 mixed:=by kernel_rfl
 f194:=by kernel_rfl
 t0:=by kernel_rfl
 a0:=fun w => by kernel_rfl
 z0:=fun w => by kernel_rfl
 v0:=fun w => by kernel_rfl
 t3:=by kernel_rfl
 a3:=fun w => by kernel_rfl
 z3:=fun w => by kernel_rfl
 v3:=fun w => by kernel_rfl
 t4:=by kernel_rfl
 a4:=fun w => by kernel_rfl
 z4:=fun w => by kernel_rfl
 v4:=fun w => by kernel_rfl
 t9:=by kernel_rfl
 a9:=fun w => by kernel_rfl
 z9:=fun w => by kernel_rfl
 v9:=fun w => by kernel_rfl
 t31:=by kernel_rfl
 a31:=fun w => by kernel_rfl
 z31:=fun w => by kernel_rfl
 v31:=fun w => by kernel_rfl
end Go.Proofs
namespace Go.Vc
open Go Go.Lib
theorem compact_spec {xs : List ByteArray} (hs : xs.Pairwise fun a b => sLt b a = false) : ∃ Y : List ByteArray, Lib.compact (xs.map bl) = Y.map bl /\ SAsc Y /\ (∀ s, s ∈ Y ↔ s ∈ xs) /\ Y.length <= xs.length:=by
  let g : Nat -> ByteArray:=fun j => xs.getD j ⟨#[]⟩
  have hd : ∀ j, (xs.map bl).toArray[j]! = bl (g j):=by
    intro j
    show _ = bl (xs.getD j ⟨#[]⟩)
    by_cases hj : j < xs.length
    · rw [List.getD_eq_getElem?_getD, List.getElem?_eq_getElem hj]
      simp [hj]
    · rw [List.getD_eq_getElem?_getD, List.getElem?_eq_none (by omega)]
      simp [hj]; rfl
  have hkeep : ∀ j, Lib.keeps (xs.map bl).toArray j = decide (j = 0 \/ g j ≠ g (j - 1)):=by
    intro j
    unfold Lib.keeps
    rw [hd, hd]
    exact decide_eq_decide.2 ⟨fun h => h.imp id fun h e => h (by rw [e]), fun h => h.imp id fun h e => h (Zqt e)⟩
  have hget : ∀ j, j < xs.length -> xs[j]? = some (g j):=fun j hj => by
    show _ = some (xs.getD j ⟨#[]⟩)
    rw [List.getD_eq_getElem?_getD, List.getElem?_eq_getElem hj]; rfl
  have hle : ∀ i j, i < j -> j < xs.length -> sLt (g j) (g i) = false:=by
    intro i j hij hj
    have h1:=List.pairwise_iff_getElem.1 hs i j (by omega) hj hij
    have e1:=hget i (by omega)
    have e2:=hget j hj
    rw [List.getElem?_eq_getElem (by omega)] at e1 e2
    rw [<- Option.some.inj e1, <- Option.some.inj e2]; exact h1
  refine ⟨((List.range xs.length).filter (Lib.keeps (xs.map bl).toArray)).map g, ?_, ?_, ?_, ?_⟩
  · unfold Lib.compact Lib.compactUpTo
    rw [List.map_map, List.length_map]
    apply List.map_congr_left
    intro j _
    exact hd j
  · unfold SAsc
    rw [List.pairwise_map]
    refine List.Pairwise.imp_of_mem ?_ (List.Pairwise.filter _ List.pairwise_lt_range)
    intro i j hi hj hij
    have hj1:=List.mem_filter.1 hj
    have hjn:=List.mem_range.1 hj1.1
    have hk:=hj1.2
    rw [hkeep] at hk
    have hne:=(of_decide_eq_true hk).resolve_left (by omega)
    have h1 : sLt (g (j - 1)) (g j) = true:=by
      rcases Yhf (g (j - 1)) (g j) with h | h | h
      · exact h
      · exact absurd h.symm hne
      · rw [hle (j - 1) j (by omega) hjn] at h; cases h
    rcases Nat.lt_or_ge i (j - 1) with h2 | h2
    · rcases Yhf (g i) (g (j - 1)) with h | h | h
      · exact Yfv h h1
      · rw [h]; exact h1
      · rw [hle i (j - 1) h2 (by omega)] at h; cases h
    · have : i = j - 1:=by omega
      rw [this]; exact h1
  · intro s
    constructor
    · intro h
      obtain ⟨i, hi, rfl⟩:=List.mem_map.1 h
      have:=List.mem_range.1 (List.mem_filter.1 hi).1
      exact List.mem_of_getElem? (hget i this)
    · intro h
      obtain ⟨j, hj⟩:=List.mem_iff_getElem?.1 h
      have hjn:=(List.getElem?_eq_some_iff.1 hj).1
      rw [hget j hjn] at hj
      obtain rfl:=Option.some.inj hj
      have key : ∀ j, j < xs.length -> ∃ i, i < xs.length /\ Lib.keeps (xs.map bl).toArray i = true /\ g i = g j:=by
        intro j
        induction j with
        | zero => intro h; exact ⟨0, h, by rw [hkeep]; simp, rfl⟩
        | succ j ih =>
          intro h
          by_cases he : g (j + 1) = g j
          · obtain ⟨i, h1, h2, h3⟩:=ih (by omega)
            exact ⟨i, h1, h2, by rw [h3, he]⟩
          · exact ⟨j + 1, h, by rw [hkeep]; simp [he], rfl⟩
      obtain ⟨i, h1, h2, h3⟩:=key j hjn
      exact List.mem_map.2 ⟨i, List.mem_filter.2 ⟨List.mem_range.2 h1, h2⟩, h3⟩
  · rw [List.length_map]
    have:=List.length_filter_le (Lib.keeps (xs.map bl).toArray) (List.range xs.length)
    rw [List.length_range] at this; exact this
def neB (u : ByteArray) : List ByteArray:=if u = ZzN then [] else [u]
mutual
def Nd.spc : Nd -> List ByteArray
 | .mk _ u _ _ ats ks => neB u ++ ats.flatMap (fun a => neB a.1) ++ Nd.spcL ks
def Nd.spcL : List Nd -> List ByteArray
 | [] => []
 | x :: r => x.spc ++ Nd.spcL r
end
theorem Yf1 : ∀ a b : List Nd, Nd.spcL (a ++ b) = Nd.spcL a ++ Nd.spcL b
 | [], _ => rfl
 | x :: r, b => by simp [Nd.spcL, Yf1 r b]
theorem neB_len (u : ByteArray) : (neB u).length <= 1:=by unfold neB; split <;> simp
theorem attrs_len : ∀ ats : List At, (ats.flatMap fun a => neB a.1).length <= (ats.map ZxI).sum
 | [] => by simp
 | a :: r => by
  have:=attrs_len r; have:=neB_len a.1
  rw [flatMap_cons, length_append, map_cons, sum_cons]
  unfold ZxI at *; omega
mutual
theorem spc_len : ∀ v : NV, v.nd.spc.length <= v.mea
 | .mk k u l t ap al ac ats kp kl kc ks => by
  have:=spcL_len ks; have:=neB_len u; have:=attrs_len ats
  simp only [NV.nd, Nd.spc, NV.mea, length_append]; omega
theorem spcL_len : ∀ ks : List NV, (Nd.spcL (NV.ndL ks)).length <= NV.meaL ks
 | [] => Nat.le_refl _
 | x :: r => by
  have:=spc_len x; have:=spcL_len r
  simp only [NV.ndL, Nd.spcL, NV.meaL, length_append]; omega
end
theorem Sl.pre {w : World} {p : Option Addr} {l m sz : Nat} {xs ys : List Value} (h : Sl w p l sz (xs ++ ys)) (hx : xs.length = m * sz) (hs : 0 < sz) : Sl w p m sz xs:=by
 refine ⟨hx, ?_⟩
 rcases h.2 with h0 | ⟨a, ha, hc⟩
 ·have:=h.1
  rw [h0, length_append] at this
  left
  have h3 : m * sz = 0:=by omega
  rcases Nat.mul_eq_zero.1 h3 with h4 | h4 <;> omega
 ·refine .inr ⟨a, ha, ?_⟩
  have:=ZyZ xs.length hc
  rwa [take_left' rfl] at this
end Go.Vc
namespace Go.Proofs.YtglnmjflpkeclaaGreatDoor
open Go Go.Vc Go.Lib Go.Sort
section
variable {w : World}
theorem Row.shrinkJ {w : World} {e : TypeId} {sz l l' c : Nat} {p : Option Addr} {A Z : List Value} (h : Row w e sz p l c (A ++ Z)) (hA : A.length = l' * sz) (hl : l' <= l) (h0 : l ≠ 0) : Row w e sz p l' c A:=by
 obtain ⟨b, rest, hp, hh, hlc, hcm, hcs⟩:=h.some0 h0
 exact ⟨hA, .inr ⟨b, Z ++ rest, hp, by rw [hh, append_assoc], by omega, hcm, by rw [<- append_assoc]; exact hcs⟩⟩
theorem Compact_row {p : Option Addr} {l c : Nat} {xs : List ByteArray} {J : Option Addr -> Nat -> Nat -> World -> Prop} (h : Row w Zz8 1 p l c (strs xs)) (hs : xs.Pairwise fun a b => sLt b a = false) (hm : l <= 1000000000)
  (K : ∀ (Y : List ByteArray) (c' : Nat) w', SAsc Y -> (∀ s, s ∈ Y ↔ s ∈ xs) -> Row w' Zz8 1 p Y.length c (strs Y) -> Y.length <= l -> c' = c -> Chg (isB p) w w' -> J p Y.length c' w') :
  Zz0 Tryz.prog Zxg #[.slice p l c] w [.one .slice] J:=by
 have hxl : xs.length = l:=by have:=h.len; rw [ZzK] at this; omega
 by_cases hl : l = 0
 ·subst hl
  have hx : xs = []:=eq_nil_of_length_eq_zero hxl
  subst hx
  refine Calls.mono (Any.slices_Compact_string_empty Tryz.lays194 p c w) fun e w' he => ?_
  obtain ⟨rfl, rfl⟩:=he
  exact ⟨_, _, _, rfl, K [] c w' List.Pairwise.nil (fun s => Iff.rfl) h (Nat.le_refl _) rfl (Chg.refl _ _)⟩
 ·obtain ⟨b, rest, rfl, hb, h1, h2, h3⟩:=h.some0 hl
  have htake : (strs xs ++ rest).take (xs.map bl).length = (xs.map bl).map encStr:=by
   rw [YgY, length_map, take_left' (by rw [ZzK])]
  have hH:=holds_of_block (cur:=⟨strs xs ++ rest⟩) (ss:=xs.map bl) hb htake
  have hc:=Any.slices_Compact_string Tryz.lays194 b 0 c (xs.map bl) w hH (by rw [length_map]; omega) (by rw [length_map]; omega)
  obtain ⟨Y, hY, hasc, hmem, hlen⟩:=compact_spec hs
  rw [hY] at hc
  simp only [length_map] at hc
  rw [hxl] at hc hlen
  refine Calls.mono hc fun e w' he => ?_
  obtain ⟨rfl, q, rfl⟩:=he
  have hlt : (Y.map bl ++ replicate (l - Y.length) []).length = (xs.map bl).length:=by rw [length_append, length_map, length_replicate, length_map]; omega
  have ho:=ownsRow_sorted (n:=q) (os := #[]) (base:=0) (cap:=c) (ss:=xs.map bl) (ts:=Y.map bl ++ replicate (l - Y.length) []) hlt (Nat.zero_le _) hb (by rw [length_map]; omega) h2 (by simpa using h3)
  rw [grow_empty] at ho
  have hg:=grownBy_sorted (w:=w) (g:=b) (n:=q) (os := #[]) (Y.map bl ++ replicate (l - Y.length) []).toArray
  rw [grow_empty] at hg
  obtain ⟨p', c', e4, hr⟩:=Row.of_owns ho
  cases e4
  rw [map_append, YgY] at hr
  refine ⟨_, _, _, rfl, K Y c _ hasc hmem (Row.shrinkJ hr (by rw [ZzK]; omega) (by rw [length_map]; omega) (by rw [length_map]; omega)) hlen rfl (Chg.of_grown hg fun z hz => by cases hz; exact ⟨_, rfl, rfl⟩)⟩
theorem appS1 {w0 wa : World} {p : Option Addr} {l c : Nat} {L : List ByteArray} {s : ByteArray} {K : Option Addr -> Nat -> Nat -> World -> Prop} (hr : Row wa Zz8 1 p l c (strs L)) (hlm : l + 1 <= 1000000000) (hf : fresh w0 p) (hc : Chg No w0 wa)
  (k : ∀ p' c' w', Row w' Zz8 1 p' (l + 1) c' (strs (L ++ [s])) -> fresh w0 p' -> Chg No w0 w' -> Chg (isB p) wa w' -> K p' (l + 1) c' w') :
  newB wa (.cells ⟨[.string s]⟩ Zz8) fun b w1 => YeJ Tryz.prog Zyn Zyn (.slice p l c) (.slice (some ⟨b, 0, none⟩) 1 1) w1 K:=by
 refine newRow (sz:=1) (n:=1) rfl (by decide) fun b w1 hr1 hb hc1 => ?_
 refine YbR YcX (hr.chg hc1 (off_no _)) hr1.sl (Ya5 rfl YeB) (by simp) (by omega) (by simp only [maxLen]; omega) fun p' c' w' hr' hc' hf' => ?_
 have hc2 : Chg (isB p) wa w':=(hc1.mono fun _ _ h => h.elim).trans hc' fun b hb h => h
 refine k p' c' w' ?_ ?_ (hc.trans hc2 fun b hb ⟨a, ha, e⟩ => by have:=hf a ha; omega) hc2
 ·unfold strs at hr' ⊢; rw [map_append]; exact hr'
 ·rcases hf' with rfl | hf'
  ·exact hf
  ·intro a ha; have:=hf' a ha; have:=hc.size; have:=hc1.size; omega
theorem Yh2 : Zy2 Tryz.prog ZzO = ⟨[.string ByteArray.empty, .string ByteArray.empty, .string ByteArray.empty]⟩:=by kernel_rfl
theorem SpacesIn_ok : ∀ (v : NV) {w0 w : World} {p : Option Addr} {l c : Nat} {L : List ByteArray} {J : Option Addr -> Nat -> Nat -> World -> Prop}, v.Ok w0 -> v.mea <= 100000000 -> Row w Zz8 1 p l c (strs L) -> fresh w0 p -> Chg No w0 w -> l + v.nd.spc.length <= 100000000 ->
  (∀ p' c' w', Row w' Zz8 1 p' (l + v.nd.spc.length) c' (strs (L ++ v.nd.spc)) -> fresh w0 p' -> Chg No w0 w' -> J p' (l + v.nd.spc.length) c' w') ->
  Zz0 Tryz.prog Yb6 #[.agg ⟨v.cells⟩, .slice p l c] w [.one .slice] J:=by
 intro v
 induction v using NV.ind with
 | h k u lo t ap al ac ats kp kl kc ks ih =>
  intro w0 w p l c L J hv hme hr hf hc hm K
  cases hv with
  | mk ha hn hac hk hkn hkc hks =>
  have hkl:=hk.row (Zzw ks) (by decide)
  have hal:=ha.row (YaJ ats) (by decide)
  have hlm:=YbC ks
  have hla:=YbZ ats
  have hkm : ∀ y ∈ ks, y.mea <= 100000000:=fun y hy => by
   have:=Yf8 hy
   simp only [NV.mea] at hme; omega
  have hbd : kl <= 100000000 /\ al <= 100000000:=by simp only [NV.mea] at hme; omega
  rw [Ydm] at K hm
  simp only [Nd.spc] at K hm
  simp only [length_append] at hm
  refine c_tree_spaces ?_
  refine Zq8 (Hp.start w No) fun b w1 H1 hb hc1 => ?_
  have hr1:=hr.chg hc1 (off_no _)
  refine Zz7 fun J1 hJ1 => ?_
  have k1 : ∀ p1 c1 w2, Row w2 Zz8 1 p1 (l + (neB u).length) c1 (strs (L ++ neB u)) -> fresh w0 p1 -> Chg No w0 w2 -> w2.cell? ⟨b, 3, none⟩ = some (.slice ap al ac) -> w2.cell? ⟨b, 4, none⟩ = some (.slice kp kl kc) -> typ w2 b = some Zz5 -> J1 p1 (l + (neB u).length) c1 w2:=by
   intro p1 c1 w2 hr2 hf2 hc2 hx3 hx4 ht; subst hJ1
   refine ⟨_, _, _, hx3, ?_⟩
   refine ⟨fun lp ll lc i w' m => ∃ q : Nat, i = q /\ q <= al /\ m = al - q /\ ll = l + (neB u).length + ((ats.take q).flatMap fun a => neB a.1).length /\ Row w' Zz8 1 lp ll lc (strs (L ++ neB u ++ (ats.take q).flatMap fun a => neB a.1)) /\ fresh w0 lp /\ Chg No w0 w' /\ w'.cell? ⟨b, 4, none⟩ = some (.slice kp kl kc) /\ typ w' b = some Zz5,
    ⟨_, 0, rfl, Nat.zero_le _, rfl, rfl, by simpa using hr2, hf2, hc2, hx4, ht⟩, ?_⟩
   rintro lp ll lc i w3 m ⟨q, rfl, hq, rfl, rfl, hr3, hf3, hc3, hx4, ht⟩
   refine Zz4 (fun hlt => ?_) (fun hge => ?_)
   ·have hq2 : q < ats.length:=by omega
    have hx:=getElem?_eq_getElem hq2
    generalize ats[q] = x at hx
    have htk : ((ats.take (q + 1)).flatMap fun a => neB a.1) = ((ats.take q).flatMap fun a => neB a.1) ++ neB x.1:=by rw [Yaf hx, flatMap_append]; simp
    have hle : ((ats.take (q + 1)).flatMap fun a => neB a.1).length <= (ats.flatMap fun a => neB a.1).length:=by
     conv => rhs; rw [<- take_append_drop (q + 1) ats, flatMap_append, length_append]
     omega
    rw [htk, length_append] at hle
    refine Zz7 fun J11 hJ11 => ?_
    have k11 : ∀ p4 c4 w4, Row w4 Zz8 1 p4 (l + (neB u).length + ((ats.take (q + 1)).flatMap fun a => neB a.1).length) c4 (strs (L ++ neB u ++ (ats.take (q + 1)).flatMap fun a => neB a.1)) -> fresh w0 p4 -> Chg No w0 w4 -> w4.cell? ⟨b, 4, none⟩ = some (.slice kp kl kc) -> typ w4 b = some Zz5 ->
      J11 p4 (l + (neB u).length + ((ats.take (q + 1)).flatMap fun a => neB a.1).length) c4 w4:=by
     intro p4 c4 w4 g1 g2 g3 g4 g5; subst hJ11
     exact ⟨_, by omega, q + 1, by rw [Zzb] <;> omega, by omega, rfl, rfl, g1, g2, g3, g4, g5⟩
    clear hJ11
    refine ZzT (ha.chg hc3 (off_no _)) (YaJ ats) (by decide) (by omega) hlt fun a y _ hy hcs => ?_
    rw [Int.toNat_natCast, hx] at hy
    obtain rfl:=Option.some.inj hy
    refine ldAttr hcs ?_
    rw [Yh2]
    refine (Hp.start w3 No).newB fun b6 w5 H5 _ hc5 => ?_
    refine H5.stN 0 rfl (off:=0) rfl (by simp) (Yg7 x) fun w6 H6 _ => ?_
    simp only [set_cons_zero] at H6
    have c6:=H6.chg
    have hr6:=hr3.chg c6 (off_no _)
    have hb6 : b < w3.heap.size:=typ_lt ht
    have x46:=c6.cell hx4 (fun h => h)
    have t46:=Zxh c6 ht (fun h => h)
    refine H6.ldStr 0 rfl (off:=0) rfl ?_
    rw [Ycl]
    refine Zzm (fun hne => ?_) (fun he => ?_)
    ·have hne' : ¬ x.1 = ZzN:=of_decide_eq_false hne
     have hn1 : neB x.1 = [x.1]:=by unfold neB; rw [if_neg hne']
     rw [htk, hn1] at k11
     rw [hn1] at hle
     refine H6.ldStr 0 rfl (off:=0) rfl ?_
     refine appS1 (w0:=w0) (s:=x.1) hr6 (by rw [length_singleton] at hle; omega) hf3 (hc3.trans0 c6) fun p8 c8 w8 hr8 hf8 hc8 hcb8 => ?_
     have hnb : ¬ isB lp b:=by
      rintro ⟨a, ha', e⟩
      have:=hr6.typ a ha'
      rw [e, t46] at this
      exact absurd this (by decide)
     have:=k11 p8 c8 w8 (by rw [<- append_assoc, length_append]; exact hr8) hf8 hc8 (hcb8.cell x46 hnb) (Zxh hcb8 t46 hnb)
     rw [length_append] at this
     exact this
    ·have he' : x.1 = ZzN:=of_decide_eq_true he
     have hn0 : neB x.1 = []:=by unfold neB; rw [if_pos he']
     rw [htk, hn0, append_nil] at k11
     exact k11 lp lc w6 hr6 hf3 (hc3.trans0 c6) x46 t46
   ·rw [take_of_length_le (by omega)] at hr3 ⊢
    refine ⟨_, _, _, hx4, ?_⟩
    refine ⟨fun lp ll lc i w' m => ∃ q : Nat, i = q /\ q <= kl /\ m = kl - q /\ ll = l + (neB u).length + (ats.flatMap fun a => neB a.1).length + (Nd.spcL ((ks.map NV.nd).take q)).length /\ Row w' Zz8 1 lp ll lc (strs (L ++ neB u ++ (ats.flatMap fun a => neB a.1) ++ Nd.spcL ((ks.map NV.nd).take q))) /\ fresh w0 lp /\ Chg No w0 w',
     ⟨_, 0, rfl, Nat.zero_le _, rfl, rfl, by simpa [Nd.spcL] using hr3, hf3, hc3⟩, ?_⟩
    rintro lp ll lc i w4 m ⟨q', rfl, hq', rfl, rfl, hr4, hf4, hc4⟩
    refine Zz4 (fun hlt => ?_) (fun hge => ?_)
    ·refine ZzT (hk.chg hc4 (off_no _)) (Zzw ks) (by decide) (by omega) hlt fun a y _ hy hcs => ?_
     rw [Int.toNat_natCast] at hy
     have hymem:=mem_of_getElem? hy
     have ihy := @ih y hymem
     have hyok:=hks y hymem
     have hym:=hkm y hymem
     have htk : Nd.spcL ((ks.map NV.nd).take (q' + 1)) = Nd.spcL ((ks.map NV.nd).take q') ++ y.nd.spc:=by
      rw [Yaf (l:=ks.map NV.nd) (c:=y.nd) (by rw [getElem?_map, hy]; rfl), Yf1]; simp [Nd.spcL]
     have hle : (Nd.spcL ((ks.map NV.nd).take (q' + 1))).length <= (Nd.spcL (ks.map NV.nd)).length:=by
      conv => rhs; rw [<- take_append_drop (q' + 1) (ks.map NV.nd), Yf1, length_append]
      omega
     rw [htk, length_append] at hle
     cases y with
     | mk yk yu yl yt yap yal yac yas ykp ykl ykc yks =>
     refine Ydl (Hp.start w4 No) hcs fun b6 w6 H6 _ hc6 => ?_
     refine YcC H6 0 rfl ?_
     refine ihy hyok hym (hr4.chg hc6 (off_no _)) hf4 (hc4.trans0 hc6) (by omega) fun p7 c7 w7 hr7 hf7 hc7 => ?_
     refine ⟨_, by omega, q' + 1, by rw [Zzb] <;> omega, by omega, rfl, ?_, ?_, hf7, hc7⟩
     ·rw [htk, length_append]; omega
     ·rw [htk, <- append_assoc]; exact hr7
    ·rw [take_of_length_le (by rw [length_map]; omega)] at hr4 ⊢
     have:=K lp lc w4 (by
      simp only [length_append]
      rw [show l + ((neB u).length + (ats.flatMap fun a => neB a.1).length + (Nd.spcL (ks.map NV.nd)).length) = l + (neB u).length + (ats.flatMap fun a => neB a.1).length + (Nd.spcL (ks.map NV.nd)).length from by omega, <- append_assoc, <- append_assoc]
      exact hr4) hf4 hc4
     simp only [length_append] at this
     rw [show l + ((neB u).length + (ats.flatMap fun a => neB a.1).length + (Nd.spcL (ks.map NV.nd)).length) = l + (neB u).length + (ats.flatMap fun a => neB a.1).length + (Nd.spcL (ks.map NV.nd)).length from by omega] at this
     exact this
  clear hJ1
  have tb:=Zzy (H1.get 0 rfl)
  refine H1.ldStr 0 rfl (off:=1) rfl ?_
  rw [Ycl]
  refine Zzm (fun hne => ?_) (fun he => ?_)
  ·have hne' : ¬ u = ZzN:=of_decide_eq_false hne
   have hn1 : neB u = [u]:=by unfold neB; rw [if_neg hne']
   rw [hn1] at k1 hm
   refine H1.ldStr 0 rfl (off:=1) rfl ?_
   refine appS1 (w0:=w0) (s:=u) hr1 (by rw [length_singleton] at hm; omega) hf (hc.trans0 hc1) fun p8 c8 w8 hr8 hf8 hc8 hcb8 => ?_
   have hnb : ¬ isB p b:=by
    rintro ⟨a, ha', e⟩
    have:=hr1.typ a ha'
    rw [e, tb] at this
    exact absurd this (by decide)
   exact k1 p8 c8 w8 hr8 hf8 hc8 (hcb8.cell (H1.cell 0 rfl rfl) hnb) (hcb8.cell (H1.cell 0 rfl rfl) hnb) (Zxh hcb8 tb hnb)
  ·have he' : u = ZzN:=of_decide_eq_true he
   have hn0 : neB u = []:=by unfold neB; rw [if_pos he']
   rw [hn0, append_nil] at k1
   exact k1 p c w1 hr1 hf (hc.trans0 hc1) (H1.cell 0 rfl rfl) (H1.cell 0 rfl rfl) tb
theorem Spaces_row {x : NV} {J : Option Addr -> Nat -> Nat -> World -> Prop} (hx : x.Ok w) (hm : x.mea <= 10000000)
  (K : ∀ (Y : List ByteArray) p c w', SAsc Y -> (∀ s, s ∈ Y ↔ s ∈ x.nd.spc) -> Row w' Zz8 1 p Y.length c (strs Y) -> Y.length <= 10000000 -> fresh w p -> Chg No w w' -> J p Y.length c w') :
  Zz0 Tryz.prog YcI #[.agg ⟨x.cells⟩] w [.one .slice] J:=by
 have hs:=spc_len x
 cases x with
 | mk k u l t ap al ac ats kp kl kc ks =>
 refine c_tree_Spaces ?_
 refine Zq8 (Hp.start w No) fun b w1 H1 hb hc1 => ?_
 refine YcC H1 0 rfl ?_
 refine SpacesIn_ok (.mk k u l t ap al ac ats kp kl kc ks) (w0:=w1) (L:=[]) (hx.chg0 hc1) (by omega) (Row.nil _ _ _) (by rintro a ⟨⟩) (Chg.refl _ _) (by omega) fun p2 c2 w2 hr2 hf2 hc2 => ?_
 rw [Nat.zero_add, nil_append] at hr2
 rw [Nat.zero_add]
 refine SortS_ok hr2 (by omega) fun ys w3 hperm hsort hr3 hc3 => ?_
 have hcs : Chg No w1 w3:=hc2.trans hc3 fun b hb ⟨a, ha, e⟩ => by have:=hf2 a ha; omega
 refine Compact_row hr3 hsort (by omega) fun Y c' w4 hasc hmem hsl hle hcc hc4 => ?_
 have hc14 : Chg No w1 w4:=hcs.trans hc4 fun b hb ⟨a, ha, e⟩ => by have:=hf2 a ha; omega
 subst hcc
 exact K Y p2 _ w4 hasc (fun s => (hmem s).trans hperm.mem_iff) hsl (by omega) (fun a ha => by have:=hf2 a ha; have:=hc1.size; omega) (hc1.trans0 hc14)
end
end Go.Proofs.YtglnmjflpkeclaaGreatDoor
end
section
namespace Go.Vc
open Go Go.Lib
theorem decD_dig : ∀ (n : Nat), ∀ x ∈ Yh0 n, 48 <= x.toNat /\ x.toNat <= 57:=by
 intro n
 induction n using Yh0.induct with
 | case1 n h =>
  intro x hx
  unfold Yh0 at hx
  rw [dif_pos h] at hx
  have : x = UInt8.ofNat (48 + n):=by simpa using hx
  subst this
  rw [ZxK (by omega)]; omega
 | case2 n h ih =>
  intro x hx
  unfold Yh0 at hx
  rw [dif_neg h, mem_append] at hx
  rcases hx with hx | hx
  ·exact ih x hx
  ·have : x = UInt8.ofNat (48 + n % 10):=by simpa using hx
   subst this
   rw [ZxK (by omega)]; omega
def unD (l : List UInt8) : Nat:=l.foldl (fun a b => 10 * a + (b.toNat - 48)) 0
theorem unD_snoc (l : List UInt8) (b : UInt8) : unD (l ++ [b]) = 10 * unD l + (b.toNat - 48):=by unfold unD; rw [foldl_append]; rfl
theorem unD_dec : ∀ (n : Nat), unD (Yh0 n) = n:=by
 intro n
 induction n using Yh0.induct with
 | case1 n h =>
  unfold Yh0; rw [dif_pos h]
  show 10 * 0 + ((UInt8.ofNat (48 + n)).toNat - 48) = n
  rw [ZxK (by omega)]; omega
 | case2 n h ih =>
  rw [Yh0, dif_neg h, unD_snoc, ih, ZxK (by omega)]; omega
theorem decD_inj {n m : Nat} (h : Yh0 n = Yh0 m) : n = m:=by rw [<- unD_dec n, h, unD_dec]
theorem decD_len : ∀ (d n : Nat), n < 10 ^ (d + 1) -> (Yh0 n).length <= d + 1
 | 0, n, h => by unfold Yh0; rw [dif_pos (by simpa using h)]; simp
 | d + 1, n, h => by
  unfold Yh0
  split
  ·simp
  ·have:=decD_len d (n / 10) (by rw [Nat.pow_succ] at h; omega)
   rw [length_append, length_singleton]; omega
theorem prt_dig : ∀ {l : List UInt8}, (∀ x ∈ l, 48 <= x.toNat /\ x.toNat <= 57) -> prt l = true
 | [], _ => Yg2
 | b :: r, h => by
  have hb:=h b (by simp)
  rw [Yah (by omega), prt_dig fun x hx => h x (by simp [hx]), Bool.and_true]
  unfold isPt; refine decide_eq_true ?_; unfold Prt Pr2; omega
theorem pfx_nm {k : Nat} (h : k < 99999999) : nm (Ycf k) = true:=by
 have h1:=decD_len 7 (k + 1) (by omega)
 unfold Ycf nm
 rw [Yah (by decide), prt_dig (decD_dig _), ZzI _ _ (by decide)]
 simp only [Bool.and_true, Bool.and_eq_true, decide_eq_true_eq, length_cons]
 exact ⟨⟨⟨by simp, by omega⟩, by decide⟩, by decide⟩
theorem pfx_inj {k m : Nat} (h : Ycf k = Ycf m) : k = m:=by
 unfold Ycf at h
 have:=decD_inj (cons.inj h).2
 omega
theorem pfx_head {k : Nat} : (Ycf k).head? = some 110:=rfl
theorem Yd1 (k : Nat) : Ycf k ≠ [120, 109, 108]:=fun e => by have:=congrArg head? e; rw [pfx_head] at this; revert this; decide
theorem Ygr (k : Nat) : Ycf k ≠ [120, 109, 108, 110, 115]:=fun e => by have:=congrArg head? e; rw [pfx_head] at this; revert this; decide
theorem YeA (k : Nat) : Ycf k ≠ []:=by simp [Ycf]
theorem nm_xml : nm [120, 109, 108] = true:=by
 unfold nm; rw [ZzI _ _ (by decide), Yah (by decide), Yah (by decide), Yah (by decide), Yg2]; decide
def pfxW (P : List ByteArray) (u : ByteArray) : List UInt8:=if u = kE then [] else if u = Zys then [120, 109, 108] else Ycf (Yb2 P u)
theorem findU_le (P : List ByteArray) (u : ByteArray) : Yb2 P u <= P.length:=findIdx_le_length
theorem qn_of {P : List ByteArray} {n : Pr} (hl : nm (bl n.2) = true) (hP : P.length <= 10000000) : QN (ZzW P n) (pfxW P n.1) (bl n.2):=by
 refine ⟨hl, ?_⟩
 unfold ZzW pfxW
 by_cases h1 : n.1 = kE
 ·rw [if_pos h1, if_pos h1]; exact .inl ⟨rfl, rfl⟩
 rw [if_neg h1, if_neg h1]
 by_cases h2 : n.1 = Zys
 ·rw [if_pos h2, if_pos h2]; exact .inr ⟨nm_xml, by simp⟩
 ·rw [if_neg h2, if_neg h2]
  have:=findU_le P n.1
  exact .inr ⟨pfx_nm (by omega), by simp⟩
theorem YhJ {P : List ByteArray} {u : ByteArray} (h : u ∈ P) : P[Yb2 P u]? = some u:=by
 have hlt : Yb2 P u < P.length:=findIdx_lt_length_of_exists ⟨u, h, by simp⟩
 have:=findIdx_getElem (xs:=P) (p:=fun x => decide (x = u)) (w:=hlt)
 rw [getElem?_eq_getElem hlt]
 exact congrArg some (of_decide_eq_true this)
theorem pfxW_inj {P : List ByteArray} {u v : ByteArray} (hu : u = kE \/ u = Zys \/ u ∈ P) (hv : v = kE \/ v = Zys \/ v ∈ P) (h : pfxW P u = pfxW P v) : u = v:=by
 unfold pfxW at h
 by_cases a1 : u = kE
 ·rw [if_pos a1] at h
  by_cases b1 : v = kE
  ·rw [a1, b1]
  rw [if_neg b1] at h
  by_cases b2 : v = Zys
  ·rw [if_pos b2] at h; cases h
  ·rw [if_neg b2] at h; exact absurd h.symm (YeA _)
 rw [if_neg a1] at h
 by_cases a2 : u = Zys
 ·rw [if_pos a2] at h
  by_cases b1 : v = kE
  ·rw [if_pos b1] at h; cases h
  rw [if_neg b1] at h
  by_cases b2 : v = Zys
  ·rw [a2, b2]
  ·rw [if_neg b2] at h; exact absurd h.symm (Yd1 _)
 rw [if_neg a2] at h
 by_cases b1 : v = kE
 ·rw [if_pos b1] at h; exact absurd h (YeA _)
 rw [if_neg b1] at h
 by_cases b2 : v = Zys
 ·rw [if_pos b2] at h; exact absurd h (Yd1 _)
 rw [if_neg b2] at h
 have e:=pfx_inj h
 have h1:=YhJ ((hu.resolve_left a1).resolve_left a2)
 have h2:=YhJ ((hv.resolve_left b1).resolve_left b2)
 rw [e, h2] at h1
 exact (Option.some.inj h1).symm
theorem qname_inj {P : List ByteArray} {m n : Pr} (hm : nm (bl m.2) = true) (hn : nm (bl n.2) = true) (hP : P.length <= 10000000) (hu : m.1 = kE \/ m.1 = Zys \/ m.1 ∈ P) (hv : n.1 = kE \/ n.1 = Zys \/ n.1 ∈ P) (h : ZzW P m = ZzW P n) : m = n:=by
 have h1:=(qn_of (P:=P) hm hP).spl
 have h2:=(qn_of (P:=P) hn hP).spl
 rw [h, h2] at h1
 simp only [Prod.mk.injEq] at h1
 exact Prod.ext (pfxW_inj hu hv h1.1.symm) (Zqt h1.2.1.symm)
theorem Yg4 (P : List ByteArray) (u : ByteArray) : pfxW P u ≠ [120, 109, 108, 110, 115]:=by
 unfold pfxW
 split
 ·simp
 ·split
  ·decide
  ·exact Ygr _
theorem pre2_iff {a b : UInt8} {y : List UInt8} : [a, b].isPrefixOf y = true ↔ y[0]? = some a /\ y[1]? = some b:=by
 cases y with
 | nil => simp [isPrefixOf]
 | cons c r =>
  cases r with
  | nil => simp [isPrefixOf]
  | cons d s =>
   simp only [isPrefixOf, Bool.and_true, Bool.and_eq_true, beq_iff_eq, getElem?_cons_zero, getElem?_cons_succ, Option.some.injEq]
   exact ⟨fun h => ⟨h.1.symm, h.2.symm⟩, fun h => ⟨h.1.symm, h.2.symm⟩⟩
theorem hasS_drop {w : List UInt8} : ∀ {s : List UInt8}, YeT w s = false -> ∀ i, i < s.length -> w.isPrefixOf (s.drop i) = false
 | [], _, i, hi => by simp at hi
 | b :: r, h, i, hi => by
  unfold YeT at h
  rw [Bool.or_eq_false_iff] at h
  cases i with
  | zero => exact h.1
  | succ j => exact hasS_drop h.2 j (by simpa using hi)
theorem find_two {a b : UInt8} {s x : List UInt8} (h : YeT [a, b] s = false) (hl : s.getLast? = some a -> a ≠ b ) (hlast : a = b -> s.getLast? ≠ some a) : YcP [a, b] (s ++ [a, b] ++ x) = some s.length:=by
 refine find_at (by simp) fun i hi => ?_
 cases hp : [a, b].isPrefixOf ((s ++ [a, b] ++ x).drop i) with
 | false => rfl
 | true =>
  exfalso
  rw [pre2_iff] at hp
  simp only [getElem?_drop, Nat.add_zero] at hp
  rw [append_assoc, getElem?_append_left hi] at hp
  by_cases h1 : i + 1 < s.length
  ·rw [getElem?_append_left h1] at hp
   have:=hasS_drop h i hi
   have h2 : [a, b].isPrefixOf (s.drop i) = true:=pre2_iff.2 ⟨by rw [getElem?_drop]; exact hp.1, by rw [getElem?_drop]; exact hp.2⟩
   rw [this] at h2; cases h2
  ·have h2 : i + 1 = s.length:=by omega
   rw [getElem?_append_right (by omega), h2] at hp
   simp at hp
   refine hlast hp.2 ?_
   rw [getLast?_eq_getElem?, show s.length - 1 = i by omega, hp.1]
theorem upTo_two {a b : UInt8} {s x : List UInt8} (h : YeT [a, b] s = false) (hlast : a = b -> s.getLast? ≠ some a) : Yea [a, b] (s ++ [a, b] ++ x) = .ok (s, x):=by
 unfold Yea
 rw [find_two h (fun hl e => hlast e (by rw [hl])) hlast]
 simp only
 rw [append_assoc, take_left, <- drop_drop, drop_left]
 rfl
theorem tok_open (first : Bool) {q p l : List UInt8} (h : QN q p l) {L : List (List UInt8 × List UInt8)} (hq : ∀ a ∈ L, ∃ p l, QN a.1 p l) (hv : ∀ a ∈ L, Zxd a.2) (hd : (L.map (·.1)).Nodup) (x : List UInt8) :
  Yez first (60 :: (q ++ (ZyC L ++ 62 :: x))) = .ok (⟨2, 0, mkB q, L.map YbW, kE, 0⟩, x):=by
 have hh : ∀ (b : UInt8) (w : List UInt8), b.toNat < 128 -> nmC true b.toNat = false -> (b :: w).isPrefixOf (q ++ (ZyC L ++ 62 :: x)) = false:=fun b w h1 h2 => Yg1 h h1 h2
 unfold Yez
 rw [if_neg (fun hx => by simp only [isPrefixOf, beq_self_eq_true, Bool.true_and, hh 63 _ (by decide) (by decide)] at hx; exact absurd hx.2.1 (by decide))]
 rw [if_neg (by simp only [isPrefixOf, beq_self_eq_true, Bool.true_and, hh 33 _ (by decide) (by decide)]; decide)]
 rw [if_neg (by simp only [isPrefixOf, beq_self_eq_true, Bool.true_and, hh 33 _ (by decide) (by decide)]; decide)]
 rw [if_neg (by simp only [isPrefixOf, beq_self_eq_true, Bool.true_and, hh 33 _ (by decide) (by decide)]; decide)]
 rw [if_neg (by simp only [isPrefixOf, beq_self_eq_true, Bool.true_and, hh 33 _ (by decide) (by decide)]; decide)]
 rw [if_neg (by simp only [isPrefixOf, beq_self_eq_true, Bool.true_and, hh 63 _ (by decide) (by decide)]; decide)]
 rw [if_neg (by simp only [isPrefixOf, beq_self_eq_true, Bool.true_and, hh 47 _ (by decide) (by decide)]; decide)]
 rw [if_pos (by simp [isPrefixOf])]
 rw [drop_succ_cons, drop_zero]
 rw [YbA h (x:=ZyC L ++ 62 :: x) (by
  cases L with
  | nil => exact Ya2 (by decide) (by decide)
  | cons a r => exact Ya2 (by decide) (by decide))]
 simp only
 have hlen : ∀ M : List (List UInt8 × List UInt8), M.length <= (ZyC M).length:=by
  intro M
  induction M with
  | nil => simp
  | cons a r ih => simp only [ZyC, length_cons, length_append]; omega
 rw [pairs_of (62 :: x) 2 x (fin_open x) ⟨62, x, rfl⟩ L _ [] (by simp only [length_cons, length_append]; have:=hlen L; omega) hq hv hd (by simp)]
 simp
theorem Yh6 (first : Bool) {q p l : List UInt8} (h : QN q p l) (x : List UInt8) : Yez first (60 :: 47 :: (q ++ 62 :: x)) = .ok (⟨3, 0, mkB q, [], kE, 0⟩, x):=by
 unfold Yez
 rw [if_neg (fun hx => by simp [isPrefixOf] at hx)]
 rw [if_neg (by simp [isPrefixOf]), if_neg (by simp [isPrefixOf]), if_neg (by simp [isPrefixOf]), if_neg (by simp [isPrefixOf]), if_neg (by simp [isPrefixOf])]
 rw [if_pos (by simp [isPrefixOf])]
 unfold Yak
 simp only [drop_succ_cons, drop_zero]
 rw [YbA h (Ya2 (by decide) (by decide))]
 simp only
 rw [ZxP (by decide)]
 unfold YbV
 rw [if_pos (by simp [isPrefixOf])]
 rfl
theorem tok_comment (first : Bool) {t : List UInt8} (h : YeT [45, 45] t = false) (hl : t.getLast? ≠ some 45) (x : List UInt8) :
  Yez first ([60, 33, 45, 45] ++ t ++ [45, 45, 62] ++ x) = .ok (⟨7, 0, kE, [], mkB t, 0⟩, x):=by
 unfold Yez
 rw [if_neg (fun hx => by simp [isPrefixOf] at hx)]
 rw [if_pos (by simp [isPrefixOf])]
 have e : ([60, 33, 45, 45] ++ t ++ [45, 45, 62] ++ x).drop 4 = t ++ [45, 45] ++ (62 :: x):=by simp
 rw [e, upTo_two h (fun _ => hl)]
 simp only
 unfold YbV
 rw [if_pos (by simp [isPrefixOf])]
 rfl
theorem tok_text (first : Bool) {s t x : List UInt8} (hs : s ≠ []) (h60 : (60 : UInt8) ∉ s) (hr : ZyB false 0 s [] = (t, 0, 0)) (hx : x = [] \/ ∃ r, x = 60 :: r) :
    Yez first (s ++ x) = .ok (⟨5, 0, kE, [], mkB t, s.count 38⟩, x):=by
  have htw : (s ++ x).takeWhile (· != 60) = s:=by
    rcases hx with rfl | ⟨r, rfl⟩
    · rw [List.takeWhile_append_of_pos (fun a ha => by rw [bne_iff_ne]; rintro rfl; exact h60 ha)]
      simp
    · exact tw_q h60
  have h0 : ∀ w : List UInt8, (60 :: w).isPrefixOf (s ++ x) = false:=by
    intro w
    cases s with
    | nil => exact absurd rfl hs
    | cons b r =>
      simp only [List.cons_append, List.isPrefixOf]
      have : (60 == b) = false:=by
        cases hb : (60 == b) with
        | false => rfl
        | true => exact absurd (by have : 60 = b:=by simpa using hb
                                   simp [<- this]) h60
      rw [this]; rfl
  unfold Yez
  rw [if_neg (fun hx => by rw [h0] at hx; exact absurd hx.2.1 (by decide))]
  rw [if_neg (by rw [h0]; decide), if_neg (by rw [h0]; decide), if_neg (by rw [h0]; decide), if_neg (by rw [h0]; decide), if_neg (by rw [h0]; decide), if_neg (by rw [h0]; decide), if_neg (by rw [h0]; decide)]
  rw [htw, hr, if_neg (by simp)]
  simp
theorem xml_not {l : List UInt8} (hx : Ydq l = false) : l ≠ [120, 109, 108]:=by rintro rfl; revert hx; decide
theorem skip_len_lt {r : List UInt8} (h : (ZzE r).length ≠ r.length) : ∃ b s, r = b :: s /\ Yfq b = true:=by
 cases r with
 | nil => simp [ZzE] at h
 | cons b s =>
  cases hb : Yfq b with
  | true => exact ⟨b, s, rfl, hb⟩
  | false => rw [ZxP hb] at h; exact absurd rfl h
theorem ws_vals {b : UInt8} (h : Yfq b = true) : b = 32 \/ b = 9 \/ b = 10 \/ b = 13:=by
 unfold Yfq at h
 simp only [Bool.or_eq_true, beq_iff_eq] at h
 rcases h with ((h | h) | h) | h
 ·exact .inl h
 ·exact .inr (.inl h)
 ·exact .inr (.inr (.inl h))
 ·exact .inr (.inr (.inr h))
theorem nm_ws {l : List UInt8} (h : nm l = true) {b : UInt8} (hb : b ∈ l) : Yfq b = false:=by
 cases hw : Yfq b with
 | false => rfl
 | true =>
  exfalso
  rcases ws_vals hw with rfl | rfl | rfl | rfl <;> exact nm_no h (by decide) (by decide) hb
theorem instr_not_decl {l y : List UInt8} (h : nm l = true) (hx : Ydq l = false) (hy : y.head? = some 32 \/ y.head? = some 63) :
  ¬ ([60, 63, 120, 109, 108].isPrefixOf (60 :: 63 :: (l ++ y)) = true /\ (ZzE ((60 :: 63 :: (l ++ y)).drop 5)).length ≠ ((60 :: 63 :: (l ++ y)).drop 5).length):=by
 rintro ⟨h1, h2⟩
 simp only [isPrefixOf, beq_self_eq_true, Bool.true_and, drop_succ_cons] at h1 h2
 obtain ⟨b, s, e, hb⟩:=skip_len_lt h2
 obtain ⟨z, ez⟩:=isPrefixOf_iff_prefix.1 h1
 have ny : ∀ c : UInt8, c = 120 \/ c = 109 \/ c = 108 -> y.head? ≠ some c:=by
  rintro c hc e
  rcases hy with hy | hy <;> (rw [hy] at e; rcases hc with rfl | rfl | rfl <;> revert e <;> decide)
 match l, h, hx, ez, e with
 | [], h, _, _, _ => exact YbX h rfl
 | [c1], _, _, ez, _ =>
  simp only [cons_append, nil_append, cons.injEq] at ez
  exact ny 109 (by simp) (by rw [<- ez.2]; rfl)
 | [c1, c2], _, _, ez, _ =>
  simp only [cons_append, nil_append, cons.injEq] at ez
  exact ny 108 (by simp) (by rw [<- ez.2.2]; rfl)
 | [c1, c2, c3], _, hx, ez, _ =>
  simp only [cons_append, nil_append, cons.injEq] at ez
  obtain ⟨rfl, rfl, rfl, _⟩:=ez
  exact xml_not hx rfl
 | c1 :: c2 :: c3 :: c4 :: r, h, _, _, e =>
  simp only [cons_append, drop_succ_cons, drop_zero, cons.injEq] at e
  have:=nm_ws h (b:=c4) (by simp)
  rw [e.1, hb] at this; cases this
theorem tok_instr (first : Bool) {l t : List UInt8} (h : nm l = true) (hx : Ydq l = false) (ht : YeT [63, 62] t = false) (hh : ∀ b, t.head? = some b -> Yfq b = false) (x : List UInt8) :
  Yez first ([60, 63] ++ l ++ (if t ≠ [] then 32 :: t else []) ++ [63, 62] ++ x) = .ok (⟨8, 0, mkB l, [], mkB t, 0⟩, x):=by
 have e : [60, 63] ++ l ++ (if t ≠ [] then 32 :: t else []) ++ [63, 62] ++ x = 60 :: 63 :: (l ++ ((if t ≠ [] then 32 :: t else []) ++ 63 :: 62 :: x)):=by simp
 rw [e]
 have hy : ((if t ≠ [] then 32 :: t else []) ++ 63 :: 62 :: x).head? = some 32 \/ ((if t ≠ [] then 32 :: t else []) ++ 63 :: 62 :: x).head? = some 63:=by
  by_cases h0 : t = []
  ·right; rw [if_neg (by simp [h0])]; rfl
  ·left; rw [if_pos h0]; rfl
 unfold Yez
 rw [if_neg (fun hd => instr_not_decl h hx hy hd.2)]
 rw [if_neg (by simp [isPrefixOf]), if_neg (by simp [isPrefixOf]), if_neg (by simp [isPrefixOf]), if_neg (by simp [isPrefixOf])]
 rw [if_pos (by simp [isPrefixOf])]
 simp only [drop_succ_cons, drop_zero]
 have hq : QN l [] l:=⟨h, .inl ⟨rfl, rfl⟩⟩
 unfold YdW
 by_cases h0 : t = []
 ·rw [if_neg (by simp [h0]), nil_append, YbA hq (Ya2 (by decide) (by decide))]
  simp only
  rw [h, if_neg (by decide), hx, if_neg (by decide), if_pos (by simp [isPrefixOf])]
  subst h0; rfl
 ·rw [if_pos h0, cons_append, YbA hq (Ya2 (by decide) (by decide))]
  simp only
  rw [h, if_neg (by decide), hx, if_neg (by decide), if_neg (by simp [isPrefixOf])]
  have hsk : ZzE (32 :: (t ++ 63 :: 62 :: x)) = t ++ 63 :: 62 :: x:=by
   rw [Yf3 (by decide)]
   cases t with
   | nil => exact absurd rfl h0
   | cons b r => exact ZxP (hh b rfl)
  rw [hsk, if_neg (by simp)]
  have e2 : t ++ 63 :: 62 :: x = t ++ [63, 62] ++ x:=by simp
  rw [e2, upTo_two ht (fun e => absurd e (by decide))]
def clr (t : TokQ) : TokQ:={ t with at_:=0 }
def ZzX : List UInt8:=[120, 109, 108, 110, 115, 58]
def declQ (k : Nat) (u : ByteArray) : List UInt8 × List UInt8:=(ZzX ++ Ycf k, bl u)
def Ycz : Nat -> List ByteArray -> List (List UInt8 × List UInt8)
 | _, [] => []
 | k, u :: r => declQ k u :: Ycz (k + 1) r
def attrQ (P : List ByteArray) (a : At) : List UInt8 × List UInt8:=(ZzW P (nameOf a), bl a.2.2)
def Zq5 (P : List ByteArray) (top : Bool) (ats : List At) : List (List UInt8 × List UInt8):=(if top = true then Ycz 0 P else []) ++ ats.map (attrQ P)
mutual
def Ybg (P : List ByteArray) (top : Bool) : Nd -> List TokQ
 | .mk k u l t ats ks =>
  if k = 3 then [⟨5, 0, kE, [], t, (subst txtP (bl t)).count 38⟩]
  else if k = 4 then [⟨7, 0, kE, [], t, 0⟩]
  else if k = 5 then [⟨8, 0, l, [], t, 0⟩]
  else if k = 2 then ⟨2, 0, mkB (ZzW P (u, l)), (Zq5 P top ats).map YbW, kE, 0⟩ :: (YgE P ks ++ [⟨3, 0, mkB (ZzW P (u, l)), [], kE, 0⟩])
  else []
def YgE (P : List ByteArray) : List Nd -> List TokQ
 | [] => []
 | x :: r => Ybg P false x ++ YgE P r
end
theorem pairsW_append (a b : List (List UInt8 × List UInt8)) : ZyC (a ++ b) = ZyC a ++ ZyC b:=by
 induction a with
 | nil => rfl
 | cons x r ih => simp [ZyC, ih]
theorem declsQ_W : ∀ (P : List ByteArray) (k : Nat), ZyC (Ycz k P) = Zxq k P
 | [], _ => rfl
 | u :: r, k => by
  simp only [Ycz, ZyC, Zxq, declsQ_W r (k + 1)]
  simp [declQ, declW, YgG, ZzX]
theorem attrsQ_W (P : List ByteArray) : ∀ ats : List At, ZyC (ats.map (attrQ P)) = Zqi P ats
 | [] => rfl
 | a :: r => by
  simp only [map_cons, ZyC, Zqi, attrsQ_W P r]
  simp [attrQ, attrW, YgG]
theorem pairsQ_W (P : List ByteArray) (top : Bool) (ats : List At) : ZyC (Zq5 P top ats) = (if top = true then Zxq 0 P else []) ++ Zqi P ats:=by
 unfold Zq5
 rw [pairsW_append, attrsQ_W]
 cases top
 ·simp [ZyC]
 ·simp [declsQ_W]
structure NodeG (x : Nd) : Prop where
 kind : YaP x = true
 great : Ycr x = false
 name : Yhu x = true
 chars : YeW x = true
 order : Ygu x = true
 text : Yh7 x = true
def Ycn (n : Nd) : Prop := ∀ x ∈ n.flat, NodeG x
def SpcP (P : List ByteArray) (n : Nd) : Prop := ∀ s ∈ n.spc, s = Zys \/ s ∈ P
theorem Ycn.self {n : Nd} (h : Ycn n) : NodeG n:=h n (YfJ n)
theorem Ycn.kid {n x : Nd} (h : Ycn n) (hx : x ∈ n.kids) : Ycn x:=fun y hy => h y (flat_trans (flat_kid (YfJ n) hx) hy)
theorem spcL_mem {x : Nd} : ∀ {ks : List Nd}, x ∈ ks -> ∀ s ∈ x.spc, s ∈ Nd.spcL ks
 | [], h, _, _ => by cases h
 | y :: r, h, s, hs => by
  simp only [Nd.spcL, mem_append]
  rcases mem_cons.1 h with rfl | h
  ·exact .inl hs
  ·exact .inr (spcL_mem h s hs)
theorem neB_iff {P : List ByteArray} {u : ByteArray} (h : ∀ s ∈ neB u, s = Zys \/ s ∈ P) : u = kE \/ u = Zys \/ u ∈ P:=by
 by_cases e : u = kE
 ·exact .inl e
 ·exact .inr (h u (by have e2 : ¬ u = ZzN:=e; simp [neB, e2]))
structure PfxOk (P : List ByteArray) : Prop where
 len : P.length <= 10000000
 fine : ∀ u ∈ P, Zxd (bl u)
theorem ZqB {s : ByteArray} : YdB s = true ↔ Zxd (bl s):=by unfold YdB Zxd; rw [decide_eq_true_eq]
theorem Yd9 {P : List ByteArray} : ∀ {k : Nat} {a : List UInt8 × List UInt8}, a ∈ Ycz k P -> ∃ i u, P[i]? = some u /\ a = declQ (k + i) u:=by
 induction P with
 | nil => intro k a h; cases h
 | cons u r ih =>
  intro k a h
  simp only [Ycz, mem_cons] at h
  rcases h with rfl | h
  ·exact ⟨0, u, rfl, rfl⟩
  ·obtain ⟨i, v, hv, rfl⟩:=ih h
   exact ⟨i + 1, v, by simpa using hv, by rw [Nat.add_assoc, Nat.add_comm 1 i]⟩
theorem Ygz : ∀ (P : List ByteArray) (k : Nat), ((Ycz k P).map (·.1)).Nodup
 | [], _ => by simp [Ycz]
 | u :: r, k => by
  simp only [Ycz, map_cons, nodup_cons]
  refine ⟨fun h => ?_, Ygz r (k + 1)⟩
  obtain ⟨a, ha, e⟩:=mem_map.1 h
  obtain ⟨i, v, _, rfl⟩:=Yd9 ha
  have:=pfx_inj (append_cancel_left e)
  omega
theorem decl_qn {P : List ByteArray} (hP : P.length <= 10000000) {a : List UInt8 × List UInt8} (h : a ∈ Ycz 0 P) : ∃ i, QN a.1 [120, 109, 108, 110, 115] (Ycf i):=by
  obtain ⟨i, u, hu, rfl⟩:=Yd9 h
  have:=(List.getElem?_eq_some_iff.1 hu).1
  exact ⟨0 + i, pfx_nm (by omega), .inr ⟨YeC, by simp [declQ, ZzX]⟩⟩
theorem Yi4 : ∀ {ats : List At}, ascB ats = true -> Asc ats
 | [], _ => List.Pairwise.nil
 | [a], _ => by simp [Asc]
 | a :: b :: r, h => by
  simp only [ascB, Bool.and_eq_true] at h
  have ih:=Yi4 h.2
  refine pairwise_cons.2 ⟨fun c hc => ?_, ih⟩
  rcases mem_cons.1 hc with rfl | hc
  ·exact h.1
  ·exact ZyI.trans _ _ _ h.1 ((pairwise_cons.1 ih).1 c hc)
theorem Ydo {x : Nd} (h : Yhu x = true) {a : At} (ha : a ∈ x.attrs) : YdM a = true:=by
 unfold Yhu at h
 simp only [Bool.and_eq_true] at h
 exact all_eq_true.1 h.1.2 a ha
theorem Yh1 {a : At} (h : YdM a = true) : nm (bl a.2.1) = true:=by
 unfold YdM Zqc at h
 simp only [Bool.and_eq_true] at h
 exact h.1.1.1.1
theorem attrs_spc {P : List ByteArray} {k : Int} {u l t : ByteArray} {ats : List At} {ks : List Nd} (h : SpcP P (.mk k u l t ats ks)) {a : At} (ha : a ∈ ats) : a.1 = kE \/ a.1 = Zys \/ a.1 ∈ P :=
 neB_iff fun s hs => h s (by simp only [Nd.spc, mem_append]; exact .inl (.inr (mem_flatMap.2 ⟨a, ha, hs⟩)))
theorem self_spc {P : List ByteArray} {k : Int} {u l t : ByteArray} {ats : List At} {ks : List Nd} (h : SpcP P (.mk k u l t ats ks)) : u = kE \/ u = Zys \/ u ∈ P :=
 neB_iff fun s hs => h s (by simp only [Nd.spc, mem_append]; exact .inl (.inl hs))
theorem kid_spc {P : List ByteArray} {k : Int} {u l t : ByteArray} {ats : List At} {ks : List Nd} (h : SpcP P (.mk k u l t ats ks)) {x : Nd} (hx : x ∈ ks) : SpcP P x :=
 fun s hs => h s (by simp only [Nd.spc, mem_append]; exact .inr (spcL_mem hx s hs))
theorem pairs_nodup {P : List ByteArray} {top : Bool} {ats : List At} (hP : P.length <= 10000000) (hn : ∀ a ∈ ats, nm (bl a.2.1) = true) (hs : ∀ a ∈ ats, a.1 = kE \/ a.1 = Zys \/ a.1 ∈ P) (ha : Asc ats) : ((Zq5 P top ats).map (·.1)).Nodup:=by
 have h2 : ((ats.map (attrQ P)).map (·.1)).Nodup:=by
  rw [map_map]
  have:=Yi5 ha
  refine pairwise_map.2 ?_
  have h3:=pairwise_map.1 this
  refine List.Pairwise.imp_of_mem (fun {a b} ma mb hab e => hab ?_) h3
  exact qname_inj (hn a ma) (hn b mb) hP (hs a ma) (hs b mb) e
 unfold Zq5
 cases top with
 | false => simpa using h2
 | true =>
  rw [if_pos rfl, map_append, nodup_append]
  refine ⟨Ygz P 0, h2, ?_⟩
  rintro x hx y hy rfl
  obtain ⟨c, hc, e1⟩:=mem_map.1 hx
  obtain ⟨d, hd, e2⟩:=mem_map.1 hy
  obtain ⟨a, ma, rfl⟩:=mem_map.1 hd
  obtain ⟨i, q1⟩:=decl_qn hP hc
  have q2:=qn_of (P:=P) (n:=nameOf a) (hn a ma) hP
  have s1:=q1.spl
  have s2:=q2.spl
  have e3 : ZzW P (nameOf a) = c.1:=e2.trans e1.symm
  rw [e3, s1] at s2
  simp only [Prod.mk.injEq] at s2
  exact Yg4 P _ s2.1.symm
theorem Zqd {N k : Nat} {r r2 : List UInt8} {acc : List TokQ} {t : TokQ} (hr : r ≠ []) (h : ∀ first, Yez first r = .ok (t, r2)) : Ybh N (k + 1) r acc = Ybh N k r2 (acc ++ [{ t with at_:=N - r.length }]):=by
 rw [Ybh, if_neg hr, h]
theorem nodeW_head {P : List ByteArray} {top : Bool} {n : Nd} (h3 : n.kind ≠ 3) (hk : n.kind = 2 \/ n.kind = 4 \/ n.kind = 5) : ∃ r, Zy3 P top n = 60 :: r:=by
 cases n with
 | mk k u l t ats ks =>
  simp only [Nd.kind] at h3 hk
  rw [Zy3]
  rcases hk with rfl | rfl | rfl <;> simp
theorem Ycn.kids {k : Int} {u l t : ByteArray} {ats : List At} {ks : List Nd} (h : Ycn (.mk k u l t ats ks)) {x : Nd} (hx : x ∈ ks) : YfE k x.kind = true:=by
 have:=h.self.kind
 unfold YaP at this
 rw [Bool.and_eq_true] at this
 exact all_eq_true.1 this.1 x hx
theorem textQ_3 {t : ByteArray} (h : Yb9 3 t = true) : t ≠ kE:=by unfold Yb9 at h; rw [if_pos rfl] at h; exact of_decide_eq_true h
theorem textQ_4 {t : ByteArray} (h : Yb9 4 t = true) : YeT [45, 45] (bl t) = false /\ YeT [13] (bl t) = false /\ (bl t).getLast? ≠ some 45:=by
 unfold Yb9 at h; rw [if_neg (by decide), if_pos rfl] at h
 simp only [Bool.and_eq_true, Bool.not_eq_true', decide_eq_true_eq] at h
 exact ⟨h.1.1, h.1.2, h.2⟩
theorem textQ_5 {t : ByteArray} (h : Yb9 5 t = true) : YeT [63, 62] (bl t) = false /\ YeT [13] (bl t) = false /\ ((bl t).head? ≠ some 32 /\ (bl t).head? ≠ some 9 /\ (bl t).head? ≠ some 10):=by
 unfold Yb9 at h; rw [if_neg (by decide), if_neg (by decide), if_pos rfl] at h
 simp only [Bool.and_eq_true, Bool.not_eq_true', decide_eq_true_eq] at h
 exact ⟨h.1.1, h.1.2, h.2⟩
theorem YgV {b : UInt8} : ∀ {s : List UInt8}, YeT [b] s = false -> b ∉ s
 | [], _ => by simp
 | c :: r, h => by
  simp only [YeT, isPrefixOf, Bool.and_true, Bool.or_eq_false_iff, beq_eq_false_iff_ne] at h
  simp only [mem_cons, not_or]
  exact ⟨h.1, YgV h.2⟩
theorem NodeG.textq {k : Int} {u l t : ByteArray} {ats : List At} {ks : List Nd} (h : NodeG (.mk k u l t ats ks)) : Yb9 k t = true:=by
 have:=h.text
 unfold Yh7 at this
 rw [Bool.and_eq_true] at this
 exact this.2
theorem NodeG.fine_text {k : Int} {u l t : ByteArray} {ats : List At} {ks : List Nd} (h : NodeG (.mk k u l t ats ks)) : Zxd (bl t):=by
 have:=h.chars
 unfold YeW at this
 rw [Bool.and_eq_true] at this
 exact ZqB.1 this.1
theorem NodeG.fine_attr {k : Int} {u l t : ByteArray} {ats : List At} {ks : List Nd} (h : NodeG (.mk k u l t ats ks)) {a : At} (ha : a ∈ ats) : Zxd (bl a.2.2):=by
 have:=h.chars
 unfold YeW at this
 rw [Bool.and_eq_true] at this
 exact ZqB.1 (all_eq_true.1 this.2 a ha)
theorem NodeG.elem_nm {u l t : ByteArray} {ats : List At} {ks : List Nd} (h : NodeG (.mk 2 u l t ats ks)) : Zqc (u, l) = true:=by
 have:=h.name
 unfold Yhu at this
 simp only [Bool.and_eq_true, Bool.or_eq_true] at this
 rcases this.1.1 with h1 | h1
 ·exact absurd rfl (of_decide_eq_true h1)
 ·exact h1
theorem NodeG.instr_nm {u l t : ByteArray} {ats : List At} {ks : List Nd} (h : NodeG (.mk 5 u l t ats ks)) : nm (bl l) = true /\ Ydq (bl l) = false:=by
 have:=h.name
 unfold Yhu at this
 simp only [Bool.and_eq_true, Bool.or_eq_true] at this
 rcases this.2 with h1 | h1
 ·exact absurd rfl (of_decide_eq_true h1)
 ·exact ⟨h1.1, Bool.not_eq_true' _ ▸ h1.2⟩
theorem YhV {n : Pr} (h : Zqc n = true) : nm (bl n.2) = true:=by
 unfold Zqc at h
 simp only [Bool.and_eq_true] at h
 exact h.1.1.1
theorem text_sub {t : ByteArray} (h : t ≠ kE) : subst txtP (bl t) ≠ []:=by
 rw [txt_esc]
 refine sub_ne false fun e => h (Zqt ?_)
 rw [e]; rfl
theorem nodesW_stop {P : List ByteArray} {ks : List Nd} {x : List UInt8} (hx : ∃ r, x = 60 :: r) (hk : ∀ y ∈ ks, y.kind = 2 \/ y.kind = 3 \/ y.kind = 4 \/ y.kind = 5) (h : ks = [] \/ ∃ y r, ks = y :: r /\ y.kind ≠ 3) : ∃ r, ZyL P ks ++ x = 60 :: r:=by
 rcases h with rfl | ⟨y, r, rfl, h3⟩
 ·exact hx
 ·have:=hk y (by simp)
  obtain ⟨z, hz⟩:=nodeW_head (P:=P) (top:=false) h3 (by omega)
  exact ⟨_, by rw [ZyL, hz]; rfl⟩
theorem toks_node (N : Nat) {P : List ByteArray} (hP : PfxOk P) (n : Nd) : Ycn n -> SpcP P n -> (n.kind = 2 \/ n.kind = 3 \/ n.kind = 4 \/ n.kind = 5) -> ∀ (top : Bool) (fuel : Nat) (acc : List TokQ) (x : List UInt8), (n.kind = 3 -> ∃ r, x = 60 :: r) ->
  ∃ T, T.map clr = Ybg P top n /\ Ybh N (fuel + T.length) (Zy3 P top n ++ x) acc = Ybh N fuel x (acc ++ T):=by
 induction n using Nd.ind with
 | h k u l t ats ks ih =>
 intro hg hsp hk top fuel acc x hx3
 simp only [Nd.kind] at hk hx3
 have one : ∀ (tk : TokQ), tk.at_ = 0 -> Ybg P top (.mk k u l t ats ks) = [tk] -> Zy3 P top (.mk k u l t ats ks) ++ x ≠ [] -> (∀ first, Yez first (Zy3 P top (.mk k u l t ats ks) ++ x) = .ok (tk, x)) ->
   ∃ T, T.map clr = Ybg P top (.mk k u l t ats ks) /\ Ybh N (fuel + T.length) (Zy3 P top (.mk k u l t ats ks) ++ x) acc = Ybh N fuel x (acc ++ T):=by
  intro tk h0 he hne htk
  refine ⟨[{ tk with at_:=N - (Zy3 P top (.mk k u l t ats ks) ++ x).length }], ?_, ?_⟩
  ·rw [he]
   simp only [map_cons, map_nil, clr]
   cases tk
   simp only at h0
   subst h0; rfl
  ·rw [length_singleton, Zqd hne htk]
 rcases hk with rfl | rfl | rfl | rfl
 · -- an element
  have hq:=qn_of (P:=P) (n:=(u, l)) (YhV hg.self.elem_nm) hP.len
  have hA : ∀ a ∈ ats, nm (bl a.2.1) = true:=fun a ha => Yh1 (Ydo hg.self.name ha)
  have hS : ∀ a ∈ ats, a.1 = kE \/ a.1 = Zys \/ a.1 ∈ P:=fun a ha => attrs_spc hsp ha
  have hnd:=pairs_nodup (top:=top) hP.len hA hS (Yi4 hg.self.order)
  have hqs : ∀ a ∈ Zq5 P top ats, ∃ p l, QN a.1 p l:=by
   intro a ha
   unfold Zq5 at ha
   rcases mem_append.1 ha with h1 | h1
   ·cases top with
    | false => rw [if_neg (by decide)] at h1; cases h1
    | true =>
     rw [if_pos rfl] at h1
     obtain ⟨i, hi⟩:=decl_qn hP.len h1
     exact ⟨_, _, hi⟩
   ·obtain ⟨b, hb, rfl⟩:=mem_map.1 h1
    exact ⟨_, _, qn_of (hA b hb) hP.len⟩
  have hvs : ∀ a ∈ Zq5 P top ats, Zxd a.2:=by
   intro a ha
   unfold Zq5 at ha
   rcases mem_append.1 ha with h1 | h1
   ·cases top with
    | false => rw [if_neg (by decide)] at h1; cases h1
    | true =>
     rw [if_pos rfl] at h1
     obtain ⟨i, v, hv, rfl⟩:=Yd9 h1
     exact hP.fine v (mem_of_getElem? hv)
   ·obtain ⟨b, hb, rfl⟩:=mem_map.1 h1
    exact hg.self.fine_attr hb
  -- the children
  have kids : ∀ (ls : List Nd), (∀ y ∈ ls, y ∈ ks) -> ZzP ls = false -> ∀ (fuel : Nat) (acc : List TokQ) (z : List UInt8), (∃ r, z = 60 :: r) ->
    ∃ T, T.map clr = YgE P ls /\ Ybh N (fuel + T.length) (ZyL P ls ++ z) acc = Ybh N fuel z (acc ++ T):=by
   intro ls
   induction ls with
   | nil => intro _ _ fuel acc z _; exact ⟨[], rfl, by rw [append_nil]; rfl⟩
   | cons y r ihr =>
    intro hm h2 fuel acc z hz
    have hkr : ∀ y' ∈ y :: r, y'.kind = 2 \/ y'.kind = 3 \/ y'.kind = 4 \/ y'.kind = 5:=fun y' hy' => (Yd3 (hg.kids (hm y' hy'))).2
    have h2r : ZzP r = false:=by
     cases r with
     | nil => rfl
     | cons c r' => simp only [ZzP, Bool.or_eq_false_iff] at h2; exact h2.2
    obtain ⟨T2, e2, f2⟩:=ihr (fun y' hy' => hm y' (by simp [hy'])) h2r fuel (acc:=acc) z hz
    obtain ⟨T1, e1, f1⟩:=ih y (hm y (by simp)) (hg.kid (hm y (by simp))) (kid_spc hsp (hm y (by simp))) (hkr y (by simp)) false (fuel + T2.length) acc (ZyL P r ++ z) (fun h3 => nodesW_stop hz (fun y' hy' => hkr y' (by simp [hy'])) (by
     cases r with
     | nil => exact .inl rfl
     | cons c r' =>
      right
      refine ⟨c, r', rfl, fun hc => ?_⟩
      simp only [ZzP, h3, hc, decide_true, Bool.and_self, Bool.true_or] at h2; cases h2))
    obtain ⟨T3, e3, f3⟩:=ihr (fun y' hy' => hm y' (by simp [hy'])) h2r fuel (acc:=acc ++ T1) z hz
    have hl : T3.length = T2.length:=by
     have a1:=congrArg length e2
     have a2:=congrArg length e3
     rw [length_map] at a1 a2
     omega
    refine ⟨T1 ++ T3, by rw [map_append, e1, e3, YgE], ?_⟩
    rw [ZyL, append_assoc, length_append, show fuel + (T1.length + T3.length) = fuel + T2.length + T1.length by omega, f1, <- hl, f3, append_assoc]
  have h2 : ZzP ks = false:=by
   have:=hg.self.text
   unfold Yh7 at this
   rw [Bool.and_eq_true, Bool.not_eq_true'] at this
   exact this.1
  have eW : Zy3 P top (.mk 2 u l t ats ks) ++ x = 60 :: (ZzW P (u, l) ++ (ZyC (Zq5 P top ats) ++ 62 :: (ZyL P ks ++ (60 :: 47 :: (ZzW P (u, l) ++ 62 :: x))))):=by
   rw [Zy3, if_neg (by decide), if_neg (by decide), if_neg (by decide), if_pos rfl, pairsQ_W]
   simp
  have eT : Ybg P top (.mk 2 u l t ats ks) = ⟨2, 0, mkB (ZzW P (u, l)), (Zq5 P top ats).map YbW, kE, 0⟩ :: (YgE P ks ++ [⟨3, 0, mkB (ZzW P (u, l)), [], kE, 0⟩]):=by
   rw [Ybg, if_neg (by decide), if_neg (by decide), if_neg (by decide), if_pos rfl]
  have st1:=fun first => tok_open first hq hqs hvs hnd (ZyL P ks ++ (60 :: 47 :: (ZzW P (u, l) ++ 62 :: x)))
  have st2:=fun first => Yh6 first hq x
  obtain ⟨T, e, f⟩:=kids ks (fun _ h => h) h2 (fuel + 1) (acc ++ [{ (⟨2, 0, mkB (ZzW P (u, l)), (Zq5 P top ats).map YbW, kE, 0⟩ : TokQ) with at_:=N - (Zy3 P top (.mk 2 u l t ats ks) ++ x).length }]) (60 :: 47 :: (ZzW P (u, l) ++ 62 :: x)) ⟨_, rfl⟩
  refine ⟨{ (⟨2, 0, mkB (ZzW P (u, l)), (Zq5 P top ats).map YbW, kE, 0⟩ : TokQ) with at_:=N - (Zy3 P top (.mk 2 u l t ats ks) ++ x).length } :: (T ++ [{ (⟨3, 0, mkB (ZzW P (u, l)), [], kE, 0⟩ : TokQ) with at_:=N - (60 :: 47 :: (ZzW P (u, l) ++ 62 :: x)).length }]), ?_, ?_⟩
  ·rw [eT]
   simp only [map_cons, map_append, map_nil, e]
   rfl
  ·rw [length_cons, length_append, length_singleton]
   rw [show fuel + (T.length + 1 + 1) = (fuel + 1 + T.length) + 1 by omega]
   rw [eW] at f ⊢
   rw [Zqd (by simp) st1, f, Zqd (by simp) st2]
   simp
 · -- a text
  obtain ⟨r, rfl⟩:=hx3 rfl
  have hne:=textQ_3 hg.self.textq
  have eW : Zy3 P top (.mk 3 u l t ats ks) = subst txtP (bl t):=by rw [Zy3, if_pos rfl]
  refine one ⟨5, 0, kE, [], t, (subst txtP (bl t)).count 38⟩ rfl (by rw [Ybg, if_pos rfl]) (by simp) fun first => ?_
  rw [eW, tok_text first (text_sub hne) (by rw [txt_esc]; exact sub_no60 false _) (read_txt hg.self.fine_text) (.inr ⟨r, rfl⟩), Ybv]
 · -- a comment
  obtain ⟨h1, h2, h3⟩:=textQ_4 hg.self.textq
  have eW : Zy3 P top (.mk 4 u l t ats ks) = [60, 33, 45, 45] ++ bl t ++ [45, 45, 62]:=by rw [Zy3, if_neg (by decide), if_pos rfl]
  refine one ⟨7, 0, kE, [], t, 0⟩ rfl (by rw [Ybg, if_neg (by decide), if_pos rfl]) (by rw [eW]; simp) fun first => ?_
  rw [eW, tok_comment first h1 h3, Ybv]
 · -- an instruction
  obtain ⟨h1, h2, h3, h4, h5⟩:=textQ_5 hg.self.textq
  obtain ⟨n1, n2⟩:=hg.self.instr_nm
  have eW : Zy3 P top (.mk 5 u l t ats ks) = [60, 63] ++ bl l ++ (if bl t ≠ [] then 32 :: bl t else []) ++ [63, 62]:=by
   rw [Zy3, if_neg (by decide), if_neg (by decide), if_pos rfl]
   by_cases h0 : t = kE
   ·subst h0; rfl
   ·have : bl t ≠ []:=fun e => h0 (Zqt (by rw [e]; rfl))
    rw [if_pos h0, if_pos this]
  refine one ⟨8, 0, l, [], t, 0⟩ rfl (by rw [Ybg, if_neg (by decide), if_neg (by decide), if_pos rfl]) (by rw [eW]; simp) fun first => ?_
  rw [eW, tok_instr first n1 n2 h1 (fun b hb => ?_), Ybv, Ybv]
  cases hw : Yfq b with
  | false => rfl
  | true =>
   exfalso
   rcases ws_vals hw with rfl | rfl | rfl | rfl
   ·exact h3 hb
   ·exact h4 hb
   ·exact h5 hb
   ·exact YgV h2 (mem_of_mem_head? hb)
end Go.Vc
end
