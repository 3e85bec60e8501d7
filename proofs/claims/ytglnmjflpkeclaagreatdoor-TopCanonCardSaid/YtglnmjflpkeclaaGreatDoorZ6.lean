/- What the statement needs, part 6. -/
import Derived.Test.YtglnmjflpkeclaaGreatDoorZ5
set_option linter.unusedSectionVars false
set_option linter.unusedVariables false
set_option linter.unusedSimpArgs false
set_option maxRecDepth 100000
open List
section
namespace Go.Vc
open Go Go.Lib
def rdsB : List UInt8 := [60, 97, 32, 120, 109, 108, 110, 115, 61, 39, 117, 39, 32, 98, 61, 39, 49, 39, 62, 120, 60, 33, 91, 67, 68, 65, 84, 65, 91, 60, 93, 93, 62, 38, 97, 109, 112, 59, 60, 47, 97, 62]
def kB1 : ByteArray := ⟨#[98]⟩
def k1 : ByteArray := ⟨#[49]⟩
def rdsE : Nd := .mk 2 kU kA kE [(kE, kB1, k1)] [.mk 3 kE kE ⟨#[120, 60, 38]⟩ [] []]
def rdsD : Nd := .mk 1 kE kE kE [] [rdsE]
theorem Yge {q p l v : List UInt8} (x : List UInt8) (h : QN q p l) (h39 : (39 : UInt8) ∉ v) (hr : ZyX true 0 v [] = (v, 0, 0)) : YfP (q ++ 61 :: 39 :: (v ++ 39 :: x)) = .ok ((mkB q, mkB v), x) := by
 unfold YfP
 rw [Yd5 h (Yb4 (by decide) (by decide))]
 simp only
 have e : Yal (61 :: 39 :: (v ++ 39 :: x)) = .ok (39 :: (v ++ 39 :: x)) := by
  unfold Yal
  rw [ZxO (by decide), if_pos (by simp [isPrefixOf]), drop_succ_cons, drop_zero, ZxO (by decide)]
 rw [e]
 simp only
 have e2 : ZqN (39 :: (v ++ 39 :: x)) = .ok (v, x) := by
  unfold ZqN
  simp only
  rw [if_pos ⟨.inl trivial, by simp⟩, tw_q h39]
  rw [show (v ++ 39 :: x).drop (v.length + 1) = x by rw [<- drop_drop, drop_left]; rfl]
 rw [e2]
 simp only
 rw [hr]
 simp
theorem pairs_step {n : Nat} {r r' r2 : List UInt8} {acc : List Pr} {p : Pr} (hs : ZzD r = r') (h1 : [47, 62].isPrefixOf r' = false) (h2 : [62].isPrefixOf r' = false) (hl : r'.length ≠ r.length) (hp : YfP r' = .ok (p, r2)) (hn : acc.any (fun q => decide (q.1 = p.1)) = false) :
  Zq9 (n + 1) r acc = Zq9 n r2 (acc ++ [p]) := by
 rw [Zq9, hs, if_neg (by rw [h1]; decide), if_neg (by rw [h2]; decide), if_neg hl, hp]
 simp only
 rw [hn, if_neg (by decide)]
theorem nm_b : nm [98] = true := by unfold nm; rw [ZzF _ _ (by decide), Yaa (by decide), YfM]; decide
theorem read_plain {v : List UInt8} (h : subst YgE v = v) (hf : ZxK v) : ZyX true 0 v [] = (v, 0, 0) := by
 have := read_quo hf
 rwa [h] at this
theorem rds_tok1 (first : Bool) : Yf6 first rdsB = .ok (⟨2, 0, kA, [(Zqb, kU), (kB1, k1)], kE, 0⟩, [120, 60, 33, 91, 67, 68, 65, 84, 65, 91, 60, 93, 93, 62, 38, 97, 109, 112, 59, 60, 47, 97, 62]) := by
 have hq : QN [97] [] [97] := ⟨nm_a, .inl ⟨rfl, rfl⟩⟩
 have hx : QN [120, 109, 108, 110, 115] [] [120, 109, 108, 110, 115] := ⟨YgF, .inl ⟨rfl, rfl⟩⟩
 have hb : QN [98] [] [98] := ⟨nm_b, .inl ⟨rfl, rfl⟩⟩
 unfold Yf6 rdsB
 rw [if_neg (fun h => by simp [isPrefixOf] at h), if_neg (by simp [isPrefixOf]), if_neg (by simp [isPrefixOf]), if_neg (by simp [isPrefixOf]), if_neg (by simp [isPrefixOf]), if_neg (by simp [isPrefixOf]), if_neg (by simp [isPrefixOf]), if_pos (by simp [isPrefixOf])]
 rw [show drop 1 [60, 97, 32, 120, 109, 108, 110, 115, 61, 39, 117, 39, 32, 98, 61, 39, 49, 39, 62, 120, 60, 33, 91, 67, 68, 65, 84, 65, 91, 60, 93, 93, 62, 38, 97, 109, 112, 59, 60, 47, 97, (62 : UInt8)] = [97] ++ [32, 120, 109, 108, 110, 115, 61, 39, 117, 39, 32, 98, 61, 39, 49, 39, 62, 120, 60, 33, 91, 67, 68, 65, 84, 65, 91, 60, 93, 93, 62, 38, 97, 109, 112, 59, 60, 47, 97, 62] from rfl]
 rw [Yd5 hq (Yb4 (by decide) (by decide))]
 simp only
 rw [show ([60, 97, 32, 120, 109, 108, 110, 115, 61, 39, 117, 39, 32, 98, 61, 39, 49, 39, 62, 120, 60, 33, 91, 67, 68, 65, 84, 65, 91, 60, 93, 93, 62, 38, 97, 109, 112, 59, 60, 47, 97, 62] : List UInt8).length + 1 = 40 + 1 + 1 + 1 from rfl]
 rw [pairs_step (r' := [120, 109, 108, 110, 115] ++ 61 :: 39 :: ([117] ++ 39 :: [32, 98, 61, 39, 49, 39, 62, 120, 60, 33, 91, 67, 68, 65, 84, 65, 91, 60, 93, 93, 62, 38, 97, 109, 112, 59, 60, 47, 97, 62])) (by rw [YfL (by decide), ZxO (by decide)]; rfl) rfl rfl (by decide) (Yge _ hx (by decide) (read_plain (by decide) (Yb1 (by decide)))) rfl]
 rw [pairs_step (r' := [98] ++ 61 :: 39 :: ([49] ++ 39 :: [62, 120, 60, 33, 91, 67, 68, 65, 84, 65, 91, 60, 93, 93, 62, 38, 97, 109, 112, 59, 60, 47, 97, 62])) (by rw [YfL (by decide), ZxO (by decide)]; rfl) rfl rfl (by decide) (Yge _ hb (by decide) (read_plain (by decide) (Yb1 (by decide)))) (by decide)]
 rw [fin_open _ _ _ (by decide)]
 rfl
theorem rds_tok2 (first : Bool) : Yf6 first [120, 60, 33, 91, 67, 68, 65, 84, 65, 91, 60, 93, 93, 62, 38, 97, 109, 112, 59, 60, 47, 97, 62] = .ok (⟨5, 0, kE, [], ⟨#[120]⟩, 0⟩, [60, 33, 91, 67, 68, 65, 84, 65, 91, 60, 93, 93, 62, 38, 97, 109, 112, 59, 60, 47, 97, 62]) :=
 YgB first (s := [120]) (t := [120]) (x := [60, 33, 91, 67, 68, 65, 84, 65, 91, 60, 93, 93, 62, 38, 97, 109, 112, 59, 60, 47, 97, 62]) (by simp) (by decide) (by
  have := YgD (s := [120]) (Yb1 (by decide))
  rwa [show subst txtP [120] = [120] from by decide] at this) (.inr ⟨_, rfl⟩)
theorem rds_tok3 (first : Bool) : Yf6 first [60, 33, 91, 67, 68, 65, 84, 65, 91, 60, 93, 93, 62, 38, 97, 109, 112, 59, 60, 47, 97, 62] = .ok (⟨6, 0, kE, [], ⟨#[60]⟩, 0⟩, [38, 97, 109, 112, 59, 60, 47, 97, 62]) := by
 unfold Yf6
 rw [if_neg (fun h => by simp [isPrefixOf] at h), if_neg (by simp [isPrefixOf]), if_pos (by simp [isPrefixOf])]
 rw [show YdT [93, 93, 62] (drop 9 [60, 33, 91, 67, 68, 65, 84, 65, 91, 60, 93, 93, 62, 38, 97, 109, 112, 59, 60, 47, 97, (62 : UInt8)]) = .ok ([60], [38, 97, 109, 112, 59, 60, 47, 97, 62]) from rfl]
 rfl
theorem rds_tok4 (first : Bool) : Yf6 first [38, 97, 109, 112, 59, 60, 47, 97, 62] = .ok (⟨5, 0, kE, [], ⟨#[38]⟩, 1⟩, [60, 47, 97, 62]) :=
 YgB first (s := [38, 97, 109, 112, 59]) (t := [38]) (x := [60, 47, 97, 62]) (by simp) (by decide) (by
  have := YgD (s := [38]) (Yb1 (by decide))
  rwa [show subst txtP [38] = [38, 97, 109, 112, 59] from by decide] at this) (.inr ⟨_, rfl⟩)
theorem rds_tok5 (first : Bool) : Yf6 first [60, 47, 97, 62] = .ok (⟨3, 0, kA, [], kE, 0⟩, []) :=
 tok_close first (q := [97]) (p := []) (l := [97]) ⟨nm_a, .inl ⟨rfl, rfl⟩⟩ []
def rdsT : List TokQ := [⟨2, 0, kA, [(Zqb, kU), (kB1, k1)], kE, 0⟩, ⟨5, 0, kE, [], ⟨#[120]⟩, 0⟩, ⟨6, 0, kE, [], ⟨#[60]⟩, 0⟩, ⟨5, 0, kE, [], ⟨#[38]⟩, 1⟩, ⟨3, 0, kA, [], kE, 0⟩]
theorem rds_all : ∃ T, T.map clr = rdsT /\ allR rdsB = .ok T := by
 have hpl : Zyz rdsB = rdsB := Yhd (by decide) (.inr ⟨_, rfl⟩)
 have hf : ZxK rdsB := Yb1 (by decide)
 unfold allR
 rw [if_neg (by decide), hpl, if_neg (by unfold ZxK at hf; omega)]
 rw [show rdsB.length + 1 = 37 + 1 + 1 + 1 + 1 + 1 + 1 from rfl]
 rw [Yau (by decide) rds_tok1, Yau (by decide) rds_tok2, Yau (by decide) rds_tok3, Yau (by decide) rds_tok4, Yau (by decide) rds_tok5]
 rw [Yb2, if_pos rfl]
 exact ⟨_, rfl, rfl⟩
theorem decl_b : decl (kB1, k1) = none := by
 have hs : spl (bl kB1) = ([], [98], true) := (show QN [98] [] [98] from ⟨nm_b, .inl ⟨rfl, rfl⟩⟩).spl
 unfold decl
 rw [hs]
 simp only
 rw [if_neg (by decide), if_neg (by decide)]
theorem rds_open : ZyN [(Zqb, kU), (kB1, k1)] [] [] = ([(kE, kU)], 0) := by
 unfold ZyN
 rw [decl_x]
 simp only
 rw [if_neg (by decide), if_neg (by decide)]
 unfold ZyN
 rw [decl_b]
 simp only
 unfold ZyN
 decide
theorem rds_bound : Zzl [(kE, kU)] kE = (kU, true) := by decide
theorem rds_begin : Ycg kA [(Zqb, kU), (kB1, k1)] Yan = .ok { top := ⟨2, (kU, kA), [(kE, kB1, k1)], [], kA, [(kE, kU)]⟩, rest := [Yan.top], nodes := 1, done := false } := by
 have hs : spl (bl kA) = ([], [97], true) := (show QN [97] [] [97] from ⟨nm_a, .inl ⟨rfl, rfl⟩⟩).spl
 have hs2 : spl (bl kB1) = ([], [98], true) := (show QN [98] [] [98] from ⟨nm_b, .inl ⟨rfl, rfl⟩⟩).spl
 have he : YaL (Zzl [(kE, kU)]) kA = ((kU, kA), 0) := by
  unfold YaL
  rw [hs]
  simp only
  rw [if_neg (by decide), if_neg (by decide), mkB_kE, rds_bound, if_neg (by decide)]
  rfl
 have ha : Zy7 (Zzl [(kE, kU)]) [(Zqb, kU), (kB1, k1)] [] = ([(kE, kB1, k1)], 0) := by
  unfold Zy7
  rw [decl_x, if_pos (by rfl)]
  unfold Zy7
  rw [decl_b]
  unfold attr1
  rw [hs2]
  simp only
  rw [if_neg (by decide), if_neg (by decide), if_pos trivial]
  rw [if_neg (by decide)]
  rfl
 unfold Ycg
 have hb : Yan.top.binds = [] := rfl
 rw [if_neg (by decide), if_neg (by decide), hb, rds_open]
 simp only
 rw [if_neg (by decide), he]
 simp only
 rw [if_neg (by decide), ha]
 simp only
 rw [if_neg (by decide), if_neg (by decide), if_neg (by decide)]
 rfl
theorem rds_takes : ZxC rdsT Yan = .ok { top := ⟨1, (kE, kE), [], [rdsE], kE, []⟩, rest := [], nodes := 2, done := true } := by
 unfold rdsT
 rw [ZxM (s' := { top := ⟨2, (kU, kA), [(kE, kB1, k1)], [], kA, [(kE, kU)]⟩, rest := [Yan.top], nodes := 1, done := false }) (by
  unfold Zqm
  simp only
  rw [if_neg (by decide), if_neg (by decide), if_neg (by decide), if_pos trivial]
  exact rds_begin) (by decide)]
 rw [ZxM (s' := { top := ⟨2, (kU, kA), [(kE, kB1, k1)], [YdD ⟨#[120]⟩], kA, [(kE, kU)]⟩, rest := [Yan.top], nodes := 2, done := false }) (by rfl) (by decide)]
 rw [ZxM (s' := { top := ⟨2, (kU, kA), [(kE, kB1, k1)], [YdD ⟨#[120, 60]⟩], kA, [(kE, kU)]⟩, rest := [Yan.top], nodes := 2, done := false }) (by rfl) (by decide)]
 rw [ZxM (s' := { top := ⟨2, (kU, kA), [(kE, kB1, k1)], [YdD ⟨#[120, 60, 38]⟩], kA, [(kE, kU)]⟩, rest := [Yan.top], nodes := 2, done := false }) (by rfl) (by decide)]
 rw [ZxM (s' := { top := ⟨1, (kE, kE), [], [rdsE], kE, []⟩, rest := [], nodes := 2, done := true }) (by rfl) (by decide)]
 rfl
theorem rds_parse : Yc6 rdsB = .ok rdsD := by
 obtain ⟨T, e, h⟩ := rds_all
 have ht : ZxC T Yan = .ok { top := ⟨1, (kE, kE), [], [rdsE], kE, []⟩, rest := [], nodes := 2, done := true } := YgX (by rw [e]; exact rds_takes)
 unfold Yc6
 rw [h]
 simp only
 rw [ht]
 rfl
def rdsW : List UInt8 := [60, 110, 49, 58, 97, 32, 120, 109, 108, 110, 115, 58, 110, 49, 61, 34, 117, 34, 32, 98, 61, 34, 49, 34, 62, 120, 38, 108, 116, 59, 38, 97, 109, 112, 59, 60, 47, 110, 49, 58, 97, 62, 10]
theorem rds_pfx {P : List ByteArray} (ha : SAsc P) (h : ∀ s, s ∈ P ↔ s ∈ rdsD.spc /\ s ≠ Zyo) : P = [kU] := by
 refine Yfd ha (pairwise_singleton _ _) fun s => ?_
 rw [h s]
 have e : rdsD.spc = [kU] := by decide
 rw [e, mem_singleton]
 exact ⟨fun hx => hx.1, fun hx => ⟨hx, by rw [hx]; decide⟩⟩
theorem rds_write : Zyt [kU] rdsD.kids = rdsW := by
 have e1 : YgO 1 = [49] := by unfold YgO; rw [dif_pos (by decide)]; decide
 have e2 : YbX 0 = [110, 49] := by unfold YbX; rw [e1]
 have e3 : ZzT [kU] (kU, kA) = [110, 49, 58, 97] := by
  unfold ZzT
  rw [if_neg (by decide), if_neg (by decide), show YaV [kU] kU = 0 by decide, e2]; rfl
 have e4 : ZzT [kU] (nameOf (kE, kB1, k1)) = [98] := by
  unfold ZzT
  rw [if_pos (by rfl)]; rfl
 unfold rdsD rdsE
 simp only [Nd.kids, Zyt, ZyK, ZyH, Zxl, declW, Zqe, attrW, e2, e3, e4]
 decide
end Go.Vc
end
section
namespace Go.Proofs.YtglnmjflpkeclaaGreatDoor
open Go Go.Vc
theorem c_tree_Equal {a : Int} {b c : ByteArray} {d : Option Addr} {e f : Nat} {g : Option Addr} {i j : Nat} {k : ByteArray} {l : Int} {m n : ByteArray} {o : Option Addr} {p q : Nat} {r : Option Addr} {s t : Nat} {u : ByteArray} {w : World} {J : Bool -> World -> Prop} (h :
 newB w (.cells ⟨[.int .i64 a, .string b, .string c, .slice d e f, .slice g i j, .string k]⟩ Zz5) fun v x =>
 newB x (.cells ⟨[.int .i64 l, .string m, .string n, .slice o p q, .slice r s t, .string u]⟩ Zz5) fun y z =>
 Zzh (fun (a3 : Bool) (a4 : World) =>
 J a3 a4) fun aa =>
 ldI .i64 z ⟨v, 0, none⟩ fun ab =>
 ldI .i64 z ⟨y, 0, none⟩ fun ac =>
 Zz1 (ab == ac) (
 ldStr z ⟨v, 1, none⟩ fun ad =>
 ldStr z ⟨v, 2, none⟩ fun ae =>
 ldStr z ⟨y, 1, none⟩ fun af =>
 ldStr z ⟨y, 2, none⟩ fun ag =>
 Zz1 ((ad.toList == af.toList) && ((ae.toList == ag.toList) && true)) (
 ldStr z ⟨v, 5, none⟩ fun ai =>
 ldStr z ⟨y, 5, none⟩ fun aj =>
 Zz1 (ai.toList == aj.toList) (
 ldS z ⟨v, 3, none⟩ fun ak al am =>
 ldS z ⟨y, 3, none⟩ fun an ao ap =>
 Zz0 Tryz.prog Zy6 #[.slice ak al am, .slice an ao ap] z [.one .bool] fun aq ar =>
 Zz1 aq (
 ldS ar ⟨v, 4, none⟩ fun au av ax =>
 ldS ar ⟨y, 4, none⟩ fun ay az a0 =>
 Zz0 Tryz.prog ZzE #[.slice au av ax, .slice ay az a0, .func (.func 8) #[] #[]] ar [.one .bool] fun a1 a2 =>
 aa a1 a2) (
 aa false ar)) (
 aa false z)) (
 aa false z)) (
 aa false z)) : Zz0 Tryz.prog YaA #[.agg ⟨[.int .i64 a, .string b, .string c, .slice d e f, .slice g i j, .string k]⟩, .agg ⟨[.int .i64 l, .string m, .string n, .slice o p q, .slice r s t, .string u]⟩] w [.one .bool] J := Zz3 Tryz.func8 (.s .o (.j [(4, .bool)] .o .o)) (Eq.mpr (by kernel_rfl) h)
theorem Yam {a : Option Addr} {b c : Nat} {d : Option Addr} {e f : Nat} {w : World} {J : Bool -> World -> Prop} (h :
 Zz1 ((b : Int) != (e : Int)) (
 J false w) (
 ∃ p : Int -> World -> Nat -> Prop, (∃ q, p (0 : Int) w q) /\ ∀ r s q, p r s q -> (
 Zz1 (decide (r < (b : Int))) (
 ZzU a b r fun g =>
 ldStr s.drew ((g.add (r.toNat * 3))) fun i =>
 ldStr s.drew (((g.add (r.toNat * 3)).add 1)) fun j =>
 ldStr s.drew (((g.add (r.toNat * 3)).add 2)) fun k =>
 ZzU d e r fun l =>
 ldStr s.drew ((l.add (r.toNat * 3))) fun m =>
 ldStr s.drew (((l.add (r.toNat * 3)).add 1)) fun n =>
 ldStr s.drew (((l.add (r.toNat * 3)).add 2)) fun o =>
 Zz1 (!(((i.toList == m.toList) && ((j.toList == n.toList) && true)) && ((k.toList == o.toList) && true))) (
 J false s.drew) (
 ∃ t, t < q /\ p (w64 (r + (1 : Int))) s.drew t)) (
 J true s)))) : Zz0 Tryz.prog Zy6 #[.slice a b c, .slice d e f] w [.one .bool] J := Zz3 Tryz.func23 (.s .o (.s (.s .o (.c (.s .o .o) .o)) (.s (.s .o (.b (.l [(13, .int .i64)] (.s .o (.s (.c .o .o) (.s (.b (.s .o (.s (.d (.take 0 (.take 1 (.take 2 (.take 3 (.take 4 (.take 5 (.take 6 (.take 7 (.take 8 .done)))))))))) (.c (.s .o .o) .o)))) .o)))))) (.s .o .o)))) (Eq.mpr (by kernel_rfl) h)
theorem Zye {a : Option Addr} {b c : Nat} {d : Option Addr} {e f : Nat} {w : World} {J : Bool -> World -> Prop} (h :
 Zz1 ((b : Int) != (e : Int)) (
 J false w) (
 ∃ ba : Int -> World -> Nat -> Prop, (∃ bb, ba (0 : Int) w bb) /\ ∀ bc bd bb, ba bc bd bb -> (
 Zz1 (decide (bc < (b : Int))) (
 ZzU a b bc fun g =>
 ldI .i64 bd ((g.add (bc.toNat * 6))) fun i =>
 ldStr bd (((g.add (bc.toNat * 6)).add 1)) fun j =>
 ldStr bd (((g.add (bc.toNat * 6)).add 2)) fun k =>
 ldS bd (((g.add (bc.toNat * 6)).add 3)) fun l m n =>
 ldS bd (((g.add (bc.toNat * 6)).add 4)) fun o p q =>
 ldStr bd (((g.add (bc.toNat * 6)).add 5)) fun r =>
 newB bd (.cells (Zy2 Tryz.prog Zz5) Zz5) fun s t =>
 stN t ⟨s, 0, none⟩ ⟨[.int .i64 i, .string j, .string k, .slice l m n, .slice o p q, .string r]⟩ 6 fun u =>
 ZzU d e bc fun v =>
 ldI .i64 u ((v.add (bc.toNat * 6))) fun x =>
 ldStr u (((v.add (bc.toNat * 6)).add 1)) fun y =>
 ldStr u (((v.add (bc.toNat * 6)).add 2)) fun z =>
 ldS u (((v.add (bc.toNat * 6)).add 3)) fun aa ab ac =>
 ldS u (((v.add (bc.toNat * 6)).add 4)) fun ad ae af =>
 ldStr u (((v.add (bc.toNat * 6)).add 5)) fun ag =>
 newB u (.cells (Zy2 Tryz.prog Zz5) Zz5) fun ai aj =>
 stN aj ⟨ai, 0, none⟩ ⟨[.int .i64 x, .string y, .string z, .slice aa ab ac, .slice ad ae af, .string ag]⟩ 6 fun ak =>
 ldI .i64 ak ⟨s, 0, none⟩ fun al =>
 ldStr ak ⟨s, 1, none⟩ fun am =>
 ldStr ak ⟨s, 2, none⟩ fun an =>
 ldS ak ⟨s, 3, none⟩ fun ao ap aq =>
 ldS ak ⟨s, 4, none⟩ fun ar au av =>
 ldStr ak ⟨s, 5, none⟩ fun ax =>
 ldI .i64 ak ⟨ai, 0, none⟩ fun ay =>
 ldStr ak ⟨ai, 1, none⟩ fun az =>
 ldStr ak ⟨ai, 2, none⟩ fun a0 =>
 ldS ak ⟨ai, 3, none⟩ fun a1 a2 a3 =>
 ldS ak ⟨ai, 4, none⟩ fun a4 a5 a6 =>
 ldStr ak ⟨ai, 5, none⟩ fun a7 =>
 Zz0 Tryz.prog YaA #[.agg ⟨[.int .i64 al, .string am, .string an, .slice ao ap aq, .slice ar au av, .string ax]⟩, .agg ⟨[.int .i64 ay, .string az, .string a0, .slice a1 a2 a3, .slice a4 a5 a6, .string a7]⟩] ak [.one .bool] fun a8 a9 =>
 Zz1 (!a8) (
 J false a9) (
 ∃ be, be < bb /\ ba (w64 (bc + (1 : Int))) a9 be)) (
 J true bd)))) : Zz0 Tryz.prog ZzE #[.slice a b c, .slice d e f, .func (.func 8) #[] #[]] w [.one .bool] J := Zz3 Tryz.func24 (.s .o (.s (.s .o (.c (.s .o .o) .o)) (.s (.s .o (.b (.l [(17, .int .i64)] (.s .o (.s (.c .o .o) (.s (.b (.s .o (.s .o (.s .o (.c (.s .o .o) .o))))) .o)))))) (.s .o .o)))) (Eq.mpr (by kernel_rfl) h)
end Go.Proofs.YtglnmjflpkeclaaGreatDoor
end
section
namespace Go.Proofs.YtglnmjflpkeclaaGreatDoor
open Go Go.Vc Go.Lib
section
variable {w : World}
theorem EqAttrs_ok {p q : Option Addr} {l c l2 c2 : Nat} {X Y : List At} {J : Bool -> World -> Prop} (h : Sl w p l 3 (rows atc X)) (h2 : Sl w q l2 3 (rows atc Y)) (hm : l <= 1000000000) (k : ∀ w', Chg No w w' -> J (decide (X = Y)) w') :
  Zz0 Tryz.prog Zy6 #[.slice p l c, .slice q l2 c2] w [.one .bool] J := by
 refine Yam ?_
 have hl := h.row (YaG X) (by decide)
 have hl2 := h2.row (YaG Y) (by decide)
 refine Zzi (fun hne => ?_) (fun he => ?_)
 ·have e : decide (X = Y) = false := decide_eq_false fun e => hne (by rw [<- hl, <- hl2, e])
  rw [e] at k; exact k w (Chg.refl _ _)
 have hll : l = l2 := by omega
 subst hll
 refine ⟨fun x w' t => ∃ i : Nat, x = i /\ i <= l /\ t = l - i /\ Chg No w w' /\ ∀ k, k < i -> pf X k = pf Y k, ⟨_, 0, rfl, Nat.zero_le _, rfl, Chg.refl _ _, fun k h => by omega⟩, ?_⟩
 rintro x w' t ⟨i, rfl, hi, rfl, hc, hs⟩
 have hcd := hc.drew
 refine Zz4 (fun hlt => ?_) (fun hge => ?_)
 ·refine at_i (h.chg hcd (off_no _)) (n := i) rfl (by omega) fun a e0 e1 e2 => ZzA e0 (ZzA e1 (ZzA e2 ?_))
  refine at_i (h2.chg hcd (off_no _)) (n := i) rfl (by omega) fun a' f0 f1 f2 => ZzA f0 (ZzA f1 (ZzA f2 ?_))
  simp only [Yc3, Bool.and_true]
  refine Zzs (fun hf => ?_) (fun ht => ?_)
  ·have e : decide (X = Y) = false := decide_eq_false fun e => by
    rw [e] at hf; simp at hf
   rw [e] at k; exact k _ hcd
  ·refine ⟨_, by omega, i + 1, by rw [Zzb] <;> omega, by omega, rfl, hcd, fun k hk => ?_⟩
   by_cases e : k = i
   ·subst e
    simp only [Bool.and_eq_true, decide_eq_true_eq] at ht
    exact Prod.ext ht.1.1 (Prod.ext ht.1.2 ht.2)
   ·exact hs k (by omega)
 ·have e : decide (X = Y) = true := decide_eq_true (by
   apply ext_getElem?
   intro k
   by_cases hk : k < l
   ·rw [Yex (by omega), Yex (by omega), hs k (by omega)]
   ·rw [getElem?_eq_none (by omega), getElem?_eq_none (by omega)])
  rw [e] at k; exact k w' hc
theorem Equal_ok : ∀ (x y : NV) {w : World} {J : Bool -> World -> Prop}, x.Ok w -> y.Ok w -> x.mea <= 100000000 -> (∀ r w', (r = true ↔ x.nd = y.nd) -> Chg No w w' -> J r w') -> Zz0 Tryz.prog YaA #[.agg ⟨x.cells⟩, .agg ⟨y.cells⟩] w [.one .bool] J := by
 intro x
 induction x using NV.ind with
 | h k u l t ap al ac ats kp kl kc ks ih =>
  intro y w J hx hy hm K
  cases y with
  | mk k' u' l' t' ap' al' ac' ats' kp' kl' kc' ks' =>
  have hE : (NV.mk k u l t ap al ac ats kp kl kc ks).nd = (NV.mk k' u' l' t' ap' al' ac' ats' kp' kl' kc' ks').nd ↔ k = k' /\ u = u' /\ l = l' /\ t = t' /\ ats = ats' /\ ks.map NV.nd = ks'.map NV.nd := by rw [YeM, YeM, Nd.mk.injEq]
  cases hx with
  | mk ha hn hac hk hkn hkc hks =>
  cases hy with
  | mk ha' hn' hac' hk' hkn' hkc' hks' =>
  have hkl := hk.row (ZzR ks) (by decide)
  have hkl' := hk'.row (ZzR ks') (by decide)
  have hal := ha.row (YaG ats) (by decide)
  have hlm := Yd8 ks
  have hla := YbH ats
  have hmm : NV.meaL ks <= 100000000 /\ al <= 100000000 := by simp only [NV.mea] at hm; omega
  refine c_tree_Equal ?_
  refine (Hp.start w No).newB fun b2 w1 H1 hb2 hc1 => ?_
  refine H1.newB fun b3 w2 H2 hb3 hc2 => ?_
  simp only [Zzh]
  have K0 : ∀ w', Chg No w w' -> ¬ (NV.mk k u l t ap al ac ats kp kl kc ks).nd = (NV.mk k' u' l' t' ap' al' ac' ats' kp' kl' kc' ks').nd -> J false w' := fun w' hc hne => K false w' ⟨fun h => (by cases h), fun h => absurd h hne⟩ hc
  refine H2.ldI 1 rfl (off := 0) rfl ?_
  refine H2.ldI 0 rfl (off := 0) rfl ?_
  refine Zzd (fun e1 => ?_) (fun h => K0 w2 H2.chg fun e => h (hE.1 e).1)
  refine H2.ldStr 1 rfl (off := 1) rfl ?_
  refine H2.ldStr 1 rfl (off := 2) rfl ?_
  refine H2.ldStr 0 rfl (off := 1) rfl ?_
  refine H2.ldStr 0 rfl (off := 2) rfl ?_
  simp only [Yc3, Bool.and_true]
  refine Zz8 (fun e2 => ?_) (fun hf => K0 w2 H2.chg fun e => ?_)
  rotate_left
  ·obtain ⟨_, h1, h2, _⟩ := hE.1 e
   rw [decide_eq_true h1, decide_eq_true h2] at hf; cases hf
  rw [Bool.and_eq_true, decide_eq_true_eq, decide_eq_true_eq] at e2
  refine H2.ldStr 1 rfl (off := 5) rfl ?_
  refine H2.ldStr 0 rfl (off := 5) rfl ?_
  refine Zz4 (fun e3 => ?_) (fun h => K0 w2 H2.chg fun e => h (hE.1 e).2.2.2.1)
  refine H2.ldS 1 rfl (off := 3) rfl ?_
  refine H2.ldS 0 rfl (off := 3) rfl ?_
  refine EqAttrs_ok (ha.chg H2.chg (off_no _)) (ha'.chg H2.chg (off_no _)) (by omega) fun w6 hc6 => ?_
  have H6 := H2.step0 hc6
  refine Zz4 (fun e4 => ?_) (fun h => K0 w6 H6.chg fun e => h (hE.1 e).2.2.2.2.1)
  refine H6.ldS 1 rfl (off := 4) rfl ?_
  refine H6.ldS 0 rfl (off := 4) rfl ?_
  refine Zye ?_
  refine Zzi (fun hne => K0 w6 H6.chg fun e => ?_) (fun hll => ?_)
  ·have e6 := congrArg length (hE.1 e).2.2.2.2.2
   rw [length_map, length_map, hkl, hkl'] at e6
   omega
  have hll' : kl = kl' := by omega
  refine ⟨fun i w' m => ∃ q : Nat, i = q /\ q <= kl /\ m = kl - q /\ Chg No w w' /\ (ks.map NV.nd).take q = (ks'.map NV.nd).take q, ⟨_, 0, rfl, Nat.zero_le _, rfl, H6.chg, by simp⟩, ?_⟩
  rintro i w7 m ⟨q, rfl, hq, rfl, hc7, hpre⟩
  refine Zz4 (fun hlt => ?_) (fun hge => ?_)
  ·refine Zyg (hk.chg hc7 (off_no _)) (ZzR ks) (by decide) (by omega) hlt fun a y1 _ hy1 hcs1 => ?_
   have hy1' : ks[q]? = some y1 := hy1
   have hm1 := mem_of_getElem? hy1'
   have hmea := Yhm hm1
   have t1 : (ks.map NV.nd).take (q + 1) = (ks.map NV.nd).take q ++ [y1.nd] := YaX (by rw [getElem?_map, hy1']; rfl)
   have g1 : (ks.map NV.nd)[q]? = some y1.nd := by rw [getElem?_map, hy1']; rfl
   have ih1 := @ih y1 hm1
   have ok1 := hks y1 hm1
   cases y1 with
   | mk yk yu yl yt yap yal yac yas ykp ykl ykc yks =>
   refine YeL (Hp.start w7 No) hcs1 fun b8 w8 H8 hb8 hc8 => ?_
   have c08 := hc7.trans0 hc8
   refine Zyg (hk'.chg c08 (off_no _)) (ZzR ks') (by decide) (by omega) (by omega) fun a' y2 _ hy2 hcs2 => ?_
   have hy2' : ks'[q]? = some y2 := hy2
   have hm2 := mem_of_getElem? hy2'
   have t2 : (ks'.map NV.nd).take (q + 1) = (ks'.map NV.nd).take q ++ [y2.nd] := YaX (by rw [getElem?_map, hy2']; rfl)
   have g2 : (ks'.map NV.nd)[q]? = some y2.nd := by rw [getElem?_map, hy2']; rfl
   have ok2 := hks' y2 hm2
   cases y2 with
   | mk zk zu zl zt zap zal zac zas zkp zkl zkc zks =>
   refine YeL H8 hcs2 fun b9 w9 H9 hb9 hc9 => ?_
   refine YbI H9 1 rfl ?_
   refine YbI H9 0 rfl ?_
   have c09 := c08.trans0 hc9
   refine ih1 (NV.mk zk zu zl zt zap zal zac zas zkp zkl zkc zks) (ok1.chg0 c09) (ok2.chg0 c09) (by omega) fun r w5 hr hc5 => ?_
   refine Zzs (fun hf => ?_) (fun ht => ?_)
   ·refine K0 w5 (c09.trans0 hc5) fun e => ?_
    have e6 := (hE.1 e).2.2.2.2.2
    rw [e6, g2] at g1
    rw [hr.2 (Option.some.inj g1).symm] at hf; cases hf
   ·exact ⟨_, by omega, q + 1, by rw [Zzb] <;> omega, by omega, rfl, c09.trans0 hc5, by rw [t1, t2, hpre, hr.1 ht]⟩
  ·have hqk : q = kl := by omega
   rw [take_of_length_le (by rw [length_map]; omega), take_of_length_le (by rw [length_map]; omega)] at hpre
   exact K true w7 ⟨fun _ => hE.2 ⟨e1, e2.1, e2.2, e3, e4, hpre⟩, fun _ => rfl⟩ hc7
end
end Go.Proofs.YtglnmjflpkeclaaGreatDoor
end
section
namespace Go.Proofs.YtglnmjflpkeclaaGreatDoor
open Go Go.Vc Go.Lib Go.Shelf
structure TP (w : World) : Prop where
 tt : TT w
 p10 : P10 w
theorem pow_eq : Rows.laid_internal_strconv_uint64pow10 (H := Unit) = tabData .u64 Lib.pow10Tab := by kernel_rfl
theorem p10_of_reads {W : World} (h : VarReads Tryz.prog W "internal/strconv.uint64pow10" (tabData .u64 Lib.pow10Tab)) : P10 W := by
 obtain ⟨g, t, cs, fuel, p, hg, hty, hvar, hd⟩ := h
 have n : Tryz.prog.globalNamed "internal/strconv.uint64pow10" = some 6 := by kernel_rfl
 have y : (Tryz.prog.globals[6]?).map (·.type) = some T_20_uint64 := by kernel_rfl
 obtain rfl := Option.some.inj (n.symm.trans hg)
 obtain rfl := Option.some.inj (y.symm.trans hty)
 have hcs := cells_of_tab (n := 20) (e := T_uint64) (by kernel_rfl) (by kernel_rfl) (by kernel_rfl) (by kernel_rfl) hd
 unfold P10 TabIs
 rw [hvar, <- hcs]
theorem tp_of_laid {W : World} (h : laidMet Tryz.prog [("math/bits.deBruijn32tab", Rows.laid_math_bits_deBruijn32tab), ("math/bits.deBruijn64tab", Rows.laid_math_bits_deBruijn64tab), ("internal/strconv.uint64pow10", Rows.laid_internal_strconv_uint64pow10), ("unicode/utf8.acceptRanges", Rows.laid_unicode_utf8_acceptRanges), ("unicode.asciiFold", Rows.laid_unicode_asciiFold), ("unicode.caseOrbit", Rows.laid_unicode_caseOrbit), ("unicode.CaseRanges", Rows.laid_unicode_CaseRanges), ("unicode/utf8.first", Rows.laid_unicode_utf8_first)] W) (hs : W.ShapedOpen Tryz.prog) : TP W :=
 ⟨⟨utf8Tabs_of_readsT (ρ := ren8) u8Types u8Extra (first_eq ▸ laidMet.reads h (by simp)) (accept_eq ▸ laidMet.reads h (by simp)),
  fold_of_reads (fold_eq ▸ laidMet.reads h (by simp)), maxl_of_shape hs⟩, p10_of_reads (pow_eq ▸ laidMet.reads h (by simp))⟩
section
variable {w : World}
theorem Yh9 : Rd Tryz.prog w Zzk BV.cells (fun b => b.Ok w) := Rd.bytes (e := Zzr) (by kernel_rfl) (by kernel_rfl) (by kernel_rfl) (by kernel_rfl)
end
end Go.Proofs.YtglnmjflpkeclaaGreatDoor
end
section
namespace Go.Proofs.YtglnmjflpkeclaaGreatDoor
open Go Go.Vc Go.Lib Go.Shelf
section
variable {w : World}
def zeroNV : NV := .mk 0 kE kE kE none 0 0 [] none 0 0 []
theorem zero_ok (w : World) : zeroNV.Ok w := .mk (⟨rfl, .inl rfl⟩) (fun _ => rfl) (Nat.le_refl _) (⟨rfl, .inl rfl⟩) (fun _ => rfl) (Nat.le_refl _) (by simp)
theorem YfD {p : Option Addr} {l c : Nat} {bs : List UInt8} {J : Int -> ByteArray -> ByteArray -> Option Addr -> Nat -> Nat -> Option Addr -> Nat -> Nat -> ByteArray -> Int -> Int -> World -> Prop} (T : TT w) (h : Bytes w p l bs) (hlc : l <= c)
  (K : ∀ (v : NV) at_ (e : Int) w', v.Ok w' -> (e = 0 -> Yc6 bs = .ok v.nd) -> (e ≠ 0 -> (∃ a, Yc6 bs = .error (a, e)) /\ v = zeroNV) -> Chg No w w' -> v.giv (fun a b c p l d1 q m n t w => J a b c p l d1 q m n t at_ e w) w') :
  Zz0 Tryz.prog Zxy #[.slice p l c] w [.agg [.int .i64, .str, .str, .slice, .slice, .str], .one (.int .i64), .one (.int .i64)] J := by
 refine Parse_ok T h hlc (fun at_ e he hne w' hc => ?_) (fun v hv w' hown _ _ hc => ?_)
 ·exact K zeroNV at_ e w' (zero_ok w') (fun h0 => absurd h0 hne) (fun _ => ⟨⟨_, he⟩, rfl⟩) hc
 ·exact K v 0 0 w' hown.ok (fun _ => hv) (fun h => absurd rfl h) hc
theorem nodePut {w0 : World} {S : Nat -> Prop} {Γ : List Blk} (H : Hp w0 S w Γ) {k0 : Int} {u0 l0 t0 : ByteArray} {ap kp : Option Addr} {al ac kl kc : Nat}
  {K : Nat -> World -> Prop} (k : ∀ b w', Hp w0 S w' (⟨b, [.int .i64 k0, .string u0, .string l0, .slice ap al ac, .slice kp kl kc, .string t0], Zz5⟩ :: Γ) -> w.heap.size <= b -> Chg No w w' -> K b w') :
  newB w (.cells (Zy2 Tryz.prog Zz5) Zz5) fun b w1 => stN w1 ⟨b, 0, none⟩ ⟨[.int .i64 k0, .string u0, .string l0, .slice ap al ac, .slice kp kl kc, .string t0]⟩ 6 fun w2 => K b w2 := by
 rw [YcD]
 refine H.newB fun b w1 H1 hb hc1 => ?_
 refine H1.stN 0 rfl (off := 0) rfl (by simp) (Zqa (.mk k0 u0 l0 t0 ap al ac [] kp kl kc [])) fun w2 H2 hc2 => ?_
 simp only [set_cons_zero] at H2
 exact k b w2 H2 hb (hc1.trans hc2 fun x hx e => by subst e; omega)
theorem right_check {d : Nd} (h : Right d) : Ygl d = 0 := YhG.2 h
theorem YfB {x : NV} {J : Option Addr -> Nat -> Nat -> Int -> World -> Prop} (T : TT w) (T10 : P10 w) (hx : x.Ok w) (hm : x.mea <= 10000000) (hR : Right x.nd)
  (K : ∀ (P : List ByteArray) p l c g w', SAsc P -> (∀ s, s ∈ P ↔ s ∈ x.nd.spc /\ s ≠ Zyo) -> P.length <= 10000000 -> ((g = 6 /\ 65536 < (Zyt P x.nd.kids).length) \/ (g = 0 /\ (Zyt P x.nd.kids).length <= 65536 /\ Bytes w' p l (Zyt P x.nd.kids) /\ l <= c /\ l = (Zyt P x.nd.kids).length)) -> Chg No w w' -> J p l c g w') :
  Zz0 Tryz.prog Zxz #[.agg ⟨x.cells⟩] w [.one .slice, .one (.int .i64)] J := by
 refine Write_ok T T10 hx hm (fun w' hne _ => absurd (right_check hR) hne) (fun P w' _ ha hm hl hb hc => K P none 0 0 6 w' ha hm hl (.inl ⟨rfl, hb⟩) hc) (fun P b c w' _ ha hm hl hb hbt hc0 _ hc => ?_)
 exact K P _ _ _ 0 w' ha hm hl (.inr ⟨rfl, hb, hbt, hc0, rfl⟩) hc
theorem YcI {bs : List UInt8} {v : NV} (h : Yc6 bs = .ok v.nd) : v.mea <= 10000000 := by
 have := (YbE h).2
 rw [mea_nd] at this; omega
theorem reads_ok {J : Bool -> World -> Prop} (T : TT w) (T10 : P10 w) (K : ∀ w', Chg No w w' -> J true w') : Zz0 Tryz.prog Ye3 #[] w [.one .bool] J := by
 refine c_top_reads ?_
 refine litB (bs := rdsB) (n := 42) rfl fun b w1 hB _ hc1 => ?_
 refine YfD (T.chg hc1) hB (Nat.le_refl _) fun v at_ e w2 hv h0 h1 hc2 => ?_
 have he : e = 0 := by
  by_cases h : e = 0
  ·exact h
  ·obtain ⟨⟨a, ha⟩, _⟩ := h1 h
   rw [rds_parse] at ha; cases ha
 subst he
 have hp := h0 rfl
 have hR := (YbE hp).1
 have hmea := YcI hp
 have hnd : v.nd = rdsD := by rw [rds_parse] at hp; exact (Except.ok.inj hp).symm
 have hc02 := hc1.trans0 hc2
 obtain ⟨k, u, lo, t, ap, al, ac, ats, kp, kl, kc, ks⟩ := v
 simp only [NV.giv]
 refine nodePut (Hp.of_chg hc02) fun b1 w3 H3 _ hc3 => ?_
 refine YbI H3 0 rfl ?_
 have hc03 := hc02.trans0 hc3
 refine YfB (x := .mk k u lo t ap al ac ats kp kl kc ks) (T.chg hc03) (T10.chg0 hc03) (hv.chg0 hc3) hmea hR fun P p l c g w4 ha hm hl hg hc4 => ?_
 have hc04 := hc03.trans0 hc4
 rw [hnd] at hm hg
 have hP := rds_pfx ha hm
 subst hP
 rw [rds_write] at hg
 rcases hg with ⟨_, hg⟩ | ⟨rfl, _, hbt, hlc, hl⟩
 ·exact absurd hg (by decide)
 refine Zza fun J0 hJ0 => ?_
 refine Zzd (fun _ => ?_) (fun h => absurd rfl h)
 refine Zzd (fun _ => ?_) (fun h => absurd rfl h)
 refine Zxw hbt ?_
 rw [hJ0]
 have e : ((⟨rdsW.toArray⟩ : ByteArray).toList == (⟨#[60, 110, 49, 58, 97, 32, 120, 109, 108, 110, 115, 58, 110, 49, 61, 34, 117, 34, 32, 98, 61, 34, 49, 34, 62, 120, 38, 108, 116, 59, 38, 97, 109, 112, 59, 60, 47, 110, 49, 58, 97, 62, 10]⟩ : ByteArray).toList) = true := by
  rw [Yc3]; exact decide_eq_true rfl
 rw [e]
 exact K w4 hc04
theorem TopCanon_ok {a b : BV} (TP0 : TP w) (ha : a.Ok w) (hb : b.Ok w) : Zz0 Tryz.prog Ye4 #[.slice a.p a.l a.c, .slice b.p b.l b.c] w [.one .bool] fun r w' => r = true /\ Chg No w w' := by
 obtain ⟨T, T10⟩ := TP0
 refine c_top_TopCanon ?_
 refine reads_ok T T10 fun w1 hc1 => ?_
 refine Zz8 (fun h => by simp at h) fun _ => ?_
 refine YfD (T.chg hc1) (ha.is.chg hc1 (off_no _)) ha.cap fun x at1 e1 w2 hx x0 x1 hc2 => ?_
 have hc02 := hc1.trans0 hc2
 obtain ⟨k1, u1, l1, t1, ap1, al1, ac1, ats1, kp1, kl1, kc1, ks1⟩ := x
 simp only [NV.giv]
 refine nodePut (Hp.of_chg hc02) fun b5 w3 H3 _ hc3 => ?_
 have hc03 := hc02.trans0 hc3
 refine YfD (T.chg hc03) (hb.is.chg hc03 (off_no _)) hb.cap fun y at2 e2 w4 hy y0 y1 hc4 => ?_
 have H4 := H3.step0 hc4
 obtain ⟨k2, u2, l2, t2, ap2, al2, ac2, ats2, kp2, kl2, kc2, ks2⟩ := y
 simp only [NV.giv]
 refine nodePut H4 fun b8 w5 H5 _ hc5 => ?_
 have hc05 := H5.chg
 refine Zza fun J39 hJ39 => ?_
 refine Zzi (fun _ => ?_) (fun he1 => ?_)
 ·rw [hJ39]
  exact Zz8 (fun _ => ⟨trivial, hc05⟩) (fun h => by simp at h)
 rw [hJ39]
 refine Zz8 (fun _ => ⟨trivial, hc05⟩) (fun he2 => ?_)
 have he2 : e2 = 0 := by simpa using he2
 clear hJ39
 have px := x0 he1
 have py := y0 he2
 have Rx := (YbE px).1
 have Ry := (YbE py).1
 refine YbI H5 1 rfl ?_
 refine YfB (x := .mk k1 u1 l1 t1 ap1 al1 ac1 ats1 kp1 kl1 kc1 ks1) (T.chg hc05) (T10.chg0 hc05) (((hx.chg0 hc3).chg0 hc4).chg0 hc5) (YcI px) Rx fun P p pl pc g w6 pa pm plen pg hc6 => ?_
 have H6 := H5.step0 hc6
 refine YbI H6 0 rfl ?_
 refine YfB (x := .mk k2 u2 l2 t2 ap2 al2 ac2 ats2 kp2 kl2 kc2 ks2) (T.chg H6.chg) (T10.chg0 H6.chg) ((hy.chg0 hc5).chg0 hc6) (YcI py) Ry fun Q q ql qc h w7 qa qm qlen qg hc7 => ?_
 have H7 := H6.step0 hc7
 refine Zza fun J55 hJ55 => ?_
 have bad : (g = 6 \/ h = 6) -> J55 true w7 := by
  intro hgh
  rw [hJ55]
  refine Zz8 (fun _ => ?_) (fun h => by simp at h)
  refine Zza fun J4 hJ4 => ?_
  have j4 : J4 true w7 := by rw [hJ4]; exact ⟨rfl, H7.chg⟩
  have hh : h = 6 \/ h = 0 := by rcases qg with ⟨e, _⟩ | ⟨e, _⟩ <;> omega
  have hg : g = 6 \/ g = 0 := by rcases pg with ⟨e, _⟩ | ⟨e, _⟩ <;> omega
  refine Zzd (fun _ => ?_) (fun hg0 => ?_)
  ·refine Zzd (fun _ => j4) (fun hh0 => ?_)
   rw [show (h == (6 : Int)) = true by rw [beq_iff_eq]; omega]
   exact j4
  ·refine Zzd (fun _ => ?_) (fun hg6 => by omega)
   refine Zzd (fun _ => j4) (fun hh0 => ?_)
   rw [show (h == (6 : Int)) = true by rw [beq_iff_eq]; omega]
   exact j4
 refine Zzi (fun hg => ?_) (fun hg => ?_)
 ·exact bad (by rcases pg with ⟨e, _⟩ | ⟨e, _⟩ <;> omega)
 rcases pg with ⟨e, _⟩ | ⟨_, pl6, pb, pcap, rfl⟩
 ·omega
 rcases qg with ⟨e, _⟩ | ⟨rfl, ql6, qb, qcap, rfl⟩
 ·subst e
  exact bad (.inr rfl)
 rw [hJ55]
 refine Zz8 (fun h => by simp at h) fun _ => ?_
 clear bad hJ55
 have hP2 := Yh7 Rx pm plen
 have hQ2 := Yh7 Ry qm qlen
 have backP := parse_back Rx hP2.1 hP2.2 pl6
 have backQ := parse_back Ry hQ2.1 hQ2.2 ql6
 have pb7 := pb.chg hc7 (off_no _)
 refine YfD (T.chg H7.chg) pb7 pcap fun z at3 e3 w8 hz z0 z1 hc8 => ?_
 have he3 : e3 = 0 := by
  by_cases h : e3 = 0
  ·exact h
  ·obtain ⟨⟨a, ha⟩, _⟩ := z1 h
   rw [backP] at ha; cases ha
 subst he3
 have pz := z0 rfl
 have Rz := (YbE pz).1
 have ez : z.nd = (NV.mk k1 u1 l1 t1 ap1 al1 ac1 ats1 kp1 kl1 kc1 ks1).nd := by rw [backP] at pz; exact (Except.ok.inj pz).symm
 have H8 := H7.step0 hc8
 obtain ⟨k3, u3, l3, t3, ap3, al3, ac3, ats3, kp3, kl3, kc3, ks3⟩ := z
 simp only [NV.giv]
 refine nodePut H8 fun b15 w9 H9 _ hc9 => ?_
 refine YbI H9 0 rfl ?_
 refine YfB (x := .mk k3 u3 l3 t3 ap3 al3 ac3 ats3 kp3 kl3 kc3 ks3) (T.chg H9.chg) (T10.chg0 H9.chg) (hz.chg0 hc9) (YcI pz) Rz fun P' p' pl' pc' g' w10 pa' pm' plen' pg' hc10 => ?_
 rw [ez] at pm' pg'
 have eP : P' = P := Yfd pa' pa fun s => (pm' s).trans (pm s).symm
 subst eP
 rcases pg' with ⟨_, e⟩ | ⟨rfl, _, pb', _, rfl⟩
 ·omega
 have H10 := (H9.step0 hc10).drew
 refine Zza fun J4 hJ4 => ?_
 refine Zzd (fun _ => ?_) (fun h => absurd rfl h)
 refine Zzd (fun _ => ?_) (fun h => absurd rfl h)
 refine YbI H10 0 rfl ?_
 refine YbI H10 2 rfl ?_
 have hc910 : Chg No w9 w10.drew := hc10.drew
 have okx10 : (NV.mk k1 u1 l1 t1 ap1 al1 ac1 ats1 kp1 kl1 kc1 ks1).Ok w10.drew := (((((((hx.chg0 hc3).chg0 hc4).chg0 hc5).chg0 hc6).chg0 hc7).chg0 hc8).chg0 hc9).chg0 hc910
 have oky10 : (NV.mk k2 u2 l2 t2 ap2 al2 ac2 ats2 kp2 kl2 kc2 ks2).Ok w10.drew := (((((hy.chg0 hc5).chg0 hc6).chg0 hc7).chg0 hc8).chg0 hc9).chg0 hc910
 refine Equal_ok (.mk k3 u3 l3 t3 ap3 al3 ac3 ats3 kp3 kl3 kc3 ks3) (.mk k1 u1 l1 t1 ap1 al1 ac1 ats1 kp1 kl1 kc1 ks1) ((hz.chg0 hc9).chg0 hc910) okx10 (by have := YcI pz; omega) fun r1 w11 hr1 hc11 => ?_
 have : r1 = true := hr1.2 ez
 subst this
 refine Zz8 (fun _ => ?_) (fun h => by simp at h)
 have pb10 : Bytes w11 p' (Zyt P' (NV.mk k1 u1 l1 t1 ap1 al1 ac1 ats1 kp1 kl1 kc1 ks1).nd.kids).length (Zyt P' (NV.mk k1 u1 l1 t1 ap1 al1 ac1 ats1 kp1 kl1 kc1 ks1).nd.kids) := (pb'.chg ((Chg.refl No _).drew) (off_no _)).chg hc11 (off_no _)
 have hc711 : Chg No w7 w11 := ((hc8.trans0 hc9).trans0 hc910).trans0 hc11
 have pb11 := pb7.chg hc711 (off_no _)
 have qb11 := qb.chg hc711 (off_no _)
 have H11 := H10.step0 hc11
 refine Same_ok pb10 pb11 ?_
 rw [decide_eq_true rfl]
 refine Zz8 (fun _ => ?_) (fun h => by simp at h)
 refine YbI H11 2 rfl ?_
 refine YbI H11 1 rfl ?_
 refine Same_ok pb11 qb11 ?_
 refine ⟨?_, ?_, ?_⟩
 ·simpa using Zqx (off := 0) (H11.get 1 rfl)
 ·simpa using Zqx (off := 0) (H11.get 2 rfl)
 refine Equal_ok (.mk k1 u1 l1 t1 ap1 al1 ac1 ats1 kp1 kl1 kc1 ks1) (.mk k2 u2 l2 t2 ap2 al2 ac2 ats2 kp2 kl2 kc2 ks2) (okx10.chg0 hc11) (oky10.chg0 hc11) (by have := YcI px; omega) fun r2 w12 hr2 hc12 => ?_
 rw [hJ4]
 refine ⟨?_, H11.chg.trans0 hc12⟩
 rw [beq_iff_eq, Bool.eq_iff_iff, decide_eq_true_eq, hr2]
 constructor
 ·intro e
  rw [e, backQ] at backP
  exact (Except.ok.inj backP).symm
 ·intro e
  have eQ : P' = Q := Yfd pa' qa fun s => by rw [pm', qm, e]
  rw [eQ, e]
end
end Go.Proofs.YtglnmjflpkeclaaGreatDoor
end
