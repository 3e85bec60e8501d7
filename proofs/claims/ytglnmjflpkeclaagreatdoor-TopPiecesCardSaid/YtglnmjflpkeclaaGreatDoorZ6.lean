/- What the statement needs, part 6. -/
import Derived.Test.YtglnmjflpkeclaaGreatDoorZ5
set_option linter.unusedSectionVars false
set_option linter.unusedVariables false
set_option linter.unusedSimpArgs false
set_option maxRecDepth 100000
open List
section
namespace Go.Proofs.YtglnmjflpkeclaaGreatDoor
open Go Go.Vc
theorem c_top_reads {w : World} {J : Bool -> World -> Prop} (h :
 newB w (.cells ⟨[.int .u8 60, .int .u8 97, .int .u8 32, .int .u8 120, .int .u8 109, .int .u8 108, .int .u8 110, .int .u8 115, .int .u8 61, .int .u8 39, .int .u8 117, .int .u8 39, .int .u8 32, .int .u8 98, .int .u8 61, .int .u8 39, .int .u8 49, .int .u8 39, .int .u8 62, .int .u8 120, .int .u8 60, .int .u8 33, .int .u8 91, .int .u8 67, .int .u8 68, .int .u8 65, .int .u8 84, .int .u8 65, .int .u8 91, .int .u8 60, .int .u8 93, .int .u8 93, .int .u8 62, .int .u8 38, .int .u8 97, .int .u8 109, .int .u8 112, .int .u8 59, .int .u8 60, .int .u8 47, .int .u8 97, .int .u8 62]⟩ Zzs) fun a b =>
 cvJ Tryz.prog Zzj Zzj (.slice (some ⟨a, 0, none⟩) 42 42) b fun c d e f =>
 Zz0 Tryz.prog ZxB #[.slice c d e] f [.agg [.int .i64, .str, .str, .slice, .slice, .str], .one (.int .i64), .one (.int .i64)] fun g i j k l m n o p q r s t =>
 newB t (.cells (Zy2 Tryz.prog Zz5) Zz5) fun u v =>
 stN v ⟨u, 0, none⟩ ⟨[.int .i64 g, .string i, .string j, .slice k l m, .slice n o p, .string q]⟩ 6 fun x =>
 ldI .i64 x ⟨u, 0, none⟩ fun y =>
 ldStr x ⟨u, 1, none⟩ fun z =>
 ldStr x ⟨u, 2, none⟩ fun aa =>
 ldS x ⟨u, 3, none⟩ fun ab ac ad =>
 ldS x ⟨u, 4, none⟩ fun ae af ag =>
 ldStr x ⟨u, 5, none⟩ fun ai =>
 Zz0 Tryz.prog Zql #[.agg ⟨[.int .i64 y, .string z, .string aa, .slice ab ac ad, .slice ae af ag, .string ai]⟩] x [.one .slice, .one (.int .i64)] fun aj ak al am an =>
 Zzf (fun (aq : Bool) (ar : World) =>
 J aq ar) fun ao =>
 Zz1 (s == (0 : Int)) (
 Zz1 (am == (0 : Int)) (
 bytesOf an aj ak fun ap =>
 ao ((⟨ap.toArray⟩ : ByteArray).toList == (⟨#[60, 110, 49, 58, 97, 32, 120, 109, 108, 110, 115, 58, 110, 49, 61, 34, 117, 34, 32, 98, 61, 34, 49, 34, 62, 120, 38, 108, 116, 59, 38, 97, 109, 112, 59, 60, 47, 110, 49, 58, 97, 62, 10]⟩ : ByteArray).toList) an) (
 ao false an)) (
 ao false an)) : Zz0 Tryz.prog Yek #[] w [.one .bool] J:=Zz3 Tryz.func5 (.s .o (.s .o (.s .o (.j [(0, .bool)] .o .o)))) (Eq.mpr (by kernel_rfl) h)
theorem YhY {a : Option Addr} {b c : Nat} {d e f : ByteArray} {w : World} {J : Bool -> World -> Prop} (h :
 Zz0 Tryz.prog Yek #[] w [.one .bool] fun g i =>
 Zz1 (!g) (
 J false i) (
 Zz0 Tryz.prog ZxB #[.slice a b c] i [.agg [.int .i64, .str, .str, .slice, .slice, .str], .one (.int .i64), .one (.int .i64)] fun j k l m n o p q r s t u v =>
 newB v (.cells (Zy2 Tryz.prog Zz5) Zz5) fun x y =>
 stN y ⟨x, 0, none⟩ ⟨[.int .i64 j, .string k, .string l, .slice m n o, .slice p q r, .string s]⟩ 6 fun z =>
 ldI .i64 z ⟨x, 0, none⟩ fun aa =>
 ldStr z ⟨x, 1, none⟩ fun ab =>
 ldStr z ⟨x, 2, none⟩ fun ac =>
 ldS z ⟨x, 3, none⟩ fun ad ae af =>
 ldS z ⟨x, 4, none⟩ fun ag ai aj =>
 ldStr z ⟨x, 5, none⟩ fun ak =>
 Zz0 Tryz.prog Zql #[.agg ⟨[.int .i64 aa, .string ab, .string ac, .slice ad ae af, .slice ag ai aj, .string ak]⟩] z [.one .slice, .one (.int .i64)] fun al am an ao ap =>
 Zzf (fun (e1 : Bool) (e2 : World) =>
 Zz1 e1 (
 J true e2) (
 ∃ fb : Int -> World -> Nat -> Prop, (∃ fc, fb (0 : Int) e2 fc) /\ ∀ fd fe fc, fb fd fe fc -> (
 Zz1 (decide (fd < (f.size : Int))) (
 Zzf (fun (e3 : Bool) (e4 : World) =>
 Zz1 e3 (
 J true e4) (
 ∃ ff, ff < fc /\ fb (w64 (fd + (1 : Int))) e4 ff)) fun aq =>
 Zy6 f fd fun ar =>
 Zz1 (ar == (34 : Int)) (
 aq true fe) (
 Zy6 f fd fun au =>
 Zz1 (au == (60 : Int)) (
 aq true fe) (
 Zy6 f fd fun av =>
 aq (av == (38 : Int)) fe))) (
 (((⟨#[60]⟩ : ByteArray).size + d.size : Nat) : Int) <= 9223372036854775807 /\
 ((((⟨#[60]⟩ : ByteArray) ++ d).size + (⟨#[32, 120, 109, 108, 110, 115, 58]⟩ : ByteArray).size : Nat) : Int) <= 9223372036854775807 /\
 (((((⟨#[60]⟩ : ByteArray) ++ d) ++ (⟨#[32, 120, 109, 108, 110, 115, 58]⟩ : ByteArray)).size + e.size : Nat) : Int) <= 9223372036854775807 /\
 ((((((⟨#[60]⟩ : ByteArray) ++ d) ++ (⟨#[32, 120, 109, 108, 110, 115, 58]⟩ : ByteArray)) ++ e).size + (⟨#[61, 34]⟩ : ByteArray).size : Nat) : Int) <= 9223372036854775807 /\
 (((((((⟨#[60]⟩ : ByteArray) ++ d) ++ (⟨#[32, 120, 109, 108, 110, 115, 58]⟩ : ByteArray)) ++ e) ++ (⟨#[61, 34]⟩ : ByteArray)).size + f.size : Nat) : Int) <= 9223372036854775807 /\
 ((((((((⟨#[60]⟩ : ByteArray) ++ d) ++ (⟨#[32, 120, 109, 108, 110, 115, 58]⟩ : ByteArray)) ++ e) ++ (⟨#[61, 34]⟩ : ByteArray)) ++ f).size + (⟨#[34, 62]⟩ : ByteArray).size : Nat) : Int) <= 9223372036854775807 /\
 (((((((((⟨#[60]⟩ : ByteArray) ++ d) ++ (⟨#[32, 120, 109, 108, 110, 115, 58]⟩ : ByteArray)) ++ e) ++ (⟨#[61, 34]⟩ : ByteArray)) ++ f) ++ (⟨#[34, 62]⟩ : ByteArray)).size + (⟨#[60, 47]⟩ : ByteArray).size : Nat) : Int) <= 9223372036854775807 /\
 ((((((((((⟨#[60]⟩ : ByteArray) ++ d) ++ (⟨#[32, 120, 109, 108, 110, 115, 58]⟩ : ByteArray)) ++ e) ++ (⟨#[61, 34]⟩ : ByteArray)) ++ f) ++ (⟨#[34, 62]⟩ : ByteArray)) ++ (⟨#[60, 47]⟩ : ByteArray)).size + d.size : Nat) : Int) <= 9223372036854775807 /\
 (((((((((((⟨#[60]⟩ : ByteArray) ++ d) ++ (⟨#[32, 120, 109, 108, 110, 115, 58]⟩ : ByteArray)) ++ e) ++ (⟨#[61, 34]⟩ : ByteArray)) ++ f) ++ (⟨#[34, 62]⟩ : ByteArray)) ++ (⟨#[60, 47]⟩ : ByteArray)) ++ d).size + (⟨#[62]⟩ : ByteArray).size : Nat) : Int) <= 9223372036854775807 /\
 cvJ Tryz.prog Zz8 Zzj (.string ((((((((((⟨#[60]⟩ : ByteArray) ++ d) ++ (⟨#[32, 120, 109, 108, 110, 115, 58]⟩ : ByteArray)) ++ e) ++ (⟨#[61, 34]⟩ : ByteArray)) ++ f) ++ (⟨#[34, 62]⟩ : ByteArray)) ++ (⟨#[60, 47]⟩ : ByteArray)) ++ d) ++ (⟨#[62]⟩ : ByteArray))) fe fun ax ay az a0 =>
 Zz0 Tryz.prog ZxB #[.slice ax ay az] a0 [.agg [.int .i64, .str, .str, .slice, .slice, .str], .one (.int .i64), .one (.int .i64)] fun a1 a2 a3 a4 a5 a6 a7 a8 a9 ba bb bc bd =>
 newB bd (.cells (Zy2 Tryz.prog Zz5) Zz5) fun be bf =>
 stN bf ⟨be, 0, none⟩ ⟨[.int .i64 a1, .string a2, .string a3, .slice a4 a5 a6, .slice a7 a8 a9, .string ba]⟩ 6 fun bg =>
 Zzf (fun (e5 : Bool) (e6 : World) =>
 Zz1 e5 (
 J true e6) (
 slS al am an 1 none (some (w64 ((am : Int) - (1 : Int)))) none fun bi bj bk =>
 bytesOf e6 bi bj fun bl =>
 (((((((((⟨#[60]⟩ : ByteArray) ++ d) ++ (⟨#[32, 120, 109, 108, 110, 115, 58]⟩ : ByteArray)) ++ e) ++ (⟨#[61, 34]⟩ : ByteArray)) ++ f) ++ (⟨#[34, 62]⟩ : ByteArray)).size + (⟨bl.toArray⟩ : ByteArray).size : Nat) : Int) <= 9223372036854775807 /\
 ((((((((((⟨#[60]⟩ : ByteArray) ++ d) ++ (⟨#[32, 120, 109, 108, 110, 115, 58]⟩ : ByteArray)) ++ e) ++ (⟨#[61, 34]⟩ : ByteArray)) ++ f) ++ (⟨#[34, 62]⟩ : ByteArray)) ++ (⟨bl.toArray⟩ : ByteArray)).size + (⟨#[60, 47]⟩ : ByteArray).size : Nat) : Int) <= 9223372036854775807 /\
 (((((((((((⟨#[60]⟩ : ByteArray) ++ d) ++ (⟨#[32, 120, 109, 108, 110, 115, 58]⟩ : ByteArray)) ++ e) ++ (⟨#[61, 34]⟩ : ByteArray)) ++ f) ++ (⟨#[34, 62]⟩ : ByteArray)) ++ (⟨bl.toArray⟩ : ByteArray)) ++ (⟨#[60, 47]⟩ : ByteArray)).size + d.size : Nat) : Int) <= 9223372036854775807 /\
 ((((((((((((⟨#[60]⟩ : ByteArray) ++ d) ++ (⟨#[32, 120, 109, 108, 110, 115, 58]⟩ : ByteArray)) ++ e) ++ (⟨#[61, 34]⟩ : ByteArray)) ++ f) ++ (⟨#[34, 62]⟩ : ByteArray)) ++ (⟨bl.toArray⟩ : ByteArray)) ++ (⟨#[60, 47]⟩ : ByteArray)) ++ d).size + (⟨#[62]⟩ : ByteArray).size : Nat) : Int) <= 9223372036854775807 /\
 cvJ Tryz.prog Zz8 Zzj (.string (((((((((((⟨#[60]⟩ : ByteArray) ++ d) ++ (⟨#[32, 120, 109, 108, 110, 115, 58]⟩ : ByteArray)) ++ e) ++ (⟨#[61, 34]⟩ : ByteArray)) ++ f) ++ (⟨#[34, 62]⟩ : ByteArray)) ++ (⟨bl.toArray⟩ : ByteArray)) ++ (⟨#[60, 47]⟩ : ByteArray)) ++ d) ++ (⟨#[62]⟩ : ByteArray))) e6 fun bm bn bo bp =>
 Zz0 Tryz.prog ZxB #[.slice bm bn bo] bp [.agg [.int .i64, .str, .str, .slice, .slice, .str], .one (.int .i64), .one (.int .i64)] fun bq br bs bt bu bv bx bz b0 b1 b2 b3 b4 =>
 newB b4 (.cells (Zy2 Tryz.prog Zz5) Zz5) fun b5 b6 =>
 stN b6 ⟨b5, 0, none⟩ ⟨[.int .i64 bq, .string br, .string bs, .slice bt bu bv, .slice bx bz b0, .string b1]⟩ 6 fun b7 =>
 Zzf (fun (e7 : Bool) (e8 : World) =>
 Zz1 e7 (
 J false e8) (
 Zzf (fun (e9 : Bool) (fa : World) =>
 J e9 fa) fun b8 =>
 ldS e8.drew ⟨b5, 4, none⟩ fun b9 ca cb =>
 ZzS b9 ca (0 : Int) fun cc =>
 ldS e8.drew (((cc.add ((0 : Int).toNat * 6)).add 4)) fun cd ce cf =>
 ZzS cd ce (0 : Int) fun cg =>
 ldI .i64 e8.drew ((cg.add ((0 : Int).toNat * 6))) fun ci =>
 ldStr e8.drew (((cg.add ((0 : Int).toNat * 6)).add 1)) fun cj =>
 ldStr e8.drew (((cg.add ((0 : Int).toNat * 6)).add 2)) fun ck =>
 ldS e8.drew (((cg.add ((0 : Int).toNat * 6)).add 3)) fun cl cm cn =>
 ldS e8.drew (((cg.add ((0 : Int).toNat * 6)).add 4)) fun co cp cq =>
 ldStr e8.drew (((cg.add ((0 : Int).toNat * 6)).add 5)) fun cr =>
 ldS e8.drew ⟨x, 4, none⟩ fun cs ct cu =>
 ZzS cs ct (0 : Int) fun cv =>
 ldI .i64 e8.drew ((cv.add ((0 : Int).toNat * 6))) fun cx =>
 ldStr e8.drew (((cv.add ((0 : Int).toNat * 6)).add 1)) fun cy =>
 ldStr e8.drew (((cv.add ((0 : Int).toNat * 6)).add 2)) fun cz =>
 ldS e8.drew (((cv.add ((0 : Int).toNat * 6)).add 3)) fun c0 c1 c2 =>
 ldS e8.drew (((cv.add ((0 : Int).toNat * 6)).add 4)) fun c3 c4 c5 =>
 ldStr e8.drew (((cv.add ((0 : Int).toNat * 6)).add 5)) fun c6 =>
 Zz0 Tryz.prog YbH #[.agg ⟨[.int .i64 ci, .string cj, .string ck, .slice cl cm cn, .slice co cp cq, .string cr]⟩, .agg ⟨[.int .i64 cx, .string cy, .string cz, .slice c0 c1 c2, .slice c3 c4 c5, .string c6]⟩] e8.drew [.one .bool] fun c7 c8 =>
 Zz1 c7 (
 ldS c8 ⟨b5, 4, none⟩ fun c9 da db =>
 ZzS c9 da (0 : Int) fun dc =>
 ldStr c8 (((dc.add ((0 : Int).toNat * 6)).add 1)) fun dd =>
 ldStr c8 ((((dc.add ((0 : Int).toNat * 6)).add 1).add 1)) fun de =>
 ldS c8 ⟨be, 4, none⟩ fun df dg di =>
 ZzS df dg (0 : Int) fun dj =>
 ldStr c8 (((dj.add ((0 : Int).toNat * 6)).add 1)) fun dk =>
 ldStr c8 ((((dj.add ((0 : Int).toNat * 6)).add 1).add 1)) fun dl =>
 b8 ((dd.toList == dk.toList) && ((de.toList == dl.toList) && true)) c8) (
 b8 false c8))) fun dm =>
 Zz1 (b3 != (0 : Int)) (
 dm true b7) (
 ldS b7 ⟨b5, 4, none⟩ fun dn dp dq =>
 Zz1 ((dp : Int) != (1 : Int)) (
 dm true b7) (
 ldS b7 ⟨b5, 4, none⟩ fun dr ds dt =>
 ZzS dr ds (0 : Int) fun du =>
 ldS b7 (((du.add ((0 : Int).toNat * 6)).add 4)) fun dv dx dy =>
 dm ((dx : Int) != (1 : Int)) b7)))) fun dz =>
 Zz1 (bc != (0 : Int)) (
 dz true bg) (
 ldS bg ⟨be, 4, none⟩ fun d0 d1 d2 =>
 dz ((d1 : Int) != (1 : Int)) bg))))) fun d3 =>
 Zz1 (u != (0 : Int)) (
 d3 true ap) (
 Zz1 (ao != (0 : Int)) (
 d3 true ap) (
 Zz1 (decide ((am : Int) > (30000 : Int))) (
 d3 true ap) (
 Zz0 Tryz.prog YbK #[.string d] ap [.one .bool] fun d4 d5 =>
 Zz1 (!d4) (
 d3 true d5) (
 Zz0 Tryz.prog YbK #[.string e] d5 [.one .bool] fun d6 d7 =>
 Zz1 (!d6) (
 d3 true d7) (
 ldS d7 ⟨x, 4, none⟩ fun d8 d9 ea =>
 Zz1 ((d9 : Int) != (1 : Int)) (
 d3 true d7) (
 ldI .i64 d7 ⟨x, 0, none⟩ fun eb =>
 ldStr d7 ⟨x, 1, none⟩ fun ec =>
 ldStr d7 ⟨x, 2, none⟩ fun ed =>
 ldS d7 ⟨x, 3, none⟩ fun ee ef eg =>
 ldS d7 ⟨x, 4, none⟩ fun ei ej ek =>
 ldStr d7 ⟨x, 5, none⟩ fun el =>
 Zz0 Tryz.prog YbI #[.agg ⟨[.int .i64 eb, .string ec, .string ed, .slice ee ef eg, .slice ei ej ek, .string el]⟩] d7 [.one (.int .i64)] fun em en =>
 Zz1 (decide (em > (30 : Int))) (
 d3 true en) (
 ldI .i64 en ⟨x, 0, none⟩ fun eo =>
 ldStr en ⟨x, 1, none⟩ fun ep =>
 ldStr en ⟨x, 2, none⟩ fun eq =>
 ldS en ⟨x, 3, none⟩ fun er es et =>
 ldS en ⟨x, 4, none⟩ fun eu ev ex =>
 ldStr en ⟨x, 5, none⟩ fun ey =>
 Zz0 Tryz.prog Ycu #[.agg ⟨[.int .i64 eo, .string ep, .string eq, .slice er es et, .slice eu ev ex, .string ey]⟩] en [.one (.int .i64)] fun ez e0 =>
 d3 (decide (ez > (1900 : Int))) e0))))))))) : Zz0 Tryz.prog YdY #[.slice a b c, .string d, .string e, .string f] w [.one .bool] J:=Zz3 Tryz.func4 (.s .o (.s (.s .o (.c (.s .o .o) .o)) (.s .o (.s .o (.s (.j [(71, .bool)] .o (.c (.s .o .o) .o)) (.s (.s .o (.b (.l [(74, .int .i64)] (.s .o (.s (.c .o .o) (.s (.b (.s .o (.j [(92, .bool)] .o (.c (.s .o .o) .o)))) .o)))))) (.s .o (.s .o (.s (.j [(121, .bool)] .o (.c (.s .o .o) .o)) (.s .o (.s (.j [(156, .bool)] .o (.c (.s .o .o) .o)) (.j [(8, .bool)] (.d (.take 0 (.take 1 (.take 2 (.take 3 (.take 4 (.take 5 (.take 6 (.take 7 (.take 8 (.take 9 (.take 10 (.eff 11 (.take 12 (.take 13 (.take 14 (.take 15 (.take 16 (.take 17 (.take 18 (.take 19 (.take 20 (.take 21 (.take 22 (.take 23 (.take 24 (.take 25 .done)))))))))))))) .none))))))))))))) .o)))))))))))) (Eq.mpr (by kernel_rfl) h)
end Go.Proofs.YtglnmjflpkeclaaGreatDoor
end
section
namespace Go.Vc
open Go Go.Lib
def rdsB : List UInt8:=[60, 97, 32, 120, 109, 108, 110, 115, 61, 39, 117, 39, 32, 98, 61, 39, 49, 39, 62, 120, 60, 33, 91, 67, 68, 65, 84, 65, 91, 60, 93, 93, 62, 38, 97, 109, 112, 59, 60, 47, 97, 62]
def kB1 : ByteArray:=⟨#[98]⟩
def k1 : ByteArray:=⟨#[49]⟩
def rdsE : Nd := .mk 2 kU kA kE [(kE, kB1, k1)] [.mk 3 kE kE ⟨#[120, 60, 38]⟩ [] []]
def rdsD : Nd := .mk 1 kE kE kE [] [rdsE]
theorem Ygt {q p l v : List UInt8} (x : List UInt8) (h : QN q p l) (h39 : (39 : UInt8) ∉ v) (hr : ZyB true 0 v [] = (v, 0, 0)) : YeL (q ++ 61 :: 39 :: (v ++ 39 :: x)) = .ok ((mkB q, mkB v), x):=by
 unfold YeL
 rw [YbA h (Ya2 (by decide) (by decide))]
 simp only
 have e : Yat (61 :: 39 :: (v ++ 39 :: x)) = .ok (39 :: (v ++ 39 :: x)):=by
  unfold Yat
  rw [ZxP (by decide), if_pos (by simp [isPrefixOf]), drop_succ_cons, drop_zero, ZxP (by decide)]
 rw [e]
 simp only
 have e2 : ZqR (39 :: (v ++ 39 :: x)) = .ok (v, x):=by
  unfold ZqR
  simp only
  rw [if_pos ⟨.inl trivial, by simp⟩, tw_q h39]
  rw [show (v ++ 39 :: x).drop (v.length + 1) = x by rw [<- drop_drop, drop_left]; rfl]
 rw [e2]
 simp only
 rw [hr]
 simp
theorem pairs_step {n : Nat} {r r' r2 : List UInt8} {acc : List Pr} {p : Pr} (hs : ZzE r = r') (h1 : [47, 62].isPrefixOf r' = false) (h2 : [62].isPrefixOf r' = false) (hl : r'.length ≠ r.length) (hp : YeL r' = .ok (p, r2)) (hn : acc.any (fun q => decide (q.1 = p.1)) = false) :
  ZxE (n + 1) r acc = ZxE n r2 (acc ++ [p]):=by
 rw [ZxE, hs, if_neg (by rw [h1]; decide), if_neg (by rw [h2]; decide), if_neg hl, hp]
 simp only
 rw [hn, if_neg (by decide)]
theorem nm_b : nm [98] = true:=by unfold nm; rw [ZzI _ _ (by decide), Yah (by decide), Yg2]; decide
theorem read_plain {v : List UInt8} (h : subst YgQ v = v) (hf : Zxd v) : ZyB true 0 v [] = (v, 0, 0):=by
 have:=read_quo hf
 rwa [h] at this
theorem rds_tok1 (first : Bool) : Yez first rdsB = .ok (⟨2, 0, kA, [(Zqf, kU), (kB1, k1)], kE, 0⟩, [120, 60, 33, 91, 67, 68, 65, 84, 65, 91, 60, 93, 93, 62, 38, 97, 109, 112, 59, 60, 47, 97, 62]):=by
 have hq : QN [97] [] [97]:=⟨nm_a, .inl ⟨rfl, rfl⟩⟩
 have hx : QN [120, 109, 108, 110, 115] [] [120, 109, 108, 110, 115]:=⟨YeC, .inl ⟨rfl, rfl⟩⟩
 have hb : QN [98] [] [98]:=⟨nm_b, .inl ⟨rfl, rfl⟩⟩
 unfold Yez rdsB
 rw [if_neg (fun h => by simp [isPrefixOf] at h), if_neg (by simp [isPrefixOf]), if_neg (by simp [isPrefixOf]), if_neg (by simp [isPrefixOf]), if_neg (by simp [isPrefixOf]), if_neg (by simp [isPrefixOf]), if_neg (by simp [isPrefixOf]), if_pos (by simp [isPrefixOf])]
 rw [show drop 1 [60, 97, 32, 120, 109, 108, 110, 115, 61, 39, 117, 39, 32, 98, 61, 39, 49, 39, 62, 120, 60, 33, 91, 67, 68, 65, 84, 65, 91, 60, 93, 93, 62, 38, 97, 109, 112, 59, 60, 47, 97, (62 : UInt8)] = [97] ++ [32, 120, 109, 108, 110, 115, 61, 39, 117, 39, 32, 98, 61, 39, 49, 39, 62, 120, 60, 33, 91, 67, 68, 65, 84, 65, 91, 60, 93, 93, 62, 38, 97, 109, 112, 59, 60, 47, 97, 62] from rfl]
 rw [YbA hq (Ya2 (by decide) (by decide))]
 simp only
 rw [show ([60, 97, 32, 120, 109, 108, 110, 115, 61, 39, 117, 39, 32, 98, 61, 39, 49, 39, 62, 120, 60, 33, 91, 67, 68, 65, 84, 65, 91, 60, 93, 93, 62, 38, 97, 109, 112, 59, 60, 47, 97, 62] : List UInt8).length + 1 = 40 + 1 + 1 + 1 from rfl]
 rw [pairs_step (r':=[120, 109, 108, 110, 115] ++ 61 :: 39 :: ([117] ++ 39 :: [32, 98, 61, 39, 49, 39, 62, 120, 60, 33, 91, 67, 68, 65, 84, 65, 91, 60, 93, 93, 62, 38, 97, 109, 112, 59, 60, 47, 97, 62])) (by rw [Yf3 (by decide), ZxP (by decide)]; rfl) rfl rfl (by decide) (Ygt _ hx (by decide) (read_plain (by decide) (Zqr (by decide)))) rfl]
 rw [pairs_step (r':=[98] ++ 61 :: 39 :: ([49] ++ 39 :: [62, 120, 60, 33, 91, 67, 68, 65, 84, 65, 91, 60, 93, 93, 62, 38, 97, 109, 112, 59, 60, 47, 97, 62])) (by rw [Yf3 (by decide), ZxP (by decide)]; rfl) rfl rfl (by decide) (Ygt _ hb (by decide) (read_plain (by decide) (Zqr (by decide)))) (by decide)]
 rw [fin_open _ _ _ (by decide)]
 rfl
theorem rds_tok2 (first : Bool) : Yez first [120, 60, 33, 91, 67, 68, 65, 84, 65, 91, 60, 93, 93, 62, 38, 97, 109, 112, 59, 60, 47, 97, 62] = .ok (⟨5, 0, kE, [], ⟨#[120]⟩, 0⟩, [60, 33, 91, 67, 68, 65, 84, 65, 91, 60, 93, 93, 62, 38, 97, 109, 112, 59, 60, 47, 97, 62]) :=
 tok_text first (s:=[120]) (t:=[120]) (x:=[60, 33, 91, 67, 68, 65, 84, 65, 91, 60, 93, 93, 62, 38, 97, 109, 112, 59, 60, 47, 97, 62]) (by simp) (by decide) (by
  have:=read_txt (s:=[120]) (Zqr (by decide))
  rwa [show subst txtP [120] = [120] from by decide] at this) (.inr ⟨_, rfl⟩)
theorem rds_tok3 (first : Bool) : Yez first [60, 33, 91, 67, 68, 65, 84, 65, 91, 60, 93, 93, 62, 38, 97, 109, 112, 59, 60, 47, 97, 62] = .ok (⟨6, 0, kE, [], ⟨#[60]⟩, 0⟩, [38, 97, 109, 112, 59, 60, 47, 97, 62]):=by
 unfold Yez
 rw [if_neg (fun h => by simp [isPrefixOf] at h), if_neg (by simp [isPrefixOf]), if_pos (by simp [isPrefixOf])]
 rw [show Yea [93, 93, 62] (drop 9 [60, 33, 91, 67, 68, 65, 84, 65, 91, 60, 93, 93, 62, 38, 97, 109, 112, 59, 60, 47, 97, (62 : UInt8)]) = .ok ([60], [38, 97, 109, 112, 59, 60, 47, 97, 62]) from rfl]
 rfl
theorem rds_tok4 (first : Bool) : Yez first [38, 97, 109, 112, 59, 60, 47, 97, 62] = .ok (⟨5, 0, kE, [], ⟨#[38]⟩, 1⟩, [60, 47, 97, 62]) :=
 tok_text first (s:=[38, 97, 109, 112, 59]) (t:=[38]) (x:=[60, 47, 97, 62]) (by simp) (by decide) (by
  have:=read_txt (s:=[38]) (Zqr (by decide))
  rwa [show subst txtP [38] = [38, 97, 109, 112, 59] from by decide] at this) (.inr ⟨_, rfl⟩)
theorem rds_tok5 (first : Bool) : Yez first [60, 47, 97, 62] = .ok (⟨3, 0, kA, [], kE, 0⟩, []) :=
 Yh6 first (q:=[97]) (p:=[]) (l:=[97]) ⟨nm_a, .inl ⟨rfl, rfl⟩⟩ []
def rdsT : List TokQ:=[⟨2, 0, kA, [(Zqf, kU), (kB1, k1)], kE, 0⟩, ⟨5, 0, kE, [], ⟨#[120]⟩, 0⟩, ⟨6, 0, kE, [], ⟨#[60]⟩, 0⟩, ⟨5, 0, kE, [], ⟨#[38]⟩, 1⟩, ⟨3, 0, kA, [], kE, 0⟩]
theorem rds_all : ∃ T, T.map clr = rdsT /\ allR rdsB = .ok T:=by
 have hpl : Zyv rdsB = rdsB:=plain_clean (by decide) (.inr ⟨_, rfl⟩)
 have hf : Zxd rdsB:=Zqr (by decide)
 unfold allR
 rw [if_neg (by decide), hpl, if_neg (by unfold Zxd at hf; omega)]
 rw [show rdsB.length + 1 = 37 + 1 + 1 + 1 + 1 + 1 + 1 from rfl]
 rw [Zqd (by decide) rds_tok1, Zqd (by decide) rds_tok2, Zqd (by decide) rds_tok3, Zqd (by decide) rds_tok4, Zqd (by decide) rds_tok5]
 rw [Ybh, if_pos rfl]
 exact ⟨_, rfl, rfl⟩
theorem decl_b : decl (kB1, k1) = none:=by
 have hs : spl (bl kB1) = ([], [98], true):=(show QN [98] [] [98] from ⟨nm_b, .inl ⟨rfl, rfl⟩⟩).spl
 unfold decl
 rw [hs]
 simp only
 rw [if_neg (by decide), if_neg (by decide)]
theorem rds_open : ZyD [(Zqf, kU), (kB1, k1)] [] [] = ([(kE, kU)], 0):=by
 unfold ZyD
 rw [decl_x]
 simp only
 rw [if_neg (by decide), if_neg (by decide)]
 unfold ZyD
 rw [decl_b]
 simp only
 unfold ZyD
 decide
theorem rds_bound : Zzl [(kE, kU)] kE = (kU, true):=by decide
theorem rds_begin : YaX kA [(Zqf, kU), (kB1, k1)] ZxO = .ok { top:=⟨2, (kU, kA), [(kE, kB1, k1)], [], kA, [(kE, kU)]⟩, rest:=[ZxO.top], nodes:=1, done:=false }:=by
 have hs : spl (bl kA) = ([], [97], true):=(show QN [97] [] [97] from ⟨nm_a, .inl ⟨rfl, rfl⟩⟩).spl
 have hs2 : spl (bl kB1) = ([], [98], true):=(show QN [98] [] [98] from ⟨nm_b, .inl ⟨rfl, rfl⟩⟩).spl
 have he : YaR (Zzl [(kE, kU)]) kA = ((kU, kA), 0):=by
  unfold YaR
  rw [hs]
  simp only
  rw [if_neg (by decide), if_neg (by decide), mkB_kE, rds_bound, if_neg (by decide)]
  rfl
 have ha : Zyb (Zzl [(kE, kU)]) [(Zqf, kU), (kB1, k1)] [] = ([(kE, kB1, k1)], 0):=by
  unfold Zyb
  rw [decl_x, if_pos (by rfl)]
  unfold Zyb
  rw [decl_b]
  unfold attr1
  rw [hs2]
  simp only
  rw [if_neg (by decide), if_neg (by decide), if_pos trivial]
  rw [if_neg (by decide)]
  rfl
 unfold YaX
 have hb : ZxO.top.binds = []:=rfl
 rw [if_neg (by decide), if_neg (by decide), hb, rds_open]
 simp only
 rw [if_neg (by decide), he]
 simp only
 rw [if_neg (by decide), ha]
 simp only
 rw [if_neg (by decide), if_neg (by decide), if_neg (by decide)]
 rfl
theorem rds_takes : ZyQ rdsT ZxO = .ok { top:=⟨1, (kE, kE), [], [rdsE], kE, []⟩, rest:=[], nodes:=2, done:=true }:=by
 unfold rdsT
 rw [ZyJ (s':={ top:=⟨2, (kU, kA), [(kE, kB1, k1)], [], kA, [(kE, kU)]⟩, rest:=[ZxO.top], nodes:=1, done:=false }) (by
  unfold Zxe
  simp only
  rw [if_neg (by decide), if_neg (by decide), if_neg (by decide), if_pos trivial]
  exact rds_begin) (by decide)]
 rw [ZyJ (s':={ top:=⟨2, (kU, kA), [(kE, kB1, k1)], [YdV ⟨#[120]⟩], kA, [(kE, kU)]⟩, rest:=[ZxO.top], nodes:=2, done:=false }) (by rfl) (by decide)]
 rw [ZyJ (s':={ top:=⟨2, (kU, kA), [(kE, kB1, k1)], [YdV ⟨#[120, 60]⟩], kA, [(kE, kU)]⟩, rest:=[ZxO.top], nodes:=2, done:=false }) (by rfl) (by decide)]
 rw [ZyJ (s':={ top:=⟨2, (kU, kA), [(kE, kB1, k1)], [YdV ⟨#[120, 60, 38]⟩], kA, [(kE, kU)]⟩, rest:=[ZxO.top], nodes:=2, done:=false }) (by rfl) (by decide)]
 rw [ZyJ (s':={ top:=⟨1, (kE, kE), [], [rdsE], kE, []⟩, rest:=[], nodes:=2, done:=true }) (by rfl) (by decide)]
 rfl
theorem rds_parse : Ybu rdsB = .ok rdsD:=by
 obtain ⟨T, e, h⟩:=rds_all
 have ht : ZyQ T ZxO = .ok { top:=⟨1, (kE, kE), [], [rdsE], kE, []⟩, rest:=[], nodes:=2, done:=true }:=Yh9 (by rw [e]; exact rds_takes)
 unfold Ybu
 rw [h]
 simp only
 rw [ht]
 rfl
def rdsW : List UInt8:=[60, 110, 49, 58, 97, 32, 120, 109, 108, 110, 115, 58, 110, 49, 61, 34, 117, 34, 32, 98, 61, 34, 49, 34, 62, 120, 38, 108, 116, 59, 38, 97, 109, 112, 59, 60, 47, 110, 49, 58, 97, 62, 10]
theorem rds_pfx {P : List ByteArray} (ha : SAsc P) (h : ∀ s, s ∈ P ↔ s ∈ rdsD.spc /\ s ≠ Zys) : P = [kU]:=by
 refine sasc_uniq ha (pairwise_singleton _ _) fun s => ?_
 rw [h s]
 have e : rdsD.spc = [kU]:=by decide
 rw [e, mem_singleton]
 exact ⟨fun hx => hx.1, fun hx => ⟨hx, by rw [hx]; decide⟩⟩
theorem rds_write : Zq7 [kU] rdsD.kids = rdsW:=by
 have e1 : Yh0 1 = [49]:=by unfold Yh0; rw [dif_pos (by decide)]; decide
 have e2 : Ycf 0 = [110, 49]:=by unfold Ycf; rw [e1]
 have e3 : ZzW [kU] (kU, kA) = [110, 49, 58, 97]:=by
  unfold ZzW
  rw [if_neg (by decide), if_neg (by decide), show Yb2 [kU] kU = 0 by decide, e2]; rfl
 have e4 : ZzW [kU] (nameOf (kE, kB1, k1)) = [98]:=by
  unfold ZzW
  rw [if_pos (by rfl)]; rfl
 unfold rdsD rdsE
 simp only [Nd.kids, Zq7, Zy3, ZyL, Zxq, declW, Zqi, attrW, e2, e3, e4]
 decide
end Go.Vc
end
section
namespace Go.Proofs.YtglnmjflpkeclaaGreatDoor
open Go Go.Vc
theorem c_tree_Equal {a : Int} {b c : ByteArray} {d : Option Addr} {e f : Nat} {g : Option Addr} {i j : Nat} {k : ByteArray} {l : Int} {m n : ByteArray} {o : Option Addr} {p q : Nat} {r : Option Addr} {s t : Nat} {u : ByteArray} {w : World} {J : Bool -> World -> Prop} (h :
 newB w (.cells ⟨[.int .i64 a, .string b, .string c, .slice d e f, .slice g i j, .string k]⟩ Zz5) fun v x =>
 newB x (.cells ⟨[.int .i64 l, .string m, .string n, .slice o p q, .slice r s t, .string u]⟩ Zz5) fun y z =>
 Zzf (fun (a3 : Bool) (a4 : World) =>
 J a3 a4) fun aa =>
 ldI .i64 z ⟨v, 0, none⟩ fun ab =>
 ldI .i64 z ⟨y, 0, none⟩ fun ac =>
 Zz1 (ab == ac) (
 ldStr z ⟨v, 1, none⟩ fun ad =>
 ldStr z ⟨v, 2, none⟩ fun ae =>
 ldStr z ⟨y, 1, none⟩ fun af =>
 ldStr z ⟨y, 2, none⟩ fun ag =>
 Zz1 ((ad.toList == af.toList) && ((ae.toList == ag.toList) && true)) (
 ldStr z ⟨v, 5, none⟩ fun ai =>
 ldStr z ⟨y, 5, none⟩ fun aj =>
 Zz1 (ai.toList == aj.toList) (
 ldS z ⟨v, 3, none⟩ fun ak al am =>
 ldS z ⟨y, 3, none⟩ fun an ao ap =>
 Zz0 Tryz.prog Zya #[.slice ak al am, .slice an ao ap] z [.one .bool] fun aq ar =>
 Zz1 aq (
 ldS ar ⟨v, 4, none⟩ fun au av ax =>
 ldS ar ⟨y, 4, none⟩ fun ay az a0 =>
 Zz0 Tryz.prog ZzF #[.slice au av ax, .slice ay az a0, .func (.func 8) #[] #[]] ar [.one .bool] fun a1 a2 =>
 aa a1 a2) (
 aa false ar)) (
 aa false z)) (
 aa false z)) (
 aa false z)) : Zz0 Tryz.prog YbH #[.agg ⟨[.int .i64 a, .string b, .string c, .slice d e f, .slice g i j, .string k]⟩, .agg ⟨[.int .i64 l, .string m, .string n, .slice o p q, .slice r s t, .string u]⟩] w [.one .bool] J:=Zz3 Tryz.func8 (.s .o (.j [(4, .bool)] .o .o)) (Eq.mpr (by kernel_rfl) h)
theorem Yau {a : Option Addr} {b c : Nat} {d : Option Addr} {e f : Nat} {w : World} {J : Bool -> World -> Prop} (h :
 Zz1 ((b : Int) != (e : Int)) (
 J false w) (
 ∃ p : Int -> World -> Nat -> Prop, (∃ q, p (0 : Int) w q) /\ ∀ r s q, p r s q -> (
 Zz1 (decide (r < (b : Int))) (
 ZzS a b r fun g =>
 ldStr s.drew ((g.add (r.toNat * 3))) fun i =>
 ldStr s.drew (((g.add (r.toNat * 3)).add 1)) fun j =>
 ldStr s.drew (((g.add (r.toNat * 3)).add 2)) fun k =>
 ZzS d e r fun l =>
 ldStr s.drew ((l.add (r.toNat * 3))) fun m =>
 ldStr s.drew (((l.add (r.toNat * 3)).add 1)) fun n =>
 ldStr s.drew (((l.add (r.toNat * 3)).add 2)) fun o =>
 Zz1 (!(((i.toList == m.toList) && ((j.toList == n.toList) && true)) && ((k.toList == o.toList) && true))) (
 J false s.drew) (
 ∃ t, t < q /\ p (w64 (r + (1 : Int))) s.drew t)) (
 J true s)))) : Zz0 Tryz.prog Zya #[.slice a b c, .slice d e f] w [.one .bool] J:=Zz3 Tryz.func23 (.s .o (.s (.s .o (.c (.s .o .o) .o)) (.s (.s .o (.b (.l [(13, .int .i64)] (.s .o (.s (.c .o .o) (.s (.b (.s .o (.s (.d (.take 0 (.take 1 (.take 2 (.take 3 (.take 4 (.take 5 (.take 6 (.take 7 (.take 8 .done)))))))))) (.c (.s .o .o) .o)))) .o)))))) (.s .o .o)))) (Eq.mpr (by kernel_rfl) h)
theorem Zyj {a : Option Addr} {b c : Nat} {d : Option Addr} {e f : Nat} {w : World} {J : Bool -> World -> Prop} (h :
 Zz1 ((b : Int) != (e : Int)) (
 J false w) (
 ∃ ba : Int -> World -> Nat -> Prop, (∃ bb, ba (0 : Int) w bb) /\ ∀ bc bd bb, ba bc bd bb -> (
 Zz1 (decide (bc < (b : Int))) (
 ZzS a b bc fun g =>
 ldI .i64 bd ((g.add (bc.toNat * 6))) fun i =>
 ldStr bd (((g.add (bc.toNat * 6)).add 1)) fun j =>
 ldStr bd (((g.add (bc.toNat * 6)).add 2)) fun k =>
 ldS bd (((g.add (bc.toNat * 6)).add 3)) fun l m n =>
 ldS bd (((g.add (bc.toNat * 6)).add 4)) fun o p q =>
 ldStr bd (((g.add (bc.toNat * 6)).add 5)) fun r =>
 newB bd (.cells (Zy2 Tryz.prog Zz5) Zz5) fun s t =>
 stN t ⟨s, 0, none⟩ ⟨[.int .i64 i, .string j, .string k, .slice l m n, .slice o p q, .string r]⟩ 6 fun u =>
 ZzS d e bc fun v =>
 ldI .i64 u ((v.add (bc.toNat * 6))) fun x =>
 ldStr u (((v.add (bc.toNat * 6)).add 1)) fun y =>
 ldStr u (((v.add (bc.toNat * 6)).add 2)) fun z =>
 ldS u (((v.add (bc.toNat * 6)).add 3)) fun aa ab ac =>
 ldS u (((v.add (bc.toNat * 6)).add 4)) fun ad ae af =>
 ldStr u (((v.add (bc.toNat * 6)).add 5)) fun ag =>
 newB u (.cells (Zy2 Tryz.prog Zz5) Zz5) fun ai aj =>
 stN aj ⟨ai, 0, none⟩ ⟨[.int .i64 x, .string y, .string z, .slice aa ab ac, .slice ad ae af, .string ag]⟩ 6 fun ak =>
 ldI .i64 ak ⟨s, 0, none⟩ fun al =>
 ldStr ak ⟨s, 1, none⟩ fun am =>
 ldStr ak ⟨s, 2, none⟩ fun an =>
 ldS ak ⟨s, 3, none⟩ fun ao ap aq =>
 ldS ak ⟨s, 4, none⟩ fun ar au av =>
 ldStr ak ⟨s, 5, none⟩ fun ax =>
 ldI .i64 ak ⟨ai, 0, none⟩ fun ay =>
 ldStr ak ⟨ai, 1, none⟩ fun az =>
 ldStr ak ⟨ai, 2, none⟩ fun a0 =>
 ldS ak ⟨ai, 3, none⟩ fun a1 a2 a3 =>
 ldS ak ⟨ai, 4, none⟩ fun a4 a5 a6 =>
 ldStr ak ⟨ai, 5, none⟩ fun a7 =>
 Zz0 Tryz.prog YbH #[.agg ⟨[.int .i64 al, .string am, .string an, .slice ao ap aq, .slice ar au av, .string ax]⟩, .agg ⟨[.int .i64 ay, .string az, .string a0, .slice a1 a2 a3, .slice a4 a5 a6, .string a7]⟩] ak [.one .bool] fun a8 a9 =>
 Zz1 (!a8) (
 J false a9) (
 ∃ be, be < bb /\ ba (w64 (bc + (1 : Int))) a9 be)) (
 J true bd)))) : Zz0 Tryz.prog ZzF #[.slice a b c, .slice d e f, .func (.func 8) #[] #[]] w [.one .bool] J:=Zz3 Tryz.func24 (.s .o (.s (.s .o (.c (.s .o .o) .o)) (.s (.s .o (.b (.l [(17, .int .i64)] (.s .o (.s (.c .o .o) (.s (.b (.s .o (.s .o (.s .o (.c (.s .o .o) .o))))) .o)))))) (.s .o .o)))) (Eq.mpr (by kernel_rfl) h)
end Go.Proofs.YtglnmjflpkeclaaGreatDoor
end
section
namespace Go.Proofs.YtglnmjflpkeclaaGreatDoor
open Go Go.Vc Go.Lib
section
variable {w : World}
theorem EqAttrs_ok {p q : Option Addr} {l c l2 c2 : Nat} {X Y : List At} {J : Bool -> World -> Prop} (h : Sl w p l 3 (rows atc X)) (h2 : Sl w q l2 3 (rows atc Y)) (hm : l <= 1000000000) (k : ∀ w', Chg No w w' -> J (decide (X = Y)) w') :
  Zz0 Tryz.prog Zya #[.slice p l c, .slice q l2 c2] w [.one .bool] J:=by
 refine Yau ?_
 have hl:=h.row (YaK X) (by decide)
 have hl2:=h2.row (YaK Y) (by decide)
 refine Zzi (fun hne => ?_) (fun he => ?_)
 ·have e : decide (X = Y) = false:=decide_eq_false fun e => hne (by rw [<- hl, <- hl2, e])
  rw [e] at k; exact k w (Chg.refl _ _)
 have hll : l = l2:=by omega
 subst hll
 refine ⟨fun x w' t => ∃ i : Nat, x = i /\ i <= l /\ t = l - i /\ Chg No w w' /\ ∀ k, k < i -> pf X k = pf Y k, ⟨_, 0, rfl, Nat.zero_le _, rfl, Chg.refl _ _, fun k h => by omega⟩, ?_⟩
 rintro x w' t ⟨i, rfl, hi, rfl, hc, hs⟩
 have hcd:=hc.drew
 refine Zz4 (fun hlt => ?_) (fun hge => ?_)
 ·refine at_i (h.chg hcd (off_no _)) (n:=i) rfl (by omega) fun a e0 e1 e2 => ZzB e0 (ZzB e1 (ZzB e2 ?_))
  refine at_i (h2.chg hcd (off_no _)) (n:=i) rfl (by omega) fun a' f0 f1 f2 => ZzB f0 (ZzB f1 (ZzB f2 ?_))
  simp only [Ycl, Bool.and_true]
  refine Zzm (fun hf => ?_) (fun ht => ?_)
  ·have e : decide (X = Y) = false:=decide_eq_false fun e => by
    rw [e] at hf; simp at hf
   rw [e] at k; exact k _ hcd
  ·refine ⟨_, by omega, i + 1, by rw [Zzb] <;> omega, by omega, rfl, hcd, fun k hk => ?_⟩
   by_cases e : k = i
   ·subst e
    simp only [Bool.and_eq_true, decide_eq_true_eq] at ht
    exact Prod.ext ht.1.1 (Prod.ext ht.1.2 ht.2)
   ·exact hs k (by omega)
 ·have e : decide (X = Y) = true:=decide_eq_true (by
   apply ext_getElem?
   intro k
   by_cases hk : k < l
   ·rw [YeS (by omega), YeS (by omega), hs k (by omega)]
   ·rw [getElem?_eq_none (by omega), getElem?_eq_none (by omega)])
  rw [e] at k; exact k w' hc
theorem Equal_ok : ∀ (x y : NV) {w : World} {J : Bool -> World -> Prop}, x.Ok w -> y.Ok w -> x.mea <= 100000000 -> (∀ r w', (r = true ↔ x.nd = y.nd) -> Chg No w w' -> J r w') -> Zz0 Tryz.prog YbH #[.agg ⟨x.cells⟩, .agg ⟨y.cells⟩] w [.one .bool] J:=by
 intro x
 induction x using NV.ind with
 | h k u l t ap al ac ats kp kl kc ks ih =>
  intro y w J hx hy hm K
  cases y with
  | mk k' u' l' t' ap' al' ac' ats' kp' kl' kc' ks' =>
  have hE : (NV.mk k u l t ap al ac ats kp kl kc ks).nd = (NV.mk k' u' l' t' ap' al' ac' ats' kp' kl' kc' ks').nd ↔ k = k' /\ u = u' /\ l = l' /\ t = t' /\ ats = ats' /\ ks.map NV.nd = ks'.map NV.nd:=by rw [Ydm, Ydm, Nd.mk.injEq]
  cases hx with
  | mk ha hn hac hk hkn hkc hks =>
  cases hy with
  | mk ha' hn' hac' hk' hkn' hkc' hks' =>
  have hkl:=hk.row (Zzw ks) (by decide)
  have hkl':=hk'.row (Zzw ks') (by decide)
  have hal:=ha.row (YaK ats) (by decide)
  have hlm:=YbC ks
  have hla:=YbZ ats
  have hmm : NV.meaL ks <= 100000000 /\ al <= 100000000:=by simp only [NV.mea] at hm; omega
  refine c_tree_Equal ?_
  refine (Hp.start w No).newB fun b2 w1 H1 hb2 hc1 => ?_
  refine H1.newB fun b3 w2 H2 hb3 hc2 => ?_
  simp only [Zzf]
  have K0 : ∀ w', Chg No w w' -> ¬ (NV.mk k u l t ap al ac ats kp kl kc ks).nd = (NV.mk k' u' l' t' ap' al' ac' ats' kp' kl' kc' ks').nd -> J false w':=fun w' hc hne => K false w' ⟨fun h => (by cases h), fun h => absurd h hne⟩ hc
  refine H2.ldI 1 rfl (off:=0) rfl ?_
  refine H2.ldI 0 rfl (off:=0) rfl ?_
  refine Zzd (fun e1 => ?_) (fun h => K0 w2 H2.chg fun e => h (hE.1 e).1)
  refine H2.ldStr 1 rfl (off:=1) rfl ?_
  refine H2.ldStr 1 rfl (off:=2) rfl ?_
  refine H2.ldStr 0 rfl (off:=1) rfl ?_
  refine H2.ldStr 0 rfl (off:=2) rfl ?_
  simp only [Ycl, Bool.and_true]
  refine Zz9 (fun e2 => ?_) (fun hf => K0 w2 H2.chg fun e => ?_)
  rotate_left
  ·obtain ⟨_, h1, h2, _⟩:=hE.1 e
   rw [decide_eq_true h1, decide_eq_true h2] at hf; cases hf
  rw [Bool.and_eq_true, decide_eq_true_eq, decide_eq_true_eq] at e2
  refine H2.ldStr 1 rfl (off:=5) rfl ?_
  refine H2.ldStr 0 rfl (off:=5) rfl ?_
  refine Zz4 (fun e3 => ?_) (fun h => K0 w2 H2.chg fun e => h (hE.1 e).2.2.2.1)
  refine H2.ldS 1 rfl (off:=3) rfl ?_
  refine H2.ldS 0 rfl (off:=3) rfl ?_
  refine EqAttrs_ok (ha.chg H2.chg (off_no _)) (ha'.chg H2.chg (off_no _)) (by omega) fun w6 hc6 => ?_
  have H6:=H2.step0 hc6
  refine Zz4 (fun e4 => ?_) (fun h => K0 w6 H6.chg fun e => h (hE.1 e).2.2.2.2.1)
  refine H6.ldS 1 rfl (off:=4) rfl ?_
  refine H6.ldS 0 rfl (off:=4) rfl ?_
  refine Zyj ?_
  refine Zzi (fun hne => K0 w6 H6.chg fun e => ?_) (fun hll => ?_)
  ·have e6:=congrArg length (hE.1 e).2.2.2.2.2
   rw [length_map, length_map, hkl, hkl'] at e6
   omega
  have hll' : kl = kl':=by omega
  refine ⟨fun i w' m => ∃ q : Nat, i = q /\ q <= kl /\ m = kl - q /\ Chg No w w' /\ (ks.map NV.nd).take q = (ks'.map NV.nd).take q, ⟨_, 0, rfl, Nat.zero_le _, rfl, H6.chg, by simp⟩, ?_⟩
  rintro i w7 m ⟨q, rfl, hq, rfl, hc7, hpre⟩
  refine Zz4 (fun hlt => ?_) (fun hge => ?_)
  ·refine ZzT (hk.chg hc7 (off_no _)) (Zzw ks) (by decide) (by omega) hlt fun a y1 _ hy1 hcs1 => ?_
   have hy1' : ks[q]? = some y1:=hy1
   have hm1:=mem_of_getElem? hy1'
   have hmea:=Yf8 hm1
   have t1 : (ks.map NV.nd).take (q + 1) = (ks.map NV.nd).take q ++ [y1.nd]:=Yaf (by rw [getElem?_map, hy1']; rfl)
   have g1 : (ks.map NV.nd)[q]? = some y1.nd:=by rw [getElem?_map, hy1']; rfl
   have ih1 := @ih y1 hm1
   have ok1:=hks y1 hm1
   cases y1 with
   | mk yk yu yl yt yap yal yac yas ykp ykl ykc yks =>
   refine Ydl (Hp.start w7 No) hcs1 fun b8 w8 H8 hb8 hc8 => ?_
   have c08:=hc7.trans0 hc8
   refine ZzT (hk'.chg c08 (off_no _)) (Zzw ks') (by decide) (by omega) (by omega) fun a' y2 _ hy2 hcs2 => ?_
   have hy2' : ks'[q]? = some y2:=hy2
   have hm2:=mem_of_getElem? hy2'
   have t2 : (ks'.map NV.nd).take (q + 1) = (ks'.map NV.nd).take q ++ [y2.nd]:=Yaf (by rw [getElem?_map, hy2']; rfl)
   have g2 : (ks'.map NV.nd)[q]? = some y2.nd:=by rw [getElem?_map, hy2']; rfl
   have ok2:=hks' y2 hm2
   cases y2 with
   | mk zk zu zl zt zap zal zac zas zkp zkl zkc zks =>
   refine Ydl H8 hcs2 fun b9 w9 H9 hb9 hc9 => ?_
   refine YcC H9 1 rfl ?_
   refine YcC H9 0 rfl ?_
   have c09:=c08.trans0 hc9
   refine ih1 (NV.mk zk zu zl zt zap zal zac zas zkp zkl zkc zks) (ok1.chg0 c09) (ok2.chg0 c09) (by omega) fun r w5 hr hc5 => ?_
   refine Zzm (fun hf => ?_) (fun ht => ?_)
   ·refine K0 w5 (c09.trans0 hc5) fun e => ?_
    have e6:=(hE.1 e).2.2.2.2.2
    rw [e6, g2] at g1
    rw [hr.2 (Option.some.inj g1).symm] at hf; cases hf
   ·exact ⟨_, by omega, q + 1, by rw [Zzb] <;> omega, by omega, rfl, c09.trans0 hc5, by rw [t1, t2, hpre, hr.1 ht]⟩
  ·have hqk : q = kl:=by omega
   rw [take_of_length_le (by rw [length_map]; omega), take_of_length_le (by rw [length_map]; omega)] at hpre
   exact K true w7 ⟨fun _ => hE.2 ⟨e1, e2.1, e2.2, e3, e4, hpre⟩, fun _ => rfl⟩ hc7
end
end Go.Proofs.YtglnmjflpkeclaaGreatDoor
end
section
namespace Go.Proofs.YtglnmjflpkeclaaGreatDoor
open Go Go.Vc Go.Lib Go.Shelf
structure TP (w : World) : Prop where
 tt : TT w
 p10 : P10 w
theorem pow_eq : Rows.laid_internal_strconv_uint64pow10 (H:=Unit) = tabData .u64 Lib.pow10Tab:=by kernel_rfl
theorem p10_of_reads {W : World} (h : VarReads Tryz.prog W "internal/strconv.uint64pow10" (tabData .u64 Lib.pow10Tab)) : P10 W:=by
 obtain ⟨g, t, cs, fuel, p, hg, hty, hvar, hd⟩:=h
 have n : Tryz.prog.globalNamed "internal/strconv.uint64pow10" = some 6:=by kernel_rfl
 have y : (Tryz.prog.globals[6]?).map (·.type) = some T_20_uint64:=by kernel_rfl
 obtain rfl:=Option.some.inj (n.symm.trans hg)
 obtain rfl:=Option.some.inj (y.symm.trans hty)
 have hcs:=cells_of_tab (n:=20) (e:=T_uint64) (by kernel_rfl) (by kernel_rfl) (by kernel_rfl) (by kernel_rfl) hd
 unfold P10 TabIs
 rw [hvar, <- hcs]
theorem tp_of_laid {W : World} (h : laidMet Tryz.prog [("math/bits.deBruijn32tab", Rows.laid_math_bits_deBruijn32tab), ("math/bits.deBruijn64tab", Rows.laid_math_bits_deBruijn64tab), ("internal/strconv.uint64pow10", Rows.laid_internal_strconv_uint64pow10), ("unicode/utf8.acceptRanges", Rows.laid_unicode_utf8_acceptRanges), ("unicode.asciiFold", Rows.laid_unicode_asciiFold), ("unicode.caseOrbit", Rows.laid_unicode_caseOrbit), ("unicode.CaseRanges", Rows.laid_unicode_CaseRanges), ("unicode/utf8.first", Rows.laid_unicode_utf8_first)] W) (hs : W.ShapedOpen Tryz.prog) : TP W :=
 ⟨⟨utf8Tabs_of_readsT (ρ:=ren8) u8Types u8Extra (first_eq ▸ laidMet.reads h (by simp)) (accept_eq ▸ laidMet.reads h (by simp)),
  fold_of_reads (fold_eq ▸ laidMet.reads h (by simp)), maxl_of_shape hs⟩, p10_of_reads (pow_eq ▸ laidMet.reads h (by simp))⟩
section
variable {w : World}
theorem rd_sl_uint8 : Rd Tryz.prog w Zzj BV.cells (fun b => b.Ok w):=Rd.bytes (e:=Zzs) (by kernel_rfl) (by kernel_rfl) (by kernel_rfl) (by kernel_rfl)
end
end Go.Proofs.YtglnmjflpkeclaaGreatDoor
end
section
namespace Go.Proofs.YtglnmjflpkeclaaGreatDoor
open Go Go.Vc Go.Lib Go.Shelf
section
variable {w : World}
def zeroNV : NV := .mk 0 kE kE kE none 0 0 [] none 0 0 []
theorem zero_ok (w : World) : zeroNV.Ok w := .mk (⟨rfl, .inl rfl⟩) (fun _ => rfl) (Nat.le_refl _) (⟨rfl, .inl rfl⟩) (fun _ => rfl) (Nat.le_refl _) (by simp)
theorem YfT {p : Option Addr} {l c : Nat} {bs : List UInt8} {J : Int -> ByteArray -> ByteArray -> Option Addr -> Nat -> Nat -> Option Addr -> Nat -> Nat -> ByteArray -> Int -> Int -> World -> Prop} (T : TT w) (h : Bytes w p l bs) (hlc : l <= c)
  (K : ∀ (v : NV) at_ (e : Int) w', v.Ok w' -> (e = 0 -> Ybu bs = .ok v.nd) -> (e ≠ 0 -> (∃ a, Ybu bs = .error (a, e)) /\ v = zeroNV) -> Chg No w w' -> v.giv (fun a b c p l d1 q m n t w => J a b c p l d1 q m n t at_ e w) w') :
  Zz0 Tryz.prog ZxB #[.slice p l c] w [.agg [.int .i64, .str, .str, .slice, .slice, .str], .one (.int .i64), .one (.int .i64)] J:=by
 refine Parse_ok T h hlc (fun at_ e he hne w' hc => ?_) (fun v hv w' hown _ _ hc => ?_)
 ·exact K zeroNV at_ e w' (zero_ok w') (fun h0 => absurd h0 hne) (fun _ => ⟨⟨_, he⟩, rfl⟩) hc
 ·exact K v 0 0 w' hown.ok (fun _ => hv) (fun h => absurd rfl h) hc
theorem nodePut {w0 : World} {S : Nat -> Prop} {Γ : List Blk} (H : Hp w0 S w Γ) {k0 : Int} {u0 l0 t0 : ByteArray} {ap kp : Option Addr} {al ac kl kc : Nat}
  {K : Nat -> World -> Prop} (k : ∀ b w', Hp w0 S w' (⟨b, [.int .i64 k0, .string u0, .string l0, .slice ap al ac, .slice kp kl kc, .string t0], Zz5⟩ :: Γ) -> w.heap.size <= b -> Chg No w w' -> K b w') :
  newB w (.cells (Zy2 Tryz.prog Zz5) Zz5) fun b w1 => stN w1 ⟨b, 0, none⟩ ⟨[.int .i64 k0, .string u0, .string l0, .slice ap al ac, .slice kp kl kc, .string t0]⟩ 6 fun w2 => K b w2:=by
 rw [YcW]
 refine H.newB fun b w1 H1 hb hc1 => ?_
 refine H1.stN 0 rfl (off:=0) rfl (by simp) (Zqe (.mk k0 u0 l0 t0 ap al ac [] kp kl kc [])) fun w2 H2 hc2 => ?_
 simp only [set_cons_zero] at H2
 exact k b w2 H2 hb (hc1.trans hc2 fun x hx e => by subst e; omega)
theorem right_check {d : Nd} (h : Right d) : YgA d = 0:=YhS.2 h
theorem WriteU_ok {x : NV} {J : Option Addr -> Nat -> Nat -> Int -> World -> Prop} (T : TT w) (T10 : P10 w) (hx : x.Ok w) (hm : x.mea <= 10000000) (hR : Right x.nd)
  (K : ∀ (P : List ByteArray) p l c g w', SAsc P -> (∀ s, s ∈ P ↔ s ∈ x.nd.spc /\ s ≠ Zys) -> P.length <= 10000000 -> ((g = 6 /\ 65536 < (Zq7 P x.nd.kids).length) \/ (g = 0 /\ (Zq7 P x.nd.kids).length <= 65536 /\ Bytes w' p l (Zq7 P x.nd.kids) /\ l <= c /\ l = (Zq7 P x.nd.kids).length)) -> Chg No w w' -> J p l c g w') :
  Zz0 Tryz.prog Zql #[.agg ⟨x.cells⟩] w [.one .slice, .one (.int .i64)] J:=by
 refine Write_ok T T10 hx hm (fun w' hne _ => absurd (right_check hR) hne) (fun P w' _ ha hm hl hb hc => K P none 0 0 6 w' ha hm hl (.inl ⟨rfl, hb⟩) hc) (fun P b c w' _ ha hm hl hb hbt hc0 _ hc => ?_)
 exact K P _ _ _ 0 w' ha hm hl (.inr ⟨rfl, hb, hbt, hc0, rfl⟩) hc
theorem Yhp {bs : List UInt8} {v : NV} (h : Ybu bs = .ok v.nd) : v.mea <= 10000000:=by
 have:=(Yho h).2
 rw [mea_nd] at this; omega
theorem reads_ok {J : Bool -> World -> Prop} (T : TT w) (T10 : P10 w) (K : ∀ w', Chg No w w' -> J true w') : Zz0 Tryz.prog Yek #[] w [.one .bool] J:=by
 refine c_top_reads ?_
 refine litB (bs:=rdsB) (n:=42) rfl fun b w1 hB _ hc1 => ?_
 refine YfT (T.chg hc1) hB (Nat.le_refl _) fun v at_ e w2 hv h0 h1 hc2 => ?_
 have he : e = 0:=by
  by_cases h : e = 0
  ·exact h
  ·obtain ⟨⟨a, ha⟩, _⟩:=h1 h
   rw [rds_parse] at ha; cases ha
 subst he
 have hp:=h0 rfl
 have hR:=(Yho hp).1
 have hmea:=Yhp hp
 have hnd : v.nd = rdsD:=by rw [rds_parse] at hp; exact (Except.ok.inj hp).symm
 have hc02:=hc1.trans0 hc2
 obtain ⟨k, u, lo, t, ap, al, ac, ats, kp, kl, kc, ks⟩:=v
 simp only [NV.giv]
 refine nodePut (Hp.of_chg hc02) fun b1 w3 H3 _ hc3 => ?_
 refine YcC H3 0 rfl ?_
 have hc03:=hc02.trans0 hc3
 refine WriteU_ok (x := .mk k u lo t ap al ac ats kp kl kc ks) (T.chg hc03) (T10.chg0 hc03) (hv.chg0 hc3) hmea hR fun P p l c g w4 ha hm hl hg hc4 => ?_
 have hc04:=hc03.trans0 hc4
 rw [hnd] at hm hg
 have hP:=rds_pfx ha hm
 subst hP
 rw [rds_write] at hg
 rcases hg with ⟨_, hg⟩ | ⟨rfl, _, hbt, hlc, hl⟩
 ·exact absurd hg (by decide)
 refine Zz7 fun J0 hJ0 => ?_
 refine Zzd (fun _ => ?_) (fun h => absurd rfl h)
 refine Zzd (fun _ => ?_) (fun h => absurd rfl h)
 refine Zq2 hbt ?_
 rw [hJ0]
 have e : ((⟨rdsW.toArray⟩ : ByteArray).toList == (⟨#[60, 110, 49, 58, 97, 32, 120, 109, 108, 110, 115, 58, 110, 49, 61, 34, 117, 34, 32, 98, 61, 34, 49, 34, 62, 120, 38, 108, 116, 59, 38, 97, 109, 112, 59, 60, 47, 110, 49, 58, 97, 62, 10]⟩ : ByteArray).toList) = true:=by
  rw [Ycl]; exact decide_eq_true rfl
 rw [e]
 exact K w4 hc04
end
end Go.Proofs.YtglnmjflpkeclaaGreatDoor
end
section
namespace Go.Vc
open Go Go.Lib
theorem lns_mem : ∀ (p : Bool) (s : List UInt8), ∀ x ∈ lns p s, x ∈ s \/ x = 10
 | _, [], x, h => by simp [lns] at h
 | p, b :: r, x, h => by
  rw [Yb4, mem_append] at h
  rcases h with h | h
  ·unfold chunk at h
   split at h
   ·exact .inr (by simpa using h)
   ·split at h
    ·cases h
    ·exact .inl (by rw [mem_singleton.1 h]; simp)
  ·rcases lns_mem _ r x h with h | h
   ·exact .inl (by simp [h])
   ·exact .inr h
theorem rd_byte {y : List UInt8} (hy : y ≠ []) (hk : (rd y).2 ≠ 0) {c : UInt8} (hc : c.toNat < 128) (h : (rd y).1 = c.toNat) : c ∈ y:=by
 obtain ⟨h1, _⟩:=Yd0 hy hk
 rw [h] at h1
 have : YeN c.toNat = [c]:=by unfold YeN; rw [if_pos hc]; simp
 rw [this] at h1
 have : c ∈ y.take (rd y).2:=by rw [<- h1]; simp
 exact mem_of_mem_take this
theorem read_raw : ∀ (n : Nat) (y : List UInt8), y.length <= n -> Zxd y -> (60 : UInt8) ∉ y -> (38 : UInt8) ∉ y -> ∀ (i : Nat) (out : List UInt8), (ZyB true i y out).2.2 = 0 /\ (ZyB true i y out).1.length = out.length + y.length
 | 0, y, h, _, _, _, i, out => by
  have : y = []:=eq_nil_of_length_eq_zero (by omega)
  subst this; rw [Yba]; simp
 | n + 1, y, h, hf, h60, h38, i, out => by
  by_cases hy : y = []
  ·subst hy; rw [Yba]; simp
  obtain ⟨hk, hch, hd⟩:=Yep hy hf
  have n60 : (rd y).1 ≠ 60:=fun e => h60 (rd_byte hy hk (c:=60) (by decide) e)
  have n38 : (rd y).1 ≠ 38:=fun e => h38 (rd_byte hy hk (c:=38) (by decide) e)
  have hle:=Yfy y hy
  have st : (Zyf true y).2.2 = 0 /\ (Zyf true y).2.1 = (rd y).2 /\ (Zyf true y).1.length = (rd y).2:=by
   unfold Zyf
   rw [if_neg hk, if_neg (by rw [hch]; decide), if_neg (by rintro (e | ⟨e, _⟩); exact n60 e; cases e), if_neg n38]
   by_cases h5 : true = true /\ ((rd y).1 = 9 \/ (rd y).1 = 10 \/ (rd y).1 = 13)
   ·rw [if_pos h5]
    refine ⟨rfl, rfl, ?_⟩
    obtain ⟨e1, _⟩:=Yd0 hy hk
    have : (YeN (rd y).1).length = (rd y).2:=by rw [e1, length_take]; omega
    rw [enc_le (by rcases h5.2 with e | e | e <;> omega)] at this
    exact this
   ·rw [if_neg h5]
    obtain ⟨e1, _⟩:=Yd0 hy hk
    exact ⟨rfl, rfl, by rw [e1, length_take]; omega⟩
  rw [YcZ hy st.1, st.2.1]
  have hlen:=length_pos_iff.2 hy
  obtain ⟨a, b⟩:=read_raw n (y.drop (rd y).2) (by rw [length_drop]; omega) hd (fun e => h60 (mem_of_mem_drop e)) (fun e => h38 (mem_of_mem_drop e)) (i + (rd y).2) (out ++ (Zyf true y).1)
  refine ⟨a, ?_⟩
  rw [b, length_append, st.2.2, length_drop]
  omega
theorem pairR_raw {q p l s : List UInt8} (x : List UInt8) (h : QN q p l) (h34 : (34 : UInt8) ∉ s) (hr : (ZyB true 0 s []).2.2 = 0) : YeL (q ++ 61 :: 34 :: (s ++ 34 :: x)) = .ok ((mkB q, mkB (ZyB true 0 s []).1), x):=by
 unfold YeL
 rw [YbA h (Ya2 (by decide) (by decide))]
 simp only
 rw [equals_of]
 simp only
 rw [quoted_of _ h34]
 simp only
 rw [if_neg (by rw [hr]; decide)]
theorem pairs_one {q p l r2 : List UInt8} {v : Pr} {x : List UInt8} (h : QN q p l) (hp : YeL (q ++ x) = .ok (v, r2)) (n : Nat) : ZxE (n + 1) (32 :: (q ++ x)) [] = ZxE n r2 [v]:=by
 rw [ZxE, Yf3 (by decide), skip_name h, if_neg (by rw [Yg1 h (by decide) (by decide)]; decide), if_neg (by rw [Yg1 h (by decide) (by decide)]; decide), if_neg (by simp), hp]
 simp
def ZqS (lo px u : List UInt8) : List UInt8:=60 :: (lo ++ 32 :: (ZzX ++ px ++ 61 :: 34 :: (u ++ [34, 62])))
def Ybi (lo : List UInt8) : List UInt8:=60 :: 47 :: (lo ++ [62])
theorem tok_head (first : Bool) {lo px s : List UInt8} (hl : nm lo = true) (hp : nm px = true) (h34 : (34 : UInt8) ∉ s) (hr : (ZyB true 0 s []).2.2 = 0) (x : List UInt8) :
  Yez first (ZqS lo px s ++ x) = .ok (⟨2, 0, mkB lo, [(mkB (ZzX ++ px), mkB (ZyB true 0 s []).1)], kE, 0⟩, x):=by
 have hq : QN lo [] lo:=⟨hl, .inl ⟨rfl, rfl⟩⟩
 have hx : QN (ZzX ++ px) [120, 109, 108, 110, 115] px:=⟨hp, .inr ⟨YeC, by simp [ZzX]⟩⟩
 have e : ZqS lo px s ++ x = 60 :: (lo ++ 32 :: ((ZzX ++ px) ++ 61 :: 34 :: (s ++ 34 :: 62 :: x))):=by simp [ZqS]
 rw [e]
 have hh : ∀ (b : UInt8) (w y : List UInt8), b.toNat < 128 -> nmC true b.toNat = false -> (b :: w).isPrefixOf (lo ++ y) = false:=fun b w y h1 h2 => Yg1 hq h1 h2
 unfold Yez
 rw [if_neg (fun hx => by simp only [isPrefixOf, beq_self_eq_true, Bool.true_and, hh 63 _ _ (by decide) (by decide)] at hx; exact absurd hx.2.1 (by decide))]
 rw [if_neg (by simp only [isPrefixOf, beq_self_eq_true, Bool.true_and, hh 33 _ _ (by decide) (by decide)]; decide)]
 rw [if_neg (by simp only [isPrefixOf, beq_self_eq_true, Bool.true_and, hh 33 _ _ (by decide) (by decide)]; decide)]
 rw [if_neg (by simp only [isPrefixOf, beq_self_eq_true, Bool.true_and, hh 33 _ _ (by decide) (by decide)]; decide)]
 rw [if_neg (by simp only [isPrefixOf, beq_self_eq_true, Bool.true_and, hh 33 _ _ (by decide) (by decide)]; decide)]
 rw [if_neg (by simp only [isPrefixOf, beq_self_eq_true, Bool.true_and, hh 63 _ _ (by decide) (by decide)]; decide)]
 rw [if_neg (by simp only [isPrefixOf, beq_self_eq_true, Bool.true_and, hh 47 _ _ (by decide) (by decide)]; decide)]
 rw [if_pos (by simp [isPrefixOf])]
 rw [drop_succ_cons, drop_zero, YbA hq (Ya2 (by decide) (by decide))]
 simp only
 rw [pairs_one hx (pairR_raw (62 :: x) hx h34 hr), fin_open _ _ _ (by simp)]
structure OuterS (lo : List UInt8) (s : PSt) : Prop where
 rest : s.rest = [ZxO.top]
 nodes : s.nodes = 1
 done : s.done = false
 kids : s.top.kids = []
 raw : s.top.raw = mkB lo
 kind : s.top.kind = 2
 dflt : (Zzl s.top.binds kE).1 = kE
theorem outer_begin {lo px : List UInt8} {v : ByteArray} (hp : nm px = true) {s : PSt} (h : YaX (mkB lo) [(mkB (ZzX ++ px), v)] ZxO = .ok s) : OuterS lo s /\ v.size <= 100:=by
 have hq : QN (ZzX ++ px) [120, 109, 108, 110, 115] px:=⟨hp, .inr ⟨YeC, by simp [ZzX]⟩⟩
 have hdecl : decl (mkB (ZzX ++ px), v) = some (mkB px):=by
  unfold decl
  simp only
  rw [ZzH, hq.spl]
  simp only
  refine Eq.trans (if_neg (fun e => ?_)) (if_pos ⟨trivial, rfl⟩)
  have e1 : ZzX ++ px = [120, 109, 108, 110, 115]:=Ybk (e.trans Yd2.symm)
  have:=congrArg length e1
  simp [ZzX] at this
 have hpE : mkB px ≠ kE:=fun e => YbX hp (Ybk (e.trans mkB_kE.symm))
 have hop : (ZyD [(mkB (ZzX ++ px), v)] [] []).2 = 0 -> ZyD [(mkB (ZzX ++ px), v)] [] [] = (putP [] (mkB px) v, 0) /\ v.size <= 100:=by
  intro h0
  unfold ZyD at h0 ⊢
  rw [hdecl] at h0 ⊢
  simp only at h0 ⊢
  by_cases hw : Yco (mkB px) v ≠ 0
  ·rw [if_pos hw] at h0; exact absurd h0 hw
  rw [if_neg hw, if_neg (by simp [memB])]
  refine ⟨rfl, ?_⟩
  have hw:=Decidable.not_not.1 hw
  unfold Yco at hw
  split at hw
  ·cases hw
  ·split at hw
   ·cases hw
   ·split at hw
    ·cases hw
    ·omega
 unfold YaX at h
 have hb : ZxO.top.binds = []:=rfl
 rw [hb] at h
 split at h
 ·cases h
 split at h
 ·cases h
 split at h
 ·cases h
 next h3 =>
 obtain ⟨e, hv⟩:=hop (Decidable.not_not.1 h3)
 split at h
 ·cases h
 split at h
 ·cases h
 split at h
 ·cases h
 split at h
 ·cases h
 simp only [Except.ok.injEq] at h
 refine ⟨?_, hv⟩
 rw [<- h]
 refine ⟨rfl, rfl, rfl, rfl, rfl, rfl, ?_⟩
 simp only
 rw [e]
 unfold Zzl
 rw [if_neg (by decide)]
 have : (putP [] (mkB px) v).find? (fun b => decide (b.1 = kE)) = none:=by
  rw [find?_eq_none]
  intro b hb
  unfold putP at hb
  simp only [filter_nil, nil_append] at hb
  split at hb
  ·rw [mem_singleton.1 hb]; simpa using hpE
  ·cases hb
 rw [this]
theorem clr_takes : ∀ {T : List TokQ} {s s' : PSt}, ZyQ T s = .ok s' -> ZyQ (T.map clr) s = .ok s'
 | [], _, _, h => h
 | t :: T, s, s', h => by
  rw [map_cons, ZyQ, YgF, take1_clr]
  rw [ZyQ, YgF] at h
  cases h1 : Zxe t s with
  | error e => rw [h1] at h; simp at h
  | ok s1 =>
   rw [h1] at h
   simp only at h ⊢
   by_cases h2 : 2000 < s1.nodes
   ·rw [if_pos h2] at h; simp at h
   ·rw [if_neg h2] at h ⊢
    exact clr_takes h
mutual
theorem deep_of : ∀ (n : Nd) (a : Nat), n.depth + a <= 33 -> Ych (a : Nat) n = false
 | .mk k u l t ats ks, a, h => by
  rw [Nd.depth] at h
  rw [Ych]
  split
  ·rw [if_neg (by omega)]
   have:=deepL_of ks (a + 1) (by omega)
   push_cast at this
   exact this
  ·exact deepL_of ks a (by omega)
theorem deepL_of : ∀ (ks : List Nd) (a : Nat), Nd.depthL ks + a <= 33 -> Yer (a : Nat) ks = false
 | [], _, _ => rfl
 | x :: r, a, h => by
  rw [Nd.depthL] at h
  rw [Yer, deep_of x a (by omega), deepL_of r a (by omega)]; rfl
end
theorem plain_head {lo px u x : List UInt8} (hl : nm lo = true) (hp : nm px = true) (h13 : (13 : UInt8) ∉ x) : Zyv (ZqS lo px u ++ x) = ZqS lo px (lns false u) ++ x:=by
 have hnb : bomL.isPrefixOf (ZqS lo px u ++ x) = false:=by simp [bomL, ZqS, isPrefixOf]
 have n13 : ∀ {a : List UInt8}, nm a = true -> (13 : UInt8) ∉ a:=fun h => (YeH h).2
 have eq1 : ∀ v : List UInt8, ZqS lo px v ++ x = (60 :: (lo ++ 32 :: (ZzX ++ px ++ [61, 34]))) ++ (v ++ (34 :: 62 :: x)):=fun v => by simp [ZqS]
 unfold Zyv
 rw [hnb, if_neg (by decide), eq1, eq1]
 have a13 : (13 : UInt8) ∉ 60 :: (lo ++ 32 :: (ZzX ++ px ++ [61, 34])):=by
  have h1:=n13 hl
  have h2:=n13 hp
  simp [h1, h2, ZzX]
 rw [lns_joins (fun h => a13 (mem_of_getElem? h.1)), YgU _ a13, lns_joins (fun h => by simp at h), YgU (34 :: 62 :: x) (by simp [h13])]
theorem fine_raw {lo px s x : List UInt8} (h : Zxd (ZqS lo px s ++ x)) : Zxd s:=by
 have e : ZqS lo px s ++ x = (60 :: (lo ++ 32 :: (ZzX ++ px ++ [61]))) ++ 34 :: (s ++ 34 :: (62 :: x)):=by simp [ZqS]
 rw [e] at h
 exact YgX (c:=34) (d:=34) (w:=[]) (by decide) (by decide) h
theorem fine_headL {lo px s x : List UInt8} (hl : nm lo = true) (hp : nm px = true) (hs : Zxd s) (hx : Zxd x) : Zxd (ZqS lo px s ++ x):=by
 have e : ZqS lo px s ++ x = [60] ++ (lo ++ ([32] ++ (ZzX ++ (px ++ ([61, 34] ++ (s ++ ([34, 62] ++ x))))))):=by simp [ZqS]
 rw [e]
 exact Zqs (Zqr (by decide)) (Zqs (nm_fine hl) (Zqs (Zqr (by decide)) (Zqs (Zqr (by decide)) (Zqs (nm_fine hp) (Zqs (Zqr (by decide)) (Zqs hs (Zqs (Zqr (by decide)) hx)))))))
theorem clean_tail {lo : List UInt8} (hl : nm lo = true) : Clean (Ybi lo):=by
 have e : Ybi lo = [60, 47] ++ (lo ++ [62]):=by simp [Ybi]
 rw [e]
 exact ZzZ (Zx5 (by decide)) (ZzZ (YeH hl) (Zx5 (by decide)))
theorem take_open {lo px : List UInt8} {v : ByteArray} {s : PSt} (h : YaX (mkB lo) [(mkB (ZzX ++ px), v)] ZxO = .ok s) : Zxe ⟨2, 0, mkB lo, [(mkB (ZzX ++ px), v)], kE, 0⟩ ZxO = .ok s:=by
 unfold Zxe
 simp only
 rw [if_neg (by decide), if_neg (by decide), if_neg (by decide), if_pos trivial]
 exact h
theorem take_close {lo : List UInt8} {s : PSt} (hr : s.rest ≠ []) (hw : s.top.raw = mkB lo) : Zxe ⟨3, 0, mkB lo, [], kE, 0⟩ s = .ok (Yc9 s):=by
 unfold Zxe
 simp only
 rw [if_neg (by decide), if_neg (by decide), if_neg (by decide), if_neg (by decide), if_neg (by decide), if_pos trivial, if_neg (by simp [hr, hw])]
theorem pieces {P : List ByteArray} {e : Nd} {lo px u : List UInt8} {x : Nd} (hP : PfxOk2 P) (hg : Ycn e) (hs : SpcP P e) (hk : e.kind = 2) (hl : nm lo = true) (hp : nm px = true) (hu : ∀ b ∈ u, b ≠ 34 /\ b ≠ 60 /\ b ≠ 38)
  (hw : (Zy3 P true e).length <= 30000) (hd : e.depth <= 30) (hz : e.size <= 1900) (h : Ybu (ZqS lo px u ++ Ybi lo) = .ok x) :
  ∃ o : Opn, o.kids = [] /\ x.kids = [o.nd] /\ ∃ y, Ybu (ZqS lo px u ++ (Zy3 P true e ++ Ybi lo)) = .ok y /\ y.kids = [(o.add e).nd]:=by
 have hu2 : ∀ b ∈ lns false u, b ≠ 34 /\ b ≠ 60 /\ b ≠ 38:=by
  intro b hb
  rcases lns_mem false u b hb with h | h
  ·exact hu b h
  ·subst h; decide
 have n34 : (34 : UInt8) ∉ lns false u:=fun h => (hu2 34 h).1 rfl
 have n60 : (60 : UInt8) ∉ lns false u:=fun h => (hu2 60 h).2.1 rfl
 have n38 : (38 : UInt8) ∉ lns false u:=fun h => (hu2 38 h).2.2 rfl
 have hct:=clean_tail hl
 have hcn:=(clean_node hP.ok e hg hs (.inl hk) true).1
 have hqc : QN lo [] lo:=⟨hl, .inl ⟨rfl, rfl⟩⟩
 have hlo : lo.length <= 100:=by simp only [nm, Bool.and_eq_true, decide_eq_true_eq] at hl; exact hl.1.1.2
 have hpx : px.length <= 100:=by simp only [nm, Bool.and_eq_true, decide_eq_true_eq] at hp; exact hp.1.1.2
 -- the empty one
 unfold Ybu at h
 split at h
 ·cases h
 next L hL =>
 unfold allR at hL
 split at hL
 ·cases hL
 next hlen =>
 split at hL
 ·cases hL
 next hfl =>
 rw [plain_head hl hp hct.2] at hL hfl
 have hfa : Zxd (ZqS lo px (lns false u) ++ Ybi lo):=by unfold Zxd; omega
 have hfs:=fine_raw hfa
 obtain ⟨hr0, hrl⟩:=read_raw _ (lns false u) (Nat.le_refl _) hfs n60 n38 0 []
 rw [length_nil, Nat.zero_add] at hrl
 generalize hv : (ZyB true 0 (lns false u) []).1 = v at hrl
 have t1 : ∀ (first : Bool) (z : List UInt8), Yez first (ZqS lo px (lns false u) ++ z) = .ok (⟨2, 0, mkB lo, [(mkB (ZzX ++ px), mkB v)], kE, 0⟩, z):=fun first z => by
  rw [<- hv]; exact tok_head first hl hp n34 hr0 z
 have t2 : ∀ (first : Bool), Yez first (Ybi lo) = .ok (⟨3, 0, mkB lo, [], kE, 0⟩, []):=fun first => Yh6 first hqc []
 have hne : ∀ z : List UInt8, ZqS lo px (lns false u) ++ z ≠ []:=fun z => by simp [ZqS]
 have hL2 : L.map clr = [⟨2, 0, mkB lo, [(mkB (ZzX ++ px), mkB v)], kE, 0⟩, ⟨3, 0, mkB lo, [], kE, 0⟩]:=by
  obtain ⟨k, hk⟩ : ∃ k, (ZqS lo px (lns false u) ++ Ybi lo).length + 1 = k + 1 + 1 + 1:=⟨_, by simp only [ZqS, Ybi, length_append, length_cons]; exact rfl⟩
  rw [hk, Zqd (hne _) (fun f => t1 f _), Zqd (by simp [Ybi]) t2, Ybh, if_pos rfl] at hL
  simp only [Except.ok.injEq] at hL
  rw [<- hL]; rfl
 split at h
 ·cases h
 next s hts =>
 have hts2:=clr_takes hts
 rw [hL2] at hts2
 split at h
 ·cases h
 next hrest =>
 split at h
 ·cases h
 next hdone =>
 simp only [Except.ok.injEq] at h
 -- the opening
 cases hbeg : YaX (mkB lo) [(mkB (ZzX ++ px), mkB v)] ZxO with
 | error er =>
  exfalso
  have : Zxe ⟨2, 0, mkB lo, [(mkB (ZzX ++ px), mkB v)], kE, 0⟩ ZxO = .error er:=by
   unfold Zxe
   simp only
   rw [if_neg (by decide), if_neg (by decide), if_neg (by decide), if_pos trivial]
   exact hbeg
  rw [ZyQ, YgF, this] at hts2
  simp at hts2
 | ok s1 =>
  obtain ⟨hO, hv100⟩:=outer_begin hp hbeg
  rw [Zyi] at hv100
  have hrn : s1.rest ≠ []:=by rw [hO.rest]; simp
  have n1 : (Yc9 s1).nodes = 1:=by
   unfold Yc9
   rw [hO.rest]
   exact hO.nodes
  rw [ZyJ (take_open hbeg) (by rw [hO.nodes]; decide), ZyJ (take_close hrn hO.raw) (by rw [n1]; decide)] at hts2
  have es : Yc9 s1 = s:=by simpa [ZyQ] using hts2
  refine ⟨s1.top, hO.kids, ?_, ?_⟩
  ·rw [<- h, <- es]
   unfold Yc9
   rw [hO.rest]
   rfl
  -- with the other one in it
  have hsz:=Yhc e
  have hc2 : Clean (Zy3 P true e ++ Ybi lo):=ZzZ hcn hct
  have hTn:=(clean_node hP.ok e hg hs (.inl hk) true).2
  have hW1 : 3 <= (Ybi lo).length:=by simp only [Ybi, length_cons, length_append, length_nil]; omega
  have hUl : u.length <= 201:=by
   have:=lns_half false u
   simp at this
   omega
  generalize hM : (ZqS lo px (lns false u) ++ (Zy3 P true e ++ Ybi lo)).length = m
  obtain ⟨k, hk2⟩ : ∃ k, m + 1 = k + 1 + 1 + (Ybg P true e).length + 1:=⟨m - (Ybg P true e).length - 2, by rw [length_append, length_append] at hM; omega⟩
  obtain ⟨T, eT, f⟩:=toks_node m hP.ok e hg hs (.inl hk) true (k + 1 + 1) ([] ++ [{ (⟨2, 0, mkB lo, [(mkB (ZzX ++ px), mkB v)], kE, 0⟩ : TokQ) with at_:=m - (ZqS lo px (lns false u) ++ (Zy3 P true e ++ Ybi lo)).length }]) (Ybi lo) (fun h3 => by rw [hk] at h3; cases h3)
  have hTl : T.length = (Ybg P true e).length:=by have:=congrArg length eT; rwa [length_map] at this
  have hall : ∃ A, A.map clr = ⟨2, 0, mkB lo, [(mkB (ZzX ++ px), mkB v)], kE, 0⟩ :: (Ybg P true e ++ [⟨3, 0, mkB lo, [], kE, 0⟩]) /\ allR (ZqS lo px u ++ (Zy3 P true e ++ Ybi lo)) = .ok A:=by
   unfold allR
   have hbig : ¬ 65536 < (ZqS lo px u ++ (Zy3 P true e ++ Ybi lo)).length:=by
    simp only [ZqS, Ybi, ZzX, length_cons, length_append, length_nil]
    omega
   rw [if_neg hbig, plain_head hl hp hc2.2]
   have hfn : Zxd (ZqS lo px (lns false u) ++ (Zy3 P true e ++ Ybi lo)):=fine_headL hl hp hfs hc2.1
   rw [if_neg (by unfold Zxd at hfn; omega), hM, hk2, <- hTl, Zqd (hne _) (fun f => t1 f _), f, Zqd (by simp [Ybi]) t2, Ybh, if_pos rfl]
   refine ⟨_, ?_, rfl⟩
   simp only [nil_append, map_append, map_cons, map_nil, eT, singleton_append]
   rfl
  obtain ⟨A, eA, hA⟩:=hall
  have hend : ZyQ (A.map clr) ZxO = .ok (Yc9 { top:=s1.top.add e, rest:=s1.rest, nodes:=s1.nodes + e.flat.length, done:=s1.done || (decide (e.kind = 2) && s1.rest.isEmpty) }):=by
   rw [eA, ZyJ (take_open hbeg) (by rw [hO.nodes]; decide), take_node hP e hg hs (.inl hk) true s1 _ (fun h => by cases h) hO.dflt (fun _ h => hrn h.1) (fun h3 => by rw [hk] at h3; cases h3) (by
    rw [hO.rest]
    exact deep_of e 1 (by omega)) (by rw [hO.nodes]; omega)]
   rw [ZyJ (take_close (s:={ top:=s1.top.add e, rest:=s1.rest, nodes:=s1.nodes + e.flat.length, done:=s1.done || (decide (e.kind = 2) && s1.rest.isEmpty) }) hrn hO.raw) (by
    unfold Yc9
    simp only
    rw [hO.rest]
    simp only
    rw [hO.nodes]; omega)]
   rfl
  refine ⟨(ZxO.top.add (s1.top.add e).nd).nd, ?_, rfl⟩
  unfold Ybu
  rw [hA]
  simp only
  rw [Yh9 hend]
  simp only
  unfold Yc9
  simp only
  rw [hO.rest]
  simp only
  rw [if_neg (by simp), if_neg (by simp)]
end Go.Vc
end
section
namespace Go.Proofs.YtglnmjflpkeclaaGreatDoor
open Go Go.Vc Go.Lib Go.Shelf
section
variable {w : World}
theorem zero_mea : zeroNV.mea <= 10000000:=by decide
theorem topsW_one {P : List ByteArray} (e : Nd) : Zq7 P [e] = Zy3 P true e ++ [10]:=by simp [Zq7]
theorem kid_one {k : Int} {u l t : ByteArray} {ap : Option Addr} {al ac : Nat} {ats : List At} {kp : Option Addr} {kl kc : Nat} {ks : List NV} (h : (NV.mk k u l t ap al ac ats kp kl kc ks).Ok w) : ks.length = kl /\ Sl w kp kl 6 (rows NV.cells ks) /\ ∀ x ∈ ks, x.Ok w:=by
 cases h with
 | mk ha hn hac hk hkn hkc hks => exact ⟨hk.row (fun x _ => cells6 x) (by decide), hk, hks⟩
theorem nd_one {ks : List NV} {n : Nd} (h : NV.ndL ks = [n]) : ∃ x, ks = [x] /\ x.nd = n:=by
 match ks, h with
 | [], h => simp [NV.ndL] at h
 | [x], h => exact ⟨x, rfl, by simpa [NV.ndL] using h⟩
 | x :: y :: r, h => simp [NV.ndL] at h
theorem WriteV_ok {x : NV} {J : Option Addr -> Nat -> Nat -> Int -> World -> Prop} (T : TT w) (T10 : P10 w) (hx : x.Ok w) (hm : x.mea <= 10000000)
  (K : ∀ p l c (g : Int) w', (g = 0 -> Right x.nd /\ ∃ P : List ByteArray, PfxOk2 P /\ SpcP P x.nd /\ Bytes w' p l (Zq7 P x.nd.kids) /\ l <= c /\ l = (Zq7 P x.nd.kids).length) -> Chg No w w' -> J p l c g w') :
  Zz0 Tryz.prog Zql #[.agg ⟨x.cells⟩] w [.one .slice, .one (.int .i64)] J:=by
 refine Write_ok T T10 hx hm (fun w' hne hc => K _ _ _ _ w' (fun h => absurd h hne) hc) (fun P w' _ ha hm hl hb hc => K none 0 0 6 w' (fun h => absurd h (by decide)) hc) (fun P b c w' hR ha hm hl hb hbt hc0 _ hc => ?_)
 have:=right_pfx hR hm hl
 exact K _ _ _ 0 w' (fun _ => ⟨hR, P, this.1, this.2, hbt, hc0, rfl⟩) hc
theorem bl60 : bl ⟨#[60]⟩ = [60]:=rfl
theorem blX : bl ⟨#[32, 120, 109, 108, 110, 115, 58]⟩ = [32, 120, 109, 108, 110, 115, 58]:=rfl
theorem blQ : bl ⟨#[61, 34]⟩ = [61, 34]:=rfl
theorem blG : bl ⟨#[34, 62]⟩ = [34, 62]:=rfl
theorem blC : bl ⟨#[60, 47]⟩ = [60, 47]:=rfl
theorem blE : bl ⟨#[62]⟩ = [62]:=rfl
theorem TopPieces_ok {b : BV} {lo px u : ByteArray} (TP0 : TP w) (hb : b.Ok w) (hlo : InS lo) (hpx : InS px) (hu : InS u) : Zz0 Tryz.prog YdY #[.slice b.p b.l b.c, .string lo, .string px, .string u] w [.one .bool] fun r w' => r = true /\ Chg No w w':=by
  obtain ⟨T, T10⟩:=TP0
  unfold InS at hlo hpx hu
  refine YhY ?_
  refine reads_ok T T10 fun w1 hc1 => ?_
  refine Zz9 (fun h => by simp at h) fun _ => ?_
  refine YfT (T.chg hc1) (hb.is.chg hc1 (off_no _)) hb.cap fun d at1 e1 w2 hd d0 d1 hc2 => ?_
  have hc02:=hc1.trans0 hc2
  have dmea : d.mea <= 10000000:=by
    by_cases h : e1 = 0
    · exact Yhp (d0 h)
    · rw [(d1 h).2]; exact zero_mea
  obtain ⟨k1, u1, l1, t1, ap1, al1, ac1, ats1, kp1, kl1, kc1, ks1⟩:=d
  simp only [NV.giv]
  refine nodePut (Hp.of_chg hc02) fun b9 w3 H3 _ hc3 => ?_
  refine YcC H3 0 rfl ?_
  have hd3:=hd.chg0 hc3
  refine WriteV_ok (x := .mk k1 u1 l1 t1 ap1 al1 ac1 ats1 kp1 kl1 kc1 ks1) (T.chg H3.chg) (T10.chg0 H3.chg) hd3 dmea fun p l c g w4 hg hc4 => ?_
  have H4:=H3.step0 hc4
  refine Zz7 fun J71 hJ71 => ?_
  have k71 : ∀ w', Chg No w w' -> J71 true w':=fun w' hc => by
    rw [hJ71]; exact Zz9 (fun _ => ⟨trivial, hc⟩) (fun h => by simp at h)
  refine Zzi (fun _ => k71 _ H4.chg) (fun he1 => ?_)
  refine Zzi (fun _ => k71 _ H4.chg) (fun hg0 => ?_)
  refine Zz4 (fun _ => k71 _ H4.chg) (fun hl3 => ?_)
  refine NameR_ok (by omega) fun w5 hc5 => ?_
  have H5:=H4.step0 hc5
  refine Zzm (fun _ => k71 _ H5.chg) (fun hnl => ?_)
  refine NameR_ok (by omega) fun w6 hc6 => ?_
  have H6:=H5.step0 hc6
  refine Zzm (fun _ => k71 _ H6.chg) (fun hnp => ?_)
  refine ⟨_, _, _, H6.cell 0 rfl rfl, ?_⟩
  refine Zzi (fun _ => k71 _ H6.chg) (fun hk1 => ?_)
  have hd6:=((hd3.chg0 hc4).chg0 hc5).chg0 hc6
  refine YcC H6 0 rfl ?_
  refine Depth_ok (.mk k1 u1 l1 t1 ap1 al1 ac1 ats1 kp1 kl1 kc1 ks1) hd6 (by omega) fun w7 hc7 => ?_
  have H7:=H6.step0 hc7
  refine Zz4 (fun _ => k71 _ H7.chg) (fun hdep => ?_)
  refine YcC H7 0 rfl ?_
  refine Size_ok (.mk k1 u1 l1 t1 ap1 al1 ac1 ats1 kp1 kl1 kc1 ks1) (hd6.chg0 hc7) (by omega) fun w8 hc8 => ?_
  have H8:=H7.step0 hc8
  have hd8:=(hd6.chg0 hc7).chg0 hc8
  rw [hJ71]
  refine Zz4 (fun _ => ⟨trivial, H8.chg⟩) (fun hsz => ?_)
  clear k71 hJ71
  obtain ⟨hR, P, hP, hsp, hbt4, hlc, hll⟩:=hg hg0
  have hbt8:=((((hbt4.chg hc5 (off_no _)).chg hc6 (off_no _)).chg hc7 (off_no _)).chg hc8 (off_no _))
  obtain ⟨hkl1, hks1, hok1⟩:=kid_one hd8
  have hk1' : kl1 = 1:=by omega
  obtain ⟨de, rfl⟩ : ∃ x, ks1 = [x]:=by
    match ks1, hkl1 with
    | [x], _ => exact ⟨x, rfl⟩
    | [], h => simp at h; omega
    | _ :: _ :: _, h => simp at h; omega
  have hkids : (NV.mk k1 u1 l1 t1 ap1 al1 ac1 ats1 kp1 kl1 kc1 [de]).nd.kids = [de.nd]:=by simp [NV.nd, Nd.kids, NV.ndL]
  rw [hkids, topsW_one] at hbt8 hll
  have hgood : Ycn de.nd:=hR.good.kid (by rw [hkids]; simp)
  have hspe : SpcP P de.nd:=spc_kids hsp (by rw [hkids]; simp)
  have hke : de.nd.kind = 2:=by
    have:=hR.roots
    unfold Yhj at this
    rw [hkids] at this
    simpa using this
  have hdp : de.nd.depth <= 30:=by
    simp only [NV.nd, NV.ndL, Nd.depth, Nd.depthL] at hdep
    omega
  have hsz2 : de.nd.size <= 1900:=by
    simp only [NV.nd, NV.ndL, Nd.size, Nd.sizeL] at hsz
    omega
  have hwl : (Zy3 P true de.nd).length <= 30000:=by rw [List.length_append, List.length_singleton] at hll; omega
  refine ⟨fun x w' m => ∃ k : Nat, x = k /\ k <= u.size /\ m = u.size - k /\ w' = w8 /\ ∀ i, i < k -> ∀ c, (bl u)[i]? = some c -> c ≠ 34 /\ c ≠ 60 /\ c ≠ 38, ⟨_, 0, rfl, by omega, rfl, rfl, fun i hi => by omega⟩, ?_⟩
  rintro x w' m ⟨k, rfl, hk, rfl, rfl, hbefore⟩
  refine Zz4 (fun hlt => ?_) (fun hge => ?_)
  · refine Zz7 fun J92 hJ92 => ?_
    have j92 : J92 true w':=by rw [hJ92]; exact Zz9 (fun _ => ⟨trivial, H8.chg⟩) (fun h => by simp at h)
    refine YbE (by omega) hlt fun c hc => ?_
    rw [Int.toNat_natCast] at hc
    refine Zzd (fun _ => j92) (fun h34 => ?_)
    refine YbE (by omega) hlt fun c' hc' => ?_
    rw [Int.toNat_natCast, hc] at hc'
    obtain rfl:=Option.some.inj hc'
    refine Zzd (fun _ => j92) (fun h60 => ?_)
    refine YbE (by omega) hlt fun c' hc' => ?_
    rw [Int.toNat_natCast, hc] at hc'
    obtain rfl:=Option.some.inj hc'
    rw [hJ92]
    refine Zzd (fun _ => ⟨trivial, H8.chg⟩) (fun h38 => ?_)
    refine ⟨u.size - (k + 1), by omega, k + 1, by rw [Zzb] <;> omega, by omega, rfl, rfl, fun i hi c' hc' => ?_⟩
    by_cases hik : i = k
    · subst hik
      rw [hc] at hc'
      obtain rfl:=Option.some.inj hc'
      refine ⟨?_, ?_, ?_⟩ <;> rintro rfl
      · exact h34 rfl
      · exact h60 rfl
      · exact h38 rfl
    · exact hbefore i (by omega) c' hc'
  have hU : ∀ c ∈ bl u, c ≠ 34 /\ c ≠ 60 /\ c ≠ 38:=fun c hc => by
    obtain ⟨i, hi⟩:=List.mem_iff_getElem?.1 hc
    have:=(List.getElem?_eq_some_iff.1 hi).1
    rw [Zzn] at this
    exact hbefore i (by omega) c hi
  have hnl' : nm (bl lo) = true:=hnl
  have hnp' : nm (bl px) = true:=hnp
  have s1 : (⟨#[60]⟩ : ByteArray).size = 1:=rfl
  have s2 : (⟨#[32, 120, 109, 108, 110, 115, 58]⟩ : ByteArray).size = 7:=rfl
  have s3 : (⟨#[61, 34]⟩ : ByteArray).size = 2:=rfl
  have s4 : (⟨#[34, 62]⟩ : ByteArray).size = 2:=rfl
  have s5 : (⟨#[60, 47]⟩ : ByteArray).size = 2:=rfl
  have s6 : (⟨#[62]⟩ : ByteArray).size = 1:=rfl
  refine ⟨by simp only [size_append, s1, s2, s3, s4, s5, s6]; omega, by simp only [size_append, s1, s2, s3, s4, s5, s6]; omega, by simp only [size_append, s1, s2, s3, s4, s5, s6]; omega, by simp only [size_append, s1, s2, s3, s4, s5, s6]; omega, by simp only [size_append, s1, s2, s3, s4, s5, s6]; omega, by simp only [size_append, s1, s2, s3, s4, s5, s6]; omega, by simp only [size_append, s1, s2, s3, s4, s5, s6]; omega, by simp only [size_append, s1, s2, s3, s4, s5, s6]; omega, by simp only [size_append, s1, s2, s3, s4, s5, s6]; omega, ?_⟩
  refine cvBf fun bq cq w9 hq9 hcq _ hc9 => ?_
  have H9:=H8.step0 hc9
  simp only [YaM, bl60, blX, blQ, blG, blC, blE] at hq9
  have eH : [60] ++ bl lo ++ [32, 120, 109, 108, 110, 115, 58] ++ bl px ++ [61, 34] ++ bl u ++ [34, 62] ++ [60, 47] ++ bl lo ++ [62] = ZqS (bl lo) (bl px) (bl u) ++ Ybi (bl lo):=by simp [ZqS, Ybi, ZzX]
  rw [eH] at hq9
  refine YfT (T.chg H9.chg) hq9 hcq fun x at2 e2 w10 hx x0 x1 hc10 => ?_
  have H10:=H9.step0 hc10
  obtain ⟨k2, u2, l2, t2, ap2, al2, ac2, ats2, kp2, kl2, kc2, ks2⟩:=x
  simp only [NV.giv]
  refine nodePut H10 fun b16 w11 H11 _ hc11 => ?_
  refine Zz7 fun J121 hJ121 => ?_
  have j121 : J121 true w11:=by rw [hJ121]; exact Zz9 (fun _ => ⟨trivial, H11.chg⟩) (fun h => by simp at h)
  refine Zzi (fun _ => j121) (fun he2 => ?_)
  refine ⟨_, _, _, H11.cell 0 rfl rfl, ?_⟩
  have hpx2:=x0 he2
  obtain ⟨o, ho, hxk, y', hy', hyk⟩:=pieces hP hgood hspe hke hnl' hnp' hU hwl hdp hsz2 hpx2
  have hx11:=hx.chg0 hc11
  obtain ⟨hkl2, hks2, hok2⟩:=kid_one hx11
  simp only [NV.nd, Nd.kids] at hxk
  obtain ⟨xe, rfl, hxe⟩:=nd_one hxk
  have hkl2' : kl2 = 1:=by simpa using hkl2.symm
  rw [hJ121]
  refine Zzi (fun h => absurd (by omega) h) (fun _ => ?_)
  clear j121 hJ121
  have hbt11:=(((hbt8.chg hc9 (off_no _)).chg hc10 (off_no _)).chg hc11 (off_no _))
  have hl1 : 1 <= l:=by rw [hll]; simp
  refine cutB (i:=0) (j:=l - 1) hbt11 (by omega) (by omega) hlc rfl (by simp only [Option.getD_some]; rw [Zzb] <;> omega) fun q' hq' _ => ?_
  have ecut : ((Zy3 P true de.nd ++ [10]).drop 0).take (l - 1 - 0) = Zy3 P true de.nd:=by
    rw [List.drop_zero, hll, List.length_append, List.length_singleton, Nat.sub_zero, Nat.add_sub_cancel, List.take_left]
  rw [ecut] at hq'
  refine Zq2 hq' ?_
  have s7 : (⟨(Zy3 P true de.nd).toArray⟩ : ByteArray).size <= 30000:=by
    have : (⟨(Zy3 P true de.nd).toArray⟩ : ByteArray).size = (Zy3 P true de.nd).length:=Zyi _
    omega
  refine ⟨by simp only [size_append, s1, s2, s3, s4, s5, s6]; omega, by simp only [size_append, s1, s2, s3, s4, s5, s6]; omega, by simp only [size_append, s1, s2, s3, s4, s5, s6]; omega, by simp only [size_append, s1, s2, s3, s4, s5, s6]; omega, ?_⟩
  refine cvBf fun br cr w12 hq12 hcr _ hc12 => ?_
  have H12:=H11.step0 hc12
  have blW : bl ⟨(Zy3 P true de.nd).toArray⟩ = Zy3 P true de.nd:=ZzH _
  simp only [YaM, bl60, blX, blQ, blG, blC, blE, blW] at hq12
  have eH2 : [60] ++ bl lo ++ [32, 120, 109, 108, 110, 115, 58] ++ bl px ++ [61, 34] ++ bl u ++ [34, 62] ++ Zy3 P true de.nd ++ [60, 47] ++ bl lo ++ [62] = ZqS (bl lo) (bl px) (bl u) ++ (Zy3 P true de.nd ++ Ybi (bl lo)):=by simp [ZqS, Ybi, ZzX]
  rw [eH2] at hq12
  refine YfT (T.chg H12.chg) hq12 hcr fun y at3 e3 w13 hy y0 y1 hc13 => ?_
  have H13:=H12.step0 hc13
  have he3 : e3 = 0:=by
    by_cases h : e3 = 0
    · exact h
    · obtain ⟨⟨a, ha⟩, _⟩:=y1 h
      rw [hy'] at ha; cases ha
  subst he3
  have hpy:=y0 rfl
  rw [hy'] at hpy
  have ymea : y.mea <= 10000000:=Yhp (y0 rfl)
  obtain ⟨k3, u3, l3, t3, ap3, al3, ac3, ats3, kp3, kl3, kc3, ks3⟩:=y
  simp only [NV.giv]
  refine nodePut H13 fun b19 w14 H14 _ hc14 => ?_
  have hy14:=hy.chg0 hc14
  obtain ⟨hkl3, hks3, hok3⟩:=kid_one hy14
  rw [Except.ok.inj hpy] at hyk
  simp only [NV.nd, Nd.kids] at hyk
  obtain ⟨ye, rfl, hye⟩:=nd_one hyk
  have hkl3' : kl3 = 1:=by simpa using hkl3.symm
  have hyeok:=hok3 ye (by simp)
  obtain ⟨yk, yu, yl, yt, yap, yal, yac, yats, ykp, ykl, ykc, yks⟩:=ye
  obtain ⟨hkl4, hks4, hok4⟩:=kid_one hyeok
  have hyek : NV.ndL yks = [de.nd]:=by
    have:=congrArg Nd.kids hye
    simp only [NV.nd, Nd.kids, Opn.nd, Opn.add, ho, List.nil_append] at this
    exact this
  obtain ⟨yz, rfl, hyz⟩:=nd_one hyek
  have hkl4' : ykl = 1:=by simpa using hkl4.symm
  refine Zz7 fun J156 hJ156 => ?_
  refine Zzi (fun h => absurd rfl h) (fun _ => ?_)
  refine ⟨_, _, _, H14.cell 0 rfl rfl, ?_⟩
  refine Zzi (fun h => absurd (by omega) h) (fun _ => ?_)
  refine ⟨_, _, _, H14.cell 0 rfl rfl, ?_⟩
  refine ZzT hks3 (Zzw _) (by decide) (by decide) (by omega) fun a1 x1 hp1 hx1 hcl1 => ?_
  obtain rfl:=Option.some.inj hx1
  refine ⟨_, _, _, hcl1 4 _ rfl, ?_⟩
  rw [hJ156]
  refine Zzi (fun h => absurd (by omega) h) (fun _ => ?_)
  clear hJ156
  have H15:=H14.drew
  have hdr : Chg No w14 w14.drew:=(Chg.refl No w14).drew
  refine Zz7 fun J8 hJ8 => ?_
  refine ⟨_, _, _, H15.cell 0 rfl rfl, ?_⟩
  refine ZzT (hks3.chg hdr (off_no _)) (Zzw _) (by decide) (by decide) (by omega) fun a2 x2 hp2 hx2 hcl2 => ?_
  obtain rfl:=Option.some.inj hx2
  refine ⟨_, _, _, hcl2 4 _ rfl, ?_⟩
  refine ZzT (hks4.chg hdr (off_no _)) (Zzw _) (by decide) (by decide) (by omega) fun a3 x3 hp3 hx3 hcl3 => ?_
  obtain rfl:=Option.some.inj hx3
  have hyzok : yz.Ok w14.drew:=(hok4 yz (by simp)).chg0 hdr
  have hdeok : de.Ok w14.drew:=((((((hok1 de (by simp)).chg0 hc9).chg0 hc10).chg0 hc11).chg0 hc12).chg0 hc13).chg0 (hc14.trans0 hdr)
  have hks1':=(((((hks1.chg hc9 (off_no _)).chg hc10 (off_no _)).chg hc11 (off_no _)).chg hc12 (off_no _)).chg hc13 (off_no _)).chg (hc14.trans0 hdr) (off_no _)
  obtain ⟨zk, zu, zl, zt, zap, zal, zac, zats, zkp, zkl, zkc, zks⟩:=yz
  refine ⟨_, ZzG hcl3, _, hcl3 1 _ rfl, _, hcl3 2 _ rfl, _, _, _, hcl3 3 _ rfl, _, _, _, hcl3 4 _ rfl, _, hcl3 5 _ rfl, ?_⟩
  refine ⟨_, _, _, H15.cell 2 rfl rfl, ?_⟩
  refine ZzT hks1' (Zzw _) (by decide) (by decide) (by omega) fun a4 x4 hp4 hx4 hcl4 => ?_
  obtain rfl:=Option.some.inj hx4
  obtain ⟨vk, vu, vl, vt, vap, val, vac, vats, vkp, vkl, vkc, vks⟩:=de
  refine ⟨_, ZzG hcl4, _, hcl4 1 _ rfl, _, hcl4 2 _ rfl, _, _, _, hcl4 3 _ rfl, _, _, _, hcl4 4 _ rfl, _, hcl4 5 _ rfl, ?_⟩
  have zmea : (NV.mk zk zu zl zt zap zal zac zats zkp zkl zkc zks).mea <= 100000000:=by
    simp only [NV.mea, NV.meaL] at ymea ⊢
    omega
  refine Equal_ok (.mk zk zu zl zt zap zal zac zats zkp zkl zkc zks) (.mk vk vu vl vt vap val vac vats vkp vkl vkc vks) hyzok hdeok zmea fun r w16 hr hc16 => ?_
  have hrt : r = true:=hr.2 hyz
  subst hrt
  have H16:=H15.step0 hc16
  refine Zz9 (fun _ => ?_) (fun h => by simp at h)
  refine ⟨_, _, _, H16.cell 0 rfl rfl, ?_⟩
  refine ZzT ((hks3.chg hdr (off_no _)).chg hc16 (off_no _)) (Zzw _) (by decide) (by decide) (by omega) fun a5 x5 hp5 hx5 hcl5 => ?_
  obtain rfl:=Option.some.inj hx5
  refine ⟨_, hcl5 1 _ rfl, _, by simpa [Addr.add_add] using hcl5 2 _ rfl, ?_⟩
  refine ⟨_, _, _, H16.cell 1 rfl rfl, ?_⟩
  have hks2':=(((hks2.chg hc12 (off_no _)).chg hc13 (off_no _)).chg (hc14.trans0 hdr) (off_no _)).chg hc16 (off_no _)
  refine ZzT hks2' (Zzw _) (by decide) (by decide) (by omega) fun a6 x6 hp6 hx6 hcl6 => ?_
  obtain rfl:=Option.some.inj hx6
  obtain ⟨ek, eu, el, et, eap, eal, eac, eats, ekp, ekl, ekc, eks⟩:=xe
  refine ⟨_, hcl6 1 _ rfl, _, by simpa [Addr.add_add] using hcl6 2 _ rfl, ?_⟩
  rw [hJ8]
  have n1 : (yu, yl) = o.name:=by
    have h1:=congrArg Nd.uri hye
    have h2:=congrArg Nd.loc hye
    exact Prod.ext h1 h2
  have n2 : (eu, el) = o.name:=by
    have h1:=congrArg Nd.uri hxe
    have h2:=congrArg Nd.loc hxe
    exact Prod.ext h1 h2
  rw [<- n2] at n1
  simp only [Prod.mk.injEq] at n1
  rw [n1.1, n1.2]
  exact ⟨by simp, H16.chg⟩
end
end Go.Proofs.YtglnmjflpkeclaaGreatDoor
end
