/- What the statement needs, part 10. -/
import Derived.Test.YtjlgopfceebdcaaGreatDoorZ9
set_option linter.unusedSectionVars false
set_option linter.unusedVariables false
set_option linter.unusedSimpArgs false
set_option maxRecDepth 100000
open List
section
namespace Go.Vc
open Go Go.Lib
theorem apOk_of {d : Nd} {e : Ed} (h : (applyN d e).1 = 0) : ApOk d e (applyN d e).2 := apply_ok.1 ⟨h, rfl⟩
theorem apply_of {d n : Nd} {e : Ed} (h : ApOk d e n) : applyN d e = (0, n) := Prod.ext (apply_ok.2 h).1 (apply_ok.2 h).2
end Go.Vc
namespace Go.Proofs.YtjlgopfceebdcaaGreatDoor
open Go Go.Vc Go.Lib
section
variable {w w' : World}
end
end Go.Proofs.YtjlgopfceebdcaaGreatDoor
end
section
namespace Go.Proofs.YtjlgopfceebdcaaGreatDoor
open Go Go.Vc
theorem Yhb {a : Int} {b c : ByteArray} {d : Option Addr} {e f : Nat} {g : Option Addr} {i j : Nat} {k : ByteArray} {l : Option Addr} {m n : Nat} {o p : ByteArray} {w : World} {J : Bool -> World -> Prop} (h :
 newB w (.cells ⟨[.int .i64 a, .string b, .string c, .slice d e f, .slice g i j, .string k]⟩ Zz3) fun q r =>
 Zz1 Tryz.prog ZxM #[] r [.one .bool] fun s t =>
 Zz2 (!s) (
 J false t) (
 ∃ fa : Int -> World -> Nat -> Prop, (∃ fb, fa (0 : Int) t fb) /\ ∀ fc fd fb, fa fc fd fb -> (
 Zz2 (decide (fc < (p.size : Int))) (
 Zy9 p fc fun u =>
 Zz2 (u == (39 : Int)) (
 J true fd) (
 ∃ fe, fe < fb /\ fa (w64 (fc + (1 : Int))) fd fe)) (
 newB fd (.cells (Zy6 Tryz.prog Zzs) Zzs) fun v x =>
 stN x ⟨v, 0, none⟩ ⟨[.string ByteArray.empty, .string o]⟩ 2 fun y =>
 ldI .i64 y ⟨q, 0, none⟩ fun z =>
 ldStr y ⟨q, 1, none⟩ fun aa =>
 ldStr y ⟨q, 2, none⟩ fun ab =>
 ldS y ⟨q, 3, none⟩ fun ac ad ae =>
 ldS y ⟨q, 4, none⟩ fun af ag ai =>
 ldStr y ⟨q, 5, none⟩ fun aj =>
 ldStr y ⟨v, 0, none⟩ fun ak =>
 ldStr y ⟨v, 1, none⟩ fun al =>
 Array.size (⟨[.string ak, .string al]⟩ : Array Value) = 2 /\
 Zz1 Tryz.prog YaP #[.agg ⟨[.int .i64 z, .string aa, .string ab, .slice ac ad ae, .slice af ag ai, .string aj]⟩, .agg ⟨[.int .i64 4, .slice l m n, .string ak, .string al, .string p, .int .i64 0, .string ByteArray.empty, .string ByteArray.empty, .slice none 0 0, .slice none 0 0, .string ByteArray.empty]⟩] y [.agg [.int .i64, .str, .str, .slice, .slice, .str], .one (.int .i64)] fun am an ao ap aq ar au av ax ay az a0 =>
 newB a0 (.cells (Zy6 Tryz.prog Zz3) Zz3) fun a1 a2 =>
 stN a2 ⟨a1, 0, none⟩ ⟨[.int .i64 am, .string an, .string ao, .slice ap aq ar, .slice au av ax, .string ay]⟩ 6 fun a3 =>
 Zz2 (az != (0 : Int)) (
 J true a3) (
 ldI .i64 a3 ⟨a1, 0, none⟩ fun a4 =>
 ldStr a3 ⟨a1, 1, none⟩ fun a5 =>
 ldStr a3 ⟨a1, 2, none⟩ fun a6 =>
 ldS a3 ⟨a1, 3, none⟩ fun a7 a8 a9 =>
 ldS a3 ⟨a1, 4, none⟩ fun ba bb bc =>
 ldStr a3 ⟨a1, 5, none⟩ fun bd =>
 (((⟨#[47, 47, 42, 91, 64]⟩ : ByteArray).size + o.size : Nat) : Int) <= 9223372036854775807 /\
 ((((⟨#[47, 47, 42, 91, 64]⟩ : ByteArray) ++ o).size + (⟨#[61, 39]⟩ : ByteArray).size : Nat) : Int) <= 9223372036854775807 /\
 (((((⟨#[47, 47, 42, 91, 64]⟩ : ByteArray) ++ o) ++ (⟨#[61, 39]⟩ : ByteArray)).size + p.size : Nat) : Int) <= 9223372036854775807 /\
 ((((((⟨#[47, 47, 42, 91, 64]⟩ : ByteArray) ++ o) ++ (⟨#[61, 39]⟩ : ByteArray)) ++ p).size + (⟨#[39, 93]⟩ : ByteArray).size : Nat) : Int) <= 9223372036854775807 /\
 Zz1 Tryz.prog Yas #[.agg ⟨[.int .i64 a4, .string a5, .string a6, .slice a7 a8 a9, .slice ba bb bc, .string bd]⟩, .string (((((⟨#[47, 47, 42, 91, 64]⟩ : ByteArray) ++ o) ++ (⟨#[61, 39]⟩ : ByteArray)) ++ p) ++ (⟨#[39, 93]⟩ : ByteArray))] a3 [.one .slice, .one (.int .i64), .one (.int .i64)] fun be bf bg bi bj bk =>
 ldI .i64 bk ⟨a1, 0, none⟩ fun bl =>
 ldStr bk ⟨a1, 1, none⟩ fun bm =>
 ldStr bk ⟨a1, 2, none⟩ fun bn =>
 ldS bk ⟨a1, 3, none⟩ fun bo bp bq =>
 ldS bk ⟨a1, 4, none⟩ fun br bs bt =>
 ldStr bk ⟨a1, 5, none⟩ fun bu =>
 (((⟨#[47, 47, 42, 47, 64]⟩ : ByteArray).size + o.size : Nat) : Int) <= 9223372036854775807 /\
 Zz1 Tryz.prog Yas #[.agg ⟨[.int .i64 bl, .string bm, .string bn, .slice bo bp bq, .slice br bs bt, .string bu]⟩, .string ((⟨#[47, 47, 42, 47, 64]⟩ : ByteArray) ++ o)] bk [.one .slice, .one (.int .i64), .one (.int .i64)] fun bv bx bz b0 b1 b2 =>
 Zzl (fun (et : Bool) (eu : World) =>
 Zz2 et (
 J false eu) (
 ∃ ff : Bool -> Int -> World -> Nat -> Prop, (∃ fb, ff false (0 : Int) eu fb) /\ ∀ (ev : Bool) (ex : Int) (ey : World) (m_1 : Nat), ff ev ex ey m_1 -> (
 Zz2 (decide (ex < (bf : Int))) (
 Zzl (fun (ez : Bool) (e0 : World) =>
 ∃ fe, fe < m_1 /\ ff ez (w64 (ex + (1 : Int))) e0 fe) fun b3 =>
 ZyN be bf ex fun b4 =>
 ldS ey ((b4.add (ex.toNat * 4))) fun b5 b6 b7 =>
 ldB ey (((b4.add (ex.toNat * 4)).add 1)) fun b8 =>
 ldStr ey (((b4.add (ex.toNat * 4)).add 2)) fun b9 =>
 ldStr ey (((b4.add (ex.toNat * 4)).add 3)) fun ca =>
 newB ey (.cells (Zy6 Tryz.prog ZzD) ZzD) fun cb cc =>
 stN cc ⟨cb, 0, none⟩ ⟨[.slice b5 b6 b7, .bool b8, .string b9, .string ca]⟩ 4 fun cd =>
 Zz2 ev (
 b3 true cd) (
 ldS cd ⟨cb, 0, none⟩ fun ce cf cg =>
 Zz1 Tryz.prog Ya7 #[.slice ce cf cg, .slice l m n] cd [.one .bool] fun ci cj =>
 b3 ci cj)) (
 ∃ fg : Int -> Int -> World -> Nat -> Prop, (∃ fb, fg (0 : Int) (0 : Int) ey fb) /\ ∀ (e1 : Int) (e2 : Int) (e3 : World) (m_2 : Nat), fg e1 e2 e3 m_2 -> (
 Zz2 (decide (e2 < (bx : Int))) (
 Zzl (fun (e4 : Int) (e5 : World) =>
 ∃ fe, fe < m_2 /\ fg e4 (w64 (e2 + (1 : Int))) e5 fe) fun ck =>
 ZyN bv bx e2 fun cl =>
 ldS e3 ((cl.add (e2.toNat * 4))) fun cm cn co =>
 ldB e3 (((cl.add (e2.toNat * 4)).add 1)) fun cp =>
 ldStr e3 (((cl.add (e2.toNat * 4)).add 2)) fun cq =>
 ldStr e3 (((cl.add (e2.toNat * 4)).add 3)) fun cr =>
 newB e3 (.cells (Zy6 Tryz.prog ZzD) ZzD) fun cs ct =>
 stN ct ⟨cs, 0, none⟩ ⟨[.slice cm cn co, .bool cp, .string cq, .string cr]⟩ 4 fun cu =>
 ldI .i64 cu ⟨a1, 0, none⟩ fun cv =>
 ldStr cu ⟨a1, 1, none⟩ fun cx =>
 ldStr cu ⟨a1, 2, none⟩ fun cy =>
 ldS cu ⟨a1, 3, none⟩ fun cz c0 c1 =>
 ldS cu ⟨a1, 4, none⟩ fun c2 c3 c4 =>
 ldStr cu ⟨a1, 5, none⟩ fun c5 =>
 ldS cu ⟨cs, 0, none⟩ fun c6 c7 c8 =>
 ldB cu ⟨cs, 1, none⟩ fun c9 =>
 ldStr cu ⟨cs, 2, none⟩ fun da =>
 ldStr cu ⟨cs, 3, none⟩ fun db =>
 Zz1 Tryz.prog Ybt #[.agg ⟨[.int .i64 cv, .string cx, .string cy, .slice cz c0 c1, .slice c2 c3 c4, .string c5]⟩, .agg ⟨[.slice c6 c7 c8, .bool c9, .string da, .string db]⟩] cu [.one .str, .one (.int .i64)] fun dc dd de =>
 Zz2 (dd != (0 : Int)) (
 J false de) (
 Zz2 (dc.toList == p.toList) (
 ck (w64 (e1 + (1 : Int))) de) (
 ck e1 de))) (
 Zzl (fun (e6 : Bool) (e7 : World) =>
 Zz2 e6 (
 J false e7) (
 ldI .i64 e7 ⟨a1, 0, none⟩ fun df =>
 ldStr e7 ⟨a1, 1, none⟩ fun dg =>
 ldStr e7 ⟨a1, 2, none⟩ fun di =>
 ldS e7 ⟨a1, 3, none⟩ fun dj dk dl =>
 ldS e7 ⟨a1, 4, none⟩ fun dm dn dp =>
 ldStr e7 ⟨a1, 5, none⟩ fun dq =>
 ldStr e7 ⟨v, 0, none⟩ fun dr =>
 ldStr e7 ⟨v, 1, none⟩ fun ds =>
 Array.size (⟨[.string dr, .string ds]⟩ : Array Value) = 2 /\
 Zz1 Tryz.prog YaP #[.agg ⟨[.int .i64 df, .string dg, .string di, .slice dj dk dl, .slice dm dn dp, .string dq]⟩, .agg ⟨[.int .i64 5, .slice l m n, .string dr, .string ds, .string ByteArray.empty, .int .i64 0, .string ByteArray.empty, .string ByteArray.empty, .slice none 0 0, .slice none 0 0, .string ByteArray.empty]⟩] e7 [.agg [.int .i64, .str, .str, .slice, .slice, .str], .one (.int .i64)] fun dt du dv dx dy dz d0 d1 d2 d3 d4 d5 =>
 newB d5 (.cells (Zy6 Tryz.prog Zz3) Zz3) fun d6 d7 =>
 stN d7 ⟨d6, 0, none⟩ ⟨[.int .i64 dt, .string du, .string dv, .slice dx dy dz, .slice d0 d1 d2, .string d3]⟩ 6 fun d8 =>
 ldI .i64 d8 ⟨d6, 0, none⟩ fun d9 =>
 ldStr d8 ⟨d6, 1, none⟩ fun ea =>
 ldStr d8 ⟨d6, 2, none⟩ fun eb =>
 ldS d8 ⟨d6, 3, none⟩ fun ec ed ee =>
 ldS d8 ⟨d6, 4, none⟩ fun ef eg ei =>
 ldStr d8 ⟨d6, 5, none⟩ fun ej =>
 (((⟨#[47, 47, 42, 91, 64]⟩ : ByteArray).size + o.size : Nat) : Int) <= 9223372036854775807 /\
 ((((⟨#[47, 47, 42, 91, 64]⟩ : ByteArray) ++ o).size + (⟨#[61, 39]⟩ : ByteArray).size : Nat) : Int) <= 9223372036854775807 /\
 (((((⟨#[47, 47, 42, 91, 64]⟩ : ByteArray) ++ o) ++ (⟨#[61, 39]⟩ : ByteArray)).size + p.size : Nat) : Int) <= 9223372036854775807 /\
 ((((((⟨#[47, 47, 42, 91, 64]⟩ : ByteArray) ++ o) ++ (⟨#[61, 39]⟩ : ByteArray)) ++ p).size + (⟨#[39, 93]⟩ : ByteArray).size : Nat) : Int) <= 9223372036854775807 /\
 Zz1 Tryz.prog Yas #[.agg ⟨[.int .i64 d9, .string ea, .string eb, .slice ec ed ee, .slice ef eg ei, .string ej]⟩, .string (((((⟨#[47, 47, 42, 91, 64]⟩ : ByteArray) ++ o) ++ (⟨#[61, 39]⟩ : ByteArray)) ++ p) ++ (⟨#[39, 93]⟩ : ByteArray))] d8 [.one .slice, .one (.int .i64), .one (.int .i64)] fun ek el em en eo ep =>
 Zzl (fun (e8 : Bool) (e9 : World) =>
 J e8 e9) fun eq =>
 Zz2 (d4 == (0 : Int)) (
 Zz2 (eo == (0 : Int)) (
 eq ((el : Int) == (w64 ((bf : Int) - (1 : Int)))) ep) (
 eq false ep)) (
 eq false ep))) fun er =>
 Zz2 (!ev) (
 er true e3) (
 er (e1 != (bf : Int)) e3))))))) fun es =>
 Zz2 (bj != (0 : Int)) (
 es true b2) (
 es (b1 != (0 : Int)) b2)))))) : Zz1 Tryz.prog YaA #[.agg ⟨[.int .i64 a, .string b, .string c, .slice d e f, .slice g i j, .string k]⟩, .slice l m n, .string o, .string p] w [.one .bool] J := Zz6 Tryz.func3 (.s .o (.s (.s .o (.c (.s .o .o) .o)) (.s (.s .o (.b (.l [(36, .int .i64)] (.s .o (.s (.c .o .o) (.s (.b (.s .o (.s .o (.c (.s .o .o) .o)))) .o)))))) (.s .o (.s .o (.s (.s .o (.c (.s .o .o) .o)) (.s .o (.s .o (.s (.j [(82, .bool)] .o (.c (.s .o .o) .o)) (.s .o (.s (.s .o (.b (.l [(19, .bool), (85, .int .i64)] (.s .o (.s (.c .o .o) (.j [(19, .bool)] (.b (.s .o .o)) .o)))))) (.s (.s .o (.b (.l [(20, .int .i64), (99, .int .i64)] (.s .o (.s (.c .o .o) (.j [(20, .int .i64)] (.b (.s .o (.s .o (.s (.s .o (.c (.s .o .o) .o)) (.s .o (.c .o .o)))))) .o)))))) (.s (.j [(124, .bool)] .o (.c (.s .o .o) .o)) (.s .o (.s .o (.j [(8, .bool)] .o .o)))))))))))))))) (Eq.mpr (by kernel_rfl) h)
end Go.Proofs.YtjlgopfceebdcaaGreatDoor
end
section
namespace Go.Vc
open Go Go.Lib
theorem sz47 : (⟨#[47, 47, 42, 91, 64]⟩ : ByteArray).size = 5 := rfl
theorem sz48 : (⟨#[47, 47, 42, 47, 64]⟩ : ByteArray).size = 5 := rfl
theorem sz61 : (⟨#[61, 39]⟩ : ByteArray).size = 2 := rfl
theorem sz39 : (⟨#[39, 93]⟩ : ByteArray).size = 2 := rfl
theorem ldTrail {w : World} {a : Addr} {p : Option Addr} {l c : Nat} {b : Bool} {u n : ByteArray} (hc : Zzh w a [.slice p l c, .bool b, .string u, .string n]) {K : Option Addr -> Nat -> Nat -> Bool -> ByteArray -> ByteArray -> Prop} (k : K p l c b u n) :
  ldS w a fun p0 l0 c0 => ldB w (a.add 1) fun x1 => ldStr w (a.add 2) fun x2 => ldStr w (a.add 3) fun x3 => K p0 l0 c0 x1 x2 x3 :=
 ⟨_, _, _, ZzC hc, _, hc 1 _ rfl, _, hc 2 _ rfl, _, hc 3 _ rfl, k⟩
theorem boxTrail {w0 w : World} {S : Nat -> Prop} {Γ : List Blk} {bx : Nat} {e : TypeId} (H : Hp w0 S w Γ) (i : Nat) {p : Option Addr} {l c : Nat} {b : Bool} {u n : ByteArray} (hi : Γ[i]? = some ⟨bx, [.slice p l c, .bool b, .string u, .string n], e⟩)
  {K : Option Addr -> Nat -> Nat -> Bool -> ByteArray -> ByteArray -> Prop} (k : K p l c b u n) :
  ldS w ⟨bx, 0, none⟩ fun p0 l0 c0 => ldB w ⟨bx, 1, none⟩ fun x1 => ldStr w ⟨bx, 2, none⟩ fun x2 => ldStr w ⟨bx, 3, none⟩ fun x3 => K p0 l0 c0 x1 x2 x3 :=
 ⟨_, _, _, H.cell i hi rfl, _, H.cell i hi rfl, _, H.cell i hi rfl, _, H.cell i hi rfl, k⟩
end Go.Vc
namespace Go.Proofs.YtjlgopfceebdcaaGreatDoor
open Go Go.Vc Go.Lib
theorem YfP : Zy6 Tryz.prog ZzD = ⟨[.slice none 0 0, .bool false, .string ByteArray.empty, .string ByteArray.empty]⟩ := by kernel_rfl
theorem qtx_eqB (n v : ByteArray) : bl (((((⟨#[47, 47, 42, 91, 64]⟩ : ByteArray) ++ n) ++ (⟨#[61, 39]⟩ : ByteArray)) ++ v) ++ (⟨#[39, 93]⟩ : ByteArray)) = qTx (.all true false [.eq n v] :: Zxa none) := by
 rw [show (Sp.all true false [.eq n v] :: Zxa none) = [.all true false [.eq n v]] from rfl, qtx_eq]
 simp [bl, ByteArray.data_append]
theorem qtx_atB (n : ByteArray) : bl ((⟨#[47, 47, 42, 47, 64]⟩ : ByteArray) ++ n) = qTx (.all true false [] :: Zxa (some n)) := by
 rw [show (Sp.all true false [] :: Zxa (some n)) = [.all true false [], .attr n] from rfl, qtx_at]
 simp [bl, ByteArray.data_append]
section
variable {w w' : World}
set_option maxHeartbeats 4000000 in
set_option maxRecDepth 10000 in
theorem TopValues_go {d : NV} {pp : Option Addr} {pl pc : Nat} {zs : List Int} {name value : ByteArray} (T : TT w) (hd : d.Ok w) (hp : Sl w pp pl 1 (rows YbR zs)) (hpn : pp = none -> pl = 0) (hpc : pl <= pc) (hm : d.mea + pl + name.size + value.size <= 2000000) :
    Zz1 Tryz.prog YaA #[.agg ⟨d.cells⟩, .slice pp pl pc, .string name, .string value] w [.one .bool] fun r w' => r = true /\ Chg No w w' := by
  obtain ⟨D, hD⟩ : ∃ D, d.nd = D := ⟨_, rfl⟩
  obtain ⟨M0, hM0⟩ : ∃ M0, d.mea = M0 := ⟨_, rfl⟩
  rw [hM0] at hm
  have hpl : zs.length = pl := hp.row (fun _ _ => rfl) (by decide)
  cases d with
  | mk k u l t ap al ac ats kp kl kc ks =>
  refine Yhb ?_
  refine Zxc (Hp.start w No) fun b4 w1 H1 hb4 hc1 => ?_
  refine reads_ok (T.chg H1.chg).maxl fun w2 hc2 => ?_
  have H2 := H1.step0 hc2
  refine Zzd (fun h => absurd h (by decide)) (fun _ => ?_)
  refine ⟨fun i w' m => ∃ j : Nat, i = j /\ j <= value.size /\ m = value.size - j /\ w' = w2 /\ ∀ q, q < j -> (bl value)[q]? ≠ some 39, ⟨_, 0, rfl, Nat.zero_le _, rfl, rfl, by intro q hq; omega⟩, ?_⟩
  rintro i w3 m ⟨j, rfl, hj, rfl, rfl, hno⟩
  refine Zz5 (fun hlt => ?_) (fun hge => ?_)
  · refine Zqp (by omega) hlt fun b hb => ?_
    rw [Int.toNat_natCast] at hb
    refine Zzj (fun _ => ⟨rfl, H2.chg⟩) (fun hne => ?_)
    refine ⟨_, by omega, j + 1, by rw [Zzt] <;> omega, by omega, rfl, rfl, fun q hq => ?_⟩
    by_cases hqj : q = j
    · subst hqj
      rw [hb]
      intro e
      have := Option.some.inj e
      subst this
      exact hne rfl
    · exact hno q (by omega)
  have hv39 : (39 : UInt8) ∉ bl value := by
    intro hmem
    obtain ⟨q, hq⟩ := List.mem_iff_getElem?.1 hmem
    have h1 := (List.getElem?_eq_some_iff.1 hq).1
    have h2 : (bl value).length = value.size := ZzA value
    exact hno q (by omega) hq
  rw [YbT]
  refine H2.newB fun b10 w4 H4 hb10 hc4 => ?_
  refine H4.stN 0 rfl (off := 0) rfl (by simp) (Zz9 rfl (Zz9 rfl Zy4)) fun w5 H5 hc5 => ?_
  simp only [List.set_cons_zero, ZqB (cs := [.string ByteArray.empty, .string ByteArray.empty]) (vs := [.string ByteArray.empty, .string name]) rfl] at H5
  refine Ya3 H5 1 rfl ?_
  refine H5.ldStr 0 rfl (off := 0) rfl ?_
  refine H5.ldStr 0 rfl (off := 1) rfl ?_
  refine ⟨rfl, ?_⟩
  obtain ⟨E, hE⟩ : ∃ E, (⟨4, zs, (Zza, name), value, Ya2⟩ : Ed) = E := ⟨_, rfl⟩
  have hEd : EV.ed ⟨4, pp, pl, pc, zs, Zza, name, value, zeroV⟩ = E := by rw [<- hE]; unfold EV.ed; simp only [Ygj]
  have hEm : EV.mea ⟨4, pp, pl, pc, zs, Zza, name, value, zeroV⟩ = 2 + pl + name.size + value.size := by
    unfold EV.mea; simp only [Ygv]
    have : Zza.size = 0 := rfl
    omega
  have hpw : ∀ {wx : World}, Chg No w wx -> Sl wx pp pl 1 (rows YbR zs) := fun hc => hp.chg hc (off_no _)
  refine Apply_ok (v := NV.mk k u l t ap al ac ats kp kl kc ks) (e := ⟨4, pp, pl, pc, zs, Zza, name, value, zeroV⟩) (T.chg H5.chg) (hd.chg0 H5.chg) ⟨hpw H5.chg, hpn, hpc, Ygu.ok⟩ (by rw [hM0, hEm]; omega) fun X w6 hc6 hndX hownX _ _ hmX => ?_
  rw [hD, hEd] at hndX ⊢
  rw [hM0, hEm] at hmX
  have H6 := H5.step0 hc6
  have hX := hownX.ok
  cases X with
  | mk xk xu xl xt xap xal xac xas xkp xkl xkc xks =>
  simp only [NV.giv]
  refine storeBox H6 fun b11 w8 H8 hb11 hc8 => ?_
  refine ZzL (fun _ => ⟨trivial, H8.chg⟩) (fun g1 => ?_)
  have hap := apOk_of g1
  rw [<- hndX, <- hE] at hap
  have hRX := ZxR.1 hap.cn
  have hnm := set_name hap
  obtain ⟨⟨y0, hy0⟩, y', hap2, hless⟩ := values_law hap
  generalize hXV : NV.mk xk xu xl xt xap xal xac xas xkp xkl xkc xks = xv at *
  have hXc : xv.cells = [.int .i64 xk, .string xu, .string xl, .slice xap xal xac, .slice xkp xkl xkc, .string xt] := by rw [<- hXV]; rfl
  obtain ⟨XC, hXC⟩ : ∃ XC : List Value, XC = [.int .i64 xk, .string xu, .string xl, .slice xap xal xac, .slice xkp xkl xkc, .string xt] := ⟨_, rfl⟩
  refine Ya3 H8 0 rfl ?_
  have s47 := sz47
  have s48 := sz48
  have s61 := sz61
  have s39 := sz39
  refine ⟨by rw [sz47]; omega, by rw [ByteArray.size_append, sz47, sz61]; omega, by rw [ByteArray.size_append, ByteArray.size_append, sz47, sz61]; omega, by rw [ByteArray.size_append, ByteArray.size_append, ByteArray.size_append, sz47, sz61, sz39]; omega, ?_⟩
  have hFe : ∀ s ∈ (Sp.all true false [.eq name value] :: Zxa none), s.Fit := fun s hs => by
    rcases List.mem_cons.1 hs with rfl | hs
    · intro c hc
      rw [List.mem_singleton] at hc; subst hc
      exact ⟨hnm, hv39⟩
    · cases hs
  have hFa : ∀ s ∈ (Sp.all true false [] :: Zxa (some name)), s.Fit := fun s hs => by
    rcases List.mem_cons.1 hs with rfl | hs
    · intro c hc; cases hc
    · rw [show Zxa (some name) = [.attr name] from rfl, List.mem_singleton] at hs; subst hs
      exact hnm
  rw [<- hXc]
  have hX8 := hX.chg0 hc8
  refine Pick_ok (cs := [.eq name value]) (tl := none) (x := xv) (T.chg H8.chg) (by rw [ByteArray.size_append, ByteArray.size_append, ByteArray.size_append, ByteArray.size_append, sz47, sz61, sz39]; omega) (qtx_eqB name value) hFe (.inr ⟨_, _, rfl⟩) hX8 (by omega) hRX fun p1 l1 c1 T1 w9 hr1 hf1 hT1 hP1 hl1 hc9 => ?_
  have H9 := H8.step0 hc9
  refine Ya3 H9 0 rfl ?_
  refine ⟨by rw [sz48]; omega, ?_⟩
  rw [<- hXc]
  refine Pick_ok (cs := []) (tl := some name) (x := xv) (T.chg H9.chg) (by rw [ByteArray.size_append, sz48]; omega) (qtx_atB name) hFa (.inl rfl) (hX8.chg0 hc9) (by omega) hRX fun p2 l2 c2 T2 w10 hr2 hf2 hT2 hP2 hl2 hc10 => ?_
  have H10 := H9.step0 hc10
  have hT1l : T1.length = l1 := hr1.sl.row (Yfp T1) (by decide)
  have hT2l : T2.length = l2 := hr2.sl.row (Yfp T2) (by decide)
  obtain ⟨t0, ht0, ht0p⟩ := pick_there hP1 hy0
  have hlen1 := pick_len hP1
  obtain ⟨hall, hcount⟩ := pick_all (v := value) hRX hP2
  have hcnd : Yg6 [.eq name value] = Ybb (Zza, name) value := rfl
  rw [hcnd] at hlen1
  have hX10 := (hX8.chg0 hc9).chg0 hc10
  have hr1' := hr1.chg hc10 (off_no _)
  have hT1' := hT1.chg0 hc10
  obtain ⟨Γ, hΓ⟩ : ∃ Γ : List Blk, Γ = [⟨b11, [.int .i64 xk, .string xu, .string xl, .slice xap xal xac, .slice xkp xkl xkc, .string xt], Zz3⟩, ⟨b10, [.string ByteArray.empty, .string name], Zzs⟩, ⟨b4, [.int .i64 k, .string u, .string l, .slice ap al ac, .slice kp kl kc, .string t], Zz3⟩] := ⟨_, rfl⟩
  rw [<- hΓ] at H10
  refine Zzf fun J82 hJ82 => ?_
  refine ZzL (fun h => absurd rfl h) (fun _ => ?_)
  rw [hJ82]
  clear hJ82
  refine ZzL (fun h => absurd rfl h) (fun _ => ?_)
  -- is it there
  refine ⟨fun th i w' m => ∃ j : Nat, i = j /\ j <= l1 /\ m = l1 - j /\ Hp w No w' Γ /\ Chg No w10 w' /\ (th = true ↔ ∃ t ∈ T1.take j, t.path = zs), ⟨_, 0, rfl, Nat.zero_le _, rfl, H10, Chg.refl _ _, by simp⟩, ?_⟩
  rintro th i w12 m ⟨j, rfl, hj, rfl, H12, hc12, hth⟩
  refine Zz5 (fun hlt => ?_) (fun hge => ?_)
  · refine Zzf fun J19 hJ19 => ?_
    have hkj : T1[j]? = some T1[j] := List.getElem?_eq_getElem (by omega)
    have htake : T1.take (j + 1) = T1.take j ++ [T1[j]] := List.take_succ_eq_append_getElem (by omega)
    have hmem := List.mem_of_getElem? hkj
    refine Zzu (hr1'.chg hc12 (off_no _)).sl (Yfp T1) (by decide) (by omega) hlt fun a y hpa hy hcs => ?_
    rw [Int.toNat_natCast, hkj] at hy
    have hy := Option.some.inj hy
    rw [hy] at htake hmem
    clear hkj
    refine ldTrail hcs ?_
    rw [YfP]
    refine H12.newB fun b22 w14 H14 hb22 hc14 => ?_
    refine H14.stN 0 rfl (off := 0) rfl (by simp) (one1_tr y) fun w15 H15 hc15 => ?_
    simp only [List.set_cons_zero, ZqB (cs := [.slice none 0 0, .bool false, .string ByteArray.empty, .string ByteArray.empty]) (vs := [.slice y.p y.l y.c, .bool y.at_, .string y.uri, .string y.loc]) rfl] at H15
    have hc1215 : Chg No w12 w15 := hc14.trans hc15 fun b hb e => by subst e; omega
    have k19 : ∀ (r : Bool) (wx : World), Hp w No wx Γ -> Chg No w10 wx -> (r = true ↔ ∃ t ∈ T1.take (j + 1), t.path = zs) -> J19 r wx := by
      intro r wx g1 g2 g3; subst hJ19
      exact ⟨_, by omega, j + 1, by rw [Zzt] <;> omega, by omega, rfl, g1, g2, g3⟩
    clear hJ19
    have H15' := H15.sub (List.sublist_cons_self _ _)
    refine Zzd (fun ht => ?_) (fun hf => ?_)
    · obtain ⟨t, h1, h2⟩ := hth.1 ht
      exact k19 true w15 H15' (hc12.trans0 hc1215) ⟨fun _ => ⟨t, by rw [htake]; exact List.mem_append_left _ h1, h2⟩, fun _ => rfl⟩
    · refine H15.ldS 0 rfl (off := 0) rfl ?_
      have hyr := ((hT1'.path y hmem).chg hc12 (off_no _)).chg hc1215 (off_no _)
      have hyl : y.path.length = y.l := hyr.sl.row (fun _ _ => rfl) (by decide)
      have hyb : y.l <= 1000000000 := pick_short hRX hP1 y hmem hyl
      refine SameInts_ok hyr.sl (hpw H15.chg) hyb fun w16 hc16 => ?_
      refine k19 _ w16 (H15'.step0 hc16) ((hc12.trans0 hc1215).trans0 hc16) ?_
      rw [decide_eq_true_eq]
      constructor
      · intro e; exact ⟨y, by rw [htake]; exact List.mem_append_right _ List.mem_cons_self, e⟩
      · rintro ⟨t, h1, h2⟩
        rw [htake] at h1
        rcases List.mem_append.1 h1 with h1 | h1
        · have := hth.2 ⟨t, h1, h2⟩
          rw [hf] at this; cases this
        · rw [List.mem_singleton] at h1; subst h1; exact h2
  have hjl : j = l1 := by omega
  subst hjl
  rw [List.take_of_length_le (by omega)] at hth
  have hth1 : th = true := hth.2 ⟨t0, ht0, ht0p⟩
  subst hth1
  have hX12 := hX10.chg0 hc12
  have hr2' := hr2.chg hc12 (off_no _)
  have hT2' := hT2.chg0 hc12
  -- how many
  refine ⟨fun ct i w' m => ∃ j : Nat, i = j /\ j <= l2 /\ m = l2 - j /\ Hp w No w' Γ /\ Chg No w12 w' /\ ct = (((T2.take j).countP fun t => decide (ZqK xv.nd t.pr = some value) : Nat) : Int), ⟨_, 0, rfl, Nat.zero_le _, rfl, H12, Chg.refl _ _, rfl⟩, ?_⟩
  rintro ct i w17 m ⟨i2, rfl, hj2, rfl, H17, hc17, rfl⟩
  refine Zz5 (fun hlt => ?_) (fun hge2 => ?_)
  · refine Zzf fun J20 hJ20 => ?_
    have hkj : T2[i2]? = some T2[i2] := List.getElem?_eq_getElem (by omega)
    have htake : T2.take (i2 + 1) = T2.take i2 ++ [T2[i2]] := List.take_succ_eq_append_getElem (by omega)
    have hmem := List.mem_of_getElem? hkj
    refine Zzu (hr2'.chg hc17 (off_no _)).sl (Yfp T2) (by decide) (by omega) hlt fun a y hpa hy hcs => ?_
    rw [Int.toNat_natCast, hkj] at hy
    have hy := Option.some.inj hy
    rw [hy] at htake hmem
    clear hkj
    refine ldTrail hcs ?_
    rw [YfP]
    refine H17.newB fun b24 w19 H19 hb24 hc19 => ?_
    refine H19.stN 0 rfl (off := 0) rfl (by simp) (one1_tr y) fun w20 H20 hc20 => ?_
    simp only [List.set_cons_zero, ZqB (cs := [.slice none 0 0, .bool false, .string ByteArray.empty, .string ByteArray.empty]) (vs := [.slice y.p y.l y.c, .bool y.at_, .string y.uri, .string y.loc]) rfl] at H20
    have hc1720 : Chg No w17 w20 := hc19.trans hc20 fun b hb e => by subst e; omega
    have k20 : ∀ (n : Nat) (wx : World), Hp w No wx Γ -> Chg No w12 wx -> n = (T2.take (i2 + 1)).countP (fun t => decide (ZqK xv.nd t.pr = some value)) -> J20 (n : Int) wx := by
      intro n wx g1 g2 g3; subst hJ20
      exact ⟨_, by omega, i2 + 1, by rw [Zzt] <;> omega, by omega, rfl, g1, g2, by rw [g3]⟩
    clear hJ20
    rw [hΓ] at H20
    refine Ya3 H20 1 rfl ?_
    refine boxTrail H20 0 rfl ?_
    rw [<- hXc]
    obtain ⟨hyat, v1, hv1⟩ := hall y hmem
    have hyr := ((hT2'.path y hmem).chg hc17 (off_no _)).chg hc1720 (off_no _)
    have hyl : y.path.length = y.l := hyr.sl.row (fun _ _ => rfl) (by decide)
    have hyb := pick_short2 hRX hv1 hyl
    refine ValueA_ok (t := y) ((hX12.chg0 hc17).chg0 hc1720) (by omega) hyr.sl hyb hyat hv1 fun w21 hc21 => ?_
    have H21 := H20.step0 hc21
    rw [<- hΓ] at H21
    have H21' := H21.sub (List.sublist_cons_self _ _)
    have hc1221 := (hc17.trans0 hc1720).trans0 hc21
    have hcl := List.countP_le_length (p := fun t : TrV => decide (ZqK xv.nd t.pr = some value)) (l := T2.take i2)
    rw [List.length_take] at hcl
    refine ZzL (fun h => absurd rfl h) (fun _ => ?_)
    rw [beqS]
    refine Zz5 (fun he => ?_) (fun hn => ?_)
    · rw [Zzt (by omega) (by omega), show (((List.countP (fun t => decide (ZqK xv.nd t.pr = some value)) (T2.take i2) : Nat) : Int) + 1) = ((List.countP (fun t => decide (ZqK xv.nd t.pr = some value)) (T2.take i2) + 1 : Nat) : Int) from by omega]
      refine k20 _ w21 H21' hc1221 ?_
      rw [htake, List.countP_append, List.countP_singleton, hv1, he]
      simp
    · refine k20 _ w21 H21' hc1221 ?_
      rw [htake, List.countP_append, List.countP_singleton, hv1]
      simp [hn]
  have hjl2 : i2 = l2 := by omega
  subst hjl2
  rw [List.take_of_length_le (l := T2) (by omega), hcount, <- hlen1, hT1l]
  refine Zzf fun J124 hJ124 => ?_
  refine Zzd (fun h => absurd h (by decide)) (fun _ => ?_)
  rw [hJ124]
  clear hJ124
  refine ZzL (fun h => absurd rfl h) (fun _ => ?_)
  rw [hΓ] at H17
  refine Ya3 H17 0 rfl ?_
  refine H17.ldStr 1 rfl (off := 0) rfl ?_
  refine H17.ldStr 1 rfl (off := 1) rfl ?_
  refine ⟨rfl, ?_⟩
  rw [<- hXc]
  have hX17 := hX12.chg0 hc17
  obtain ⟨F, hF⟩ : ∃ F, (⟨5, zs, (Zza, name), Zza, Ya2⟩ : Ed) = F := ⟨_, rfl⟩
  have hFd : EV.ed ⟨5, pp, pl, pc, zs, Zza, name, Zza, zeroV⟩ = F := by rw [<- hF]; unfold EV.ed; simp only [Ygj]
  have hFm : EV.mea ⟨5, pp, pl, pc, zs, Zza, name, Zza, zeroV⟩ = 2 + pl + name.size := by
    unfold EV.mea; simp only [Ygv]
    have : Zza.size = 0 := rfl
    omega
  refine Apply_ok (v := xv) (e := ⟨5, pp, pl, pc, zs, Zza, name, Zza, zeroV⟩) (T.chg H17.chg) hX17 ⟨hpw H17.chg, hpn, hpc, Ygu.ok⟩ (by rw [hFm]; omega) fun Y w23 hc23 hndY hownY _ _ hmY => ?_
  rw [hFd] at hndY ⊢
  rw [hFm] at hmY
  have hapE : applyN xv.nd F = (0, y') := by rw [<- hF]; exact apply_of hap2
  rw [hapE] at hndY ⊢
  replace hndY := show _ = y' from hndY
  have H23 := H17.step0 hc23
  have hY := hownY.ok
  cases Y with
  | mk yk yu yl yt yap yal yac yas ykp ykl ykc yks =>
  simp only [NV.giv]
  refine storeBox H23 fun b27 w25 H25 hb27 hc25 => ?_
  refine Ya3 H25 0 rfl ?_
  refine ⟨by rw [sz47]; omega, by rw [ByteArray.size_append, sz47, sz61]; omega, by rw [ByteArray.size_append, ByteArray.size_append, sz47, sz61]; omega, by rw [ByteArray.size_append, ByteArray.size_append, ByteArray.size_append, sz47, sz61, sz39]; omega, ?_⟩
  have hRY : Right y' := ZxR.1 hap2.cn
  generalize hYV : NV.mk yk yu yl yt yap yal yac yas ykp ykl ykc yks = yv at *
  have hYc : yv.cells = [.int .i64 yk, .string yu, .string yl, .slice yap yal yac, .slice ykp ykl ykc, .string yt] := by rw [<- hYV]; rfl
  rw [<- hYc]
  refine Pick_ok (cs := [.eq name value]) (tl := none) (x := yv) (T.chg H25.chg) (by rw [ByteArray.size_append, ByteArray.size_append, ByteArray.size_append, ByteArray.size_append, sz47, sz61, sz39]; omega) (qtx_eqB name value) hFe (.inr ⟨_, _, rfl⟩) (hY.chg0 hc25) (by omega) (by rw [hndY]; exact hRY) fun p3 l3 c3 T3 w26 hr3 hf3 hT3 hP3 hl3 hc26 => ?_
  have H26 := H25.step0 hc26
  have hT3l : T3.length = l3 := hr3.sl.row (Yfp T3) (by decide)
  have hlen3 := pick_len hP3
  rw [hcnd, hndY] at hlen3
  refine Zzf fun J8 hJ8 => ?_
  refine Zzj (fun _ => ?_) (fun h => absurd rfl h)
  refine Zzj (fun _ => ?_) (fun h => absurd rfl h)
  rw [hJ8]
  refine ⟨?_, H26.chg⟩
  have e2 : w64 ((j : Int) - 1) = (l3 : Int) := by rw [Zzt] <;> omega
  rw [e2, beq_self_eq_true]
end
end Go.Proofs.YtjlgopfceebdcaaGreatDoor
end
section
namespace Go.Proofs.YtjlgopfceebdcaaGreatDoor
open Go Go.Vc Go.Lib Go.Shelf
section
variable {w : World}
abbrev TP (w : World) : Prop := TT w
theorem tp_of_laid {W : World} (h : laidMet Tryz.prog Rows.topValuesUptoRow.laid W) (hs : W.ShapedOpen Tryz.prog) : TP W :=
 ⟨utf8Tabs_of_readsT (ρ := ren8) u8Types u8Extra (first_eq ▸ laidMet.reads h (by simp [Rows.topValuesUptoRow])) (accept_eq ▸ laidMet.reads h (by simp [Rows.topValuesUptoRow])),
  fold_of_reads (fold_eq ▸ laidMet.reads h (by simp [Rows.topValuesUptoRow])), maxl_of_shape hs⟩
theorem rd_int : Rd Tryz.prog w Zqz YbR InI := Rd.i64 (by kernel_rfl)
theorem rd_sl_int : Rd Tryz.prog w Zqr SlV.cells (fun s : SlV Int => s.Ok w 1 8 YbR InI) := Rd.slice (e := Zqz) (sz := 1) (bytes := 8) (by kernel_rfl) (by kernel_rfl) (by kernel_rfl) rd_int
theorem rd_string : Rd Tryz.prog w YaV (fun s : ByteArray => [.string s]) (fun s => s.size <= 140737488351232) := Rd.str (by kernel_rfl)
theorem TopValues_ok {x : NV} {pp : Option Addr} {pl pc : Nat} {zs : List Int} {name value : ByteArray} (T : TP w) (hx : x.Ok w) (hp : SlV.Ok ⟨pp, pl, pc, zs⟩ w 1 8 YbR InI) (_ : name.size <= 140737488351232) (_ : value.size <= 140737488351232) (hm : x.mea + pl + name.size + value.size <= 2000000) :
  Zz1 Tryz.prog YaA #[.agg ⟨x.cells⟩, .slice pp pl pc, .string name, .string value] w [.one .bool] fun r w' => r = true /\ Chg No w w' :=
 TopValues_go T hx hp.sl hp.nil hp.cap hm
end
end Go.Proofs.YtjlgopfceebdcaaGreatDoor
end
