/- What the statement needs, part 10. -/
import Derived.Test.YtlnfaaghdkngmaaGreatDoorZ9
set_option linter.unusedSectionVars false
set_option linter.unusedVariables false
set_option linter.unusedSimpArgs false
set_option maxRecDepth 100000
open List
section
namespace Go.Vc
open Go Go.Lib
theorem apOk_of {d : Nd} {e : Ed} (h : (applyN d e).1 = 0) : ApOk d e (applyN d e).2 := apply_ok.1 ⟨h, rfl⟩
theorem apply_of {d n : Nd} {e : Ed} (h : ApOk d e n) : applyN d e = (0, n) := Prod.ext (apply_ok.2 h).1 (apply_ok.2 h).2
end Go.Vc
namespace Go.Proofs.YtlnfaaghdkngmaaGreatDoor
open Go Go.Vc Go.Lib
section
variable {w w' : World}
end
end Go.Proofs.YtlnfaaghdkngmaaGreatDoor
end
section
namespace Go.Vc
open Go Go.Lib
theorem ldTrail {w : World} {a : Addr} {p : Option Addr} {l c : Nat} {b : Bool} {u n : ByteArray} (hc : Zzn w a [.slice p l c, .bool b, .string u, .string n]) {K : Option Addr -> Nat -> Nat -> Bool -> ByteArray -> ByteArray -> Prop} (k : K p l c b u n) :
  ldS w a fun p0 l0 c0 => ldB w (a.add 1) fun x1 => ldStr w (a.add 2) fun x2 => ldStr w (a.add 3) fun x3 => K p0 l0 c0 x1 x2 x3 :=
 ⟨_, _, _, Zzo hc, _, hc 1 _ rfl, _, hc 2 _ rfl, _, hc 3 _ rfl, k⟩
theorem boxTrail {w0 w : World} {S : Nat -> Prop} {Γ : List Blk} {bx : Nat} {e : TypeId} (H : Hp w0 S w Γ) (i : Nat) {p : Option Addr} {l c : Nat} {b : Bool} {u n : ByteArray} (hi : Γ[i]? = some ⟨bx, [.slice p l c, .bool b, .string u, .string n], e⟩)
  {K : Option Addr -> Nat -> Nat -> Bool -> ByteArray -> ByteArray -> Prop} (k : K p l c b u n) :
  ldS w ⟨bx, 0, none⟩ fun p0 l0 c0 => ldB w ⟨bx, 1, none⟩ fun x1 => ldStr w ⟨bx, 2, none⟩ fun x2 => ldStr w ⟨bx, 3, none⟩ fun x3 => K p0 l0 c0 x1 x2 x3 :=
 ⟨_, _, _, H.cell i hi rfl, _, H.cell i hi rfl, _, H.cell i hi rfl, _, H.cell i hi rfl, k⟩
end Go.Vc
namespace Go.Proofs.YtlnfaaghdkngmaaGreatDoor
open Go Go.Vc Go.Lib
section
variable {w w' : World}
set_option maxHeartbeats 4000000 in
set_option maxRecDepth 10000 in
theorem TopPlaces_go {d n : NV} {pp : Option Addr} {pl pc : Nat} {zs : List Int} {text : ByteArray} (T : TT w) (TP : P10 w) (E : ES w) (hd : d.Ok w) (hp : Sl w pp pl 1 (rows YbS zs)) (hpn : pp = none -> pl = 0) (hpc : pl <= pc) (hn : n.Ok w) (hm : d.mea + pl + n.mea + text.size <= 2000000) :
  Zz1 Tryz.prog Yay #[.agg ⟨d.cells⟩, .slice pp pl pc, .agg ⟨n.cells⟩, .string text] w [.one .bool] fun r w' => r = true /\ Chg No w w' := by
 obtain ⟨D, hD⟩ : ∃ D, d.nd = D := ⟨_, rfl⟩
 obtain ⟨X0, hX0⟩ : ∃ X0, n.nd = X0 := ⟨_, rfl⟩
 obtain ⟨M0, hM0⟩ : ∃ M0, d.mea = M0 := ⟨_, rfl⟩
 obtain ⟨M1, hM1⟩ : ∃ M1, n.mea = M1 := ⟨_, rfl⟩
 rw [hM0, hM1] at hm
 have hpl : zs.length = pl := hp.row (fun _ _ => rfl) (by decide)
 obtain ⟨E1, hE1⟩ : ∃ E1, (⟨1, zs, (Zzc, Zzc), Zzc, X0⟩ : Ed) = E1 := ⟨_, rfl⟩
 have hEd : EV.ed ⟨1, pp, pl, pc, zs, Zzc, Zzc, Zzc, n⟩ = E1 := by rw [<- hE1, <- hX0]; rfl
 have hEm : EV.mea ⟨1, pp, pl, pc, zs, Zzc, Zzc, Zzc, n⟩ = 1 + pl + M1 := by
  unfold EV.mea; simp only [hM1]
  have : Zzc.size = 0 := rfl
  omega
 have hEok : EV.Ok w ⟨1, pp, pl, pc, zs, Zzc, Zzc, Zzc, n⟩ := ⟨hp, hpn, hpc, hn⟩
 cases d with
 | mk k u l t ap al ac ats kp kl kc ks =>
 cases n with
 | mk nk nu nl nt nap nal nac nas nkp nkl nkc nks =>
 refine Yha ?_
 refine Zx6 (Hp.start w No) fun b4 w1 H1 hb4 hc1 => ?_
 refine Zx6 H1 fun b6 w2 H2 hb6 hc2 => ?_
 refine reads_ok (T.chg H2.chg).maxl fun w3 hc3 => ?_
 have H3 := H2.step0 hc3
 refine Zz9 (fun h => absurd h (by decide)) (fun _ => ?_)
 refine Zq8 H3 1 rfl ?_
 refine Zq8 H3 0 rfl ?_
 refine ⟨rfl, ?_⟩
 refine Apply_ok (v := NV.mk k u l t ap al ac ats kp kl kc ks) (e := ⟨1, pp, pl, pc, zs, Zzc, Zzc, Zzc, .mk nk nu nl nt nap nal nac nas nkp nkl nkc nks⟩) (T.chg H3.chg) (hd.chg0 H3.chg) (hEok.chg0 H3.chg) (by rw [hM0, hEm]; omega) fun X w4 hc4 hndX hownX _ _ hmX => ?_
 rw [hD, hEd] at hndX ⊢
 rw [hM0, hEm] at hmX
 have H4 := H3.step0 hc4
 cases X with
 | mk xk xu xl xt xap xal xac xas xkp xkl xkc xks =>
 simp only [NV.giv]
 refine Ygi H4 fun b9 w6 H6 hb9 hc6 => ?_
 have hX6 := hownX.ok.chg0 hc6
 refine Zzb fun J42 hJ42 => ?_
 refine Zzw (fun _ => ?_) (fun g1 => ?_)
 ·rw [hJ42]
  refine Zz9 (fun _ => ?_) (fun h => by cases h)
  first | exact ⟨rfl, H6.chg⟩ | exact ⟨trivial, H6.chg⟩
 rw [hJ42]
 clear hJ42
 refine Zz6 (fun _ => ?_) (fun h20 => ?_)
 ·first | exact ⟨rfl, H6.chg⟩ | exact ⟨trivial, H6.chg⟩
 have hap := apOk_of g1
 rw [<- hndX, <- hE1] at hap
 have hRX := YdU.1 hap.cn
 obtain ⟨hnx, hlaw⟩ := places_law hap
 have hbound : ∀ i ∈ zs, 0 <= i /\ i < 999999 := fun i hi => by
  have h1 := YgK hnx i hi
  have h2 := hRX.few
  exact ⟨h1.1, by omega⟩
 have hb9 : ∀ i ∈ zs, 0 <= i /\ i <= 999999999 := fun i hi => ⟨(hbound i hi).1, by have := (hbound i hi).2; omega⟩
 have hzne : zs ≠ [] := hap.pa
 obtain ⟨yv, hyv, hyn⟩ := atV_of hnx
 generalize hXV : NV.mk xk xu xl xt xap xal xac xas xkp xkl xkc xks = xv at *
 have hXc : xv.cells = [.int .i64 xk, .string xu, .string xl, .slice xap xal xac, .slice xkp xkl xkc, .string xt] := by rw [<- hXV]; rfl
 have H6d := H6.drew
 refine Zq8 H6d 0 rfl ?_
 refine Address_ok (hp.chg H6d.chg (off_no _)) (by omega) hbound fun q w8 hc8 hq hqs => ?_
 have H8 := H6d.step0 hc8
 refine ⟨ZzT (off := 0) (H8.get 0 rfl), ?_⟩
 have hX8 := (hX6.chg0 (ZqZ w6)).chg0 hc8
 rw [<- hXc]
 refine PickA_ok (x := xv) (y := yv) (cs := adr zs) (path := zs) (T.chg H8.chg) (by omega) hq hzne (by omega) (adr_path fun i hi => (hbound i hi).1) (adr_fit hbound) hX8 (by omega) hRX hyv fun p1 l1 c1 t1 w9 hr1 hf1 hT1 hat1 hpr1 hl1 hc9 => ?_
 have H9 := H8.step0 hc9
 have e1 : t1.path = zs := congrArg Prod.fst hpr1
 have e2 : t1.uri = Zzc := congrArg (fun z => z.2.1) hpr1
 have e3 : t1.loc = Zzc := congrArg (fun z => z.2.2) hpr1
 refine Show_ok (TP.chg0 H9.chg) (hp.chg H9.chg (off_no _)) (by omega) hb9 hzne fun s w10 hc10 hs hss => ?_
 have H10 := H9.step0 hc10
 refine Read_ok (TP.chg0 H10.chg) (T.chg H10.chg).maxl (E.chg0 H10.chg) hs hss hzne (by omega) hb9 fun p2 l2 c2 w11 hr2 hf2 hl2 hc11 => ?_
 have H11 := H10.step0 hc11
 rw [YfK]
 refine H11.newB fun b16 w12 H12 hb16 hc12 => ?_
 refine H12.stN 0 rfl (off := 0) rfl (by simp) (Zzd rfl (Zzd rfl (Zzd rfl (Zzd rfl Zyt)))) fun w13 H13 hc13 => ?_
 simp only [set_cons_zero, YbE (cs := [.slice none 0 0, .bool false, .string ByteArray.empty, .string ByteArray.empty]) (vs := [.slice p2 l2 c2, .bool false, .string ByteArray.empty, .string ByteArray.empty]) rfl] at H13
 have hc1113 : Chg No w11 w13 := hc12.trans hc13 fun b hb e => by subst e; omega
 have hr13 := hr2.chg hc1113 (off_no _)
 have hX13 := ((hX8.chg0 hc9).chg0 (hc10.trans0 hc11)).chg0 hc1113
 refine Zq8 H13 1 rfl ?_
 refine H13.ldS 0 rfl (off := 0) rfl ?_
 rw [<- hXc]
 refine TreeAt_ok (v := xv) hX13 (by omega) hr13.sl (by omega) (fun y v' w14 hy hnd hown _ _ hmea hc14 => ?_) (fun w14 hy hc14 => ?_)
 rotate_left
 ·rw [hyv] at hy; cases hy
 rw [hyv] at hy
 obtain rfl := Option.some.inj hy
 have hvn : v'.nd = X0 := hnd.trans hyn
 have H14 := H13.step0 hc14
 cases v' with
 | mk zk zu zl zt zap zal zac zas zkp zkl zkc zks =>
 simp only [NV.giv]
 refine Ygi H14 fun b18 w16 H16 hb18 hc16 => ?_
 refine Zzb fun J101 hJ101 => ?_
 refine Zzw (fun h => absurd rfl h) (fun _ => ?_)
 refine Zzw (fun h => absurd rfl h) (fun _ => ?_)
 refine Zzw (fun h => absurd rfl h) (fun _ => ?_)
 refine Zzw (fun h => absurd rfl h) (fun _ => ?_)
 refine Zzw (fun h => absurd (show (l1 : Int) = 1 by omega) h) (fun _ => ?_)
 have H16d := H16.drew
 have hc9d : Chg No w9 w16.drew := ((((hc10.trans0 hc11).trans0 hc1113).trans0 hc14).trans0 hc16).trans0 (ZqZ w16)
 have hr1d := hr1.chg hc9d (off_no _)
 rw [<- hl1] at hr1d
 refine Zzr hr1d.sl (even_tr [t1]) (by decide) (by omega) (by omega) fun a y _ hy2 hcs => ?_
 obtain rfl : t1 = y := by simpa using hy2
 unfold TrV.cells at hcs
 rw [hat1, e2, e3] at hcs
 refine ldTrail hcs ?_
 refine boxTrail H16d 1 rfl ?_
 have ht1 := (hT1.path t1 (mem_singleton.2 rfl)).chg hc9d (off_no _)
 rw [e1] at ht1
 have hr16 := (hr13.chg (hc14.trans0 hc16) (off_no _)).chg (ZqZ w16) (off_no _)
 have ht1l : zs.length = t1.l := ht1.sl.row (fun _ _ => rfl) (by decide)
 refine TCmp_ok (path := zs) ht1.sl hr16.sl (by omega) fun w27 hc27 => ?_
 have H27 := H16d.step0 hc27
 refine Zzw (fun h => absurd rfl h) (fun _ => ?_)
 refine Zq8 H27 0 rfl ?_
 refine Zq8 H27 3 rfl ?_
 refine Equal_ok (.mk zk zu zl zt zap zal zac zas zkp zkl zkc zks) (.mk nk nu nl nt nap nal nac nas nkp nkl nkc nks) (((hown.ok.chg0 hc16).chg0 (ZqZ w16)).chg0 hc27) (hn.chg0 H27.chg) (by omega) fun r w28 hr hc28 => ?_
 have hrt : r = true := hr.2 (hvn.trans hX0.symm)
 subst hrt
 have H28 := H27.step0 hc28
 have hc1328 : Chg No w13 w28 := (((hc14.trans0 hc16).trans0 (ZqZ w16)).trans0 hc27).trans0 hc28
 have hr28 := hr13.chg hc1328 (off_no _)
 have hX28 := hX13.chg0 hc1328
 rw [hJ101]
 clear hJ101
 refine Zz9 (fun h => by cases h) (fun _ => ?_)
 refine Zq8 H28 2 rfl ?_
 refine H28.ldS 1 rfl (off := 0) rfl ?_
 rw [<- hXc]
  -- the text is written
 obtain ⟨F, hF⟩ : ∃ F, (⟨6, zs, (Zzc, Zzc), text, Yda⟩ : Ed) = F := ⟨_, rfl⟩
 have hFd : EV.ed ⟨6, p2, l2, c2, zs, Zzc, Zzc, text, zeroV⟩ = F := by rw [<- hF]; unfold EV.ed; simp only [Yge]
 have hFm : EV.mea ⟨6, p2, l2, c2, zs, Zzc, Zzc, text, zeroV⟩ = 2 + l2 + text.size := by
  unfold EV.mea; simp only [Ygv]
  have : Zzc.size = 0 := rfl
  omega
 refine Apply_ok (v := xv) (e := ⟨6, p2, l2, c2, zs, Zzc, Zzc, text, zeroV⟩) (T.chg H28.chg) hX28 ⟨hr28.sl, hr28.none0, hr28.le.1, Ygu.ok⟩ (by rw [hFm]; omega) fun Z w18 hc18 hndZ hownZ _ _ hmZ => ?_
 rw [hFd] at hndZ ⊢
 rw [hFm] at hmZ
 have H18 := H28.step0 hc18
 cases Z with
 | mk qk qu ql qt qap qal qac qas qkp qkl qkc qks =>
 simp only [NV.giv]
 refine Ygi H18 fun b20 w20 H20 hb20 hc20 => ?_
 have hZ20 := hownZ.ok.chg0 hc20
 refine Zzw (fun _ => ?_) (fun g2 => ?_)
 ·first | exact ⟨rfl, H20.chg⟩ | exact ⟨trivial, H20.chg⟩
 have hap2 := apOk_of g2
 rw [<- hndZ, <- hF] at hap2
 obtain ⟨yz, hyz, hyt, hyk, hdel⟩ := hlaw hap2
 obtain ⟨yzv, hyzv, hyzn⟩ := atV_of hyz
 generalize hZV : NV.mk qk qu ql qt qap qal qac qas qkp qkl qkc qks = zv at *
 have hZc : zv.cells = [.int .i64 qk, .string qu, .string ql, .slice qap qal qac, .slice qkp qkl qkc, .string qt] := by rw [<- hZV]; rfl
 have hr20 := (hr28.chg hc18 (off_no _)).chg hc20 (off_no _)
 refine Zq8 H20 0 rfl ?_
 refine boxTrail H20 2 rfl ?_
 rw [<- hZc]
 refine ValueT_ok (x := zv) (y := yzv) (path := zs) hZ20 (by omega) hr20.sl (by omega) (by rw [hyzn]; exact hyz) (by rw [hyzn]; exact hyk) fun w21 hc21 => ?_
 rw [hyzn, hyt]
 have H21 := H20.step0 hc21
 have hr21 := hr20.chg hc21 (off_no _)
 refine Zq8 H21 0 rfl ?_
 refine H21.ldS 2 rfl (off := 0) rfl ?_
 rw [<- hZc]
  -- it is taken away
 obtain ⟨G, hG⟩ : ∃ G, (⟨2, zs, (Zzc, Zzc), Zzc, Yda⟩ : Ed) = G := ⟨_, rfl⟩
 have hGd : EV.ed ⟨2, p2, l2, c2, zs, Zzc, Zzc, Zzc, zeroV⟩ = G := by rw [<- hG]; unfold EV.ed; simp only [Yge]
 have hGm : EV.mea ⟨2, p2, l2, c2, zs, Zzc, Zzc, Zzc, zeroV⟩ = 2 + l2 := by
  unfold EV.mea; simp only [Ygv]
  have : Zzc.size = 0 := rfl
  omega
 refine Apply_ok (v := zv) (e := ⟨2, p2, l2, c2, zs, Zzc, Zzc, Zzc, zeroV⟩) (T.chg H21.chg) (hZ20.chg0 hc21) ⟨hr21.sl, hr21.none0, hr21.le.1, Ygu.ok⟩ (by rw [hGm]; omega) fun B w22 hc22 hndB hownB _ _ hmB => ?_
 rw [hGd] at hndB ⊢
 rw [hGm] at hmB
 have hapG : applyN zv.nd G = (0, D) := by rw [<- hG]; exact apply_of hdel
 rw [hapG] at hndB ⊢
 replace hndB := show _ = D from hndB
 have H22 := H21.step0 hc22
 have hB := hownB.ok
 cases B with
 | mk bk bu bl_ bt bap bal bac bas bkp bkl bkc bks =>
 simp only [NV.giv]
 refine Ygi H22 fun b24 w24 H24 hb24 hc24 => ?_
 refine Zzb fun J8 hJ8 => ?_
 refine Zzi (fun _ => ?_) (fun h => absurd rfl h)
 rw [Ygs]
 refine Zz6 (fun _ => ?_) (fun h => absurd rfl h)
 refine Zzi (fun _ => ?_) (fun h => absurd rfl h)
 refine Zq8 H24 0 rfl ?_
 refine Zq8 H24 6 rfl ?_
 refine Same_ok (.mk bk bu bl_ bt bap bal bac bas bkp bkl bkc bks) (.mk k u l t ap al ac ats kp kl kc ks) (hB.chg0 hc24) (hd.chg0 H24.chg) (by omega) fun r w26 hr hc26 => ?_
 have hrt : r = true := hr.2 (hndB.trans hD.symm)
 subst hrt
 rw [hJ8]
 first | exact ⟨rfl, (H24.step0 hc26).chg⟩ | exact ⟨trivial, (H24.step0 hc26).chg⟩
end
end Go.Proofs.YtlnfaaghdkngmaaGreatDoor
end
section
namespace Go.Vc
open Go
theorem Yer {H : Type} {enc : TypeId × Value -> H} {P : Program} {w : World} {base : Nat} {spare : Nat -> Bool} {held : Bool} {fuel : Nat} {t : TypeId} {ms : Array (String × TypeId)} {cs : List Value} {d : DataW H} {q : List MemPlace}
  (ht : P.underlying t = some (.interface ms)) (h : DataW.trod enc P w base spare held fuel t cs = some (d, q)) : ∃ v, cs = [v] /\ (v = .nilIface \/ ∃ a b, v = .iface a b) := by
 cases fuel with
 | zero => simp [DataW.trod] at h
 | succ m =>
  unfold DataW.trod at h
  rw [ht] at h
  split at h <;> first | exact ⟨_, rfl, .inl rfl⟩ | exact ⟨_, rfl, .inr ⟨_, _, rfl⟩⟩ | simp_all
theorem isIface_und {o : Option TypeDesc} (h : (match o with | some (.interface _) => true | _ => false) = true) : ∃ ms, o = some (.interface ms) := by
 split at h
 ·exact ⟨_, rfl⟩
 ·cases h
end Go.Vc
namespace Go.Proofs.YtlnfaaghdkngmaaGreatDoor
open Go Go.Vc Go.Lib Go.Shelf
structure TP (w : World) : Prop where
 tt : TT w
 p10 : P10 w
 es : ES w
theorem pow_eq : Rows.laid_internal_strconv_uint64pow10 (H := Unit) = tabData .u64 Lib.pow10Tab := by kernel_rfl
theorem p10_of_reads {W : World} (h : VarReads Tryz.prog W "internal/strconv.uint64pow10" (tabData .u64 Lib.pow10Tab)) : P10 W := by
 obtain ⟨g, t, cs, fuel, p, hg, hty, hvar, hd⟩ := h
 have n : Tryz.prog.globalNamed "internal/strconv.uint64pow10" = some 8 := by kernel_rfl
 have y : (Tryz.prog.globals[8]?).map (·.type) = some T_20_uint64 := by kernel_rfl
 obtain rfl := Option.some.inj (n.symm.trans hg)
 obtain rfl := Option.some.inj (y.symm.trans hty)
 have hcs := cells_of_tab (n := 20) (e := T_uint64) (by kernel_rfl) (by kernel_rfl) (by kernel_rfl) (by kernel_rfl) hd
 unfold P10 TabIs
 rw [hvar, <- hcs]
theorem es_of_reads {W : World} {d : DataW Unit} (h : VarReads Tryz.prog W "strconv.ErrSyntax" d) : ES W := by
 obtain ⟨g, t, cs, fuel, p, hg, hty, hvar, hd⟩ := h
 have n : Tryz.prog.globalNamed "strconv.ErrSyntax" = some 3 := by kernel_rfl
 have y : (Tryz.prog.globals[3]?).map (·.type) = some T_error := by kernel_rfl
 obtain rfl := Option.some.inj (n.symm.trans hg)
 obtain rfl := Option.some.inj (y.symm.trans hty)
 obtain ⟨ms, hms⟩ : ∃ ms, Tryz.prog.underlying T_error = some (.interface ms) := isIface_und (by kernel_rfl)
 obtain ⟨v, hv, hk⟩ := Yer hms hd
 have e : cs = #[v] := Array.toList_inj.1 hv
 subst e
 exact ⟨v, by have h0 := World.var?_cell hg hvar 0; simpa using h0, hk⟩
theorem tp_of_laid {W : World} (h : laidMet Tryz.prog Rows.topPlacesUptoRow.laid W) (hs : W.ShapedOpen Tryz.prog) : TP W :=
 ⟨⟨utf8Tabs_of_readsT (ρ := ren8) u8Types u8Extra (first_eq ▸ laidMet.reads h (by simp [Rows.topPlacesUptoRow])) (accept_eq ▸ laidMet.reads h (by simp [Rows.topPlacesUptoRow])),
  fold_of_reads (fold_eq ▸ laidMet.reads h (by simp [Rows.topPlacesUptoRow])), maxl_of_shape hs⟩, p10_of_reads (pow_eq ▸ laidMet.reads h (by simp [Rows.topPlacesUptoRow])), es_of_reads (d := Rows.laid_strconv_ErrSyntax) (laidMet.reads h (by simp [Rows.topPlacesUptoRow]))⟩
section
variable {w : World}
theorem rd_int : Rd Tryz.prog w ZqJ YbS InI := Rd.i64 (by kernel_rfl)
theorem rd_sl_int : Rd Tryz.prog w Yap SlV.cells (fun s : SlV Int => s.Ok w 1 8 YbS InI) := Rd.slice (e := ZqJ) (sz := 1) (bytes := 8) (by kernel_rfl) (by kernel_rfl) (by kernel_rfl) rd_int
theorem rd_string : Rd Tryz.prog w ZxC (fun s : ByteArray => [.string s]) (fun s => s.size <= 140737488351232) := Rd.str (by kernel_rfl)
theorem TopPlaces_ok {x n : NV} {pp : Option Addr} {pl pc : Nat} {zs : List Int} {text : ByteArray} (T : TP w) (hx : x.Ok w) (hp : SlV.Ok ⟨pp, pl, pc, zs⟩ w 1 8 YbS InI) (hn : n.Ok w) (_ : text.size <= 140737488351232) (hm : x.mea + pl + n.mea + text.size <= 2000000) :
  Zz1 Tryz.prog Yay #[.agg ⟨x.cells⟩, .slice pp pl pc, .agg ⟨n.cells⟩, .string text] w [.one .bool] fun r w' => r = true /\ Chg No w w' :=
 TopPlaces_go T.tt T.p10 T.es hx hp.sl hp.nil hp.cap hn hm
end
end Go.Proofs.YtlnfaaghdkngmaaGreatDoor
end
