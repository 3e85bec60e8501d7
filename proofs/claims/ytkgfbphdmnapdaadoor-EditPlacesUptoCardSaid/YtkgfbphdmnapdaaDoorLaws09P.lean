/-
  Chapter 9's statements: EditPlaces.
-/
import Derived.Test.YtkgfbphdmnapdaaDoorLaws09U
set_option linter.unusedVariables false
set_option linter.unusedSimpArgs false
namespace Go.Vc
open Go Go.Lib
theorem ins_get {α : Type} {us : List α} {x : α} {n q : Nat} (hn : n ≤ us.length) : (us.take n ++ x :: us.drop n)[if n ≤ q then q + 1 else q]? = us[q]? := by
  have hl : (us.take n).length = n := by rw [List.length_take]; omega
  by_cases h : n ≤ q
  · rw [if_pos h, List.getElem?_append_right (by omega), hl, show q + 1 - n = (q - n) + 1 by omega, List.getElem?_cons_succ, List.getElem?_drop, show n + (q - n) = q by omega]
  · rw [if_neg h, List.getElem?_append_left (by omega), List.getElem?_take, if_pos (by omega)]
theorem size_ins {up : Nd} {x : Nd} {n : Nat} : (withKids up (up.kids.take n ++ x :: up.kids.drop n)).size = up.size + x.size := by
  have h := congrArg Nd.sizeL (List.take_append_drop n up.kids)
  rw [sizeL_append] at h
  rw [size_eq, size_eq up, withKids_kids, sizeL_append, Nd.sizeL]
  omega
end Go.Vc
namespace Go.Proofs.YtkgfbphdmnapdaaDoor
open Go Go.Vc Go.Lib
section
variable {w w' : World}
theorem rd_int : Rd Tryd.prog w T_int intC InI := Rd.i64 (by kernel_rfl)
theorem rd_sl_int : Rd Tryd.prog w T_sl_int SlV.cells (fun s : SlV Int => s.Ok w 1 8 intC InI) := Rd.slice (e := T_int) (sz := 1) (bytes := 8) (by kernel_rfl) (by kernel_rfl) (by kernel_rfl) rd_int
theorem EditPlaces_ok {d x : NV} {pp : Option Addr} {pl pc : Nat} {zs : List Int} (T : TT w) (hd : d.Ok w) (hp : SlV.Ok ⟨pp, pl, pc, zs⟩ w 1 8 intC InI) (hx : x.Ok w) (hm : d.mea + pl + x.mea ≤ 1048576) :
    callJ Tryd.prog fn_law09_EditPlaces #[.agg ⟨d.cells⟩, .slice pp pl pc, .agg ⟨x.cells⟩] w [.one .bool] fun r w' => r = true ∧ Chg No w w' := by
  have hsl : Sl w pp pl 1 (rows intC zs) := hp.sl
  have hnil : pp = none → pl = 0 := hp.nil
  have hcap : pl ≤ pc := hp.cap
  have hpl : zs.length = pl := hsl.row (even_int zs) (by decide)
  obtain ⟨D, hD⟩ : ∃ D, d.nd = D := ⟨_, rfl⟩
  obtain ⟨X, hX⟩ : ∃ X, x.nd = X := ⟨_, rfl⟩
  obtain ⟨M0, hM0⟩ : ∃ M0, d.mea = M0 := ⟨_, rfl⟩
  obtain ⟨M1, hM1⟩ : ∃ M1, x.mea = M1 := ⟨_, rfl⟩
  rw [hM0, hM1] at hm
  obtain ⟨e, he⟩ : ∃ e : EV, e = ⟨1, pp, pl, pc, zs, ByteArray.empty, ByteArray.empty, ByteArray.empty, x⟩ := ⟨_, rfl⟩
  obtain ⟨E, hE, hE1, hE2, hE3⟩ : ∃ E, e.ed = E ∧ E.op = 1 ∧ E.pa = zs ∧ E.node = X := ⟨_, rfl, by rw [he]; rfl, by rw [he]; rfl, by rw [he, ← hX]; rfl⟩
  have heok : EV.Ok w e := by rw [he]; exact ⟨hsl, hnil, hcap, hx⟩
  have hem : e.mea = 1 + pl + M1 := by
    rw [he]; unfold EV.mea; simp only [hM1]
    have : ByteArray.empty.size = 0 := rfl
    omega
  cases d with
  | mk k u l t ap al ac ats kp kl kc ks =>
  cases x with
  | mk nk nu nl nt nap nal nac nas nkp nkl nkc nks =>
  refine c_law09_EditPlaces ?_
  unfold VC_law09_EditPlaces
  refine nodeBox (Hp.start w No) fun b3 w1 H1 hb3 hc1 => ?_
  refine nodeBox H1 fun b5 w2 H2 hb5 hc2 => ?_
  refine Awake9_ok (T.chg H2.chg) fun w3 hc3 => ?_
  have H3 := H2.step0 hc3
  refine condB_i (fun h => by cases h) (fun _ => ?_)
  refine ldBox H3 1 rfl ?_
  refine ldBox H3 0 rfl ?_
  refine ⟨rfl, ?_⟩
  subst he
  refine Apply_ok (v := NV.mk k u l t ap al ac ats kp kl kc ks) (e := ⟨1, pp, pl, pc, zs, ByteArray.empty, ByteArray.empty, ByteArray.empty, .mk nk nu nl nt nap nal nac nas nkp nkl nkc nks⟩) (T.chg H3.chg) (hd.chg0 H3.chg) (heok.chg0 H3.chg) (by rw [hem, hM0]; omega) fun x4 w4 hc4 hnd4 hown4 _ _ hm4 => ?_
  rw [hD, hE] at hnd4 ⊢
  rw [hem, hM0] at hm4
  have H4 := H3.step0 hc4
  cases x4 with
  | mk xk xu xl xt xap xal xac xas xkp xkl xkc xks =>
  simp only [NV.giv]
  refine storeBox H4 fun b7 w6 H6 hb7 hc6 => ?_
  have own6 := hown4.chg0 hc6
  refine condB_ne (fun _ => by first | exact ⟨rfl, H6.chg⟩ | exact ⟨trivial, H6.chg⟩) (fun h0 => ?_)
  have hA := apOk_of h0
  rw [← hnd4] at hA
  have hB := undo hA
  obtain ⟨r, i, up, hzs, hup, hi0, hil, hn⟩ := ins_spec hA hE1
  rw [hE2] at hzs
  rw [hE3] at hn
  have hbe : backE D E = ⟨2, zs, (emptyB, emptyB), emptyB, zeroN⟩ := by unfold backE backK; rw [if_pos hE1, hE2]
  rw [hbe] at hB
  obtain ⟨n, rfl⟩ : ∃ n : Nat, i = n := ⟨i.toNat, by omega⟩
  rw [Int.toNat_natCast] at hn
  obtain ⟨now, hnow⟩ : ∃ now, withKids up (up.kids.take n ++ X :: up.kids.drop n) = now := ⟨_, rfl⟩
  rw [hnow] at hn
  have hnr : nodeAt (NV.mk xk xu xl xt xap xal xac xas xkp xkl xkc xks).nd r = some now := by rw [hn]; exact nodeAt_setAt hup
  have hnk : now.kids = up.kids.take n ++ X :: up.kids.drop n := by rw [← hnow, withKids_kids]
  have hnlt : n ≤ up.kids.length := by omega
  have htk : (up.kids.take n).length = n := by rw [List.length_take]; omega
  have hnz : nodeAt (NV.mk xk xu xl xt xap xal xac xas xkp xkl xkc xks).nd zs = some X := by
    rw [hzs, nodeAt_append, hnr]
    show nodeAt now [(n : Int)] = some X
    rw [nodeAt_cons, if_neg (by omega), Int.toNat_natCast, hnk, List.getElem?_append_right (by omega), htk, Nat.sub_self]
    rfl
  have hsz : (NV.mk xk xu xl xt xap xal xac xas xkp xkl xkc xks).nd.size = D.size + X.size := by
    have h1 := size_setAt (z := now) hup
    have h2 : now.size = up.size + X.size := by rw [← hnow]; exact size_ins
    rw [hn]; omega
  have hzl : r.length + 1 = pl := by rw [← hpl, hzs]; simp
  refine ldBox H6 0 rfl ?_
  refine TreeAt_ok (v := NV.mk xk xu xl xt xap xal xac xas xkp xkl xkc xks) (zs := zs) own6.ok (by omega) (hsl.chg H6.chg (off_no _)) (by omega) (fun y v7 w7 hat hnd7 hown7 _ _ hm7 hc7 => ?_) (fun w7 hat _ => ?_)
  rotate_left
  · have := atV_nd (r := zs) (v := NV.mk xk xu xl xt xap xal xac xas xkp xkl xkc xks)
    rw [hat, hnz] at this; cases this
  have hyX : v7.nd = X := by
    have := atV_nd (r := zs) (v := NV.mk xk xu xl xt xap xal xac xas xkp xkl xkc xks)
    rw [hat, hnz] at this
    rw [hnd7]; exact Option.some.inj this
  have H7 := H6.step0 hc7
  cases v7 with
  | mk vk vu vl vt vap val vac vas vkp vkl vkc vks =>
  simp only [NV.giv]
  refine storeBox H7 fun b9 w9 H9 hb9 hc9 => ?_
  obtain ⟨Γ, hΓ⟩ : ∃ Γ : List Blk, Γ = [⟨b9, [.int .i64 vk, .string vu, .string vl, .slice vap val vac, .slice vkp vkl vkc, .string vt], T_api_Node⟩,
    ⟨b7, [.int .i64 xk, .string xu, .string xl, .slice xap xal xac, .slice xkp xkl xkc, .string xt], T_api_Node⟩,
    ⟨b5, [.int .i64 nk, .string nu, .string nl, .slice nap nal nac, .slice nkp nkl nkc, .string nt], T_api_Node⟩,
    ⟨b3, [.int .i64 k, .string u, .string l, .slice ap al ac, .slice kp kl kc, .string t], T_api_Node⟩] := ⟨_, rfl⟩
  have c69 := hc7.trans0 hc9
  refine withJ_i fun J55 hJ55 => ?_
  have k55 : ∀ w10, Chg No w9 w10 → J55 false w10 := by
    intro w10 hc10
    have H10 := H9.step0 hc10
    have own10 := (own6.chg0 c69).chg0 hc10
    clear hc1 hc2 hc3 hc4 H1 H2 H3 H4 H6 H7 H9
    subst hJ55
    refine condB_i (fun h => by cases h) (fun _ => ?_)
    have e1 : w64 ((pl : Int) - 1) = ((pl - 1 : Nat) : Int) := by rw [w64_of] <;> omega
    have e39 : ((rows intC zs).drop (0 * 1)).take ((pl - 1 - 0) * 1) = rows intC r := by
      rw [Nat.zero_mul, List.drop_zero, Nat.sub_zero, rows_take (fun _ _ => rfl : ∀ x ∈ zs, (intC x).length = 1), hzs, List.take_left' (by omega)]
    refine withJ_i fun J11 hJ11 => ?_
    have k11 : ∀ (b11 : Nat) (w11 : World) (uv : NV), Hp w No w11 (⟨b11, uv.cells, T_api_Node⟩ :: Γ) → Own w11 uv → uv.nd = up → uv.mea ≤ 3000000 → Chg No w10 w11 → J11 (some ⟨b11, 0, none⟩) w11 := by
      intro b11 w11 uv H11 hou hun hum hc11
      subst hJ11
      have own11 := own10.chg0 hc11
      have H11' := H11
      rw [hΓ] at H11'
      refine withJ_i fun J13 hJ13 => ?_
      have k13 : ∀ (b13 : Nat) (w12 : World) (nv : NV), Hp w No w12 (⟨b13, nv.cells, T_api_Node⟩ :: ⟨b11, uv.cells, T_api_Node⟩ :: Γ) → Own w12 nv → nv.nd = now → nv.mea ≤ 3000000 → Chg No w11 w12 → J13 (some ⟨b13, 0, none⟩) w12 := by
        intro b13 w12 nv H12 hon hnn hnm hc12
        subst hJ13
        have own12 := own11.chg0 hc12
        have hou12 := hou.chg0 hc12
        rw [hΓ] at H12
        cases uv with
        | mk uk uu ul ut uap ual uac uas ukp ukl ukc uks =>
        cases nv with
        | mk qk qu ql qt qap qal qac qas qkp qkl qkc qks =>
        simp only [nonNil, Addr.add_mk, Nat.zero_add]
        have hukids : uks.map NV.nd = up.kids := by rw [← hun, nd_kids]; rfl
        have hqkids : qks.map NV.nd = now.kids := by rw [← hnn, nd_kids]; rfl
        cases hou12 with
        | mk hua huk huks =>
        cases hon with
        | mk hqa hqk hqks =>
        have hukl := huk.sl.row (even_node uks) (by decide)
        have hqkl := hqk.sl.row (even_node qks) (by decide)
        have hul : up.kids.length = ukl := by rw [← hukids, List.length_map]; exact hukl
        have hql : qkl = ukl + 1 := by
          have := congrArg List.length hqkids
          rw [hnk, List.length_map, List.length_append, List.length_cons, List.length_drop, htk] at this
          omega
        have hlmu := len_meaL uks
        have hukm : ukl ≤ 3000000 := by simp only [NV.mea] at hum; omega
        have hqm : NV.meaL qks ≤ 3000000 := by simp only [NV.mea] at hnm; omega
        have hum' : NV.meaL uks ≤ 3000000 := by simp only [NV.mea] at hum; omega
        rw [e1]
        refine idx_rows (f := intC) (hsl.chg H12.chg (off_no _)) (even_int zs) (by decide) (by omega) (by omega) fun a z _ hz hcs => ?_
        rw [Int.toNat_natCast, hzs, List.getElem?_append_right (by omega), show pl - 1 - r.length = 0 by omega] at hz
        obtain rfl : (n : Int) = z := Option.some.inj hz
        refine ⟨_, cellsAt_head hcs, ?_⟩
        refine withJ_i fun J100 hJ100 => ?_
        have k100 : J100 false w12 := by
          subst hJ100
          refine condB_i (fun h => by cases h) (fun _ => ?_)
          refine H12.ldS 1 rfl (off := 4) rfl ?_
          refine ⟨fun i w' m => ∃ q : Nat, i = q ∧ q ≤ ukl ∧ m = ukl - q ∧ Chg No w12 w', ⟨_, 0, rfl, Nat.zero_le _, rfl, Chg.refl _ _⟩, ?_⟩
          rintro x104 w14 m ⟨q, rfl, hq, rfl, hc14⟩
          have H14 := H12.step0 hc14
          refine condB_d (fun hlt => ?_) (fun hge => ?_)
          · refine withJ_i fun J17 hJ17 => ?_
            have k17 : ∀ j : Nat, j = (if n ≤ q then q + 1 else q) → J17 (j : Int) w14 := by
              intro j hj
              subst hJ17
              have H14d := H14.drew
              have c14d := hc14.drew
              refine H14d.ldS 1 rfl (off := 4) rfl ?_
              refine idx_rows (f := NV.cells) (huk.sl.chg c14d (off_no _)) (even_node uks) (by decide) (by omega) hlt fun a1 y1 _ hy1 hcs1 => ?_
              rw [Int.toNat_natCast] at hy1
              have hjl : j < qkl := by rw [hj]; split <;> omega
              have hy1m := List.mem_of_getElem? hy1
              have m1 := mea_kid hy1m
              cases y1 with
              | mk ak au al1 at1 aap aal aac aas akp akl akc aks =>
              refine ldNode hcs1 ?_
              refine H14d.ldS 0 rfl (off := 4) rfl ?_
              refine idx_rows (f := NV.cells) (hqk.sl.chg c14d (off_no _)) (even_node qks) (by decide) (by omega) (by omega) fun a2 y2 _ hy2 hcs2 => ?_
              rw [Int.toNat_natCast] at hy2
              have hy2m := List.mem_of_getElem? hy2
              cases y2 with
              | mk bk bu bl1 bt1 bap bal bac bas bkp bkl bkc bks =>
              refine ldNode hcs2 ?_
              refine Same_ok (NV.mk ak au al1 at1 aap aal aac aas akp akl akc aks) (NV.mk bk bu bl1 bt1 bap bal bac bas bkp bkl bkc bks) ((huks _ hy1m).ok.chg0 c14d) ((hqks _ hy2m).ok.chg0 c14d) (by omega) fun r w16 hr hc16 => ?_
              have hrt : r = true := hr.2 (by
                have g1 : (uks.map NV.nd)[q]? = some (NV.mk ak au al1 at1 aap aal aac aas akp akl akc aks).nd := by rw [List.getElem?_map, hy1]; rfl
                have g2 : (qks.map NV.nd)[j]? = some (NV.mk bk bu bl1 bt1 bap bal bac bas bkp bkl bkc bks).nd := by rw [List.getElem?_map, hy2]; rfl
                rw [hqkids, hnk, hj, ins_get hnlt, ← hukids, g1] at g2
                exact Option.some.inj g2)
              subst hrt
              refine condB_i (fun h => by cases h) (fun _ => ?_)
              exact ⟨_, by omega, q + 1, by rw [w64_of] <;> omega, by omega, rfl, c14d.trans0 hc16⟩
            clear hJ17
            refine condB_d (fun hg => ?_) (fun hg => ?_)
            · rw [show w64 ((q : Int) + 1) = ((q + 1 : Nat) : Int) from by rw [w64_of] <;> omega]
              exact k17 (q + 1) (by rw [if_pos (by omega)])
            · exact k17 q (by rw [if_neg (by omega)])
          · refine ldBox H14 3 rfl ?_
            refine Apply_ok (v := NV.mk xk xu xl xt xap xal xac xas xkp xkl xkc xks) (e := ⟨2, pp, pl, pc, zs, ByteArray.empty, ByteArray.empty, ByteArray.empty, zeroV⟩) (T.chg H14.chg) (own12.ok.chg0 hc14) ⟨hsl.chg H14.chg (off_no _), hnil, hcap, zeroV_own.ok⟩ (by
                unfold EV.mea; simp only [zeroV_mea]
                have : ByteArray.empty.size = 0 := rfl
                omega) fun x17 w17 hc17 hnd17 hown17 _ _ hm17 => ?_
            have hE17 : EV.ed ⟨2, pp, pl, pc, zs, ByteArray.empty, ByteArray.empty, ByteArray.empty, zeroV⟩ = ⟨2, zs, (emptyB, emptyB), emptyB, zeroN⟩ := by unfold EV.ed; simp only [zeroV_nd]; rfl
            rw [hE17, apply_of hB] at hnd17 ⊢
            have H17 := H14.step0 hc17
            have hDm : D.mea = M0 := by rw [← hD, nd_mea, hM0]
            have hm17' : x17.mea = M0 := by rw [← nd_mea, hnd17, hDm]
            cases x17 with
            | mk ck cu cl ct cap cal cac cas ckp ckl ckc cks =>
            simp only [NV.giv]
            refine storeBox H17 fun b18 w19 H19 hb18 hc19 => ?_
            refine withJ_i fun J6 hJ6 => ?_
            subst hJ6
            refine condB_i (fun _ => ?_) (fun h => by cases h)
            refine ldBox H19 0 rfl ?_
            refine ldBox H19 6 rfl ?_
            refine Same_ok (NV.mk ck cu cl ct cap cal cac cas ckp ckl ckc cks) (NV.mk k u l t ap al ac ats kp kl kc ks) (hown17.ok.chg0 hc19) (hd.chg0 H19.chg) (by omega) fun r w21 hr hc21 => ?_
            have hrt : r = true := hr.2 (by rw [hnd17, hD])
            subst hrt
            exact ⟨rfl, H19.chg.trans0 hc21⟩
        clear hJ100
        refine H12.ldS 0 rfl (off := 4) rfl ?_
        refine H12.ldS 1 rfl (off := 4) rfl ?_
        refine condB_ne (fun hne => absurd ?_ hne) (fun _ => ?_)
        · rw [w64_of] <;> omega
        refine condB_d (fun h => by omega) (fun _ => ?_)
        refine H12.ldS 1 rfl (off := 4) rfl ?_
        rw [decide_eq_false (show ¬ (n : Int) > (ukl : Int) by omega)]
        exact k100
      clear hJ13
      have H11d := H11'.drew
      have c11d := hc11.drew
      refine ldBox H11d 2 rfl ?_
      refine slS_sl (i := 0) (j := pl - 1) (hsl.chg H11d.chg (off_no _)) rfl e1 (Nat.zero_le _) (by omega) hcap fun q72 h72 _ => ?_
      rw [e39] at h72
      refine ⟨?_, ?_⟩
      · refine TreeAt_ok (v := NV.mk xk xu xl xt xap xal xac xas xkp xkl xkc xks) (zs := r) (own10.ok.chg0 c11d) (by omega) h72 (by omega) (fun y v22 w22 hat hnd22 hown22 _ _ hm22 hc22 => ?_) (fun w22 hat _ => ?_)
        · have hy : v22.nd = now := by
            have := atV_nd (r := r) (v := NV.mk xk xu xl xt xap xal xac xas xkp xkl xkc xks)
            rw [hat, hnr] at this
            rw [hnd22]; exact Option.some.inj this
          have H22 := H11d.step0 hc22
          cases v22 with
          | mk qk qu ql qt qap qal qac qas qkp qkl qkc qks =>
          simp only [NV.giv]
          refine newZ H22 fun b13 w23 H23 hb13 hc23 => ?_
          refine ⟨H23.cells 3 rfl 0, ?_⟩
          refine H23.stN 0 rfl (off := 0) rfl (by simp) (one1_node (.mk qk qu ql qt qap qal qac [] qkp qkl qkc [])) fun w24 H24 hc24 => ?_
          simp only [List.set_cons_zero] at H24
          have c2224 : Chg No w22 w24 := hc23.trans hc24 fun b hb e => by omega
          exact k13 b13 w24 (.mk qk qu ql qt qap qal qac qas qkp qkl qkc qks) (by rw [hΓ]; exact H24) (hown22.chg0 c2224) hy (by omega) ((((Chg.refl No w11).drew).trans0 hc22).trans0 c2224)
        · have := atV_nd (r := r) (v := NV.mk xk xu xl xt xap xal xac xas xkp xkl xkc xks)
          rw [hat, hnr] at this; cases this
      · refine newZ H11d fun b13 w25 H25 hb13 hc25 => ?_
        refine ⟨H25.cells 3 rfl 0, ?_⟩
        refine TreeAt_ok (v := NV.mk xk xu xl xt xap xal xac xas xkp xkl xkc xks) (zs := r) ((own10.ok.chg0 c11d).chg0 hc25) (by omega) (h72.chg hc25 (off_no _)) (by omega) (fun y v22 w22 hat hnd22 hown22 _ hbl22 hm22 hc22 => ?_) (fun w22 hat _ => ?_)
        · have hy : v22.nd = now := by
            have := atV_nd (r := r) (v := NV.mk xk xu xl xt xap xal xac xas xkp xkl xkc xks)
            rw [hat, hnr] at this
            rw [hnd22]; exact Option.some.inj this
          have H22 := H25.step0 hc22
          have hl13 := H25.lt 0 rfl
          cases v22 with
          | mk qk qu ql qt qap qal qac qas qkp qkl qkc qks =>
          simp only [NV.giv]
          refine H22.stN 0 rfl (off := 0) rfl (by simp) (one1_node (.mk qk qu ql qt qap qal qac [] qkp qkl qkc [])) fun w24 H24 hc24 => ?_
          simp only [List.set_cons_zero] at H24
          have c1124 : Chg No w11 w24 := (((Chg.refl No w11).drew).trans0 hc25 |>.trans0 hc22).trans hc24 fun b hb e => by
            have : w11.heap.size = w11.drew.heap.size := rfl
            omega
          exact k13 b13 w24 (.mk qk qu ql qt qap qal qac qas qkp qkl qkc qks) (by rw [hΓ]; exact H24) (hown22.chg hc24 fun z hz h => by have := hbl22 z hz; omega) hy (by omega) c1124
        · have := atV_nd (r := r) (v := NV.mk xk xu xl xt xap xal xac xas xkp xkl xkc xks)
          rw [hat, hnr] at this; cases this
    clear hJ11
    have H10d := H10.drew
    refine ldBox H10d 3 rfl ?_
    refine slS_sl (i := 0) (j := pl - 1) (hsl.chg H10d.chg (off_no _)) rfl e1 (Nat.zero_le _) (by omega) hcap fun q72 h72 _ => ?_
    rw [e39] at h72
    refine ⟨?_, ?_⟩
    · refine TreeAt_ok (v := NV.mk k u l t ap al ac ats kp kl kc ks) (zs := r) (hd.chg0 H10d.chg) (by omega) h72 (by omega) (fun y v22 w22 hat hnd22 hown22 _ _ hm22 hc22 => ?_) (fun w22 hat _ => ?_)
      · have hy : v22.nd = up := by
          have := atV_nd (r := r) (v := NV.mk k u l t ap al ac ats kp kl kc ks)
          rw [hat, hD, hup] at this
          rw [hnd22]; exact Option.some.inj this
        have H22 := H10d.step0 hc22
        cases v22 with
        | mk qk qu ql qt qap qal qac qas qkp qkl qkc qks =>
        simp only [NV.giv]
        refine newZ H22 fun b13 w23 H23 hb13 hc23 => ?_
        refine ⟨H23.cells 4 rfl 0, ?_⟩
        refine H23.stN 0 rfl (off := 0) rfl (by simp) (one1_node (.mk qk qu ql qt qap qal qac [] qkp qkl qkc [])) fun w24 H24 hc24 => ?_
        simp only [List.set_cons_zero] at H24
        have c2224 : Chg No w22 w24 := hc23.trans hc24 fun b hb e => by omega
        exact k11 b13 w24 (.mk qk qu ql qt qap qal qac qas qkp qkl qkc qks) (by rw [hΓ]; exact H24) (hown22.chg0 c2224) hy (by omega) ((((Chg.refl No w10).drew).trans0 hc22).trans0 c2224)
      · have := atV_nd (r := r) (v := NV.mk k u l t ap al ac ats kp kl kc ks)
        rw [hat, hD, hup] at this; cases this
    · refine newZ H10d fun b13 w25 H25 hb13 hc25 => ?_
      refine ⟨H25.cells 4 rfl 0, ?_⟩
      refine TreeAt_ok (v := NV.mk k u l t ap al ac ats kp kl kc ks) (zs := r) (hd.chg0 H25.chg) (by omega) (h72.chg hc25 (off_no _)) (by omega) (fun y v22 w22 hat hnd22 hown22 _ hbl22 hm22 hc22 => ?_) (fun w22 hat _ => ?_)
      · have hy : v22.nd = up := by
          have := atV_nd (r := r) (v := NV.mk k u l t ap al ac ats kp kl kc ks)
          rw [hat, hD, hup] at this
          rw [hnd22]; exact Option.some.inj this
        have H22 := H25.step0 hc22
        have hl13 := H25.lt 0 rfl
        cases v22 with
        | mk qk qu ql qt qap qal qac qas qkp qkl qkc qks =>
        simp only [NV.giv]
        refine H22.stN 0 rfl (off := 0) rfl (by simp) (one1_node (.mk qk qu ql qt qap qal qac [] qkp qkl qkc [])) fun w24 H24 hc24 => ?_
        simp only [List.set_cons_zero] at H24
        have c1124 : Chg No w10 w24 := (((Chg.refl No w10).drew).trans0 hc25 |>.trans0 hc22).trans hc24 fun b hb e => by
          have : w10.heap.size = w10.drew.heap.size := rfl
          omega
        exact k11 b13 w24 (.mk qk qu ql qt qap qal qac qas qkp qkl qkc qks) (by rw [hΓ]; exact H24) (hown22.chg hc24 fun z hz h => by have := hbl22 z hz; omega) hy (by omega) c1124
      · have := atV_nd (r := r) (v := NV.mk k u l t ap al ac ats kp kl kc ks)
        rw [hat, hD, hup] at this; cases this
  clear hJ55
  have H9d := H9.drew
  refine condB_ne (fun h => absurd rfl h) (fun _ => ?_)
  refine ldBox H9d 0 rfl ?_
  refine ldBox H9d 2 rfl ?_
  have c9d : Chg No w9 w9.drew := (Chg.refl No w9).drew
  refine Same_ok (NV.mk vk vu vl vt vap val vac vas vkp vkl vkc vks) (NV.mk nk nu nl nt nap nal nac nas nkp nkl nkc nks) ((hown7.ok.chg0 hc9).chg0 c9d) (hx.chg0 H9d.chg) (by omega) fun r w34 hr hc34 => ?_
  have hrt : r = true := hr.2 (by rw [hyX, hX])
  subst hrt
  refine condB_i (fun h => by cases h) (fun _ => ?_)
  have H34 := H9d.step0 hc34
  refine ldBox H34 1 rfl ?_
  refine ldBox H34 3 rfl ?_
  refine ldBox H34 2 rfl ?_
  have c634 := (c69.trans0 c9d).trans0 hc34
  refine Size_ok (NV.mk xk xu xl xt xap xal xac xas xkp xkl xkc xks) (own6.ok.chg0 c634) (by omega) fun w35 hc35 => ?_
  have H35 := H34.step0 hc35
  refine ⟨H35.cells 2 rfl 0, H35.cells 3 rfl 0, ?_⟩
  refine Size_ok (NV.mk k u l t ap al ac ats kp kl kc ks) (hd.chg0 H35.chg) (by omega) fun w36 hc36 => ?_
  have H36 := H35.step0 hc36
  refine ⟨H36.cells 2 rfl 0, ?_⟩
  refine Size_ok (NV.mk nk nu nl nt nap nal nac nas nkp nkl nkc nks) (hx.chg0 H36.chg) (by omega) fun w37 hc37 => ?_
  have s1 := size_mea (NV.mk k u l t ap al ac ats kp kl kc ks)
  have s2 := size_mea (NV.mk nk nu nl nt nap nal nac nas nkp nkl nkc nks)
  rw [hD] at s1
  rw [hX] at s2
  rw [hsz, hD, hX, show ((((D.size + X.size : Nat) : Int)) != w64 (((D.size : Nat) : Int) + ((X.size : Nat) : Int))) = false from by
    rw [w64_of (by omega) (by omega), bne_eq_false_iff_eq]; omega]
  exact k55 w37 (((c9d.trans0 hc34).trans0 hc35).trans0 hc36 |>.trans0 hc37)
end
end Go.Proofs.YtkgfbphdmnapdaaDoor

