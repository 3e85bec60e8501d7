/-
  Chapter 14: the document's Groups, step by step.
-/
import Derived.Test.YtfhmnodoahcmnaaGroups14
namespace Go.Proofs.Ytfhmnodoahcmnaa
open Go Go.Vc

section
variable {w : World} {p : Option Addr} {l c : Nat} {L : List (List UInt8)} {hs : List BV}

theorem cutB {q : Option Addr} {m d : Nat} {b : List UInt8} (h : Bytes w q m b) {i j : Nat} (hij : i ≤ j) (hj : j ≤ m) (hd : m ≤ d) {oi oj : Option Int} (e1 : oi.getD 0 = (i : Int)) (e2 : oj.getD m = (j : Int)) {K : Option Addr → Nat → Nat → Prop}
    (k : ∀ q', Bytes w q' (j - i) ((b.drop i).take (j - i)) → (q' = none → j - i = 0) → K q' (j - i) (d - i)) : slS q m d 1 oi oj none K := by
  refine slS_sl (i := i) (j := j) h e1 e2 hij hj hd fun q' hq _ => ?_
  have hq' : Bytes w q' (j - i) ((b.drop i).take (j - i)) := by
    have e : ((bcells b).drop (i * 1)).take ((j - i) * 1) = bcells ((b.drop i).take (j - i)) := by
      unfold bcells; rw [Nat.mul_one, Nat.mul_one, ← List.map_drop, ← List.map_take]
    rw [e] at hq; exact hq
  refine k q' hq' fun h0 => ?_
  by_cases hz : j - i = 0
  · exact hz
  · obtain ⟨a, ha, _⟩ := Sl.at hq' hz; rw [h0] at ha; cases ha

set_option maxRecDepth 20000 in
theorem Groups_ok {gen : Nat} {J : Option Addr → Nat → Nat → Int → World → Prop} (h : Lst w p l L hs) (h64 : ∀ s ∈ L, s.length = 64) (hl : l ≤ 1000) (hg : gen < 2 ^ 32)
    (k : ∀ p' l' c' hs' w', Rows w w' p' l' c' (opened gen L).all hs' → Chg No w w' → J p' l' c' (((opened gen L).place : Nat) : Int) w') :
    callJ Try.prog fn_ref14_Groups #[.slice p l c, .int .i64 (gen : Int)] w [.one .slice, .one (.int .i64)] J := by
  refine c_ref14_Groups ?_
  unfold VC_ref14_Groups
  obtain ⟨hl1, hl2⟩ := h.len
  refine (Hp.start w No).newB fun b1 w1 H1 hb1 hc1 => ?_
  have hR1 : Rows w w1 (some ⟨b1, 0, none⟩) 0 0 [] [] := ⟨H1.asRow 0 rfl (rest := []) rfl rfl (Nat.le_refl _) (Nat.zero_le _) rfl, rfl, by simp, by rintro a ⟨⟩; exact hb1, by simp⟩
  refine withJ_i fun J6 hJ6 => ?_
  have fin : ∀ op ol oc pl out hs' w', (opened gen L).all = out → (opened gen L).place = pl → Rows w w' op ol oc out hs' → Chg No w w' → J6 op ol oc ((pl : Nat) : Int) w' := by
    intro op ol oc pl out hs' w' e1 e2 hR hc
    subst hJ6; subst e1; subst e2
    exact k _ _ _ hs' _ hR hc
  clear hJ6
  refine ⟨fun op ol oc x w' m => ∃ (pl : Nat) (out : List (List UInt8)) (hs' : List BV), x = pl ∧ pl ≤ l ∧ m = l - pl ∧ opened gen L = scan gen pl (L.drop pl) ⟨out, [], -1, pl⟩ ∧ Rows w w' op ol oc out hs' ∧ out.length ≤ pl ∧ Chg No w w',
    ⟨_, 0, [], [], rfl, Nat.zero_le _, rfl, rfl, hR1, Nat.le_refl _, hc1⟩, ?_⟩
  rintro op ol oc x w3 m ⟨pl, out, hs', rfl, hpl, rfl, hsc, hR, hol, hc3⟩
  have hoL := hR.len
  have hLl : (L.drop pl).length = l - pl := by rw [List.length_drop]; omega
  have hd64 : ∀ s ∈ L.drop pl, s.length = 64 := fun s hs => h64 s (List.mem_of_mem_drop hs)
  refine condB_d (fun hlt => ?_) (fun hlt => ?_)
  · refine (h.chg0 hc3).at (by omega) (by omega) fun a x b hx hb _ hbytes hle hn hcell _ => ?_
    rw [Int.toNat_natCast] at hb hx
    refine ldS_i hcell ?_
    have hb64 := h64 b (List.mem_of_getElem? hb)
    have hxl := hbytes.len
    refine cutB hbytes (i := 12) (j := 14) (by decide) (by omega) hle rfl rfl fun q4 hq4 _ => ?_
    refine Value_ok hq4 (by decide) ?_
    have ehL : beVal ((b.drop 12).take (14 - 12)) = hdL b := rfl
    rw [ehL]
    have hLlt := hdL_lt (b := b)
    have e1 : w64 ((1 : Int) + (hdL b : Int)) = ((1 + hdL b : Nat) : Int) := by rw [w64_of] <;> omega
    rw [e1]
    generalize hnn : 1 + hdL b = n at *
    have e2 : w64 ((pl : Int) + ((n : Nat) : Int)) = ((pl + n : Nat) : Int) := by rw [w64_of] <;> omega
    rw [e2]
    have hd0 : (L.drop pl)[0]? = some b := by rw [List.getElem?_drop]; simpa using hb
    have none_ : ¬ Acc gen pl out (L.drop pl) n → ∀ w', Rows w w' op ol oc out hs' → Chg No w w' → J6 op ol oc ((pl : Nat) : Int) w' := by
      intro hno w' hR' hc'
      obtain ⟨q1, q2⟩ := scan_not (gen := gen) (place := pl) (out := out) hd64 (fun b0 h0 => by rw [hd0] at h0; cases h0; rw [hnn]; exact hno)
      rw [← hsc] at q1 q2
      exact fin op ol oc pl out hs' w' q1 q2 hR' hc'
    refine withJ_i fun J43 hJ43 => ?_
    have stop : ¬ Acc gen pl out (L.drop pl) n → J43 true w3 := by
      intro hno
      subst hJ43
      exact condB_i (fun _ => none_ hno w3 hR hc3) (fun h => by simp at h)
    refine condB_d (fun hgt => stop fun hA => by have := hA.1; omega) (fun hgt => ?_)
    have hn1 : 1 ≤ n := by omega
    have e3 : w64 (((pl + n : Nat) : Int) - 1) = ((pl + n - 1 : Nat) : Int) := by rw [w64_of] <;> omega
    rw [e3]
    refine (h.chg0 hc3).at (by omega) (by omega) fun a2 x2 b2 hx2 hb2 _ hbytes2 hle2 hn2 hcell2 _ => ?_
    rw [Int.toNat_natCast] at hb2
    refine ldS_i hcell2 ?_
    have hb642 := h64 b2 (List.mem_of_getElem? hb2)
    have hxl2 := hbytes2.len
    refine cutB hbytes2 (i := 14) (j := 16) (by decide) (by omega) hle2 rfl rfl fun q5 hq5 _ => ?_
    refine Value_ok hq5 (by decide) ?_
    have ehS : beVal ((b2.drop 14).take (16 - 14)) = hdS b2 := rfl
    rw [ehS]
    have hd2 : (L.drop pl)[n - 1]? = some b2 := by rw [List.getElem?_drop, show pl + (n - 1) = pl + n - 1 by omega]; exact hb2
    by_cases hS : ((hdS b2 : Nat) : Int) > 48
    · rw [decide_eq_true hS]
      exact stop fun hA => by have := hA.2.1 b2 hd2; omega
    rw [decide_eq_false hS]
    have hS48 : hdS b2 ≤ 48 := by omega
    clear stop
    subst hJ43
    refine condB_i (fun h => by simp at h) fun _ => ?_
    refine (Hp.start w3 No).newB fun b6 w6 H6 hb6 hc6 => ?_
    have hr6 : Row w6 T_uint8 1 (some ⟨b6, 0, none⟩) 0 0 (bcells []) := H6.asRow 0 rfl (rest := []) rfl rfl (Nat.le_refl _) (Nat.zero_le _) rfl
    refine ⟨fun pp ppl ppc x w' m => ∃ i : Nat, x = i ∧ i ≤ n ∧ m = n - i ∧ Row w' T_uint8 1 pp ppl ppc (bcells (pOf ((L.drop pl).take i))) ∧ fresh w3 pp ∧ ppl ≤ 48 * i ∧ Chg No w3 w',
      ⟨_, 0, rfl, Nat.zero_le _, rfl, hr6, by rintro a ⟨⟩; exact hb6, Nat.zero_le _, hc6⟩, ?_⟩
    rintro pp ppl ppc x w7 m ⟨i, rfl, hi, rfl, hr7, hf7, hpl7, hc7⟩
    have hc37 := hc3.trans0 hc7
    refine condB_d (fun hin => ?_) (fun hin => ?_)
    · have e4 : w64 ((pl : Int) + (i : Int)) = ((pl + i : Nat) : Int) := by rw [w64_of] <;> omega
      rw [e4]
      have hd : Chg No w7 w7.drew := (Chg.refl _ _).drew
      have h7 := (h.chg0 (hc37.trans0 hd))
      refine h7.at (by omega) (by omega) fun a3 x3 b3 hx3 hb3 _ hbytes3 hle3 hn3 hcell3 hp3 => ?_
      refine ldS_i hcell3 ?_
      refine h7.at (by omega) (by omega) fun a4 x4 b4 hx4 hb4 _ hbytes4 hle4 hn4 hcell4 _ => ?_
      rw [hx3] at hx4; cases hx4
      rw [hb3] at hb4; cases hb4
      refine ldS_i hcell4 ?_
      rw [Int.toNat_natCast] at hb3
      have hb643 := h64 b3 (List.mem_of_getElem? hb3)
      have hxl3 := hbytes3.len
      refine cutB hbytes3 (i := 14) (j := 16) (by decide) (by omega) hle3 rfl rfl fun q8 hq8 _ => ?_
      refine Value_ok hq8 (by decide) ⟨hcell3, ?_⟩
      have ehS3 : beVal ((b3.drop 14).take (16 - 14)) = hdS b3 := rfl
      rw [ehS3]
      have hSlt := hdS_lt (b := b3)
      have e5 : w64 ((16 : Int) + (if ((hdS b3 : Nat) : Int) < 48 then ((hdS b3 : Nat) : Int) else 48)) = ((16 + min 48 (hdS b3) : Nat) : Int) := by
        split
        · rw [w64_of] <;> omega
        · rw [w64_of] <;> omega
      rw [e5]
      refine cutB hbytes3 (i := 16) (j := 16 + min 48 (hdS b3)) (by omega) (by omega) hle3 rfl rfl fun q9 hq9 hq9n => ?_
      have eb : (b3.drop 16).take (16 + min 48 (hdS b3) - 16) = body48 b3 := by unfold body48; congr 1; omega
      rw [eb] at hq9
      refine appB (hr7.chg hd (off_no _)) hq9 hq9n (by omega) hf7 (hc7.trans0 hd) fun p10 c10 w10 hr10 hf10 hc10 => ?_
      have hdi : (L.drop pl)[i]? = some b3 := by rw [List.getElem?_drop]; exact hb3
      refine ⟨n - (i + 1), by omega, i + 1, by rw [w64_of] <;> omega, by omega, rfl, ?_, hf10, by omega, hc10⟩
      have ep : pOf ((L.drop pl).take (i + 1)) = pOf ((L.drop pl).take i) ++ body48 b3 := by
        unfold pOf
        rw [List.take_add_one, hdi, List.flatMap_append]; simp
      rw [ep]; exact hr10
    · have hin2 : i = n := by omega
      subst hin2
      have hpp : (pOf ((L.drop pl).take i)).length = ppl := by have := hr7.len; rwa [bcells_length, Nat.mul_one] at this
      have hR7 := hR.chg0 hc7
      refine RSectors_ok (by omega) ?_
      refine withJ_i fun J11 hJ11 => ?_
      have ans : ∀ (x : Bool) w', Chg No w7 w' → (x = true ↔ Acc gen pl out (L.drop pl) i) → J11 x w' := by
        intro x w' hc' hx
        subst hJ11
        have hR' := hR7.chg0 hc'
        have hcw' := hc37.trans0 hc'
        refine condB_i (fun hxf => ?_) (fun hxt => ?_)
        · exact none_ (fun hA => by rw [hx.2 hA] at hxf; cases hxf) w' hR' hcw'
        · have hA := hx.1 (by simpa using hxt)
          have hr7' := hr7.chg hc' (off_no _)
          refine hR'.push (x := ⟨pp, ppl, ppc, pOf ((L.drop pl).take i)⟩) hr7' (fun a ha => Nat.le_trans hc3.size (hf7 a ha)) (by omega) hcw'.size fun p12 c12 w12 hR12 hc12 _ _ => ?_
          have hscA := scan_acc (by omega) hA
          rw [hscA, List.drop_drop] at hsc
          refine ⟨l - (pl + i), by omega, pl + i, _, _, rfl, by omega, rfl, hsc, hR12, by simp; omega, ?_⟩
          exact hcw'.trans hc12 fun b hb ⟨a, ha, e⟩ => by have := hR'.fresh a ha; omega
      clear hJ11
      refine condB_eq (fun he => ?_) (fun hne => ?_)
      · have hns : nsec ppl = i := by omega
        rw [beq_iff_eq.2 he]
        rw [← hoL]
        refine Group_ok hg (by omega) (by omega) hr7.bytes hr7.le.1 (by omega) fun p14 c14 hs14 w14 hR14 hc14 => ?_
        rw [hns] at hR14 ⊢
        have hgl : (grp gen pl out.length (pOf ((L.drop pl).take i))).length = i := by rw [grp_len, hpp, hns]
        have htl : ((L.drop pl).take i).length = i := by rw [List.length_take]; omega
        refine ⟨fun s x w' m => ∃ jj : Nat, x = jj ∧ jj ≤ i ∧ m = i - jj ∧ s = decide ((grp gen pl out.length (pOf ((L.drop pl).take i))).take jj = ((L.drop pl).take i).take jj) ∧ Chg No w14 w',
          ⟨_, 0, rfl, Nat.zero_le _, rfl, by simp, Chg.refl _ _⟩, ?_⟩
        rintro s x w15 m ⟨jj, rfl, hjj, rfl, rfl, hc15⟩
        refine condB_d (fun hlt3 => ?_) (fun hlt3 => ?_)
        · refine withJ_i fun J111 hJ111 => ?_
          have next : ∀ (s : Bool), s = decide ((grp gen pl out.length (pOf ((L.drop pl).take i))).take (jj + 1) = ((L.drop pl).take i).take (jj + 1)) → J111 s w15.drew := by
            intro s hs
            subst hJ111
            exact ⟨i - (jj + 1), by omega, jj + 1, by rw [w64_of] <;> omega, by omega, rfl, hs, hc15.drew⟩
          clear hJ111
          refine (hR14.lst.chg0 hc15).at (by omega) (by omega) fun a5 x5 b5 _ hb5 _ hbytes5 _ _ hcell5 _ => ?_
          refine ldS_i hcell5 ?_
          rw [Int.toNat_natCast] at hb5
          have hd : Chg No w15 w15.drew := (Chg.refl _ _).drew
          have e6 : w64 ((pl : Int) + (jj : Int)) = ((pl + jj : Nat) : Int) := by rw [w64_of] <;> omega
          obtain ⟨b6, hb6⟩ : ∃ b6, ((L.drop pl).take i)[jj]? = some b6 := ⟨((L.drop pl).take i)[jj]'(by omega), List.getElem?_eq_getElem _⟩
          have htk : (grp gen pl out.length (pOf ((L.drop pl).take i))).take (jj + 1) = ((L.drop pl).take i).take (jj + 1) ↔ (grp gen pl out.length (pOf ((L.drop pl).take i))).take jj = ((L.drop pl).take i).take jj ∧ b5 = b6 := by
            rw [List.take_add_one, List.take_add_one (l := (L.drop pl).take i), hb5, hb6]
            constructor
            · intro h
              have h1 := List.append_inj h (by rw [List.length_take, List.length_take]; omega)
              exact ⟨h1.1, by simpa using h1.2⟩
            · rintro ⟨h1, rfl⟩; rw [h1]
          refine condB_i (fun ht => ?_) (fun hf => ?_)
          · refine bytesOf_i (hbytes5.chg hd (off_no _)) ?_
            rw [e6]
            refine (h.chg0 (((hc37.trans0 hc14).trans0 hc15).trans0 hd)).at (by omega) (by omega) fun a7 x7 b7 _ hb7 _ hbytes7 _ _ hcell7 _ => ?_
            refine ldS_i hcell7 ?_
            refine bytesOf_i hbytes7 ?_
            rw [ByteArray.toList_mk, ByteArray.toList_mk]
            rw [Int.toNat_natCast] at hb7
            have hb67 : b6 = b7 := by
              rw [List.getElem?_take, if_pos (by omega), List.getElem?_drop, hb7] at hb6
              cases hb6; rfl
            refine next _ ?_
            have ht' := of_decide_eq_true ht
            rw [Bool.eq_iff_iff, decide_eq_true_iff, htk, hb67]
            simp [ht']
          · refine next _ ?_
            have hf' := of_decide_eq_false hf
            rw [Bool.eq_iff_iff, decide_eq_true_iff, htk]
            simp [hf']
        · have hj : jj = i := by omega
          subst hj
          refine ans _ w15 (hc14.trans0 hc15) ?_
          rw [List.take_of_length_le (by omega), List.take_of_length_le (Nat.le_of_eq htl), decide_eq_true_iff]
          constructor
          · intro hE
            exact ⟨by omega, fun bb hbb => by rw [hd2] at hbb; cases hbb; exact hS48, by rw [hpp]; exact hns, hE⟩
          · exact fun hA => hA.2.2.2
      · refine ans _ w7 (Chg.refl _ _) ?_
        have hb : (((nsec ppl : Nat) : Int) == ((i : Nat) : Int)) = false := by simpa using hne
        rw [hb]
        constructor
        · intro h; cases h
        · intro hA
          have := hA.2.2.1
          rw [hpp] at this
          exact absurd (by omega) hne
  · have hpe : pl = l := by omega
    rw [List.drop_of_length_le (by omega)] at hsc
    have e1 : (opened gen L).all = out := by rw [hsc]; rfl
    have e2 : (opened gen L).place = pl := by rw [hsc]; rfl
    exact fin op ol oc pl out hs' w3 e1 e2 hR hc3
end

end Go.Proofs.Ytfhmnodoahcmnaa
