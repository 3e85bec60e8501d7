/-
  Package scope: Open, Bound, Element.
-/
import Derived.Test.YtdjehimkijlhgaaDoorScope
set_option linter.unusedVariables false
set_option linter.unusedSimpArgs false
namespace Go.Proofs.YtdjehimkijlhgaaDoor
open Go Go.Vc Go.Lib

section
variable {w : World}

theorem Bound_ok {p : Option Addr} {l c : Nat} {B : List Pr} {v : ByteArray} {J : ByteArray → Bool → World → Prop} (h : Sl w p l 2 (rows pr B)) (hm : l ≤ 1000000000) (K : ∀ w', Chg No w w' → J (boundP B v).1 (boundP B v).2 w') :
    callJ Tryd.prog fn_scope_Scope_Bound #[.agg ⟨[.slice p l c]⟩, .string v] w [.one .str, .one .bool] J := by
  refine c_scope_Scope_Bound ?_
  unfold VC_scope_Scope_Bound
  rw [show (⟨#[120, 109, 108]⟩ : ByteArray) = kXml from rfl, show (⟨#[]⟩ : ByteArray) = kE from rfl,
    show (⟨#[104, 116, 116, 112, 58, 47, 47, 119, 119, 119, 46, 119, 51, 46, 111, 114, 103, 47, 88, 77, 76, 47, 49, 57, 57, 56, 47, 110, 97, 109, 101, 115, 112, 97, 99, 101]⟩ : ByteArray) = kSXml from rfl]
  simp only [beqS]
  have hl := h.row (even_pr B) (by decide)
  refine (Hp.start w No).newB fun b2 w1 H1 _ hc1 => ?_
  unfold boundP at K
  refine condB_d (fun hx => by rw [if_pos hx] at K; exact K w1 hc1) (fun hx => ?_)
  rw [if_neg hx] at K
  refine H1.ldS 0 rfl (off := 0) rfl ?_
  refine ⟨fun x w' t => ∃ i : Nat, x = i ∧ i ≤ l ∧ t = l - i ∧ Chg No w w' ∧ B.find? (fun b => decide (b.1 = v)) = (B.drop i).find? (fun b => decide (b.1 = v)), ⟨_, 0, rfl, Nat.zero_le _, rfl, hc1, rfl⟩, ?_⟩
  rintro x w2 t ⟨i, rfl, hi, rfl, hc, hfind⟩
  refine condB_d (fun hlt => ?_) (fun hge => ?_)
  · refine pr_i (h.chg hc (off_no _)) (by omega) hlt fun a y hy h1 h2 => ?_
    rw [Int.toNat_natCast] at hy
    obtain ⟨g1, g2⟩ := List.getElem?_eq_some_iff.1 hy
    rw [List.drop_eq_getElem_cons g1, g2, List.find?_cons] at hfind
    refine ldStr_i h1 (ldStr_i h2 ?_)
    rw [zeroC_bind]
    refine (Hp.start w2 No).newB fun b7 w3 H3 _ _ => ?_
    refine H3.stN 0 rfl (off := 0) rfl (by simp) (one1_pr _) fun w4 H4 _ => ?_
    have e5 : splice [Value.string ByteArray.empty, Value.string ByteArray.empty] 0 (pr y) = pr y := splice_all rfl
    have H4' : Hp w2 No w4 [⟨b7, pr y, T_scope_bind⟩] := by rw [← e5]; exact H4
    have hc4 := hc.trans0 H4'.chg
    refine H4'.ldStr 0 rfl (off := 0) rfl ?_
    refine condB_d (fun he => ?_) (fun hne => ?_)
    · refine H4'.ldStr 0 rfl (off := 1) rfl ?_
      rw [decide_eq_true he] at hfind
      simp only at hfind
      rw [hfind] at K
      exact K w4 hc4
    · rw [decide_eq_false hne] at hfind
      exact ⟨_, by omega, i + 1, by rw [w64_of] <;> omega, by omega, rfl, hc4, hfind⟩
  · rw [List.drop_of_length_le (by omega), List.find?_nil] at hfind
    rw [hfind] at K
    exact K w2 hc

/-- What stands in a name that is answered. -/
theorem nameAns {w0 w1 : World} {b : Nat} {Γ : List Blk} {u l : ByteArray} {cs : List Value} {e : TypeId} {K : ByteArray → ByteArray → World → Prop} (i : Nat) (H : Hp w0 No w1 Γ) (hi : Γ[i]? = some ⟨b, cs, e⟩) (hl : cs.length = 2) (k : ∀ w', Chg No w0 w' → K u l w') :
    stN w1 ⟨b, 0, none⟩ ⟨[.string u, .string l]⟩ 2 fun w4 => ldStr w4 ⟨b, 0, none⟩ fun r0 => ldStr w4 ⟨b, 1, none⟩ fun r1 => K r0 r1 w4 := by
  refine H.stN i hi (off := 0) rfl (by omega) (one1_pr (u, l)) fun w4 H4 _ => ?_
  have e5 : splice cs 0 (pr (u, l)) = pr (u, l) := splice_all (by rw [hl]; rfl)
  have hlt := (List.getElem?_eq_some_iff.1 hi).1
  have hg : (Γ.set i ⟨b, splice cs 0 (pr (u, l)), e⟩)[i]? = some ⟨b, pr (u, l), e⟩ := by rw [List.getElem?_set_self hlt, e5]
  refine H4.ldStr i hg (off := 0) rfl ?_
  refine H4.ldStr i hg (off := 1) rfl ?_
  exact k w4 H4.chg

theorem Element_ok {p : Option Addr} {l c : Nat} {B : List Pr} {q : ByteArray} {J : ByteArray → ByteArray → Int → World → Prop} (h : Sl w p l 2 (rows pr B)) (hm : l ≤ 1000000000) (hq : q.size ≤ 9223372036854775806) (T : Tabs w)
    (K : ∀ w', Chg No w w' → J (elemL (boundP B) q).1.1 (elemL (boundP B) q).1.2 (elemL (boundP B) q).2 w') :
    callJ Tryd.prog fn_scope_Scope_Element #[.agg ⟨[.slice p l c]⟩, .string q] w [.agg [.str, .str], .one (.int .i64)] J := by
  refine c_scope_Scope_Element ?_
  unfold VC_scope_Scope_Element
  rw [show (⟨#[120, 109, 108, 110, 115]⟩ : ByteArray) = kXmlns from rfl, zeroC_name]
  simp only [beqS]
  refine (Hp.start w No).newB fun b2 w1 H1 _ hc1 => ?_
  refine H1.newB fun b4 w2 H2 _ hc2 => ?_
  have hc02 := hc1.trans0 hc2
  refine SplitC_ok hq (T.chg hc02) fun a b ok w3 hc3 hsp => ?_
  have H3 := H2.step0 hc3
  unfold Spl at hsp
  have ea : bl a = (spl (bl q)).1 := congrArg Prod.fst hsp
  have eb : bl b = (spl (bl q)).2.1 := congrArg (fun z => z.2.1) hsp
  have eo : ok = (spl (bl q)).2.2 := congrArg (fun z => z.2.2) hsp
  unfold elemL at K
  rw [mkB_eq ea, mkB_eq eb, ← eo] at K
  refine condB_not (fun hf => ?_) (fun ht => ?_)
  · rw [if_pos hf] at K
    exact nameAns 0 H3 rfl rfl fun w' hc => K w' hc
  rw [if_neg (by simp [ht])] at K
  refine condB_d (fun he => ?_) (fun hne => ?_)
  · rw [if_pos he] at K
    exact nameAns 0 H3 rfl rfl fun w' hc => K w' hc
  rw [if_neg hne] at K
  refine H3.ldS 1 rfl (off := 0) rfl ?_
  refine Bound_ok (h.chg H3.chg (off_no _)) hm fun w6 hc6 => ?_
  have H6 := H3.step0 hc6
  refine condB_not (fun hf => ?_) (fun ht => ?_)
  · rw [if_pos hf] at K
    exact nameAns 0 H6 rfl rfl fun w' hc => K w' hc
  · rw [if_neg (by simp [ht])] at K
    exact nameAns 0 H6 rfl rfl fun w' hc => K w' hc

theorem openP_drop {L : List Pr} {i : Nat} {x : Pr} (h : L[i]? = some x) (had : List ByteArray) (B : List Pr) : openP (L.drop i) had B = match decl x with
    | none => openP (L.drop (i + 1)) had B
    | some p => if wrongZ p x.2 ≠ 0 then ([], wrongZ p x.2) else if memB p had = true then ([], 27) else openP (L.drop (i + 1)) (had ++ [p]) (putP B p x.2) := by
  obtain ⟨g1, g2⟩ := List.getElem?_eq_some_iff.1 h
  rw [List.drop_eq_getElem_cons g1, g2]; rfl

theorem Open_ok {p q : Option Addr} {l c m d : Nat} {B L : List Pr} {J : Option Addr → Nat → Nat → Int → World → Prop} (h : Sl w p l 2 (rows pr B)) (hp : p = none → l = 0) (hL : Sl w q m 2 (rows pr L)) (hs : ∀ x ∈ L, x.1.size ≤ 9223372036854775806) (hm : l + m ≤ 100000000) (T : Tabs w)
    (K : ∀ p' l' c' w', Row w' T_scope_bind 2 p' l' c' (rows pr (openP L [] B).1) → fresh w p' → Chg No w w' → l' ≤ l + m → J p' l' c' (openP L [] B).2 w') :
    callJ Tryd.prog fn_scope_Scope_Open #[.agg ⟨[.slice p l c]⟩, .slice q m d] w [.agg [.slice], .one (.int .i64)] J := by
  refine c_scope_Scope_Open ?_
  unfold VC_scope_Scope_Open
  rw [show (⟨#[120, 109, 108]⟩ : ByteArray) = kXml from rfl, show (⟨#[]⟩ : ByteArray) = kE from rfl, zeroC_scope, zeroC_pair, zeroC_string]
  simp only [beqS]
  have hll := hL.row (even_pr L) (by decide)
  refine (Hp.start w No).newB fun b2 w1 H1 _ hc1 => ?_
  refine H1.newB fun b4 w2 H2 _ hc2 => ?_
  refine H2.ldS 1 rfl (off := 0) rfl ?_
  refine BindClone_ok (h.chg H2.chg (off_no _)) hp (by omega) fun p3 c3 w3 hr3 hf3 hc3 => ?_
  have H3 := H2.step0 hc3
  have hf3' : fresh w p3 := fun a ha => by have := hf3 a ha; have := H2.chg.size; omega
  -- what is answered
  have ans : ∀ {w0 : World} {b2 b4 : Nat} {cs2 : List Value} {e2 : TypeId} (s : Value) (hs1 : s.oneCell' = true) (w11 : World) (Kx : Option Addr → Nat → Nat → World → Prop) (q0 : Option Addr) (l0 c0 : Nat), s = .slice q0 l0 c0 → Hp w No w11 [⟨b4, [.slice none 0 0], T_scope_Scope⟩, ⟨b2, cs2, e2⟩] → (∀ w', Chg No w11 w' ∨ Chg (fun x => x = b4) w11 w' → Chg No w w' → Kx q0 l0 c0 w') →
      stN w11 ⟨b4, 0, none⟩ ⟨[s]⟩ 1 fun w12 => ldS w12 ⟨b4, 0, none⟩ fun r0 r1 r2 => Kx r0 r1 r2 w12 := by
    intro w0 b2 b4 cs2 e2 s hs1 w11 Kx q0 l0 c0 e H k
    subst e
    refine H.stN 0 rfl (off := 0) rfl (by simp) (one1_cons rfl one1_nil) fun w12 H12 hc12 => ?_
    refine H12.ldS 0 rfl (off := 0) rfl ?_
    exact k w12 (.inr hc12) H12.chg
  refine ⟨fun hp' hl' hc' bp bl' bc x w' t => ∃ (i : Nat) (had : List ByteArray) (B' : List Pr), x = i ∧ i ≤ m ∧ t = m - i ∧ Hp w No w' [⟨b4, [.slice none 0 0], T_scope_Scope⟩, ⟨b2, [.slice p l c], T_scope_Scope⟩] ∧ Row w' T_string 1 hp' hl' hc' (strs had) ∧ fresh w hp' ∧ hl' ≤ i ∧
      Row w' T_scope_bind 2 bp bl' bc (rows pr B') ∧ fresh w bp ∧ bl' ≤ l + i ∧ openP (L.drop i) had B' = openP L [] B,
    ⟨_, 0, [], B, rfl, Nat.zero_le _, rfl, H3, Row.nil _ _ _, (by rintro a ⟨⟩), Nat.le_refl _, hr3, hf3', by omega, rfl⟩, ?_⟩
  rintro hp' hl' hc' bp bl' bc x w4 t ⟨i, had, B', rfl, hi, rfl, H4, hrh, hfh, hhi, hrb, hfb, hbi, hop⟩
  have t4 : typ w4 b4 = some T_scope_Scope := typ_of (H4.get 0 rfl)
  refine condB_d (fun hlt => ?_) (fun hge => ?_)
  · refine withJ_i fun J6 hJ6 => ?_
    have k6 : ∀ hp2 hl2 hc2 bp2 bl2 bc2 w5 had2 B2, Hp w No w5 [⟨b4, [.slice none 0 0], T_scope_Scope⟩, ⟨b2, [.slice p l c], T_scope_Scope⟩] → Row w5 T_string 1 hp2 hl2 hc2 (strs had2) → fresh w hp2 → hl2 ≤ i + 1 →
        Row w5 T_scope_bind 2 bp2 bl2 bc2 (rows pr B2) → fresh w bp2 → bl2 ≤ l + (i + 1) → openP (L.drop (i + 1)) had2 B2 = openP L [] B → J6 hp2 hl2 hc2 bp2 bl2 bc2 w5 := by
      intro hp2 hl2 hc2 bp2 bl2 bc2 w5 had2 B2 g1 g2 g3 g4 g5 g6 g7 g8; subst hJ6
      exact ⟨_, by omega, i + 1, had2, B2, by rw [w64_of] <;> omega, by omega, rfl, g1, g2, g3, g4, g5, g6, g7, g8⟩
    clear hJ6
    refine pr_i (H4.oldSl hL (off_no _)) (by omega) hlt fun a y hy h1 h2 => ?_
    rw [Int.toNat_natCast] at hy
    rw [openP_drop hy] at hop
    refine ldStr_i h1 (ldStr_i h2 ?_)
    refine H4.newB fun b9 w6 H6 hb9 hc6 => ?_
    refine H6.stN 0 rfl (off := 0) rfl (by simp) (one1_pr _) fun w7 H7 hc7 => ?_
    have e5 : splice [Value.string ByteArray.empty, Value.string ByteArray.empty] 0 (pr y) = pr y := splice_all rfl
    have H7' : Hp w No w7 [⟨b9, pr y, T_scan_Pair⟩, ⟨b4, [.slice none 0 0], T_scope_Scope⟩, ⟨b2, [.slice p l c], T_scope_Scope⟩] := by rw [← e5]; exact H7
    refine H7'.ldStr 0 rfl (off := 0) rfl ?_
    refine H7'.ldStr 0 rfl (off := 1) rfl ?_
    have hc47 : Chg No w4 w7 := hc6.trans hc7 fun b hb e => by subst e; omega
    refine DeclP_ok (hs y (List.mem_of_getElem? hy)) (T.chg H7'.chg) fun dp w8 hc8 hdp => ?_
    have H8 := H7'.step0 hc8
    have hc48 := hc47.trans0 hc8
    refine H8.newB fun b10 w9 H9 hb10 hc9 => ?_
    refine H9.stV 0 rfl (off := 0) (by simp) fun w10 H10 hc10 => ?_
    simp only [List.set_cons_zero] at H10
    have hc8_10 : Chg No w8 w10 := hc9.trans hc10 fun b hb e => by subst e; omega
    have hc4_10 := hc48.trans0 hc8_10
    have hrh10 := hrh.chg hc4_10 (off_no _)
    have hrb10 := hrb.chg hc4_10 (off_no _)
    have drop2 : ∀ {w' : World}, Hp w No w' [⟨b10, [.string dp], T_string⟩, ⟨b9, pr y, T_scan_Pair⟩, ⟨b4, [.slice none 0 0], T_scope_Scope⟩, ⟨b2, [.slice p l c], T_scope_Scope⟩] → Hp w No w' [⟨b4, [.slice none 0 0], T_scope_Scope⟩, ⟨b2, [.slice p l c], T_scope_Scope⟩] :=
      fun H => ⟨H.chg, fun z hz => H.is z (List.mem_cons_of_mem _ (List.mem_cons_of_mem _ hz)), (List.nodup_cons.1 (List.nodup_cons.1 H.nd).2).2, fun z hz => H.own z (List.mem_cons_of_mem _ (List.mem_cons_of_mem _ hz))⟩
    refine condB_not (fun hnd => ?_) (fun hd => ?_)
    · have hnone : decl y = none := by cases hdd : decl y with | none => rfl | some z => rw [hdd] at hnd; cases hnd
      rw [hnone] at hop
      exact k6 hp' hl' hc' bp bl' bc w10 had B' (drop2 H10) hrh10 hfh (by omega) hrb10 hfb (by omega) hop
    · obtain ⟨z, hz⟩ : ∃ z, decl y = some z := by cases hdd : decl y with | none => rw [hdd] at hd; cases hd | some z => exact ⟨z, rfl⟩
      obtain rfl := hdp z hz
      rw [hz] at hop
      simp only at hop
      refine H10.ldStr 0 rfl (off := 0) rfl ?_
      refine H10.ldStr 1 rfl (off := 1) rfl ?_
      refine Wrong_ok ?_
      refine condB_ne (fun hne => ?_) (fun he => ?_)
      · rw [if_pos hne] at hop
        rw [← hop] at K
        refine ans (w0 := w) _ rfl w10 (fun a b c' w' => J a b c' (wrongZ dp y.2) w') none 0 0 rfl (drop2 H10) fun w' _ hc => ?_
        exact K none 0 0 w' (Row.nil _ _ _) (by rintro a ⟨⟩) hc (Nat.zero_le _)
      · rw [if_neg (fun h => h he)] at hop
        refine H10.ldStr 0 rfl (off := 0) rfl ?_
        refine SIndex_ok hrh10.sl (by omega) ?_
        refine condB_i (fun hin => ?_) (fun hnin => ?_)
        · rw [if_pos hin] at hop
          rw [← hop] at K
          refine ans (w0 := w) _ rfl w10 (fun a b c' w' => J a b c' 27 w') none 0 0 rfl (drop2 H10) fun w' _ hc => ?_
          exact K none 0 0 w' (Row.nil _ _ _) (by rintro a ⟨⟩) hc (Nat.zero_le _)
        · rw [if_neg (by simp [hnin])] at hop
          refine H10.ldStr 0 rfl (off := 0) rfl ?_
          refine newRow (sz := 1) (n := 1) rfl (by decide) fun b43 w15 hr15 hb43 hc15 => ?_
          have H15 := H10.step0 hc15
          refine appJ_row slT_string (hrh10.chg hc15 (off_no _)) hr15.sl (one1_strs [dp]) (by simp) (by omega) (by simp only [maxLen]; omega) fun p16 c16 w16 hr16 hc16 hf16 => ?_
          have hlth : ∀ a, hp' = some a → a.block < w8.heap.size := fun a ha => by have := hrh.lt a ha; have := hc48.size; omega
          have noH : ∀ z, isB hp' z → z ≠ b10 := by
            rintro z ⟨a, ha, rfl⟩ e
            have := hlth a ha
            omega
          have H16 := H15.step hc16 (fun z hz => by
            rintro ⟨a, ha, e⟩
            have ht := hrh10.typ a ha
            have hlt' := hlth a ha
            simp at hz
            rcases hz with rfl | rfl | rfl | rfl
            · simp only at e; omega
            · simp only at e; rw [e] at ht; exact absurd (ht.symm.trans (typ_of (H10.get 1 rfl))) (by decide)
            · simp only at e; rw [e] at ht; exact absurd (ht.symm.trans (typ_of (H10.get 2 rfl))) (by decide)
            · simp only at e; rw [e] at ht; exact absurd (ht.symm.trans (typ_of (H10.get 3 rfl))) (by decide)) (fresh_no hfh)
          have hf16' : fresh w p16 := by
            rcases hf16 with rfl | hf
            · exact hfh
            · intro a ha; have := hf a ha; have := H15.chg.size; omega
          have e16 : strs had ++ [Value.string dp] = strs (had ++ [dp]) := by simp [strs]
          rw [e16] at hr16
          have hrb16 : Row w16 T_scope_bind 2 bp bl' bc (rows pr B') := (hrb10.chg hc15 (off_no _)).chg hc16 fun a ha hz => by
            obtain ⟨a2, ha2, e⟩ := hz
            have t1 := hrb10.typ a ha
            have t2 := hrh10.typ a2 ha2
            rw [e] at t2
            exact absurd (t1.symm.trans t2) (by decide)
          have tb10 : typ w16 b10 = some T_string := typ_of (H16.get 0 rfl)
          refine Del_ok hrb16 (by omega) (H16.cell 0 rfl (off := 0) rfl) tb10 fun l17 w17 hr17 hc17 hl17 => ?_
          have H17 := H16.step hc17 (fun z hz => by
            rintro ⟨a, ha, e⟩
            have ht := hrb16.typ a ha
            simp at hz
            rcases hz with rfl | rfl | rfl | rfl
            · simp only at e; rw [e] at ht; exact absurd (ht.symm.trans tb10) (by decide)
            · simp only at e; rw [e] at ht; exact absurd (ht.symm.trans (typ_of (H16.get 1 rfl))) (by decide)
            · simp only at e; rw [e] at ht; exact absurd (ht.symm.trans (typ_of (H16.get 2 rfl))) (by decide)
            · simp only at e; rw [e] at ht; exact absurd (ht.symm.trans (typ_of (H16.get 3 rfl))) (by decide)) (fresh_no hfb)
          have hr16' : Row w17 T_string 1 p16 (hl' + 1) c16 (strs (had ++ [dp])) := hr16.chg hc17 fun a ha hz => by
            obtain ⟨a2, ha2, e⟩ := hz
            have t1 := hr16.typ a ha
            have t2 := hrb16.typ a2 ha2
            rw [e] at t2
            exact absurd (t1.symm.trans t2) (by decide)
          refine withJ_i fun J54 hJ54 => ?_
          have k54 : ∀ b, (b = true ↔ (dp ≠ kXml ∧ y.2 ≠ kE)) → J54 b w17 := by
            intro b hb; subst hJ54
            refine meetI hb (fun hh => ?_) (fun hn => ?_)
            · refine H17.ldStr 0 rfl (off := 0) rfl ?_
              refine H17.ldStr 1 rfl (off := 1) rfl ?_
              refine ⟨rfl, newRow (sz := 2) (n := 1) rfl (by decide) fun b60 w19 hr19 hb60 hc19 => ?_⟩
              have H19 := H17.step0 hc19
              refine appJ_row slT_bind (hr17.chg hc19 (off_no _)) hr19.sl (one1_pr (dp, y.2)) (by simp) (by omega) (by simp only [maxLen]; omega) fun p20 c20 w20 hr20 hc20 hf20 => ?_
              have H20 := H19.step hc20 (fun z hz => by
                rintro ⟨a, ha, e⟩
                have ht := hr17.typ a ha
                simp at hz
                rcases hz with rfl | rfl | rfl | rfl
                · simp only at e; rw [e] at ht; exact absurd (ht.symm.trans (typ_of (H17.get 0 rfl))) (by decide)
                · simp only at e; rw [e] at ht; exact absurd (ht.symm.trans (typ_of (H17.get 1 rfl))) (by decide)
                · simp only at e; rw [e] at ht; exact absurd (ht.symm.trans (typ_of (H17.get 2 rfl))) (by decide)
                · simp only at e; rw [e] at ht; exact absurd (ht.symm.trans (typ_of (H17.get 3 rfl))) (by decide)) (fresh_no hfb)
              have hf20' : fresh w p20 := by
                rcases hf20 with rfl | hf
                · exact hfb
                · intro a ha; have := hf a ha; have := H19.chg.size; omega
              have e20 : rows pr (B'.filter fun b => !decide (b.1 = dp)) ++ [Value.string dp, Value.string y.2] = rows pr (putP B' dp y.2) := by
                unfold putP; rw [if_pos hh, rows_append]; rfl
              rw [e20] at hr20
              have hr16'' : Row w20 T_string 1 p16 (hl' + 1) c16 (strs (had ++ [dp])) := (hr16'.chg hc19 (off_no _)).chg hc20 fun a ha hz => by
                obtain ⟨a2, ha2, e⟩ := hz
                have t1 := hr16'.typ a ha
                have t2 := hr17.typ a2 ha2
                rw [e] at t2
                exact absurd (t1.symm.trans t2) (by decide)
              exact k6 p16 (hl' + 1) c16 p20 (l17 + 1) c20 w20 _ _ (drop2 H20) hr16'' hf16' (by omega) hr20 hf20' (by omega) hop
            · have e17 : (B'.filter fun b => !decide (b.1 = dp)) = putP B' dp y.2 := by unfold putP; rw [if_neg hn, List.append_nil]
              rw [e17] at hr17
              exact k6 p16 (hl' + 1) c16 bp l17 bc w17 _ _ (drop2 H17) hr16' hf16' (by omega) hr17 hfb (by omega) hop
          clear hJ54
          refine H17.ldStr 0 rfl (off := 0) rfl ?_
          refine condB_not (fun hx => ?_) (fun hx => k54 false (bF fun h => h.1 (of_decide_eq_true hx)))
          refine H17.ldStr 1 rfl (off := 1) rfl (k54 _ ?_)
          rw [Bool.not_eq_true', decide_eq_false_iff_not]
          exact ⟨fun e => ⟨of_decide_eq_false hx, e⟩, fun e => e.2⟩
  · rw [List.drop_of_length_le (by omega)] at hop
    have hop' : (B', (0 : Int)) = openP L [] B := hop
    rw [← hop'] at K
    refine ans (w0 := w) _ rfl w4 (fun a b c' w' => J a b c' 0 w') bp bl' bc rfl H4 fun w' hcc hc => ?_
    refine K bp bl' bc w' ?_ hfb hc (by omega)
    rcases hcc with hcc | hcc
    · exact hrb.chg hcc (off_no _)
    · exact hrb.chg hcc fun a ha e => by
        have := hrb.typ a ha
        rw [e] at this
        exact absurd (this.symm.trans t4) (by decide)
end
end Go.Proofs.YtdjehimkijlhgaaDoor

