/-
  Chapter 15: 'SheetTurns'.
-/
import Derived.Test.YtgplflecgnldeaaAwake15
import Derived.Test.YtgplflecgnldeaaCrcZero
namespace Go.Proofs.Ytgplflecgnldeaa
open Go Go.Vc

theorem take_turned {n stamp : Nat} {p : List UInt8} (hn : n < 2 ^ 32) (hp : p.length ≤ 496) {k : Nat} {x y : UInt8} (hk : (pageS n stamp p)[k]? = some x) (hy : y ≠ x) : (takeM n ((pageS n stamp p).set k y)).e = 10 := by
  have hl := pageS_len (n := n) (stamp := stamp) (p := p) hp
  have hlt := (List.getElem?_eq_some_iff.1 hk).1
  have hl2 : ((pageS n stamp p).set k y).length = 512 := by rw [List.length_set]; exact hl
  unfold takeM
  rw [if_neg (by unfold badN; omega), if_neg (by omega), if_neg ?_, if_pos (turned (b := pageS n stamp p) (summedL_summed _) hk hy)]
  intro hc
  exact turned_zero (pageBody_len hp) (by omega) ((count_all hl2).1 hc)
theorem head_turned {gen stamp : Nat} {k : Nat} {x y : UInt8} (hk : (headS gen stamp)[k]? = some x) (hy : y ≠ x) : (takeHeadM ((headS gen stamp).set k y)).e = 10 := by
  unfold takeHeadM
  rw [if_neg (by rw [List.length_set, headS_len]; simp), if_pos (turned (b := headS gen stamp) (summedL_summed _) hk hy)]

theorem modOf {at_ : Int} {m : Nat} (hm : 0 < m) : ∃ k : Nat, Int.tmod (IntKind.u64.wrap at_) (m : Int) = (k : Int) ∧ k < m := by
  have h0 : 0 ≤ IntKind.u64.wrap at_ := by rw [wrap_u64]; omega
  have h1 : Int.tmod (IntKind.u64.wrap at_) (m : Int) = IntKind.u64.wrap at_ % m := Int.tmod_eq_emod_of_nonneg h0
  have h2 := Int.emod_nonneg (IntKind.u64.wrap at_) (b := (m : Int)) (by omega)
  have h3 := Int.emod_lt_of_pos (IntKind.u64.wrap at_) (b := (m : Int)) (by omega)
  exact ⟨(IntKind.u64.wrap at_ % m).toNat, by omega, by omega⟩

set_option maxRecDepth 20000 in
theorem SheetTurns_ok {w : World} {n stamp at_ by_ : Int} {p : BV} (hn : InI n) (hs : InU stamp) (hp : p.Ok w) (_ : InI at_) (hby : InB by_) :
    callJ Try.prog fn_law15_SheetTurns #[.int .i64 n, .int .u64 stamp, .slice p.p p.l p.c, .int .i64 at_, .int .u8 by_] w [.one .bool] fun r w' => r = true ∧ Chg No w w' := by
  refine c_law15_SheetTurns ?_
  unfold VC_law15_SheetTurns
  rw [zeroC_head]
  obtain ⟨stamp, rfl, hst⟩ := hs
  obtain ⟨y, rfl⟩ := hby
  have hpl := hp.is.len
  obtain ⟨k1, hk1, hk1l⟩ := modOf (at_ := at_) (m := 512) (by decide)
  obtain ⟨k2, hk2, hk2l⟩ := modOf (at_ := at_) (m := 64) (by decide)
  have hk1' : Int.tmod (IntKind.u64.wrap at_) (512 : Int) = (k1 : Int) := hk1
  have hk2' : Int.tmod (IntKind.u64.wrap at_) (64 : Int) = (k2 : Int) := hk2
  rw [hk1', hk2']
  refine awake15_ok fun w1 hc1 => ?_
  refine condB_i (fun h => by simp at h) fun _ => ?_
  refine Lay_ok hst (hp.is.chg hc1 (off_no _)) hp.nil fun p2 c2 w2 hr2 hf2 hc2 => ?_
  refine LayHead_ok fun p3 c3 w3 hr3 hf3 hc3 => ?_
  have hc13 := (hc1.trans0 hc2).trans0 hc3
  refine withJ_i fun J0 hJ0 => ?_
  -- the head
  have head : ∀ w', Row w' T_uint8 1 p3 (layHeadM n stamp).b.length c3 (bcells (layHeadM n stamp).b) → Chg No w w' → J0 w' := by
    intro w' hr hc
    subst hJ0
    refine withJ_i fun J01 hJ01 => ?_
    by_cases hb : badG n
    · have e : layHeadM n stamp = ⟨[], 1⟩ := by unfold layHeadM; rw [if_pos hb]
      rw [e]
      refine condB_eq (fun h => absurd (show (1 : Int) = 0 from h) (by decide)) fun _ => ?_
      subst hJ01
      exact ⟨rfl, hc⟩
    have e : layHeadM n stamp = ⟨headS n.toNat stamp, 0⟩ := by unfold layHeadM; rw [if_neg hb]
    unfold badG at hb
    rw [e] at hr ⊢
    dsimp only at hr ⊢
    refine condB_eq (fun _ => ?_) fun h => absurd rfl h
    have hth := takeHead_lay (gen := n.toNat) (stamp := stamp) (by omega) (by omega) hst
    refine TakeHead_ok hr.bytes hr.le.1 fun w4 hc4 => ?_
    rw [hth]
    dsimp only
    have en : ((n.toNat : Nat) : Int) = n := by omega
    rw [en]
    refine (Hp.of_chg hc4).newB fun b5 w5 H5 _ _ => ?_
    refine H5.stN 0 rfl (off := 0) rfl (by decide) (one1_ints2 _ _ _ _) fun w6 H6 _ => ?_
    refine withJ_i fun J101 hJ101 => ?_
    refine condB_ne (fun h => absurd rfl h) fun _ => ?_
    refine H6.ldI 0 rfl (off := 0) rfl ?_
    refine condB_ne (fun h => absurd rfl h) fun _ => ?_
    refine H6.ldI 0 rfl (off := 1) rfl ?_
    have eb : ((stamp : Int) != (stamp : Int)) = false := by simp
    rw [eb]
    subst hJ101
    refine condB_i (fun h => by simp at h) fun _ => ?_
    have hr6 := hr.chg H6.chg (off_no _)
    rw [headS_len] at hr6 ⊢
    have hc6 : Chg No w w6 := hc.trans0 H6.chg
    refine ⟨by decide, byte_i hr6.bytes (by omega) (by omega) fun x hx => ?_⟩
    rw [Int.toNat_natCast] at hx
    rw [bXor_u8]
    refine Row.stB hr6 (by omega) (by omega) fun w7 hr7 hc7 => ?_
    rw [Int.toNat_natCast] at hr7
    have hc7' : Chg No w w7 := hc6.trans hc7 fun b hb ⟨a, ha, e⟩ => by have := hf3 a ha; have := (hc1.trans0 hc2).size; omega
    refine TakeHead_ok hr7.bytes (by have := hr7.le; omega) fun w8 hc8 => ?_
    refine withJ_i fun J121 hJ121 => ?_
    have fine : J121 false w8 := by
      subst hJ121
      refine condB_i (fun h => by simp at h) fun _ => ?_
      subst hJ01
      exact ⟨rfl, hc7'.trans0 hc8⟩
    refine condB_ne (fun hy => ?_) (fun _ => fine)
    rw [head_turned hx (xor_ne (x := x) (y := y) (by rintro rfl; exact hy rfl))]
    exact fine
  clear hJ0
  by_cases hb : badN n ∨ 496 < p.bs.length
  · have e : (layM n stamp p.bs).e ≠ 0 := by
      unfold layM
      by_cases h1 : badN n
      · rw [if_pos h1]; simp
      · rw [if_neg h1, if_pos (hb.resolve_left h1)]; simp
    exact condB_eq (fun h => absurd h e) fun _ => head w3 hr3 hc13
  have h1 : ¬ badN n := fun h => hb (.inl h)
  have h2 : p.bs.length ≤ 496 := by omega
  have e : layM n stamp p.bs = ⟨pageS n.toNat stamp p.bs, 0⟩ := by unfold layM; rw [if_neg h1, if_neg (by omega)]
  unfold badN at h1
  have hl512 := pageS_len (n := n.toNat) (stamp := stamp) (p := p.bs) h2
  rw [e] at hr2 ⊢
  dsimp only at hr2 ⊢
  rw [hl512] at hr2 ⊢
  refine condB_eq (fun _ => ?_) fun h => absurd rfl h
  have hr23 := hr2.chg hc3 (off_no _)
  have en : ((n.toNat : Nat) : Int) = n := by omega
  have ht := take_lay (n := n.toNat) (stamp := stamp) (p := p.bs) (by omega) hst h2
  rw [en] at ht
  refine Take_ok hn hr23.bytes hr23.le.1 fun p4 c4 w4 hr4 hf4 hc4 => ?_
  rw [ht] at hr4 ⊢
  dsimp only at hr4 ⊢
  have hc14 := hc13.trans0 hc4
  refine withJ_i fun J58 hJ58 => ?_
  refine condB_ne (fun h => absurd rfl h) fun _ => ?_
  refine condB_ne (fun h => absurd rfl h) fun _ => ?_
  refine Fill_ok (k := 496) (hp.is.chg hc14 (off_no _)) (by omega) (by decide) fun b5 w5 hr5 hb5 hc5 => ?_
  refine Same_ok (hr4.chg hc5 (off_no _)).bytes hr5.bytes ?_
  rw [decide_eq_true rfl]
  subst hJ58
  refine condB_i (fun h => by simp at h) fun _ => ?_
  have hr25 := (hr23.chg hc4 (off_no _)).chg hc5 (off_no _)
  have hr35 := (hr3.chg hc4 (off_no _)).chg hc5 (off_no _)
  have hc15 := hc14.trans0 hc5
  refine ⟨by decide, byte_i hr25.bytes (by omega) (by omega) fun x hx => ?_⟩
  rw [Int.toNat_natCast] at hx
  rw [bXor_u8]
  refine Row.stB hr25 (by omega) (by omega) fun w6 hr6 hc6 => ?_
  rw [Int.toNat_natCast] at hr6
  have hr36 := hr35.chg hc6 (fun a ha ⟨a', ha', e⟩ => by have := hf3 a ha; have := hr2.lt a' ha'; omega)
  have hc16 : Chg No w w6 := hc15.trans hc6 fun b hb ⟨a, ha, e⟩ => by have := hf2 a ha; have := hc1.size; omega
  refine Take_ok hn hr6.bytes (by have := hr6.le; omega) fun p7 c7 w7 hr7 hf7 hc7 => ?_
  refine withJ_i fun J80 hJ80 => ?_
  have fine : J80 false w7 := by
    subst hJ80
    exact condB_i (fun h => by simp at h) fun _ => head w7 (hr36.chg hc7 (off_no _)) (hc16.trans0 hc7)
  refine condB_ne (fun hy => ?_) (fun _ => fine)
  have htt := take_turned (n := n.toNat) (by omega) h2 hx (xor_ne (x := x) (y := y) (by rintro rfl; exact hy rfl))
  rw [en] at htt
  rw [htt]
  exact fine

end Go.Proofs.Ytgplflecgnldeaa
