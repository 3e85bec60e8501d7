/-
  Package scope: what is declared, what a prefix stands for, the name of an element.
-/
import Derived.Test.YtdjehimkijlhgaaDoorVScope
import Derived.Test.YtdjehimkijlhgaaDoorChrC
import Derived.Test.YtdjehimkijlhgaaDoorRowE
set_option linter.unusedVariables false
set_option linter.unusedSimpArgs false
namespace Go.Vc
open Go Go.Lib
abbrev Pr := ByteArray × ByteArray
def pr (x : Pr) : List Value := [.string x.1, .string x.2]
theorem even_pr (L : List Pr) : Even pr 2 L := fun _ _ => rfl
theorem one1_pr (x : Pr) : one1 (pr x) := one1_cons rfl (one1_cons rfl one1_nil)
theorem one1_prs (L : List Pr) : one1 (rows pr L) := one1_rows fun x _ => one1_pr x
def kXmlns : ByteArray := ⟨#[120, 109, 108, 110, 115]⟩
def kXml : ByteArray := ⟨#[120, 109, 108]⟩
def kE : ByteArray := ⟨#[]⟩
def kSX : ByteArray := ⟨#[104, 116, 116, 112, 58, 47, 47, 119, 119, 119, 46, 119, 51, 46, 111, 114, 103, 47, 50, 48, 48, 48, 47, 120, 109, 108, 110, 115, 47]⟩
def kSXml : ByteArray := ⟨#[104, 116, 116, 112, 58, 47, 47, 119, 119, 119, 46, 119, 51, 46, 111, 114, 103, 47, 88, 77, 76, 47, 49, 57, 57, 56, 47, 110, 97, 109, 101, 115, 112, 97, 99, 101]⟩
theorem beqS (x y : ByteArray) : (x.toList == y.toList) = decide (x = y) := by
  rw [toList_bl, toList_bl, Bool.eq_iff_iff, beq_iff_eq, decide_eq_true_eq]
  exact ⟨bl_ext, fun h => by rw [h]⟩
def mkB (l : List UInt8) : ByteArray := ⟨l.toArray⟩
theorem bl_mkB (l : List UInt8) : bl (mkB l) = l := by simp [bl, mkB]
theorem mkB_bl (s : ByteArray) : mkB (bl s) = s := bl_ext (bl_mkB _)
theorem mkB_eq {l : List UInt8} {s : ByteArray} (h : bl s = l) : mkB l = s := by rw [← h, mkB_bl]
theorem spl_xmlns : (spl (bl kXmlns)).1 = [] := by
  unfold spl
  rw [show colon (bl kXmlns) = none from by decide]
  simp only
  split <;> rfl
/-- The prefix that a pair declares. -/
def decl (x : Pr) : Option ByteArray := if x.1 = kXmlns then some kE else if (spl (bl x.1)).2.2 = true ∧ (spl (bl x.1)).1 = bl kXmlns then some (mkB (spl (bl x.1)).2.1) else none
/-- Is it among them? -/
def memB (p : ByteArray) (l : List ByteArray) : Bool := l.any fun x => decide (x = p)
theorem memB_iff {p : ByteArray} {l : List ByteArray} : memB p l = true ↔ p ∈ l := by
  unfold memB
  rw [List.any_eq_true]
  exact ⟨fun ⟨x, h1, h2⟩ => of_decide_eq_true h2 ▸ h1, fun h => ⟨p, h, decide_eq_true rfl⟩⟩
def wrongZ (p u : ByteArray) : Int :=
  if p = kXmlns ∨ u = kSX ∨ (decide (p = kXml) ≠ decide (u = kSXml)) then 29 else if p ≠ kE ∧ u = kE then 28 else if u.size > 100 then 6 else 0
def boundP (B : List Pr) (p : ByteArray) : ByteArray × Bool := if p = kXml then (kSXml, true) else match B.find? (fun b => decide (b.1 = p)) with | some b => (b.2, true) | none => (kE, decide (p = kE))
def elemL (bound : ByteArray → ByteArray × Bool) (q : ByteArray) : Pr × Int :=
  if (spl (bl q)).2.2 = false then ((kE, kE), 24)
  else if mkB (spl (bl q)).1 = kXmlns then ((kE, kE), 29)
  else if (bound (mkB (spl (bl q)).1)).2 = false then ((kE, kE), 28)
  else (((bound (mkB (spl (bl q)).1)).1, mkB (spl (bl q)).2.1), 0)
def putP (B : List Pr) (p u : ByteArray) : List Pr := B.filter (fun b => !decide (b.1 = p)) ++ (if p ≠ kXml ∧ u ≠ kE then [(p, u)] else [])
def openP : List Pr → List ByteArray → List Pr → List Pr × Int
  | [], _, B => (B, 0)
  | x :: L, had, B => match decl x with
    | none => openP L had B
    | some p => if wrongZ p x.2 ≠ 0 then ([], wrongZ p x.2) else if memB p had = true then ([], 27) else openP L (had ++ [p]) (putP B p x.2)
def strs (l : List ByteArray) : List Value := l.map .string
theorem strs_length (l : List ByteArray) : (strs l).length = l.length := by simp [strs]
theorem one1_strs (l : List ByteArray) : one1 (strs l) := by
  intro v hv; obtain ⟨b, _, rfl⟩ := List.mem_map.1 hv; rfl
def str1 (s : ByteArray) : List Value := [.string s]
theorem rows_str1 (l : List ByteArray) : rows str1 l = strs l := by
  induction l with
  | nil => rfl
  | cons b bs ih => rw [rows_cons, ih]; rfl
theorem even_str1 (L : List ByteArray) : Even str1 1 L := fun _ _ => rfl
/-- s[i] of a slice of strings. -/
theorem str_i {w : World} {p : Option Addr} {l : Nat} {xs : List ByteArray} {i : Int} {K : ByteArray → Prop} (h : Sl w p l 1 (strs xs)) (h0 : 0 ≤ i) (h1 : i < l) (k : ∀ s, xs[i.toNat]? = some s → K s) : idxA p l i fun a => ldStr w (a.add (i.toNat * 1)) K := by
  rw [← rows_str1] at h
  exact idx_rows h (even_str1 xs) (by decide) h0 h1 fun a s _ hs hc => ⟨s, cellsAt_head hc, k s hs⟩
/-- s[i] of a slice of pairs: both its strings. -/
theorem pr_i {w : World} {p : Option Addr} {l : Nat} {xs : List Pr} {i : Int} {K : Addr → Prop} (h : Sl w p l 2 (rows pr xs)) (h0 : 0 ≤ i) (h1 : i < l) (k : ∀ (a : Addr) x, xs[i.toNat]? = some x → w.cell? (a.add (i.toNat * 2)) = some (.string x.1) → w.cell? ((a.add (i.toNat * 2)).add 1) = some (.string x.2) → K a) : idxA p l i K :=
  idx_rows h (even_pr xs) (by decide) h0 h1 fun a x _ hx hc => k a x hx (cellsAt_head hc) (cellsAt_one hc 1 rfl)
end Go.Vc
namespace Go.Proofs.YtdjehimkijlhgaaDoor
open Go Go.Vc Go.Lib

theorem slT_string : SlT Tryd.prog T_sl_string T_string 1 16 #[.string ByteArray.empty] := SlT.of (by kernel_rfl) (by kernel_rfl) rfl (by decide)
theorem slT_bind : SlT Tryd.prog T_sl_scope_bind T_scope_bind 2 32 #[.string ByteArray.empty, .string ByteArray.empty] := SlT.of (by kernel_rfl) (by kernel_rfl) rfl (by decide)
theorem zeroC_scope : zeroC Tryd.prog T_scope_Scope = #[.slice none 0 0] := by kernel_rfl
theorem zeroC_pair : zeroC Tryd.prog T_scan_Pair = #[.string ByteArray.empty, .string ByteArray.empty] := by kernel_rfl
theorem zeroC_bind : zeroC Tryd.prog T_scope_bind = #[.string ByteArray.empty, .string ByteArray.empty] := by kernel_rfl
theorem zeroC_string : zeroC Tryd.prog T_string = #[.string ByteArray.empty] := by kernel_rfl
theorem zeroC_name : zeroC Tryd.prog T_api_Name = #[.string ByteArray.empty, .string ByteArray.empty] := by kernel_rfl

theorem fresh_no {w0 : World} {p : Option Addr} (h : fresh w0 p) : ∀ b, b < w0.heap.size → isB p b → No b := by
  rintro b hb ⟨a, ha, rfl⟩
  have := h a ha; omega

section
variable {w : World}

theorem New_ok {J : Option Addr → Nat → Nat → World → Prop} (k : ∀ w', Chg No w w' → J none 0 0 w') : callJ Tryd.prog fn_scope_New #[] w [.agg [.slice]] J := by
  refine c_scope_New ?_
  unfold VC_scope_New
  rw [zeroC_scope]
  refine (Hp.start w No).newB fun b0 w1 H1 _ _ => ?_
  refine H1.stN 0 rfl (off := 0) rfl (by simp) (one1_cons rfl one1_nil) fun w2 H2 _ => ?_
  refine H2.ldS 0 rfl (off := 0) rfl ?_
  exact k w2 H2.chg

theorem DeclP_ok {x : Pr} {J : ByteArray → Bool → World → Prop} (hs : x.1.size ≤ 9223372036854775806) (T : Tabs w) (K : ∀ p w', Chg No w w' → (∀ y, decl x = some y → p = y) → J p (decl x).isSome w') :
    callJ Tryd.prog fn_scope_declares #[.agg ⟨[.string x.1, .string x.2]⟩] w [.one .str, .one .bool] J := by
  refine c_scope_declares ?_
  unfold VC_scope_declares
  refine (Hp.start w No).newB fun b1 w1 H1 _ hc1 => ?_
  refine H1.ldStr 0 rfl (off := 0) rfl ?_
  refine SplitC_ok hs (T.chg hc1) fun a b ok w2 hc2 hsp => ?_
  have H2 := H1.step0 hc2
  unfold Spl at hsp
  have ea : bl a = (spl (bl x.1)).1 := congrArg Prod.fst hsp
  have eb : bl b = (spl (bl x.1)).2.1 := congrArg (fun z => z.2.1) hsp
  have eo : ok = (spl (bl x.1)).2.2 := congrArg (fun z => z.2.2) hsp
  refine withJ_i fun J14 hJ14 => ?_
  have k14 : ∀ c, (c = true ↔ ((spl (bl x.1)).2.2 = true ∧ (spl (bl x.1)).1 = bl kXmlns)) → J14 c w2 := by
    intro c hcc; subst hJ14
    refine meetI hcc (fun hh => ?_) (fun hn => ?_)
    · have hne : x.1 ≠ kXmlns := fun e => by rw [e, spl_xmlns] at hh; exact absurd hh.2 (by decide)
      have e : decl x = some b := by unfold decl; rw [if_neg hne, if_pos hh, mkB_eq eb]
      have := K b w2 H2.chg (fun y hy => by rw [e] at hy; exact Option.some.inj hy)
      rw [e] at this; exact this
    · refine H2.ldStr 0 rfl (off := 0) rfl ?_
      rw [show (⟨#[120, 109, 108, 110, 115]⟩ : ByteArray) = kXmlns from rfl, beqS]
      refine condB_d (fun he => ?_) (fun hne => ?_)
      · have e : decl x = some kE := by unfold decl; rw [if_pos he]
        have := K kE w2 H2.chg (fun y hy => by rw [e] at hy; exact Option.some.inj hy)
        rw [e] at this; exact this
      · have e : decl x = none := by unfold decl; rw [if_neg hne, if_neg hn]
        have := K kE w2 H2.chg (fun y hy => by rw [e] at hy; cases hy)
        rw [e] at this; exact this
  clear hJ14
  refine condB_i (fun ht => k14 _ ?_) (fun hf => k14 false (bF fun h => by rw [← eo, hf] at h; cases h.1))
  rw [show (⟨#[120, 109, 108, 110, 115]⟩ : ByteArray) = kXmlns from rfl, beqS]
  refine bD ?_
  rw [← ea, ← eo, ht]
  exact ⟨fun e => ⟨rfl, by rw [e]⟩, fun e => bl_ext e.2⟩

theorem Wrong_ok {p u : ByteArray} {J : Int → World → Prop} (k : J (wrongZ p u) w) : callJ Tryd.prog fn_scope_wrong #[.string p, .string u] w [.one (.int .i64)] J := by
  refine c_scope_wrong ?_
  unfold VC_scope_wrong
  rw [show (⟨#[120, 109, 108, 110, 115]⟩ : ByteArray) = kXmlns from rfl, show (⟨#[120, 109, 108]⟩ : ByteArray) = kXml from rfl, show (⟨#[]⟩ : ByteArray) = kE from rfl,
    show (⟨#[104, 116, 116, 112, 58, 47, 47, 119, 119, 119, 46, 119, 51, 46, 111, 114, 103, 47, 50, 48, 48, 48, 47, 120, 109, 108, 110, 115, 47]⟩ : ByteArray) = kSX from rfl,
    show (⟨#[104, 116, 116, 112, 58, 47, 47, 119, 119, 119, 46, 119, 51, 46, 111, 114, 103, 47, 88, 77, 76, 47, 49, 57, 57, 56, 47, 110, 97, 109, 101, 115, 112, 97, 99, 101]⟩ : ByteArray) = kSXml from rfl]
  simp only [beqS]
  unfold wrongZ at k
  refine withJ_i fun J5 hJ5 => ?_
  have k5 : ∀ b, (b = true ↔ (p = kXmlns ∨ u = kSX ∨ (decide (p = kXml) ≠ decide (u = kSXml)))) → J5 b w := by
    intro b hb; subst hJ5
    refine meetI hb (fun hh => by rw [if_pos hh] at k; exact k) (fun hn => ?_)
    rw [if_neg hn] at k
    refine withJ_i fun J15 hJ15 => ?_
    have k15 : ∀ b, (b = true ↔ (p ≠ kE ∧ u = kE)) → J15 b w := by
      intro b hb; subst hJ15
      refine meetI hb (fun hh => by rw [if_pos hh] at k; exact k) (fun hn => ?_)
      rw [if_neg hn] at k
      refine condB_d (fun h => by rw [if_pos (by omega)] at k; exact k) (fun h => by rw [if_neg (by omega)] at k; exact k)
    clear hJ15
    refine condB_not (fun h => k15 _ (bD ⟨fun e => ⟨of_decide_eq_false h, e⟩, fun e => e.2⟩)) (fun h => k15 false (bF fun e => e.1 (of_decide_eq_true h)))
  clear hJ5
  refine condB_d (fun h => k5 _ (bD ⟨fun e => .inl e, fun _ => h⟩)) (fun h1 => ?_)
  refine condB_d (fun h => k5 _ (bD ⟨fun e => .inr (.inl e), fun _ => h⟩)) (fun h2 => ?_)
  refine k5 _ ?_
  rw [Bool.not_eq_true', beq_eq_false_iff_ne]
  exact ⟨fun e => .inr (.inr e), fun e => e.resolve_left h1 |>.resolve_left h2⟩

theorem SIndex_ok {p : Option Addr} {l c : Nat} {xs : List ByteArray} {v : ByteArray} {J : Bool → World → Prop} (h : Sl w p l 1 (strs xs)) (hm : l ≤ 140737488355328) (k : J (memB v xs) w) :
    callJ Tryd.prog fn_slices_Contains_sl_string_string #[.slice p l c, .string v] w [.one .bool] J := by
  refine c_slices_Contains_sl_string_string ?_
  unfold VC_slices_Contains_sl_string_string
  refine c_slices_Index_sl_string_string ?_
  unfold VC_slices_Index_sl_string_string
  have hl : xs.length = l := by have := h.1; rw [strs_length] at this; omega
  refine ⟨fun x w' t => ∃ i : Nat, x = i ∧ i ≤ l ∧ t = l - i ∧ w' = w ∧ v ∉ xs.take i, ⟨_, 0, rfl, Nat.zero_le _, rfl, rfl, by simp⟩, ?_⟩
  rintro x w' t ⟨i, rfl, hi, rfl, rfl, hno⟩
  refine condB_d (fun hlt => ?_) (fun hge => ?_)
  · refine str_i h (by omega) hlt fun s hs => ?_
    rw [Int.toNat_natCast] at hs
    rw [beqS]
    refine condB_d (fun he => ?_) (fun hne => ?_)
    · rw [show memB v xs = true from memB_iff.2 (by rw [he]; exact List.mem_of_getElem? hs)] at k
      show J (decide ((i : Int) ≥ 0)) w'
      rw [show decide ((i : Int) ≥ 0) = true from decide_eq_true (by omega)]
      exact k
    · refine ⟨_, by omega, i + 1, by rw [w64_of] <;> omega, by omega, rfl, rfl, ?_⟩
      obtain ⟨h1, h2⟩ := List.getElem?_eq_some_iff.1 hs
      rw [List.take_succ_eq_append_getElem h1, h2, List.mem_append, not_or]
      exact ⟨hno, fun hm => hne (List.mem_singleton.1 hm)⟩
  · have : i = l := by omega
    subst this
    rw [List.take_of_length_le (by omega)] at hno
    rw [show memB v xs = false from by cases hb : memB v xs with | false => rfl | true => exact absurd (memB_iff.1 hb) hno] at k
    show J (decide ((-1 : Int) ≥ 0)) w'
    exact k

theorem BindClone_ok {p : Option Addr} {l c : Nat} {B : List Pr} {J : Option Addr → Nat → Nat → World → Prop} (h : Sl w p l 2 (rows pr B)) (hp : p = none → l = 0) (hm : l ≤ 1000000000)
    (k : ∀ p' c' w', Row w' T_scope_bind 2 p' l c' (rows pr B) → fresh w p' → Chg No w w' → J p' l c' w') :
    callJ Tryd.prog fn_slices_Clone_sl_scope_bind_scope_bind #[.slice p l c] w [.one .slice] J :=
  c_slices_Clone_sl_scope_bind_scope_bind (clone_cond slT_bind h (one1_prs B) hp (by omega) (by simp only [maxLen]; omega) k)

theorem Clos_ok {b : Pr} {cp : Addr} {p : ByteArray} {J : Bool → World → Prop} (hc : w.cell? cp = some (.string p)) (k : ∀ w', Chg No w w' → J (decide (b.1 = p)) w') :
    callJ Tryd.prog fn_scope_Scope_Open_1 #[.agg ⟨[.string b.1, .string b.2]⟩, .pointer (some cp)] w [.one .bool] J := by
  refine c_scope_Scope_Open_1 ?_
  unfold VC_scope_Scope_Open_1
  refine (Hp.start w No).newB fun b1 w1 H1 _ hc1 => ?_
  refine H1.ldStr 0 rfl (off := 0) rfl ?_
  refine ldStr_i (hc1.cell hc (fun h => h)) ?_
  rw [beqS]
  exact k w1 hc1

theorem filter_take_succ {α : Type} {P : α → Bool} {L : List α} {i : Nat} {x : α} (h : L[i]? = some x) : (L.take (i + 1)).filter P = (L.take i).filter P ++ (if P x then [x] else []) := by
  obtain ⟨h1, h2⟩ := List.getElem?_eq_some_iff.1 h
  rw [List.take_succ_eq_append_getElem h1, List.filter_append, h2]
  congr 1
  cases hx : P x <;> simp [hx]

theorem BindIdx_ok {p : Option Addr} {l c : Nat} {B : List Pr} {cp : Addr} {v : ByteArray} {J : Int → World → Prop} (h : Sl w p l 2 (rows pr B)) (hm : l ≤ 1000000000) (hcp : w.cell? cp = some (.string v))
    (k0 : (∀ b ∈ B, b.1 ≠ v) → ∀ w', Chg No w w' → J (-1) w') (k1 : ∀ (i : Nat) b, B[i]? = some b → b.1 = v → (∀ b ∈ B.take i, b.1 ≠ v) → ∀ w', Chg No w w' → J i w') :
    callJ Tryd.prog fn_slices_IndexFunc_sl_scope_bind_scope_bind #[.slice p l c, .func (.func 66) #[] #[.pointer (some cp)]] w [.one (.int .i64)] J := by
  refine c_slices_IndexFunc_sl_scope_bind_scope_bind_f1_66c1 ?_
  unfold VC_slices_IndexFunc_sl_scope_bind_scope_bind_f1_66c1
  have hl := h.row (even_pr B) (by decide)
  refine ⟨fun x w' t => ∃ i : Nat, x = i ∧ i ≤ l ∧ t = l - i ∧ Chg No w w' ∧ ∀ b ∈ B.take i, b.1 ≠ v, ⟨_, 0, rfl, Nat.zero_le _, rfl, Chg.refl _ _, by simp⟩, ?_⟩
  rintro x w1 t ⟨i, rfl, hi, rfl, hc, hno⟩
  refine condB_d (fun hlt => ?_) (fun hge => ?_)
  · refine pr_i (h.chg hc (off_no _)) (by omega) hlt fun a y hy h1 h2 => ?_
    rw [Int.toNat_natCast] at hy
    refine ldStr_i h1 (ldStr_i h2 ?_)
    refine Clos_ok (hc.cell hcp (fun h => h)) fun w2 hc2 => ?_
    refine condB_d (fun he => k1 i y hy he hno w2 (hc.trans0 hc2)) (fun hne => ?_)
    refine ⟨_, by omega, i + 1, by rw [w64_of] <;> omega, by omega, rfl, hc.trans0 hc2, ?_⟩
    obtain ⟨g1, g2⟩ := List.getElem?_eq_some_iff.1 hy
    intro b hb
    rw [List.take_succ_eq_append_getElem g1, List.mem_append] at hb
    rcases hb with hb | hb
    · exact hno b hb
    · rw [List.mem_singleton.1 hb, g2]; exact hne
  · have : i = l := by omega
    subst this
    rw [List.take_of_length_le (by omega)] at hno
    exact k0 hno w1 hc

theorem Del_ok {p : Option Addr} {l c : Nat} {B : List Pr} {cp : Addr} {v : ByteArray} {J : Option Addr → Nat → Nat → World → Prop} (h : Row w T_scope_bind 2 p l c (rows pr B)) (hm : l ≤ 1000000000) (hcp : w.cell? cp = some (.string v)) (tcp : typ w cp.block = some T_string)
    (k : ∀ l' w', Row w' T_scope_bind 2 p l' c (rows pr (B.filter fun b => !decide (b.1 = v))) → Chg (isB p) w w' → l' ≤ l → J p l' c w') :
    callJ Tryd.prog fn_slices_DeleteFunc_sl_scope_bind_scope_bind #[.slice p l c, .func (.func 66) #[] #[.pointer (some cp)]] w [.one .slice] J := by
  refine c_slices_DeleteFunc_sl_scope_bind_scope_bind_f1_66c1 ?_
  unfold VC_slices_DeleteFunc_sl_scope_bind_scope_bind_f1_66c1
  have hl := h.sl.row (even_pr B) (by decide)
  have nocp : ∀ {w'}, Row w' T_scope_bind 2 p l c (rows pr B) → True := fun _ => trivial
  have offcp : ∀ b, isB p b → ¬ b = cp.block := by
    rintro b ⟨a, ha, rfl⟩ e
    have := h.typ a ha
    rw [e, tcp] at this
    exact absurd this (by decide)
  refine BindIdx_ok h.sl hm hcp (fun hno w1 hc1 => ?_) (fun r y hy hyv hno w1 hc1 => ?_)
  · refine condB_i (fun _ => ?_) (fun h => absurd h (by decide))
    have e : (B.filter fun b => !decide (b.1 = v)) = B := List.filter_eq_self.2 fun b hb => by simp [hno b hb]
    refine k l w1 ?_ (hc1.mono fun _ _ h => h.elim) (Nat.le_refl _)
    rw [e]; exact h.chg hc1 (off_no _)
  · have hr1 := h.chg hc1 (off_no _)
    obtain ⟨hrl, ey⟩ := List.getElem?_eq_some_iff.1 hy
    refine condB_eq (fun h => by omega) fun _ => ?_
    have e1 : w64 ((r : Int) + 1) = ((r + 1 : Nat) : Int) := by rw [w64_of] <;> omega
    rw [e1]
    refine ⟨fun x y w' t => ∃ (i j : Nat) (X : List Pr), x = i ∧ y = j ∧ i < j ∧ j ≤ l ∧ t = l - j ∧ Chg (isB p) w w' ∧ Row w' T_scope_bind 2 p l c (rows pr X) ∧ X.length = l ∧ X.take i = ((B.take j).filter fun b => !decide (b.1 = v)) ∧ X.drop j = B.drop j,
      ⟨_, r, r + 1, B, rfl, rfl, by omega, by omega, rfl, hc1.mono fun _ _ h => h.elim, hr1, hl, ?_, rfl⟩, ?_⟩
    · rw [filter_take_succ hy]
      have e2 : ((B.take r).filter fun b => !decide (b.1 = v)) = B.take r := List.filter_eq_self.2 fun b hb => by simp [hno b hb]
      rw [e2, hyv]; simp
    rintro x y w2 t ⟨i, j, X, rfl, rfl, hij, hj, rfl, hc2, hr2, hXl, hXt, hXd⟩
    refine condB_d (fun hlt => ?_) (fun hge => ?_)
    · refine withJ_i fun J5 hJ5 => ?_
      have hBj : B[j]? = some B[j] := List.getElem?_eq_getElem (by omega)
      have hXj : X[j]? = B[j]? := by
        have := congrArg (fun z => z[0]?) hXd
        simpa using this
      have k5 : ∀ (i' : Nat) w3 X', i' ≤ j → Chg (isB p) w w3 → Row w3 T_scope_bind 2 p l c (rows pr X') → X'.length = l → X'.take i' = ((B.take (j + 1)).filter fun b => !decide (b.1 = v)) → X'.drop (j + 1) = B.drop (j + 1) → J5 (i' : Int) w3 := by
        intro i' w3 X' h0 h1 h2 h3 h4 h5; subst hJ5
        exact ⟨_, by omega, i', j + 1, X', rfl, by rw [w64_of] <;> omega, by omega, by omega, rfl, h1, h2, h3, h4, h5⟩
      clear hJ5
      refine pr_i hr2.sl (by omega) hlt fun a z hz h1 h2 => ?_
      rw [Int.toNat_natCast, hXj, hBj] at hz
      cases hz
      refine ldStr_i h1 (ldStr_i h2 ?_)
      rw [zeroC_bind]
      refine (Hp.start w2 No).newB fun b7 w4 H4 hb7 hc4 => ?_
      refine H4.stN 0 rfl (off := 0) rfl (by simp) (one1_pr _) fun w5 H5 hc5 => ?_
      have e5 : splice [Value.string ByteArray.empty, Value.string ByteArray.empty] 0 (pr B[j]) = pr B[j] := splice_all rfl
      have H5' : Hp w2 No w5 [⟨b7, pr B[j], T_scope_bind⟩] := by rw [← e5]; exact H5
      refine H5'.ldStr 0 rfl (off := 0) rfl ?_
      refine H5'.ldStr 0 rfl (off := 1) rfl ?_
      have cpc : ∀ {w'}, Chg (isB p) w w' → w'.cell? cp = some (.string v) := fun hc => hc.cell hcp fun hb => offcp _ hb rfl
      refine Clos_ok (cpc (hc2.trans0 H5'.chg)) fun w6 hc6 => ?_
      have H6 := H5'.step0 hc6
      have hr6 := hr2.chg H6.chg (off_no _)
      have hc06 := hc2.trans0 H6.chg
      refine condB_not (fun hkeep => ?_) (fun hdel => ?_)
      · refine H6.ldStr 0 rfl (off := 0) rfl ?_
        refine H6.ldStr 0 rfl (off := 1) rfl ?_
        refine Row.stE (even_pr X) hr6 (by omega) (by omega) (x := B[j]) rfl (one1_pr _) (by decide) fun w7 hr7 hc7 => ?_
        rw [Int.toNat_natCast] at hr7
        have ei : w64 ((i : Int) + 1) = ((i + 1 : Nat) : Int) := by rw [w64_of] <;> omega
        rw [ei]
        refine k5 (i + 1) w7 _ (by omega) (hc06.trans hc7 fun _ _ h => h) hr7 (by rw [List.length_set]; exact hXl) ?_ ?_
        · rw [filter_take_succ hBj, ← hXt]
          have hk : (!decide (B[j].1 = v)) = true := by rw [hkeep]; rfl
          rw [hk]
          have hs : (X.set i B[j])[i]? = some B[j] := by rw [List.getElem?_set_self (by omega)]
          obtain ⟨g1, g2⟩ := List.getElem?_eq_some_iff.1 hs
          rw [List.take_succ_eq_append_getElem g1, g2, List.take_set_of_le (Nat.le_refl _)]; rfl
        · rw [List.drop_set_of_lt (by omega)]
          have := congrArg (List.drop 1) hXd
          rw [List.drop_drop, List.drop_drop] at this
          exact this
      · refine k5 i w6 X (by omega) hc06 hr6 hXl ?_ ?_
        · rw [filter_take_succ hBj, ← hXt]
          have hk : (!decide (B[j].1 = v)) = false := by rw [hdel]; rfl
          rw [hk]; simp
        · have := congrArg (List.drop 1) hXd
          rw [List.drop_drop, List.drop_drop] at this
          exact this
    · have hjl : j = l := by omega
      subst hjl
      have hXt' : X.take i = B.filter fun b => !decide (b.1 = v) := by rw [hXt, List.take_of_length_le (by omega)]
      have hsplit : rows pr X = rows pr (X.take i) ++ rows pr (X.drop i) := by rw [← rows_append, List.take_append_drop]
      rw [hsplit, hXt'] at hr2
      have hfl : (rows pr (B.filter fun b => !decide (b.1 = v))).length = i * 2 := by
        rw [rows_len (even_pr _), ← hXt', List.length_take, hXl]; congr 1; omega
      refine clr_row slT_bind (one1_cons rfl (one1_cons rfl one1_nil)) hr2 hfl (by omega) fun w8 hr8 hc8 => ?_
      have hle := hr2.le
      refine slS_pre (hr2.at0 (by omega)) (by omega) (by omega) ?_
      exact k i w8 hr8 (hc2.trans hc8 fun _ _ h => h) (by omega)
end
end Go.Proofs.YtdjehimkijlhgaaDoor

