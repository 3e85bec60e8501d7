/-
  Package tape: Open, on a drum whose power stays.
-/
import Derived.Test.YtfhmnodoahcmnaaTapeC
import Derived.Test.YtfhmnodoahcmnaaHand
namespace Go.Proofs.Ytfhmnodoahcmnaa
open Go Go.Vc

/-! ## What Open reads -/

structure SC where
  all : List (List UInt8)
  cur : List UInt8
  due : Int
  place : Nat
def hdL (b : List UInt8) : Nat := beVal ((b.drop 12).take 2)
def hdS (b : List UInt8) : Nat := beVal ((b.drop 14).take 2)
def body (b : List UInt8) : List UInt8 := (b.drop 16).take (hdS b)
def SC.pre (st : SC) (b : List UInt8) : Prop := hdS b ≤ 48 ∧ (0 < hdL b → 48 ≤ hdS b) ∧ (0 ≤ st.due → (hdL b : Int) = st.due ∧ hdS b ≠ 0)
def SC.good (st : SC) (gen i : Nat) (b : List UInt8) : Prop := st.pre b ∧ sec gen i st.all.length (hdL b) (hdS b) (body b) = b
instance (st : SC) (gen i : Nat) (b : List UInt8) : Decidable (st.good gen i b) := by unfold SC.good SC.pre; exact inferInstance
def SC.next (st : SC) (i : Nat) (b : List UInt8) : SC :=
  if hdL b = 0 then ⟨st.all ++ [st.cur ++ body b], [], -1, i + 1⟩ else ⟨st.all, st.cur ++ body b, (hdL b : Int) - 1, st.place⟩
def scan (gen : Nat) : Nat → List (List UInt8) → SC → SC
  | _, [], st => st
  | i, b :: r, st => if st.good gen i b then scan gen (i + 1) r (st.next i b) else st
def SC.zero : SC := ⟨[], [], -1, 0⟩
def opened (gen : Nat) (secs : List (List UInt8)) : SC := scan gen 0 secs SC.zero

structure SC.Ok (st : SC) (i : Nat) : Prop where
  groups : st.all.length ≤ st.place
  place : st.place ≤ i
  due : -1 ≤ st.due ∧ st.due ≤ 65535
  cur : st.cur.length ≤ 48 * i

theorem hdL_lt {b : List UInt8} : hdL b < 65536 := by
  have h := beVal_lt ((b.drop 12).take 2)
  have h2 : ((b.drop 12).take 2).length ≤ 2 := by rw [List.length_take]; omega
  have : 256 ^ ((b.drop 12).take 2).length ≤ 256 ^ 2 := Nat.pow_le_pow_right (by decide) h2
  unfold hdL; omega
theorem hdS_lt {b : List UInt8} : hdS b < 65536 := by
  have h := beVal_lt ((b.drop 14).take 2)
  have h2 : ((b.drop 14).take 2).length ≤ 2 := by rw [List.length_take]; omega
  have : 256 ^ ((b.drop 14).take 2).length ≤ 256 ^ 2 := Nat.pow_le_pow_right (by decide) h2
  unfold hdS; omega
theorem SC.Ok.zero : SC.zero.Ok 0 := ⟨Nat.le_refl _, Nat.le_refl _, by simp [SC.zero], Nat.le_refl _⟩
theorem SC.Ok.next {st : SC} {i : Nat} {b : List UInt8} (h : st.Ok i) (hs : hdS b ≤ 48) : (st.next i b).Ok (i + 1) := by
  obtain ⟨h1, h2, h3, h4⟩ := h
  have hl : (body b).length ≤ 48 := by unfold body; rw [List.length_take]; omega
  have := hdL_lt (b := b)
  unfold SC.next
  split
  · exact ⟨by simp; omega, Nat.le_refl _, by simp, by simp⟩
  · refine ⟨h1, by simp only; omega, by simp only; omega, by simp; omega⟩

theorem typ_ne {w : World} {a b : Nat} {e e' : TypeId} (h : typ w a = some e) (h' : typ w b = some e') (hne : e ≠ e') : a ≠ b := by
  rintro rfl; rw [h] at h'; cases h'; exact hne rfl

/-- A slice of bytes of the call's own. -/
def HandC (w : World) (h : BV) : Prop := Row w T_uint8 1 h.p h.l h.c (bcells h.bs)
theorem HandC.bytes {w : World} {h : BV} (hh : HandC w h) : Bytes w h.p h.l h.bs := Row.bytes hh
theorem HandC.chg {w w' : World} {S : Nat → Prop} {h : BV} (hh : HandC w h) (hc : Chg S w w') (hn : ∀ b, typ w b = some T_uint8 → ¬ S b) : HandC w' h := Row.chg hh hc fun a ha => hn _ (Row.typ hh a ha)
theorem HandC.chgp {w w' : World} {S : Nat → Prop} {h : BV} (hh : HandC w h) (hc : Chg S w w') (hn : ∀ a, h.p = some a → ¬ S a.block) : HandC w' h := Row.chg hh hc hn

/-- Slices of bytes of the call's own, in a row of the call's own. -/
structure Rows (w0 w : World) (p : Option Addr) (l c : Nat) (L : List (List UInt8)) (hs : List BV) : Prop where
  row : Row w T_sl_uint8 1 p l c (rows BV.cells hs)
  is : hs.map (·.bs) = L
  hand : ∀ h ∈ hs, HandC w h
  fresh : Go.Vc.fresh w0 p
  freshes : ∀ h ∈ hs, Go.Vc.fresh w0 h.p

section
variable {w0 w w' : World} {p : Option Addr} {l c : Nat} {L : List (List UInt8)} {hs : List BV}
theorem Rows.len (h : Rows w0 w p l c L hs) : L.length = l := by
  have := h.row.len
  rw [rows_len (even_BV hs)] at this
  rw [← h.is]; simp; omega
theorem Rows.nil (w0 w : World) : Rows w0 w none 0 0 [] [] := ⟨Row.nil _ _ _, rfl, by simp, by rintro a ⟨⟩, by simp⟩
theorem Rows.chg (h : Rows w0 w p l c L hs) {S : Nat → Prop} (hc : Chg S w w') (h1 : off p S) (h2 : ∀ h ∈ hs, off h.p S) : Rows w0 w' p l c L hs :=
  ⟨h.row.chg hc h1, h.is, fun x hx => (h.hand x hx).chgp hc (h2 x hx), h.fresh, h.freshes⟩
/-- Blocks of other types have changed. -/
theorem Rows.typs (h : Rows w0 w p l c L hs) {S : Nat → Prop} (hc : Chg S w w') (hS : ∀ b, S b → typ w b ≠ some T_uint8 ∧ typ w b ≠ some T_sl_uint8) : Rows w0 w' p l c L hs :=
  h.chg hc (fun a ha hs => (hS _ hs).2 (h.row.typ a ha)) fun x hx a ha hs => by
    have hr := h.hand x hx
    exact (hS _ hs).1 (hr.typ a ha)
theorem Rows.chg0 (h : Rows w0 w p l c L hs) (hc : Chg No w w') : Rows w0 w' p l c L hs := h.chg hc (off_no _) fun _ _ => off_no _

/-- append(list, x) -/
theorem Rows.push (h : Rows w0 w p l c L hs) {x : BV} (hx : HandC w x) (hf : Go.Vc.fresh w0 x.p) (hl : l < 100000000) (hw : w0.heap.size ≤ w.heap.size) {J : Option Addr → Nat → Nat → World → Prop}
    (k : ∀ p' c' w', Rows w0 w' p' (l + 1) c' (L ++ [x.bs]) (hs ++ [x]) → Chg (isB p) w w' → (p' = p ∨ Go.Vc.fresh w p') → HandC w' x → J p' (l + 1) c' w') :
    newB w (.cells ⟨[.slice x.p x.l x.c]⟩ T_sl_uint8) fun b w1 => appJ Try.prog T_sl_sl_uint8 T_sl_sl_uint8 (.slice p l c) (.slice (some ⟨b, 0, none⟩) 1 1) w1 fun p' l' c' w2 => J p' l' c' w2 := by
  refine newRow (sz := 1) (n := 1) rfl (by decide) fun b2 w2 hr2 hb2 hc2 => ?_
  have h2 := h.chg0 hc2
  refine appJ_row slT_sl_u8 h2.row hr2.sl (by intro v hv; simp only [List.mem_singleton] at hv; subst hv; rfl) (by simp) (by omega) (by simp only [maxLen]; omega) fun p3 c3 w3 hr3 hc3 hf3 => ?_
  have hx2 := hx.chg (S := No) hc2 (fun _ _ => id)
  have hoff : ∀ y, HandC w2 y → ∀ a, y.p = some a → ¬ isB p a.block := by
    rintro y hr a ha ⟨a', ha', e⟩
    exact typ_ne (h2.row.typ a' ha') (hr.typ a ha) (by decide) e
  have hx3 : HandC w3 x := hx2.chgp hc3 (hoff x hx2)
  refine k p3 c3 w3 ⟨?_, by rw [List.map_append, h.is]; rfl, ?_, ?_, ?_⟩ (by
    refine Chg.trans (S := isB p) (hc2.mono fun _ _ h => h.elim) hc3 fun b _ hb => hb) ?_ hx3
  · rw [rows_append]; simpa [rows, BV.cells] using hr3
  · intro y hy
    rcases List.mem_append.1 hy with hy | hy
    · exact (h2.hand y hy).chgp hc3 (hoff y (h2.hand y hy))
    · simp only [List.mem_singleton] at hy; subst hy; exact hx3
  · rcases hf3 with rfl | hf3
    · exact h.fresh
    · intro a ha; have := hf3 a ha; have := hc2.size; omega
  · intro y hy
    rcases List.mem_append.1 hy with hy | hy
    · exact h.freshes y hy
    · simp only [List.mem_singleton] at hy; subst hy; exact hf
  · rcases hf3 with rfl | hf3
    · exact .inl rfl
    · right; intro a ha; have := hf3 a ha; have := hc2.size; omega
end

section
variable {w0 w w' : World} {d : Nat} {F : List Nat} {D : DS}

theorem Calm.steps {D : DS} (h : Calm D) (s : Int) : Calm { D with steps := s } := h
theorem Calm.read {D : DS} (h : Calm D) {n : Nat} (hn : n < D.safe.length) : D.read (n : Int) = ({ D with steps := w64 (D.steps + 1) }, (D.now[n]?).getD [], 0) := by
  unfold DS.read
  rw [if_neg (by omega), h.step]
  simp
theorem now_steps (D : DS) (s : Int) : DS.now { D with steps := s } = D.now := rfl
theorem DS.Ok.steps {D : DS} (h : D.Ok) (s : Int) : ({ D with steps := s } : DS).Ok := ⟨h.pos, h.max, h.safe, h.loose, h.count, h.fuse⟩
/-- So many steps more. -/
def DS.took (D : DS) : Nat → DS
  | 0 => D
  | j + 1 => { D.took j with steps := w64 ((D.took j).steps + 1) }
theorem took_safe (D : DS) : ∀ j, (D.took j).safe = D.safe
  | 0 => rfl
  | j + 1 => took_safe D j
theorem took_loose (D : DS) : ∀ j, (D.took j).loose = D.loose
  | 0 => rfl
  | j + 1 => took_loose D j
theorem took_now (D : DS) (j : Nat) : (D.took j).now = D.now := by simp only [DS.now, took_safe, took_loose]
theorem took_calm {D : DS} (h : Calm D) : ∀ j, Calm (D.took j)
  | 0 => h
  | j + 1 => took_calm h j
theorem took_steps {D : DS} (h0 : 0 ≤ D.steps) : ∀ j : Nat, D.steps + j ≤ 9223372036854775807 → (D.took j).steps = D.steps + j
  | 0, _ => by simp [DS.took]
  | j + 1, hj => by
    simp only [DS.took]
    rw [took_steps h0 j (by omega), w64_of (by omega) (by omega)]; omega
theorem w64_add1 (a b : Int) : w64 (w64 (a + b) + 1) = w64 (a + (b + 1)) := by
  unfold w64; rw [IntKind.wrap_i64, IntKind.wrap_i64, IntKind.wrap_i64]; omega

theorem TOpen_bad {lo hi gen : Int} {J : Option Addr → Option Addr → Nat → Nat → Int → World → Prop} (h : DrumAt w d F D) (hb : lo < 0 ∨ (D.safe.length : Int) < hi ∨ hi ≤ lo ∨ gen < 1 ∨ 4294967295 < gen)
    (k : J none none 0 0 1 w) : callJ Try.prog fn_tape_Open #[.pointer (some ⟨d, 0, none⟩), .int .i64 lo, .int .i64 hi, .int .i64 gen] w [.one .ptr, .one .slice, .one (.int .i64)] J := by
  refine c_tape_Open ?_
  unfold VC_tape_Open
  refine condB_i (fun h => by simp at h) fun _ => ?_
  refine withJ_i fun J24 hJ => ?_
  have bad : J24 true w := by subst hJ; exact k
  have hmax := h.ok.max
  clear hJ
  refine condB_d (fun _ => bad) (fun h1 => ?_)
  refine Sectors_ok h ?_
  refine condB_d (fun _ => bad) (fun h2 => ?_)
  refine condB_d (fun _ => bad) (fun h3 => ?_)
  rw [w64_of (by omega) (by omega)]
  refine condB_d (fun _ => bad) (fun h4 => ?_)
  refine condB_d (fun _ => bad) (fun h5 => ?_)
  rw [decide_eq_true (by omega)]
  exact bad

theorem TOpen_nil {lo hi gen : Int} {J : Option Addr → Option Addr → Nat → Nat → Int → World → Prop} (k : J none none 0 0 2 w) :
    callJ Try.prog fn_tape_Open #[.pointer none, .int .i64 lo, .int .i64 hi, .int .i64 gen] w [.one .ptr, .one .slice, .one (.int .i64)] J := c_tape_Open k

set_option maxRecDepth 20000 in
theorem TOpen_own {lo hi gen : Nat} {J : Option Addr → Option Addr → Nat → Nat → Int → World → Prop} (h : Own w0 w d F D) (hcalm : Calm D) (h1 : lo < hi) (h2 : hi ≤ D.safe.length) (h3 : 1 ≤ gen) (h4 : gen < 2 ^ 32)
    (k : ∀ w' t p l c hs j st, st = opened gen ((D.now.drop lo).take (hi - lo)) → TOwn w0 w' t ⟨d, lo, hi, gen, st.place, st.all.length, false⟩ F (D.took j) → j ≤ hi - lo → w.heap.size ≤ t →
      Rows w w' p l c st.all hs → Chg (· ∈ F) w w' → J (some ⟨t, 0, none⟩) p l c 0 w') :
    callJ Try.prog fn_tape_Open #[.pointer (some ⟨d, 0, none⟩), .int .i64 (lo : Int), .int .i64 (hi : Int), .int .i64 (gen : Int)] w [.one .ptr, .one .slice, .one (.int .i64)] J := by
  refine c_tape_Open ?_
  unfold VC_tape_Open
  have hmax := h.at_.ok.max
  have hpos := h.at_.ok.pos
  refine condB_i (fun h => by simp at h) fun _ => ?_
  refine withJ_i fun J24 hJ24 => ?_
  have go : J24 false w := by
    subst hJ24
    refine condB_i (fun h => by simp at h) fun _ => ?_
    refine (Hp.start w No).newB fun t w2 H2 ht2 hc2 => ?_
    refine withJ_i fun J12 hJ12 => ?_
    have hn : w64 ((hi : Int) - (lo : Int)) = ((hi - lo : Nat) : Int) := by rw [w64_of] <;> omega
    rw [hn]
    generalize hnn : hi - lo = n at *
    generalize hsec : (D.now.drop lo).take n = secs at *
    have hnl := D.now_len
    have hsl : secs.length = n := by rw [← hsec, List.length_take, List.length_drop]; omega
    have hs64 : ∀ s ∈ secs, s.length = 64 := by intro s hs; rw [← hsec] at hs; exact h.at_.ok.now s (List.mem_of_mem_drop (List.mem_of_mem_take hs))
    have fin : ∀ p l c w' hs j st, st = opened gen secs → TapeAt w' t ⟨d, lo, hi, gen, st.place, st.all.length, false⟩ → Own w0 w' d F (D.took j) → j ≤ n → st.Ok n → Rows w w' p l c st.all hs → Chg (· ∈ F) w w' → J12 p l c w' := by
      intro p l c w' hs j st hst hT hO hj hok hR hC
      subst hJ12
      refine k w' t p l c hs j st (by rw [hst]) ⟨hO, hT, Nat.le_trans h.chg.size ht2, ?_⟩ hj ht2 hR hC
      exact ⟨h1, by rw [took_safe]; exact h2, ⟨h3, h4⟩, by have := hok.place; simp only; omega, hok.groups⟩
    clear hJ12
    refine ⟨fun ap al ac gp gl gc due x w' m => ∃ (i : Nat) (st : SC) (hs : List BV), x = i ∧ i ≤ n ∧ m = n - i ∧ opened gen secs = scan gen i (secs.drop i) st ∧ due = st.due ∧ st.Ok i ∧
        TapeAt w' t ⟨d, lo, hi, gen, st.place, st.all.length, false⟩ ∧ Own w0 w' d F (D.took i) ∧ Rows w w' ap al ac st.all hs ∧
        Row w' T_uint8 1 gp gl gc (bcells st.cur) ∧ fresh w gp ∧ (∀ h ∈ hs, ∀ a a', h.p = some a → gp = some a' → a.block ≠ a'.block) ∧ Chg (· ∈ F) w w',
      ⟨_, 0, SC.zero, [], rfl, Nat.zero_le _, rfl, rfl, rfl, SC.Ok.zero, by simpa [TapeAt, tapeCells, SC.zero] using H2.get 0 rfl, ?_, Rows.nil _ _, Row.nil _ _ _, by rintro a ⟨⟩, by simp, hc2.mono fun _ _ => False.elim⟩, ?_⟩
    · exact h.step (hc2) (fun _ _ => id) (fun _ => False.elim)
    rintro ap al ac gp gl gc due x w' m ⟨i, st, hs, rfl, hil, rfl, hsc, rfl, hok, hT, hO, hR, hG, hgf, hgap, hC⟩
    have hal := hR.len
    obtain ⟨o1, o2, ⟨o3, o4⟩, o5⟩ := id hok
    have hgl : st.cur.length = gl := by have := hG.len; rwa [bcells_length, Nat.mul_one] at this
    have okn : st.Ok n := ⟨o1, by omega, ⟨o3, o4⟩, by omega⟩
    have stop : ∀ w'', opened gen secs = st → TapeAt w'' t ⟨d, lo, hi, gen, st.place, st.all.length, false⟩ → ∀ j ≤ n, Own w0 w'' d F (D.took j) → Rows w w'' ap al ac st.all hs → Chg (· ∈ F) w w'' → J12 ap al ac w'' := by
      intro w'' e hT' j hj hO' hR' hC'
      exact fin _ _ _ _ hs j st e.symm hT' hO' hj okn hR' hC'
    refine condB_d (fun hlt => ?_) (fun hlt => ?_)
    · have hin : i < n := by omega
      refine withJ_i fun J121 hJ121 => ?_
      have ei : w64 ((i : Int) + 1) = ((i + 1 : Nat) : Int) := by rw [w64_of] <;> omega
      have next : ∀ ap al ac gp gl gc st' hs' w'', opened gen secs = scan gen (i + 1) (secs.drop (i + 1)) st' → st'.Ok (i + 1) → TapeAt w'' t ⟨d, lo, hi, gen, st'.place, st'.all.length, false⟩ → Own w0 w'' d F (D.took (i + 1)) →
          Rows w w'' ap al ac st'.all hs' → Row w'' T_uint8 1 gp gl gc (bcells st'.cur) → fresh w gp → (∀ h ∈ hs', ∀ a a', h.p = some a → gp = some a' → a.block ≠ a'.block) → Chg (· ∈ F) w w'' → J121 ap al ac gp gl gc st'.due w'' := by
        intro ap al ac gp gl gc st' hs' w'' a1 a2 a3 a4 a5 a6 a7 a8 a9
        subst hJ121
        exact ⟨n - (i + 1), by omega, i + 1, st', hs', ei, by omega, rfl, a1, rfl, a2, a3, a4, a5, a6, a7, a8, a9⟩
      clear hJ121
      have elo : w64 ((lo : Int) + (i : Int)) = ((lo + i : Nat) : Int) := by rw [w64_of] <;> omega
      rw [elo]
      refine Read_own hO fun p6 c6 w6 h6 hr6 hf6 hc6 => ?_
      rw [(took_calm hcalm i).read (by rw [took_safe]; omega), took_now] at h6 hr6 ⊢
      change Own w0 w6 d F (D.took (i + 1)) at h6
      dsimp only at hr6 ⊢
      refine condB_ne (fun h => absurd rfl h) fun _ => ?_
      obtain ⟨b, hb⟩ : ∃ b, secs[i]? = some b := ⟨secs[i]'(by omega), List.getElem?_eq_getElem (by omega)⟩
      have hb2 : D.now[lo + i]? = some b := by
        rw [← hsec, List.getElem?_take, if_pos hin, List.getElem?_drop] at hb; exact hb
      rw [hb2, Option.getD_some] at hr6 ⊢
      have hb64 : b.length = 64 := hs64 b (List.mem_of_getElem? hb)
      rw [hb64] at hr6 ⊢
      have hdrop : secs.drop i = b :: secs.drop (i + 1) := by rw [List.drop_eq_getElem_cons (by omega)]; congr 1; exact (List.getElem?_eq_some_iff.1 hb).2
      rw [hdrop, scan] at hsc
      have hT6 : TapeAt w6 t ⟨d, lo, hi, gen, st.place, st.all.length, false⟩ := hc6.heap hT (hO.at_.apart (typ_of hT) nd_tape)
      have hR6 : Rows w w6 ap al ac st.all hs := hR.chg hc6 (hO.at_.rowOff hR.row nd_sl_u8) fun x hx => by have hr := hR.hand x hx; exact hO.at_.rowOff hr nd_u8
      have hG6 := hG.chg hc6 (hO.at_.rowOff hG nd_u8)
      have hC6 : Chg (· ∈ F) w w6 := hC.trans hc6 fun _ _ => id
      refine withJ_i fun J18 hJ18 => ?_
      have hS := hdS_lt (b := b)
      have hL := hdL_lt (b := b)
      -- behind the header
      have main : ∀ w7 b18, Chg No w6 w7 → w7.heap[b18]? = some (.cells ⟨[.int .u32 (gen : Int), .int .u16 (i : Int), .int .u16 (st.all.length : Int), .int .u16 (hdL b : Int), .int .u16 (hdS b : Int)]⟩ T_tape_sector (0, 0)) → J18 (some ⟨b18, 0, none⟩) w7 := by
        intro w7 b18 hc7 hh7
        subst hJ18
        dsimp only [nonNil]
        simp only [Addr.add_mk, Nat.zero_add]
        have cl : ∀ k v, ([.int .u32 (gen : Int), .int .u16 (i : Int), .int .u16 (st.all.length : Int), .int .u16 (hdL b : Int), .int .u16 (hdS b : Int)] : List Value)[k]? = some v → w7.cell? ⟨b18, k, none⟩ = some v := by
          intro k v hv; rw [cell_of_row w7 b18 k _ _ (0, 0) hh7]; simpa using hv
        refine ldI_i (n := (hdS b : Int)) (cl 4 _ rfl) ?_
        refine ldI_i (n := (hdL b : Int)) (cl 3 _ rfl) ?_
        rw [w64_of (n := (hdS b : Int)) (by omega) (by omega), w64_of (n := (hdL b : Int)) (by omega) (by omega)]
        refine withJ_i fun J132 hJ132 => ?_
        have hbody : ∀ w8, Chg No w6 w8 → hdS b ≤ 48 → ∀ K : Option Addr → Nat → Nat → Prop, (∀ q, Bytes w8 q (hdS b) (body b) → (q = none → hdS b = 0) → K q (hdS b) (c6 - 16)) →
            slS p6 64 c6 1 (some (16 : Int)) (some (w64 ((16 : Int) + (hdS b : Int)))) none K := by
          intro w8 hc8 hs48 K hK
          have hr8 := hr6.chg hc8 (off_no _)
          have hle := hr8.le
          rw [w64_of (by omega) (by omega)]
          have e : 16 + hdS b - 16 = hdS b := by omega
          have h64 := hr8.bytes
          have hgo := slS_sl (i := 16) (j := 16 + hdS b) (K := K) (c := c6) (lo := some (16 : Int)) (hi := some ((16 : Int) + (hdS b : Int))) h64 rfl (by simp) (by omega) (by omega) (by omega)
          refine hgo fun q hq _ => ?_
          rw [e] at hq ⊢
          have hq' : Bytes w8 q (hdS b) (body b) := by
            have e2 : ((bcells b).drop (16 * 1)).take (hdS b * 1) = bcells (body b) := by
              unfold body bcells; rw [Nat.mul_one, Nat.mul_one, ← List.map_drop, ← List.map_take]
            rw [e2] at hq; exact hq
          refine hK q hq' fun hq0 => ?_
          by_cases h0 : hdS b = 0
          · exact h0
          · obtain ⟨a, ha, _⟩ := Sl.at hq' h0; rw [hq0] at ha; cases ha
        have fin132 : ∀ (x : Bool) w8, Chg No w6 w8 → (x = true ↔ ¬ st.good gen i b) → J132 x w8 := by
          intro x w8 hc8 hx
          subst hJ132
          have hT8 : TapeAt w8 t ⟨d, lo, hi, gen, st.place, st.all.length, false⟩ := hc8.heap hT6 id
          have hO8 := h6.step0 hc8
          have hR8 := hR6.chg0 hc8
          have hG8 := hG6.chg hc8 (off_no _)
          have hC8 : Chg (· ∈ F) w w8 := hC6.trans0 hc8
          refine condB_i (fun hxt => ?_) (fun hxf => ?_)
          · have hng : ¬ st.good gen i b := hx.1 hxt
            rw [if_neg hng] at hsc
            exact stop w8 hsc hT8 (i + 1) (by omega) hO8 hR8 hC8
          · have hg : st.good gen i b := Decidable.not_not.1 fun hn => by rw [hx.2 hn] at hxf; cases hxf
            rw [if_pos hg] at hsc
            have hs48 := hg.1.1
            have okn' := hok.next hs48
            have hbl : (body b).length = hdS b := by unfold body; rw [List.length_take, List.length_drop]; omega
            refine hbody w8 hc8 hs48 _ fun q hq hqn => ?_
            refine appJ_row slT_u8 hG8 hq (one1_bcells _) hqn (by omega) (by simp only [maxLen]; omega) fun p9 c9 w9 hr9 hc9 hf9 => ?_
            have hcat : bcells st.cur ++ bcells (body b) = bcells (st.cur ++ body b) := by simp [bcells]
            rw [hcat] at hr9
            have hB : ∀ x, isB gp x → typ w8 x = some T_uint8 := by rintro x ⟨a, ha, rfl⟩; exact hG8.typ a ha
            have hnF : ∀ x ∈ F, ¬ isB gp x := fun x hx hb => hO8.at_.apart (hB x hb) nd_u8 hx
            have hnt : ¬ isB gp t := fun hb => typ_ne (hB t hb) (typ_of hT8) (by decide) rfl
            have hfr : ∀ x, isB gp x → w.heap.size ≤ x := by rintro x ⟨a, ha, rfl⟩; exact hgf a ha
            have hT9 : TapeAt w9 t ⟨d, lo, hi, gen, st.place, st.all.length, false⟩ := hc9.heap hT8 hnt
            have hO9 := hO8.step hc9 hnF (fun x hx => Nat.le_trans h.chg.size (hfr x hx))
            have hR9 : Rows w w9 ap al ac st.all hs := hR8.chg hc9 (fun a ha ⟨a', ha', e⟩ => typ_ne (hG8.typ a' ha') (hR8.row.typ a ha) (by decide) e)
              (fun x hx a ha ⟨a', ha', e⟩ => hgap x hx a a' ha ha' e.symm)
            have hC9 : Chg (· ∈ F) w w9 := hC8.trans hc9 fun x hx hb => by have := hfr x hb; omega
            have hf9' : fresh w p9 := by
              rcases hf9 with rfl | hf9
              · exact hgf
              · intro a ha; have := hf9 a ha; have := hC8.size; omega
            have hap9 : ∀ h ∈ hs, ∀ a a', h.p = some a → p9 = some a' → a.block ≠ a'.block := by
              rcases hf9 with rfl | hf9
              · exact hgap
              · intro x hx a a' ha ha' e
                have hrx := hR8.hand x hx
                have := hrx.lt a ha; have := hf9 a' ha'; omega
            by_cases hL0 : hdL b = 0
            · have hnx : st.next i b = ⟨st.all ++ [st.cur ++ body b], [], -1, i + 1⟩ := by unfold SC.next; rw [if_pos hL0]
              rw [hnx] at hsc okn'
              refine condB_eq (fun _ => ?_) (fun h => absurd (by omega) h)
              have hx : HandC w9 ⟨p9, gl + hdS b, c9, st.cur ++ body b⟩ := hr9
              refine hR9.push hx hf9' (by omega) hC9.size fun p10 c10 w10 hR10 hc10 hf10 hx10 => ?_
              have hB10 : ∀ x, isB ap x → typ w9 x = some T_sl_uint8 := by rintro x ⟨a, ha, rfl⟩; exact hR9.row.typ a ha
              have hfr10 : ∀ x, isB ap x → w.heap.size ≤ x := by rintro x ⟨a, ha, rfl⟩; exact hR9.fresh a ha
              have hT10 : TapeAt w10 t ⟨d, lo, hi, gen, st.place, st.all.length, false⟩ := hc10.heap hT9 fun hb => typ_ne (hB10 t hb) (typ_of hT9) (by decide) rfl
              have hO10 := hO9.step hc10 (fun x hx hb => hO9.at_.apart (hB10 x hb) nd_sl_u8 hx) (fun x hx => Nat.le_trans h.chg.size (hfr10 x hx))
              have hC10 : Chg (· ∈ F) w w10 := hC9.trans hc10 fun x hx hb => by have := hfr10 x hb; omega
              have H10 := (Hp.start w10 (fun x => x = t)).add hT10 (by simp) (fun _ => rfl)
              refine H10.ldI 0 rfl (off := 5) rfl ?_
              refine H10.stV 0 rfl (off := 5) (by simp [tapeCells]) fun w11 H11 hc11 => ?_
              refine H11.stV 0 rfl (off := 4) (by simp [tapeCells]) fun w12 H12 hc12 => ?_
              have hc1112 : Chg (fun x => x = t) w10 w12 := hc11.trans hc12 fun _ _ => id
              have ed : w64 ((hdL b : Int) - 1) = -1 := by rw [hL0]; rfl
              have eg : w64 ((st.all.length : Int) + 1) = ((st.all.length + 1 : Nat) : Int) := by rw [w64_of] <;> omega
              rw [ed]
              rw [ei, eg] at H12
              have htF : t ∉ F := hO10.at_.apart (typ_of hT10) nd_tape
              refine next _ _ _ _ _ _ ⟨st.all ++ [st.cur ++ body b], [], -1, i + 1⟩ (hs ++ [⟨p9, gl + hdS b, c9, st.cur ++ body b⟩]) w12 hsc okn' ?_ (hO10.step hc1112 (fun x hx e => htF (e ▸ hx)) (fun x e => by subst e; exact Nat.le_trans h.chg.size ht2))
                (by rw [← hal] at hR10; rw [← hal]; exact hR10.typs hc1112 fun x e => by subst e; rw [typ_of hT10]; exact ⟨by decide, by decide⟩) (Row.nil _ _ _) (by rintro a ⟨⟩) (by rintro x _ a a' _ ⟨⟩) (hC10.trans hc1112 fun x hx e => by omega)
              have hth := H12.get 0 rfl
              have el : (st.all ++ [st.cur ++ body b]).length = st.all.length + 1 := by simp
              show TapeAt w12 t ⟨d, lo, hi, gen, i + 1, (st.all ++ [st.cur ++ body b]).length, false⟩
              rw [el]
              exact hth
            · have hnx : st.next i b = ⟨st.all, st.cur ++ body b, (hdL b : Int) - 1, st.place⟩ := by unfold SC.next; rw [if_neg hL0]
              rw [hnx] at hsc okn'
              refine condB_eq (fun h => absurd h (by omega)) (fun _ => ?_)
              rw [w64_of (by omega) (by omega)]
              exact next _ _ _ _ _ _ ⟨st.all, st.cur ++ body b, (hdL b : Int) - 1, st.place⟩ hs w9 hsc okn' hT9 hO9 hR9 hr9 hf9' hap9 hC9
        clear hJ132
        have hc7d : Chg No w6 w7.drew.drew := hc7.drew.drew
        have nope : ∀ w8, Chg No w6 w8 → ¬ st.pre b → J132 true w8 := fun w8 hc8 hn => fin132 true w8 hc8 ⟨fun _ hg => hn hg.1, fun _ => rfl⟩
        refine condB_d (fun hx => nope _ hc7d fun hp => by have := hp.1; omega) (fun hx1 => ?_)
        refine condB_d (fun hx => ?_) (fun hx2 => ?_)
        · refine condB_d (fun hx3 => nope _ hc7d fun hp => by have := hp.2.1 (by omega); omega) (fun hx3 => ?_)
          refine condB_d (fun hx4 => ?_) (fun hx4 => ?_)
          · refine condB_ne (fun hx5 => nope _ hc7d fun hp => hx5 (hp.2.2 hx4).1) (fun hx5 => ?_)
            refine condB_eq (fun hx6 => nope _ hc7d fun hp => by have := (hp.2.2 hx4).2; omega) (fun hx6 => ?_)
            have hpre : st.pre b := ⟨by omega, fun _ => by omega, fun _ => ⟨hx5, by omega⟩⟩
            refine ldI_i (n := (gen : Int)) (cl 0 _ rfl) ?_
            refine ldI_i (n := (i : Int)) (cl 1 _ rfl) ?_
            refine ldI_i (n := (st.all.length : Int)) (cl 2 _ rfl) ?_
            refine ldI_i (n := (hdL b : Int)) (cl 3 _ rfl) ?_
            refine ldI_i (n := (hdS b : Int)) (cl 4 _ rfl) ?_
            refine hbody _ hc7d hpre.1 _ fun q hq hqn => ?_
            refine lay_ok h4 (by omega) (by omega) (by omega) (by omega) hq hqn hpre.1 fun p8 c8 w8 hr8 hf8 hc8 => ?_
            refine Equal_ok hr8.bytes (hr6.chg (hc7d.trans0 hc8) (off_no _)).bytes ?_
            refine fin132 _ w8 (hc7d.trans0 hc8) ?_
            simp [SC.good, hpre]
          · have hpre : st.pre b := ⟨by omega, fun _ => by omega, fun h => absurd h hx4⟩
            refine ldI_i (n := (gen : Int)) (cl 0 _ rfl) ?_
            refine ldI_i (n := (i : Int)) (cl 1 _ rfl) ?_
            refine ldI_i (n := (st.all.length : Int)) (cl 2 _ rfl) ?_
            refine ldI_i (n := (hdL b : Int)) (cl 3 _ rfl) ?_
            refine ldI_i (n := (hdS b : Int)) (cl 4 _ rfl) ?_
            refine hbody _ hc7d hpre.1 _ fun q hq hqn => ?_
            refine lay_ok h4 (by omega) (by omega) (by omega) (by omega) hq hqn hpre.1 fun p8 c8 w8 hr8 hf8 hc8 => ?_
            refine Equal_ok hr8.bytes (hr6.chg (hc7d.trans0 hc8) (off_no _)).bytes ?_
            refine fin132 _ w8 (hc7d.trans0 hc8) ?_
            simp [SC.good, hpre]
        · refine condB_d (fun hx4 => ?_) (fun hx4 => ?_)
          · refine condB_ne (fun hx5 => nope _ hc7d fun hp => hx5 (hp.2.2 hx4).1) (fun hx5 => ?_)
            refine condB_eq (fun hx6 => nope _ hc7d fun hp => by have := (hp.2.2 hx4).2; omega) (fun hx6 => ?_)
            have hpre : st.pre b := ⟨by omega, fun _ => by omega, fun _ => ⟨hx5, by omega⟩⟩
            refine ldI_i (n := (gen : Int)) (cl 0 _ rfl) ?_
            refine ldI_i (n := (i : Int)) (cl 1 _ rfl) ?_
            refine ldI_i (n := (st.all.length : Int)) (cl 2 _ rfl) ?_
            refine ldI_i (n := (hdL b : Int)) (cl 3 _ rfl) ?_
            refine ldI_i (n := (hdS b : Int)) (cl 4 _ rfl) ?_
            refine hbody _ hc7d hpre.1 _ fun q hq hqn => ?_
            refine lay_ok h4 (by omega) (by omega) (by omega) (by omega) hq hqn hpre.1 fun p8 c8 w8 hr8 hf8 hc8 => ?_
            refine Equal_ok hr8.bytes (hr6.chg (hc7d.trans0 hc8) (off_no _)).bytes ?_
            refine fin132 _ w8 (hc7d.trans0 hc8) ?_
            simp [SC.good, hpre]
          · have hpre : st.pre b := ⟨by omega, fun _ => by omega, fun h => absurd h hx4⟩
            refine ldI_i (n := (gen : Int)) (cl 0 _ rfl) ?_
            refine ldI_i (n := (i : Int)) (cl 1 _ rfl) ?_
            refine ldI_i (n := (st.all.length : Int)) (cl 2 _ rfl) ?_
            refine ldI_i (n := (hdL b : Int)) (cl 3 _ rfl) ?_
            refine ldI_i (n := (hdS b : Int)) (cl 4 _ rfl) ?_
            refine hbody _ hc7d hpre.1 _ fun q hq hqn => ?_
            refine lay_ok h4 (by omega) (by omega) (by omega) (by omega) hq hqn hpre.1 fun p8 c8 w8 hr8 hf8 hc8 => ?_
            refine Equal_ok hr8.bytes (hr6.chg (hc7d.trans0 hc8) (off_no _)).bytes ?_
            refine fin132 _ w8 (hc7d.trans0 hc8) ?_
            simp [SC.good, hpre]
      have hb6 := hr6.bytes
      have hT6' := hT6
      have ct : ∀ w8, TapeAt w8 t ⟨d, lo, hi, gen, st.place, st.all.length, false⟩ → w8.cell? ⟨t, 5, none⟩ = some (.int .i64 (st.all.length : Int)) := by
        intro w8 hT8; rw [cell_of_row w8 t 5 _ _ (0, 0) hT8]; rfl
      clear hJ18
      have hle6 := hr6.le
      refine ldI_i (n := (st.all.length : Int)) (ct w6.drew hT6) ?_
      have cut : ∀ k : Nat, k ≤ 64 → ∀ K : Option Addr → Nat → Nat → Prop, (∀ q, Bytes w6.drew q (64 - k) (b.drop k) → K q (64 - k) (c6 - k)) → slS p6 64 c6 1 (some (k : Int)) none none K := by
        intro k hk K hK
        refine slS_sl (i := k) (j := 64) hb6 rfl rfl hk (by omega) (by omega) fun q hq _ => ?_
        refine hK q ?_
        have e2 : ((bcells b).drop (k * 1)).take ((64 - k) * 1) = bcells (b.drop k) := by
          unfold bcells; rw [Nat.mul_one, Nat.mul_one, ← List.map_drop, List.take_of_length_le (by simp; omega)]
        rw [e2] at hq; exact hq
      refine cut 12 (by decide) _ fun q85 hq85 => ?_
      refine cut 14 (by decide) _ fun q89 hq89 => ?_
      rw [show zeroC Try.prog T_tape_sector = ⟨[.int .u32 0, .int .u16 0, .int .u16 0, .int .u16 0, .int .u16 0]⟩ from by kernel_rfl]
      have q1 : IntKind.u32.wrap (gen : Int) = (gen : Int) := wrap_u32_nat h4
      have q2 : IntKind.u16.wrap (i : Int) = (i : Int) := wrap_u16_nat (by omega)
      have q3 : IntKind.u16.wrap (st.all.length : Int) = (st.all.length : Int) := wrap_u16_nat (by omega)
      have q4 : IntKind.u16.wrap (hdL b : Int) = (hdL b : Int) := wrap_u16_nat hL
      have q5 : IntKind.u16.wrap (hdS b : Int) = (hdS b : Int) := wrap_u16_nat hS
      have e85 : ((beVal ((b.drop 12).take 2) : Nat) : Int) = (hdL b : Int) := rfl
      have e89 : ((beVal ((b.drop 14).take 2) : Nat) : Int) = (hdS b : Int) := rfl
      refine ⟨Of_ok (k := 2) hq85 (by decide) (by decide) (by omega) ⟨ct w6.drew hT6, ?_, ?_⟩, ?_⟩
      · refine Of_ok (k := 2) hq89 (by decide) (by decide) (by omega) ⟨ct w6.drew hT6, ?_⟩
        refine (Hp.start w6.drew No).newB fun b18 w7 H7 hb18 hc7 => ?_
        refine ⟨ct w7 (hc7.heap hT6 id), ?_⟩
        refine H7.stN 0 rfl (off := 0) rfl (by decide) (by simp [one1, Value.oneCell']) fun w8 H8 hc8 => ?_
        rw [e85, e89, q1, q2, q3, q4, q5] at H8
        refine main w8 b18 ((Chg.refl No w6).drew.trans0 H8.chg) (by simpa [splice] using H8.get 0 rfl)
      · refine (Hp.start w6.drew No).newB fun b18 w7 H7 hb18 hc7 => ?_
        refine ⟨ct w7 (hc7.heap hT6 id), ?_⟩
        refine Of_ok (k := 2) (hq89.chg hc7 (off_no _)) (by decide) (by decide) (by omega) ⟨ct w7 (hc7.heap hT6 id), ?_⟩
        refine H7.stN 0 rfl (off := 0) rfl (by decide) (by simp [one1, Value.oneCell']) fun w8 H8 hc8 => ?_
        rw [e85, e89, q1, q2, q3, q4, q5] at H8
        refine main w8 b18 ((Chg.refl No w6).drew.trans0 H8.chg) (by simpa [splice] using H8.get 0 rfl)
      · refine (Hp.start w6.drew No).newB fun b18 w7 H7 hb18 hc7 => ?_
        refine ⟨ct w7 (hc7.heap hT6 id), ?_⟩
        refine Of_ok (k := 2) (hq85.chg hc7 (off_no _)) (by decide) (by decide) (by omega) ⟨ct w7 (hc7.heap hT6 id), ?_⟩
        refine Of_ok (k := 2) (hq89.chg hc7 (off_no _)) (by decide) (by decide) (by omega) ⟨ct w7 (hc7.heap hT6 id), ?_⟩
        refine H7.stN 0 rfl (off := 0) rfl (by decide) (by simp [one1, Value.oneCell']) fun w8 H8 hc8 => ?_
        rw [e85, e89, q1, q2, q3, q4, q5] at H8
        refine main w8 b18 ((Chg.refl No w6).drew.trans0 H8.chg) (by simpa [splice] using H8.get 0 rfl)
    · have hin : i = n := by omega
      subst hin
      rw [List.drop_of_length_le (by omega)] at hsc
      exact stop _ hsc hT i (Nat.le_refl _) hO hR hC
  clear hJ24
  refine condB_d (fun hx => absurd hx (by omega)) (fun _ => ?_)
  refine Sectors_ok h.at_ ?_
  refine condB_d (fun hx => absurd hx (by omega)) (fun _ => ?_)
  refine condB_d (fun hx => absurd hx (by omega)) (fun _ => ?_)
  rw [w64_of (by omega) (by omega)]
  refine condB_d (fun hx => absurd hx (by omega)) (fun _ => ?_)
  refine condB_d (fun hx => absurd hx (by omega)) (fun _ => ?_)
  rw [decide_eq_false (by omega)]
  exact go
end
end Go.Proofs.Ytfhmnodoahcmnaa
