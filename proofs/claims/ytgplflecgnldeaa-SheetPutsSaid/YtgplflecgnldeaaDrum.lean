/-
  Package drum: what each of its functions does to a drum that lies in memory.
-/
import Derived.Test.YtgplflecgnldeaaVDrum
import Derived.Test.YtgplflecgnldeaaBase
namespace Go.Proofs.Ytgplflecgnldeaa
open Go Go.Vc

/-! ## A drum -/

/-- A drum: what stands, the loose Writes, the steps, the fuse, whether the power is off. -/
structure DS where
  safe : List (List UInt8)
  loose : List (Nat × List UInt8)
  steps : Int
  fuse : Int
  down : Bool

def standL (safe : List (List UInt8)) (loose : List (Nat × List UInt8)) (sel : Nat → Bool) : List (List UInt8) :=
  loose.zipIdx.foldl (fun s x => if sel x.2 then s.set x.1.1 x.1.2 else s) safe
def DS.now (D : DS) : List (List UInt8) := standL D.safe D.loose fun _ => true
def pad (p : List UInt8) : List UInt8 := p ++ List.replicate (64 - p.length) 0

structure DS.Ok (D : DS) : Prop where
  pos : 1 ≤ D.safe.length
  max : D.safe.length ≤ 16384
  safe : ∀ s ∈ D.safe, s.length = 64
  loose : ∀ x ∈ D.loose, x.1 < D.safe.length ∧ x.2.length = 64
  count : D.loose.length ≤ 1000000000
  fuse : InI D.fuse

/-- The answer of a step, and what becomes of the drum. -/
def DS.step (D : DS) : DS × Int :=
  if D.fuse = 0 ∨ D.down = true then ({ D with down := true }, 9)
  else ({ D with steps := w64 (D.steps + 1), fuse := if 0 < D.fuse then D.fuse - 1 else D.fuse }, 0)

abbrev wr1 (x : Nat × List UInt8) : List Value := .int .i64 x.1 :: bcells x.2
def blkOf (p : Option Addr) : List Nat := match p with | none => [] | some a => [a.block]

def drumCells (bs bn n cs cn : Nat) (lp : Option Addr) (ll lc : Nat) (D : DS) : List Value :=
  [.slice (some ⟨bs, 0, none⟩) n cs, .slice (some ⟨bn, 0, none⟩) n cn, .slice lp ll lc, .int .i64 D.steps, .int .i64 D.fuse, .bool D.down]

/-- In the world the drum 'D' lies behind the pointer to block 'd'; the blocks 'F' are its own. -/
def DrumAt (w : World) (d : Nat) (F : List Nat) (D : DS) : Prop :=
  ∃ bs bn cs cn lp lc, D.Ok ∧
    w.heap[d]? = some (.cells ⟨drumCells bs bn D.safe.length cs cn lp D.loose.length lc D⟩ T_drum_Drum (0, 0)) ∧
    Row w T_drum_sector 64 (some ⟨bs, 0, none⟩) D.safe.length cs (rows bcells D.safe) ∧
    Row w T_drum_sector 64 (some ⟨bn, 0, none⟩) D.safe.length cn (rows bcells D.now) ∧
    Row w T_drum_write 65 lp D.loose.length lc (rows wr1 D.loose) ∧
    F = d :: bs :: bn :: blkOf lp ∧ F.Nodup

theorem standL_len (safe : List (List UInt8)) (loose : List (Nat × List UInt8)) (sel : Nat → Bool) : (standL safe loose sel).length = safe.length := by
  unfold standL
  generalize loose.zipIdx = l
  induction l generalizing safe with
  | nil => rfl
  | cons x l ih => simp only [List.foldl_cons]; rw [ih]; split <;> simp
theorem DS.now_len (D : DS) : D.now.length = D.safe.length := standL_len _ _ _

theorem standL_all (safe : List (List UInt8)) (loose : List (Nat × List UInt8)) (sel : Nat → Bool) (h : ∀ s ∈ safe, s.length = 64) (hl : ∀ x ∈ loose, x.2.length = 64) :
    ∀ s ∈ standL safe loose sel, s.length = 64 := by
  unfold standL
  have hz : ∀ x ∈ loose.zipIdx, x.1.2.length = 64 := fun x hx => hl x.1 (by
    have := List.mem_zipIdx hx
    have h3 := this.2.2
    rw [h3]; exact List.getElem_mem _)
  generalize loose.zipIdx = l at hz
  induction l generalizing safe with
  | nil => exact h
  | cons x l ih =>
    simp only [List.foldl_cons]
    refine ih _ ?_ (fun y hy => hz y (by simp [hy]))
    split
    · intro s hs
      rcases List.mem_or_eq_of_mem_set hs with hs | rfl
      · exact h s hs
      · exact hz x (by simp)
    · exact h
theorem DS.Ok.now {D : DS} (h : D.Ok) : ∀ s ∈ D.now, s.length = 64 := standL_all _ _ _ h.safe (fun x hx => (h.loose x hx).2)

theorem even_bcells {L : List (List UInt8)} (h : ∀ s ∈ L, s.length = 64) : Even bcells 64 L := fun s hs => by rw [bcells_length]; exact h s hs
theorem even_wr1 {L : List (Nat × List UInt8)} (h : ∀ x ∈ L, x.2.length = 64) : Even wr1 65 L := fun x hx => by simp [bcells_length, h x hx]

/-- Another block of the drum's own has changed: what the drum's own block says. -/
theorem DrumAt.frame {w w' : World} {d : Nat} {F : List Nat} {D : DS} {S : Nat → Prop} (h : DrumAt w d F D) (hc : Chg S w w') (hS : ∀ b ∈ F, ¬ S b) : DrumAt w' d F D := by
  obtain ⟨bs, bn, cs, cn, lp, lc, ok, h1, h2, h3, h4, hF, hn⟩ := h
  refine ⟨bs, bn, cs, cn, lp, lc, ok, hc.heap h1 (hS _ (by simp [hF])), h2.chg hc ?_, h3.chg hc ?_, h4.chg hc ?_, hF, hn⟩
  · rintro a ⟨⟩; exact hS _ (by simp [hF])
  · rintro a ⟨⟩; exact hS _ (by simp [hF])
  · rintro a rfl; exact hS _ (by simp [hF, blkOf])
theorem DrumAt.lt {w : World} {d : Nat} {F : List Nat} {D : DS} (h : DrumAt w d F D) : ∀ b ∈ F, b < w.heap.size := by
  obtain ⟨bs, bn, cs, cn, lp, lc, ok, h1, h2, h3, h4, hF, hn⟩ := h
  intro b hb
  rw [hF] at hb
  simp only [List.mem_cons] at hb
  rcases hb with rfl | rfl | rfl | hb
  · exact lt_of_heap h1
  · exact h2.lt _ rfl
  · exact h3.lt _ rfl
  · cases lp with
    | none => simp [blkOf] at hb
    | some a => simp [blkOf] at hb; subst hb; exact h4.lt _ rfl
theorem DrumAt.ok {w : World} {d : Nat} {F : List Nat} {D : DS} (h : DrumAt w d F D) : D.Ok := by obtain ⟨_, _, _, _, _, _, ok, _⟩ := h; exact ok
theorem DrumAt.mem {w : World} {d : Nat} {F : List Nat} {D : DS} (h : DrumAt w d F D) : d ∈ F := by obtain ⟨_, _, _, _, _, _, _, _, _, _, _, hF, _⟩ := h; simp [hF]

/-- The own block alone was written. -/
theorem DrumAt.own {w w' : World} {d : Nat} {F : List Nat} {D D' : DS} {bs bn cs cn : Nat} {lp : Option Addr} {lc : Nat} (ok : D'.Ok)
    (h1 : w'.heap[d]? = some (.cells ⟨drumCells bs bn D.safe.length cs cn lp D.loose.length lc D'⟩ T_drum_Drum (0, 0)))
    (h2 : Row w T_drum_sector 64 (some ⟨bs, 0, none⟩) D.safe.length cs (rows bcells D.safe))
    (h3 : Row w T_drum_sector 64 (some ⟨bn, 0, none⟩) D.safe.length cn (rows bcells D.now))
    (h4 : Row w T_drum_write 65 lp D.loose.length lc (rows wr1 D.loose))
    (hF : F = d :: bs :: bn :: blkOf lp) (hn : F.Nodup) (hc : Chg (fun b => b = d) w w') (e1 : D'.safe = D.safe) (e2 : D'.loose = D.loose) : DrumAt w' d F D' := by
  subst hF
  simp only [List.nodup_cons, List.mem_cons, not_or] at hn
  obtain ⟨⟨n1, n2, n3⟩, ⟨n4, n5⟩, n6, n7⟩ := hn
  refine ⟨bs, bn, cs, cn, lp, lc, ok, ?_, ?_, ?_, ?_, rfl, ?_⟩
  · rw [e1, e2]; exact h1
  · rw [e1]; exact h2.chg hc (by rintro a ⟨⟩; exact Ne.symm n1)
  · have : D'.now = D.now := by simp [DS.now, e1, e2]
    rw [e1, this]; exact h3.chg hc (by rintro a ⟨⟩; exact Ne.symm n2)
  · rw [e2]; exact h4.chg hc (by rintro a rfl; simp [blkOf] at n3; exact Ne.symm n3)
  · simp only [List.nodup_cons, List.mem_cons, not_or]; exact ⟨⟨n1, n2, n3⟩, ⟨n4, n5⟩, n6, n7⟩

/-! ## step -/

theorem step_ok {w : World} {d : Nat} {F : List Nat} {D : DS} {J : Int → World → Prop} (h : DrumAt w d F D)
    (k : ∀ w', DrumAt w' d F D.step.1 → Chg (fun b => b = d) w w' → J D.step.2 w') :
    callJ Try.prog fn_drum_Drum_step #[.pointer (some ⟨d, 0, none⟩)] w [.one (.int .i64)] J := by
  obtain ⟨bs, bn, cs, cn, lp, lc, ok, h1, h2, h3, h4, hF, hn⟩ := h
  refine c_drum_Drum_step ?_
  unfold VC_drum_Drum_step
  dsimp only [nonNil]
  simp only [Addr.add_mk, Nat.zero_add]
  have H := (Hp.start w (fun b => b = d)).add h1 (by simp) (fun _ => rfl)
  refine withJ_i fun J1 hJ => ?_
  refine H.ldI 0 rfl (off := 4) rfl ?_
  have hfuse := ok.fuse
  have key : ∀ w1 D1, Hp w (fun b => b = d) w1 [⟨d, drumCells bs bn D.safe.length cs cn lp D.loose.length lc D1, T_drum_Drum⟩] → D1 = { D with down := D.down || decide (D.fuse = 0) } → J1 w1 := by
    intro w1 D1 H1 hD1
    subst hJ
    refine H1.ldB 0 rfl (off := 5) rfl ?_
    refine condB_i (fun hb => ?_) (fun hb => ?_)
    · have hs : D.step = (D1, 9) := by
        rw [hD1] at hb ⊢
        simp at hb
        have : D.fuse = 0 ∨ D.down = true := hb.symm
        simp only [DS.step, this, if_true]
        rcases hb with hb | hb <;> simp [hb]
      rw [hs] at k
      refine k _ ?_ H1.chg
      refine DrumAt.own (D := D) ?_ (H1.get 0 rfl) h2 h3 h4 hF hn H1.chg (by rw [hD1]) (by rw [hD1])
      rw [hD1]; exact ⟨ok.pos, ok.max, ok.safe, ok.loose, ok.count, ok.fuse⟩
    · rw [hD1] at hb
      simp at hb
      obtain ⟨hb1, hb2⟩ := hb
      have hD : D1 = D := by rw [hD1]; simp [hb2]
      subst hD
      refine H1.ldI 0 rfl (off := 3) rfl ?_
      refine H1.stV 0 rfl (off := 3) (by simp [drumCells]) fun w2 H2 _ => ?_
      refine withJ_i fun J2 hJ2 => ?_
      refine H2.ldI 0 rfl (off := 4) rfl ?_
      have hs : D1.step = ({ D1 with steps := w64 (D1.steps + 1), fuse := if 0 < D1.fuse then D1.fuse - 1 else D1.fuse }, 0) := by
        simp [DS.step, hb1, hb2]
      rw [hs] at k
      refine condB_d (fun hf => ?_) (fun hf => ?_)
      · refine H2.ldI 0 rfl (off := 4) rfl ?_
        refine H2.stV 0 rfl (off := 4) (by simp [drumCells]) fun w3 H3 _ => ?_
        subst hJ2
        have e1 : w64 (D1.fuse - 1) = D1.fuse - 1 := by obtain ⟨a, b⟩ := hfuse; exact w64_of (by omega) (by omega)
        refine k _ (DrumAt.own (D := D1) ⟨ok.pos, ok.max, ok.safe, ok.loose, ok.count, ?_⟩ ?_ h2 h3 h4 hF hn H3.chg rfl rfl) H3.chg
        · obtain ⟨a, b⟩ := hfuse; simp only [gt_iff_lt] at hf; simp only [hf, if_true]; constructor <;> omega
        · have := H3.get 0 rfl
          simp only [drumCells, List.set_cons_succ, List.set_cons_zero, e1] at this ⊢
          rw [this, if_pos hf]
      · subst hJ2
        refine k _ (DrumAt.own (D := D1) ⟨ok.pos, ok.max, ok.safe, ok.loose, ok.count, ?_⟩ ?_ h2 h3 h4 hF hn H2.chg rfl rfl) H2.chg
        · simp only [gt_iff_lt] at hf; simp only [hf, if_false]; exact ok.fuse
        · have := H2.get 0 rfl
          simp only [drumCells, List.set_cons_succ, List.set_cons_zero] at this ⊢
          rw [this, if_neg hf]
  refine condB_eq (fun hf => ?_) (fun hf => ?_)
  · refine H.stV 0 rfl (off := 5) (by simp [drumCells]) fun w2 H2 _ => ?_
    exact key w2 { D with down := true } H2 (by simp [hf])
  · exact key w D H (by simp [hf])

/-! ## The small ones -/

theorem Sectors_ok {w : World} {d : Nat} {F : List Nat} {D : DS} {J : Int → World → Prop} (h : DrumAt w d F D) (k : J (D.safe.length : Int) w) :
    callJ Try.prog fn_drum_Drum_Sectors #[.pointer (some ⟨d, 0, none⟩)] w [.one (.int .i64)] J := by
  obtain ⟨bs, bn, cs, cn, lp, lc, ok, h1, h2, h3, h4, hF, hn⟩ := h
  refine c_drum_Drum_Sectors ?_
  unfold VC_drum_Drum_Sectors
  dsimp only [nonNil, condB, Option.isNone]
  simp only [Addr.add_mk, Nat.zero_add]
  have H := (Hp.start w (fun b => b = d)).add h1 (by simp) (fun _ => rfl)
  exact H.ldS 0 rfl (off := 1) rfl k

/-- Of Fuse: the error, and the drum. -/
def DS.fuseTo (D : DS) (n : Int) : DS × Int := if n < 0 then (D, 1) else ({ D with fuse := n }, 0)

theorem Fuse_ok {w : World} {d : Nat} {F : List Nat} {D : DS} {n : Int} {J : Int → World → Prop} (h : DrumAt w d F D) (hn : InI n)
    (k : ∀ w', DrumAt w' d F (D.fuseTo n).1 → Chg (fun b => b = d) w w' → J (D.fuseTo n).2 w') :
    callJ Try.prog fn_drum_Drum_Fuse #[.pointer (some ⟨d, 0, none⟩), .int .i64 n] w [.one (.int .i64)] J := by
  have h' := h
  obtain ⟨bs, bn, cs, cn, lp, lc, ok, h1, h2, h3, h4, hF, hnd⟩ := h
  refine c_drum_Drum_Fuse ?_
  unfold VC_drum_Drum_Fuse
  dsimp only [nonNil, condB, Option.isNone]
  simp only [Addr.add_mk, Nat.zero_add]
  have H := (Hp.start w (fun b => b = d)).add h1 (by simp) (fun _ => rfl)
  refine condB_d (fun hb => ?_) (fun hb => ?_)
  · simp only [DS.fuseTo, hb, if_true] at k; exact k _ h' (Chg.refl _ _)
  · simp only [DS.fuseTo, hb, if_false] at k
    refine H.stV 0 rfl (off := 4) (by simp [drumCells]) fun w2 H2 _ => ?_
    exact k _ (DrumAt.own (D := D) ⟨ok.pos, ok.max, ok.safe, ok.loose, ok.count, hn⟩ (H2.get 0 rfl) h2 h3 h4 hF hnd H2.chg rfl rfl) H2.chg

/-! ## slices.Clone -/

def zsec : List UInt8 := List.replicate 64 0
def zeroSec : Array Value := ⟨bcells zsec⟩
theorem zsec_len : zsec.length = 64 := List.length_replicate
theorem slT_sector : SlT Try.prog T_sl_drum_sector T_drum_sector 64 64 zeroSec := SlT.of (by kernel_rfl) (by kernel_rfl) rfl (by decide)
theorem slT_write : SlT Try.prog T_sl_drum_write T_drum_write 65 72 ⟨.int .i64 0 :: List.replicate 64 (.int .u8 0)⟩ := SlT.of (by kernel_rfl) (by kernel_rfl) rfl (by decide)

theorem Clone_u8 {w : World} {p : Option Addr} {l c : Nat} {bs : List UInt8} {J : Option Addr → Nat → Nat → World → Prop} (h : Bytes w p l bs) (hp : p = none → l = 0) (hm : l ≤ 140737488355328)
    (k : ∀ p' c' w', Row w' T_uint8 1 p' l c' (bcells bs) → fresh w p' → Chg No w w' → J p' l c' w') :
    callJ Try.prog fn_slices_Clone_sl_byte_byte #[.slice p l c] w [.one .slice] J :=
  c_slices_Clone_sl_byte_byte (clone_cond slT_u8 h (one1_bcells bs) hp (by omega) (by simp only [maxLen]; omega) k)
theorem Clone_sector {w : World} {p : Option Addr} {l c : Nat} {L : List (List UInt8)} {J : Option Addr → Nat → Nat → World → Prop} (h : Sl w p l 64 (rows bcells L)) (hp : p = none → l = 0) (hm : l ≤ 1000000000)
    (k : ∀ p' c' w', Row w' T_drum_sector 64 p' l c' (rows bcells L) → fresh w p' → Chg No w w' → J p' l c' w') :
    callJ Try.prog fn_slices_Clone_sl_drum_sector_drum_sector #[.slice p l c] w [.one .slice] J :=
  c_slices_Clone_sl_drum_sector_drum_sector (clone_cond slT_sector h (one1_rows fun x _ => one1_bcells x) hp (by omega) (by simp only [maxLen]; omega) k)
theorem one1_wr1 (x : Nat × List UInt8) : one1 (wr1 x) := one1_cons rfl (one1_bcells _)
end Go.Proofs.Ytgplflecgnldeaa

