/-
  Chapter 13: 'awake' of the statements; the nil drum.
-/
import Derived.Test.YtfhmnodoahcmnaaDrumC
import Derived.Test.YtfhmnodoahcmnaaVLaw13
import Derived.Test.YtfhmnodoahcmnaaRd13
namespace Go.Proofs.Ytfhmnodoahcmnaa
open Go Go.Vc

def awakeD : DS := (((((DS.new 2).write 0 [97]).1.flush.1.write 0 [98]).1.write 1 [99]).1.crash [false, true])

theorem awake_ok {w : World} {J : Bool → World → Prop} (k : ∀ w', Chg No w w' → J true w') : callJ Try.prog fn_law13_awake #[] w [.one .bool] J := by
  refine c_law13_awake ?_
  unfold VC_law13_awake
  refine New_own (by decide) (by decide) (Chg.refl _ _) fun w1 d F h1 hc1 hf1 => ?_
  refine withJ_i fun J19 hJ19 => ?_
  subst hJ19
  refine condB_i (fun h => by simp at h) fun _ => condB_i (fun h => by simp at h) fun _ => ?_
  refine litB (bs := [97]) rfl fun b2 w2 hb2 hn2 hc2 => ?_
  have h2 := h1.step0 hc2
  refine Write_own h2 hb2 (by simp) (fresh_off (w := w1) (by rintro a ⟨⟩; exact hn2) h1.lt) (by decide) fun w3 F3 h3 _ _ => ?_
  refine Flush_own h3 fun w4 F4 h4 _ _ => ?_
  refine litB (bs := [98]) rfl fun b5 w5 hb5 hn5 hc5 => ?_
  have h5 := h4.step0 hc5
  refine Write_own h5 hb5 (by simp) (fresh_off (w := w4) (by rintro a ⟨⟩; exact hn5) h4.lt) (by decide) fun w6 F6 h6 _ _ => ?_
  refine litB (bs := [99]) rfl fun b7 w7 hb7 hn7 hc7 => ?_
  have h7 := h6.step0 hc7
  refine Write_own h7 hb7 (by simp) (fresh_off (w := w6) (by rintro a ⟨⟩; exact hn7) h6.lt) (by decide) fun w8 F8 h8 _ _ => ?_
  refine newRow (sz := 1) (n := 2) rfl (by decide) fun b9 w9 hb9 hn9 hc9 => ?_
  have h9 := h8.step0 hc9
  refine Crash_own (ks := [false, true]) h9 hb9.sl (fresh_off (w := w8) (by rintro a ⟨⟩; exact hn9) h8.lt) fun w10 F10 h10 _ _ => ?_
  change Own w w10 d F10 awakeD at h10
  refine Read_own h10 fun p11 c11 w11 h11 hr11 hf11 hc11 => ?_
  refine Read_own h11 fun p12 c12 w12 h12 hr12 hf12 hc12 => ?_
  refine withJ_i fun J0 hJ0 => ?_
  have e1 : ((DS.new 2).write 0 [97]).2 = 0 := by kernel_rfl
  have e2 : ((DS.new 2).write 0 [97]).1.flush.2 = 0 := by kernel_rfl
  have e3 : (awakeD.read 0).2.2 = 0 := by kernel_rfl
  have e4 : ((awakeD.read 0).1.read 1).2.2 = 0 := by kernel_rfl
  have e5 : (awakeD.read 0).2.1.length = 64 := by kernel_rfl
  have e6 : (awakeD.read 0).2.1[0]? = some 97 := by kernel_rfl
  have e7 : ((awakeD.read 0).1.read 1).2.1.length = 64 := by kernel_rfl
  have e8 : ((awakeD.read 0).1.read 1).2.1[0]? = some 99 := by kernel_rfl
  have e9 : ((awakeD.read 0).1.read 1).1.steps = 6 := by kernel_rfl
  have hr11' := hr11.chg hc12 (fresh_off hf11 h10.lt)
  refine condB_eq (fun _ => ?_) (fun h => absurd e1 h)
  refine condB_eq (fun _ => ?_) (fun h => absurd e2 h)
  refine condB_eq (fun _ => ?_) (fun h => absurd rfl h)
  refine condB_eq (fun _ => ?_) (fun h => absurd e3 h)
  refine condB_eq (fun _ => ?_) (fun h => absurd e4 h)
  refine condB_eq (fun _ => ?_) (fun h => absurd (by rw [e5]; rfl) h)
  refine byte_i hr11'.bytes (by decide) (by rw [e5]; decide) fun b hb => ?_
  rw [show (0 : Int).toNat = 0 from rfl, e6] at hb
  cases hb
  refine condB_eq (fun _ => ?_) (fun h => absurd rfl h)
  refine condB_eq (fun _ => ?_) (fun h => absurd (by rw [e7]; rfl) h)
  refine byte_i hr12.bytes (by decide) (by rw [e7]; decide) fun b hb => ?_
  rw [show (0 : Int).toNat = 0 from rfl, e8] at hb
  cases hb
  refine condB_eq (fun _ => ?_) (fun h => absurd rfl h)
  refine Steps_ok h12.at_ ?_
  rw [e9]
  subst hJ0
  exact k _ h12.chg

/-! ## The nil drum -/
section
variable {w : World}
theorem Read_nil {n : Int} {J : Option Addr → Nat → Nat → Int → World → Prop} (k : J none 0 0 2 w) : callJ Try.prog fn_drum_Drum_Read #[.pointer none, .int .i64 n] w [.one .slice, .one (.int .i64)] J := c_drum_Drum_Read k
theorem Write_nil {n : Int} {p : Option Addr} {l c : Nat} {J : Int → World → Prop} (k : J 2 w) : callJ Try.prog fn_drum_Drum_Write #[.pointer none, .int .i64 n, .slice p l c] w [.one (.int .i64)] J := c_drum_Drum_Write k
theorem Flush_nil {J : Int → World → Prop} (k : J 2 w) : callJ Try.prog fn_drum_Drum_Flush #[.pointer none] w [.one (.int .i64)] J := c_drum_Drum_Flush k
theorem Fuse_nil {n : Int} {J : Int → World → Prop} (k : J 2 w) : callJ Try.prog fn_drum_Drum_Fuse #[.pointer none, .int .i64 n] w [.one (.int .i64)] J := c_drum_Drum_Fuse k
theorem Crash_nil {p : Option Addr} {l c : Nat} {J : Int → World → Prop} (k : J 2 w) : callJ Try.prog fn_drum_Drum_Crash #[.pointer none, .slice p l c] w [.one (.int .i64)] J := c_drum_Drum_Crash k
theorem Loose_nil {J : Int → World → Prop} (k : J 0 w) : callJ Try.prog fn_drum_Drum_Loose #[.pointer none] w [.one (.int .i64)] J := c_drum_Drum_Loose k
theorem Steps_nil {J : Int → World → Prop} (k : J 0 w) : callJ Try.prog fn_drum_Drum_Steps #[.pointer none] w [.one (.int .i64)] J := c_drum_Drum_Steps k
theorem Sectors_nil {J : Int → World → Prop} (k : J 0 w) : callJ Try.prog fn_drum_Drum_Sectors #[.pointer none] w [.one (.int .i64)] J := c_drum_Drum_Sectors k
theorem Down_nil {J : Bool → World → Prop} (k : J false w) : callJ Try.prog fn_drum_Drum_Down #[.pointer none] w [.one .bool] J := c_drum_Drum_Down k
theorem Clone_nil {J : Option Addr → World → Prop} (k : J none w) : callJ Try.prog fn_drum_Drum_Clone #[.pointer none] w [.one .ptr] J := c_drum_Drum_Clone k
end

theorem DrumNil_ok {w : World} {n : Int} {p : BV} {keep : SlV Bool} (_ : InI n) (_ : p.Ok w) (_ : keep.Ok w 1 1 (fun b => [.bool b]) (fun _ => True)) :
    callJ Try.prog fn_law13_DrumNil #[.int .i64 n, .slice p.p p.l p.c, .slice keep.p keep.l keep.c] w [.one .bool] fun r w' => r = true ∧ Chg No w w' := by
  refine c_law13_DrumNil ?_
  unfold VC_law13_DrumNil
  refine awake_ok fun w1 hc => ?_
  refine condB_i (fun h => by simp at h) fun _ => ?_
  refine Read_nil ?_
  refine withJ_i fun J6 hJ6 => ?_
  refine condB_eq (fun _ => ?_) (fun h => absurd rfl h)
  refine condB_eq (fun _ => ?_) (fun h => absurd rfl h)
  refine Write_nil (condB_eq (fun _ => ?_) (fun h => absurd rfl h))
  refine Flush_nil (condB_eq (fun _ => ?_) (fun h => absurd rfl h))
  refine Fuse_nil (condB_eq (fun _ => ?_) (fun h => absurd rfl h))
  refine Crash_nil (condB_eq (fun _ => ?_) (fun h => absurd rfl h))
  refine Loose_nil (Steps_nil (Sectors_nil (condB_eq (fun _ => ?_) (fun h => absurd (by decide) h))))
  refine Down_nil (condB_i (fun _ => ?_) (fun h => by simp at h))
  refine Clone_nil ?_
  subst hJ6
  exact ⟨rfl, hc⟩

end Go.Proofs.Ytfhmnodoahcmnaa
