/-
  Package drum: New, Read, Write, Flush, Crash, Clone.
-/
import Derived.Test.YtgplflecgnldeaaDrum
namespace Go.Proofs.Ytgplflecgnldeaa
open Go Go.Vc

theorem zeroC_sector : zeroC Try.prog T_drum_sector = zeroSec := by kernel_rfl
theorem zeroC_write : zeroC Try.prog T_drum_write = ⟨.int .i64 0 :: bcells zsec⟩ := by kernel_rfl

def DS.new (n : Nat) : DS := ⟨List.replicate n zsec, [], 0, -1, false⟩

theorem rows_zero (n : Nat) : (List.replicate n zeroSec.toList).flatten = rows bcells (List.replicate n zsec) := by
  unfold rows
  rw [List.flatMap_def, List.map_replicate]; rfl

theorem New_ok {w : World} {n : Int} {J : Option Addr → Int → World → Prop} (h1 : 1 ≤ n) (h2 : n ≤ 16384)
    (k : ∀ w' d F, DrumAt w' d F (DS.new n.toNat) → Chg No w w' → (∀ b ∈ F, w.heap.size ≤ b) → J (some ⟨d, 0, none⟩) 0 w') :
    callJ Try.prog fn_drum_New #[.int .i64 n] w [.one .ptr, .one (.int .i64)] J := by
  have ok : (DS.new n.toNat).Ok := by
    refine ⟨by simp [DS.new]; omega, by simp [DS.new]; omega, ?_, by simp [DS.new], by simp [DS.new], by constructor <;> simp [DS.new]⟩
    intro s hs
    simp only [DS.new, List.mem_replicate] at hs
    rw [hs.2]; exact zsec_len
  have fin : ∀ w3 w0, w0 = w.drew → ∀ bs bn bd, Hp w0 No w3 [⟨bd, [.slice (some ⟨bs, 0, none⟩) n.toNat n.toNat, .slice (some ⟨bn, 0, none⟩) n.toNat n.toNat, .slice none 0 0, .int .i64 0, .int .i64 (-1), .bool false], T_drum_Drum⟩, ⟨bn, (List.replicate n.toNat zeroSec.toList).flatten, T_drum_sector⟩, ⟨bs, (List.replicate n.toNat zeroSec.toList).flatten, T_drum_sector⟩] →
      J (some ⟨bd, 0, none⟩) 0 w3 := by
    rintro w3 w0 rfl bs bn bd H
    have hl : (List.replicate n.toNat zsec).length = n.toNat := by simp
    have hE : Even bcells 64 (List.replicate n.toNat zsec) := even_bcells ok.safe
    have hr := rows_len hE
    refine k w3 bd [bd, bs, bn] ⟨bs, bn, n.toNat, n.toNat, none, 0, ok, ?_, ?_, ?_, ?_, rfl, ?_⟩ ?_ ?_
    · have := H.get 0 rfl
      simpa [drumCells, DS.new] using this
    · refine H.asRow 2 rfl (rest := []) ?_ ?_ ?_ ?_ ?_
      · rw [rows_zero]; simp [DS.new]
      · rw [DS.new]; simpa using hr
      · simp [DS.new]
      · simp only [maxLen]; omega
      · rw [rows_zero, hr, hl]
    · refine H.asRow 1 rfl (rest := []) ?_ ?_ ?_ ?_ ?_
      · rw [rows_zero]; simp [DS.new, DS.now, standL]
      · simp [DS.new, DS.now, standL, hr]
      · simp [DS.new]
      · simp only [maxLen]; omega
      · rw [rows_zero, hr, hl]
    · exact Row.nil _ _ _
    · have := H.nd
      simp only [List.map_cons, List.map_nil, List.nodup_cons, List.mem_cons, List.not_mem_nil, or_false, not_or] at this
      simp only [List.nodup_cons, List.mem_cons, List.not_mem_nil, or_false, not_or]
      obtain ⟨⟨a, b⟩, c, _⟩ := this
      exact ⟨⟨b, a⟩, Ne.symm c, by simp⟩
    · have := H.chg
      exact ⟨this.os, this.tape, this.output, this.size, this.keep⟩
    · intro b hb
      simp only [List.mem_cons, List.not_mem_nil, or_false] at hb
      rcases hb with rfl | rfl | rfl
      · exact H.fresh 0 rfl id
      · exact H.fresh 2 rfl id
      · exact H.fresh 1 rfl id
  refine c_drum_New ?_
  unfold VC_drum_New
  rw [zeroC_sector]
  refine withJ_i fun J9 hJ9 => ?_
  refine condB_d (fun hb => absurd hb (by omega)) (fun _ => ?_)
  subst hJ9
  refine condB_d (fun hb => absurd hb (by omega)) (fun _ => ?_)
  refine ⟨?_, ?_⟩
  · refine (Hp.start w.drew No).mkS (by decide) (by omega) (by omega) (by omega) (by omega) fun b1 w1 H1 _ _ => ?_
    refine H1.mkS (by decide) (by omega) (by omega) (by omega) (by omega) fun b2 w2 H2 _ _ => ?_
    refine H2.newB fun b3 w3 H3 _ _ => ?_
    exact fin w3 _ rfl _ _ _ H3
  · refine (Hp.start w.drew No).mkS (by decide) (by omega) (by omega) (by omega) (by omega) fun b1 w1 H1 _ _ => ?_
    refine H1.mkS (by decide) (by omega) (by omega) (by omega) (by omega) fun b2 w2 H2 _ _ => ?_
    refine H2.newB fun b3 w3 H3 _ _ => ?_
    refine fin w3 _ rfl b2 b1 _ ⟨H3.chg, fun p hp => H3.is p ?_, ?_, fun p hp => H3.own p ?_⟩
    · simp only [List.mem_cons, List.not_mem_nil, or_false] at hp ⊢; rcases hp with hp | hp | hp <;> simp [hp]
    · have := H3.nd
      simp only [List.map_cons, List.map_nil, List.nodup_cons, List.mem_cons, List.not_mem_nil, or_false, not_or] at this ⊢
      obtain ⟨⟨a, b⟩, c, _⟩ := this
      exact ⟨⟨b, a⟩, Ne.symm c, by simp⟩
    · simp only [List.mem_cons, List.not_mem_nil, or_false] at hp ⊢; rcases hp with hp | hp | hp <;> simp [hp]

theorem New_bad {w : World} {n : Int} {J : Option Addr → Int → World → Prop} (h1 : n < 1 ∨ 16384 < n) (k : J none 1 w) :
    callJ Try.prog fn_drum_New #[.int .i64 n] w [.one .ptr, .one (.int .i64)] J := by
  refine c_drum_New ?_
  unfold VC_drum_New
  refine withJ_i fun J9 hJ9 => ?_
  subst hJ9
  refine condB_d (fun hb => k) (fun h => ?_)
  refine condB_d (fun hb => k) (fun _ => ?_)
  omega

/-! ## Read and Write -/

theorem DS.step_bad {D : DS} (h : D.fuse = 0 ∨ D.down = true) : D.step = ({ D with down := true }, 9) := by unfold DS.step; rw [if_pos h]
theorem DS.step_good {D : DS} (h : ¬ (D.fuse = 0 ∨ D.down = true)) : D.step = ({ D with steps := w64 (D.steps + 1), fuse := if 0 < D.fuse then D.fuse - 1 else D.fuse }, 0) := by unfold DS.step; rw [if_neg h]
theorem DS.step_safe (D : DS) : D.step.1.safe = D.safe := by unfold DS.step; split <;> rfl
theorem DS.step_loose (D : DS) : D.step.1.loose = D.loose := by unfold DS.step; split <;> rfl
theorem DS.step_now (D : DS) : D.step.1.now = D.now := by simp only [DS.now, DS.step_safe, DS.step_loose]
theorem DS.step_ans (D : DS) : D.step.2 = 0 ∨ D.step.2 = 9 := by unfold DS.step; split <;> simp

def DS.read (D : DS) (n : Int) : DS × List UInt8 × Int :=
  if n < 0 ∨ (D.safe.length : Int) ≤ n then (D, [], 1) else (D.step.1, if D.step.2 = 0 then (D.now[n.toNat]?).getD [] else [], D.step.2)
def DS.write (D : DS) (n : Int) (p : List UInt8) : DS × Int :=
  if n < 0 ∨ (D.safe.length : Int) ≤ n then (D, 1) else if 64 < p.length then (D, 6) else
  (if D.step.2 = 0 then { D.step.1 with loose := D.loose ++ [(n.toNat, pad p)] } else D.step.1, D.step.2)

theorem Read_ok {w : World} {d : Nat} {F : List Nat} {D : DS} {n : Int} {J : Option Addr → Nat → Nat → Int → World → Prop} (h : DrumAt w d F D)
    (k : ∀ p c w', DrumAt w' d F (D.read n).1 → Row w' T_uint8 1 p (D.read n).2.1.length c (bcells (D.read n).2.1) → fresh w p → Chg (fun b => b = d) w w' → J p (D.read n).2.1.length c (D.read n).2.2 w') :
    callJ Try.prog fn_drum_Drum_Read #[.pointer (some ⟨d, 0, none⟩), .int .i64 n] w [.one .slice, .one (.int .i64)] J := by
  refine c_drum_Drum_Read ?_
  unfold VC_drum_Drum_Read
  dsimp only [nonNil, condB, Option.isNone]
  simp only [Addr.add_mk, Nat.zero_add]
  have bad : n < 0 ∨ (D.safe.length : Int) ≤ n → J none 0 0 1 w := fun hb => by
    have e : D.read n = (D, [], 1) := by simp only [DS.read, hb, if_true]
    rw [e] at k
    exact k none 0 w h (Row.nil _ _ _) (by rintro a ⟨⟩) (Chg.refl _ _)
  have good : ¬ (n < 0 ∨ (D.safe.length : Int) ≤ n) → callJ Try.prog fn_drum_Drum_step #[.pointer (some ⟨d, 0, none⟩)] w [.one (.int .i64)] fun (r21 : Int) (w2 : World) =>
      condB (r21 != (0 : Int)) (J none 0 0 r21 w2) (
      ldS w2 ⟨d, 1, none⟩ fun x28p x28l _ =>
      idxA x28p x28l n fun a30 =>
      slS (some ((a30.add (n.toNat * 64)))) 64 64 1 none none none fun q31p q31l q31c =>
      callJ Try.prog fn_slices_Clone_sl_byte_byte #[.slice q31p q31l q31c] w2 [.one .slice] fun (r32p : Option Addr) (r32l : Nat) (r32c : Nat) (w3 : World) =>
      J r32p r32l r32c (0 : Int) w3) := fun hb => by
    have e : D.read n = (D.step.1, if D.step.2 = 0 then (D.now[n.toNat]?).getD [] else [], D.step.2) := by simp only [DS.read, hb, if_false]
    rw [e] at k
    dsimp only at k
    refine step_ok h fun w2 h2 hc2 => ?_
    refine condB_ne (fun hne => ?_) (fun he => ?_)
    · rw [if_neg hne] at k
      exact k none 0 w2 h2 (Row.nil _ _ _) (by rintro a ⟨⟩) hc2
    · rw [he, if_pos rfl] at k
      obtain ⟨bs, bn, cs, cn, lp, lc, ok, g1, g2, g3, g4, hF, hn⟩ := id h2
      have H := (Hp.start w2 (fun b => b = d)).add g1 (by simp) (fun _ => rfl)
      refine H.ldS 0 rfl (off := 1) rfl ?_
      have hlen : D.now.length = D.safe.length := D.now_len
      refine idx_rows g3.sl (even_bcells ok.now) (by decide) (by omega) (by rw [DS.step_safe]; omega) fun a x ha hx hc => ?_
      rw [DS.step_now] at hx
      rw [hx] at k
      have hx64 : x.length = 64 := by
        have := ok.now; rw [DS.step_now] at this
        exact this x (List.mem_of_getElem? hx)
      refine ⟨0, 64, 64, rfl, rfl, rfl, by decide, by decide, by decide, ?_⟩
      simp only [Nat.zero_mul, Nat.sub_zero]
      cases ha
      simp only [Addr.add_mk, Nat.zero_add] at hc ⊢
      refine Clone_u8 (bs := x) ⟨by rw [bcells_length]; omega, .inr ⟨_, rfl, ?_⟩⟩ (by simp) (by decide) fun p' c' w' hr hf hcw => ?_
      · simpa [Addr.add_mk] using hc
      · simp only [Option.getD_some, hx64] at k
        exact k _ _ _ (h2.frame hcw (fun _ _ => id)) hr (fun a ha => Nat.le_trans hc2.size (hf a ha)) (hc2.trans0 hcw)
  refine withJ_i fun J1 hJ => ?_
  refine condB_d (fun hb => ?_) (fun hb => ?_)
  · subst hJ; exact bad (.inl hb)
  · obtain ⟨bs, bn, cs, cn, lp, lc, ok, h1, h2, h3, h4, hF, hnd⟩ := id h
    have H := (Hp.start w (fun b => b = d)).add h1 (by simp) (fun _ => rfl)
    refine H.ldS 0 rfl (off := 1) rfl ?_
    subst hJ
    refine condB_d (fun hb2 => bad (.inr hb2)) (fun hb2 => good (by omega))

theorem pad_len {p : List UInt8} (h : p.length ≤ 64) : (pad p).length = 64 := by simp [pad]; omega
theorem pad_cells {p : List UInt8} (h : p.length ≤ 64) : splice (bcells zsec) 0 ((bcells p).take (min p.length 64)) = bcells (pad p) := by
  have e : (bcells p).take (min p.length 64) = bcells p := List.take_of_length_le (by rw [bcells_length]; omega)
  rw [e]
  simp only [splice, List.take_zero, List.nil_append, Nat.zero_add, bcells_length]
  simp only [bcells, pad, zsec, List.map_append, List.map_replicate, List.drop_replicate]

theorem standL_snoc (safe : List (List UInt8)) (loose : List (Nat × List UInt8)) (x : Nat × List UInt8) : standL safe (loose ++ [x]) (fun _ => true) = (standL safe loose fun _ => true).set x.1 x.2 := by
  simp [standL, List.zipIdx_append]

theorem Write_ok {w : World} {d : Nat} {F : List Nat} {D : DS} {n : Int} {p : Option Addr} {l c : Nat} {bs : List UInt8} {J : Int → World → Prop} (h : DrumAt w d F D)
    (hb : Bytes w p l bs) (hp : p = none → l = 0) (hoff : off p (· ∈ F)) (hcount : D.loose.length < 1000000000)
    (k : ∀ w' F', DrumAt w' d F' (D.write n bs).1 → Chg (· ∈ F) w w' → (∀ b ∈ F', b ∈ F ∨ w.heap.size ≤ b) → J (D.write n bs).2 w') :
    callJ Try.prog fn_drum_Drum_Write #[.pointer (some ⟨d, 0, none⟩), .int .i64 n, .slice p l c] w [.one (.int .i64)] J := by
  have hl := hb.len
  have same : ∀ b ∈ F, b ∈ F ∨ w.heap.size ≤ b := fun b hb => .inl hb
  refine c_drum_Drum_Write ?_
  unfold VC_drum_Drum_Write
  rw [zeroC_sector]
  dsimp only [nonNil]
  simp only [Addr.add_mk, Nat.zero_add]
  refine condB_i (fun hb => by simp at hb) (fun _ => ?_)
  refine withJ_i fun J1 hJ => ?_
  have bad : n < 0 ∨ (D.safe.length : Int) ≤ n → J 1 w := fun hb => by
    have e : D.write n bs = (D, 1) := by simp only [DS.write, hb, if_true]
    rw [e] at k
    exact k w F h (Chg.refl _ _) same
  have good : ¬ (n < 0 ∨ (D.safe.length : Int) ≤ n) → J1 false w := fun hb' => by
    subst hJ
    dsimp only [condB]
    refine condB_d (fun h6 => ?_) (fun h6 => ?_)
    · have e : D.write n bs = (D, 6) := by simp only [DS.write, hb', if_false]; rw [if_pos (by omega)]
      rw [e] at k
      exact k w F h (Chg.refl _ _) same
    · have e : D.write n bs = (if D.step.2 = 0 then { D.step.1 with loose := D.loose ++ [(n.toNat, pad bs)] } else D.step.1, D.step.2) := by
        simp only [DS.write, hb', if_false]; rw [if_neg (by omega)]
      rw [e] at k
      dsimp only at k
      refine step_ok h fun w2 h2 hc2 => ?_
      have hc2' : Chg (· ∈ F) w w2 := hc2.mono fun b _ hb => by subst hb; exact h.mem
      refine condB_ne (fun hne => ?_) (fun he => ?_)
      · rw [if_neg hne] at k
        exact k w2 F h2 hc2' same
      · rw [he, if_pos rfl] at k
        obtain ⟨bsf, bn, cs, cn, lp, lc, ok, g1, g2, g3, g4, hF, hn⟩ := id h2
        have hnd := hn
        rw [hF] at hnd
        simp only [List.nodup_cons, List.mem_cons, not_or] at hnd
        obtain ⟨⟨n1, n2, n3⟩, ⟨n4, n5⟩, n6, n7⟩ := hnd
        rw [DS.step_safe, DS.step_loose] at g1
        rw [DS.step_safe] at g2
        rw [DS.step_safe, DS.step_now] at g3
        rw [DS.step_loose] at g4
        have oknow : ∀ s ∈ D.now, s.length = 64 := by have := ok.now; rwa [DS.step_now] at this
        have hlen : D.now.length = D.safe.length := D.now_len
        -- the block of what stands now
        obtain ⟨bb, rest, hbb, gn, hle, hmax, hcells⟩ := g3.some0 (by omega)
        have hbb' : bn = bb := by cases hbb; rfl
        subst hbb'
        have hE := even_bcells oknow
        have hr := rows_len hE
        have HG : Hp w2 (fun b => b = d ∨ b = bn) w2 [⟨bn, rows bcells D.now ++ rest, T_drum_sector⟩, ⟨d, drumCells bsf bn D.safe.length cs cn lp D.loose.length lc D.step.1, T_drum_Drum⟩] :=
          ((Hp.start w2 _).add g1 (by simp) (fun _ => .inl rfl)).add gn (by simpa using n2) (fun _ => .inr rfl)
        refine HG.newB fun b8 w3 H3 hb8 hc3 => ?_
        refine slS_all (by decide) ?_
        have hsrc : Bytes w3 p l bs := (hb.chg hc2' hoff).chg hc3 (off_no _)
        refine H3.cpy 0 rfl slT_u8 hsrc hp (one1_bcells bs) (by simp [bcells_length, zsec_len]; omega) fun w4 H4 hc4 => ?_
        have e4 : splice (bcells zsec) 0 ((bcells bs).take (min l 64)) = bcells (pad bs) := by rw [← hl]; exact pad_cells (by omega)
        rw [e4] at H4
        simp only [List.set_cons_zero] at H4
        have H4' := H4.drew
        refine H4'.ldS 2 rfl (off := 1) rfl ?_
        have hpl : (bcells (pad bs)).length = 64 := by rw [bcells_length]; exact pad_len (by omega)
        refine H4'.ldN 0 rfl (off := 0) (by omega) ?_
        rw [List.drop_zero, List.take_of_length_le (Nat.le_of_eq hpl)]
        refine idxA_i (by omega) (by omega) ?_
        rw [Addr.add_mk, Nat.zero_add]
        have hn64 : n.toNat * 64 + 64 ≤ (rows bcells D.now).length := by rw [hr]; omega
        refine H4'.stN 1 rfl (off := n.toNat * 64) hpl (by simp only [List.length_append]; omega) (one1_bcells _) fun w5 H5 hc5 => ?_
        rw [splice_append (by omega), rows_splice hE (by omega) hpl] at H5
        simp only [List.set_cons_succ, List.set_cons_zero] at H5
        have H5' := H5.drew
        refine H5'.ldS 2 rfl (off := 2) rfl ?_
        refine H5'.ldN 0 rfl (off := 0) (by omega) ?_
        rw [List.drop_zero, List.take_of_length_le (Nat.le_of_eq hpl)]
        refine ⟨hpl, by simp [hpl], ?_⟩
        refine H5'.newB fun b51 w6 H6 hb51 hc6 => ?_
        refine ⟨H6.cell 3 rfl rfl, ?_⟩
        have hnews : (Value.int .i64 n :: bcells (pad bs)) = rows wr1 [(n.toNat, pad bs)] := by
          rw [rows_cons, rows_nil, List.append_nil]; congr 2; simp; omega
        have hrow6 : Row w6 T_drum_write 65 (some ⟨b51, 0, none⟩) 1 1 (rows wr1 [(n.toNat, pad bs)]) := H6.asRow 0 rfl (rest := []) (by rw [← hnews]; simp) (by rw [← hnews]; simp [hpl]) (Nat.le_refl _) (by decide) (by simp [hpl])
        have hlrow : Row w6 T_drum_write 65 lp D.loose.length lc (rows wr1 D.loose) := by
          refine g4.chg H6.chg ?_
          rintro a rfl
          simp only [blkOf, List.mem_singleton] at n3 n6
          rintro (h | h)
          · exact n3 h.symm
          · exact n6 h.symm
        refine appJ_row slT_write hlrow hrow6.sl (one1_rows fun x _ => one1_wr1 x) (by simp) (by omega) (by simp only [maxLen]; omega) fun p' c' w7 hr7 hc7 hf7 => ?_
        have hlb : ∀ b, isB lp b → b ∈ blkOf lp := by rintro b ⟨a, rfl, rfl⟩; simp [blkOf]
        have hlt2 : ∀ b, isB lp b → b < w2.heap.size := by rintro b ⟨a, rfl, rfl⟩; exact g4.lt _ rfl
        have H7 := (H6.mono (S' := fun b => b = d ∨ b = bn ∨ isB lp b) (fun b _ hb => hb.elim .inl fun h => .inr (.inl h))).step hc7 (by
          intro q hq hs
          have hm := hlb _ hs
          have hlt := hlt2 _ hs
          simp only [List.mem_cons, List.not_mem_nil, or_false] at hq
          rcases hq with rfl | rfl | rfl | rfl
          · have := H5'.chg.size; simp only at hlt; omega
          · simp only at hlt; omega
          · exact n6 hm
          · exact n3 hm) (fun b _ hb => .inr (.inr hb))
        refine H7.stV 3 rfl (off := 2) (by simp [drumCells]) fun w8 H8 hc8 => ?_
        have hp7 : ∀ a, p' = some a → (a.block ∈ blkOf lp ∨ w2.heap.size ≤ a.block) := by
          intro a ha
          rcases hf7 with rfl | hf7
          · left; subst ha; simp [blkOf]
          · right; exact Nat.le_trans H6.chg.size (hf7 a ha)
        have hne7 : ∀ a, p' = some a → a.block ≠ d ∧ a.block ≠ bsf ∧ a.block ≠ bn := by
          intro a ha
          have l1 := lt_of_heap g1
          have l2 := g2.lt _ rfl
          have l3 := g3.lt _ rfl
          simp only at l2 l3
          rcases hp7 a ha with h | h
          · refine ⟨?_, ?_, ?_⟩
            · intro e; rw [e] at h; exact n3 h
            · intro e; rw [e] at h; exact n5 h
            · intro e; rw [e] at h; exact n6 h
          · refine ⟨?_, ?_, ?_⟩ <;> omega
        have hchg8 : Chg (· ∈ F) w2 w8 := H8.chg.mono fun b _ hb => by
          rw [hF]
          rcases hb with rfl | rfl | hb
          · simp
          · simp
          · simp [hlb _ hb]
        refine k w8 (d :: bsf :: bn :: blkOf p') ⟨bsf, bn, cs, cn, p', c', ?_, ?_, ?_, ?_, ?_, rfl, ?_⟩ (hc2'.trans hchg8 fun _ _ => id) ?_
        · refine ⟨ok.pos, ok.max, ok.safe, ?_, by simp; omega, ok.fuse⟩
          have hsl : D.step.1.safe.length = D.safe.length := by rw [DS.step_safe]
          intro x hx
          rcases List.mem_append.1 hx with hx | hx
          · exact ok.loose x (by rw [DS.step_loose]; exact hx)
          · simp only [List.mem_singleton] at hx; subst hx; exact ⟨by simp only; omega, pad_len (by omega)⟩
        · have := H8.get 3 rfl
          simp only [List.set_cons_succ, List.set_cons_zero, drumCells] at this ⊢
          rw [this]; simp only [DS.step_safe, List.length_append, List.length_singleton]
        · simp only [DS.step_safe]
          refine g2.chg H8.chg ?_
          rintro a ⟨⟩ (h | h | h)
          · exact n1 h.symm
          · exact n4 h
          · exact n5 (hlb _ h)
        · have hnow : DS.now { D.step.1 with loose := D.loose ++ [(n.toNat, pad bs)] } = D.now.set n.toNat (pad bs) := by
            simp only [DS.now, DS.step_safe]; exact standL_snoc _ _ _
          have := H8.asRow 2 rfl (sz := 64) (l := D.safe.length) (c := cn) (xs := rows bcells (D.now.set n.toNat (pad bs))) (rest := rest) rfl
            (by rw [rows_len (hE.set hpl _), List.length_set, hlen]) hle hmax (by rw [← hcells, List.length_append, List.length_append, rows_len (hE.set hpl _), hr, List.length_set])
          rw [hnow]; simp only [DS.step_safe]; exact this
        · simp only [List.length_append, List.length_singleton, rows_append]
          refine hr7.chg hc8 ?_
          intro a ha h
          exact (hne7 a ha).1 h
        · simp only [List.nodup_cons, List.mem_cons, not_or]
          have hm : ∀ b, b ∈ blkOf p' → ∃ a, p' = some a ∧ a.block = b := by
            intro b hb
            cases p' with
            | none => simp [blkOf] at hb
            | some a => simp [blkOf] at hb; exact ⟨a, rfl, hb.symm⟩
          refine ⟨⟨n1, n2, ?_⟩, ⟨n4, ?_⟩, ?_, ?_⟩
          · intro hb; obtain ⟨a, ha, rfl⟩ := hm _ hb; exact (hne7 a ha).1 rfl
          · intro hb; obtain ⟨a, ha, rfl⟩ := hm _ hb; exact (hne7 a ha).2.1 rfl
          · intro hb; obtain ⟨a, ha, rfl⟩ := hm _ hb; exact (hne7 a ha).2.2 rfl
          · cases p' <;> simp [blkOf]
        · intro b hb
          rw [hF]
          simp only [List.mem_cons] at hb ⊢
          rcases hb with h | h | h | h
          · simp [h]
          · simp [h]
          · simp [h]
          · cases p' with
            | none => simp [blkOf] at h
            | some a =>
              simp only [blkOf, List.mem_singleton] at h
              subst h
              rcases hp7 a rfl with h | h
              · left; simp [h]
              · right; exact Nat.le_trans hc2.size h
  refine condB_d (fun hb => ?_) (fun hb => ?_)
  · subst hJ; exact bad (.inl hb)
  · obtain ⟨bs, bn, cs, cn, lp, lc, ok, h1, h2, h3, h4, hF, hnd⟩ := id h
    have H := (Hp.start w (fun b => b = d)).add h1 (by simp) (fun _ => rfl)
    refine H.ldS 0 rfl (off := 1) rfl ?_
    by_cases hb2 : n ≥ (D.safe.length : Int)
    · rw [decide_eq_true hb2]; subst hJ; exact bad (.inr hb2)
    · rw [decide_eq_false hb2]; exact good (by omega)

end Go.Proofs.Ytgplflecgnldeaa

