/-
  Chapter 13: 'DrumFuses'.
-/
import Derived.Test.YtfhmnodoahcmnaaAwake13
import Derived.Test.YtfhmnodoahcmnaaRef01
namespace Go.Proofs.Ytfhmnodoahcmnaa
open Go Go.Vc

/-- With a fuse of 'k', 'done' steps were done. -/
structure Fused (k : Int) (D : DS) (done : Int) : Prop where
  secs : D.safe.length = 8
  fuse : D.fuse = k - done
  steps : D.steps = done
  ge : 0 ≤ done
  le : done ≤ k
  down : D.down = true → done = k

theorem Fused.step {k : Int} {D : DS} {done : Int} (h : Fused k D done) (hk : k < 40) :
    (done < k ∧ D.step.2 = 0 ∧ Fused k D.step.1 (done + 1)) ∨ (done = k ∧ D.step.2 = 9 ∧ D.step.1.down = true ∧ Fused k D.step.1 done) := by
  obtain ⟨h1, h2, h3, h4, h5, h6⟩ := h
  by_cases hd : done = k
  · right
    have e : D.fuse = 0 ∨ D.down = true := .inl (by omega)
    rw [DS.step_bad e]
    exact ⟨hd, rfl, rfl, ⟨h1, h2, h3, h4, h5, fun _ => hd⟩⟩
  · left
    have hdn : ¬ D.down = true := fun h => hd (h6 h)
    have e : ¬ (D.fuse = 0 ∨ D.down = true) := by rintro (h | h); omega; exact hdn h
    have hf : 0 < D.fuse := by omega
    rw [DS.step_good e, if_pos hf]
    exact ⟨by omega, rfl, ⟨h1, by simp only; omega, by simp only; rw [h3, w64_of] <;> omega, by omega, by omega, fun h => absurd h hdn⟩⟩

/-- What an answer of a step of the script is, and what the drum is then. -/
def FusedAns (k : Int) (_ : DS) (done : Int) (D' : DS) (f : Int) : Prop :=
  ((f = 1 ∨ f = 6) ∧ Fused k D' done) ∨ (f = 0 ∧ done < k ∧ Fused k D' (done + 1)) ∨ (f = 9 ∧ done = k ∧ D'.down = true ∧ Fused k D' done)

theorem Fused.of {k : Int} {D D' : DS} {done : Int} (h : Fused k D done) (e1 : D'.safe.length = D.safe.length) (e2 : D'.fuse = D.fuse) (e3 : D'.steps = D.steps) (e4 : D'.down = D.down) : Fused k D' done :=
  ⟨e1.trans h.secs, e2.trans h.fuse, e3.trans h.steps, h.ge, h.le, fun hd => h.down (e4 ▸ hd)⟩

theorem Fused.read {k : Int} {D : DS} {done : Int} (h : Fused k D done) (hk : k < 40) (n : Int) : FusedAns k D done (D.read n).1 (D.read n).2.2 := by
  unfold DS.read
  split
  · exact .inl ⟨.inl rfl, h⟩
  · rcases h.step hk with ⟨a, b, c⟩ | ⟨a, b, c, d⟩
    · exact .inr (.inl ⟨b, a, c⟩)
    · exact .inr (.inr ⟨b, a, c, d⟩)
theorem Fused.write {k : Int} {D : DS} {done : Int} (h : Fused k D done) (hk : k < 40) (n : Int) (p : List UInt8) : FusedAns k D done (D.write n p).1 (D.write n p).2 := by
  unfold DS.write
  split
  · exact .inl ⟨.inl rfl, h⟩
  · split
    · exact .inl ⟨.inr rfl, h⟩
    · rcases h.step hk with ⟨a, b, c⟩ | ⟨a, b, c, d⟩
      · refine .inr (.inl ⟨b, a, ?_⟩)
        rw [if_pos b]
        exact c.of rfl rfl rfl rfl
      · refine .inr (.inr ⟨b, a, ?_⟩)
        rw [if_neg (by rw [b]; decide)]
        exact ⟨c, d⟩
theorem Fused.flush {k : Int} {D : DS} {done : Int} (h : Fused k D done) (hk : k < 40) : FusedAns k D done D.flush.1 D.flush.2 := by
  unfold DS.flush
  rcases h.step hk with ⟨a, b, c⟩ | ⟨a, b, c, d⟩
  · refine .inr (.inl ⟨b, a, ?_⟩)
    rw [if_pos b]
    refine c.of ?_ rfl rfl rfl
    simp only [DS.stand]; exact standL_len _ _ _
  · refine .inr (.inr ⟨b, a, ?_⟩)
    rw [if_neg (by rw [b]; decide)]
    exact ⟨c, d⟩

theorem DrumFuses_ok {w : World} {ops : SlV OpV} {n : Int} (hops : OpsOk w ops) (_ : InI n) :
    callJ Try.prog fn_law13_DrumFuses #[.slice ops.p ops.l ops.c, .int .i64 n] w [.one .bool] fun r w' => r = true ∧ Chg No w w' := by
  refine c_law13_DrumFuses ?_
  unfold VC_law13_DrumFuses
  obtain ⟨kk, hkk, hk0, hk1⟩ : ∃ kk : Int, w64 (Int.tmod (IntKind.u64.wrap n) 40) = kk ∧ 0 ≤ kk ∧ kk < 40 := by
    refine ⟨_, rfl, ?_⟩
    have h0 : 0 ≤ IntKind.u64.wrap n := by unfold IntKind.wrap; simp [IntKind.signed, IntKind.bits]; omega
    have h1 : Int.tmod (IntKind.u64.wrap n) 40 = IntKind.u64.wrap n % 40 := Int.tmod_eq_emod_of_nonneg h0
    rw [h1, w64_of] <;> omega
  rw [hkk]
  refine awake_ok fun w1 hc1 => ?_
  refine condB_i (fun h => by simp at h) fun _ => ?_
  refine New_own (by decide) (by decide) hc1 fun w2 d F h2 hc2 hf2 => ?_
  refine withJ_i fun J26 hJ26 => ?_
  subst hJ26
  refine condB_i (fun h => by simp at h) fun _ => condB_i (fun h => by simp at h) fun _ => ?_
  refine ⟨by decide, ?_⟩
  refine withJ_i fun J39 hJ39 => ?_
  have hD0 : (DS.new 8).safe.length = 8 := by simp [DS.new]
  have e1 : (DS.new 8).fuseTo kk = ({ DS.new 8 with fuse := kk }, 0) := by simp only [DS.fuseTo]; rw [if_neg (by omega)]
  refine Fuse_own h2 (by constructor <;> omega) fun w3 h3 hc3 => ?_
  rw [show (8 : Int).toNat = 8 from rfl] at h3 ⊢
  rw [e1] at h3 ⊢
  refine condB_ne (fun h => absurd rfl h) fun _ => ?_
  refine Fuse_own h3 (by constructor <;> decide) fun w4 h4 hc4 => ?_
  rw [show DS.fuseTo { DS.new 8 with fuse := kk } (-1) = ({ DS.new 8 with fuse := kk }, 1) from rfl] at h4 ⊢
  subst hJ39
  refine condB_ne (fun h => absurd rfl h) fun _ => ?_
  refine withJ_i fun J8 hJ8 => ?_
  -- behind the loop
  have last : ∀ done w' F' D, Fused kk D done → Own w w' d F' D → J8 done w' := by
    intro done w' F' D hD h'
    subst hJ8
    refine Steps_ok h'.at_ ?_
    rw [hD.steps]
    refine condB_ne (fun h => absurd rfl h) fun _ => ?_
    refine Crash_own (ks := []) h' (Sl.nil _ _ _) (by rintro a ⟨⟩) fun w5 F5 h5 _ _ => ?_
    refine Read_own h5 fun p6 c6 w6 h6 hr6 _ _ => ?_
    have hlen : (D.crash []).safe.length = 8 := by simp only [DS.crash, DS.stand]; rw [standL_len, hD.secs]
    have hst : (D.crash []).step = ({ D.crash [] with steps := w64 (done + 1) }, 0) := by
      simp only [DS.step, DS.crash, DS.stand, hD.steps]; simp
    have hrd : (D.crash []).read 0 = ({ D.crash [] with steps := w64 (done + 1) }, ((D.crash []).now[0]?).getD [], 0) := by
      simp only [DS.read, hst, hlen]; simp
    have h64 : (((D.crash []).now[0]?).getD []).length = 64 := by
      have hnl : 0 < (D.crash []).now.length := by rw [DS.now_len, hlen]; decide
      rw [List.getElem?_eq_getElem hnl]
      exact h5.at_.ok.now _ (List.getElem_mem _)
    refine withJ_i fun J4 hJ4 => ?_
    rw [hrd] at h6 ⊢
    dsimp only at h6 ⊢
    refine condB_eq (fun _ => ?_) (fun h => absurd rfl h)
    refine condB_eq (fun _ => ?_) (fun h => absurd rfl h)
    refine Down_ok h6.at_ ?_
    refine condB_i (fun _ => ?_) (fun h => by simp [DS.crash] at h)
    refine condB_eq (fun _ => ?_) (fun h => absurd (by rw [h64]; rfl) h)
    refine Steps_ok h6.at_ ?_
    subst hJ4
    simp only
    exact ⟨by simp, h6.chg⟩
  clear hJ8
  refine ⟨fun done x w' m => ∃ (i : Nat) (F' : List Nat) (D : DS), x = i ∧ i ≤ ops.l ∧ i ≤ 200 ∧ m = ops.l - i ∧ Fused kk D done ∧ Own w w' d F' D ∧ D.loose.length ≤ i,
    ⟨_, 0, F, { DS.new 8 with fuse := kk }, rfl, Nat.zero_le _, by decide, rfl, ⟨hD0, by simp, by simp [DS.new], by decide, hk0, by simp [DS.new]⟩, h4, by simp [DS.new]⟩, ?_⟩
  rintro done x w' m ⟨i, F', D, rfl, hi, hi2, rfl, hD, h', hlo⟩
  have hmx := hops.max
  have hcap := hops.cap
  simp only [maxLen] at hmx
  refine condB_d (fun hb => ?_) (fun hb => last _ _ _ _ hD h')
  refine withJ_i fun J81 hJ81 => ?_
  refine pickOp hops h'.chg (by omega) (by omega) fun o b w5 ho hok H5 hb5 hc5 => ?_
  have h5 := h'.step0 hc5
  have hlt5 : ∀ x ∈ F', x < b := fun x hx => Nat.lt_of_lt_of_le (h'.lt x hx) hb5
  refine condB_d (fun hx => last _ _ _ _ hD h5) (fun hx => ?_)
  have next : ∀ done' w'' F'' D'', Fused kk D'' done' → Own w w'' d F'' D'' → D''.loose.length ≤ i + 1 → J81 done' w'' := by
    intro done' w'' F'' D'' hD'' h'' hl''
    subst hJ81
    refine ⟨ops.l - (i + 1), by omega, i + 1, F'', D'', ?_, by omega, by omega, rfl, hD'', h'', by omega⟩
    rw [w64_of] <;> omega
  clear hJ81
  refine withJ_i fun J11 hJ11 => ?_
  have ans : ∀ f w'' F'' D'', FusedAns kk D done D'' f → Own w w'' d F'' D'' → D''.loose.length ≤ i + 1 → J11 f w'' := by
    intro f w'' F'' D'' hA h'' hl''
    subst hJ11
    refine withJ_i fun J78 hJ78 => ?_
    rcases hA with ⟨hf, hF⟩ | ⟨hf, hlt, hF⟩ | ⟨hf, heq, hdn, hF⟩
    · refine condB_eq (fun _ => ?_) (fun h => ?_)
      · subst hJ78; exact next _ _ _ _ hF h'' hl''
      · have : f = 6 := hf.resolve_left h
        subst this; subst hJ78
        exact next _ _ _ _ hF h'' hl''
    · subst hf
      refine condB_eq (fun h => by cases h) (fun _ => ?_)
      subst hJ78
      refine condB_eq (fun h => by cases h) (fun _ => ?_)
      refine withJ_i fun J97 hJ97 => ?_
      refine condB_i (fun h => by simp [hlt] at h) (fun _ => ?_)
      refine condB_ne (fun h => absurd rfl h) fun _ => ?_
      subst hJ97
      refine condB_i (fun h => by simp at h) (fun _ => ?_)
      refine condB_eq (fun _ => ?_) (fun h => absurd rfl h)
      rw [w64_of (by have := hD.ge; omega) (by have := hD.le; omega)]
      exact next _ _ _ _ hF h'' hl''
    · subst hf
      refine condB_eq (fun h => by cases h) (fun _ => ?_)
      subst hJ78
      refine condB_eq (fun h => by cases h) (fun _ => ?_)
      refine withJ_i fun J97 hJ97 => ?_
      refine condB_i (fun h => by simp [heq] at h) (fun _ => ?_)
      refine condB_ne (fun _ => ?_) (fun h => by cases h)
      refine condB_ne (fun h => absurd rfl h) (fun _ => ?_)
      refine Down_ok h''.at_ ?_
      rw [hdn]
      subst hJ97
      refine condB_i (fun h => by simp at h) (fun _ => ?_)
      refine condB_eq (fun h => by cases h) (fun _ => ?_)
      exact next _ _ _ _ hF h'' hl''
  clear hJ11
  refine H5.ldI 0 rfl (off := 0) rfl ?_
  refine condB_eq (fun _ => ?_) (fun _ => ?_)
  · refine H5.ldI 0 rfl (off := 1) rfl ?_
    refine Read_own h5 fun p6 c6 w6 h6 hr6 _ _ => ?_
    exact ans _ _ _ _ (hD.read hk1 _) h6 (by rw [DS.read_loose]; omega)
  refine condB_eq (fun _ => ?_) (fun _ => ?_)
  · refine H5.drew.ldI 0 rfl (off := 1) rfl ?_
    refine H5.drew.ldS 0 rfl (off := 2) rfl ?_
    have hcw : Chg No w w5.drew := h5.chg.drew
    refine Twin_ok (hok.p.is.chg hcw (off_no _)) hok.p.nil hok.p.fits fun p6 c6 w6 hr6 hf6 hc6 => ?_
    have H6 := H5.drew.step0 hc6
    refine ⟨H6.cell 0 rfl rfl, ?_⟩
    have h5d : Own w w5.drew d F' D := h5.step0 ((Chg.refl No w5).drew)
    have h6 := h5d.step0 hc6
    refine Write_own h6 hr6.bytes hr6.none0 (fresh_off hf6 h5d.lt) (by omega) fun w7 F7 h7 _ _ => ?_
    exact ans _ _ _ _ (hD.write hk1 _ _) h7 (by have := DS.write_loose D o.n o.p.bs; omega)
  refine condB_eq (fun _ => ?_) (fun _ => ?_)
  · refine Flush_own h5 fun w6 F6 h6 _ _ => ?_
    exact ans _ _ _ _ (hD.flush hk1) h6 (by have := DS.flush_loose D; omega)
  · exact next _ _ _ _ hD h5 (by omega)

end Go.Proofs.Ytfhmnodoahcmnaa
