/-
  strings.Replacer: made, built at the first use, and used.
-/
import Derived.Test.YtdjehimkijlhgaaDoorOnce
import Derived.Test.YtdjehimkijlhgaaDoorVRepl
import Derived.Test.YtdjehimkijlhgaaDoorHpx
import Derived.Test.YtdjehimkijlhgaaDoorScope
import Derived.Test.YtdjehimkijlhgaaDoorChrC
set_option linter.unusedVariables false
set_option linter.unusedSimpArgs false
namespace Go.Proofs.YtdjehimkijlhgaaDoor
open Go Go.Vc Go.Lib
theorem OnceDo_ok {w0 w : World} {S : Nat → Prop} {Γ : List Blk} {b : Nat} {rest : List Value} {e : TypeId} (H : Hp w0 S w (⟨b, .int .u32 0 :: .int .i32 0 :: rest, e⟩ :: Γ)) {J : World → Prop}
    (hb : ∀ w1, Hp w0 S w1 (⟨b, .int .u32 0 :: .int .i32 1 :: rest, e⟩ :: Γ) → callJ Tryd.prog fn_strings_Replacer_buildOnce #[.pointer (some ⟨b, 0, none⟩)] w1 [] fun w' => ∃ rest' Γ', Hp w0 S w' (⟨b, .int .u32 0 :: .int .i32 1 :: rest', e⟩ :: Γ') ∧ ∀ w'', Hp w0 S w'' (⟨b, .int .u32 1 :: .int .i32 0 :: rest', e⟩ :: Γ') → Chg (fun x => x = b) w' w'' → J w'') :
    callJ Tryd.prog fn_sync_Once_Do #[.pointer (some ⟨b, 0, none⟩), .func (.func 78) #[.pointer (some ⟨b, 0, none⟩)] #[]] w [] J := by
  refine c_sync_Once_Do ?_
  unfold VC_sync_Once_Do
  refine Calls.mono (loadM ⟨b, 0, none⟩ w (H.cell 0 rfl rfl)) fun e' w' he => ?_
  obtain ⟨rfl, rfl⟩ := he
  refine ⟨false, rfl, ?_⟩
  refine condB_i (fun _ => ?_) (fun h => by cases h)
  refine Calls.mono (doSlow_ok H (R := J) fun w1 H1 => ?_) fun e' w' he => he
  exact Calls.mono (hb w1 H1) fun e' w' he => he

theorem NewReplacer_ok {w : World} {p : Option Addr} {l c : Nat} {os : List ByteArray} {J : Option Addr → World → Prop} (h : Sl w p l 1 (strs os)) (hl : l % 2 = 0) (hm : l ≤ 1000) (h0 : l ≠ 0)
    (K : ∀ b bq rest q w', Hp w No w' [⟨b, [.int .u32 0, .int .i32 0, .int .u32 0, .nilIface, .slice (some ⟨bq, 0, none⟩) l q], T_strings_Replacer⟩, ⟨bq, strs os ++ rest, T_string⟩] → Fit (strs os) rest l q 1 → J (some ⟨b, 0, none⟩) w') :
    callJ Tryd.prog fn_strings_NewReplacer #[.slice p l c] w [.one .ptr] J := by
  refine c_strings_NewReplacer ?_
  unfold VC_strings_NewReplacer
  refine ⟨by decide, ?_⟩
  have hmod : (Int.tmod (l : Int) 2 == 1) = false := by
    have : Int.tmod (l : Int) 2 = ((l % 2 : Nat) : Int) := rfl
    rw [this, hl]; rfl
  rw [hmod]
  refine condB_i (fun h => by cases h) (fun _ => ?_)
  refine appJ_row slT_string (Row.nil w T_string 1) h (one1_strs _) (fun e => ?_) (by omega) (by simp only [maxLen]; omega) fun p' c' w' hr hc hf => ?_
  · obtain ⟨a, ha, _⟩ := h.at h0
    rw [e] at ha; cases ha
  rw [List.nil_append, Nat.zero_add] at *
  obtain ⟨bq, rest, rfl, hq, hF⟩ := hr.fit (fun e => by have := hr.none0 e; omega)
  have hfr : w.heap.size ≤ bq := by
    rcases hf with hf | hf
    · cases hf
    · exact hf ⟨bq, 0, none⟩ rfl
  have hc' : Chg No w w' := hc.mono fun b hb hS => by
    obtain ⟨z, hz, _⟩ := hS; cases hz
  have H1 : Hp w No w' [⟨bq, strs os ++ rest, T_string⟩] := (Hp.of_chg hc').add hq (by simp) (fun h => by omega)
  refine H1.newB fun b w'' H2 hb hc2 => ?_
  exact K b bq rest c' w'' H2 hF
end Go.Proofs.YtdjehimkijlhgaaDoor

/-
  (*strings.Replacer).Replace by hand: it builds at its first use, and calls the interface's method.
-/

set_option linter.unusedVariables false
set_option linter.unusedSimpArgs false
namespace Go.Proofs.YtdjehimkijlhgaaDoor
open Go Go.Vc Go.Lib
set_option maxRecDepth 100000 in
set_option maxHeartbeats 1600000 in
theorem Replace_hand {w : World} {b : Nat} {s : ByteArray} {R : Ending → World → Prop}
    (h1 : Calls Tryd.prog 77 #[.pointer (some ⟨b, 0, none⟩), .func (.func 78) #[.pointer (some ⟨b, 0, none⟩)] #[]] w fun e w1 => e = .returned (.tuple #[]) ∧ ∃ bB, w1.cell? ⟨b, 3, none⟩ = some (.iface T_ptr_strings_byteStringReplacer (.pointer (some ⟨bB, 0, none⟩))) ∧
      Calls Tryd.prog 187 #[.pointer (some ⟨bB, 0, none⟩), .string s] w1 fun e w2 => ∃ r, e = .returned (.string r) ∧ R (.returned (.string r)) w2) :
    Calls Tryd.prog 53 #[.pointer (some ⟨b, 0, none⟩), .string s] w R := by
  have hm : ∀ (bB : Nat) (w : World), Sem.run Tryd.prog (method 359 T_ptr_strings_byteStringReplacer (Value.pointer (some ⟨bB, 0, none⟩)) "Replace") w = .ok (187, Value.pointer (some ⟨bB, 0, none⟩)) w := fun bB w => by kernel_rfl
  go_enter Tryd.func53, Tryd.ntmps53
  go_wp2_with (first
    | (go_at_call 77; refine h1.mono ?_; rintro e w1 ⟨rfl, bB, hc, h2⟩)
    | (go_at_call 187; refine h2.mono ?_; rintro e w2 ⟨r, rfl, hR⟩))
  exact hR
end Go.Proofs.YtdjehimkijlhgaaDoor

/-
  (*strings.Replacer).build, of single bytes and texts that are not all single bytes: the table of texts.
-/

set_option linter.unusedVariables false
set_option linter.unusedSimpArgs false
namespace Go.Vc
open Go Go.Lib
/-- A byte and what stands for it. -/
abbrev BP := UInt8 × List UInt8
def lookT (ps : List BP) (c : UInt8) : Option (List UInt8) := (ps.find? fun p => decide (p.1 = c)).map Prod.snd
def olds (ps : List BP) : List ByteArray := ps.flatMap fun p => [mkB [p.1], mkB p.2]
theorem olds_length (ps : List BP) : (olds ps).length = 2 * ps.length := by
  induction ps with
  | nil => rfl
  | cons p ps ih => unfold olds at *; simp only [List.flatMap_cons, List.length_append, ih, List.length_cons, List.length_nil]; omega
theorem olds_even : ∀ {ps : List BP} {j : Nat} {p : BP}, ps[j]? = some p → (olds ps)[2 * j]? = some (mkB [p.1]) ∧ (olds ps)[2 * j + 1]? = some (mkB p.2)
  | [], _, _, h => by simp at h
  | q :: ps, 0, p, h => by simp at h; subst h; exact ⟨rfl, rfl⟩
  | q :: ps, j + 1, p, h => by
    rw [List.getElem?_cons_succ] at h
    obtain ⟨a, b⟩ := olds_even h
    have e : olds (q :: ps) = mkB [q.1] :: mkB q.2 :: olds ps := rfl
    rw [e, show 2 * (j + 1) = 2 * j + 1 + 1 from by omega, List.getElem?_cons_succ, List.getElem?_cons_succ, List.getElem?_cons_succ, List.getElem?_cons_succ]
    exact ⟨a, b⟩
theorem lookT_cons (p : BP) (ps : List BP) (c : UInt8) : lookT (p :: ps) c = if p.1 = c then some p.2 else lookT ps c := by
  unfold lookT
  rw [List.find?_cons]
  by_cases h : p.1 = c
  · rw [decide_eq_true h, if_pos h]; rfl
  · rw [decide_eq_false h, if_neg h]
/-- A cell of the table. -/
def TCell (w : World) (v : Value) (o : Option (List UInt8)) : Prop := match o with
  | none => v = .slice none 0 0
  | some bs => ∃ a l c, v = .slice (some a) l c ∧ Bytes w (some a) l bs ∧ l = bs.length ∧ ∃ e, typ w a.block = some e ∧ e = 5
theorem TCell.chg {w w' : World} {S : Nat → Prop} {v : Value} {o : Option (List UInt8)} (h : TCell w v o) (hc : Chg S w w') (hn : ∀ b, S b → typ w b ≠ some 5) : TCell w' v o := by
  unfold TCell at *
  cases o with
  | none => exact h
  | some bs =>
    obtain ⟨a, l, c, h1, h2, h3, e, h4, rfl⟩ := h
    have hna : ¬ S a.block := fun hS => hn _ hS h4
    exact ⟨a, l, c, h1, h2.chg hc (fun x hx => by cases hx; exact hna), h3, _, typ_chg hc h4 hna, rfl⟩
theorem single_size (b : UInt8) : (mkB [b]).size = 1 := rfl
end Go.Vc
namespace Go.Proofs.YtdjehimkijlhgaaDoor
open Go Go.Vc Go.Lib
section
variable {w : World}
theorem cvB2 {s : ByteArray} {K : Option Addr → Nat → Nat → World → Prop} (k : ∀ b c w', Bytes w' (some ⟨b, 0, none⟩) s.size (bl s) → typ w' b = some T_uint8 → w.heap.size ≤ b → Chg No w w' → K (some ⟨b, 0, none⟩) s.size c w') :
    cvJ Tryd.prog T_string T_sl_uint8 (.string s) w K := by
  refine ⟨_, _, _, _, Lib.run_convert_string_bytes (P := Tryd.prog) w T_string T_sl_uint8 T_uint8 s (u := .string) (by kernel_rfl) (by kernel_rfl) (by kernel_rfl), k _ _ _ ⟨by rw [bcells_length, bl_len, Nat.mul_one], .inr ⟨_, rfl, ?_⟩⟩ ?_ (Nat.le_refl _) ?_⟩
  · intro j v hv
    unfold bcells at hv
    rw [List.getElem?_map, Option.map_eq_some_iff] at hv
    obtain ⟨b, hb, rfl⟩ := hv
    have hj : j < s.size := by rw [← bl_len]; exact (List.getElem?_eq_some_iff.1 hb).1
    have := Lib.bytesWorld_cell w T_uint8 s j hj
    rw [Addr.add_mk, Nat.zero_add, this, List.getD_eq_getElem?_getD, hb]; rfl
  · unfold typ; rw [Lib.bytesWorld_at_new]
  · exact ⟨rfl, rfl, rfl, by rw [Lib.bytesWorld_size]; omega, fun b hb _ => Lib.bytesWorld_at_old w T_uint8 s b hb⟩
theorem zeroC_bsr : zeroC Tryd.prog T_strings_byteStringReplacer = ⟨List.replicate 257 (.slice none 0 0)⟩ := by kernel_rfl
/-- The table as it lies there. -/
structure Table (w : World) (ps : List BP) (C : List Value) (ks : List UInt8) : Prop where
  len : C.length = 256
  cell : ∀ (c : UInt8) v, C[c.toNat]? = some v → TCell w v (lookT ps c)
  keys : ∀ c, c ∈ ks ↔ lookT ps c ≠ none
  nd : ks.Nodup
  le : ks.length ≤ ps.length
theorem Table.chg {w w' : World} {ps : List BP} {C : List Value} {ks : List UInt8} {S : Nat → Prop} (h : Table w ps C ks) (hc : Chg S w w') (hn : ∀ b, S b → typ w b ≠ some 5) : Table w' ps C ks :=
  ⟨h.len, fun c v hv => (h.cell c v hv).chg hc hn, h.keys, h.nd, h.le⟩
def singles (ks : List UInt8) : List ByteArray := ks.map fun k => mkB [k]
set_option maxRecDepth 100000 in
theorem build_ok {ps : List BP} {b bq q : Nat} {rest : List Value} {rb0 rb1 rb2 rb3 : Value} {J : Value → World → Prop} {w0 : World}
    (H : Hp w0 No w [⟨b, [rb0, rb1, rb2, rb3, .slice (some ⟨bq, 0, none⟩) (2 * ps.length) q], T_strings_Replacer⟩, ⟨bq, strs (olds ps) ++ rest, T_string⟩]) (F : Fit (strs (olds ps)) rest (2 * ps.length) q 1)
    (h2 : 2 ≤ ps.length) (hm : ps.length ≤ 100) (h1 : ∀ p, ps[0]? = some p → p.2.length ≠ 1) (hs : ∀ p ∈ ps, p.2.length ≤ 100)
    (K : ∀ bB bt C ks rt tc w', Hp w0 No w' [⟨bB, C ++ [.slice (some ⟨bt, 0, none⟩) ks.length tc], T_strings_byteStringReplacer⟩, ⟨bt, strs (singles ks) ++ rt, T_string⟩, ⟨b, [rb0, rb1, rb2, rb3, .slice (some ⟨bq, 0, none⟩) (2 * ps.length) q], T_strings_Replacer⟩, ⟨bq, strs (olds ps) ++ rest, T_string⟩] → Fit (strs (singles ks)) rt ks.length tc 1 → Table w' ps C ks → J (.iface T_ptr_strings_byteStringReplacer (.pointer (some ⟨bB, 0, none⟩))) w') :
    callJ Tryd.prog fn_strings_Replacer_build #[.pointer (some ⟨b, 0, none⟩)] w [.one .val] J := by
  refine c_strings_Replacer_build ?_
  unfold VC_strings_Replacer_build
  rw [zeroC_bsr]
  refine H.ldS 0 rfl (off := 4) rfl ?_
  refine withJ_i fun J28 hJ28 => ?_
  have hgo : J28 false w := by
    subst hJ28
    refine condB_i (fun h => by cases h) (fun _ => ?_)
    refine ⟨fun flag i w' t => ∃ j : Nat, i = ((2 * j : Nat) : Int) ∧ j ≤ ps.length ∧ t = ps.length - j ∧ w' = w ∧ (j = 0 ∨ flag = false), ⟨_, 0, rfl, Nat.zero_le _, rfl, rfl, .inl rfl⟩, ?_⟩
    rintro flag i w3 t ⟨j, rfl, hj, ht, rfl, hfl⟩
    refine condB_d (fun hlt => ?_) (fun hge => ?_)
    · have hjl : j < ps.length := by omega
      obtain ⟨o1, o2⟩ := olds_even (List.getElem?_eq_getElem hjl)
      refine withJ_i fun J4 hJ4 => ?_
      have k4 : ∀ fl, (fl = false) → J4 fl w3 := by
        intro fl hfl'; subst hJ4
        exact ⟨_, by omega, j + 1, by rw [w64_of] <;> omega, by omega, rfl, rfl, .inr hfl'⟩
      clear hJ4
      refine str_i (H.slAt 1 rfl F) (by omega) (by omega) fun s1 hs1 => ?_
      rw [Int.toNat_natCast, o1] at hs1
      obtain rfl := Option.some.inj hs1
      refine condB_ne (fun h => absurd (by rw [single_size]; rfl) h) fun _ => ?_
      have e1 : w64 (((2 * j : Nat) : Int) + 1) = ((2 * j + 1 : Nat) : Int) := by rw [w64_of] <;> omega
      rw [e1]
      refine str_i (H.slAt 1 rfl F) (by omega) (by omega) fun s2 hs2 => ?_
      rw [Int.toNat_natCast, o2] at hs2
      obtain rfl := Option.some.inj hs2
      refine condB_ne (fun _ => k4 false rfl) fun he => ?_
      rcases hfl with rfl | rfl
      · exfalso
        refine h1 _ (List.getElem?_eq_getElem hjl) ?_
        have : (mkB ps[0].2).size = ps[0].2.length := by rw [← bl_len, bl_mkB]
        omega
      · exact k4 false rfl
    · have hjn : j = ps.length := by omega
      rcases hfl with rfl | rfl
      · omega
      refine condB_i (fun h => by cases h) (fun _ => ⟨by decide, ?_⟩)
      have ediv : w64 (Int.tdiv (((2 * ps.length : Nat) : Int)) 2) = ((ps.length : Nat) : Int) := by
        have : Int.tdiv (((2 * ps.length : Nat) : Int)) 2 = ((2 * ps.length / 2 : Nat) : Int) := rfl
        rw [this, w64_of] <;> omega
      rw [ediv]
      refine H.mkS (z := zeroC Tryd.prog T_string) (by rw [zeroC_string]; rfl) (by decide) (by omega) (by omega) (by omega) fun b94 w12 H12 hb94 hc12 => ?_
      refine H12.newB fun b11 w13 H13 hb11 hc13 => ?_
      refine H13.stN (n := 257) (vs := List.replicate 256 (.slice none 0 0) ++ [.slice (some ⟨b94, 0, none⟩) 0 ps.length]) 0 rfl (off := 0) rfl (by simp) ?_ fun w14 H14 hc14 => ?_
      · intro v hv
        rcases List.mem_append.1 hv with h | h
        · rw [(List.mem_replicate.1 h).2]; rfl
        · rw [List.mem_singleton.1 h]; rfl
      simp only [List.set_cons_zero] at H14
      rw [splice_all (by simp)] at H14
      -- the table grows from its end
      refine ⟨fun i w' t => ∃ (j bt : Nat) (C : List Value) (ks : List UInt8) (rt : List Value) (tc : Nat), i = (2 * j : Nat) - 2 ∧ j ≤ ps.length ∧ t = j ∧ Hp w0 No w' [⟨b11, C ++ [.slice (some ⟨bt, 0, none⟩) ks.length tc], T_strings_byteStringReplacer⟩, ⟨bt, strs (singles ks) ++ rt, T_string⟩, ⟨b, [rb0, rb1, rb2, rb3, .slice (some ⟨bq, 0, none⟩) (2 * ps.length) q], T_strings_Replacer⟩, ⟨bq, strs (olds ps) ++ rest, T_string⟩] ∧ Fit (strs (singles ks)) rt ks.length tc 1 ∧ Table w' (ps.drop j) C ks,
        ⟨_, ps.length, b94, List.replicate 256 (.slice none 0 0), [], (List.replicate (ps.length : Int).toNat (zeroC Tryd.prog T_string).toList).flatten, ps.length, ?_, Nat.le_refl _, rfl, H14, ?_, ?_⟩, ?_⟩
      · rw [w64_of] <;> omega
      · refine ⟨rfl, Nat.zero_le _, by simp only [maxLen]; omega, ?_⟩
        rw [zeroC_string]
        simp [strs, singles]
      · rw [List.drop_length]
        refine ⟨by simp, fun c v hv => ?_, by simp [lookT], List.nodup_nil, Nat.zero_le _⟩
        have := List.mem_of_getElem? hv
        rw [(List.mem_replicate.1 this).2]; rfl
      rintro i w15 t ⟨j, bt, C, ks, rt, tc, rfl, hj, ht, H15, F15, T15⟩
      refine condB_d (fun hge2 => ?_) (fun hlt => ?_)
      · have hjl : j - 1 < ps.length := by omega
        obtain ⟨o1, o2⟩ := olds_even (List.getElem?_eq_getElem hjl)
        generalize hp : ps[j - 1] = kv at o1 o2
        have hdrop : ps.drop (j - 1) = kv :: ps.drop j := by
          rw [List.drop_eq_getElem_cons hjl, hp, show j - 1 + 1 = j from by omega]
        have hvs : kv.2.length ≤ 100 := hs kv (hp ▸ List.getElem_mem hjl)
        have ei : ((2 * j : Nat) : Int) - 2 = ((2 * (j - 1) : Nat) : Int) := by omega
        rw [ei]
        refine str_i (H15.slAt 3 rfl F) (by omega) (by omega) fun s1 hs1 => ?_
        rw [Int.toNat_natCast, o1] at hs1
        obtain rfl := Option.some.inj hs1
        refine ⟨kv.1, by decide, rfl, ?_⟩
        have e1 : w64 (((2 * (j - 1) : Nat) : Int) + 1) = ((2 * (j - 1) + 1 : Nat) : Int) := by rw [w64_of] <;> omega
        rw [e1]
        refine str_i (H15.slAt 3 rfl F) (by omega) (by omega) fun s2 hs2 => ?_
        rw [Int.toNat_natCast, o2] at hs2
        obtain rfl := Option.some.inj hs2
        have hk := kv.1.toNat_lt
        refine withJ_i fun J0 hJ0 => ?_
        have k0 : ∀ bt' ks' rt' tc' w16, Hp w0 No w16 [⟨b11, C ++ [.slice (some ⟨bt', 0, none⟩) ks'.length tc'], T_strings_byteStringReplacer⟩, ⟨bt', strs (singles ks') ++ rt', T_string⟩, ⟨b, [rb0, rb1, rb2, rb3, .slice (some ⟨bq, 0, none⟩) (2 * ps.length) q], T_strings_Replacer⟩, ⟨bq, strs (olds ps) ++ rest, T_string⟩] → Fit (strs (singles ks')) rt' ks'.length tc' 1 → (∀ (c : UInt8) v, C[c.toNat]? = some v → TCell w16 v (lookT (ps.drop j) c)) → (∀ c, c ∈ ks' ↔ lookT (ps.drop (j - 1)) c ≠ none) → ks'.Nodup → ks'.length ≤ (ps.drop (j - 1)).length → J0 w16 := by
          intro bt' ks' rt' tc' w16 g1 g2 g3 g4 g5 g6; subst hJ0
          refine cvB2 fun bv cv w17 hbv htv hbv2 hc17 => ?_
          have H17 := g1.step0 hc17
          refine ⟨by omega, by omega, ?_⟩
          simp only [nonNil, Addr.add_mk, Int.toNat_natCast]
          refine H17.stV 0 rfl (off := 0 + kv.1.toNat * 1) (by have := T15.len; simp; omega) fun w18 H18 hc18 => ?_
          have eset : (C ++ [Value.slice (some ⟨bt', 0, none⟩) ks'.length tc']).set (0 + kv.1.toNat * 1) (.slice (some ⟨bv, 0, none⟩) (mkB kv.2).size cv) = C.set kv.1.toNat (.slice (some ⟨bv, 0, none⟩) (mkB kv.2).size cv) ++ [Value.slice (some ⟨bt', 0, none⟩) ks'.length tc'] := by
            rw [Nat.zero_add, Nat.mul_one, List.set_append_left _ _ (by have := T15.len; omega)]
          simp only [List.set_cons_zero] at H18
          rw [eset] at H18
          have hn18 : ∀ x, x = b11 → typ w17 x ≠ some 5 := by
            rintro x rfl h
            rw [typ_of (H17.get 0 rfl)] at h
            exact absurd h (by decide)
          refine ⟨_, by omega, j - 1, bt', _, ks', rt', tc', by rw [w64_of] <;> omega, by omega, rfl, H18, g2, ⟨by rw [List.length_set]; exact T15.len, fun c v hv => ?_, g4, g5, g6⟩⟩
          rw [hdrop, lookT_cons]
          by_cases hc : kv.1 = c
          · rw [if_pos hc]
            subst hc
            rw [List.getElem?_set_self (by have := T15.len; omega)] at hv
            obtain rfl := Option.some.inj hv
            have hsz : (mkB kv.2).size = kv.2.length := by rw [← bl_len, bl_mkB]
            rw [bl_mkB] at hbv
            exact TCell.chg (o := some kv.2) ⟨_, _, _, rfl, hbv, hsz, _, htv, rfl⟩ hc18 hn18
          · rw [if_neg hc]
            have hne : kv.1.toNat ≠ c.toNat := fun e => hc (UInt8.toNat_inj.1 e)
            rw [List.getElem?_set_ne hne] at hv
            exact ((g3 c v hv).chg hc17 (fun _ h => h.elim)).chg hc18 hn18
        clear hJ0
        have hCk : kv.1.toNat < C.length := by have := T15.len; omega
        have hcell := T15.cell kv.1 _ (List.getElem?_eq_getElem hCk)
        refine ⟨by omega, by omega, ?_⟩
        simp only [nonNil, Addr.add_mk, Int.toNat_natCast]
        have hget : (C ++ [Value.slice (some ⟨bt, 0, none⟩) ks.length tc])[0 + kv.1.toNat * 1]? = some C[kv.1.toNat] := by
          rw [Nat.zero_add, Nat.mul_one, List.getElem?_append_left hCk, List.getElem?_eq_getElem hCk]
        have hlk : ∀ c, lookT (ps.drop (j - 1)) c ≠ none ↔ kv.1 = c ∨ lookT (ps.drop j) c ≠ none := by
          intro c
          rw [hdrop, lookT_cons]
          by_cases hc : kv.1 = c
          · rw [if_pos hc]; simp [hc]
          · rw [if_neg hc]; simp [hc]
        have hdl : (ps.drop (j - 1)).length = (ps.drop j).length + 1 := by rw [hdrop]; rfl
        cases hlook : lookT (ps.drop j) kv.1 with
        | some bs =>
          rw [hlook] at hcell
          obtain ⟨a, l, c, hv, _⟩ := hcell
          rw [hv] at hget
          refine H15.ldS 0 rfl (off := 0 + kv.1.toNat * 1) hget ?_
          refine condB_i (fun h => by cases h) (fun _ => ?_)
          refine k0 bt ks rt tc w15 H15 F15 T15.cell (fun c => ?_) T15.nd (by rw [hdl]; have := T15.le; omega)
          rw [T15.keys, hlk]
          exact ⟨.inr, fun h => by
            rcases h with rfl | h
            · rw [hlook]; simp
            · exact h⟩
        | none =>
          rw [hlook] at hcell
          have hv : C[kv.1.toNat] = .slice none 0 0 := hcell
          rw [hv] at hget
          refine H15.ldS 0 rfl (off := 0 + kv.1.toNat * 1) hget ?_
          refine condB_i (fun _ => ?_) (fun h => by cases h)
          have h256 : (C ++ [Value.slice (some ⟨bt, 0, none⟩) ks.length tc])[256]? = some (.slice (some ⟨bt, 0, none⟩) ks.length tc) := by
            rw [List.getElem?_append_right (by rw [T15.len]; omega), T15.len]; rfl
          refine H15.ldS 0 rfl (off := 256) h256 ?_
          refine newRow (e := T_uint8) (cs := bcells [kv.1]) (sz := 1) (n := 1) rfl (by decide) fun b121 w19 hr19 _ hc19 => ?_
          refine bytesOf_i hr19.bytes ?_
          refine newRow (e := T_string) (cs := strs [mkB [kv.1]]) (sz := 1) (n := 1) rfl (by decide) fun b123 w20 hr20 _ hc20 => ?_
          have H20 := (H15.step0 hc19).step0 hc20
          have T20 := (T15.chg hc19 (fun _ h => h.elim)).chg hc20 (fun _ h => h.elim)
          have hkl := T15.le
          have hpl : (ps.drop j).length ≤ ps.length := by rw [List.length_drop]; omega
          refine H20.appG slT_string 1 rfl F15 hr20.sl (one1_strs _) (by simp) (by omega) (by simp only [maxLen]; omega) fun b' rest' c' w21 H21 F21 _ hc21 => ?_
          have T21 := T20.chg hc21 (by
            rintro x rfl h
            rw [typ_of (H20.get 1 rfl)] at h
            exact absurd h (by decide))
          refine H21.stV 0 rfl (off := 256) (by have := T15.len; simp; omega) fun w22 H22 hc22 => ?_
          have T22 := T21.chg hc22 (by
            rintro x rfl h
            rw [typ_of (H21.get 0 rfl)] at h
            exact absurd h (by decide))
          have eset : (C ++ [Value.slice (some ⟨bt, 0, none⟩) ks.length tc]).set 256 (.slice (some ⟨b', 0, none⟩) (ks.length + 1) c') = C ++ [Value.slice (some ⟨b', 0, none⟩) (ks.length + 1) c'] := by
            rw [List.set_append_right _ _ (by rw [T15.len]; omega), T15.len]; rfl
          have esing : strs (singles ks) ++ strs [mkB [kv.1]] = strs (singles (ks ++ [kv.1])) := by simp [strs, singles]
          simp only [List.set_cons_zero, List.set_cons_succ] at H22
          rw [eset, esing] at H22
          rw [esing] at F21
          have elen : (ks ++ [kv.1]).length = ks.length + 1 := by simp
          rw [← elen] at H22 F21
          refine k0 b' (ks ++ [kv.1]) rest' c' w22 H22 F21 T22.cell (fun c => ?_) ?_ (by rw [hdl, elen]; omega)
          · rw [hlk, ← T15.keys, List.mem_append, List.mem_singleton]
            exact ⟨fun h => h.elim .inr (fun e => .inl e.symm), fun h => h.elim (fun e => .inr e.symm) .inl⟩
          · refine List.nodup_append.2 ⟨T15.nd, by simp, fun x hx y hy e => ?_⟩
            rw [List.mem_singleton.1 hy] at e
            subst e
            exact (T15.keys _).1 hx hlook
      · have hj0 : j = 0 := by omega
        subst hj0
        rw [List.drop_zero] at T15
        exact K b11 bt C ks rt tc w15 H15 F15 T15
  refine condB_i (fun h => ?_) (fun _ => hgo)
  simp at h; omega
end
end Go.Proofs.YtdjehimkijlhgaaDoor

