/-
  Packages num and tape.Sum; bytes.Equal; small words on rows of bytes.
-/
import Derived.Test.YtgplflecgnldeaaVNum
import Derived.Test.YtgplflecgnldeaaBase
import Derived.Test.YtgplflecgnldeaaCrc
namespace Go.Vc
open Go Go.RowKit

/-- append where there is room, in a block known whole. -/
theorem Hp.app {w0 w : World} {S : Nat → Prop} {Γ : List Blk} {b : Nat} {cs : List Value} {e : TypeId} {P : Program} (H : Hp w0 S w Γ) (i : Nat) (hi : Γ[i]? = some ⟨b, cs, e⟩) {t : TypeId} {sz by_ : Nat} {z : Array Value} (T : SlT P t e sz by_ z) {l c m c2 : Nat} {q : Option Addr} {news : List Value} {K : Option Addr → Nat → Nat → World → Prop}
    (src : Sl w q m sz news) (hq : q = none → m = 0) (h1 : one1 news) (hlen : cs.length = c * sz) (room : l + m ≤ c)
    (k : ∀ w', Hp w0 S w' (Γ.set i ⟨b, splice cs (l * sz) news, e⟩) → Chg (fun x => x = b) w w' → K (some ⟨b, 0, none⟩) (l + m) c w') :
    appJ P t t (.slice (some ⟨b, 0, none⟩) l c) (.slice q m c2) w K := by
  obtain ⟨ti, v, hti, hz, hsz, hby, hv⟩ := T.info
  have hh := H.get i hi
  cases q with
  | none =>
    have h0 := hq rfl
    subst h0
    have hn : news = [] := List.eq_nil_of_length_eq_zero (by simpa using src.1)
    subst hn
    have hle : l ≤ c := by omega
    refine ⟨some ⟨b, 0, none⟩, l + 0, c, w, fun ty => ?_, ?_⟩
    · simp [Builtin.append_, run_underlying T.hu, sizeOf, typeInfo, hti, Builtin.lenOf, Builtin.firstCells, hle, storeCells]
    · have hk := k (w.setRow b ⟨splice cs (l * sz) []⟩) (H.row i hi _) (chg_setRow _ _ _)
      have e2 : splice cs (l * sz) ([] : List Value) = cs := by simp [splice]
      rw [e2, setRow_self w b ⟨cs⟩ e (0, 0) hh] at hk
      exact hk
  | some ad =>
    have hnews : ∀ j u, news[j]? = some u → w.cell? (ad.add j) = some u := by
      rcases src.2 with h0 | ⟨a, ha, hc⟩
      · intro j u hu
        have hn : news = [] := List.eq_nil_of_length_eq_zero (by have := src.1; rw [h0] at this; simpa using this)
        subst hn; simp at hu
      · cases ha; exact hc
    subst hsz
    have hroomr := fun ty => run_append_room (P := P) w t ty e ti T.hu hti b l c ⟨cs⟩ hh ad m c2 news src.1 hnews h1 room (by
      rw [src.1, ← Nat.add_mul]; simp only [List.size_toArray]; rw [hlen]; exact Nat.mul_le_mul_right _ room)
    refine ⟨some ⟨b, 0, none⟩, l + m, c, _, hroomr, ?_⟩
    have := k (w.setRow b ⟨splice cs (l * ti.size) news⟩) (H.row i hi _) (chg_setRow _ _ _)
    simpa [splice] using this

end Go.Vc
namespace Go.Proofs.Ytgplflecgnldeaa
open Go Go.Vc

section
variable {w : World}

/-! ## num -/

theorem Put_row {p : Option Addr} {l c n k : Nat} {xs : List Value} {J : Option Addr → Nat → Nat → World → Prop} (h : Row w T_uint8 1 p l c xs) (hk : k ≤ 8) (hm : l + k ≤ 140737488355328)
    (K : ∀ p' c' w', Row w' T_uint8 1 p' (l + k) c' (xs ++ bcells (be k n)) → Chg (isB p) w w' → (p' = p ∨ fresh w p') → J p' (l + k) c' w') :
    callJ Try.prog fn_num_Put #[.slice p l c, .int .u64 (n : Int), .int .i64 (k : Int)] w [.one .slice] J := by
  refine c_num_Put ?_
  unfold VC_num_Put
  refine ⟨fun q m d x w' t => ∃ (i : Nat) (ys : List UInt8), x = (i : Int) - 1 ∧ i ≤ k ∧ i = t ∧ m + i = l + k ∧ ys ++ be i n = be k n ∧ Row w' T_uint8 1 q m d (xs ++ bcells ys) ∧ Chg (isB p) w w' ∧ (q = p ∨ fresh w q),
    ⟨_, k, [], by rw [w64_of] <;> omega, Nat.le_refl _, rfl, rfl, rfl, by simpa [bcells] using h, Chg.refl _ _, .inl rfl⟩, ?_⟩
  rintro q m d x w' t ⟨i, ys, rfl, hi, rfl, hmi, hys, hr, hc, hf⟩
  refine condB_d (fun hb => ?_) (fun hb => ?_)
  · obtain ⟨j, rfl⟩ : ∃ j, i = j + 1 := ⟨i - 1, by omega⟩
    have e0 : w64 (8 * (((j + 1 : Nat) : Int) - 1)) = 8 * (j : Int) := by rw [w64_of] <;> omega
    rw [e0]
    refine ⟨by omega, ?_⟩
    refine newRow (sz := 1) (n := 1) rfl (by decide) fun b2 w2 hr2 hb2 hc2 => ?_
    rw [shr_be (by omega)] at hr2
    refine appJ_row slT_u8 (hr.chg hc2 (off_no _)) hr2.sl (by intro v hv; simp only [List.mem_singleton] at hv; subst hv; rfl) (by simp) (by omega) (by simp only [maxLen]; omega) fun p3 c3 w3 hr3 hc3 hf3 => ?_
    refine ⟨j, by omega, j, ys ++ [UInt8.ofNat (n / 256 ^ j)], ?_, by omega, rfl, by omega, by rw [← hys]; simp [be], by simpa [bcells] using hr3, ?_, ?_⟩
    · rw [w64_of] <;> omega
    · refine (hc.trans0 hc2).trans hc3 ?_
      rintro x hx ⟨a, ha, hax⟩
      rcases hf with rfl | hf
      · exact ⟨a, ha, hax⟩
      · have := hf a ha; omega
    · rcases hf3 with rfl | hf3
      · exact hf
      · right; intro a ha; have := hf3 a ha; have := hc.size; have := hc2.size; omega
  · have h0 : i = 0 := by omega
    subst h0
    have e1 : ys = be k n := by simpa [be] using hys
    subst e1
    have e2 : m = l + k := by omega
    subst e2
    exact K _ _ _ hr hc hf

theorem splice_splice {cs a b : List Value} {o : Nat} (h : o + a.length + b.length ≤ cs.length) : splice (splice cs o a) (o + a.length) b = splice cs o (a ++ b) := by
  unfold splice
  rw [List.length_append]
  have e1 : (cs.take o ++ a).length = o + a.length := by simp; omega
  rw [List.take_left' e1, List.drop_append, List.drop_of_length_le (by rw [e1]; omega), List.nil_append, List.drop_drop, e1]
  simp only [List.append_assoc]
  congr 4
  omega

theorem Put_room {w0 : World} {S : Nat → Prop} {Γ : List Blk} {b : Nat} {cs : List Value} (H : Hp w0 S w Γ) (i : Nat) (hi : Γ[i]? = some ⟨b, cs, T_uint8⟩) {l c n k : Nat} {J : Option Addr → Nat → Nat → World → Prop} (hk : k ≤ 8)
    (hlen : cs.length = c) (room : l + k ≤ c)
    (K : ∀ w', Hp w0 S w' (Γ.set i ⟨b, splice cs l (bcells (be k n)), T_uint8⟩) → Chg (fun x => x = b) w w' → J (some ⟨b, 0, none⟩) (l + k) c w') :
    callJ Try.prog fn_num_Put #[.slice (some ⟨b, 0, none⟩) l c, .int .u64 (n : Int), .int .i64 (k : Int)] w [.one .slice] J := by
  refine c_num_Put ?_
  unfold VC_num_Put
  refine ⟨fun q m d x w' t => ∃ (i' : Nat) (ys : List UInt8), x = (i' : Int) - 1 ∧ i' ≤ k ∧ i' = t ∧ m + i' = l + k ∧ ys ++ be i' n = be k n ∧ q = some ⟨b, 0, none⟩ ∧ d = c ∧ Hp w0 S w' (Γ.set i ⟨b, splice cs l (bcells ys), T_uint8⟩) ∧ Chg (fun x => x = b) w w',
    ⟨_, k, [], by rw [w64_of] <;> omega, Nat.le_refl _, rfl, rfl, rfl, rfl, rfl, ?_, Chg.refl _ _⟩, ?_⟩
  · have : Γ.set i ⟨b, splice cs l (bcells []), T_uint8⟩ = Γ := by
      rw [show splice cs l (bcells []) = cs by simp [splice, bcells]]
      apply List.ext_getElem?; intro j
      rw [List.getElem?_set]
      split
      · next h => subst h; rw [if_pos ((List.getElem?_eq_some_iff.1 hi).1), hi]
      · rfl
    rw [this]; exact H
  rintro q m d x w' t ⟨j', ys, rfl, hj, rfl, hmi, hys, rfl, rfl, H', hc⟩
  have hyl : ys.length + j' = k := by have := congrArg List.length hys; simpa [be_len] using this
  have hset : ∀ x : Blk, (Γ.set i x)[i]? = some x := fun x => by
    rw [List.getElem?_set]; simp [(List.getElem?_eq_some_iff.1 hi).1]
  have hsl : ∀ zs : List UInt8, zs.length ≤ k → (splice cs l (bcells zs)).length = d := fun zs hz => by
    rw [splice_len (by rw [bcells_length]; omega)]; exact hlen
  refine condB_d (fun hb => ?_) (fun hb => ?_)
  · obtain ⟨j, rfl⟩ : ∃ j, j' = j + 1 := ⟨j' - 1, by omega⟩
    have e0 : w64 (8 * (((j + 1 : Nat) : Int) - 1)) = 8 * (j : Int) := by rw [w64_of] <;> omega
    rw [e0]
    refine ⟨by omega, ?_⟩
    refine H'.newB fun b2 w2 H2 hb2 hc2 => ?_
    rw [shr_be (by omega)] at H2
    have hr2 : Row w2 T_uint8 1 (some ⟨b2, 0, none⟩) 1 1 (bcells [UInt8.ofNat (n / 256 ^ j)]) := H2.asRow 0 rfl (rest := []) (by simp [bcells]) (by simp [bcells]) (Nat.le_refl _) (by decide) (by simp)
    refine H2.app (i + 1) (by rw [List.getElem?_cons_succ]; exact hset _) slT_u8 hr2.sl (by simp) (one1_bcells _) (by rw [hsl _ (by omega)]; omega) (by omega) fun w3 H3 hc3 => ?_
    rw [List.set_cons_succ, Nat.mul_one, List.set_set] at H3
    have e3 : splice (splice cs l (bcells ys)) m (bcells [UInt8.ofNat (n / 256 ^ j)]) = splice cs l (bcells (ys ++ [UInt8.ofNat (n / 256 ^ j)])) := by
      have : m = l + (bcells ys).length := by rw [bcells_length]; omega
      rw [this, splice_splice (by simp [bcells]; omega)]
      simp [bcells]
    rw [e3] at H3
    refine ⟨j, by omega, j, ys ++ [UInt8.ofNat (n / 256 ^ j)], ?_, by omega, rfl, by omega, by rw [← hys]; simp [be], rfl, rfl, ⟨H3.chg, fun p hp => H3.is p (List.mem_cons_of_mem _ hp), ?_, fun p hp => H3.own p (List.mem_cons_of_mem _ hp)⟩, ?_⟩
    · rw [w64_of] <;> omega
    · have := H3.nd; rw [List.map_cons, List.nodup_cons] at this; exact this.2
    · exact (hc.trans0 hc2).trans hc3 fun _ _ => id
  · have h0 : j' = 0 := by omega
    subst h0
    have e1 : ys = be k n := by simpa [be] using hys
    subst e1
    have e2 : m = l + k := by omega
    subst e2
    exact K _ H' hc

theorem Of_ok {p : Option Addr} {l c k : Nat} {bs : List UInt8} {J : Int → World → Prop} (h : Bytes w p l bs) (hk : k ≤ 8) (hl : k ≤ l) (hc : l ≤ c) (K : J ((beVal (bs.take k) : Nat) : Int) w) :
    callJ Try.prog fn_num_Of #[.slice p l c, .int .i64 (k : Int)] w [.one (.int .u64)] J := by
  refine c_num_Of ?_
  unfold VC_num_Of
  refine slS_sl (i := 0) (j := k) h rfl rfl (Nat.zero_le _) hl hc fun p' hs _ => ?_
  rw [Nat.sub_zero, Nat.zero_mul, List.drop_zero, Nat.mul_one, show (bcells bs).take k = bcells (bs.take k) from by simp [bcells, List.map_take]] at hs
  refine ⟨fun n x w' t => ∃ i : Nat, x = i ∧ i ≤ k ∧ t = k - i ∧ n = ((beVal ((bs.take k).take i) : Nat) : Int) ∧ w' = w, ⟨_, 0, rfl, Nat.zero_le _, rfl, rfl, rfl⟩, ?_⟩
  rintro n x w' t ⟨i, rfl, hi, rfl, rfl, rfl⟩
  have hs' : Bytes w' p' k (bs.take k) := hs
  have hbl := h.len
  refine condB_d (fun hb => ?_) (fun hb => ?_)
  · refine byte_i hs' (by omega) (by omega) fun b hb' => ?_
    rw [Int.toNat_natCast] at hb'
    refine ⟨by decide, k - (i + 1), by omega, i + 1, ?_, by omega, rfl, ?_, rfl⟩
    · rw [w64_of] <;> omega
    · have e1 : IntKind.u64.wrap (b.toNat : Int) = (b.toNat : Int) := by rw [wrap_u64]; have := b.toNat_lt; omega
      rw [e1, shl8_or]
      · unfold beVal; rw [foldl_take_succ _ _ _ _ hb']
      · have h1 := beVal_lt ((bs.take k).take i)
        have h2 : ((bs.take k).take i).length ≤ 7 := by simp; omega
        have h3 : 256 ^ ((bs.take k).take i).length ≤ 256 ^ 7 := Nat.pow_le_pow_right (by decide) h2
        omega
  · have : i = k := by omega
    subst this
    rw [List.take_take, Nat.min_self]
    exact K

/-! ## tape.Sum -/

theorem crcI (c : Nat) (i : Nat) (hc : c < 2 ^ 32) :
    (if bAnd .u32 ((crcN i c : Nat) : Int) 1 = 1 then bXor .u32 (shrI .u32 ((crcN i c : Nat) : Int) 1) 3988292384 else shrI .u32 ((crcN i c : Nat) : Int) 1) = ((crcN (i + 1) c : Nat) : Int) := by
  have hlt := crcN_lt hc i
  rw [crcN_succ, bAnd1_u32 hlt, shrI_u32]
  unfold crcStep
  have h2 : ((crcN i c % 2 : Nat) : Int) = 1 ↔ crcN i c % 2 = 1 := by omega
  simp only [h2]
  split
  · exact bXor_u32 (by omega) (by decide)
  · rfl

theorem Sum_ok {p : Option Addr} {l c : Nat} {bs : List UInt8} {J : Int → World → Prop} (h : Bytes w p l bs) (hm : l ≤ 4611686018427387904) (K : J ((crc bs : Nat) : Int) w) :
    callJ Try.prog fn_tape_Sum #[.slice p l c] w [.one (.int .u32)] J := by
  refine c_tape_Sum ?_
  unfold VC_tape_Sum
  refine ⟨fun n x w' t => ∃ i : Nat, x = i ∧ i ≤ l ∧ t = l - i ∧ n = ((crcFold (bs.take i) : Nat) : Int) ∧ w' = w, ⟨_, 0, rfl, Nat.zero_le _, rfl, rfl, rfl⟩, ?_⟩
  rintro n x w' t ⟨i, rfl, hi, rfl, rfl, rfl⟩
  have hbl := h.len
  refine condB_d (fun hb => ?_) (fun hb => ?_)
  · refine byte_i h (by omega) (by omega) fun b hb' => ?_
    rw [Int.toNat_natCast] at hb'
    have hlt := crcFold_lt (bs.take i)
    have hbt := b.toNat_lt
    have e1 : IntKind.u32.wrap (b.toNat : Int) = (b.toNat : Int) := by rw [wrap_u32]; omega
    rw [e1, bXor_u32 hlt (by omega)]
    have hx : crcFold (bs.take i) ^^^ b.toNat < 2 ^ 32 := Nat.xor_lt_two_pow hlt (by omega)
    refine ⟨fun n x w2 t => ∃ j : Nat, x = j ∧ j ≤ 8 ∧ t = 8 - j ∧ n = ((crcN j (crcFold (bs.take i) ^^^ b.toNat) : Nat) : Int) ∧ w2 = w', ⟨_, 0, rfl, by decide, rfl, rfl, rfl⟩, ?_⟩
    rintro n x w2 t ⟨j, rfl, hj, rfl, rfl, rfl⟩
    refine condB_d (fun hb2 => ?_) (fun hb2 => ?_)
    · refine withJ_i fun J3 hJ3 => ⟨by decide, ?_⟩
      have go : ∀ n, n = ((crcN (j + 1) (crcFold (bs.take i) ^^^ b.toNat) : Nat) : Int) → J3 n w2 := by
        intro n hn
        subst hJ3
        exact ⟨8 - (j + 1), by omega, j + 1, by rw [w64_of] <;> omega, by omega, rfl, hn, rfl⟩
      have hcI := crcI _ j hx
      refine condB_eq (fun he => ?_) (fun he => ?_)
      · rw [if_pos he] at hcI; exact go _ hcI
      · rw [if_neg he] at hcI; exact go _ hcI
    · have : j = 8 := by omega
      subst this
      refine ⟨l - (i + 1), by omega, i + 1, by rw [w64_of] <;> omega, by omega, rfl, ?_, rfl⟩
      unfold crcFold; rw [foldl_take_succ _ _ _ _ hb']; rfl
  · have : i = l := by omega
    subst this
    rw [List.take_of_length_le (by omega), bNot_u32 (crcFold_lt bs)]
    exact K

/-! ## bytes.Equal -/

theorem Equal_ok {p q : Option Addr} {l c l2 c2 : Nat} {xs bs : List UInt8} {J : Bool → World → Prop} (h : Bytes w p l xs) (h2 : Bytes w q l2 bs) (k : J (decide (xs = bs)) w) :
    callJ Try.prog fn_bytes_Equal #[.slice p l c, .slice q l2 c2] w [.one .bool] J := by
  refine c_bytes_Equal (bytesOf_i h (bytesOf_i h2 ?_))
  rw [ByteArray.toList_mk, ByteArray.toList_mk]
  have : (xs == bs) = decide (xs = bs) := by by_cases h : xs = bs <;> simp [h]
  rw [this]; exact k
end

theorem zeroC_u8 : zeroC Try.prog T_uint8 = #[.int .u8 0] := by kernel_rfl
theorem wrap_u64_nat {n : Nat} (h : n < 2 ^ 64) : IntKind.u64.wrap (n : Int) = (n : Int) := by rw [wrap_u64]; omega
theorem wrap_u32_nat {n : Nat} (h : n < 2 ^ 32) : IntKind.u32.wrap (n : Int) = (n : Int) := by rw [wrap_u32]; omega
theorem wrap_u16_nat {n : Nat} (h : n < 2 ^ 16) : IntKind.u16.wrap (n : Int) = (n : Int) := by rw [wrap_u16]; omega

def z64 (k : Nat) : List Value := List.replicate k (.int .u8 0)
theorem z64_bcells (k : Nat) : z64 k = bcells (List.replicate k 0) := by simp [z64, bcells]

theorem splice_end {xs vs : List Value} {k : Nat} (_ : vs.length ≤ k) : splice (xs ++ z64 k) xs.length vs = (xs ++ vs) ++ z64 (k - vs.length) := by
  unfold splice
  rw [List.take_left, List.drop_append, List.drop_of_length_le (by omega)]
  simp [z64]

theorem splice_at {xs vs : List Value} {k o m j : Nat} (ho : xs.length = o) (hv : vs.length = m) (hk : m + j = k) : splice (xs ++ z64 k) o vs = (xs ++ vs) ++ z64 j := by
  subst ho; subst hv; subst hk
  rw [splice_end (by omega)]
  congr 2; omega
theorem bbe_len (k n : Nat) : (bcells (be k n)).length = k := by rw [bcells_length, be_len]
theorem z64_len (k : Nat) : (z64 k).length = k := by simp [z64]

theorem typ_ne {w : World} {a b : Nat} {e e' : TypeId} (h : typ w a = some e) (h' : typ w b = some e') (hne : e ≠ e') : a ≠ b := by
  rintro rfl; rw [h] at h'; cases h'; exact hne rfl

section
variable {w : World}
/-- make([]byte, n) -/
theorem mk_zeros {n : Nat} {K : Nat → World → Prop} (hn : n ≤ 140737488355328)
    (k : ∀ b w', Row w' T_uint8 1 (some ⟨b, 0, none⟩) n n (bcells (List.replicate n 0)) → w.heap.size ≤ b → Chg No w w' → K b w') :
    mkS w T_uint8 (zeroC Try.prog T_uint8) 1 1 (n : Int) (n : Int) K := by
  rw [zeroC_u8]
  refine (Hp.start w No).mkS rfl (by omega) (by omega) (by omega) (by omega) fun b w' H hb hc => ?_
  rw [show (List.replicate (n : Int).toNat (#[.int .u8 0] : Array Value).toList).flatten = bcells (List.replicate n 0) from by rw [Int.toNat_natCast]; simp [bcells, List.flatten_replicate_singleton]] at H
  exact k b w' (H.asRow 0 rfl (rest := []) (by simp) (by simp [bcells]) (Nat.le_refl _) (by simp only [maxLen]; omega) (by simp [bcells])) hb hc

theorem offN (S : Nat → Prop) : off none S := by rintro a ⟨⟩
theorem cutB {q : Option Addr} {m d : Nat} {b : List UInt8} (h : Bytes w q m b) {i j : Nat} (hij : i ≤ j) (hj : j ≤ m) (hd : m ≤ d) {oi oj : Option Int} (e1 : oi.getD 0 = (i : Int)) (e2 : oj.getD m = (j : Int)) {K : Option Addr → Nat → Nat → Prop}
    (k : ∀ q', Bytes w q' (j - i) ((b.drop i).take (j - i)) → (q' = none → j - i = 0) → K q' (j - i) (d - i)) : slS q m d 1 oi oj none K := by
  refine slS_sl (i := i) (j := j) h e1 e2 hij hj hd fun q' hq _ => ?_
  have hq' : Bytes w q' (j - i) ((b.drop i).take (j - i)) := by
    have e : ((bcells b).drop (i * 1)).take ((j - i) * 1) = bcells ((b.drop i).take (j - i)) := by
      unfold bcells; rw [Nat.mul_one, Nat.mul_one, ← List.map_drop, ← List.map_take]
    rw [e] at hq; exact hq
  refine k q' hq' fun h0 => ?_
  by_cases hz : j - i = 0
  · exact hz
  · obtain ⟨a, ha, _⟩ := Sl.at hq' hz; rw [h0] at ha; cases ha

/-- append of bytes to bytes, in new memory. -/
theorem appB {w0 wa : World} {p q : Option Addr} {l c m c2 : Nat} {xs ys : List UInt8} {K : Option Addr → Nat → Nat → World → Prop} (hr : Row wa T_uint8 1 p l c (bcells xs)) (hb : Bytes wa q m ys) (hn : q = none → m = 0) (hlm : l + m ≤ 100000000000)
    (hf : fresh w0 p) (hc : Chg No w0 wa) (k : ∀ p' c' w', Row w' T_uint8 1 p' (l + m) c' (bcells (xs ++ ys)) → fresh w0 p' → Chg No w0 w' → K p' (l + m) c' w') :
    appJ Try.prog T_sl_uint8 T_sl_uint8 (.slice p l c) (.slice q m c2) wa K := by
  refine appJ_row slT_u8 hr hb (one1_bcells _) hn (by omega) (by simp only [maxLen]; omega) fun p' c' w' hr' hc' hf' => ?_
  refine k p' c' w' (by simpa [bcells] using hr') ?_ (hc.trans hc' fun b hb ⟨a, ha, e⟩ => by have := hf a ha; omega)
  rcases hf' with rfl | hf'
  · exact hf
  · intro a ha; have := hf' a ha; have := hc.size; omega

end

/-- q[i] = v in a row of bytes of the call's own. -/
theorem Row.stB {w : World} {p : Option Addr} {l c : Nat} {bs : List UInt8} (hr : Row w T_uint8 1 p l c (bcells bs)) {i : Int} (h0 : 0 ≤ i) (h1 : i < l) {v : UInt8} {K : World → Prop}
    (k : ∀ w', Row w' T_uint8 1 p l c (bcells (bs.set i.toNat v)) → Chg (isB p) w w' → K w') : idxA p l i fun a => stV w (a.add (i.toNat * 1)) (.int .u8 (v.toNat : Int)) K := by
  obtain ⟨b, rest, rfl, hh, hle, hmax, hlen⟩ := hr.some0 (by omega)
  have hl := hr.len
  rw [bcells_length, Nat.mul_one] at hl
  refine idxA_i h0 h1 ?_
  rw [Addr.add_mk, Nat.zero_add, Nat.mul_one]
  have H := (Hp.start w (isB (some ⟨b, 0, none⟩))).add hh (by simp) (fun _ => ⟨_, rfl, rfl⟩)
  refine H.stV 0 rfl (off := i.toNat) (by rw [List.length_append, bcells_length]; omega) fun w' H' hc => ?_
  have e : (bcells bs ++ rest).set i.toNat (Value.int .u8 (v.toNat : Int)) = bcells (bs.set i.toNat v) ++ rest := by
    rw [List.set_append_left _ _ (by rw [bcells_length]; omega)]
    unfold bcells
    rw [← List.map_set]
  simp only [List.set_cons_zero] at H'
  rw [e] at H'
  exact k w' (H'.asRow 0 rfl rfl (by rw [bcells_length, List.length_set]; omega) hle hmax (by rw [← hlen]; simp [bcells])) H'.chg

/-- The reckoning of a place: int(uint(at) % uint(n)). -/
theorem placeOf {at_ : Int} {n : Nat} (hn : 1 ≤ n) (hm : n ≤ 140737488351232) : ∃ k : Nat, w64 (Int.tmod (IntKind.u64.wrap at_) (IntKind.u64.wrap (n : Int))) = (k : Int) ∧ k < n ∧ IntKind.u64.wrap (n : Int) ≠ 0 := by
  have e : IntKind.u64.wrap (n : Int) = (n : Int) := by rw [wrap_u64]; omega
  rw [e]
  have h0 : 0 ≤ IntKind.u64.wrap at_ := by rw [wrap_u64]; omega
  have h1 : Int.tmod (IntKind.u64.wrap at_) (n : Int) = IntKind.u64.wrap at_ % n := Int.tmod_eq_emod_of_nonneg h0
  have h2 := Int.emod_nonneg (IntKind.u64.wrap at_) (b := (n : Int)) (by omega)
  have h3 := Int.emod_lt_of_pos (IntKind.u64.wrap at_) (b := (n : Int)) (by omega)
  refine ⟨(IntKind.u64.wrap at_ % n).toNat, ?_, by omega, by omega⟩
  rw [h1, w64_of (by omega) (by omega)]; omega

theorem xor_ne {x y : UInt8} (h : y ≠ 0) : x ^^^ y ≠ x := by
  intro e
  apply h
  have h1 := congrArg UInt8.toNat e
  rw [UInt8.toNat_xor] at h1
  apply UInt8.toNat_inj.1
  have h2 := congrArg (x.toNat ^^^ ·) h1
  rw [← Nat.xor_assoc, Nat.xor_self, Nat.zero_xor] at h2
  exact h2

end Go.Proofs.Ytgplflecgnldeaa
