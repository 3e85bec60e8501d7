/-
  A drum whose power stays: what Reads and Writes make of it; a fuse.
-/
import Derived.Test.YtgplflecgnldeaaDrumC
namespace Go.Proofs.Ytgplflecgnldeaa
open Go Go.Vc

theorem DS.write_safe (D : DS) (n : Int) (p : List UInt8) : (D.write n p).1.safe = D.safe := by
  unfold DS.write; split
  · rfl
  · split
    · rfl
    · simp only; split <;> simp [DS.step_safe]
theorem DS.read_safe (D : DS) (n : Int) : (D.read n).1.safe = D.safe := by
  unfold DS.read; split
  · rfl
  · simp [DS.step_safe]
theorem DS.flush_len (D : DS) : D.flush.1.safe.length = D.safe.length := by
  unfold DS.flush; simp only; split
  · simp [DS.stand, standL_len, DS.step_safe]
  · rw [DS.step_safe]

def DS.writes (D : DS) (n : Nat) : List (List UInt8) → DS × Int
  | [] => (D, 0)
  | s :: r => if (D.write n s).2 = 0 then (D.write n s).1.writes (n + 1) r else D.write n s
def putAt {α : Type} (L : List α) (n : Nat) (G : List α) : List α := L.take n ++ G ++ L.drop (n + G.length)
theorem putAt_nil {α : Type} (L : List α) (n : Nat) : putAt L n [] = L := by simp [putAt]
theorem putAt_len {α : Type} {L : List α} {n : Nat} {G : List α} (h : n + G.length ≤ L.length) : (putAt L n G).length = L.length := by simp [putAt]; omega
theorem putAt_cons {α : Type} {L : List α} {n : Nat} {x : α} {G : List α} (h : n + (G.length + 1) ≤ L.length) : putAt (L.set n x) (n + 1) G = putAt L n (x :: G) := by
  unfold putAt
  have e : L.set n x = L.take n ++ x :: L.drop (n + 1) := by rw [List.set_eq_take_append_cons_drop, if_pos (by omega)]
  have hl : (L.take n).length = n := by rw [List.length_take]; omega
  rw [e]
  have e1 : (L.take n ++ x :: L.drop (n + 1)).take (n + 1) = L.take n ++ [x] := by
    rw [List.take_append, hl, List.take_of_length_le (by omega), show n + 1 - n = 1 by omega]; simp
  have e2 : (L.take n ++ x :: L.drop (n + 1)).drop (n + 1 + G.length) = L.drop (n + (x :: G).length) := by
    rw [List.drop_append, hl, List.drop_of_length_le (by omega), List.nil_append, show n + 1 + G.length - n = G.length + 1 by omega, List.drop_succ_cons, List.drop_drop]
    congr 1; simp; omega
  rw [e1, e2]; simp

theorem pad_id {p : List UInt8} (h : p.length = 64) : pad p = p := by simp [pad, h]
theorem Calm.write {D : DS} (h : Calm D) {n : Nat} {p : List UInt8} (hn : n < D.safe.length) (hp : p.length = 64) :
    D.write n p = ({ D with steps := w64 (D.steps + 1), loose := D.loose ++ [(n, p)] }, 0) := by
  unfold DS.write
  rw [if_neg (by omega), if_neg (by omega), h.step]
  simp [pad_id hp]
theorem now_snoc (D : DS) (n : Nat) (p : List UInt8) (s : Int) : DS.now { D with steps := s, loose := D.loose ++ [(n, p)] } = D.now.set n p := standL_snoc _ _ _

structure Wrote (D D' : DS) (n : Nat) (G : List (List UInt8)) : Prop where
  calm : Calm D'
  safe : D'.safe = D.safe
  now : D'.now = putAt D.now n G
  loose : D'.loose.length = D.loose.length + G.length

theorem writes_calm : ∀ (G : List (List UInt8)) (D : DS) (n : Nat), Calm D → n + G.length ≤ D.safe.length → (∀ s ∈ G, s.length = 64) → (D.writes n G).2 = 0 ∧ Wrote D (D.writes n G).1 n G
  | [], D, n, h, _, _ => ⟨rfl, h, rfl, (putAt_nil _ _).symm, rfl⟩
  | s :: G, D, n, h, hn, h64 => by
    simp only [List.length_cons] at hn
    have hw := h.write (n := n) (p := s) (by omega) (h64 s (by simp))
    rw [DS.writes, hw, if_pos rfl]
    obtain ⟨e, c1, c2, c3, c4⟩ := writes_calm G { D with steps := w64 (D.steps + 1), loose := D.loose ++ [(n, s)] } (n + 1) h (by simp only; omega) (fun x hx => h64 x (by simp [hx]))
    refine ⟨e, c1, c2, ?_, ?_⟩
    · rw [c3, now_snoc, putAt_cons (by rw [DS.now_len]; omega)]
    · rw [c4]; simp; omega

theorem Calm.read {D : DS} (h : Calm D) {n : Nat} (hn : n < D.safe.length) : D.read (n : Int) = ({ D with steps := w64 (D.steps + 1) }, (D.now[n]?).getD [], 0) := by
  unfold DS.read
  rw [if_neg (by omega), h.step]
  simp
theorem now_steps (D : DS) (s : Int) : DS.now { D with steps := s } = D.now := rfl
theorem DS.Ok.steps {D : DS} (h : D.Ok) (s : Int) : ({ D with steps := s } : DS).Ok := ⟨h.pos, h.max, h.safe, h.loose, h.count, h.fuse⟩
/-- So many steps more. -/
def DS.took (D : DS) : Nat → DS
  | 0 => D
  | j + 1 => { D.took j with steps := w64 ((D.took j).steps + 1) }
theorem took_safe (D : DS) : ∀ j, (D.took j).safe = D.safe
  | 0 => rfl
  | j + 1 => took_safe D j
theorem took_loose (D : DS) : ∀ j, (D.took j).loose = D.loose
  | 0 => rfl
  | j + 1 => took_loose D j
theorem took_now (D : DS) (j : Nat) : (D.took j).now = D.now := by simp only [DS.now, took_safe, took_loose]
theorem took_calm {D : DS} (h : Calm D) : ∀ j, Calm (D.took j)
  | 0 => h
  | j + 1 => took_calm h j
theorem took_steps {D : DS} (h0 : 0 ≤ D.steps) : ∀ j : Nat, D.steps + j ≤ 9223372036854775807 → (D.took j).steps = D.steps + j
  | 0, _ => by simp [DS.took]
  | j + 1, hj => by
    simp only [DS.took]
    rw [took_steps h0 j (by omega), w64_of (by omega) (by omega)]; omega
theorem write_live {D : DS} {n : Nat} {p : List UInt8} (hd : D.down = false) (hf : D.fuse ≠ 0) (hn : n < D.safe.length) (hp : p.length = 64) :
    D.write n p = ({ D with steps := w64 (D.steps + 1), fuse := if 0 < D.fuse then D.fuse - 1 else D.fuse, loose := D.loose ++ [(n, p)] }, 0) := by
  unfold DS.write
  rw [if_neg (by omega), if_neg (by omega), DS.step_good (by simp [hd, hf])]
  simp [pad_id hp]
theorem write_dead {D : DS} {n : Nat} {p : List UInt8} (hf : D.fuse = 0) (hn : n < D.safe.length) (hp : p.length = 64) : D.write n p = ({ D with down := true }, 9) := by
  unfold DS.write
  rw [if_neg (by omega), if_neg (by omega), DS.step_bad (.inl hf)]
  simp
theorem now_live (D : DS) (n : Nat) (p : List UInt8) (s f : Int) : DS.now { D with steps := s, fuse := f, loose := D.loose ++ [(n, p)] } = D.now.set n p := standL_snoc _ _ _
theorem now_down (D : DS) (b : Bool) : DS.now { D with down := b } = D.now := rfl
theorem flush_now (D : DS) : D.flush.1.now = D.now := by
  unfold DS.flush; simp only; split
  · show DS.now (D.step.1.stand fun _ => true) = D.now
    rw [show (D.step.1.stand fun _ => true).now = D.step.1.now from rfl, DS.step_now]
  · rw [DS.step_now]
theorem standL_congr {safe : List (List UInt8)} {loose : List (Nat × List UInt8)} {f g : Nat → Bool} (h : ∀ i < loose.length, f i = g i) : standL safe loose f = standL safe loose g := by
  unfold standL
  have hz : ∀ x ∈ loose.zipIdx, f x.2 = g x.2 := fun x hx => h _ (by have := List.mem_zipIdx hx; omega)
  generalize loose.zipIdx = l at hz
  induction l generalizing safe with
  | nil => rfl
  | cons x l ih => simp only [List.foldl_cons]; rw [hz x (by simp)]; exact ih fun y hy => hz y (by simp [hy])
theorem crash_all (D : DS) : (D.crash (List.replicate D.loose.length true)).now = D.now := by
  have e : (D.crash (List.replicate D.loose.length true)).now = standL D.safe D.loose fun i => ((List.replicate D.loose.length true)[i]?).getD false := rfl
  rw [e]
  refine standL_congr fun i hi => ?_
  simp [hi]
theorem crash_calm (D : DS) (ks : List Bool) : Calm (D.crash ks) := ⟨rfl, rfl⟩
theorem crash_len (D : DS) (ks : List Bool) : (D.crash ks).safe.length = D.safe.length := by simp only [DS.crash, DS.stand]; exact standL_len _ _ _

end Go.Proofs.Ytgplflecgnldeaa

