/- What the statement needs, part 1. -/
import Derived.Test.YtjlgopfceebdcaaGreatDoorZ0
set_option linter.unusedSectionVars false
set_option linter.unusedVariables false
set_option linter.unusedSimpArgs false
set_option maxRecDepth 100000
open List
section
namespace Go.Proofs.YtjlgopfceebdcaaGreatDoor
open Go Go.Vc
theorem c_char_IsChar {a : Int} {w : World} {J : Bool -> World -> Prop} (h :
 Zzl (fun (g : Bool) (i : World) =>
 J g i) fun b =>
 Zz2 (a == (9 : Int)) (
 b true w) (
 Zz2 (a == (10 : Int)) (
 b true w) (
 Zz2 (a == (13 : Int)) (
 b true w) (
 Array.size (⟨[.int .i32 32, .int .i32 55295]⟩ : Array Value) = 2 /\
 Array.size (⟨[.int .i32 57344, .int .i32 65533]⟩ : Array Value) = 2 /\
 Array.size (⟨[.int .i32 65536, .int .i32 1114111]⟩ : Array Value) = 2 /\
 newB w (.cells ⟨[.int .i32 32, .int .i32 55295, .int .i32 57344, .int .i32 65533, .int .i32 65536, .int .i32 1114111]⟩ ZxX) fun c d =>
 Zz1 Tryz.prog Ya9 #[.int .i32 a, .slice (some ⟨c, 0, none⟩) 3 3] d [.one .bool] fun e f =>
 b e f)))) : Zz1 Tryz.prog Yak #[.int .i32 a] w [.one .bool] J := Zz6 Tryz.func173 (.s .o (.j [(2, .bool)] .o .o)) (Eq.mpr (by kernel_rfl) h)
theorem c_char_IsPart {a : Int} {w : World} {J : Bool -> World -> Prop} (h :
 Zzl (fun (n : Bool) (o : World) =>
 J n o) fun b =>
 Zz1 Tryz.prog Zym #[.int .i32 a] w [.one .bool] fun c d =>
 Zz2 c (
 b true d) (
 Zz2 (a == (45 : Int)) (
 b true d) (
 Zz2 (a == (46 : Int)) (
 b true d) (
 Zz2 (decide (a >= (48 : Int))) (
 Zz2 (decide (a <= (57 : Int))) (
 b true d) (
 Zz2 (a == (183 : Int)) (
 b true d) (
 Array.size (⟨[.int .i32 768, .int .i32 879]⟩ : Array Value) = 2 /\
 Array.size (⟨[.int .i32 8255, .int .i32 8256]⟩ : Array Value) = 2 /\
 newB d (.cells ⟨[.int .i32 768, .int .i32 879, .int .i32 8255, .int .i32 8256]⟩ ZxX) fun e f =>
 Zz1 Tryz.prog Ya9 #[.int .i32 a, .slice (some ⟨e, 0, none⟩) 2 2] f [.one .bool] fun g i =>
 b g i))) (
 Zz2 (a == (183 : Int)) (
 b true d) (
 Array.size (⟨[.int .i32 768, .int .i32 879]⟩ : Array Value) = 2 /\
 Array.size (⟨[.int .i32 8255, .int .i32 8256]⟩ : Array Value) = 2 /\
 newB d (.cells ⟨[.int .i32 768, .int .i32 879, .int .i32 8255, .int .i32 8256]⟩ ZxX) fun j k =>
 Zz1 Tryz.prog Ya9 #[.int .i32 a, .slice (some ⟨j, 0, none⟩) 2 2] k [.one .bool] fun l m =>
 b l m)))))) : Zz1 Tryz.prog Zyt #[.int .i32 a] w [.one .bool] J := Zz6 Tryz.func145 (.s .o (.j [(2, .bool)] .o .o)) (Eq.mpr (by kernel_rfl) h)
theorem c_char_IsStart {a : Int} {w : World} {J : Bool -> World -> Prop} (h :
 Zz2 (decide (a < (128 : Int))) (
 Zzl (fun (g : Bool) (i : World) =>
 J g i) fun b =>
 Zz2 (decide (a >= (97 : Int))) (
 Zz2 (decide (a <= (122 : Int))) (
 b true w) (
 Zz2 (decide (a >= (65 : Int))) (
 Zz2 (decide (a <= (90 : Int))) (
 b true w) (
 b (a == (95 : Int)) w)) (
 b (a == (95 : Int)) w))) (
 Zz2 (decide (a >= (65 : Int))) (
 Zz2 (decide (a <= (90 : Int))) (
 b true w) (
 b (a == (95 : Int)) w)) (
 b (a == (95 : Int)) w))) (
 Array.size (⟨[.int .i32 192, .int .i32 214]⟩ : Array Value) = 2 /\
 Array.size (⟨[.int .i32 216, .int .i32 246]⟩ : Array Value) = 2 /\
 Array.size (⟨[.int .i32 248, .int .i32 767]⟩ : Array Value) = 2 /\
 Array.size (⟨[.int .i32 880, .int .i32 893]⟩ : Array Value) = 2 /\
 Array.size (⟨[.int .i32 895, .int .i32 8191]⟩ : Array Value) = 2 /\
 Array.size (⟨[.int .i32 8204, .int .i32 8205]⟩ : Array Value) = 2 /\
 Array.size (⟨[.int .i32 8304, .int .i32 8591]⟩ : Array Value) = 2 /\
 Array.size (⟨[.int .i32 11264, .int .i32 12271]⟩ : Array Value) = 2 /\
 Array.size (⟨[.int .i32 12289, .int .i32 55295]⟩ : Array Value) = 2 /\
 Array.size (⟨[.int .i32 63744, .int .i32 64975]⟩ : Array Value) = 2 /\
 Array.size (⟨[.int .i32 65008, .int .i32 65533]⟩ : Array Value) = 2 /\
 Array.size (⟨[.int .i32 65536, .int .i32 983039]⟩ : Array Value) = 2 /\
 newB w (.cells ⟨[.int .i32 192, .int .i32 214, .int .i32 216, .int .i32 246, .int .i32 248, .int .i32 767, .int .i32 880, .int .i32 893, .int .i32 895, .int .i32 8191, .int .i32 8204, .int .i32 8205, .int .i32 8304, .int .i32 8591, .int .i32 11264, .int .i32 12271, .int .i32 12289, .int .i32 55295, .int .i32 63744, .int .i32 64975, .int .i32 65008, .int .i32 65533, .int .i32 65536, .int .i32 983039]⟩ ZxX) fun c d =>
 Zz1 Tryz.prog Ya9 #[.int .i32 a, .slice (some ⟨c, 0, none⟩) 12 12] d [.one .bool] fun e f =>
 J e f)) : Zz1 Tryz.prog Zym #[.int .i32 a] w [.one .bool] J := Zz6 Tryz.func144 (.s .o (.s (.s .o (.c (.j [(2, .bool)] .o .o) .o)) (.s .o .o))) (Eq.mpr (by kernel_rfl) h)
theorem c_char_in {a : Int} {b : Option Addr} {c d : Nat} {w : World} {J : Bool -> World -> Prop} (h :
 ∃ n : Int -> World -> Nat -> Prop, (∃ o, n (0 : Int) w o) /\ ∀ p q o, n p q o -> (
 Zz2 (decide (p < (c : Int))) (
 ZyN b c p fun e =>
 ldI .i32 q ((e.add (p.toNat * 2))) fun f =>
 ldI .i32 q (((e.add (p.toNat * 2)).add 1)) fun g =>
 newB q (.cells (Zy6 Tryz.prog ZxX) ZxX) fun i j =>
 stN j ⟨i, 0, none⟩ ⟨[.int .i32 f, .int .i32 g]⟩ 2 fun k =>
 ldI .i32 k ⟨i, 1, none⟩ fun l =>
 Zz2 (decide (a <= l)) (
 ldI .i32 k ⟨i, 0, none⟩ fun m =>
 J (decide (a >= m)) k) (
 ∃ r, r < o /\ n (w64 (p + (1 : Int))) k r)) (
 J false q))) : Zz1 Tryz.prog Ya9 #[.int .i32 a, .slice b c d] w [.one .bool] J := Zz6 Tryz.func204 (.s .o (.s (.s .o (.b (.l [(9, .int .i64)] (.s .o (.s (.c .o .o) (.s (.b (.s .o (.s .o (.c (.s .o .o) .o)))) .o)))))) (.s .o .o))) (Eq.mpr (by kernel_rfl) h)
theorem c_char_Next {a : Option Addr} {b c : Nat} {d : Int} {w : World} {J : Int -> Int -> Int -> World -> Prop} (h :
 Zzl (fun (p : Bool) (q : World) =>
 Zz2 p (
 J (0 : Int) (0 : Int) (1 : Int) q) (
 slS a b c 1 (some d) none none fun e f g =>
 Zz1 Tryz.prog Zyf #[.slice e f g] q [.one (.int .i32), .one (.int .i64)] fun i j k =>
 Zzl (fun (r : Bool) (s : World) =>
 Zz2 r (
 J (0 : Int) (0 : Int) (20 : Int) s) (
 Zz1 Tryz.prog Yak #[.int .i32 i] s [.one .bool] fun l m =>
 Zz2 (!l) (
 J (0 : Int) (0 : Int) (21 : Int) m) (
 J i (w64 (d + j)) (0 : Int) m))) fun n =>
 Zz2 (i == (65533 : Int)) (
 n (decide (j < (3 : Int))) k) (
 n false k))) fun o =>
 Zz2 (decide (d < (0 : Int))) (
 o true w) (
 o (decide (d >= (b : Int))) w)) : Zz1 Tryz.prog Ybn #[.slice a b c, .int .i64 d] w [.one (.int .i32), .one (.int .i64), .one (.int .i64)] J := Zz6 Tryz.func117 (.s .o (.s (.j [(16, .bool)] .o (.c (.s .o .o) .o)) (.s .o (.s (.b (.j [(24, .bool)] .o (.c (.s .o .o) (.s .o (.c (.s .o .o) .o))))) (.s .o .o))))) (Eq.mpr (by kernel_rfl) h)
theorem c_char_Fault {a : Option Addr} {b c : Nat} {w : World} {J : Int -> Int -> World -> Prop} (h :
 ∃ i : Int -> World -> Nat -> Prop, (∃ j, i (0 : Int) w j) /\ ∀ k l j, i k l j -> (
 Zz2 (decide (k < (b : Int))) (
 Zz1 Tryz.prog Ybn #[.slice a b c, .int .i64 k] l [.one (.int .i32), .one (.int .i64), .one (.int .i64)] fun d e f g =>
 Zz2 (f != (0 : Int)) (
 J k f g) (
 ∃ m, m < j /\ i e g m)) (
 J (0 : Int) (0 : Int) l))) : Zz1 Tryz.prog YaQ #[.slice a b c] w [.one (.int .i64), .one (.int .i64)] J := Zz6 Tryz.func58 (.s .o (.s (.s .o (.b (.l [(4, .int .i64)] (.s (.s .o (.c .o .o)) (.b (.s .o (.s (.s .o (.c (.s .o .o) .o)) .o))))))) (.s .o .o))) (Eq.mpr (by kernel_rfl) h)
theorem c_char_Name {a : ByteArray} {w : World} {J : Bool -> World -> Prop} (h :
 Zzl (fun (s : Bool) (t : World) =>
 Zz2 s (
 J false t) (
 newB t (.stringIter a 0) fun b c =>
 ∃ y : World -> Nat -> Prop, (∃ z, y c z) /\ ∀ (u : World) (z : Nat), y u z -> (
 nextS u b (fun d e f =>
 Zzl (fun (v : Bool) (x : World) =>
 Zz2 v (
 J false x) (
 ∃ aa, aa < z /\ y x aa)) fun g =>
 Zz2 ((d : Int) == (0 : Int)) (
 Zz1 Tryz.prog Zym #[.int .i32 e] f [.one .bool] fun i j =>
 Zz2 (!i) (
 g true j) (
 Zz1 Tryz.prog Zyt #[.int .i32 e] j [.one .bool] fun k l =>
 g (!k) l)) (
 Zz1 Tryz.prog Zyt #[.int .i32 e] f [.one .bool] fun m n =>
 g (!m) n)) (fun o =>
 J true o)))) fun p =>
 Zz2 (a.toList == (⟨#[]⟩ : ByteArray).toList) (
 p true w) (
 Zz2 (decide ((a.size : Int) > (100 : Int))) (
 p true w) (
 Zz1 Tryz.prog Zyb #[.string a] w [.one .bool] fun q r =>
 p (!q) r))) : Zz1 Tryz.prog Yat #[.string a] w [.one .bool] J := Zz6 Tryz.func82 (.s .o (.s (.j [(16, .bool)] .o (.c (.s .o .o) .o)) (.s (.s .o (.b (.l [] (.s .o (.s (.c .o .o) (.b (.s .o (.j [(34, .bool)] .o (.c (.s .o .o) .o))))))))) (.s .o .o)))) (Eq.mpr (by kernel_rfl) h)
end Go.Proofs.YtjlgopfceebdcaaGreatDoor
end
section
namespace Go.Vc
open Go
theorem leafT {J : Bool -> World -> Prop} {w : World} {p : Prop} [Decidable p] (K : J (decide p) w) (h : p) : J true w := by rw [decide_eq_true h] at K; exact K
theorem leafN {J : Bool -> World -> Prop} {w : World} {p : Prop} [Decidable p] (K : J (decide p) w) (h : ¬ p) : J false w := by rw [decide_eq_false h] at K; exact K
theorem leafD {J : Bool -> World -> Prop} {w : World} {p q : Prop} [Decidable p] [Decidable q] (K : J (decide p) w) (h : q ↔ p) : J (decide q) w := by rw [show decide q = decide p from decide_eq_decide.2 h]; exact K
theorem leafQ {J : Bool -> World -> Prop} {w : World} {p : Prop} [Decidable p] {x y : Int} (K : J (decide p) w) (h : x = y ↔ p) : J (x == y) w := by
 rw [show (x == y) = decide p from by rw [Bool.eq_iff_iff]; simp [h]]; exact K
theorem meetI {b : Bool} {p : Prop} {A B : Prop} (hb : b = true ↔ p) (h1 : p -> A) (h2 : ¬ p -> B) : Zz2 b A B :=
 Zzd (fun h => h1 (hb.1 h)) (fun h => h2 fun hp => by rw [hb.2 hp] at h; cases h)
theorem bT {p : Prop} (h : p) : true = true ↔ p := ⟨fun _ => h, fun _ => rfl⟩
theorem bF {p : Prop} (h : ¬ p) : false = true ↔ p := ⟨fun e => (by cases e), fun hp => absurd hp h⟩
theorem bD {p q : Prop} [Decidable q] (h : q ↔ p) : decide q = true ↔ p := by rw [decide_eq_true_eq]; exact h
theorem bQ {p : Prop} {x y : Int} (h : x = y ↔ p) : (x == y) = true ↔ p := by rw [beq_iff_eq]; exact h
end Go.Vc
namespace Go.Proofs.YtjlgopfceebdcaaGreatDoor
open Go Go.Vc Go.Lib
section
variable {w : World}
def spanC (s : Int × Int) : List Value := [.int .i32 s.1, .int .i32 s.2]
theorem Yfa (L : List (Int × Int)) : Yej spanC 2 L := fun _ _ => rfl
theorem zeroC_span : Zy6 Tryz.prog ZxX = ⟨[.int .i32 0, .int .i32 0]⟩ := by kernel_rfl
theorem inL_drop {r : Int} {L : List (Int × Int)} {i : Nat} {s : Int × Int} (h : L[i]? = some s) (hr : ¬ r <= s.2) : inL r (L.drop i) = inL r (L.drop (i + 1)) := by
  obtain ⟨hi, rfl⟩ := List.getElem?_eq_some_iff.1 h
  rw [List.drop_eq_getElem_cons hi]
  unfold inL
  rw [if_neg hr]; cases L.drop (i + 1) <;> rfl
theorem in_ok {r : Int} {p : Option Addr} {l c : Nat} {L : List (Int × Int)} {J : Bool -> World -> Prop} (h : Sl w p l 2 (rows spanC L)) (hm : l <= 1000) (K : ∀ w', Chg No w w' -> J (inL r L) w') :
    Zz1 Tryz.prog Ya9 #[.int .i32 r, .slice p l c] w [.one .bool] J := by
  refine c_char_in ?_
  have hl := h.row (Yfa L) (by decide)
  refine ⟨fun x w' m => ∃ i : Nat, x = i /\ i <= l /\ m = l - i /\ Chg No w w' /\ inL r (L.drop i) = inL r L, ⟨_, 0, rfl, Nat.zero_le _, rfl, Chg.refl _ _, rfl⟩, ?_⟩
  rintro x w' m ⟨i, rfl, hi, rfl, hc, he⟩
  refine Zz5 (fun hlt => ?_) (fun hlt => ?_)
  · refine Zzu (h.chg hc (off_no _)) (Yfa L) (by decide) (by omega) hlt fun a s _ hs hcells => ?_
    rw [Int.toNat_natCast] at hs ⊢
    refine Zyw (n := s.1) (by have := hcells 0 _ rfl; rwa [add_zero'] at this) ?_
    refine Zyw (n := s.2) (hcells 1 _ rfl) ?_
    rw [zeroC_span]
    refine (Hp.start w' No).newB fun b w6 H6 hb hc6 => ?_
    refine H6.stN 0 rfl (off := 0) rfl (by decide) (by simp [one1, Value.oneCell']) fun w7 H7 hc7 => ?_
    have hcc : Chg No w w7 := hc.trans0 (hc6.trans hc7 fun x hx he => by subst he; omega)
    simp only [splice, List.take_zero, List.nil_append, List.set_cons_zero, List.length_cons, List.length_nil, List.drop_succ_cons, List.drop_nil, List.append_nil, Nat.zero_add] at H7
    refine H7.ldI 0 rfl (off := 1) rfl ?_
    refine Zz5 (fun hr => ?_) (fun hr => ?_)
    · refine H7.ldI 0 rfl (off := 0) rfl ?_
      have e : inL r L = decide (r >= s.1) := by
        rw [<- he]
        obtain ⟨hi', rfl⟩ := List.getElem?_eq_some_iff.1 hs
        rw [List.drop_eq_getElem_cons hi']
        unfold inL
        rw [if_pos hr]
      rw [<- e]; exact K _ hcc
    · exact ⟨l - (i + 1), by omega, i + 1, by rw [Zzt] <;> omega, by omega, rfl, hcc, by rw [<- inL_drop hs hr, he]⟩
  · have : i = l := by omega
    subst this
    rw [List.drop_of_length_le (by omega)] at he
    have e : inL r L = false := by rw [<- he]; rfl
    rw [<- e]; exact K _ hc
theorem spanRow {L : List (Int × Int)} {cs : List Value} (hcs : cs = rows spanC L) (hm : L.length <= 1000) {K : Nat -> World -> Prop}
  (k : ∀ b w', Sl w' (some ⟨b, 0, none⟩) L.length 2 (rows spanC L) -> Chg No w w' -> K b w') : newB w (.cells ⟨cs⟩ ZxX) K := by
 subst hcs
 exact newRow (sz := 2) (n := L.length) (Zya (Yfa L)) (by simp only [maxLen]; omega) fun b w' hr _ hc => k b w' hr.sl hc
theorem IsChar_ok {r : Int} {J : Bool -> World -> Prop} (K : ∀ w', Chg No w w' -> J (chr r) w') : Zz1 Tryz.prog Yak #[.int .i32 r] w [.one .bool] J := by
 refine c_char_IsChar ?_
 have K0 := K w (Chg.refl _ _)
 unfold chr at K0
 refine Zzf fun J2 hJ2 => ?_
 subst hJ2
 refine Zzj (fun h => leafT K0 (by unfold Chr; omega)) (fun h9 => ?_)
 refine Zzj (fun h => leafT K0 (by unfold Chr; omega)) (fun h10 => ?_)
 refine Zzj (fun h => leafT K0 (by unfold Chr; omega)) (fun h13 => ?_)
 refine ⟨rfl, rfl, rfl, ?_⟩
 refine spanRow (L := [(32, 55295), (57344, 65533), (65536, 1114111)]) rfl (by decide) fun b w2 hs hc => ?_
 refine in_ok hs (by decide) fun w3 hc3 => ?_
 have e : inL r [(32, 55295), (57344, 65533), (65536, 1114111)] = chr r := by
  exact inL_dec (by unfold Chr; simp only [inP, and_false, or_false]; omega)
 rw [e]; exact K _ (hc.trans0 hc3)
theorem YfM {r : Int} {J : Bool -> World -> Prop} (K : ∀ w', Chg No w w' -> J (isSt r) w') : Zz1 Tryz.prog Zym #[.int .i32 r] w [.one .bool] J := by
 refine c_char_IsStart ?_
 have K0 := K w (Chg.refl _ _)
 unfold isSt at K0
 refine Zz5 (fun h => ?_) (fun h => ?_)
 ·refine Zzf fun J2 hJ2 => ?_
  subst hJ2
  repeat' refine Zz5 (fun _ => ?_) (fun _ => ?_)
  all_goals first | exact leafT K0 (by unfold Sta; omega) | exact leafN K0 (by unfold Sta; omega) | exact leafD K0 (by unfold Sta; omega) | exact leafQ K0 (by unfold Sta; omega)
 ·refine ⟨rfl, rfl, rfl, rfl, rfl, rfl, rfl, rfl, rfl, rfl, rfl, rfl, ?_⟩
  refine spanRow (L := [(192, 214), (216, 246), (248, 767), (880, 893), (895, 8191), (8204, 8205), (8304, 8591), (11264, 12271), (12289, 55295), (63744, 64975), (65008, 65533), (65536, 983039)]) rfl (by decide) fun b w2 hs hc => ?_
  refine in_ok hs (by decide) fun w3 hc3 => ?_
  have e : inL r [(192, 214), (216, 246), (248, 767), (880, 893), (895, 8191), (8204, 8205), (8304, 8591), (11264, 12271), (12289, 55295), (63744, 64975), (65008, 65533), (65536, 983039)] = isSt r := by
   exact inL_dec (by unfold Sta; simp only [inP, and_false, or_false]; omega)
  rw [e]; exact K _ (hc.trans0 hc3)
theorem Yf2 {r : Int} {J : Bool -> World -> Prop} (K : ∀ w', Chg No w w' -> J (isPt r) w') : Zz1 Tryz.prog Zyt #[.int .i32 r] w [.one .bool] J := by
 refine c_char_IsPart ?_
 refine Zzf fun J2 hJ2 => ?_
 subst hJ2
 refine YfM fun w2 hc2 => ?_
 have K0 := K w2 hc2
 unfold isPt at K0
 refine Zzd (fun h => leafT K0 (.inl (of_decide_eq_true h))) (fun hs => ?_)
 have hs : ¬ Sta r := of_decide_eq_false hs
 rw [prt_pr2 hs] at K0
 refine Zzj (fun h => leafT K0 (by unfold Pr2; omega)) (fun h1 => ?_)
 refine Zzj (fun h => leafT K0 (by unfold Pr2; omega)) (fun h2 => ?_)
 have last : ¬ (48 <= r /\ r <= 57) -> r ≠ 183 -> ∀ w3, Chg No w w3 -> J (inL r [(768, 879), (8255, 8256)]) w3 := fun h3 h4 w3 hc3 => by
  have e : inL r [(768, 879), (8255, 8256)] = isPt r := by
   unfold isPt
   rw [prt_pr2 hs]
   exact inL_dec (by unfold Pr2; simp only [inP, and_false, or_false]; omega)
  rw [e]; exact K _ hc3
 refine Zz5 (fun h3 => ?_) (fun h3 => ?_)
 ·refine Zz5 (fun h4 => leafT K0 (by unfold Pr2; omega)) (fun h4 => ?_)
  refine Zzj (fun h => leafT K0 (by unfold Pr2; omega)) (fun h5 => ?_)
  refine ⟨rfl, rfl, ?_⟩
  refine spanRow (L := [(768, 879), (8255, 8256)]) rfl (by decide) fun b w3 hs hc => ?_
  exact in_ok hs (by decide) fun w4 hc4 => last (by omega) h5 w4 ((hc2.trans0 hc).trans0 hc4)
 ·refine Zzj (fun h => leafT K0 (by unfold Pr2; omega)) (fun h5 => ?_)
  refine ⟨rfl, rfl, ?_⟩
  refine spanRow (L := [(768, 879), (8255, 8256)]) rfl (by decide) fun b w3 hs hc => ?_
  exact in_ok hs (by decide) fun w4 hc4 => last (by omega) h5 w4 ((hc2.trans0 hc).trans0 hc4)
end
end Go.Proofs.YtjlgopfceebdcaaGreatDoor
end
section
namespace Go.Vc
open Go Go.RowKit
end Go.Vc
namespace Go.Proofs.YtjlgopfceebdcaaGreatDoor
open Go Go.Vc
section
variable {w : World}
theorem cutB {q : Option Addr} {m d : Nat} {b : List UInt8} (h : Bytes w q m b) {i j : Nat} (hij : i <= j) (hj : j <= m) (hd : m <= d) {oi oj : Option Int} (e1 : oi.getD 0 = (i : Int)) (e2 : oj.getD m = (j : Int)) {K : Option Addr -> Nat -> Nat -> Prop}
  (k : ∀ q', Bytes w q' (j - i) ((b.drop i).take (j - i)) -> (q' = none -> j - i = 0) -> K q' (j - i) (d - i)) : slS q m d 1 oi oj none K := by
 refine slS_sl (i := i) (j := j) h e1 e2 hij hj hd fun q' hq _ => ?_
 have hq' : Bytes w q' (j - i) ((b.drop i).take (j - i)) := by
  have e : ((bcells b).drop (i * 1)).take ((j - i) * 1) = bcells ((b.drop i).take (j - i)) := by
   unfold bcells; rw [Nat.mul_one, Nat.mul_one, <- map_drop, <- map_take]
  rw [e] at hq; exact hq
 refine k q' hq' fun h0 => ?_
 by_cases hz : j - i = 0
 ·exact hz
 ·obtain ⟨a, ha, _⟩ := Sl.at hq' hz; rw [h0] at ha; cases ha
end
end Go.Proofs.YtjlgopfceebdcaaGreatDoor
end
section
namespace Go.Proofs.YtjlgopfceebdcaaGreatDoor
open Go Go.Vc Go.Lib
section
variable {w : World}
theorem vld_fail {s : ByteArray} (hs : 0 < s.size) (h : dec (bl s) = (65533, 1)) : vld (bl s) = false :=
 vld_bad (by intro e; have := ZzA s; rw [e] at this; simp at this; omega) (rd0_of_dec h)
theorem vld_next {s : ByteArray} (hs : 0 < s.size) {r k : Nat} (hk : 2 <= k) (h : dec (bl s) = (r, k)) : vld (bl s) = vld ((bl s).drop k) /\ k <= s.size := by
 have hne : bl s ≠ [] := by intro e; have := ZzA s; rw [e] at this; simp at this; omega
 have e := rd_of_dec h hk
 have hl := rd_le _ hne
 rw [e, ZzA] at hl
 refine ⟨?_, hl⟩
 rw [Ygk hne (by rw [e]; simp only; omega), e]
theorem or_zero {a b c : Nat} (h : (a ||| b) &&& c = 0) : a &&& c = 0 /\ b &&& c = 0 := by
 rw [Nat.and_or_distrib_right] at h
 exact Nat.or_eq_zero_iff.1 h
theorem Yca {l : List UInt8} {a b : Nat} (h1 : ∀ x ∈ l.take a, x.toNat < 128) (h2 : ∀ x ∈ (l.drop a).take b, x.toNat < 128) : ∀ x ∈ l.take (a + b), x.toNat < 128 := by
 intro x hx
 rw [take_add, mem_append] at hx
 rcases hx with h | h
 ·exact h1 x h
 ·exact h2 x h
theorem bAnd_u64 {A : Nat} (hA : A < 18446744073709551616) : Ybh .u64 (A : Int) 9259542123273814144 = ((A &&& 9259542123273814144 : Nat) : Int) := u64_and_nat A 9259542123273814144 hA (by decide)
theorem bOr_u64 {A B : Nat} (hA : A < 18446744073709551616) (hB : B < 18446744073709551616) : bOr .u64 (A : Int) (B : Int) = ((A ||| B : Nat) : Int) := u64_or_nat A B hA hB
set_option maxRecDepth 100000 in
set_option maxHeartbeats 4000000 in
theorem ValidString_ok {s : ByteArray} {J : Bool -> World -> Prop} (T : YfJ w) (K : ∀ w', Chg No w w' -> J (vld (bl s)) w') :
  Zz1 Tryz.prog Zyb #[.string s] w [.one .bool] J := by
 refine Ybg ?_
 refine ⟨fun t w' m => Chg No w w' /\ vld (bl t) = vld (bl s) /\ m = t.size /\ t.size <= s.size, ⟨_, Chg.refl _ _, rfl, rfl, Nat.le_refl _⟩, ?_⟩
 rintro t w1 m ⟨hc, hv, rfl, hle⟩
 rw [<- hv] at K
 refine Zz5 (fun hpos => ?_) (fun hpos => ?_)
 rotate_left
 ·have h0 : t.size = 0 := by omega
  have : bl t = [] := eq_nil_of_length_eq_zero (by rw [ZzA]; exact h0)
  rw [this, vld_nil] at K
  exact K w1 hc
 have hp : 0 < t.size := by omega
 have l0 := Ybc (bl t) 0; have l1 := Ybc (bl t) 1; have l2 := Ybc (bl t) 2; have l3 := Ybc (bl t) 3
 refine ZzP (i := 0) hp ?_
 refine Zz5 (fun ha => ?_) (fun ha => ?_)
 · -- below 128: the fast road
  refine Zyg (i := 1) (by omega) fun s1 hs1 z1 => ?_
  refine Zzf fun J0 hJ0 => ?_
  have go : ∀ (u : ByteArray) (k : Nat) (w2 : World), 1 <= k -> k <= t.size -> bl u = (bl t).drop k -> (∀ b ∈ (bl t).take k, b.toNat < 128) -> Chg No w w2 -> J0 u w2 := by
   intro u k w2 h1 hk he hasc hc2
   subst hJ0
   have hz : u.size = t.size - k := by rw [<- ZzA, he, length_drop, ZzA]
   exact ⟨u.size, by omega, hc2, by rw [he, <- vld_drop k _ hasc, hv], rfl, by omega⟩
  have a1 : ∀ b ∈ (bl t).take 1, b.toNat < 128 := by
   have hl : 0 < (bl t).length := by rw [ZzA]; exact hp
   intro b hb
   cases hbt : bl t with
   | nil => rw [hbt] at hl; simp at hl
   | cons x r =>
    rw [hbt] at hb ha
    simp only [take_succ_cons, take_zero, mem_singleton] at hb
    subst hb
    simp only [gB, getD_cons_zero] at ha
    omega
  clear hJ0
  refine Zzf fun J24 hJ24 => ?_
  have slow : ∀ w2, Chg No w w2 -> J24 false w2 := fun w2 hc2 => by subst hJ24; exact go s1 1 w2 (by omega) (by omega) hs1 a1 hc2
  refine Zz5 (fun h8 => ?_) (fun _ => slow _ hc)
  refine YdD (by omega) fun A1 lA1 mA1 => ?_
  rw [bAnd_u64 lA1]
  have hcd : Chg No w w1.drew := hc.drew
  generalize w1.drew = w2 at hcd ⊢
  by_cases hz1 : A1 &&& 9259542123273814144 = 0
  rotate_left
  ·rw [show (((A1 &&& 9259542123273814144 : Nat) : Int) == 0) = false from by simpa using hz1]; exact slow _ hcd
  rw [hz1, show (((0 : Nat) : Int) == 0) = true from rfl]
  clear slow
  subst hJ24
  refine Zzd (fun _ => ?_) (fun h => by cases h)
  have m1 := mA1 hz1
  rw [hs1] at m1
  have a9 := Yca a1 m1
  refine Zyg (i := 8) (by omega) fun s9 hs9 z9 => ?_
  rw [hs1, drop_drop] at hs9
  refine Zzf fun J39 hJ39 => ?_
  have slow : ∀ w3, Chg No w w3 -> J39 false w3 := fun w3 hc3 => by subst hJ39; exact go s9 9 w3 (by omega) (by omega) hs9 a9 hc3
  have hcd2 : Chg No w w2.drew := hcd.drew
  refine Zz5 (fun h16 => ?_) (fun _ => slow _ hcd2)
  refine Zyg (i := 8) (by omega) fun s17 hs17 z17 => ?_
  refine YdD (by omega) fun A2 lA2 mA2 => ?_
  refine YdD (by omega) fun A3 lA3 mA3 => ?_
  have hcd3 : Chg No w w2.drew.drew.drew := hcd2.drew.drew
  rw [bOr_u64 lA2 lA3, bAnd_u64 (Nat.or_lt_two_pow (n := 64) lA2 lA3)]
  generalize w2.drew.drew.drew = w3 at hcd3 ⊢
  by_cases hz2 : (A2 ||| A3) &&& 9259542123273814144 = 0
  rotate_left
  ·rw [show ((((A2 ||| A3) &&& 9259542123273814144 : Nat) : Int) == 0) = false from by simpa using hz2]; exact slow _ hcd3
  rw [hz2, show (((0 : Nat) : Int) == 0) = true from rfl]
  clear slow
  subst hJ39
  refine Zzd (fun _ => ?_) (fun h => by cases h)
  obtain ⟨q2, q3⟩ := or_zero hz2
  have m2 := mA2 q2
  have m3 := mA3 q3
  rw [hs17] at m3
  rw [hs9] at m2 m3
  have a25 := Yca a9 (Yca m2 m3)
  refine Zyg (i := 16) (by omega) fun s25 hs25 z25 => ?_
  rw [hs9, drop_drop] at hs25
  refine ⟨fun u w' m => ∃ k : Nat, 1 <= k /\ k <= t.size /\ bl u = (bl t).drop k /\ (∀ b ∈ (bl t).take k, b.toNat < 128) /\ Chg No w w' /\ m = u.size, ⟨_, 25, by omega, by omega, hs25, a25, hcd3, rfl⟩, ?_⟩
  rintro u w5 m1 ⟨k, k1, k2, hu, ak, hc5, rfl⟩
  have zu : u.size = t.size - k := by rw [<- ZzA, hu, length_drop, ZzA]
  refine Zzf fun J62 hJ62 => ?_
  have slow : ∀ w3, Chg No w w3 -> J62 false w3 := fun w3 hc3 => by subst hJ62; exact go u k w3 k1 k2 hu ak hc3
  refine Zz5 (fun h32 => ?_) (fun _ => slow _ hc5.drew)
  refine Zyg (i := 8) (by omega) fun u8 hu8 zu8 => ?_
  refine Zyg (i := 16) (by omega) fun u16 hu16 zu16 => ?_
  refine Zyg (i := 24) (by omega) fun u24 hu24 zu24 => ?_
  refine YdD (by omega) fun B1 lB1 mB1 => ?_
  refine YdD (by omega) fun B2 lB2 mB2 => ?_
  refine YdD (by omega) fun B3 lB3 mB3 => ?_
  refine YdD (by omega) fun B4 lB4 mB4 => ?_
  have hcd5 : Chg No w w5.drew.drew.drew.drew.drew := hc5.drew.drew.drew.drew.drew
  have l12 := Nat.or_lt_two_pow (n := 64) lB1 lB2
  have l34 := Nat.or_lt_two_pow (n := 64) lB3 lB4
  rw [bOr_u64 lB1 lB2, bOr_u64 lB3 lB4, bOr_u64 l12 l34, bAnd_u64 (Nat.or_lt_two_pow (n := 64) l12 l34)]
  generalize w5.drew.drew.drew.drew.drew = w6 at hcd5 ⊢
  by_cases hz3 : ((B1 ||| B2) ||| (B3 ||| B4)) &&& 9259542123273814144 = 0
  rotate_left
  ·rw [show (((((B1 ||| B2) ||| (B3 ||| B4)) &&& 9259542123273814144 : Nat) : Int) == 0) = false from by simpa using hz3]; exact slow _ hcd5
  rw [hz3, show (((0 : Nat) : Int) == 0) = true from rfl]
  clear slow
  subst hJ62
  refine Zzd (fun _ => ?_) (fun h => by cases h)
  obtain ⟨q12, q34⟩ := or_zero hz3
  obtain ⟨q1, q2⟩ := or_zero q12
  obtain ⟨q3, q4⟩ := or_zero q34
  have n1 := mB1 q1
  have n2 := mB2 q2
  have n3 := mB3 q3
  have n4 := mB4 q4
  rw [hu8] at n2
  rw [hu16] at n3
  rw [hu24] at n4
  have n16 := Yca n1 n2
  have n24 := Yca n16 n3
  have n32 := Yca n24 n4
  rw [hu] at n32
  refine Zyg (i := 32) (by omega) fun u32 hu32 zu32 => ?_
  rw [hu, drop_drop] at hu32
  exact ⟨u32.size, by omega, k + 32, by omega, by omega, hu32, Yca ak n32, hcd5, rfl⟩
 · -- a lead byte
  have hr := hc.cell (T.1 _ l0) (fun f => f)
  refine YbF (by omega) (by omega) ?_
  rw [Addr.add_mk, Nat.zero_add, Nat.mul_one, Int.toNat_natCast]
  refine Zyw hr ?_
  have s256 : firstT (gB (bl t) 0) < 256 := by rcases firstT_cases (gB (bl t) 0) with h | h | h | h | h | h | h | h | h <;> omega
  have s16 : firstT (gB (bl t) 0) / 16 < 16 := by omega
  rw [shr4, and7 s256, Zzt (by omega) (by omega)]
  have hdec : firstT (gB (bl t) 0) < 240 -> dec (bl t) = slowN (bl t).length (gB (bl t) 0) (gB (bl t) 1) (gB (bl t) 2) (gB (bl t) 3) (firstT (gB (bl t) 0) % 8) (accLo (firstT (gB (bl t) 0) / 16)) (accHi (firstT (gB (bl t) 0) / 16)) :=
   fun hx => (slow_eq _ _ _ _ _ (by rw [ZzA]; omega) l1 l2 l3 hx).symm
  have hbad : ¬ firstT (gB (bl t) 0) < 240 -> dec (bl t) = (65533, 1) /\ firstT (gB (bl t) 0) % 8 = 1 := fun hx => by
   rcases YgY hx with h | h
   ·exfalso; unfold firstT at h; repeat' split at h
    all_goals omega
   ·exact ⟨bad_eq _ _ _ _ _ l0 h, by rw [h]⟩
  have hsm : firstT (gB (bl t) 0) < 240 -> firstT (gB (bl t) 0) % 8 <= 4 /\ 2 <= firstT (gB (bl t) 0) % 8 := fun hx => ⟨(Ybo hx).1, (Ybo hx).2.1⟩
  have ht := T.2 _ s16
  rw [Nat.mul_comm] at ht
  generalize firstT (gB (bl t) 0) = f at *
  refine ⟨by decide, YbF (by omega) (by omega) ?_⟩
  simp only [Addr.add_mk, Nat.zero_add, Int.toNat_natCast]
  refine Zyw (hc.cell ht.1 (fun f => f)) (Zyw (hc.cell ht.2 (fun f => f)) ?_)
  rw [Ygx]
  refine (Hp.start w1 No).newB fun b9 w14 H1 hb9 hc1 => ?_
  refine H1.stN 0 rfl (off := 0) rfl (by decide) (by simp [one1, Value.oneCell']) fun w15 H2 hc2 => ?_
  have hc15 : Chg No w w15 := hc.trans0 (hc1.trans hc2 fun x hx he => by subst he; omega)
  have hcd : Chg No w w15.drew := hc15.drew
  have H3 := H2.drew
  simp only [splice, take_zero, nil_append, set_cons_zero, length_cons, length_nil, drop_succ_cons, drop_nil, append_nil, Nat.zero_add] at H3
  generalize hwd : w15.drew = w16 at hcd H3 ⊢
  have bad : dec (bl t) = (65533, 1) -> ∀ w', Chg No w w' -> J false w' := fun h w' hc' => by rw [<- vld_fail hp h]; exact K w' hc'
  have good : ∀ (r k : Nat), 2 <= k -> dec (bl t) = (r, k) -> Yay t (some (k : Int)) none fun s' => ∃ m', m' < t.size /\ Chg No w w16 /\ vld (bl s') = vld (bl s) /\ m' = s'.size /\ s'.size <= s.size := fun r k hk hd => by
   obtain ⟨e1, e2⟩ := vld_next hp hk hd
   exact Zyg e2 fun s' hs' zs' => ⟨s'.size, by omega, hcd, by rw [hs', <- e1, hv], rfl, by omega⟩
  have e2' : (((f % 8 : Nat) : Int) == 2) = decide (f % 8 = 2) := by by_cases h : f % 8 = 2 <;> simp [h] <;> omega
  have e3' : (((f % 8 : Nat) : Int) == 3) = decide (f % 8 = 3) := by by_cases h : f % 8 = 3 <;> simp [h] <;> omega
  have e4' : (((f % 8 : Nat) : Int) == 4) = decide (f % 8 = 4) := by by_cases h : f % 8 = 4 <;> simp [h] <;> omega
  rw [e2', e3', e4']
  by_cases hx : f < 240
  rotate_left
  ·obtain ⟨hb, h1⟩ := hbad hx
   rw [h1]
   exact bad hb _ hc15
  obtain ⟨s4, s2⟩ := hsm hx
  replace hdec := hdec hx
  clear hbad hsm
  generalize f % 8 = sz at *
  generalize f / 16 = q at *
  rw [ZzA] at hdec
  generalize hg0 : gB (bl t) 0 = g0 at *
  generalize hg1 : gB (bl t) 1 = g1 at *
  generalize hg2 : gB (bl t) 2 = g2 at *
  generalize hg3 : gB (bl t) 3 = g3 at *
  have f0 : t.size < sz -> dec (bl t) = (65533, 1) := fun h => by rw [hdec]; unfold slowN; rw [if_pos h]
  have f1 : ¬ t.size < sz -> (g1 < accLo q \/ accHi q < g1) -> dec (bl t) = (65533, 1) := fun h h1 => by rw [hdec]; unfold slowN; rw [if_neg h, if_pos h1]
  refine Zz5 (fun h2 => ?_) (fun h2 => ?_)
  ·subst h2
   refine Zzf fun J94 hJ94 => ?_
   have fl : dec (bl t) = (65533, 1) -> J94 true w16 := fun h => by subst hJ94; exact bad h _ hcd
   refine Zz5 (fun hn => fl (f0 (by omega))) (fun hn => ?_)
   refine ZzP (i := 1) (by omega) ?_
   rw [hg1]
   refine H3.ldI 0 rfl (off := 0) rfl ?_
   refine Zz5 (fun hlo => fl (f1 (by omega) (.inl (by omega)))) (fun hlo => ?_)
   refine H3.ldI 0 rfl (off := 1) rfl ?_
   refine ZzP (i := 1) (by omega) ?_
   rw [hg1]
   by_cases hhi : accHi q < g1
   ·rw [decide_eq_true (by omega)]; exact fl (f1 (by omega) (.inr hhi))
   rw [decide_eq_false (by omega)]
   clear fl; subst hJ94
   exact good (g0 % 32 * 64 + g1 % 64) 2 (by decide) (by rw [hdec]; unfold slowN; rw [if_neg (by omega), if_neg (by omega), if_pos (by decide)])
  refine Zz5 (fun h3 => ?_) (fun h3 => ?_)
  ·subst h3
   refine Zzf fun J125 hJ125 => ?_
   have fl : dec (bl t) = (65533, 1) -> J125 true w16 := fun h => by subst hJ125; exact bad h _ hcd
   have f2 : ¬ t.size < 3 -> ¬ (g1 < accLo q \/ accHi q < g1) -> (g2 < 128 \/ 191 < g2) -> dec (bl t) = (65533, 1) := fun h h1 h2 => by
    rw [hdec]; unfold slowN; rw [if_neg h, if_neg h1, if_neg (by omega), if_pos h2]
   refine Zz5 (fun hn => fl (f0 (by omega))) (fun hn => ?_)
   refine ZzP (i := 1) (by omega) ?_
   rw [hg1]
   refine H3.ldI 0 rfl (off := 0) rfl ?_
   refine Zz5 (fun hlo => fl (f1 (by omega) (.inl (by omega)))) (fun hlo => ?_)
   refine H3.ldI 0 rfl (off := 1) rfl ?_
   refine ZzP (i := 1) (by omega) ?_
   rw [hg1]
   refine Zz5 (fun hhi => fl (f1 (by omega) (.inr (by omega)))) (fun hhi => ?_)
   refine ZzP (i := 2) (by omega) ?_
   rw [hg2]
   refine Zz5 (fun hlo => fl (f2 (by omega) (by omega) (.inl (by omega)))) (fun hlo2 => ?_)
   refine ZzP (i := 2) (by omega) ?_
   rw [hg2]
   by_cases hhi2 : 191 < g2
   ·rw [decide_eq_true (by omega)]; exact fl (f2 (by omega) (by omega) (.inr hhi2))
   rw [decide_eq_false (by omega)]
   clear fl; subst hJ125
   exact good (g0 % 16 * 4096 + g1 % 64 * 64 + g2 % 64) 3 (by decide) (by rw [hdec]; unfold slowN; rw [if_neg (by omega), if_neg (by omega), if_neg (by decide), if_neg (by omega), if_pos (by decide)])
  refine Zz5 (fun h4 => ?_) (fun h4 => by omega)
  subst h4
  refine Zzf fun J166 hJ166 => ?_
  have fl : dec (bl t) = (65533, 1) -> J166 true w16 := fun h => by subst hJ166; exact bad h _ hcd
  have f2 : ¬ t.size < 4 -> ¬ (g1 < accLo q \/ accHi q < g1) -> (g2 < 128 \/ 191 < g2) -> dec (bl t) = (65533, 1) := fun h h1 h2 => by
   rw [hdec]; unfold slowN; rw [if_neg h, if_neg h1, if_neg (by omega), if_pos h2]
  have f3 : ¬ t.size < 4 -> ¬ (g1 < accLo q \/ accHi q < g1) -> ¬ (g2 < 128 \/ 191 < g2) -> (g3 < 128 \/ 191 < g3) -> dec (bl t) = (65533, 1) := fun h h1 h2 h3 => by
   rw [hdec]; unfold slowN; rw [if_neg h, if_neg h1, if_neg (by omega), if_neg h2, if_neg (by omega), if_pos h3]
  refine Zz5 (fun hn => fl (f0 (by omega))) (fun hn => ?_)
  refine ZzP (i := 1) (by omega) ?_
  rw [hg1]
  refine H3.ldI 0 rfl (off := 0) rfl ?_
  refine Zz5 (fun hlo => fl (f1 (by omega) (.inl (by omega)))) (fun hlo => ?_)
  refine H3.ldI 0 rfl (off := 1) rfl ?_
  refine ZzP (i := 1) (by omega) ?_
  rw [hg1]
  refine Zz5 (fun hhi => fl (f1 (by omega) (.inr (by omega)))) (fun hhi => ?_)
  refine ZzP (i := 2) (by omega) ?_
  rw [hg2]
  refine Zz5 (fun hlo => fl (f2 (by omega) (by omega) (.inl (by omega)))) (fun hlo2 => ?_)
  refine ZzP (i := 2) (by omega) ?_
  rw [hg2]
  refine Zz5 (fun hhi => fl (f2 (by omega) (by omega) (.inr (by omega)))) (fun hhi2 => ?_)
  refine ZzP (i := 3) (by omega) ?_
  rw [hg3]
  refine Zz5 (fun hlo => fl (f3 (by omega) (by omega) (by omega) (.inl (by omega)))) (fun hlo3 => ?_)
  refine ZzP (i := 3) (by omega) ?_
  rw [hg3]
  by_cases hhi3 : 191 < g3
  ·rw [decide_eq_true (by omega)]; exact fl (f3 (by omega) (by omega) (by omega) (.inr hhi3))
  rw [decide_eq_false (by omega)]
  clear fl; subst hJ166
  exact good (g0 % 8 * 262144 + g1 % 64 * 4096 + g2 % 64 * 64 + g3 % 64) 4 (by decide) (by rw [hdec]; unfold slowN; rw [if_neg (by omega), if_neg (by omega), if_neg (by decide), if_neg (by omega), if_neg (by decide), if_neg (by omega)])
end
end Go.Proofs.YtjlgopfceebdcaaGreatDoor
end
section
namespace Go.Proofs.YtjlgopfceebdcaaGreatDoor
open Go Go.Vc
theorem ZqY {a : ByteArray} {b : Int} {w : World} {J : Int -> World -> Prop} (h :
 extJ Tryz.prog Zzk #[.string a, .int .u8 b] w [.one (.int .i64)] fun c d =>
 J c d) : Zz1 Tryz.prog Zyc #[.string a, .int .u8 b] w [.one (.int .i64)] J := Zz6 Tryz.func220 (.s .o (.s .o .o)) (Eq.mpr (by kernel_rfl) h)
end Go.Proofs.YtjlgopfceebdcaaGreatDoor
end
section
namespace Go.Vc
open Go
def nxt (bs : List UInt8) (at_ : Int) : Int × Int × Int :=
 if at_ < 0 \/ (bs.length : Int) <= at_ then (0, 0, 1) else if (rd (bs.drop at_.toNat)).2 = 0 then (0, 0, 20)
 else if chr (rd (bs.drop at_.toNat)).1 = false then (0, 0, 21) else ((rd (bs.drop at_.toNat)).1, at_ + (rd (bs.drop at_.toNat)).2, 0)
end Go.Vc
namespace Go.Proofs.YtjlgopfceebdcaaGreatDoor
open Go Go.Vc Go.Lib
section
variable {w : World}
theorem Next_ok {p : Option Addr} {l c : Nat} {at_ : Int} {bs : List UInt8} {J : Int -> Int -> Int -> World -> Prop} (h : Bytes w p l bs) (hlc : l <= c) (hm : l <= 140737488355328) (T : YfJ w)
  (K : ∀ w', Chg No w w' -> J (nxt bs at_).1 (nxt bs at_).2.1 (nxt bs at_).2.2 w') : Zz1 Tryz.prog Ybn #[.slice p l c, .int .i64 at_] w [.one (.int .i32), .one (.int .i64), .one (.int .i64)] J := by
 refine c_char_Next ?_
 have hbl := h.len
 refine Zzf fun J16 hJ16 => ?_
 have k16 : ∀ b, (b = true ↔ (at_ < 0 \/ (bs.length : Int) <= at_)) -> J16 b w := by
  intro b hb; subst hJ16
  refine meetI hb (fun hh => ?_) (fun hin => ?_)
  ·have := K w (Chg.refl _ _); unfold nxt at this; simp only [if_pos hh] at this; exact this
  unfold nxt at K
  simp only [if_neg hin] at K
  obtain ⟨i, rfl⟩ : ∃ i : Nat, at_ = i := ⟨at_.toNat, by omega⟩
  simp only [Int.toNat_natCast] at K
  refine cutB h (i := i) (j := l) (by omega) (Nat.le_refl _) hlc rfl rfl fun q' hq hq0 => ?_
  rw [take_of_length_le (by rw [length_drop]; omega)] at hq
  refine DecodeRune_ok hq (by omega) T fun w2 hc2 => ?_
  have hne : bs.drop i ≠ [] := by intro e; have := congrArg length e; rw [length_drop] at this; simp at this; omega
  have h4 := rd_four (bs.drop i)
  generalize bs.drop i = D at *
  by_cases hk : (rd D).2 = 0
  ·have hd : dec D = (65533, 1) := by rw [Yh5, if_pos hk]
   have K' := K w2 hc2
   rw [if_pos hk] at K'
   rw [hd]
   refine Zzf fun J24 hJ24 => ?_
   have go : J24 true w2 := by subst hJ24; exact K'
   exact go
  ·rw [dec_of_rd hk]
   refine Zzf fun J24 hJ24 => ?_
   have hnf : J24 false w2 := by
    subst hJ24
    refine IsChar_ok fun w4 hc4 => ?_
    have K' := K w4 (hc2.trans0 hc4)
    rw [if_neg hk] at K'
    refine ZzU (fun he => ?_) (fun he => ?_)
    ·rw [if_pos he] at K'; exact K'
    ·rw [if_neg (by rw [he]; simp)] at K'
     simp only at K'
     rw [Zzt (by omega) (by omega)]
     exact K'
   clear hJ24
   refine Zzj (fun he => ?_) (fun _ => hnf)
   have := rd_fffd D (by omega)
   rw [decide_eq_false (by omega)]; exact hnf
 clear hJ16
 exact Zz5 (fun hh => k16 _ (bT (by omega))) (fun hh => k16 _ (bD (by omega)))
theorem FaultC_ok {p : Option Addr} {l c : Nat} {bs : List UInt8} {J : Int -> Int -> World -> Prop} (h : Bytes w p l bs) (hlc : l <= c) (hm : l <= 140737488355328) (T : YfJ w)
  (K : ∀ w', Chg No w w' -> J ((flt 0 bs).1 : Int) ((flt 0 bs).2 : Int) w') : Zz1 Tryz.prog YaQ #[.slice p l c] w [.one (.int .i64), .one (.int .i64)] J := by
 refine c_char_Fault ?_
 have hbl := h.len
 refine ⟨fun x w' m => ∃ i : Nat, x = i /\ i <= l /\ m = l - i /\ Chg No w w' /\ flt i (bs.drop i) = flt 0 bs, ⟨_, 0, rfl, Nat.zero_le _, rfl, Chg.refl _ _, rfl⟩, ?_⟩
 rintro x w' m ⟨i, rfl, hi, rfl, hc, he⟩
 refine Zz5 (fun hlt => ?_) (fun hlt => ?_)
 ·refine Next_ok (h.chg hc (off_no _)) hlc hm (T.chg hc) fun w2 hc2 => ?_
  have hcc := hc.trans0 hc2
  have hne : bs.drop i ≠ [] := by intro e; have := congrArg length e; rw [length_drop] at this; simp at this; omega
  have hle := rd_le _ hne
  rw [length_drop, hbl] at hle
  have en : ¬ ((i : Int) < 0 \/ (bs.length : Int) <= (i : Int)) := by omega
  unfold nxt
  simp only [if_neg en, Int.toNat_natCast]
  by_cases hk : (rd (bs.drop i)).2 = 0
  ·rw [if_pos hk]
   have e := flt_utf (i := i) hne hk
   rw [<- he, e] at K
   exact K _ hcc
  rw [if_neg hk]
  cases hch : chr (rd (bs.drop i)).1 with
  | false =>
   rw [if_pos rfl]
   have e := flt_chr (i := i) hne hk hch
   rw [<- he, e] at K
   exact K _ hcc
  | true =>
   rw [if_neg (by simp)]
   refine ⟨l - (i + (rd (bs.drop i)).2), by omega, i + (rd (bs.drop i)).2, by simp, by omega, rfl, hcc, ?_⟩
   rw [<- he, flt_step hne hk hch, drop_drop]
 ·have : i = l := by omega
  subst this
  rw [drop_of_length_le (by omega), flt_nil] at he
  rw [<- he] at K
  exact K _ hc
end
end Go.Proofs.YtjlgopfceebdcaaGreatDoor
namespace Go.Vc
open Go Go.Lib
theorem setBlk_at {w : World} {b : Nat} {o : Obj} (h : b < w.heap.size) : (setBlk w b o).heap[b]? = some o := by
 unfold setBlk; simp [h]
theorem Yfq {bs : List UInt8} {i : Nat} (h : i < bs.length) : bs.drop i ≠ [] := by
 intro e; have := congrArg length e; rw [length_drop] at this; simp at this; omega
def nmAt (bs : List UInt8) (i : Nat) : Bool := if i = 0 then isSt (rd bs).1 && prt bs else prt (bs.drop i)
theorem nmAt_end {bs : List UInt8} (h : bs ≠ []) : nmAt bs bs.length = true := by
 unfold nmAt
 rw [if_neg (by have := length_pos_iff.2 h; omega), drop_of_length_le (Nat.le_refl _), prt_nil]
theorem nmAt_step {bs : List UInt8} {i : Nat} (h : i < bs.length) (hk : (rd (bs.drop i)).2 ≠ 0) (hp : isPt (rd (bs.drop i)).1 = true) (hs : i = 0 -> isSt (rd (bs.drop i)).1 = true) : nmAt bs i = nmAt bs (i + (rd (bs.drop i)).2) := by
 have e : prt (bs.drop i) = prt (bs.drop (i + (rd (bs.drop i)).2)) := by rw [Yet (Yfq h) hk, hp, Bool.true_and, drop_drop]
 unfold nmAt
 rw [if_neg (show ¬ i + (rd (bs.drop i)).2 = 0 by omega), <- e]
 split
 ·next h0 => subst h0; have := hs rfl; rw [drop_zero] at this ⊢; rw [this, Bool.true_and]
 ·rfl
theorem nmAt_bad {bs : List UInt8} {i : Nat} (h : i < bs.length) (hk : (rd (bs.drop i)).2 = 0) : nmAt bs i = false := by
 unfold nmAt
 split
 ·next h0 => subst h0; rw [drop_zero] at hk; rw [prt_bad (by intro e; rw [e] at h; simp at h) hk, Bool.and_false]
 ·exact prt_bad (Yfq h) hk
theorem nmAt_part {bs : List UInt8} {i : Nat} (h : i < bs.length) (hp : isPt (rd (bs.drop i)).1 = false) : nmAt bs i = false := by
 by_cases hk : (rd (bs.drop i)).2 = 0
 ·exact nmAt_bad h hk
 have e : prt (bs.drop i) = false := by rw [Yet (Yfq h) hk, hp, Bool.false_and]
 unfold nmAt
 split
 ·next h0 => subst h0; rw [drop_zero] at e; rw [e, Bool.and_false]
 ·exact e
theorem nmAt_start {bs : List UInt8} (hs : isSt (rd (bs.drop 0)).1 = false) : nmAt bs 0 = false := by
 unfold nmAt
 rw [drop_zero] at hs
 rw [if_pos rfl, hs, Bool.false_and]
theorem nm_at (bs : List UInt8) : nm bs = (decide (bs ≠ []) && decide (bs.length <= 100) && nmAt bs 0) := by
 unfold nm nmAt
 rw [if_pos rfl, Bool.and_assoc (decide _ && decide _)]
end Go.Vc
namespace Go.Proofs.YtjlgopfceebdcaaGreatDoor
open Go Go.Vc Go.Lib
section
variable {w : World}
set_option maxRecDepth 100000 in
theorem NameC_ok {s : ByteArray} {J : Bool -> World -> Prop} (T : YfJ w) (K : ∀ w', Chg No w w' -> J (nm (bl s)) w') : Zz1 Tryz.prog Yat #[.string s] w [.one .bool] J := by
  refine c_char_Name ?_
  refine Zzf fun J16 hJ16 => ?_
  have k16 : ∀ b w1, Chg No w w1 -> (b = true ↔ (bl s = [] \/ 100 < s.size \/ vld (bl s) = false)) -> J16 b w1 := by
    intro b w1 hc1 hb; subst hJ16
    refine meetI hb (fun hh => ?_) (fun hn => ?_)
    · have e : nm (bl s) = false := by
        unfold nm
        rcases hh with h | h | h
        · simp [h]
        · rw [show decide ((bl s).length <= 100) = false from decide_eq_false (by rw [ZzA]; omega)]; simp
        · cases hp : prt (bl s) with
          | false => simp
          | true => rw [prt_vld _ hp] at h; cases h
      rw [<- e]; exact K w1 hc1
    · have hne : bl s ≠ [] := fun e => hn (.inl e)
      have hlen := ZzA s
      have hv : vld (bl s) = true := by cases h : vld (bl s) with | true => rfl | false => exact absurd (.inr (.inr h)) hn
      have hnm : nm (bl s) = nmAt (bl s) 0 := by
        rw [nm_at, decide_eq_true hne, decide_eq_true (show (bl s).length <= 100 by omega)]; rfl
      rw [hnm] at K
      refine newB_i fun b18 w2 hb18 hw2 => ?_
      have hc2 : Chg No w w2 := by rw [hw2]; exact hc1.alloc _
      have hh2 : w2.heap[b18]? = some (.stringIter s 0) := by rw [hb18, hw2]; exact heap_alloc_new w1 _
      have hfr : w.heap.size <= b18 := by rw [hb18]; exact hc1.size
      refine ⟨fun w' m => ∃ i : Nat, Chg No w w' /\ w'.heap[b18]? = some (.stringIter s i) /\ i <= s.size /\ m = s.size - i /\ vld ((bl s).drop i) = true /\ nmAt (bl s) i = nmAt (bl s) 0, ⟨_, 0, hc2, hh2, Nat.zero_le _, rfl, by rw [List.drop_zero]; exact hv, rfl⟩, ?_⟩
      rintro w3 m ⟨i, hc3, hh3, hi, rfl, hvi, hat⟩
      refine ⟨s, i, hh3, fun hlt => ?_, fun hge => ?_⟩
      · have hlt' : i < (bl s).length := by omega
        have hk : (rd ((bl s).drop i)).2 ≠ 0 := fun h => by rw [vld_bad (Yfq hlt') h] at hvi; cases hvi
        rw [decode_dec, dec_of_rd hk]
        have hle := rd_le _ (Yfq hlt')
        rw [List.length_drop] at hle
        generalize hw4 : setBlk w3 b18 (.stringIter s (i + (rd ((bl s).drop i)).2)) = w4
        have hc4 : Chg No w w4 := by rw [<- hw4]; exact hc3.setBlk _ _ (fun h => by omega)
        have hh4 : w4.heap[b18]? = some (.stringIter s (i + (rd ((bl s).drop i)).2)) := by rw [<- hw4]; exact setBlk_at (Zy8 hh3)
        refine Zzf fun J34 hJ34 => ?_
        have k34 : ∀ b w6, Chg No w4 w6 -> (b = true ↔ ((i = 0 /\ isSt (rd ((bl s).drop i)).1 = false) \/ isPt (rd ((bl s).drop i)).1 = false)) -> J34 b w6 := by
          intro b w6 hc6 hb; subst hJ34
          have hc := hc4.trans0 hc6
          refine meetI hb (fun hh => ?_) (fun hn2 => ?_)
          · have e : nmAt (bl s) 0 = false := by
              rw [<- hat]
              rcases hh with ⟨h0, h⟩ | h
              · subst h0; exact nmAt_start h
              · exact nmAt_part hlt' h
            rw [<- e]; exact K _ hc
          · have hp : isPt (rd ((bl s).drop i)).1 = true := by cases h : isPt (rd ((bl s).drop i)).1 with | true => rfl | false => exact absurd (.inr h) hn2
            have hs : i = 0 -> isSt (rd ((bl s).drop i)).1 = true := fun h0 => by cases h : isSt (rd ((bl s).drop i)).1 with | true => rfl | false => exact absurd (.inl ⟨h0, h⟩) hn2
            exact ⟨_, by omega, i + (rd ((bl s).drop i)).2, hc, hc6.heap hh4 (fun f => f), by omega, rfl, by rw [<- List.drop_drop, <- Ygk (Yfq hlt') hk]; exact hvi, by rw [<- nmAt_step hlt' hk hp hs]; exact hat⟩
        clear hJ34
        refine Zzj (fun h0 => ?_) (fun h0 => ?_)
        · have h0 : i = 0 := by omega
          refine YfM fun w7 hc7 => ?_
          refine ZzU (fun hs => k34 _ _ hc7 (bT (.inl ⟨h0, hs⟩))) (fun hs => ?_)
          refine Yf2 fun w8 hc8 => k34 _ _ (hc7.trans0 hc8) ?_
          rw [Bool.not_eq_true']
          exact ⟨fun h => .inr h, fun h => h.elim (fun h => by rw [hs] at h; cases h.2) id⟩
        · refine Yf2 fun w8 hc8 => k34 _ _ hc8 ?_
          rw [Bool.not_eq_true']
          exact ⟨fun h => .inr h, fun h => h.elim (fun h => absurd h.1 (by omega)) id⟩
      · have : i = (bl s).length := by omega
        rw [this, nmAt_end hne] at hat
        rw [<- hat] at K
        exact K _ hc3
  clear hJ16
  rw [YbD, YbD, show bl ⟨#[]⟩ = [] from rfl]
  refine Zzd (fun h => k16 _ _ (Chg.refl _ _) (bT (.inl (by simpa using h)))) (fun h1 => ?_)
  have h1 : bl s ≠ [] := by simpa using h1
  refine Zz5 (fun h => k16 _ _ (Chg.refl _ _) (bT (.inr (.inl (by omega))))) (fun h2 => ?_)
  refine ValidString_ok T fun w10 hc10 => k16 _ _ hc10 ?_
  rw [Bool.not_eq_true']
  exact ⟨fun h => .inr (.inr h), fun h => h.elim (fun h => absurd h h1) fun h => h.elim (fun h => absurd h (by omega)) id⟩
end
end Go.Proofs.YtjlgopfceebdcaaGreatDoor
namespace Go.Vc
open Go Go.Lib
end Go.Vc
namespace Go.Proofs.YtjlgopfceebdcaaGreatDoor
open Go Go.Vc Go.Lib
section
variable {w : World}
end
end Go.Proofs.YtjlgopfceebdcaaGreatDoor
namespace Go.Vc
open Go Go.Lib
end Go.Vc
end
section
namespace Go.Vc
open Go Go.RowKit
section
variable {w : World} {α : Type} {f : α -> List Value} {sz : Nat} {e : TypeId}
theorem Row.stE {p : Option Addr} {l c : Nat} {L : List α} (hE : Yej f sz L) (hr : Row w e sz p l c (rows f L)) {i : Int} (h0 : 0 <= i) (h1 : i < l) {x : α} (hx : (f x).length = sz) (h1x : one1 (f x)) (hsz : 0 < sz) {K : World -> Prop}
  (k : ∀ w', Row w' e sz p l c (rows f (L.set i.toNat x)) -> Chg (isB p) w w' -> K w') : ZyN p l i fun a => stN w (a.add (i.toNat * sz)) ⟨f x⟩ sz K := by
 obtain ⟨b, rest, rfl, hh, hle, hmax, hlen⟩ := hr.some0 (by omega)
 have hll := hr.sl.row hE hsz
 have hlt : i.toNat < L.length := by omega
 refine YbF h0 h1 ?_
 rw [Addr.add_mk, Nat.zero_add]
 have H := (Hp.start w (isB (some ⟨b, 0, none⟩))).add hh (by simp) (fun _ => ⟨_, rfl, rfl⟩)
 have hrl : (rows f L).length = L.length * sz := Zya hE
 have hfit : i.toNat * sz + sz <= (rows f L).length := by
  rw [hrl, <- Nat.succ_mul]; exact Nat.mul_le_mul_right _ hlt
 refine H.stN 0 rfl (off := i.toNat * sz) hx (by rw [length_append]; omega) h1x fun w' H' hc => ?_
 have e1 : splice (rows f L ++ rest) (i.toNat * sz) (f x) = rows f (L.set i.toNat x) ++ rest := by
  rw [Yen (by rw [hx]; exact hfit), YgJ hE hlt hx]
 simp only [set_cons_zero] at H'
 rw [e1] at H'
 have hE' := hE.set hx i.toNat
 exact k w' (H'.asRow 0 rfl rfl (by rw [Zya hE', length_set, hll]) hle hmax (by rw [length_append, Zya hE', length_set, <- hrl, <- length_append]; exact hlen)) H'.chg
theorem clr_row {P : Program} {t : TypeId} {by_ : Nat} {z : Array Value} (T : SlT P t e sz by_ z) (hz1 : one1 z.toList) {p : Option Addr} {l c i : Nat} {A Z : List Value} (hr : Row w e sz p l c (A ++ Z)) (hA : A.length = i * sz) (hi : i < l) {K : World -> Prop}
  (k : ∀ w', Row w' e sz p i c A -> Chg (isB p) w w' -> K w') :
  slS p l c sz (some (i : Int)) none none fun q m d => clrJ P t (.slice q m d) w K := by
 obtain ⟨b, rest, rfl, hh, hle, hmax, hlen⟩ := hr.some0 (by omega)
 obtain ⟨ti, v, hti, hz, hsz, hby, hv⟩ := T.info
 refine ⟨i, l, c, rfl, rfl, rfl, by omega, hle, Nat.le_refl _, ?_⟩
 rw [if_neg (show ¬ c = i by omega)]
 simp only [Option.map_some, Addr.add_mk, Nat.zero_add]
 obtain ⟨m, hm⟩ : ∃ m, l - i = m + 1 := ⟨l - i - 1, by omega⟩
 have hl := hr.len
 rw [length_append, hA] at hl
 have hZ : Z.length = (l - i) * sz := by rw [Nat.sub_mul]; omega
 have hbig : i * sz + (l - i) * sz <= (A ++ Z ++ rest).length := by
  rw [length_append, length_append, hA, hZ]; omega
 generalize hcs : A ++ Z ++ rest = cs at *
 have hzl : ((replicate (l - i) z.toList).flatten).length = (l - i) * sz := by
  rw [length_flatten, map_replicate, sum_replicate_nat, Array.length_toList, T.hz]
 have hone : one1 (replicate (l - i) z.toList).flatten := by
  intro x hx
  obtain ⟨y, hy, hxy⟩ := mem_flatten.1 hx
  rw [(mem_replicate.1 hy).2] at hxy
  exact hz1 x hxy
 have hcan : ∀ j, j < ((replicate (l - i) z.toList).flatten).length -> canW w ((⟨b, i * sz, none⟩ : Addr).add (0 + j)) := by
  intro j hj
  rw [hzl] at hj
  rw [Addr.add_mk]
  exact ⟨⟨cs[i * sz + (0 + j)]'(by omega), by rw [cell_of_row w b _ _ e (0, 0) hh]; simp⟩, frozen_of_row w b _ _ e hh⟩
 have hrun := Zqd (P := P) _ 0 w ⟨b, i * sz, none⟩ hone hcan
 refine ⟨setCells w ⟨b, i * sz, none⟩ 0 (replicate (l - i) z.toList).flatten, fun ty => ?_, ?_⟩
 ·have hzc : (Builtin.zeroCells v.cells (m + 1)).toList = (replicate (l - i) z.toList).flatten := by
   unfold Builtin.zeroCells
   rw [hv, zrow_eq z (m + 1), hm]
  rw [hm] at hrun ⊢
  rw [hm] at hzc
  simp only [Builtin.clear_, getElem?_toArray, getElem?_cons_zero, Sem.run_bind, run_underlying T.hu, Result.andThen_ok, zeroValue, typeInfo, run_program, hti, hz, Sem.run_pure, hzc, hrun]
 ·rw [ZqC _ 0 (i * sz) cs w hh (by rw [hzl]; omega)]
  have e1 : cs.take (i * sz + 0) ++ (replicate (l - i) z.toList).flatten ++ cs.drop (i * sz + 0 + (replicate (l - i) z.toList).flatten.length) = A ++ ((replicate (l - i) z.toList).flatten ++ rest) := by
   rw [<- hcs, hzl, Nat.add_zero, append_assoc A Z rest, <- hA, take_left, append_assoc]
   congr 2
   rw [<- drop_drop, drop_left, <- hZ, drop_left]
  rw [e1]
  have H := (Hp.start w (isB (some ⟨b, 0, none⟩))).add hh (by simp) (fun _ => ⟨_, rfl, rfl⟩)
  have H' := H.row 0 rfl (A ++ ((replicate (l - i) z.toList).flatten ++ rest))
  simp only [set_cons_zero] at H'
  refine k _ (H'.asRow 0 rfl rfl hA (by omega) hmax ?_) H'.chg
  rw [<- hlen, <- hcs]
  simp only [length_append, hzl, hZ]; omega
end
end Go.Vc
end
section
namespace Go.Vc
open Go Go.Lib
abbrev Pr := ByteArray × ByteArray
def pr (x : Pr) : List Value := [.string x.1, .string x.2]
theorem beqS (x y : ByteArray) : (x.toList == y.toList) = decide (x = y) := by
 rw [YbD, YbD, Bool.eq_iff_iff, beq_iff_eq, decide_eq_true_eq]
 exact ⟨Yhg, fun h => by rw [h]⟩
def mkB (l : List UInt8) : ByteArray := ⟨l.toArray⟩
theorem bl_mkB (l : List UInt8) : bl (mkB l) = l := by simp [bl, mkB]
theorem mkB_bl (s : ByteArray) : mkB (bl s) = s := Yhg (bl_mkB _)
theorem mkB_eq {l : List UInt8} {s : ByteArray} (h : bl s = l) : mkB l = s := by rw [<- h, mkB_bl]
end Go.Vc
namespace Go.Proofs.YtjlgopfceebdcaaGreatDoor
open Go Go.Vc Go.Lib
section
variable {w : World}
theorem YaG {α : Type} {P : α -> Bool} {L : List α} {i : Nat} {x : α} (h : L[i]? = some x) : (L.take (i + 1)).filter P = (L.take i).filter P ++ (if P x then [x] else []) := by
  obtain ⟨h1, h2⟩ := List.getElem?_eq_some_iff.1 h
  rw [List.take_succ_eq_append_getElem h1, List.filter_append, h2]
  congr 1
  cases hx : P x <;> simp [hx]
end
end Go.Proofs.YtjlgopfceebdcaaGreatDoor
end
section
namespace Go.Proofs.YtjlgopfceebdcaaGreatDoor
open Go Go.Vc
theorem Ye1 {a b : ByteArray} {w : World} {J : Bool -> World -> Prop} (h :
 ∃ ar : Int -> World -> Nat -> Prop, (∃ au, ar (0 : Int) w au) /\ ∀ av ax au, ar av ax au -> (
 Zz2 (decide (av < (if (b.size : Int) < (a.size : Int) then (b.size : Int) else (a.size : Int)))) (
 Zzl (fun (ac : World) =>
 ∃ ay, ay < au /\ ar (w64 (av + (1 : Int))) ac ay) fun c =>
 Zy9 a av fun d =>
 Zy9 b av fun e =>
 Zz2 (decide ((bOr .u8 d e) >= (128 : Int))) (
 Yay a (some av) none fun f =>
 Yay b (some av) none fun g =>
 newB ax (.stringIter f 0) fun i j =>
 ∃ az : ByteArray -> World -> Nat -> Prop, (∃ au, az g j au) /\ ∀ (b : ByteArray) (ad : World) (m_1 : Nat), az b ad m_1 -> (
 nextS ad i (fun k l m =>
 Zz2 ((b.size : Int) == (0 : Int)) (
 J false m) (
 Zz1 Tryz.prog ZzJ #[.string b] m [.one (.int .i32), .one (.int .i64)] fun n o p =>
 Yay b (some o) none fun q =>
 Zz2 (n == l) (
 ∃ ay, ay < m_1 /\ az q p ay) (
 Zzl (fun (ae : Int) (af : Int) (ag : World) =>
 Zz2 (decide (af < (128 : Int))) (
 Zzl (fun (ai : Bool) (aj : World) =>
 Zz2 ai (
 ∃ ay, ay < m_1 /\ az q aj ay) (
 J false aj)) fun r =>
 Zz2 (decide ((65 : Int) <= ae)) (
 Zz2 (decide (ae <= (90 : Int))) (
 r (af == (IntKind.i32.wrap ((IntKind.i32.wrap (ae + (97 : Int))) - (65 : Int)))) ag) (
 r false ag)) (
 r false ag)) (
 Zz1 Tryz.prog ZyO #[.int .i32 ae] ag [.one (.int .i32)] fun s t =>
 ∃ a0 : Int -> World -> Nat -> Prop, (∃ au, a0 s t au) /\ ∀ a1 a2 a3, a0 a1 a2 a3 -> (
 Zzl (fun (ak : Bool) (al : World) =>
 Zz2 ak (
 Zz1 Tryz.prog ZyO #[.int .i32 a1] al [.one (.int .i32)] fun u v =>
 ∃ ay, ay < a3 /\ a0 u v ay) (
 Zz2 (a1 == af) (
 ∃ ay, ay < m_1 /\ az q al ay) (
 J false al))) fun x =>
 Zz2 (a1 != ae) (
 x (decide (a1 < af)) a2) (
 x false a2)))) fun y =>
 Zz2 (decide (n < l)) (
 y n l p) (
 y l n p)))) (fun z =>
 J ((b.size : Int) == (0 : Int)) z))) (
 Zz2 (e == d) (
 c ax) (
 Zzl (fun (am : Int) (an : Int) (ao : World) =>
 Zzl (fun (ap : Bool) (aq : World) =>
 Zz2 ap (
 c aq) (
 J false aq)) fun aa =>
 Zz2 (decide ((65 : Int) <= am)) (
 Zz2 (decide (am <= (90 : Int))) (
 aa (an == (IntKind.u8.wrap ((IntKind.u8.wrap (am + (97 : Int))) - (65 : Int)))) ao) (
 aa false ao)) (
 aa false ao)) fun ab =>
 Zz2 (decide (e < d)) (
 ab e d ax) (
 ab d e ax)))) (
 J ((a.size : Int) == (b.size : Int)) ax))) : Zz1 Tryz.prog Zq8 #[.string a, .string b] w [.one .bool] J := Zz6 Tryz.func83 (.s .o (.g 0 (.s .o (.s (.s .o (.b (.l [(5, .int .i64)] (.s (.s .o (.c .o .o)) (.j [] (.b (.s .o (.s .o (.s (.s .o (.c .o .o)) (.s (.s .o (.c .o .o)) (.j [(7, .int .u8), (8, .int .u8)] (.s .o (.c .o .o)) (.s (.j [(54, .bool)] .o (.c .o .o)) (.s .o .o)))))))) .o))))) (.s (.s .o .o) .u))) (.s .o (.s .o (.s .o (.s (.s .o (.b (.l [(1, .str)] (.s .o (.s (.c .o .o) (.b (.s .o (.s (.s .o (.c (.s .o .o) .o)) (.s .o (.s .o (.s (.s .o (.c .o .o)) (.j [(10, .int .i32) , (11, .int .i32)] (.s .o (.c .o .o)) (.s (.s .o (.c (.s (.j [(104, .bool)] .o (.c .o .o)) (.s .o .o)) .o)) (.s .o (.s (.b (.l [(13, .int .i32)] (.s (.j [(114, .bool)] .o (.c .o .o)) (.b .o)))) (.s (.s .o (.c .o .o)) (.s .o .o))))))))))))))))) (.s .o .o))))))) (Eq.mpr (by kernel_rfl) h)
theorem Ye0 {a b : ByteArray} {w : World} {J : Bool -> World -> Prop} (h :
 Zz1 Tryz.prog ZyP #[.string a, .string b] w [.one .bool] fun c d =>
 J c d) : Zz1 Tryz.prog Zq7 #[.string a, .string b] w [.one .bool] J := Zz6 Tryz.func88 (.s .o (.s .o .o)) (Eq.mpr (by kernel_rfl) h)
theorem ZqZ {a b : ByteArray} {w : World} {J : Bool -> World -> Prop} (h :
 Zzl (fun (e : Bool) (f : World) =>
 J e f) fun c =>
 Zz2 (decide ((a.size : Int) >= (b.size : Int))) (
 Yay a (some (w64 ((a.size : Int) - (b.size : Int)))) none fun d =>
 c (d.toList == b.toList) w) (
 c false w)) : Zz1 Tryz.prog ZyP #[.string a, .string b] w [.one .bool] J := Zz6 Tryz.func151 (.s .o (.j [(4, .bool)] .o .o)) (Eq.mpr (by kernel_rfl) h)
theorem Ydt {a : Int} {w : World} {J : Int -> World -> Prop} (h :
 Zzl (fun (am : Bool) (an : World) =>
 Zz2 am (
 J a an) (
 Zz2 (decide ((w64 a) < (128 : Int))) (
 ZyN (some ⟨2, 0, none⟩) 128 a fun b =>
 ldI .u16 an ((b.add (a.toNat * 1))) fun c =>
 J (IntKind.i32.wrap c) an) (
 ldS an ⟨3, 0, none⟩ fun d e f =>
 ∃ av : Int -> Int -> World -> Nat -> Prop, (∃ ax, av (0 : Int) (e : Int) an ax) /\ ∀ (ao : Int) (ap : Int) (aq : World) (ax : Nat), av ao ap aq ax -> (
 Zz2 (decide (ao < ap)) (
 0 <= (1 : Int) /\
 ldS aq ⟨3, 0, none⟩ fun g i j =>
 ZyN g i (w64 (Ycf .u64 (IntKind.u64.wrap (w64 (ao + ap))) (1 : Int))) fun k =>
 ldI .u16 aq ((k.add ((w64 (Ycf .u64 (IntKind.u64.wrap (w64 (ao + ap))) (1 : Int))).toNat * 2))) fun l =>
 Zz2 (decide ((IntKind.i32.wrap l) < a)) (
 ∃ ay, ay < ax /\ av (w64 ((w64 (Ycf .u64 (IntKind.u64.wrap (w64 (ao + ap))) (1 : Int))) + (1 : Int))) ap aq ay) (
 ∃ ay, ay < ax /\ av ao (w64 (Ycf .u64 (IntKind.u64.wrap (w64 (ao + ap))) (1 : Int))) aq ay)) (
 Zzl (fun (ar : Bool) (au : World) =>
 Zz2 ar (
 ldS au ⟨3, 0, none⟩ fun m n o =>
 ZyN m n ao fun p =>
 ldI .u16 au (((p.add (ao.toNat * 2)).add 1)) fun q =>
 J (IntKind.i32.wrap q) au) (
 ldS au ⟨4, 0, none⟩ fun r s t =>
 Zz1 Tryz.prog Ybd #[.int .i32 a, .slice r s t] au [.one .ptr] fun u v =>
 Zz2 (!u.isNone) (
 Zz1 Tryz.prog Ya1 #[.int .i64 1, .int .i32 a, .pointer u] v [.one (.int .i32)] fun x y =>
 Zz2 (x != a) (
 J x y) (
 Zz1 Tryz.prog Ya1 #[.int .i64 0, .int .i32 a, .pointer u] y [.one (.int .i32)] fun z aa =>
 J z aa)) (
 J a v))) fun ab =>
 ldS aq ⟨3, 0, none⟩ fun ac ad ae =>
 Zz2 (decide (ao < (ad : Int))) (
 ldS aq ⟨3, 0, none⟩ fun af ag ai =>
 ZyN af ag ao fun aj =>
 ldI .u16 aq ((aj.add (ao.toNat * 2))) fun ak =>
 ab ((IntKind.i32.wrap ak) == a) aq) (
 ab false aq)))))) fun al =>
 Zz2 (decide (a < (0 : Int))) (
 al true w) (
 al (decide (a > (1114111 : Int))) w)) : Zz1 Tryz.prog ZyO #[.int .i32 a] w [.one (.int .i32)] J := Zz6 Tryz.func147 (.s .o (.s (.j [(13, .bool)] .o (.c (.s .o .o) .o)) (.s (.s .o (.c (.s .o .o) .o)) (.s .o (.s .o (.s (.b (.l [(3, .int .i64), (4, .int .i64)] (.s (.s .o (.c .o .o)) (.b (.s .o (.s .o (.c .o .o))))))) (.s (.j [(57, .bool)] .o (.c (.s .o .o) .o)) (.s (.s .o (.s .o (.c (.s (.s .o (.s .o (.c (.s .o .o) .o))) (.s .o .o)) .o))) (.s .o .o))))))))) (Eq.mpr (by kernel_rfl) h)
theorem ZyS {a : ByteArray} {w : World} {J : Int -> Int -> World -> Prop} (h :
 Zzl (fun (i : Bool) (j : World) =>
 Zz2 i (
 Zy9 a (0 : Int) fun b =>
 J (IntKind.i32.wrap b) (1 : Int) j) (
 Zz1 Tryz.prog ZzS #[.string a] j [.one (.int .i32), .one (.int .i64)] fun c d e =>
 J c d e)) fun f =>
 Zz2 (!(a.toList == (⟨#[]⟩ : ByteArray).toList)) (
 Zy9 a (0 : Int) fun g =>
 f (decide (g < (128 : Int))) w) (
 f false w)) : Zz1 Tryz.prog ZzJ #[.string a] w [.one (.int .i32), .one (.int .i64)] J := Zz6 Tryz.func146 (.s .o (.s (.j [(10, .bool)] .o (.c (.s .o .o) .o)) .o)) (Eq.mpr (by kernel_rfl) h)
theorem Zqc {a : ByteArray} {w : World} {J : Int -> Int -> World -> Prop} (h :
 Zz2 (decide ((a.size : Int) < (1 : Int))) (
 J (65533 : Int) (0 : Int) w) (
 Zy9 a (0 : Int) fun b =>
 ZyN (some ⟨0, 0, none⟩) 256 b fun c =>
 ldI .u8 w ((c.add (b.toNat * 1))) fun d =>
 Zz2 (decide (d >= (240 : Int))) (
 0 <= (31 : Int) /\
 0 <= (31 : Int) /\
 Zy9 a (0 : Int) fun e =>
 J (bOr .i32 (YfB .i32 (IntKind.i32.wrap e) (Ycf .i32 (Yd8 .i32 (IntKind.i32.wrap d) (31 : Int)) (31 : Int))) (Ybh .i32 (65533 : Int) (Ycf .i32 (Yd8 .i32 (IntKind.i32.wrap d) (31 : Int)) (31 : Int)))) (1 : Int) w) (
 0 <= (4 : Int) /\
 ZyN (some ⟨1, 0, none⟩) 16 (Ycf .u8 d (4 : Int)) fun f =>
 ldI .u8 w ((f.add ((Ycf .u8 d (4 : Int)).toNat * 2))) fun g =>
 ldI .u8 w (((f.add ((Ycf .u8 d (4 : Int)).toNat * 2)).add 1)) fun i =>
 newB w (.cells (Zy6 Tryz.prog Zy1) Zy1) fun j k =>
 stN k ⟨j, 0, none⟩ ⟨[.int .u8 g, .int .u8 i]⟩ 2 fun l =>
 Zz2 (decide ((a.size : Int) < (w64 (Ybh .u8 d (7 : Int))))) (
 J (65533 : Int) (1 : Int) l) (
 Zy9 a (1 : Int) fun m =>
 Zzl (fun (u : Bool) (v : World) =>
 Zz2 u (
 J (65533 : Int) (1 : Int) v) (
 Zz2 (decide ((w64 (Ybh .u8 d (7 : Int))) <= (2 : Int))) (
 0 <= (6 : Int) /\
 J (bOr .i32 (Yd8 .i32 (IntKind.i32.wrap (Ybh .u8 b (31 : Int))) (6 : Int)) (IntKind.i32.wrap (Ybh .u8 m (63 : Int)))) (2 : Int) v) (
 Zy9 a (2 : Int) fun n =>
 Zzl (fun (x : Bool) (y : World) =>
 Zz2 x (
 J (65533 : Int) (1 : Int) y) (
 Zz2 (decide ((w64 (Ybh .u8 d (7 : Int))) <= (3 : Int))) (
 0 <= (12 : Int) /\
 0 <= (6 : Int) /\
 J (bOr .i32 (bOr .i32 (Yd8 .i32 (IntKind.i32.wrap (Ybh .u8 b (15 : Int))) (12 : Int)) (Yd8 .i32 (IntKind.i32.wrap (Ybh .u8 m (63 : Int))) (6 : Int))) (IntKind.i32.wrap (Ybh .u8 n (63 : Int)))) (3 : Int) y) (
 Zy9 a (3 : Int) fun o =>
 Zzl (fun (z : Bool) (aa : World) =>
 Zz2 z (
 J (65533 : Int) (1 : Int) aa) (
 0 <= (18 : Int) /\
 0 <= (12 : Int) /\
 0 <= (6 : Int) /\
 J (bOr .i32 (bOr .i32 (bOr .i32 (Yd8 .i32 (IntKind.i32.wrap (Ybh .u8 b (7 : Int))) (18 : Int)) (Yd8 .i32 (IntKind.i32.wrap (Ybh .u8 m (63 : Int))) (12 : Int))) (Yd8 .i32 (IntKind.i32.wrap (Ybh .u8 n (63 : Int))) (6 : Int))) (IntKind.i32.wrap (Ybh .u8 o (63 : Int)))) (4 : Int) aa)) fun p =>
 Zz2 (decide (o < (128 : Int))) (
 p true y) (
 p (decide ((191 : Int) < o)) y)))) fun q =>
 Zz2 (decide (n < (128 : Int))) (
 q true v) (
 q (decide ((191 : Int) < n)) v)))) fun r =>
 ldI .u8 l ⟨j, 0, none⟩ fun s =>
 Zz2 (decide (m < s)) (
 r true l) (
 ldI .u8 l ⟨j, 1, none⟩ fun t =>
 r (decide (t < m)) l))))) : Zz1 Tryz.prog ZzS #[.string a] w [.one (.int .i32), .one (.int .i64)] J := Zz6 Tryz.func205 (.s .o (.s .o (.s (.s .o (.c (.s .o .o) .o)) (.s .o (.s .o (.s (.s .o (.c (.s .o (.s .o .o)) .o)) (.s .o (.s .o (.s (.s .o (.c (.s .o .o) .o)) (.s .o (.s (.j [(57, .bool)] .o (.c (.s .o .o) .o)) (.s (.s .o (.c (.s .o .o) .o)) (.s .o (.s (.j [(75, .bool)] .o (.c (.s .o .o) .o)) (.s (.s .o (.c (.s .o .o) .o)) (.s .o (.s (.j [(98, .bool)] .o (.c (.s .o .o) .o)) (.s .o .o)))))))))))))))))) (Eq.mpr (by kernel_rfl) h)
end Go.Proofs.YtjlgopfceebdcaaGreatDoor
end
section
namespace Go.Proofs.YtjlgopfceebdcaaGreatDoor
open Go Go.Vc Go.Lib
section
variable {w : World}
set_option maxRecDepth 100000 in
set_option maxHeartbeats 1000000 in
theorem Yg5 {s : ByteArray} {J : Int -> Int -> World -> Prop} (hl : s.size ≠ 0) (T : YfJ w)
  (K : ∀ w', Chg No w w' -> J ((dec (bl s)).1 : Int) ((dec (bl s)).2 : Int) w') : Zz1 Tryz.prog ZzS #[.string s] w [.one (.int .i32), .one (.int .i64)] J := by
 refine Zqc ?_
 have hbl := ZzA s
 generalize hbs : bl s = bs at *
 refine Zz5 (fun hz => absurd hz (by omega)) fun _ => ?_
 refine ZzP (i := 0) (by omega) ?_
 rw [hbs]
 have l0 := Ybc bs 0; have l1 := Ybc bs 1; have l2 := Ybc bs 2; have l3 := Ybc bs 3
 refine YbF (by omega) (by omega) ?_
 rw [Addr.add_mk, Nat.zero_add, Nat.mul_one, Int.toNat_natCast]
 refine Zyw (T.1 _ l0) ?_
 refine Zz5 (fun hx => ?_) (fun hx => ?_)
 ·refine ⟨by decide, by decide, ?_⟩
  refine ZzP (i := 0) (by omega) ?_
  rw [hbs]
  rcases YgY (b := gB bs 0) (by omega) with hf | hf
  ·rw [hf, keep240 l0]
   exact leaf (show dec bs = (gB bs 0, 1) from ascii_eq _ _ _ _ _ hf) rfl (K w (Chg.refl _ _))
  ·rw [hf, drop241 l0]
   exact leafF (show dec bs = (65533, 1) from bad_eq _ _ _ _ _ l0 hf) (K w (Chg.refl _ _))
 ·have hx : firstT (gB bs 0) < 240 := by omega
  obtain ⟨s4, s2, s16, s256, _⟩ := Ybo hx
  have hdec : dec bs = slowN bs.length (gB bs 0) (gB bs 1) (gB bs 2) (gB bs 3) (firstT (gB bs 0) % 8) (accLo (firstT (gB bs 0) / 16)) (accHi (firstT (gB bs 0) / 16)) := (slow_eq _ _ _ _ _ (by omega) l1 l2 l3 hx).symm
  rw [hdec] at K
  rw [shr4, and7 s256, Zzt (by omega) (by omega)]
  generalize hsz : firstT (gB bs 0) % 8 = sz at *
  generalize hq : firstT (gB bs 0) / 16 = q at *
  refine ⟨by decide, YbF (by omega) (by omega) ?_⟩
  simp only [Addr.add_mk, Nat.zero_add, Int.toNat_natCast]
  have ht := T.2 q s16
  rw [Nat.mul_comm] at ht
  refine Zyw ht.1 (Zyw ht.2 ?_)
  rw [Ygx]
  refine (Hp.start w No).newB fun b9 w1 H1 hb9 hc1 => ?_
  refine H1.stN 0 rfl (off := 0) rfl (by decide) (by simp [one1, Value.oneCell']) fun w2 H2 hc2 => ?_
  have hc : Chg No w w2 := hc1.trans hc2 fun x hx he => by subst he; omega
  simp only [splice, take_zero, nil_append, set_cons_zero, length_cons, length_nil, drop_succ_cons, drop_nil, append_nil, Nat.zero_add] at H2
  refine Zz5 (fun hn => ?_) (fun hn => ?_)
  ·have e : slowN bs.length (gB bs 0) (gB bs 1) (gB bs 2) (gB bs 3) sz (accLo q) (accHi q) = (65533, 1) := by unfold slowN; rw [if_pos (by omega)]
   exact leafF e (K w2 hc)
  ·refine ZzP (i := 1) (by omega) ?_
   rw [hbs]
   refine Zzf fun J60 hJ60 => ?_
   have n1 : ¬ bs.length < sz := by omega
   have fail1 : (gB bs 1 < accLo q \/ accHi q < gB bs 1) -> J60 true w2 := fun hf => by
    subst hJ60
    have e : slowN bs.length (gB bs 0) (gB bs 1) (gB bs 2) (gB bs 3) sz (accLo q) (accHi q) = (65533, 1) := by unfold slowN; rw [if_neg n1, if_pos hf]
    exact leafF e (K w2 hc)
   refine H2.ldI 0 rfl (off := 0) rfl ?_
   refine Zz5 (fun hlo => fail1 (.inl (by omega))) (fun hlo => ?_)
   refine H2.ldI 0 rfl (off := 1) rfl ?_
   by_cases hhi : accHi q < gB bs 1
   ·rw [decide_eq_true (by omega)]; exact fail1 (.inr hhi)
   rw [decide_eq_false (by omega)]
   have n2 : ¬ (gB bs 1 < accLo q \/ accHi q < gB bs 1) := by omega
   clear fail1
   subst hJ60
   refine Zz5 (fun h2 => ?_) (fun h2 => ?_)
   ·have e : slowN bs.length (gB bs 0) (gB bs 1) (gB bs 2) (gB bs 3) sz (accLo q) (accHi q) = (gB bs 0 % 32 * 64 + gB bs 1 % 64, 2) := by unfold slowN; rw [if_neg n1, if_neg n2, if_pos (by omega)]
    refine ⟨by decide, ?_⟩
    rw [and31 l0, and63 l1, wrap_i32 _ (by omega) (by omega), wrap_i32 _ (by omega) (by omega), show (6 : Int) = ((6 : Nat) : Int) from rfl, shl32 _ 6 (by decide) (by omega), or32 6 (by decide) (by omega) (by omega) (by omega)]
    exact leaf e rfl (K w2 hc)
   ·refine ZzP (i := 2) (by omega) ?_
    rw [hbs]
    refine Zzf fun J79 hJ79 => ?_
    have fail2 : (gB bs 2 < 128 \/ 191 < gB bs 2) -> J79 true w2 := fun hf => by
     subst hJ79
     have e : slowN bs.length (gB bs 0) (gB bs 1) (gB bs 2) (gB bs 3) sz (accLo q) (accHi q) = (65533, 1) := by unfold slowN; rw [if_neg n1, if_neg n2, if_neg (by omega), if_pos hf]
     exact leafF e (K w2 hc)
    refine Zz5 (fun hlo => fail2 (.inl (by omega))) (fun hlo => ?_)
    by_cases hhi : 191 < gB bs 2
    ·rw [decide_eq_true (by omega)]; exact fail2 (.inr hhi)
    rw [decide_eq_false (by omega)]
    have n3 : ¬ (gB bs 2 < 128 \/ 191 < gB bs 2) := by omega
    clear fail2
    subst hJ79
    refine Zz5 (fun h3 => ?_) (fun h3 => ?_)
    ·have e : slowN bs.length (gB bs 0) (gB bs 1) (gB bs 2) (gB bs 3) sz (accLo q) (accHi q) = (gB bs 0 % 16 * 4096 + gB bs 1 % 64 * 64 + gB bs 2 % 64, 3) := by
      unfold slowN; rw [if_neg n1, if_neg n2, if_neg (by omega), if_neg n3, if_pos (by omega)]
     refine ⟨by decide, by decide, ?_⟩
     rw [and15 l0, and63 l1, and63 l2, wrap_i32 _ (by omega) (by omega), wrap_i32 _ (by omega) (by omega), wrap_i32 _ (by omega) (by omega), show (6 : Int) = ((6 : Nat) : Int) from rfl, show (12 : Int) = ((12 : Nat) : Int) from rfl,
      shl32 _ 12 (by decide) (by omega), shl32 _ 6 (by decide) (by omega), or32 12 (by decide) (by omega) (by omega) (by omega), or32 6 (by decide) (by omega) (by omega) (by omega)]
     exact leaf e rfl (K w2 hc)
    ·refine ZzP (i := 3) (by omega) ?_
     rw [hbs]
     refine Zzf fun J103 hJ103 => ?_
     have fail3 : (gB bs 3 < 128 \/ 191 < gB bs 3) -> J103 true w2 := fun hf => by
      subst hJ103
      have e : slowN bs.length (gB bs 0) (gB bs 1) (gB bs 2) (gB bs 3) sz (accLo q) (accHi q) = (65533, 1) := by unfold slowN; rw [if_neg n1, if_neg n2, if_neg (by omega), if_neg n3, if_neg (by omega), if_pos hf]
      exact leafF e (K w2 hc)
     refine Zz5 (fun hlo => fail3 (.inl (by omega))) (fun hlo => ?_)
     by_cases hhi : 191 < gB bs 3
     ·rw [decide_eq_true (by omega)]; exact fail3 (.inr hhi)
     rw [decide_eq_false (by omega)]
     have n4 : ¬ (gB bs 3 < 128 \/ 191 < gB bs 3) := by omega
     clear fail3
     subst hJ103
     have e : slowN bs.length (gB bs 0) (gB bs 1) (gB bs 2) (gB bs 3) sz (accLo q) (accHi q) = (gB bs 0 % 8 * 262144 + gB bs 1 % 64 * 4096 + gB bs 2 % 64 * 64 + gB bs 3 % 64, 4) := by
      unfold slowN; rw [if_neg n1, if_neg n2, if_neg (by omega), if_neg n3, if_neg (by omega), if_neg n4]
     refine ⟨by decide, by decide, by decide, ?_⟩
     rw [and7 l0, and63 l1, and63 l2, and63 l3, wrap_i32 _ (by omega) (by omega), wrap_i32 _ (by omega) (by omega), wrap_i32 _ (by omega) (by omega), wrap_i32 _ (by omega) (by omega),
      show (6 : Int) = ((6 : Nat) : Int) from rfl, show (12 : Int) = ((12 : Nat) : Int) from rfl, show (18 : Int) = ((18 : Nat) : Int) from rfl,
      shl32 _ 18 (by decide) (by omega), shl32 _ 12 (by decide) (by omega), shl32 _ 6 (by decide) (by omega), or32 18 (by decide) (by omega) (by omega) (by omega), or32 12 (by decide) (by omega) (by omega) (by omega), or32 6 (by decide) (by omega) (by omega) (by omega)]
     exact leaf e rfl (K w2 hc)
set_option maxRecDepth 100000 in
theorem DecodeRuneS_ok {s : ByteArray} {J : Int -> Int -> World -> Prop} (hl : s.size ≠ 0) (T : YfJ w)
  (K : ∀ w', Chg No w w' -> J ((dec (bl s)).1 : Int) ((dec (bl s)).2 : Int) w') : Zz1 Tryz.prog ZzJ #[.string s] w [.one (.int .i32), .one (.int .i64)] J := by
 refine ZyS ?_
 refine Zzf fun J10 hJ10 => ?_
 have hne : (!(s.toList == (⟨#[]⟩ : ByteArray).toList)) = true := by
  rw [beqS, decide_eq_false (fun e => hl (by rw [e]; rfl))]; rfl
 rw [hne]
 refine Zzd (fun _ => ?_) (fun h => by cases h)
 refine ZzP (i := 0) (by omega) ?_
 by_cases h1 : gB (bl s) 0 < 128
 ·rw [decide_eq_true (by omega)]
  subst hJ10
  refine Zzd (fun _ => ?_) (fun h => by cases h)
  refine ZzP (i := 0) (by omega) ?_
  have e : dec (bl s) = (gB (bl s) 0, 1) := by unfold dec decodeN; rw [if_pos (by omega)]
  have l0 := Ybc (bl s) 0
  rw [wrap_i32 _ (by omega) (by omega)]
  exact leaf e rfl (K w (Chg.refl _ _))
 ·rw [decide_eq_false (by omega)]
  subst hJ10
  refine Zzd (fun h => by cases h) (fun _ => ?_)
  exact Yg5 hl T K
end
end Go.Proofs.YtjlgopfceebdcaaGreatDoor
end
section
namespace Go.Proofs.YtjlgopfceebdcaaGreatDoor
open Go Go.Vc
theorem YcR {a : Addr} {b : Int} {w : World} {J : Bool -> World -> Prop} (h :
 Zzl (fun (j : Bool) (k : World) =>
 J j k) fun c =>
 ldI .i64 w.drew ((a.add 1)) fun d =>
 ldStr w.drew a fun e =>
 Zz2 (decide (d < (e.size : Int))) (
 ldStr w.drew a fun f =>
 ldI .i64 w.drew ((a.add 1)) fun g =>
 Zy9 f g fun i =>
 c (i == b) w.drew) (
 c false w.drew)) : Zz1 Tryz.prog ZyB #[.pointer (some a), .int .u8 b] w [.one .bool] J := Zz6 Tryz.func99 (.s .o (.j [(4, .bool)] (.d (.take 0 (.take 1 (.take 2 (.take 3 (.take 4 (.take 5 (.take 6 (.take 7 (.take 8 (.take 9 (.take 10 (.take 11 (.take 12 (.take 13 (.take 14 (.take 15 (.take 16 (.take 17 (.take 18 (.take 19 (.take 20 (.take 21 (.take 22 (.take 23 .done))))))))))))))))))))))))) .o)) (Eq.mpr (by kernel_rfl) h)
theorem Ydu {a : Addr} {b : Int} {w : World} {J : Bool -> World -> Prop} (h :
 Zz1 Tryz.prog ZyB #[.pointer (some a), .int .u8 b] w [.one .bool] fun c d =>
 Zz2 c (
 ldI .i64 d ((a.add 1)) fun e =>
 stV d ((a.add 1)) (.int .i64 (w64 (e + (1 : Int)))) fun f =>
 J true f) (
 J false d)) : Zz1 Tryz.prog Zzv #[.pointer (some a), .int .u8 b] w [.one .bool] J := Zz6 Tryz.func97 (.s .o (.s (.s .o (.c (.s .o (.s .o .o)) .o)) (.s .o .o))) (Eq.mpr (by kernel_rfl) h)
theorem YcO {a : Addr} {b : Int} {w : World} {J : World -> Prop} (h :
 Zzl (fun (j : World) =>
 ldI .i64 j ((a.add 1)) fun c =>
 stV j ((a.add 1)) (.int .i64 (w64 (c + (1 : Int)))) fun d =>
 J d) fun e =>
 Zz1 Tryz.prog ZyB #[.pointer (some a), .int .u8 b] w [.one .bool] fun f g =>
 Zz2 (!f) (
 Zz1 Tryz.prog Zyh #[.pointer (some a)] g [] fun i =>
 e i) (
 e g)) : Zz1 Tryz.prog ZzG #[.pointer (some a), .int .u8 b] w [] J := Zz6 Tryz.func96 (.j [] (.s .o (.c .o .o)) .o) (Eq.mpr (by kernel_rfl) h)
theorem YcN {a : Addr} {b : Int} {w : World} {J : ByteArray -> World -> Prop} (h :
 ldStr w.drew a fun c =>
 ldI .i64 w.drew ((a.add 1)) fun d =>
 Yay c (some d) none fun e =>
 Zz1 Tryz.prog Zxb #[.string e, .int .u8 b] w.drew [.one (.int .i64)] fun f g =>
 Zzl (fun (s : World) =>
 ldStr s.drew a fun i =>
 ldI .i64 s.drew ((a.add 1)) fun j =>
 ldI .i64 s.drew ((a.add 1)) fun k =>
 Yay i (some j) (some (w64 (k + f))) fun l =>
 ldI .i64 s.drew ((a.add 1)) fun m =>
 stV s.drew ((a.add 1)) (.int .i64 (w64 (m + (w64 (f + (1 : Int)))))) fun n =>
 J l n) fun o =>
 Zz2 (decide (f < (0 : Int))) (
 ldStr g a fun p =>
 stV g ((a.add 1)) (.int .i64 (p.size : Int)) fun q =>
 Zz1 Tryz.prog Zyh #[.pointer (some a)] q [] fun r =>
 o r) (
 o g)) : Zz1 Tryz.prog Zxy #[.pointer (some a), .int .u8 b] w [.one .str] J := Zz6 Tryz.func159 (.s .o (.s (.d (.take 0 (.take 1 (.take 2 (.take 3 (.take 4 (.take 5 (.take 6 (.take 7 (.take 8 (.take 9 (.eff 10 (.take 11 .done) .none)))))))))))) (.j [] (.s .o (.c (.s .o .o) .o)) (.s (.d (.take 0 (.take 1 (.take 2 (.take 3 (.take 4 (.take 5 (.take 6 (.take 7 (.take 8 (.take 9 (.take 10 (.take 11 (.take 12 (.take 13 (.take 14 (.take 15 .done))))))))))))))))) (.s .o (.s .o .o)))))) (Eq.mpr (by kernel_rfl) h)
theorem YcQ {a : Addr} {w : World} {J : ByteArray -> ByteArray -> World -> Prop} (h :
 newB w (.cells (Zy6 Tryz.prog Zzs) Zzs) fun b c =>
 ldI .i64 c ((a.add 1)) fun d =>
 Zzl (fun (a4 : World) =>
 Zzl (fun (a5 : World) =>
 ldStr a5.drew a fun e =>
 ldI .i64 a5.drew ((a.add 1)) fun f =>
 Yay e (some d) (some f) fun g =>
 newB a5.drew (.cells (Zy6 Tryz.prog Zzs) Zzs) fun i j =>
 j.cell? ((a.add 1)) = some (.int .i64 f) /\
 j.cell? a = some (.string e) /\
 stN j ⟨i, 0, none⟩ ⟨[.string ByteArray.empty, .string g]⟩ 2 fun k =>
 Zzl (fun (a6 : World) =>
 ldStr a6 ⟨i, 0, none⟩ fun l =>
 ldStr a6 ⟨i, 1, none⟩ fun m =>
 stN a6 ⟨b, 0, none⟩ ⟨[.string l, .string m]⟩ 2 fun n =>
 ldStr n ⟨b, 0, none⟩ fun o =>
 ldStr n ⟨b, 1, none⟩ fun p =>
 J o p n) fun q =>
 Zz1 Tryz.prog Zzv #[.pointer (some a), .int .u8 123] k [.one .bool] fun r s =>
 Zz2 r (
 Zz1 Tryz.prog Zxy #[.pointer (some a), .int .u8 125] s [.one .str] fun t u =>
 stV u ⟨i, 0, none⟩ (.string t) fun v =>
 ldStr v ⟨i, 0, none⟩ fun x =>
 Zz2 (x.toList == (⟨#[]⟩ : ByteArray).toList) (
 ldI .i64 v ((a.add 1)) fun y =>
 stV v ((a.add 1)) (.int .i64 (w64 (y - (1 : Int)))) fun z =>
 Zz1 Tryz.prog Zyh #[.pointer (some a)] z [] fun aa =>
 q aa) (
 q v)) (
 q s)) fun ab =>
 ldI .i64 a4 ((a.add 1)) fun ac =>
 Zz2 (ac == d) (
 Zz1 Tryz.prog Zyh #[.pointer (some a)] a4 [] fun ad =>
 ab ad) (
 ab a4)) fun ae =>
 ∃ ba : World -> Nat -> Prop, (∃ bb, ba c bb) /\ ∀ (a7 : World) (bb : Nat), ba a7 bb -> (
 ldI .i64 a7.drew ((a.add 1)) fun af =>
 ldStr a7.drew a fun ag =>
 Zz2 (decide (af < (ag.size : Int))) (
 ldStr a7.drew.drew a fun ai =>
 ldI .i64 a7.drew.drew ((a.add 1)) fun aj =>
 Yay ai (some aj) none fun ak =>
 Zz1 Tryz.prog ZzJ #[.string ak] a7.drew.drew [.one (.int .i32), .one (.int .i64)] fun al am an =>
 Zzl (fun (a8 : Bool) (a9 : World) =>
 Zz2 a8 (
 ae a9) (
 ldI .i64 a9 ((a.add 1)) fun ao =>
 stV a9 ((a.add 1)) (.int .i64 (w64 (ao + am))) fun ap =>
 ∃ bc, bc < bb /\ ba ap bc)) fun aq =>
 Zz2 (al == (65533 : Int)) (
 Zz2 (decide (am < (3 : Int))) (
 aq true an) (
 Zz1 Tryz.prog Zyt #[.int .i32 al] an [.one .bool] fun ar au =>
 Zz2 (!ar) (
 aq true au) (
 ldI .i64 au ((a.add 1)) fun av =>
 Zz2 (av == d) (
 Zz1 Tryz.prog Zym #[.int .i32 al] au [.one .bool] fun ax ay =>
 aq (!ax) ay) (
 aq false au)))) (
 Zz1 Tryz.prog Zyt #[.int .i32 al] an [.one .bool] fun az a0 =>
 Zz2 (!az) (
 aq true a0) (
 ldI .i64 a0 ((a.add 1)) fun a1 =>
 Zz2 (a1 == d) (
 Zz1 Tryz.prog Zym #[.int .i32 al] a0 [.one .bool] fun a2 a3 =>
 aq (!a2) a3) (
 aq false a0)))) (
 ae a7.drew))) : Zz1 Tryz.prog ZyA #[.pointer (some a)] w [.agg [.str, .str]] J := Zz6 Tryz.func98 (.s .o (.s .o (.j [] (.b (.l [] (.s (.s (.d (.take 0 (.take 1 (.take 2 (.take 3 (.take 4 (.take 5 (.take 6 (.take 7 (.take 8 (.take 9 .done))))))))))) (.c .o .o)) (.b (.s (.d (.take 0 (.take 1 (.take 2 (.take 3 (.take 4 (.take 5 (.take 6 (.take 7 (.take 8 (.eff 9 (.take 10 (.take 11 (.take 12 (.take 13 (.take 14 .done))))) .none))))))))))) (.s (.j [(57, .bool)] .o (.c .o .o)) .o)))))) (.j [] (.s .o (.c .o .o)) (.s (.d (.take 0 (.take 1 (.take 2 (.take 3 (.take 4 (.take 5 (.take 6 (.take 7 (.take 8 (.take 9 (.take 10 (.eff 11 (.eff 12 .done .none) .none))))))))))))) (.j [] (.s .o (.c (.s .o (.s .o (.c (.s .o .o) .o))) .o)) (.s .o .o))))))) (Eq.mpr (by kernel_rfl) h)
theorem Yav {a : Addr} {w : World} {J : Int -> Int -> ByteArray -> ByteArray -> ByteArray -> Value -> World -> Prop} (h :
 newB w (.cells (Zy6 Tryz.prog Zzy) Zzy) fun b c =>
 newB c (.cells (Zy6 Tryz.prog Zzy) Zzy) fun d e =>
 stN e ⟨d, 0, none⟩ ⟨[.int .u8 91, .int .i64 0, .string ByteArray.empty, .string ByteArray.empty, .string ByteArray.empty, .complex .f64 0 0]⟩ 6 fun f =>
 Zz1 Tryz.prog Zzv #[.pointer (some a), .int .u8 64] f [.one .bool] fun g i =>
 Zz2 (!g) (
 Zz1 Tryz.prog ZxQ #[.pointer (some a), .int .i64 6, .bool false] i [.one (.int .i64)] fun j k =>
 stV k ⟨d, 1, none⟩ (.int .i64 j) fun l =>
 Zz1 Tryz.prog ZzG #[.pointer (some a), .int .u8 93] l [] fun m =>
 ldI .u8 m ⟨d, 0, none⟩ fun n =>
 ldI .i64 m ⟨d, 1, none⟩ fun o =>
 ldStr m ⟨d, 2, none⟩ fun p =>
 ldStr m ⟨d, 3, none⟩ fun q =>
 ldStr m ⟨d, 4, none⟩ fun r =>
 ldV m ⟨d, 5, none⟩ fun s =>
 stN m ⟨b, 0, none⟩ ⟨[.int .u8 n, .int .i64 o, .string p, .string q, .string r, s]⟩ 6 fun t =>
 ldI .u8 t ⟨b, 0, none⟩ fun u =>
 ldI .i64 t ⟨b, 1, none⟩ fun v =>
 ldStr t ⟨b, 2, none⟩ fun x =>
 ldStr t ⟨b, 3, none⟩ fun y =>
 ldStr t ⟨b, 4, none⟩ fun z =>
 ldV t ⟨b, 5, none⟩ fun aa =>
 J u v x y z aa t) (
 stV i ⟨d, 0, none⟩ (.int .u8 64) fun ab =>
 Zz1 Tryz.prog ZyA #[.pointer (some a)] ab [.agg [.str, .str]] fun ac ad ae =>
 stN ae ⟨d, 2, none⟩ ⟨[.string ac, .string ad]⟩ 2 fun af =>
 Zzl (fun (be : World) =>
 Zz1 Tryz.prog ZzG #[.pointer (some a), .int .u8 93] be [] fun ag =>
 ldI .u8 ag ⟨d, 0, none⟩ fun ai =>
 ldI .i64 ag ⟨d, 1, none⟩ fun aj =>
 ldStr ag ⟨d, 2, none⟩ fun ak =>
 ldStr ag ⟨d, 3, none⟩ fun al =>
 ldStr ag ⟨d, 4, none⟩ fun am =>
 ldV ag ⟨d, 5, none⟩ fun an =>
 stN ag ⟨b, 0, none⟩ ⟨[.int .u8 ai, .int .i64 aj, .string ak, .string al, .string am, an]⟩ 6 fun ao =>
 ldI .u8 ao ⟨b, 0, none⟩ fun ap =>
 ldI .i64 ao ⟨b, 1, none⟩ fun aq =>
 ldStr ao ⟨b, 2, none⟩ fun ar =>
 ldStr ao ⟨b, 3, none⟩ fun au =>
 ldStr ao ⟨b, 4, none⟩ fun av =>
 ldV ao ⟨b, 5, none⟩ fun ax =>
 J ap aq ar au av ax ao) fun ay =>
 Zz1 Tryz.prog Zzv #[.pointer (some a), .int .u8 61] af [.one .bool] fun az a0 =>
 Zz2 az (
 stV a0 ⟨d, 0, none⟩ (.int .u8 61) fun a1 =>
 Zz1 Tryz.prog ZzG #[.pointer (some a), .int .u8 39] a1 [] fun a2 =>
 Zz1 Tryz.prog Zxy #[.pointer (some a), .int .u8 39] a2 [.one .str] fun a3 a4 =>
 stV a4 ⟨d, 4, none⟩ (.string a3) fun a5 =>
 ay a5) (
 Zz1 Tryz.prog Zzv #[.pointer (some a), .int .u8 126] a0 [.one .bool] fun a6 a7 =>
 Zz2 a6 (
 stV a7 ⟨d, 0, none⟩ (.int .u8 126) fun a8 =>
 Zz1 Tryz.prog YaK #[.pointer (some a)] a8 [.one .val] fun a9 ba =>
 Zz1 Tryz.prog ZzG #[.pointer (some a), .int .u8 44] ba [] fun bb =>
 Zz1 Tryz.prog YaK #[.pointer (some a)] bb [.one .val] fun bc bd =>
 False) (
 ay a7)))) : Zz1 Tryz.prog ZyC #[.pointer (some a)] w [.agg [.int .u8, .int .i64, .str, .str, .str, .val]] J := Zz6 Tryz.func100 (.s .o (.s .o (.s (.s .o (.c (.s .o (.s .o (.s .o .o))) .o)) (.s .o (.s .o (.j [] (.b (.s .o (.c (.s .o (.s .o .o)) (.s .o (.c (.s .o (.s .o (.s .o .o))) .o))))) (.s .o (.s .o .o)))))))) (Eq.mpr (by kernel_rfl) h)
theorem YcP {a : Addr} {w : World} {J : Bool -> Bool -> ByteArray -> ByteArray -> ByteArray -> Option Addr -> Nat -> Nat -> World -> Prop} (h :
 newB w (.cells (Zy6 Tryz.prog Zzc) Zzc) fun b c =>
 newB c (.cells (Zy6 Tryz.prog Zzc) Zzc) fun d e =>
 Zz1 Tryz.prog ZzG #[.pointer (some a), .int .u8 47] e [] fun f =>
 Zz1 Tryz.prog Zzv #[.pointer (some a), .int .u8 47] f [.one .bool] fun g i =>
 stV i ⟨d, 0, none⟩ (.bool g) fun j =>
 Zzl (fun (cn : Bool) (co : World) =>
 Zz2 cn (
 stV co ⟨d, 1, none⟩ (.bool true) fun k =>
 Zzl (fun (cp : World) =>
 ldB cp ⟨d, 0, none⟩ fun l =>
 ldB cp ⟨d, 1, none⟩ fun m =>
 ldStr cp ⟨d, 2, none⟩ fun n =>
 ldStr cp ⟨d, 3, none⟩ fun o =>
 ldStr cp ⟨d, 4, none⟩ fun p =>
 ldS cp ⟨d, 5, none⟩ fun q r s =>
 stN cp ⟨b, 0, none⟩ ⟨[.bool l, .bool m, .string n, .string o, .string p, .slice q r s]⟩ 6 fun t =>
 ldB t ⟨b, 0, none⟩ fun u =>
 ldB t ⟨b, 1, none⟩ fun v =>
 ldStr t ⟨b, 2, none⟩ fun x =>
 ldStr t ⟨b, 3, none⟩ fun y =>
 ldStr t ⟨b, 4, none⟩ fun z =>
 ldS t ⟨b, 5, none⟩ fun aa ab ac =>
 J u v x y z aa ab ac t) fun ad =>
 Zz1 Tryz.prog Zzv #[.pointer (some a), .int .u8 42] k [.one .bool] fun ae af =>
 Zz2 ae (
 stV af ⟨d, 2, none⟩ (.string ⟨#[42]⟩) fun ag =>
 ad ag) (
 Zz1 Tryz.prog ZyA #[.pointer (some a)] af [.agg [.str, .str]] fun ai aj ak =>
 stN ak ⟨d, 3, none⟩ ⟨[.string ai, .string aj]⟩ 2 fun al =>
 ad al)) (
 Zzl (fun (cq : World) =>
 ∃ cu : World -> Nat -> Prop, (∃ cv, cu cq cv) /\ ∀ (cr : World) (cv : Nat), cu cr cv -> (
 Zz1 Tryz.prog Zzv #[.pointer (some a), .int .u8 91] cr [.one .bool] fun am an =>
 Zz2 am (
 ldS an.drew ⟨d, 5, none⟩ fun ao ap aq =>
 Zz1 Tryz.prog ZyC #[.pointer (some a)] an.drew [.agg [.int .u8, .int .i64, .str, .str, .str, .val]] fun ar au av ax ay az a0 =>
 a0.cell? ⟨d, 5, none⟩ = some (.slice ao ap aq) /\
 Array.size (⟨[.int .u8 ar, .int .i64 au, .string av, .string ax, .string ay, az]⟩ : Array Value) = 6 /\
 newB a0 (.cells ⟨[.int .u8 ar, .int .i64 au, .string av, .string ax, .string ay, az]⟩ Zzy) fun a1 a2 =>
 a2.cell? ⟨d, 5, none⟩ = some (.slice ao ap aq) /\
 YbM Tryz.prog YbA YbA (.slice ao ap aq) (.slice (some ⟨a1, 0, none⟩) 1 1) a2 fun a3 a4 a5 a6 =>
 stV a6 ⟨d, 5, none⟩ (.slice a3 a4 a5) fun a7 =>
 ∃ cx, cx < cv /\ cu a7 cx) (
 ldB an ⟨d, 0, none⟩ fun a8 =>
 ldB an ⟨d, 1, none⟩ fun a9 =>
 ldStr an ⟨d, 2, none⟩ fun ba =>
 ldStr an ⟨d, 3, none⟩ fun bb =>
 ldStr an ⟨d, 4, none⟩ fun bc =>
 ldS an ⟨d, 5, none⟩ fun bd be bf =>
 stN an ⟨b, 0, none⟩ ⟨[.bool a8, .bool a9, .string ba, .string bb, .string bc, .slice bd be bf]⟩ 6 fun bg =>
 ldB bg ⟨b, 0, none⟩ fun bi =>
 ldB bg ⟨b, 1, none⟩ fun bj =>
 ldStr bg ⟨b, 2, none⟩ fun bk =>
 ldStr bg ⟨b, 3, none⟩ fun bl =>
 ldStr bg ⟨b, 4, none⟩ fun bm =>
 ldS bg ⟨b, 5, none⟩ fun bn bo bp =>
 J bi bj bk bl bm bn bo bp bg))) fun bq =>
 Zz1 Tryz.prog Zzv #[.pointer (some a), .int .u8 42] co [.one .bool] fun br bs =>
 Zz2 br (
 stV bs ⟨d, 2, none⟩ (.string ⟨#[42]⟩) fun bt =>
 bq bt) (
 Zz1 Tryz.prog ZyA #[.pointer (some a)] bs [.agg [.str, .str]] fun bu bv bx =>
 stN bx ⟨d, 3, none⟩ ⟨[.string bu, .string bv]⟩ 2 fun bz =>
 ldStr bz ⟨d, 3, none⟩ fun b0 =>
 ldStr bz ⟨d, 4, none⟩ fun b1 =>
 newB bz (.cells (Zy6 Tryz.prog Zzs) Zzs) fun b2 b3 =>
 stN b3 ⟨b2, 0, none⟩ ⟨[.string b0, .string b1]⟩ 2 fun b4 =>
 Zzl (fun (cs : Bool) (ct : World) =>
 Zz2 cs (
 ldStr ct ⟨b2, 1, none⟩ fun b5 =>
 stV ct ⟨d, 2, none⟩ (.string b5) fun b6 =>
 Zz1 Tryz.prog ZzG #[.pointer (some a), .int .u8 40] b6 [] fun b7 =>
 Zz1 Tryz.prog ZzG #[.pointer (some a), .int .u8 41] b7 [] fun b8 =>
 bq b8) (
 bq ct)) fun b9 =>
 ldStr b4 ⟨b2, 0, none⟩ fun ca =>
 ldStr b4 ⟨b2, 1, none⟩ fun cb =>
 ldStr b4 ⟨b2, 1, none⟩ fun cc =>
 Zz2 ((ca.toList == ByteArray.empty.toList) && ((cb.toList == cc.toList) && true)) (
 Zz1 Tryz.prog ZyB #[.pointer (some a), .int .u8 40] b4 [.one .bool] fun cd ce =>
 Zz2 cd (
 ldStr ce ⟨b2, 1, none⟩ fun cf =>
 Zz2 (cf.toList == (⟨#[116, 101, 120, 116]⟩ : ByteArray).toList) (
 b9 true ce) (
 ldStr ce ⟨b2, 1, none⟩ fun cg =>
 Zz2 (cg.toList == (⟨#[99, 111, 109, 109, 101, 110, 116]⟩ : ByteArray).toList) (
 b9 true ce) (
 ldStr ce ⟨b2, 1, none⟩ fun ci =>
 b9 (ci.toList == (⟨#[110, 111, 100, 101]⟩ : ByteArray).toList) ce))) (
 b9 false ce)) (
 b9 false b4)))) fun cj =>
 ldB j ⟨d, 0, none⟩ fun ck =>
 Zz2 (!ck) (
 Zz1 Tryz.prog Zzv #[.pointer (some a), .int .u8 64] j [.one .bool] fun cl cm =>
 cj cl cm) (
 cj false j)) : Zz1 Tryz.prog Zqw #[.pointer (some a)] w [.agg [.bool, .bool, .str, .str, .str, .slice]] J := Zz6 Tryz.func48 (.s .o (.s .o (.s .o (.s .o (.s (.j [(16, .bool)] .o (.c (.s .o (.j [] (.s .o (.c .o .o)) (.s .o .o))) .o)) (.j [] (.s .o (.c .o (.s .o (.s .o (.j [(56, .bool)] .o (.c (.s .o (.s .o .o)) .o)))))) (.s (.b (.l [] (.s (.s .o (.c .o .o)) (.b (.d (.take 0 (.take 1 (.take 2 (.eff 3 (.eff 4 (.eff 5 (.take 6 (.eff 7 .done .none)) .none) .none) .none))))))))) (.s .o .o)))))))) (Eq.mpr (by kernel_rfl) h)
theorem Yc9 {a : Addr} {b : Int} {c : Bool} {w : World} {J : Int -> World -> Prop} (h :
 ldI .i64 w.drew ((a.add 1)) fun d =>
 Zzl (fun (ae : Int) (af : World) =>
 Zzl (fun (ag : World) =>
 J ae ag) fun e =>
 ldI .i64 af ((a.add 1)) fun f =>
 Zz2 (f == d) (
 Zz1 Tryz.prog Zyh #[.pointer (some a)] af [] fun g =>
 e g) (
 e af)) fun i =>
 ∃ am : Int -> World -> Nat -> Prop, (∃ an, am (0 : Int) w.drew an) /\ ∀ ao ap an, am ao ap an -> (
 Zzl (fun (ai : Bool) (aj : World) =>
 Zz2 ai (
 Zzl (fun (ak : Bool) (al : World) =>
 Zz2 ak (
 i ao al) (
 ldStr al.drew a fun j =>
 ldI .i64 al.drew ((a.add 1)) fun k =>
 Zy9 j k fun l =>
 ldI .i64 al.drew ((a.add 1)) fun m =>
 stV al.drew ((a.add 1)) (.int .i64 (w64 (m + (1 : Int)))) fun n =>
 ∃ aq, aq < an /\ am (w64 ((w64 ((10 : Int) * ao)) + (w64 (IntKind.u8.wrap (l - (48 : Int)))))) n aq)) fun o =>
 ldI .i64 aj.drew ((a.add 1)) fun p =>
 Zz2 (p == d) (
 ldStr aj.drew a fun q =>
 ldI .i64 aj.drew ((a.add 1)) fun r =>
 Zy9 q r fun s =>
 Zz2 (s == (48 : Int)) (
 o (!c) aj.drew) (
 o false aj.drew)) (
 o false aj.drew)) (
 i ao aj)) fun t =>
 ldI .i64 ap.drew ((a.add 1)) fun u =>
 ldStr ap.drew a fun v =>
 Zz2 (decide (u < (v.size : Int))) (
 ldI .i64 ap.drew ((a.add 1)) fun x =>
 Zz2 (decide (x < (w64 (d + b)))) (
 ldStr ap.drew a fun y =>
 ldI .i64 ap.drew ((a.add 1)) fun z =>
 Zy9 y z fun aa =>
 Zz2 (decide (aa >= (48 : Int))) (
 ldStr ap.drew a fun ab =>
 ldI .i64 ap.drew ((a.add 1)) fun ac =>
 Zy9 ab ac fun ad =>
 t (decide (ad <= (57 : Int))) ap.drew) (
 t false ap.drew)) (
 t false ap.drew)) (
 t false ap.drew))) : Zz1 Tryz.prog ZxQ #[.pointer (some a), .int .i64 b, .bool c] w [.one (.int .i64)] J := Zz6 Tryz.func160 (.s .o (.s (.d (.take 0 (.take 1 (.take 2 (.take 3 (.take 4 (.take 5 .done))))))) (.j [(7, .int .i64)] (.b (.l [(7, .int .i64)] (.s (.j [(56, .bool)] (.d (.take 0 (.take 1 (.take 2 (.take 3 (.take 4 (.take 5 (.take 6 (.take 7 (.take 8 (.take 9 (.take 10 (.take 11 (.take 12 (.take 13 (.take 14 (.take 15 (.take 16 (.take 17 (.take 18 (.take 19 (.take 20 (.take 21 (.take 22 (.take 23 (.take 24 (.take 25 (.take 26 (.take 27 (.take 28 (.take 29 (.take 30 (.take 31 (.take 32 (.take 33 (.take 34 (.take 35 (.take 36 (.take 37 (.take 38 (.take 39 (.take 40 (.take 41 (.take 42 (.take 43 .done))))))))))))))))))))))))))))))))))))))))))))) (.c .o .o)) (.b (.s (.j [(78, .bool)] (.d (.take 0 (.take 1 (.take 2 (.take 3 (.take 4 (.take 5 (.take 6 (.take 7 (.take 8 (.take 9 (.take 10 (.take 11 (.take 12 (.take 13 (.take 14 (.take 15 (.take 16 (.take 17 (.take 18 (.take 19 (.take 20 (.take 21 .done))))))))))))))))))))))) (.c .o .o)) (.s (.d (.take 0 (.take 1 (.take 2 (.take 3 (.take 4 (.take 5 (.take 6 (.take 7 (.take 8 (.take 9 (.take 10 (.take 11 (.take 12 (.take 13 (.take 14 .done)))))))))))))))) .o)))))) (.j [] (.s .o (.c .o .o)) (.s .o .o))))) (Eq.mpr (by kernel_rfl) h)
theorem YdZ {a : ByteArray} {b : Int} {w : World} {J : Int -> World -> Prop} (h :
 Zz1 Tryz.prog Zyc #[.string a, .int .u8 b] w [.one (.int .i64)] fun c d =>
 J c d) : Zz1 Tryz.prog Zxb #[.string a, .int .u8 b] w [.one (.int .i64)] J := Zz6 Tryz.func174 (.s .o (.s .o .o)) (Eq.mpr (by kernel_rfl) h)
end Go.Proofs.YtjlgopfceebdcaaGreatDoor
end
section
namespace Go.Vc
open Go Go.RowKit
section
variable {w0 w w' : World} {S : Nat -> Prop} {Γ Γ' : List Blk} {b : Nat} {cs xs rest : List Value} {e : TypeId} {l c sz : Nat}
theorem Hp.sub (H : Hp w0 S w Γ) (h : Γ'.Sublist Γ) : Hp w0 S w Γ' :=
 ⟨H.chg, fun p hp => H.is p (h.subset hp), List.Pairwise.sublist (h.map (·.b)) H.nd, fun p hp => H.own p (h.subset hp)⟩
end
end Go.Vc
end
section
namespace Go.Vc
open Go Go.Lib
theorem Hp.redo {w0 w w' : World} {S : Nat -> Prop} {Γ : List Blk} {r : Nat} {cs cs' : List Value} {e : TypeId} (H : Hp w0 S w Γ) (i : Nat) (hi : Γ[i]? = some ⟨r, cs, e⟩) (hc : Chg (fun x => x = r) w w') (hh : w'.heap[r]? = some (.cells ⟨cs'⟩ e (0, 0))) :
    Hp w0 S w' (Γ.set i ⟨r, cs', e⟩) := by
  have hilt : i < Γ.length := (List.getElem?_eq_some_iff.1 hi).1
  have hget : Γ[i] = ⟨r, cs, e⟩ := (List.getElem?_eq_some_iff.1 hi).2
  have hown := H.own ⟨r, cs, e⟩ (List.mem_of_getElem? hi)
  refine ⟨H.chg.trans hc fun x hx e => by subst e; exact hown hx, fun p hp => ?_, ?_, fun p hp hlt => ?_⟩
  · obtain ⟨j, hj⟩ := List.mem_iff_getElem?.1 hp
    rw [List.getElem?_set] at hj
    by_cases hij : i = j
    · rw [if_pos hij] at hj
      have : some (⟨r, cs', e⟩ : Blk) = some p := by subst hij; simpa [hilt] using hj
      cases this
      exact hh
    · rw [if_neg hij] at hj
      refine hc.heap (H.is p (List.mem_of_getElem? hj)) fun he => hij ?_
      have h1 : (Γ.map (·.b))[j]? = some r := by rw [List.getElem?_map, hj]; simp [he]
      have h2 : (Γ.map (·.b))[i]? = some r := by rw [List.getElem?_map, hi]; simp
      exact nodup_inj H.nd h2 h1
  · have : (Γ.set i ⟨r, cs', e⟩).map (·.b) = Γ.map (·.b) := by
      rw [List.map_set]
      have : r = (Γ.map (·.b))[i]'(by simpa using hilt) := by simp [hget]
      conv => lhs; rw [this]
      exact List.set_getElem_self _
    rw [this]; exact H.nd
  · rcases List.mem_or_eq_of_mem_set hp with hp | rfl
    · exact H.own p hp hlt
    · exact hown hlt
def StopN (x : List UInt8) : Prop := ∀ d r, x = d :: r -> d.toNat < 128 /\ isPt (d.toNat : Int) = false /\ d ≠ 123
theorem dec_ascii1 {b : UInt8} (r : List UInt8) (h : b.toNat < 128) : dec (b :: r) = (b.toNat, 1) := by
 have hr : rd (b :: r) = (b.toNat, 1) := ZqL b r h
 rw [Yh5, hr]; rfl
theorem index_at {a : List UInt8} {d : UInt8} (x : List UInt8) (h : d ∉ a) : indexByte (a ++ d :: x) d = (a.length : Int) := by
 induction a with
 | nil => show (if d == d then (0 : Int) else _) = _; rw [if_pos (by simp)]; rfl
 | cons y r ih =>
  have h1 : y ≠ d := fun e => h (by rw [e]; exact mem_cons_self)
  have h2 := ih (fun hm => h (mem_cons_of_mem _ hm))
  rw [cons_append, indexByte, if_neg (by simpa using h1), h2, if_neg (by simp), length_cons]; omega
theorem spl2 {a b c d : Value} : splice [a, b] 0 [c, d] = [c, d] := ZqB rfl
end Go.Vc
namespace Go.Proofs.YtjlgopfceebdcaaGreatDoor
open Go Go.Vc Go.Lib
structure RdS (w : World) (r : Nat) (q : ByteArray) (i : Nat) : Prop where
 cell : w.heap[r]? = some (.cells ⟨[.string q, .int .i64 (i : Int)]⟩ Zzr (0, 0))
 len : q.size <= 1000000000
 le : i <= q.size
section
variable {w w' : World} {r : Nat} {q : ByteArray} {i : Nat}
theorem RdS.hp (h : RdS w r q i) : Hp w (fun x => x = r) w [⟨r, [.string q, .int .i64 (i : Int)], Zzr⟩] := (Hp.start w (fun x => x = r)).add h.cell (by simp) (fun _ => rfl)
theorem RdS.chg {S : Nat -> Prop} (h : RdS w r q i) (hc : Chg S w w') (hs : ¬ S r) : RdS w' r q i := ⟨hc.heap h.cell hs, h.len, h.le⟩
theorem RdS.chg0 (h : RdS w r q i) (hc : Chg No w w') : RdS w' r q i := h.chg hc (fun f => f)
theorem RdS.drew (h : RdS w r q i) : RdS w.drew r q i := h.chg0 ((Chg.refl No w).drew)
theorem RdS.c0 (h : RdS w r q i) : w.cell? ⟨r, 0, none⟩ = some (.string q) := h.hp.cell 0 rfl rfl
theorem RdS.c1 (h : RdS w r q i) : w.cell? ⟨r, 1, none⟩ = some (.int .i64 (i : Int)) := h.hp.cell 0 rfl rfl
theorem RdS.st {j : Nat} {n : Int} {K : World -> Prop} (h : RdS w r q i) (hn : n = (j : Int)) (hj : j <= q.size) (k : ∀ w', RdS w' r q j -> Chg (fun x => x = r) w w' -> K w') : stV w ⟨r, 1, none⟩ (.int .i64 n) K := by
 subst hn
 refine h.hp.stV 0 rfl (by simp) fun w' H hc => ?_
 exact k w' ⟨H.get 0 rfl, h.len, hj⟩ hc
theorem HereQ_ok {c : Int} {d : UInt8} {J : Bool -> World -> Prop} (hc : c = ((d.toNat : Nat) : Int)) (h : RdS w r q i) (K : J (decide ((bl q)[i]? = some d)) w.drew) :
  Zz1 Tryz.prog ZyB #[.pointer (some ⟨r, 0, none⟩), .int .u8 c] w [.one .bool] J := by
 subst hc
 refine YcR ?_
 simp only [Addr.add_mk, Nat.zero_add]
 have hd := h.drew
 refine Zzf fun J4 hJ4 => ?_
 subst hJ4
 refine Zyw hd.c1 (Zyv hd.c0 ?_)
 refine Zz5 (fun hlt => ?_) (fun hge => ?_)
 ·refine Zyv hd.c0 (Zyw hd.c1 ?_)
  refine Zqp (by omega) (by omega) fun b hb => ?_
  rw [Int.toNat_natCast] at hb
  rw [hb] at K
  refine leafQ K ?_
  rw [Option.some.injEq, <- UInt8.toNat_inj]; omega
 ·refine leafN K ?_
  rw [getElem?_eq_none (by rw [ZzA]; omega)]; simp
theorem ZqV {c : Int} {d : UInt8} {J : Bool -> World -> Prop} (hc : c = ((d.toNat : Nat) : Int)) (h : RdS w r q i) (K1 : (bl q)[i]? = some d -> ∀ w', RdS w' r q (i + 1) -> Chg (fun x => x = r) w w' -> J true w')
    (K0 : (bl q)[i]? ≠ some d -> ∀ w', RdS w' r q i -> Chg No w w' -> J false w') : Zz1 Tryz.prog Zzv #[.pointer (some ⟨r, 0, none⟩), .int .u8 c] w [.one .bool] J := by
  refine Ydu ?_
  simp only [Addr.add_mk, Nat.zero_add]
  refine HereQ_ok hc h ?_
  have hd := h.drew
  have hlen := h.len
  refine Zz5 (fun ht => ?_) (fun hf => K0 hf _ hd ((Chg.refl No w).drew))
  have hlt := (List.getElem?_eq_some_iff.1 ht).1
  rw [ZzA] at hlt
  refine Zyw hd.c1 ?_
  refine hd.st (j := i + 1) (by rw [Zzt] <;> omega) (by omega) fun w2 h2 hc2 => ?_
  exact K1 ht w2 h2 (((Chg.refl No w).drew.mono fun _ _ f => f.elim).trans hc2 fun _ _ e => e)
theorem Ydg {c : Int} {d : UInt8} {J : World -> Prop} (hc : c = ((d.toNat : Nat) : Int)) (h : RdS w r q i) (hd : (bl q)[i]? = some d) (K : ∀ w', RdS w' r q (i + 1) -> Chg (fun x => x = r) w w' -> J w') :
    Zz1 Tryz.prog ZzG #[.pointer (some ⟨r, 0, none⟩), .int .u8 c] w [] J := by
  refine YcO ?_
  simp only [Addr.add_mk, Nat.zero_add]
  have hlen := h.len
  have hlt := (List.getElem?_eq_some_iff.1 hd).1
  rw [ZzA] at hlt
  refine Zzf fun J0 hJ0 => ?_
  have k0 : J0 w.drew := by
    subst hJ0
    have h1 := h.drew
    refine Zyw h1.c1 ?_
    refine h1.st (j := i + 1) (by rw [Zzt] <;> omega) (by omega) fun w2 h2 hc2 => ?_
    exact K w2 h2 (((Chg.refl No w).drew.mono fun _ _ f => f.elim).trans hc2 fun _ _ e => e)
  clear hJ0
  refine HereQ_ok hc h ?_
  rw [decide_eq_true hd]
  exact ZzU (fun h => by cases h) (fun _ => k0)
theorem IndexP_ok {s : ByteArray} {v : UInt8} {J : Int -> World -> Prop} (k : J (indexByte (bl s) v) w) : Zz1 Tryz.prog Zxb #[.string s, .int .u8 ((v.toNat : Nat) : Int)] w [.one (.int .i64)] J := by
 refine YdZ ?_
 refine ZqY ?_
 refine ⟨_, w, ?_, indexByte (bl s) v, rfl, k⟩
 rw [run_callFunc_extern (fn := Tryz.prog.funcs[Zzk]!) (by kernel_rfl) (by kernel_rfl) (by kernel_rfl) (by kernel_rfl) (e := Extern.BytealgIndexByte.indexByte) (by kernel_rfl), Lib.run_indexByteString]
 have e : ((v.toNat : Nat) : Int).toNat.toUInt8 = v := by simp
 rw [e]
 rfl
theorem UpToQ_ok {c : Int} {d : UInt8} {a x : List UInt8} {J : ByteArray -> World -> Prop} (hc : c = ((d.toNat : Nat) : Int)) (h : RdS w r q i) (ht : (bl q).drop i = a ++ d :: x) (hd : d ∉ a)
  (K : ∀ w', RdS w' r q (i + a.length + 1) -> Chg (fun x => x = r) w w' -> J (mkB a) w') :
  Zz1 Tryz.prog Zxy #[.pointer (some ⟨r, 0, none⟩), .int .u8 c] w [.one .str] J := by
 subst hc
 refine YcN ?_
 simp only [Addr.add_mk, Nat.zero_add]
 have hlen := h.len
 have hle := h.le
 have h1 := h.drew
 have hq : i + a.length + 1 <= q.size := by
  have := congrArg length ht
  rw [length_drop, ZzA, length_append, length_cons] at this; omega
 refine Zyv h1.c0 (Zyw h1.c1 ?_)
 refine Zyg hle fun s hs hz => ?_
 refine IndexP_ok ?_
 rw [hs, ht, index_at x hd]
 refine Zzf fun J0 hJ0 => ?_
 have k0 : J0 w.drew := by
  subst hJ0
  have h2 := h1.drew
  refine Zyv h2.c0 (Zyw h2.c1 (Zyw h2.c1 ?_))
  rw [Zzt (n := (i : Int) + (a.length : Int)) (by omega) (by omega), show (i : Int) + (a.length : Int) = ((i + a.length : Nat) : Int) by omega]
  refine slStr_cut (by omega) (by omega) fun t ht2 hz2 => ?_
  refine Zyw h2.c1 ?_
  rw [Zzt (n := (a.length : Int) + 1) (by omega) (by omega)]
  refine h2.st (j := i + a.length + 1) (by rw [Zzt] <;> omega) hq fun w3 h3 hc3 => ?_
  have e : mkB a = t := mkB_eq (by rw [ht2, ht, show i + a.length - i = a.length by omega, take_left])
  rw [<- e]
  exact K w3 h3 (((Chg.refl No w).drew.drew.mono fun _ _ f => f.elim).trans hc3 fun _ _ e => e)
 clear hJ0
 exact Zz5 (fun h => by omega) (fun _ => k0)
theorem YbT : Zy6 Tryz.prog Zzs = ⟨[.string ByteArray.empty, .string ByteArray.empty]⟩ := by kernel_rfl
set_option maxHeartbeats 1000000 in
theorem NameQ_ok {n : ByteArray} {x : List UInt8} {J : ByteArray -> ByteArray -> World -> Prop} (T : YfJ w) (h : RdS w r q i) (hT : ∀ w', Chg (fun x => x = r) w w' -> YfJ w') (hn : nm (bl n) = true) (ht : (bl q).drop i = bl n ++ x) (hx : StopN x)
  (K : ∀ w', RdS w' r q (i + n.size) -> Chg (fun x => x = r) w w' -> J ByteArray.empty n w') :
  Zz1 Tryz.prog ZyA #[.pointer (some ⟨r, 0, none⟩)] w [.agg [.str, .str]] J := by
 refine YcQ ?_
 simp only [Addr.add_mk, Nat.zero_add, YbT]
 have hlen := h.len
 have hle := h.le
 have hnz : 0 < n.size := by
  simp only [nm, Bool.and_eq_true, decide_eq_true_eq] at hn
  rw [<- ZzA]; exact length_pos_iff.2 hn.1.1.1
 have hq : i + n.size <= q.size := by
  have := congrArg length ht
  rw [length_drop, ZzA, length_append, ZzA] at this; omega
 have hst : isSt (rd (bl n)).1 = true := by simp only [nm, Bool.and_eq_true] at hn; exact hn.1.2
 have hpt : prt (bl n) = true := by simp only [nm, Bool.and_eq_true] at hn; exact hn.2
 refine h.hp.newB fun b2 w1 H1 hb2 hc1 => ?_
 refine H1.ldI 1 rfl (off := 1) rfl ?_
 refine Zzf fun J0 hJ0 => ?_
 have k0 : ∀ w2, Hp w (fun x => x = r) w2 [⟨b2, [.string ByteArray.empty, .string ByteArray.empty], Zzs⟩, ⟨r, [.string q, .int .i64 ((i + n.size : Nat) : Int)], Zzr⟩] -> J0 w2 := by
  intro w2 H2
  subst hJ0
  refine Zzf fun J1 hJ1 => ?_
  have k1 : J1 w2 := by
   subst hJ1
   have H2d := H2.drew
   refine H2d.ldStr 1 rfl (off := 0) rfl ?_
   refine H2d.ldI 1 rfl (off := 1) rfl ?_
   refine slStr_cut (i := i) (j := i + n.size) (by omega) hq fun s hs hz => ?_
   obtain rfl : s = n := Yhg (by rw [hs, ht, show i + n.size - i = (bl n).length by rw [ZzA]; omega, take_left])
   refine H2d.newB fun b6 w4 H4 hb6 hc4 => ?_
   refine ⟨H4.cell 2 rfl rfl, H4.cell 2 rfl rfl, ?_⟩
   refine H4.stN 0 rfl (off := 0) rfl (by simp) (Zz9 rfl (Zz9 rfl Zy4)) fun w5 H5 hc5 => ?_
   rw [spl2] at H5
   simp only [set_cons_zero] at H5
   refine Zzf fun J2 hJ2 => ?_
   have k2 : ∀ w6, Hp w (fun x => x = r) w6 [⟨b6, [.string ByteArray.empty, .string s], Zzs⟩, ⟨b2, [.string ByteArray.empty, .string ByteArray.empty], Zzs⟩, ⟨r, [.string q, .int .i64 ((i + s.size : Nat) : Int)], Zzr⟩] -> J2 w6 := by
    intro w6 H6
    subst hJ2
    refine H6.ldStr 0 rfl (off := 0) rfl ?_
    refine H6.ldStr 0 rfl (off := 1) rfl ?_
    refine H6.stN 1 rfl (off := 0) rfl (by simp) (Zz9 rfl (Zz9 rfl Zy4)) fun w7 H7 hc7 => ?_
    simp only [set_cons_zero, set_cons_succ, spl2] at H7
    refine H7.ldStr 1 rfl (off := 0) rfl ?_
    refine H7.ldStr 1 rfl (off := 1) rfl ?_
    exact K w7 ⟨H7.get 2 rfl, hlen, hq⟩ H7.chg
   clear hJ2
   refine ZqV (d := 123) rfl ⟨H5.get 2 rfl, hlen, hq⟩ (fun h1 => ?_) (fun _ w8 h8 hc8 => ?_)
   ·exfalso
    have e : (bl q)[i + s.size]? = x[0]? := by
     have := getElem?_drop (xs := bl q) (i := i) (j := s.size)
     rw [<- this, ht, getElem?_append_right (by rw [ZzA]; exact Nat.le_refl _), ZzA, Nat.sub_self]
    rw [e] at h1
    cases x with
    | nil => cases h1
    | cons d rr =>
     have := hx d rr rfl
     simp only [getElem?_cons_zero, Option.some.injEq] at h1
     exact this.2.2 h1
   ·refine Zzd (fun h => by cases h) (fun _ => ?_)
    exact k2 w8 (H5.step0 hc8)
  clear hJ1
  refine H2.ldI 1 rfl (off := 1) rfl ?_
  exact Zzj (fun h => by omega) (fun _ => k1)
 clear hJ0
 refine ⟨fun w' m => ∃ k : Nat, k <= n.size /\ m = n.size - k /\ Hp w (fun x => x = r) w' [⟨b2, [.string ByteArray.empty, .string ByteArray.empty], Zzs⟩, ⟨r, [.string q, .int .i64 ((i + k : Nat) : Int)], Zzr⟩] /\ prt ((bl n).drop k) = true, ⟨n.size, 0, Nat.zero_le _, rfl, H1, by rw [drop_zero]; exact hpt⟩, ?_⟩
 rintro w2 m ⟨k, hk, rfl, H2, hp⟩
 have H2d := H2.drew
 have htk : (bl q).drop (i + k) = (bl n).drop k ++ x := by
  rw [<- drop_drop, ht, drop_append_of_le_length (by rw [ZzA]; exact hk)]
 have hTT := hT _ H2.chg
 refine H2d.ldI 1 rfl (off := 1) rfl ?_
 refine H2d.ldStr 1 rfl (off := 0) rfl ?_
 have fin : k = n.size -> J0 w2.drew := fun e => k0 w2.drew (by rw [<- e]; exact H2d)
 refine Zz5 (fun hlt => ?_) (fun hge => ?_)
 rotate_left
 ·refine fin ?_
  have := congrArg length htk
  rw [length_drop, length_append, length_drop, ZzA, ZzA] at this; omega
 have H2e := H2d.drew
 refine H2e.ldStr 1 rfl (off := 0) rfl ?_
 refine H2e.ldI 1 rfl (off := 1) rfl ?_
 refine Zyg (by omega) fun s hs hz => ?_
 rw [htk] at hs
 refine DecodeRuneS_ok (by omega) (hTT.chg ((Chg.refl No w2).drew.drew)) fun w5 hc5 => ?_
 have H5 := H2e.step0 hc5
 rw [hs]
 refine Zzf fun J57 hJ57 => ?_
 have kt : k = n.size -> ∀ w', Hp w (fun x => x = r) w' [⟨b2, [.string ByteArray.empty, .string ByteArray.empty], Zzs⟩, ⟨r, [.string q, .int .i64 ((i + k : Nat) : Int)], Zzr⟩] -> J57 true w' := by
  intro e w' H'
  subst hJ57
  refine Zzd (fun _ => ?_) (fun h => by cases h)
  exact k0 w' (by rw [<- e]; exact H')
 by_cases he : k = n.size
 · -- the end of the name: what stands there does not go on with it
  have e0 : (bl n).drop k = [] := drop_of_length_le (by rw [ZzA]; omega)
  rw [e0, nil_append]
  have hxne : x ≠ [] := by
   intro e
   have := congrArg length htk
   rw [e0, e] at this
   rw [length_drop, ZzA] at this; simp at this; omega
  obtain ⟨d, rr, rfl⟩ := exists_cons_of_ne_nil hxne
  obtain ⟨hd1, hd2, _⟩ := hx d rr rfl
  rw [dec_ascii1 rr hd1]
  have kt' := kt he
  clear kt hJ57
  refine Zzj (fun h => by omega) (fun _ => ?_)
  refine Yf2 fun w6 hc6 => ?_
  rw [hd2]
  exact ZzU (fun _ => kt' w6 (H5.step0 hc6)) (fun h => by cases h)
 ·have hne : (bl n).drop k ≠ [] := by
   intro e; have := congrArg length e; rw [length_drop, ZzA] at this; simp at this; omega
  have hk0 : (rd ((bl n).drop k)).2 ≠ 0 := by intro h0; rw [prt_bad hne h0] at hp; cases hp
  have hd : dec ((bl n).drop k ++ x) = rd ((bl n).drop k) := by rw [Yh5, rd_append _ x hk0 hne, if_neg hk0]
  rw [Yet hne hk0, Bool.and_eq_true] at hp
  have hrl := rd_le _ hne
  rw [length_drop, ZzA] at hrl
  rw [hd]
  have hfffd : ¬ ((rd ((bl n).drop k)).1 = 65533 /\ (rd ((bl n).drop k)).2 < 3) := fun ⟨h1, h2⟩ => by
   have := rd_fffd _ h1
   omega
  generalize hR : rd ((bl n).drop k) = R at *
  have kf : ∀ w', Hp w (fun x => x = r) w' [⟨b2, [.string ByteArray.empty, .string ByteArray.empty], Zzs⟩, ⟨r, [.string q, .int .i64 ((i + k : Nat) : Int)], Zzr⟩] -> J57 false w' := by
   intro w' H'
   subst hJ57
   refine Zzd (fun h => by cases h) (fun _ => ?_)
   refine H'.ldI 1 rfl (off := 1) rfl ?_
   refine H'.stV 1 rfl (off := 1) (by simp) fun w7 H7 hc7 => ?_
   simp only [set_cons_zero, set_cons_succ] at H7
   have hR2 : R.2 <= n.size - k := hrl
   rw [hd] at H7
   rw [Zzt (n := ((i + k : Nat) : Int) + (R.2 : Int)) (by omega) (by omega), show ((i + k : Nat) : Int) + (R.2 : Int) = ((i + (k + R.2) : Nat) : Int) by omega] at H7
   refine ⟨n.size - (k + R.2), by omega, k + R.2, by omega, rfl, H7, ?_⟩
   rw [<- drop_drop]; exact hp.2
  clear hJ57 kt fin k0
  have part : ∀ w', Hp w (fun x => x = r) w' [⟨b2, [.string ByteArray.empty, .string ByteArray.empty], Zzs⟩, ⟨r, [.string q, .int .i64 ((i + k : Nat) : Int)], Zzr⟩] ->
    Zz1 Tryz.prog Zyt #[.int .i32 (R.1 : Int)] w' [.one .bool] fun (r42 : Bool) (w18 : World) => Zz2 (!r42) (J57 true w18) (ldI .i64 w18 ⟨r, 1, none⟩ fun x49 => Zz2 (x49 == ((i + 0 : Nat) : Int)) (Zz1 Tryz.prog Zym #[.int .i32 (R.1 : Int)] w18 [.one .bool] fun (r54 : Bool) (w19 : World) => J57 (!r54) w19) (J57 false w18)) := by
   intro w' H'
   refine Yf2 fun w6 hc6 => ?_
   rw [hp.1]
   refine ZzU (fun h => by cases h) (fun _ => ?_)
   have H6 := H'.step0 hc6
   refine H6.ldI 1 rfl (off := 1) rfl ?_
   refine Zzj (fun h0 => ?_) (fun _ => kf w6 H6)
   have k00 : k = 0 := by omega
   subst k00
   rw [drop_zero] at hR
   rw [hR] at hst
   refine YfM fun w7 hc7 => ?_
   rw [hst]
   exact kf w7 (H6.step0 hc7)
  refine Zzj (fun h1 => ?_) (fun _ => part w5 H5)
  refine Zz5 (fun h2 => absurd ⟨by omega, by omega⟩ hfffd) (fun _ => part w5 H5)
end
end Go.Proofs.YtjlgopfceebdcaaGreatDoor
end
section
namespace Go.Vc
open Go Go.Lib
theorem ZzQ {q : List UInt8} {i : Nat} {a : UInt8} {r : List UInt8} (h : q.drop i = a :: r) : q[i]? = some a /\ q.drop (i + 1) = r := by
 have h0 := getElem?_drop (xs := q) (i := i) (j := 0)
 rw [h, Nat.add_zero] at h0
 have h1 := drop_drop (l := q) (i := 1) (j := i)
 rw [h] at h1
 refine ⟨h0.symm, ?_⟩
 rw [show i + 1 = i + 1 from rfl] at h1
 exact h1.symm
theorem YbK {q a r : List UInt8} {i : Nat} (h : q.drop i = a ++ r) : q.drop (i + a.length) = r := by
 rw [<- drop_drop, h, drop_left]
structure CV where
 kind : Int
 k : Int
 n : ByteArray
 v : ByteArray
def CV.cells (c : CV) : List Value := [.int .u8 c.kind, .int .i64 c.k, .string ByteArray.empty, .string c.n, .string c.v, .complex .f64 0 0]
theorem even_cv (L : List CV) : Yej CV.cells 6 L := fun _ _ => rfl
theorem Yff (x : CV) : one1 x.cells := Zz9 rfl (Zz9 rfl (Zz9 rfl (Zz9 rfl (Zz9 rfl (Zz9 rfl Zy4)))))
inductive Cd where
 | eq (n v : ByteArray)
 | idx (ds : List UInt8) (k : Nat)
def Cd.tx : Cd -> List UInt8
 | .eq n v => 64 :: (bl n ++ 61 :: 39 :: (bl v ++ [39, 93]))
 | .idx ds _ => ds ++ [93]
def Cd.cv : Cd -> CV
 | .eq n v => ⟨61, 0, n, v⟩
 | .idx _ k => ⟨91, k, ByteArray.empty, ByteArray.empty⟩
def valD (ds : List UInt8) : Nat := ds.foldl (fun a d => 10 * a + (d.toNat - 48)) 0
def Cd.Fit : Cd -> Prop
 | .eq n v => nm (bl n) = true /\ (39 : UInt8) ∉ bl v
 | .idx ds k => ds ≠ [] /\ ds.length <= 6 /\ (∀ d ∈ ds, 48 <= d.toNat /\ d.toNat <= 57) /\ ds.head? ≠ some 48 /\ valD ds = k
def ZxS (L : List Cd) : List UInt8 := L.flatMap fun c => 91 :: c.tx
end Go.Vc
namespace Go.Proofs.YtjlgopfceebdcaaGreatDoor
open Go Go.Vc Go.Lib
theorem Yf6 : Zy6 Tryz.prog Zzy = ⟨[.int .u8 0, .int .i64 0, .string ByteArray.empty, .string ByteArray.empty, .string ByteArray.empty, .complex .f64 0 0]⟩ := by kernel_rfl
theorem Yf5 : Zy6 Tryz.prog Zzc = ⟨[.bool false, .bool false, .string ByteArray.empty, .string ByteArray.empty, .string ByteArray.empty, .slice none 0 0]⟩ := by kernel_rfl
theorem slT_cond : SlT Tryz.prog YbA Zzy 6 80 #[.int .u8 0, .int .i64 0, .string ByteArray.empty, .string ByteArray.empty, .string ByteArray.empty, .complex .f64 0 0] := SlT.of (by kernel_rfl) (by kernel_rfl) rfl (by decide)
section
variable {w w' : World} {r : Nat} {q : ByteArray} {i : Nat}
theorem spl6 {a b c d e f a' b' c' d' e' f' : Value} : splice [a, b, c, d, e, f] 0 [a', b', c', d', e', f'] = [a', b', c', d', e', f'] := ZqB rfl
theorem spl62 {a b c d e f c' d' : Value} : splice [a, b, c, d, e, f] 2 [c', d'] = [a, b, c', d', e, f] := rfl
theorem spl63 {a b c d e f c' d' : Value} : splice [a, b, c, d, e, f] 3 [c', d'] = [a, b, c, c', d', f] := rfl
set_option maxHeartbeats 1000000 in
theorem CondEq_ok {n v : ByteArray} {x : List UInt8} {J : Int -> Int -> ByteArray -> ByteArray -> ByteArray -> Value -> World -> Prop} (T : YfJ w) (h : RdS w r q i) (hT : ∀ w', Chg (fun x => x = r) w w' -> YfJ w') (hn : nm (bl n) = true) (hv : (39 : UInt8) ∉ bl v)
  (ht : (bl q).drop i = (Cd.eq n v).tx ++ x) (K : ∀ w', RdS w' r q (i + (Cd.eq n v).tx.length) -> Chg (fun x => x = r) w w' -> J 61 0 ByteArray.empty n v (.complex .f64 0 0) w') :
  Zz1 Tryz.prog ZyC #[.pointer (some ⟨r, 0, none⟩)] w [.agg [.int .u8, .int .i64, .str, .str, .str, .val]] J := by
 have hlen := h.len
 have htl : (Cd.eq n v).tx.length = n.size + v.size + 5 := by
  simp only [Cd.tx, length_cons, length_append, ZzA, length_nil]; omega
 have hq : i + (n.size + v.size + 5) <= q.size := by
  have := congrArg length ht
  rw [length_drop, ZzA, length_append, htl] at this; have := h.le; omega
 have ht0 : (bl q).drop i = 64 :: (bl n ++ 61 :: 39 :: (bl v ++ 39 :: 93 :: x)) := by rw [ht]; simp [Cd.tx]
 obtain ⟨g0, d1⟩ := ZzQ ht0
 have d2 := YbK d1
 rw [ZzA] at d2
 obtain ⟨g2, d3⟩ := ZzQ d2
 obtain ⟨g3, d4⟩ := ZzQ d3
 have d5 := YbK d4
 rw [ZzA] at d5
 obtain ⟨_, d6⟩ := ZzQ d5
 obtain ⟨g6, _⟩ := ZzQ d6
 refine Yav ?_
 simp only [Yf6]
 refine h.hp.newB fun b2 w1 H1 hb2 hc1 => ?_
 refine H1.newB fun b3 w2 H2 hb3 hc2 => ?_
 refine H2.stN 0 rfl (off := 0) rfl (by simp) (Yff ⟨91, 0, ByteArray.empty, ByteArray.empty⟩) fun w3 H3 hc3 => ?_
 simp only [set_cons_zero, spl6] at H3
 refine ZqV (d := 64) rfl ⟨H3.get 2 rfl, hlen, h.le⟩ (fun _ w4 h4 hc4 => ?_) (fun hne => absurd g0 hne)
 have H4 := H3.redo 2 rfl hc4 h4.cell
 simp only [set_cons_zero, set_cons_succ] at H4
 refine ZzU (fun h => by cases h) (fun _ => ?_)
 refine H4.stV 0 rfl (off := 0) (by simp) fun w5 H5 hc5 => ?_
 simp only [set_cons_zero] at H5
 refine NameQ_ok (hT _ H5.chg) ⟨H5.get 2 rfl, hlen, by omega⟩ (fun w' hc => hT _ (H5.chg.trans hc fun _ _ e => e)) hn d1 (fun d rr e => ?_) fun w6 h6 hc6 => ?_
 ·simp only [cons.injEq] at e
  rw [<- e.1]
  exact ⟨by decide, by decide, by decide⟩
 have H6 := H5.redo 2 rfl hc6 h6.cell
 simp only [set_cons_zero, set_cons_succ] at H6
 refine H6.stN 0 rfl (off := 2) rfl (by simp) (Zz9 rfl (Zz9 rfl Zy4)) fun w7 H7 hc7 => ?_
 simp only [set_cons_zero, spl62] at H7
 refine Zzf fun J0 hJ0 => ?_
 have k0 : ∀ w9, Hp w (fun x => x = r) w9 [⟨b3, CV.cells ⟨61, 0, n, v⟩, Zzy⟩, ⟨b2, [.int .u8 0, .int .i64 0, .string ByteArray.empty, .string ByteArray.empty, .string ByteArray.empty, .complex .f64 0 0], Zzy⟩, ⟨r, [.string q, .int .i64 ((i + 1 + n.size + 1 + 1 + v.size + 1 : Nat) : Int)], Zzr⟩] -> J0 w9 := by
  intro w9 H9
  subst hJ0
  refine Ydg (d := 93) rfl ⟨H9.get 2 rfl, hlen, by omega⟩ g6 fun w10 h10 hc10 => ?_
  have H10 := H9.redo 2 rfl hc10 h10.cell
  simp only [set_cons_zero, set_cons_succ] at H10
  refine H10.ldI 0 rfl (off := 0) rfl ?_
  refine H10.ldI 0 rfl (off := 1) rfl ?_
  refine H10.ldStr 0 rfl (off := 2) rfl ?_
  refine H10.ldStr 0 rfl (off := 3) rfl ?_
  refine H10.ldStr 0 rfl (off := 4) rfl ?_
  refine ldV_i (H10.cell 0 rfl (off := 5) rfl) ?_
  refine H10.stN 1 rfl (off := 0) rfl (by simp) (Yff ⟨61, 0, n, v⟩) fun w11 H11 hc11 => ?_
  simp only [set_cons_zero, set_cons_succ, spl6] at H11
  refine H11.ldI 1 rfl (off := 0) rfl ?_
  refine H11.ldI 1 rfl (off := 1) rfl ?_
  refine H11.ldStr 1 rfl (off := 2) rfl ?_
  refine H11.ldStr 1 rfl (off := 3) rfl ?_
  refine H11.ldStr 1 rfl (off := 4) rfl ?_
  refine ldV_i (H11.cell 1 rfl (off := 5) rfl) ?_
  have hg := H11.get 2 rfl
  refine K w11 ⟨?_, hlen, by omega⟩ H11.chg
  rw [htl, show i + (n.size + v.size + 5) = i + 1 + n.size + 1 + 1 + v.size + 1 + 1 by omega]
  exact hg
 clear hJ0
 refine ZqV (d := 61) rfl ⟨H7.get 2 rfl, hlen, by omega⟩ (fun _ w8 h8 hc8 => ?_) (fun hne => absurd g2 hne)
 have H8 := H7.redo 2 rfl hc8 h8.cell
 simp only [set_cons_zero, set_cons_succ] at H8
 refine Zzd (fun _ => ?_) (fun h => by cases h)
 refine H8.stV 0 rfl (off := 0) (by simp) fun w9 H9 hc9 => ?_
 simp only [set_cons_zero] at H9
 refine Ydg (d := 39) rfl ⟨H9.get 2 rfl, hlen, by omega⟩ g3 fun w10 h10 hc10 => ?_
 have H10 := H9.redo 2 rfl hc10 h10.cell
 simp only [set_cons_zero, set_cons_succ] at H10
 refine UpToQ_ok (d := 39) rfl ⟨H10.get 2 rfl, hlen, by omega⟩ d4 hv fun w11 h11 hc11 => ?_
 have H11 := H10.redo 2 rfl hc11 h11.cell
 simp only [set_cons_zero, set_cons_succ] at H11
 rw [mkB_bl]
 refine H11.stV 0 rfl (off := 4) (by simp) fun w12 H12 hc12 => ?_
 simp only [set_cons_zero, set_cons_succ] at H12
 rw [ZzA] at H12
 exact k0 w12 H12
end
end Go.Proofs.YtjlgopfceebdcaaGreatDoor
end
section
namespace Go.Vc
open Go Go.Lib
theorem valD_lt0 : ∀ (ds : List UInt8) (a : Nat), (∀ d ∈ ds, 48 <= d.toNat /\ d.toNat <= 57) -> ds.foldl (fun a d => 10 * a + (d.toNat - 48)) a < (a + 1) * 10 ^ ds.length
 | [], a, _ => by simp
 | d :: r, a, h => by
  have h1 := h d mem_cons_self
  have ih := valD_lt0 r (10 * a + (d.toNat - 48)) fun x hx => h x (mem_cons_of_mem _ hx)
  rw [foldl_cons, length_cons, Nat.pow_succ]
  have h2 : (10 * a + (d.toNat - 48) + 1) * 10 ^ r.length <= (10 * (a + 1)) * 10 ^ r.length := Nat.mul_le_mul_right _ (by omega)
  have h3 : (10 * (a + 1)) * 10 ^ r.length = (a + 1) * (10 ^ r.length * 10) := by
   rw [Nat.mul_comm 10 (a + 1), Nat.mul_assoc, Nat.mul_comm 10]
  omega
theorem valD_lt (ds : List UInt8) (h : ∀ d ∈ ds, 48 <= d.toNat /\ d.toNat <= 57) : valD ds < 10 ^ ds.length := by
 have := valD_lt0 ds 0 h
 unfold valD; omega
theorem u8_48 {d : UInt8} (h : 48 <= d.toNat) : IntKind.u8.wrap ((d.toNat : Int) - 48) = (d.toNat : Int) - 48 := by
 have := UInt8.toNat_lt d
 unfold IntKind.wrap; simp [IntKind.signed, IntKind.bits]; omega
end Go.Vc
namespace Go.Proofs.YtjlgopfceebdcaaGreatDoor
open Go Go.Vc Go.Lib
section
variable {w w' : World} {r : Nat} {q : ByteArray} {i : Nat}
theorem YeR (w : World) : Chg No w w.drew := (Chg.refl No w).drew
set_option maxHeartbeats 1000000 in
theorem DigitsQ_ok {ds x : List UInt8} {J : Int -> World -> Prop} (h : RdS w r q i) (hne : ds ≠ []) (h6 : ds.length <= 6) (hd : ∀ d ∈ ds, 48 <= d.toNat /\ d.toNat <= 57) (h48 : ds.head? ≠ some 48)
  (ht : (bl q).drop i = ds ++ 93 :: x) (K : ∀ w', RdS w' r q (i + ds.length) -> Chg (fun x => x = r) w w' -> J (valD ds : Int) w') :
  Zz1 Tryz.prog ZxQ #[.pointer (some ⟨r, 0, none⟩), .int .i64 6, .bool false] w [.one (.int .i64)] J := by
 refine Yc9 ?_
 simp only [Addr.add_mk, Nat.zero_add]
 have hlen := h.len
 have hle := h.le
 have hq : i + ds.length + 1 <= q.size := by
  have := congrArg length ht
  rw [length_drop, ZzA, length_append, length_cons] at this; omega
 have hpos := length_pos_iff.2 hne
 have h0 := h.drew
 refine Zyw h0.c1 ?_
 refine Zzf fun J7 hJ7 => ?_
 have k7 : ∀ w1, RdS w1 r q (i + ds.length) -> Chg (fun x => x = r) w w1 -> J7 (valD ds : Int) w1 := by
  intro w1 h1 hc1
  subst hJ7
  refine Zzf fun J0 hJ0 => ?_
  subst hJ0
  refine Zyw h1.c1 ?_
  exact Zzj (fun h => by omega) (fun _ => K w1 h1 hc1)
 clear hJ7
 refine ⟨fun n w' m => ∃ k : Nat, k <= ds.length /\ m = ds.length - k /\ n = (valD (ds.take k) : Int) /\ RdS w' r q (i + k) /\ Chg (fun x => x = r) w w',
  ⟨_, 0, Nat.zero_le _, rfl, rfl, h0, ((Chg.refl No w).drew.mono fun _ _ f => f.elim)⟩, ?_⟩
 rintro n w4 m ⟨k, hk, rfl, rfl, h4, hc4⟩
 have h4d := h4.drew
 have hc4d : Chg (fun x => x = r) w w4.drew := hc4.drew
 have htk : (bl q).drop (i + k) = ds.drop k ++ 93 :: x := by rw [<- drop_drop, ht, drop_append_of_le_length hk]
 have hsmall : valD (ds.take k) < 1000000 := by
  have := valD_lt (ds.take k) fun d hm => hd d (mem_of_mem_take hm)
  have h2 : (ds.take k).length <= 6 := by rw [length_take]; omega
  have h3 : 10 ^ (ds.take k).length <= 10 ^ 6 := Nat.pow_le_pow_right (by decide) h2
  omega
 refine Zzf fun J56 hJ56 => ?_
 by_cases he : k = ds.length
 ·have kf : J56 false w4.drew := by
   subst hJ56
   refine Zzd (fun h => by cases h) (fun _ => ?_)
   have := k7 w4.drew (by rw [<- he]; exact h4d) hc4d
   rw [<- take_length (l := ds), <- he] at this
   exact this
  clear hJ56
  have hb : (bl q)[i + k]? = some 93 := by
   rw [he, drop_length, nil_append] at htk
   rw [he]; exact (ZzQ htk).1
  refine Zyw h4d.c1 (Zyv h4d.c0 ?_)
  refine Zz5 (fun _ => ?_) (fun h => by omega)
  refine Zyw h4d.c1 ?_
  refine Zz5 (fun _ => ?_) (fun _ => kf)
  refine Zyv h4d.c0 (Zyw h4d.c1 ?_)
  refine Zqp (by omega) (by omega) fun b hb2 => ?_
  rw [Int.toNat_natCast, hb] at hb2
  obtain rfl := Option.some.inj hb2
  refine Zz5 (fun _ => ?_) (fun _ => kf)
  refine Zyv h4d.c0 (Zyw h4d.c1 ?_)
  refine Zqp (by omega) (by omega) fun b hb2 => ?_
  rw [Int.toNat_natCast, hb] at hb2
  obtain rfl := Option.some.inj hb2
  exact kf
 ·have hlt : k < ds.length := by omega
  have hg : ds[k]? = some ds[k] := getElem?_eq_getElem hlt
  have hb : (bl q)[i + k]? = some ds[k] := by
   rw [drop_eq_getElem_cons hlt, cons_append] at htk
   exact (ZzQ htk).1
  have hdk := hd _ (getElem_mem hlt)
  have hval : valD (ds.take (k + 1)) = 10 * valD (ds.take k) + (ds[k].toNat - 48) := YgR (fun (a : Nat) (d : UInt8) => 10 * a + (d.toNat - 48)) 0 ds k hg
  have kt : J56 true w4.drew := by
   subst hJ56
   refine Zzd (fun _ => ?_) (fun h => by cases h)
   have h5 := h4d.drew
   refine Zzf fun J78 hJ78 => ?_
   have k78 : J78 false w4.drew.drew := by
    subst hJ78
    refine Zzd (fun h => by cases h) (fun _ => ?_)
    have h6 := h5.drew
    refine Zyv h6.c0 (Zyw h6.c1 ?_)
    refine Zqp (by omega) (by omega) fun b hb2 => ?_
    rw [Int.toNat_natCast, hb] at hb2
    obtain rfl := Option.some.inj hb2
    refine Zyw h6.c1 ?_
    refine h6.st (j := i + (k + 1)) (by rw [Zzt] <;> omega) (by omega) fun w7 h7 hc7 => ?_
    refine ⟨ds.length - (k + 1), by omega, k + 1, hlt, rfl, ?_, h7, hc4.drew.drew.drew.trans hc7 fun _ _ e => e⟩
    rw [u8_48 hdk.1, Zzt (n := (ds[k].toNat : Int) - 48) (by omega) (by omega), Zzt (n := 10 * (valD (ds.take k) : Int)) (by omega) (by omega), Zzt (by omega) (by omega), hval]
    omega
   clear hJ78
   refine Zyw h5.c1 ?_
   refine Zzj (fun h0 => ?_) (fun _ => k78)
   have k00 : k = 0 := by omega
   subst k00
   refine Zyv h5.c0 (Zyw h5.c1 ?_)
   refine Zqp (by omega) (by omega) fun b hb2 => ?_
   rw [Int.toNat_natCast, hb] at hb2
   obtain rfl := Option.some.inj hb2
   refine Zzj (fun h => ?_) (fun _ => k78)
   exfalso
   refine h48 ?_
   rw [head?_eq_getElem?, hg, Option.some.injEq, <- UInt8.toNat_inj]
   have : (48 : UInt8).toNat = 48 := rfl
   omega
  clear hJ56
  refine Zyw h4d.c1 (Zyv h4d.c0 ?_)
  refine Zz5 (fun _ => ?_) (fun h => by omega)
  refine Zyw h4d.c1 ?_
  refine Zz5 (fun _ => ?_) (fun h => ?_)
  ·refine Zyv h4d.c0 (Zyw h4d.c1 ?_)
   refine Zqp (by omega) (by omega) fun b hb2 => ?_
   rw [Int.toNat_natCast, hb] at hb2
   obtain rfl := Option.some.inj hb2
   refine Zz5 (fun _ => ?_) (fun h => by omega)
   refine Zyv h4d.c0 (Zyw h4d.c1 ?_)
   refine Zqp (by omega) (by omega) fun b hb2 => ?_
   rw [Int.toNat_natCast, hb] at hb2
   obtain rfl := Option.some.inj hb2
   rw [decide_eq_true (by omega)]
   exact kt
  ·exfalso
   rw [Zzt (by omega) (by omega)] at h
   omega
set_option maxHeartbeats 1000000 in
theorem CondIx_ok {ds x : List UInt8} {k : Nat} {J : Int -> Int -> ByteArray -> ByteArray -> ByteArray -> Value -> World -> Prop} (h : RdS w r q i) (hF : (Cd.idx ds k).Fit)
  (ht : (bl q).drop i = (Cd.idx ds k).tx ++ x) (K : ∀ w', RdS w' r q (i + (Cd.idx ds k).tx.length) -> Chg (fun x => x = r) w w' -> J 91 k ByteArray.empty ByteArray.empty ByteArray.empty (.complex .f64 0 0) w') :
  Zz1 Tryz.prog ZyC #[.pointer (some ⟨r, 0, none⟩)] w [.agg [.int .u8, .int .i64, .str, .str, .str, .val]] J := by
 obtain ⟨f1, f2, f3, f4, rfl⟩ := hF
 have hlen := h.len
 have htl : (Cd.idx ds (valD ds)).tx.length = ds.length + 1 := by simp [Cd.tx]
 have ht0 : (bl q).drop i = ds ++ 93 :: x := by rw [ht]; simp [Cd.tx]
 have hq : i + ds.length + 1 <= q.size := by
  have := congrArg length ht0
  rw [length_drop, ZzA, length_append, length_cons] at this; have := h.le; omega
 obtain ⟨d0, dr, hds⟩ := exists_cons_of_ne_nil f1
 have g0 : (bl q)[i]? = some d0 := by rw [hds, cons_append] at ht0; exact (ZzQ ht0).1
 have hd0 := f3 d0 (by rw [hds]; exact mem_cons_self)
 obtain ⟨g1, _⟩ := ZzQ (YbK ht0)
 refine Yav ?_
 simp only [Yf6]
 refine h.hp.newB fun b2 w1 H1 hb2 hc1 => ?_
 refine H1.newB fun b3 w2 H2 hb3 hc2 => ?_
 refine H2.stN 0 rfl (off := 0) rfl (by simp) (Yff ⟨91, 0, ByteArray.empty, ByteArray.empty⟩) fun w3 H3 hc3 => ?_
 simp only [set_cons_zero, spl6] at H3
 refine ZqV (d := 64) rfl ⟨H3.get 2 rfl, hlen, h.le⟩ (fun hne => ?_) (fun _ w4 h4 hc4 => ?_)
 ·exfalso
  rw [g0, Option.some.injEq, <- UInt8.toNat_inj] at hne
  have : (64 : UInt8).toNat = 64 := rfl
  omega
 have H4 := H3.step0 hc4
 refine ZzU (fun _ => ?_) (fun h => by cases h)
 refine DigitsQ_ok h4 f1 f2 f3 f4 ht0 fun w5 h5 hc5 => ?_
 have H5 := H4.redo 2 rfl hc5 h5.cell
 simp only [set_cons_zero, set_cons_succ] at H5
 refine H5.stV 0 rfl (off := 1) (by simp) fun w6 H6 hc6 => ?_
 simp only [set_cons_zero, set_cons_succ] at H6
 refine Ydg (d := 93) rfl ⟨H6.get 2 rfl, hlen, by omega⟩ g1 fun w7 h7 hc7 => ?_
 have H10 := H6.redo 2 rfl hc7 h7.cell
 simp only [set_cons_zero, set_cons_succ] at H10
 refine H10.ldI 0 rfl (off := 0) rfl ?_
 refine H10.ldI 0 rfl (off := 1) rfl ?_
 refine H10.ldStr 0 rfl (off := 2) rfl ?_
 refine H10.ldStr 0 rfl (off := 3) rfl ?_
 refine H10.ldStr 0 rfl (off := 4) rfl ?_
 refine ldV_i (H10.cell 0 rfl (off := 5) rfl) ?_
 refine H10.stN 1 rfl (off := 0) rfl (by simp) (Yff ⟨91, valD ds, ByteArray.empty, ByteArray.empty⟩) fun w11 H11 hc11 => ?_
 simp only [set_cons_zero, set_cons_succ, spl6] at H11
 refine H11.ldI 1 rfl (off := 0) rfl ?_
 refine H11.ldI 1 rfl (off := 1) rfl ?_
 refine H11.ldStr 1 rfl (off := 2) rfl ?_
 refine H11.ldStr 1 rfl (off := 3) rfl ?_
 refine H11.ldStr 1 rfl (off := 4) rfl ?_
 refine ldV_i (H11.cell 1 rfl (off := 5) rfl) ?_
 have hg := H11.get 2 rfl
 refine K w11 ⟨?_, hlen, by omega⟩ H11.chg
 rw [htl, <- Nat.add_assoc]
 exact hg
theorem CondD_ok {c : Cd} {x : List UInt8} {J : Int -> Int -> ByteArray -> ByteArray -> ByteArray -> Value -> World -> Prop} (T : YfJ w) (h : RdS w r q i) (hT : ∀ w', Chg (fun x => x = r) w w' -> YfJ w') (hF : c.Fit)
  (ht : (bl q).drop i = c.tx ++ x) (K : ∀ w', RdS w' r q (i + c.tx.length) -> Chg (fun x => x = r) w w' -> J c.cv.kind c.cv.k ByteArray.empty c.cv.n c.cv.v (.complex .f64 0 0) w') :
  Zz1 Tryz.prog ZyC #[.pointer (some ⟨r, 0, none⟩)] w [.agg [.int .u8, .int .i64, .str, .str, .str, .val]] J := by
 cases c with
 | eq n v => exact CondEq_ok T h hT hF.1 hF.2 ht K
 | idx ds k => exact CondIx_ok h hF ht K
end
end Go.Proofs.YtjlgopfceebdcaaGreatDoor
end
section
namespace Go.Vc
open Go Go.Lib
def YdL : ByteArray := ⟨#[42]⟩
def Yao : ByteArray := ⟨#[110, 111, 100, 101]⟩
inductive Sp where
 | all (deep node : Bool) (cs : List Cd)
 | attr (n : ByteArray)
def Sp.hd : Sp -> List UInt8
 | .all d nd _ => 47 :: ((if d then [47] else []) ++ (if nd then [110, 111, 100, 101, 40, 41] else [42]))
 | .attr n => 47 :: 64 :: bl n
def Sp.cds : Sp -> List Cd
 | .all _ _ cs => cs
 | .attr _ => []
def Sp.tx (s : Sp) : List UInt8 := s.hd ++ ZxS s.cds
def Sp.Fit : Sp -> Prop
 | .all _ _ cs => ∀ c ∈ cs, c.Fit
 | .attr n => nm (bl n) = true
def Sp.Stop : Sp -> List UInt8 -> Prop
 | .all _ _ _, x => x.head? ≠ some 91
 | .attr _, x => StopN x
structure StV where
 deep : Bool
 attr : Bool
 test : ByteArray
 n : ByteArray
 p : Option Addr
 l : Nat
 c : Nat
 cs : List CV
def StV.cells (s : StV) : List Value := [.bool s.deep, .bool s.attr, .string s.test, .string ByteArray.empty, .string s.n, .slice s.p s.l s.c]
theorem Yh0 (L : List StV) : Yej StV.cells 6 L := fun _ _ => rfl
theorem one1_st (x : StV) : one1 x.cells := Zz9 rfl (Zz9 rfl (Zz9 rfl (Zz9 rfl (Zz9 rfl (Zz9 rfl Zy4)))))
def Sp.Is (s : StV) : Sp -> Prop
 | .all d nd cs => s.deep = d /\ s.attr = false /\ s.test = (if nd then Yao else YdL) /\ s.cs = cs.map Cd.cv
 | .attr n => s.deep = false /\ s.attr = true /\ s.test = ByteArray.empty /\ s.n = n /\ s.cs = []
theorem cdsTx_len : ∀ L : List Cd, L.length <= (ZxS L).length
 | [] => Nat.le_refl _
 | c :: L => by
  have e : ZxS (c :: L) = 91 :: (c.tx ++ ZxS L) := by simp [ZxS]
  have := cdsTx_len L
  rw [e, length_cons, length_cons, length_append]; omega
theorem Ygm {b : UInt8} {r : List UInt8} (h : b.toNat < 128) (hp : isPt (b.toNat : Int) = true) : prt (b :: r) = prt r := by
 have hr : rd (b :: r) = (b.toNat, 1) := ZqL b r h
 rw [Yet (by simp) (by rw [hr]; simp), hr, hp]; rfl
theorem nm_node : nm (bl Yao) = true := by
 have e : bl Yao = [110, 111, 100, 101] := rfl
 have hr : rd [110, 111, 100, 101] = ((110 : UInt8).toNat, 1) := ZqL 110 _ (by decide)
 unfold nm
 rw [e, hr, Ygm (by decide) (by decide), Ygm (by decide) (by decide), Ygm (by decide) (by decide), Ygm (by decide) (by decide), prt_nil]
 decide
end Go.Vc
namespace Go.Proofs.YtjlgopfceebdcaaGreatDoor
open Go Go.Vc Go.Lib
def StOk (w : World) (s : StV) : Prop := Row w Zzy 6 s.p s.l s.c (rows CV.cells s.cs)
section
variable {w w' : World} {r : Nat} {q : ByteArray} {i : Nat}
def zst (d a : Bool) (t n : ByteArray) (p : Option Addr) (l c : Nat) : List Value := [.bool d, .bool a, .string t, .string ByteArray.empty, .string n, .slice p l c]
set_option maxHeartbeats 2000000 in
theorem StepQ_ok {sp : Sp} {x : List UInt8} {J : Bool -> Bool -> ByteArray -> ByteArray -> ByteArray -> Option Addr -> Nat -> Nat -> World -> Prop} (T : YfJ w) (h : RdS w r q i) (hT : ∀ w', Chg (fun x => x = r) w w' -> YfJ w') (hF : sp.Fit)
    (ht : (bl q).drop i = sp.tx ++ x) (hx : sp.Stop x)
    (K : ∀ s w', sp.Is s -> StOk w' s -> fresh w s.p -> RdS w' r q (i + sp.tx.length) -> Chg (fun x => x = r) w w' -> J s.deep s.attr s.test ByteArray.empty s.n s.p s.l s.c w') :
    Zz1 Tryz.prog Zqw #[.pointer (some ⟨r, 0, none⟩)] w [.agg [.bool, .bool, .str, .str, .str, .slice]] J := by
  have hlen := h.len
  have hle := h.le
  have hq : i + sp.tx.length <= q.size := by
    have := congrArg List.length ht
    rw [List.length_drop, ZzA, List.length_append] at this; omega
  have hrl : r < w.heap.size := Zy8 h.cell
  have htx : sp.tx = sp.hd ++ ZxS sp.cds := rfl
  refine YcP ?_
  simp only [Yf5, YbT, show (⟨#[110, 111, 100, 101]⟩ : ByteArray) = Yao from rfl]
  refine h.hp.newB fun b2 w1 H1 hb2 hc1 => ?_
  refine H1.newB fun b3 w2 H2 hb3 hc2 => ?_
  have h47 : ∃ y, (bl q).drop i = 47 :: y := by
    rw [ht, htx]; cases sp <;> exact ⟨_, rfl⟩
  obtain ⟨y, hy⟩ := h47
  obtain ⟨g0, d0⟩ := ZzQ hy
  have hqi : i + 1 <= q.size := by have := (List.getElem?_eq_some_iff.1 g0).1; rw [ZzA] at this; omega
  refine Ydg (d := 47) rfl ⟨H2.get 2 rfl, hlen, hle⟩ g0 fun w3 h3 hc3 => ?_
  have H3 := H2.redo 2 rfl hc3 h3.cell
  simp only [List.set_cons_zero, List.set_cons_succ] at H3
  -- the end: what stands in the variable is answered
  cases sp with
  | attr n =>
    have hy2 : y = 64 :: (bl n ++ x) := by
      have := hy.symm.trans ht
      simpa [Sp.tx, Sp.hd, Sp.cds, ZxS] using this
    rw [hy2] at d0
    obtain ⟨g1, d1⟩ := ZzQ d0
    have htl : (Sp.attr n).tx.length = n.size + 2 := by simp [Sp.tx, Sp.hd, Sp.cds, ZxS, ZzA]
    rw [htl] at hq K
    refine ZqV (d := 47) rfl h3 (fun hne => ?_) (fun _ w4 h4 hc4 => ?_)
    · exfalso; rw [g1] at hne; exact absurd hne (by decide)
    have H4 := H3.step0 hc4
    refine H4.stV 0 rfl (off := 0) (by simp) fun w5 H5 hc5 => ?_
    simp only [List.set_cons_zero] at H5
    refine Zzf fun J16 hJ16 => ?_
    have k16 : ∀ w6, Hp w (fun x => x = r) w6 [⟨b3, zst false false ByteArray.empty ByteArray.empty none 0 0, Zzc⟩, ⟨b2, zst false false ByteArray.empty ByteArray.empty none 0 0, Zzc⟩, ⟨r, [.string q, .int .i64 ((i + 1 + 1 : Nat) : Int)], Zzr⟩] -> J16 true w6 := by
      intro w6 H6
      subst hJ16
      refine Zzd (fun _ => ?_) (fun h => by cases h)
      refine H6.stV 0 rfl (off := 1) (by simp [zst]) fun w7 H7 hc7 => ?_
      simp only [zst, List.set_cons_zero, List.set_cons_succ] at H7
      refine Zzf fun J0 hJ0 => ?_
      have k0 : ∀ w8, Hp w (fun x => x = r) w8 [⟨b3, zst false true ByteArray.empty n none 0 0, Zzc⟩, ⟨b2, zst false false ByteArray.empty ByteArray.empty none 0 0, Zzc⟩, ⟨r, [.string q, .int .i64 ((i + 1 + 1 + n.size : Nat) : Int)], Zzr⟩] -> J0 w8 := by
        intro w8 H8
        subst hJ0
        refine H8.ldB 0 rfl (off := 0) rfl ?_
        refine H8.ldB 0 rfl (off := 1) rfl ?_
        refine H8.ldStr 0 rfl (off := 2) rfl ?_
        refine H8.ldStr 0 rfl (off := 3) rfl ?_
        refine H8.ldStr 0 rfl (off := 4) rfl ?_
        refine H8.ldS 0 rfl (off := 5) rfl ?_
        refine H8.stN 1 rfl (off := 0) rfl (by simp [zst]) (one1_st ⟨false, true, ByteArray.empty, n, none, 0, 0, []⟩) fun w9 H9 hc9 => ?_
        simp only [zst, List.set_cons_zero, List.set_cons_succ, spl6] at H9
        refine H9.ldB 1 rfl (off := 0) rfl ?_
        refine H9.ldB 1 rfl (off := 1) rfl ?_
        refine H9.ldStr 1 rfl (off := 2) rfl ?_
        refine H9.ldStr 1 rfl (off := 3) rfl ?_
        refine H9.ldStr 1 rfl (off := 4) rfl ?_
        refine H9.ldS 1 rfl (off := 5) rfl ?_
        have hg := H9.get 2 rfl
        refine K ⟨false, true, ByteArray.empty, n, none, 0, 0, []⟩ w9 ⟨rfl, rfl, rfl, rfl, rfl⟩ (Row.nil _ _ _) (by rintro a ⟨⟩) ⟨?_, hlen, by omega⟩ H9.chg
        rw [show i + (n.size + 2) = i + 1 + 1 + n.size by omega]
        exact hg
      clear hJ0
      have hn0 : nm (bl n) = true := hF
      have hnb : (bl q)[i + 1 + 1]? ≠ some 42 := by
        intro e
        have hne : bl n ≠ [] := by simp only [nm, Bool.and_eq_true, decide_eq_true_eq] at hn0; exact hn0.1.1.1
        obtain ⟨a, r', har⟩ := List.exists_cons_of_ne_nil hne
        rw [har, List.cons_append] at d1
        rw [(ZzQ d1).1, Option.some.injEq] at e
        subst e
        have hr : rd (42 :: r') = ((42 : UInt8).toNat, 1) := ZqL 42 _ (by decide)
        simp only [nm, Bool.and_eq_true, decide_eq_true_eq] at hn0
        have hs := hn0.1.2
        rw [har, hr] at hs
        revert hs; decide
      refine ZqV (d := 42) rfl ⟨H7.get 2 rfl, hlen, by omega⟩ (fun e => absurd e hnb) (fun _ w8 h8 hc8 => ?_)
      have H8 := H7.step0 hc8
      refine Zzd (fun h => by cases h) (fun _ => ?_)
      refine NameQ_ok (hT _ H8.chg) ⟨H8.get 2 rfl, hlen, by omega⟩ (fun w' hc => hT _ (H8.chg.trans hc fun _ _ e => e)) hn0 d1 hx fun w9 h9 hc9 => ?_
      have H9 := H8.redo 2 rfl hc9 h9.cell
      simp only [List.set_cons_zero, List.set_cons_succ] at H9
      refine H9.stN 0 rfl (off := 3) rfl (by simp) (Zz9 rfl (Zz9 rfl Zy4)) fun w10 H10 hc10 => ?_
      simp only [List.set_cons_zero, List.set_cons_succ, spl63] at H10
      exact k0 w10 H10
    clear hJ16
    refine H5.ldB 0 rfl (off := 0) rfl ?_
    refine ZzU (fun _ => ?_) (fun h => by cases h)
    refine ZqV (d := 64) rfl ⟨H5.get 2 rfl, hlen, by omega⟩ (fun _ w6 h6 hc6 => ?_) (fun hne => absurd g1 hne)
    have H6 := H5.redo 2 rfl hc6 h6.cell
    simp only [List.set_cons_zero, List.set_cons_succ] at H6
    exact k16 w6 H6
  | all d nd cs =>
    -- where the test begins
    have hy2 : y = (if d then [47] else []) ++ ((if nd then [110, 111, 100, 101, 40, 41] else [42]) ++ (ZxS cs ++ x)) := by
      have := hy.symm.trans ht
      simpa [Sp.tx, Sp.hd, Sp.cds, ZxS] using this
    have htl : (Sp.all d nd cs).tx.length = 1 + (if d then 1 else 0) + (if nd then 6 else 1) + (ZxS cs).length := by
      simp only [Sp.tx, Sp.hd, Sp.cds, List.length_append, List.length_cons]
      cases d <;> cases nd <;> simp <;> omega
    have hpos : (bl q).drop (i + 1 + (if d then 1 else 0)) = (if nd then [110, 111, 100, 101, 40, 41] else [42]) ++ (ZxS cs ++ x) := by
      rw [hy2] at d0
      cases d with
      | true => exact (ZzQ d0).2
      | false => exact d0
    generalize hi1 : i + 1 + (if d then 1 else 0) = i1 at *
    have hq1 : i1 + (if nd then 6 else 1) + (ZxS cs).length <= q.size := by rw [htl] at hq; omega
    have hend : i + (Sp.all d nd cs).tx.length = i1 + (if nd then 6 else 1) + (ZxS cs).length := by rw [htl]; omega
    -- what comes behind the slashes
    have main : ∀ (w6 : World) (J16 : Bool -> World -> Prop), (∀ w6, Hp w (fun x => x = r) w6 [⟨b3, zst d false ByteArray.empty ByteArray.empty none 0 0, Zzc⟩, ⟨b2, zst false false ByteArray.empty ByteArray.empty none 0 0, Zzc⟩, ⟨r, [.string q, .int .i64 (i1 : Int)], Zzr⟩] -> J16 false w6) ->
        Hp w (fun x => x = r) w6 [⟨b3, zst d false ByteArray.empty ByteArray.empty none 0 0, Zzc⟩, ⟨b2, zst false false ByteArray.empty ByteArray.empty none 0 0, Zzc⟩, ⟨r, [.string q, .int .i64 (i1 : Int)], Zzr⟩] -> J16 false w6 := fun w6 J16 k H => k w6 H
    have slash : ∀ {K1 : Bool -> World -> Prop}, (∀ w4, Hp w (fun x => x = r) w4 [⟨b3, zst false false ByteArray.empty ByteArray.empty none 0 0, Zzc⟩, ⟨b2, zst false false ByteArray.empty ByteArray.empty none 0 0, Zzc⟩, ⟨r, [.string q, .int .i64 (i1 : Int)], Zzr⟩] -> K1 d w4) ->
        Zz1 Tryz.prog Zzv #[.pointer (some ⟨r, 0, none⟩), .int .u8 (47 : Int)] w3 [.one .bool] K1 := by
      intro K1 k
      rw [hy2] at d0
      cases d with
      | true =>
        obtain ⟨g1, _⟩ := ZzQ d0
        refine ZqV (d := 47) rfl h3 (fun _ w4 h4 hc4 => ?_) (fun hne => absurd g1 hne)
        have H4 := H3.redo 2 rfl hc4 h4.cell
        simp only [List.set_cons_zero, List.set_cons_succ] at H4
        have : i + 1 + 1 = i1 := hi1
        rw [this] at H4
        exact k w4 H4
      | false =>
        have : i + 1 = i1 := hi1
        refine ZqV (d := 47) rfl h3 (fun hne => ?_) (fun _ w4 h4 hc4 => ?_)
        · exfalso
          cases nd with
          | true => rw [(ZzQ d0).1] at hne; exact absurd hne (by decide)
          | false => rw [(ZzQ d0).1] at hne; exact absurd hne (by decide)
        · have H4 := H3.step0 hc4
          rw [this] at H4
          exact k w4 H4
    refine slash fun w4 H4 => ?_
    refine H4.stV 0 rfl (off := 0) (by simp [zst]) fun w5 H5 hc5 => ?_
    simp only [zst, List.set_cons_zero] at H5
    refine Zzf fun J16 hJ16 => ?_
    have k16 : ∀ w6, Hp w (fun x => x = r) w6 [⟨b3, zst d false ByteArray.empty ByteArray.empty none 0 0, Zzc⟩, ⟨b2, zst false false ByteArray.empty ByteArray.empty none 0 0, Zzc⟩, ⟨r, [.string q, .int .i64 (i1 : Int)], Zzr⟩] -> J16 false w6 := by
      intro w6 H6
      subst hJ16
      refine Zzd (fun h => by cases h) (fun _ => ?_)
      refine Zzf fun J0 hJ0 => ?_
      have k0 : ∀ (tst nv : ByteArray) (j : Nat) w14, tst = (if nd then Yao else YdL) -> j = i1 + (if nd then 6 else 1) -> Hp w (fun x => x = r) w14 [⟨b3, zst d false tst nv none 0 0, Zzc⟩, ⟨b2, zst false false ByteArray.empty ByteArray.empty none 0 0, Zzc⟩, ⟨r, [.string q, .int .i64 (j : Int)], Zzr⟩] -> J0 w14 := by
        intro tst nv j w14 htst hj H14
        subst hJ0
        have hdj : (bl q).drop j = ZxS cs ++ x := by
          rw [hj, show i1 + (if nd then 6 else 1) = i1 + (if nd = true then [110, 111, 100, 101, 40, 41] else ([42] : List UInt8)).length by cases nd <;> rfl]
          exact YbK hpos
        refine ⟨fun w' m => ∃ (dn rest : List Cd) (p : Option Addr) (l c : Nat) (e : Nat), cs = dn ++ rest /\ m = rest.length /\ Hp w (fun x => x = r) w' [⟨b3, zst d false tst nv p l c, Zzc⟩, ⟨b2, zst false false ByteArray.empty ByteArray.empty none 0 0, Zzc⟩, ⟨r, [.string q, .int .i64 (e : Int)], Zzr⟩] /\
          Row w' Zzy 6 p l c (rows CV.cells (dn.map Cd.cv)) /\ fresh w p /\ l = dn.length /\ e = j + (ZxS dn).length, ⟨cs.length, [], cs, none, 0, 0, j, rfl, rfl, H14, Row.nil _ _ _, (by rintro a ⟨⟩), rfl, by simp [ZxS]⟩, ?_⟩
        rintro w15 m ⟨dn, rest, p, l, c, e, hcs, rfl, H15, hrow, hfr, hl, he⟩
        have hde : (bl q).drop e = ZxS rest ++ x := by
          rw [he]
          have : (bl q).drop j = ZxS dn ++ (ZxS rest ++ x) := by rw [hdj, hcs]; simp [ZxS]
          exact YbK this
        have hqe : e + (ZxS rest).length <= q.size := by
          have e1 : (ZxS cs).length = (ZxS dn).length + (ZxS rest).length := by rw [hcs]; simp [ZxS]
          omega
        have hne3 : ∀ a, p = some a -> a.block ≠ b3 := fun a ha hb => by
          have h1 := hrow.typ a ha
          rw [hb, YaX (H15.get 0 rfl)] at h1
          exact absurd (Option.some.inj h1) (by decide)
        have hne2 : ∀ a, p = some a -> a.block ≠ b2 := fun a ha hb => by
          have h1 := hrow.typ a ha
          rw [hb, YaX (H15.get 1 rfl)] at h1
          exact absurd (Option.some.inj h1) (by decide)
        have hner : ∀ a, p = some a -> a.block ≠ r := fun a ha hb => by
          have h1 := hfr a ha
          omega
        cases rest with
        | nil =>
          have h91 : (bl q)[e]? ≠ some 91 := by
            rw [show (bl q)[e]? = ((bl q).drop e).head? by rw [List.head?_drop], hde]
            exact hx
          refine ZqV (d := 91) rfl ⟨H15.get 2 rfl, hlen, by omega⟩ (fun e => absurd e h91) (fun _ w16 h16 hc16 => ?_)
          have H16 := H15.step0 hc16
          refine Zzd (fun h => by cases h) (fun _ => ?_)
          refine H16.ldB 0 rfl (off := 0) rfl ?_
          refine H16.ldB 0 rfl (off := 1) rfl ?_
          refine H16.ldStr 0 rfl (off := 2) rfl ?_
          refine H16.ldStr 0 rfl (off := 3) rfl ?_
          refine H16.ldStr 0 rfl (off := 4) rfl ?_
          refine H16.ldS 0 rfl (off := 5) rfl ?_
          refine H16.stN 1 rfl (off := 0) rfl (by simp [zst]) (one1_st ⟨d, false, tst, nv, p, l, c, []⟩) fun w21 H21 hc21 => ?_
          simp only [zst, List.set_cons_zero, List.set_cons_succ, spl6] at H21
          refine H21.ldB 1 rfl (off := 0) rfl ?_
          refine H21.ldB 1 rfl (off := 1) rfl ?_
          refine H21.ldStr 1 rfl (off := 2) rfl ?_
          refine H21.ldStr 1 rfl (off := 3) rfl ?_
          refine H21.ldStr 1 rfl (off := 4) rfl ?_
          refine H21.ldS 1 rfl (off := 5) rfl ?_
          have hg := H21.get 2 rfl
          have hcs2 : dn = cs := by rw [hcs, List.append_nil]
          refine K ⟨d, false, tst, nv, p, l, c, cs.map Cd.cv⟩ w21 ⟨rfl, rfl, htst, rfl⟩ ?_ hfr ⟨?_, hlen, by rw [hend, <- hj, <- hcs2]; omega⟩ H21.chg
          · show Row w21 Zzy 6 p l c _
            rw [<- hcs2]
            exact (hrow.chg hc16 (off_no _)).chg hc21 hne2
          · rw [hend, <- hj, <- hcs2, <- he]
            exact hg
        | cons cd rest =>
          have hcd : cd.Fit := hF cd (by rw [hcs]; simp)
          have hde2 : (bl q).drop e = 91 :: (cd.tx ++ (ZxS rest ++ x)) := by rw [hde]; simp [ZxS]
          obtain ⟨g1, d1⟩ := ZzQ hde2
          have hlc : (ZxS (cd :: rest)).length = 1 + cd.tx.length + (ZxS rest).length := by simp [ZxS]; omega
          refine ZqV (d := 91) rfl ⟨H15.get 2 rfl, hlen, by omega⟩ (fun _ w16 h16 hc16 => ?_) (fun hne => absurd g1 hne)
          have H16 := H15.redo 2 rfl hc16 h16.cell
          simp only [List.set_cons_zero, List.set_cons_succ] at H16
          have hrow16 := hrow.chg hc16 hner
          refine Zzd (fun _ => ?_) (fun h => by cases h)
          have H16d := H16.drew
          refine H16d.ldS 0 rfl (off := 5) rfl ?_
          refine CondD_ok (hT _ H16d.chg) ⟨H16d.get 2 rfl, hlen, by omega⟩ (fun w' hc => hT _ (H16d.chg.trans hc fun _ _ e => e)) hcd d1 fun w17 h17 hc17 => ?_
          have H17 := H16d.redo 2 rfl hc17 h17.cell
          simp only [List.set_cons_zero, List.set_cons_succ] at H17
          have hrow17 := (hrow16.chg (YeR w16) (off_no _)).chg hc17 hner
          refine ⟨H17.cell 0 rfl rfl, rfl, ?_⟩
          refine newRow (sz := 6) (n := 1) rfl (by decide) fun b70 w18 hr18 hb70 hc18 => ?_
          have H18 := H17.step0 hc18
          refine ⟨H18.cell 0 rfl rfl, ?_⟩
          have hdl : dn.length <= 1000000000 := by have := cdsTx_len dn; omega
          refine Zx3 slT_cond (hrow17.chg hc18 (off_no _)) hr18.sl (Yff cd.cv) (by simp) (by omega) (by simp only [maxLen]; omega) fun p19 c19 w19 hr19 hc19 hf19 => ?_
          have hlt16 : ∀ a, p = some a -> a.block < w17.heap.size := hrow17.lt
          have H19 : Hp w (fun x => x = r) w19 _ := H18.step hc19 (fun z hz => by
            rintro ⟨a, ha, eb⟩
            simp only [List.mem_cons, List.not_mem_nil, or_false] at hz
            rcases hz with rfl | rfl | rfl
            · exact hne3 a ha eb
            · exact hne2 a ha eb
            · exact hner a ha eb) (fun b hb => by
            rintro ⟨a, ha, rfl⟩
            have := hfr a ha
            omega)
          have hfr19 : fresh w p19 := by
            rcases hf19 with rfl | hf
            · exact hfr
            · intro a ha
              have := hf a ha
              have := H18.chg.size
              omega
          have hne19 : ∀ a, p19 = some a -> a.block ≠ b3 := fun a ha hb => by
            have h1 := hr19.typ a ha
            rw [hb, YaX (H19.get 0 rfl)] at h1
            exact absurd (Option.some.inj h1) (by decide)
          refine H19.stV 0 rfl (off := 5) (by simp [zst]) fun w20 H20 hc20 => ?_
          simp only [zst, List.set_cons_zero, List.set_cons_succ] at H20
          refine ⟨rest.length, by simp, dn ++ [cd], rest, p19, l + 1, c19, e + 1 + cd.tx.length, by rw [hcs]; simp, rfl, H20, ?_, hfr19, by rw [hl]; simp, by rw [he]; simp [ZxS]; omega⟩
          have := hr19.chg hc20 hne19
          rw [List.map_append, Zzw]
          have e1 : rows CV.cells (List.map Cd.cv [cd]) = cd.cv.cells := by simp [rows]
          rw [e1]; exact this
      clear hJ0
      cases nd with
      | false =>
        obtain ⟨g1, _⟩ := ZzQ hpos
        refine ZqV (d := 42) rfl ⟨H6.get 2 rfl, hlen, by omega⟩ (fun _ w22 h22 hc22 => ?_) (fun hne => absurd g1 hne)
        have H22 := H6.redo 2 rfl hc22 h22.cell
        simp only [List.set_cons_zero, List.set_cons_succ] at H22
        refine Zzd (fun _ => ?_) (fun h => by cases h)
        refine H22.stV 0 rfl (off := 2) (by simp [zst]) fun w23 H23 hc23 => ?_
        simp only [zst, List.set_cons_zero, List.set_cons_succ] at H23
        exact k0 YdL ByteArray.empty (i1 + 1) w23 rfl rfl H23
      | true =>
        have hpos2 : (bl q).drop i1 = bl Yao ++ 40 :: 41 :: (ZxS cs ++ x) := hpos
        have d4 := YbK hpos2
        rw [show (bl Yao).length = 4 from rfl] at d4
        obtain ⟨g4, d5⟩ := ZzQ d4
        obtain ⟨g5, d6⟩ := ZzQ d5
        simp only [if_true] at hq1
        refine ZqV (d := 42) rfl ⟨H6.get 2 rfl, hlen, by omega⟩ (fun e => ?_) (fun _ w22 h22 hc22 => ?_)
        · exfalso
          rw [(ZzQ (show (bl q).drop i1 = 110 :: _ from hpos2)).1] at e
          exact absurd e (by decide)
        have H22 := H6.step0 hc22
        refine Zzd (fun h => by cases h) (fun _ => ?_)
        refine NameQ_ok (hT _ H22.chg) ⟨H22.get 2 rfl, hlen, by omega⟩ (fun w' hc => hT _ (H22.chg.trans hc fun _ _ e => e)) nm_node hpos2 (fun d' rr e => ?_) fun w24 h24 hc24 => ?_
        · simp only [List.cons.injEq] at e
          rw [<- e.1]
          exact ⟨by decide, by decide, by decide⟩
        have H24 := H22.redo 2 rfl hc24 h24.cell
        simp only [List.set_cons_zero, List.set_cons_succ] at H24
        refine H24.stN 0 rfl (off := 3) rfl (by simp [zst]) (Zz9 rfl (Zz9 rfl Zy4)) fun w25 H25 hc25 => ?_
        simp only [zst, List.set_cons_zero, List.set_cons_succ, spl63] at H25
        refine H25.ldStr 0 rfl (off := 3) rfl ?_
        refine H25.ldStr 0 rfl (off := 4) rfl ?_
        refine H25.newB fun b4 w26 H26 hb4 hc26 => ?_
        refine H26.stN 0 rfl (off := 0) rfl (by simp) (Zz9 rfl (Zz9 rfl Zy4)) fun w27 H27 hc27 => ?_
        simp only [List.set_cons_zero, spl2] at H27
        refine Zzf fun J56 hJ56 => ?_
        have k56 : ∀ w28, Hp w (fun x => x = r) w28 [⟨b4, [.string ByteArray.empty, .string Yao], Zzs⟩, ⟨b3, zst d false ByteArray.empty Yao none 0 0, Zzc⟩, ⟨b2, zst false false ByteArray.empty ByteArray.empty none 0 0, Zzc⟩, ⟨r, [.string q, .int .i64 ((i1 + Yao.size : Nat) : Int)], Zzr⟩] -> J56 true w28 := by
          intro w28 H28
          subst hJ56
          refine Zzd (fun _ => ?_) (fun h => by cases h)
          refine H28.ldStr 0 rfl (off := 1) rfl ?_
          refine H28.stV 1 rfl (off := 2) (by simp [zst]) fun w29 H29 hc29 => ?_
          simp only [zst, List.set_cons_zero, List.set_cons_succ] at H29
          refine Ydg (d := 40) rfl ⟨H29.get 3 rfl, hlen, by rw [show Yao.size = 4 from rfl]; omega⟩ g4 fun w30 h30 hc30 => ?_
          have H30 := H29.redo 3 rfl hc30 h30.cell
          simp only [List.set_cons_zero, List.set_cons_succ] at H30
          refine Ydg (d := 41) rfl ⟨H30.get 3 rfl, hlen, by rw [show Yao.size = 4 from rfl]; omega⟩ g5 fun w31 h31 hc31 => ?_
          have H31 := H30.redo 3 rfl hc31 h31.cell
          simp only [List.set_cons_zero, List.set_cons_succ] at H31
          refine k0 Yao Yao (i1 + 4 + 1 + 1) w31 rfl rfl (H31.sub (List.sublist_cons_self _ _))
        clear hJ56
        refine H27.ldStr 0 rfl (off := 0) rfl ?_
        refine H27.ldStr 0 rfl (off := 1) rfl ?_
        refine H27.ldStr 0 rfl (off := 1) rfl ?_
        simp only [beqS, decide_true, Bool.and_true]
        refine Zzd (fun _ => ?_) (fun h => by cases h)
        refine HereQ_ok (d := 40) rfl ⟨H27.get 3 rfl, hlen, by rw [show Yao.size = 4 from rfl]; omega⟩ ?_
        rw [decide_eq_true (show (bl q)[i1 + Yao.size]? = some 40 from g4)]
        have H27d := H27.drew
        refine Zzd (fun _ => ?_) (fun h => by cases h)
        refine H27d.ldStr 0 rfl (off := 1) rfl ?_
        refine Zz5 (fun h => absurd h (by decide)) (fun _ => ?_)
        refine H27d.ldStr 0 rfl (off := 1) rfl ?_
        refine Zz5 (fun h => absurd h (by decide)) (fun _ => ?_)
        refine H27d.ldStr 0 rfl (off := 1) rfl ?_
        exact k56 _ H27d
    clear hJ16
    refine H5.ldB 0 rfl (off := 0) rfl ?_
    cases d with
    | true => exact ZzU (fun h => by cases h) (fun _ => k16 _ H5)
    | false =>
      refine ZzU (fun _ => ?_) (fun h => by cases h)
      refine ZqV (d := 64) rfl ⟨H5.get 2 rfl, hlen, by omega⟩ (fun e => ?_) (fun _ w33 h33 hc33 => ?_)
      · exfalso
        cases nd with
        | true => rw [(ZzQ hpos).1] at e; exact absurd e (by decide)
        | false => rw [(ZzQ hpos).1] at e; exact absurd e (by decide)
      · exact k16 _ (H5.step0 hc33)
end
end Go.Proofs.YtjlgopfceebdcaaGreatDoor
end
section
namespace Go.Proofs.YtjlgopfceebdcaaGreatDoor
open Go Go.Vc
theorem Ygc {a b : Bool} {c d e : ByteArray} {f : Option Addr} {g i : Nat} {j : Int} {k l : ByteArray} {m : Option Addr} {n o : Nat} {p : Option Addr} {q r : Nat} {s : ByteArray} {w : World} {J : Bool -> World -> Prop} (h :
 newB w (.cells ⟨[.bool a, .bool b, .string c, .string d, .string e, .slice f g i]⟩ Zzc) fun t u =>
 newB u (.cells ⟨[.int .i64 j, .string k, .string l, .slice m n o, .slice p q r, .string s]⟩ Zz3) fun v x =>
 ldStr x ⟨t, 2, none⟩ fun y =>
 Zz2 (y.toList == (⟨#[42]⟩ : ByteArray).toList) (
 ldI .i64 x ⟨v, 0, none⟩ fun z =>
 J (z == (2 : Int)) x) (
 Zz2 (y.toList == (⟨#[116, 101, 120, 116]⟩ : ByteArray).toList) (
 ldI .i64 x ⟨v, 0, none⟩ fun aa =>
 J (aa == (3 : Int)) x) (
 Zz2 (y.toList == (⟨#[99, 111, 109, 109, 101, 110, 116]⟩ : ByteArray).toList) (
 ldI .i64 x ⟨v, 0, none⟩ fun ab =>
 J (ab == (4 : Int)) x) (
 Zz2 (y.toList == (⟨#[110, 111, 100, 101]⟩ : ByteArray).toList) (
 J true x) (
 Zzl (fun (aj : Bool) (ak : World) =>
 J aj ak) fun ac =>
 ldI .i64 x ⟨v, 0, none⟩ fun ad =>
 Zz2 (ad == (2 : Int)) (
 ldStr x ⟨v, 1, none⟩ fun ae =>
 ldStr x ⟨v, 2, none⟩ fun af =>
 ldStr x ⟨t, 3, none⟩ fun ag =>
 ldStr x ⟨t, 4, none⟩ fun ai =>
 ac ((ae.toList == ag.toList) && ((af.toList == ai.toList) && true)) x) (
 ac false x)))))) : Zz1 Tryz.prog Ya8 #[.agg ⟨[.bool a, .bool b, .string c, .string d, .string e, .slice f g i]⟩, .agg ⟨[.int .i64 j, .string k, .string l, .slice m n o, .slice p q r, .string s]⟩] w [.one .bool] J := Zz6 Tryz.func51 (.s .o (.s (.s .o (.b (.s .o (.c (.s .o .o) (.s .o (.c (.s .o .o) (.s .o (.c (.s .o .o) (.s .o (.c (.s .o .o) .o)))))))))) (.j [(4, .bool)] .o .o))) (Eq.mpr (by kernel_rfl) h)
theorem Yfy {a b : Int} {c d e : ByteArray} {f : Value} {g : Int} {i j : ByteArray} {k : Option Addr} {l m : Nat} {n : Option Addr} {o p : Nat} {q : ByteArray} {w : World} {J : Bool -> World -> Prop} (h :
 newB w (.cells ⟨[.int .u8 a, .int .i64 b, .string c, .string d, .string e, f]⟩ Zzy) fun r s =>
 newB s (.cells ⟨[.int .i64 g, .string i, .string j, .slice k l m, .slice n o p, .string q]⟩ Zz3) fun t u =>
 ldS u ⟨t, 3, none⟩ fun v x y =>
 Zz1 Tryz.prog Zze #[.slice v x y, .func (.func 103) #[] #[.pointer (some ⟨r, 0, none⟩)]] u [.one (.int .i64)] fun z aa =>
 Zzl (fun (a0 : Bool) (a1 : World) =>
 Zz2 a0 (
 J false a1) (
 ldS a1 ⟨t, 3, none⟩ fun ab ac ad =>
 ZyN ab ac z fun ae =>
 ldStr a1 (((ae.add (z.toNat * 3)).add 2)) fun af =>
 ldI .u8 a1 ⟨r, 0, none⟩ fun ag =>
 Zz2 (ag == (61 : Int)) (
 ldStr a1 ⟨r, 4, none⟩ fun ai =>
 J (af.toList == ai.toList) a1) (
 Zz2 (ag == (126 : Int)) (
 Zz1 Tryz.prog fn_trace_Read #[.string af] a1 [.one .slice, .one (.int .i64), .one (.int .i64)] fun aj ak al am an ao =>
 ldV ao ⟨r, 5, none⟩ fun ap =>
 Zz1 Tryz.prog YgS #[.slice aj ak al, ap] ao [.one (.int .i64), .one .bool, .one (.int .i64)] fun aq ar au av =>
 Zzl (fun (a2 : Bool) (a3 : World) =>
 J a2 a3) fun ax =>
 Zz2 (an == (0 : Int)) (
 Zz2 (au == (0 : Int)) (
 Zz2 ar (
 ax true av) (
 ax (aq != (0 : Int)) av)) (
 ax false av)) (
 ax false av)) (
 J true a1)))) fun ay =>
 Zz2 (decide (z < (0 : Int))) (
 ay true aa) (
 ldI .i64 aa ⟨t, 0, none⟩ fun az =>
 ay (az != (2 : Int)) aa)) : Zz1 Tryz.prog ZqR #[.agg ⟨[.int .u8 a, .int .i64 b, .string c, .string d, .string e, f]⟩, .agg ⟨[.int .i64 g, .string i, .string j, .slice k l m, .slice n o p, .string q]⟩] w [.one .bool] J := Zz6 Tryz.func54 (.s .o (.s .o (.s (.j [(23, .bool)] .o (.c (.s .o .o) .o)) (.s .o (.s (.s .o (.b (.s .o (.c (.s .o .o) (.s .o (.c (.s .o (.s .o (.j [(4, .bool)] .o .o))) .o)))))) (.s .o .o)))))) (Eq.mpr (by kernel_rfl) h)
theorem Ye2 {a b c : ByteArray} {d : Addr} {w : World} {J : Bool -> World -> Prop} (h :
 newB w (.cells ⟨[.string a, .string b, .string c]⟩ Zzo) fun e f =>
 ldStr f ⟨e, 0, none⟩ fun g =>
 ldStr f ⟨e, 1, none⟩ fun i =>
 ldStr f ((d.add 2)) fun j =>
 ldStr f (((d.add 2).add 1)) fun k =>
 J ((g.toList == j.toList) && ((i.toList == k.toList) && true)) f) : Zz1 Tryz.prog Zqb #[.agg ⟨[.string a, .string b, .string c]⟩, .pointer (some d)] w [.one .bool] J := Zz6 Tryz.func103 (.s .o (.s .o .o)) (Eq.mpr (by kernel_rfl) h)
theorem ZyT {a : Option Addr} {b c : Nat} {d : Addr} {w : World} {J : Int -> World -> Prop} (h :
 ∃ l : Int -> World -> Nat -> Prop, (∃ m, l (0 : Int) w m) /\ ∀ n o m, l n o m -> (
 Zz2 (decide (n < (b : Int))) (
 ZyN a b n fun e =>
 ldStr o ((e.add (n.toNat * 3))) fun f =>
 ldStr o (((e.add (n.toNat * 3)).add 1)) fun g =>
 ldStr o (((e.add (n.toNat * 3)).add 2)) fun i =>
 Zz1 Tryz.prog Zqb #[.agg ⟨[.string f, .string g, .string i]⟩, .pointer (some d)] o [.one .bool] fun j k =>
 Zz2 j (
 J n k) (
 ∃ p, p < m /\ l (w64 (n + (1 : Int))) k p)) (
 J (-1 : Int) o))) : Zz1 Tryz.prog Zze #[.slice a b c, .func (.func 103) #[] #[.pointer (some d)]] w [.one (.int .i64)] J := Zz6 Tryz.func102 (.s .o (.s (.s .o (.b (.l [(8, .int .i64)] (.s .o (.s (.c .o .o) (.s (.b (.s .o (.s .o (.c (.s .o .o) .o)))) .o)))))) (.s .o .o))) (Eq.mpr (by kernel_rfl) h)
theorem c_pick_step_of {a b : Bool} {c d e : ByteArray} {f : Option Addr} {g i : Nat} {j : Option Addr} {k l : Nat} {m : Int} {n o : ByteArray} {p : Option Addr} {q r : Nat} {s : Option Addr} {t u : Nat} {v : ByteArray} {w : World} {J : Option Addr -> Nat -> Nat -> World -> Prop} (h :
 newB w (.cells ⟨[.bool a, .bool b, .string c, .string d, .string e, .slice f g i]⟩ Zzc) fun x y =>
 newB y (.cells ⟨[.slice j k l, .int .i64 m, .string n, .string o, .slice p q r, .slice s t u, .string v]⟩ Zz8) fun z aa =>
 ldS aa ⟨z, 5, none⟩ fun ab ac ad =>
 ∃ d5 : Option Addr -> Nat -> Nat -> Int -> World -> Nat -> Prop, (∃ d6, d5 none 0 0 (0 : Int) aa d6) /\ ∀ (dl : Option Addr) (dm : Nat) (dn : Nat) (dp : Int) (dq : World) (d6 : Nat), d5 dl dm dn dp dq d6 -> (
 Zz2 (decide (dp < (ac : Int))) (
 Zzl (fun (dr : Option Addr) (ds : Nat) (dt : Nat) (du : World) =>
 ∃ d7, d7 < d6 /\ d5 dr ds dt (w64 (dp + (1 : Int))) du d7) fun ae =>
 ZyN ab ac dp fun af =>
 ldI .i64 dq ((af.add (dp.toNat * 6))) fun ag =>
 ldStr dq (((af.add (dp.toNat * 6)).add 1)) fun ai =>
 ldStr dq (((af.add (dp.toNat * 6)).add 2)) fun aj =>
 ldS dq (((af.add (dp.toNat * 6)).add 3)) fun ak al am =>
 ldS dq (((af.add (dp.toNat * 6)).add 4)) fun an ao ap =>
 ldStr dq (((af.add (dp.toNat * 6)).add 5)) fun aq =>
 newB dq (.cells (Zy6 Tryz.prog Zz3) Zz3) fun ar au =>
 stN au ⟨ar, 0, none⟩ ⟨[.int .i64 ag, .string ai, .string aj, .slice ak al am, .slice an ao ap, .string aq]⟩ 6 fun av =>
 ldB av ⟨x, 0, none⟩ fun ax =>
 ldB av ⟨x, 1, none⟩ fun ay =>
 ldStr av ⟨x, 2, none⟩ fun az =>
 ldStr av ⟨x, 3, none⟩ fun a0 =>
 ldStr av ⟨x, 4, none⟩ fun a1 =>
 ldS av ⟨x, 5, none⟩ fun a2 a3 a4 =>
 ldI .i64 av ⟨ar, 0, none⟩ fun a5 =>
 ldStr av ⟨ar, 1, none⟩ fun a6 =>
 ldStr av ⟨ar, 2, none⟩ fun a7 =>
 ldS av ⟨ar, 3, none⟩ fun a8 a9 ba =>
 ldS av ⟨ar, 4, none⟩ fun bb bc bd =>
 ldStr av ⟨ar, 5, none⟩ fun be =>
 Zz1 Tryz.prog Ya8 #[.agg ⟨[.bool ax, .bool ay, .string az, .string a0, .string a1, .slice a2 a3 a4]⟩, .agg ⟨[.int .i64 a5, .string a6, .string a7, .slice a8 a9 ba, .slice bb bc bd, .string be]⟩] av [.one .bool] fun bf bg =>
 Zz2 bf (
 ldS bg.drew ⟨z, 0, none⟩ fun bi bj bk =>
 ldI .i64 bg.drew ⟨ar, 0, none⟩ fun bl =>
 ldStr bg.drew ⟨ar, 1, none⟩ fun bm =>
 ldStr bg.drew ⟨ar, 2, none⟩ fun bn =>
 ldS bg.drew ⟨ar, 3, none⟩ fun bo bp bq =>
 ldS bg.drew ⟨ar, 4, none⟩ fun br bs bt =>
 ldStr bg.drew ⟨ar, 5, none⟩ fun bu =>
 (
 Zz1 Tryz.prog Zzx #[.slice bi bj bk] bg.drew [.one .slice] fun bv bx bz b0 =>
 Zzh b0 ⟨ar, 0, none⟩ [.int .i64 bl, .string bm, .string bn, .slice bo bp bq, .slice br bs bt, .string bu] /\
 newB b0 (.cells ⟨[.int .i64 dp]⟩ Zqz) fun b1 b2 =>
 Zzh b2 ⟨ar, 0, none⟩ [.int .i64 bl, .string bm, .string bn, .slice bo bp bq, .slice br bs bt, .string bu] /\
 b2.cell? ⟨z, 0, none⟩ = some (.slice bi bj bk) /\
 YbM Tryz.prog Zqr Zqr (.slice bv bx bz) (.slice (some ⟨b1, 0, none⟩) 1 1) b2 fun b3 b4 b5 b6 =>
 Zzh b6 ⟨ar, 0, none⟩ [.int .i64 bl, .string bm, .string bn, .slice bo bp bq, .slice br bs bt, .string bu] /\
 Array.size (⟨[.int .i64 bl, .string bm, .string bn, .slice bo bp bq, .slice br bs bt, .string bu]⟩ : Array Value) = 6 /\
 Array.size (⟨[.slice b3 b4 b5, .int .i64 bl, .string bm, .string bn, .slice bo bp bq, .slice br bs bt, .string bu]⟩ : Array Value) = 7 /\
 newB b6 (.cells ⟨[.slice b3 b4 b5, .int .i64 bl, .string bm, .string bn, .slice bo bp bq, .slice br bs bt, .string bu]⟩ Zz8) fun b7 b8 =>
 YbM Tryz.prog Zzn Zzn (.slice dl dm dn) (.slice (some ⟨b7, 0, none⟩) 1 1) b8 fun b9 ca cb cc =>
 ae b9 ca cb cc) /\ (
 newB bg.drew (.cells ⟨[.int .i64 dp]⟩ Zqz) fun cd ce =>
 Zzh ce ⟨ar, 0, none⟩ [.int .i64 bl, .string bm, .string bn, .slice bo bp bq, .slice br bs bt, .string bu] /\
 ce.cell? ⟨z, 0, none⟩ = some (.slice bi bj bk) /\
 Zz1 Tryz.prog Zzx #[.slice bi bj bk] ce [.one .slice] fun cf cg ci cj =>
 Zzh cj ⟨ar, 0, none⟩ [.int .i64 bl, .string bm, .string bn, .slice bo bp bq, .slice br bs bt, .string bu] /\
 YbM Tryz.prog Zqr Zqr (.slice cf cg ci) (.slice (some ⟨cd, 0, none⟩) 1 1) cj fun ck cl cm cn =>
 Zzh cn ⟨ar, 0, none⟩ [.int .i64 bl, .string bm, .string bn, .slice bo bp bq, .slice br bs bt, .string bu] /\
 Array.size (⟨[.int .i64 bl, .string bm, .string bn, .slice bo bp bq, .slice br bs bt, .string bu]⟩ : Array Value) = 6 /\
 Array.size (⟨[.slice ck cl cm, .int .i64 bl, .string bm, .string bn, .slice bo bp bq, .slice br bs bt, .string bu]⟩ : Array Value) = 7 /\
 newB cn (.cells ⟨[.slice ck cl cm, .int .i64 bl, .string bm, .string bn, .slice bo bp bq, .slice br bs bt, .string bu]⟩ Zz8) fun co cp =>
 YbM Tryz.prog Zzn Zzn (.slice dl dm dn) (.slice (some ⟨co, 0, none⟩) 1 1) cp fun cq cr cs ct =>
 ae cq cr cs ct)) (
 ae dl dm dn bg)) (
 ldS dq ⟨x, 5, none⟩ fun cu cv cx =>
 ∃ d8 : Option Addr -> Nat -> Nat -> Int -> World -> Nat -> Prop, (∃ d6, d8 dl dm dn (0 : Int) dq d6) /\ ∀ (dv : Option Addr) (dx : Nat) (dy : Nat) (dz : Int) (d0 : World) (m_1 : Nat), d8 dv dx dy dz d0 m_1 -> (
 Zz2 (decide (dz < (cv : Int))) (
 Zzl (fun (d1 : Option Addr) (d2 : Nat) (d3 : Nat) (d4 : World) =>
 ∃ d7, d7 < m_1 /\ d8 d1 d2 d3 (w64 (dz + (1 : Int))) d4 d7) fun cy =>
 ZyN cu cv dz fun cz =>
 ldI .u8 d0 ((cz.add (dz.toNat * 6))) fun c0 =>
 ldI .i64 d0 (((cz.add (dz.toNat * 6)).add 1)) fun c1 =>
 ldStr d0 (((cz.add (dz.toNat * 6)).add 2)) fun c2 =>
 ldStr d0 (((cz.add (dz.toNat * 6)).add 3)) fun c3 =>
 ldStr d0 (((cz.add (dz.toNat * 6)).add 4)) fun c4 =>
 ldV d0 (((cz.add (dz.toNat * 6)).add 5)) fun c5 =>
 newB d0 (.cells (Zy6 Tryz.prog Zzy) Zzy) fun c6 c7 =>
 stN c7 ⟨c6, 0, none⟩ ⟨[.int .u8 c0, .int .i64 c1, .string c2, .string c3, .string c4, c5]⟩ 6 fun c8 =>
 ldI .u8 c8 ⟨c6, 0, none⟩ fun c9 =>
 Zz2 (c9 != (91 : Int)) (
 Zz1 Tryz.prog ZzF #[.slice dv dx dy, .func (.func 53) #[] #[.pointer (some ⟨c6, 0, none⟩)]] c8 [.one .slice] fun da db dc dd =>
 cy da db dc dd) (
 ldI .i64 c8 ⟨c6, 1, none⟩ fun de =>
 Zz2 (decide (de > (dx : Int))) (
 J none 0 0 c8) (
 ldI .i64 c8 ⟨c6, 1, none⟩ fun df =>
 ldI .i64 c8 ⟨c6, 1, none⟩ fun dg =>
 slS dv dx dy 7 (some (w64 (df - (1 : Int)))) (some dg) none fun di dj dk =>
 cy di dj dk c8))) (
 J dv dx dy d0))))) : Zz1 Tryz.prog ZqQ #[.agg ⟨[.bool a, .bool b, .string c, .string d, .string e, .slice f g i]⟩, .agg ⟨[.slice j k l, .int .i64 m, .string n, .string o, .slice p q r, .slice s t u, .string v]⟩] w [.one .slice] J := Zz6 Tryz.func18 (.s .o (.s .o (.s (.s .o (.b (.l [(5, .slice), (14, .int .i64)] (.s .o (.s (.c .o .o) (.j [(5, .slice)] (.b (.s .o (.s .o (.c (.d (.take 0 (.take 1 (.take 2 (.take 4 (.take 7 (.eff 3 (.eff 5 (.eff 6 (.take 8 (.eff 9 (.eff 10 (.take 11 .done) .none) .none)) .none) .none) (.eff 5 (.eff 3 (.eff 6 (.take 8 (.eff 9 (.eff 10 (.take 11 .done) .none) .none)) .none) .none) .none)))))))) .o)))) .o)))))) (.s (.s .o (.b (.l [(5, .slice), (37, .int .i64)] (.s .o (.s (.c .o .o) (.j [(5, .slice)] (.b (.s .o (.s (.s .o (.c (.s .o .o) .o)) (.s (.s .o (.c (.s .o .o) .o)) .o)))) .o)))))) (.s .o .o))))) (Eq.mpr (by kernel_rfl) h)
theorem Ygb {a : Option Addr} {b c : Nat} {d : Int} {e f : ByteArray} {g : Option Addr} {i j : Nat} {k : Option Addr} {l m : Nat} {n : ByteArray} {o : Addr} {w : World} {J : Bool -> World -> Prop} (h :
 newB w (.cells ⟨[.slice a b c, .int .i64 d, .string e, .string f, .slice g i j, .slice k l m, .string n]⟩ Zz8) fun p q =>
 ldI .u8 q o fun r =>
 ldI .i64 q ((o.add 1)) fun s =>
 ldStr q ((o.add 2)) fun t =>
 ldStr q ((o.add 3)) fun u =>
 ldStr q ((o.add 4)) fun v =>
 ldV q ((o.add 5)) fun x =>
 ldI .i64 q ⟨p, 1, none⟩ fun y =>
 ldStr q ⟨p, 2, none⟩ fun z =>
 ldStr q ⟨p, 3, none⟩ fun aa =>
 ldS q ⟨p, 4, none⟩ fun ab ac ad =>
 ldS q ⟨p, 5, none⟩ fun ae af ag =>
 ldStr q ⟨p, 6, none⟩ fun ai =>
 Zz1 Tryz.prog ZqR #[.agg ⟨[.int .u8 r, .int .i64 s, .string t, .string u, .string v, x]⟩, .agg ⟨[.int .i64 y, .string z, .string aa, .slice ab ac ad, .slice ae af ag, .string ai]⟩] q [.one .bool] fun aj ak =>
 J (!aj) ak) : Zz1 Tryz.prog Zq2 #[.agg ⟨[.slice a b c, .int .i64 d, .string e, .string f, .slice g i j, .slice k l m, .string n]⟩, .pointer (some o)] w [.one .bool] J := Zz6 Tryz.func53 (.s .o (.s .o .o)) (Eq.mpr (by kernel_rfl) h)
theorem ZyE {a : Option Addr} {b c : Nat} {d : Addr} {w : World} {J : Option Addr -> Nat -> Nat -> World -> Prop} (h :
 Zz1 Tryz.prog ZzH #[.slice a b c, .func (.func 53) #[] #[.pointer (some d)]] w [.one (.int .i64)] fun e f =>
 Zz2 (e == (-1 : Int)) (
 J a b c f) (
 ∃ bl : Int -> Int -> World -> Nat -> Prop, (∃ bm, bl e (w64 (e + (1 : Int))) f bm) /\ ∀ (bf : Int) (bg : Int) (bi : World) (bm : Nat), bl bf bg bi bm -> (
 Zz2 (decide (bg < (b : Int))) (
 Zzl (fun (bj : Int) (bk : World) =>
 ∃ bn, bn < bm /\ bl bj (w64 (bg + (1 : Int))) bk bn) fun g =>
 ZyN a b bg fun i =>
 ldS bi ((i.add (bg.toNat * 7))) fun j k l =>
 ldI .i64 bi (((i.add (bg.toNat * 7)).add 1)) fun m =>
 ldStr bi (((i.add (bg.toNat * 7)).add 2)) fun n =>
 ldStr bi (((i.add (bg.toNat * 7)).add 3)) fun o =>
 ldS bi (((i.add (bg.toNat * 7)).add 4)) fun p q r =>
 ldS bi (((i.add (bg.toNat * 7)).add 5)) fun s t u =>
 ldStr bi (((i.add (bg.toNat * 7)).add 6)) fun v =>
 newB bi (.cells (Zy6 Tryz.prog Zz8) Zz8) fun x y =>
 stN y ⟨x, 0, none⟩ ⟨[.slice j k l, .int .i64 m, .string n, .string o, .slice p q r, .slice s t u, .string v]⟩ 7 fun z =>
 ldS z ⟨x, 0, none⟩ fun aa ab ac =>
 ldI .i64 z ⟨x, 1, none⟩ fun ad =>
 ldStr z ⟨x, 2, none⟩ fun ae =>
 ldStr z ⟨x, 3, none⟩ fun af =>
 ldS z ⟨x, 4, none⟩ fun ag ai aj =>
 ldS z ⟨x, 5, none⟩ fun ak al am =>
 ldStr z ⟨x, 6, none⟩ fun an =>
 Zz1 Tryz.prog Zq2 #[.agg ⟨[.slice aa ab ac, .int .i64 ad, .string ae, .string af, .slice ag ai aj, .slice ak al am, .string an]⟩, .pointer (some d)] z [.one .bool] fun ao ap =>
 Zz2 (!ao) (
 ldS ap ⟨x, 0, none⟩ fun aq ar au =>
 ldI .i64 ap ⟨x, 1, none⟩ fun av =>
 ldStr ap ⟨x, 2, none⟩ fun ax =>
 ldStr ap ⟨x, 3, none⟩ fun ay =>
 ldS ap ⟨x, 4, none⟩ fun az a0 a1 =>
 ldS ap ⟨x, 5, none⟩ fun a2 a3 a4 =>
 ldStr ap ⟨x, 6, none⟩ fun a5 =>
 ZyN a b bf fun a6 =>
 stN ap ((a6.add (bf.toNat * 7))) ⟨[.slice aq ar au, .int .i64 av, .string ax, .string ay, .slice az a0 a1, .slice a2 a3 a4, .string a5]⟩ 7 fun a7 =>
 g (w64 (bf + (1 : Int))) a7) (
 g bf ap)) (
 slS a b c 7 (some bf) none none fun a8 a9 ba =>
 clrJ Tryz.prog Zzn (.slice a8 a9 ba) bi fun bb =>
 slS a b c 7 none (some bf) none fun bc bd be =>
 J bc bd be bb)))) : Zz1 Tryz.prog ZzF #[.slice a b c, .func (.func 53) #[] #[.pointer (some d)]] w [.one .slice] J := Zz6 Tryz.func52 (.s .o (.s .o (.s (.s .o (.c (.s .o .o) .o)) (.s (.s .o (.b (.l [(5, .int .i64), (6, .int .i64)] (.s (.s .o (.c .o .o)) (.j [(5, .int .i64)] (.b (.s .o (.s .o (.c (.s .o .o) .o)))) .o))))) (.s .o (.s .o .o)))))) (Eq.mpr (by kernel_rfl) h)
theorem ZyJ {a : Option Addr} {b c : Nat} {d : Addr} {w : World} {J : Int -> World -> Prop} (h :
 ∃ v : Int -> World -> Nat -> Prop, (∃ x, v (0 : Int) w x) /\ ∀ y z x, v y z x -> (
 Zz2 (decide (y < (b : Int))) (
 ZyN a b y fun e =>
 ldS z ((e.add (y.toNat * 7))) fun f g i =>
 ldI .i64 z (((e.add (y.toNat * 7)).add 1)) fun j =>
 ldStr z (((e.add (y.toNat * 7)).add 2)) fun k =>
 ldStr z (((e.add (y.toNat * 7)).add 3)) fun l =>
 ldS z (((e.add (y.toNat * 7)).add 4)) fun m n o =>
 ldS z (((e.add (y.toNat * 7)).add 5)) fun p q r =>
 ldStr z (((e.add (y.toNat * 7)).add 6)) fun s =>
 Zz1 Tryz.prog Zq2 #[.agg ⟨[.slice f g i, .int .i64 j, .string k, .string l, .slice m n o, .slice p q r, .string s]⟩, .pointer (some d)] z [.one .bool] fun t u =>
 Zz2 t (
 J y u) (
 ∃ aa, aa < x /\ v (w64 (y + (1 : Int))) u aa)) (
 J (-1 : Int) z))) : Zz1 Tryz.prog ZzH #[.slice a b c, .func (.func 53) #[] #[.pointer (some d)]] w [.one (.int .i64)] J := Zz6 Tryz.func101 (.s .o (.s (.s .o (.b (.l [(8, .int .i64)] (.s .o (.s (.c .o .o) (.s (.b (.s .o (.s .o (.c (.s .o .o) .o)))) .o)))))) (.s .o .o))) (Eq.mpr (by kernel_rfl) h)
theorem Yfx {a b : Bool} {c d e : ByteArray} {f : Option Addr} {g i : Nat} {j : Option Addr} {k l : Nat} {m : Int} {n o : ByteArray} {p : Option Addr} {q r : Nat} {s : Option Addr} {t u : Nat} {v : ByteArray} {w : World} {J : Option Addr -> Nat -> Nat -> World -> Prop} (h :
 newB w (.cells ⟨[.bool a, .bool b, .string c, .string d, .string e, .slice f g i]⟩ Zzc) fun x y =>
 newB y (.cells ⟨[.slice j k l, .int .i64 m, .string n, .string o, .slice p q r, .slice s t u, .string v]⟩ Zz8) fun z aa =>
 ldB aa ⟨x, 0, none⟩ fun ab =>
 ldB aa ⟨x, 1, none⟩ fun ac =>
 ldStr aa ⟨x, 2, none⟩ fun ad =>
 ldStr aa ⟨x, 3, none⟩ fun ae =>
 ldStr aa ⟨x, 4, none⟩ fun af =>
 ldS aa ⟨x, 5, none⟩ fun ag ai aj =>
 ldS aa ⟨z, 0, none⟩ fun ak al am =>
 ldI .i64 aa ⟨z, 1, none⟩ fun an =>
 ldStr aa ⟨z, 2, none⟩ fun ao =>
 ldStr aa ⟨z, 3, none⟩ fun ap =>
 ldS aa ⟨z, 4, none⟩ fun aq ar au =>
 ldS aa ⟨z, 5, none⟩ fun av ax ay =>
 ldStr aa ⟨z, 6, none⟩ fun az =>
 Zz1 Tryz.prog ZqQ #[.agg ⟨[.bool ab, .bool ac, .string ad, .string ae, .string af, .slice ag ai aj]⟩, .agg ⟨[.slice ak al am, .int .i64 an, .string ao, .string ap, .slice aq ar au, .slice av ax ay, .string az]⟩] aa [.one .slice] fun a0 a1 a2 a3 =>
 ldS a3 ⟨z, 5, none⟩ fun a4 a5 a6 =>
 ∃ dm : Option Addr -> Nat -> Nat -> Int -> World -> Nat -> Prop, (∃ dn, dm a0 a1 a2 (0 : Int) a3 dn) /\ ∀ (dc : Option Addr) (dd : Nat) (de : Nat) (df : Int) (dg : World) (dn : Nat), dm dc dd de df dg dn -> (
 Zz2 (decide (df < (a5 : Int))) (
 Zzl (fun (di : Option Addr) (dj : Nat) (dk : Nat) (dl : World) =>
 ∃ dp, dp < dn /\ dm di dj dk (w64 (df + (1 : Int))) dl dp) fun a7 =>
 ZyN a4 a5 df fun a8 =>
 ldI .i64 dg ((a8.add (df.toNat * 6))) fun a9 =>
 ldStr dg (((a8.add (df.toNat * 6)).add 1)) fun ba =>
 ldStr dg (((a8.add (df.toNat * 6)).add 2)) fun bb =>
 ldS dg (((a8.add (df.toNat * 6)).add 3)) fun bc bd be =>
 ldS dg (((a8.add (df.toNat * 6)).add 4)) fun bf bg bi =>
 ldStr dg (((a8.add (df.toNat * 6)).add 5)) fun bj =>
 newB dg (.cells (Zy6 Tryz.prog Zz3) Zz3) fun bk bl =>
 stN bl ⟨bk, 0, none⟩ ⟨[.int .i64 a9, .string ba, .string bb, .slice bc bd be, .slice bf bg bi, .string bj]⟩ 6 fun bm =>
 ldB bm.drew ⟨x, 0, none⟩ fun bn =>
 ldB bm.drew ⟨x, 1, none⟩ fun bo =>
 ldStr bm.drew ⟨x, 2, none⟩ fun bp =>
 ldStr bm.drew ⟨x, 3, none⟩ fun bq =>
 ldStr bm.drew ⟨x, 4, none⟩ fun br =>
 ldS bm.drew ⟨x, 5, none⟩ fun bs bt bu =>
 ldS bm.drew ⟨z, 0, none⟩ fun bv bx bz =>
 ldI .i64 bm.drew ⟨bk, 0, none⟩ fun b0 =>
 ldStr bm.drew ⟨bk, 1, none⟩ fun b1 =>
 ldStr bm.drew ⟨bk, 2, none⟩ fun b2 =>
 ldS bm.drew ⟨bk, 3, none⟩ fun b3 b4 b5 =>
 ldS bm.drew ⟨bk, 4, none⟩ fun b6 b7 b8 =>
 ldStr bm.drew ⟨bk, 5, none⟩ fun b9 =>
 (
 Zz1 Tryz.prog Zzx #[.slice bv bx bz] bm.drew [.one .slice] fun ca cb cc cd =>
 Zzh cd ⟨bk, 0, none⟩ [.int .i64 b0, .string b1, .string b2, .slice b3 b4 b5, .slice b6 b7 b8, .string b9] /\
 Zzh cd ⟨x, 0, none⟩ [.bool bn, .bool bo, .string bp, .string bq, .string br, .slice bs bt bu] /\
 newB cd (.cells ⟨[.int .i64 df]⟩ Zqz) fun ce cf =>
 Zzh cf ⟨bk, 0, none⟩ [.int .i64 b0, .string b1, .string b2, .slice b3 b4 b5, .slice b6 b7 b8, .string b9] /\
 cf.cell? ⟨z, 0, none⟩ = some (.slice bv bx bz) /\
 Zzh cf ⟨x, 0, none⟩ [.bool bn, .bool bo, .string bp, .string bq, .string br, .slice bs bt bu] /\
 YbM Tryz.prog Zqr Zqr (.slice ca cb cc) (.slice (some ⟨ce, 0, none⟩) 1 1) cf fun cg ci cj ck =>
 Zzh ck ⟨bk, 0, none⟩ [.int .i64 b0, .string b1, .string b2, .slice b3 b4 b5, .slice b6 b7 b8, .string b9] /\
 Zzh ck ⟨x, 0, none⟩ [.bool bn, .bool bo, .string bp, .string bq, .string br, .slice bs bt bu] /\
 Array.size (⟨[.int .i64 b0, .string b1, .string b2, .slice b3 b4 b5, .slice b6 b7 b8, .string b9]⟩ : Array Value) = 6 /\
 Zz1 Tryz.prog Zyo #[.agg ⟨[.bool bn, .bool bo, .string bp, .string bq, .string br, .slice bs bt bu]⟩, .agg ⟨[.slice cg ci cj, .int .i64 b0, .string b1, .string b2, .slice b3 b4 b5, .slice b6 b7 b8, .string b9]⟩] ck [.one .slice] fun cl cm cn co =>
 YbM Tryz.prog Zzn Zzn (.slice dc dd de) (.slice cl cm cn) co fun cp cq cr cs =>
 a7 cp cq cr cs) /\ (
 newB bm.drew (.cells ⟨[.int .i64 df]⟩ Zqz) fun ct cu =>
 Zzh cu ⟨bk, 0, none⟩ [.int .i64 b0, .string b1, .string b2, .slice b3 b4 b5, .slice b6 b7 b8, .string b9] /\
 cu.cell? ⟨z, 0, none⟩ = some (.slice bv bx bz) /\
 Zzh cu ⟨x, 0, none⟩ [.bool bn, .bool bo, .string bp, .string bq, .string br, .slice bs bt bu] /\
 Zz1 Tryz.prog Zzx #[.slice bv bx bz] cu [.one .slice] fun cv cx cy cz =>
 Zzh cz ⟨bk, 0, none⟩ [.int .i64 b0, .string b1, .string b2, .slice b3 b4 b5, .slice b6 b7 b8, .string b9] /\
 Zzh cz ⟨x, 0, none⟩ [.bool bn, .bool bo, .string bp, .string bq, .string br, .slice bs bt bu] /\
 YbM Tryz.prog Zqr Zqr (.slice cv cx cy) (.slice (some ⟨ct, 0, none⟩) 1 1) cz fun c0 c1 c2 c3 =>
 Zzh c3 ⟨bk, 0, none⟩ [.int .i64 b0, .string b1, .string b2, .slice b3 b4 b5, .slice b6 b7 b8, .string b9] /\
 Zzh c3 ⟨x, 0, none⟩ [.bool bn, .bool bo, .string bp, .string bq, .string br, .slice bs bt bu] /\
 Array.size (⟨[.int .i64 b0, .string b1, .string b2, .slice b3 b4 b5, .slice b6 b7 b8, .string b9]⟩ : Array Value) = 6 /\
 Zz1 Tryz.prog Zyo #[.agg ⟨[.bool bn, .bool bo, .string bp, .string bq, .string br, .slice bs bt bu]⟩, .agg ⟨[.slice c0 c1 c2, .int .i64 b0, .string b1, .string b2, .slice b3 b4 b5, .slice b6 b7 b8, .string b9]⟩] c3 [.one .slice] fun c4 c5 c6 c7 =>
 YbM Tryz.prog Zzn Zzn (.slice dc dd de) (.slice c4 c5 c6) c7 fun c8 c9 da db =>
 a7 c8 c9 da db)) (
 J dc dd de dg))) : Zz1 Tryz.prog Zyo #[.agg ⟨[.bool a, .bool b, .string c, .string d, .string e, .slice f g i]⟩, .agg ⟨[.slice j k l, .int .i64 m, .string n, .string o, .slice p q r, .slice s t u, .string v]⟩] w [.one .slice] J := Zz6 Tryz.func17 (.s .o (.s .o (.s (.s .o (.b (.l [(5, .slice), (15, .int .i64)] (.s .o (.s (.c .o .o) (.j [(5, .slice)] (.b (.s .o (.d (.take 0 (.take 1 (.take 2 (.take 3 (.take 5 (.take 8 (.eff 4 (.eff 6 (.eff 7 (.take 9 (.eff 10 (.eff 11 (.take 12 .done) .none) .none)) .none) .none) (.eff 6 (.eff 4 (.eff 7 (.take 9 (.eff 10 (.eff 11 (.take 12 .done) .none) .none)) .none) .none) .none))))))))))) .o)))))) (.s .o .o)))) (Eq.mpr (by kernel_rfl) h)
theorem c_pick_outer {a : Option Addr} {b c : Nat} {w : World} {J : Option Addr -> Nat -> Nat -> World -> Prop} (h :
 ∃ bu : Option Addr -> Nat -> Nat -> Int -> World -> Nat -> Prop, (∃ bv, bu none 0 0 (0 : Int) w bv) /\ ∀ (bj : Option Addr) (bk : Nat) (bl : Nat) (bm : Int) (bn : World) (bv : Nat), bu bj bk bl bm bn bv -> (
 Zz2 (decide (bm < (b : Int))) (
 Zzl (fun (bo : Option Addr) (bp : Nat) (bq : Nat) (br : World) =>
 ∃ bx, bx < bv /\ bu bo bp bq (w64 (bm + (1 : Int))) br bx) fun d =>
 ZyN a b bm fun e =>
 ldS bn ((e.add (bm.toNat * 7))) fun f g i =>
 ldI .i64 bn (((e.add (bm.toNat * 7)).add 1)) fun j =>
 ldStr bn (((e.add (bm.toNat * 7)).add 2)) fun k =>
 ldStr bn (((e.add (bm.toNat * 7)).add 3)) fun l =>
 ldS bn (((e.add (bm.toNat * 7)).add 4)) fun m n o =>
 ldS bn (((e.add (bm.toNat * 7)).add 5)) fun p q r =>
 ldStr bn (((e.add (bm.toNat * 7)).add 6)) fun s =>
 newB bn (.cells (Zy6 Tryz.prog Zz8) Zz8) fun t u =>
 stN u ⟨t, 0, none⟩ ⟨[.slice f g i, .int .i64 j, .string k, .string l, .slice m n o, .slice p q r, .string s]⟩ 7 fun v =>
 Zzl (fun (bs : Bool) (bt : World) =>
 Zz2 bs (
 ldS bt ⟨t, 0, none⟩ fun x y z =>
 ldI .i64 bt ⟨t, 1, none⟩ fun aa =>
 ldStr bt ⟨t, 2, none⟩ fun ab =>
 ldStr bt ⟨t, 3, none⟩ fun ac =>
 ldS bt ⟨t, 4, none⟩ fun ad ae af =>
 ldS bt ⟨t, 5, none⟩ fun ag ai aj =>
 ldStr bt ⟨t, 6, none⟩ fun ak =>
 Array.size (⟨[.slice x y z, .int .i64 aa, .string ab, .string ac, .slice ad ae af, .slice ag ai aj, .string ak]⟩ : Array Value) = 7 /\
 newB bt (.cells ⟨[.slice x y z, .int .i64 aa, .string ab, .string ac, .slice ad ae af, .slice ag ai aj, .string ak]⟩ Zz8) fun al am =>
 YbM Tryz.prog Zzn Zzn (.slice bj bk bl) (.slice (some ⟨al, 0, none⟩) 1 1) am fun an ao ap aq =>
 d an ao ap aq) (
 d bj bk bl bt)) fun ar =>
 Zz2 ((bk : Int) == (0 : Int)) (
 ar true v.drew) (
 ldS v.drew ⟨t, 0, none⟩ fun au av ax =>
 ZyN bj bk (w64 ((bk : Int) - (1 : Int))) fun ay =>
 ldS v.drew ((ay.add ((w64 ((bk : Int) - (1 : Int))).toNat * 7))) fun az a0 a1 =>
 Zz2 (decide ((av : Int) < (a0 : Int))) (
 ar true v.drew) (
 ZyN bj bk (w64 ((bk : Int) - (1 : Int))) fun a2 =>
 ldS v.drew ((a2.add ((w64 ((bk : Int) - (1 : Int))).toNat * 7))) fun a3 a4 a5 =>
 ldS v.drew ⟨t, 0, none⟩ fun a6 a7 a8 =>
 ZyN bj bk (w64 ((bk : Int) - (1 : Int))) fun a9 =>
 ldS v.drew ((a9.add ((w64 ((bk : Int) - (1 : Int))).toNat * 7))) fun ba bb bc =>
 slS a6 a7 a8 1 none (some (bb : Int)) none fun bd be bf =>
 Zz1 Tryz.prog Ybe #[.slice a3 a4 a5, .slice bd be bf] v.drew [.one .bool] fun bg bi =>
 ar (!bg) bi))) (
 J bj bk bl bn))) : Zz1 Tryz.prog Yc1 #[.slice a b c] w [.one .slice] J := Zz6 Tryz.func16 (.s .o (.s .o (.s (.s .o (.b (.l [(3, .slice), (9, .int .i64)] (.s .o (.s (.c .o .o) (.j [(3, .slice)] (.b (.s .o (.s .o (.j [(49, .bool)] (.d (.take 0 (.take 1 (.take 2 (.take 3 (.take 4 (.take 5 (.take 6 (.take 7 (.take 8 (.take 9 (.take 10 (.take 11 (.take 12 (.take 13 (.take 14 (.take 15 (.take 16 (.take 17 (.take 18 (.take 19 (.take 20 (.take 21 (.take 22 (.take 23 (.take 24 (.take 25 (.take 26 (.take 27 (.take 28 (.take 29 (.take 30 (.take 31 (.eff 32 (.take 33 (.take 34 .done)) .none)))))))))))))))))))))))))))))))))) (.c .o .o))))) .o)))))) (.s .o .o)))) (Eq.mpr (by kernel_rfl) h)
theorem c_pick_attrs {a : Option Addr} {b c : Nat} {d e : Bool} {f g i : ByteArray} {j : Option Addr} {k l : Nat} {w : World} {J : Option Addr -> Nat -> Nat -> World -> Prop} (h :
 newB w (.cells ⟨[.bool d, .bool e, .string f, .string g, .string i, .slice j k l]⟩ Zzc) fun m n =>
 ∃ bz : Option Addr -> Nat -> Nat -> Int -> World -> Nat -> Prop, (∃ b0, bz none 0 0 (0 : Int) n b0) /\ ∀ (bg : Option Addr) (bi : Nat) (bj : Nat) (bk : Int) (bl : World) (b0 : Nat), bz bg bi bj bk bl b0 -> (
 Zz2 (decide (bk < (b : Int))) (
 ZyN a b bk fun o =>
 ldS bl ((o.add (bk.toNat * 7))) fun p q r =>
 ldI .i64 bl (((o.add (bk.toNat * 7)).add 1)) fun s =>
 ldStr bl (((o.add (bk.toNat * 7)).add 2)) fun t =>
 ldStr bl (((o.add (bk.toNat * 7)).add 3)) fun u =>
 ldS bl (((o.add (bk.toNat * 7)).add 4)) fun v x y =>
 ldS bl (((o.add (bk.toNat * 7)).add 5)) fun z aa ab =>
 ldStr bl (((o.add (bk.toNat * 7)).add 6)) fun ac =>
 newB bl (.cells (Zy6 Tryz.prog Zz8) Zz8) fun ad ae =>
 stN ae ⟨ad, 0, none⟩ ⟨[.slice p q r, .int .i64 s, .string t, .string u, .slice v x y, .slice z aa ab, .string ac]⟩ 7 fun af =>
 ldS af ⟨ad, 4, none⟩ fun ag ai aj =>
 ∃ b1 : Option Addr -> Nat -> Nat -> Int -> World -> Nat -> Prop, (∃ b0, b1 bg bi bj (0 : Int) af b0) /\ ∀ (bm : Option Addr) (bn : Nat) (bo : Nat) (bp : Int) (bq : World) (m_1 : Nat), b1 bm bn bo bp bq m_1 -> (
 Zz2 (decide (bp < (ai : Int))) (
 Zzl (fun (br : Option Addr) (bs : Nat) (bt : Nat) (bu : World) =>
 ∃ b2, b2 < m_1 /\ b1 br bs bt (w64 (bp + (1 : Int))) bu b2) fun ak =>
 ZyN ag ai bp fun al =>
 ldStr bq ((al.add (bp.toNat * 3))) fun am =>
 ldStr bq (((al.add (bp.toNat * 3)).add 1)) fun an =>
 ldStr bq (((al.add (bp.toNat * 3)).add 2)) fun ao =>
 newB bq (.cells (Zy6 Tryz.prog Zzo) Zzo) fun ap aq =>
 stN aq ⟨ap, 0, none⟩ ⟨[.string am, .string an, .string ao]⟩ 3 fun ar =>
 Zzl (fun (bv : Bool) (bx : World) =>
 Zz2 bv (
 ldS bx.drew ⟨ad, 0, none⟩ fun au av ax =>
 ldStr bx.drew ⟨ap, 0, none⟩ fun ay =>
 ldStr bx.drew ⟨ap, 1, none⟩ fun az =>
 Zz1 Tryz.prog Zzx #[.slice au av ax] bx.drew [.one .slice] fun a0 a1 a2 a3 =>
 Zzh a3 ⟨ap, 0, none⟩ [.string ay, .string az] /\
 Array.size (⟨[.string ay, .string az]⟩ : Array Value) = 2 /\
 Array.size (⟨[.slice a0 a1 a2, .bool true, .string ay, .string az]⟩ : Array Value) = 4 /\
 newB a3 (.cells ⟨[.slice a0 a1 a2, .bool true, .string ay, .string az]⟩ ZzD) fun a4 a5 =>
 YbM Tryz.prog ZxE ZxE (.slice bm bn bo) (.slice (some ⟨a4, 0, none⟩) 1 1) a5 fun a6 a7 a8 a9 =>
 ak a6 a7 a8 a9) (
 ak bm bn bo bx)) fun ba =>
 ldStr ar ⟨m, 2, none⟩ fun bb =>
 Zz2 (bb.toList == (⟨#[42]⟩ : ByteArray).toList) (
 ba true ar) (
 ldStr ar ⟨ap, 0, none⟩ fun bc =>
 ldStr ar ⟨ap, 1, none⟩ fun bd =>
 ldStr ar ⟨m, 3, none⟩ fun be =>
 ldStr ar ⟨m, 4, none⟩ fun bf =>
 ba ((bc.toList == be.toList) && ((bd.toList == bf.toList) && true)) ar)) (
 ∃ b2, b2 < b0 /\ bz bm bn bo (w64 (bk + (1 : Int))) bq b2))) (
 J bg bi bj bl))) : Zz1 Tryz.prog Yc2 #[.slice a b c, .agg ⟨[.bool d, .bool e, .string f, .string g, .string i, .slice j k l]⟩] w [.one .slice] J := Zz6 Tryz.func15 (.s .o (.s .o (.s (.s .o (.b (.l [(5, .slice), (12, .int .i64)] (.s .o (.s (.c .o .o) (.s (.b (.s .o (.s .o (.b (.l [(5, .slice), (20, .int .i64)] (.s .o (.s (.c .o .o) (.j [(5, .slice)] (.b (.s .o (.j [(33, .bool)] .o (.c (.d (.take 0 (.take 1 (.take 2 (.take 4 (.take 5 (.eff 3 (.take 6 (.eff 7 (.eff 8 (.take 9 .done) .none) .none)) .none))))))) .o)))) .o)))))))) .o)))))) (.s .o .o)))) (Eq.mpr (by kernel_rfl) h)
theorem c_pick_Pick {a : Int} {b c : ByteArray} {d : Option Addr} {e f : Nat} {g : Option Addr} {i j : Nat} {k l : ByteArray} {w : World} {J : Option Addr -> Nat -> Nat -> Int -> Int -> World -> Prop} (h :
 newB w (.cells ⟨[.int .i64 a, .string b, .string c, .slice d e f, .slice g i j, .string k]⟩ Zz3) fun m n =>
 Zz1 Tryz.prog YcF #[.string l] n [.one .slice, .one (.int .i64), .one (.int .i64)] fun o p q r s t =>
 Zz2 (s != (0 : Int)) (
 J none 0 0 r s t) (
 ldI .i64 t ⟨m, 0, none⟩ fun u =>
 ldStr t ⟨m, 1, none⟩ fun v =>
 ldStr t ⟨m, 2, none⟩ fun x =>
 ldS t ⟨m, 3, none⟩ fun y z aa =>
 ldS t ⟨m, 4, none⟩ fun ab ac ad =>
 ldStr t ⟨m, 5, none⟩ fun ae =>
 Zz1 Tryz.prog Zq0 #[.agg ⟨[.int .i64 u, .string v, .string x, .slice y z aa, .slice ab ac ad, .string ae]⟩] t [.one (.int .i64)] fun af ag =>
 Zz2 (af != (0 : Int)) (
 J none 0 0 (0 : Int) af ag) (
 ldI .i64 ag ⟨m, 0, none⟩ fun ai =>
 ldStr ag ⟨m, 1, none⟩ fun aj =>
 ldStr ag ⟨m, 2, none⟩ fun ak =>
 ldS ag ⟨m, 3, none⟩ fun al am an =>
 ldS ag ⟨m, 4, none⟩ fun ao ap aq =>
 ldStr ag ⟨m, 5, none⟩ fun ar =>
 Array.size (⟨[.int .i64 ai, .string aj, .string ak, .slice al am an, .slice ao ap aq, .string ar]⟩ : Array Value) = 6 /\
 Array.size (⟨[.slice none 0 0, .int .i64 ai, .string aj, .string ak, .slice al am an, .slice ao ap aq, .string ar]⟩ : Array Value) = 7 /\
 newB ag (.cells ⟨[.slice none 0 0, .int .i64 ai, .string aj, .string ak, .slice al am an, .slice ao ap aq, .string ar]⟩ Zz8) fun au av =>
 ∃ fm : Option Addr -> Nat -> Nat -> Int -> World -> Nat -> Prop, (∃ fo, fm (some ⟨au, 0, none⟩) 1 1 (0 : Int) av fo) /\ ∀ (ey : Option Addr) (ez : Nat) (e0 : Nat) (e1 : Int) (e2 : World) (fo : Nat), fm ey ez e0 e1 e2 fo -> (
 Zz2 (decide (e1 < (p : Int))) (
 ZyN o p e1 fun ax =>
 ldB e2 ((ax.add (e1.toNat * 6))) fun ay =>
 ldB e2 (((ax.add (e1.toNat * 6)).add 1)) fun az =>
 ldStr e2 (((ax.add (e1.toNat * 6)).add 2)) fun a0 =>
 ldStr e2 (((ax.add (e1.toNat * 6)).add 3)) fun a1 =>
 ldStr e2 (((ax.add (e1.toNat * 6)).add 4)) fun a2 =>
 ldS e2 (((ax.add (e1.toNat * 6)).add 5)) fun a3 a4 a5 =>
 newB e2 (.cells (Zy6 Tryz.prog Zzc) Zzc) fun a6 a7 =>
 stN a7 ⟨a6, 0, none⟩ ⟨[.bool ay, .bool az, .string a0, .string a1, .string a2, .slice a3 a4 a5]⟩ 6 fun a8 =>
 ldB a8 ⟨a6, 1, none⟩ fun a9 =>
 Zz2 a9 (
 ldB a8 ⟨a6, 0, none⟩ fun ba =>
 ldB a8 ⟨a6, 1, none⟩ fun bb =>
 ldStr a8 ⟨a6, 2, none⟩ fun bc =>
 ldStr a8 ⟨a6, 3, none⟩ fun bd =>
 ldStr a8 ⟨a6, 4, none⟩ fun be =>
 ldS a8 ⟨a6, 5, none⟩ fun bf bg bi =>
 Zz1 Tryz.prog Yc2 #[.slice ey ez e0, .agg ⟨[.bool ba, .bool bb, .string bc, .string bd, .string be, .slice bf bg bi]⟩] a8 [.one .slice] fun bj bk bl bm =>
 J bj bk bl (0 : Int) (0 : Int) bm) (
 Zzl (fun (e3 : Option Addr) (e4 : Nat) (e5 : Nat) (e6 : World) =>
 ∃ fp : Option Addr -> Nat -> Nat -> Int -> World -> Nat -> Prop, (∃ fo, fp none 0 0 (0 : Int) e6 fo) /\ ∀ (e7 : Option Addr) (e8 : Nat) (e9 : Nat) (fa : Int) (fb : World) (m_1 : Nat), fp e7 e8 e9 fa fb m_1 -> (
 Zz2 (decide (fa < (e4 : Int))) (
 Zzl (fun (fc : Option Addr) (fd : Nat) (fe : Nat) (ff : World) =>
 ∃ fq, fq < m_1 /\ fp fc fd fe (w64 (fa + (1 : Int))) ff fq) fun bn =>
 ZyN e3 e4 fa fun bo =>
 ldS fb ((bo.add (fa.toNat * 7))) fun bp bq br =>
 ldI .i64 fb (((bo.add (fa.toNat * 7)).add 1)) fun bs =>
 ldStr fb (((bo.add (fa.toNat * 7)).add 2)) fun bt =>
 ldStr fb (((bo.add (fa.toNat * 7)).add 3)) fun bu =>
 ldS fb (((bo.add (fa.toNat * 7)).add 4)) fun bv bx bz =>
 ldS fb (((bo.add (fa.toNat * 7)).add 5)) fun b0 b1 b2 =>
 ldStr fb (((bo.add (fa.toNat * 7)).add 6)) fun b3 =>
 newB fb (.cells (Zy6 Tryz.prog Zz8) Zz8) fun b4 b5 =>
 stN b5 ⟨b4, 0, none⟩ ⟨[.slice bp bq br, .int .i64 bs, .string bt, .string bu, .slice bv bx bz, .slice b0 b1 b2, .string b3]⟩ 7 fun b6 =>
 ldB b6 ⟨a6, 0, none⟩ fun b7 =>
 Zz2 b7 (
 ldB b6 ⟨a6, 0, none⟩ fun b8 =>
 ldB b6 ⟨a6, 1, none⟩ fun b9 =>
 ldStr b6 ⟨a6, 2, none⟩ fun ca =>
 ldStr b6 ⟨a6, 3, none⟩ fun cb =>
 ldStr b6 ⟨a6, 4, none⟩ fun cc =>
 ldS b6 ⟨a6, 5, none⟩ fun cd ce cf =>
 ldS b6 ⟨b4, 0, none⟩ fun cg ci cj =>
 ldI .i64 b6 ⟨b4, 1, none⟩ fun ck =>
 ldStr b6 ⟨b4, 2, none⟩ fun cl =>
 ldStr b6 ⟨b4, 3, none⟩ fun cm =>
 ldS b6 ⟨b4, 4, none⟩ fun cn co cp =>
 ldS b6 ⟨b4, 5, none⟩ fun cq cr cs =>
 ldStr b6 ⟨b4, 6, none⟩ fun ct =>
 Zz1 Tryz.prog Zyo #[.agg ⟨[.bool b8, .bool b9, .string ca, .string cb, .string cc, .slice cd ce cf]⟩, .agg ⟨[.slice cg ci cj, .int .i64 ck, .string cl, .string cm, .slice cn co cp, .slice cq cr cs, .string ct]⟩] b6 [.one .slice] fun cu cv cx cy =>
 YbM Tryz.prog Zzn Zzn (.slice e7 e8 e9) (.slice cu cv cx) cy fun cz c0 c1 c2 =>
 bn cz c0 c1 c2) (
 ldB b6 ⟨a6, 0, none⟩ fun c3 =>
 ldB b6 ⟨a6, 1, none⟩ fun c4 =>
 ldStr b6 ⟨a6, 2, none⟩ fun c5 =>
 ldStr b6 ⟨a6, 3, none⟩ fun c6 =>
 ldStr b6 ⟨a6, 4, none⟩ fun c7 =>
 ldS b6 ⟨a6, 5, none⟩ fun c8 c9 da =>
 ldS b6 ⟨b4, 0, none⟩ fun db dc dd =>
 ldI .i64 b6 ⟨b4, 1, none⟩ fun de =>
 ldStr b6 ⟨b4, 2, none⟩ fun df =>
 ldStr b6 ⟨b4, 3, none⟩ fun dg =>
 ldS b6 ⟨b4, 4, none⟩ fun di dj dk =>
 ldS b6 ⟨b4, 5, none⟩ fun dl dm dn =>
 ldStr b6 ⟨b4, 6, none⟩ fun dp =>
 Zz1 Tryz.prog ZqQ #[.agg ⟨[.bool c3, .bool c4, .string c5, .string c6, .string c7, .slice c8 c9 da]⟩, .agg ⟨[.slice db dc dd, .int .i64 de, .string df, .string dg, .slice di dj dk, .slice dl dm dn, .string dp]⟩] b6 [.one .slice] fun dq dr ds dt =>
 YbM Tryz.prog Zzn Zzn (.slice e7 e8 e9) (.slice dq dr ds) dt fun du dv dx dy =>
 bn du dv dx dy)) (
 Zz1 Tryz.prog ZzN #[.slice e7 e8 e9, .func (.func 20) #[] #[]] fb [] fun dz =>
 ∃ fq, fq < fo /\ fm e7 e8 e9 (w64 (e1 + (1 : Int))) dz fq))) fun d0 =>
 ldB a8 ⟨a6, 0, none⟩ fun d1 =>
 Zz2 d1 (
 Zz1 Tryz.prog Yc1 #[.slice ey ez e0] a8 [.one .slice] fun d2 d3 d4 d5 =>
 d0 d2 d3 d4 d5) (
 d0 ey ez e0 a8))) (
 ∃ fr : Option Addr -> Nat -> Nat -> Int -> World -> Nat -> Prop, (∃ fo, fr none 0 0 (0 : Int) e2 fo) /\ ∀ (fg : Option Addr) (fi : Nat) (fj : Nat) (fk : Int) (fl : World) (m_2 : Nat), fr fg fi fj fk fl m_2 -> (
 Zz2 (decide (fk < (ez : Int))) (
 ZyN ey ez fk fun d6 =>
 ldS fl ((d6.add (fk.toNat * 7))) fun d7 d8 d9 =>
 ldI .i64 fl (((d6.add (fk.toNat * 7)).add 1)) fun ea =>
 ldStr fl (((d6.add (fk.toNat * 7)).add 2)) fun eb =>
 ldStr fl (((d6.add (fk.toNat * 7)).add 3)) fun ec =>
 ldS fl (((d6.add (fk.toNat * 7)).add 4)) fun ed ee ef =>
 ldS fl (((d6.add (fk.toNat * 7)).add 5)) fun eg ei ej =>
 ldStr fl (((d6.add (fk.toNat * 7)).add 6)) fun ek =>
 newB fl (.cells (Zy6 Tryz.prog Zz8) Zz8) fun el em =>
 stN em ⟨el, 0, none⟩ ⟨[.slice d7 d8 d9, .int .i64 ea, .string eb, .string ec, .slice ed ee ef, .slice eg ei ej, .string ek]⟩ 7 fun en =>
 ldS en ⟨el, 0, none⟩ fun eo ep eq =>
 Array.size (⟨[.slice eo ep eq, .bool false, .string ByteArray.empty, .string ByteArray.empty]⟩ : Array Value) = 4 /\
 newB en (.cells ⟨[.slice eo ep eq, .bool false, .string ByteArray.empty, .string ByteArray.empty]⟩ ZzD) fun er es =>
 YbM Tryz.prog ZxE ZxE (.slice fg fi fj) (.slice (some ⟨er, 0, none⟩) 1 1) es fun et eu ev ex =>
 ∃ fq, fq < m_2 /\ fr et eu ev (w64 (fk + (1 : Int))) ex fq) (
 J fg fi fj (0 : Int) (0 : Int) fl))))))) : Zz1 Tryz.prog Yas #[.agg ⟨[.int .i64 a, .string b, .string c, .slice d e f, .slice g i j, .string k]⟩, .string l] w [.one .slice, .one (.int .i64), .one (.int .i64)] J := Zz6 Tryz.func6 (.s .o (.s .o (.s (.s .o (.c (.s .o .o) .o)) (.s (.s .o (.s .o (.c (.s .o .o) .o))) (.s .o (.s (.s .o (.b (.l [(11, .slice), (40, .int .i64)] (.s .o (.s (.c .o .o) (.s (.b (.s .o (.s (.s .o (.c (.s .o .o) .o)) (.s .o (.j [(11, .slice)] (.s .o (.c .o .o)) (.s (.s .o (.b (.l [(14, .slice), (55, .int .i64)] (.s .o (.s (.c .o .o) (.j [(14, .slice)] (.b (.s .o (.s .o (.c .o .o)))) .o)))))) (.s .o .o))))))) .o)))))) (.s .o (.s (.s .o (.b (.l [(17, .slice), (78, .int .i64)] (.s .o (.s (.c .o .o) (.s (.b (.s .o .o)) .o)))))) (.s .o .o))))))))) (Eq.mpr (by kernel_rfl) h)
theorem c_pick_Pick_1 {a : Option Addr} {b c : Nat} {d : Int} {e f : ByteArray} {g : Option Addr} {i j : Nat} {k : Option Addr} {l m : Nat} {n : ByteArray} {o : Option Addr} {p q : Nat} {r : Int} {s t : ByteArray} {u : Option Addr} {v x : Nat} {y : Option Addr} {z aa : Nat} {ab : ByteArray} {w : World} {J : Int -> World -> Prop} (h :
 newB w (.cells ⟨[.slice a b c, .int .i64 d, .string e, .string f, .slice g i j, .slice k l m, .string n]⟩ Zz8) fun ac ad =>
 newB ad (.cells ⟨[.slice o p q, .int .i64 r, .string s, .string t, .slice u v x, .slice y z aa, .string ab]⟩ Zz8) fun ae af =>
 ldS af ⟨ac, 0, none⟩ fun ag ai aj =>
 ldS af ⟨ae, 0, none⟩ fun ak al am =>
 Zz1 Tryz.prog Zyr #[.slice ag ai aj, .slice ak al am] af [.one (.int .i64)] fun an ao =>
 J an ao) : Zz1 Tryz.prog Yai #[.agg ⟨[.slice a b c, .int .i64 d, .string e, .string f, .slice g i j, .slice k l m, .string n]⟩, .agg ⟨[.slice o p q, .int .i64 r, .string s, .string t, .slice u v x, .slice y z aa, .string ab]⟩] w [.one (.int .i64)] J := Zz6 Tryz.func20 (.s .o (.s .o .o)) (Eq.mpr (by kernel_rfl) h)
theorem c_trail_Value {a : Int} {b c : ByteArray} {d : Option Addr} {e f : Nat} {g : Option Addr} {i j : Nat} {k : ByteArray} {l : Option Addr} {m n : Nat} {o : Bool} {p q : ByteArray} {w : World} {J : ByteArray -> Int -> World -> Prop} (h :
 newB w (.cells ⟨[.int .i64 a, .string b, .string c, .slice d e f, .slice g i j, .string k]⟩ Zz3) fun r s =>
 newB s (.cells ⟨[.slice l m n, .bool o, .string p, .string q]⟩ ZzD) fun t u =>
 ldI .i64 u ⟨r, 0, none⟩ fun v =>
 ldStr u ⟨r, 1, none⟩ fun x =>
 ldStr u ⟨r, 2, none⟩ fun y =>
 ldS u ⟨r, 3, none⟩ fun z aa ab =>
 ldS u ⟨r, 4, none⟩ fun ac ad ae =>
 ldStr u ⟨r, 5, none⟩ fun af =>
 ldS u ⟨t, 0, none⟩ fun ag ai aj =>
 Zz1 Tryz.prog Yfi #[.agg ⟨[.int .i64 v, .string x, .string y, .slice z aa ab, .slice ac ad ae, .string af]⟩, .slice ag ai aj] u [.agg [.int .i64, .str, .str, .slice, .slice, .str], .one (.int .i64)] fun ak al am an ao ap aq ar au av ax ay =>
 newB ay (.cells (Zy6 Tryz.prog Zz3) Zz3) fun az a0 =>
 stN a0 ⟨az, 0, none⟩ ⟨[.int .i64 ak, .string al, .string am, .slice an ao ap, .slice aq ar au, .string av]⟩ 6 fun a1 =>
 Zz2 (ax != (0 : Int)) (
 J ⟨#[]⟩ ax a1) (
 ldB a1 ⟨t, 1, none⟩ fun a2 =>
 Zz2 a2 (
 ldS a1 ⟨az, 3, none⟩ fun a3 a4 a5 =>
 ∃ b8 : Int -> World -> Nat -> Prop, (∃ b9, b8 (0 : Int) a1 b9) /\ ∀ ca cb b9, b8 ca cb b9 -> (
 Zz2 (decide (ca < (a4 : Int))) (
 ZyN a3 a4 ca fun a6 =>
 ldStr cb ((a6.add (ca.toNat * 3))) fun a7 =>
 ldStr cb (((a6.add (ca.toNat * 3)).add 1)) fun a8 =>
 ldStr cb (((a6.add (ca.toNat * 3)).add 2)) fun a9 =>
 newB cb (.cells (Zy6 Tryz.prog Zzo) Zzo) fun ba bb =>
 stN bb ⟨ba, 0, none⟩ ⟨[.string a7, .string a8, .string a9]⟩ 3 fun bc =>
 Zzl (fun (b4 : Bool) (b5 : World) =>
 Zz2 b4 (
 ldStr b5 ⟨ba, 2, none⟩ fun bd =>
 J bd (0 : Int) b5) (
 ∃ cc, cc < b9 /\ b8 (w64 (ca + (1 : Int))) b5 cc)) fun be =>
 ldI .i64 bc ⟨az, 0, none⟩ fun bf =>
 Zz2 (bf == (2 : Int)) (
 ldStr bc ⟨ba, 0, none⟩ fun bg =>
 ldStr bc ⟨ba, 1, none⟩ fun bi =>
 ldStr bc ⟨t, 2, none⟩ fun bj =>
 ldStr bc ⟨t, 3, none⟩ fun bk =>
 be ((bg.toList == bj.toList) && ((bi.toList == bk.toList) && true)) bc) (
 be false bc)) (
 J ⟨#[]⟩ (7 : Int) cb))) (
 Zzl (fun (b6 : Bool) (b7 : World) =>
 Zz2 b6 (
 ldStr b7 ⟨az, 5, none⟩ fun bl =>
 J bl (0 : Int) b7) (
 ldI .i64 b7 ⟨az, 0, none⟩ fun bm =>
 ldStr b7 ⟨az, 1, none⟩ fun bn =>
 ldStr b7 ⟨az, 2, none⟩ fun bo =>
 ldS b7 ⟨az, 3, none⟩ fun bp bq br =>
 ldS b7 ⟨az, 4, none⟩ fun bs bt bu =>
 ldStr b7 ⟨az, 5, none⟩ fun bv =>
 Zz1 Tryz.prog fn_trail_texts #[.agg ⟨[.int .i64 bm, .string bn, .string bo, .slice bp bq br, .slice bs bt bu, .string bv]⟩] b7 [.one .str] fun bx bz =>
 J bx (0 : Int) bz)) fun b0 =>
 ldI .i64 a1 ⟨az, 0, none⟩ fun b1 =>
 Zz2 (b1 == (3 : Int)) (
 b0 true a1) (
 ldI .i64 a1 ⟨az, 0, none⟩ fun b2 =>
 Zz2 (b2 == (4 : Int)) (
 b0 true a1) (
 ldI .i64 a1 ⟨az, 0, none⟩ fun b3 =>
 b0 (b3 == (5 : Int)) a1))))) : Zz1 Tryz.prog Ybt #[.agg ⟨[.int .i64 a, .string b, .string c, .slice d e f, .slice g i j, .string k]⟩, .agg ⟨[.slice l m n, .bool o, .string p, .string q]⟩] w [.one .str, .one (.int .i64)] J := Zz6 Tryz.func8 (.s .o (.s .o (.s (.s .o (.c (.s .o .o) .o)) (.s (.s .o (.c (.s (.s .o (.b (.l [(25, .int .i64)] (.s .o (.s (.c .o .o) (.s (.b (.s .o (.j [(38, .bool)] .o (.c (.s .o .o) .o)))) .o)))))) (.s .o .o)) .o)) (.s (.j [(54, .bool)] .o (.c (.s .o .o) .o)) (.s .o .o)))))) (Eq.mpr (by kernel_rfl) h)
theorem Yb7 {a : Option Addr} {b c : Nat} {d : Option Addr} {e f : Nat} {w : World} {J : Int -> World -> Prop} (h :
 ∃ n : Int -> World -> Nat -> Prop, (∃ o, n (0 : Int) w o) /\ ∀ p q o, n p q o -> (
 Zz2 (decide (p < (b : Int))) (
 ZyN a b p fun g =>
 ldI .i64 q ((g.add (p.toNat * 1))) fun i =>
 Zz2 (decide (p >= (e : Int))) (
 J (1 : Int) q) (
 ZyN d e p fun j =>
 ldI .i64 q ((j.add (p.toNat * 1))) fun k =>
 Zz1 Tryz.prog ZqT #[.int .i64 i, .int .i64 k] q [.one (.int .i64)] fun l m =>
 Zz2 (l != (0 : Int)) (
 J l m) (
 ∃ r, r < o /\ n (w64 (p + (1 : Int))) m r))) (
 Zz2 (decide ((b : Int) < (e : Int))) (
 J (-1 : Int) q) (
 J (0 : Int) q)))) : Zz1 Tryz.prog Zyr #[.slice a b c, .slice d e f] w [.one (.int .i64)] J := Zz6 Tryz.func21 (.s .o (.s (.s .o (.b (.l [(11, .int .i64)] (.s .o (.s (.c .o .o) (.s (.b (.s .o (.s (.s .o (.c (.s .o .o) .o)) (.s .o (.s .o (.s .o (.c (.s .o .o) .o))))))) .o)))))) (.s (.s .o (.c (.s .o .o) .o)) (.s .o .o)))) (Eq.mpr (by kernel_rfl) h)
theorem YfA {a b : Int} {w : World} {J : Int -> World -> Prop} (h :
 Zz1 Tryz.prog YaF #[.int .i64 a] w [.one .bool] fun c d =>
 Zz1 Tryz.prog YaF #[.int .i64 b] d [.one .bool] fun e f =>
 Zz2 c (
 Zz2 e (
 J (0 : Int) f) (
 J (-1 : Int) f)) (
 Zz2 e (
 J (1 : Int) f) (
 Zz2 (decide (a < b)) (
 J (-1 : Int) f) (
 Zz2 (decide (a > b)) (
 J (1 : Int) f) (
 J (0 : Int) f))))) : Zz1 Tryz.prog ZqT #[.int .i64 a, .int .i64 b] w [.one (.int .i64)] J := Zz6 Tryz.func57 (.s .o (.s .o (.s .o (.s (.s .o (.c (.s (.s .o (.c (.s .o .o) .o)) (.s .o .o)) .o)) (.s (.s .o (.c (.s .o .o) .o)) (.s (.s .o (.c (.s .o .o) .o)) (.s (.s .o (.c (.s .o .o) .o)) (.s .o .o)))))))) (Eq.mpr (by kernel_rfl) h)
theorem YcS {a : Int} {w : World} {J : Bool -> World -> Prop} (h :
 J (a != a) w) : Zz1 Tryz.prog YaF #[.int .i64 a] w [.one .bool] J := Zz6 Tryz.func116 (.s .o (.s .o .o)) (Eq.mpr (by kernel_rfl) h)
end Go.Proofs.YtjlgopfceebdcaaGreatDoor
end
section
namespace Go.Proofs.YtjlgopfceebdcaaGreatDoor
open Go Go.Vc
theorem Ydv {a b : ByteArray} {w : World} {J : Int -> World -> Prop} (h :
 Zz1 Tryz.prog Zxz #[.string a] w [.one .bool] fun c d =>
 Zz1 Tryz.prog Zxz #[.string b] d [.one .bool] fun e f =>
 Zz2 c (
 Zz2 e (
 J (0 : Int) f) (
 J (-1 : Int) f)) (
 Zz2 e (
 J (1 : Int) f) (
 Zz2 (Op.bytesLess a.toList b.toList) (
 J (-1 : Int) f) (
 Zz2 (!((Op.bytesLess a.toList b.toList) || (a.toList == b.toList))) (
 J (1 : Int) f) (
 J (0 : Int) f))))) : Zz1 Tryz.prog ZyQ #[.string a, .string b] w [.one (.int .i64)] J := Zz6 Tryz.func149 (.s .o (.s .o (.s .o (.s (.s .o (.c (.s (.s .o (.c (.s .o .o) .o)) (.s .o .o)) .o)) (.s (.s .o (.c (.s .o .o) .o)) (.s (.s .o (.c (.s .o .o) .o)) (.s (.s .o (.c (.s .o .o) .o)) (.s .o .o)))))))) (Eq.mpr (by kernel_rfl) h)
theorem Ybq {a : ByteArray} {w : World} {J : Bool -> World -> Prop} (h :
 J (!(a.toList == a.toList)) w) : Zz1 Tryz.prog Zxz #[.string a] w [.one .bool] J := Zz6 Tryz.func208 (.s .o (.s .o .o)) (Eq.mpr (by kernel_rfl) h)
theorem c_cmp_Or_int {a : Option Addr} {b c : Nat} {w : World} {J : Int -> World -> Prop} (h :
 ∃ f : Int -> World -> Nat -> Prop, (∃ g, f (0 : Int) w g) /\ ∀ i j g, f i j g -> (
 Zz2 (decide (i < (b : Int))) (
 ZyN a b i fun d =>
 ldI .i64 j ((d.add (i.toNat * 1))) fun e =>
 Zz2 (e != (0 : Int)) (
 J e j) (
 ∃ k, k < g /\ f (w64 (i + (1 : Int))) j k)) (
 J (0 : Int) j))) : Zz1 Tryz.prog YeD #[.slice a b c] w [.one (.int .i64)] J := Zz6 Tryz.func148 (.s .o (.s .o (.s (.s .o (.b (.l [(8, .int .i64)] (.s .o (.s (.c .o .o) (.s (.b (.s .o (.s .o (.c (.s .o .o) .o)))) .o)))))) (.s .o .o)))) (Eq.mpr (by kernel_rfl) h)
end Go.Proofs.YtjlgopfceebdcaaGreatDoor
end
section
namespace Go.Vc
open Go Go.Lib
theorem bls_irr : ∀ x : List UInt8, Op.bytesLess x x = false
 | [] => rfl
 | a :: x => by unfold Op.bytesLess; simp [bls_irr x]
theorem bls_trans : ∀ {x y z : List UInt8}, Op.bytesLess x y = true -> Op.bytesLess y z = true -> Op.bytesLess x z = true
 | [], [], _, h, _ => by simp [Op.bytesLess] at h
 | [], _ :: _, [], _, h => by simp [Op.bytesLess] at h
 | [], _ :: _, _ :: _, _, _ => rfl
 | _ :: _, [], _, h, _ => by simp [Op.bytesLess] at h
 | _ :: _, _ :: _, [], _, h => by simp [Op.bytesLess] at h
 | a :: x, b :: y, c :: z, h, k => by
  unfold Op.bytesLess at h k ⊢
  simp only [Bool.or_eq_true, decide_eq_true_eq, Bool.and_eq_true, beq_iff_eq] at h k ⊢
  rcases h with h | ⟨rfl, h⟩
  ·rcases k with k | ⟨rfl, k⟩
   ·left; rw [UInt8.lt_iff_toNat_lt] at *; omega
   ·exact .inl h
  ·rcases k with k | ⟨rfl, k⟩
   ·exact .inl k
   ·exact .inr ⟨rfl, bls_trans h k⟩
theorem bls_tri : ∀ (x y : List UInt8), Op.bytesLess x y = true \/ x = y \/ Op.bytesLess y x = true
 | [], [] => .inr (.inl rfl)
 | [], _ :: _ => .inl rfl
 | _ :: _, [] => .inr (.inr rfl)
 | a :: x, b :: y => by
  unfold Op.bytesLess
  simp only [Bool.or_eq_true, decide_eq_true_eq, Bool.and_eq_true, beq_iff_eq, cons.injEq]
  rcases Nat.lt_trichotomy a.toNat b.toNat with h | h | h
  ·exact .inl (.inl (UInt8.lt_iff_toNat_lt.2 h))
  ·have e : a = b := UInt8.toNat_inj.1 h
   subst e
   rcases bls_tri x y with h | h | h
   ·exact .inl (.inr ⟨rfl, h⟩)
   ·exact .inr (.inl ⟨rfl, h⟩)
   ·exact .inr (.inr (.inr ⟨rfl, h⟩))
  ·exact .inr (.inr (.inl (UInt8.lt_iff_toNat_lt.2 h)))
def sLt (x y : ByteArray) : Bool := Op.bytesLess x.toList y.toList
theorem sLt_irr (x : ByteArray) : sLt x x = false := bls_irr _
theorem YgH {x y z : ByteArray} (h : sLt x y = true) (k : sLt y z = true) : sLt x z = true := bls_trans h k
theorem sLt_tri (x y : ByteArray) : sLt x y = true \/ x = y \/ sLt y x = true := by
 unfold sLt
 rw [YbD, YbD]
 rcases bls_tri (bl x) (bl y) with h | h | h
 ·exact .inl h
 ·exact .inr (.inl (Yhg h))
 ·exact .inr (.inr h)
theorem sLt_asym {x y : ByteArray} (h : sLt x y = true) : sLt y x = false := by
 cases hb : sLt y x with
 | false => rfl
 | true => have := YgH h hb; rw [sLt_irr] at this; cases this
def nLt (x y : Pr) : Bool := sLt x.1 y.1 || (decide (x.1 = y.1) && sLt x.2 y.2)
theorem YcB (x : Pr) : nLt x x = false := by unfold nLt; rw [sLt_irr, sLt_irr]; simp
theorem nLt_iff {x y : Pr} : nLt x y = true ↔ sLt x.1 y.1 = true \/ (x.1 = y.1 /\ sLt x.2 y.2 = true) := by
 unfold nLt; simp only [Bool.or_eq_true, Bool.and_eq_true, decide_eq_true_eq]
theorem YcA {x y z : Pr} (h : nLt x y = true) (k : nLt y z = true) : nLt x z = true := by
 rw [nLt_iff] at *
 rcases h with h | ⟨e, h⟩
 ·rcases k with k | ⟨e', k⟩
  ·exact .inl (YgH h k)
  ·rw [<- e']; exact .inl h
 ·rcases k with k | ⟨e', k⟩
  ·rw [e]; exact .inl k
  ·exact .inr ⟨e.trans e', YgH h k⟩
theorem nLt_tri (x y : Pr) : nLt x y = true \/ x = y \/ nLt y x = true := by
 rw [nLt_iff, nLt_iff]
 rcases sLt_tri x.1 y.1 with h | h | h
 ·exact .inl (.inl h)
 ·rcases sLt_tri x.2 y.2 with k | k | k
  ·exact .inl (.inr ⟨h, k⟩)
  ·exact .inr (.inl (Prod.ext h k))
  ·exact .inr (.inr (.inr ⟨h.symm, k⟩))
 ·exact .inr (.inr (.inl h))
abbrev At := ByteArray × ByteArray × ByteArray
def atc (x : At) : List Value := [.string x.1, .string x.2.1, .string x.2.2]
def nameOf (x : At) : Pr := (x.1, x.2.1)
theorem Yac (L : List At) : Yej atc 3 L := fun _ _ => rfl
theorem YgK (x : At) : one1 (atc x) := Zz9 rfl (Zz9 rfl (Zz9 rfl Zy4))
def aLt (x y : At) : Bool := nLt (nameOf x) (nameOf y)
end Go.Vc
namespace Go.Proofs.YtjlgopfceebdcaaGreatDoor
open Go Go.Vc Go.Lib
theorem slT_attr : SlT Tryz.prog Zzi Zzo 3 48 #[.string ByteArray.empty, .string ByteArray.empty, .string ByteArray.empty] := SlT.of (by kernel_rfl) (by kernel_rfl) rfl (by decide)
section
variable {w : World}
theorem Yhq {x y : ByteArray} {J : Int -> World -> Prop} (k : J (if sLt x y = true then -1 else if x = y then 0 else 1) w) : Zz1 Tryz.prog ZyQ #[.string x, .string y] w [.one (.int .i64)] J := by
 refine Ydv ?_
 refine Ybq ?_
 refine Ybq ?_
 refine Zzd (fun h => by simp at h) fun _ => Zzd (fun h => by simp at h) fun _ => ?_
 unfold sLt at k
 refine Zzd (fun h => by rw [if_pos h] at k; exact k) (fun h => ?_)
 rw [if_neg (by simp [h]), ] at k
 rw [h, Bool.false_or, beqS]
 refine ZzU (fun h2 => by rw [if_neg (of_decide_eq_false h2)] at k; exact k) (fun h2 => by rw [if_pos (of_decide_eq_true h2)] at k; exact k)
end
end Go.Proofs.YtjlgopfceebdcaaGreatDoor
end
section
namespace Go.Vc
open Go Go.Lib
inductive Nd where
 | mk (kind : Int) (uri loc text : ByteArray) (attrs : List At) (kids : List Nd)
inductive NV where
 | mk (kind : Int) (uri loc text : ByteArray) (ap : Option Addr) (al ac : Nat) (attrs : List At) (kp : Option Addr) (kl kc : Nat) (kids : List NV)
theorem NV.ind {P : NV -> Prop} (h : ∀ k u l t ap al ac ats kp kl kc ks, (∀ x ∈ ks, P x) -> P (.mk k u l t ap al ac ats kp kl kc ks)) (v : NV) : P v :=
  NV.rec (motive_1 := P) (motive_2 := fun ks => ∀ x ∈ ks, P x) (fun k u l t ap al ac ats kp kl kc ks ih => h k u l t ap al ac ats kp kl kc ks ih) (by simp)
    (fun x r hx hr y hy => by rcases List.mem_cons.1 hy with rfl | hy; · exact hx
                              · exact hr y hy) v
theorem Nd.ind {P : Nd -> Prop} (h : ∀ k u l t ats ks, (∀ x ∈ ks, P x) -> P (.mk k u l t ats ks)) (v : Nd) : P v :=
  Nd.rec (motive_1 := P) (motive_2 := fun ks => ∀ x ∈ ks, P x) (fun k u l t ats ks ih => h k u l t ats ks ih) (by simp)
    (fun x r hx hr y hy => by rcases List.mem_cons.1 hy with rfl | hy; · exact hx
                              · exact hr y hy) v
def NV.cells : NV -> List Value
 | .mk k u l t ap al ac _ kp kl kc _ => [.int .i64 k, .string u, .string l, .slice ap al ac, .slice kp kl kc, .string t]
theorem Zzp (L : List NV) : Yej NV.cells 6 L := fun x _ => by cases x; rfl
theorem Zy2 (x : NV) : one1 x.cells := by
 cases x
 intro v hv
 simp only [NV.cells, mem_cons, not_mem_nil, or_false] at hv
 rcases hv with rfl | rfl | rfl | rfl | rfl | rfl <;> rfl
mutual
def NV.nd : NV -> Nd
 | .mk k u l t _ _ _ ats _ _ _ ks => .mk k u l t ats (NV.ndL ks)
def NV.ndL : List NV -> List Nd
 | [] => []
 | x :: r => x.nd :: NV.ndL r
end
theorem ndL_map : ∀ ks, NV.ndL ks = ks.map NV.nd
 | [] => rfl
 | x :: r => by simp [NV.ndL, ndL_map r]
def ZxI (a : At) : Nat := 1 + a.1.size + a.2.1.size + a.2.2.size
mutual
def NV.mea : NV -> Nat
 | .mk _ u l t _ _ _ ats _ _ _ ks => 1 + u.size + l.size + t.size + (ats.map ZxI).sum + NV.meaL ks
def NV.meaL : List NV -> Nat
 | [] => 0
 | x :: r => x.mea + NV.meaL r
end
theorem YbX : ∀ ks, NV.meaL ks = (ks.map NV.mea).sum
 | [] => rfl
 | x :: r => by simp [NV.meaL, YbX r]
theorem YgO {α : Type} (f : α -> Nat) : ∀ {l : List α} {x : α}, x ∈ l -> f x <= (l.map f).sum
 | y :: l, x, h => by
  rw [map_cons, sum_cons]
  rcases mem_cons.1 h with rfl | h
  ·omega
  ·have := YgO f h; omega
theorem YdI {x : NV} {ks : List NV} (h : x ∈ ks) : x.mea <= NV.meaL ks := by rw [YbX]; exact YgO NV.mea h
theorem mea_pos (v : NV) : 1 <= v.mea := by cases v; simp only [NV.mea]; omega
theorem Yag : ∀ ks : List NV, ks.length <= NV.meaL ks
 | [] => Nat.le_refl _
 | x :: r => by have := Yag r; have := mea_pos x; simp only [NV.meaL, length_cons]; omega
theorem ZqM : ∀ ats : List At, ats.length <= (ats.map ZxI).sum
 | [] => Nat.le_refl _
 | x :: r => by
  have := ZqM r
  rw [map_cons, sum_cons, length_cons]
  unfold ZxI at *; omega
inductive NV.Ok (w : World) : NV -> Prop
 | mk {k : Int} {u l t : ByteArray} {ap : Option Addr} {al ac : Nat} {ats : List At} {kp : Option Addr} {kl kc : Nat} {ks : List NV}
   (ha : Sl w ap al 3 (rows atc ats)) (hn : ap = none -> al = 0) (hac : al <= ac) (hk : Sl w kp kl 6 (rows NV.cells ks)) (hkn : kp = none -> kl = 0) (hkc : kl <= kc) (hks : ∀ x ∈ ks, NV.Ok w x) : NV.Ok w (.mk k u l t ap al ac ats kp kl kc ks)
inductive NV.Off (S : Nat -> Prop) : NV -> Prop
 | mk {k : Int} {u l t : ByteArray} {ap : Option Addr} {al ac : Nat} {ats : List At} {kp : Option Addr} {kl kc : Nat} {ks : List NV}
   (ha : off ap S) (hk : off kp S) (hks : ∀ x ∈ ks, NV.Off S x) : NV.Off S (.mk k u l t ap al ac ats kp kl kc ks)
theorem NV.off_no (v : NV) : NV.Off No v := by
 induction v using NV.ind with
 | h k u l t ap al ac ats kp kl kc ks ih => exact .mk (Vc.off_no _) (Vc.off_no _) ih
theorem NV.Ok.chg {w w' : World} {S : Nat -> Prop} (hc : Chg S w w') : ∀ {v : NV}, NV.Ok w v -> NV.Off S v -> NV.Ok w' v := by
 intro v
 induction v using NV.ind with
 | h k u l t ap al ac ats kp kl kc ks ih =>
  intro h ho
  cases h with
  | mk ha hn hac hk hkn hkc hks =>
   cases ho with
   | mk oa ok oks => exact .mk (ha.chg hc oa) hn hac (hk.chg hc ok) hkn hkc fun x hx => ih x hx (hks x hx) (oks x hx)
theorem NV.Ok.chg0 {w w' : World} {v : NV} (h : NV.Ok w v) (hc : Chg No w w') : NV.Ok w' v := h.chg hc v.off_no
mutual
def NV.flat : NV -> List NV
 | .mk k u l t ap al ac ats kp kl kc ks => .mk k u l t ap al ac ats kp kl kc ks :: NV.flatL ks
def NV.flatL : List NV -> List NV
 | [] => []
 | x :: r => x.flat ++ NV.flatL r
end
mutual
def Nd.flat : Nd -> List Nd
 | .mk k u l t ats ks => .mk k u l t ats ks :: Nd.flatL ks
def Nd.flatL : List Nd -> List Nd
 | [] => []
 | x :: r => x.flat ++ Nd.flatL r
end
theorem YfW : ∀ a b : List NV, NV.flatL (a ++ b) = NV.flatL a ++ NV.flatL b
 | [], _ => rfl
 | x :: r, b => by simp [NV.flatL, YfW r b]
mutual
theorem flat_len : ∀ v : NV, v.flat.length <= v.mea
 | .mk k u l t ap al ac ats kp kl kc ks => by
  have := flatL_len ks
  simp only [NV.flat, NV.mea, length_cons]; omega
theorem flatL_len : ∀ ks : List NV, (NV.flatL ks).length <= NV.meaL ks
 | [] => Nat.le_refl _
 | x :: r => by
  have := flat_len x; have := flatL_len r
  simp only [NV.flatL, NV.meaL, length_append]; omega
end
mutual
theorem flat_nd : ∀ v : NV, v.flat.map NV.nd = v.nd.flat
 | .mk k u l t ap al ac ats kp kl kc ks => by
  have := flatL_nd ks
  simp only [NV.flat, NV.nd, Nd.flat, map_cons, this]
theorem flatL_nd : ∀ ks : List NV, (NV.flatL ks).map NV.nd = Nd.flatL (NV.ndL ks)
 | [] => rfl
 | x :: r => by
  have := flat_nd x; have := flatL_nd r
  simp only [NV.flatL, NV.ndL, Nd.flatL, map_append, *]
end
theorem flat_mem {v x : NV} (h : x ∈ v.flat) : ∀ {w : World}, NV.Ok w v -> NV.Ok w x := by
 intro w
 induction v using NV.ind with
 | h k u l t ap al ac ats kp kl kc ks ih =>
  intro hv
  simp only [NV.flat, mem_cons] at h
  rcases h with rfl | h
  ·exact hv
  ·cases hv with
   | mk ha hn hac hk hkn hkc hks =>
    have key : ∀ ks' : List NV, (∀ y ∈ ks', y ∈ ks) -> x ∈ NV.flatL ks' -> NV.Ok w x := by
     intro ks'
     induction ks' with
     | nil => intro _ h; cases h
     | cons y r ihr =>
      intro hs h
      simp only [NV.flatL, mem_append] at h
      rcases h with h | h
      ·exact ih y (hs y (by simp)) h (hks y (hs y (by simp)))
      ·exact ihr (fun z hz => hs z (by simp [hz])) h
    exact key ks (fun y hy => hy) h
theorem flat_mea {v x : NV} (h : x ∈ v.flat) : x.mea <= v.mea := by
 induction v using NV.ind with
 | h k u l t ap al ac ats kp kl kc ks ih =>
  simp only [NV.flat, mem_cons] at h
  rcases h with rfl | h
  ·exact Nat.le_refl _
  ·have key : ∀ ks' : List NV, (∀ y ∈ ks', y ∈ ks) -> x ∈ NV.flatL ks' -> x.mea <= NV.meaL ks' := by
    intro ks'
    induction ks' with
    | nil => intro _ h; cases h
    | cons y r ihr =>
     intro hs h
     simp only [NV.flatL, mem_append] at h
     simp only [NV.meaL]
     rcases h with h | h
     ·have := ih y (hs y (by simp)) h; omega
     ·have := ihr (fun z hz => hs z (by simp [hz])) h; omega
   have := key ks (fun y hy => hy) h
   simp only [NV.mea]; omega
end Go.Vc
namespace Go.Vc
open Go Go.Lib
def Nd.kind : Nd -> Int | .mk k _ _ _ _ _ => k
def Nd.uri : Nd -> ByteArray | .mk _ u _ _ _ _ => u
def Nd.loc : Nd -> ByteArray | .mk _ _ l _ _ _ => l
def Nd.text : Nd -> ByteArray | .mk _ _ _ t _ _ => t
def Nd.attrs : Nd -> List At | .mk _ _ _ _ ats _ => ats
def Nd.kids : Nd -> List Nd | .mk _ _ _ _ _ ks => ks
theorem YcL {x : Nd} : ∀ {ks : List Nd}, x ∈ Nd.flatL ks ↔ ∃ k ∈ ks, x ∈ k.flat
 | [] => by simp [Nd.flatL]
 | y :: r => by simp [Nd.flatL, YcL (ks := r)]
theorem YeH (d : Nd) : d ∈ d.flat := by cases d; simp [Nd.flat]
theorem YcK {x d : Nd} : x ∈ d.flat ↔ x = d \/ ∃ k ∈ d.kids, x ∈ k.flat := by
 cases d with
 | mk k u l t ats ks => simp only [Nd.flat, mem_cons, YcL, Nd.kids]
theorem flat_parent {d x : Nd} (h : x ∈ d.flat) : x = d \/ ∃ y ∈ d.flat, x ∈ y.kids := by
 induction d using Nd.ind with
 | h k u l t ats ks ih =>
  rcases YcK.1 h with rfl | ⟨c, hc, hx⟩
  ·exact .inl rfl
  ·right
   rcases ih c hc hx with rfl | ⟨y, hy, hxy⟩
   ·exact ⟨_, YeH _, hc⟩
   ·exact ⟨y, YcK.2 (.inr ⟨c, hc, hy⟩), hxy⟩
def mayK (p k : Int) : Bool := decide ((p = 1 /\ (k = 2 \/ k = 4 \/ k = 5)) \/ (p = 2 /\ 2 <= k /\ k <= 5))
def Zza : ByteArray := ⟨#[]⟩
def kindG (n : Nd) : Bool :=
 n.kids.all (fun k => mayK n.kind k.kind) &&
 (if n.kind = 1 then decide (n.uri = Zza /\ n.loc = Zza /\ n.text = Zza /\ n.attrs = [])
  else if n.kind = 2 then decide (n.text = Zza)
  else if n.kind = 3 \/ n.kind = 4 then decide (n.uri = Zza /\ n.loc = Zza /\ n.attrs = []) && n.kids.isEmpty
  else if n.kind = 5 then decide (n.uri = Zza /\ n.attrs = []) && n.kids.isEmpty
  else false)
def oddQ (k : Int) (u l t : ByteArray) (ats : List At) : Bool :=
 if k = 1 then decide (ats ≠ []) || decide (¬ (u = Zza /\ l = Zza)) || decide (t ≠ Zza)
 else if k = 2 then decide (t ≠ Zza)
 else if k = 5 then decide (ats ≠ []) || decide (u ≠ Zza)
 else decide (ats ≠ []) || decide (¬ (u = Zza /\ l = Zza))
def oddP (n : Nd) : Bool := oddQ n.kind n.uri n.loc n.text n.attrs || n.kids.any (fun k => !mayK n.kind k.kind)
theorem mayK_known {p k : Int} (h : mayK p k = true) : (p = 1 \/ p = 2) /\ (k = 2 \/ k = 3 \/ k = 4 \/ k = 5) := by
 have := of_decide_eq_true h; omega
theorem kind_odd {n : Nd} (h : kindG n = true) : oddP n = false := by
 unfold kindG at h
 rw [Bool.and_eq_true] at h
 have hk : n.kids.any (fun k => !mayK n.kind k.kind) = false := by
  rw [any_eq_false]
  intro x hx
  have := all_eq_true.1 h.1 x hx
  simp [this]
 unfold oddP oddQ
 rw [hk, Bool.or_false]
 have h2 := h.2
 by_cases e1 : n.kind = 1
 ·rw [if_pos e1] at h2 ⊢
  have := of_decide_eq_true h2
  simp [this.1, this.2.1, this.2.2.1, this.2.2.2]
 rw [if_neg e1] at h2 ⊢
 by_cases e2 : n.kind = 2
 ·rw [if_pos e2] at h2 ⊢
  have := of_decide_eq_true h2
  simp [this]
 rw [if_neg e2] at h2 ⊢
 by_cases e3 : n.kind = 3 \/ n.kind = 4
 ·rw [if_pos e3, Bool.and_eq_true] at h2
  have := of_decide_eq_true h2.1
  rw [if_neg (by omega)]
  simp [this.1, this.2.1, this.2.2]
 rw [if_neg e3] at h2
 by_cases e5 : n.kind = 5
 ·rw [if_pos e5, Bool.and_eq_true] at h2
  rw [if_pos e5]
  have := of_decide_eq_true h2.1
  simp [this.1, this.2]
 ·rw [if_neg e5] at h2; cases h2
theorem odd_kind {n : Nd} (hk : n.kind = 1 \/ n.kind = 2 \/ n.kind = 3 \/ n.kind = 4 \/ n.kind = 5) (h : oddP n = false) : kindG n = true := by
 unfold oddP oddQ at h
 rw [Bool.or_eq_false_iff] at h
 have hall : n.kids.all (fun k => mayK n.kind k.kind) = true := by
  rw [all_eq_true]
  intro x hx
  have := any_eq_false.1 h.2 x hx
  simpa using this
 unfold kindG
 rw [hall, Bool.true_and]
 have noK : ¬ (n.kind = 1 \/ n.kind = 2) -> n.kids.isEmpty = true := by
  intro hn
  cases hks : n.kids with
  | nil => rfl
  | cons x r =>
   have := all_eq_true.1 hall x (by rw [hks]; simp)
   exact absurd (mayK_known this).1 hn
 have h2 := h.1
 by_cases e1 : n.kind = 1
 ·rw [if_pos e1] at h2 ⊢
  simp only [Bool.or_eq_false_iff, decide_eq_false_iff_not, Decidable.not_not] at h2
  exact decide_eq_true ⟨h2.1.2.1, h2.1.2.2, h2.2, h2.1.1⟩
 rw [if_neg e1] at h2 ⊢
 by_cases e2 : n.kind = 2
 ·rw [if_pos e2] at h2 ⊢
  simp only [decide_eq_false_iff_not, Decidable.not_not] at h2
  exact decide_eq_true h2
 rw [if_neg e2] at h2 ⊢
 have hemp := noK (by omega)
 by_cases e3 : n.kind = 3 \/ n.kind = 4
 ·rw [if_neg (by omega)] at h2
  simp only [Bool.or_eq_false_iff, decide_eq_false_iff_not, Decidable.not_not] at h2
  rw [if_pos e3, hemp, Bool.and_true]
  exact decide_eq_true ⟨h2.2.1, h2.2.2, h2.1⟩
 ·have e5 : n.kind = 5 := by omega
  rw [if_pos e5] at h2
  simp only [Bool.or_eq_false_iff, decide_eq_false_iff_not, Decidable.not_not] at h2
  rw [if_neg e3, if_pos e5, hemp, Bool.and_true]
  exact decide_eq_true ⟨h2.2, h2.1⟩
theorem odd_all {d : Nd} (hd : d.kind = 1) : d.flat.any oddP = !d.flat.all kindG := by
 cases hall : d.flat.all kindG with
 | true =>
  rw [Bool.not_true, any_eq_false]
  intro x hx
  rw [kind_odd (all_eq_true.1 hall x hx)]; decide
 | false =>
  rw [Bool.not_false]
  rcases hany : d.flat.any oddP with _ | _
  ·exfalso
   rw [Bool.eq_false_iff] at hall
   apply hall
   rw [all_eq_true]
   have hno : ∀ x ∈ d.flat, oddP x = false := fun x hx => by simpa using any_eq_false.1 hany x hx
   intro x hx
   refine odd_kind ?_ (hno x hx)
   rcases flat_parent hx with rfl | ⟨y, hy, hxy⟩
   ·exact .inl hd
   ·have h1 := hno y hy
    unfold oddP oddQ at h1
    rw [Bool.or_eq_false_iff] at h1
    have h2 := any_eq_false.1 h1.2 x hxy
    have := (mayK_known (p := y.kind) (k := x.kind) (by simpa using h2)).2
    omega
  ·rfl
mutual
def Yc7 (above : Int) : Nd -> Bool
 | .mk k _ _ _ _ ks => if k = 2 then (if above > 32 then true else deepNL (above + 1) ks) else deepNL above ks
def deepNL (above : Int) : List Nd -> Bool
 | [] => false
 | x :: r => Yc7 above x || deepNL above r
end
theorem Yfr (above : Int) : ∀ ks, deepNL above ks = ks.any (Yc7 above)
 | [] => rfl
 | x :: r => by simp [deepNL, Yfr above r]
def YcC (n : Nd) : Bool := decide (64 < n.attrs.length) || decide (8192 < n.text.size) || n.attrs.any (fun a => decide (8192 < a.2.2.size))
def fineB (s : ByteArray) : Bool := decide ((flt 0 (bl s)).2 = 0)
def kXMLNS : ByteArray := ⟨#[104, 116, 116, 112, 58, 47, 47, 119, 119, 119, 46, 119, 51, 46, 111, 114, 103, 47, 50, 48, 48, 48, 47, 120, 109, 108, 110, 115, 47]⟩
def kXn : ByteArray := ⟨#[120, 109, 108, 110, 115]⟩
def YdY (n : Pr) : Bool := nm (bl n.2) && decide (n.1.size <= 100) && fineB n.1 && decide (n.1 ≠ kXMLNS)
def attrN (a : At) : Bool := YdY (nameOf a) && !decide (a.1 = Zza /\ a.2.1 = kXn)
def low3 (b : UInt8) : UInt8 := if 65 <= b.toNat /\ b.toNat <= 90 then b + 32 else b
def isXml (l : List UInt8) : Bool := decide (l.map low3 = [120, 109, 108])
def nameP (n : Nd) : Bool := if n.kind = 2 then YdY (n.uri, n.loc) && n.attrs.all attrN else if n.kind = 5 then nm (bl n.loc) && !isXml (bl n.loc) else true
def nameG (n : Nd) : Bool := (decide (n.kind ≠ 2) || YdY (n.uri, n.loc)) && n.attrs.all attrN && (decide (n.kind ≠ 5) || (nm (bl n.loc) && !isXml (bl n.loc)))
theorem name_eq {n : Nd} (h : kindG n = true) : nameP n = nameG n := by
 unfold nameP nameG
 by_cases e2 : n.kind = 2
 ·rw [if_pos e2]
  have : decide (n.kind ≠ 5) = true := by rw [decide_eq_true_eq]; omega
  rw [this]; simp [e2]
 ·rw [if_neg e2]
  have ha : n.attrs = [] := by
   unfold kindG at h
   rw [Bool.and_eq_true] at h
   have h2 := h.2
   by_cases e1 : n.kind = 1
   ·rw [if_pos e1] at h2; exact (of_decide_eq_true h2).2.2.2
   rw [if_neg e1, if_neg e2] at h2
   by_cases e3 : n.kind = 3 \/ n.kind = 4
   ·rw [if_pos e3, Bool.and_eq_true] at h2; exact (of_decide_eq_true h2.1).2.2
   rw [if_neg e3] at h2
   by_cases e5 : n.kind = 5
   ·rw [if_pos e5, Bool.and_eq_true] at h2; exact (of_decide_eq_true h2.1).2
   ·rw [if_neg e5] at h2; cases h2
  rw [ha]
  by_cases e5 : n.kind = 5
  ·rw [if_pos e5]; simp [e2, e5]
  ·rw [if_neg e5]; simp [e2, e5]
def YfZ (n : Nd) : Bool := fineB n.text && n.attrs.all (fun a => fineB a.2.2)
def ascB : List At -> Bool
 | a :: b :: r => aLt a b && ascB (b :: r)
 | _ => true
def YfT (n : Nd) : Bool := ascB n.attrs
def Zqo : List Nd -> Bool
 | a :: b :: r => (decide (a.kind = 3) && decide (b.kind = 3)) || Zqo (b :: r)
 | _ => false
def hasS (w s : List UInt8) : Bool := match s with
 | [] => w.isPrefixOf []
 | b :: r => w.isPrefixOf (b :: r) || hasS w r
def textQ (k : Int) (t : ByteArray) : Bool :=
 if k = 3 then decide (t ≠ Zza)
 else if k = 4 then !hasS [45, 45] (bl t) && !hasS [13] (bl t) && decide ((bl t).getLast? ≠ some 45)
 else if k = 5 then !hasS [63, 62] (bl t) && !hasS [13] (bl t) && decide ((bl t).head? ≠ some 32 /\ (bl t).head? ≠ some 9 /\ (bl t).head? ≠ some 10)
 else true
def textN (n : Nd) : Bool := !Zqo n.kids && textQ n.kind n.text
def rootsN (d : Nd) : Nat := d.kids.countP fun k => decide (k.kind = 2)
def Yci (d : Nd) : Int :=
 if ¬ d.kind = 1 \/ d.flat.all kindG = false then 33
 else if Yc7 0 d = true then 31
 else if 2001 < d.flat.length \/ d.flat.any YcC = true then 5
 else if d.flat.all nameG = false then 24
 else if d.flat.all YfZ = false then 21
 else if d.flat.all YfT = false then 34
 else if d.flat.all textN = false then 32
 else if rootsN d ≠ 1 then 30 else 0
structure Right (d : Nd) : Prop where
 kind : d.kind = 1
 kinds : ∀ x ∈ d.flat, kindG x = true
 deep : Yc7 0 d = false
 few : d.flat.length <= 2001
 great : ∀ x ∈ d.flat, YcC x = false
 names : ∀ x ∈ d.flat, nameG x = true
 chars : ∀ x ∈ d.flat, YfZ x = true
 order : ∀ x ∈ d.flat, YfT x = true
 texts : ∀ x ∈ d.flat, textN x = true
 roots : rootsN d = 1
theorem ZxR {d : Nd} : Yci d = 0 ↔ Right d := by
 have ae : ∀ (p : Nd -> Bool), d.flat.all p = false ↔ ¬ ∀ x ∈ d.flat, p x = true := fun p => by rw [<- all_eq_true, Bool.eq_false_iff]
 constructor
 ·intro h
  unfold Yci at h
  split at h
  ·cases h
  rename_i h1
  split at h
  ·cases h
  rename_i h2
  split at h
  ·cases h
  rename_i h3
  split at h
  ·cases h
  rename_i h4
  split at h
  ·cases h
  rename_i h5
  split at h
  ·cases h
  rename_i h6
  split at h
  ·cases h
  rename_i h7
  split at h
  ·cases h
  rename_i h8
  rw [ae] at h1 h4 h5 h6 h7
  refine ⟨by omega, ?_, by simpa using h2, by omega, ?_, Decidable.not_not.1 h4, Decidable.not_not.1 h5, Decidable.not_not.1 h6, Decidable.not_not.1 h7, by omega⟩
  ·exact Decidable.not_not.1 fun hn => h1 (.inr hn)
  ·intro x hx
   have : ¬ d.flat.any YcC = true := fun hn => h3 (.inr hn)
   rw [Bool.not_eq_true, any_eq_false] at this
   simpa using this x hx
 ·intro h
  unfold Yci
  have a1 : d.flat.all kindG = true := all_eq_true.2 h.kinds
  have a4 : d.flat.all nameG = true := all_eq_true.2 h.names
  have a5 : d.flat.all YfZ = true := all_eq_true.2 h.chars
  have a6 : d.flat.all YfT = true := all_eq_true.2 h.order
  have a7 : d.flat.all textN = true := all_eq_true.2 h.texts
  have a3 : d.flat.any YcC = false := any_eq_false.2 fun x hx => by rw [h.great x hx]; decide
  have := h.few
  have := h.roots
  rw [if_neg (by rw [a1]; simp [h.kind]), if_neg (by rw [h.deep]; decide), if_neg (by rw [a3]; simp; omega), if_neg (by rw [a4]; decide), if_neg (by rw [a5]; decide), if_neg (by rw [a6]; decide), if_neg (by rw [a7]; decide), if_neg (by omega)]
end Go.Vc
end
