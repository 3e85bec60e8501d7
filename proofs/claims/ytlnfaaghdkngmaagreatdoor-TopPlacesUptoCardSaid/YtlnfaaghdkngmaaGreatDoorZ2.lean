/- What the statement needs, part 2. -/
import Derived.Test.YtlnfaaghdkngmaaGreatDoorZ1
set_option linter.unusedSectionVars false
set_option linter.unusedVariables false
set_option linter.unusedSimpArgs false
set_option maxRecDepth 100000
open List
section
namespace Go.Proofs.YtlnfaaghdkngmaaGreatDoor
open Go Go.Vc
theorem c_tree_Copy {a : Int} {b c : ByteArray} {d : Option Addr} {e f : Nat} {g : Option Addr} {i j : Nat} {k : ByteArray} {w : World} {J : Int -> ByteArray -> ByteArray -> Option Addr -> Nat -> Nat -> Option Addr -> Nat -> Nat -> ByteArray -> World -> Prop} (h :
 newB w (.cells ⟨[.int .i64 a, .string b, .string c, .slice d e f, .slice g i j, .string k]⟩ Zz3) fun l m =>
 newB m (.cells (Zy5 Tryz.prog Zz3) Zz3) fun n o =>
 ldS o ⟨l, 3, none⟩ fun p q r =>
 YcO Tryz.prog Zzh Zzh (.slice none 0 0) (.slice p q r) o fun s t u v =>
 stV v ⟨l, 3, none⟩ (.slice s t u) fun x =>
 ldS x ⟨l, 4, none⟩ fun y z aa =>
 stV x ⟨l, 4, none⟩ (.slice none 0 0) fun ab =>
 ∃ cd : Int -> World -> Nat -> Prop, (∃ ce, cd (0 : Int) ab ce) /\ ∀ cf cg ce, cd cf cg ce -> (
 Zz2 (decide (cf < (z : Int))) (
 Zyx y z cf fun ac =>
 ldI .i64 cg ((ac.add (cf.toNat * 6))) fun ad =>
 ldStr cg (((ac.add (cf.toNat * 6)).add 1)) fun ae =>
 ldStr cg (((ac.add (cf.toNat * 6)).add 2)) fun af =>
 ldS cg (((ac.add (cf.toNat * 6)).add 3)) fun ag ai aj =>
 ldS cg (((ac.add (cf.toNat * 6)).add 4)) fun ak al am =>
 ldStr cg (((ac.add (cf.toNat * 6)).add 5)) fun an =>
 newB cg (.cells (Zy5 Tryz.prog Zz3) Zz3) fun ao ap =>
 stN ap ⟨ao, 0, none⟩ ⟨[.int .i64 ad, .string ae, .string af, .slice ag ai aj, .slice ak al am, .string an]⟩ 6 fun aq =>
 ldS aq.drew ⟨l, 4, none⟩ fun ar au av =>
 ldI .i64 aq.drew ⟨ao, 0, none⟩ fun ax =>
 ldStr aq.drew ⟨ao, 1, none⟩ fun ay =>
 ldStr aq.drew ⟨ao, 2, none⟩ fun az =>
 ldS aq.drew ⟨ao, 3, none⟩ fun a0 a1 a2 =>
 ldS aq.drew ⟨ao, 4, none⟩ fun a3 a4 a5 =>
 ldStr aq.drew ⟨ao, 5, none⟩ fun a6 =>
 Zz1 Tryz.prog ZxM #[.agg ⟨[.int .i64 ax, .string ay, .string az, .slice a0 a1 a2, .slice a3 a4 a5, .string a6]⟩] aq.drew [.agg [.int .i64, .str, .str, .slice, .slice, .str]] fun a7 a8 a9 ba bb bc bd be bf bg bi =>
 bi.cell? ⟨l, 4, none⟩ = some (.slice ar au av) /\
 Array.size (⟨[.int .i64 a7, .string a8, .string a9, .slice ba bb bc, .slice bd be bf, .string bg]⟩ : Array Value) = 6 /\
 newB bi (.cells ⟨[.int .i64 a7, .string a8, .string a9, .slice ba bb bc, .slice bd be bf, .string bg]⟩ Zz3) fun bj bk =>
 bk.cell? ⟨l, 4, none⟩ = some (.slice ar au av) /\
 YcO Tryz.prog Zzg Zzg (.slice ar au av) (.slice (some ⟨bj, 0, none⟩) 1 1) bk fun bl bm bn bo =>
 stV bo ⟨l, 4, none⟩ (.slice bl bm bn) fun bp =>
 ∃ ci, ci < ce /\ cd (w64 (cf + (1 : Int))) bp ci) (
 ldI .i64 cg ⟨l, 0, none⟩ fun bq =>
 ldStr cg ⟨l, 1, none⟩ fun br =>
 ldStr cg ⟨l, 2, none⟩ fun bs =>
 ldS cg ⟨l, 3, none⟩ fun bt bu bv =>
 ldS cg ⟨l, 4, none⟩ fun bx bz b0 =>
 ldStr cg ⟨l, 5, none⟩ fun b1 =>
 stN cg ⟨n, 0, none⟩ ⟨[.int .i64 bq, .string br, .string bs, .slice bt bu bv, .slice bx bz b0, .string b1]⟩ 6 fun b2 =>
 ldI .i64 b2 ⟨n, 0, none⟩ fun b3 =>
 ldStr b2 ⟨n, 1, none⟩ fun b4 =>
 ldStr b2 ⟨n, 2, none⟩ fun b5 =>
 ldS b2 ⟨n, 3, none⟩ fun b6 b7 b8 =>
 ldS b2 ⟨n, 4, none⟩ fun b9 ca cb =>
 ldStr b2 ⟨n, 5, none⟩ fun cc =>
 J b3 b4 b5 b6 b7 b8 b9 ca cb cc b2))) : Zz1 Tryz.prog ZxM #[.agg ⟨[.int .i64 a, .string b, .string c, .slice d e f, .slice g i j, .string k]⟩] w [.agg [.int .i64, .str, .str, .slice, .slice, .str]] J := Zz5 Tryz.func18 (.s .o (.s .o (.s .o (.s .o (.s (.s .o (.b (.l [(15, .int .i64)] (.s .o (.s (.c .o .o) (.s (.b (.s .o (.d (.take 0 (.take 1 (.take 2 (.eff 3 (.eff 4 (.eff 5 (.take 6 (.eff 7 .done .none)) .none) .none) .none))))))) .o)))))) (.s .o .o)))))) (Eq.mpr (by kernel_rfl) h)
theorem c_tree_At {a : Int} {b c : ByteArray} {d : Option Addr} {e f : Nat} {g : Option Addr} {i j : Nat} {k : ByteArray} {l : Option Addr} {m n : Nat} {w : World} {J : Int -> ByteArray -> ByteArray -> Option Addr -> Nat -> Nat -> Option Addr -> Nat -> Nat -> ByteArray -> Int -> World -> Prop} (h :
 newB w (.cells ⟨[.int .i64 a, .string b, .string c, .slice d e f, .slice g i j, .string k]⟩ Zz3) fun o p =>
 newB p (.cells (Zy5 Tryz.prog Zz3) Zz3) fun q r =>
 ∃ b4 : Int -> World -> Nat -> Prop, (∃ b5, b4 (0 : Int) r b5) /\ ∀ b6 b7 b5, b4 b6 b7 b5 -> (
 Zz2 (decide (b6 < (m : Int))) (
 Zyx l m b6 fun s =>
 ldI .i64 b7 ((s.add (b6.toNat * 1))) fun t =>
 Zzj (fun (b2 : Bool) (b3 : World) =>
 Zz2 b2 (
 stN b3 ⟨q, 0, none⟩ ⟨[.int .i64 0, .string ByteArray.empty, .string ByteArray.empty, .slice none 0 0, .slice none 0 0, .string ByteArray.empty]⟩ 6 fun u =>
 ldI .i64 u ⟨q, 0, none⟩ fun v =>
 ldStr u ⟨q, 1, none⟩ fun x =>
 ldStr u ⟨q, 2, none⟩ fun y =>
 ldS u ⟨q, 3, none⟩ fun z aa ab =>
 ldS u ⟨q, 4, none⟩ fun ac ad ae =>
 ldStr u ⟨q, 5, none⟩ fun af =>
 J v x y z aa ab ac ad ae af (35 : Int) u) (
 ldS b3 ⟨o, 4, none⟩ fun ag ai aj =>
 Zyx ag ai t fun ak =>
 ldI .i64 b3 ((ak.add (t.toNat * 6))) fun al =>
 ldStr b3 (((ak.add (t.toNat * 6)).add 1)) fun am =>
 ldStr b3 (((ak.add (t.toNat * 6)).add 2)) fun an =>
 ldS b3 (((ak.add (t.toNat * 6)).add 3)) fun ao ap aq =>
 ldS b3 (((ak.add (t.toNat * 6)).add 4)) fun ar au av =>
 ldStr b3 (((ak.add (t.toNat * 6)).add 5)) fun ax =>
 stN b3 ⟨o, 0, none⟩ ⟨[.int .i64 al, .string am, .string an, .slice ao ap aq, .slice ar au av, .string ax]⟩ 6 fun ay =>
 ∃ b8, b8 < b5 /\ b4 (w64 (b6 + (1 : Int))) ay b8)) fun az =>
 Zz2 (decide (t < (0 : Int))) (
 az true b7) (
 ldS b7 ⟨o, 4, none⟩ fun a0 a1 a2 =>
 az (decide (t >= (a1 : Int))) b7)) (
 ldI .i64 b7 ⟨o, 0, none⟩ fun a3 =>
 ldStr b7 ⟨o, 1, none⟩ fun a4 =>
 ldStr b7 ⟨o, 2, none⟩ fun a5 =>
 ldS b7 ⟨o, 3, none⟩ fun a6 a7 a8 =>
 ldS b7 ⟨o, 4, none⟩ fun a9 ba bb =>
 ldStr b7 ⟨o, 5, none⟩ fun bc =>
 Zz1 Tryz.prog ZxM #[.agg ⟨[.int .i64 a3, .string a4, .string a5, .slice a6 a7 a8, .slice a9 ba bb, .string bc]⟩] b7 [.agg [.int .i64, .str, .str, .slice, .slice, .str]] fun bd be bf bg bi bj bk bl bm bn bo =>
 stN bo ⟨q, 0, none⟩ ⟨[.int .i64 bd, .string be, .string bf, .slice bg bi bj, .slice bk bl bm, .string bn]⟩ 6 fun bp =>
 ldI .i64 bp ⟨q, 0, none⟩ fun bq =>
 ldStr bp ⟨q, 1, none⟩ fun br =>
 ldStr bp ⟨q, 2, none⟩ fun bs =>
 ldS bp ⟨q, 3, none⟩ fun bt bu bv =>
 ldS bp ⟨q, 4, none⟩ fun bx bz b0 =>
 ldStr bp ⟨q, 5, none⟩ fun b1 =>
 J bq br bs bt bu bv bx bz b0 b1 (0 : Int) bp))) : Zz1 Tryz.prog Yd3 #[.agg ⟨[.int .i64 a, .string b, .string c, .slice d e f, .slice g i j, .string k]⟩, .slice l m n] w [.agg [.int .i64, .str, .str, .slice, .slice, .str], .one (.int .i64)] J := Zz5 Tryz.func10 (.s .o (.s (.s .o (.b (.l [(10, .int .i64)] (.s .o (.s (.c .o .o) (.s (.b (.s .o (.s (.j [(22, .bool)] .o (.c (.s .o .o) .o)) .o))) .o)))))) (.s .o .o))) (Eq.mpr (by kernel_rfl) h)
end Go.Proofs.YtlnfaaghdkngmaaGreatDoor
end
section
namespace Go.Vc
open Go Go.Lib
section
variable {w : World}
theorem ldNode {a : Addr} {k0 : Int} {u0 l0 t0 : ByteArray} {ap kp : Option Addr} {al ac kl kc : Nat} (hc : Zzn w a [.int .i64 k0, .string u0, .string l0, .slice ap al ac, .slice kp kl kc, .string t0])
  {K : Int -> ByteArray -> ByteArray -> Option Addr -> Nat -> Nat -> Option Addr -> Nat -> Nat -> ByteArray -> Prop} (k : K k0 u0 l0 ap al ac kp kl kc t0) :
  ldI .i64 w a fun x0 => ldStr w (a.add 1) fun x1 => ldStr w (a.add 2) fun x2 => ldS w (a.add 3) fun p3 l3 c3 => ldS w (a.add 4) fun p4 l4 c4 => ldStr w (a.add 5) fun x5 => K x0 x1 x2 p3 l3 c3 p4 l4 c4 x5 :=
 ⟨_, Zzo hc, _, hc 1 _ rfl, _, hc 2 _ rfl, _, _, _, hc 3 _ rfl, _, _, _, hc 4 _ rfl, _, hc 5 _ rfl, k⟩
theorem ldAttr {a : Addr} {u0 l0 t0 : ByteArray} (hc : Zzn w a [.string u0, .string l0, .string t0]) {K : ByteArray -> ByteArray -> ByteArray -> Prop} (k : K u0 l0 t0) :
  ldStr w a fun x0 => ldStr w (a.add 1) fun x1 => ldStr w (a.add 2) fun x2 => K x0 x1 x2 :=
 ⟨_, Zzo hc, _, hc 1 _ rfl, _, hc 2 _ rfl, k⟩
theorem Zq8 {w0 : World} {S : Nat -> Prop} {Γ : List Blk} {b : Nat} {e : TypeId} (H : Hp w0 S w Γ) (i : Nat) {k0 : Int} {u0 l0 t0 : ByteArray} {ap kp : Option Addr} {al ac kl kc : Nat} (hi : Γ[i]? = some ⟨b, [.int .i64 k0, .string u0, .string l0, .slice ap al ac, .slice kp kl kc, .string t0], e⟩)
  {K : Int -> ByteArray -> ByteArray -> Option Addr -> Nat -> Nat -> Option Addr -> Nat -> Nat -> ByteArray -> Prop} (k : K k0 u0 l0 ap al ac kp kl kc t0) :
  ldI .i64 w ⟨b, 0, none⟩ fun x0 => ldStr w ⟨b, 1, none⟩ fun x1 => ldStr w ⟨b, 2, none⟩ fun x2 => ldS w ⟨b, 3, none⟩ fun p3 l3 c3 => ldS w ⟨b, 4, none⟩ fun p4 l4 c4 => ldStr w ⟨b, 5, none⟩ fun x5 => K x0 x1 x2 p3 l3 c3 p4 l4 c4 x5 :=
 ⟨_, H.cell i hi rfl, _, H.cell i hi rfl, _, H.cell i hi rfl, _, _, _, H.cell i hi rfl, _, _, _, H.cell i hi rfl, _, H.cell i hi rfl, k⟩
def Yc5 (call : List Value -> World -> (Bool -> World -> Prop) -> Prop) (s0p : Option Addr) (s0l : Nat) (w : World) (J : Int -> World -> Prop) : Prop :=
 ∃ I_8 : Int -> World -> Nat -> Prop, (∃ m : Nat, I_8 (0 : Int) w m) /\ ∀ (x8 : Int) (w1 : World) (m : Nat), I_8 x8 w1 m -> (
 Zz2 (decide (x8 < ((s0l : Nat) : Int))) (
 Zyx s0p s0l x8 fun a14 =>
 ldI .i64 w1 ((a14.add (x8.toNat * 6))) fun x15_0 =>
 ldStr w1 (((a14.add (x8.toNat * 6)).add 1)) fun x15_1 =>
 ldStr w1 (((a14.add (x8.toNat * 6)).add 2)) fun x15_2 =>
 ldS w1 (((a14.add (x8.toNat * 6)).add 3)) fun x15_3p x15_3l x15_3c =>
 ldS w1 (((a14.add (x8.toNat * 6)).add 4)) fun x15_4p x15_4l x15_4c =>
 ldStr w1 (((a14.add (x8.toNat * 6)).add 5)) fun x15_5 =>
 call [.int .i64 x15_0, .string x15_1, .string x15_2, .slice x15_3p x15_3l x15_3c, .slice x15_4p x15_4l x15_4c, .string x15_5] w1 fun (r16 : Bool) (w2 : World) =>
 Zz2 r16 (
 J x8 w2) (
 ∃ m' : Nat, m' < m /\ I_8 (w64 (x8 + (1 : Int))) w2 m')) (
 J (-1 : Int) w1))
theorem ZqG {call : List Value -> World -> (Bool -> World -> Prop) -> Prop} {p : Option Addr} {l : Nat} {L : List NV} {q : NV -> Bool} {J : Int -> World -> Prop} (h : Sl w p l 6 (rows NV.cells L)) (hm : l <= 100000000)
    (hcall : ∀ x ∈ L, ∀ (w' : World) (K : Bool -> World -> Prop), Chg No w w' -> (∀ w'', Chg No w w'' -> K (q x) w'') -> call x.cells w' K)
    (K : ∀ (r : Int) w', Chg No w w' -> (0 <= r ↔ L.any q = true) -> J r w') : Yc5 call p l w J := by
  have hl := h.row (Zzl L) (by decide)
  refine ⟨fun i w' t => ∃ k : Nat, i = k /\ k <= l /\ t = l - k /\ Chg No w w' /\ (L.take k).any q = false, ⟨_, 0, rfl, Nat.zero_le _, rfl, Chg.refl _ _, rfl⟩, ?_⟩
  rintro i w1 t ⟨k, rfl, hk, rfl, hc, hno⟩
  refine Zz6 (fun hlt => ?_) (fun hge => ?_)
  · refine Zzr (h.chg hc (off_no _)) (Zzl L) (by decide) (by omega) hlt fun a x _ hx hcs => ?_
    rw [Int.toNat_natCast] at hx
    have hmem := List.mem_of_getElem? hx
    obtain ⟨g1, g2⟩ := List.getElem?_eq_some_iff.1 hx
    have htake : L.take (k + 1) = L.take k ++ [x] := by rw [List.take_succ_eq_append_getElem g1, g2]
    have hc2 := hcall x hmem w1
    cases x with
    | mk xk xu xl xt xap xal xac xas xkp xkl xkc xks =>
      refine ldNode hcs ?_
      refine hc2 _ hc fun w2 c2 => ?_
      refine Zz9 (fun hq => ?_) (fun hq => ?_)
      · exact K k w2 c2 ⟨fun _ => List.any_eq_true.2 ⟨_, hmem, hq⟩, fun _ => by omega⟩
      · refine ⟨_, by omega, k + 1, by rw [Zzt] <;> omega, by omega, rfl, c2, ?_⟩
        rw [htake, List.any_append, hno, List.any_cons, hq]; rfl
  · rw [List.take_of_length_le (by omega)] at hno
    exact K (-1) w1 hc ⟨fun h => by omega, fun h => by rw [hno] at h; cases h⟩
def YfJ (call : List Value -> World -> (Bool -> World -> Prop) -> Prop) (s0p : Option Addr) (s0l : Nat) (w : World) (J : Int -> World -> Prop) : Prop :=
 ∃ I_8 : Int -> World -> Nat -> Prop, (∃ m : Nat, I_8 (0 : Int) w m) /\ ∀ (x8 : Int) (w1 : World) (m : Nat), I_8 x8 w1 m -> (
 Zz2 (decide (x8 < ((s0l : Nat) : Int))) (
 Zyx s0p s0l x8 fun a14 =>
 ldStr w1 ((a14.add (x8.toNat * 3))) fun x15_0 =>
 ldStr w1 (((a14.add (x8.toNat * 3)).add 1)) fun x15_1 =>
 ldStr w1 (((a14.add (x8.toNat * 3)).add 2)) fun x15_2 =>
 call [.string x15_0, .string x15_1, .string x15_2] w1 fun (r16 : Bool) (w2 : World) =>
 Zz2 r16 (
 J x8 w2) (
 ∃ m' : Nat, m' < m /\ I_8 (w64 (x8 + (1 : Int))) w2 m')) (
 J (-1 : Int) w1))
theorem Zq0 (L : List At) : Yee atc 3 L := fun _ _ => rfl
theorem YfI {call : List Value -> World -> (Bool -> World -> Prop) -> Prop} {p : Option Addr} {l : Nat} {L : List At} {q : At -> Bool} {J : Int -> World -> Prop} (h : Sl w p l 3 (rows atc L)) (hm : l <= 100000000)
    (hcall : ∀ x ∈ L, ∀ (w' : World) (K : Bool -> World -> Prop), Chg No w w' -> (∀ w'', Chg No w w'' -> K (q x) w'') -> call (atc x) w' K)
    (K : ∀ (r : Int) w', Chg No w w' -> (0 <= r ↔ L.any q = true) -> J r w') : YfJ call p l w J := by
  have hl := h.row (Zq0 L) (by decide)
  refine ⟨fun i w' t => ∃ k : Nat, i = k /\ k <= l /\ t = l - k /\ Chg No w w' /\ (L.take k).any q = false, ⟨_, 0, rfl, Nat.zero_le _, rfl, Chg.refl _ _, rfl⟩, ?_⟩
  rintro i w1 t ⟨k, rfl, hk, rfl, hc, hno⟩
  refine Zz6 (fun hlt => ?_) (fun hge => ?_)
  · refine Zzr (h.chg hc (off_no _)) (Zq0 L) (by decide) (by omega) hlt fun a x _ hx hcs => ?_
    rw [Int.toNat_natCast] at hx
    have hmem := List.mem_of_getElem? hx
    obtain ⟨g1, g2⟩ := List.getElem?_eq_some_iff.1 hx
    have htake : L.take (k + 1) = L.take k ++ [x] := by rw [List.take_succ_eq_append_getElem g1, g2]
    refine ldAttr hcs ?_
    refine hcall x hmem w1 _ hc fun w2 c2 => ?_
    refine Zz9 (fun hq => ?_) (fun hq => ?_)
    · exact K k w2 c2 ⟨fun _ => List.any_eq_true.2 ⟨_, hmem, hq⟩, fun _ => by omega⟩
    · refine ⟨_, by omega, k + 1, by rw [Zzt] <;> omega, by omega, rfl, c2, ?_⟩
      rw [htake, List.any_append, hno, List.any_cons, hq]; rfl
  · rw [List.take_of_length_le (by omega)] at hno
    exact K (-1) w1 hc ⟨fun h => by omega, fun h => by rw [hno] at h; cases h⟩
end
end Go.Vc
namespace Go.Proofs.YtlnfaaghdkngmaaGreatDoor
open Go Go.Vc Go.Lib
section
variable {w : World}
theorem YbC : Zy5 Tryz.prog Zz3 = ⟨[.int .i64 0, .string ByteArray.empty, .string ByteArray.empty, .slice none 0 0, .slice none 0 0, .string ByteArray.empty]⟩ := by kernel_rfl
theorem YcZ : SlT Tryz.prog Zzg Zz3 6 104 #[.int .i64 0, .string ByteArray.empty, .string ByteArray.empty, .slice none 0 0, .slice none 0 0, .string ByteArray.empty] := SlT.of (by kernel_rfl) (by kernel_rfl) rfl (by decide)
theorem Yfe {w0 : World} {S : Nat -> Prop} {Γ : List Blk} (H : Hp w0 S w Γ) {a : Addr} {k0 : Int} {u0 l0 t0 : ByteArray} {ap kp : Option Addr} {al ac kl kc : Nat} (hc : Zzn w a [.int .i64 k0, .string u0, .string l0, .slice ap al ac, .slice kp kl kc, .string t0])
  {K : Nat -> World -> Prop} (k : ∀ b w', Hp w0 S w' (⟨b, [.int .i64 k0, .string u0, .string l0, .slice ap al ac, .slice kp kl kc, .string t0], Zz3⟩ :: Γ) -> w.heap.size <= b -> Chg No w w' -> K b w') :
  ldI .i64 w a fun x0 => ldStr w (a.add 1) fun x1 => ldStr w (a.add 2) fun x2 => ldS w (a.add 3) fun p3 l3 c3 => ldS w (a.add 4) fun p4 l4 c4 => ldStr w (a.add 5) fun x5 =>
   newB w (.cells (Zy5 Tryz.prog Zz3) Zz3) fun b w1 => stN w1 ⟨b, 0, none⟩ ⟨[.int .i64 x0, .string x1, .string x2, .slice p3 l3 c3, .slice p4 l4 c4, .string x5]⟩ 6 fun w2 => K b w2 := by
 refine ldNode hc ?_
 rw [YbC]
 refine H.newB fun b w1 H1 hb hc1 => ?_
 refine H1.stN 0 rfl (off := 0) rfl (by simp) (Zy6 (.mk k0 u0 l0 t0 ap al ac [] kp kl kc [])) fun w2 H2 hc2 => ?_
 simp only [set_cons_zero] at H2
 exact k b w2 H2 hb (hc1.trans hc2 fun x hx e => by subst e; omega)
theorem Zx6 {w0 : World} {S : Nat -> Prop} {Γ : List Blk} (H : Hp w0 S w Γ) {cs : List Value} {e : TypeId} {K : Nat -> World -> Prop} (k : ∀ b w', Hp w0 S w' (⟨b, cs, e⟩ :: Γ) -> w.heap.size <= b -> Chg No w w' -> K b w') :
  newB w (.cells ⟨cs⟩ e) K := H.newB k
end
end Go.Proofs.YtlnfaaghdkngmaaGreatDoor
namespace Go.Vc
open Go Go.Lib
theorem ZzP (k : Int) (u l t : ByteArray) (ap : Option Addr) (al ac : Nat) (ats : List At) (kp : Option Addr) (kl kc : Nat) (ks : List NV) : (NV.mk k u l t ap al ac ats kp kl kc ks).nd = .mk k u l t ats (ks.map NV.nd) := by
 simp only [NV.nd, ndL_map]
def NV.kd : NV -> Int | .mk k _ _ _ _ _ _ _ _ _ _ _ => k
theorem Yff (v : NV) : v.nd.kind = v.kd := by cases v; rfl
end Go.Vc
namespace Go.Proofs.YtlnfaaghdkngmaaGreatDoor
open Go Go.Vc Go.Lib
section
variable {w : World}
theorem May_ok {p k : Int} {J : Bool -> World -> Prop} (K : J (mayK p k) w) : Zz1 Tryz.prog YbT #[.int .i64 p, .int .i64 k] w [.one .bool] J := by
 refine c_tree_may ?_
 have kT : mayK p k = true -> J true w := fun h => by rw [h] at K; exact K
 have kF : mayK p k = false -> J false w := fun h => by rw [h] at K; exact K
 have tT : ((p = 1 /\ (k = 2 \/ k = 4 \/ k = 5)) \/ (p = 2 /\ 2 <= k /\ k <= 5)) -> J true w := fun h => kT (decide_eq_true h)
 have tF : ¬ ((p = 1 /\ (k = 2 \/ k = 4 \/ k = 5)) \/ (p = 2 /\ 2 <= k /\ k <= 5)) -> J false w := fun h => kF (decide_eq_false h)
 refine Zzi (fun h1 => ?_) (fun h1 => ?_)
 ·simp only [Zzj]
  refine Zzi (fun h => tT (by omega)) (fun h2 => ?_)
  refine Zzi (fun h => tT (by omega)) (fun h3 => ?_)
  by_cases h4 : k = 5
  ·rw [beq_iff_eq.2 h4]; exact tT (by omega)
  ·rw [beq_eq_false_iff_ne.2 h4]; exact tF (by omega)
 ·refine Zzi (fun h2 => ?_) (fun h2 => tF (by omega))
  simp only [Zzj]
  refine Zz6 (fun h3 => ?_) (fun h3 => tF (by omega))
  by_cases h4 : k <= 5
  ·rw [decide_eq_true h4]; exact tT (by omega)
  ·rw [decide_eq_false h4]; exact tF (by omega)
theorem Odd1_ok {x : NV} {fv : Addr} {p : Int} {J : Bool -> World -> Prop} (hf : w.cell? fv = some (.int .i64 p)) (K : ∀ w', Chg No w w' -> J (!mayK p x.kd) w') : Zz1 Tryz.prog ZqQ #[.agg ⟨x.cells⟩, .pointer (some fv)] w [.one .bool] J := by
 cases x with
 | mk k u l t ap al ac ats kp kl kc ks =>
  refine c_tree_odd_1 ?_
  refine Zx6 (Hp.start w No) fun b w1 H1 hb hc1 => ?_
  refine Zyz (hc1.cell hf (fun h => h)) ?_
  refine H1.ldI 0 rfl (off := 0) rfl ?_
  exact May_ok (K w1 hc1)
theorem IdxOdd1_ok {p : Option Addr} {l c : Nat} {L : List NV} {fv : Addr} {pk : Int} {J : Bool -> World -> Prop} (h : Sl w p l 6 (rows NV.cells L)) (hm : l <= 100000000) (hf : w.cell? fv = some (.int .i64 pk)) (K : ∀ w', Chg No w w' -> J (L.any fun x => !mayK pk x.kd) w') :
  Zz1 Tryz.prog Zz0 #[.slice p l c, .func (.func 105) #[] #[.pointer (some fv)]] w [.one .bool] J := by
 refine ZyH ?_
 refine ZyY ?_
 show Yc5 (fun cs w' K => Zz1 Tryz.prog ZqQ #[.agg ⟨cs⟩, .pointer (some fv)] w' [.one .bool] K) p l w _
 refine ZqG (q := fun x => !mayK pk x.kd) h hm (fun x hx w' K' hc k => Odd1_ok (hc.cell hf (fun h => h)) fun w'' c2 => k w'' (hc.trans0 c2)) fun r w' hc hr => ?_
 by_cases h0 : 0 <= r
 ·have := hr.1 h0
  rw [decide_eq_true (show r >= 0 from h0), <- this]; exact K w' hc
 ·have : (L.any fun x => !mayK pk x.kd) = false := by rw [Bool.eq_false_iff]; exact fun h => h0 (hr.2 h)
  rw [decide_eq_false (show ¬ r >= 0 from h0), <- this]; exact K w' hc
theorem any_kids (k : Int) (u l t : ByteArray) (ats : List At) (ks : List NV) : ((Nd.mk k u l t ats (ks.map NV.nd)).kids.any fun x => !mayK (Nd.mk k u l t ats (ks.map NV.nd)).kind x.kind) = ks.any fun x => !mayK k x.kd := by
 show (ks.map NV.nd).any (fun x => !mayK k x.kind) = _
 rw [any_map]
 congr 1
 funext x
 show (!mayK k x.nd.kind) = _
 rw [Yff]
theorem Odd_ok {x : NV} {J : Bool -> World -> Prop} (hx : x.Ok w) (hm : x.mea <= 100000000) (K : ∀ w', Chg No w w' -> J (oddP x.nd) w') : Zz1 Tryz.prog Yb0 #[.agg ⟨x.cells⟩] w [.one .bool] J := by
 cases hx with
 | @mk k u l t ap al ac ats kp kl kc ks ha hn hac hk hkn hkc hks =>
  have hal := ha.row (Zq0 ats) (by decide)
  have hkl := hk.row (Zzl ks) (by decide)
  have hmm : kl <= 100000000 := by
   have := ZqO ks
   simp only [NV.mea] at hm; omega
  rw [ZzP] at K
  unfold oddP at K
  rw [any_kids] at K
  simp only [Nd.kind, Nd.uri, Nd.loc, Nd.text, Nd.attrs] at K
  refine c_tree_odd ?_
  refine Zx6 (Hp.start w No) fun b w1 H1 hb hc1 => ?_
  refine Zzb fun J3 hJ3 => ?_
  have k3 : ∀ (bad : Bool), bad = (decide (k ≠ 2) && decide (ats ≠ [])) -> J3 bad w1 := by
   intro bad hbad; subst hJ3
   refine Zzb fun J31 hJ31 => ?_
   have k31 : ∀ bad2 : Bool, bad2 = oddQ k u l t ats -> J31 bad2 w1 := by
    intro bad2 hb2; subst hJ31
    rw [<- hb2] at K
    simp only [Zzj]
    refine Zz9 (fun ht => ?_) (fun hf => ?_)
    ·rw [ht] at K; exact K w1 hc1
    ·rw [hf] at K
     refine H1.ldS 0 rfl (off := 4) rfl ?_
     refine IdxOdd1_ok (hk.chg hc1 (off_no _)) hmm (H1.cell 0 rfl rfl) fun w2 hc2 => ?_
     have := K w2 (hc1.trans0 hc2)
     rw [Bool.false_or] at this; exact this
   clear hJ31 K
   unfold oddQ at k31
   have eE : ByteArray.empty = Zzc := rfl
   refine H1.ldI 0 rfl (off := 0) rfl ?_
   refine Zzi (fun e1 => ?_) (fun e1 => ?_)
   ·rw [decide_eq_true (show k ≠ 2 by omega), Bool.true_and] at hbad
    refine Zz9 (fun ht => k31 _ (by rw [if_pos e1, <- hbad, ht]; rfl)) (fun hf => ?_)
    refine H1.ldStr 0 rfl (off := 1) rfl ?_
    refine H1.ldStr 0 rfl (off := 2) rfl ?_
    rw [if_pos e1, <- hbad, hf] at k31
    simp only [Ygs, eE, Bool.and_true]
    rw [show (decide (u = Zzc) && decide (l = Zzc)) = decide (u = Zzc /\ l = Zzc) from (Bool.decide_and _ _).symm]
    by_cases hul : u = Zzc /\ l = Zzc
    ·rw [decide_eq_true hul]
     refine Zz9 (fun h => by cases h) (fun _ => ?_)
     refine H1.ldStr 0 rfl (off := 5) rfl ?_
     refine k31 _ ?_
     rw [decide_eq_false (show ¬ ¬ (u = Zzc /\ l = Zzc) from fun h => h hul)]
     by_cases ht : t = Zzc
     ·simp [ht, Zzc]
     ·have : ¬ t = ⟨#[]⟩ := ht
      simp [ht, this]
    ·rw [decide_eq_false hul]
     refine Zz9 (fun _ => k31 _ (by rw [decide_eq_true hul]; rfl)) (fun h => by cases h)
   ·refine Zzi (fun e2 => ?_) (fun e2 => ?_)
    ·refine H1.ldStr 0 rfl (off := 5) rfl ?_
     refine k31 _ ?_
     rw [if_neg e1, if_pos e2, Ygs]
     by_cases ht : t = Zzc
     ·simp [ht, Zzc]
     ·have : ¬ t = ⟨#[]⟩ := ht
      simp [ht, this]
    ·rw [decide_eq_true (show k ≠ 2 from e2), Bool.true_and] at hbad
     rw [if_neg e1, if_neg e2] at k31
     refine Zzi (fun e5 => ?_) (fun e5 => ?_)
     ·rw [if_pos e5, <- hbad] at k31
      refine Zz9 (fun ht => k31 _ (by rw [ht]; rfl)) (fun hf => ?_)
      refine H1.ldStr 0 rfl (off := 1) rfl ?_
      refine k31 _ ?_
      rw [hf, Ygs]
      by_cases ht : u = Zzc
      ·simp [ht, Zzc]
      ·have : ¬ u = ⟨#[]⟩ := ht
       simp [ht, this]
     ·rw [if_neg e5, <- hbad] at k31
      refine Zz9 (fun ht => k31 _ (by rw [ht]; rfl)) (fun hf => ?_)
      refine H1.ldStr 0 rfl (off := 1) rfl ?_
      refine H1.ldStr 0 rfl (off := 2) rfl ?_
      refine k31 _ ?_
      rw [hf]
      simp only [Ygs, eE, Bool.and_true]
      rw [show (decide (u = Zzc) && decide (l = Zzc)) = decide (u = Zzc /\ l = Zzc) from (Bool.decide_and _ _).symm]
      by_cases hul : u = Zzc /\ l = Zzc
      ·rw [decide_eq_true hul, decide_eq_false (show ¬ ¬ (u = Zzc /\ l = Zzc) from fun h => h hul)]; rfl
      ·rw [decide_eq_false hul, decide_eq_true hul]; rfl
  clear hJ3 K
  refine H1.ldI 0 rfl (off := 0) rfl ?_
  refine Zzw (fun e2 => ?_) (fun e2 => ?_)
  ·refine H1.ldS 0 rfl (off := 3) rfl ?_
   refine k3 _ ?_
   rw [decide_eq_true (show k ≠ 2 from e2), Bool.true_and]
   by_cases h0 : ats = []
   ·have : al = 0 := by rw [<- hal, h0]; rfl
    rw [decide_eq_false (show ¬ ats ≠ [] from fun h => h h0), decide_eq_false (by omega)]
   ·have : 0 < ats.length := length_pos_iff.2 h0
    rw [decide_eq_true (show ats ≠ [] from h0), decide_eq_true (by omega)]
  ·exact k3 _ (by rw [decide_eq_false (fun h => h e2)]; rfl)
theorem Deep_ok : ∀ (x : NV) {w : World} {above : Int} {J : Bool -> World -> Prop}, x.Ok w -> x.mea <= 100000000 -> 0 <= above -> above <= 40 -> (∀ w', Chg No w w' -> J (deepN above x.nd) w') -> Zz1 Tryz.prog Yar #[.agg ⟨x.cells⟩, .int .i64 above] w [.one .bool] J := by
 intro x
 induction x using NV.ind with
 | h k u l t ap al ac ats kp kl kc ks ih =>
  intro w above J hx hm h0 h40 K
  cases hx with
  | mk ha hn hac hk hkn hkc hks =>
  have hkl := hk.row (Zzl ks) (by decide)
  have hmm : kl <= 100000000 := by
   have := ZqO ks
   simp only [NV.mea] at hm; omega
  have hkm : ∀ y ∈ ks, y.mea <= 100000000 := fun y hy => by
   have := YdG hy
   simp only [NV.mea] at hm; omega
  rw [ZzP] at K
  unfold deepN at K
  have hany : ∀ ab : Int, deepNL ab (ks.map NV.nd) = ks.any fun y => deepN ab y.nd := fun ab => by rw [deepNL_any, any_map]; rfl
  rw [hany, hany] at K
  refine c_tree_deep ?_
  refine Zx6 (Hp.start w No) fun b w1 H1 hb hc1 => ?_
  refine H1.newB fun b3 w2 H2 hb3 hc2 => ?_
  have c02 := hc1.trans0 hc2
  refine Zzb fun J0 hJ0 => ?_
  have k0 : ∀ (ab : Int) (w3 : World), 0 <= ab -> ab <= 40 -> Hp w No w3 [⟨b3, [.int .i64 ab], ZqJ⟩, ⟨b, [.int .i64 k, .string u, .string l, .slice ap al ac, .slice kp kl kc, .string t], Zz3⟩] -> (∀ w', Chg No w w' -> J (ks.any fun y => deepN ab y.nd) w') -> J0 w3 := by
   intro ab w3 g0 g40 H3 K3; subst hJ0
   have c03 := H3.chg
   refine H3.ldS 1 rfl (off := 4) rfl ?_
   have hcell := H3.cell 0 rfl (off := 0) rfl
   refine ZyG ?_
   refine ZyX ?_
   show Yc5 (fun cs w' K => Zz1 Tryz.prog Yaj #[.agg ⟨cs⟩, .pointer (some ⟨b3, 0, none⟩)] w' [.one .bool] K) kp kl w3 _
   refine ZqG (q := fun y => deepN ab y.nd) (hk.chg c03 (off_no _)) hmm (fun y hy w' K' hc kk => ?_) fun r w' hc hr => ?_
   ·have hy2 := (hks y hy).chg0 (c03.trans0 hc)
    have ihy := @ih y hy
    have hmy := hkm y hy
    cases y with
    | mk yk yu yl yt yap yal yac yas ykp ykl ykc yks =>
     refine c_tree_deep_1 ?_
     refine Zx6 (Hp.start w' No) fun b5 w5 H5 hb5 hc5 => ?_
     refine Zq8 H5 0 rfl ?_
     refine Zyz (hc5.cell (hc.cell hcell (fun h => h)) (fun h => h)) ?_
     exact ihy (hy2.chg0 hc5) hmy g0 g40 fun w6 hc6 => kk w6 ((hc.trans0 hc5).trans0 hc6)
   ·by_cases h0 : 0 <= r
    ·have := hr.1 h0
     rw [decide_eq_true (show r >= 0 from h0), <- this]; exact K3 w' (c03.trans0 hc)
    ·have : (ks.any fun y => deepN ab y.nd) = false := by rw [Bool.eq_false_iff]; exact fun h => h0 (hr.2 h)
     rw [decide_eq_false (show ¬ r >= 0 from h0), <- this]; exact K3 w' (c03.trans0 hc)
  clear hJ0
  refine H2.ldI 1 rfl (off := 0) rfl ?_
  refine Zzi (fun e2 => ?_) (fun e2 => ?_)
  ·rw [if_pos e2] at K
   refine H2.ldI 0 rfl (off := 0) rfl ?_
   refine Zz6 (fun hd => ?_) (fun hd => ?_)
   ·rw [if_pos hd] at K; exact K w2 c02
   ·rw [if_neg hd] at K
    refine H2.ldI 0 rfl (off := 0) rfl ?_
    rw [Zzt (by omega) (by omega)]
    refine H2.stV 0 rfl (off := 0) (by simp) fun w5 H5 hc5 => ?_
    simp only [set_cons_zero] at H5
    exact k0 (above + 1) w5 (by omega) (by omega) H5 K
  ·rw [if_neg e2] at K
   exact k0 above w2 h0 h40 H2 K
end
end Go.Proofs.YtlnfaaghdkngmaaGreatDoor
namespace Go.Proofs
open Go.Shelf
def Tryz.lays144_ren : Go.Shelf.Ren := ⟨fun | 144 => 115 | 143 => 153 | 219 => 149 | 217 => 81 | 225 => 215 | 224 => 216 | 267 => 217 | 266 => 150 | 314 => 267 | n => n, fun | 9 => 9 | 4 => 4 | 3 => 3 | 5 => 5 | 46 => 147 | 146 => 349 | 51 => 201 | n => n, fun | 1 => 2 | n => n⟩
theorem Tryz.lays144 : Go.Proofs.Lays.n144 Tryz.prog Tryz.lays144_ren where
 mixed := by kernel_rfl
 f143 := by kernel_rfl
 f144 := by kernel_rfl
 f217 := by kernel_rfl
 f219 := by kernel_rfl
 f224 := by kernel_rfl
 f225 := by kernel_rfl
 f266 := by kernel_rfl
 f267 := by kernel_rfl
 f314 := by kernel_rfl
 t3 := by kernel_rfl
 a3 := fun w => by kernel_rfl
 z3 := fun w => by kernel_rfl
 v3 := fun w => by kernel_rfl
 t4 := by kernel_rfl
 a4 := fun w => by kernel_rfl
 z4 := fun w => by kernel_rfl
 v4 := fun w => by kernel_rfl
 t5 := by kernel_rfl
 a5 := fun w => by kernel_rfl
 z5 := fun w => by kernel_rfl
 v5 := fun w => by kernel_rfl
 t9 := by kernel_rfl
 a9 := fun w => by kernel_rfl
 z9 := fun w => by kernel_rfl
 v9 := fun w => by kernel_rfl
 t46 := by kernel_rfl
 a46 := fun w => by kernel_rfl
 z46 := fun w => by kernel_rfl
 v46 := fun w => by kernel_rfl
 t51 := by kernel_rfl
 a51 := fun w => by kernel_rfl
 z51 := fun w => by kernel_rfl
 v51 := fun w => by kernel_rfl
 t146 := by kernel_rfl
 a146 := fun w => by kernel_rfl
 z146 := fun w => by kernel_rfl
 v146 := fun w => by kernel_rfl
 g1 := by kernel_rfl
def Tryz.lays161_ren : Go.Shelf.Ren := ⟨fun | 161 => 116 | 231 => 187 | 227 => 188 | 233 => 189 | 235 => 190 | 228 => 253 | 197 => 185 | 151 => 254 | 260 => 250 | 152 => 294 | 137 => 32 | 119 => 317 | 224 => 216 | 225 => 215 | 217 => 81 | 266 => 150 | n => n, fun | 9 => 9 | 4 => 4 | 3 => 3 | 5 => 5 | 117 => 241 | 116 => 240 | 0 => 0 | 124 => 244 | 105 => 235 | 21 => 21 | 119 => 271 | 46 => 147 | 139 => 274 | 138 => 273 | n => n, fun | 3 => 0 | 4 => 1 | n => n⟩
theorem Tryz.lays161 : Go.Proofs.Lays.n161 Tryz.prog Tryz.lays161_ren where
 mixed := by kernel_rfl
 f119 := by kernel_rfl
 f137 := by kernel_rfl
 f151 := by kernel_rfl
 f152 := by kernel_rfl
 f161 := by kernel_rfl
 f197 := by kernel_rfl
 f217 := by kernel_rfl
 f224 := by kernel_rfl
 f225 := by kernel_rfl
 f227 := by kernel_rfl
 f228 := by kernel_rfl
 f231 := by kernel_rfl
 f233 := by kernel_rfl
 f235 := by kernel_rfl
 f260 := by kernel_rfl
 f266 := by kernel_rfl
 t0 := by kernel_rfl
 a0 := fun w => by kernel_rfl
 z0 := fun w => by kernel_rfl
 v0 := fun w => by kernel_rfl
 t3 := by kernel_rfl
 a3 := fun w => by kernel_rfl
 z3 := fun w => by kernel_rfl
 v3 := fun w => by kernel_rfl
 t4 := by kernel_rfl
 a4 := fun w => by kernel_rfl
 z4 := fun w => by kernel_rfl
 v4 := fun w => by kernel_rfl
 t5 := by kernel_rfl
 a5 := fun w => by kernel_rfl
 z5 := fun w => by kernel_rfl
 v5 := fun w => by kernel_rfl
 t9 := by kernel_rfl
 a9 := fun w => by kernel_rfl
 z9 := fun w => by kernel_rfl
 v9 := fun w => by kernel_rfl
 t21 := by kernel_rfl
 a21 := fun w => by kernel_rfl
 z21 := fun w => by kernel_rfl
 v21 := fun w => by kernel_rfl
 t46 := by kernel_rfl
 a46 := fun w => by kernel_rfl
 z46 := fun w => by kernel_rfl
 v46 := fun w => by kernel_rfl
 t105 := by kernel_rfl
 a105 := fun w => by kernel_rfl
 z105 := fun w => by kernel_rfl
 v105 := fun w => by kernel_rfl
 t116 := by kernel_rfl
 a116 := fun w => by kernel_rfl
 z116 := fun w => by kernel_rfl
 t117 := by kernel_rfl
 a117 := fun w => by kernel_rfl
 z117 := fun w => by kernel_rfl
 v117 := fun w => by kernel_rfl
 t119 := by kernel_rfl
 a119 := fun w => by kernel_rfl
 z119 := fun w => by kernel_rfl
 t124 := by kernel_rfl
 a124 := fun w => by kernel_rfl
 z124 := fun w => by kernel_rfl
 v124 := fun w => by kernel_rfl
 t138 := by kernel_rfl
 a138 := fun w => by kernel_rfl
 z138 := fun w => by kernel_rfl
 v138 := fun w => by kernel_rfl
 t139 := by kernel_rfl
 a139 := fun w => by kernel_rfl
 z139 := fun w => by kernel_rfl
 v139 := fun w => by kernel_rfl
 g3 := by kernel_rfl
 g4 := by kernel_rfl
end Go.Proofs
namespace Go.Vc
open Go Go.Lib
theorem index_has (w : List UInt8) : ∀ l : List UInt8, (0 <= Lib.index l w ↔ hasS w l = true)
 | [] => by
  unfold Lib.index hasS
  cases w with
  | nil => simp
  | cons a w => simp [isPrefixOf]
 | b :: l => by
  have ih := index_has w l
  unfold Lib.index hasS
  cases h : w.isPrefixOf (b :: l) with
  | true => simp
  | false =>
   simp only [Bool.false_eq_true, if_false, Bool.false_or]
   rw [<- ih]
   split
   ·rename_i h1
    have : Lib.index l w = -1 := by simpa using h1
    omega
   ·rename_i h1
    have : Lib.index l w ≠ -1 := by simpa using h1
    constructor
    ·intro h2
     have := Lib.index_ge l w
     omega
    ·intro h2; omega
theorem contains_has (l w : List UInt8) : Lib.contains l w = hasS w l := by
 unfold Lib.contains
 rw [Bool.eq_iff_iff, decide_eq_true_eq, index_has]
theorem trim_same (l : List UInt8) : decide (l = Lib.trimLeftS l [32, 9, 10]) = decide (l.head? ≠ some 32 /\ l.head? ≠ some 9 /\ l.head? ≠ some 10) := by
 unfold Lib.trimLeftS
 rw [decide_eq_decide]
 cases l with
 | nil => simp
 | cons b l =>
  rw [dropWhile_cons]
  simp only [head?_cons, ne_eq, Option.some.injEq]
  constructor
  ·intro h
   split at h
   ·have h1 := congrArg length h
    have h2 := (dropWhile_suffix (l := l) (fun x => [32, 9, 10].contains x)).length_le
    simp only [length_cons] at h1
    omega
   ·rename_i hc
    simp at hc
    exact ⟨hc.1, hc.2.1, hc.2.2⟩
  ·intro h
   rw [if_neg (by simp; exact h)]
theorem low_case : ∀ (a : Fin 256), a.val < 128 -> ∀ x ∈ [(120 : UInt8), 109, 108],
  (((UInt8.ofNat a.val) = x) \/ ((if x.toNat < a.val then x.toNat else a.val) >= 65 /\ (if x.toNat < a.val then x.toNat else a.val) <= 90 /\ (if x.toNat < a.val then a.val else x.toNat) = (if x.toNat < a.val then x.toNat else a.val) + 32)) ↔ low3 (UInt8.ofNat a.val) = x := by decide +kernel
theorem or_big : ∀ (a : Fin 256), ∀ x ∈ [(120 : Int), 109, 108], bOr .u8 ((a.val : Nat) : Int) x >= 128 ↔ 128 <= a.val := by decide +kernel
theorem low3_big {a : UInt8} (h : 128 <= a.toNat) : low3 a = a := by unfold low3; rw [if_neg (by omega)]
end Go.Vc
namespace Go.Proofs.YtlnfaaghdkngmaaGreatDoor
open Go Go.Vc Go.Lib
def FoldTab (w : World) : Prop := ∀ p ∈ [(120, (88 : Int)), (88, 120), (109, 77), (77, 109), (108, 76), (76, 108)], w.cell? ⟨5, p.1, none⟩ = some (.int .u16 p.2)
structure TT (w : World) : Prop where
 tabs : YfG w
 fold : FoldTab w
 maxl : ∃ m : Int, w.cell? ⟨2, 0, none⟩ = some (.int .i64 m)
theorem TT.chg {w w' : World} (h : TT w) (hc : Chg No w w') : TT w' :=
 ⟨h.tabs.chg hc, fun p hp => hc.cell (h.fold p hp) (fun f => f), by obtain ⟨m, hm⟩ := h.maxl; exact ⟨m, hc.cell hm (fun f => f)⟩⟩
section
variable {w : World}
theorem Yc6 {s t : ByteArray} {J : Bool -> World -> Prop} (T : TT w) (hs : s.size <= 100000000) (K : J (hasS (bl t) (bl s)) w) : Zz1 Tryz.prog ZyA #[.string s, .string t] w [.one .bool] J := by
 obtain ⟨m, hm⟩ := T.maxl
 refine Calls.mono (Any.strings_Contains Tryz.lays144 s t m w (by omega) hm) fun e w' he => ?_
 obtain ⟨rfl, rfl⟩ := he
 rw [contains_has]
 exact ⟨_, rfl, K⟩
theorem HasSuffix_ok {s : ByteArray} {b : UInt8} {J : Bool -> World -> Prop} (hs : s.size <= 100000000) (K : J (decide ((bl s).getLast? = some b)) w) : Zz1 Tryz.prog Zxf #[.string s, .string ⟨#[b]⟩] w [.one .bool] J := by
 refine YdX ?_
 refine Ya6 ?_
 have hsl := ZzA s
 simp only [Zzj]
 refine Zz6 (fun h1 => ?_) (fun h1 => ?_)
 ·have e1 : (⟨#[b]⟩ : ByteArray).size = 1 := rfl
  rw [e1] at h1 ⊢
  have e2 : w64 ((s.size : Int) - ((1 : Nat) : Int)) = ((s.size - 1 : Nat) : Int) := by rw [Zzt] <;> omega
  rw [e2]
  refine Zyh (by omega) fun t ht _ => ?_
  rw [Ygs]
  have : decide (t = (⟨#[b]⟩ : ByteArray)) = decide ((bl s).getLast? = some b) := by
   rw [decide_eq_decide]
   have hne : bl s ≠ [] := by intro e; rw [e] at hsl; simp at hsl; omega
   have hd : (bl s).drop (s.size - 1) = [(bl s).getLast hne] := by
    have hdl : (bl s).dropLast ++ [(bl s).getLast hne] = bl s := dropLast_concat_getLast hne
    conv => lhs; rw [<- hdl]
    exact drop_left' (by rw [length_dropLast, hsl])
   rw [getLast?_eq_some_getLast hne, Option.some.injEq]
   constructor
   ·intro h
    rw [h, hd] at ht
    have : [b] = [(bl s).getLast hne] := ht
    simpa using this.symm
   ·intro h
    apply YfS
    rw [ht, hd, h]
  rw [this]; exact K
 ·have h0 : bl s = [] := eq_nil_of_length_eq_zero (by have : (⟨#[b]⟩ : ByteArray).size = 1 := rfl; omega)
  rw [h0] at K
  simpa using K
theorem TrimLeft_ok {s : ByteArray} {J : ByteArray -> World -> Prop} (K : ∀ w', Chg No w w' -> J (mkB (Lib.trimLeftS (bl s) [32, 9, 10])) w') : Zz1 Tryz.prog Yb1 #[.string s, .string ⟨#[32, 9, 10]⟩] w [.one .str] J := by
 refine Calls.mono (Any.strings_TrimLeft_laid Tryz.lays161 (by kernel_rfl) s ⟨#[32, 9, 10]⟩ w (by decide) (fun j b hb => ?_)) fun e w' he => ?_
 ·match j with
  | 0 | 1 | 2 => simp at hb; subst hb; decide
  | j + 3 => simp at hb
 ·obtain ⟨rfl, hb⟩ := he
  exact ⟨_, rfl, K w' (Chg.of_below hb)⟩
end
end Go.Proofs.YtlnfaaghdkngmaaGreatDoor
namespace Go.Vc
open Go Go.Lib
def xmlB : List UInt8 := [120, 109, 108]
theorem xml_mem {i : Nat} {x : UInt8} (h : xmlB[i]? = some x) : x ∈ [(120 : UInt8), 109, 108] := mem_of_getElem? h
theorem isXml_take {l : List UInt8} {i : Nat} {a x : UInt8} (ha : l[i]? = some a) (hx : xmlB[i]? = some x) (hne : low3 a ≠ x) : isXml l = false := by
 unfold isXml
 rw [decide_eq_false_iff_not]
 intro h
 have : (l.map low3)[i]? = some (low3 a) := by rw [getElem?_map, ha]; rfl
 rw [h] at this
 have h2 : ([120, 109, 108] : List UInt8)[i]? = some x := hx
 rw [h2] at this
 exact hne (Option.some.inj this).symm
theorem Yai {α : Type} {l : List α} {k : Nat} {c : α} (h : l[k]? = some c) : l.take (k + 1) = l.take k ++ [c] := by
  obtain ⟨h1, h2⟩ := List.getElem?_eq_some_iff.1 h
  rw [List.take_succ_eq_append_getElem h1, h2]
theorem dec_big {l : List UInt8} {a : UInt8} (h : l[0]? = some a) (ha : 128 <= a.toNat) : 128 <= (dec l).1 := by
 have hg := gB_of h
 rw [Yh2]
 split
 ·decide
 ·rename_i h0
  rcases rd_facts l with ⟨q, _⟩ | ⟨q, q2⟩ | q | q | q
  ·exact absurd q h0
  ·omega
  ·exact q.2.2.2.2.2.1
  ·omega
  ·omega
theorem small_case : ∀ x ∈ [(120 : UInt8), 109, 108], x.toNat < 128 /\ 91 <= x.toNat := by decide
end Go.Vc
namespace Go.Proofs.YtlnfaaghdkngmaaGreatDoor
open Go Go.Vc Go.Lib
section
variable {w : World}
theorem Fold_ok {r : Nat} {v : Int} {J : Int -> World -> Prop} (hr : r < 128) (hc : w.cell? ⟨5, r, none⟩ = some (.int .u16 v)) (hv : 0 <= v /\ v < 128) (K : J v w) : Zz1 Tryz.prog ZyR #[.int .i32 (r : Int)] w [.one (.int .i32)] J := by
 refine Ydn ?_
 generalize hQ : (1114111 : Int) = Q
 refine Zzb fun J13 hJ13 => ?_
 have k : ∀ b, b = false -> J13 b w := by
  intro b hb; subst hJ13; subst hb
  have e64 : w64 (r : Int) = (r : Int) := Zzt (by omega) (by omega)
  have e128 : decide ((r : Int) < 128) = true := decide_eq_true (by omega)
  simp only [e64, e128, Zz2]
  refine ⟨by omega, by omega, ?_⟩
  simp only [Zyp, Addr.add_mk, Int.toNat_natCast, Nat.mul_one, Nat.zero_add]
  refine Zyz hc ?_
  rw [wrap_i32 _ (by omega) (by omega)]
  exact K
 clear hJ13
 refine Zz6 (fun h => by omega) (fun _ => ?_)
 exact k _ (decide_eq_false (by omega))
set_option maxRecDepth 100000 in
theorem EqFold_ok {s : ByteArray} {J : Bool -> World -> Prop} (F : FoldTab w) (hs : s.size <= 140737488355328) (K : ∀ w', Chg No w w' -> J (isXml (bl s)) w') : Zz1 Tryz.prog Zq9 #[.string s, .string ⟨#[120, 109, 108]⟩] w [.one .bool] J := by
 refine YdY ?_
 have hsl := ZzA s
 have ht3 : (⟨#[120, 109, 108]⟩ : ByteArray).size = 3 := rfl
 have htb : bl ⟨#[120, 109, 108]⟩ = xmlB := rfl
 rw [ht3]
 refine ⟨fun i w' t => ∃ k : Nat, i = k /\ k <= s.size /\ k <= 3 /\ t = 3 - k /\ w' = w /\ ((bl s).take k).map low3 = xmlB.take k, ⟨_, 0, rfl, Nat.zero_le _, Nat.zero_le _, rfl, rfl, rfl⟩, ?_⟩
 rintro i w1 t ⟨k, rfl, hk, hk3, rfl, rfl, hpre⟩
 refine Zz6 (fun hlt => ?_) (fun hge => ?_)
 ·have hks : k < s.size := by split at hlt <;> omega
  have hk3' : k < 3 := by split at hlt <;> omega
  have ha := getElem?_eq_getElem (l := bl s) (i := k) (by omega)
  generalize (bl s)[k]'(by omega) = a at ha
  have hx := getElem?_eq_getElem (l := xmlB) (i := k) (by show k < 3; exact hk3')
  generalize xmlB[k]'(by show k < 3; exact hk3') = x at hx
  have hxm := xml_mem hx
  have hxs := small_case x hxm
  have hal := a.toNat_lt
  refine Zzb fun J0 hJ0 => ?_
  have k0 : low3 a = x -> J0 w1 := by
   intro he; subst hJ0
   refine ⟨_, by omega, k + 1, by rw [Zzt] <;> omega, by omega, by omega, rfl, rfl, ?_⟩
   rw [Yai ha, Yai hx, map_append, hpre, map_cons, he]; rfl
  clear hJ0
  refine ZqP (by omega) (by omega) fun a2 ha2 => ?_
  rw [Int.toNat_natCast, ha] at ha2
  obtain rfl := Option.some.inj ha2
  refine ZqP (by omega) (by rw [ht3]; omega) fun x2 hx2 => ?_
  rw [Int.toNat_natCast, htb, hx] at hx2
  obtain rfl := Option.some.inj hx2
  have hor : bOr .u8 ((a.toNat : Nat) : Int) ((x.toNat : Nat) : Int) >= 128 ↔ 128 <= a.toNat := or_big ⟨a.toNat, hal⟩ ((x.toNat : Nat) : Int) (by
   have : ∀ x ∈ [(120 : UInt8), 109, 108], ((x.toNat : Nat) : Int) ∈ [(120 : Int), 109, 108] := by decide
   exact this x hxm)
  have hof : UInt8.ofNat a.toNat = a := by simp
  refine Zz6 (fun hbig => ?_) (fun hsmall => ?_)
  ·have h128 := hor.1 hbig
   have hfalse : isXml (bl s) = false := isXml_take ha hx (by
    rw [low3_big h128]; intro e; subst e; omega)
   rw [hfalse] at K
   refine Zyh (by omega) fun s62 h62 hz62 => ?_
   refine Zyh (by rw [ht3]; omega) fun s65 h65 hz65 => ?_
   refine newB_i fun b67 w3 hb67 hw3 => ?_
   have hc3 : Chg No w1 w3 := by rw [hw3]; exact Yb8 _ _
   have hh3 : w3.heap[b67]? = some (.stringIter s62 0) := by rw [hb67, hw3]; exact heap_alloc_new w1 _
   refine ⟨fun t w' m => t = s65 /\ w' = w3, ⟨0, rfl, rfl⟩, ?_⟩
   rintro t1 w4 m1 ⟨rfl, rfl⟩
   refine ⟨s62, 0, hh3, fun hlt2 => ?_, fun hge2 => by omega⟩
   generalize hw5 : setBlk w4 b67 _ = w5
   have hc5 : Chg No w1 w5 := by rw [<- hw5]; exact hc3.setBlk _ _ (fun h => by rw [hb67] at h; omega)
   have hdec : (Utf8.decode s62 0).1 = ((dec (bl s62)).1 : Int) /\ 128 <= (dec (bl s62)).1 := by
    refine ⟨by rw [decode_dec, drop_zero], dec_big (a := a) ?_ h128⟩
    rw [h62, getElem?_drop]; exact ha
   rw [hdec.1]
   generalize hch : (dec (bl s62)).1 = ch at hdec ⊢
   have hch2 := hdec.2
   have hz : t1.size = 3 - k := by rw [hz65, ht3]
   refine Zzi (fun h => by omega) (fun _ => ?_)
   have ht0 : (bl t1)[0]? = some x := by
    rw [h65, getElem?_drop, htb, Nat.add_zero]; exact hx
   refine ZyW ?_
   refine Zzb fun J10 hJ10 => ?_
   have k10 : J10 true w5 := by
    subst hJ10
    refine Zz9 (fun _ => ?_) (fun h => by cases h)
    refine ZqP (by decide) (by omega) fun y hy => ?_
    rw [show (0 : Int).toNat = 0 from rfl, ht0] at hy
    obtain rfl := Option.some.inj hy
    rw [wrap_i32 _ (by omega) (by omega)]
    refine Zyh (i := 1) (by omega) fun s81 h81 hz81 => ?_
    refine Zzi (fun h => by omega) (fun _ => ?_)
    refine Zzb fun J10 hJ10 => ?_
    have kk : J10 ((x.toNat : Nat) : Int) (ch : Int) w5 := by
     subst hJ10
     refine Zz6 (fun h => by omega) (fun _ => ?_)
     have hF : ∃ y : Nat, y < 128 /\ y ≠ x.toNat /\ w5.cell? ⟨5, x.toNat, none⟩ = some (.int .u16 (y : Int)) /\ w5.cell? ⟨5, y, none⟩ = some (.int .u16 (x.toNat : Int)) := by
      have g : ∀ p ∈ [(120, (88 : Int)), (88, 120), (109, 77), (77, 109), (108, 76), (76, 108)], w5.cell? ⟨5, p.1, none⟩ = some (.int .u16 p.2) := fun p hp => hc5.cell (F p hp) (fun f => f)
      simp only [mem_cons, not_mem_nil, or_false] at hxm
      rcases hxm with rfl | rfl | rfl
      ·exact ⟨88, by decide, by decide, g (120, 88) (by simp), g (88, 120) (by simp)⟩
      ·exact ⟨77, by decide, by decide, g (109, 77) (by simp), g (77, 109) (by simp)⟩
      ·exact ⟨76, by decide, by decide, g (108, 76) (by simp), g (76, 108) (by simp)⟩
     obtain ⟨y, hy1, hy2, hy3, hy4⟩ := hF
     refine Fold_ok (r := x.toNat) hxs.1 hy3 (by omega) ?_
     refine ⟨fun r w' m => w' = w5 /\ ((r = (y : Int) /\ m = 1) \/ (r = (x.toNat : Int) /\ m = 0)), ⟨1, rfl, .inl ⟨rfl, rfl⟩⟩, ?_⟩
     rintro r w6 m2 ⟨rfl, hr⟩
     refine Zzb fun J114 hJ114 => ?_
     rcases hr with ⟨rfl, rfl⟩ | ⟨rfl, rfl⟩
     ·have : J114 true w6 := by
       subst hJ114
       refine Zz9 (fun _ => ?_) (fun h => by cases h)
       exact Fold_ok (r := y) hy1 hy4 (by omega) ⟨0, by decide, rfl, .inr ⟨rfl, rfl⟩⟩
      clear hJ114
      refine Zzw (fun _ => ?_) (fun h => by omega)
      rw [decide_eq_true (by omega)]; exact this
     ·have : J114 false w6 := by
       subst hJ114
       refine Zz9 (fun h => by cases h) (fun _ => ?_)
       refine Zzi (fun h => by omega) (fun _ => ?_)
       exact K w6 hc5
      clear hJ114
      exact Zzw (fun h => absurd rfl h) (fun _ => this)
    clear hJ10
    exact Zz6 (fun _ => kk) (fun h => by omega)
   clear hJ10
   rw [Ygs]
   have hne : ¬ t1 = ⟨#[]⟩ := by
    intro e
    have : t1.size = 0 := by rw [e]; rfl
    omega
   rw [decide_eq_false hne]
   refine Zz9 (fun _ => ?_) (fun h => by cases h)
   refine ZqP (by decide) (by omega) fun y hy => ?_
   rw [show (0 : Int).toNat = 0 from rfl, ht0] at hy
   obtain rfl := Option.some.inj hy
   rw [decide_eq_true (by omega)]
   exact k10
  ·have h128 : a.toNat < 128 := by
    rcases Nat.lt_or_ge a.toNat 128 with h | h
    ·exact h
    ·exact absurd (hor.2 h) hsmall
   have hcase := low_case ⟨a.toNat, hal⟩ h128 x hxm
   simp only [hof] at hcase
   have kbad : low3 a ≠ x -> J false w1 := fun hne => by
    have := isXml_take ha hx hne
    rw [this] at K; exact K w1 (Chg.refl _ _)
   refine Zzi (fun he => ?_) (fun hne => ?_)
   ·have : a = x := UInt8.toNat_inj.1 (by omega)
    exact k0 (hcase.1 (.inl this))
   ·have hne' : a ≠ x := fun e => hne (by rw [e])
    refine Zzb fun J7 hJ7 => ?_
    have k7 : ∀ sr tr : Nat, sr < 128 -> tr < 128 -> ((sr >= 65 /\ sr <= 90 /\ tr = sr + 32) ↔ low3 a = x) -> J7 (sr : Int) (tr : Int) w1 := by
     intro sr tr h1 h2 hiff; subst hJ7
     have e : IntKind.u8.wrap ((IntKind.u8.wrap ((sr : Int) + 97)) - 65) = ((sr + 32 : Nat) : Int) := by
      have e1 : IntKind.u8.wrap ((sr : Int) + 97) = ((sr + 97 : Nat) : Int) := by simp [IntKind.wrap, IntKind.bits, IntKind.signed] <;> omega
      rw [e1]; simp [IntKind.wrap, IntKind.bits, IntKind.signed] <;> omega
     refine Zzb fun J54 hJ54 => ?_
     have k54 : ∀ b : Bool, (b = true ↔ low3 a = x) -> J54 b w1 := by
      intro b hb; subst hJ54
      exact meetI hb (fun h => k0 h) (fun h => kbad h)
     clear hJ54
     refine Zz6 (fun g1 => ?_) (fun g1 => k54 _ (bF (by rw [<- hiff]; omega)))
     refine Zz6 (fun g2 => ?_) (fun g2 => k54 _ (bF (by rw [<- hiff]; omega)))
     rw [e]
     exact k54 _ (bQ (by rw [<- hiff]; omega))
    clear hJ7
    refine Zz6 (fun h => ?_) (fun h => ?_)
    ·refine k7 _ _ hxs.1 h128 ?_
     rw [<- hcase, if_pos (by omega), if_pos (by omega)]
     exact ⟨fun h => .inr h, fun h => h.resolve_left hne'⟩
    ·refine k7 _ _ h128 hxs.1 ?_
     rw [<- hcase, if_neg (by omega), if_neg (by omega)]
     exact ⟨fun h => .inr h, fun h => h.resolve_left hne'⟩
 ·have := K w1 (Chg.refl _ _)
  have hx : isXml (bl s) = ((s.size : Int) == ((3 : Nat) : Int)) := by
   unfold isXml
   by_cases h3 : s.size = 3
   ·have hk : k = 3 := by rw [h3] at hge; simp at hge; omega
    subst hk
    rw [take_of_length_le (by omega), take_of_length_le (by decide)] at hpre
    rw [decide_eq_true (show (bl s).map low3 = [120, 109, 108] from hpre), h3]; rfl
   ·rw [decide_eq_false (fun h => h3 (by have := congrArg length h; rw [length_map, hsl] at this; exact this)), beq_eq_false_iff_ne.2 (by omega)]
  rw [hx] at this
  exact this
end
end Go.Proofs.YtlnfaaghdkngmaaGreatDoor
namespace Go.Vc
open Go Go.Lib
theorem YeO {α : Type} {l : List α} {q : α -> Bool} {r : Int} (hr : 0 <= r ↔ l.any q = true) : decide (r >= 0) = l.any q := by
 rw [Bool.eq_iff_iff, decide_eq_true_eq]; exact hr
theorem not_all {α : Type} (l : List α) (q : α -> Bool) : (l.any fun x => !q x) = !l.all q := by
 rw [not_all_eq_any_not]
end Go.Vc
namespace Go.Proofs.YtlnfaaghdkngmaaGreatDoor
open Go Go.Vc Go.Lib
section
variable {w : World}
theorem AnyAttr_great {p : Option Addr} {l c : Nat} {L : List At} {J : Bool -> World -> Prop} (h : Sl w p l 3 (rows atc L)) (hm : l <= 100000000) (K : ∀ w', Chg No w w' -> J (L.any fun a => decide (8192 < a.2.2.size)) w') :
  Zz1 Tryz.prog Zz8 #[.slice p l c, .func (.func 108) #[] #[]] w [.one .bool] J := by
 refine ZyO ?_
 refine Zxd ?_
 show YfJ (fun cs w' K => Zz1 Tryz.prog ZqR #[.agg ⟨cs⟩] w' [.one .bool] K) p l w _
 refine YfI (q := fun a => decide (8192 < a.2.2.size)) h hm (fun x hx w' K' hc k => ?_) fun r w' hc hr => by rw [YeO hr]; exact K w' hc
 refine c_tree_great_1 ?_
 refine Zx6 (Hp.start w' No) fun b w1 H1 hb hc1 => ?_
 refine H1.ldStr 0 rfl (off := 2) rfl ?_
 rw [show decide ((x.2.2.size : Int) > 8192) = decide (8192 < x.2.2.size) from decide_eq_decide.2 (by omega)]
 exact k w1 (hc.trans0 hc1)
theorem Great_ok {x : NV} {J : Bool -> World -> Prop} (hx : x.Ok w) (hm : x.mea <= 100000000) (K : ∀ w', Chg No w w' -> J (Yew x.nd) w') : Zz1 Tryz.prog ZqS #[.agg ⟨x.cells⟩] w [.one .bool] J := by
 cases hx with
 | @mk k u l t ap al ac ats kp kl kc ks ha hn hac hk hkn hkc hks =>
  have hal := ha.row (Zq0 ats) (by decide)
  have hmm : al <= 100000000 := by
   have := Zqg ats
   simp only [NV.mea] at hm; omega
  have hg : Yew (NV.mk k u l t ap al ac ats kp kl kc ks).nd = (decide (64 < ats.length) || decide (8192 < t.size) || ats.any (fun a => decide (8192 < a.2.2.size))) := rfl
  rw [hg] at K
  refine c_tree_great ?_
  refine Zx6 (Hp.start w No) fun b w1 H1 hb hc1 => ?_
  simp only [Zzj]
  refine H1.ldS 0 rfl (off := 3) rfl ?_
  refine Zz6 (fun h1 => ?_) (fun h1 => ?_)
  ·rw [decide_eq_true (show 64 < ats.length by omega)] at K; exact K w1 hc1
  rw [decide_eq_false (show ¬ 64 < ats.length by omega)] at K
  refine H1.ldStr 0 rfl (off := 5) rfl ?_
  refine Zz6 (fun h2 => ?_) (fun h2 => ?_)
  ·rw [decide_eq_true (show 8192 < t.size by omega)] at K; exact K w1 hc1
  rw [decide_eq_false (show ¬ 8192 < t.size by omega)] at K
  refine H1.ldS 0 rfl (off := 3) rfl ?_
  exact AnyAttr_great (ha.chg hc1 (off_no _)) hmm fun w2 hc2 => K w2 (hc1.trans0 hc2)
theorem cvBe {s : ByteArray} {K : Option Addr -> Nat -> Nat -> World -> Prop} (k : ∀ b c w', Bytes w' (some ⟨b, 0, none⟩) s.size (bl s) -> s.size <= c -> Chg No w w' -> K (some ⟨b, 0, none⟩) s.size c w') :
    cvJ Tryz.prog ZxC Yd9 (.string s) w K := by
  refine ⟨_, _, _, _, Lib.run_convert_string_bytes (P := Tryz.prog) w ZxC Yd9 Yec s (u := .string) (by kernel_rfl) (by kernel_rfl) (by kernel_rfl), k _ _ _ ⟨by rw [Zq3, ZzA, Nat.mul_one], .inr ⟨_, rfl, ?_⟩⟩ (grownCap_ge _ _ _ _) ?_⟩
  · intro j v hv
    unfold bcells at hv
    rw [List.getElem?_map, Option.map_eq_some_iff] at hv
    obtain ⟨b, hb, rfl⟩ := hv
    have hj : j < s.size := by rw [<- ZzA]; exact (List.getElem?_eq_some_iff.1 hb).1
    have := Lib.bytesWorld_cell w Yec s j hj
    rw [Addr.add_mk, Nat.zero_add, this, List.getD_eq_getElem?_getD, hb]; rfl
  · exact ⟨rfl, rfl, rfl, by rw [Lib.bytesWorld_size]; omega, fun b hb _ => Lib.bytesWorld_at_old w Yec s b hb⟩
theorem Bad_ok {s : ByteArray} {J : Bool -> World -> Prop} (T : YfG w) (hs : s.size <= 100000000) (K : ∀ w', Chg No w w' -> J (!fineB s) w') : Zz1 Tryz.prog Yaa #[.string s] w [.one .bool] J := by
 refine c_tree_bad ?_
 refine cvBe fun b c w1 hB hle hc1 => ?_
 refine FaultC_ok hB hle (by omega) (T.chg hc1) fun w2 hc2 => ?_
 have e : ((((flt 0 (bl s)).2 : Nat) : Int) != 0) = !fineB s := by
  unfold fineB
  by_cases h : (flt 0 (bl s)).2 = 0
  ·rw [h]; rfl
  ·rw [decide_eq_false h, bne_iff_ne.2 (by omega)]; rfl
 rw [e]
 exact K w2 (hc1.trans0 hc2)
theorem YfU {n : Pr} {J : Bool -> World -> Prop} (T : YfG w) (h1 : n.1.size <= 100000000) (h2 : n.2.size <= 100000000) (K : ∀ w', Chg No w w' -> J (!Yfs n) w') : Zz1 Tryz.prog Zxh #[.agg ⟨pr n⟩] w [.one .bool] J := by
 refine Yg4 ?_
 refine Zx6 (Hp.start w No) fun b w1 H1 hb hc1 => ?_
 simp only [Zzj]
 refine H1.ldStr 0 rfl (off := 1) rfl ?_
 refine NameC_ok (T.chg hc1) fun w2 hc2 => ?_
 have c02 := hc1.trans0 hc2
 unfold Yfs at K
 refine Zzx (fun hn => ?_) (fun hn => ?_)
 ·rw [hn] at K; exact K w2 c02
 rw [hn, Bool.true_and] at K
 have H2 := H1.step0 hc2
 refine H2.ldStr 0 rfl (off := 0) rfl ?_
 refine Zz6 (fun h => ?_) (fun h => ?_)
 ·rw [decide_eq_false (show ¬ n.1.size <= 100 by omega)] at K; exact K w2 c02
 rw [decide_eq_true (show n.1.size <= 100 by omega), Bool.true_and] at K
 refine H2.ldStr 0 rfl (off := 0) rfl ?_
 refine Bad_ok (T.chg c02) h1 fun w3 hc3 => ?_
 have c03 := c02.trans0 hc3
 refine Zzx (fun hf => ?_) (fun hf => ?_)
 ·rw [hf] at K; exact K w3 c03
 rw [hf, Bool.true_and] at K
 refine (H2.step0 hc3).ldStr 0 rfl (off := 0) rfl ?_
 rw [Ygs]
 have := K w3 c03
 rw [show (!decide (n.1 ≠ kXMLNS)) = decide (n.1 = kXMLNS) from by by_cases h : n.1 = kXMLNS <;> simp [h]] at this
 exact this
theorem AnyAttr_mis {p : Option Addr} {l c : Nat} {L : List At} {J : Bool -> World -> Prop} (T : YfG w) (h : Sl w p l 3 (rows atc L)) (hm : l <= 100000000) (hz : ∀ a ∈ L, ZxJ a <= 100000000) (K : ∀ w', Chg No w w' -> J (!L.all attrN) w') :
  Zz1 Tryz.prog Zz8 #[.slice p l c, .func (.func 110) #[] #[]] w [.one .bool] J := by
 refine ZyN ?_
 refine Zxc ?_
 show YfJ (fun cs w' K => Zz1 Tryz.prog ZxI #[.agg ⟨cs⟩] w' [.one .bool] K) p l w _
 rw [<- not_all] at K
 refine YfI (q := fun a => !attrN a) h hm (fun x hx w' K' hc k => ?_) fun r w' hc hr => by rw [YeO hr]; exact K w' hc
 have hzx := hz x hx
 unfold ZxJ at hzx
 refine Yft ?_
 refine Zx6 (Hp.start w' No) fun b w1 H1 hb hc1 => ?_
 simp only [Zzj]
 refine H1.ldStr 0 rfl (off := 0) rfl ?_
 refine H1.ldStr 0 rfl (off := 1) rfl ?_
 refine YfU (n := (x.1, x.2.1)) ((T.chg hc).chg hc1) (by simp only; omega) (by simp only; omega) fun w2 hc2 => ?_
 have c2 := (hc.trans0 hc1).trans0 hc2
 unfold attrN nameOf at k
 refine Zzx (fun hf => ?_) (fun hf => ?_)
 ·rw [hf] at k; exact k w2 c2
 rw [hf, Bool.true_and] at k
 have H2 := H1.step0 hc2
 refine H2.ldStr 0 rfl (off := 0) rfl ?_
 refine H2.ldStr 0 rfl (off := 1) rfl ?_
 have := k w2 c2
 rw [Bool.not_not] at this
 simp only [Ygs, Bool.and_true]
 rw [show (decide (x.1 = ByteArray.empty) && decide (x.2.1 = ⟨#[120, 109, 108, 110, 115]⟩)) = decide (x.1 = Zzc /\ x.2.1 = kXn) from (Bool.decide_and _ _).symm]
 exact this
theorem Misnamed_ok {x : NV} {J : Bool -> World -> Prop} (T : TT w) (hx : x.Ok w) (hm : x.mea <= 100000000) (K : ∀ w', Chg No w w' -> J (!nameP x.nd) w') : Zz1 Tryz.prog ZxE #[.agg ⟨x.cells⟩] w [.one .bool] J := by
 cases hx with
 | @mk k u l t ap al ac ats kp kl kc ks ha hn hac hk hkn hkc hks =>
  have hal := ha.row (Zq0 ats) (by decide)
  have hmm : al <= 100000000 := by
   have := Zqg ats
   simp only [NV.mea] at hm; omega
  have hz : ∀ a ∈ ats, ZxJ a <= 100000000 := fun a h => by
   have := YgN ZxJ h
   simp only [NV.mea] at hm; omega
  have hu : u.size <= 100000000 /\ l.size <= 100000000 := by simp only [NV.mea] at hm; omega
  have hg : nameP (NV.mk k u l t ap al ac ats kp kl kc ks).nd = (if k = 2 then Yfs (u, l) && ats.all attrN else if k = 5 then nm (bl l) && !isXml (bl l) else true) := rfl
  rw [hg] at K
  refine Yh7 ?_
  refine Zx6 (Hp.start w No) fun b w1 H1 hb hc1 => ?_
  refine H1.ldI 0 rfl (off := 0) rfl ?_
  refine Zzi (fun e2 => ?_) (fun e2 => ?_)
  ·rw [if_pos e2] at K
   simp only [Zzj]
   refine H1.ldStr 0 rfl (off := 1) rfl ?_
   refine H1.ldStr 0 rfl (off := 2) rfl ?_
   refine YfU (n := (u, l)) (T.tabs.chg hc1) hu.1 hu.2 fun w2 hc2 => ?_
   have c2 := hc1.trans0 hc2
   refine Zzx (fun hf => ?_) (fun hf => ?_)
   ·rw [hf] at K; exact K w2 c2
   rw [hf, Bool.true_and] at K
   refine (H1.step0 hc2).ldS 0 rfl (off := 3) rfl ?_
   exact AnyAttr_mis (T.tabs.chg c2) (ha.chg c2 (off_no _)) hmm hz fun w3 hc3 => K w3 (c2.trans0 hc3)
  ·rw [if_neg e2] at K
   refine Zzi (fun e5 => ?_) (fun e5 => ?_)
   ·rw [if_pos e5] at K
    simp only [Zzj]
    refine H1.ldStr 0 rfl (off := 2) rfl ?_
    refine NameC_ok (T.tabs.chg hc1) fun w2 hc2 => ?_
    have c2 := hc1.trans0 hc2
    refine Zzx (fun hf => ?_) (fun hf => ?_)
    ·rw [hf] at K; exact K w2 c2
    rw [hf, Bool.true_and, Bool.not_not] at K
    refine (H1.step0 hc2).ldStr 0 rfl (off := 2) rfl ?_
    exact EqFold_ok (T.chg c2).fold (by omega) fun w3 hc3 => K w3 (c2.trans0 hc3)
   ·rw [if_neg e5] at K; exact K w1 hc1
theorem AnyAttr_spo {p : Option Addr} {l c : Nat} {L : List At} {J : Bool -> World -> Prop} (T : YfG w) (h : Sl w p l 3 (rows atc L)) (hm : l <= 100000000) (hz : ∀ a ∈ L, ZxJ a <= 100000000) (K : ∀ w', Chg No w w' -> J (!L.all fun a => fineB a.2.2) w') :
  Zz1 Tryz.prog Zz8 #[.slice p l c, .func (.func 114) #[] #[]] w [.one .bool] J := by
 refine ZyM ?_
 refine Zxb ?_
 show YfJ (fun cs w' K => Zz1 Tryz.prog Zqs #[.agg ⟨cs⟩] w' [.one .bool] K) p l w _
 rw [<- not_all] at K
 refine YfI (q := fun a => !fineB a.2.2) h hm (fun x hx w' K' hc k => ?_) fun r w' hc hr => by rw [YeO hr]; exact K w' hc
 have hzx := hz x hx
 unfold ZxJ at hzx
 refine Yh6 ?_
 refine Zx6 (Hp.start w' No) fun b w1 H1 hb hc1 => ?_
 refine H1.ldStr 0 rfl (off := 2) rfl ?_
 exact Bad_ok ((T.chg hc).chg hc1) (by omega) fun w2 hc2 => k w2 ((hc.trans0 hc1).trans0 hc2)
theorem Spoilt_ok {x : NV} {J : Bool -> World -> Prop} (T : TT w) (hx : x.Ok w) (hm : x.mea <= 100000000) (K : ∀ w', Chg No w w' -> J (!Yh5 x.nd) w') : Zz1 Tryz.prog Zqh #[.agg ⟨x.cells⟩] w [.one .bool] J := by
 cases hx with
 | @mk k u l t ap al ac ats kp kl kc ks ha hn hac hk hkn hkc hks =>
  have hal := ha.row (Zq0 ats) (by decide)
  have hmm : al <= 100000000 := by
   have := Zqg ats
   simp only [NV.mea] at hm; omega
  have hz : ∀ a ∈ ats, ZxJ a <= 100000000 := fun a h => by
   have := YgN ZxJ h
   simp only [NV.mea] at hm; omega
  have ht : t.size <= 100000000 := by simp only [NV.mea] at hm; omega
  have hg : Yh5 (NV.mk k u l t ap al ac ats kp kl kc ks).nd = (fineB t && ats.all fun a => fineB a.2.2) := rfl
  rw [hg] at K
  refine c_tree_spoilt ?_
  refine Zx6 (Hp.start w No) fun b w1 H1 hb hc1 => ?_
  simp only [Zzj]
  refine H1.ldStr 0 rfl (off := 5) rfl ?_
  refine Bad_ok (T.tabs.chg hc1) ht fun w2 hc2 => ?_
  have c2 := hc1.trans0 hc2
  refine Zzx (fun hf => ?_) (fun hf => ?_)
  ·rw [hf] at K; exact K w2 c2
  rw [hf, Bool.true_and] at K
  refine (H1.step0 hc2).ldS 0 rfl (off := 3) rfl ?_
  exact AnyAttr_spo (T.tabs.chg c2) (ha.chg c2 (off_no _)) hmm hz fun w3 hc3 => K w3 (c2.trans0 hc3)
end
end Go.Proofs.YtlnfaaghdkngmaaGreatDoor
namespace Go.Vc
open Go Go.Lib
def cmpS (x y : ByteArray) : Int := if sLt x y = true then -1 else if x = y then 0 else 1
def ordZ (a b : Pr) : Int := if cmpS a.1 b.1 ≠ 0 then cmpS a.1 b.1 else cmpS a.2 b.2
theorem Yd7 (x y : ByteArray) : (cmpS x y = -1 /\ sLt x y = true /\ x ≠ y /\ sLt y x = false) \/ (cmpS x y = 0 /\ x = y /\ sLt x y = false) \/ (cmpS x y = 1 /\ sLt x y = false /\ x ≠ y /\ sLt y x = true) := by
 unfold cmpS
 by_cases h : sLt x y = true
 ·left; rw [if_pos h]
  refine ⟨rfl, h, ?_, sLt_asym h⟩
  rintro rfl; rw [sLt_irr] at h; cases h
 ·rw [if_neg h]
  by_cases h2 : x = y
  ·right; left; rw [if_pos h2]; exact ⟨rfl, h2, by simpa using h⟩
  ·right; right; rw [if_neg h2]
   refine ⟨rfl, by simpa using h, h2, ?_⟩
   rcases sLt_tri x y with h3 | h3 | h3
   ·exact absurd h3 h
   ·exact absurd h3 h2
   ·exact h3
theorem ordZ_lt (a b : Pr) : ordZ a b < 0 ↔ nLt a b = true := by
 rw [nLt_iff]
 unfold ordZ
 rcases Yd7 a.1 b.1 with ⟨h1, h2, h3, h4⟩ | ⟨h1, h2, h3⟩ | ⟨h1, h2, h3, h4⟩
 ·rw [if_pos (by omega), h1]; simp [h2]
 ·rw [if_neg (by omega)]
  rcases Yd7 a.2 b.2 with ⟨g1, g2, g3, g4⟩ | ⟨g1, g2, g3⟩ | ⟨g1, g2, g3, g4⟩
  ·rw [g1]; simp [h2, g2]
  ·rw [g1]; simp [h3, g3]
  ·rw [g1]; simp [h3, g2]
 ·rw [if_pos (by omega), h1]; simp [h2, h3]
theorem ordZ_zero (a b : Pr) : ordZ a b = 0 ↔ a = b := by
 unfold ordZ
 rcases Yd7 a.1 b.1 with ⟨h1, h2, h3, h4⟩ | ⟨h1, h2, h3⟩ | ⟨h1, h2, h3, h4⟩
 ·rw [if_pos (by omega)]; exact ⟨fun h => by omega, fun h => absurd (by rw [h]) h3⟩
 ·rw [if_neg (by omega)]
  rcases Yd7 a.2 b.2 with ⟨g1, g2, g3, g4⟩ | ⟨g1, g2, g3⟩ | ⟨g1, g2, g3, g4⟩
  ·exact ⟨fun h => by omega, fun h => absurd (by rw [h]) g3⟩
  ·exact ⟨fun _ => Prod.ext h2 g2, fun _ => g1⟩
  ·exact ⟨fun h => by omega, fun h => absurd (by rw [h]) g3⟩
 ·rw [if_pos (by omega)]; exact ⟨fun h => by omega, fun h => absurd (by rw [h]) h3⟩
theorem asc_get : ∀ {l : List At}, ascB l = true ↔ ∀ i a b, l[i]? = some a -> l[i + 1]? = some b -> aLt a b = true
 | [] => by simp [ascB]
 | [a] => by
  simp only [ascB, true_iff]
  intro i x y h1 h2
  simp at h2
 | a :: b :: r => by
  have ih := asc_get (l := b :: r)
  unfold ascB
  rw [Bool.and_eq_true, ih]
  constructor
  ·rintro ⟨h1, h2⟩ i x y hx hy
   cases i with
   | zero => simp at hx hy; subst hx; subst hy; exact h1
   | succ i => exact h2 i x y (by simpa using hx) (by simpa using hy)
  ·intro h
   exact ⟨h 0 a b rfl rfl, fun i x y hx hy => h (i + 1) x y (by simpa using hx) (by simpa using hy)⟩
theorem two_get : ∀ {l : List Nd}, YaK l = true ↔ ∃ (i : Nat) (a b : Nd), l[i]? = some a /\ l[i + 1]? = some b /\ a.kind = 3 /\ b.kind = 3
 | [] => by simp [YaK]
 | [a] => by simp [YaK]
 | a :: b :: r => by
  have ih := two_get (l := b :: r)
  unfold YaK
  rw [Bool.or_eq_true, ih, Bool.and_eq_true, decide_eq_true_eq, decide_eq_true_eq]
  constructor
  ·rintro (⟨h1, h2⟩ | ⟨i, x, y, hx, hy, h1, h2⟩)
   ·exact ⟨0, a, b, rfl, rfl, h1, h2⟩
   ·exact ⟨i + 1, x, y, by simpa using hx, by simpa using hy, h1, h2⟩
  ·rintro ⟨i, x, y, hx, hy, h1, h2⟩
   cases i with
   | zero => simp at hx hy; subst hx; subst hy; exact .inl ⟨h1, h2⟩
   | succ i => exact .inr ⟨i, x, y, by simpa using hx, by simpa using hy, h1, h2⟩
end Go.Vc
namespace Go.Proofs.YtlnfaaghdkngmaaGreatDoor
open Go Go.Vc Go.Lib
section
variable {w : World}
theorem Order_ok {a b : Pr} {J : Int -> World -> Prop} (k : ∀ w', Chg No w w' -> J (ordZ a b) w') :
  Zz1 Tryz.prog ZqT #[.agg ⟨pr a⟩, .agg ⟨pr b⟩] w [.one (.int .i64)] J := by
 refine c_tree_Order ?_
 refine (Hp.start w No).newB fun b2 w1 H1 _ _ => ?_
 refine H1.newB fun b3 w2 H2 _ _ => ?_
 have H2d := H2.drew
 refine H2d.ldStr 1 rfl (off := 0) rfl ?_
 refine H2d.ldStr 0 rfl (off := 0) rfl ?_
 refine H2d.ldStr 1 rfl (off := 1) rfl ?_
 refine H2d.ldStr 0 rfl (off := 1) rfl ?_
 refine Yhl ⟨H2d.cell 0 rfl (off := 1) rfl, H2d.cell 1 rfl (off := 1) rfl, Yhl ?_⟩
 generalize hr1 : (if sLt a.1 b.1 = true then (-1 : Int) else if a.1 = b.1 then 0 else 1) = r1
 generalize hr2 : (if sLt a.2 b.2 = true then (-1 : Int) else if a.2 = b.2 then 0 else 1) = r2
 have f1 : cmpS a.1 b.1 = r1 := hr1
 have f2 : cmpS a.2 b.2 = r2 := hr2
 refine newRow (sz := 1) (n := 2) rfl (by decide) fun b19 w5 hr5 _ hc5 => ?_
 refine c_cmp_Or_int ?_
 have hcell := (ZzT (off := 0) (e := ZqJ) (fz := (0, 0)) (b := b19) (cs := [.int .i64 r1, .int .i64 r2]) (w := w5) (by
  obtain ⟨b', rest, e1, e2, _, _, e3⟩ := hr5.some0 (by decide)
  cases e1
  simp at e3
  subst e3
  simpa using e2))
 have fin : ∀ r, (r = r1 /\ r1 ≠ 0 \/ r1 = 0 /\ r = r2) -> J r w5 := by
  intro r hr
  have := k w5 (H2d.chg.trans0 hc5)
  unfold ordZ at this
  rw [f1, f2] at this
  rcases hr with ⟨rfl, h⟩ | ⟨h, rfl⟩
  ·rw [if_pos h] at this; exact this
  ·rw [if_neg (by omega)] at this; exact this
 refine ⟨fun x w' t => ∃ i : Nat, x = i /\ i <= 2 /\ t = 2 - i /\ w' = w5 /\ (1 <= i -> r1 = 0) /\ (2 <= i -> r2 = 0), ⟨_, 0, rfl, by decide, rfl, rfl, by omega, by omega⟩, ?_⟩
 rintro x w' t ⟨i, rfl, hi, rfl, rfl, h1, h2⟩
 refine Zz6 (fun hlt => ?_) (fun hge => ?_)
 ·refine YbF (by omega) hlt ?_
  rw [Addr.add_mk, Int.toNat_natCast, Nat.zero_add, Nat.mul_one]
  have hi2 : i = 0 \/ i = 1 := by omega
  rcases hi2 with rfl | rfl
  ·refine Zyz (n := r1) (by have := hcell 0 _ rfl; rwa [add_zero'] at this) ?_
   refine Zzw (fun hne => fin r1 (.inl ⟨rfl, hne⟩)) (fun he => ⟨_, by omega, 1, by rw [Zzt] <;> decide, by omega, rfl, rfl, fun _ => he, fun h => by omega⟩)
  ·refine Zyz (n := r2) (by have := hcell 1 _ rfl; rwa [Addr.add_mk] at this) ?_
   refine Zzw (fun hne => fin r2 (.inr ⟨h1 (by omega), rfl⟩)) (fun he => ⟨_, by omega, 2, by rw [Zzt] <;> decide, by omega, rfl, rfl, fun _ => h1 (by omega), fun _ => he⟩)
 ·exact fin 0 (.inr ⟨h1 (by omega), (h2 (by omega)).symm⟩)
theorem Unordered_ok {x : NV} {J : Bool -> World -> Prop} (hx : x.Ok w) (hm : x.mea <= 100000000) (K : ∀ w', Chg No w w' -> J (!YgH x.nd) w') : Zz1 Tryz.prog Zxi #[.agg ⟨x.cells⟩] w [.one .bool] J := by
  cases hx with
  | @mk k u l t ap al ac ats kp kl kc ks ha hn hac hk hkn hkc hks =>
    have hal := ha.row (Zq0 ats) (by decide)
    have hmm : al <= 100000000 := by
      have := Zqg ats
      simp only [NV.mea] at hm; omega
    have hg : YgH (NV.mk k u l t ap al ac ats kp kl kc ks).nd = ascB ats := rfl
    rw [hg] at K
    refine Yg5 ?_
    refine Zx6 (Hp.start w No) fun b w1 H1 hb hc1 => ?_
    refine H1.ldS 0 rfl (off := 3) rfl ?_
    refine ⟨fun i w' m => ∃ q : Nat, i = q /\ q <= al /\ m = al - q /\ Hp w No w' [⟨b, [.int .i64 k, .string u, .string l, .slice ap al ac, .slice kp kl kc, .string t], Zz3⟩] /\ ∀ j x y, j + 1 < q -> ats[j]? = some x -> ats[j + 1]? = some y -> aLt x y = true, ⟨_, 0, rfl, Nat.zero_le _, rfl, H1, by omega⟩, ?_⟩
    rintro i w2 m ⟨q, rfl, hq, rfl, H2, hup⟩
    refine Zz6 (fun hlt => ?_) (fun hge => ?_)
    · refine Zzb fun J28 hJ28 => ?_
      have k28 : ∀ (bb : Bool) (w3 : World), Hp w No w3 [⟨b, [.int .i64 k, .string u, .string l, .slice ap al ac, .slice kp kl kc, .string t], Zz3⟩] ->
          (bb = true -> ascB ats = false) -> (bb = false -> ∀ x y, 0 < q -> ats[q - 1]? = some x -> ats[q]? = some y -> aLt x y = true) -> J28 bb w3 := by
        intro bb w3 H3 g1 g2; subst hJ28
        refine Zz9 (fun h => ?_) (fun h => ?_)
        · have := g1 h; rw [this] at K; exact K w3 H3.chg
        · refine ⟨_, by omega, q + 1, by rw [Zzt] <;> omega, by omega, rfl, H3, ?_⟩
          intro j x y hj hx hy
          rcases Nat.lt_or_ge (j + 1) q with h1 | h1
          · exact hup j x y h1 hx hy
          · have hjq : j + 1 = q := by omega
            exact g2 h x y (by omega) (by rw [<- hjq]; exact hx) (by rw [<- hjq]; exact hy)
      clear hJ28
      refine Zz6 (fun hpos => ?_) (fun hz => k28 _ _ H2.drew (fun h => by cases h) (fun _ x y h => by omega))
      have H2d := H2.drew
      have e1 : w64 ((q : Int) - 1) = ((q - 1 : Nat) : Int) := by rw [Zzt] <;> omega
      rw [e1]
      refine H2d.ldS 0 rfl (off := 3) rfl ?_
      refine Zzr (ha.chg H2d.chg (off_no _)) (Zq0 ats) (by decide) (by omega) (by omega) fun a x _ hx hcs => ?_
      rw [Int.toNat_natCast] at hx
      refine ZzQ (Zzo hcs) (ZzQ (hcs 1 _ rfl) ?_)
      refine H2d.ldS 0 rfl (off := 3) rfl ?_
      refine Zzr (ha.chg H2d.chg (off_no _)) (Zq0 ats) (by decide) (by omega) (by omega) fun a' y _ hy hcs' => ?_
      rw [Int.toNat_natCast] at hy
      refine ZzQ (Zzo hcs') (ZzQ (hcs' 1 _ rfl) ?_)
      refine Order_ok (a := (x.1, x.2.1)) (b := (y.1, y.2.1)) fun w4 hc4 => ?_
      have hlt2 := ordZ_lt (x.1, x.2.1) (y.1, y.2.1)
      refine k28 _ _ (H2d.step0 hc4) (fun h => ?_) (fun h x' y' _ hx' hy' => ?_)
      · have h' := of_decide_eq_true h
        rw [Bool.eq_false_iff]
        intro hasc
        have := asc_get.1 hasc (q - 1) x y hx (by rw [show q - 1 + 1 = q from by omega]; exact hy)
        have := hlt2.2 this
        omega
      · rw [hx] at hx'; rw [hy] at hy'
        obtain rfl := Option.some.inj hx'
        obtain rfl := Option.some.inj hy'
        have h' := of_decide_eq_false h
        exact hlt2.1 (by omega)
    · have : ascB ats = true := asc_get.2 fun j x y hx hy => hup j x y (by have := (List.getElem?_eq_some_iff.1 hy).1; omega) hx hy
      rw [this] at K
      exact K w2 H2.chg
theorem WrongText_ok {x : NV} {J : Bool -> World -> Prop} (T : TT w) (hx : x.Ok w) (hm : x.mea <= 100000000) (K : ∀ w', Chg No w w' -> J (!textN x.nd) w') : Zz1 Tryz.prog Zxg #[.agg ⟨x.cells⟩] w [.one .bool] J := by
  cases hx with
  | @mk k u l t ap al ac ats kp kl kc ks ha hn hac hk hkn hkc hks =>
    have hkl := hk.row (Zzl ks) (by decide)
    have hmm : kl <= 100000000 := by
      have := ZqO ks
      simp only [NV.mea] at hm; omega
    have ht : t.size <= 100000000 := by simp only [NV.mea] at hm; omega
    rw [ZzP] at K
    unfold textN at K
    change ∀ w', Chg No w w' -> J (!(!YaK (ks.map NV.nd) && textQ k t)) w' at K
    have kk : ∀ {i : Nat} {y : NV}, ks[i]? = some y -> (ks.map NV.nd)[i]? = some y.nd := fun h => by rw [List.getElem?_map, h]; rfl
    refine Yg3 ?_
    refine Zx6 (Hp.start w No) fun b w1 H1 hb hc1 => ?_
    refine H1.ldS 0 rfl (off := 4) rfl ?_
    refine ⟨fun i w' m => ∃ q : Nat, i = q /\ q <= kl /\ m = kl - q /\ Hp w No w' [⟨b, [.int .i64 k, .string u, .string l, .slice ap al ac, .slice kp kl kc, .string t], Zz3⟩] /\ ∀ j x y, j + 1 < q -> ks[j]? = some x -> ks[j + 1]? = some y -> ¬ (x.kd = 3 /\ y.kd = 3), ⟨_, 0, rfl, Nat.zero_le _, rfl, H1, by omega⟩, ?_⟩
    rintro i w2 m ⟨q, rfl, hq, rfl, H2, hup⟩
    refine Zz6 (fun hlt => ?_) (fun hge => ?_)
    · refine Zzr (hk.chg H2.chg (off_no _)) (Zzl ks) (by decide) (by omega) hlt fun a y _ hy hcs => ?_
      rw [Int.toNat_natCast] at hy
      cases y with
      | mk yk yu yl yt yap yal yac yas ykp ykl ykc yks =>
      refine Yfe H2 hcs fun b4 w4 H4 _ _ => ?_
      have H4b : Hp w No w4 [⟨b, [.int .i64 k, .string u, .string l, .slice ap al ac, .slice kp kl kc, .string t], Zz3⟩] := H4.sub (.cons _ (.refl _))
      refine Zzb fun J29 hJ29 => ?_
      have k29 : ∀ (bb : Bool), (bb = true -> YaK (ks.map NV.nd) = true) -> (bb = false -> ∀ x, 0 < q -> ks[q - 1]? = some x -> ¬ (x.kd = 3 /\ yk = 3)) -> J29 bb w4 := by
        intro bb g1 g2; subst hJ29
        refine Zz9 (fun h => ?_) (fun h => ?_)
        · have := g1 h; rw [this] at K; exact K w4 H4.chg
        · refine ⟨_, by omega, q + 1, by rw [Zzt] <;> omega, by omega, rfl, H4b, ?_⟩
          intro j x y' hj hx hy'
          rcases Nat.lt_or_ge (j + 1) q with h1 | h1
          · exact hup j x y' h1 hx hy'
          · have hjq : j + 1 = q := by omega
            rw [hjq, hy] at hy'
            obtain rfl := Option.some.inj hy'
            exact g2 h x (by omega) (by rw [<- hjq]; exact hx)
      clear hJ29
      refine Zz6 (fun hpos => ?_) (fun hz => k29 _ (fun h => by cases h) (fun _ x h => by omega))
      refine H4.ldI 0 rfl (off := 0) rfl ?_
      refine Zzi (fun h3 => ?_) (fun h3 => k29 _ (fun h => by cases h) (fun _ x _ _ h => h3 h.2))
      refine H4.ldS 1 rfl (off := 4) rfl ?_
      have e1 : w64 ((q : Int) - 1) = ((q - 1 : Nat) : Int) := by rw [Zzt] <;> omega
      rw [e1]
      refine Zzr (hk.chg H4.chg (off_no _)) (Zzl ks) (by decide) (by omega) (by omega) fun a' x _ hx hcs' => ?_
      rw [Int.toNat_natCast] at hx
      cases x with
      | mk xk xu xl xt xap xal xac xas xkp xkl xkc xks =>
      refine Zyz (Zzo hcs') ?_
      refine k29 _ (fun h => ?_) (fun h x' _ hx' => ?_)
      · have h' : xk = 3 := by simpa using h
        exact two_get.2 ⟨q - 1, _, _, kk hx, by rw [show q - 1 + 1 = q from by omega]; exact kk hy, by rw [Yff]; exact h', by rw [Yff]; exact h3⟩
      · rw [hx] at hx'
        obtain rfl := Option.some.inj hx'
        have h' : xk ≠ 3 := by simpa using h
        exact fun hh => h' hh.1
    · have htt : YaK (ks.map NV.nd) = false := by
        rw [Bool.eq_false_iff]
        intro h
        obtain ⟨j, x, y, hx, hy, h1, h2⟩ := two_get.1 h
        rw [List.getElem?_map, Option.map_eq_some_iff] at hx hy
        obtain ⟨x', hx', rfl⟩ := hx
        obtain ⟨y', hy', rfl⟩ := hy
        rw [Yff] at h1 h2
        exact hup j x' y' (by have := (List.getElem?_eq_some_iff.1 hy').1; omega) hx' hy' ⟨h1, h2⟩
      rw [htt] at K
      rw [Bool.not_false, Bool.true_and] at K
      change ∀ w', Chg No w w' -> J (!textQ k t) w' at K
      unfold textQ at K
      refine H2.ldI 0 rfl (off := 0) rfl ?_
      refine Zzi (fun e3 => ?_) (fun e3 => ?_)
      · rw [if_pos e3] at K
        refine H2.ldStr 0 rfl (off := 5) rfl ?_
        rw [Ygs]
        have := K w2 H2.chg
        rw [show (!decide (t ≠ Zzc)) = decide (t = Zzc) from by by_cases h : t = Zzc <;> simp [h]] at this
        exact this
      rw [if_neg e3] at K
      refine Zzi (fun e4 => ?_) (fun e4 => ?_)
      · rw [if_pos e4] at K
        simp only [Zzj]
        refine H2.ldStr 0 rfl (off := 5) rfl ?_
        refine Yc6 (T.chg H2.chg) ht ?_
        refine Zz9 (fun h => ?_) (fun h => ?_)
        · have : hasS [45, 45] (bl t) = true := h
          rw [this] at K; exact K w2 H2.chg
        have h0 : hasS [45, 45] (bl t) = false := h
        rw [h0] at K
        refine H2.ldStr 0 rfl (off := 5) rfl ?_
        refine HasSuffix_ok ht ?_
        refine Zz6 (fun h => ?_) (fun h => ?_)
        · rw [decide_eq_false (fun hh => hh h)] at K
          simp only [Bool.and_false, Bool.not_false] at K
          exact K w2 H2.chg
        rw [decide_eq_true h] at K
        refine H2.ldStr 0 rfl (off := 5) rfl ?_
        refine Yc6 (T.chg H2.chg) ht ?_
        have := K w2 H2.chg
        simp only [Bool.not_false, Bool.true_and, Bool.and_true, Bool.not_not] at this
        exact this
      rw [if_neg e4] at K
      refine Zzi (fun e5 => ?_) (fun e5 => ?_)
      · rw [if_pos e5] at K
        have H2d := H2.drew
        simp only [Zzj]
        refine H2d.ldStr 0 rfl (off := 5) rfl ?_
        refine Yc6 (T.chg H2d.chg) ht ?_
        refine Zz9 (fun h => ?_) (fun h => ?_)
        · have : hasS [63, 62] (bl t) = true := h
          rw [this] at K; exact K _ H2d.chg
        have h0 : hasS [63, 62] (bl t) = false := h
        rw [h0] at K
        refine H2d.ldStr 0 rfl (off := 5) rfl ?_
        refine Yc6 (T.chg H2d.chg) ht ?_
        refine Zz9 (fun h => ?_) (fun h => ?_)
        · have h1 : hasS [13] (bl t) = true := h
          rw [h1] at K
          exact K _ H2d.chg
        have h1 : hasS [13] (bl t) = false := h
        rw [h1] at K
        refine H2d.ldStr 0 rfl (off := 5) rfl ?_
        refine H2d.ldStr 0 rfl (off := 5) rfl ?_
        refine TrimLeft_ok fun w13 hc13 => ?_
        have H13 := H2d.step0 hc13
        refine ⟨H13.cell 0 rfl rfl, ?_⟩
        rw [Ygs]
        have := K w13 H13.chg
        simp only [Bool.not_false, Bool.true_and] at this
        rw [<- trim_same] at this
        rw [show decide (t = mkB (Lib.trimLeftS (bl t) [32, 9, 10])) = decide (bl t = Lib.trimLeftS (bl t) [32, 9, 10]) from decide_eq_decide.2 ⟨fun h => by conv => lhs; rw [h, bl_mkB], fun h => YfS (by rw [bl_mkB]; exact h)⟩]
        exact this
      · rw [if_neg e5] at K
        exact K w2 H2.chg
end
end Go.Proofs.YtlnfaaghdkngmaaGreatDoor
end
section
namespace Go.Vc
open Go Go.Lib
theorem flatL_take {ks : List NV} {q : Nat} {x : NV} (h : ks[q]? = some x) : NV.flatL (ks.take (q + 1)) = NV.flatL (ks.take q) ++ x.flat := by
 rw [Yai h, YfP]; simp [NV.flatL]
theorem len_flatL : ∀ ks : List NV, ks.length <= (NV.flatL ks).length
 | [] => Nat.le_refl _
 | x :: r => by
  have := len_flatL r
  have h1 : 1 <= x.flat.length := by cases x; simp [NV.flat]
  simp only [NV.flatL, length_append, length_cons]; omega
theorem flatL_le : ∀ (ks : List NV) (q : Nat), (NV.flatL (ks.take q)).length <= (NV.flatL ks).length
 | [], q => by simp
 | x :: r, 0 => by simp [NV.flatL]
 | x :: r, q + 1 => by
  have := flatL_le r q
  simp only [take_succ_cons, NV.flatL, length_append]; omega
theorem countP_take {α : Type} {p : α -> Bool} {l : List α} {q : Nat} {x : α} (h : l[q]? = some x) : (l.take (q + 1)).countP p = (l.take q).countP p + (if p x then 1 else 0) := by
 rw [Yai h, countP_append, countP_cons, countP_nil]; simp
end Go.Vc
namespace Go.Proofs.YtlnfaaghdkngmaaGreatDoor
open Go Go.Vc Go.Lib
section
variable {w : World}
theorem AnyNode_odd {p : Option Addr} {l c : Nat} {L : List NV} {J : Bool -> World -> Prop} (T : TT w) (h : Sl w p l 6 (rows NV.cells L)) (hm : l <= 100000000) (hk : ∀ x ∈ L, x.Ok w /\ x.mea <= 100000000) (K : ∀ w', Chg No w w' -> J (L.any fun x => oddP x.nd) w') :
  Zz1 Tryz.prog Zz0 #[.slice p l c, .func (.func 53) #[] #[]] w [.one .bool] J := by
 refine Zx5 ?_
 refine Zxr ?_
 show Yc5 (fun cs w' K => Zz1 Tryz.prog Yb0 #[.agg ⟨cs⟩] w' [.one .bool] K) p l w _
 refine ZqG (q := fun x => oddP x.nd) h hm (fun x hx w' K' hc k => ?_) fun r w' hc hr => by rw [YeO hr]; exact K w' hc
 obtain ⟨hok, hmx⟩ := hk x hx
 exact Odd_ok (hok.chg0 hc) hmx fun w'' c2 => k w'' (hc.trans0 c2)
theorem AnyNode_great {p : Option Addr} {l c : Nat} {L : List NV} {J : Bool -> World -> Prop} (T : TT w) (h : Sl w p l 6 (rows NV.cells L)) (hm : l <= 100000000) (hk : ∀ x ∈ L, x.Ok w /\ x.mea <= 100000000) (K : ∀ w', Chg No w w' -> J (L.any fun x => Yew x.nd) w') :
  Zz1 Tryz.prog Zz0 #[.slice p l c, .func (.func 55) #[] #[]] w [.one .bool] J := by
 refine Zx4 ?_
 refine Zxq ?_
 show Yc5 (fun cs w' K => Zz1 Tryz.prog ZqS #[.agg ⟨cs⟩] w' [.one .bool] K) p l w _
 refine ZqG (q := fun x => Yew x.nd) h hm (fun x hx w' K' hc k => ?_) fun r w' hc hr => by rw [YeO hr]; exact K w' hc
 obtain ⟨hok, hmx⟩ := hk x hx
 exact Great_ok (hok.chg0 hc) hmx fun w'' c2 => k w'' (hc.trans0 c2)
theorem AnyNode_mis {p : Option Addr} {l c : Nat} {L : List NV} {J : Bool -> World -> Prop} (T : TT w) (h : Sl w p l 6 (rows NV.cells L)) (hm : l <= 100000000) (hk : ∀ x ∈ L, x.Ok w /\ x.mea <= 100000000) (K : ∀ w', Chg No w w' -> J (L.any fun x => !nameP x.nd) w') :
  Zz1 Tryz.prog Zz0 #[.slice p l c, .func (.func 56) #[] #[]] w [.one .bool] J := by
 refine Zx3 ?_
 refine Zxp ?_
 show Yc5 (fun cs w' K => Zz1 Tryz.prog ZxE #[.agg ⟨cs⟩] w' [.one .bool] K) p l w _
 refine ZqG (q := fun x => !nameP x.nd) h hm (fun x hx w' K' hc k => ?_) fun r w' hc hr => by rw [YeO hr]; exact K w' hc
 obtain ⟨hok, hmx⟩ := hk x hx
 exact Misnamed_ok (T.chg hc) (hok.chg0 hc) hmx fun w'' c2 => k w'' (hc.trans0 c2)
theorem AnyNode_spo {p : Option Addr} {l c : Nat} {L : List NV} {J : Bool -> World -> Prop} (T : TT w) (h : Sl w p l 6 (rows NV.cells L)) (hm : l <= 100000000) (hk : ∀ x ∈ L, x.Ok w /\ x.mea <= 100000000) (K : ∀ w', Chg No w w' -> J (L.any fun x => !Yh5 x.nd) w') :
  Zz1 Tryz.prog Zz0 #[.slice p l c, .func (.func 57) #[] #[]] w [.one .bool] J := by
 refine Zx2 ?_
 refine Zxo ?_
 show Yc5 (fun cs w' K => Zz1 Tryz.prog Zqh #[.agg ⟨cs⟩] w' [.one .bool] K) p l w _
 refine ZqG (q := fun x => !Yh5 x.nd) h hm (fun x hx w' K' hc k => ?_) fun r w' hc hr => by rw [YeO hr]; exact K w' hc
 obtain ⟨hok, hmx⟩ := hk x hx
 exact Spoilt_ok (T.chg hc) (hok.chg0 hc) hmx fun w'' c2 => k w'' (hc.trans0 c2)
theorem AnyNode_uno {p : Option Addr} {l c : Nat} {L : List NV} {J : Bool -> World -> Prop} (T : TT w) (h : Sl w p l 6 (rows NV.cells L)) (hm : l <= 100000000) (hk : ∀ x ∈ L, x.Ok w /\ x.mea <= 100000000) (K : ∀ w', Chg No w w' -> J (L.any fun x => !YgH x.nd) w') :
  Zz1 Tryz.prog Zz0 #[.slice p l c, .func (.func 58) #[] #[]] w [.one .bool] J := by
 refine Zx1 ?_
 refine Zxn ?_
 show Yc5 (fun cs w' K => Zz1 Tryz.prog Zxi #[.agg ⟨cs⟩] w' [.one .bool] K) p l w _
 refine ZqG (q := fun x => !YgH x.nd) h hm (fun x hx w' K' hc k => ?_) fun r w' hc hr => by rw [YeO hr]; exact K w' hc
 obtain ⟨hok, hmx⟩ := hk x hx
 exact Unordered_ok (hok.chg0 hc) hmx fun w'' c2 => k w'' (hc.trans0 c2)
theorem AnyNode_wro {p : Option Addr} {l c : Nat} {L : List NV} {J : Bool -> World -> Prop} (T : TT w) (h : Sl w p l 6 (rows NV.cells L)) (hm : l <= 100000000) (hk : ∀ x ∈ L, x.Ok w /\ x.mea <= 100000000) (K : ∀ w', Chg No w w' -> J (L.any fun x => !textN x.nd) w') :
  Zz1 Tryz.prog Zz0 #[.slice p l c, .func (.func 59) #[] #[]] w [.one .bool] J := by
 refine Zx0 ?_
 refine Zxm ?_
 show Yc5 (fun cs w' K => Zz1 Tryz.prog Zxg #[.agg ⟨cs⟩] w' [.one .bool] K) p l w _
 refine ZqG (q := fun x => !textN x.nd) h hm (fun x hx w' K' hc k => ?_) fun r w' hc hr => by rw [YeO hr]; exact K w' hc
 obtain ⟨hok, hmx⟩ := hk x hx
 exact WrongText_ok (T.chg hc) (hok.chg0 hc) hmx fun w'' c2 => k w'' (hc.trans0 c2)
theorem appN {w0 wa : World} {p : Option Addr} {l c : Nat} {L : List NV} {x : NV} {K : Option Addr -> Nat -> Nat -> World -> Prop} (hr : Row wa Zz3 6 p l c (rows NV.cells L)) (hlm : l + 1 <= 1000000000) (hf : fresh w0 p) (hc : Chg No w0 wa)
  (k : ∀ p' c' w', Row w' Zz3 6 p' (l + 1) c' (rows NV.cells (L ++ [x])) -> fresh w0 p' -> Chg No w0 w' -> Chg (isB p) wa w' -> K p' (l + 1) c' w') :
  newB wa (.cells ⟨x.cells⟩ Zz3) fun b w1 => YcO Tryz.prog Zzg Zzg (.slice p l c) (.slice (some ⟨b, 0, none⟩) 1 1) w1 K := by
 refine newRow (sz := 6) (n := 1) (by cases x; rfl) (by decide) fun b w1 hr1 hb hc1 => ?_
 refine Zq4 YcZ (hr.chg hc1 (off_no _)) hr1.sl (Zy6 x) (by simp) (by omega) (by simp only [maxLen]; omega) fun p' c' w' hr' hc' hf' => ?_
 have hc2 : Chg (isB p) wa w' := (hc1.mono fun _ _ h => h.elim).trans hc' fun b hb h => h
 refine k p' c' w' ?_ ?_ (hc.trans hc2 fun b hb ⟨a, ha, e⟩ => by have := hf a ha; omega) hc2
 ·rw [ZzL, Zyy, rows_nil, append_nil]; exact hr'
 ·rcases hf' with rfl | hf'
  ·exact hf
  ·intro a ha; have := hf' a ha; have := hc.size; have := hc1.size; omega
theorem Flat_ok : ∀ (v : NV) {w0 w : World} {p : Option Addr} {l c : Nat} {L : List NV} {J : Option Addr -> Nat -> Nat -> World -> Prop}, v.Ok w0 -> Row w Zz3 6 p l c (rows NV.cells L) -> fresh w0 p -> Chg No w0 w -> l + v.flat.length <= 100000000 ->
  (∀ p' c' w', Row w' Zz3 6 p' (l + v.flat.length) c' (rows NV.cells (L ++ v.flat)) -> fresh w0 p' -> Chg No w0 w' -> J p' (l + v.flat.length) c' w') ->
  Zz1 Tryz.prog Yaq #[.agg ⟨v.cells⟩, .slice p l c] w [.one .slice] J := by
 intro v
 induction v using NV.ind with
 | h k u lo t ap al ac ats kp kl kc ks ih =>
  intro w0 w p l c L J hv hr hf hc hm K
  cases hv with
  | mk ha hn hac hk hkn hkc hks =>
  have hkl := hk.row (Zzl ks) (by decide)
  have hfl : (NV.mk k u lo t ap al ac ats kp kl kc ks).flat = NV.mk k u lo t ap al ac ats kp kl kc ks :: NV.flatL ks := rfl
  rw [hfl, length_cons] at hm
  rw [hfl] at K
  have hkf := len_flatL ks
  refine c_tree_flat ?_
  refine Zx6 (Hp.start w No) fun b w1 H1 hb hc1 => ?_
  refine Zq8 H1 0 rfl ?_
  refine ⟨rfl, ?_⟩
  refine appN (w0 := w0) (x := .mk k u lo t ap al ac ats kp kl kc ks) (hr.chg hc1 (off_no _)) (by omega) hf (hc.trans0 hc1) fun p3 c3 w3 hr3 hf3 hc3 hcb => ?_
  have hcell : w3.cell? ⟨b, 4, none⟩ = some (.slice kp kl kc) := hcb.cell (H1.cell 0 rfl rfl) (by
   rintro ⟨a, ha, e⟩
   have := hr.lt a ha
   simp only at e; omega)
  refine ⟨_, _, _, hcell, ?_⟩
  refine ⟨fun lp ll lc i w' m => ∃ q : Nat, i = q /\ q <= kl /\ m = kl - q /\ ll = l + 1 + (NV.flatL (ks.take q)).length /\ Row w' Zz3 6 lp ll lc (rows NV.cells (L ++ [.mk k u lo t ap al ac ats kp kl kc ks] ++ NV.flatL (ks.take q))) /\ fresh w0 lp /\ Chg No w0 w',
   ⟨_, 0, rfl, Nat.zero_le _, rfl, rfl, by rw [take_zero]; simpa [NV.flatL] using hr3, hf3, hc3⟩, ?_⟩
  rintro lp ll lc i w4 m ⟨q, rfl, hq, rfl, rfl, hr4, hf4, hc4⟩
  refine Zz6 (fun hlt => ?_) (fun hge => ?_)
  ·refine Zzr (hk.chg hc4 (off_no _)) (Zzl ks) (by decide) (by omega) hlt fun a y _ hy hcs => ?_
   rw [Int.toNat_natCast] at hy
   have hymem := mem_of_getElem? hy
   have ihy := @ih y hymem
   have hyok := hks y hymem
   have hft := flatL_take hy
   have hle := flatL_le ks (q + 1)
   rw [hft, length_append] at hle
   cases y with
   | mk yk yu yl yt yap yal yac yas ykp ykl ykc yks =>
   refine Yfe (Hp.start w4 No) hcs fun b6 w6 H6 _ hc6 => ?_
   refine Zq8 H6 0 rfl ?_
   refine ihy hyok (hr4.chg hc6 (off_no _)) hf4 (hc4.trans0 hc6) (by omega) fun p7 c7 w7 hr7 hf7 hc7 => ?_
   refine ⟨_, by omega, q + 1, by rw [Zzt] <;> omega, by omega, rfl, ?_, ?_, hf7, hc7⟩
   ·rw [hft, length_append]; omega
   ·rw [hft, <- append_assoc]; exact hr7
  ·have hqk : q = kl := by omega
   subst hqk
   rw [take_of_length_le (by omega)] at hr4 ⊢
   have e1 : l + 1 + (NV.flatL ks).length = l + (NV.mk k u lo t ap al ac ats kp q kc ks :: NV.flatL ks).length := by rw [length_cons]; omega
   rw [e1] at hr4 ⊢
   exact K lp lc w4 (by rw [append_assoc] at hr4; exact hr4) hf4 hc4
theorem any_nd (L : List NV) (q : Nd -> Bool) : (L.any fun x => q x.nd) = (L.map NV.nd).any q := by rw [any_map]; rfl
theorem Yeq (L : List NV) (q : Nd -> Bool) : (L.any fun x => !q x.nd) = !(L.map NV.nd).all q := by rw [any_nd L (fun x => !q x), not_all]
theorem Check_ok {x : NV} {J : Int -> World -> Prop} (T : TT w) (hx : x.Ok w) (hm : x.mea <= 10000000) (K : ∀ w', Chg No w w' -> J (Ycd x.nd) w') : Zz1 Tryz.prog ZxX #[.agg ⟨x.cells⟩] w [.one (.int .i64)] J := by
 have hx0 := hx
 have hfl := flat_len x
 have hok : ∀ y ∈ x.flat, y.Ok w /\ y.mea <= 100000000 := fun y hy => ⟨flat_mem hy hx, by have := flat_mea hy; omega⟩
 have hfn := flat_nd x
 have hkind : x.nd.kind = x.kd := Yff x
 cases hx with
 | @mk k u l t ap al ac ats kp kl kc ks ha hn hac hk hkn hkc hks =>
  have hkl := hk.row (Zzl ks) (by decide)
  refine c_tree_Check ?_
  refine Zx6 (Hp.start w No) fun b w1 H1 hb hc1 => ?_
  refine Zq8 H1 0 rfl ?_
  refine Flat_ok (.mk k u l t ap al ac ats kp kl kc ks) (w0 := w1) (w := w1) (L := []) (hx0.chg0 hc1) (Row.nil _ _ _) (by rintro a ⟨⟩) (Chg.refl _ _) (by omega) fun p2 c2 w2 hr2 hf2 hc2 => ?_
  rw [Nat.zero_add, nil_append] at hr2
  rw [Nat.zero_add]
  generalize hL : (NV.mk k u l t ap al ac ats kp kl kc ks).flat = L at *
  have c02 := hc1.trans0 hc2
  have H2 := H1.step0 hc2
  have hokc : ∀ {wx : World}, Chg No w wx -> ∀ y ∈ L, y.Ok wx /\ y.mea <= 100000000 := fun hcx y hy => ⟨(hok y hy).1.chg0 hcx, (hok y hy).2⟩
  have hLl : L.length <= 10000000 := by omega
  generalize hd : (NV.mk k u l t ap al ac ats kp kl kc ks).nd = d at *
  have hdl : d.flat.length = L.length := by rw [<- hfn, length_map]
  have hkd : d.kind = k := by rw [hkind]; rfl
  have hdk : d.kids = ks.map NV.nd := by rw [<- hd, ZzP]; rfl
  unfold Ycd at K
  refine Zzb fun J9 hJ9 => ?_
  have k9 : ∀ (bb : Bool) (w3 : World), (bb = true ↔ ¬ d.kind = 1 \/ d.flat.all Yeu = false) -> Chg No w2 w3 -> J9 bb w3 := by
   intro bb w3 hbb hc3; subst hJ9
   have c03 := c02.trans0 hc3
   refine meetI hbb (fun h => ?_) (fun h => ?_)
   ·rw [if_pos h] at K; exact K w3 c03
   rw [if_neg h] at K
   have hall : d.flat.all Yeu = true := by
    cases hh : d.flat.all Yeu with
    | true => rfl
    | false => exact absurd (.inr hh) h
   have H3 := H2.step0 hc3
   refine Zq8 H3 0 rfl ?_
   refine Deep_ok (.mk k u l t ap al ac ats kp kl kc ks) (hx0.chg0 c03) (by omega) (by decide) (by decide) fun w4 hc4 => ?_
   have c04 := c03.trans0 hc4
   have H4 := H3.step0 hc4
   rw [hd]
   refine Zz9 (fun h => ?_) (fun h => ?_)
   ·rw [if_pos h] at K; exact K w4 c04
   rw [if_neg (by rw [h]; decide)] at K
   have hr4 := (hr2.chg hc3 (off_no _)).chg hc4 (off_no _)
   refine Zzb fun J20 hJ20 => ?_
   have k20 : ∀ (bb : Bool) (w5 : World), (bb = true ↔ 2001 < d.flat.length \/ d.flat.any Yew = true) -> Chg No w4 w5 -> J20 bb w5 := by
    intro bb w5 hbb hc5; subst hJ20
    have c05 := c04.trans0 hc5
    refine meetI hbb (fun h => ?_) (fun h => ?_)
    ·rw [if_pos h] at K; exact K w5 c05
    rw [if_neg h] at K
    have hr5 := hr4.chg hc5 (off_no _)
    refine AnyNode_mis (T.chg c05) hr5.sl (by omega) (hokc c05) fun w6 hc6 => ?_
    have c06 := c05.trans0 hc6
    have hr6 := hr5.chg hc6 (off_no _)
    have hname : (L.any fun x => !nameP x.nd) = !d.flat.all nameG := by
     rw [Yeq, hfn]
     congr 1
     rw [Bool.eq_iff_iff, all_eq_true, all_eq_true]
     exact ⟨fun h y hy => by rw [<- name_eq (all_eq_true.1 hall y hy)]; exact h y hy, fun h y hy => by rw [name_eq (all_eq_true.1 hall y hy)]; exact h y hy⟩
    rw [hname]
    refine Zzx (fun h => ?_) (fun h => ?_)
    ·rw [if_pos h] at K; exact K w6 c06
    rw [if_neg (by rw [h]; decide)] at K
    refine AnyNode_spo (T.chg c06) hr6.sl (by omega) (hokc c06) fun w7 hc7 => ?_
    have c07 := c06.trans0 hc7
    have hr7 := hr6.chg hc7 (off_no _)
    rw [Yeq, hfn]
    refine Zzx (fun h => ?_) (fun h => ?_)
    ·rw [if_pos h] at K; exact K w7 c07
    rw [if_neg (by rw [h]; decide)] at K
    refine AnyNode_uno (T.chg c07) hr7.sl (by omega) (hokc c07) fun w8 hc8 => ?_
    have c08 := c07.trans0 hc8
    have hr8 := hr7.chg hc8 (off_no _)
    rw [Yeq, hfn]
    refine Zzx (fun h => ?_) (fun h => ?_)
    ·rw [if_pos h] at K; exact K w8 c08
    rw [if_neg (by rw [h]; decide)] at K
    refine AnyNode_wro (T.chg c08) hr8.sl (by omega) (hokc c08) fun w9 hc9 => ?_
    have c09 := c08.trans0 hc9
    rw [Yeq, hfn]
    refine Zzx (fun h => ?_) (fun h => ?_)
    ·rw [if_pos h] at K; exact K w9 c09
    rw [if_neg (by rw [h]; decide)] at K
    have H9 : Hp w No w9 [⟨b, [.int .i64 k, .string u, .string l, .slice ap al ac, .slice kp kl kc, .string t], Zz3⟩] := ((((H4.step0 hc5).step0 hc6).step0 hc7).step0 hc8).step0 hc9
    refine H9.ldS 0 rfl (off := 4) rfl ?_
    have hkm := ZqO ks
    have hmm : kl <= 10000000 := by simp only [NV.mea] at hm; omega
    refine ⟨fun e i w' m => ∃ q : Nat, i = q /\ q <= kl /\ m = kl - q /\ Chg No w w' /\ e = (((ks.take q).countP fun y => decide (y.kd = 2) : Nat) : Int), ⟨_, 0, rfl, Nat.zero_le _, rfl, c09, rfl⟩, ?_⟩
    rintro e i w10 m ⟨q, rfl, hq, rfl, hc10, rfl⟩
    have hcl := countP_le_length (p := fun y : NV => decide (y.kd = 2)) (l := ks.take q)
    rw [length_take] at hcl
    refine Zz6 (fun hlt => ?_) (fun hge => ?_)
    ·refine Zzb fun J4 hJ4 => ?_
     have k4 : ∀ (e : Int) (w11 : World), e = (((ks.take (q + 1)).countP fun y => decide (y.kd = 2) : Nat) : Int) -> Chg No w w11 -> J4 e w11 := by
      intro e w11 he c11; subst hJ4
      exact ⟨_, by omega, q + 1, by rw [Zzt] <;> omega, by omega, rfl, c11, he⟩
     clear hJ4
     refine Zzr (hk.chg hc10 (off_no _)) (Zzl ks) (by decide) (by omega) hlt fun a y _ hy hcs => ?_
     rw [Int.toNat_natCast] at hy
     have hct := countP_take (p := fun y : NV => decide (y.kd = 2)) hy
     cases y with
     | mk yk yu yl yt yap yal yac yas ykp ykl ykc yks =>
     refine Yfe (Hp.start w10 No) hcs fun b6 w13 H13 _ hc13 => ?_
     refine H13.ldI 0 rfl (off := 0) rfl ?_
     refine Zzi (fun h2 => ?_) (fun h2 => ?_)
     ·refine k4 _ _ ?_ (hc10.trans0 hc13)
      rw [hct, if_pos (show decide ((NV.mk yk yu yl yt yap yal yac yas ykp ykl ykc yks).kd = 2) = true from decide_eq_true h2), Zzt (by omega) (by omega)]; omega
     ·refine k4 _ _ ?_ (hc10.trans0 hc13)
      rw [hct, if_neg (by rw [decide_eq_false (show ¬ (NV.mk yk yu yl yt yap yal yac yas ykp ykl ykc yks).kd = 2 from h2)]; decide)]; rfl
    ·have hroots : rootsN d = (ks.take q).countP fun y => decide (y.kd = 2) := by
      unfold rootsN
      rw [hdk, countP_map, take_of_length_le (by omega)]
      congr 1
      funext y
      show decide (y.nd.kind = 2) = _
      rw [Yff]
     rw [hroots] at K
     refine Zzw (fun h => ?_) (fun h => ?_)
     ·rw [if_pos (by omega)] at K; exact K w10 hc10
     ·rw [if_neg (by omega)] at K; exact K w10 hc10
   clear hJ20
   rw [Zzt (by omega) (by omega)]
   refine Zz6 (fun h => k20 _ _ (bT (.inl (by omega))) (Chg.refl _ _)) (fun h => ?_)
   refine AnyNode_great (T.chg c04) hr4.sl (by omega) (hokc c04) fun w14 hc14 => ?_
   refine k20 _ _ ?_ hc14
   rw [any_nd, hfn]
   exact ⟨fun hh => .inr hh, fun hh => hh.resolve_left (by omega)⟩
  clear hJ9
  refine H2.ldI 0 rfl (off := 0) rfl ?_
  refine Zzw (fun h => k9 _ _ (bT (.inl (by rw [hkd]; exact h))) (Chg.refl _ _)) (fun h => ?_)
  refine AnyNode_odd (T.chg c02) hr2.sl (by omega) (hokc c02) fun w15 hc15 => ?_
  refine k9 _ _ ?_ hc15
  have hk1 : d.kind = 1 := by rw [hkd]; exact h
  rw [any_nd, hfn, odd_all hk1]
  simp [hk1]
end
end Go.Proofs.YtlnfaaghdkngmaaGreatDoor
end
section
namespace Go.Proofs.YtlnfaaghdkngmaaGreatDoor
open Go Go.Vc
theorem Yfv {a : Option Addr} {b c : Nat} {d : Option Addr} {e f : Nat} {w : World} {J : Bool -> World -> Prop} (h :
 Zz2 ((b : Int) != (e : Int)) (
 J false w) (
 ∃ p : Int -> World -> Nat -> Prop, (∃ q, p (0 : Int) w q) /\ ∀ r s q, p r s q -> (
 Zz2 (decide (r < (b : Int))) (
 Zyx a b r fun g =>
 ldStr s.drew ((g.add (r.toNat * 3))) fun i =>
 ldStr s.drew (((g.add (r.toNat * 3)).add 1)) fun j =>
 ldStr s.drew (((g.add (r.toNat * 3)).add 2)) fun k =>
 Zyx d e r fun l =>
 ldStr s.drew ((l.add (r.toNat * 3))) fun m =>
 ldStr s.drew (((l.add (r.toNat * 3)).add 1)) fun n =>
 ldStr s.drew (((l.add (r.toNat * 3)).add 2)) fun o =>
 Zz2 (!(((i.toList == m.toList) && ((j.toList == n.toList) && true)) && ((k.toList == o.toList) && true))) (
 J false s.drew) (
 ∃ t, t < q /\ p (w64 (r + (1 : Int))) s.drew t)) (
 J true s)))) : Zz1 Tryz.prog ZqU #[.slice a b c, .slice d e f] w [.one .bool] J := Zz5 Tryz.func41 (.s .o (.s (.s .o (.c (.s .o .o) .o)) (.s (.s .o (.b (.l [(13, .int .i64)] (.s .o (.s (.c .o .o) (.s (.b (.s .o (.s (.d (.take 0 (.take 1 (.take 2 (.take 3 (.take 4 (.take 5 (.take 6 (.take 7 (.take 8 .done)))))))))) (.c (.s .o .o) .o)))) .o)))))) (.s .o .o)))) (Eq.mpr (by kernel_rfl) h)
end Go.Proofs.YtlnfaaghdkngmaaGreatDoor
end
section
namespace Go.Vc
open Go Go.WideShapes
section
variable {H : Type} {enc : TypeId × Value -> H} {P : Program} {w : World}
def Rd (P : Program) (w : World) (t : TypeId) {α : Type} (f : α -> List Value) (good : α -> Prop) : Prop :=
 ∀ (H : Type) (enc : TypeId × Value -> H) (fuel : Nat) (cs : List Value) (x : DataW H × List MemPlace), DataW.trod enc P w 0 (fun _ => true) true fuel t cs = some x ->
  (∀ n ∈ DataW.weights P t x.1, n <= reachBytes) -> ∃ a, cs = f a /\ good a
theorem wf_int {k : IntKind} {n : Int} (h : (Lit.int k n).wf = true) : k.min <= n /\ n <= k.max := by simpa [Lit.wf] using h
theorem Rd.int {t : TypeId} {k : IntKind} (ht : P.underlying t = some (.int k)) : Rd P w t (fun n : Int => [.int k n]) (fun n => k.min <= n /\ n <= k.max) := by
 intro H enc fuel cs x h _
 obtain ⟨n, rfl, _, hw⟩ := DataW.trod_int ht h
 exact ⟨n, rfl, wf_int hw⟩
theorem Rd.i64 {t : TypeId} (ht : P.underlying t = some (.int .i64)) : Rd P w t (fun n : Int => [.int .i64 n]) InI := by
 intro H enc fuel cs x h hw
 obtain ⟨n, h1, h2⟩ := Rd.int ht H enc fuel cs x h hw
 refine ⟨n, h1, ?_⟩
 simp [IntKind.min, IntKind.max, IntKind.signed, IntKind.bits] at h2
 exact h2
theorem Rd.str {t : TypeId} (ht : P.underlying t = some .string) : Rd P w t (fun s : ByteArray => [.string s]) (fun s => s.size <= 140737488351232) := by
 intro H enc fuel cs x h hw
 obtain ⟨s, rfl, hx, _⟩ := DataW.trod_string ht h
 refine ⟨s, rfl, ?_⟩
 subst hx
 have := hw s.data.toList.length (by simp [DataW.weights])
 simpa [reachBytes] using this
structure SlV (α : Type) where
 p : Option Addr
 l : Nat
 c : Nat
 xs : List α
def SlV.cells {α : Type} (s : SlV α) : List Value := [.slice s.p s.l s.c]
structure SlV.Ok {α : Type} (s : SlV α) (w : World) (sz bytes : Nat) (f : α -> List Value) (good : α -> Prop) : Prop where
 sl : Sl w s.p s.l sz (rows f s.xs)
 len : s.xs.length = s.l
 nil : s.p = none -> s.l = 0
 cap : s.l <= s.c
 max : s.c <= maxLen
 fits : s.l * bytes <= 140737488351232
 even : Yee f sz s.xs
 all : ∀ x ∈ s.xs, good x
theorem Ybp {e : TypeId} {n : Nat} : ∀ {ds : List (DataW H)} {d : DataW H}, d ∈ ds -> n ∈ DataW.weights P e d -> n ∈ DataW.weightsAll P e ds
 | d0 :: r, d, hd, hn => by
  simp only [DataW.weightsAll, mem_append]
  rcases mem_cons.1 hd with rfl | hd
  ·exact .inl hn
  ·exact .inr (Ybp hd hn)
theorem Yh4 {α : Type} {n : Nat} {R : Nat -> α -> Prop} (h : ∀ i, i < n -> ∃ a, R i a) : ∃ l : List α, l.length = n /\ ∀ i a, l[i]? = some a -> R i a := by
  induction n with
  | zero => exact ⟨[], rfl, by simp⟩
  | succ n ih =>
    obtain ⟨l, hl, hr⟩ := ih (fun i hi => h i (by omega))
    obtain ⟨a, ha⟩ := h n (by omega)
    refine ⟨l ++ [a], by simp [hl], fun i b hb => ?_⟩
    rw [List.getElem?_append] at hb
    split at hb
    · exact hr i b hb
    · have h0 : i - l.length = 0 := by
        have := (List.getElem?_eq_some_iff.1 hb).1
        simp at this; omega
      rw [h0] at hb
      simp at hb
      subst hb
      rw [show i = n by omega]; exact ha
theorem Rd.slice {t e : TypeId} {α : Type} {f : α -> List Value} {good : α -> Prop} {sz bytes : Nat} (ht : P.underlying t = some (.slice e)) (hc : P.cellsOf e = sz) (hb : P.bytesOf e = bytes) (h : Rd P w e f good) :
    Rd P w t SlV.cells (fun s : SlV α => s.Ok w sz bytes f good) := by
  intro H enc fuel cs x hx hw
  rcases DataW.trod_slice ht hx with ⟨rfl, _⟩ | ⟨a, len, cap, elems, rest, n, rfl, rfl, hxe, hba, hl, hm, hel, hget, hspare, _⟩
  · exact ⟨⟨none, 0, 0, []⟩, rfl, ⟨Sl.nil _ _ _, rfl, fun _ => rfl, Nat.le_refl _, Nat.zero_le _, by simp, by intro x hx; simp at hx, by simp⟩⟩
  · obtain ⟨hrl, -⟩ := hspare rfl
    subst hxe
    have hw' : ∀ m ∈ ((elems.map (·.1)).length + (rest.map (·.1)).length) * P.bytesOf e :: (DataW.weightsAll P e (elems.map (·.1)) ++ DataW.weightsAll P e (rest.map (·.1))), m <= reachBytes := by
      intro m hm
      refine hw m ?_
      simp only [DataW.weights, ht]
      exact hm
    have hbytes := hw' _ (List.mem_cons_self)
    simp only [List.length_map, hel, hrl, hb] at hbytes
    have hlb : len * bytes <= 140737488351232 := by
      refine Nat.le_trans (Nat.mul_le_mul_right _ ?_) hbytes
      omega
    obtain ⟨aes, hal, has⟩ := Yh4 (n := len) (R := fun i y => good y /\ w.cells? 0 (a.add (i * sz)) sz = some (f y)) (fun i hi => by
      have hg := hget i hi
      have hlt : i < elems.length := by omega
      rw [List.getElem?_eq_getElem hlt] at hg
      rw [Option.bind_eq_some_iff] at hg
      obtain ⟨cs', h1, h2⟩ := hg
      obtain ⟨y, rfl, hy⟩ := h H enc n cs' _ h2 (fun m hm => hw' m (List.mem_cons_of_mem _ (List.mem_append_left _ (Ybp (List.mem_map_of_mem (List.getElem_mem hlt)) hm))))
      rw [hc] at h1
      exact ⟨y, hy, h1⟩)
    have hev : Yee f sz aes := fun y hy => by
      obtain ⟨i, hi⟩ := List.mem_iff_getElem?.1 hy
      have := (World.cells?_some (has i y hi).2).2.1
      exact this
    refine ⟨⟨some a, len, cap, aes⟩, rfl, ⟨⟨?_, ?_⟩, hal, by simp, hl, hm, hlb, hev, ?_⟩⟩
    · rw [Zy9 hev, hal]
    · by_cases h0 : len = 0
      · exact .inl h0
      · right
        refine ⟨a, rfl, ?_⟩
        intro j v hv
        simp only at hv
        have hjl : j < len * sz := by
          have := (List.getElem?_eq_some_iff.1 hv).1
          rw [Zy9 hev, hal] at this; exact this
        have hsz : 0 < sz := by
          rcases Nat.eq_zero_or_pos sz with h | h
          · subst h; simp at hjl
          · exact h
        have hi : j / sz < aes.length := by rw [hal]; exact Nat.div_lt_of_lt_mul (by rw [Nat.mul_comm]; exact hjl)
        have hy := List.getElem?_eq_getElem hi
        have hmod : j % sz < sz := Nat.mod_lt _ hsz
        have hj : j / sz * sz + j % sz = j := by rw [Nat.mul_comm]; exact Nat.div_add_mod j sz
        have h2 := Yfb hev hy hmod
        rw [hj] at h2
        rw [h2] at hv
        obtain ⟨_, q1, q3⟩ := World.cells?_some (has _ _ hy).2
        have h3 := q3 (j % sz) hmod
        rw [hv] at h3
        have hspot : a.spot = none := by
          have hz : 0 < aes.length := by omega
          obtain ⟨_, r1, r3⟩ := World.cells?_some (has 0 _ (List.getElem?_eq_getElem hz)).2
          have h4 := r3 0 hsz
          rw [Nat.zero_mul, add_zero', add_zero', List.getElem?_eq_getElem (by rw [r1]; exact hsz)] at h4
          exact World.cell?_spot h4
        rw [<- h3, Addr.add_add _ _ hspot, hj]
    · intro y hy
      obtain ⟨i, hi⟩ := List.mem_iff_getElem?.1 hy
      exact (has i y hi).1
def fieldsOf (P : Program) (t : TypeId) : Option (List (TypeId × Nat)) := match P.underlying t with | some (.struct fs) => some (fs.toList.map fun f => (f.type, f.offset)) | _ => none
theorem Rd.open {t : TypeId} {α : Type} {f : α -> List Value} {good : α -> Prop} (h : Rd P w t f good) {v : Value} {d : DataW H} {ps : List MemPlace} (ho : DataW.Trod enc P w 0 (fun _ => true) true t v d ps)
  (hw : ∀ n ∈ DataW.weights P t d, n <= reachBytes) : ∃ a, v.cells.toList = f a /\ good a := by
 obtain ⟨fuel, hf⟩ := ho
 exact h H enc fuel _ _ hf hw
end
end Go.Vc
end
section
namespace Go.Proofs.YtlnfaaghdkngmaaGreatDoor
open Go Go.Vc Go.WideShapes
theorem bulk_pos {H : Type} (d : DataW H) : 1 <= Rows.uptoBulk d := by
 cases d with
 | lit l => cases l <;> simp [Rows.uptoBulk]
 | _ => simp [Rows.uptoBulk]
theorem bulk_count {H : Type} : ∀ (l : List (DataW H)), l.length <= Rows.uptoBulkAll l
 | [] => by simp
 | x :: r => by
  have := bulk_pos x; have := bulk_count r
  simp only [Rows.uptoBulkAll, length_cons]; omega
theorem bulk_slice {H : Type} {enc : TypeId × Value -> H} {P : Program} {w : World} {t e : TypeId} {p : Option Addr} {l c : Nat} {d : DataW H} {ps : List MemPlace} (ht : P.underlying t = some (.slice e))
  (ho : DataW.Trod enc P w 0 (fun _ => true) true t (.slice p l c) d ps) : l <= Rows.uptoBulk d := by
 obtain ⟨fuel, hf⟩ := ho
 rcases DataW.trod_slice ht hf with ⟨h, _⟩ | ⟨a, len, cap, elems, rest, n, _, h, hxe, _, _, _, hel, _, _, _⟩
 ·simp [Value.cells] at h
  omega
 ·simp [Value.cells] at h
  obtain ⟨_, rfl, _⟩ := h
  have hd : d = .slice (elems.map (·.1)) (rest.map (·.1)) := by first | exact congrArg Prod.fst hxe | simpa using hxe | (cases hxe; rfl)
  subst hd
  have := bulk_count (elems.map (·.1))
  rw [length_map, hel] at this
  simp only [Rows.uptoBulk]
  omega
theorem bulk_string {H : Type} {enc : TypeId × Value -> H} {P : Program} {w : World} {t : TypeId} {s : ByteArray} {d : DataW H} {ps : List MemPlace} (ht : P.underlying t = some .string)
  (ho : DataW.Trod enc P w 0 (fun _ => true) true t (.string s) d ps) : s.size + 1 <= Rows.uptoBulk d := by
 obtain ⟨fuel, hf⟩ := ho
 obtain ⟨s2, h1, hx, _⟩ := DataW.trod_string ht hf
 have e : s = s2 := by simpa [Value.cells] using h1
 subst e
 have hd : d = .lit (.string s.data.toList) := by first | exact hx | exact congrArg Prod.fst hx
 subst hd
 simp only [Rows.uptoBulk]
 have : s.data.toList.length = s.size := rfl
 omega
theorem bulk_all {H : Type} {l : List (DataW H)} (hk : Rows.uptoSmall H l = true) : Rows.uptoBulkAll l <= 1048576 := of_decide_eq_true hk
end Go.Proofs.YtlnfaaghdkngmaaGreatDoor
end
section
namespace Go.Proofs.YtlnfaaghdkngmaaGreatDoor
open Go Go.Vc Go.WideShapes
section
variable {H : Type} {enc : TypeId × Value -> H} {P : Program} {w : World}
def RdM (P : Program) (w : World) (t : TypeId) {α : Type} (f : α -> List Value) (good : α -> Prop) (mea : α -> Nat) : Prop :=
 ∀ (H : Type) (enc : TypeId × Value -> H) (fuel : Nat) (cs : List Value) (x : DataW H × List MemPlace), DataW.trod enc P w 0 (fun _ => true) true fuel t cs = some x ->
  (∀ n ∈ DataW.weights P t x.1, n <= reachBytes) -> ∃ a, cs = f a /\ good a /\ mea a <= Rows.uptoBulk x.1
theorem RdM.of {t : TypeId} {α : Type} {f : α -> List Value} {good : α -> Prop} (h : Rd P w t f good) : RdM P w t f good (fun _ => 1) := by
 intro H enc fuel cs x hx hw
 obtain ⟨a, ha, ga⟩ := h H enc fuel cs x hx hw
 exact ⟨a, ha, ga, bulk_pos _⟩
theorem Yhd {H : Type} : ∀ (l : List (DataW H)), Rows.uptoBulkAll l = (l.map Rows.uptoBulk).sum
 | [] => by simp [Rows.uptoBulkAll]
 | x :: r => by simp [Rows.uptoBulkAll, Yhd r]
theorem sum_le_sum : ∀ {a b : List Nat}, a.length = b.length -> (∀ (i : Nat) (x y : Nat), a[i]? = some x -> b[i]? = some y -> x <= y) -> a.sum <= b.sum
 | [], [], _, _ => Nat.le_refl _
 | [], _ :: _, h, _ => by simp at h
 | _ :: _, [], h, _ => by simp at h
 | x :: a, y :: b, h, k => by
  have h1 := k 0 x y rfl rfl
  have h2 := sum_le_sum (a := a) (b := b) (by simpa using h) (fun i u v hu hv => k (i + 1) u v (by simpa using hu) (by simpa using hv))
  simp only [sum_cons]
  omega
theorem RdM.open {t : TypeId} {α : Type} {f : α -> List Value} {good : α -> Prop} {mea : α -> Nat} (h : RdM P w t f good mea) {v : Value} {d : DataW H} {ps : List MemPlace} (ho : DataW.Trod enc P w 0 (fun _ => true) true t v d ps)
  (hw : ∀ n ∈ DataW.weights P t d, n <= reachBytes) : ∃ a, v.cells.toList = f a /\ good a /\ mea a <= Rows.uptoBulk d := by
 obtain ⟨fuel, hf⟩ := ho
 exact h H enc fuel _ _ hf hw
end
end Go.Proofs.YtlnfaaghdkngmaaGreatDoor
end
section
namespace Go.Proofs.YtlnfaaghdkngmaaGreatDoor
open Go Go.Vc Go.WideShapes
section
variable {P : Program} {w : World}
def RdN (P : Program) (w : World) (n : Nat) (t : TypeId) {α : Type} (f : α -> List Value) (good : α -> Prop) (mea : α -> Nat) : Prop :=
 ∀ (H : Type) (enc : TypeId × Value -> H) (cs : List Value) (x : DataW H × List MemPlace), DataW.trod enc P w 0 (fun _ => true) true n t cs = some x ->
  (∀ n ∈ DataW.weights P t x.1, n <= reachBytes) -> ∃ a, cs = f a /\ good a /\ mea a <= Rows.uptoBulk x.1
theorem RdM.at {t : TypeId} {α : Type} {f : α -> List Value} {good : α -> Prop} {mea : α -> Nat} (h : RdM P w t f good mea) (n : Nat) : RdN P w n t f good mea := fun H enc cs x => h H enc n cs x
theorem RdN.zero {t : TypeId} {α : Type} {f : α -> List Value} {good : α -> Prop} {mea : α -> Nat} : RdN P w 0 t f good mea := by
 intro H enc cs x hx _
 simp [DataW.trod] at hx
theorem RdN.slice {n : Nat} {t e : TypeId} {α : Type} {f : α -> List Value} {good : α -> Prop} {mea : α -> Nat} {sz bytes : Nat} (ht : P.underlying t = some (.slice e)) (hc : P.cellsOf e = sz) (hb : P.bytesOf e = bytes) (h : RdN P w n e f good mea) :
    RdN P w (n + 1) t SlV.cells (fun s : SlV α => s.Ok w sz bytes f good) (fun s => (s.xs.map mea).sum) := by
  intro H enc cs x hx hw
  rcases DataW.trod_slice ht hx with ⟨rfl, _⟩ | ⟨a, len, cap, elems, rest, m, hnm, rfl, hxe, hba, hl, hm, hel, hget, hspare, _⟩
  · exact ⟨⟨none, 0, 0, []⟩, rfl, ⟨Sl.nil _ _ _, rfl, fun _ => rfl, Nat.le_refl _, Nat.zero_le _, by simp, by intro x hx; simp at hx, by simp⟩, by simp⟩
  · obtain rfl : m = n := by omega
    obtain ⟨hrl, -⟩ := hspare rfl
    subst hxe
    have hw' : ∀ q ∈ ((elems.map (·.1)).length + (rest.map (·.1)).length) * P.bytesOf e :: (DataW.weightsAll P e (elems.map (·.1)) ++ DataW.weightsAll P e (rest.map (·.1))), q <= reachBytes := by
      intro q hq
      refine hw q ?_
      simp only [DataW.weights, ht]
      exact hq
    have hbytes := hw' _ (List.mem_cons_self)
    simp only [List.length_map, hel, hrl, hb] at hbytes
    have hlb : len * bytes <= 140737488351232 := by
      refine Nat.le_trans (Nat.mul_le_mul_right _ ?_) hbytes
      omega
    obtain ⟨zs, hal, has⟩ := Yh4 (n := len) (R := fun i y => (good y /\ w.cells? 0 (a.add (i * sz)) sz = some (f y)) /\ ∀ d, elems[i]? = some d -> mea y <= Rows.uptoBulk d.1) (fun i hi => by
      have hg := hget i hi
      have hlt : i < elems.length := by omega
      rw [List.getElem?_eq_getElem hlt] at hg
      rw [Option.bind_eq_some_iff] at hg
      obtain ⟨cs', h1, h2⟩ := hg
      obtain ⟨y, rfl, hy, hme⟩ := h H enc cs' _ h2 (fun q hq => hw' q (List.mem_cons_of_mem _ (List.mem_append_left _ (Ybp (List.mem_map_of_mem (List.getElem_mem hlt)) hq))))
      rw [hc] at h1
      exact ⟨y, ⟨hy, h1⟩, fun d hd => by rw [List.getElem?_eq_getElem hlt] at hd; cases hd; exact hme⟩)
    have hev : Yee f sz zs := fun y hy => by
      obtain ⟨i, hi⟩ := List.mem_iff_getElem?.1 hy
      have := (World.cells?_some (has i y hi).1.2).2.1
      exact this
    refine ⟨⟨some a, len, cap, zs⟩, rfl, ⟨⟨?_, ?_⟩, hal, by simp, hl, hm, hlb, hev, ?_⟩, ?_⟩
    · rw [Zy9 hev, hal]
    · by_cases h0 : len = 0
      · exact .inl h0
      · right
        refine ⟨a, rfl, ?_⟩
        intro j v hv
        simp only at hv
        have hjl : j < len * sz := by
          have := (List.getElem?_eq_some_iff.1 hv).1
          rw [Zy9 hev, hal] at this; exact this
        have hsz : 0 < sz := by
          rcases Nat.eq_zero_or_pos sz with h | h
          · subst h; simp at hjl
          · exact h
        have hi : j / sz < zs.length := by rw [hal]; exact Nat.div_lt_of_lt_mul (by rw [Nat.mul_comm]; exact hjl)
        have hy := List.getElem?_eq_getElem hi
        have hmod : j % sz < sz := Nat.mod_lt _ hsz
        have hj : j / sz * sz + j % sz = j := by rw [Nat.mul_comm]; exact Nat.div_add_mod j sz
        have h2 := Yfb hev hy hmod
        rw [hj] at h2
        rw [h2] at hv
        obtain ⟨_, q1, q3⟩ := World.cells?_some (has _ _ hy).1.2
        have h3 := q3 (j % sz) hmod
        rw [hv] at h3
        have hspot : a.spot = none := by
          have hz : 0 < zs.length := by omega
          obtain ⟨_, r1, r3⟩ := World.cells?_some (has 0 _ (List.getElem?_eq_getElem hz)).1.2
          have h4 := r3 0 hsz
          rw [Nat.zero_mul, add_zero', add_zero', List.getElem?_eq_getElem (by rw [r1]; exact hsz)] at h4
          exact World.cell?_spot h4
        rw [<- h3, Go.Vc.Addr.add_add _ _ hspot, hj]
    · intro y hy
      obtain ⟨i, hi⟩ := List.mem_iff_getElem?.1 hy
      exact (has i y hi).1.1
    · have h1 : (zs.map mea).sum <= ((elems.map (·.1)).map Rows.uptoBulk).sum := by
        refine sum_le_sum (by rw [List.length_map, List.length_map, List.length_map, hal, hel]) fun i u v hu hv => ?_
        rw [List.getElem?_map, Option.map_eq_some_iff] at hu
        obtain ⟨y, hy, rfl⟩ := hu
        rw [List.getElem?_map, List.getElem?_map] at hv
        cases he : elems[i]? with
        | none => rw [he] at hv; cases hv
        | some d =>
          rw [he] at hv
          simp only [Option.map_some, Option.some.injEq] at hv
          subst hv
          exact (has i y hy).2 d he
      simp only [Rows.uptoBulk]
      rw [<- Yhd] at h1
      omega
def RdNF (P : Program) (w : World) (k : Nat) (fs : List (TypeId × Nat)) (off n : Nat) {α : Type} (f : α -> List Value) (good : α -> Prop) (mea : α -> Nat) : Prop :=
 ∀ (H : Type) (enc : TypeId × Value -> H) (cs : List Value) (xs : List (DataW H × List MemPlace)), xs.length = fs.length ->
  (∀ (i : Nat) (g : TypeId × Nat), fs[i]? = some g -> DataW.trod enc P w 0 (fun _ => true) true k g.1 ((cs.drop g.2).take (P.cellsOf g.1)) = xs[i]?) ->
  (∀ m ∈ DataW.weightsEach P (fs.map (·.1)) (xs.map (·.1)), m <= reachBytes) -> ∃ a, (cs.drop off).take n = f a /\ good a /\ mea a <= Rows.uptoBulkAll (xs.map (·.1))
theorem RdNF.nil {k off : Nat} : RdNF P w k [] off 0 (fun _ : Unit => []) (fun _ => True) (fun _ => 0) := fun _ _ _ _ _ _ _ => ⟨(), by simp, trivial, Nat.zero_le _⟩
theorem RdNF.cons {q : Nat} {t : TypeId} {fs : List (TypeId × Nat)} {off k n m : Nat} {α β : Type} {f1 : α -> List Value} {good1 : α -> Prop} {mea1 : α -> Nat} {f2 : β -> List Value} {good2 : β -> Prop} {mea2 : β -> Nat} (hk : P.cellsOf t = k) (hm : k + n = m)
  (h1 : RdN P w q t f1 good1 mea1) (h2 : RdNF P w q fs (off + k) n f2 good2 mea2) : RdNF P w q ((t, off) :: fs) off m (fun x : α × β => f1 x.1 ++ f2 x.2) (fun x => good1 x.1 /\ good2 x.2) (fun x => mea1 x.1 + mea2 x.2) := by
 intro H enc cs xs hl hg hw
 cases xs with
 | nil => simp at hl
 | cons x xs =>
  have h0 := hg 0 (t, off) rfl
  simp only [getElem?_cons_zero] at h0
  simp only [map_cons, DataW.weightsEach, mem_append] at hw
  obtain ⟨a, ha, ga, ma⟩ := h1 H enc _ x h0 (fun m hm => hw m (.inl hm))
  obtain ⟨b, hb, gb, mb⟩ := h2 H enc cs xs (by simpa using hl) (fun i q hq => by have := hg (i + 1) q (by simpa using hq); simpa using this) (fun m hm => hw m (.inr hm))
  refine ⟨(a, b), ?_, ⟨ga, gb⟩, ?_⟩
  ·simp only
   rw [<- ha, <- hb, <- hm, hk, take_add, drop_drop]
  ·simp only [map_cons, Rows.uptoBulkAll]; omega
theorem RdN.struct {k : Nat} {t : TypeId} {L : List (TypeId × Nat)} {n : Nat} {α : Type} {f : α -> List Value} {good : α -> Prop} {mea : α -> Nat} (ht : fieldsOf P t = some L) (hc : P.cellsOf t = n) (h : RdNF P w k L 0 n f good mea) : RdN P w (k + 1) t f good (fun a => mea a + 1) := by
 intro H enc cs x hx hw
 unfold fieldsOf at ht
 split at ht
 ·next fs hu =>
  cases ht
  obtain ⟨xs, m, hm, rfl, hl, hxl, hg⟩ := DataW.trod_struct hu hx
  obtain rfl : m = k := by omega
  obtain ⟨a, ha, ga, ma⟩ := h H enc cs xs (by simpa using hxl) (fun i g hgi => by
    rw [getElem?_map, Option.map_eq_some_iff] at hgi
    obtain ⟨q, hq, rfl⟩ := hgi
    exact hg i q (by simpa using hq)) (fun q hq => hw q (by simp only [DataW.weights, hu]; rw [map_map] at hq; exact hq))
  refine ⟨a, ?_, ga, ?_⟩
  ·rw [<- ha, drop_zero, take_of_length_le (by omega)]
  ·simp only [Rows.uptoBulk]; omega
 ·cases ht
theorem RdN.map {n : Nat} {t : TypeId} {α β : Type} {f : α -> List Value} {good : α -> Prop} {mea : α -> Nat} {f2 : β -> List Value} {good2 : β -> Prop} {mea2 : β -> Nat} (h : RdN P w n t f good mea) (g : α -> β) (hf : ∀ a, good a -> f a = f2 (g a)) (hg : ∀ a, good a -> good2 (g a)) (hm : ∀ a, good a -> mea2 (g a) <= mea a) : RdN P w n t f2 good2 mea2 := by
 intro H enc cs x hx hw
 obtain ⟨a, ha, ga, ma⟩ := h H enc cs x hx hw
 exact ⟨g a, by rw [ha, hf a ga], hg a ga, Nat.le_trans (hm a ga) ma⟩
theorem RdN.pred {n : Nat} {t : TypeId} {α : Type} {f : α -> List Value} {good : α -> Prop} {mea : α -> Nat} (h : ∀ m, n = m + 1 -> RdN P w (m + 1) t f good mea) : RdN P w n t f good mea := by
 cases n with
 | zero => exact RdN.zero
 | succ m => exact h m rfl
theorem RdN.str {n : Nat} {t : TypeId} (ht : P.underlying t = some .string) : RdN P w n t (fun s : ByteArray => [.string s]) (fun s => s.size <= 140737488351232) (fun s => s.size + 1) := by
 intro H enc cs x h hw
 obtain ⟨s, rfl, hx, _⟩ := DataW.trod_string ht h
 subst hx
 refine ⟨s, rfl, ?_, ?_⟩
 ·have := hw s.data.toList.length (by simp [DataW.weights])
  simpa [reachBytes] using this
 ·simp only [Rows.uptoBulk]
  have : s.data.toList.length = s.size := rfl
  omega
theorem RdN.to {t : TypeId} {α : Type} {f : α -> List Value} {good : α -> Prop} {mea : α -> Nat} (h : ∀ n, RdN P w n t f good mea) : RdM P w t f good mea := fun H enc fuel cs x => h fuel H enc cs x
end
section
variable {w : World}
def InPr2 (x : Pr) : Prop := x.1.size <= 140737488351232 /\ x.2.size <= 140737488351232
def InAt (x : At) : Prop := x.1.size <= 140737488351232 /\ x.2.1.size <= 140737488351232 /\ x.2.2.size <= 140737488351232
theorem rdn_str (n : Nat) : RdN Tryz.prog w n ZxC (fun s : ByteArray => [.string s]) (fun s => s.size <= 140737488351232) (fun s => s.size + 1) := RdN.str (by kernel_rfl)
theorem rdn_name (n : Nat) : RdN Tryz.prog w n ZzB pr InPr2 (fun x => x.1.size + x.2.size + 1) := RdN.pred fun m _ =>
 (RdN.struct (L := [(ZxC, 0), (ZxC, 1)]) (n := 2) (by kernel_rfl) (by kernel_rfl) (RdNF.cons (k := 1) (n := 1) (by kernel_rfl) rfl (rdn_str m) (RdNF.cons (k := 1) (n := 0) (by kernel_rfl) rfl (rdn_str m) RdNF.nil))).map
  (fun x => (x.1, x.2.1)) (fun _ _ => rfl) (fun _ h => ⟨h.1, h.2.1⟩) (fun x _ => by simp only; omega)
theorem rdn_attr (n : Nat) : RdN Tryz.prog w n Zzu atc InAt ZxJ := RdN.pred fun m _ =>
 (RdN.struct (L := [(ZzB, 0), (ZxC, 2)]) (n := 3) (by kernel_rfl) (by kernel_rfl) (RdNF.cons (k := 2) (n := 1) (by kernel_rfl) rfl (rdn_name m) (RdNF.cons (k := 1) (n := 0) (by kernel_rfl) rfl (rdn_str m) RdNF.nil))).map
  (fun x => (x.1.1, x.1.2, x.2.1)) (fun _ _ => rfl) (fun _ h => ⟨h.1.1, h.1.2, h.2.1⟩) (fun x _ => by simp only [ZxJ]; omega)
theorem rdn_sl_attr (n : Nat) : RdN Tryz.prog w n Zzh SlV.cells (fun s : SlV At => s.Ok w 3 48 atc InAt) (fun s => (s.xs.map ZxJ).sum) := RdN.pred fun m _ => RdN.slice (by kernel_rfl) (by kernel_rfl) (by kernel_rfl) (rdn_attr m)
theorem rdn_kind (n : Nat) : RdN Tryz.prog w n ZqJ (fun n : Int => [.int .i64 n]) InI (fun _ => 1) := (RdM.of (Rd.i64 (by kernel_rfl))).at n
theorem rdn_node : ∀ n : Nat, RdN Tryz.prog w n Zz3 NV.cells (NV.Ok w) NV.mea := by
 intro n
 induction n using Nat.strongRecOn with
 | ind n ih =>
  refine RdN.pred fun m hm => ?_
  have hk : RdN Tryz.prog w m Zzg SlV.cells (fun s : SlV NV => s.Ok w 6 104 NV.cells (NV.Ok w)) (fun s => (s.xs.map NV.mea).sum) := RdN.pred fun k hk => RdN.slice (by kernel_rfl) (by kernel_rfl) (by kernel_rfl) (ih k (by omega))
  refine (RdN.struct (L := [(ZqJ, 0), (ZzB, 1), (Zzh, 3), (Zzg, 4), (ZxC, 5)]) (n := 6) (by kernel_rfl) (by kernel_rfl)
   (RdNF.cons (k := 1) (n := 5) (by kernel_rfl) rfl (rdn_kind m) (RdNF.cons (k := 2) (n := 3) (by kernel_rfl) rfl (rdn_name m) (RdNF.cons (k := 1) (n := 2) (by kernel_rfl) rfl (rdn_sl_attr m)
    (RdNF.cons (k := 1) (n := 1) (by kernel_rfl) rfl hk (RdNF.cons (k := 1) (n := 0) (by kernel_rfl) rfl (rdn_str m) RdNF.nil)))))).map
   (fun x => .mk x.1 x.2.1.1 x.2.1.2 x.2.2.2.2.1 x.2.2.1.p x.2.2.1.l x.2.2.1.c x.2.2.1.xs x.2.2.2.1.p x.2.2.2.1.l x.2.2.2.1.c x.2.2.2.1.xs) (fun _ _ => rfl) (fun x h => ?_) (fun x _ => ?_)
  ·obtain ⟨h1, h2, h3, h4, h5, _⟩ := h
   exact .mk h3.sl h3.nil h3.cap h4.sl h4.nil h4.cap h4.all
  ·simp only [NV.mea, meaL_sum]; omega
theorem rdm_node : RdM Tryz.prog w Zz3 NV.cells (NV.Ok w) NV.mea := RdN.to rdn_node
end
end Go.Proofs.YtlnfaaghdkngmaaGreatDoor
end
section
namespace Go.Proofs.YtlnfaaghdkngmaaGreatDoor
open Go Go.Vc Go.Lib Go.Shelf
def ren8 : Ren := ⟨fun x => x, fun n => if n = 5 then Yec else if n = 119 then T_256_uint8 else if n = 138 then Zy1 else YcX, fun n => if n = 3 then 0 else 1⟩
theorem u8Types : U8Types Tryz.prog ren8 := ⟨by kernel_rfl, by kernel_rfl, by kernel_rfl, by kernel_rfl⟩
theorem u8Extra : U8Extra Tryz.prog ren8 := ⟨by kernel_rfl, by kernel_rfl, by kernel_rfl, by kernel_rfl, by kernel_rfl, by kernel_rfl, by kernel_rfl⟩
theorem first_eq : Rows.laid_unicode_utf8_first = firstData := by kernel_rfl
theorem accept_eq : Rows.laid_unicode_utf8_acceptRanges (H := Unit) = acceptData := by kernel_rfl
end Go.Proofs.YtlnfaaghdkngmaaGreatDoor
end
section
namespace Go.Vc
open Go Go.Lib
end Go.Vc
namespace Go.Proofs.YtlnfaaghdkngmaaGreatDoor
open Go Go.Vc Go.Lib
section
variable {w : World}
theorem Ygi {w0 : World} {S : Nat -> Prop} {Γ : List Blk} (H : Hp w0 S w Γ) {k0 : Int} {u0 l0 t0 : ByteArray} {ap kp : Option Addr} {al ac kl kc : Nat}
  {K : Nat -> World -> Prop} (k : ∀ b w', Hp w0 S w' (⟨b, [.int .i64 k0, .string u0, .string l0, .slice ap al ac, .slice kp kl kc, .string t0], Zz3⟩ :: Γ) -> w.heap.size <= b -> Chg No w w' -> K b w') :
  newB w (.cells (Zy5 Tryz.prog Zz3) Zz3) fun b w1 => stN w1 ⟨b, 0, none⟩ ⟨[.int .i64 k0, .string u0, .string l0, .slice ap al ac, .slice kp kl kc, .string t0]⟩ 6 fun w2 => K b w2 := by
 rw [YbC]
 refine H.newB fun b w1 H1 hb hc1 => ?_
 refine H1.stN 0 rfl (off := 0) rfl (by simp) (Zy6 (.mk k0 u0 l0 t0 ap al ac [] kp kl kc [])) fun w2 H2 hc2 => ?_
 simp only [set_cons_zero] at H2
 exact k b w2 H2 hb (hc1.trans hc2 fun x hx e => by subst e; omega)
end
end Go.Proofs.YtlnfaaghdkngmaaGreatDoor
namespace Go.Proofs.YtlnfaaghdkngmaaGreatDoor
open Go Go.Vc Go.Lib Go.Shelf
def foldZ : List Int := match (Rows.laid_unicode_asciiFold (H := Unit)) with
 | .agg ds => ds.map fun d => match d with | .lit (.int _ z) => z | _ => 0
 | _ => []
theorem fold_eq : Rows.laid_unicode_asciiFold (H := Unit) = tabData .u16 foldZ := by kernel_rfl
theorem fold_of_reads {W : World} (h : VarReads Tryz.prog W "unicode.asciiFold" (tabData .u16 foldZ)) : FoldTab W := by
 obtain ⟨g, t, cs, fuel, p, hg, hty, hvar, hd⟩ := h
 have n : Tryz.prog.globalNamed "unicode.asciiFold" = some 5 := by kernel_rfl
 have y : (Tryz.prog.globals[5]?).map (·.type) = some T_128_uint16 := by kernel_rfl
 obtain rfl := Option.some.inj (n.symm.trans hg)
 obtain rfl := Option.some.inj (y.symm.trans hty)
 have hcs := cells_of_tab (n := 128) (e := T_uint16) (by kernel_rfl) (by kernel_rfl) (by kernel_rfl) (by kernel_rfl) hd
 intro q hq
 have hc := World.var?_cell hg hvar q.1
 rw [hc, <- Array.getElem?_toList, hcs, getElem?_map]
 simp only [mem_cons, not_mem_nil, or_false] at hq
 rcases hq with rfl | rfl | rfl | rfl | rfl | rfl
 ·exact congrArg (Option.map _) (show foldZ[120]? = some 88 by kernel_rfl)
 ·exact congrArg (Option.map _) (show foldZ[88]? = some 120 by kernel_rfl)
 ·exact congrArg (Option.map _) (show foldZ[109]? = some 77 by kernel_rfl)
 ·exact congrArg (Option.map _) (show foldZ[77]? = some 109 by kernel_rfl)
 ·exact congrArg (Option.map _) (show foldZ[108]? = some 76 by kernel_rfl)
 ·exact congrArg (Option.map _) (show foldZ[76]? = some 108 by kernel_rfl)
theorem maxl_of_shape {W : World} (h : W.ShapedOpen Tryz.prog) : ∃ m : Int, W.cell? ⟨2, 0, none⟩ = some (.int .i64 m) :=
 cell_of_shapedOpen_int (t := ZqJ) (zero := #[.int .i64 0]) h (of_decide_eq_true (by kernel_rfl)) (by kernel_rfl) rfl (by kernel_rfl) (by kernel_rfl) (by kernel_rfl)
theorem struct_of {P : Program} {t : TypeId} (h : (match P.underlying t with | some (.struct _) => true | _ => false) = true) : ∃ fs, P.underlying t = some (.struct fs) := by
 split at h
 ·next fs hf => exact ⟨fs, hf⟩
 ·cases h
end Go.Proofs.YtlnfaaghdkngmaaGreatDoor
end
section
namespace Go.Proofs.YtlnfaaghdkngmaaGreatDoor
open Go Go.Vc
theorem c_ref05_Same {a : Int} {b c : ByteArray} {d : Option Addr} {e f : Nat} {g : Option Addr} {i j : Nat} {k : ByteArray} {l : Int} {m n : ByteArray} {o : Option Addr} {p q : Nat} {r : Option Addr} {s t : Nat} {u : ByteArray} {w : World} {J : Bool -> World -> Prop} (h :
 newB w (.cells ⟨[.int .i64 a, .string b, .string c, .slice d e f, .slice g i j, .string k]⟩ Zz3) fun v x =>
 newB x (.cells ⟨[.int .i64 l, .string m, .string n, .slice o p q, .slice r s t, .string u]⟩ Zz3) fun y z =>
 Zzj (fun (b1 : Bool) (b2 : World) =>
 Zz2 b1 (
 J false b2) (
 ldS b2 ⟨v, 4, none⟩ fun aa ab ac =>
 ∃ b3 : Int -> World -> Nat -> Prop, (∃ b4, b3 (0 : Int) b2 b4) /\ ∀ b5 b6 b4, b3 b5 b6 b4 -> (
 Zz2 (decide (b5 < (ab : Int))) (
 ldS b6.drew ⟨v, 4, none⟩ fun ad ae af =>
 Zyx ad ae b5 fun ag =>
 ldI .i64 b6.drew ((ag.add (b5.toNat * 6))) fun ai =>
 ldStr b6.drew (((ag.add (b5.toNat * 6)).add 1)) fun aj =>
 ldStr b6.drew (((ag.add (b5.toNat * 6)).add 2)) fun ak =>
 ldS b6.drew (((ag.add (b5.toNat * 6)).add 3)) fun al am an =>
 ldS b6.drew (((ag.add (b5.toNat * 6)).add 4)) fun ao ap aq =>
 ldStr b6.drew (((ag.add (b5.toNat * 6)).add 5)) fun ar =>
 ldS b6.drew ⟨y, 4, none⟩ fun au av ax =>
 Zyx au av b5 fun ay =>
 ldI .i64 b6.drew ((ay.add (b5.toNat * 6))) fun az =>
 ldStr b6.drew (((ay.add (b5.toNat * 6)).add 1)) fun a0 =>
 ldStr b6.drew (((ay.add (b5.toNat * 6)).add 2)) fun a1 =>
 ldS b6.drew (((ay.add (b5.toNat * 6)).add 3)) fun a2 a3 a4 =>
 ldS b6.drew (((ay.add (b5.toNat * 6)).add 4)) fun a5 a6 a7 =>
 ldStr b6.drew (((ay.add (b5.toNat * 6)).add 5)) fun a8 =>
 Zz1 Tryz.prog YaP #[.agg ⟨[.int .i64 ai, .string aj, .string ak, .slice al am an, .slice ao ap aq, .string ar]⟩, .agg ⟨[.int .i64 az, .string a0, .string a1, .slice a2 a3 a4, .slice a5 a6 a7, .string a8]⟩] b6.drew [.one .bool] fun a9 ba =>
 Zz2 (!a9) (
 J false ba) (
 ∃ b7, b7 < b4 /\ b3 (w64 (b5 + (1 : Int))) ba b7)) (
 J true b6)))) fun bb =>
 ldI .i64 z ⟨v, 0, none⟩ fun bc =>
 ldI .i64 z ⟨y, 0, none⟩ fun bd =>
 Zz2 (bc != bd) (
 bb true z) (
 ldStr z ⟨v, 1, none⟩ fun be =>
 ldStr z ⟨v, 2, none⟩ fun bf =>
 ldStr z ⟨y, 1, none⟩ fun bg =>
 ldStr z ⟨y, 2, none⟩ fun bi =>
 Zz2 (!((be.toList == bg.toList) && ((bf.toList == bi.toList) && true))) (
 bb true z) (
 ldStr z ⟨v, 5, none⟩ fun bj =>
 ldStr z ⟨y, 5, none⟩ fun bk =>
 Zz2 (!(bj.toList == bk.toList)) (
 bb true z) (
 ldS z ⟨v, 3, none⟩ fun bl bm bn =>
 ldS z ⟨y, 3, none⟩ fun bo bp bq =>
 Zz1 Tryz.prog ZqU #[.slice bl bm bn, .slice bo bp bq] z [.one .bool] fun br bs =>
 Zz2 (!br) (
 bb true bs) (
 ldS bs ⟨v, 4, none⟩ fun bt bu bv =>
 ldS bs ⟨y, 4, none⟩ fun bx bz b0 =>
 bb ((bu : Int) != (bz : Int)) bs))))) : Zz1 Tryz.prog YaP #[.agg ⟨[.int .i64 a, .string b, .string c, .slice d e f, .slice g i j, .string k]⟩, .agg ⟨[.int .i64 l, .string m, .string n, .slice o p q, .slice r s t, .string u]⟩] w [.one .bool] J := Zz5 Tryz.func14 (.s .o (.s (.j [(41, .bool)] .o (.c (.s .o .o) .o)) (.s (.s .o (.b (.l [(45, .int .i64)] (.s .o (.s (.c .o .o) (.s (.b (.s .o (.s (.d (.take 0 (.take 1 (.take 2 (.take 3 (.take 4 (.take 5 (.take 6 (.take 7 (.take 8 (.take 9 (.eff 10 (.take 11 .done) .none)))))))))))) (.c (.s .o .o) .o)))) .o)))))) (.s .o .o)))) (Eq.mpr (by kernel_rfl) h)
end Go.Proofs.YtlnfaaghdkngmaaGreatDoor
end
section
namespace Go.Vc
open Go Go.Lib
def NV.giv (J : Int -> ByteArray -> ByteArray -> Option Addr -> Nat -> Nat -> Option Addr -> Nat -> Nat -> ByteArray -> World -> Prop) (w : World) : NV -> Prop
 | .mk k u l t ap al ac _ kp kl kc _ => J k u l ap al ac kp kl kc t w
theorem YdH : ∀ a b : List NV, NV.meaL (a ++ b) = NV.meaL a + NV.meaL b
 | [], _ => by simp [NV.meaL]
 | x :: r, b => by simp only [cons_append, NV.meaL, YdH r b]; omega
theorem YgO : ∀ (ks : List NV) (q : Nat), NV.meaL (ks.take q) <= NV.meaL ks
 | [], q => by simp
 | x :: r, 0 => by simp [NV.meaL]
 | x :: r, q + 1 => by have := YgO r q; simp only [take_succ_cons, NV.meaL]; omega
end Go.Vc
namespace Go.Proofs.YtlnfaaghdkngmaaGreatDoor
open Go Go.Vc Go.Lib
section
theorem newZ {w0 w : World} {S : Nat -> Prop} {Γ : List Blk} (H : Hp w0 S w Γ) {K : Nat -> World -> Prop}
  (k : ∀ b w', Hp w0 S w' (⟨b, [.int .i64 0, .string ByteArray.empty, .string ByteArray.empty, .slice none 0 0, .slice none 0 0, .string ByteArray.empty], Zz3⟩ :: Γ) -> w.heap.size <= b -> Chg No w w' -> K b w') :
  newB w (.cells (Zy5 Tryz.prog Zz3) Zz3) K := by
 rw [YbC]; exact H.newB k
end
end Go.Proofs.YtlnfaaghdkngmaaGreatDoor
namespace Go.Vc
open Go Go.Lib
def Yao : Option Addr -> List Nat
 | none => []
 | some a => [a.block]
mutual
/-- The blocks in which a tree lies. -/
def NV.bs : NV -> List Nat
 | .mk _ _ _ _ ap _ _ _ kp _ _ ks => Yao ap ++ (Yao kp ++ NV.bsL ks)
def NV.bsL : List NV -> List Nat
 | [] => []
 | x :: r => x.bs ++ NV.bsL r
end
theorem Yaf : ∀ a b : List NV, NV.bsL (a ++ b) = NV.bsL a ++ NV.bsL b
 | [], _ => rfl
 | x :: r, b => by simp only [cons_append, NV.bsL, Yaf r b, append_assoc]
theorem ZyP {x : NV} {b : Nat} : ∀ {ks : List NV}, x ∈ ks -> b ∈ x.bs -> b ∈ NV.bsL ks
 | y :: r, h, hb => by
  simp only [NV.bsL, mem_append]
  rcases mem_cons.1 h with rfl | h
  ·exact .inl hb
  ·exact .inr (ZyP h hb)
end Go.Vc
namespace Go.Proofs.YtlnfaaghdkngmaaGreatDoor
open Go Go.Vc Go.Lib
inductive Own (w : World) : NV -> Prop
 | mk {k : Int} {u l t : ByteArray} {ap : Option Addr} {al ac : Nat} {ats : List At} {kp : Option Addr} {kl kc : Nat} {ks : List NV}
   (ha : Row w Zzu 3 ap al ac (rows atc ats)) (hk : Row w Zz3 6 kp kl kc (rows NV.cells ks)) (hks : ∀ x ∈ ks, Own w x) : Own w (.mk k u l t ap al ac ats kp kl kc ks)
theorem Own.ok {w : World} : ∀ {v : NV}, Own w v -> NV.Ok w v := by
 intro v
 induction v using NV.ind with
 | h k u l t ap al ac ats kp kl kc ks ih =>
  intro h
  cases h with
  | mk ha hk hks => exact .mk ha.sl ha.none0 ha.le.1 hk.sl hk.none0 hk.le.1 fun x hx => ih x hx (hks x hx)
theorem Own.lt {w : World} : ∀ {v : NV}, Own w v -> ∀ b ∈ v.bs, b < w.heap.size := by
 intro v
 induction v using NV.ind with
 | h k u l t ap al ac ats kp kl kc ks ih =>
  intro h b hb
  cases h with
  | mk ha hk hks =>
   have hL : ∀ L : List NV, (∀ x ∈ L, x ∈ ks) -> b ∈ NV.bsL L -> b < w.heap.size := by
    intro L
    induction L with
    | nil => intro _ h; simp [NV.bsL] at h
    | cons x r ihr =>
     intro hs h
     simp only [NV.bsL, mem_append] at h
     rcases h with h | h
     ·exact ih x (hs x mem_cons_self) (hks x (hs x mem_cons_self)) b h
     ·exact ihr (fun y hy => hs y (mem_cons_of_mem _ hy)) h
   simp only [NV.bs, mem_append] at hb
   rcases hb with hb | hb | hb
   ·cases ap with
    | none => simp [Yao] at hb
    | some a => rw [mem_singleton.1 hb]; exact ha.lt a rfl
   ·cases kp with
    | none => simp [Yao] at hb
    | some a => rw [mem_singleton.1 hb]; exact hk.lt a rfl
   ·exact hL ks (fun _ h => h) hb
theorem Own.chg {w w' : World} {S : Nat -> Prop} (hc : Chg S w w') : ∀ {v : NV}, Own w v -> (∀ b ∈ v.bs, ¬ S b) -> Own w' v := by
 intro v
 induction v using NV.ind with
 | h k u l t ap al ac ats kp kl kc ks ih =>
  intro h hn
  cases h with
  | mk ha hk hks =>
   simp only [NV.bs, mem_append] at hn
   refine .mk (ha.chg hc fun a e => ?_) (hk.chg hc fun a e => ?_) fun x hx => ih x hx (hks x hx) fun b hb => hn b (.inr (.inr (ZyP hx hb)))
   ·subst e; exact hn _ (.inl (mem_singleton.2 rfl))
   ·subst e; exact hn _ (.inr (.inl (mem_singleton.2 rfl)))
section
end
end Go.Proofs.YtlnfaaghdkngmaaGreatDoor
namespace Go.Proofs.YtlnfaaghdkngmaaGreatDoor
open Go Go.Vc Go.Lib
section
end
end Go.Proofs.YtlnfaaghdkngmaaGreatDoor
namespace Go.Proofs.YtlnfaaghdkngmaaGreatDoor
open Go Go.Vc Go.Lib
section
variable {w : World}
theorem SameAttrs5_ok {p q : Option Addr} {l c l2 c2 : Nat} {X Y : List At} {J : Bool -> World -> Prop} (h : Sl w p l 3 (rows atc X)) (h2 : Sl w q l2 3 (rows atc Y)) (hm : l <= 1000000000) (k : ∀ w', Chg No w w' -> J (decide (X = Y)) w') :
  Zz1 Tryz.prog ZqU #[.slice p l c, .slice q l2 c2] w [.one .bool] J := by
 refine Yfv ?_
 have hl := h.row (Zx8 X) (by decide)
 have hl2 := h2.row (Zx8 Y) (by decide)
 refine Zzw (fun hne => ?_) (fun he => ?_)
 ·have e : decide (X = Y) = false := decide_eq_false fun e => hne (by rw [<- hl, <- hl2, e])
  rw [e] at k; exact k w (Chg.refl _ _)
 have hll : l = l2 := by omega
 subst hll
 refine ⟨fun x w' t => ∃ i : Nat, x = i /\ i <= l /\ t = l - i /\ Chg No w w' /\ ∀ k, k < i -> pf X k = pf Y k, ⟨_, 0, rfl, Nat.zero_le _, rfl, Chg.refl _ _, fun k h => by omega⟩, ?_⟩
 rintro x w' t ⟨i, rfl, hi, rfl, hc, hs⟩
 have hcd := hc.drew
 refine Zz6 (fun hlt => ?_) (fun hge => ?_)
 ·refine at_i (h.chg hcd (off_no _)) (n := i) rfl (by omega) fun a e0 e1 e2 => ZzQ e0 (ZzQ e1 (ZzQ e2 ?_))
  refine at_i (h2.chg hcd (off_no _)) (n := i) rfl (by omega) fun a' f0 f1 f2 => ZzQ f0 (ZzQ f1 (ZzQ f2 ?_))
  simp only [Ygs, Bool.and_true]
  refine Zzx (fun hf => ?_) (fun ht => ?_)
  ·have e : decide (X = Y) = false := decide_eq_false fun e => by
    rw [e] at hf; simp at hf
   rw [e] at k; exact k _ hcd
  ·refine ⟨_, by omega, i + 1, by rw [Zzt] <;> omega, by omega, rfl, hcd, fun k hk => ?_⟩
   by_cases e : k = i
   ·subst e
    simp only [Bool.and_eq_true, decide_eq_true_eq] at ht
    exact Prod.ext ht.1.1 (Prod.ext ht.1.2 ht.2)
   ·exact hs k (by omega)
 ·have e : decide (X = Y) = true := decide_eq_true (by
   apply ext_getElem?
   intro k
   by_cases hk : k < l
   ·rw [pf_get (by omega), pf_get (by omega), hs k (by omega)]
   ·rw [getElem?_eq_none (by omega), getElem?_eq_none (by omega)])
  rw [e] at k; exact k w' hc
theorem Same_ok : ∀ (x y : NV) {w : World} {J : Bool -> World -> Prop}, x.Ok w -> y.Ok w -> x.mea <= 100000000 -> (∀ r w', (r = true ↔ x.nd = y.nd) -> Chg No w w' -> J r w') -> Zz1 Tryz.prog YaP #[.agg ⟨x.cells⟩, .agg ⟨y.cells⟩] w [.one .bool] J := by
 intro x
 induction x using NV.ind with
 | h k u l t ap al ac ats kp kl kc ks ih =>
  intro y w J hx hy hm K
  cases y with
  | mk k' u' l' t' ap' al' ac' ats' kp' kl' kc' ks' =>
  have hE : (NV.mk k u l t ap al ac ats kp kl kc ks).nd = (NV.mk k' u' l' t' ap' al' ac' ats' kp' kl' kc' ks').nd ↔ k = k' /\ u = u' /\ l = l' /\ t = t' /\ ats = ats' /\ ks.map NV.nd = ks'.map NV.nd := by rw [ZzP, ZzP, Nd.mk.injEq]
  cases hx with
  | mk ha hn hac hk hkn hkc hks =>
  cases hy with
  | mk ha' hn' hac' hk' hkn' hkc' hks' =>
  have hkl := hk.row (Zzl ks) (by decide)
  have hkl' := hk'.row (Zzl ks') (by decide)
  have hal := ha.row (Zx8 ats) (by decide)
  have hlm := ZqO ks
  have hla := Zqg ats
  have hmm : NV.meaL ks <= 100000000 /\ al <= 100000000 := by simp only [NV.mea] at hm; omega
  refine c_ref05_Same ?_
  refine (Hp.start w No).newB fun b2 w1 H1 hb2 hc1 => ?_
  refine H1.newB fun b3 w2 H2 hb3 hc2 => ?_
  refine Zzb fun J41 hJ41 => ?_
  have hT : ∀ b w3, Chg No w2 w3 -> (b = true -> ¬ (NV.mk k u l t ap al ac ats kp kl kc ks).nd = (NV.mk k' u' l' t' ap' al' ac' ats' kp' kl' kc' ks').nd) -> (b = false -> (k = k' /\ u = u' /\ l = l' /\ t = t' /\ ats = ats') /\ kl = kl') -> J41 b w3 := by
   intro b w3 hc3 h1 h2
   subst hJ41
   have H3 := H2.step0 hc3
   refine Zz9 (fun h => K false w3 ⟨fun g => (by cases g), fun e => absurd e (h1 h)⟩ H3.chg) (fun h => ?_)
   obtain ⟨hs, hll⟩ := h2 h
   refine H3.ldS 1 rfl (off := 4) rfl ?_
   refine ⟨fun i w' m => ∃ q : Nat, i = q /\ q <= kl /\ m = kl - q /\ Chg No w3 w' /\ (ks.map NV.nd).take q = (ks'.map NV.nd).take q, ⟨_, 0, rfl, Nat.zero_le _, rfl, Chg.refl _ _, by simp⟩, ?_⟩
   rintro i w4 m ⟨q, rfl, hq, rfl, hc4, hpre⟩
   have H4 := H3.step0 hc4
   have H4d := H4.drew
   have c04 := H4d.chg
   refine Zz6 (fun hlt => ?_) (fun hge => ?_)
   ·refine H4d.ldS 1 rfl (off := 4) rfl ?_
    refine Zzr (hk.chg c04 (off_no _)) (Zzl ks) (by decide) (by omega) hlt fun a y1 _ hy1 hcs1 => ?_
    have hy1' : ks[q]? = some y1 := hy1
    have hm1 := mem_of_getElem? hy1'
    have hmea := YdG hm1
    have t1 : (ks.map NV.nd).take (q + 1) = (ks.map NV.nd).take q ++ [y1.nd] := Yai (by rw [getElem?_map, hy1']; rfl)
    have g1 : (ks.map NV.nd)[q]? = some y1.nd := by rw [getElem?_map, hy1']; rfl
    have ih1 := @ih y1 hm1
    have ok1 := (hks y1 hm1).chg0 c04
    cases y1 with
    | mk yk yu yl yt yap yal yac yas ykp ykl ykc yks =>
    refine ldNode hcs1 ?_
    refine H4d.ldS 0 rfl (off := 4) rfl ?_
    refine Zzr (hk'.chg c04 (off_no _)) (Zzl ks') (by decide) (by omega) (by omega) fun a' y2 _ hy2 hcs2 => ?_
    have hy2' : ks'[q]? = some y2 := hy2
    have hm2 := mem_of_getElem? hy2'
    have t2 : (ks'.map NV.nd).take (q + 1) = (ks'.map NV.nd).take q ++ [y2.nd] := Yai (by rw [getElem?_map, hy2']; rfl)
    have g2 : (ks'.map NV.nd)[q]? = some y2.nd := by rw [getElem?_map, hy2']; rfl
    have ok2 := (hks' y2 hm2).chg0 c04
    cases y2 with
    | mk zk zu zl zt zap zal zac zas zkp zkl zkc zks =>
    refine ldNode hcs2 ?_
    refine ih1 (NV.mk zk zu zl zt zap zal zac zas zkp zkl zkc zks) ok1 ok2 (by omega) fun r w5 hr hc5 => ?_
    refine Zzx (fun hf => ?_) (fun ht => ?_)
    ·refine K false w5 ⟨fun g => (by cases g), fun e => ?_⟩ (c04.trans0 hc5)
     have e6 := (hE.1 e).2.2.2.2.2
     rw [e6, g2] at g1
     rw [hr.2 (Option.some.inj g1).symm] at hf; cases hf
    ·exact ⟨_, by omega, q + 1, by rw [Zzt] <;> omega, by omega, rfl, (hc4.drew).trans0 hc5, by rw [t1, t2, hpre, hr.1 ht]⟩
   ·have hqk : q = kl := by omega
    subst hqk
    rw [take_of_length_le (by rw [length_map]; omega), take_of_length_le (by rw [length_map]; omega)] at hpre
    exact K true w4 ⟨fun _ => hE.2 ⟨hs.1, hs.2.1, hs.2.2.1, hs.2.2.2.1, hs.2.2.2.2, hpre⟩, fun _ => rfl⟩ H4.chg
  clear hJ41
  refine H2.ldI 1 rfl (off := 0) rfl ?_
  refine H2.ldI 0 rfl (off := 0) rfl ?_
  refine Zzw (fun h => hT true w2 (Chg.refl _ _) (fun _ e => h (hE.1 e).1) (fun h => by cases h)) (fun e1 => ?_)
  refine H2.ldStr 1 rfl (off := 1) rfl ?_
  refine H2.ldStr 1 rfl (off := 2) rfl ?_
  refine H2.ldStr 0 rfl (off := 1) rfl ?_
  refine H2.ldStr 0 rfl (off := 2) rfl ?_
  simp only [Ygs, Bool.and_true]
  refine Zzx (fun hf => hT true w2 (Chg.refl _ _) (fun _ e => ?_) (fun h => by cases h)) (fun e2 => ?_)
  ·obtain ⟨_, h1, h2, _⟩ := hE.1 e
   rw [decide_eq_true h1, decide_eq_true h2] at hf; cases hf
  rw [Bool.and_eq_true, decide_eq_true_eq, decide_eq_true_eq] at e2
  refine H2.ldStr 1 rfl (off := 5) rfl ?_
  refine H2.ldStr 0 rfl (off := 5) rfl ?_
  refine Zzx (fun hf => hT true w2 (Chg.refl _ _) (fun _ e => ?_) (fun h => by cases h)) (fun e3 => ?_)
  ·rw [decide_eq_true (hE.1 e).2.2.2.1] at hf; cases hf
  rw [decide_eq_true_eq] at e3
  refine H2.ldS 1 rfl (off := 3) rfl ?_
  refine H2.ldS 0 rfl (off := 3) rfl ?_
  refine SameAttrs5_ok (ha.chg H2.chg (off_no _)) (ha'.chg H2.chg (off_no _)) (by omega) fun w6 hc6 => ?_
  have H6 := H2.step0 hc6
  refine Zzx (fun hf => hT true w6 hc6 (fun _ e => ?_) (fun h => by cases h)) (fun e4 => ?_)
  ·rw [decide_eq_true (hE.1 e).2.2.2.2.1] at hf; cases hf
  rw [decide_eq_true_eq] at e4
  refine H6.ldS 1 rfl (off := 4) rfl ?_
  refine H6.ldS 0 rfl (off := 4) rfl ?_
  refine hT _ w6 hc6 (fun h e => ?_) (fun h => ⟨⟨e1, e2.1, e2.2, e3, e4⟩, ?_⟩)
  ·have e6 := congrArg length (hE.1 e).2.2.2.2.2
   rw [length_map, length_map, hkl, hkl'] at e6
   rw [bne_iff_ne] at h; omega
  ·rw [bne_eq_false_iff_eq] at h; omega
end
end Go.Proofs.YtlnfaaghdkngmaaGreatDoor
namespace Go.Proofs.YtlnfaaghdkngmaaGreatDoor
open Go Go.Vc Go.Lib
section
theorem Copy_ok : ∀ (v : NV) {w0 w : World} {J : Int -> ByteArray -> ByteArray -> Option Addr -> Nat -> Nat -> Option Addr -> Nat -> Nat -> ByteArray -> World -> Prop}, v.Ok w0 -> Chg No w0 w -> v.mea <= 10000000 ->
  (∀ v' w', v'.nd = v.nd -> Own w' v' -> v'.bs.Nodup -> (∀ b ∈ v'.bs, w.heap.size <= b) -> v'.mea = v.mea -> Chg No w w' -> v'.giv J w') ->
  Zz1 Tryz.prog ZxM #[.agg ⟨v.cells⟩] w [.agg [.int .i64, .str, .str, .slice, .slice, .str]] J := by
 intro v
 induction v using NV.ind with
 | h k u l t ap al ac ats kp kl kc ks ih =>
  intro w0 w J hv hc0 hm K
  cases hv with
  | mk ha hn hac hk hkn hkc hks =>
  have hkl := hk.row (Zzl ks) (by decide)
  have hal := ha.row (Zx8 ats) (by decide)
  have hlm := ZqO ks
  have hla := Zqg ats
  have hmm : NV.meaL ks < 10000000 /\ al < 10000000 := by simp only [NV.mea] at hm; omega
  refine c_tree_Copy ?_
  refine (Hp.start w No).newB fun b1 w1 H1 hb1 hc1 => ?_
  refine newZ H1 fun b2 w2 H2 hb2 hc2 => ?_
  have l21 := H2.lt 0 rfl
  have l11 := H2.lt 1 rfl
  have hs2 : w.heap.size <= w2.heap.size := H2.chg.size
  refine H2.ldS 1 rfl (off := 3) rfl ?_
  refine Zq4 slT_attr (Row.nil w2 Zzu 3) (ha.chg (hc0.trans0 H2.chg) (off_no _)) (YaY fun x _ => YgI x) hn (by omega) (by simp only [maxLen]; omega) fun p c wa hra0 hca hfa0 => ?_
  simp only [Nat.zero_add, nil_append] at hra0 ⊢
  have hfa : fresh w2 p := by
   rcases hfa0 with rfl | h
   ·intro a e; cases e
   ·exact h
  have Ha := H2.step hca (fun B _ hI => by obtain ⟨a, e, _⟩ := hI; cases e) (fun b _ hI => by obtain ⟨a, e, _⟩ := hI; cases e)
  refine Ha.stV 1 rfl (off := 3) (by simp) fun wb Hb hcb => ?_
  refine Hb.ldS 1 rfl (off := 4) rfl ?_
  refine Hb.stV 1 rfl (off := 4) (by simp) fun w3 H3 hc3 => ?_
  simp only [set_cons_succ, set_cons_zero] at H3
  have hra : Row w3 Zzu 3 p al c (rows atc ats) := (hra0.chg hcb fun a e h => by have := hfa a e; omega).chg hc3 fun a e h => by have := hfa a e; omega
  have hpa3 : ∀ a, p = some a -> a.block ≠ b1 := fun a e h => by have := hfa a e; omega
  have l1 := H3.lt 1 rfl
  have l2 := H3.lt 0 rfl
  have l4 := hra.lt
  have hs3 : w.heap.size <= w3.heap.size := H3.chg.size
  refine ⟨fun i w' m => ∃ (q : Nat) (p' : Option Addr) (c' : Nat) (L : List NV), i = q /\ q <= kl /\ m = kl - q /\
    Hp w No w' [⟨b2, [.int .i64 0, .string ByteArray.empty, .string ByteArray.empty, .slice none 0 0, .slice none 0 0, .string ByteArray.empty], Zz3⟩, ⟨b1, [.int .i64 k, .string u, .string l, .slice p al c, .slice p' L.length c', .string t], Zz3⟩] /\
    Row w' Zzu 3 p al c (rows atc ats) /\ Row w' Zz3 6 p' L.length c' (rows NV.cells L) /\ fresh w3 p' /\ w3.heap.size <= w'.heap.size /\ L.map NV.nd = (ks.map NV.nd).take q /\
    (∀ x ∈ L, Own w' x) /\ (NV.bsL L).Nodup /\ (∀ b ∈ NV.bsL L, w3.heap.size <= b /\ ¬ isB p' b /\ b < w'.heap.size) /\ NV.meaL L = NV.meaL (ks.take q),
   ⟨_, 0, none, 0, [], rfl, Nat.zero_le _, rfl, H3, hra, Row.nil _ _ _, (by intro a e; cases e), Nat.le_refl _, by simp, by simp, by simp [NV.bsL], by simp [NV.bsL], by simp [NV.meaL]⟩, ?_⟩
  rintro i w4 m ⟨q, p', c', L, rfl, hq, rfl, H4, hra4, hr4, hf4, hs4, hnd4, hL4, hno4, hbs4, hme4⟩
  have c04 := hc0.trans0 H4.chg
  have hlL := ZqO L
  have htk := YgO ks q
  have hp3 : ∀ b, isB p' b -> w3.heap.size <= b := by rintro b ⟨a, ha, rfl⟩; exact hf4 a ha
  refine Zz6 (fun hlt => ?_) (fun hge => ?_)
  ·refine Zzr (hk.chg c04 (off_no _)) (Zzl ks) (by decide) (by omega) hlt fun a y _ hy hcs => ?_
   rw [Int.toNat_natCast] at hy
   have hymem := mem_of_getElem? hy
   have ihy := @ih y hymem
   have hyok := hks y hymem
   have hym := YdG hymem
   have ht : (ks.map NV.nd).take (q + 1) = (ks.map NV.nd).take q ++ [y.nd] := Yai (by rw [getElem?_map, hy]; rfl)
   have htm : NV.meaL (ks.take (q + 1)) = NV.meaL (ks.take q) + y.mea := by rw [Yai hy, YdH]; simp [NV.meaL]
   have htk1 := YgO ks (q + 1)
   cases y with
   | mk yk yu yl yt yap yal yac yas ykp ykl ykc yks =>
   refine Yfe H4 hcs fun b5 w6 H6 hb5 hc6 => ?_
   have H6d := H6.drew
   refine H6d.ldS 2 rfl (off := 4) rfl ?_
   refine Zq8 H6d 0 rfl ?_
   refine ihy hyok ((c04.trans0 hc6).drew) (by omega) fun v' w9 hnd hok hbn hbl hmea hc9 => ?_
   cases v' with
   | mk zk zu zl zt zap zal zac zas zkp zkl zkc zks =>
   show _ /\ _
   have H9 := H6d.step0 hc9
   have c49 : Chg No w4 w9 := (hc6.drew).trans0 hc9
   have hsz9 := c49.size
   have hsz6 := hc6.size
   have hbl' : ∀ b ∈ (NV.mk zk zu zl zt zap zal zac zas zkp zkl zkc zks).bs, w4.heap.size <= b := fun b hb => Nat.le_trans hsz6 (hbl b hb)
   have hbt := hok.lt
   refine ⟨H9.cell 2 rfl rfl, rfl, ?_⟩
   refine newRow (sz := 6) (n := 1) (cs := (NV.mk zk zu zl zt zap zal zac zas zkp zkl zkc zks).cells) rfl (by decide) fun b27 w10 hr10 hb27 hc10 => ?_
   have H10 := H9.step0 hc10
   have hsz10 := hc10.size
   refine ⟨H10.cell 2 rfl rfl, ?_⟩
   have hr10' := (hr4.chg c49 (off_no _)).chg hc10 (off_no _)
   refine Zq4 YcZ hr10' hr10.sl (Zy6 (.mk zk zu zl zt zap zal zac zas zkp zkl zkc zks)) (by simp) (by omega) (by simp only [maxLen]; omega) fun p2 c2 w11 hr11 hc11 hf11 => ?_
   have hpl : ∀ b, isB p' b -> b < w4.heap.size := by rintro b ⟨a, ha, rfl⟩; exact hr4.lt a ha
   have H11 := H10.step hc11 (by
    intro B hB hI
    have h3 := hp3 _ hI
    have h4 := hpl _ hI
    simp only [mem_cons, not_mem_nil, or_false] at hB
    rcases hB with rfl | rfl | rfl <;> (simp only at h3 h4; omega)) (fun b hb hI => by have := hp3 _ hI; omega)
   refine H11.stV 2 rfl (off := 4) (by simp) fun w12 H12 hc12 => ?_
   simp only [set_cons_succ, set_cons_zero] at H12
   have hsz11 := hc11.size
   have hsz12 := hc12.size
   have hpf : ∀ b, isB p2 b -> isB p' b \/ w10.heap.size <= b := by
    rintro b ⟨a, ha, rfl⟩
    rcases hf11 with rfl | hf11
    ·exact .inl ⟨a, ha, rfl⟩
    ·exact .inr (hf11 a ha)
   refine ⟨_, by omega, q + 1, p2, c2, L ++ [.mk zk zu zl zt zap zal zac zas zkp zkl zkc zks], by rw [Zzt] <;> omega, by omega, rfl, ?_, ?_, ?_, ?_, by omega, ?_, ?_, ?_, ?_, ?_⟩
   ·rw [length_append]
    exact ⟨H12.chg, fun B hB => H12.is B (mem_cons_of_mem _ hB), (nodup_cons.1 H12.nd).2, fun B hB => H12.own B (mem_cons_of_mem _ hB)⟩
   ·refine (((hra4.chg c49 (off_no _)).chg hc10 (off_no _)).chg hc11 fun a e hI => ?_).chg hc12 fun a e h => hpa3 a e h
    have := hp3 _ hI; have := l4 a e; omega
   ·rw [length_append, ZzL, Zyy, rows_nil, append_nil]
    refine hr11.chg hc12 fun a e h => ?_
    rcases hpf a.block ⟨a, e, rfl⟩ with h3 | h3
    ·have := hp3 _ h3; omega
    ·omega
   ·intro a e
    rcases hpf a.block ⟨a, e, rfl⟩ with h3 | h3
    ·exact hp3 _ h3
    ·omega
   ·rw [map_append, hnd4, ht]
    simp only [map_cons, map_nil, hnd]
   ·intro x hx
    rcases mem_append.1 hx with hx | hx
    ·refine ((((hL4 x hx).chg c49 fun _ _ h => h.elim).chg hc10 fun _ _ h => h.elim).chg hc11 fun b hb hI => (hbs4 b (ZyP hx hb)).2.1 hI).chg hc12 fun b hb h => ?_
     have := (hbs4 b (ZyP hx hb)).1; omega
    ·rw [mem_singleton.1 hx]
     refine ((hok.chg hc10 fun _ _ h => h.elim).chg hc11 fun b hb hI => ?_).chg hc12 fun b hb h => ?_
     ·have := hbl' b hb; have := hpl b hI; omega
     ·have := hbl' b hb; omega
   ·rw [Yaf]
    simp only [NV.bsL, append_nil]
    refine nodup_append.2 ⟨hno4, hbn, fun a ha b hb e => ?_⟩
    subst e
    have := (hbs4 a ha).2.2; have := hbl' a hb; omega
   ·intro b hb
    rw [Yaf, mem_append] at hb
    simp only [NV.bsL, append_nil] at hb
    rcases hb with hb | hb
    ·obtain ⟨h1, h2, h3⟩ := hbs4 b hb
     refine ⟨h1, fun hI => ?_, by omega⟩
     rcases hpf b hI with h | h
     ·exact h2 h
     ·omega
    ·have h1 := hbl' b hb
     have h2 := hbt b hb
     refine ⟨by omega, fun hI => ?_, by omega⟩
     rcases hpf b hI with h | h
     ·have := hpl b h; omega
     ·omega
   ·rw [YdH, htm, hme4]
    simp only [NV.meaL]; omega
  ·have hqk : q = kl := by omega
   subst hqk
   rw [take_of_length_le (by rw [length_map]; omega)] at hnd4
   rw [take_of_length_le (by omega)] at hme4
   refine Zq8 H4 1 rfl ?_
   refine H4.stN 0 rfl (off := 0) rfl (by simp) (Zy6 (.mk k u l t p al c [] p' L.length c' [])) fun w13 H13 hc13 => ?_
   simp only [set_cons_zero] at H13
   refine Zq8 H13 0 rfl ?_
   have ebs : (NV.mk k u l t p al c ats p' L.length c' L).bs = Yao p ++ (Yao p' ++ NV.bsL L) := by simp only [NV.bs]
   have hA : ∀ b ∈ Yao p, w2.heap.size <= b /\ b < w3.heap.size := by
    intro b hb
    cases p with
    | none => simp [Yao] at hb
    | some a => rw [mem_singleton.1 hb]; exact ⟨hfa a rfl, l4 a rfl⟩
   have hB : ∀ b ∈ Yao p', w3.heap.size <= b /\ isB p' b := by
    intro b hb
    cases p' with
    | none => simp [Yao] at hb
    | some a => rw [mem_singleton.1 hb]; exact ⟨hf4 a rfl, ⟨a, rfl, rfl⟩⟩
   refine K (.mk k u l t p al c ats p' L.length c' L) w13 ?_ ?_ ?_ ?_ ?_ H13.chg
   ·rw [ZzP, ZzP, hnd4]
   ·refine .mk (hra4.chg hc13 fun a e h => ?_) (hr4.chg hc13 fun a e h => ?_) fun x hx => (hL4 x hx).chg hc13 fun b hb h => ?_
    ·have := hfa a e; omega
    ·have := hf4 a e; omega
    ·have := (hbs4 b (ZyP hx hb)).1; omega
   ·rw [ebs]
    refine nodup_append.2 ⟨by cases p <;> simp [Yao], nodup_append.2 ⟨by cases p' <;> simp [Yao], hno4, fun a ha b hb e => ?_⟩, fun a ha b hb e => ?_⟩
    ·subst e; exact (hbs4 a hb).2.1 (hB a ha).2
    ·subst e
     have := (hA a ha).2
     rcases mem_append.1 hb with hb | hb
     ·have := (hB a hb).1; omega
     ·have := (hbs4 a hb).1; omega
   ·rw [ebs]
    intro b hb
    rcases mem_append.1 hb with hb | hb
    ·have := (hA b hb).1; omega
    ·rcases mem_append.1 hb with hb | hb
     ·have := (hB b hb).1; omega
     ·have := (hbs4 b hb).1; omega
   ·simp only [NV.mea]; omega
end
end Go.Proofs.YtlnfaaghdkngmaaGreatDoor
namespace Go.Vc
open Go Go.Lib
def NV.kidz : NV -> List NV
 | .mk _ _ _ _ _ _ _ _ _ _ _ ks => ks
def kidV (v : NV) (i : Int) : Option NV := if i < 0 then none else v.kidz[i.toNat]?
def atV : NV -> List Int -> Option NV
 | v, [] => some v
 | v, i :: r => match kidV v i with
  | some y => atV y r
  | none => none
def YbS (n : Int) : List Value := [.int .i64 n]
end Go.Vc
namespace Go.Proofs.YtlnfaaghdkngmaaGreatDoor
open Go Go.Vc Go.Lib
section
variable {w : World}
theorem TreeAt_ok {v : NV} {pp : Option Addr} {pl pc : Nat} {zs : List Int} {J : Int -> ByteArray -> ByteArray -> Option Addr -> Nat -> Nat -> Option Addr -> Nat -> Nat -> ByteArray -> Int -> World -> Prop} (hv : v.Ok w) (hmv : v.mea <= 10000000) (hp : Sl w pp pl 1 (rows YbS zs)) (hm : pl <= 100000000)
    (K1 : ∀ y v' w', atV v zs = some y -> v'.nd = y.nd -> Own w' v' -> v'.bs.Nodup -> (∀ b ∈ v'.bs, w.heap.size <= b) -> v'.mea <= v.mea -> Chg No w w' -> v'.giv (fun a b c p l d q m e t w => J a b c p l d q m e t 0 w) w')
    (K2 : ∀ w', atV v zs = none -> Chg No w w' -> J 0 ByteArray.empty ByteArray.empty none 0 0 none 0 0 ByteArray.empty 35 w') :
    Zz1 Tryz.prog Yd3 #[.agg ⟨v.cells⟩, .slice pp pl pc] w [.agg [.int .i64, .str, .str, .slice, .slice, .str], .one (.int .i64)] J := by
  have hpl : zs.length = pl := hp.row (fun _ _ => rfl) (by decide)
  cases v with
  | mk k u l t ap al ac ats kp kl kc ks =>
  refine c_tree_At ?_
  refine (Hp.start w No).newB fun b2 w1 H1 hb2 hc1 => ?_
  refine newZ H1 fun b4 w2 H2 hb4 hc2 => ?_
  refine ⟨fun i w' m => ∃ (q : Nat) (y : NV), i = q /\ q <= pl /\ m = pl - q /\ NV.Ok w y /\ y.mea <= (NV.mk k u l t ap al ac ats kp kl kc ks).mea /\ atV (NV.mk k u l t ap al ac ats kp kl kc ks) zs = atV y (zs.drop q) /\
    Hp w No w' [⟨b4, [.int .i64 0, .string ByteArray.empty, .string ByteArray.empty, .slice none 0 0, .slice none 0 0, .string ByteArray.empty], Zz3⟩, ⟨b2, y.cells, Zz3⟩], ⟨_, 0, _, rfl, Nat.zero_le _, rfl, hv, Nat.le_refl _, rfl, H2⟩, ?_⟩
  rintro i w3 m ⟨q, y, rfl, hq, rfl, hy, hym, hat, H3⟩
  cases y with
  | mk yk yu yl yt yap yal yac yas ykp ykl ykc yks =>
  have hy0 := hy
  cases hy with
  | mk ha hn hac hk hkn hkc hks =>
  have hkl := hk.row (Zzl yks) (by decide)
  refine Zz6 (fun hlt => ?_) (fun hge => ?_)
  · refine Zzr (f := YbS) (hp.chg H3.chg (off_no _)) (fun _ _ => rfl) (by decide) (by omega) hlt fun a z _ hz hcs => ?_
    have hz' : zs[q]? = some z := hz
    have hdz : zs.drop q = z :: zs.drop (q + 1) := by
      obtain ⟨h1, rfl⟩ := List.getElem?_eq_some_iff.1 hz'
      exact List.drop_eq_getElem_cons h1
    rw [hdz] at hat
    refine ⟨_, Zzo hcs, ?_⟩
    refine Zzb fun J22 hJ22 => ?_
    have k22 : ∀ b : Bool, (b = true ↔ kidV (NV.mk yk yu yl yt yap yal yac yas ykp ykl ykc yks) z = none) -> J22 b w3 := by
      intro b hb
      subst hJ22
      refine Zz9 (fun e => ?_) (fun e => ?_)
      · refine H3.stN 0 rfl (off := 0) rfl (by simp) (Zy6 (.mk 0 Zzc Zzc Zzc none 0 0 [] none 0 0 [])) fun w5 H5 hc5 => ?_
        simp only [List.set_cons_zero] at H5
        refine Zq8 H5 0 rfl ?_
        exact K2 w5 (by rw [hat, atV, hb.1 e]) H5.chg
      · have hne : kidV (NV.mk yk yu yl yt yap yal yac yas ykp ykl ykc yks) z ≠ none := fun h => by rw [hb.2 h] at e; cases e
        obtain ⟨x, hx⟩ := Option.ne_none_iff_exists'.1 hne
        have hx0 := hx
        unfold kidV at hx
        split at hx
        · cases hx
        · next hz0 =>
          have hx' : yks[z.toNat]? = some x := hx
          have hlt' := (List.getElem?_eq_some_iff.1 hx').1
          refine H3.ldS 1 rfl (off := 4) rfl ?_
          refine Zzr (hk.chg H3.chg (off_no _)) (Zzl yks) (by decide) (by omega) (by omega) fun a' x2 _ hx2 hcs2 => ?_
          obtain rfl : x2 = x := by rw [hx'] at hx2; exact (Option.some.inj hx2).symm
          have hxm := List.mem_of_getElem? hx'
          have hxok := hks x2 hxm
          cases x2 with
          | mk xk xu xl xt xap xal xac xas xkp xkl xkc xks =>
          refine ldNode hcs2 ?_
          refine H3.stN 1 rfl (off := 0) rfl (by simp [NV.cells]) (Zy6 (.mk xk xu xl xt xap xal xac [] xkp xkl xkc [])) fun w6 H6 hc6 => ?_
          simp only [List.set_cons_succ, List.set_cons_zero] at H6
          exact ⟨_, by omega, q + 1, _, by rw [Zzt] <;> omega, by omega, rfl, hxok, by have := YdG hxm; simp only [NV.mea] at this hym ⊢; omega, by rw [hat, atV, hx0], H6⟩
    clear hJ22
    refine Zz6 (fun h => k22 true ⟨fun _ => by unfold kidV; rw [if_pos h], fun _ => rfl⟩) (fun h => ?_)
    refine H3.ldS 1 rfl (off := 4) rfl ?_
    refine k22 _ ?_
    unfold kidV
    rw [if_neg h, decide_eq_true_eq]
    show _ ↔ yks[z.toNat]? = none
    rw [List.getElem?_eq_none_iff]
    omega
  · have hqk : q = pl := by omega
    rw [List.drop_eq_nil_of_le (by omega)] at hat
    refine Zq8 H3 1 rfl ?_
    refine Copy_ok (NV.mk yk yu yl yt yap yal yac yas ykp ykl ykc yks) hy0 H3.chg (by omega) fun v' w7 hnd hown hnod hbl hmea hc7 => ?_
    cases v' with
    | mk zk zu zl zt zap zal zac zas zkp zkl zkc zks =>
    have H7 := H3.step0 hc7
    simp only [NV.giv]
    refine H7.stN 0 rfl (off := 0) rfl (by simp) (Zy6 (.mk zk zu zl zt zap zal zac [] zkp zkl zkc [])) fun w8 H8 hc8 => ?_
    simp only [List.set_cons_zero] at H8
    refine Zq8 H8 0 rfl ?_
    have hb4 := H3.lt 0 rfl
    exact K1 _ (NV.mk zk zu zl zt zap zal zac zas zkp zkl zkc zks) w8 (by rw [hat, atV]) hnd (hown.chg hc8 fun b hb e => by have := hbl b hb; omega) hnod (fun b hb => Nat.le_trans H3.chg.size (hbl b hb)) (by omega) H8.chg
end
end Go.Proofs.YtlnfaaghdkngmaaGreatDoor
end
section
namespace Go.Proofs.YtlnfaaghdkngmaaGreatDoor
open Go Go.Vc
theorem Zql {a : Option Addr} {b c : Nat} {d : Int} {e : Option Addr} {f g : Nat} {w : World} {J : Option Addr -> Nat -> Nat -> World -> Prop} (h :
 slS a b c 6 (some d) none none fun i j k =>
 Zz2 ((f : Int) == (0 : Int)) (
 J a b c w) (
 Zz2 (d == (b : Int)) (
 YcO Tryz.prog Zzg Zzg (.slice a b c) (.slice e f g) w fun l m n o =>
 J l m n o) (
 Zz2 (decide ((w64 ((b : Int) + (f : Int))) > (c : Int))) (
 slS a b c 6 none (some d) none fun p q r =>
 YcO Tryz.prog Zzg ZqJ (.slice p q r) (.int .i64 (w64 ((w64 ((b : Int) + (f : Int))) - d))) w fun s t u v =>
 slS s t u 6 (some d) none none fun x y z =>
 cpyJ Tryz.prog Zzg Zzg (.slice x y z) (.slice e f g) v fun aa ab =>
 slS s t u 6 (some (w64 (d + (f : Int)))) none none fun ac ad ae =>
 slS a b c 6 (some d) none none fun af ag ai =>
 cpyJ Tryz.prog Zzg Zzg (.slice ac ad ae) (.slice af ag ai) ab.drew fun aj ak =>
 J s t u ak) (
 slS a b c 6 none (some (w64 ((b : Int) + (f : Int)))) none fun al am an =>
 slS al am an 6 (some (w64 (d + (f : Int)))) none none fun ao ap aq =>
 extJ Tryz.prog ZyB #[.slice e f g, .slice ao ap aq] w [.one .bool] fun ar au =>
 Zz2 (!ar) (
 slS al am an 6 (some (w64 (d + (f : Int)))) none none fun av ax ay =>
 slS al am an 6 (some d) none none fun az a0 a1 =>
 cpyJ Tryz.prog Zzg Zzg (.slice av ax ay) (.slice az a0 a1) au.drew fun a2 a3 =>
 slS al am an 6 (some d) none none fun a4 a5 a6 =>
 cpyJ Tryz.prog Zzg Zzg (.slice a4 a5 a6) (.slice e f g) a3 fun a7 a8 =>
 J al am an a8) (
 slS al am an 6 (some (b : Int)) none none fun a9 ba bb =>
 cpyJ Tryz.prog Zzg Zzg (.slice a9 ba bb) (.slice e f g) au fun bc bd =>
 slS al am an 6 (some d) none none fun be bf bg =>
 Zz1 Tryz.prog Zxv #[.slice be bf bg, .int .i64 (f : Int)] bd [] fun bi =>
 J al am an bi))))) : Zz1 Tryz.prog ZzX #[.slice a b c, .int .i64 d, .slice e f g] w [.one .slice] J := Zz5 Tryz.func61 (.s .o (.s .o (.s .o (.s (.s .o (.c (.s .o .o) .o)) (.s .o (.s (.s .o (.c (.s .o .o) .o)) (.s (.s .o (.c (.s .o (.s .o (.s (.d (.take 0 (.take 1 (.take 2 (.take 3 (.take 4 (.take 5 (.take 6 (.take 7 (.eff 8 .done .none)))))))))) (.s .o .o)))) .o)) (.s .o (.s (.s .o (.c (.s (.d (.take 0 (.take 1 (.take 2 (.take 3 (.take 4 (.take 5 (.take 6 (.take 7 (.eff 8 .done .none)))))))))) (.s .o (.s .o .o))) .o)) (.s .o (.s .o (.s .o .o)))))))))))) (Eq.mpr (by kernel_rfl) h)
theorem Zqn {a : Option Addr} {b c : Nat} {d e : Int} {w : World} {J : Option Addr -> Nat -> Nat -> World -> Prop} (h :
 slS a b c 6 (some d) (some e) (some (b : Int)) fun f g i =>
 Zz2 (d == e) (
 J a b c w) (
 slS a b c 6 none (some d) none fun j k l =>
 slS a b c 6 (some e) none none fun m n o =>
 YcO Tryz.prog Zzg Zzg (.slice j k l) (.slice m n o) w.drew fun p q r s =>
 slS p q r 6 (some (q : Int)) (some (b : Int)) none fun t u v =>
 clrJ Tryz.prog Zzg (.slice t u v) s fun x =>
 J p q r x)) : Zz1 Tryz.prog ZzZ #[.slice a b c, .int .i64 d, .int .i64 e] w [.one .slice] J := Zz5 Tryz.func62 (.s .o (.s .o (.s (.s .o (.c (.s .o .o) .o)) (.s .o (.s (.d (.take 0 (.take 1 (.take 2 (.take 3 (.take 4 (.take 5 (.eff 6 (.take 7 .done) .none)))))))) (.s .o (.s .o .o))))))) (Eq.mpr (by kernel_rfl) h)
theorem Zqm {a : Option Addr} {b c : Nat} {d : Int} {e : Option Addr} {f g : Nat} {w : World} {J : Option Addr -> Nat -> Nat -> World -> Prop} (h :
 slS a b c 3 (some d) none none fun i j k =>
 Zz2 ((f : Int) == (0 : Int)) (
 J a b c w) (
 Zz2 (d == (b : Int)) (
 YcO Tryz.prog Zzh Zzh (.slice a b c) (.slice e f g) w fun l m n o =>
 J l m n o) (
 Zz2 (decide ((w64 ((b : Int) + (f : Int))) > (c : Int))) (
 slS a b c 3 none (some d) none fun p q r =>
 YcO Tryz.prog Zzh ZqJ (.slice p q r) (.int .i64 (w64 ((w64 ((b : Int) + (f : Int))) - d))) w fun s t u v =>
 slS s t u 3 (some d) none none fun x y z =>
 cpyJ Tryz.prog Zzh Zzh (.slice x y z) (.slice e f g) v fun aa ab =>
 slS s t u 3 (some (w64 (d + (f : Int)))) none none fun ac ad ae =>
 slS a b c 3 (some d) none none fun af ag ai =>
 cpyJ Tryz.prog Zzh Zzh (.slice ac ad ae) (.slice af ag ai) ab.drew fun aj ak =>
 J s t u ak) (
 slS a b c 3 none (some (w64 ((b : Int) + (f : Int)))) none fun al am an =>
 slS al am an 3 (some (w64 (d + (f : Int)))) none none fun ao ap aq =>
 extJ Tryz.prog ZyC #[.slice e f g, .slice ao ap aq] w [.one .bool] fun ar au =>
 Zz2 (!ar) (
 slS al am an 3 (some (w64 (d + (f : Int)))) none none fun av ax ay =>
 slS al am an 3 (some d) none none fun az a0 a1 =>
 cpyJ Tryz.prog Zzh Zzh (.slice av ax ay) (.slice az a0 a1) au.drew fun a2 a3 =>
 slS al am an 3 (some d) none none fun a4 a5 a6 =>
 cpyJ Tryz.prog Zzh Zzh (.slice a4 a5 a6) (.slice e f g) a3 fun a7 a8 =>
 J al am an a8) (
 slS al am an 3 (some (b : Int)) none none fun a9 ba bb =>
 cpyJ Tryz.prog Zzh Zzh (.slice a9 ba bb) (.slice e f g) au fun bc bd =>
 slS al am an 3 (some d) none none fun be bf bg =>
 Zz1 Tryz.prog Zxw #[.slice be bf bg, .int .i64 (f : Int)] bd [] fun bi =>
 J al am an bi))))) : Zz1 Tryz.prog ZzY #[.slice a b c, .int .i64 d, .slice e f g] w [.one .slice] J := Zz5 Tryz.func121 (.s .o (.s .o (.s .o (.s (.s .o (.c (.s .o .o) .o)) (.s .o (.s (.s .o (.c (.s .o .o) .o)) (.s (.s .o (.c (.s .o (.s .o (.s (.d (.take 0 (.take 1 (.take 2 (.take 3 (.take 4 (.take 5 (.take 6 (.take 7 (.eff 8 .done .none)))))))))) (.s .o .o)))) .o)) (.s .o (.s (.s .o (.c (.s (.d (.take 0 (.take 1 (.take 2 (.take 3 (.take 4 (.take 5 (.take 6 (.take 7 (.eff 8 .done .none)))))))))) (.s .o (.s .o .o))) .o)) (.s .o (.s .o (.s .o .o)))))))))))) (Eq.mpr (by kernel_rfl) h)
theorem Zqo {a : Option Addr} {b c : Nat} {d e : Int} {w : World} {J : Option Addr -> Nat -> Nat -> World -> Prop} (h :
 slS a b c 3 (some d) (some e) (some (b : Int)) fun f g i =>
 Zz2 (d == e) (
 J a b c w) (
 slS a b c 3 none (some d) none fun j k l =>
 slS a b c 3 (some e) none none fun m n o =>
 YcO Tryz.prog Zzh Zzh (.slice j k l) (.slice m n o) w.drew fun p q r s =>
 slS p q r 3 (some (q : Int)) (some (b : Int)) none fun t u v =>
 clrJ Tryz.prog Zzh (.slice t u v) s fun x =>
 J p q r x)) : Zz1 Tryz.prog Zy0 #[.slice a b c, .int .i64 d, .int .i64 e] w [.one .slice] J := Zz5 Tryz.func122 (.s .o (.s .o (.s (.s .o (.c (.s .o .o) .o)) (.s .o (.s (.d (.take 0 (.take 1 (.take 2 (.take 3 (.take 4 (.take 5 (.eff 6 (.take 7 .done) .none)))))))) (.s .o (.s .o .o))))))) (Eq.mpr (by kernel_rfl) h)
theorem Zye {a : Option Addr} {b c : Nat} {d e : ByteArray} {w : World} {J : Int -> Bool -> World -> Prop} (h :
 newB w (.cells ⟨[.string d, .string e]⟩ ZzB) fun f g =>
 ∃ ag : Int -> Int -> World -> Nat -> Prop, (∃ ai, ag (0 : Int) (b : Int) g ai) /\ ∀ (aa : Int) (ab : Int) (ac : World) (ai : Nat), ag aa ab ac ai -> (
 Zz2 (decide (aa < ab)) (
 0 <= (1 : Int) /\
 Zyx a b (w64 (Yc8 .u64 (IntKind.u64.wrap (w64 (aa + ab))) (1 : Int))) fun i =>
 ldStr ac.drew ((i.add ((w64 (Yc8 .u64 (IntKind.u64.wrap (w64 (aa + ab))) (1 : Int))).toNat * 3))) fun j =>
 ldStr ac.drew (((i.add ((w64 (Yc8 .u64 (IntKind.u64.wrap (w64 (aa + ab))) (1 : Int))).toNat * 3)).add 1)) fun k =>
 ldStr ac.drew (((i.add ((w64 (Yc8 .u64 (IntKind.u64.wrap (w64 (aa + ab))) (1 : Int))).toNat * 3)).add 2)) fun l =>
 ldStr ac.drew ⟨f, 0, none⟩ fun m =>
 ldStr ac.drew ⟨f, 1, none⟩ fun n =>
 Zz1 Tryz.prog Yal #[.agg ⟨[.string j, .string k, .string l]⟩, .agg ⟨[.string m, .string n]⟩] ac.drew [.one (.int .i64)] fun o p =>
 Zz2 (decide (o < (0 : Int))) (
 ∃ aj, aj < ai /\ ag (w64 ((w64 (Yc8 .u64 (IntKind.u64.wrap (w64 (aa + ab))) (1 : Int))) + (1 : Int))) ab p aj) (
 ∃ aj, aj < ai /\ ag aa (w64 (Yc8 .u64 (IntKind.u64.wrap (w64 (aa + ab))) (1 : Int))) p aj)) (
 Zzj (fun (ad : Int) (ae : Bool) (af : World) =>
 J ad ae af) fun q =>
 Zz2 (decide (aa < (b : Int))) (
 Zyx a b aa fun r =>
 ldStr ac.drew ((r.add (aa.toNat * 3))) fun s =>
 ldStr ac.drew (((r.add (aa.toNat * 3)).add 1)) fun t =>
 ldStr ac.drew (((r.add (aa.toNat * 3)).add 2)) fun u =>
 ldStr ac.drew ⟨f, 0, none⟩ fun v =>
 ldStr ac.drew ⟨f, 1, none⟩ fun x =>
 Zz1 Tryz.prog Yal #[.agg ⟨[.string s, .string t, .string u]⟩, .agg ⟨[.string v, .string x]⟩] ac.drew [.one (.int .i64)] fun y z =>
 q aa (y == (0 : Int)) z) (
 q aa false ac.drew)))) : Zz1 Tryz.prog Zzq #[.slice a b c, .agg ⟨[.string d, .string e]⟩, .func (.func 120) #[] #[]] w [.one (.int .i64), .one .bool] J := Zz5 Tryz.func119 (.s .o (.s .o (.s .o (.s (.b (.l [(9, .int .i64), (10, .int .i64)] (.s (.s .o (.c .o .o)) (.b (.s .o (.s (.d (.take 0 (.take 1 (.take 2 (.take 3 (.take 4 (.take 5 (.eff 6 (.take 7 .done) .none)))))))) (.c .o .o))))))) (.j [(6, .int .i64), (7, .bool)] (.d (.take 0 (.take 1 (.take 2 (.take 3 (.take 4 (.take 5 (.take 6 (.take 7 (.take 8 (.take 9 (.take 10 (.eff 11 (.take 12 (.take 13 (.take 14 (.take 15 .done)))) .none))))))))))))) .o))))) (Eq.mpr (by kernel_rfl) h)
theorem c_edit_attr_1 {a b c d e : ByteArray} {w : World} {J : Int -> World -> Prop} (h :
 newB w (.cells ⟨[.string a, .string b, .string c]⟩ Zzu) fun f g =>
 newB g (.cells ⟨[.string d, .string e]⟩ ZzB) fun i j =>
 ldStr j ⟨f, 0, none⟩ fun k =>
 ldStr j ⟨f, 1, none⟩ fun l =>
 ldStr j ⟨i, 0, none⟩ fun m =>
 ldStr j ⟨i, 1, none⟩ fun n =>
 Zz1 Tryz.prog ZqT #[.agg ⟨[.string k, .string l]⟩, .agg ⟨[.string m, .string n]⟩] j [.one (.int .i64)] fun o p =>
 J o p) : Zz1 Tryz.prog Yal #[.agg ⟨[.string a, .string b, .string c]⟩, .agg ⟨[.string d, .string e]⟩] w [.one (.int .i64)] J := Zz5 Tryz.func120 (.s .o (.s .o .o)) (Eq.mpr (by kernel_rfl) h)
end Go.Proofs.YtlnfaaghdkngmaaGreatDoor
end
section
namespace Go.Vc
open Go Go.Lib
def addrAt : Addr -> NV -> List Int -> Option (Addr × NV)
 | a, v, [] => some (a, v)
 | a, .mk _ _ _ _ _ _ _ _ kp _ _ ks, i :: r => if i < 0 then none else match ks[i.toNat]?, kp with
  | some x, some b => addrAt ⟨b.block, b.off + i.toNat * 6, b.spot⟩ x r
  | _, _ => none
def setAt : Nd -> List Int -> Nd -> Nd
 | _, [], y => y
 | .mk k u l t ats ks, i :: r, y => match ks[i.toNat]? with
  | some x => .mk k u l t ats (ks.set i.toNat (setAt x r y))
  | none => .mk k u l t ats ks
theorem bsL_set {ks : List NV} {i : Nat} {x y : NV} (h : ks[i]? = some x) : NV.bsL (ks.set i y) = NV.bsL (ks.take i) ++ (y.bs ++ NV.bsL (ks.drop (i + 1))) := by
  obtain ⟨hi, rfl⟩ := List.getElem?_eq_some_iff.1 h
  rw [List.set_eq_take_append_cons_drop, if_pos hi, Yaf, NV.bsL]
theorem bsL_get {ks : List NV} {i : Nat} {x : NV} (h : ks[i]? = some x) : NV.bsL ks = NV.bsL (ks.take i) ++ (x.bs ++ NV.bsL (ks.drop (i + 1))) := by
  have e := bsL_set (y := x) h
  obtain ⟨hi, rfl⟩ := List.getElem?_eq_some_iff.1 h
  rwa [List.set_getElem_self] at e
theorem rows_set_same {α : Type} {f : α -> List Value} {L : List α} {i : Nat} {x y : α} (h : L[i]? = some x) (e : f y = f x) : rows f (L.set i y) = rows f L := by
  obtain ⟨hi, rfl⟩ := List.getElem?_eq_some_iff.1 h
  have h1 : rows f (L.set i y) = rows f (L.take i) ++ (f y ++ rows f (L.drop (i + 1))) := by
    rw [List.set_eq_take_append_cons_drop, if_pos hi, ZzL, Zyy]
  have h2 : rows f L = rows f (L.take i) ++ (f L[i] ++ rows f (L.drop (i + 1))) := by
    conv => lhs; rw [<- List.take_append_drop i L, List.drop_eq_getElem_cons hi]
    rw [ZzL, Zyy]
  rw [h1, h2, e]
theorem Zys (v : NV) : v.cells.length = 6 := by cases v; rfl
theorem cellsAt_eq {w : World} {a : Addr} {xs ys : List Value} (h1 : Zzn w a xs) (h2 : Zzn w a ys) (h : xs.length = ys.length) : xs = ys := by
 refine ext_getElem? fun j => ?_
 rcases Nat.lt_or_ge j xs.length with hj | hj
 ·have a1 := h1 j _ (getElem?_eq_getElem hj)
  have a2 := h2 j _ (getElem?_eq_getElem (show j < ys.length by omega))
  rw [getElem?_eq_getElem hj, getElem?_eq_getElem (show j < ys.length by omega)]
  rw [a1] at a2; exact a2
 ·rw [getElem?_eq_none hj, getElem?_eq_none (by omega)]
theorem YcY {cs vs : List Value} {off : Nat} (ho : off + vs.length <= cs.length) (j : Nat) : (splice cs off vs)[j]? = if off <= j /\ j < off + vs.length then vs[j - off]? else cs[j]? := by
 unfold splice
 by_cases h1 : j < off
 ·rw [if_neg (by omega), append_assoc, getElem?_append_left (by rw [length_take]; omega), getElem?_take_of_lt h1]
 ·by_cases h2 : j < off + vs.length
  ·rw [if_pos ⟨by omega, h2⟩, getElem?_append_left (by rw [length_append, length_take]; omega), getElem?_append_right (by rw [length_take]; omega), length_take]
   congr 1; omega
  ·rw [if_neg (by omega), getElem?_append_right (by rw [length_append, length_take]; omega), length_append, length_take, getElem?_drop]
   congr 1; omega
end Go.Vc
namespace Go.Proofs.YtlnfaaghdkngmaaGreatDoor
open Go Go.Vc Go.Lib
structure TreeAt (w : World) (a : Addr) (v : NV) : Prop where
 cs : Zzn w a v.cells
 own : Own w v
 nd : v.bs.Nodup
 off : ¬ a.block ∈ v.bs
section
variable {w w' : World}
theorem YcQ {v : NV} {b : Addr} {y : NV} : ∀ {r : List Int} {a : Addr} {v : NV}, addrAt a v r = some (b, y) -> (r = [] /\ b = a /\ y = v) \/ (b.block ∈ v.bs /\ ∀ z ∈ y.bs, z ∈ v.bs)
 | [], a, v, h => by simp only [addrAt, Option.some.injEq, Prod.mk.injEq] at h; exact .inl ⟨rfl, h.1.symm, h.2.symm⟩
 | i :: r, a, .mk k u l t ap al ac ats kp kl kc ks, h => by
  right
  simp only [addrAt] at h
  split at h
  ·cases h
  split at h
  ·next x c hx =>
   have hm := mem_of_getElem? hx
   simp only [NV.bs, mem_append]
   rcases YcQ (v := v) h with ⟨rfl, rfl, rfl⟩ | ⟨h1, h2⟩
   ·exact ⟨.inr (.inl (mem_singleton.2 rfl)), fun z hz => .inr (.inr (ZyP hm hz))⟩
   ·exact ⟨.inr (.inr (ZyP hm h1)), fun z hz => .inr (.inr (ZyP hm (h2 z hz)))⟩
  ·cases h
theorem TreeAt.upd {b : Addr} {y y' : NV} {cs : List Value} {e : TypeId} (hc : Chg (fun z => z = b.block \/ z ∈ y.bs) w w') (hb : w.heap[b.block]? = some (.cells ⟨cs⟩ e (0, 0))) (hb' : w'.heap[b.block]? = some (.cells ⟨splice cs b.off y'.cells⟩ e (0, 0))) (hbo : b.off + 6 <= cs.length)
    (ho : Own w' y') (hn : y'.bs.Nodup) (hbs : ∀ z ∈ y'.bs, z ∈ y.bs \/ w.heap.size <= z) :
    ∀ {r : List Int} {a : Addr} {v : NV}, a.spot = none -> TreeAt w a v -> addrAt a v r = some (b, y) ->
      ∃ v', TreeAt w' a v' /\ v'.nd = setAt v.nd r y'.nd /\ (∀ z ∈ v'.bs, z ∈ v.bs \/ w.heap.size <= z)
  | [], a, v, hs, hT, h => by
    simp only [addrAt, Option.some.injEq, Prod.mk.injEq] at h
    obtain ⟨rfl, rfl⟩ := h
    refine ⟨y', ⟨?_, ho, hn, fun hI => ?_⟩, rfl, hbs⟩
    · have h1 := ZzT (off := a.off) hb'
      obtain ⟨ab, ao, asx'⟩ := a
      simp only at hs h1 hbo
      subst hs
      have h2 := ZzS 6 h1
      intro j x hx
      refine h2 j x ?_
      have hj := (List.getElem?_eq_some_iff.1 hx).1
      rw [Zys] at hj
      rw [List.getElem?_take_of_lt hj, List.getElem?_drop, YcY (by rw [Zys]; exact hbo), if_pos (by rw [Zys]; omega), Nat.add_sub_cancel_left]
      exact hx
    · rcases hbs _ hI with h | h
      · exact hT.off h
      · have := Zy7 hb; omega
  | i :: r, a, .mk k u l t ap al ac ats kp kl kc ks, hs, hT, h => by
    have hin := YcQ (v := y) h
    simp only [addrAt] at h
    split at h
    · cases h
    rename_i hi0
    split at h
    rotate_left
    · cases h
    rename_i x c hx
    have hxm := List.mem_of_getElem? hx
    have hlt := hT.own.lt
    obtain ⟨hTc, hTo, hTn, hTf⟩ := hT
    cases hTo with
    | mk ha hk hks =>
    have hkl := hk.sl.row (Zzl ks) (by decide)
    have hil := (List.getElem?_eq_some_iff.1 hx).1
    obtain ⟨kb, rest, e1, hkb, hlc, hcm, hcl⟩ := hk.some0 (show kl ≠ 0 by omega)
    cases e1
    simp only [Nat.zero_add] at h
    have ebs : (NV.mk k u l t ap al ac ats (some ⟨kb, 0, none⟩) kl kc ks).bs = Yao ap ++ ([kb] ++ NV.bsL ks) := by simp only [NV.bs, Yao]
    rw [ebs] at hTn hTf hlt
    obtain ⟨hnA, hnR, hdA⟩ := List.nodup_append.1 hTn
    obtain ⟨hnK, hnL, hdK⟩ := List.nodup_append.1 hnR
    have eL := bsL_get hx
    rw [eL] at hnL
    obtain ⟨hn1, hn2, hd1⟩ := List.nodup_append.1 hnL
    obtain ⟨hn3, hn4, hd2⟩ := List.nodup_append.1 hn2
    have hxL : ∀ z ∈ x.bs, z ∈ NV.bsL ks := fun z hz => ZyP hxm hz
    have hkx : ¬ kb ∈ x.bs := fun hh => hdK kb (List.mem_singleton.2 rfl) kb (hxL kb hh) rfl
    have hrl : (rows NV.cells ks).length = ks.length * 6 := Zy9 (Zzl ks)
    have hxc : Zzn w ⟨kb, i.toNat * 6, none⟩ x.cells := by
      have h1 := ZzT (off := i.toNat * 6) hkb
      have h2 := ZzS 6 h1
      intro j z hz
      have hj := (List.getElem?_eq_some_iff.1 hz).1
      rw [Zys] at hj
      refine h2 j z ?_
      rw [List.getElem?_take_of_lt hj, List.getElem?_drop, List.getElem?_append_left (by rw [hrl]; have := Nat.mul_le_mul_right 6 (show i.toNat + 1 <= ks.length from hil); omega), Yfb (Zzl ks) hx hj]
      exact hz
    have hTx : TreeAt w ⟨kb, i.toNat * 6, none⟩ x := ⟨hxc, hks x hxm, hn3, hkx⟩
    obtain ⟨x', hTx', hxnd, hxbs⟩ := TreeAt.upd hc hb hb' hbo ho hn hbs (r := r) (a := ⟨kb, i.toNat * 6, none⟩) (v := x) rfl hTx h
    -- what has changed lies in the list of kids, or below this kid
    have hch : Chg (fun z => z = kb \/ z ∈ x.bs) w w' := hc.mono fun z hz hI => by
      rcases YcQ (v := y) h with ⟨_, rfl, rfl⟩ | ⟨g1, g2⟩
      · exact hI
      · rcases hI with rfl | hI
        · exact .inr g1
        · exact .inr (g2 z hI)
    have offA : ∀ z ∈ Yao ap, ¬ (z = kb \/ z ∈ x.bs) := fun z hz hI => by
      rcases hI with rfl | hI
      · exact hdA z hz z (List.mem_append_left _ (List.mem_singleton.2 rfl)) rfl
      · exact hdA z hz z (List.mem_append_right _ (hxL z hI)) rfl
    have hcl' : (rows NV.cells (ks.set i.toNat x')).length = ks.length * 6 := by rw [Zy9 (Zzl _), List.length_set]
    have hk' : Row w' Zz3 6 (some ⟨kb, 0, none⟩) kl kc (rows NV.cells (ks.set i.toNat x')) := by
      refine ⟨by rw [hcl', hkl], .inr ⟨kb, rest, rfl, ?_, hlc, hcm, by rw [List.length_append, hcl', <- hrl, <- List.length_append]; exact hcl⟩⟩
      cases r with
      | nil =>
        simp only [addrAt, Option.some.injEq, Prod.mk.injEq] at h
        obtain ⟨rfl, rfl⟩ := h
        simp only at hb hb' hbo
        rw [hkb] at hb
        simp only [Option.some.injEq, Obj.cells.injEq, Array.mk.injEq] at hb
        obtain ⟨rfl, rfl, _⟩ := hb
        have hx'y : x'.cells = y'.cells := by
          refine cellsAt_eq hTx'.cs ?_ (by rw [Zys, Zys])
          have h1 := ZzS 6 (ZzT (off := i.toNat * 6) hb')
          intro j z hz
          have hj := (List.getElem?_eq_some_iff.1 hz).1
          rw [Zys] at hj
          refine h1 j z ?_
          rw [List.getElem?_take_of_lt hj, List.getElem?_drop, YcY (by rw [Zys]; exact hbo), if_pos (by rw [Zys]; omega), Nat.add_sub_cancel_left]
          exact hz
        rw [hb', Yel (by rw [Zys, hrl]; have := Nat.mul_le_mul_right 6 (show i.toNat + 1 <= ks.length from hil); omega), <- hx'y, YgG (Zzl ks) hil (Zys x')]
      | cons j r' =>
        have hbx : b.block ∈ x.bs /\ ∀ z ∈ y.bs, z ∈ x.bs := by
          rcases YcQ (v := y) h with ⟨h0, _⟩ | g
          · cases h0
          · exact g
        have hkb' := hc.heap hkb (fun hI => by
          rcases hI with hI | hI
          · exact hkx (hI ▸ hbx.1)
          · exact hkx (hbx.2 _ hI))
        have hxx : x'.cells = x.cells := by
          refine cellsAt_eq hTx'.cs ?_ (by rw [Zys, Zys])
          have h1 := ZzS 6 (ZzT (off := i.toNat * 6) hkb')
          intro j z hz
          have hj := (List.getElem?_eq_some_iff.1 hz).1
          rw [Zys] at hj
          refine h1 j z ?_
          rw [List.getElem?_take_of_lt hj, List.getElem?_drop, List.getElem?_append_left (by rw [hrl]; have := Nat.mul_le_mul_right 6 (show i.toNat + 1 <= ks.length from hil); omega), Yfb (Zzl ks) hx hj]
          exact hz
        rw [hkb', rows_set_same hx hxx]
    have hL1 : ∀ z ∈ NV.bsL (ks.take i.toNat), z ∈ NV.bsL ks := fun z hz => by rw [eL]; exact List.mem_append_left _ hz
    have hL2 : ∀ z ∈ NV.bsL (ks.drop (i.toNat + 1)), z ∈ NV.bsL ks := fun z hz => by rw [eL]; exact List.mem_append_right _ (List.mem_append_right _ hz)
    have hltL : ∀ z ∈ NV.bsL ks, z < w.heap.size := fun z hz => hlt z (List.mem_append_right _ (List.mem_append_right _ hz))
    have ebs' : (NV.mk k u l t ap al ac ats (some ⟨kb, 0, none⟩) kl kc (ks.set i.toNat x')).bs = Yao ap ++ ([kb] ++ (NV.bsL (ks.take i.toNat) ++ (x'.bs ++ NV.bsL (ks.drop (i.toNat + 1))))) := by
      simp only [NV.bs, Yao, bsL_set hx]
    have hkblt : kb < w.heap.size := Zy7 hkb
    have hsub : ∀ z ∈ (NV.mk k u l t ap al ac ats (some ⟨kb, 0, none⟩) kl kc (ks.set i.toNat x')).bs, z ∈ Yao ap ++ ([kb] ++ NV.bsL ks) \/ w.heap.size <= z := by
      rw [ebs']
      intro z hz
      rcases List.mem_append.1 hz with hz | hz
      · exact .inl (List.mem_append_left _ hz)
      rcases List.mem_append.1 hz with hz | hz
      · exact .inl (List.mem_append_right _ (List.mem_append_left _ hz))
      rcases List.mem_append.1 hz with hz | hz
      · exact .inl (List.mem_append_right _ (List.mem_append_right _ (hL1 z hz)))
      rcases List.mem_append.1 hz with hz | hz
      · rcases hxbs z hz with h1 | h1
        · exact .inl (List.mem_append_right _ (List.mem_append_right _ (hxL z h1)))
        · exact .inr h1
      · exact .inl (List.mem_append_right _ (List.mem_append_right _ (hL2 z hz)))
    refine ⟨.mk k u l t ap al ac ats (some ⟨kb, 0, none⟩) kl kc (ks.set i.toNat x'), ⟨?_, .mk ?_ hk' ?_, ?_, ?_⟩, ?_, ?_⟩
    · exact hch.cells hTc (fun hI => hTf (by
        rcases hI with hI | hI
        · exact List.mem_append_right _ (List.mem_append_left _ (by rw [hI]; exact List.mem_singleton.2 rfl))
        · exact List.mem_append_right _ (List.mem_append_right _ (hxL _ hI))))
    · exact ha.chg hch fun a e => by subst e; exact offA _ (List.mem_singleton.2 rfl)
    · intro z hz
      obtain ⟨j, hj⟩ := List.mem_iff_getElem?.1 hz
      by_cases hji : j = i.toNat
      · subst hji
        rw [List.getElem?_set_self hil] at hj
        rw [<- Option.some.inj hj]; exact hTx'.own
      · rw [List.getElem?_set_ne (Ne.symm hji)] at hj
        have hzm := List.mem_of_getElem? hj
        refine (hks z hzm).chg hch fun q hq hI => ?_
        rcases hI with rfl | hI
        · exact hdK q (List.mem_singleton.2 rfl) q (ZyP hzm hq) rfl
        · rcases Nat.lt_or_ge j i.toNat with h1 | h1
          · have hzt : z ∈ ks.take i.toNat := by
              refine List.mem_of_getElem? (i := j) ?_
              rw [List.getElem?_take_of_lt h1]; exact hj
            exact hd1 q (ZyP hzt hq) q (List.mem_append_left _ hI) rfl
          · have hzt : z ∈ ks.drop (i.toNat + 1) := by
              refine List.mem_of_getElem? (i := j - (i.toNat + 1)) ?_
              rw [List.getElem?_drop, show i.toNat + 1 + (j - (i.toNat + 1)) = j by omega]; exact hj
            exact hd2 q hI q (ZyP hzt hq) rfl
    · rw [ebs']
      refine List.nodup_append.2 ⟨hnA, List.nodup_append.2 ⟨hnK, List.nodup_append.2 ⟨hn1, List.nodup_append.2 ⟨hTx'.nd, hn4, fun a1 h1 b1 h2 e => ?_⟩, fun a1 h1 b1 h2 e => ?_⟩, fun a1 h1 b1 h2 e => ?_⟩, fun a1 h1 b1 h2 e => ?_⟩
      · subst e
        rcases hxbs a1 h1 with g | g
        · exact hd2 a1 g a1 h2 rfl
        · have := hltL a1 (hL2 a1 h2); omega
      · subst e
        rcases List.mem_append.1 h2 with h2 | h2
        · rcases hxbs a1 h2 with g | g
          · exact hd1 a1 h1 a1 (List.mem_append_left _ g) rfl
          · have := hltL a1 (hL1 a1 h1); omega
        · exact hd1 a1 h1 a1 (List.mem_append_right _ h2) rfl
      · subst e
        rw [List.mem_singleton] at h1
        rcases List.mem_append.1 h2 with h2 | h2
        · exact hdK a1 (List.mem_singleton.2 h1) a1 (hL1 a1 h2) rfl
        rcases List.mem_append.1 h2 with h2 | h2
        · rcases hxbs a1 h2 with g | g
          · exact hkx (h1 ▸ g)
          · omega
        · exact hdK a1 (List.mem_singleton.2 h1) a1 (hL2 a1 h2) rfl
      · subst e
        have hlta : a1 < w.heap.size := hlt a1 (List.mem_append_left _ h1)
        rcases List.mem_append.1 h2 with h2 | h2
        · exact hdA a1 h1 a1 (List.mem_append_left _ h2) rfl
        rcases List.mem_append.1 h2 with h2 | h2
        · exact hdA a1 h1 a1 (List.mem_append_right _ (hL1 a1 h2)) rfl
        rcases List.mem_append.1 h2 with h2 | h2
        · rcases hxbs a1 h2 with g | g
          · exact hdA a1 h1 a1 (List.mem_append_right _ (hxL a1 g)) rfl
          · omega
        · exact hdA a1 h1 a1 (List.mem_append_right _ (hL2 a1 h2)) rfl
    · intro hI
      rcases hsub _ hI with g | g
      · exact hTf g
      · have := Yhm (hTc 0 _ (by simp [NV.cells]; rfl))
        rw [Addr.add_block] at this
        omega
    · rw [ZzP, ZzP, setAt]
      simp only [List.getElem?_map, hx, Option.map_some, List.map_set, hxnd]
    · intro z hz
      rw [ebs]
      exact hsub z hz
end
end Go.Proofs.YtlnfaaghdkngmaaGreatDoor
namespace Go.Vc
open Go Go.Lib
structure Ed where
 op : Int
 pa : List Int
 name : Pr
 text : ByteArray
 node : Nd
def Yda : Nd := .mk 0 Zzc Zzc Zzc [] []
def newAt (n : Pr) (v : ByteArray) : At := (n.1, n.2, v)
def Zyl (ats : List At) (n : Pr) : List At := ats.filter fun a => decide (nameOf a ≠ n)
def Ya0 (ats : List At) (n : Pr) (v : ByteArray) : List At :=
 (Zyl ats n).takeWhile (fun a => nLt (nameOf a) n) ++ newAt n v :: (Zyl ats n).dropWhile (fun a => nLt (nameOf a) n)
def Yhf (ats : List At) (n : Pr) : Bool := ats.any fun a => decide (nameOf a = n)
def chgd : Nd -> Ed -> Int × Nd
 | .mk k u l t ats ks, e =>
  if e.op = 6 then (if k = 3 \/ k = 4 \/ k = 5 then (0, .mk k u l e.text ats ks) else (33, .mk k u l t ats ks))
  else if k ≠ 2 then (33, .mk k u l t ats ks)
  else if e.op = 5 then (if Yhf ats e.name = true then 0 else 7, .mk k u l t (Zyl ats e.name) ks)
  else (0, .mk k u l t (Ya0 ats e.name e.text) ks)
def Zqk : Nd -> Int -> Ed -> Int × Nd
 | .mk k u l t ats ks, i, e =>
  if i < 0 \/ (ks.length : Int) < i \/ (i = ks.length /\ e.op ≠ 1) then (35, .mk k u l t ats ks)
  else if e.op = 1 then (0, .mk k u l t ats (ks.take i.toNat ++ e.node :: ks.drop i.toNat))
  else if e.op = 2 then (0, .mk k u l t ats (ks.take i.toNat ++ ks.drop (i.toNat + 1)))
  else if e.op = 3 then (0, .mk k u l t ats (ks.set i.toNat e.node))
  else match ks[i.toNat]? with
   | some x => ((chgd x e).1, .mk k u l t ats (ks.set i.toNat (chgd x e).2))
   | none => (35, .mk k u l t ats ks)
def edN : Nd -> List Int -> Ed -> Int × Nd
 | n, [], _ => (35, n)
 | n, [i], e => Zqk n i e
 | .mk k u l t ats ks, i :: j :: r, e => if i < 0 then (35, .mk k u l t ats ks) else match ks[i.toNat]? with
  | some x => ((edN x (j :: r) e).1, .mk k u l t ats (ks.set i.toNat (edN x (j :: r) e).2))
  | none => (35, .mk k u l t ats ks)
def applyN (d : Nd) (e : Ed) : Int × Nd :=
 if Ycd d ≠ 0 then (Ycd d, Yda)
 else if e.op < 1 \/ 6 < e.op then (1, Yda)
 else if e.pa = [] then (35, Yda)
 else if (edN d e.pa e).1 ≠ 0 then ((edN d e.pa e).1, Yda)
 else if Ycd (edN d e.pa e).2 ≠ 0 then (Ycd (edN d e.pa e).2, Yda)
 else (0, (edN d e.pa e).2)
def nodeAt : Nd -> List Int -> Option Nd
 | n, [] => some n
 | .mk _ _ _ _ _ ks, i :: r => if i < 0 then none else match ks[i.toNat]? with
  | some x => nodeAt x r
  | none => none
structure ApOk (d : Nd) (e : Ed) (n : Nd) : Prop where
 cd : Ycd d = 0
 op : 1 <= e.op /\ e.op <= 6
 pa : e.pa ≠ []
 ed : edN d e.pa e = (0, n)
 cn : Ycd n = 0
theorem apply_ok {d n : Nd} {e : Ed} : (applyN d e).1 = 0 /\ (applyN d e).2 = n ↔ ApOk d e n := by
 unfold applyN
 constructor
 ·intro h
  split at h
  ·next h1 => exact absurd h.1 h1
  next h1 =>
  split at h
  ·exact absurd h.1 (by decide)
  next h2 =>
  split at h
  ·exact absurd h.1 (by decide)
  next h3 =>
  split at h
  ·next h4 => exact absurd h.1 h4
  next h4 =>
  split at h
  ·next h5 => exact absurd h.1 h5
  next h5 =>
  have e1 := Decidable.not_not.1 h4
  have e2 : (edN d e.pa e).2 = n := h.2
  exact ⟨Decidable.not_not.1 h1, by omega, h3, Prod.ext e1 e2, by rw [<- e2]; exact Decidable.not_not.1 h5⟩
 ·rintro ⟨h1, h2, h3, h4, h5⟩
  rw [if_neg (by rw [h1]; simp), if_neg (by omega), if_neg h3, if_neg (by rw [h4]; simp), if_neg (by rw [h4]; simp [h5]), h4]
  exact ⟨rfl, rfl⟩
theorem apply_err {d : Nd} {e : Ed} (h : (applyN d e).1 ≠ 0) : (applyN d e).2 = Yda := by
 unfold applyN at h ⊢
 split
 ·rfl
 next h1 =>
 rw [if_neg h1] at h
 split
 ·rfl
 next h2 =>
 rw [if_neg h2] at h
 split
 ·rfl
 next h3 =>
 rw [if_neg h3] at h
 split
 ·rfl
 next h4 =>
 rw [if_neg h4] at h
 split
 ·rfl
 next h5 =>
 rw [if_neg h5] at h
 exact absurd rfl h
theorem asc_pair : ∀ {l : List At}, ascB l = true -> l.Pairwise fun a b => aLt a b = true
 | [], _ => List.Pairwise.nil
 | [a], _ => pairwise_singleton _ _
 | a :: b :: r, h => by
  simp only [ascB, Bool.and_eq_true] at h
  have ih := asc_pair h.2
  refine pairwise_cons.2 ⟨fun c hc => ?_, ih⟩
  rcases mem_cons.1 hc with rfl | hc
  ·exact h.1
  ·exact Ycw h.1 ((pairwise_cons.1 ih).1 c hc)
theorem aLt_irr (a : At) : aLt a a = false := YdF _
theorem aLt_asym {a b : At} (h : aLt a b = true) : aLt b a = false := by
 cases hb : aLt b a with
 | false => rfl
 | true => have := Ycw h hb; rw [YdF] at this; cases this
theorem Ygt : ∀ {X Y : List At}, X.Pairwise (fun a b => aLt a b = true) -> Y.Pairwise (fun a b => aLt a b = true) -> (∀ s, s ∈ X ↔ s ∈ Y) -> X = Y
 | [], [], _, _, _ => rfl
 | [], y :: Y, _, _, h => by have := (h y).2 (by simp); simp at this
 | x :: X, [], _, _, h => by have := (h x).1 (by simp); simp at this
 | x :: X, y :: Y, hx, hy, h => by
  have h1 := pairwise_cons.1 hx
  have h2 := pairwise_cons.1 hy
  have e : x = y := by
   rcases mem_cons.1 ((h x).1 (by simp)) with e | m1
   ·exact e
   ·rcases mem_cons.1 ((h y).2 (by simp)) with e | m2
    ·exact e.symm
    ·have a1 := h2.1 x m1
     have a2 := h1.1 y m2
     rw [aLt_asym a1] at a2; cases a2
  subst e
  rw [Ygt h1.2 h2.2 fun s => ?_]
  constructor
  ·intro hs
   rcases mem_cons.1 ((h s).1 (by simp [hs])) with e | m
   ·subst e; have := h1.1 s hs; rw [aLt_irr] at this; cases this
   ·exact m
  ·intro hs
   rcases mem_cons.1 ((h s).2 (by simp [hs])) with e | m
   ·subst e; have := h2.1 s hs; rw [aLt_irr] at this; cases this
   ·exact m
theorem drop_mem {ats : List At} {n : Pr} {s : At} : s ∈ Zyl ats n ↔ s ∈ ats /\ nameOf s ≠ n := by unfold Zyl; rw [mem_filter, decide_eq_true_eq]
theorem put_mem {ats : List At} {n : Pr} {v : ByteArray} {s : At} : s ∈ Ya0 ats n v ↔ s = newAt n v \/ (s ∈ ats /\ nameOf s ≠ n) := by
 have e := takeWhile_append_dropWhile (p := fun a => nLt (nameOf a) n) (l := Zyl ats n)
 have h : s ∈ Zyl ats n ↔ s ∈ (Zyl ats n).takeWhile (fun a => nLt (nameOf a) n) \/ s ∈ (Zyl ats n).dropWhile (fun a => nLt (nameOf a) n) := by rw [<- mem_append, e]
 rw [<- drop_mem, h]
 unfold Ya0
 rw [mem_append, mem_cons]
 constructor
 ·rintro (a | a | a)
  ·exact .inr (.inl a)
  ·exact .inl a
  ·exact .inr (.inr a)
 ·rintro (a | a | a)
  ·exact .inr (.inl a)
  ·exact .inl a
  ·exact .inr (.inr a)
theorem drop_asc {ats : List At} {n : Pr} (h : ats.Pairwise fun a b => aLt a b = true) : (Zyl ats n).Pairwise fun a b => aLt a b = true := List.Pairwise.sublist filter_sublist h
theorem Yei {α : Type} {p : α -> Bool} : ∀ {l : List α} {x : α}, x ∈ l.takeWhile p -> p x = true
 | y :: r, x, h => by
  rw [takeWhile_cons] at h
  split at h
  ·next hy =>
   rcases mem_cons.1 h with rfl | h
   ·exact hy
   ·exact Yei h
  ·cases h
theorem Ydw {α : Type} {p : α -> Bool} : ∀ {l : List α} {x : α} {r : List α}, l.dropWhile p = x :: r -> p x = false
 | y :: l, x, r, h => by
  rw [dropWhile_cons] at h
  split at h
  ·exact Ydw h
  ·next hy =>
   obtain rfl := (cons.inj h).1
   simpa using hy
theorem put_asc {ats : List At} {n : Pr} {v : ByteArray} (h : ats.Pairwise fun a b => aLt a b = true) : (Ya0 ats n v).Pairwise fun a b => aLt a b = true := by
 have hd := drop_asc (n := n) h
 have e := takeWhile_append_dropWhile (p := fun a => nLt (nameOf a) n) (l := Zyl ats n)
 have hm : ∀ s, s ∈ (Zyl ats n).dropWhile (fun a => nLt (nameOf a) n) -> nameOf s ≠ n := fun s hs => (drop_mem.1 (by rw [<- e]; exact mem_append_right _ hs)).2
 generalize hA : (Zyl ats n).takeWhile (fun a => nLt (nameOf a) n) = A at e
 generalize hB : (Zyl ats n).dropWhile (fun a => nLt (nameOf a) n) = B at e hm
 rw [<- e] at hd
 obtain ⟨p1, p2, p3⟩ := pairwise_append.1 hd
 unfold Ya0
 rw [hA, hB]
 have hAlt : ∀ a ∈ A, nLt (nameOf a) n = true := fun a ha => Yei (p := fun a => nLt (nameOf a) n) (l := Zyl ats n) (by rw [hA]; exact ha)
 have hBgt : ∀ b ∈ B, nLt n (nameOf b) = true := by
  intro b hb
  cases B with
  | nil => cases hb
  | cons x r =>
   have hx : nLt n (nameOf x) = true := by
    have h1 := Ydw hB
    rcases nLt_tri (nameOf x) n with h2 | h2 | h2
    ·rw [h1] at h2; cases h2
    ·exact absurd h2 (hm x (by simp))
    ·exact h2
   rcases mem_cons.1 hb with rfl | hb
   ·exact hx
   ·exact Ycw hx ((pairwise_cons.1 p2).1 b hb)
 refine pairwise_append.2 ⟨p1, pairwise_cons.2 ⟨fun b hb => hBgt b hb, p2⟩, fun a ha b hb => ?_⟩
 rcases mem_cons.1 hb with rfl | hb
 ·exact hAlt a ha
 ·exact p3 a ha b hb
theorem has_iff {ats : List At} {n : Pr} : Yhf ats n = true ↔ ∃ a ∈ ats, nameOf a = n := by
 unfold Yhf; rw [any_eq_true]; simp
theorem Ycv : ∀ {r : List Int} {d x y : Nd}, nodeAt d r = some x -> nodeAt (setAt d r y) r = some y
  | [], d, x, y, _ => rfl
  | i :: r, .mk k u l t ats ks, x, y, h => by
    simp only [nodeAt] at h
    split at h
    · cases h
    rename_i hi
    split at h
    · next z hz =>
      simp only [setAt, hz, nodeAt]
      rw [if_neg hi, List.getElem?_set_self (List.getElem?_eq_some_iff.1 hz).1]
      exact Ycv h
    · cases h
theorem YdA : ∀ {r : List Int} {d x y z : Nd}, nodeAt d r = some x -> setAt (setAt d r y) r z = setAt d r z
  | [], d, x, y, z, _ => rfl
  | i :: r, .mk k u l t ats ks, x, y, z, h => by
    simp only [nodeAt] at h
    split at h
    · cases h
    rename_i hi
    split at h
    · next c hc =>
      simp only [setAt, hc]
      rw [List.getElem?_set_self (List.getElem?_eq_some_iff.1 hc).1]
      simp only [List.set_set]
      rw [YdA h]
    · cases h
theorem setAt_self : ∀ {r : List Int} {d x : Nd}, nodeAt d r = some x -> setAt d r x = d
  | [], d, x, h => (Option.some.inj h).symm
  | i :: r, .mk k u l t ats ks, x, h => by
    simp only [nodeAt] at h
    split at h
    · cases h
    split at h
    · next c hc =>
      simp only [setAt, hc]
      rw [setAt_self h]
      obtain ⟨h1, rfl⟩ := List.getElem?_eq_some_iff.1 hc
      rw [List.set_getElem_self]
    · cases h
theorem ZqN : ∀ {r s : List Int} {d : Nd}, nodeAt d (r ++ s) = (nodeAt d r).bind fun x => nodeAt x s
 | [], s, d => rfl
 | i :: r, s, .mk k u l t ats ks => by
  simp only [cons_append, nodeAt]
  split
  ·rfl
  split
  ·exact ZqN
  ·rfl
theorem YdD : ∀ {r : List Int} {d x : Nd}, nodeAt d r = some x -> x ∈ d.flat
 | [], d, x, h => by rw [Option.some.inj h]; exact flat_self x
 | i :: r, .mk k u l t ats ks, x, h => by
  simp only [nodeAt] at h
  split at h
  ·cases h
  split at h
  ·next c hc => exact YcF.2 (.inr ⟨c, mem_of_getElem? hc, YdD h⟩)
  ·cases h
theorem YeN {i : Int} {e : Ed} : ∀ {r : List Int} {n : Nd}, nodeAt n r = none -> (edN n (r ++ [i]) e).1 = 35
 | [], n, h => by cases h
 | j :: r, .mk k u l t ats ks, h => by
  have hne : ∃ a b, r ++ [i] = a :: b := by cases r with | nil => exact ⟨_, _, rfl⟩ | cons a b => exact ⟨_, _, rfl⟩
  obtain ⟨a, b, hab⟩ := hne
  simp only [nodeAt] at h
  rw [cons_append, hab]
  simp only [edN]
  split
  ·rfl
  next hj =>
  rw [if_neg hj] at h
  split
  ·next x hx =>
   rw [hx] at h
   rw [<- hab]
   exact YeN h
  ·rfl
theorem Yd5 {i : Int} {e : Ed} : ∀ {r : List Int} {n up : Nd}, nodeAt n r = some up -> edN n (r ++ [i]) e = ((Zqk up i e).1, setAt n r (Zqk up i e).2)
 | [], n, up, h => by
  obtain rfl := Option.some.inj h
  rfl
 | j :: r, .mk k u l t ats ks, up, h => by
  have hne : ∃ a b, r ++ [i] = a :: b := by cases r with | nil => exact ⟨_, _, rfl⟩ | cons a b => exact ⟨_, _, rfl⟩
  obtain ⟨a, b, hab⟩ := hne
  simp only [nodeAt] at h
  split at h
  ·cases h
  rename_i hj
  split at h
  ·next x hx =>
   rw [cons_append, hab]
   simp only [edN, setAt, hx]
   rw [if_neg hj, <- hab, Yd5 h]
  ·cases h
theorem Yd1 {p : List Int} (h : p ≠ []) : ∃ r i, p = r ++ [i] := ⟨p.dropLast, p.getLast h, (dropLast_concat_getLast h).symm⟩
end Go.Vc
namespace Go.Vc
open Go Go.Lib
theorem Yd2 (k : Int) (u l t : ByteArray) (ats : List At) (ks : List Nd) (i : Int) : nodeAt (.mk k u l t ats ks) [i] = if i < 0 then none else ks[i.toNat]? := by
 simp only [nodeAt]
 split
 ·rfl
 ·cases ks[i.toNat]? <;> rfl
theorem no35 {x : Nd} (h : ((35 : Int), x).1 = 0) : False := absurd (show (35 : Int) = 0 from h) (by decide)
def Ygf : Nd -> List Nd -> Nd
 | .mk k u l t ats _, ks => .mk k u l t ats ks
theorem YdE (n : Nd) (i : Int) (r : List Int) : nodeAt n (i :: r) = if i < 0 then none else match n.kids[i.toNat]? with | some x => nodeAt x r | none => none := by cases n; rfl
theorem YaU {n x : Nd} {i : Int} {r : List Int} {y : Nd} (h : n.kids[i.toNat]? = some x) : setAt n (i :: r) y = Ygf n (n.kids.set i.toNat (setAt x r y)) := by
 cases n with
 | mk k u l t ats ks =>
  have h' : ks[i.toNat]? = some x := h
  simp only [setAt, h', Ygf, Nd.kids]
theorem Ybk : ∀ {r s : List Int} {d x z : Nd}, nodeAt d r = some x -> setAt d (r ++ s) z = setAt d r (setAt x s z)
 | [], s, d, x, z, h => by rw [Option.some.inj h]; rfl
 | i :: r, s, d, x, z, h => by
  rw [YdE] at h
  split at h
  ·cases h
  split at h
  ·next c hc =>
   rw [cons_append, YaU hc, YaU hc, Ybk h]
  ·cases h
theorem ed_mod {d n : Nd} {p : List Int} {e : Ed} (hop : 4 <= e.op) (hp : p ≠ []) (h : edN d p e = (0, n)) : ∃ x, nodeAt d p = some x /\ (chgd x e).1 = 0 /\ n = setAt d p (chgd x e).2 := by
 obtain ⟨r, i, rfl⟩ := Yd1 hp
 cases hup : nodeAt d r with
 | none =>
  have h1 := YeN (e := e) (i := i) hup
  rw [h] at h1; exact absurd (show (0 : Int) = 35 from h1) (by decide)
 | some up =>
  rw [Yd5 hup] at h
  have h1 : (Zqk up i e).1 = 0 := congrArg Prod.fst h
  have h2 : setAt d r (Zqk up i e).2 = n := congrArg Prod.snd h
  cases up with
  | mk k u l t ats ks =>
  simp only [Zqk] at h1 h2
  by_cases hr : i < 0 \/ (ks.length : Int) < i \/ (i = ks.length /\ e.op ≠ 1)
  ·rw [if_pos hr] at h1; exact (no35 h1).elim
  rw [if_neg hr, if_neg (by omega), if_neg (by omega), if_neg (by omega)] at h1 h2
  have hi : i.toNat < ks.length := by omega
  rw [getElem?_eq_getElem hi] at h1 h2
  refine ⟨ks[i.toNat], ?_, h1, ?_⟩
  ·rw [ZqN, hup]
   show nodeAt _ [i] = _
   rw [Yd2, if_neg (by omega), getElem?_eq_getElem hi]
  ·rw [Ybk hup, <- h2, YaU (n := .mk k u l t ats ks) (x := ks[i.toNat]) (getElem?_eq_getElem hi)]
   rfl
theorem ins_spec {d n : Nd} {e : Ed} (h : ApOk d e n) (h1 : e.op = 1) : ∃ (r : List Int) (i : Int) (up : Nd), e.pa = r ++ [i] /\ nodeAt d r = some up /\ 0 <= i /\ i <= up.kids.length /\ n = setAt d r (Ygf up (up.kids.take i.toNat ++ e.node :: up.kids.drop i.toNat)) := by
 obtain ⟨r, i, hp⟩ := Yd1 h.pa
 have hed := h.ed
 rw [hp] at hed
 cases hup : nodeAt d r with
 | none =>
  have h1 := YeN (e := e) (i := i) hup
  rw [hed] at h1; exact absurd (show (0 : Int) = 35 from h1) (by decide)
 | some up =>
  rw [Yd5 hup] at hed
  have g1 : (Zqk up i e).1 = 0 := congrArg Prod.fst hed
  have g2 : setAt d r (Zqk up i e).2 = n := congrArg Prod.snd hed
  cases up with
  | mk k u l t ats ks =>
  simp only [Zqk] at g1 g2
  by_cases hr : i < 0 \/ (ks.length : Int) < i \/ (i = ks.length /\ e.op ≠ 1)
  ·rw [if_pos hr] at g1; exact (no35 g1).elim
  rw [if_neg hr, if_pos h1] at g2
  exact ⟨r, i, .mk k u l t ats ks, hp, hup, by omega, by show i <= (ks.length : Int); omega, g2.symm⟩
end Go.Vc
end
section
namespace Go.Vc
open Go Go.RowKit Go.Lib
theorem appJ_row3 {P : Program} {t e : TypeId} {sz by_ : Nat} {z : Array Value} (T : SlT P t e sz by_ z) {w : World} {p q : Option Addr} {l c m c2 : Nat} {xs news : List Value}
  {K : Option Addr -> Nat -> Nat -> World -> Prop} (h : Row w e sz p l c xs) (src : Sl w q m sz news) (h1 : one1 news) (hm : q = none -> m = 0) (hb : (l + m) * by_ <= 140737488355328) (hmax : l + m <= maxLen)
  (k : ∀ p' c' w', Row w' e sz p' (l + m) c' (xs ++ news) -> Chg (isB p) w w' -> ((p' = p /\ c' = c) \/ (fresh w p' /\ c < l + m)) -> K p' (l + m) c' w') :
  YcO P t t (.slice p l c) (.slice q m c2) w K := by
 obtain ⟨i, v, hi, hz, hsz, hby, hv⟩ := T.info
 have hown := h.owns
 have fin : ∀ v' w', (∀ ty, (Builtin.append_ #[t, t] ty #[.slice p l c, .slice q m c2]).run P w = .ok v' w') -> w'.ownsRow 0 e sz v' (l + m) (xs ++ news) -> Chg (isB p) w w' ->
   (v' = .slice p (l + m) c \/ ∀ p' c', v' = .slice p' (l + m) c' -> (fresh w p' /\ c < l + m)) -> YcO P t t (.slice p l c) (.slice q m c2) w K := by
  intro v' w' hr ho hc hf
  obtain ⟨p', c', rfl, hrow⟩ := Row.of_owns ho
  refine ⟨p', l + m, c', w', hr, k p' c' w' hrow hc ?_⟩
  rcases hf with hf | hf
  ·left; injection hf with h1 h2 h3; exact ⟨h1, h3⟩
  ·exact .inr (hf p' c' rfl)
 cases q with
 | none =>
  have h0 := hm rfl
  subst h0
  have hn : news = [] := eq_nil_of_length_eq_zero (by simpa using src.1)
  subst hn
  refine fin (.slice p l c) w (fun ty => ?_) (by simpa using hown) (Chg.refl _ _) (.inl rfl)
  have hle := h.le.1
  cases p with
  | none => simp [Builtin.append_, run_underlying T.hu, sizeOf, typeInfo, hi, Builtin.lenOf, Builtin.firstCells, hle]
  | some a => simp [Builtin.append_, run_underlying T.hu, sizeOf, typeInfo, hi, Builtin.lenOf, Builtin.firstCells, hle, storeCells]
 | some ad =>
  have hnews : ∀ j u, news[j]? = some u -> w.cell? (ad.add j) = some u := by
   rcases src.2 with h0 | ⟨a, ha, hc⟩
   ·intro j u hu
    have hn : news = [] := eq_nil_of_length_eq_zero (by have := src.1; rw [h0] at this; simpa using this)
    subst hn; simp at hu
   ·cases ha; exact hc
  have fz : v.cells.size = sz := by rw [hv]; exact T.hz
  obtain ⟨v', w', hr, ho, hg, hnil⟩ := run_append_own (P := P) w 0 t 0 e i v sz by_ (T.hu) hi hz hsz hby fz T.pos (.slice p l c) l xs hown ad m c2 news src.1 hnews h1 hmax hb (Nat.zero_le _)
  have hr' : ∀ ty, (Builtin.append_ #[t, t] ty #[.slice p l c, .slice (some ad) m c2]).run P w = .ok v' w' := fun ty => hr
  have hcg : Chg (isB p) w w' := Chg.of_grown hg (fun b hb => by
   cases p with
   | none => simp [Value.ownBlock] at hb
   | some x => simp [Value.ownBlock] at hb; exact ⟨x, rfl, hb⟩)
   -- where the new row lies
  by_cases hroom : l + m <= c
  · -- in place
   rcases h.2 with ⟨h0, h2, h3⟩ | ⟨b, rest, hp, hh, hlc, hcm, hcs⟩
   ·subst h0; subst h2; subst h3
    have hm0 : m = 0 := by omega
    subst hm0
    have := hnil.2 ⟨rfl, rfl⟩
    subst this
    exact fin _ _ hr' ho hcg (.inl rfl)
   ·subst hp
    subst hsz
    have hroomr := run_append_room (P := P) w t 0 e i T.hu hi b l c ⟨xs ++ rest⟩ hh ad m c2 news src.1 hnews h1 hroom (by
     rw [src.1, <- Nat.add_mul]; simp only [size_toArray]; rw [hcs]; exact Nat.mul_le_mul_right _ hroom)
    rw [hr] at hroomr
    injection hroomr with e1 e2
    exact fin _ _ hr' ho hcg (.inl e1)
  · -- a new block
   refine fin _ _ hr' ho hcg (.inr ?_)
   intro p' c' hp'
   refine ⟨?_, by omega⟩
   intro a ha
   subst hp'
   obtain ⟨p2, c2', e1, hrow⟩ := Row.of_owns ho
   have hp2 : p' = p2 := by injection e1
   subst hp2
    -- the block's cells are more than the old ones: else it lies where it was; decided by the run itself
   rcases h.2 with ⟨h0, h2, h3⟩ | ⟨b, rest, hp, hh, hlc, hcm, hcs⟩
   ·subst h0; subst h2; subst h3
    have hr2 := run_append_nil (P := P) w t 0 e i v T.hu hi hz ad m c2 news (by rw [hsz]; exact src.1) hnews (by omega) (by simp only [maxLen] at hmax; omega) (by rw [hby]; have hb' := hb; simp only [Nat.zero_add] at hb'; omega)
    rw [hr] at hr2
    injection hr2 with e2 e3
    injection e2 with e4
    rw [ha] at e4
    injection e4 with e5
    rw [e5]
    exact Nat.le_refl _
   ·subst hp
    subst hsz
    have holds : ∀ j u, xs[j]? = some u -> w.cell? ((⟨b, 0, none⟩ : Addr).add j) = some u := by
     have := h.sl
     rcases this.2 with h0 | ⟨a', ha', hc'⟩
     ·intro j u hu
      have hn : xs = [] := eq_nil_of_length_eq_zero (by have := h.1; rw [h0] at this; simpa using this)
      subst hn; simp at hu
     ·cases ha'; exact hc'
    have hr2 := run_append_grow (P := P) w t 0 e i v T.hu hi hz ⟨b, 0, none⟩ l c xs h.1 holds ad m c2 news src.1 hnews (by omega) (by simp only [maxLen] at hmax; omega) (growslice_fits (by omega) (by rw [hby]; exact hb))
    rw [hr] at hr2
    injection hr2 with e2 e3
    injection e2 with e4
    rw [ha] at e4
    injection e4 with e5
    rw [e5]
    exact Nat.le_refl _
theorem Yek {A R V : List Value} {n : Nat} (h : A.length = n) : splice (A ++ R) n V = A ++ (V ++ R.drop V.length) := by
 unfold splice
 rw [take_left' h, <- drop_drop, drop_left' h, append_assoc]
theorem YbQ {b off l c sz i : Nat} {K : Option Addr -> Nat -> Nat -> Prop} (hi : i <= l) (hl : l <= c) (hc : i < c) (k : K (some ⟨b, off + i * sz, none⟩) (l - i) (c - i)) : slS (some ⟨b, off, none⟩) l c sz (some (i : Int)) none none K := by
 refine ⟨i, l, c, rfl, rfl, rfl, hi, hl, Nat.le_refl _, ?_⟩
 rw [if_neg (show ¬ c = i by omega)]
 simp only [Option.map_some, Addr.add_mk]
 exact k
theorem slS_to {b off l c sz j : Nat} {K : Option Addr -> Nat -> Nat -> Prop} (hj : j <= c) (hc : c ≠ 0) (k : K (some ⟨b, off, none⟩) j c) : slS (some ⟨b, off, none⟩) l c sz none (some (j : Int)) none K := by
 refine ⟨0, j, c, rfl, rfl, rfl, Nat.zero_le _, hj, Nat.le_refl _, ?_⟩
 simp only [Nat.sub_zero, hc, if_false, Nat.zero_mul, Option.map_some, Addr.add_mk, Nat.add_zero]
 exact k
theorem cpyN {P : Program} {t e e' : TypeId} {sz by_ : Nat} {z : Array Value} (T : SlT P t e sz by_ z) {w : World} {b off l c m c2 k : Nat} {q : Addr} {cs vs : List Value} {K : Int -> World -> Prop} (hh : w.heap[b]? = some (.cells ⟨cs⟩ e' (0, 0))) (hm : Nat.min m l = k)
  (src : Zzn w q vs) (hv : vs.length = k * sz) (h1 : one1 vs) (fit : off + k * sz <= cs.length) (kk : K (k : Int) (w.setRow b ⟨splice cs off vs⟩)) : cpyJ P t t (.slice (some ⟨b, off, none⟩) l c) (.slice (some q) m c2) w K := by
 obtain ⟨ti, v, hti, hz, hsz, hby, hv'⟩ := T.info
 have hl := run_loadCells_list (P := P) w q vs src
 have hst := run_storeCells_at P b off e' vs 0 ⟨cs⟩ w hh (by rw [Nat.add_zero, hv]; exact fit) h1
 rw [hv] at hl
 refine ⟨(k : Int), w.setRow b ⟨splice cs off vs⟩, fun ty => ?_, kk⟩
 have e1 : ((⟨cs⟩ : Array Value).toList.take off ++ vs ++ (⟨cs⟩ : Array Value).toList.drop (off + vs.length)).toArray = ⟨splice cs off vs⟩ := rfl
 simp [Builtin.copy_, run_underlying T.hu, Builtin.lenOf, Builtin.firstCells, sizeOf, typeInfo, hti, hsz, hm, hl, hst, goInt, splice]
theorem appZ {P : Program} {t tn e : TypeId} {kn : IntKind} {sz by_ : Nat} {z : Array Value} (T : SlT P t e sz by_ z) (htn : P.underlying tn = some (.int kn)) {w : World} {b i c k : Nat} {xs : List Value} {kq : IntKind} {K : Option Addr -> Nat -> Nat -> World -> Prop}
  (hx : Zzn w ⟨b, 0, none⟩ xs) (hl : xs.length = i * sz) (h0 : 0 < k) (hroom : c < i + k) (hic : i <= c) (hb : (i + k) * by_ <= 140737488355328) (hmax : i + k <= 1000000000000)
  (kk : ∀ b' c' rest w', w.heap.size <= b' -> w'.heap[b']? = some (.cells ⟨xs ++ rest⟩ e (0, 0)) -> (xs ++ rest).length = c' * sz -> i + k <= c' -> c' <= maxLen -> Chg No w w' -> K (some ⟨b', 0, none⟩) (i + k) c' w') :
  YcO P t tn (.slice (some ⟨b, 0, none⟩) i c) (.int kq (k : Int)) w K := by
 obtain ⟨ti, v, hti, hz, hsz, hby, hv⟩ := T.info
 have hold : (Builtin.firstCells ti.size i (.slice (some ⟨b, 0, none⟩) i c)).run P w.drew = .ok xs.toArray w.drew := by
  rw [hsz]
  exact run_firstCells_some w.drew sz i ⟨b, 0, none⟩ i c xs hl hx
 have hrun := fun ty => run_append_grow_zeros w t tn ty e ti v kq kn T.hu htn hti hz (some ⟨b, 0, none⟩) i c xs hold k h0 (by rw [hsz]; exact T.pos) hroom (by omega) (by
  rw [hby]
  have : k * by_ <= (i + k) * by_ := Nat.mul_le_mul_right _ (by omega)
  omega) (by rw [hby]; exact growslice_fits hroom hb)
 refine ⟨_, _, _, _, hrun, ?_⟩
 have hge := grownCap_ge w (i + k) c e
 have hzl : ∀ n, (Builtin.zeroCells v.cells n).toList.length = n * sz := fun n => by
  unfold Builtin.zeroCells
  rw [hv, zrow_eq z n]
  simp only [length_flatten, map_replicate, sum_replicate_nat, Array.length_toList, T.hz]
 refine kk w.heap.size (grownCap w (i + k) c e) ((Builtin.zeroCells v.cells k).toList ++ (Builtin.zeroCells v.cells (grownCap w (i + k) c e - (i + k))).toList) _ (Nat.le_refl _) ?_ ?_ hge ?_ ?_
 ·have := heap_alloc_new w.drew (.cells (xs.toArray ++ Builtin.zeroCells v.cells k ++ Builtin.zeroCells v.cells (grownCap w (i + k) c e - (i + k))) e)
  have e2 : xs.toArray ++ Builtin.zeroCells v.cells k ++ Builtin.zeroCells v.cells (grownCap w (i + k) c e - (i + k)) = ⟨xs ++ ((Builtin.zeroCells v.cells k).toList ++ (Builtin.zeroCells v.cells (grownCap w (i + k) c e - (i + k))).toList)⟩ := by
   apply Array.ext'; simp
  rw [e2] at this
  rw [e2]
  exact this
 ·rw [length_append, length_append, hzl, hzl, hl, <- Nat.add_mul, <- Nat.add_mul]
  congr 1; omega
 ·exact grownCap_le_maxLen w (i + k) c e (by simp only [maxLen]; omega)
 ·exact ((Chg.refl No w).drew).alloc _
theorem Row.heap0 {w : World} {e : TypeId} {sz l c : Nat} {p : Option Addr} {xs : List Value} (h : Row w e sz p l c xs) (hl : c ≠ 0) : ∃ b rest, p = some ⟨b, 0, none⟩ /\ w.heap[b]? = some (.cells ⟨xs ++ rest⟩ e (0, 0)) /\ l <= c /\ c <= maxLen /\ (xs ++ rest).length = c * sz := by
 rcases h.2 with ⟨_, _, h0⟩ | h
 ·exact absurd h0 hl
 ·exact h
theorem Row.mk0 {w : World} {e : TypeId} {sz l c b : Nat} {xs rest : List Value} (hh : w.heap[b]? = some (.cells ⟨xs ++ rest⟩ e (0, 0))) (hl : xs.length = l * sz) (h1 : l <= c) (h2 : c <= maxLen) (h3 : (xs ++ rest).length = c * sz) : Row w e sz (some ⟨b, 0, none⟩) l c xs := ⟨hl, .inr ⟨b, rest, rfl, hh, h1, h2, h3⟩⟩
def DelVC (P : Program) (t : TypeId) (sz : Nat) (s0p : Option Addr) (s0l s0c : Nat) (i1 j2 : Int) (w : World) (J : Option Addr -> Nat -> Nat -> World -> Prop) : Prop :=
 slS s0p s0l s0c sz (some i1) (some j2) (some ((s0l : Nat) : Int)) fun q13p q13l q13c =>
 Zz2 (i1 == j2) (
 J s0p s0l s0c w) (
 slS s0p s0l s0c sz none (some i1) none fun q22p q22l q22c =>
 slS s0p s0l s0c sz (some j2) none none fun q25p q25l q25c =>
 YcO P t t (.slice q22p q22l q22c) (.slice q25p q25l q25c) w.drew fun q26p q26l q26c w1 =>
 slS q26p q26l q26c sz (some ((q26l : Nat) : Int)) (some ((s0l : Nat) : Int)) none fun q31p q31l q31c =>
 clrJ P t (.slice q31p q31l q31c) w1 fun w2 =>
 J q26p q26l q26c w2)
theorem DelVC_ok {P : Program} {t e : TypeId} {sz by_ : Nat} {z : Array Value} (T : SlT P t e sz by_ z) (hz1 : one1 z.toList) {w : World} {p : Option Addr} {l c i : Nat} {xs : List Value} {J : Option Addr -> Nat -> Nat -> World -> Prop}
  (h : Row w e sz p l c xs) (h1 : one1 xs) (hi : i < l) (hb : l * by_ <= 140737488355328) (hmax : l <= 1000000000000)
  (K : ∀ w', Row w' e sz p (l - 1) c (xs.take (i * sz) ++ xs.drop ((i + 1) * sz)) -> Chg (isB p) w w' -> J p (l - 1) c w') : DelVC P t sz p l c (i : Int) ((i + 1 : Nat) : Int) w J := by
 obtain ⟨b, rest, rfl, hh, hle, hmx, hcs⟩ := h.some0 (by omega)
 have hxl := h.len
 have hiz : (i + 1) * sz <= l * sz := Nat.mul_le_mul_right _ hi
 have hiz0 : i * sz <= l * sz := Nat.mul_le_mul_right _ (by omega)
 have hiz2 : (i + 1) * sz = i * sz + sz := Nat.succ_mul i sz
 have hlz : (l - 1) * sz + sz = l * sz := by rw [<- Nat.succ_mul, Nat.succ_eq_add_one, Nat.sub_add_cancel (by omega)]
 unfold DelVC
 refine ⟨i, i + 1, l, rfl, rfl, rfl, by omega, hi, hle, ?_⟩
 refine Zzi (fun h => by omega) (fun _ => ?_)
 refine slS_to (by omega) (by omega) ?_
 refine slS_sl (i := i + 1) (j := l) h.sl rfl rfl hi (Nat.le_refl _) hle fun q25 h25 _ => ?_
 have hd : ((xs.drop ((i + 1) * sz)).take ((l - (i + 1)) * sz)) = xs.drop ((i + 1) * sz) := take_of_length_le (by rw [length_drop, hxl, Nat.sub_mul]; exact Nat.le_refl _)
 rw [hd] at h25
 have hA : (xs.take (i * sz)).length = i * sz := by rw [length_take, hxl]; omega
 have hR : Row w.drew e sz (some ⟨b, 0, none⟩) i c (xs.take (i * sz)) := by
  refine Row.mk0 (rest := xs.drop (i * sz) ++ rest) ?_ hA (by omega) hmx ?_
  ·rw [<- append_assoc, take_append_drop]; exact hh
  ·rw [<- append_assoc, take_append_drop]; exact hcs
 refine appJ_row3 T hR (h25.chg (Chg.refl No w).drew (off_no _)) (fun v hv => h1 v (mem_of_mem_drop hv)) (fun e => ?_) (Nat.le_trans (Nat.mul_le_mul_right _ (by omega)) hb) (by simp only [maxLen]; omega) fun p' c' w1 hr1 hc1 hf1 => ?_
 ·by_cases h0 : l - (i + 1) = 0
  ·exact h0
  ·obtain ⟨a, ha, _⟩ := h25.at h0
   rw [e] at ha; cases ha
 have hil : i + (l - (i + 1)) = l - 1 := by omega
 rw [hil] at hr1 hf1 ⊢
 rcases hf1 with ⟨rfl, rfl⟩ | ⟨_, hlt⟩
 rotate_left
 ·omega
  -- what stands behind: at least one element
 obtain ⟨b2, rest2, e2, hh2, hle2, hmx2, hcs2⟩ := hr1.heap0 (by omega)
 cases e2
 have hA2 : (xs.take (i * sz) ++ xs.drop ((i + 1) * sz)).length = (l - 1) * sz := hr1.len
 have hrl : sz <= rest2.length := by
  rw [length_append, hA2] at hcs2
  have : l * sz <= c' * sz := Nat.mul_le_mul_right _ hle
  omega
 have hfull : Row w1 e sz (some ⟨b, 0, none⟩) l c' ((xs.take (i * sz) ++ xs.drop ((i + 1) * sz)) ++ rest2.take sz) := by
  refine Row.mk0 (rest := rest2.drop sz) ?_ ?_ hle hmx2 ?_
  ·rw [append_assoc (xs.take (i * sz) ++ xs.drop ((i + 1) * sz)), take_append_drop]; exact hh2
  ·rw [length_append, hA2, length_take]; omega
  ·rw [append_assoc (xs.take (i * sz) ++ xs.drop ((i + 1) * sz)), take_append_drop]; exact hcs2
 have hcl := clr_row (P := P) (t := t) T hz1 (i := l - 1) hfull hA2 (by omega) (K := fun w2 => J (some ⟨b, 0, none⟩) (l - 1) c' w2) fun w2 hr2 hc2 => K w2 hr2 (((Chg.refl _ w).drew.trans hc1 fun _ _ h => h).trans hc2 fun _ _ h => h)
 exact hcl
def InsVC (P : Program) (t tn : TypeId) (fo fr : FuncId) (sz : Nat) (s0p : Option Addr) (s0l s0c : Nat) (i1 : Int) (v2p : Option Addr) (v2l v2c : Nat) (w : World) (J : Option Addr -> Nat -> Nat -> World -> Prop) : Prop :=
 slS s0p s0l s0c sz (some i1) none none fun q12p q12l q12c =>
 Zz2 (((v2l : Nat) : Int) == (0 : Int)) (
 J s0p s0l s0c w) (
 Zz2 (i1 == ((s0l : Nat) : Int)) (
 YcO P t t (.slice s0p s0l s0c) (.slice v2p v2l v2c) w fun q25p q25l q25c w1 =>
 J q25p q25l q25c w1) (
 Zz2 (decide ((w64 (((s0l : Nat) : Int) + ((v2l : Nat) : Int))) > ((s0c : Nat) : Int))) (
 slS s0p s0l s0c sz none (some i1) none fun q34p q34l q34c =>
 YcO P t tn (.slice q34p q34l q34c) (.int .i64 (w64 ((w64 (((s0l : Nat) : Int) + ((v2l : Nat) : Int))) - i1))) w fun q40p q40l q40c w2 =>
 slS q40p q40l q40c sz (some i1) none none fun q43p q43l q43c =>
 cpyJ P t t (.slice q43p q43l q43c) (.slice v2p v2l v2c) w2 fun x45 w3 =>
 slS q40p q40l q40c sz (some (w64 (i1 + ((v2l : Nat) : Int)))) none none fun q50p q50l q50c =>
 slS s0p s0l s0c sz (some i1) none none fun q53p q53l q53c =>
 cpyJ P t t (.slice q50p q50l q50c) (.slice q53p q53l q53c) w3.drew fun x54 w4 =>
 J q40p q40l q40c w4) (
 slS s0p s0l s0c sz none (some (w64 (((s0l : Nat) : Int) + ((v2l : Nat) : Int)))) none fun q60p q60l q60c =>
 slS q60p q60l q60c sz (some (w64 (i1 + ((v2l : Nat) : Int)))) none none fun q66p q66l q66c =>
 extJ P fo #[.slice v2p v2l v2c, .slice q66p q66l q66c] w [.one .bool] fun (r67 : Bool) (w5 : World) =>
 Zz2 (!r67) (
 slS q60p q60l q60c sz (some (w64 (i1 + ((v2l : Nat) : Int)))) none none fun q73p q73l q73c =>
 slS q60p q60l q60c sz (some i1) none none fun q76p q76l q76c =>
 cpyJ P t t (.slice q73p q73l q73c) (.slice q76p q76l q76c) w5.drew fun x77 w6 =>
 slS q60p q60l q60c sz (some i1) none none fun q80p q80l q80c =>
 cpyJ P t t (.slice q80p q80l q80c) (.slice v2p v2l v2c) w6 fun x82 w7 =>
 J q60p q60l q60c w7) (
 slS q60p q60l q60c sz (some ((s0l : Nat) : Int)) none none fun q86p q86l q86c =>
 cpyJ P t t (.slice q86p q86l q86c) (.slice v2p v2l v2c) w5 fun x88 w8 =>
 slS q60p q60l q60c sz (some i1) none none fun q91p q91l q91c =>
 Zz1 P fr #[.slice q91p q91l q91c, .int .i64 ((v2l : Nat) : Int)] w8 [] fun (w9 : World) =>
 J q60p q60l q60c w9))))
theorem InsVC_ok {P : Program} {t tn e : TypeId} {kn : IntKind} {fo fr : FuncId} {sz by_ : Nat} {z : Array Value} (T : SlT P t e sz by_ z) (htn : P.underlying tn = some (.int kn)) {w : World} {p : Option Addr} {l c i bv : Nat} {xs ys : List Value} {J : Option Addr -> Nat -> Nat -> World -> Prop}
  (hov : ∀ {bv b o lb cb} {cv cs : List Value}, bv ≠ b -> w.heap[bv]? = some (.cells ⟨cv⟩ e (0, 0)) -> w.heap[b]? = some (.cells ⟨cs⟩ e (0, 0)) -> cs ≠ [] -> (callFunc fo #[.slice (some ⟨bv, 0, none⟩) 1 1, .slice (some ⟨b, o, none⟩) lb cb]).run P w = .ok (.value (.bool false)) w)
  (h : Row w e sz p l c xs) (h1 : one1 xs) (hv : w.heap[bv]? = some (.cells ⟨ys⟩ e (0, 0))) (hy : ys.length = sz) (hy1 : one1 ys) (hne : ∀ a, p = some a -> a.block ≠ bv) (hi : i <= l) (hb : (l + 1) * by_ <= 140737488355328) (hmax : l <= 1000000000)
  (K : ∀ p' c' w', Row w' e sz p' (l + 1) c' (xs.take (i * sz) ++ ys ++ xs.drop (i * sz)) -> Chg (isB p) w w' -> (p' = p \/ fresh w p') -> J p' (l + 1) c' w') : InsVC P t tn fo fr sz p l c (i : Int) (some ⟨bv, 0, none⟩) 1 1 w J := by
 have hxl := h.len
 have hpos := T.pos
 have hsv : Sl w (some ⟨bv, 0, none⟩) 1 sz ys := ⟨by rw [hy, Nat.one_mul], .inr ⟨_, rfl, by simpa using ZzT (off := 0) hv⟩⟩
 unfold InsVC
 refine slS_sl (i := i) (j := l) h.sl rfl rfl hi (Nat.le_refl _) h.le.1 fun _ _ _ => ?_
 refine Zzi (fun h => by omega) (fun _ => ?_)
 refine Zzi (fun hil => ?_) (fun hil => ?_)
 ·have hil' : i = l := by omega
  subst hil'
  refine Zq4 T h hsv hy1 (by simp) hb (by simp only [maxLen]; omega) fun p' c' w' hr hc hf => ?_
  refine K p' c' w' ?_ hc hf
  rw [take_of_length_le (by omega), drop_of_length_le (by omega), append_nil]; exact hr
 have hil' : i < l := by omega
 obtain ⟨b, rest, rfl, hh, hle, hmx, hcs⟩ := h.some0 (by omega)
 have hbne : b ≠ bv := hne _ rfl
 have hiz : (i + 1) * sz <= l * sz := Nat.mul_le_mul_right _ hil'
 have hiz2 : (i + 1) * sz = i * sz + sz := Nat.succ_mul i sz
 have e1 : w64 ((l : Int) + ((1 : Nat) : Int)) = ((l + 1 : Nat) : Int) := by rw [Zzt] <;> omega
 have e2 : w64 ((i : Int) + ((1 : Nat) : Int)) = ((i + 1 : Nat) : Int) := by rw [Zzt] <;> omega
 rw [e1, e2]
 have e3 : w64 (((l + 1 : Nat) : Int) - (i : Int)) = ((l + 1 - i : Nat) : Int) := by rw [Zzt] <;> omega
 rw [e3]
 generalize hAe : xs.take (i * sz) = A at *
 generalize hDe : xs.drop (i * sz) = D at *
 have hAD : xs = A ++ D := by rw [<- hAe, <- hDe, take_append_drop]
 have hAl : A.length = i * sz := by rw [<- hAe, length_take]; omega
 have hDl : D.length = (l - i) * sz := by rw [<- hDe, length_drop, hxl, Nat.sub_mul]
 have hDl1 : (l - i) * sz + i * sz = l * sz := by rw [<- Nat.add_mul]; congr 1; omega
 have hA1 : one1 A := fun v hv => h1 v (by rw [hAD]; exact mem_append_left _ hv)
 have hD1 : one1 D := fun v hv => h1 v (by rw [hAD]; exact mem_append_right _ hv)
 have hcA : Zzn w ⟨b, 0, none⟩ A := by
  have := ZzS A.length (ZzT (off := 0) hh)
  rw [drop_zero, hAD, append_assoc, take_left] at this; exact this
 have hcD : Zzn w ⟨b, 0 + i * sz, none⟩ D := by
  have := ZzS D.length (ZzT (off := 0 + i * sz) hh)
  rw [hAD, append_assoc, Nat.zero_add, drop_left' hAl, take_left] at this
  rw [Nat.zero_add]; exact this
 refine Zz6 (fun hroom => ?_) (fun hroom => ?_)
 ·refine slS_to (by omega) (by omega) ?_
  refine appZ T htn hcA hAl (by omega) (by omega) (by omega) (by rw [show i + (l + 1 - i) = l + 1 by omega]; exact hb) (by omega) fun b' c' rest' w2 hb' hh2 hcs2 hle2 hmx2 hc2 => ?_
  rw [show i + (l + 1 - i) = l + 1 by omega] at hle2 ⊢
  have hrl : (l + 1 - i) * sz <= rest'.length := by
   rw [length_append, hAl] at hcs2
   have : (l + 1) * sz <= c' * sz := Nat.mul_le_mul_right _ hle2
   have : (l + 1 - i) * sz + i * sz = (l + 1) * sz := by rw [<- Nat.add_mul]; congr 1; omega
   omega
  have hrs : (l + 1 - i) * sz = (l - i) * sz + sz := by rw [<- Nat.succ_mul]; congr 1; omega
  refine YbQ (by omega) (by omega) (by omega) ?_
  refine cpyN (k := 1) T hh2 (by show min 1 (l + 1 - i) = 1; omega) ((hsv.chg hc2 (off_no _)).at (by decide) |>.elim fun a ha => by cases ha.1; exact ha.2) (by rw [hy, Nat.one_mul]) hy1 (by rw [length_append, hAl]; omega) ?_
  have hh3 := setRow_heap w2 b' _ ⟨splice (A ++ rest') (0 + i * sz) ys⟩ e (0, 0) hh2
  rw [Nat.zero_add, Yek hAl, hy] at hh3 ⊢
  generalize hw3 : w2.setRow b' ⟨A ++ (ys ++ rest'.drop sz)⟩ = w3 at hh3 ⊢
  have hc3 : Chg (fun x => x = b') w2 w3 := by rw [<- hw3]; exact ZqF _ _ _
  refine YbQ (by omega) (by omega) (by omega) ?_
  refine YbQ (by omega) hle (by omega) ?_
  have hb'b : b' ≠ b := fun e => by have := Zy7 hh; omega
  have hcD3 : Zzn w3.drew ⟨b, 0 + i * sz, none⟩ D := hc3.cells (hc2.cells hcD (fun h => h)) (fun e => hb'b e.symm)
  refine cpyN (k := l - i) T (cs := A ++ (ys ++ rest'.drop sz)) (show w3.drew.heap[b']? = _ from hh3) (by show min (l - i) (l + 1 - (i + 1)) = l - i; omega) hcD3 hDl hD1 (by rw [length_append, length_append, length_drop, hAl, hy]; omega) ?_
  have hh4 := setRow_heap w3.drew b' _ ⟨splice (A ++ (ys ++ rest'.drop sz)) (0 + (i + 1) * sz) D⟩ e (0, 0) hh3
  have hAy : (A ++ ys).length = (i + 1) * sz := by rw [length_append, hAl, hy]; omega
  rw [Nat.zero_add, <- append_assoc, Yek hAy] at hh4 ⊢
  refine K (some ⟨b', 0, none⟩) c' _ (Row.mk0 (rest := (rest'.drop sz).drop D.length) ?_ ?_ (by omega) hmx2 ?_) ?_ (.inr (by rintro a ⟨⟩; exact hb'))
  ·rw [append_assoc (A ++ ys)]; exact hh4
  ·rw [length_append, hAy, hDl, Nat.add_comm, <- Nat.add_mul]; congr 1; omega
  ·rw [length_append, length_append, hAy, hDl, length_drop, length_drop]
   rw [length_append, hAl] at hcs2; omega
  ·refine ((hc2.mono fun _ _ h => h.elim).trans hc3 fun x hx e => ?_).trans ((Chg.refl (fun x => x = b') w3).drew.trans (ZqF _ _ _) fun _ _ h => h) fun x hx e => ?_
   ·omega
   ·omega
 ·have hcc : l + 1 <= c := by omega
  refine slS_to hcc (by omega) ?_
  refine YbQ (by omega) hcc (by omega) ?_
  refine ⟨_, w, hov (Ne.symm hbne) hv hh (by intro e0; rw [e0] at hcs; simp only [length_nil] at hcs; have := Nat.mul_pos (show 0 < c by omega) hpos; omega), ?_⟩
  refine ⟨false, rfl, ?_⟩
  refine Zz9 (fun _ => ?_) (fun h => by cases h)
  refine YbQ (by omega) hcc (by omega) ?_
  refine YbQ (by omega) hcc (by omega) ?_
  have hrl : sz <= rest.length := by
   rw [length_append, hxl] at hcs
   have : (l + 1) * sz <= c * sz := Nat.mul_le_mul_right _ hcc
   rw [Nat.succ_mul] at this; omega
  have hhd : w.drew.heap[b]? = some (.cells ⟨xs ++ rest⟩ e (0, 0)) := hh
  refine cpyN (k := l - i) T hhd (by show min (l + 1 - i) (l + 1 - (i + 1)) = l - i; omega) (show Zzn w.drew ⟨b, 0 + i * sz, none⟩ D from hcD) hDl hD1 (by rw [length_append, hxl]; omega) ?_
  have hh6 := setRow_heap w.drew b _ ⟨splice (xs ++ rest) (0 + (i + 1) * sz) D⟩ e (0, 0) hhd
  generalize hw6 : w.drew.setRow b ⟨splice (xs ++ rest) (0 + (i + 1) * sz) D⟩ = w6 at hh6 ⊢
  have hc6 : Chg (fun x => x = b) w w6 := by rw [<- hw6]; exact (Chg.refl _ w).drew.trans (ZqF _ _ _) fun _ _ h => h
  have hsp : splice (xs ++ rest) (0 + (i + 1) * sz) D = A ++ ((D ++ rest).take sz ++ (D ++ rest.drop sz)) := by
   have e4 : xs ++ rest = (A ++ (D ++ rest).take sz) ++ (D ++ rest).drop sz := by rw [append_assoc, take_append_drop, hAD, append_assoc]
   have e5 : (A ++ (D ++ rest).take sz).length = 0 + (i + 1) * sz := by rw [length_append, hAl, length_take, length_append]; omega
   rw [e4, Yek e5, append_assoc]
   congr 3
   rw [drop_drop, Nat.add_comm sz D.length, <- drop_drop, drop_left]
  rw [hsp] at hh6
  refine YbQ (by omega) hcc (by omega) ?_
  refine cpyN (k := 1) T hh6 (by show min 1 (l + 1 - i) = 1; omega) ((hsv.chg hc6 (by rintro a ⟨⟩ e; exact hbne e.symm)).at (by decide) |>.elim fun a ha => by cases ha.1; exact ha.2) (by rw [hy, Nat.one_mul]) hy1 (by rw [length_append, length_append, length_take, length_append, hAl]; omega) ?_
  have hh7 := setRow_heap w6 b _ ⟨splice (A ++ ((D ++ rest).take sz ++ (D ++ rest.drop sz))) (0 + i * sz) ys⟩ e (0, 0) hh6
  have ht : ((D ++ rest).take sz).length = sz := by rw [length_take, length_append]; omega
  rw [Nat.zero_add, Yek hAl, hy, drop_left' ht] at hh7 ⊢
  refine K (some ⟨b, 0, none⟩) c _ (Row.mk0 (rest := rest.drop sz) ?_ ?_ hcc hmx ?_) ?_ (.inl rfl)
  ·rw [append_assoc, append_assoc]; exact hh7
  ·rw [length_append, length_append, hAl, hy, hDl, Nat.succ_mul]; omega
  ·rw [length_append, length_append, length_append, length_drop, hAl, hy, hDl]
   rw [length_append, hxl] at hcs; omega
  ·exact (hc6.trans (ZqF _ _ _) fun _ _ h => h).mono fun x hx e => ⟨_, rfl, e.symm⟩
end Go.Vc
namespace Go.Proofs.YtlnfaaghdkngmaaGreatDoor
open Go Go.Vc Go.Lib Go.RowKit
section
variable {w : World}
theorem ovNode {bv b o lb cb : Nat} {cv cs : List Value} (hne : bv ≠ b) (hv : w.heap[bv]? = some (.cells ⟨cv⟩ Zz3 (0, 0))) (hb : w.heap[b]? = some (.cells ⟨cs⟩ Zz3 (0, 0))) (hcs : cs ≠ []) :
  (callFunc ZyB #[.slice (some ⟨bv, 0, none⟩) 1 1, .slice (some ⟨b, o, none⟩) lb cb]).run Tryz.prog w = .ok (.value (.bool false)) w := by
 have hz : ∀ w, (Go.sizeOf Zz3).run Tryz.prog w = .ok 6 w := fun w => by
  obtain ⟨i, v, hi, _, hs, _⟩ := YcZ.info
  simp [Go.sizeOf, Go.typeInfo, hi, hs]
 have hc0 : cs.length ≠ 0 := fun h => hcs (eq_nil_of_length_eq_zero h)
 rw [run_callFunc_extern (fn := Tryz.f117) Tryz.func117 (by kernel_rfl) (by kernel_rfl) (by kernel_rfl) (e := Extern.SlicesOverlaps.overlaps #[Zzg, Zzg] #[T_bool]) (by kernel_rfl),
  run_overlaps_apart w Zzg T_bool Zz3 YcZ.hu 6 hz ⟨bv, 0, none⟩ ⟨b, o, none⟩ 1 1 lb cb hne Zz3 Zz3 cv.length cs.length (by unfold World.shape?; rw [hv]; rfl) (by unfold World.shape?; rw [hb]; rfl) hc0 (frozen_of_row w bv 0 _ _ hv) (frozen_of_row w bv cv.length _ _ hv)]
 rfl
theorem Yem : SlT Tryz.prog Zzh Zzu 3 48 #[.string ByteArray.empty, .string ByteArray.empty, .string ByteArray.empty] := SlT.of (by kernel_rfl) (by kernel_rfl) rfl (by decide)
theorem ovAttr {bv b o lb cb : Nat} {cv cs : List Value} (hne : bv ≠ b) (hv : w.heap[bv]? = some (.cells ⟨cv⟩ Zzu (0, 0))) (hb : w.heap[b]? = some (.cells ⟨cs⟩ Zzu (0, 0))) (hcs : cs ≠ []) :
  (callFunc ZyC #[.slice (some ⟨bv, 0, none⟩) 1 1, .slice (some ⟨b, o, none⟩) lb cb]).run Tryz.prog w = .ok (.value (.bool false)) w := by
 have hz : ∀ w, (Go.sizeOf Zzu).run Tryz.prog w = .ok 3 w := fun w => by
  obtain ⟨i, v, hi, _, hs, _⟩ := Yem.info
  simp [Go.sizeOf, Go.typeInfo, hi, hs]
 have hc0 : cs.length ≠ 0 := fun h => hcs (eq_nil_of_length_eq_zero h)
 rw [run_callFunc_extern (fn := Tryz.f192) Tryz.func192 (by kernel_rfl) (by kernel_rfl) (by kernel_rfl) (e := Extern.SlicesOverlaps.overlaps #[Zzh, Zzh] #[T_bool]) (by kernel_rfl),
  run_overlaps_apart w Zzh T_bool Zzu Yem.hu 3 hz ⟨bv, 0, none⟩ ⟨b, o, none⟩ 1 1 lb cb hne Zzu Zzu cv.length cs.length (by unfold World.shape?; rw [hv]; rfl) (by unfold World.shape?; rw [hb]; rfl) hc0 (frozen_of_row w bv 0 _ _ hv) (frozen_of_row w bv cv.length _ _ hv)]
 rfl
theorem InsNode_ok {p : Option Addr} {l c i bv : Nat} {L : List NV} {x : NV} {J : Option Addr -> Nat -> Nat -> World -> Prop} (h : Row w Zz3 6 p l c (rows NV.cells L)) (hv : w.heap[bv]? = some (.cells ⟨x.cells⟩ Zz3 (0, 0))) (hne : ∀ a, p = some a -> a.block ≠ bv) (hi : i <= l) (hl : l <= 100000000)
  (K : ∀ p' c' w', Row w' Zz3 6 p' (l + 1) c' (rows NV.cells (L.take i ++ x :: L.drop i)) -> Chg (isB p) w w' -> (p' = p \/ fresh w p') -> J p' (l + 1) c' w') :
  Zz1 Tryz.prog ZzX #[.slice p l c, .int .i64 (i : Int), .slice (some ⟨bv, 0, none⟩) 1 1] w [.one .slice] J := by
 refine Zql ?_
 show InsVC Tryz.prog Zzg ZqJ ZyB Zxv 6 p l c (i : Int) (some ⟨bv, 0, none⟩) 1 1 w J
 refine InsVC_ok (kn := .i64) YcZ (by kernel_rfl) ovNode h (YaY fun x _ => Zy6 x) hv (by cases x; rfl) (Zy6 x) hne hi (by omega) (by omega) fun p' c' w' hr hc hf => K p' c' w' ?_ hc hf
 rw [YaW (Zzl L), YaX (Zzl L)] at hr
 rw [ZzL, Zyy, <- append_assoc]; exact hr
theorem InsAttr_ok {p : Option Addr} {l c i bv : Nat} {L : List At} {x : At} {J : Option Addr -> Nat -> Nat -> World -> Prop} (h : Row w Zzu 3 p l c (rows atc L)) (hv : w.heap[bv]? = some (.cells ⟨atc x⟩ Zzu (0, 0))) (hne : ∀ a, p = some a -> a.block ≠ bv) (hi : i <= l) (hl : l <= 100000000)
  (K : ∀ p' c' w', Row w' Zzu 3 p' (l + 1) c' (rows atc (L.take i ++ x :: L.drop i)) -> Chg (isB p) w w' -> (p' = p \/ fresh w p') -> J p' (l + 1) c' w') :
  Zz1 Tryz.prog ZzY #[.slice p l c, .int .i64 (i : Int), .slice (some ⟨bv, 0, none⟩) 1 1] w [.one .slice] J := by
 refine Zqm ?_
 show InsVC Tryz.prog Zzh ZqJ ZyC Zxw 3 p l c (i : Int) (some ⟨bv, 0, none⟩) 1 1 w J
 refine InsVC_ok (kn := .i64) Yem (by kernel_rfl) ovAttr h (YaY fun x _ => YgI x) hv rfl (YgI x) hne hi (by omega) (by omega) fun p' c' w' hr hc hf => K p' c' w' ?_ hc hf
 rw [YaW (Zx8 L), YaX (Zx8 L)] at hr
 rw [ZzL, Zyy, <- append_assoc]; exact hr
theorem DelNode_ok {p : Option Addr} {l c i : Nat} {L : List NV} {J : Option Addr -> Nat -> Nat -> World -> Prop} (h : Row w Zz3 6 p l c (rows NV.cells L)) (hi : i < l) (hl : l <= 100000000)
  (K : ∀ w', Row w' Zz3 6 p (l - 1) c (rows NV.cells (L.take i ++ L.drop (i + 1))) -> Chg (isB p) w w' -> J p (l - 1) c w') :
  Zz1 Tryz.prog ZzZ #[.slice p l c, .int .i64 (i : Int), .int .i64 ((i + 1 : Nat) : Int)] w [.one .slice] J := by
 refine Zqn ?_
 show DelVC Tryz.prog Zzg 6 p l c (i : Int) ((i + 1 : Nat) : Int) w J
 refine DelVC_ok YcZ (Zy6 (.mk 0 Zzc Zzc Zzc none 0 0 [] none 0 0 [])) h (YaY fun x _ => Zy6 x) hi (by omega) (by omega) fun w' hr hc => K w' ?_ hc
 rw [YaW (Zzl L), YaX (Zzl L)] at hr
 rw [ZzL]; exact hr
theorem DelAttr_ok {p : Option Addr} {l c i : Nat} {L : List At} {J : Option Addr -> Nat -> Nat -> World -> Prop} (h : Row w Zzu 3 p l c (rows atc L)) (hi : i < l) (hl : l <= 100000000)
  (K : ∀ w', Row w' Zzu 3 p (l - 1) c (rows atc (L.take i ++ L.drop (i + 1))) -> Chg (isB p) w w' -> J p (l - 1) c w') :
  Zz1 Tryz.prog Zy0 #[.slice p l c, .int .i64 (i : Int), .int .i64 ((i + 1 : Nat) : Int)] w [.one .slice] J := by
 refine Zqo ?_
 show DelVC Tryz.prog Zzh 3 p l c (i : Int) ((i + 1 : Nat) : Int) w J
 refine DelVC_ok Yem (YgI (Zzc, Zzc, Zzc)) h (YaY fun x _ => YgI x) hi (by omega) (by omega) fun w' hr hc => K w' ?_ hc
 rw [YaW (Zx8 L), YaX (Zx8 L)] at hr
 rw [ZzL]; exact hr
theorem half_u64 {n : Nat} (h : n <= 1000000000) : w64 (Yc8 .u64 (IntKind.u64.wrap (w64 (n : Int))) 1) = ((n / 2 : Nat) : Int) := by
 have e1 : w64 (n : Int) = n := by rw [Zzt] <;> omega
 have e2 : IntKind.u64.wrap (n : Int) = n := by rw [IntKind.wrap_u64]; omega
 rw [e1, e2]
 unfold Yc8
 rw [show (min (1 : Int).toNat IntKind.u64.bits) = 1 from rfl, Int.fdiv_eq_ediv_of_nonneg _ (by decide)]
 rw [Zzt] <;> omega
theorem Attr1_ok {a : At} {n : Pr} {J : Int -> World -> Prop} (k : ∀ w', Chg No w w' -> J (ordZ (nameOf a) n) w') : Zz1 Tryz.prog Yal #[.agg ⟨atc a⟩, .agg ⟨[.string n.1, .string n.2]⟩] w [.one (.int .i64)] J := by
 refine c_edit_attr_1 ?_
 refine (Hp.start w No).newB fun b2 w1 H1 _ _ => ?_
 refine H1.newB fun b3 w2 H2 _ _ => ?_
 refine H2.ldStr 1 rfl (off := 0) rfl ?_
 refine H2.ldStr 1 rfl (off := 1) rfl ?_
 refine H2.ldStr 0 rfl (off := 0) rfl ?_
 refine H2.ldStr 0 rfl (off := 1) rfl ?_
 exact Order_ok (a := nameOf a) (b := n) fun w3 hc3 => k w3 (H2.step0 hc3).chg
theorem Search_ok {p : Option Addr} {l c : Nat} {L : List At} {n : Pr} {J : Int -> Bool -> World -> Prop} (h : Sl w p l 3 (rows atc L)) (hm : l <= 100000000) (hasc : L.Pairwise fun a b => aLt a b = true)
    (K : ∀ (i : Nat) (b : Bool) w', i <= l -> (∀ j a, j < i -> L[j]? = some a -> nLt (nameOf a) n = true) -> (∀ j a, i <= j -> L[j]? = some a -> nLt (nameOf a) n = false) -> (b = true ↔ ∃ a, L[i]? = some a /\ nameOf a = n) -> Chg No w w' -> J (i : Int) b w') :
    Zz1 Tryz.prog Zzq #[.slice p l c, .agg ⟨[.string n.1, .string n.2]⟩, .func (.func 120) #[] #[]] w [.one (.int .i64), .one .bool] J := by
  have hl := h.row (Zx8 L) (by decide)
  refine Zye ?_
  refine (Hp.start w No).newB fun b4 w1 H1 hb4 hc1 => ?_
  refine ⟨fun i j w' m => ∃ a b : Nat, i = a /\ j = b /\ a <= b /\ b <= l /\ m = b - a /\ Hp w No w' [⟨b4, [.string n.1, .string n.2], ZzB⟩] /\ (∀ k x, k < a -> L[k]? = some x -> nLt (nameOf x) n = true) /\ (∀ k x, b <= k -> L[k]? = some x -> nLt (nameOf x) n = false),
    ⟨_, 0, l, rfl, rfl, Nat.zero_le _, Nat.le_refl _, rfl, H1, by omega, fun k x hk hx => by have := (List.getElem?_eq_some_iff.1 hx).1; omega⟩, ?_⟩
  rintro i j w2 m ⟨a, b, rfl, rfl, hab, hbl, rfl, H2, hlo, hhi⟩
  have H2d := H2.drew
  refine Zz6 (fun hlt => ?_) (fun hge => ?_)
  · refine ⟨by decide, ?_⟩
    rw [show ((a : Int) + (b : Int)) = ((a + b : Nat) : Int) by omega, half_u64 (by omega)]
    generalize hh : (a + b) / 2 = m
    refine Zzr (h.chg H2d.chg (off_no _)) (Zx8 L) (by decide) (by omega) (by omega) fun ad x _ hx hcx => ?_
    rw [Int.toNat_natCast] at hx
    refine ldAttr hcx ?_
    refine H2d.ldStr 0 rfl (off := 0) rfl ?_
    refine H2d.ldStr 0 rfl (off := 1) rfl ?_
    refine Attr1_ok (a := x) (n := n) fun w3 hc3 => ?_
    have H3 := H2d.step0 hc3
    have hoz := ordZ_lt (nameOf x) n
    refine Zz6 (fun hl => ?_) (fun hg => ?_)
    · have hx1 := hoz.1 hl
      refine ⟨_, ?_, m + 1, b, by rw [Zzt] <;> omega, rfl, by omega, hbl, rfl, H3, fun k y hk hy => ?_, hhi⟩
      · omega
      · rcases Nat.lt_or_ge k m with h1 | h1
        · have h2 := List.pairwise_iff_getElem.1 hasc k m (List.getElem?_eq_some_iff.1 hy).1 (List.getElem?_eq_some_iff.1 hx).1 h1
          rw [(List.getElem?_eq_some_iff.1 hy).2, (List.getElem?_eq_some_iff.1 hx).2] at h2
          exact Ycw h2 hx1
        · obtain rfl : k = m := by omega
          obtain rfl := Option.some.inj (hx.symm.trans hy)
          exact hx1
    · have hx1 : nLt (nameOf x) n = false := by
        cases hb : nLt (nameOf x) n with
        | false => rfl
        | true => exact absurd (hoz.2 hb) hg
      refine ⟨_, ?_, a, m, rfl, rfl, by omega, by omega, rfl, H3, hlo, fun k y hk hy => ?_⟩
      · omega
      · rcases Nat.lt_or_ge m k with h1 | h1
        · have h2 := List.pairwise_iff_getElem.1 hasc m k (List.getElem?_eq_some_iff.1 hx).1 (List.getElem?_eq_some_iff.1 hy).1 h1
          rw [(List.getElem?_eq_some_iff.1 hy).2, (List.getElem?_eq_some_iff.1 hx).2] at h2
          cases hb : nLt (nameOf y) n with
          | false => rfl
          | true =>
            have := Ycw h2 hb
            unfold nameOf at hx1 this
            rw [hx1] at this; cases this
        · obtain rfl : k = m := by omega
          obtain rfl := Option.some.inj (hx.symm.trans hy)
          exact hx1
  · have hab' : a = b := by omega
    subst hab'
    simp only [Zzj]
    refine Zz6 (fun hlt => ?_) (fun hge2 => ?_)
    · refine Zzr (h.chg H2d.chg (off_no _)) (Zx8 L) (by decide) (by omega) hlt fun ad x _ hx hcx => ?_
      rw [Int.toNat_natCast] at hx
      refine ldAttr hcx ?_
      refine H2d.ldStr 0 rfl (off := 0) rfl ?_
      refine H2d.ldStr 0 rfl (off := 1) rfl ?_
      refine Attr1_ok (a := x) (n := n) fun w3 hc3 => ?_
      refine K a _ w3 hbl hlo hhi ?_ (H2d.step0 hc3).chg
      rw [beq_iff_eq, ordZ_zero]
      exact ⟨fun e => ⟨x, hx, e⟩, fun ⟨y, hy, e⟩ => by obtain rfl := Option.some.inj (hx.symm.trans hy); exact e⟩
    · refine K a false _ hbl hlo hhi ⟨fun e => (by cases e), fun ⟨y, hy, e⟩ => ?_⟩ H2d.chg
      have := (List.getElem?_eq_some_iff.1 hy).1; omega
end
end Go.Proofs.YtlnfaaghdkngmaaGreatDoor
end
section
namespace Go.Proofs.YtlnfaaghdkngmaaGreatDoor
open Go Go.Vc
theorem c_edit_Apply {a : Int} {b c : ByteArray} {d : Option Addr} {e f : Nat} {g : Option Addr} {i j : Nat} {k : ByteArray} {l : Int} {m : Option Addr} {n o : Nat} {p q r : ByteArray} {s : Int} {t u : ByteArray} {v : Option Addr} {x y : Nat} {z : Option Addr} {aa ab : Nat} {ac : ByteArray} {w : World} {J : Int -> ByteArray -> ByteArray -> Option Addr -> Nat -> Nat -> Option Addr -> Nat -> Nat -> ByteArray -> Int -> World -> Prop} (h :
 newB w (.cells ⟨[.int .i64 a, .string b, .string c, .slice d e f, .slice g i j, .string k]⟩ Zz3) fun ad ae =>
 newB ae (.cells ⟨[.int .i64 l, .slice m n o, .string p, .string q, .string r, .int .i64 s, .string t, .string u, .slice v x y, .slice z aa ab, .string ac]⟩ Yed) fun af ag =>
 newB ag (.cells (Zy5 Tryz.prog Zz3) Zz3) fun ai aj =>
 ldI .i64 aj ⟨ad, 0, none⟩ fun ak =>
 ldStr aj ⟨ad, 1, none⟩ fun al =>
 ldStr aj ⟨ad, 2, none⟩ fun am =>
 ldS aj ⟨ad, 3, none⟩ fun an ao ap =>
 ldS aj ⟨ad, 4, none⟩ fun aq ar au =>
 ldStr aj ⟨ad, 5, none⟩ fun av =>
 Zz1 Tryz.prog ZxX #[.agg ⟨[.int .i64 ak, .string al, .string am, .slice an ao ap, .slice aq ar au, .string av]⟩] aj [.one (.int .i64)] fun ax ay =>
 Zz2 (ax != (0 : Int)) (
 stN ay ⟨ai, 0, none⟩ ⟨[.int .i64 0, .string ByteArray.empty, .string ByteArray.empty, .slice none 0 0, .slice none 0 0, .string ByteArray.empty]⟩ 6 fun az =>
 ldI .i64 az ⟨ai, 0, none⟩ fun a0 =>
 ldStr az ⟨ai, 1, none⟩ fun a1 =>
 ldStr az ⟨ai, 2, none⟩ fun a2 =>
 ldS az ⟨ai, 3, none⟩ fun a3 a4 a5 =>
 ldS az ⟨ai, 4, none⟩ fun a6 a7 a8 =>
 ldStr az ⟨ai, 5, none⟩ fun a9 =>
 J a0 a1 a2 a3 a4 a5 a6 a7 a8 a9 ax az) (
 ldI .i64 ay ⟨ad, 0, none⟩ fun ba =>
 ldStr ay ⟨ad, 1, none⟩ fun bb =>
 ldStr ay ⟨ad, 2, none⟩ fun bc =>
 ldS ay ⟨ad, 3, none⟩ fun bd be bf =>
 ldS ay ⟨ad, 4, none⟩ fun bg bi bj =>
 ldStr ay ⟨ad, 5, none⟩ fun bk =>
 Zz1 Tryz.prog ZxM #[.agg ⟨[.int .i64 ba, .string bb, .string bc, .slice bd be bf, .slice bg bi bj, .string bk]⟩] ay [.agg [.int .i64, .str, .str, .slice, .slice, .str]] fun bl bm bn bo bp bq br bs bt bu bv =>
 stN bv ⟨ad, 0, none⟩ ⟨[.int .i64 bl, .string bm, .string bn, .slice bo bp bq, .slice br bs bt, .string bu]⟩ 6 fun bx =>
 ldI .i64 bx ⟨af, 0, none⟩ fun bz =>
 ldS bx ⟨af, 1, none⟩ fun b0 b1 b2 =>
 ldStr bx ⟨af, 2, none⟩ fun b3 =>
 ldStr bx ⟨af, 3, none⟩ fun b4 =>
 ldStr bx ⟨af, 4, none⟩ fun b5 =>
 ldI .i64 bx ⟨af, 5, none⟩ fun b6 =>
 ldStr bx ⟨af, 6, none⟩ fun b7 =>
 ldStr bx ⟨af, 7, none⟩ fun b8 =>
 ldS bx ⟨af, 8, none⟩ fun b9 ca cb =>
 ldS bx ⟨af, 9, none⟩ fun cc cd ce =>
 ldStr bx ⟨af, 10, none⟩ fun cf =>
 Zz1 Tryz.prog Yfl #[.pointer (some ⟨ad, 0, none⟩), .agg ⟨[.int .i64 bz, .slice b0 b1 b2, .string b3, .string b4, .string b5, .int .i64 b6, .string b7, .string b8, .slice b9 ca cb, .slice cc cd ce, .string cf]⟩] bx [.one (.int .i64)] fun cg ci =>
 Zz2 (cg != (0 : Int)) (
 stN ci ⟨ai, 0, none⟩ ⟨[.int .i64 0, .string ByteArray.empty, .string ByteArray.empty, .slice none 0 0, .slice none 0 0, .string ByteArray.empty]⟩ 6 fun cj =>
 ldI .i64 cj ⟨ai, 0, none⟩ fun ck =>
 ldStr cj ⟨ai, 1, none⟩ fun cl =>
 ldStr cj ⟨ai, 2, none⟩ fun cm =>
 ldS cj ⟨ai, 3, none⟩ fun cn co cp =>
 ldS cj ⟨ai, 4, none⟩ fun cq cr cs =>
 ldStr cj ⟨ai, 5, none⟩ fun ct =>
 J ck cl cm cn co cp cq cr cs ct cg cj) (
 ldI .i64 ci ⟨ad, 0, none⟩ fun cu =>
 ldStr ci ⟨ad, 1, none⟩ fun cv =>
 ldStr ci ⟨ad, 2, none⟩ fun cx =>
 ldS ci ⟨ad, 3, none⟩ fun cy cz c0 =>
 ldS ci ⟨ad, 4, none⟩ fun c1 c2 c3 =>
 ldStr ci ⟨ad, 5, none⟩ fun c4 =>
 Zz1 Tryz.prog ZxX #[.agg ⟨[.int .i64 cu, .string cv, .string cx, .slice cy cz c0, .slice c1 c2 c3, .string c4]⟩] ci [.one (.int .i64)] fun c5 c6 =>
 Zz2 (c5 != (0 : Int)) (
 stN c6 ⟨ai, 0, none⟩ ⟨[.int .i64 0, .string ByteArray.empty, .string ByteArray.empty, .slice none 0 0, .slice none 0 0, .string ByteArray.empty]⟩ 6 fun c7 =>
 ldI .i64 c7 ⟨ai, 0, none⟩ fun c8 =>
 ldStr c7 ⟨ai, 1, none⟩ fun c9 =>
 ldStr c7 ⟨ai, 2, none⟩ fun da =>
 ldS c7 ⟨ai, 3, none⟩ fun db dc dd =>
 ldS c7 ⟨ai, 4, none⟩ fun de df dg =>
 ldStr c7 ⟨ai, 5, none⟩ fun di =>
 J c8 c9 da db dc dd de df dg di c5 c7) (
 ldI .i64 c6 ⟨ad, 0, none⟩ fun dj =>
 ldStr c6 ⟨ad, 1, none⟩ fun dk =>
 ldStr c6 ⟨ad, 2, none⟩ fun dl =>
 ldS c6 ⟨ad, 3, none⟩ fun dm dn dp =>
 ldS c6 ⟨ad, 4, none⟩ fun dq dr ds =>
 ldStr c6 ⟨ad, 5, none⟩ fun dt =>
 stN c6 ⟨ai, 0, none⟩ ⟨[.int .i64 dj, .string dk, .string dl, .slice dm dn dp, .slice dq dr ds, .string dt]⟩ 6 fun du =>
 ldI .i64 du ⟨ai, 0, none⟩ fun dv =>
 ldStr du ⟨ai, 1, none⟩ fun dx =>
 ldStr du ⟨ai, 2, none⟩ fun dy =>
 ldS du ⟨ai, 3, none⟩ fun dz d0 d1 =>
 ldS du ⟨ai, 4, none⟩ fun d2 d3 d4 =>
 ldStr du ⟨ai, 5, none⟩ fun d5 =>
 J dv dx dy dz d0 d1 d2 d3 d4 d5 (0 : Int) du)))) : Zz1 Tryz.prog ZqX #[.agg ⟨[.int .i64 a, .string b, .string c, .slice d e f, .slice g i j, .string k]⟩, .agg ⟨[.int .i64 l, .slice m n o, .string p, .string q, .string r, .int .i64 s, .string t, .string u, .slice v x y, .slice z aa ab, .string ac]⟩] w [.agg [.int .i64, .str, .str, .slice, .slice, .str], .one (.int .i64)] J := Zz5 Tryz.func5 (.s .o (.s (.s .o (.s .o (.c (.s .o .o) .o))) (.s .o (.s (.s .o (.s .o (.c (.s .o .o) .o))) (.s (.s .o (.s .o (.c (.s .o .o) .o))) (.s .o .o)))))) (Eq.mpr (by kernel_rfl) h)
theorem c_edit_find {a b : Option Addr} {c d : Nat} {w : World} {J : Option Addr -> Bool -> World -> Prop} (h :
 ∃ v : Option Addr -> Int -> World -> Nat -> Prop, (∃ x, v a (0 : Int) w x) /\ ∀ (a : Option Addr) (r : Int) (s : World) (x : Nat), v a r s x -> (
 Zz2 (decide (r < (c : Int))) (
 Zyx b c r fun e =>
 ldI .i64 s ((e.add (r.toNat * 1))) fun f =>
 Zzj (fun (t : Bool) (u : World) =>
 Zz2 t (
 J none false u) (
 Zyp a fun g =>
 ldS u ((g.add 4)) fun i j k =>
 Zyx i j f fun l =>
 ∃ y, y < x /\ v (some ((l.add (f.toNat * 6)))) (w64 (r + (1 : Int))) u y)) fun m =>
 Zz2 (decide (f < (0 : Int))) (
 m true s) (
 Zyp a fun n =>
 ldS s ((n.add 4)) fun o p q =>
 m (decide (f >= (p : Int))) s)) (
 J a true s))) : Zz1 Tryz.prog YcD #[.pointer a, .slice b c d] w [.one .ptr, .one .bool] J := Zz5 Tryz.func60 (.s .o (.s (.s .o (.b (.l [(0, .ptr), (10, .int .i64)] (.s .o (.s (.c .o .o) (.s (.b (.s .o (.s (.j [(24, .bool)] .o (.c (.s .o .o) .o)) .o))) .o)))))) (.s .o .o))) (Eq.mpr (by kernel_rfl) h)
theorem c_edit_do {a : Option Addr} {b : Int} {c : Option Addr} {d e : Nat} {f g i : ByteArray} {j : Int} {k l : ByteArray} {m : Option Addr} {n o : Nat} {p : Option Addr} {q r : Nat} {s : ByteArray} {w : World} {J : Int -> World -> Prop} (h :
 newB w (.cells ⟨[.int .i64 b, .slice c d e, .string f, .string g, .string i, .int .i64 j, .string k, .string l, .slice m n o, .slice p q r, .string s]⟩ Yed) fun t u =>
 Zzj (fun (ei : Bool) (ej : World) =>
 Zz2 ei (
 J (1 : Int) ej) (
 ldS ej ⟨t, 1, none⟩ fun v x y =>
 Zz2 ((x : Int) == (0 : Int)) (
 J (35 : Int) ej) (
 ldS ej ⟨t, 1, none⟩ fun z aa ab =>
 ldS ej ⟨t, 1, none⟩ fun ac ad ae =>
 Zyx z aa (w64 ((ad : Int) - (1 : Int))) fun af =>
 ldI .i64 ej ((af.add ((w64 ((ad : Int) - (1 : Int))).toNat * 1))) fun ag =>
 ldS ej ⟨t, 1, none⟩ fun ai aj ak =>
 ldS ej ⟨t, 1, none⟩ fun al am an =>
 slS ai aj ak 1 none (some (w64 ((am : Int) - (1 : Int)))) none fun ao ap aq =>
 Zz1 Tryz.prog YcD #[.pointer a, .slice ao ap aq] ej [.one .ptr, .one .bool] fun ar au av =>
 Zzj (fun (ek : Bool) (el : World) =>
 Zz2 ek (
 J (35 : Int) el) (
 Zzj (fun (em : World) =>
 J (0 : Int) em) fun ax =>
 ldI .i64 el ⟨t, 0, none⟩ fun ay =>
 Zz2 (ay == (1 : Int)) (
 Zyp ar fun az =>
 ldS el.drew ((az.add 4)) fun a0 a1 a2 =>
 ldI .i64 el.drew ⟨t, 5, none⟩ fun a3 =>
 ldStr el.drew ⟨t, 6, none⟩ fun a4 =>
 ldStr el.drew ⟨t, 7, none⟩ fun a5 =>
 ldS el.drew ⟨t, 8, none⟩ fun a6 a7 a8 =>
 ldS el.drew ⟨t, 9, none⟩ fun a9 ba bb =>
 ldStr el.drew ⟨t, 10, none⟩ fun bc =>
 Zz1 Tryz.prog ZxM #[.agg ⟨[.int .i64 a3, .string a4, .string a5, .slice a6 a7 a8, .slice a9 ba bb, .string bc]⟩] el.drew [.agg [.int .i64, .str, .str, .slice, .slice, .str]] fun bd be bf bg bi bj bk bl bm bn bo =>
 bo.cell? ((az.add 4)) = some (.slice a0 a1 a2) /\
 Array.size (⟨[.int .i64 bd, .string be, .string bf, .slice bg bi bj, .slice bk bl bm, .string bn]⟩ : Array Value) = 6 /\
 newB bo (.cells ⟨[.int .i64 bd, .string be, .string bf, .slice bg bi bj, .slice bk bl bm, .string bn]⟩ Zz3) fun bp bq =>
 bq.cell? ((az.add 4)) = some (.slice a0 a1 a2) /\
 Zz1 Tryz.prog ZzX #[.slice a0 a1 a2, .int .i64 ag, .slice (some ⟨bp, 0, none⟩) 1 1] bq [.one .slice] fun br bs bt bu =>
 Zyp ar fun bv =>
 stV bu ((bv.add 4)) (.slice br bs bt) fun bx =>
 ax bx) (
 Zz2 (ay == (2 : Int)) (
 Zyp ar fun bz =>
 ldS el ((bz.add 4)) fun b0 b1 b2 =>
 Zz1 Tryz.prog ZzZ #[.slice b0 b1 b2, .int .i64 ag, .int .i64 (w64 (ag + (1 : Int)))] el [.one .slice] fun b3 b4 b5 b6 =>
 Zyp ar fun b7 =>
 stV b6 ((b7.add 4)) (.slice b3 b4 b5) fun b8 =>
 ax b8) (
 Zz2 (ay == (3 : Int)) (
 Zyp ar fun b9 =>
 ldS el.drew ((b9.add 4)) fun ca cb cc =>
 ldI .i64 el.drew ⟨t, 5, none⟩ fun cd =>
 ldStr el.drew ⟨t, 6, none⟩ fun ce =>
 ldStr el.drew ⟨t, 7, none⟩ fun cf =>
 ldS el.drew ⟨t, 8, none⟩ fun cg ci cj =>
 ldS el.drew ⟨t, 9, none⟩ fun ck cl cm =>
 ldStr el.drew ⟨t, 10, none⟩ fun cn =>
 Zz1 Tryz.prog ZxM #[.agg ⟨[.int .i64 cd, .string ce, .string cf, .slice cg ci cj, .slice ck cl cm, .string cn]⟩] el.drew [.agg [.int .i64, .str, .str, .slice, .slice, .str]] fun co cp cq cr cs ct cu cv cx cy cz =>
 cz.cell? ((b9.add 4)) = some (.slice ca cb cc) /\
 Zyx ca cb ag fun c0 =>
 stN cz ((c0.add (ag.toNat * 6))) ⟨[.int .i64 co, .string cp, .string cq, .slice cr cs ct, .slice cu cv cx, .string cy]⟩ 6 fun c1 =>
 ax c1) (
 Zz2 (ay == (6 : Int)) (
 Zyp ar fun c2 =>
 ldS el ((c2.add 4)) fun c3 c4 c5 =>
 Zyx c3 c4 ag fun c6 =>
 Zzj (fun (en : Bool) (eo : World) =>
 Zz2 en (
 J (33 : Int) eo) (
 ldStr eo ⟨t, 4, none⟩ fun c7 =>
 stV eo (((c6.add (ag.toNat * 6)).add 5)) (.string c7) fun c8 =>
 ax c8)) fun c9 =>
 ldI .i64 el ((c6.add (ag.toNat * 6))) fun da =>
 Zz2 (da != (3 : Int)) (
 ldI .i64 el ((c6.add (ag.toNat * 6))) fun db =>
 Zz2 (db != (4 : Int)) (
 ldI .i64 el ((c6.add (ag.toNat * 6))) fun dc =>
 c9 (dc != (5 : Int)) el) (
 c9 false el)) (
 c9 false el)) (
 Zyp ar fun dd =>
 ldS el.drew ((dd.add 4)) fun de df dg =>
 Zyx de df ag fun di =>
 ldI .i64 el.drew ⟨t, 0, none⟩ fun dj =>
 ldS el.drew ⟨t, 1, none⟩ fun dk dl dm =>
 ldStr el.drew ⟨t, 2, none⟩ fun dn =>
 ldStr el.drew ⟨t, 3, none⟩ fun dp =>
 ldStr el.drew ⟨t, 4, none⟩ fun dq =>
 ldI .i64 el.drew ⟨t, 5, none⟩ fun dr =>
 ldStr el.drew ⟨t, 6, none⟩ fun ds =>
 ldStr el.drew ⟨t, 7, none⟩ fun dt =>
 ldS el.drew ⟨t, 8, none⟩ fun du dv dx =>
 ldS el.drew ⟨t, 9, none⟩ fun dy dz d0 =>
 ldStr el.drew ⟨t, 10, none⟩ fun d1 =>
 Zz1 Tryz.prog YcE #[.pointer (some ((di.add (ag.toNat * 6)))), .agg ⟨[.int .i64 dj, .slice dk dl dm, .string dn, .string dp, .string dq, .int .i64 dr, .string ds, .string dt, .slice du dv dx, .slice dy dz d0, .string d1]⟩] el.drew [.one (.int .i64)] fun d2 d3 =>
 J d2 d3)))))) fun d4 =>
 Zz2 (!au) (
 d4 true av) (
 Zz2 (decide (ag < (0 : Int))) (
 d4 true av) (
 Zyp ar fun d5 =>
 ldS av ((d5.add 4)) fun d6 d7 d8 =>
 Zz2 (decide (ag > (d7 : Int))) (
 d4 true av) (
 ldI .i64 av ⟨t, 0, none⟩ fun d9 =>
 Zz2 (d9 != (1 : Int)) (
 Zyp ar fun ea =>
 ldS av ((ea.add 4)) fun eb ec ed =>
 d4 (ag == (ec : Int)) av) (
 d4 false av))))))) fun ee =>
 ldI .i64 u ⟨t, 0, none⟩ fun ef =>
 Zz2 (decide (ef < (1 : Int))) (
 ee true u) (
 ldI .i64 u ⟨t, 0, none⟩ fun eg =>
 ee (decide (eg > (6 : Int))) u)) : Zz1 Tryz.prog Yfl #[.pointer a, .agg ⟨[.int .i64 b, .slice c d e, .string f, .string g, .string i, .int .i64 j, .string k, .string l, .slice m n o, .slice p q r, .string s]⟩] w [.one (.int .i64)] J := Zz5 Tryz.func19 (.s .o (.s (.b (.j [(9, .bool)] .o (.c (.s .o .o) (.s .o (.c (.s .o .o) .o))))) (.s .o (.s .o (.s (.j [(71, .bool)] .o (.c (.s .o .o) .o)) (.j [] (.s .o (.b (.s .o (.c (.d (.take 0 (.take 1 (.take 2 (.take 3 (.take 4 (.take 5 (.take 6 (.take 7 (.eff 8 (.eff 9 (.eff 10 (.take 11 (.take 12 (.eff 13 .done .none))) .none) .none) .none)))))))))) (.s .o (.c .o (.s .o (.c (.d (.take 0 (.take 1 (.take 2 (.take 3 (.take 4 (.take 5 (.take 6 (.eff 7 (.take 8 (.eff 9 .done .none)) .none))))))))) (.s .o (.c (.s .o (.s (.j [(147, .bool)] .o (.c (.s .o .o) .o)) .o)) (.s (.d (.take 0 (.take 1 (.take 2 (.take 3 (.take 4 (.take 5 (.take 6 (.eff 7 (.take 8 .done) .none))))))))) .o))))))))))) (.s .o .o))))))) (Eq.mpr (by kernel_rfl) h)
theorem c_edit_attr_n0 {a : Addr} {b : Int} {c : Option Addr} {d e : Nat} {f g i : ByteArray} {j : Int} {k l : ByteArray} {m : Option Addr} {n o : Nat} {p : Option Addr} {q r : Nat} {s : ByteArray} {w : World} {J : Int -> World -> Prop} (h :
 newB w (.cells ⟨[.int .i64 b, .slice c d e, .string f, .string g, .string i, .int .i64 j, .string k, .string l, .slice m n o, .slice p q r, .string s]⟩ Yed) fun t u =>
 ldI .i64 u a fun v =>
 Zz2 (v != (2 : Int)) (
 J (33 : Int) u) (
 ldS u.drew ((a.add 3)) fun x y z =>
 ldStr u.drew ⟨t, 2, none⟩ fun aa =>
 ldStr u.drew ⟨t, 3, none⟩ fun ab =>
 Zz1 Tryz.prog Zzq #[.slice x y z, .agg ⟨[.string aa, .string ab]⟩, .func (.func 120) #[] #[]] u.drew [.one (.int .i64), .one .bool] fun ac ad ae =>
 Zzj (fun (be : World) =>
 J (0 : Int) be) fun af =>
 Zzj (fun (bf : Bool) (bg : World) =>
 Zz2 bf (
 ldS bg.drew ((a.add 3)) fun ag ai aj =>
 ldStr bg.drew ⟨t, 4, none⟩ fun ak =>
 Zyx ag ai ac fun al =>
 stV bg.drew (((al.add (ac.toNat * 3)).add 2)) (.string ak) fun am =>
 af am) (
 ldI .i64 bg ⟨t, 0, none⟩ fun an =>
 Zz2 (an == (4 : Int)) (
 ldS bg.drew ((a.add 3)) fun ao ap aq =>
 ldStr bg.drew ⟨t, 2, none⟩ fun ar =>
 ldStr bg.drew ⟨t, 3, none⟩ fun au =>
 ldStr bg.drew ⟨t, 4, none⟩ fun av =>
 Array.size (⟨[.string ar, .string au]⟩ : Array Value) = 2 /\
 Array.size (⟨[.string ar, .string au, .string av]⟩ : Array Value) = 3 /\
 newB bg.drew (.cells ⟨[.string ar, .string au, .string av]⟩ Zzu) fun ax ay =>
 ay.cell? ((a.add 3)) = some (.slice ao ap aq) /\
 Zz1 Tryz.prog ZzY #[.slice ao ap aq, .int .i64 ac, .slice (some ⟨ax, 0, none⟩) 1 1] ay [.one .slice] fun az a0 a1 a2 =>
 stV a2 ((a.add 3)) (.slice az a0 a1) fun a3 =>
 af a3) (
 Zz2 ad (
 ldS bg ((a.add 3)) fun a4 a5 a6 =>
 Zz1 Tryz.prog Zy0 #[.slice a4 a5 a6, .int .i64 ac, .int .i64 (w64 (ac + (1 : Int)))] bg [.one .slice] fun a7 a8 a9 ba =>
 stV ba ((a.add 3)) (.slice a7 a8 a9) fun bb =>
 af bb) (
 J (7 : Int) bg)))) fun bc =>
 ldI .i64 ae ⟨t, 0, none⟩ fun bd =>
 Zz2 (bd == (4 : Int)) (
 bc ad ae) (
 bc false ae))) : Zz1 Tryz.prog YcE #[.pointer (some a), .agg ⟨[.int .i64 b, .slice c d e, .string f, .string g, .string i, .int .i64 j, .string k, .string l, .slice m n o, .slice p q r, .string s]⟩] w [.one (.int .i64)] J := Zz5 Tryz.func63 (.s .o (.s (.s .o (.c (.s .o .o) .o)) (.s (.d (.take 0 (.take 1 (.take 2 (.take 3 (.take 4 (.take 5 (.eff 6 (.take 7 (.take 8 (.take 9 (.take 10 (.take 11 .done))))) .none)))))))) (.j [] (.b (.j [(22, .bool)] .o (.c (.d (.take 0 (.take 1 (.take 2 (.take 3 (.take 4 (.take 5 (.take 6 (.take 7 (.take 8 (.eff 9 .done .none))))))))))) (.s .o (.c (.d (.take 0 (.take 1 (.take 2 (.take 3 (.take 4 (.take 5 (.take 6 (.take 7 (.take 8 (.take 9 (.take 10 (.eff 11 (.eff 12 (.take 13 (.take 14 (.eff 15 .done .none))) .none) .none))))))))))))) (.s .o (.c .o (.s .o .o)))))))) (.s .o .o))))) (Eq.mpr (by kernel_rfl) h)
end Go.Proofs.YtlnfaaghdkngmaaGreatDoor
end
section
namespace Go.Proofs.YtlnfaaghdkngmaaGreatDoor
open Go Go.Vc
theorem Yby {a : Option Addr} {b c : Nat} {w : World} {J : Option Addr -> Nat -> Nat -> World -> Prop} (h :
 Zz2 a.isNone (
 J none 0 0 w) (
 newB w (.cells ⟨[]⟩ ZqJ) fun d e =>
 YcO Tryz.prog Yap Yap (.slice (some ⟨d, 0, none⟩) 0 0) (.slice a b c) e fun f g i j =>
 J f g i j)) : Zz1 Tryz.prog Zyg #[.slice a b c] w [.one .slice] J := Zz5 Tryz.func67 (.s .o (.s (.s .o (.c (.s .o .o) .o)) (.s .o .o))) (Eq.mpr (by kernel_rfl) h)
end Go.Proofs.YtlnfaaghdkngmaaGreatDoor
end
