/- What the statement needs, part 1. -/
import Derived.Test.YtglnmjflpkeclaaGreatDoorZ0
set_option linter.unusedSectionVars false
set_option linter.unusedVariables false
set_option linter.unusedSimpArgs false
set_option maxRecDepth 100000
open List
section
namespace Go.Proofs.YtglnmjflpkeclaaGreatDoor
open Go Go.Vc
theorem c_scope_New {w : World} {J : Option Addr -> Nat -> Nat -> World -> Prop} (h :
 newB w (.cells (Zy2 Tryz.prog Zzh) Zzh) fun a b =>
 stN b ⟨a, 0, none⟩ ⟨[.slice none 0 0]⟩ 1 fun c =>
 ldS c ⟨a, 0, none⟩ fun d e f =>
 J d e f c) : Zz0 Tryz.prog Yem #[] w [.agg [.slice]] J:=Zz3 Tryz.func14 (.s .o (.s .o .o)) (Eq.mpr (by kernel_rfl) h)
theorem YfP {a : Option Addr} {b c : Nat} {d : Option Addr} {e f : Nat} {w : World} {J : Option Addr -> Nat -> Nat -> Int -> World -> Prop} (h :
 newB w (.cells ⟨[.slice a b c]⟩ Zzh) fun g i =>
 newB i (.cells (Zy2 Tryz.prog Zzh) Zzh) fun j k =>
 ldS k ⟨g, 0, none⟩ fun l m n =>
 Zz0 Tryz.prog Zy1 #[.slice l m n] k [.one .slice] fun o p q r =>
 ∃ cb : Option Addr -> Nat -> Nat -> Option Addr -> Nat -> Nat -> Int -> World -> Nat -> Prop, (∃ cc, cb none 0 0 o p q (0 : Int) r cc) /\ ∀ (bs : Option Addr) (bt : Nat) (bu : Nat) (bv : Option Addr) (bx : Nat) (bz : Nat) (b0 : Int) (b1 : World) (cc : Nat), cb bs bt bu bv bx bz b0 b1 cc -> (
 Zz1 (decide (b0 < (e : Int))) (
 Zzf (fun (b2 : Option Addr) (b3 : Nat) (b4 : Nat) (b5 : Option Addr) (b6 : Nat) (b7 : Nat) (b8 : World) =>
 ∃ cd, cd < cc /\ cb b2 b3 b4 b5 b6 b7 (w64 (b0 + (1 : Int))) b8 cd) fun s =>
 ZzS d e b0 fun t =>
 ldStr b1 ((t.add (b0.toNat * 2))) fun u =>
 ldStr b1 (((t.add (b0.toNat * 2)).add 1)) fun v =>
 newB b1 (.cells (Zy2 Tryz.prog Zzo) Zzo) fun x y =>
 stN y ⟨x, 0, none⟩ ⟨[.string u, .string v]⟩ 2 fun z =>
 ldStr z ⟨x, 0, none⟩ fun aa =>
 ldStr z ⟨x, 1, none⟩ fun ab =>
 Zz0 Tryz.prog ZqM #[.agg ⟨[.string aa, .string ab]⟩] z [.one .str, .one .bool] fun ac ad ae =>
 newB ae (.cells (Zy2 Tryz.prog Zz8) Zz8) fun af ag =>
 stV ag ⟨af, 0, none⟩ (.string ac) fun ai =>
 Zz1 (!ad) (
 s bs bt bu bv bx bz ai) (
 ldStr ai ⟨af, 0, none⟩ fun aj =>
 ldStr ai ⟨x, 1, none⟩ fun ak =>
 Zz0 Tryz.prog YcL #[.string aj, .string ak] ai [.one (.int .i64)] fun al am =>
 Zz1 (al != (0 : Int)) (
 stN am ⟨j, 0, none⟩ ⟨[.slice none 0 0]⟩ 1 fun an =>
 ldS an ⟨j, 0, none⟩ fun ao ap aq =>
 J ao ap aq al an) (
 ldStr am ⟨af, 0, none⟩ fun ar =>
 Zz0 Tryz.prog Zyd #[.slice bs bt bu, .string ar] am [.one .bool] fun au av =>
 Zz1 au (
 stN av ⟨j, 0, none⟩ ⟨[.slice none 0 0]⟩ 1 fun ax =>
 ldS ax ⟨j, 0, none⟩ fun ay az a0 =>
 J ay az a0 (27 : Int) ax) (
 ldStr av ⟨af, 0, none⟩ fun a1 =>
 newB av (.cells ⟨[.string a1]⟩ Zz8) fun a2 a3 =>
 YeJ Tryz.prog Zyn Zyn (.slice bs bt bu) (.slice (some ⟨a2, 0, none⟩) 1 1) a3 fun a4 a5 a6 a7 =>
 Zz0 Tryz.prog ZzM #[.slice bv bx bz, .func (.func 119) #[] #[.pointer (some ⟨af, 0, none⟩)]] a7 [.one .slice] fun a8 a9 ba bb =>
 Zzf (fun (b9 : Bool) (ca : World) =>
 Zz1 b9 (
 ldStr ca ⟨af, 0, none⟩ fun bc =>
 ldStr ca ⟨x, 1, none⟩ fun bd =>
 Array.size (⟨[.string bc, .string bd]⟩ : Array Value) = 2 /\
 newB ca (.cells ⟨[.string bc, .string bd]⟩ Zzp) fun be bf =>
 YeJ Tryz.prog Zq3 Zq3 (.slice a8 a9 ba) (.slice (some ⟨be, 0, none⟩) 1 1) bf fun bg bi bj bk =>
 s a4 a5 a6 bg bi bj bk) (
 s a4 a5 a6 a8 a9 ba ca)) fun bl =>
 ldStr bb ⟨af, 0, none⟩ fun bm =>
 Zz1 (!(bm.toList == (⟨#[120, 109, 108]⟩ : ByteArray).toList)) (
 ldStr bb ⟨x, 1, none⟩ fun bn =>
 bl (!(bn.toList == (⟨#[]⟩ : ByteArray).toList)) bb) (
 bl false bb))))) (
 stN b1 ⟨j, 0, none⟩ ⟨[.slice bv bx bz]⟩ 1 fun bo =>
 ldS bo ⟨j, 0, none⟩ fun bp bq br =>
 J bp bq br (0 : Int) bo))) : Zz0 Tryz.prog Zyz #[.agg ⟨[.slice a b c]⟩, .slice d e f] w [.agg [.slice], .one (.int .i64)] J:=Zz3 Tryz.func64 (.s .o (.s .o (.s .o (.s (.s .o (.b (.l [(6, .slice), (7, .slice), (18, .int .i64)] (.s .o (.s (.c .o .o) (.j [(6, .slice), (7, .slice)] (.b (.s .o (.s .o (.s (.s .o (.c .o .o)) (.s (.s .o (.s .o (.c (.s .o .o) .o))) (.s (.s .o (.c (.s .o .o) .o)) (.s .o (.s .o (.j [(54, .bool)] .o (.c .o .o)))))))))) .o)))))) (.s .o .o))))) (Eq.mpr (by kernel_rfl) h)
theorem YgL {a b : ByteArray} {w : World} {J : ByteArray -> Bool -> World -> Prop} (h :
 newB w (.cells ⟨[.string a, .string b]⟩ Zzo) fun c d =>
 ldStr d ⟨c, 0, none⟩ fun e =>
 Zz0 Tryz.prog ZqN #[.string e] d [.one .str, .one .str, .one .bool] fun f g i j =>
 Zzf (fun (m : Bool) (n : World) =>
 Zz1 m (
 J g true n) (
 ldStr n ⟨c, 0, none⟩ fun k =>
 Zz1 (k.toList == (⟨#[120, 109, 108, 110, 115]⟩ : ByteArray).toList) (
 J ⟨#[]⟩ true n) (
 J ⟨#[]⟩ false n))) fun l =>
 Zz1 i (
 l (f.toList == (⟨#[120, 109, 108, 110, 115]⟩ : ByteArray).toList) j) (
 l false j)) : Zz0 Tryz.prog ZqM #[.agg ⟨[.string a, .string b]⟩] w [.one .str, .one .bool] J:=Zz3 Tryz.func115 (.s .o (.s .o (.s (.b (.j [(14, .bool)] .o (.c (.s .o .o) (.s .o (.c (.s .o .o) .o))))) (.s .o .o)))) (Eq.mpr (by kernel_rfl) h)
theorem c_scope_wrong {a b : ByteArray} {w : World} {J : Int -> World -> Prop} (h :
 Zzf (fun (e : Bool) (f : World) =>
 Zz1 e (
 J (29 : Int) f) (
 Zzf (fun (g : Bool) (i : World) =>
 Zz1 g (
 J (28 : Int) i) (
 Zz1 (decide ((b.size : Int) > (100 : Int))) (
 J (6 : Int) i) (
 J (0 : Int) i))) fun c =>
 Zz1 (!(a.toList == (⟨#[]⟩ : ByteArray).toList)) (
 c (b.toList == (⟨#[]⟩ : ByteArray).toList) f) (
 c false f))) fun d =>
 Zz1 (a.toList == (⟨#[120, 109, 108, 110, 115]⟩ : ByteArray).toList) (
 d (a.toList == (⟨#[120, 109, 108, 110, 115]⟩ : ByteArray).toList) w) (
 Zz1 (b.toList == (⟨#[104, 116, 116, 112, 58, 47, 47, 119, 119, 119, 46, 119, 51, 46, 111, 114, 103, 47, 50, 48, 48, 48, 47, 120, 109, 108, 110, 115, 47]⟩ : ByteArray).toList) (
 d (b.toList == (⟨#[104, 116, 116, 112, 58, 47, 47, 119, 119, 119, 46, 119, 51, 46, 111, 114, 103, 47, 50, 48, 48, 48, 47, 120, 109, 108, 110, 115, 47]⟩ : ByteArray).toList) w) (
 d (!((a.toList == (⟨#[120, 109, 108]⟩ : ByteArray).toList) == (b.toList == (⟨#[104, 116, 116, 112, 58, 47, 47, 119, 119, 119, 46, 119, 51, 46, 111, 114, 103, 47, 88, 77, 76, 47, 49, 57, 57, 56, 47, 110, 97, 109, 101, 115, 112, 97, 99, 101]⟩ : ByteArray).toList))) w))) : Zz0 Tryz.prog YcL #[.string a, .string b] w [.one (.int .i64)] J:=Zz3 Tryz.func116 (.s .o (.s (.b (.j [(5, .bool)] (.s .o (.c .o (.s .o (.c .o .o)))) (.c (.s .o .o) (.j [(15, .bool)] .o (.c (.s .o .o) (.s .o (.c (.s .o .o) .o))))))) (.s .o .o))) (Eq.mpr (by kernel_rfl) h)
theorem ZqD {a : Option Addr} {b c : Nat} {w : World} {J : Option Addr -> Nat -> Nat -> World -> Prop} (h :
 Zz1 a.isNone (
 J none 0 0 w) (
 newB w (.cells ⟨[]⟩ Zzp) fun d e =>
 YeJ Tryz.prog Zq3 Zq3 (.slice (some ⟨d, 0, none⟩) 0 0) (.slice a b c) e fun f g i j =>
 J f g i j)) : Zz0 Tryz.prog Zy1 #[.slice a b c] w [.one .slice] J:=Zz3 Tryz.func114 (.s .o (.s (.s .o (.c (.s .o .o) .o)) (.s .o .o))) (Eq.mpr (by kernel_rfl) h)
theorem Yay {a : Option Addr} {b c : Nat} {d : ByteArray} {w : World} {J : Bool -> World -> Prop} (h :
 Zz0 Tryz.prog ZxG #[.slice a b c, .string d] w [.one (.int .i64)] fun e f =>
 J (decide (e >= (0 : Int))) f) : Zz0 Tryz.prog Zyd #[.slice a b c, .string d] w [.one .bool] J:=Zz3 Tryz.func117 (.s .o (.s .o .o)) (Eq.mpr (by kernel_rfl) h)
theorem Yb3 {a : Option Addr} {b c : Nat} {d : ByteArray} {w : World} {J : Int -> World -> Prop} (h :
 ∃ g : Int -> World -> Nat -> Prop, (∃ i, g (0 : Int) w i) /\ ∀ j k i, g j k i -> (
 Zz1 (decide (j < (b : Int))) (
 ZzS a b j fun e =>
 ldStr k ((e.add (j.toNat * 1))) fun f =>
 Zz1 (d.toList == f.toList) (
 J j k) (
 ∃ l, l < i /\ g (w64 (j + (1 : Int))) k l)) (
 J (-1 : Int) k))) : Zz0 Tryz.prog ZxG #[.slice a b c, .string d] w [.one (.int .i64)] J:=Zz3 Tryz.func155 (.s .o (.s (.s .o (.b (.l [(8, .int .i64)] (.s .o (.s (.c .o .o) (.s (.b (.s .o (.s .o (.c (.s .o .o) .o)))) .o)))))) (.s .o .o))) (Eq.mpr (by kernel_rfl) h)
theorem ZyY {a : Option Addr} {b c : Nat} {d : Addr} {w : World} {J : Option Addr -> Nat -> Nat -> World -> Prop} (h :
 Zz0 Tryz.prog ZzR #[.slice a b c, .func (.func 119) #[] #[.pointer (some d)]] w [.one (.int .i64)] fun e f =>
 Zz1 (e == (-1 : Int)) (
 J a b c f) (
 ∃ ak : Int -> Int -> World -> Nat -> Prop, (∃ al, ak e (w64 (e + (1 : Int))) f al) /\ ∀ (ae : Int) (af : Int) (ag : World) (al : Nat), ak ae af ag al -> (
 Zz1 (decide (af < (b : Int))) (
 Zzf (fun (ai : Int) (aj : World) =>
 ∃ am, am < al /\ ak ai (w64 (af + (1 : Int))) aj am) fun g =>
 ZzS a b af fun i =>
 ldStr ag ((i.add (af.toNat * 2))) fun j =>
 ldStr ag (((i.add (af.toNat * 2)).add 1)) fun k =>
 newB ag (.cells (Zy2 Tryz.prog Zzp) Zzp) fun l m =>
 stN m ⟨l, 0, none⟩ ⟨[.string j, .string k]⟩ 2 fun n =>
 ldStr n ⟨l, 0, none⟩ fun o =>
 ldStr n ⟨l, 1, none⟩ fun p =>
 Zz0 Tryz.prog Zxk #[.agg ⟨[.string o, .string p]⟩, .pointer (some d)] n [.one .bool] fun q r =>
 Zz1 (!q) (
 ldStr r ⟨l, 0, none⟩ fun s =>
 ldStr r ⟨l, 1, none⟩ fun t =>
 ZzS a b ae fun u =>
 stN r ((u.add (ae.toNat * 2))) ⟨[.string s, .string t]⟩ 2 fun v =>
 g (w64 (ae + (1 : Int))) v) (
 g ae r)) (
 slS a b c 2 (some ae) none none fun x y z =>
 clrJ Tryz.prog Zq3 (.slice x y z) ag fun aa =>
 slS a b c 2 none (some ae) none fun ab ac ad =>
 J ab ac ad aa)))) : Zz0 Tryz.prog ZzM #[.slice a b c, .func (.func 119) #[] #[.pointer (some d)]] w [.one .slice] J:=Zz3 Tryz.func118 (.s .o (.s .o (.s (.s .o (.c (.s .o .o) .o)) (.s (.s .o (.b (.l [(5, .int .i64), (6, .int .i64)] (.s (.s .o (.c .o .o)) (.j [(5, .int .i64)] (.b (.s .o (.s .o (.c (.s .o .o) .o)))) .o))))) (.s .o (.s .o .o)))))) (Eq.mpr (by kernel_rfl) h)
theorem YeP {a b : ByteArray} {c : Addr} {w : World} {J : Bool -> World -> Prop} (h :
 newB w (.cells ⟨[.string a, .string b]⟩ Zzp) fun d e =>
 ldStr e ⟨d, 0, none⟩ fun f =>
 ldStr e c fun g =>
 J (f.toList == g.toList) e) : Zz0 Tryz.prog Zxk #[.agg ⟨[.string a, .string b]⟩, .pointer (some c)] w [.one .bool] J:=Zz3 Tryz.func119 (.s .o (.s .o .o)) (Eq.mpr (by kernel_rfl) h)
theorem Zx0 {a : Option Addr} {b c : Nat} {d : Addr} {w : World} {J : Int -> World -> Prop} (h :
 ∃ k : Int -> World -> Nat -> Prop, (∃ l, k (0 : Int) w l) /\ ∀ m n l, k m n l -> (
 Zz1 (decide (m < (b : Int))) (
 ZzS a b m fun e =>
 ldStr n ((e.add (m.toNat * 2))) fun f =>
 ldStr n (((e.add (m.toNat * 2)).add 1)) fun g =>
 Zz0 Tryz.prog Zxk #[.agg ⟨[.string f, .string g]⟩, .pointer (some d)] n [.one .bool] fun i j =>
 Zz1 i (
 J m j) (
 ∃ o, o < l /\ k (w64 (m + (1 : Int))) j o)) (
 J (-1 : Int) n))) : Zz0 Tryz.prog ZzR #[.slice a b c, .func (.func 119) #[] #[.pointer (some d)]] w [.one (.int .i64)] J:=Zz3 Tryz.func156 (.s .o (.s (.s .o (.b (.l [(8, .int .i64)] (.s .o (.s (.c .o .o) (.s (.b (.s .o (.s .o (.c (.s .o .o) .o)))) .o)))))) (.s .o .o))) (Eq.mpr (by kernel_rfl) h)
theorem Yfm {a : Option Addr} {b c : Nat} {d : ByteArray} {w : World} {J : ByteArray -> Bool -> World -> Prop} (h :
 newB w (.cells ⟨[.slice a b c]⟩ Zzh) fun e f =>
 Zz1 (d.toList == (⟨#[120, 109, 108]⟩ : ByteArray).toList) (
 J ⟨#[104, 116, 116, 112, 58, 47, 47, 119, 119, 119, 46, 119, 51, 46, 111, 114, 103, 47, 88, 77, 76, 47, 49, 57, 57, 56, 47, 110, 97, 109, 101, 115, 112, 97, 99, 101]⟩ true f) (
 ldS f ⟨e, 0, none⟩ fun g i j =>
 ∃ s : Int -> World -> Nat -> Prop, (∃ t, s (0 : Int) f t) /\ ∀ u v t, s u v t -> (
 Zz1 (decide (u < (i : Int))) (
 ZzS g i u fun k =>
 ldStr v ((k.add (u.toNat * 2))) fun l =>
 ldStr v (((k.add (u.toNat * 2)).add 1)) fun m =>
 newB v (.cells (Zy2 Tryz.prog Zzp) Zzp) fun n o =>
 stN o ⟨n, 0, none⟩ ⟨[.string l, .string m]⟩ 2 fun p =>
 ldStr p ⟨n, 0, none⟩ fun q =>
 Zz1 (q.toList == d.toList) (
 ldStr p ⟨n, 1, none⟩ fun r =>
 J r true p) (
 ∃ x, x < t /\ s (w64 (u + (1 : Int))) p x)) (
 J ⟨#[]⟩ (d.toList == (⟨#[]⟩ : ByteArray).toList) v)))) : Zz0 Tryz.prog ZqV #[.agg ⟨[.slice a b c]⟩, .string d] w [.one .str, .one .bool] J:=Zz3 Tryz.func121 (.s .o (.s (.s .o (.c (.s .o .o) .o)) (.s (.s .o (.b (.l [(13, .int .i64)] (.s .o (.s (.c .o .o) (.s (.b (.s .o (.s .o (.c (.s .o .o) .o)))) .o)))))) (.s .o .o)))) (Eq.mpr (by kernel_rfl) h)
theorem Yet {a : Option Addr} {b c : Nat} {d : ByteArray} {w : World} {J : ByteArray -> ByteArray -> Int -> World -> Prop} (h :
 newB w (.cells ⟨[.slice a b c]⟩ Zzh) fun e f =>
 newB f (.cells (Zy2 Tryz.prog Zyr) Zyr) fun g i =>
 Zz0 Tryz.prog ZqN #[.string d] i [.one .str, .one .str, .one .bool] fun j k l m =>
 Zz1 (!l) (
 stN m ⟨g, 0, none⟩ ⟨[.string ByteArray.empty, .string ByteArray.empty]⟩ 2 fun n =>
 ldStr n ⟨g, 0, none⟩ fun o =>
 ldStr n ⟨g, 1, none⟩ fun p =>
 J o p (24 : Int) n) (
 Zz1 (j.toList == (⟨#[120, 109, 108, 110, 115]⟩ : ByteArray).toList) (
 stN m ⟨g, 0, none⟩ ⟨[.string ByteArray.empty, .string ByteArray.empty]⟩ 2 fun q =>
 ldStr q ⟨g, 0, none⟩ fun r =>
 ldStr q ⟨g, 1, none⟩ fun s =>
 J r s (29 : Int) q) (
 ldS m ⟨e, 0, none⟩ fun t u v =>
 Zz0 Tryz.prog ZqV #[.agg ⟨[.slice t u v]⟩, .string j] m [.one .str, .one .bool] fun x y z =>
 Zz1 (!y) (
 stN z ⟨g, 0, none⟩ ⟨[.string ByteArray.empty, .string ByteArray.empty]⟩ 2 fun aa =>
 ldStr aa ⟨g, 0, none⟩ fun ab =>
 ldStr aa ⟨g, 1, none⟩ fun ac =>
 J ab ac (28 : Int) aa) (
 stN z ⟨g, 0, none⟩ ⟨[.string x, .string k]⟩ 2 fun ad =>
 ldStr ad ⟨g, 0, none⟩ fun ae =>
 ldStr ad ⟨g, 1, none⟩ fun af =>
 J ae af (0 : Int) ad)))) : Zz0 Tryz.prog Zx8 #[.agg ⟨[.slice a b c]⟩, .string d] w [.agg [.str, .str], .one (.int .i64)] J:=Zz3 Tryz.func65 (.s .o (.s .o (.s (.b (.s .o (.c (.s .o .o) (.s .o (.c (.s .o .o) .o))))) (.s .o (.s (.s .o (.c (.s .o .o) .o)) (.s .o .o)))))) (Eq.mpr (by kernel_rfl) h)
theorem Yfn {a : Option Addr} {b c : Nat} {d : Option Addr} {e f : Nat} {w : World} {J : Option Addr -> Nat -> Nat -> Int -> World -> Prop} (h :
 newB w (.cells ⟨[.slice a b c]⟩ Zzh) fun g i =>
 ∃ bm : Option Addr -> Nat -> Nat -> Int -> World -> Nat -> Prop, (∃ bn, bm none 0 0 (0 : Int) i bn) /\ ∀ (a9 : Option Addr) (ba : Nat) (bb : Nat) (bc : Int) (bd : World) (bn : Nat), bm a9 ba bb bc bd bn -> (
 Zz1 (decide (bc < (e : Int))) (
 Zzf (fun (be : Option Addr) (bf : Nat) (bg : Nat) (bi : World) =>
 ∃ bo, bo < bn /\ bm be bf bg (w64 (bc + (1 : Int))) bi bo) fun j =>
 ZzS d e bc fun k =>
 ldStr bd ((k.add (bc.toNat * 2))) fun l =>
 ldStr bd (((k.add (bc.toNat * 2)).add 1)) fun m =>
 newB bd (.cells (Zy2 Tryz.prog Zzo) Zzo) fun n o =>
 stN o ⟨n, 0, none⟩ ⟨[.string l, .string m]⟩ 2 fun p =>
 ldStr p ⟨n, 0, none⟩ fun q =>
 ldStr p ⟨n, 1, none⟩ fun r =>
 Zz0 Tryz.prog ZqM #[.agg ⟨[.string q, .string r]⟩] p [.one .str, .one .bool] fun s t u =>
 Zz1 t (
 j a9 ba bb u) (
 ldS u ⟨g, 0, none⟩ fun v x y =>
 ldStr u ⟨n, 0, none⟩ fun z =>
 Zz0 Tryz.prog Zx8 #[.agg ⟨[.slice v x y]⟩, .string z] u [.agg [.str, .str], .one (.int .i64)] fun aa ab ac ad =>
 newB ad (.cells (Zy2 Tryz.prog Zyr) Zyr) fun ae af =>
 stN af ⟨ae, 0, none⟩ ⟨[.string aa, .string ab]⟩ 2 fun ag =>
 Zz1 (ac != (0 : Int)) (
 J none 0 0 ac ag) (
 Zzf (fun (bj : World) =>
 ldStr bj ⟨ae, 0, none⟩ fun ai =>
 ldStr bj ⟨ae, 1, none⟩ fun aj =>
 ldStr bj ⟨n, 1, none⟩ fun ak =>
 Array.size (⟨[.string ai, .string aj]⟩ : Array Value) = 2 /\
 Array.size (⟨[.string ai, .string aj, .string ak]⟩ : Array Value) = 3 /\
 newB bj (.cells ⟨[.string ai, .string aj, .string ak]⟩ ZzO) fun al am =>
 YeJ Tryz.prog YdO YdO (.slice a9 ba bb) (.slice (some ⟨al, 0, none⟩) 1 1) am fun an ao ap aq =>
 j an ao ap aq) fun ar =>
 ldStr ag ⟨n, 0, none⟩ fun au =>
 Zz0 Tryz.prog ZqN #[.string au] ag [.one .str, .one .str, .one .bool] fun av ax ay az =>
 Zz1 (av.toList == (⟨#[]⟩ : ByteArray).toList) (
 stV az ⟨ae, 0, none⟩ (.string ⟨#[]⟩) fun a0 =>
 ar a0) (
 ar az)))) (
 Zz0 Tryz.prog ZzL #[.slice a9 ba bb, .func (.func 123) #[] #[]] bd [] fun a1 =>
 ∃ bp : Int -> World -> Nat -> Prop, (∃ bn, bp (0 : Int) a1 bn) /\ ∀ bq br bs, bp bq br bs -> (
 Zz1 (decide (bq < (ba : Int))) (
 Zzf (fun (bk : Bool) (bl : World) =>
 Zz1 bk (
 J none 0 0 (27 : Int) bl) (
 ∃ bo, bo < bs /\ bp (w64 (bq + (1 : Int))) bl bo)) fun a2 =>
 Zz1 (decide (bq > (0 : Int))) (
 ZzS a9 ba bq fun a3 =>
 ldStr br.drew ((a3.add (bq.toNat * 3))) fun a4 =>
 ldStr br.drew (((a3.add (bq.toNat * 3)).add 1)) fun a5 =>
 ZzS a9 ba (w64 (bq - (1 : Int))) fun a6 =>
 ldStr br.drew ((a6.add ((w64 (bq - (1 : Int))).toNat * 3))) fun a7 =>
 ldStr br.drew (((a6.add ((w64 (bq - (1 : Int))).toNat * 3)).add 1)) fun a8 =>
 a2 ((a4.toList == a7.toList) && ((a5.toList == a8.toList) && true)) br.drew) (
 a2 false br.drew)) (
 J a9 ba bb (0 : Int) br))))) : Zz0 Tryz.prog ZqW #[.agg ⟨[.slice a b c]⟩, .slice d e f] w [.one .slice, .one (.int .i64)] J:=Zz3 Tryz.func66 (.s .o (.s .o (.s (.s .o (.b (.l [(6, .slice), (19, .int .i64)] (.s .o (.s (.c .o .o) (.j [(6, .slice)] (.b (.s .o (.s (.s .o (.s .o (.c .o .o))) (.s .o (.s (.s .o (.c (.s .o .o) .o)) (.j [] (.s .o (.s .o (.c .o .o))) .o)))))) .o)))))) (.s .o (.s (.s .o (.b (.l [(61, .int .i64)] (.s .o (.s (.c .o .o) (.s (.b (.s .o (.j [(79, .bool)] (.d (.take 0 (.take 1 (.take 2 (.take 3 (.take 4 (.take 5 (.take 6 (.take 7 (.take 8 (.take 9 (.take 10 (.take 11 (.take 12 (.take 13 (.take 14 (.take 15 .done))))))))))))))))) (.c (.s .o .o) .o)))) .o)))))) (.s .o .o)))))) (Eq.mpr (by kernel_rfl) h)
theorem Yeu {a b c d e f : ByteArray} {w : World} {J : Int -> World -> Prop} (h :
 newB w (.cells ⟨[.string a, .string b, .string c]⟩ ZzO) fun g i =>
 newB i (.cells ⟨[.string d, .string e, .string f]⟩ ZzO) fun j k =>
 ldStr k.drew ⟨g, 0, none⟩ fun l =>
 ldStr k.drew ⟨j, 0, none⟩ fun m =>
 ldStr k.drew ⟨g, 1, none⟩ fun n =>
 ldStr k.drew ⟨j, 1, none⟩ fun o =>
 Zz0 Tryz.prog Zyg #[.string l, .string m] k.drew [.one (.int .i64)] fun p q =>
 q.cell? ⟨j, 1, none⟩ = some (.string o) /\
 q.cell? ⟨g, 1, none⟩ = some (.string n) /\
 Zz0 Tryz.prog Zyg #[.string n, .string o] q [.one (.int .i64)] fun r s =>
 newB s (.cells ⟨[.int .i64 p, .int .i64 r]⟩ T_int) fun t u =>
 Zz0 Tryz.prog Ydz #[.slice (some ⟨t, 0, none⟩) 2 2] u [.one (.int .i64)] fun v x =>
 J v x) : Zz0 Tryz.prog ZzY #[.agg ⟨[.string a, .string b, .string c]⟩, .agg ⟨[.string d, .string e, .string f]⟩] w [.one (.int .i64)] J:=Zz3 Tryz.func123 (.s .o (.s (.d (.take 0 (.take 1 (.take 2 (.take 3 (.take 4 (.take 5 (.take 7 (.take 8 (.take 9 (.take 10 (.take 11 (.take 12 (.eff 6 (.eff 13 (.eff 14 (.eff 15 (.take 16 .done) .none) .none) .none) .none)))))))))))))) .o)) (Eq.mpr (by kernel_rfl) h)
end Go.Proofs.YtglnmjflpkeclaaGreatDoor
end
section
namespace Go.Vc
open Go Go.Lib
def rdN (n b0 b1 b2 b3 : Nat) : Nat × Nat :=
 if b0 < 128 then (b0, 1)
 else if b0 < 192 then (0, 0)
 else if b0 < 224 then
  (if 2 <= n /\ (128 <= b1 /\ b1 <= 191) /\ 128 <= 64 * (b0 - 192) + (b1 - 128) then (64 * (b0 - 192) + (b1 - 128), 2) else (0, 0))
 else if b0 < 240 then
  (if 3 <= n /\ (128 <= b1 /\ b1 <= 191) /\ (128 <= b2 /\ b2 <= 191) /\ 2048 <= 64 * (64 * (b0 - 224) + (b1 - 128)) + (b2 - 128) /\ (64 * (64 * (b0 - 224) + (b1 - 128)) + (b2 - 128) < 55296 \/ 57344 <= 64 * (64 * (b0 - 224) + (b1 - 128)) + (b2 - 128))
   then (64 * (64 * (b0 - 224) + (b1 - 128)) + (b2 - 128), 3) else (0, 0))
 else if b0 < 248 then
  (if 4 <= n /\ (128 <= b1 /\ b1 <= 191) /\ (128 <= b2 /\ b2 <= 191) /\ (128 <= b3 /\ b3 <= 191) /\ 65536 <= 64 * (64 * (64 * (b0 - 240) + (b1 - 128)) + (b2 - 128)) + (b3 - 128) /\ 64 * (64 * (64 * (b0 - 240) + (b1 - 128)) + (b2 - 128)) + (b3 - 128) <= 1114111
   then (64 * (64 * (64 * (b0 - 240) + (b1 - 128)) + (b2 - 128)) + (b3 - 128), 4) else (0, 0))
 else (0, 0)
set_option maxHeartbeats 1000000 in
theorem decodeN_rd (n b0 b1 b2 b3 : Nat) (h0 : b0 < 256) (h1 : b1 < 256) (h2 : b2 < 256) (h3 : b3 < 256) : decodeN n b0 b1 b2 b3 = if (rdN n b0 b1 b2 b3).2 = 0 then (65533, 1) else rdN n b0 b1 b2 b3:=by
 by_cases c0 : b0 < 128
 ·simp [decodeN, rdN, c0]
 by_cases c1 : b0 < 192
 ·have e1 : ¬ b0 / 32 = 6:=by omega
  have e2 : ¬ b0 / 16 = 14:=by omega
  have e3 : ¬ b0 / 8 = 30:=by omega
  simp [decodeN, rdN, c0, c1, e1, e2, e3]
 by_cases c2 : b0 < 224
 ·have e1 : b0 / 32 = 6:=by omega
  have e2 : ¬ b0 / 16 = 14:=by omega
  have e3 : ¬ b0 / 8 = 30:=by omega
  simp only [decodeN, rdN, c0, c1, c2, e1, e2, e3, if_false, if_true, true_and, false_and]
  repeat' split
  all_goals first | with_reducible rfl | (exfalso; omega) | (refine Prod.ext ?_ rfl; show (_ : Nat) = _; omega) | (rename_i h; exact absurd h (by simp)) | (rename_i h _; exact absurd h (by simp)) | (exfalso; simp only [Nat.succ_ne_zero, OfNat.ofNat_ne_zero] at *)
 by_cases c3 : b0 < 240
 ·have e1 : ¬ b0 / 32 = 6:=by omega
  have e2 : b0 / 16 = 14:=by omega
  have e3 : ¬ b0 / 8 = 30:=by omega
  simp only [decodeN, rdN, c0, c1, c2, c3, e1, e2, e3, if_false, if_true, true_and, false_and]
  repeat' split
  all_goals first | with_reducible rfl | (exfalso; omega) | (refine Prod.ext ?_ rfl; show (_ : Nat) = _; omega) | (rename_i h; exact absurd h (by simp)) | (rename_i h _; exact absurd h (by simp)) | (exfalso; simp only [Nat.succ_ne_zero, OfNat.ofNat_ne_zero] at *)
 by_cases c4 : b0 < 248
 ·have e1 : ¬ b0 / 32 = 6:=by omega
  have e2 : ¬ b0 / 16 = 14:=by omega
  have e3 : b0 / 8 = 30:=by omega
  simp only [decodeN, rdN, c0, c1, c2, c3, c4, e1, e2, e3, if_false, if_true, true_and, false_and]
  repeat' split
  all_goals first | with_reducible rfl | (exfalso; omega) | (refine Prod.ext ?_ rfl; show (_ : Nat) = _; omega) | (rename_i h; exact absurd h (by simp)) | (rename_i h _; exact absurd h (by simp)) | (exfalso; simp only [Nat.succ_ne_zero, OfNat.ofNat_ne_zero] at *)
 have e1 : ¬ b0 / 32 = 6:=by omega
 have e2 : ¬ b0 / 16 = 14:=by omega
 have e3 : ¬ b0 / 8 = 30:=by omega
 simp [decodeN, rdN, c0, c1, c2, c3, c4, e1, e2, e3]
theorem rdN_facts (n b0 b1 b2 b3 : Nat) (h0 : b0 < 256) (h1 : b1 < 256) (h2 : b2 < 256) (h3 : b3 < 256) :
  ((rdN n b0 b1 b2 b3).2 = 0 /\ rdN n b0 b1 b2 b3 = (0, 0)) \/ (rdN n b0 b1 b2 b3 = (b0, 1) /\ b0 < 128)
  \/ ((rdN n b0 b1 b2 b3).2 = 2 /\ 2 <= n /\ 192 <= b0 /\ 128 <= b1 /\ (rdN n b0 b1 b2 b3).1 = 64 * (b0 - 192) + (b1 - 128) /\ 128 <= (rdN n b0 b1 b2 b3).1 /\ (rdN n b0 b1 b2 b3).1 < 2048)
  \/ ((rdN n b0 b1 b2 b3).2 = 3 /\ 3 <= n /\ 192 <= b0 /\ 128 <= b1 /\ 128 <= b2 /\ 2048 <= (rdN n b0 b1 b2 b3).1 /\ (rdN n b0 b1 b2 b3).1 < 65536)
  \/ ((rdN n b0 b1 b2 b3).2 = 4 /\ 4 <= n /\ 192 <= b0 /\ 128 <= b1 /\ 128 <= b2 /\ 128 <= b3 /\ 65536 <= (rdN n b0 b1 b2 b3).1 /\ (rdN n b0 b1 b2 b3).1 <= 1114111):=by
 unfold rdN
 repeat' split
 all_goals simp
 all_goals omega
def gB (bs : List UInt8) (k : Nat) : Nat:=(bs.getD k 0).toNat
theorem YcF (bs : List UInt8) (k : Nat) : gB bs k < 256:=UInt8.toNat_lt _
theorem YhE {bs : List UInt8} {k : Nat} {b : UInt8} (h : bs[k]? = some b) : gB bs k = b.toNat:=by simp [gB, getD_eq_getElem?_getD, h]
theorem gB_drop (bs : List UInt8) (i k : Nat) : gB (bs.drop i) k = gB bs (i + k):=by simp [gB, getD_eq_getElem?_getD, getElem?_drop]
theorem YfG {asx bs : List UInt8} {k : Nat} (h : k < asx.length) : gB (asx ++ bs) k = gB asx k:=by simp [gB, getD_eq_getElem?_getD, getElem?_append_left h]
def rd (bs : List UInt8) : Nat × Nat:=rdN bs.length (gB bs 0) (gB bs 1) (gB bs 2) (gB bs 3)
def dec (bs : List UInt8) : Nat × Nat:=decodeN bs.length (gB bs 0) (gB bs 1) (gB bs 2) (gB bs 3)
theorem YeV (bs : List UInt8) : dec bs = if (rd bs).2 = 0 then (65533, 1) else rd bs:=decodeN_rd _ _ _ _ _ (YcF _ _) (YcF _ _) (YcF _ _) (YcF _ _)
theorem rd_facts (bs : List UInt8) : ((rd bs).2 = 0 /\ rd bs = (0, 0)) \/ (rd bs = (gB bs 0, 1) /\ gB bs 0 < 128)
  \/ ((rd bs).2 = 2 /\ 2 <= bs.length /\ 192 <= gB bs 0 /\ 128 <= gB bs 1 /\ (rd bs).1 = 64 * (gB bs 0 - 192) + (gB bs 1 - 128) /\ 128 <= (rd bs).1 /\ (rd bs).1 < 2048)
  \/ ((rd bs).2 = 3 /\ 3 <= bs.length /\ 192 <= gB bs 0 /\ 128 <= gB bs 1 /\ 128 <= gB bs 2 /\ 2048 <= (rd bs).1 /\ (rd bs).1 < 65536)
  \/ ((rd bs).2 = 4 /\ 4 <= bs.length /\ 192 <= gB bs 0 /\ 128 <= gB bs 1 /\ 128 <= gB bs 2 /\ 128 <= gB bs 3 /\ 65536 <= (rd bs).1 /\ (rd bs).1 <= 1114111) :=
 rdN_facts _ _ _ _ _ (YcF _ _) (YcF _ _) (YcF _ _) (YcF _ _)
theorem Yfy (bs : List UInt8) (h : bs ≠ []) : (rd bs).2 <= bs.length:=by
 have hl : 0 < bs.length:=length_pos_iff.2 h
 rcases rd_facts bs with ⟨_, e⟩ | ⟨e, _⟩ | h | h | h
 ·rw [e]; exact Nat.zero_le _
 ·rw [e]; exact hl
 all_goals omega
theorem rd_four (bs : List UInt8) : (rd bs).2 <= 4:=by
 rcases rd_facts bs with ⟨_, e⟩ | ⟨e, _⟩ | h | h | h
 ·rw [e]; simp
 ·rw [e]; simp
 all_goals omega
theorem rd_fffd (bs : List UInt8) (h : (rd bs).1 = 65533) : 3 <= (rd bs).2:=by
 rcases rd_facts bs with ⟨_, e⟩ | ⟨e, _⟩ | h | h | h
 ·rw [e] at h; simp at h
 ·rw [e] at h; simp only at h; omega
 all_goals omega
theorem rd_ascii (bs : List UInt8) (h : gB bs 0 < 128) : rd bs = (gB bs 0, 1):=by simp [rd, rdN, h]
theorem ZzI (b : UInt8) (bs : List UInt8) (h : b.toNat < 128) : rd (b :: bs) = (b.toNat, 1):=rd_ascii (b :: bs) (by simpa [gB] using h)
theorem Yhm (asx bs : List UInt8) (h : (rd asx).2 ≠ 0) (hne : asx ≠ []) : rd (asx ++ bs) = rd asx:=by
 have hl : 0 < asx.length:=length_pos_iff.2 hne
 unfold rd at h ⊢
 rw [YfG (k:=0) hl]
 by_cases h2 : 2 <= asx.length
 ·rw [YfG (k:=1) (by omega)]
  by_cases h3 : 3 <= asx.length
  ·rw [YfG (k:=2) (by omega)]
   by_cases h4 : 4 <= asx.length
   ·rw [YfG (k:=3) (by omega), length_append]
    unfold rdN
    have e2 : (2 <= asx.length + bs.length) = (2 <= asx.length):=propext ⟨fun _ => h2, fun _ => by omega⟩
    have e3 : (3 <= asx.length + bs.length) = (3 <= asx.length):=propext ⟨fun _ => h3, fun _ => by omega⟩
    have e4 : (4 <= asx.length + bs.length) = (4 <= asx.length):=propext ⟨fun _ => h4, fun _ => by omega⟩
    simp only [e2, e3, e4]
   ·rw [length_append]
    unfold rdN at h ⊢
    have e2 : (2 <= asx.length + bs.length) = (2 <= asx.length):=propext ⟨fun _ => h2, fun _ => by omega⟩
    have e3 : (3 <= asx.length + bs.length) = (3 <= asx.length):=propext ⟨fun _ => h3, fun _ => by omega⟩
    simp only [e2, e3]
    simp only [h4, false_and, if_false] at h ⊢
    repeat' split at h
    all_goals simp_all
  ·rw [length_append]
   unfold rdN at h ⊢
   have e2 : (2 <= asx.length + bs.length) = (2 <= asx.length):=propext ⟨fun _ => h2, fun _ => by omega⟩
   have h4 : ¬ 4 <= asx.length:=by omega
   simp only [e2]
   simp only [h3, h4, false_and, if_false] at h ⊢
   repeat' split at h
   all_goals simp_all
 ·rw [length_append]
  unfold rdN at h ⊢
  have h3 : ¬ 3 <= asx.length:=by omega
  have h4 : ¬ 4 <= asx.length:=by omega
  simp only [h2, h3, h4, false_and, if_false] at h ⊢
  repeat' split at h
  all_goals simp_all
theorem YeF (bs : List UInt8) (h : bs ≠ []) (hk : (rd bs).2 ≠ 0) : (bs.drop (rd bs).2).length < bs.length:=by
 have hl : 0 < bs.length:=length_pos_iff.2 h
 rw [length_drop]; omega
theorem Yfz {P : List UInt8 -> Prop} (h0 : P []) (h1 : ∀ bs, bs ≠ [] -> (rd bs).2 = 0 -> P bs) (h2 : ∀ bs, bs ≠ [] -> (rd bs).2 ≠ 0 -> P (bs.drop (rd bs).2) -> P bs) : ∀ bs, P bs:=by
 suffices h : ∀ n, ∀ bs : List UInt8, bs.length <= n -> P bs from fun bs => h bs.length bs (Nat.le_refl _)
 intro n
 induction n with
 | zero => intro bs hl; rw [show bs = [] from eq_nil_of_length_eq_zero (by omega)]; exact h0
 | succ n ih =>
  intro bs hl
  by_cases hb : bs = []
  ·subst hb; exact h0
  by_cases hk : (rd bs).2 = 0
  ·exact h1 bs hb hk
  ·exact h2 bs hb hk (ih _ (by have:=YeF bs hb hk; omega))
def Chr (r : Int) : Prop:=r = 9 \/ r = 10 \/ r = 13 \/ (32 <= r /\ r <= 55295) \/ (57344 <= r /\ r <= 65533) \/ (65536 <= r /\ r <= 1114111)
def Sta (r : Int) : Prop :=
 (65 <= r /\ r <= 90) \/ r = 95 \/ (97 <= r /\ r <= 122) \/ (192 <= r /\ r <= 767 /\ r ≠ 215 /\ r ≠ 247) \/ (880 <= r /\ r <= 8191 /\ r ≠ 894)
 \/ r = 8204 \/ r = 8205 \/ (8304 <= r /\ r <= 8591) \/ (11264 <= r /\ r <= 12271) \/ (12289 <= r /\ r <= 55295)
 \/ (63744 <= r /\ r <= 65533 /\ (r < 64976 \/ 65008 <= r)) \/ (65536 <= r /\ r <= 983039)
def Pr2 (r : Int) : Prop:=r = 45 \/ r = 46 \/ (48 <= r /\ r <= 57) \/ r = 183 \/ (768 <= r /\ r <= 879) \/ r = 8255 \/ r = 8256
instance (r : Int) : Decidable (Chr r):=by unfold Chr; exact inferInstance
instance (r : Int) : Decidable (Sta r):=by unfold Sta; exact inferInstance
def Prt (r : Int) : Prop:=Sta r \/ Pr2 r
instance (r : Int) : Decidable (Pr2 r):=by unfold Pr2; exact inferInstance
instance (r : Int) : Decidable (Prt r):=by unfold Prt; exact inferInstance
theorem prt_pr2 {r : Int} (h : ¬ Sta r) : decide (Prt r) = decide (Pr2 r):=decide_eq_decide.2 ⟨fun hp => hp.resolve_left h, fun hp => .inr hp⟩
def chr (r : Int) : Bool:=decide (Chr r)
def isSt (r : Int) : Bool:=decide (Sta r)
def isPt (r : Int) : Bool:=decide (Prt r)
def inL (r : Int) : List (Int × Int) -> Bool
 | [] => false
 | s :: l => if r <= s.2 then decide (s.1 <= r) else inL r l
def inP (r : Int) : List (Int × Int) -> Prop
 | [] => False
 | s :: l => (r <= s.2 /\ s.1 <= r) \/ (¬ r <= s.2 /\ inP r l)
theorem inL_iff (r : Int) : ∀ L, inL r L = true ↔ inP r L
 | [] => by simp [inL, inP]
 | s :: l => by
  unfold inL inP
  split
  ·next h => simp [h]
  ·next h => rw [inL_iff r l]; simp [h]
theorem inL_dec {r : Int} {L : List (Int × Int)} {p : Prop} [Decidable p] (h : inP r L ↔ p) : inL r L = decide p:=by
 rw [Bool.eq_iff_iff, inL_iff, decide_eq_true_eq]; exact h
def vld (bs : List UInt8) : Bool:=if h : bs = [] then true else if hk : (rd bs).2 = 0 then false else vld (bs.drop (rd bs).2)
termination_by bs.length
decreasing_by exact YeF bs h hk
theorem vld_nil : vld [] = true:=by unfold vld; simp
theorem vld_bad {bs : List UInt8} (h : bs ≠ []) (hk : (rd bs).2 = 0) : vld bs = false:=by unfold vld; simp [h, hk]
theorem YgO {bs : List UInt8} (h : bs ≠ []) (hk : (rd bs).2 ≠ 0) : vld bs = vld (bs.drop (rd bs).2):=by rw [vld]; simp [h, hk]
def prt (bs : List UInt8) : Bool:=if h : bs = [] then true else if hk : (rd bs).2 = 0 then false else isPt (rd bs).1 && prt (bs.drop (rd bs).2)
termination_by bs.length
decreasing_by exact YeF bs h hk
theorem Yg2 : prt [] = true:=by unfold prt; simp
theorem Yeg {bs : List UInt8} (h : bs ≠ []) (hk : (rd bs).2 = 0) : prt bs = false:=by unfold prt; simp [h, hk]
theorem Yby {bs : List UInt8} (h : bs ≠ []) (hk : (rd bs).2 ≠ 0) : prt bs = (isPt (rd bs).1 && prt (bs.drop (rd bs).2)):=by rw [prt]; simp [h, hk]
def flt (at_ : Nat) (bs : List UInt8) : Nat × Nat:=if h : bs = [] then (0, 0) else if hk : (rd bs).2 = 0 then (at_, 20) else if chr (rd bs).1 = false then (at_, 21) else flt (at_ + (rd bs).2) (bs.drop (rd bs).2)
termination_by bs.length
decreasing_by exact YeF bs h hk
theorem Yga (i : Nat) : flt i [] = (0, 0):=by unfold flt; simp
theorem YhG {i : Nat} {bs : List UInt8} (h : bs ≠ []) (hk : (rd bs).2 = 0) : flt i bs = (i, 20):=by unfold flt; simp [h, hk]
theorem Ygb {i : Nat} {bs : List UInt8} (h : bs ≠ []) (hk : (rd bs).2 ≠ 0) (hc : chr (rd bs).1 = false) : flt i bs = (i, 21):=by unfold flt; simp [h, hk, hc]
theorem YbM {i : Nat} {bs : List UInt8} (h : bs ≠ []) (hk : (rd bs).2 ≠ 0) (hc : chr (rd bs).1 = true) : flt i bs = flt (i + (rd bs).2) (bs.drop (rd bs).2):=by rw [flt]; simp [h, hk, hc]
def nm (bs : List UInt8) : Bool:=decide (bs ≠ []) && decide (bs.length <= 100) && isSt (rd bs).1 && prt bs
theorem prt_vld : ∀ bs, prt bs = true -> vld bs = true:=by
 refine Yfz ?_ ?_ ?_
 ·intro _; exact vld_nil
 ·intro bs h hk hp; rw [Yeg h hk] at hp; cases hp
 ·intro bs h hk ih hp
  rw [Yby h hk, Bool.and_eq_true] at hp
  rw [YgO h hk]; exact ih hp.2
theorem colon_part (bs : List UInt8) (h : bs ≠ []) (hk : (rd bs).2 ≠ 0) (hm : (58 : UInt8) ∈ bs.take (rd bs).2) : rd bs = (58, 1):=by
  obtain ⟨j, hj⟩:=List.mem_iff_getElem?.1 hm
  have hjk : j < (rd bs).2:=by
    have:=(List.getElem?_eq_some_iff.1 hj).1
    rw [List.length_take] at this; omega
  rw [List.getElem?_take, if_pos hjk] at hj
  have hg:=YhE hj
  rw [show (58 : UInt8).toNat = 58 from rfl] at hg
  rcases rd_facts bs with ⟨e, _⟩ | ⟨e, _⟩ | hh | hh | hh
  · exact absurd e hk
  · rw [e] at hjk
    have : j = 0:=by simpa using hjk
    subst this
    rw [e, hg]
  · rcases Nat.lt_or_ge j 1 with hj1 | hj1
    · have : j = 0:=by omega
      subst this; omega
    · have : j = 1:=by omega
      subst this; omega
  · have : j = 0 \/ j = 1 \/ j = 2:=by omega
    rcases this with rfl | rfl | rfl <;> omega
  · have : j = 0 \/ j = 1 \/ j = 2 \/ j = 3:=by omega
    rcases this with rfl | rfl | rfl | rfl <;> omega
theorem prt_colon : ∀ bs, prt bs = true -> (58 : UInt8) ∉ bs:=by
 refine Yfz ?_ ?_ ?_
 ·intro _; simp
 ·intro bs h hk hp; rw [Yeg h hk] at hp; cases hp
 ·intro bs h hk ih hp hm
  rw [Yby h hk, Bool.and_eq_true] at hp
  rw [<- take_append_drop (rd bs).2 bs, mem_append] at hm
  rcases hm with hm | hm
  ·have:=colon_part bs h hk hm
   rw [this] at hp
   exact absurd hp.1 (by decide)
  ·exact ih hp.2 hm
theorem nm_colon {bs : List UInt8} (h : nm bs = true) : (58 : UInt8) ∉ bs:=by
 simp only [nm, Bool.and_eq_true] at h
 exact prt_colon _ h.2
def colon : List UInt8 -> Option Nat
 | [] => none
 | b :: r => if b = 58 then some 0 else (colon r).map (· + 1)
theorem colon_none : ∀ {bs : List UInt8}, colon bs = none ↔ (58 : UInt8) ∉ bs
 | [] => by simp [colon]
 | b :: r => by
  unfold colon
  split
  ·next h => simp [h]
  ·next h =>
   rw [Option.map_eq_none_iff, colon_none]
   simp [Ne.symm h]
theorem Yda : ∀ {bs : List UInt8} {i : Nat}, colon bs = some i ↔ (bs[i]? = some 58 /\ (58 : UInt8) ∉ bs.take i)
 | [], i => by simp [colon]
 | b :: r, i => by
  unfold colon
  split
  ·next h =>
   subst h
   constructor
   ·intro e; cases e; simp
   ·rintro ⟨_, h2⟩
    cases i with
    | zero => rfl
    | succ i => simp at h2
  ·next h =>
   rw [Option.map_eq_some_iff]
   constructor
   ·rintro ⟨j, hj, rfl⟩
    obtain ⟨h1, h2⟩:=Yda.1 hj
    exact ⟨by simpa using h1, by simp [Ne.symm h, h2]⟩
   ·rintro ⟨h1, h2⟩
    cases i with
    | zero => simp at h1; exact absurd h1 h
    | succ i =>
     refine ⟨i, Yda.2 ⟨by simpa using h1, ?_⟩, rfl⟩
     simp only [take_succ_cons, mem_cons, not_or] at h2
     exact h2.2
def spl (bs : List UInt8) : List UInt8 × List UInt8 × Bool :=
 match colon bs with
 | none => if nm bs then ([], bs, true) else ([], [], false)
 | some i => if nm (bs.take i) && nm (bs.drop (i + 1)) then (bs.take i, bs.drop (i + 1), true) else ([], [], false)
def lns : Bool -> List UInt8 -> List UInt8
 | _, [] => []
 | p, b :: r => if b = 13 then 10 :: lns true r else if b = 10 /\ p = true then lns false r else b :: lns false r
end Go.Vc
end
section
namespace Go.Proofs.YtglnmjflpkeclaaGreatDoor
open Go Go.Vc
theorem YcQ {a : Option Addr} {b c : Nat} {w : World} {J : Int -> Int -> World -> Prop} (h :
 Zzf (fun (k : World) =>
 Zz0 Tryz.prog ZyE #[.slice a b c] k [.one (.int .i32), .one (.int .i64)] fun d e f =>
 J d e f) fun g =>
 ∃ l : Int -> World -> Nat -> Prop, (∃ m, l (0 : Int) w m) /\ ∀ n o m, l n o m -> (
 Zz1 (decide (n < (b : Int))) (
 ZzS a b n fun i =>
 ldI .u8 o ((i.add (n.toNat * 1))) fun j =>
 Zz1 (decide (j < (128 : Int))) (
 J (IntKind.i32.wrap j) (1 : Int) o) (
 g o)) (
 g o))) : Zz0 Tryz.prog Zyu #[.slice a b c] w [.one (.int .i32), .one (.int .i64)] J:=Zz3 Tryz.func95 (.s .o (.j [] (.s .o (.b (.l [(8, .int .i64)] (.s .o (.s (.c .o .o) (.s (.b (.s .o (.s (.s .o (.c (.s .o .o) .o)) .o))) .u)))))) (.s .o .o))) (Eq.mpr (by kernel_rfl) h)
theorem Ybq {a : Option Addr} {b c : Nat} {w : World} {J : Int -> Int -> World -> Prop} (h :
 Zz1 (decide ((b : Int) < (1 : Int))) (
 J (65533 : Int) (0 : Int) w) (
 ZzS a b (0 : Int) fun d =>
 ldI .u8 w ((d.add ((0 : Int).toNat * 1))) fun e =>
 ZzS (some ⟨1, 0, none⟩) 256 e fun f =>
 ldI .u8 w ((f.add (e.toNat * 1))) fun g =>
 Zz1 (decide (g >= (240 : Int))) (
 0 <= (31 : Int) /\
 0 <= (31 : Int) /\
 ZzS a b (0 : Int) fun i =>
 ldI .u8 w ((i.add ((0 : Int).toNat * 1))) fun j =>
 J (bOr .i32 (bAndNot .i32 (IntKind.i32.wrap j) (Ya3 .i32 (YgP .i32 (IntKind.i32.wrap g) (31 : Int)) (31 : Int))) (Yfr .i32 (65533 : Int) (Ya3 .i32 (YgP .i32 (IntKind.i32.wrap g) (31 : Int)) (31 : Int)))) (1 : Int) w) (
 0 <= (4 : Int) /\
 ZzS (some ⟨2, 0, none⟩) 16 (Ya3 .u8 g (4 : Int)) fun k =>
 ldI .u8 w ((k.add ((Ya3 .u8 g (4 : Int)).toNat * 2))) fun l =>
 ldI .u8 w (((k.add ((Ya3 .u8 g (4 : Int)).toNat * 2)).add 1)) fun m =>
 newB w (.cells (Zy2 Tryz.prog ZyN) ZyN) fun n o =>
 stN o ⟨n, 0, none⟩ ⟨[.int .u8 l, .int .u8 m]⟩ 2 fun p =>
 Zz1 (decide ((b : Int) < (w64 (Yfr .u8 g (7 : Int))))) (
 J (65533 : Int) (1 : Int) p) (
 ZzS a b (1 : Int) fun q =>
 ldI .u8 p ((q.add ((1 : Int).toNat * 1))) fun r =>
 Zzf (fun (ac : Bool) (ad : World) =>
 Zz1 ac (
 J (65533 : Int) (1 : Int) ad) (
 Zz1 (decide ((w64 (Yfr .u8 g (7 : Int))) <= (2 : Int))) (
 0 <= (6 : Int) /\
 J (bOr .i32 (YgP .i32 (IntKind.i32.wrap (Yfr .u8 e (31 : Int))) (6 : Int)) (IntKind.i32.wrap (Yfr .u8 r (63 : Int)))) (2 : Int) ad) (
 ZzS a b (2 : Int) fun s =>
 ldI .u8 ad ((s.add ((2 : Int).toNat * 1))) fun t =>
 Zzf (fun (ae : Bool) (af : World) =>
 Zz1 ae (
 J (65533 : Int) (1 : Int) af) (
 Zz1 (decide ((w64 (Yfr .u8 g (7 : Int))) <= (3 : Int))) (
 0 <= (12 : Int) /\
 0 <= (6 : Int) /\
 J (bOr .i32 (bOr .i32 (YgP .i32 (IntKind.i32.wrap (Yfr .u8 e (15 : Int))) (12 : Int)) (YgP .i32 (IntKind.i32.wrap (Yfr .u8 r (63 : Int))) (6 : Int))) (IntKind.i32.wrap (Yfr .u8 t (63 : Int)))) (3 : Int) af) (
 ZzS a b (3 : Int) fun u =>
 ldI .u8 af ((u.add ((3 : Int).toNat * 1))) fun v =>
 Zzf (fun (ag : Bool) (ai : World) =>
 Zz1 ag (
 J (65533 : Int) (1 : Int) ai) (
 0 <= (18 : Int) /\
 0 <= (12 : Int) /\
 0 <= (6 : Int) /\
 J (bOr .i32 (bOr .i32 (bOr .i32 (YgP .i32 (IntKind.i32.wrap (Yfr .u8 e (7 : Int))) (18 : Int)) (YgP .i32 (IntKind.i32.wrap (Yfr .u8 r (63 : Int))) (12 : Int))) (YgP .i32 (IntKind.i32.wrap (Yfr .u8 t (63 : Int))) (6 : Int))) (IntKind.i32.wrap (Yfr .u8 v (63 : Int)))) (4 : Int) ai)) fun x =>
 Zz1 (decide (v < (128 : Int))) (
 x true af) (
 x (decide ((191 : Int) < v)) af)))) fun y =>
 Zz1 (decide (t < (128 : Int))) (
 y true ad) (
 y (decide ((191 : Int) < t)) ad)))) fun z =>
 ldI .u8 p ⟨n, 0, none⟩ fun aa =>
 Zz1 (decide (r < aa)) (
 z true p) (
 ldI .u8 p ⟨n, 1, none⟩ fun ab =>
 z (decide (ab < r)) p))))) : Zz0 Tryz.prog ZyE #[.slice a b c] w [.one (.int .i32), .one (.int .i64)] J:=Zz3 Tryz.func141 (.s .o (.s .o (.s (.s .o (.c (.s .o .o) .o)) (.s .o (.s .o (.s (.s .o (.c (.s .o (.s .o .o)) .o)) (.s .o (.s .o (.s (.s .o (.c (.s .o .o) .o)) (.s .o (.s (.j [(60, .bool)] .o (.c (.s .o .o) .o)) (.s (.s .o (.c (.s .o .o) .o)) (.s .o (.s (.j [(79, .bool)] .o (.c (.s .o .o) .o)) (.s (.s .o (.c (.s .o .o) .o)) (.s .o (.s (.j [(103, .bool)] .o (.c (.s .o .o) .o)) (.s .o .o)))))))))))))))))) (Eq.mpr (by kernel_rfl) h)
theorem Yci {a : ByteArray} {w : World} {J : Int -> World -> Prop} (h :
 Zy6 a (0 : Int) fun b =>
 Zy6 a (1 : Int) fun c =>
 0 <= (8 : Int) /\
 Zy6 a (2 : Int) fun d =>
 0 <= (16 : Int) /\
 Zy6 a (3 : Int) fun e =>
 0 <= (24 : Int) /\
 Zy6 a (4 : Int) fun f =>
 0 <= (32 : Int) /\
 Zy6 a (5 : Int) fun g =>
 0 <= (40 : Int) /\
 Zy6 a (6 : Int) fun i =>
 0 <= (48 : Int) /\
 Zy6 a (7 : Int) fun j =>
 0 <= (56 : Int) /\
 J (bOr .u64 (bOr .u64 (bOr .u64 (bOr .u64 (bOr .u64 (bOr .u64 (bOr .u64 (IntKind.u64.wrap b) (YgP .u64 (IntKind.u64.wrap c) (8 : Int))) (YgP .u64 (IntKind.u64.wrap d) (16 : Int))) (YgP .u64 (IntKind.u64.wrap e) (24 : Int))) (YgP .u64 (IntKind.u64.wrap f) (32 : Int))) (YgP .u64 (IntKind.u64.wrap g) (40 : Int))) (YgP .u64 (IntKind.u64.wrap i) (48 : Int))) (YgP .u64 (IntKind.u64.wrap j) (56 : Int))) w.drew) : Zz0 Tryz.prog Zzt #[.string a] w [.one (.int .u64)] J:=Zz3 Tryz.func160 (.s .o (.s (.c .u .o) (.s (.d (.take 0 (.take 1 (.take 2 (.take 3 (.take 4 (.take 5 (.take 6 (.take 7 (.take 8 (.take 9 (.take 10 (.take 11 (.take 12 (.take 13 (.take 14 (.take 15 (.take 16 (.take 17 (.take 18 (.take 19 (.take 20 (.take 21 (.take 22 (.take 23 (.take 24 (.take 25 (.take 26 (.take 27 (.take 28 (.take 29 (.take 30 (.take 31 (.take 32 (.take 33 (.take 34 (.take 35 (.take 36 (.take 37 (.take 38 .done)))))))))))))))))))))))))))))))))))))))) .o))) (Eq.mpr (by kernel_rfl) h)
theorem Ycj {a : ByteArray} {w : World} {J : Bool -> World -> Prop} (h :
 ∃ bx : ByteArray -> World -> Nat -> Prop, (∃ bz, bx a w bz) /\ ∀ (a : ByteArray) (be : World) (bz : Nat), bx a be bz -> (
 Zz1 (decide ((a.size : Int) > (0 : Int))) (
 Zy6 a (0 : Int) fun b =>
 Zz1 (decide (b < (128 : Int))) (
 YaO a (some (1 : Int)) none fun c =>
 Zzf (fun (bf : ByteArray) (bg : World) =>
 ∃ b0, b0 < bz /\ bx bf bg b0) fun d =>
 Zzf (fun (bi : Bool) (bj : World) =>
 Zz1 bi (
 YaO c (some (8 : Int)) none fun e =>
 Zzf (fun (bk : Bool) (bl : World) =>
 Zz1 bk (
 YaO e (some (16 : Int)) none fun f =>
 ∃ b1 : ByteArray -> World -> Nat -> Prop, (∃ bz, b1 f bl bz) /\ ∀ (bm : ByteArray) (bn : World) (m_1 : Nat), b1 bm bn m_1 -> (
 Zzf (fun (bo : Bool) (bp : World) =>
 Zz1 bo (
 YaO bm (some (32 : Int)) none fun g =>
 ∃ b0, b0 < m_1 /\ b1 g bp b0) (
 d bm bp)) fun i =>
 Zz1 (decide ((bm.size : Int) > (32 : Int))) (
 YaO bm (some (8 : Int)) none fun j =>
 YaO bm (some (16 : Int)) none fun k =>
 YaO bm (some (24 : Int)) none fun l =>
 Zz0 Tryz.prog Zzt #[.string bm] bn.drew [.one (.int .u64)] fun m n =>
 Zz0 Tryz.prog Zzt #[.string j] n [.one (.int .u64)] fun o p =>
 Zz0 Tryz.prog Zzt #[.string k] p [.one (.int .u64)] fun q r =>
 Zz0 Tryz.prog Zzt #[.string l] r [.one (.int .u64)] fun s t =>
 i ((Yfr .u64 (bOr .u64 (bOr .u64 m o) (bOr .u64 q s)) (9259542123273814144 : Int)) == (0 : Int)) t) (
 i false bn.drew))) (
 d e bl)) fun u =>
 Zz1 (decide ((e.size : Int) > (16 : Int))) (
 YaO e (some (8 : Int)) none fun v =>
 Zz0 Tryz.prog Zzt #[.string e] bj.drew [.one (.int .u64)] fun x y =>
 Zz0 Tryz.prog Zzt #[.string v] y [.one (.int .u64)] fun z aa =>
 u ((Yfr .u64 (bOr .u64 x z) (9259542123273814144 : Int)) == (0 : Int)) aa) (
 u false bj.drew)) (
 d c bj)) fun ab =>
 Zz1 (decide ((c.size : Int) > (8 : Int))) (
 Zz0 Tryz.prog Zzt #[.string c] be [.one (.int .u64)] fun ac ad =>
 ab ((Yfr .u64 ac (9259542123273814144 : Int)) == (0 : Int)) ad) (
 ab false be)) (
 ZzS (some ⟨1, 0, none⟩) 256 b fun ae =>
 ldI .u8 be ((ae.add (b.toNat * 1))) fun af =>
 0 <= (4 : Int) /\
 ZzS (some ⟨2, 0, none⟩) 16 (Ya3 .u8 af (4 : Int)) fun ag =>
 ldI .u8 be ((ag.add ((Ya3 .u8 af (4 : Int)).toNat * 2))) fun ai =>
 ldI .u8 be (((ag.add ((Ya3 .u8 af (4 : Int)).toNat * 2)).add 1)) fun aj =>
 newB be (.cells (Zy2 Tryz.prog ZyN) ZyN) fun ak al =>
 stN al ⟨ak, 0, none⟩ ⟨[.int .u8 ai, .int .u8 aj]⟩ 2 fun am =>
 Zz1 ((w64 (Yfr .u8 af (7 : Int))) == (2 : Int)) (
 Zzf (fun (bq : Bool) (br : World) =>
 Zz1 bq (
 J false br) (
 YaO a (some (2 : Int)) none fun an =>
 ∃ b0, b0 < bz /\ bx an br b0)) fun ao =>
 Zz1 (decide ((a.size : Int) < (2 : Int))) (
 ao true am.drew) (
 Zy6 a (1 : Int) fun ap =>
 ldI .u8 am.drew ⟨ak, 0, none⟩ fun aq =>
 Zz1 (decide (ap < aq)) (
 ao true am.drew) (
 ldI .u8 am.drew ⟨ak, 1, none⟩ fun ar =>
 Zy6 a (1 : Int) fun au =>
 ao (decide (ar < au)) am.drew))) (
 Zz1 ((w64 (Yfr .u8 af (7 : Int))) == (3 : Int)) (
 Zzf (fun (bs : Bool) (bt : World) =>
 Zz1 bs (
 J false bt) (
 YaO a (some (3 : Int)) none fun av =>
 ∃ b0, b0 < bz /\ bx av bt b0)) fun ax =>
 Zz1 (decide ((a.size : Int) < (3 : Int))) (
 ax true am.drew) (
 Zy6 a (1 : Int) fun ay =>
 ldI .u8 am.drew ⟨ak, 0, none⟩ fun az =>
 Zz1 (decide (ay < az)) (
 ax true am.drew) (
 ldI .u8 am.drew ⟨ak, 1, none⟩ fun a0 =>
 Zy6 a (1 : Int) fun a1 =>
 Zz1 (decide (a0 < a1)) (
 ax true am.drew) (
 Zy6 a (2 : Int) fun a2 =>
 Zz1 (decide (a2 < (128 : Int))) (
 ax true am.drew) (
 Zy6 a (2 : Int) fun a3 =>
 ax (decide ((191 : Int) < a3)) am.drew))))) (
 Zz1 ((w64 (Yfr .u8 af (7 : Int))) == (4 : Int)) (
 Zzf (fun (bu : Bool) (bv : World) =>
 Zz1 bu (
 J false bv) (
 YaO a (some (4 : Int)) none fun a4 =>
 ∃ b0, b0 < bz /\ bx a4 bv b0)) fun a5 =>
 Zz1 (decide ((a.size : Int) < (4 : Int))) (
 a5 true am.drew) (
 Zy6 a (1 : Int) fun a6 =>
 ldI .u8 am.drew ⟨ak, 0, none⟩ fun a7 =>
 Zz1 (decide (a6 < a7)) (
 a5 true am.drew) (
 ldI .u8 am.drew ⟨ak, 1, none⟩ fun a8 =>
 Zy6 a (1 : Int) fun a9 =>
 Zz1 (decide (a8 < a9)) (
 a5 true am.drew) (
 Zy6 a (2 : Int) fun ba =>
 Zz1 (decide (ba < (128 : Int))) (
 a5 true am.drew) (
 Zy6 a (2 : Int) fun bb =>
 Zz1 (decide ((191 : Int) < bb)) (
 a5 true am.drew) (
 Zy6 a (3 : Int) fun bc =>
 Zz1 (decide (bc < (128 : Int))) (
 a5 true am.drew) (
 Zy6 a (3 : Int) fun bd =>
 a5 (decide ((191 : Int) < bd)) am.drew))))))) (
 J false am))))) (
 J true be))) : Zz0 Tryz.prog Zx3 #[.string a] w [.one .bool] J:=Zz3 Tryz.func128 (.s .o (.s (.b (.l [(0, .str)] (.s (.s .o (.c .o .o)) (.b (.s .o (.s (.s .o (.c (.s .o (.j [(0, .str)] (.j [(24, .bool)] .o (.c (.s .o (.j [(39, .bool)] (.d (.take 0 (.take 1 (.take 2 (.take 3 (.take 4 (.take 6 (.take 7 (.eff 5 (.eff 8 (.take 9 (.take 10 (.take 11 (.take 12 .done)))) .none) .none))))))))) (.c (.s .o (.b (.l [(0, .str)] (.s (.j [(62, .bool)] (.d (.take 0 (.take 1 (.take 2 (.take 3 (.take 4 (.take 6 (.take 7 (.take 10 (.take 11 (.take 13 (.take 14 (.eff 5 (.eff 8 (.take 9 (.eff 12 (.eff 15 (.take 16 (.take 17 (.take 18 (.take 19 (.take 20 .done))))) .none) .none)) .none) .none))))))))))))) (.c .o .o)) (.b .o))))) .o))) .o)) .o)) .o)) (.s .o (.s .o (.s .o (.s .o (.b (.s .o (.c (.s (.j [(94, .bool)] (.d (.take 0 (.take 1 (.take 2 (.take 3 (.take 4 (.take 5 (.take 6 (.take 7 (.take 8 (.take 9 (.take 10 (.take 11 (.take 12 (.take 13 (.take 14 (.take 15 (.take 16 .done)))))))))))))))))) (.c (.s .o .o) .o)) .o) (.s .o (.c (.s (.j [(125, .bool)] (.d (.take 0 (.take 1 (.take 2 (.take 3 (.take 4 (.take 5 (.take 6 (.take 7 (.take 8 (.take 9 (.take 10 (.take 11 (.take 12 (.take 13 (.take 14 (.take 15 (.take 16 (.take 17 (.take 18 (.take 19 (.take 20 (.take 21 (.take 22 (.take 23 (.take 24 (.take 25 (.take 26 .done)))))))))))))))))))))))))))) (.c (.s .o .o) .o)) .o) (.s .o (.c (.s (.j [(166, .bool)] (.d (.take 0 (.take 1 (.take 2 (.take 3 (.take 4 (.take 5 (.take 6 (.take 7 (.take 8 (.take 9 (.take 10 (.take 11 (.take 12 (.take 13 (.take 14 (.take 15 (.take 16 (.take 17 (.take 18 (.take 19 (.take 20 (.take 21 (.take 22 (.take 23 (.take 24 (.take 25 (.take 26 (.take 27 (.take 28 (.take 29 (.take 30 (.take 31 (.take 32 (.take 33 (.take 34 (.take 35 (.take 36 .done)))))))))))))))))))))))))))))))))))))) (.c (.s .o .o) .o)) .o) (.s .o .o)))))))))))))))))) (.s .o .o))) (Eq.mpr (by kernel_rfl) h)
end Go.Proofs.YtglnmjflpkeclaaGreatDoor
end
section
namespace Go.Vc
open Go
abbrev bl (s : ByteArray) : List UInt8:=s.data.toList
theorem Zzn (s : ByteArray) : (bl s).length = s.size:=(Lib.size_eq s).symm
theorem bl_get (s : ByteArray) (i : Nat) : s[i]? = (bl s)[i]? := by
 by_cases h : i < s.size
 ·rw [getElem?_pos s i h]
  have h2 : i < (bl s).length:=by rw [Zzn]; exact h
  rw [getElem?_eq_getElem h2]; rfl
 ·rw [getElem?_neg s i h, getElem?_eq_none (by rw [Zzn]; omega)]
theorem YbE {s : ByteArray} {i : Int} {K : Int -> Prop} (h0 : 0 <= i) (h : i < s.size) (k : ∀ b : UInt8, (bl s)[i.toNat]? = some b -> K b.toNat) : Zy6 s i K:=by
 have h2 : i.toNat < (bl s).length:=by rw [Zzn]; omega
 exact ⟨(bl s)[i.toNat], h0, by rw [bl_get, getElem?_eq_getElem h2], k _ (getElem?_eq_getElem h2)⟩
theorem Zyw {s : ByteArray} {i : Nat} {K : ByteArray -> Prop} (h : i <= s.size) (k : ∀ t, bl t = (bl s).drop i -> t.size = s.size - i -> K t) : YaO s (some (i : Int)) none K:=by
 have e : bl (s.extract i s.size) = (bl s).drop i:=by
  show (s.extract i s.size).data.toList = _
  rw [Lib.extract_data]; exact take_of_length_le (by rw [length_drop, Zzn]; omega)
 exact ⟨i, s.size, rfl, rfl, h, Nat.le_refl _, k _ e (by rw [<- Zzn, e, length_drop, Zzn])⟩
theorem slStr_take {s : ByteArray} {i : Nat} {K : ByteArray -> Prop} (h : i <= s.size) (k : ∀ t, bl t = (bl s).take i -> t.size = i -> K t) : YaO s none (some (i : Int)) K:=by
 have e : bl (s.extract 0 i) = (bl s).take i:=by
  show (s.extract 0 i).data.toList = _
  rw [Lib.extract_data, drop_zero, Nat.sub_zero]
 exact ⟨0, i, rfl, rfl, Nat.zero_le _, h, k _ e (by rw [<- Zzn, e, length_take, Zzn]; omega)⟩
theorem Zqt {s t : ByteArray} (h : bl s = bl t) : s = t:=by
 cases s; cases t; congr; exact Array.toList_inj.1 h
theorem Ya1 (s : ByteArray) : s.toList = bl s:=Lib.toList_data s
theorem YaM (s t : ByteArray) : bl (s ++ t) = bl s ++ bl t:=by
 show (s ++ t).data.toList = _
 rw [ByteArray.data_append, Array.toList_append]
theorem size_append (s t : ByteArray) : (s ++ t).size = s.size + t.size:=by
 rw [<- Zzn, YaM, length_append, Zzn, Zzn]
end Go.Vc
end
section
namespace Go.Vc
open Go Go.Lib
theorem get!_gB (s : ByteArray) (i k : Nat) : (s.get! (i + k)).toNat = gB ((bl s).drop i) k:=by
 rw [gB_drop, gB, getD_get!']
theorem decode_dec (s : ByteArray) (i : Nat) : Utf8.decode s i = dec ((bl s).drop i):=by
 rw [decode_at, dec, length_drop, Zzn]
 have:=get!_gB s i 0
 rw [Nat.add_zero] at this
 rw [this, get!_gB, get!_gB, get!_gB]
theorem Zyl {s : ByteArray} {i : Nat} {K : Int -> Prop} (h : i < s.size) (k : K ((gB (bl s) i : Nat) : Int)) : Zy6 s (i : Int) K:=by
 have h2 : i < (bl s).length:=by rw [Zzn]; exact h
 refine ⟨(bl s)[i], by omega, by rw [Int.toNat_natCast, bl_get, getElem?_eq_getElem h2], ?_⟩
 rw [YhE (getElem?_eq_getElem h2)] at k; exact k
theorem wrap_i32 (n : Int) (h : -2147483648 <= n) (h2 : n < 2147483648) : IntKind.i32.wrap n = n:=by
 unfold IntKind.wrap; simp [IntKind.signed, IntKind.bits]; omega
theorem or32 {x y : Nat} (i : Nat) (_ : i <= 31) (hx : x % 2 ^ i = 0) (hy : y < 2 ^ i) (h : x + y < 2147483648) : bOr .i32 (x : Int) (y : Int) = ((x + y : Nat) : Int):=by
 show bits .or .i32 (x : Int) (y : Int) = _
 have hw : ∀ n : Int, 0 <= n -> n < 2 ^ 31 -> IntKind.i32.wrap n = n:=fun n h0 h1 => wrap_i32 n (by omega) (by omega)
 rw [bits_join .i32 31 (by decide) hw i (x : Int) (y : Int) (by omega) (by exact_mod_cast hx) (by omega) (by omega) (by exact_mod_cast hy) (by omega)]
 omega
theorem shl32 (n s : Nat) (hs : s <= 31) (h : n * 2 ^ s < 2147483648) : YgP .i32 (n : Int) (s : Int) = ((n * 2 ^ s : Nat) : Int):=by
 unfold YgP
 rw [Int.toNat_natCast, show min s IntKind.i32.bits = s from by simp [IntKind.bits]; omega]
 have e : (n : Int) * 2 ^ s = ((n * 2 ^ s : Nat) : Int):=by push_cast; rfl
 rw [e, wrap_i32 _ (by omega) (by omega)]
set_option maxRecDepth 100000 in
theorem and63' : ∀ x : Fin 256, Yfr .u8 ((x.val : Nat) : Int) 63 = ((x.val % 64 : Nat) : Int):=by decide
set_option maxRecDepth 100000 in
theorem and31' : ∀ x : Fin 256, Yfr .u8 ((x.val : Nat) : Int) 31 = ((x.val % 32 : Nat) : Int):=by decide
set_option maxRecDepth 100000 in
theorem and15' : ∀ x : Fin 256, Yfr .u8 ((x.val : Nat) : Int) 15 = ((x.val % 16 : Nat) : Int):=by decide
set_option maxRecDepth 100000 in
theorem and7' : ∀ x : Fin 256, Yfr .u8 ((x.val : Nat) : Int) 7 = ((x.val % 8 : Nat) : Int):=by decide
theorem and63 {x : Nat} (h : x < 256) : Yfr .u8 (x : Int) 63 = ((x % 64 : Nat) : Int):=and63' ⟨x, h⟩
theorem and31 {x : Nat} (h : x < 256) : Yfr .u8 (x : Int) 31 = ((x % 32 : Nat) : Int):=and31' ⟨x, h⟩
theorem and15 {x : Nat} (h : x < 256) : Yfr .u8 (x : Int) 15 = ((x % 16 : Nat) : Int):=and15' ⟨x, h⟩
theorem and7 {x : Nat} (h : x < 256) : Yfr .u8 (x : Int) 7 = ((x % 8 : Nat) : Int):=and7' ⟨x, h⟩
theorem shr4 (x : Nat) : Ya3 .u8 (x : Int) 4 = ((x / 16 : Nat) : Int):=by
 unfold Ya3
 rw [show min (4 : Int).toNat IntKind.u8.bits = 4 from rfl]
 show (x : Int).fdiv 16 = _
 rw [Int.fdiv_eq_ediv_of_nonneg _ (by decide)]; omega
theorem keep240 {x : Nat} (h : x < 256) : bOr .i32 (bAndNot .i32 (IntKind.i32.wrap (x : Int)) (Ya3 .i32 (YgP .i32 (IntKind.i32.wrap ((240 : Nat) : Int)) 31) 31)) (Yfr .i32 65533 (Ya3 .i32 (YgP .i32 (IntKind.i32.wrap ((240 : Nat) : Int)) 31) 31)) = (x : Int):=by
 rw [show Ya3 .i32 (YgP .i32 (IntKind.i32.wrap ((240 : Nat) : Int)) 31) 31 = 0 from by decide, wrap_i32 _ (by omega) (by omega)]
 exact Proofs.Utf8W.keep_byte ⟨x, h⟩
theorem drop241 {x : Nat} (h : x < 256) : bOr .i32 (bAndNot .i32 (IntKind.i32.wrap (x : Int)) (Ya3 .i32 (YgP .i32 (IntKind.i32.wrap ((241 : Nat) : Int)) 31) 31)) (Yfr .i32 65533 (Ya3 .i32 (YgP .i32 (IntKind.i32.wrap ((241 : Nat) : Int)) 31) 31)) = 65533:=by
 rw [show Ya3 .i32 (YgP .i32 (IntKind.i32.wrap ((241 : Nat) : Int)) 31) 31 = -1 from by decide, wrap_i32 _ (by omega) (by omega)]
 exact Proofs.Utf8W.drop_byte ⟨x, h⟩
theorem leafF {J : Int -> Int -> World -> Prop} {w : World} {x : Nat × Nat} (e : x = (65533, 1)) (h : J (x.1 : Int) (x.2 : Int) w) : J 65533 1 w:=by
 rw [e] at h; simpa using h
theorem leaf {J : Int -> Int -> World -> Prop} {w : World} {x : Nat × Nat} {r k : Nat} {k' : Int} (e : x = (r, k)) (hk : (k : Int) = k') (h : J (x.1 : Int) (x.2 : Int) w) : J (r : Int) k' w:=by
 rw [e] at h; rw [<- hk]; exact h
theorem firstT_ge {b : Nat} : ¬ firstT b < 240 -> firstT b = 240 \/ firstT b = 241:=by
 intro h
 rcases firstT_cases b with h' | h' | h' | h' | h' | h' | h' | h' | h' <;> omega
theorem Yeo {b : Nat} : firstT b < 240 -> firstT b % 8 <= 4 /\ 2 <= firstT b % 8 /\ firstT b / 16 < 16 /\ firstT b < 256 /\ 194 <= b:=by
 intro h
 have h2:=firstT_low h
 rcases firstT_cases b with h' | h' | h' | h' | h' | h' | h' | h' | h' <;> (rw [h'] at h ⊢; omega)
theorem rd0_of_dec {bs : List UInt8} (h : dec bs = (65533, 1)) : (rd bs).2 = 0:=by
 rw [YeV] at h
 split at h
 ·assumption
 ·have h1:=congrArg Prod.fst h
  have h2:=congrArg Prod.snd h
  have:=rd_fffd bs h1
  simp only at h2; omega
theorem rd_of_dec {bs : List UInt8} {r k : Nat} (h : dec bs = (r, k)) (hk : 2 <= k) : rd bs = (r, k):=by
 rw [YeV] at h
 split at h
 ·have:=congrArg Prod.snd h; simp only at this; omega
 ·exact h
theorem dec_of_rd {bs : List UInt8} (h : (rd bs).2 ≠ 0) : dec bs = rd bs:=by rw [YeV, if_neg h]
theorem vld_drop : ∀ (k : Nat) (bs : List UInt8), (∀ b ∈ bs.take k, b.toNat < 128) -> vld bs = vld (bs.drop k)
 | 0, bs, _ => by simp
 | k + 1, [], _ => by simp
 | k + 1, b :: r, h => by
  have hb:=h b (by simp)
  have e:=ZzI b r hb
  rw [YgO (by simp) (by rw [e]; simp), e]
  simp only [drop_succ_cons, drop_zero]
  exact vld_drop k r (fun x hx => h x (by simp [hx]))
def Tabs (w : World) : Prop:=Lib.Utf8Tabs 1 2 w
theorem Tabs.chg {w w' : World} (h : Tabs w) (hc : Chg No w w') : Tabs w' :=
 ⟨fun c h1 => hc.cell (h.1 c h1) (fun f => f), fun i hi => ⟨hc.cell (h.2 i hi).1 (fun f => f), hc.cell (h.2 i hi).2 (fun f => f)⟩⟩
end Go.Vc
namespace Go.Proofs.YtglnmjflpkeclaaGreatDoor
open Go Go.Vc Go.Lib
section
variable {w : World}
theorem zeroC_acc : Zy2 Tryz.prog ZyN = ⟨[.int .u8 0, .int .u8 0]⟩:=by kernel_rfl
set_option maxRecDepth 100000 in
set_option maxHeartbeats 1000000 in
theorem Ygd {p : Option Addr} {l c : Nat} {bs : List UInt8} {J : Int -> Int -> World -> Prop} (h : Bytes w p l bs) (hl : l ≠ 0) (T : Tabs w)
  (K : ∀ w', Chg No w w' -> J ((dec bs).1 : Int) ((dec bs).2 : Int) w') : Zz0 Tryz.prog ZyE #[.slice p l c] w [.one (.int .i32), .one (.int .i64)] J:=by
 refine Ybq ?_
 have hbl:=h.len
 refine Zz4 (fun hz => absurd hz (by omega)) fun _ => ?_
 refine Ycb h (by decide) (by omega) fun b0 hb0 => ?_
 have g0:=YhE hb0
 rw [show (0 : Int).toNat = 0 from rfl] at g0
 rw [<- g0]
 have l0:=YcF bs 0; have l1:=YcF bs 1; have l2:=YcF bs 2; have l3:=YcF bs 3
 refine Ygv (by omega) (by omega) ?_
 rw [Addr.add_mk, Nat.zero_add, Nat.mul_one, Int.toNat_natCast]
 refine ZxJ (T.1 _ l0) ?_
 refine Zz4 (fun hx => ?_) (fun hx => ?_)
 ·refine ⟨by decide, by decide, ?_⟩
  refine Ycb h (by decide) (by omega) fun b0' hb0' => ?_
  rw [hb0] at hb0'; cases hb0'
  rw [<- g0]
  rcases firstT_ge (b:=gB bs 0) (by omega) with hf | hf
  ·rw [hf, keep240 l0]
   exact leaf (show dec bs = (gB bs 0, 1) from ascii_eq _ _ _ _ _ hf) rfl (K w (Chg.refl _ _))
  ·rw [hf, drop241 l0]
   exact leafF (show dec bs = (65533, 1) from bad_eq _ _ _ _ _ l0 hf) (K w (Chg.refl _ _))
 ·have hx : firstT (gB bs 0) < 240:=by omega
  obtain ⟨s4, s2, s16, s256, _⟩:=Yeo hx
  have hdec : dec bs = slowN bs.length (gB bs 0) (gB bs 1) (gB bs 2) (gB bs 3) (firstT (gB bs 0) % 8) (accLo (firstT (gB bs 0) / 16)) (accHi (firstT (gB bs 0) / 16)):=(slow_eq _ _ _ _ _ (by omega) l1 l2 l3 hx).symm
  rw [hdec] at K
  rw [shr4, and7 s256, Zzb (by omega) (by omega)]
  generalize hsz : firstT (gB bs 0) % 8 = sz at *
  generalize hq : firstT (gB bs 0) / 16 = q at *
  refine ⟨by decide, Ygv (by omega) (by omega) ?_⟩
  simp only [Addr.add_mk, Nat.zero_add, Int.toNat_natCast]
  have ht:=T.2 q s16
  rw [Nat.mul_comm] at ht
  refine ZxJ ht.1 (ZxJ ht.2 ?_)
  rw [zeroC_acc]
  refine (Hp.start w No).newB fun b9 w1 H1 hb9 hc1 => ?_
  refine H1.stN 0 rfl (off:=0) rfl (by decide) (by simp [one1, Value.oneCell']) fun w2 H2 hc2 => ?_
  have hc : Chg No w w2:=hc1.trans hc2 fun x hx he => by subst he; omega
  have hB : Bytes w2 p l bs:=h.chg hc (off_no _)
  simp only [splice, take_zero, nil_append, set_cons_zero, length_cons, length_nil, drop_succ_cons, drop_nil, append_nil, Nat.zero_add] at H2
  refine Zz4 (fun hn => ?_) (fun hn => ?_)
  ·have e : slowN bs.length (gB bs 0) (gB bs 1) (gB bs 2) (gB bs 3) sz (accLo q) (accHi q) = (65533, 1):=by unfold slowN; rw [if_pos (by omega)]
   exact leafF e (K w2 hc)
  ·refine Ycb hB (by decide) (by omega) fun b1 hb1 => ?_
   have g1:=YhE hb1
   rw [show (1 : Int).toNat = 1 from rfl] at g1
   rw [<- g1]
   refine Zz7 fun J60 hJ60 => ?_
   have n1 : ¬ bs.length < sz:=by omega
   have fail1 : (gB bs 1 < accLo q \/ accHi q < gB bs 1) -> J60 true w2:=fun hf => by
    subst hJ60
    have e : slowN bs.length (gB bs 0) (gB bs 1) (gB bs 2) (gB bs 3) sz (accLo q) (accHi q) = (65533, 1):=by unfold slowN; rw [if_neg n1, if_pos hf]
    exact leafF e (K w2 hc)
   refine H2.ldI 0 rfl (off:=0) rfl ?_
   refine Zz4 (fun hlo => fail1 (.inl (by omega))) (fun hlo => ?_)
   refine H2.ldI 0 rfl (off:=1) rfl ?_
   by_cases hhi : accHi q < gB bs 1
   ·rw [decide_eq_true (by omega)]; exact fail1 (.inr hhi)
   rw [decide_eq_false (by omega)]
   have n2 : ¬ (gB bs 1 < accLo q \/ accHi q < gB bs 1):=by omega
   clear fail1
   subst hJ60
   refine Zz4 (fun h2 => ?_) (fun h2 => ?_)
   ·have e : slowN bs.length (gB bs 0) (gB bs 1) (gB bs 2) (gB bs 3) sz (accLo q) (accHi q) = (gB bs 0 % 32 * 64 + gB bs 1 % 64, 2):=by unfold slowN; rw [if_neg n1, if_neg n2, if_pos (by omega)]
    refine ⟨by decide, ?_⟩
    rw [and31 l0, and63 l1, wrap_i32 _ (by omega) (by omega), wrap_i32 _ (by omega) (by omega), show (6 : Int) = ((6 : Nat) : Int) from rfl, shl32 _ 6 (by decide) (by omega), or32 6 (by decide) (by omega) (by omega) (by omega)]
    exact leaf e rfl (K w2 hc)
   ·refine Ycb hB (by decide) (by omega) fun b2 hb2 => ?_
    have g2:=YhE hb2
    rw [show (2 : Int).toNat = 2 from rfl] at g2
    rw [<- g2]
    refine Zz7 fun J79 hJ79 => ?_
    have fail2 : (gB bs 2 < 128 \/ 191 < gB bs 2) -> J79 true w2:=fun hf => by
     subst hJ79
     have e : slowN bs.length (gB bs 0) (gB bs 1) (gB bs 2) (gB bs 3) sz (accLo q) (accHi q) = (65533, 1):=by unfold slowN; rw [if_neg n1, if_neg n2, if_neg (by omega), if_pos hf]
     exact leafF e (K w2 hc)
    refine Zz4 (fun hlo => fail2 (.inl (by omega))) (fun hlo => ?_)
    by_cases hhi : 191 < gB bs 2
    ·rw [decide_eq_true (by omega)]; exact fail2 (.inr hhi)
    rw [decide_eq_false (by omega)]
    have n3 : ¬ (gB bs 2 < 128 \/ 191 < gB bs 2):=by omega
    clear fail2
    subst hJ79
    refine Zz4 (fun h3 => ?_) (fun h3 => ?_)
    ·have e : slowN bs.length (gB bs 0) (gB bs 1) (gB bs 2) (gB bs 3) sz (accLo q) (accHi q) = (gB bs 0 % 16 * 4096 + gB bs 1 % 64 * 64 + gB bs 2 % 64, 3):=by
      unfold slowN; rw [if_neg n1, if_neg n2, if_neg (by omega), if_neg n3, if_pos (by omega)]
     refine ⟨by decide, by decide, ?_⟩
     rw [and15 l0, and63 l1, and63 l2, wrap_i32 _ (by omega) (by omega), wrap_i32 _ (by omega) (by omega), wrap_i32 _ (by omega) (by omega), show (6 : Int) = ((6 : Nat) : Int) from rfl, show (12 : Int) = ((12 : Nat) : Int) from rfl,
      shl32 _ 12 (by decide) (by omega), shl32 _ 6 (by decide) (by omega), or32 12 (by decide) (by omega) (by omega) (by omega), or32 6 (by decide) (by omega) (by omega) (by omega)]
     exact leaf e rfl (K w2 hc)
    ·refine Ycb hB (by decide) (by omega) fun b3 hb3 => ?_
     have g3:=YhE hb3
     rw [show (3 : Int).toNat = 3 from rfl] at g3
     rw [<- g3]
     refine Zz7 fun J103 hJ103 => ?_
     have fail3 : (gB bs 3 < 128 \/ 191 < gB bs 3) -> J103 true w2:=fun hf => by
      subst hJ103
      have e : slowN bs.length (gB bs 0) (gB bs 1) (gB bs 2) (gB bs 3) sz (accLo q) (accHi q) = (65533, 1):=by unfold slowN; rw [if_neg n1, if_neg n2, if_neg (by omega), if_neg n3, if_neg (by omega), if_pos hf]
      exact leafF e (K w2 hc)
     refine Zz4 (fun hlo => fail3 (.inl (by omega))) (fun hlo => ?_)
     by_cases hhi : 191 < gB bs 3
     ·rw [decide_eq_true (by omega)]; exact fail3 (.inr hhi)
     rw [decide_eq_false (by omega)]
     have n4 : ¬ (gB bs 3 < 128 \/ 191 < gB bs 3):=by omega
     clear fail3
     subst hJ103
     have e : slowN bs.length (gB bs 0) (gB bs 1) (gB bs 2) (gB bs 3) sz (accLo q) (accHi q) = (gB bs 0 % 8 * 262144 + gB bs 1 % 64 * 4096 + gB bs 2 % 64 * 64 + gB bs 3 % 64, 4):=by
      unfold slowN; rw [if_neg n1, if_neg n2, if_neg (by omega), if_neg n3, if_neg (by omega), if_neg n4]
     refine ⟨by decide, by decide, by decide, ?_⟩
     rw [and7 l0, and63 l1, and63 l2, and63 l3, wrap_i32 _ (by omega) (by omega), wrap_i32 _ (by omega) (by omega), wrap_i32 _ (by omega) (by omega), wrap_i32 _ (by omega) (by omega),
      show (6 : Int) = ((6 : Nat) : Int) from rfl, show (12 : Int) = ((12 : Nat) : Int) from rfl, show (18 : Int) = ((18 : Nat) : Int) from rfl,
      shl32 _ 18 (by decide) (by omega), shl32 _ 12 (by decide) (by omega), shl32 _ 6 (by decide) (by omega), or32 18 (by decide) (by omega) (by omega) (by omega), or32 12 (by decide) (by omega) (by omega) (by omega), or32 6 (by decide) (by omega) (by omega) (by omega)]
     exact leaf e rfl (K w2 hc)
set_option maxRecDepth 100000 in
theorem YfU {p : Option Addr} {l c : Nat} {bs : List UInt8} {J : Int -> Int -> World -> Prop} (h : Bytes w p l bs) (hl : l ≠ 0) (T : Tabs w)
  (K : ∀ w', Chg No w w' -> J ((dec bs).1 : Int) ((dec bs).2 : Int) w') : Zz0 Tryz.prog Zyu #[.slice p l c] w [.one (.int .i32), .one (.int .i64)] J:=by
 refine YcQ ?_
 refine Zz7 fun J0 hJ0 => ?_
 refine ⟨fun x w' m => x = 0 /\ w' = w, ⟨0, rfl, rfl⟩, ?_⟩
 rintro x w' m ⟨rfl, rfl⟩
 have go : J0 w':=by subst hJ0; exact Ygd h hl T K
 refine Zz4 (fun hx => ?_) (fun hx => go)
 refine Ycb h (by decide) (by omega) fun b hb => ?_
 have g0:=YhE hb
 rw [show (0 : Int).toNat = 0 from rfl] at g0
 refine Zz4 (fun h1 => ?_) (fun h1 => go)
 have e : dec bs = (gB bs 0, 1):=by unfold dec decodeN; rw [if_pos (by omega)]
 rw [wrap_i32 _ (by omega) (by omega), <- g0]
 exact leaf e rfl (K w' (Chg.refl _ _))
set_option maxRecDepth 100000 in
set_option maxHeartbeats 1000000 in
theorem YeZ {s : ByteArray} {J : Int -> World -> Prop} (h : 8 <= s.size) (K : ∀ A : Nat, A < 18446744073709551616 -> (A &&& 9259542123273814144 = 0 -> ∀ b ∈ (bl s).take 8, b.toNat < 128) -> J (A : Int) w.drew) :
  Zz0 Tryz.prog Zzt #[.string s] w [.one (.int .u64)] J:=by
 refine Yci ?_
 have hk:=K _ (word_lt s) (fun h0 => (word_asc s h).1 h0)
 have q : ∀ i, (s.get! i).toNat = gB (bl s) i:=fun i => by rw [gB, getD_get!']
 simp only [Lib.leNat, q] at hk
 have lt:=fun i => YcF (bl s) i
 refine Zyl (i:=0) (by omega) ?_
 refine Zyl (i:=1) (by omega) ⟨by decide, ?_⟩
 refine Zyl (i:=2) (by omega) ⟨by decide, ?_⟩
 refine Zyl (i:=3) (by omega) ⟨by decide, ?_⟩
 refine Zyl (i:=4) (by omega) ⟨by decide, ?_⟩
 refine Zyl (i:=5) (by omega) ⟨by decide, ?_⟩
 refine Zyl (i:=6) (by omega) ⟨by decide, ?_⟩
 refine Zyl (i:=7) (by omega) ⟨by decide, ?_⟩
 have h0:=lt 0; have h1:=lt 1; have h2:=lt 2; have h3:=lt 3; have h4:=lt 4; have h5:=lt 5; have h6:=lt 6; have h7:=lt 7
 generalize gB (bl s) 0 = x0 at *; generalize gB (bl s) 1 = x1 at *; generalize gB (bl s) 2 = x2 at *; generalize gB (bl s) 3 = x3 at *
 generalize gB (bl s) 4 = x4 at *; generalize gB (bl s) 5 = x5 at *; generalize gB (bl s) 6 = x6 at *; generalize gB (bl s) 7 = x7 at *
 have sh : ∀ (n : Nat) (k : Int), YgP .u64 (n : Int) k = IntKind.u64.wrap ((n : Int) * 2 ^ (min k.toNat 64)):=fun _ _ => rfl
 have bo : ∀ x y : Int, bOr .u64 x y = bits .or .u64 x y:=fun _ _ => rfl
 simp (disch:=omega) only [u64_wrap_id, sh, bo]
 simp only [show (8 : Int).toNat = 8 from rfl, show (16 : Int).toNat = 16 from rfl, show (24 : Int).toNat = 24 from rfl, show (32 : Int).toNat = 32 from rfl, show (40 : Int).toNat = 40 from rfl, show (48 : Int).toNat = 48 from rfl, show (56 : Int).toNat = 56 from rfl, show min 8 64 = 8 from rfl, show min 16 64 = 16 from rfl, show min 24 64 = 24 from rfl, show min 32 64 = 32 from rfl, show min 40 64 = 40 from rfl, show min 48 64 = 48 from rfl, show min 56 64 = 56 from rfl, Int.reducePow]
 simp (disch:=omega) only [u64_wrap_id, u64_or8, u64_or16, u64_or24, u64_or32, u64_or40, u64_or48, u64_or56]
 have e : (x0 : Int) + (x1 : Int) * 256 + (x2 : Int) * 65536 + (x3 : Int) * 16777216 + (x4 : Int) * 4294967296 + (x5 : Int) * 1099511627776 + (x6 : Int) * 281474976710656 + (x7 : Int) * 72057594037927936
  = ((x0 + 256 * (x1 + 256 * (x2 + 256 * (x3 + 256 * (x4 + 256 * (x5 + 256 * (x6 + 256 * (x7 + 256 * 0))))))) : Nat) : Int):=by push_cast; omega
 rw [e]; exact hk
end
end Go.Proofs.YtglnmjflpkeclaaGreatDoor
end
section
namespace Go.Proofs.YtglnmjflpkeclaaGreatDoor
open Go Go.Vc
theorem c_char_IsChar {a : Int} {w : World} {J : Bool -> World -> Prop} (h :
 Zzf (fun (g : Bool) (i : World) =>
 J g i) fun b =>
 Zz1 (a == (9 : Int)) (
 b true w) (
 Zz1 (a == (10 : Int)) (
 b true w) (
 Zz1 (a == (13 : Int)) (
 b true w) (
 Array.size (⟨[.int .i32 32, .int .i32 55295]⟩ : Array Value) = 2 /\
 Array.size (⟨[.int .i32 57344, .int .i32 65533]⟩ : Array Value) = 2 /\
 Array.size (⟨[.int .i32 65536, .int .i32 1114111]⟩ : Array Value) = 2 /\
 newB w (.cells ⟨[.int .i32 32, .int .i32 55295, .int .i32 57344, .int .i32 65533, .int .i32 65536, .int .i32 1114111]⟩ ZqE) fun c d =>
 Zz0 Tryz.prog YbT #[.int .i32 a, .slice (some ⟨c, 0, none⟩) 3 3] d [.one .bool] fun e f =>
 b e f)))) : Zz0 Tryz.prog Yaa #[.int .i32 a] w [.one .bool] J:=Zz3 Tryz.func96 (.s .o (.j [(2, .bool)] .o .o)) (Eq.mpr (by kernel_rfl) h)
theorem c_char_IsPart {a : Int} {w : World} {J : Bool -> World -> Prop} (h :
 Zzf (fun (n : Bool) (o : World) =>
 J n o) fun b =>
 Zz0 Tryz.prog Zqz #[.int .i32 a] w [.one .bool] fun c d =>
 Zz1 c (
 b true d) (
 Zz1 (a == (45 : Int)) (
 b true d) (
 Zz1 (a == (46 : Int)) (
 b true d) (
 Zz1 (decide (a >= (48 : Int))) (
 Zz1 (decide (a <= (57 : Int))) (
 b true d) (
 Zz1 (a == (183 : Int)) (
 b true d) (
 Array.size (⟨[.int .i32 768, .int .i32 879]⟩ : Array Value) = 2 /\
 Array.size (⟨[.int .i32 8255, .int .i32 8256]⟩ : Array Value) = 2 /\
 newB d (.cells ⟨[.int .i32 768, .int .i32 879, .int .i32 8255, .int .i32 8256]⟩ ZqE) fun e f =>
 Zz0 Tryz.prog YbT #[.int .i32 a, .slice (some ⟨e, 0, none⟩) 2 2] f [.one .bool] fun g i =>
 b g i))) (
 Zz1 (a == (183 : Int)) (
 b true d) (
 Array.size (⟨[.int .i32 768, .int .i32 879]⟩ : Array Value) = 2 /\
 Array.size (⟨[.int .i32 8255, .int .i32 8256]⟩ : Array Value) = 2 /\
 newB d (.cells ⟨[.int .i32 768, .int .i32 879, .int .i32 8255, .int .i32 8256]⟩ ZqE) fun j k =>
 Zz0 Tryz.prog YbT #[.int .i32 a, .slice (some ⟨j, 0, none⟩) 2 2] k [.one .bool] fun l m =>
 b l m)))))) : Zz0 Tryz.prog Ya9 #[.int .i32 a] w [.one .bool] J:=Zz3 Tryz.func130 (.s .o (.j [(2, .bool)] .o .o)) (Eq.mpr (by kernel_rfl) h)
theorem c_char_IsStart {a : Int} {w : World} {J : Bool -> World -> Prop} (h :
 Zz1 (decide (a < (128 : Int))) (
 Zzf (fun (g : Bool) (i : World) =>
 J g i) fun b =>
 Zz1 (decide (a >= (97 : Int))) (
 Zz1 (decide (a <= (122 : Int))) (
 b true w) (
 Zz1 (decide (a >= (65 : Int))) (
 Zz1 (decide (a <= (90 : Int))) (
 b true w) (
 b (a == (95 : Int)) w)) (
 b (a == (95 : Int)) w))) (
 Zz1 (decide (a >= (65 : Int))) (
 Zz1 (decide (a <= (90 : Int))) (
 b true w) (
 b (a == (95 : Int)) w)) (
 b (a == (95 : Int)) w))) (
 Array.size (⟨[.int .i32 192, .int .i32 214]⟩ : Array Value) = 2 /\
 Array.size (⟨[.int .i32 216, .int .i32 246]⟩ : Array Value) = 2 /\
 Array.size (⟨[.int .i32 248, .int .i32 767]⟩ : Array Value) = 2 /\
 Array.size (⟨[.int .i32 880, .int .i32 893]⟩ : Array Value) = 2 /\
 Array.size (⟨[.int .i32 895, .int .i32 8191]⟩ : Array Value) = 2 /\
 Array.size (⟨[.int .i32 8204, .int .i32 8205]⟩ : Array Value) = 2 /\
 Array.size (⟨[.int .i32 8304, .int .i32 8591]⟩ : Array Value) = 2 /\
 Array.size (⟨[.int .i32 11264, .int .i32 12271]⟩ : Array Value) = 2 /\
 Array.size (⟨[.int .i32 12289, .int .i32 55295]⟩ : Array Value) = 2 /\
 Array.size (⟨[.int .i32 63744, .int .i32 64975]⟩ : Array Value) = 2 /\
 Array.size (⟨[.int .i32 65008, .int .i32 65533]⟩ : Array Value) = 2 /\
 Array.size (⟨[.int .i32 65536, .int .i32 983039]⟩ : Array Value) = 2 /\
 newB w (.cells ⟨[.int .i32 192, .int .i32 214, .int .i32 216, .int .i32 246, .int .i32 248, .int .i32 767, .int .i32 880, .int .i32 893, .int .i32 895, .int .i32 8191, .int .i32 8204, .int .i32 8205, .int .i32 8304, .int .i32 8591, .int .i32 11264, .int .i32 12271, .int .i32 12289, .int .i32 55295, .int .i32 63744, .int .i32 64975, .int .i32 65008, .int .i32 65533, .int .i32 65536, .int .i32 983039]⟩ ZqE) fun c d =>
 Zz0 Tryz.prog YbT #[.int .i32 a, .slice (some ⟨c, 0, none⟩) 12 12] d [.one .bool] fun e f =>
 J e f)) : Zz0 Tryz.prog Zqz #[.int .i32 a] w [.one .bool] J:=Zz3 Tryz.func129 (.s .o (.s (.s .o (.c (.j [(2, .bool)] .o .o) .o)) (.s .o .o))) (Eq.mpr (by kernel_rfl) h)
theorem c_char_in {a : Int} {b : Option Addr} {c d : Nat} {w : World} {J : Bool -> World -> Prop} (h :
 ∃ n : Int -> World -> Nat -> Prop, (∃ o, n (0 : Int) w o) /\ ∀ p q o, n p q o -> (
 Zz1 (decide (p < (c : Int))) (
 ZzS b c p fun e =>
 ldI .i32 q ((e.add (p.toNat * 2))) fun f =>
 ldI .i32 q (((e.add (p.toNat * 2)).add 1)) fun g =>
 newB q (.cells (Zy2 Tryz.prog ZqE) ZqE) fun i j =>
 stN j ⟨i, 0, none⟩ ⟨[.int .i32 f, .int .i32 g]⟩ 2 fun k =>
 ldI .i32 k ⟨i, 1, none⟩ fun l =>
 Zz1 (decide (a <= l)) (
 ldI .i32 k ⟨i, 0, none⟩ fun m =>
 J (decide (a >= m)) k) (
 ∃ r, r < o /\ n (w64 (p + (1 : Int))) k r)) (
 J false q))) : Zz0 Tryz.prog YbT #[.int .i32 a, .slice b c d] w [.one .bool] J:=Zz3 Tryz.func142 (.s .o (.s (.s .o (.b (.l [(9, .int .i64)] (.s .o (.s (.c .o .o) (.s (.b (.s .o (.s .o (.c (.s .o .o) .o)))) .o)))))) (.s .o .o))) (Eq.mpr (by kernel_rfl) h)
theorem c_char_Next {a : Option Addr} {b c : Nat} {d : Int} {w : World} {J : Int -> Int -> Int -> World -> Prop} (h :
 Zzf (fun (p : Bool) (q : World) =>
 Zz1 p (
 J (0 : Int) (0 : Int) (1 : Int) q) (
 slS a b c 1 (some d) none none fun e f g =>
 Zz0 Tryz.prog Zyu #[.slice e f g] q [.one (.int .i32), .one (.int .i64)] fun i j k =>
 Zzf (fun (r : Bool) (s : World) =>
 Zz1 r (
 J (0 : Int) (0 : Int) (20 : Int) s) (
 Zz0 Tryz.prog Yaa #[.int .i32 i] s [.one .bool] fun l m =>
 Zz1 (!l) (
 J (0 : Int) (0 : Int) (21 : Int) m) (
 J i (w64 (d + j)) (0 : Int) m))) fun n =>
 Zz1 (i == (65533 : Int)) (
 n (decide (j < (3 : Int))) k) (
 n false k))) fun o =>
 Zz1 (decide (d < (0 : Int))) (
 o true w) (
 o (decide (d >= (b : Int))) w)) : Zz0 Tryz.prog Ycx #[.slice a b c, .int .i64 d] w [.one (.int .i32), .one (.int .i64), .one (.int .i64)] J:=Zz3 Tryz.func53 (.s .o (.s (.j [(16, .bool)] .o (.c (.s .o .o) .o)) (.s .o (.s (.b (.j [(24, .bool)] .o (.c (.s .o .o) (.s .o (.c (.s .o .o) .o))))) (.s .o .o))))) (Eq.mpr (by kernel_rfl) h)
theorem c_char_Fault {a : Option Addr} {b c : Nat} {w : World} {J : Int -> Int -> World -> Prop} (h :
 ∃ i : Int -> World -> Nat -> Prop, (∃ j, i (0 : Int) w j) /\ ∀ k l j, i k l j -> (
 Zz1 (decide (k < (b : Int))) (
 Zz0 Tryz.prog Ycx #[.slice a b c, .int .i64 k] l [.one (.int .i32), .one (.int .i64), .one (.int .i64)] fun d e f g =>
 Zz1 (f != (0 : Int)) (
 J k f g) (
 ∃ m, m < j /\ i e g m)) (
 J (0 : Int) (0 : Int) l))) : Zz0 Tryz.prog YbL #[.slice a b c] w [.one (.int .i64), .one (.int .i64)] J:=Zz3 Tryz.func28 (.s .o (.s (.s .o (.b (.l [(4, .int .i64)] (.s (.s .o (.c .o .o)) (.b (.s .o (.s (.s .o (.c (.s .o .o) .o)) .o))))))) (.s .o .o))) (Eq.mpr (by kernel_rfl) h)
theorem c_char_Name {a : ByteArray} {w : World} {J : Bool -> World -> Prop} (h :
 Zzf (fun (s : Bool) (t : World) =>
 Zz1 s (
 J false t) (
 newB t (.stringIter a 0) fun b c =>
 ∃ y : World -> Nat -> Prop, (∃ z, y c z) /\ ∀ (u : World) (z : Nat), y u z -> (
 nextS u b (fun d e f =>
 Zzf (fun (v : Bool) (x : World) =>
 Zz1 v (
 J false x) (
 ∃ aa, aa < z /\ y x aa)) fun g =>
 Zz1 ((d : Int) == (0 : Int)) (
 Zz0 Tryz.prog Zqz #[.int .i32 e] f [.one .bool] fun i j =>
 Zz1 (!i) (
 g true j) (
 Zz0 Tryz.prog Ya9 #[.int .i32 e] j [.one .bool] fun k l =>
 g (!k) l)) (
 Zz0 Tryz.prog Ya9 #[.int .i32 e] f [.one .bool] fun m n =>
 g (!m) n)) (fun o =>
 J true o)))) fun p =>
 Zz1 (a.toList == (⟨#[]⟩ : ByteArray).toList) (
 p true w) (
 Zz1 (decide ((a.size : Int) > (100 : Int))) (
 p true w) (
 Zz0 Tryz.prog Zx3 #[.string a] w [.one .bool] fun q r =>
 p (!q) r))) : Zz0 Tryz.prog Zq6 #[.string a] w [.one .bool] J:=Zz3 Tryz.func76 (.s .o (.s (.j [(16, .bool)] .o (.c (.s .o .o) .o)) (.s (.s .o (.b (.l [] (.s .o (.s (.c .o .o) (.b (.s .o (.j [(34, .bool)] .o (.c (.s .o .o) .o))))))))) (.s .o .o)))) (Eq.mpr (by kernel_rfl) h)
theorem c_char_Split {a : ByteArray} {w : World} {J : ByteArray -> ByteArray -> Bool -> World -> Prop} (h :
 Zz0 Tryz.prog YcK #[.string a, .string ⟨#[58]⟩] w [.one .str, .one .str, .one .bool] fun b c d e =>
 Zzf (fun (o : Bool) (p : World) =>
 Zz1 o (
 J ⟨#[]⟩ a true p) (
 Zzf (fun (q : Bool) (r : World) =>
 Zz1 q (
 J b c true r) (
 J ⟨#[]⟩ ⟨#[]⟩ false r)) fun f =>
 Zz1 d (
 Zz0 Tryz.prog Zq6 #[.string b] p [.one .bool] fun g i =>
 Zz1 g (
 Zz0 Tryz.prog Zq6 #[.string c] i [.one .bool] fun j k =>
 f j k) (
 f false i)) (
 f false p))) fun l =>
 Zz1 (!d) (
 Zz0 Tryz.prog Zq6 #[.string a] e [.one .bool] fun m n =>
 l m n) (
 l false e)) : Zz0 Tryz.prog ZqN #[.string a] w [.one .str, .one .str, .one .bool] J:=Zz3 Tryz.func120 (.s .o (.s .o (.s (.b (.j [(12, .bool)] .o (.c (.s .o .o) (.j [(20, .bool)] .o (.c (.s .o .o) .o))))) (.s .o .o)))) (Eq.mpr (by kernel_rfl) h)
theorem c_char_Lines {a : Option Addr} {b c : Nat} {w : World} {J : Option Addr -> Nat -> Nat -> World -> Prop} (h :
 mkS w Zzs (Zy2 Tryz.prog Zzs) 1 1 (0 : Int) (b : Int) fun d e =>
 ∃ ai : Option Addr -> Nat -> Nat -> Int -> World -> Nat -> Prop, (∃ aj, ai (some ⟨d, 0, none⟩) 0 ((b : Int).toNat) (0 : Int) e aj) /\ ∀ (t : Option Addr) (u : Nat) (v : Nat) (x : Int) (y : World) (aj : Nat), ai t u v x y aj -> (
 Zz1 (decide (x < (b : Int))) (
 Zzf (fun (z : Option Addr) (aa : Nat) (ab : Nat) (ac : World) =>
 ∃ ak, ak < aj /\ ai z aa ab (w64 (x + (1 : Int))) ac ak) fun f =>
 ZzS a b x fun g =>
 ldI .u8 y ((g.add (x.toNat * 1))) fun i =>
 Zzf (fun (ad : Int) (ae : World) =>
 newB ae (.cells ⟨[.int .u8 ad]⟩ Zzs) fun j k =>
 YeJ Tryz.prog Zzj Zzj (.slice t u v) (.slice (some ⟨j, 0, none⟩) 1 1) k fun l m n o =>
 f l m n o) fun p =>
 Zzf (fun (af : Bool) (ag : World) =>
 Zz1 af (
 f t u v ag) (
 Zz1 (i == (13 : Int)) (
 p (10 : Int) ag) (
 p i ag))) fun q =>
 Zz1 (i == (10 : Int)) (
 Zz1 (decide (x > (0 : Int))) (
 ZzS a b (w64 (x - (1 : Int))) fun r =>
 ldI .u8 y ((r.add ((w64 (x - (1 : Int))).toNat * 1))) fun s =>
 q (s == (13 : Int)) y) (
 q false y)) (
 q false y)) (
 J t u v y))) : Zz0 Tryz.prog YdA #[.slice a b c] w [.one .slice] J:=Zz3 Tryz.func35 (.s .o (.s .o (.s (.s .o (.b (.l [(3, .slice), (11, .int .i64)] (.s .o (.s (.c .o .o) (.j [(3, .slice)] (.b (.s .o (.j [(5, .int .u8)] (.b (.j [(16, .bool)] .o (.c .o (.s .o (.c .o .o))))) .o))) .o)))))) (.s .o .o)))) (Eq.mpr (by kernel_rfl) h)
end Go.Proofs.YtglnmjflpkeclaaGreatDoor
end
section
namespace Go.Proofs.YtglnmjflpkeclaaGreatDoor
open Go Go.Vc
theorem c_ref01_Part {a : Int} {w : World} {J : Bool -> World -> Prop} (h :
 Zzf (fun (e : Bool) (f : World) =>
 J e f) fun b =>
 Zz0 Tryz.prog Yb8 #[.int .i64 a] w [.one .bool] fun c d =>
 Zz1 c (
 b true d) (
 Zz1 (a == (45 : Int)) (
 b true d) (
 Zz1 (a == (46 : Int)) (
 b true d) (
 Zz1 (decide (a >= (48 : Int))) (
 Zz1 (decide (a <= (57 : Int))) (
 b true d) (
 Zz1 (a == (183 : Int)) (
 b true d) (
 Zz1 (decide (a >= (768 : Int))) (
 Zz1 (decide (a <= (879 : Int))) (
 b true d) (
 Zz1 (a == (8255 : Int)) (
 b true d) (
 b (a == (8256 : Int)) d))) (
 Zz1 (a == (8255 : Int)) (
 b true d) (
 b (a == (8256 : Int)) d))))) (
 Zz1 (a == (183 : Int)) (
 b true d) (
 Zz1 (decide (a >= (768 : Int))) (
 Zz1 (decide (a <= (879 : Int))) (
 b true d) (
 Zz1 (a == (8255 : Int)) (
 b true d) (
 b (a == (8256 : Int)) d))) (
 Zz1 (a == (8255 : Int)) (
 b true d) (
 b (a == (8256 : Int)) d)))))))) : Zz0 Tryz.prog Ydx #[.int .i64 a] w [.one .bool] J:=Zz3 Tryz.func26 (.s .o (.j [(2, .bool)] .o .o)) (Eq.mpr (by kernel_rfl) h)
theorem c_ref01_Start {a : Int} {w : World} {J : Bool -> World -> Prop} (h :
 Zzf (fun (o : Bool) (p : World) =>
 Zz1 o (
 J true p) (
 Zzf (fun (q : Bool) (r : World) =>
 Zz1 q (
 Zzf (fun (s : Bool) (t : World) =>
 J s t) fun b =>
 Zz1 (a != (215 : Int)) (
 b (a != (247 : Int)) r) (
 b false r)) (
 Zzf (fun (u : Bool) (v : World) =>
 Zz1 u (
 J (a != (894 : Int)) v) (
 Zzf (fun (x : Bool) (y : World) =>
 Zz1 x (
 J true y) (
 Zzf (fun (z : Bool) (aa : World) =>
 Zz1 z (
 J true aa) (
 Zzf (fun (ab : Bool) (ac : World) =>
 Zz1 ab (
 Zzf (fun (ad : Bool) (ae : World) =>
 J ad ae) fun c =>
 Zz1 (decide (a < (64976 : Int))) (
 c true ac) (
 c (decide (a >= (65008 : Int))) ac)) (
 Zzf (fun (af : Bool) (ag : World) =>
 J af ag) fun d =>
 Zz1 (decide (a >= (65536 : Int))) (
 d (decide (a <= (983039 : Int))) ac) (
 d false ac))) fun e =>
 Zz1 (decide (a >= (63744 : Int))) (
 e (decide (a <= (65533 : Int))) aa) (
 e false aa))) fun f =>
 Zzf (fun (ai : Bool) (aj : World) =>
 Zz1 ai (
 f ai aj) (
 Zzf (fun (ak : Bool) (al : World) =>
 Zz1 ak (
 f ak al) (
 Zz1 (decide (a >= (12289 : Int))) (
 f (decide (a <= (55295 : Int))) al) (
 f false al))) fun g =>
 Zz1 (decide (a >= (11264 : Int))) (
 g (decide (a <= (12271 : Int))) aj) (
 g false aj))) fun i =>
 Zz1 (decide (a >= (8304 : Int))) (
 i (decide (a <= (8591 : Int))) y) (
 i false y))) fun j =>
 Zz1 (a == (8204 : Int)) (
 j (a == (8204 : Int)) v) (
 j (a == (8205 : Int)) v))) fun k =>
 Zz1 (decide (a >= (880 : Int))) (
 k (decide (a <= (8191 : Int))) r) (
 k false r))) fun l =>
 Zz1 (decide (a >= (192 : Int))) (
 l (decide (a <= (767 : Int))) p) (
 l false p))) fun m =>
 Zzf (fun (am : Bool) (an : World) =>
 Zz1 am (
 m am an) (
 Zz1 (a == (95 : Int)) (
 m (a == (95 : Int)) an) (
 Zz1 (decide (a >= (97 : Int))) (
 m (decide (a <= (122 : Int))) an) (
 m false an)))) fun n =>
 Zz1 (decide (a >= (65 : Int))) (
 n (decide (a <= (90 : Int))) w) (
 n false w)) : Zz0 Tryz.prog Yb8 #[.int .i64 a] w [.one .bool] J:=Zz3 Tryz.func27 (.s .o (.s (.b (.j [(3, .bool)] (.j [(3, .bool)] .o (.c .o (.s .o (.c .o .o)))) (.c (.s .o .o) (.j [(18, .bool)] .o (.c (.j [(2, .bool)] .o .o) (.j [(31, .bool)] .o (.c (.s .o .o) (.j [(40, .bool)] (.s .o (.c .o .o)) (.c (.s .o .o) (.j [(45, .bool)] (.j [(45, .bool)] .o (.c .o (.j [(45, .bool)] .o (.c .o .o)))) (.c (.s .o .o) (.j [(64, .bool)] .o (.c (.j [(2, .bool)] .o .o) .o))))))))))))) (.j [(2, .bool)] .o .o))) (Eq.mpr (by kernel_rfl) h)
theorem c_ref01_Read {a : Option Addr} {b c : Nat} {d : Int} {w : World} {J : Int -> Int -> World -> Prop} (h :
 ZzS a b d fun e =>
 ldI .u8 w ((e.add (d.toNat * 1))) fun f =>
 Zzf (fun (p : Int) (q : Int) (r : Int) (s : World) =>
 Zz1 (decide ((w64 (d + p)) > (b : Int))) (
 J (0 : Int) (0 : Int) s) (
 ∃ ai : Int -> Int -> World -> Nat -> Prop, (∃ aj, ai q (1 : Int) s aj) /\ ∀ (t : Int) (u : Int) (v : World) (aj : Nat), ai t u v aj -> (
 Zz1 (decide (u < p)) (
 ZzS a b (w64 (d + u)) fun g =>
 ldI .u8 v ((g.add ((w64 (d + u)).toNat * 1))) fun i =>
 Zzf (fun (x : Bool) (y : World) =>
 Zz1 x (
 J (0 : Int) (0 : Int) y) (
 ∃ ak, ak < aj /\ ai (w64 ((w64 ((w64 ((64 : Int) * t)) + (w64 i))) - (128 : Int))) (w64 (u + (1 : Int))) y ak)) fun j =>
 Zz1 (decide ((w64 i) < (128 : Int))) (
 j true v) (
 j (decide ((w64 i) > (191 : Int))) v)) (
 Zzf (fun (z : Bool) (aa : World) =>
 Zz1 z (
 J (0 : Int) (0 : Int) aa) (
 J t p aa)) fun k =>
 Zz1 (decide (t < r)) (
 k true v) (
 Zz1 (decide (t > (1114111 : Int))) (
 k true v) (
 Zz1 (decide (t >= (55296 : Int))) (
 k (decide (t <= (57343 : Int))) v) (
 k false v))))))) fun l =>
 Zz1 (decide ((w64 f) < (128 : Int))) (
 J (w64 f) (1 : Int) w) (
 Zzf (fun (ab : Bool) (ac : World) =>
 Zz1 ab (
 l (2 : Int) (w64 ((w64 f) - (192 : Int))) (128 : Int) ac) (
 Zzf (fun (ad : Bool) (ae : World) =>
 Zz1 ad (
 l (3 : Int) (w64 ((w64 f) - (224 : Int))) (2048 : Int) ae) (
 Zzf (fun (af : Bool) (ag : World) =>
 Zz1 af (
 l (4 : Int) (w64 ((w64 f) - (240 : Int))) (65536 : Int) ag) (
 J (0 : Int) (0 : Int) ag)) fun m =>
 Zz1 (decide ((w64 f) >= (240 : Int))) (
 m (decide ((w64 f) < (248 : Int))) ae) (
 m false ae))) fun n =>
 Zz1 (decide ((w64 f) >= (224 : Int))) (
 n (decide ((w64 f) < (240 : Int))) ac) (
 n false ac))) fun o =>
 Zz1 (decide ((w64 f) >= (192 : Int))) (
 o (decide ((w64 f) < (224 : Int))) w) (
 o false w))) : Zz0 Tryz.prog Ydw #[.slice a b c, .int .i64 d] w [.one (.int .i64), .one (.int .i64)] J:=Zz3 Tryz.func25 (.s .o (.s .o (.s .o (.j [(7, .int .i64), (8, .int .i64), (9, .int .i64)] (.b (.s .o (.c (.s .o .o) (.j [(22, .bool)] .o (.c .o (.j [(31, .bool)] .o (.c .o (.j [(40, .bool)] .o (.c .o (.s .o .o)))))))))) (.s (.s .o (.c (.s .o .o) .o)) (.s (.s .o (.b (.l [(8, .int .i64), (10, .int .i64)] (.s (.s .o (.c .o .o)) (.s (.b (.s .o (.s (.j [(72, .bool)] .o (.c (.s .o .o) .o)) .o))) .o))))) (.s (.j [(92, .bool)] .o (.c (.s .o .o) .o)) (.s .o .o)))))))) (Eq.mpr (by kernel_rfl) h)
theorem c_ref01_Name {a : ByteArray} {w : World} {J : Bool -> World -> Prop} (h :
 cvJ Tryz.prog Zz8 Zzj (.string a) w fun b c d e =>
 Zzf (fun (p : Bool) (q : World) =>
 Zz1 p (
 J false q) (
 ∃ t : Int -> World -> Nat -> Prop, (∃ u, t (0 : Int) q u) /\ ∀ v x u, t v x u -> (
 Zz1 (decide (v < (c : Int))) (
 Zz0 Tryz.prog Ydw #[.slice b c d, .int .i64 v] x [.one (.int .i64), .one (.int .i64)] fun f g i =>
 Zzf (fun (r : Bool) (s : World) =>
 Zz1 r (
 J false s) (
 ∃ y, y < u /\ t (w64 (v + g)) s y)) fun j =>
 Zz1 (g == (0 : Int)) (
 j true i) (
 Zz0 Tryz.prog Ydx #[.int .i64 f] i [.one .bool] fun k l =>
 Zz1 (!k) (
 j true l) (
 Zz1 (v == (0 : Int)) (
 Zz0 Tryz.prog Yb8 #[.int .i64 f] l [.one .bool] fun m n =>
 j (!m) n) (
 j false l)))) (
 J true x)))) fun o =>
 Zz1 ((c : Int) == (0 : Int)) (
 o true e) (
 o (decide ((c : Int) > (100 : Int))) e)) : Zz0 Tryz.prog YbK #[.string a] w [.one .bool] J:=Zz3 Tryz.func10 (.s .o (.s .o (.s (.j [(16, .bool)] .o (.c (.s .o .o) .o)) (.s (.s .o (.b (.l [(4, .int .i64)] (.s (.s .o (.c .o .o)) (.b (.s .o (.s (.j [(42, .bool)] .o (.c (.s .o .o) .o)) .o))))))) (.s .o .o))))) (Eq.mpr (by kernel_rfl) h)
end Go.Proofs.YtglnmjflpkeclaaGreatDoor
end
section
namespace Go.Vc
open Go
theorem YeM {J : Bool -> World -> Prop} {w : World} {p : Prop} [Decidable p] (K : J (decide p) w) (h : p) : J true w:=by rw [decide_eq_true h] at K; exact K
theorem leafN {J : Bool -> World -> Prop} {w : World} {p : Prop} [Decidable p] (K : J (decide p) w) (h : ¬ p) : J false w:=by rw [decide_eq_false h] at K; exact K
theorem leafD {J : Bool -> World -> Prop} {w : World} {p q : Prop} [Decidable p] [Decidable q] (K : J (decide p) w) (h : q ↔ p) : J (decide q) w:=by rw [show decide q = decide p from decide_eq_decide.2 h]; exact K
theorem leafX {J : Bool -> World -> Prop} {w : World} {p : Prop} [Decidable p] {x y : Int} (K : J (decide p) w) (h : x ≠ y ↔ p) : J (x != y) w:=by
 rw [show (x != y) = decide p from by rw [Bool.eq_iff_iff]; simp only [bne_iff_ne, decide_eq_true_eq]; exact h]; exact K
theorem Yan {b : Bool} {p : Prop} {A B : Prop} (hb : b = true ↔ p) (h1 : p -> A) (h2 : ¬ p -> B) : Zz1 b A B :=
 Zz9 (fun h => h1 (hb.1 h)) (fun h => h2 fun hp => by rw [hb.2 hp] at h; cases h)
theorem bT {p : Prop} (h : p) : true = true ↔ p:=⟨fun _ => h, fun _ => rfl⟩
theorem bF {p : Prop} (h : ¬ p) : false = true ↔ p:=⟨fun e => (by cases e), fun hp => absurd hp h⟩
theorem bD {p q : Prop} [Decidable q] (h : q ↔ p) : decide q = true ↔ p:=by rw [decide_eq_true_eq]; exact h
theorem bQ {p : Prop} {x y : Int} (h : x = y ↔ p) : (x == y) = true ↔ p:=by rw [beq_iff_eq]; exact h
end Go.Vc
namespace Go.Proofs.YtglnmjflpkeclaaGreatDoor
open Go Go.Vc Go.Lib
section
variable {w : World}
def spanC (s : Int × Int) : List Value:=[.int .i32 s.1, .int .i32 s.2]
theorem Yg0 (L : List (Int × Int)) : Ygo spanC 2 L:=fun _ _ => rfl
theorem zeroC_span : Zy2 Tryz.prog ZqE = ⟨[.int .i32 0, .int .i32 0]⟩:=by kernel_rfl
theorem inL_drop {r : Int} {L : List (Int × Int)} {i : Nat} {s : Int × Int} (h : L[i]? = some s) (hr : ¬ r <= s.2) : inL r (L.drop i) = inL r (L.drop (i + 1)):=by
  obtain ⟨hi, rfl⟩:=List.getElem?_eq_some_iff.1 h
  rw [List.drop_eq_getElem_cons hi]
  unfold inL
  rw [if_neg hr]; cases L.drop (i + 1) <;> rfl
theorem in_ok {r : Int} {p : Option Addr} {l c : Nat} {L : List (Int × Int)} {J : Bool -> World -> Prop} (h : Sl w p l 2 (rows spanC L)) (hm : l <= 1000) (K : ∀ w', Chg No w w' -> J (inL r L) w') :
    Zz0 Tryz.prog YbT #[.int .i32 r, .slice p l c] w [.one .bool] J:=by
  refine c_char_in ?_
  have hl:=h.row (Yg0 L) (by decide)
  refine ⟨fun x w' m => ∃ i : Nat, x = i /\ i <= l /\ m = l - i /\ Chg No w w' /\ inL r (L.drop i) = inL r L, ⟨_, 0, rfl, Nat.zero_le _, rfl, Chg.refl _ _, rfl⟩, ?_⟩
  rintro x w' m ⟨i, rfl, hi, rfl, hc, he⟩
  refine Zz4 (fun hlt => ?_) (fun hlt => ?_)
  · refine ZzT (h.chg hc (off_no _)) (Yg0 L) (by decide) (by omega) hlt fun a s _ hs hcells => ?_
    rw [Int.toNat_natCast] at hs ⊢
    refine ZxJ (n:=s.1) (by have:=hcells 0 _ rfl; rwa [add_zero'] at this) ?_
    refine ZxJ (n:=s.2) (hcells 1 _ rfl) ?_
    rw [zeroC_span]
    refine (Hp.start w' No).newB fun b w6 H6 hb hc6 => ?_
    refine H6.stN 0 rfl (off:=0) rfl (by decide) (by simp [one1, Value.oneCell']) fun w7 H7 hc7 => ?_
    have hcc : Chg No w w7:=hc.trans0 (hc6.trans hc7 fun x hx he => by subst he; omega)
    simp only [splice, List.take_zero, List.nil_append, List.set_cons_zero, List.length_cons, List.length_nil, List.drop_succ_cons, List.drop_nil, List.append_nil, Nat.zero_add] at H7
    refine H7.ldI 0 rfl (off:=1) rfl ?_
    refine Zz4 (fun hr => ?_) (fun hr => ?_)
    · refine H7.ldI 0 rfl (off:=0) rfl ?_
      have e : inL r L = decide (r >= s.1):=by
        rw [<- he]
        obtain ⟨hi', rfl⟩:=List.getElem?_eq_some_iff.1 hs
        rw [List.drop_eq_getElem_cons hi']
        unfold inL
        rw [if_pos hr]
      rw [<- e]; exact K _ hcc
    · exact ⟨l - (i + 1), by omega, i + 1, by rw [Zzb] <;> omega, by omega, rfl, hcc, by rw [<- inL_drop hs hr, he]⟩
  · have : i = l:=by omega
    subst this
    rw [List.drop_of_length_le (by omega)] at he
    have e : inL r L = false:=by rw [<- he]; rfl
    rw [<- e]; exact K _ hc
theorem spanRow {L : List (Int × Int)} {cs : List Value} (hcs : cs = rows spanC L) (hm : L.length <= 1000) {K : Nat -> World -> Prop}
  (k : ∀ b w', Sl w' (some ⟨b, 0, none⟩) L.length 2 (rows spanC L) -> Chg No w w' -> K b w') : newB w (.cells ⟨cs⟩ ZqE) K:=by
 subst hcs
 exact newRow (sz:=2) (n:=L.length) (Yag (Yg0 L)) (by simp only [maxLen]; omega) fun b w' hr _ hc => k b w' hr.sl hc
theorem IsChar_ok {r : Int} {J : Bool -> World -> Prop} (K : ∀ w', Chg No w w' -> J (chr r) w') : Zz0 Tryz.prog Yaa #[.int .i32 r] w [.one .bool] J:=by
 refine c_char_IsChar ?_
 have K0:=K w (Chg.refl _ _)
 unfold chr at K0
 refine Zz7 fun J2 hJ2 => ?_
 subst hJ2
 refine Zzd (fun h => YeM K0 (by unfold Chr; omega)) (fun h9 => ?_)
 refine Zzd (fun h => YeM K0 (by unfold Chr; omega)) (fun h10 => ?_)
 refine Zzd (fun h => YeM K0 (by unfold Chr; omega)) (fun h13 => ?_)
 refine ⟨rfl, rfl, rfl, ?_⟩
 refine spanRow (L:=[(32, 55295), (57344, 65533), (65536, 1114111)]) rfl (by decide) fun b w2 hs hc => ?_
 refine in_ok hs (by decide) fun w3 hc3 => ?_
 have e : inL r [(32, 55295), (57344, 65533), (65536, 1114111)] = chr r:=by
  exact inL_dec (by unfold Chr; simp only [inP, and_false, or_false]; omega)
 rw [e]; exact K _ (hc.trans0 hc3)
theorem Ygm {r : Int} {J : Bool -> World -> Prop} (K : ∀ w', Chg No w w' -> J (isSt r) w') : Zz0 Tryz.prog Zqz #[.int .i32 r] w [.one .bool] J:=by
 refine c_char_IsStart ?_
 have K0:=K w (Chg.refl _ _)
 unfold isSt at K0
 refine Zz4 (fun h => ?_) (fun h => ?_)
 ·refine Zz7 fun J2 hJ2 => ?_
  subst hJ2
  repeat' refine Zz4 (fun _ => ?_) (fun _ => ?_)
  all_goals first | exact YeM K0 (by unfold Sta; omega) | exact leafN K0 (by unfold Sta; omega) | exact leafD K0 (by unfold Sta; omega) | exact leafQ K0 (by unfold Sta; omega)
 ·refine ⟨rfl, rfl, rfl, rfl, rfl, rfl, rfl, rfl, rfl, rfl, rfl, rfl, ?_⟩
  refine spanRow (L:=[(192, 214), (216, 246), (248, 767), (880, 893), (895, 8191), (8204, 8205), (8304, 8591), (11264, 12271), (12289, 55295), (63744, 64975), (65008, 65533), (65536, 983039)]) rfl (by decide) fun b w2 hs hc => ?_
  refine in_ok hs (by decide) fun w3 hc3 => ?_
  have e : inL r [(192, 214), (216, 246), (248, 767), (880, 893), (895, 8191), (8204, 8205), (8304, 8591), (11264, 12271), (12289, 55295), (63744, 64975), (65008, 65533), (65536, 983039)] = isSt r:=by
   exact inL_dec (by unfold Sta; simp only [inP, and_false, or_false]; omega)
  rw [e]; exact K _ (hc.trans0 hc3)
theorem Yi9 {r : Int} {J : Bool -> World -> Prop} (K : ∀ w', Chg No w w' -> J (isPt r) w') : Zz0 Tryz.prog Ya9 #[.int .i32 r] w [.one .bool] J:=by
 refine c_char_IsPart ?_
 refine Zz7 fun J2 hJ2 => ?_
 subst hJ2
 refine Ygm fun w2 hc2 => ?_
 have K0:=K w2 hc2
 unfold isPt at K0
 refine Zz9 (fun h => YeM K0 (.inl (of_decide_eq_true h))) (fun hs => ?_)
 have hs : ¬ Sta r:=of_decide_eq_false hs
 rw [prt_pr2 hs] at K0
 refine Zzd (fun h => YeM K0 (by unfold Pr2; omega)) (fun h1 => ?_)
 refine Zzd (fun h => YeM K0 (by unfold Pr2; omega)) (fun h2 => ?_)
 have last : ¬ (48 <= r /\ r <= 57) -> r ≠ 183 -> ∀ w3, Chg No w w3 -> J (inL r [(768, 879), (8255, 8256)]) w3:=fun h3 h4 w3 hc3 => by
  have e : inL r [(768, 879), (8255, 8256)] = isPt r:=by
   unfold isPt
   rw [prt_pr2 hs]
   exact inL_dec (by unfold Pr2; simp only [inP, and_false, or_false]; omega)
  rw [e]; exact K _ hc3
 refine Zz4 (fun h3 => ?_) (fun h3 => ?_)
 ·refine Zz4 (fun h4 => YeM K0 (by unfold Pr2; omega)) (fun h4 => ?_)
  refine Zzd (fun h => YeM K0 (by unfold Pr2; omega)) (fun h5 => ?_)
  refine ⟨rfl, rfl, ?_⟩
  refine spanRow (L:=[(768, 879), (8255, 8256)]) rfl (by decide) fun b w3 hs hc => ?_
  exact in_ok hs (by decide) fun w4 hc4 => last (by omega) h5 w4 ((hc2.trans0 hc).trans0 hc4)
 ·refine Zzd (fun h => YeM K0 (by unfold Pr2; omega)) (fun h5 => ?_)
  refine ⟨rfl, rfl, ?_⟩
  refine spanRow (L:=[(768, 879), (8255, 8256)]) rfl (by decide) fun b w3 hs hc => ?_
  exact in_ok hs (by decide) fun w4 hc4 => last (by omega) h5 w4 ((hc2.trans0 hc).trans0 hc4)
theorem Start_ok {r : Int} {J : Bool -> World -> Prop} (K0 : J (isSt r) w) : Zz0 Tryz.prog Yb8 #[.int .i64 r] w [.one .bool] J:=by
 refine c_ref01_Start ?_
 unfold isSt at K0
 refine Zz7 fun J3 hJ3 => ?_
 have k3 : ∀ b, (b = true ↔ ((65 <= r /\ r <= 90) \/ r = 95 \/ (97 <= r /\ r <= 122))) -> J3 b w:=by
  intro b hb; subst hJ3
  refine Yan hb (fun h => YeM K0 (by unfold Sta; omega)) (fun n3 => ?_)
  refine Zz7 fun J18 hJ18 => ?_
  have k18 : ∀ b, (b = true ↔ (192 <= r /\ r <= 767)) -> J18 b w:=by
   intro b hb; subst hJ18
   refine Yan hb (fun h => ?_) (fun n18 => ?_)
   ·refine Zz7 fun J2 hJ2 => ?_
    subst hJ2
    refine Zzi (fun h1 => leafX K0 (by unfold Sta; omega)) (fun h1 => leafN K0 (by unfold Sta; omega))
   refine Zz7 fun J31 hJ31 => ?_
   have k31 : ∀ b, (b = true ↔ (880 <= r /\ r <= 8191)) -> J31 b w:=by
    intro b hb; subst hJ31
    refine Yan hb (fun h => leafX K0 (by unfold Sta; omega)) (fun n31 => ?_)
    refine Zz7 fun J40 hJ40 => ?_
    have k40 : ∀ b, (b = true ↔ (r = 8204 \/ r = 8205)) -> J40 b w:=by
     intro b hb; subst hJ40
     refine Yan hb (fun h => YeM K0 (by unfold Sta; omega)) (fun n40 => ?_)
     refine Zz7 fun J45 hJ45 => ?_
     have k45 : ∀ b, (b = true ↔ ((8304 <= r /\ r <= 8591) \/ (11264 <= r /\ r <= 12271) \/ (12289 <= r /\ r <= 55295))) -> J45 b w:=by
      intro b hb; subst hJ45
      refine Yan hb (fun h => YeM K0 (by unfold Sta; omega)) (fun n45 => ?_)
      refine Zz7 fun J64 hJ64 => ?_
      have k64 : ∀ b, (b = true ↔ (63744 <= r /\ r <= 65533)) -> J64 b w:=by
       intro b hb; subst hJ64
       refine Yan hb (fun h => ?_) (fun n64 => ?_)
       ·refine Zz7 fun J2 hJ2 => ?_
        subst hJ2
        refine Zz4 (fun h1 => YeM K0 (by unfold Sta; omega)) (fun h1 => leafD K0 (by unfold Sta; omega))
       ·refine Zz7 fun J2 hJ2 => ?_
        subst hJ2
        refine Zz4 (fun h1 => leafD K0 (by unfold Sta; omega)) (fun h1 => leafN K0 (by unfold Sta; omega))
      exact Zz4 (fun h => k64 _ (bD (by omega))) (fun h => k64 _ (bF (by omega)))
     refine Zz7 fun J451 hJ451 => ?_
     have k451 : ∀ b, (b = true ↔ (8304 <= r /\ r <= 8591)) -> J451 b w:=by
      intro b hb; subst hJ451
      refine Yan hb (fun h => k45 _ (by rw [hb]; omega)) (fun n => ?_)
      refine Zz7 fun J452 hJ452 => ?_
      have k452 : ∀ b, (b = true ↔ (11264 <= r /\ r <= 12271)) -> J452 b w:=by
       intro b hb; subst hJ452
       refine Yan hb (fun h => k45 _ (by rw [hb]; omega)) (fun n => ?_)
       exact Zz4 (fun h => k45 _ (bD (by omega))) (fun h => k45 _ (bF (by omega)))
      exact Zz4 (fun h => k452 _ (bD (by omega))) (fun h => k452 _ (bF (by omega)))
     exact Zz4 (fun h => k451 _ (bD (by omega))) (fun h => k451 _ (bF (by omega)))
    exact Zzd (fun h => k40 _ (bQ (by omega))) (fun h => k40 _ (bQ (by omega)))
   exact Zz4 (fun h => k31 _ (bD (by omega))) (fun h => k31 _ (bF (by omega)))
  exact Zz4 (fun h => k18 _ (bD (by omega))) (fun h => k18 _ (bF (by omega)))
 refine Zz7 fun J31 hJ31 => ?_
 have k31 : ∀ b, (b = true ↔ (65 <= r /\ r <= 90)) -> J31 b w:=by
  intro b hb; subst hJ31
  refine Yan hb (fun h => k3 _ (by rw [hb]; omega)) (fun n => ?_)
  refine Zzd (fun h => k3 _ (bQ (by omega))) (fun h => ?_)
  exact Zz4 (fun h => k3 _ (bD (by omega))) (fun h => k3 _ (bF (by omega)))
 exact Zz4 (fun h => k31 _ (bD (by omega))) (fun h => k31 _ (bF (by omega)))
theorem Part_ok {r : Int} {J : Bool -> World -> Prop} (K0 : J (isPt r) w) : Zz0 Tryz.prog Ydx #[.int .i64 r] w [.one .bool] J:=by
 refine c_ref01_Part ?_
 unfold isPt at K0
 refine Zz7 fun J2 hJ2 => ?_
 subst hJ2
 refine Start_ok ?_
 refine Zz9 (fun h => YeM K0 (.inl (of_decide_eq_true h))) (fun hs => ?_)
 have hs : ¬ Sta r:=of_decide_eq_false hs
 rw [prt_pr2 hs] at K0
 repeat' first | refine Zzd (fun _ => ?_) (fun _ => ?_) | refine Zz4 (fun _ => ?_) (fun _ => ?_)
 all_goals first | exact YeM K0 (by unfold Pr2; omega) | exact leafN K0 (by unfold Pr2; omega) | exact leafD K0 (by unfold Pr2; omega) | exact leafQ K0 (by unfold Pr2; omega)
end
end Go.Proofs.YtglnmjflpkeclaaGreatDoor
end
section
namespace Go.Vc
open Go
theorem wrap_u64 (n : Int) : IntKind.u64.wrap n = n % 18446744073709551616:=by unfold IntKind.wrap; simp [IntKind.signed, IntKind.bits]
end Go.Vc
end
section
namespace Go.Vc
open Go Go.RowKit
end Go.Vc
namespace Go.Proofs.YtglnmjflpkeclaaGreatDoor
open Go Go.Vc
theorem zeroC_u8 : Zy2 Tryz.prog Zzs = #[.int .u8 0]:=by kernel_rfl
section
variable {w : World}
theorem cutB {q : Option Addr} {m d : Nat} {b : List UInt8} (h : Bytes w q m b) {i j : Nat} (hij : i <= j) (hj : j <= m) (hd : m <= d) {oi oj : Option Int} (e1 : oi.getD 0 = (i : Int)) (e2 : oj.getD m = (j : Int)) {K : Option Addr -> Nat -> Nat -> Prop}
  (k : ∀ q', Bytes w q' (j - i) ((b.drop i).take (j - i)) -> (q' = none -> j - i = 0) -> K q' (j - i) (d - i)) : slS q m d 1 oi oj none K:=by
 refine slS_sl (i:=i) (j:=j) h e1 e2 hij hj hd fun q' hq _ => ?_
 have hq' : Bytes w q' (j - i) ((b.drop i).take (j - i)):=by
  have e : ((bcells b).drop (i * 1)).take ((j - i) * 1) = bcells ((b.drop i).take (j - i)):=by
   unfold bcells; rw [Nat.mul_one, Nat.mul_one, <- map_drop, <- map_take]
  rw [e] at hq; exact hq
 refine k q' hq' fun h0 => ?_
 by_cases hz : j - i = 0
 ·exact hz
 ·obtain ⟨a, ha, _⟩:=Sl.at hq' hz; rw [h0] at ha; cases ha
end
end Go.Proofs.YtglnmjflpkeclaaGreatDoor
end
section
namespace Go.Proofs.YtglnmjflpkeclaaGreatDoor
open Go Go.Vc Go.Lib
section
variable {w : World}
theorem vld_fail {s : ByteArray} (hs : 0 < s.size) (h : dec (bl s) = (65533, 1)) : vld (bl s) = false :=
 vld_bad (by intro e; have:=Zzn s; rw [e] at this; simp at this; omega) (rd0_of_dec h)
theorem vld_next {s : ByteArray} (hs : 0 < s.size) {r k : Nat} (hk : 2 <= k) (h : dec (bl s) = (r, k)) : vld (bl s) = vld ((bl s).drop k) /\ k <= s.size:=by
 have hne : bl s ≠ []:=by intro e; have:=Zzn s; rw [e] at this; simp at this; omega
 have e:=rd_of_dec h hk
 have hl:=Yfy _ hne
 rw [e, Zzn] at hl
 refine ⟨?_, hl⟩
 rw [YgO hne (by rw [e]; simp only; omega), e]
theorem or_zero {a b c : Nat} (h : (a ||| b) &&& c = 0) : a &&& c = 0 /\ b &&& c = 0:=by
 rw [Nat.and_or_distrib_right] at h
 exact Nat.or_eq_zero_iff.1 h
theorem YdN {l : List UInt8} {a b : Nat} (h1 : ∀ x ∈ l.take a, x.toNat < 128) (h2 : ∀ x ∈ (l.drop a).take b, x.toNat < 128) : ∀ x ∈ l.take (a + b), x.toNat < 128:=by
 intro x hx
 rw [take_add, mem_append] at hx
 rcases hx with h | h
 ·exact h1 x h
 ·exact h2 x h
theorem bAnd_u64 {A : Nat} (hA : A < 18446744073709551616) : Yfr .u64 (A : Int) 9259542123273814144 = ((A &&& 9259542123273814144 : Nat) : Int):=u64_and_nat A 9259542123273814144 hA (by decide)
theorem bOr_u64 {A B : Nat} (hA : A < 18446744073709551616) (hB : B < 18446744073709551616) : bOr .u64 (A : Int) (B : Int) = ((A ||| B : Nat) : Int):=u64_or_nat A B hA hB
set_option maxRecDepth 100000 in
set_option maxHeartbeats 4000000 in
theorem ValidString_ok {s : ByteArray} {J : Bool -> World -> Prop} (T : Tabs w) (K : ∀ w', Chg No w w' -> J (vld (bl s)) w') :
  Zz0 Tryz.prog Zx3 #[.string s] w [.one .bool] J:=by
 refine Ycj ?_
 refine ⟨fun t w' m => Chg No w w' /\ vld (bl t) = vld (bl s) /\ m = t.size /\ t.size <= s.size, ⟨_, Chg.refl _ _, rfl, rfl, Nat.le_refl _⟩, ?_⟩
 rintro t w1 m ⟨hc, hv, rfl, hle⟩
 rw [<- hv] at K
 refine Zz4 (fun hpos => ?_) (fun hpos => ?_)
 rotate_left
 ·have h0 : t.size = 0:=by omega
  have : bl t = []:=eq_nil_of_length_eq_zero (by rw [Zzn]; exact h0)
  rw [this, vld_nil] at K
  exact K w1 hc
 have hp : 0 < t.size:=by omega
 have l0:=YcF (bl t) 0; have l1:=YcF (bl t) 1; have l2:=YcF (bl t) 2; have l3:=YcF (bl t) 3
 refine Zyl (i:=0) hp ?_
 refine Zz4 (fun ha => ?_) (fun ha => ?_)
 · -- below 128: the fast road
  refine Zyw (i:=1) (by omega) fun s1 hs1 z1 => ?_
  refine Zz7 fun J0 hJ0 => ?_
  have go : ∀ (u : ByteArray) (k : Nat) (w2 : World), 1 <= k -> k <= t.size -> bl u = (bl t).drop k -> (∀ b ∈ (bl t).take k, b.toNat < 128) -> Chg No w w2 -> J0 u w2:=by
   intro u k w2 h1 hk he hasc hc2
   subst hJ0
   have hz : u.size = t.size - k:=by rw [<- Zzn, he, length_drop, Zzn]
   exact ⟨u.size, by omega, hc2, by rw [he, <- vld_drop k _ hasc, hv], rfl, by omega⟩
  have a1 : ∀ b ∈ (bl t).take 1, b.toNat < 128:=by
   have hl : 0 < (bl t).length:=by rw [Zzn]; exact hp
   intro b hb
   cases hbt : bl t with
   | nil => rw [hbt] at hl; simp at hl
   | cons x r =>
    rw [hbt] at hb ha
    simp only [take_succ_cons, take_zero, mem_singleton] at hb
    subst hb
    simp only [gB, getD_cons_zero] at ha
    omega
  clear hJ0
  refine Zz7 fun J24 hJ24 => ?_
  have slow : ∀ w2, Chg No w w2 -> J24 false w2:=fun w2 hc2 => by subst hJ24; exact go s1 1 w2 (by omega) (by omega) hs1 a1 hc2
  refine Zz4 (fun h8 => ?_) (fun _ => slow _ hc)
  refine YeZ (by omega) fun A1 lA1 mA1 => ?_
  rw [bAnd_u64 lA1]
  have hcd : Chg No w w1.drew:=hc.drew
  generalize w1.drew = w2 at hcd ⊢
  by_cases hz1 : A1 &&& 9259542123273814144 = 0
  rotate_left
  ·rw [show (((A1 &&& 9259542123273814144 : Nat) : Int) == 0) = false from by simpa using hz1]; exact slow _ hcd
  rw [hz1, show (((0 : Nat) : Int) == 0) = true from rfl]
  clear slow
  subst hJ24
  refine Zz9 (fun _ => ?_) (fun h => by cases h)
  have m1:=mA1 hz1
  rw [hs1] at m1
  have a9:=YdN a1 m1
  refine Zyw (i:=8) (by omega) fun s9 hs9 z9 => ?_
  rw [hs1, drop_drop] at hs9
  refine Zz7 fun J39 hJ39 => ?_
  have slow : ∀ w3, Chg No w w3 -> J39 false w3:=fun w3 hc3 => by subst hJ39; exact go s9 9 w3 (by omega) (by omega) hs9 a9 hc3
  have hcd2 : Chg No w w2.drew:=hcd.drew
  refine Zz4 (fun h16 => ?_) (fun _ => slow _ hcd2)
  refine Zyw (i:=8) (by omega) fun s17 hs17 z17 => ?_
  refine YeZ (by omega) fun A2 lA2 mA2 => ?_
  refine YeZ (by omega) fun A3 lA3 mA3 => ?_
  have hcd3 : Chg No w w2.drew.drew.drew:=hcd2.drew.drew
  rw [bOr_u64 lA2 lA3, bAnd_u64 (Nat.or_lt_two_pow (n:=64) lA2 lA3)]
  generalize w2.drew.drew.drew = w3 at hcd3 ⊢
  by_cases hz2 : (A2 ||| A3) &&& 9259542123273814144 = 0
  rotate_left
  ·rw [show ((((A2 ||| A3) &&& 9259542123273814144 : Nat) : Int) == 0) = false from by simpa using hz2]; exact slow _ hcd3
  rw [hz2, show (((0 : Nat) : Int) == 0) = true from rfl]
  clear slow
  subst hJ39
  refine Zz9 (fun _ => ?_) (fun h => by cases h)
  obtain ⟨q2, q3⟩:=or_zero hz2
  have m2:=mA2 q2
  have m3:=mA3 q3
  rw [hs17] at m3
  rw [hs9] at m2 m3
  have a25:=YdN a9 (YdN m2 m3)
  refine Zyw (i:=16) (by omega) fun s25 hs25 z25 => ?_
  rw [hs9, drop_drop] at hs25
  refine ⟨fun u w' m => ∃ k : Nat, 1 <= k /\ k <= t.size /\ bl u = (bl t).drop k /\ (∀ b ∈ (bl t).take k, b.toNat < 128) /\ Chg No w w' /\ m = u.size, ⟨_, 25, by omega, by omega, hs25, a25, hcd3, rfl⟩, ?_⟩
  rintro u w5 m1 ⟨k, k1, k2, hu, ak, hc5, rfl⟩
  have zu : u.size = t.size - k:=by rw [<- Zzn, hu, length_drop, Zzn]
  refine Zz7 fun J62 hJ62 => ?_
  have slow : ∀ w3, Chg No w w3 -> J62 false w3:=fun w3 hc3 => by subst hJ62; exact go u k w3 k1 k2 hu ak hc3
  refine Zz4 (fun h32 => ?_) (fun _ => slow _ hc5.drew)
  refine Zyw (i:=8) (by omega) fun u8 hu8 zu8 => ?_
  refine Zyw (i:=16) (by omega) fun u16 hu16 zu16 => ?_
  refine Zyw (i:=24) (by omega) fun u24 hu24 zu24 => ?_
  refine YeZ (by omega) fun B1 lB1 mB1 => ?_
  refine YeZ (by omega) fun B2 lB2 mB2 => ?_
  refine YeZ (by omega) fun B3 lB3 mB3 => ?_
  refine YeZ (by omega) fun B4 lB4 mB4 => ?_
  have hcd5 : Chg No w w5.drew.drew.drew.drew.drew:=hc5.drew.drew.drew.drew.drew
  have l12:=Nat.or_lt_two_pow (n:=64) lB1 lB2
  have l34:=Nat.or_lt_two_pow (n:=64) lB3 lB4
  rw [bOr_u64 lB1 lB2, bOr_u64 lB3 lB4, bOr_u64 l12 l34, bAnd_u64 (Nat.or_lt_two_pow (n:=64) l12 l34)]
  generalize w5.drew.drew.drew.drew.drew = w6 at hcd5 ⊢
  by_cases hz3 : ((B1 ||| B2) ||| (B3 ||| B4)) &&& 9259542123273814144 = 0
  rotate_left
  ·rw [show (((((B1 ||| B2) ||| (B3 ||| B4)) &&& 9259542123273814144 : Nat) : Int) == 0) = false from by simpa using hz3]; exact slow _ hcd5
  rw [hz3, show (((0 : Nat) : Int) == 0) = true from rfl]
  clear slow
  subst hJ62
  refine Zz9 (fun _ => ?_) (fun h => by cases h)
  obtain ⟨q12, q34⟩:=or_zero hz3
  obtain ⟨q1, q2⟩:=or_zero q12
  obtain ⟨q3, q4⟩:=or_zero q34
  have n1:=mB1 q1
  have n2:=mB2 q2
  have n3:=mB3 q3
  have n4:=mB4 q4
  rw [hu8] at n2
  rw [hu16] at n3
  rw [hu24] at n4
  have n16:=YdN n1 n2
  have n24:=YdN n16 n3
  have n32:=YdN n24 n4
  rw [hu] at n32
  refine Zyw (i:=32) (by omega) fun u32 hu32 zu32 => ?_
  rw [hu, drop_drop] at hu32
  exact ⟨u32.size, by omega, k + 32, by omega, by omega, hu32, YdN ak n32, hcd5, rfl⟩
 · -- a lead byte
  have hr:=hc.cell (T.1 _ l0) (fun f => f)
  refine Ygv (by omega) (by omega) ?_
  rw [Addr.add_mk, Nat.zero_add, Nat.mul_one, Int.toNat_natCast]
  refine ZxJ hr ?_
  have s256 : firstT (gB (bl t) 0) < 256:=by rcases firstT_cases (gB (bl t) 0) with h | h | h | h | h | h | h | h | h <;> omega
  have s16 : firstT (gB (bl t) 0) / 16 < 16:=by omega
  rw [shr4, and7 s256, Zzb (by omega) (by omega)]
  have hdec : firstT (gB (bl t) 0) < 240 -> dec (bl t) = slowN (bl t).length (gB (bl t) 0) (gB (bl t) 1) (gB (bl t) 2) (gB (bl t) 3) (firstT (gB (bl t) 0) % 8) (accLo (firstT (gB (bl t) 0) / 16)) (accHi (firstT (gB (bl t) 0) / 16)) :=
   fun hx => (slow_eq _ _ _ _ _ (by rw [Zzn]; omega) l1 l2 l3 hx).symm
  have hbad : ¬ firstT (gB (bl t) 0) < 240 -> dec (bl t) = (65533, 1) /\ firstT (gB (bl t) 0) % 8 = 1:=fun hx => by
   rcases firstT_ge hx with h | h
   ·exfalso; unfold firstT at h; repeat' split at h
    all_goals omega
   ·exact ⟨bad_eq _ _ _ _ _ l0 h, by rw [h]⟩
  have hsm : firstT (gB (bl t) 0) < 240 -> firstT (gB (bl t) 0) % 8 <= 4 /\ 2 <= firstT (gB (bl t) 0) % 8:=fun hx => ⟨(Yeo hx).1, (Yeo hx).2.1⟩
  have ht:=T.2 _ s16
  rw [Nat.mul_comm] at ht
  generalize firstT (gB (bl t) 0) = f at *
  refine ⟨by decide, Ygv (by omega) (by omega) ?_⟩
  simp only [Addr.add_mk, Nat.zero_add, Int.toNat_natCast]
  refine ZxJ (hc.cell ht.1 (fun f => f)) (ZxJ (hc.cell ht.2 (fun f => f)) ?_)
  rw [zeroC_acc]
  refine (Hp.start w1 No).newB fun b9 w14 H1 hb9 hc1 => ?_
  refine H1.stN 0 rfl (off:=0) rfl (by decide) (by simp [one1, Value.oneCell']) fun w15 H2 hc2 => ?_
  have hc15 : Chg No w w15:=hc.trans0 (hc1.trans hc2 fun x hx he => by subst he; omega)
  have hcd : Chg No w w15.drew:=hc15.drew
  have H3:=H2.drew
  simp only [splice, take_zero, nil_append, set_cons_zero, length_cons, length_nil, drop_succ_cons, drop_nil, append_nil, Nat.zero_add] at H3
  generalize hwd : w15.drew = w16 at hcd H3 ⊢
  have bad : dec (bl t) = (65533, 1) -> ∀ w', Chg No w w' -> J false w':=fun h w' hc' => by rw [<- vld_fail hp h]; exact K w' hc'
  have good : ∀ (r k : Nat), 2 <= k -> dec (bl t) = (r, k) -> YaO t (some (k : Int)) none fun s' => ∃ m', m' < t.size /\ Chg No w w16 /\ vld (bl s') = vld (bl s) /\ m' = s'.size /\ s'.size <= s.size:=fun r k hk hd => by
   obtain ⟨e1, e2⟩:=vld_next hp hk hd
   exact Zyw e2 fun s' hs' zs' => ⟨s'.size, by omega, hcd, by rw [hs', <- e1, hv], rfl, by omega⟩
  have e2' : (((f % 8 : Nat) : Int) == 2) = decide (f % 8 = 2):=by by_cases h : f % 8 = 2 <;> simp [h] <;> omega
  have e3' : (((f % 8 : Nat) : Int) == 3) = decide (f % 8 = 3):=by by_cases h : f % 8 = 3 <;> simp [h] <;> omega
  have e4' : (((f % 8 : Nat) : Int) == 4) = decide (f % 8 = 4):=by by_cases h : f % 8 = 4 <;> simp [h] <;> omega
  rw [e2', e3', e4']
  by_cases hx : f < 240
  rotate_left
  ·obtain ⟨hb, h1⟩:=hbad hx
   rw [h1]
   exact bad hb _ hc15
  obtain ⟨s4, s2⟩:=hsm hx
  replace hdec:=hdec hx
  clear hbad hsm
  generalize f % 8 = sz at *
  generalize f / 16 = q at *
  rw [Zzn] at hdec
  generalize hg0 : gB (bl t) 0 = g0 at *
  generalize hg1 : gB (bl t) 1 = g1 at *
  generalize hg2 : gB (bl t) 2 = g2 at *
  generalize hg3 : gB (bl t) 3 = g3 at *
  have f0 : t.size < sz -> dec (bl t) = (65533, 1):=fun h => by rw [hdec]; unfold slowN; rw [if_pos h]
  have f1 : ¬ t.size < sz -> (g1 < accLo q \/ accHi q < g1) -> dec (bl t) = (65533, 1):=fun h h1 => by rw [hdec]; unfold slowN; rw [if_neg h, if_pos h1]
  refine Zz4 (fun h2 => ?_) (fun h2 => ?_)
  ·subst h2
   refine Zz7 fun J94 hJ94 => ?_
   have fl : dec (bl t) = (65533, 1) -> J94 true w16:=fun h => by subst hJ94; exact bad h _ hcd
   refine Zz4 (fun hn => fl (f0 (by omega))) (fun hn => ?_)
   refine Zyl (i:=1) (by omega) ?_
   rw [hg1]
   refine H3.ldI 0 rfl (off:=0) rfl ?_
   refine Zz4 (fun hlo => fl (f1 (by omega) (.inl (by omega)))) (fun hlo => ?_)
   refine H3.ldI 0 rfl (off:=1) rfl ?_
   refine Zyl (i:=1) (by omega) ?_
   rw [hg1]
   by_cases hhi : accHi q < g1
   ·rw [decide_eq_true (by omega)]; exact fl (f1 (by omega) (.inr hhi))
   rw [decide_eq_false (by omega)]
   clear fl; subst hJ94
   exact good (g0 % 32 * 64 + g1 % 64) 2 (by decide) (by rw [hdec]; unfold slowN; rw [if_neg (by omega), if_neg (by omega), if_pos (by decide)])
  refine Zz4 (fun h3 => ?_) (fun h3 => ?_)
  ·subst h3
   refine Zz7 fun J125 hJ125 => ?_
   have fl : dec (bl t) = (65533, 1) -> J125 true w16:=fun h => by subst hJ125; exact bad h _ hcd
   have f2 : ¬ t.size < 3 -> ¬ (g1 < accLo q \/ accHi q < g1) -> (g2 < 128 \/ 191 < g2) -> dec (bl t) = (65533, 1):=fun h h1 h2 => by
    rw [hdec]; unfold slowN; rw [if_neg h, if_neg h1, if_neg (by omega), if_pos h2]
   refine Zz4 (fun hn => fl (f0 (by omega))) (fun hn => ?_)
   refine Zyl (i:=1) (by omega) ?_
   rw [hg1]
   refine H3.ldI 0 rfl (off:=0) rfl ?_
   refine Zz4 (fun hlo => fl (f1 (by omega) (.inl (by omega)))) (fun hlo => ?_)
   refine H3.ldI 0 rfl (off:=1) rfl ?_
   refine Zyl (i:=1) (by omega) ?_
   rw [hg1]
   refine Zz4 (fun hhi => fl (f1 (by omega) (.inr (by omega)))) (fun hhi => ?_)
   refine Zyl (i:=2) (by omega) ?_
   rw [hg2]
   refine Zz4 (fun hlo => fl (f2 (by omega) (by omega) (.inl (by omega)))) (fun hlo2 => ?_)
   refine Zyl (i:=2) (by omega) ?_
   rw [hg2]
   by_cases hhi2 : 191 < g2
   ·rw [decide_eq_true (by omega)]; exact fl (f2 (by omega) (by omega) (.inr hhi2))
   rw [decide_eq_false (by omega)]
   clear fl; subst hJ125
   exact good (g0 % 16 * 4096 + g1 % 64 * 64 + g2 % 64) 3 (by decide) (by rw [hdec]; unfold slowN; rw [if_neg (by omega), if_neg (by omega), if_neg (by decide), if_neg (by omega), if_pos (by decide)])
  refine Zz4 (fun h4 => ?_) (fun h4 => by omega)
  subst h4
  refine Zz7 fun J166 hJ166 => ?_
  have fl : dec (bl t) = (65533, 1) -> J166 true w16:=fun h => by subst hJ166; exact bad h _ hcd
  have f2 : ¬ t.size < 4 -> ¬ (g1 < accLo q \/ accHi q < g1) -> (g2 < 128 \/ 191 < g2) -> dec (bl t) = (65533, 1):=fun h h1 h2 => by
   rw [hdec]; unfold slowN; rw [if_neg h, if_neg h1, if_neg (by omega), if_pos h2]
  have f3 : ¬ t.size < 4 -> ¬ (g1 < accLo q \/ accHi q < g1) -> ¬ (g2 < 128 \/ 191 < g2) -> (g3 < 128 \/ 191 < g3) -> dec (bl t) = (65533, 1):=fun h h1 h2 h3 => by
   rw [hdec]; unfold slowN; rw [if_neg h, if_neg h1, if_neg (by omega), if_neg h2, if_neg (by omega), if_pos h3]
  refine Zz4 (fun hn => fl (f0 (by omega))) (fun hn => ?_)
  refine Zyl (i:=1) (by omega) ?_
  rw [hg1]
  refine H3.ldI 0 rfl (off:=0) rfl ?_
  refine Zz4 (fun hlo => fl (f1 (by omega) (.inl (by omega)))) (fun hlo => ?_)
  refine H3.ldI 0 rfl (off:=1) rfl ?_
  refine Zyl (i:=1) (by omega) ?_
  rw [hg1]
  refine Zz4 (fun hhi => fl (f1 (by omega) (.inr (by omega)))) (fun hhi => ?_)
  refine Zyl (i:=2) (by omega) ?_
  rw [hg2]
  refine Zz4 (fun hlo => fl (f2 (by omega) (by omega) (.inl (by omega)))) (fun hlo2 => ?_)
  refine Zyl (i:=2) (by omega) ?_
  rw [hg2]
  refine Zz4 (fun hhi => fl (f2 (by omega) (by omega) (.inr (by omega)))) (fun hhi2 => ?_)
  refine Zyl (i:=3) (by omega) ?_
  rw [hg3]
  refine Zz4 (fun hlo => fl (f3 (by omega) (by omega) (by omega) (.inl (by omega)))) (fun hlo3 => ?_)
  refine Zyl (i:=3) (by omega) ?_
  rw [hg3]
  by_cases hhi3 : 191 < g3
  ·rw [decide_eq_true (by omega)]; exact fl (f3 (by omega) (by omega) (by omega) (.inr hhi3))
  rw [decide_eq_false (by omega)]
  clear fl; subst hJ166
  exact good (g0 % 8 * 262144 + g1 % 64 * 4096 + g2 % 64 * 64 + g3 % 64) 4 (by decide) (by rw [hdec]; unfold slowN; rw [if_neg (by omega), if_neg (by omega), if_neg (by decide), if_neg (by omega), if_neg (by decide), if_neg (by omega)])
end
end Go.Proofs.YtglnmjflpkeclaaGreatDoor
end
section
namespace Go.Proofs.YtglnmjflpkeclaaGreatDoor
open Go Go.Vc
theorem Yck {a b : ByteArray} {w : World} {J : ByteArray -> ByteArray -> Bool -> World -> Prop} (h :
 Zz0 Tryz.prog ZyP #[.string a, .string b] w [.one (.int .i64)] fun c d =>
 Zz1 (decide (c >= (0 : Int))) (
 YaO a none (some c) fun e =>
 YaO a (some (w64 (c + (b.size : Int)))) none fun f =>
 J e f true d.drew) (
 J a ⟨#[]⟩ false d)) : Zz0 Tryz.prog Zqy #[.string a, .string b] w [.one .str, .one .str, .one .bool] J:=Zz3 Tryz.func188 (.s .o (.s (.s .o (.s .o (.c (.s (.d (.take 0 (.take 1 (.take 2 (.take 3 (.take 4 (.take 5 (.take 6 (.take 7 (.take 8 (.take 9 (.take 10 (.take 11 .done))))))))))))) .o) .o))) (.s .o .o))) (Eq.mpr (by kernel_rfl) h)
theorem YbP {a b : ByteArray} {w : World} {J : Int -> World -> Prop} (h :
 Zzf (fun (aj : Bool) (ak : World) =>
 Zz1 aj (
 J (0 : Int) ak) (
 Zz1 ((b.size : Int) == (1 : Int)) (
 Zy6 b (0 : Int) fun c =>
 Zz0 Tryz.prog Zzz #[.string a, .int .u8 c] ak [.one (.int .i64)] fun d e =>
 J d e) (
 Zz1 (decide ((b.size : Int) >= (a.size : Int))) (
 J (-1 : Int) ak) (
 Zzf (fun (al : Bool) (am : World) =>
 Zz1 al (
 extJ Tryz.prog ZxQ #[.string a, .string b] am [.one (.int .i64)] fun f g =>
 J f g) (
 Zy6 b (0 : Int) fun i =>
 Zy6 b (1 : Int) fun j =>
 ∃ a1 : Int -> Int -> World -> Nat -> Prop, (∃ a2, a1 (0 : Int) (0 : Int) am a2) /\ ∀ (an : Int) (ao : Int) (ap : World) (a2 : Nat), a1 an ao ap a2 -> (
 Zz1 (decide (an < (w64 ((w64 ((a.size : Int) - (b.size : Int))) + (1 : Int))))) (
 Zzf (fun (aq : Int) (ar : World) =>
 Zzf (fun (au : Bool) (av : World) =>
 Zz1 au (
 J aq av) (
 Zzf (fun (ax : Bool) (ay : World) =>
 Zz1 ax (
 YaO a (some (w64 (aq + (1 : Int)))) none fun k =>
 extJ Tryz.prog ZxQ #[.string k, .string b] ay [.one (.int .i64)] fun l m =>
 Zz1 (decide (l >= (0 : Int))) (
 J (w64 (l + (w64 (aq + (1 : Int))))) m) (
 J (-1 : Int) m)) (
 Zzf (fun (az : Bool) (a0 : World) =>
 Zz1 az (
 YaO a (some (w64 (aq + (1 : Int)))) none fun n =>
 Zz0 Tryz.prog Zqo #[.string n, .string b] a0 [.one (.int .i64)] fun o p =>
 Zz1 (decide (o < (0 : Int))) (
 J (-1 : Int) p) (
 J (w64 ((w64 (aq + (1 : Int))) + o)) p)) (
 ∃ a3, a3 < a2 /\ a1 (w64 (aq + (1 : Int))) (w64 (ao + (1 : Int))) a0 a3)) fun q =>
 ldI .i64 ay ⟨0, 0, none⟩ fun r =>
 Zz1 (decide ((b.size : Int) > r)) (
 0 <= (4 : Int) /\
 Zz1 (decide ((w64 (ao + (1 : Int))) >= (w64 ((4 : Int) + (Ya3 .i64 (w64 (aq + (1 : Int))) (4 : Int)))))) (
 q (decide ((w64 (aq + (1 : Int))) < (w64 ((w64 ((a.size : Int) - (b.size : Int))) + (1 : Int))))) ay) (
 q false ay)) (
 q false ay))) fun s =>
 ldI .i64 av ⟨0, 0, none⟩ fun t =>
 Zz1 (decide ((b.size : Int) <= t)) (
 Zz0 Tryz.prog Yc6 #[.int .i64 (w64 (aq + (1 : Int)))] av [.one (.int .i64)] fun u v =>
 s (decide ((w64 (ao + (1 : Int))) > u)) v) (
 s false av))) fun x =>
 Zy6 a (w64 (aq + (1 : Int))) fun y =>
 Zz1 (y == j) (
 YaO a (some aq) (some (w64 (aq + (b.size : Int)))) fun z =>
 x (z.toList == b.toList) ar) (
 x false ar)) fun aa =>
 Zy6 a an fun ab =>
 Zz1 (ab != i) (
 YaO a (some (w64 (an + (1 : Int)))) (some (w64 ((w64 ((a.size : Int) - (b.size : Int))) + (1 : Int)))) fun ac =>
 Zz0 Tryz.prog Zzz #[.string ac, .int .u8 i] ap [.one (.int .i64)] fun ad ae =>
 Zz1 (decide (ad < (0 : Int))) (
 J (-1 : Int) ae) (
 aa (w64 (an + (w64 (ad + (1 : Int))))) ae)) (
 aa an ap)) (
 J (-1 : Int) ap)))) fun af =>
 ldI .i64 ak ⟨0, 0, none⟩ fun ag =>
 Zz1 (decide ((b.size : Int) <= ag)) (
 af (decide ((a.size : Int) <= (64 : Int))) ak) (
 af false ak))))) fun ai =>
 Zz1 ((b.size : Int) == (0 : Int)) (
 ai true w) (
 ai (b.toList == a.toList) w)) : Zz0 Tryz.prog ZyP #[.string a, .string b] w [.one (.int .i64)] J:=Zz3 Tryz.func164 (.s .o (.s .o (.s (.b (.j [(16, .bool)] .o (.c (.s .o .o) (.s .o (.c (.s .o .o) (.s .o (.c (.s .o .o) (.j [(36, .bool)] .o (.c (.s .o .o) .o))))))))) (.s .o (.s .o (.s .o (.s .o (.s .o (.s (.b (.l [(8, .int .i64), (10, .int .i64)] (.s (.s .o (.c .o .o)) (.b (.j [(8, .int .i64)] (.s .o (.c (.s .o (.s (.s .o (.c (.s .o .o) .o)) .o)) .o)) (.s (.j [(93, .bool)] .o (.c (.s .o .o) .o)) (.s .o (.s .o (.j [(107, .bool)] .o (.c (.s .o (.s (.s .o (.c (.s .o .o) .o)) (.s .o .o))) (.j [(132, .bool)] .o (.c (.s .o (.s (.s .o (.c (.s .o .o) .o)) (.s .o .o))) .o)))))))))))) (.s .o .o)))))))))) (Eq.mpr (by kernel_rfl) h)
theorem ZxH {a : ByteArray} {b : Int} {w : World} {J : Int -> World -> Prop} (h :
 extJ Tryz.prog Zye #[.string a, .int .u8 b] w [.one (.int .i64)] fun c d =>
 J c d) : Zz0 Tryz.prog Zzz #[.string a, .int .u8 b] w [.one (.int .i64)] J:=Zz3 Tryz.func143 (.s .o (.s .o .o)) (Eq.mpr (by kernel_rfl) h)
theorem c_strings_Cut {a b : ByteArray} {w : World} {J : ByteArray -> ByteArray -> Bool -> World -> Prop} (h :
 Zz0 Tryz.prog Zqy #[.string a, .string b] w [.one .str, .one .str, .one .bool] fun c d e f =>
 J c d e f) : Zz0 Tryz.prog YcK #[.string a, .string b] w [.one .str, .one .str, .one .bool] J:=Zz3 Tryz.func157 (.s .o (.s .o .o)) (Eq.mpr (by kernel_rfl) h)
end Go.Proofs.YtglnmjflpkeclaaGreatDoor
end
section
namespace Go.Vc
open Go
def Ybx (g : Nat -> Nat) (base : Nat) : Nat -> Nat
 | 0 => g 0 - base
 | k + 1 => 64 * Ybx g base k + (g (k + 1) - 128)
theorem Yee (g : Nat -> Nat) (base k : Nat) : Ybx g base (k + 1) = 64 * Ybx g base k + (g (k + 1) - 128):=rfl
theorem runV_zero (g : Nat -> Nat) (base : Nat) : Ybx g base 0 = g 0 - base:=rfl
theorem rv1 (g : Nat -> Nat) (base : Nat) : Ybx g base 1 = 64 * (g 0 - base) + (g 1 - 128):=by rw [Yee, runV_zero]
theorem rv2 (g : Nat -> Nat) (base : Nat) : Ybx g base 2 = 64 * (64 * (g 0 - base) + (g 1 - 128)) + (g 2 - 128):=by rw [Yee, rv1]
theorem rv3 (g : Nat -> Nat) (base : Nat) : Ybx g base 3 = 64 * (64 * (64 * (g 0 - base) + (g 1 - 128)) + (g 2 - 128)) + (g 3 - 128):=by rw [Yee, rv2]
theorem runV_le (g : Nat -> Nat) (base : Nat) (h : ∀ j, g j < 256) (k : Nat) : Ybx g base k + 3 <= 300 * 64 ^ k:=by
 induction k with
 | zero =>
  have h0:=h 0
  have e : Ybx g base 0 = g 0 - base:=rfl
  rw [e]
  generalize g 0 = x at *
  have : 300 * 64 ^ 0 = 300:=rfl
  omega
 | succ k ih =>
  have h1:=h (k + 1)
  have e : 64 ^ (k + 1) = 64 ^ k * 64:=Nat.pow_succ _ _
  rw [e, Yee]
  generalize 64 ^ k = q at *
  omega
def nxt (bs : List UInt8) (at_ : Int) : Int × Int × Int :=
 if at_ < 0 \/ (bs.length : Int) <= at_ then (0, 0, 1) else if (rd (bs.drop at_.toNat)).2 = 0 then (0, 0, 20)
 else if chr (rd (bs.drop at_.toNat)).1 = false then (0, 0, 21) else ((rd (bs.drop at_.toNat)).1, at_ + (rd (bs.drop at_.toNat)).2, 0)
set_option maxRecDepth 100000 in
theorem rd_form {D : List UInt8} {n base least : Nat}
  (h : (n = 2 /\ base = 192 /\ least = 128 /\ 192 <= gB D 0 /\ gB D 0 < 224) \/ (n = 3 /\ base = 224 /\ least = 2048 /\ 224 <= gB D 0 /\ gB D 0 < 240) \/ (n = 4 /\ base = 240 /\ least = 65536 /\ 240 <= gB D 0 /\ gB D 0 < 248)) :
  (n <= D.length /\ (∀ j, 1 <= j -> j < n -> 128 <= gB D j /\ gB D j <= 191) /\ least <= Ybx (gB D) base (n - 1) /\ Ybx (gB D) base (n - 1) <= 1114111 /\ ¬ (55296 <= Ybx (gB D) base (n - 1) /\ Ybx (gB D) base (n - 1) <= 57343) /\ rd D = (Ybx (gB D) base (n - 1), n))
  \/ (¬ (n <= D.length /\ (∀ j, 1 <= j -> j < n -> 128 <= gB D j /\ gB D j <= 191) /\ least <= Ybx (gB D) base (n - 1) /\ Ybx (gB D) base (n - 1) <= 1114111 /\ ¬ (55296 <= Ybx (gB D) base (n - 1) /\ Ybx (gB D) base (n - 1) <= 57343)) /\ rd D = (0, 0)):=by
 have l1:=YcF D 1; have l2:=YcF D 2; have l3:=YcF D 3
 have key : ∀ (n' b' l' : Nat), n = n' -> base = b' -> least = l' -> (n' <= D.length /\ (∀ j, 1 <= j -> j < n' -> 128 <= gB D j /\ gB D j <= 191) /\ l' <= Ybx (gB D) b' (n' - 1) /\ Ybx (gB D) b' (n' - 1) <= 1114111 /\ ¬ (55296 <= Ybx (gB D) b' (n' - 1) /\ Ybx (gB D) b' (n' - 1) <= 57343) /\ rd D = (Ybx (gB D) b' (n' - 1), n'))
  \/ (¬ (n' <= D.length /\ (∀ j, 1 <= j -> j < n' -> 128 <= gB D j /\ gB D j <= 191) /\ l' <= Ybx (gB D) b' (n' - 1) /\ Ybx (gB D) b' (n' - 1) <= 1114111 /\ ¬ (55296 <= Ybx (gB D) b' (n' - 1) /\ Ybx (gB D) b' (n' - 1) <= 57343)) /\ rd D = (0, 0)) ->
  (n <= D.length /\ (∀ j, 1 <= j -> j < n -> 128 <= gB D j /\ gB D j <= 191) /\ least <= Ybx (gB D) base (n - 1) /\ Ybx (gB D) base (n - 1) <= 1114111 /\ ¬ (55296 <= Ybx (gB D) base (n - 1) /\ Ybx (gB D) base (n - 1) <= 57343) /\ rd D = (Ybx (gB D) base (n - 1), n))
  \/ (¬ (n <= D.length /\ (∀ j, 1 <= j -> j < n -> 128 <= gB D j /\ gB D j <= 191) /\ least <= Ybx (gB D) base (n - 1) /\ Ybx (gB D) base (n - 1) <= 1114111 /\ ¬ (55296 <= Ybx (gB D) base (n - 1) /\ Ybx (gB D) base (n - 1) <= 57343)) /\ rd D = (0, 0)):=by
  intro n' b' l' e1 e2 e3 hh; subst e1 e2 e3; exact hh
 refine h.elim (fun h => key _ _ _ h.1 h.2.1 h.2.2.1 ?_) (fun h => h.elim (fun h => key _ _ _ h.1 h.2.1 h.2.2.1 ?_) (fun h => key _ _ _ h.1 h.2.1 h.2.2.1 ?_)) <;> clear key <;> have h1:=h.2.2.2.1 <;> have h2:=h.2.2.2.2 <;> clear h
 ·have e : (∀ j, 1 <= j -> j < 2 -> 128 <= gB D j /\ gB D j <= 191) ↔ (128 <= gB D 1 /\ gB D 1 <= 191):=⟨fun h => h 1 (by omega) (by omega), fun h j a b => by rw [show j = 1 by omega]; exact h⟩
  rw [e, show 2 - 1 = 1 from rfl, rv1]
  unfold rd rdN
  rw [if_neg (by omega), if_neg (by omega), if_pos h2]
  obtain ⟨v, hv⟩ : ∃ v, 64 * (gB D 0 - 192) + (gB D 1 - 128) = v:=⟨_, rfl⟩
  rw [hv]
  split
  ·left; refine ⟨?_, ?_, ?_, ?_, ?_, rfl⟩ <;> omega
  ·right; refine ⟨?_, rfl⟩; omega
 ·have e : (∀ j, 1 <= j -> j < 3 -> 128 <= gB D j /\ gB D j <= 191) ↔ ((128 <= gB D 1 /\ gB D 1 <= 191) /\ (128 <= gB D 2 /\ gB D 2 <= 191)) :=
   ⟨fun h => ⟨h 1 (by omega) (by omega), h 2 (by omega) (by omega)⟩, fun h j a b => by
    have : j = 1 \/ j = 2:=by omega
    rcases this with rfl | rfl
    ·exact h.1
    ·exact h.2⟩
  rw [e, show 3 - 1 = 2 from rfl, rv2]
  unfold rd rdN
  rw [if_neg (by omega), if_neg (by omega), if_neg (by omega), if_pos h2]
  obtain ⟨v, hv⟩ : ∃ v, 64 * (64 * (gB D 0 - 224) + (gB D 1 - 128)) + (gB D 2 - 128) = v:=⟨_, rfl⟩
  rw [hv]
  split
  ·left; refine ⟨?_, ?_, ?_, ?_, ?_, rfl⟩ <;> omega
  ·right; refine ⟨?_, rfl⟩; omega
 ·have e : (∀ j, 1 <= j -> j < 4 -> 128 <= gB D j /\ gB D j <= 191) ↔ ((128 <= gB D 1 /\ gB D 1 <= 191) /\ (128 <= gB D 2 /\ gB D 2 <= 191) /\ (128 <= gB D 3 /\ gB D 3 <= 191)) :=
   ⟨fun h => ⟨h 1 (by omega) (by omega), h 2 (by omega) (by omega), h 3 (by omega) (by omega)⟩, fun h j a b => by
    have : j = 1 \/ j = 2 \/ j = 3:=by omega
    rcases this with rfl | rfl | rfl
    ·exact h.1
    ·exact h.2.1
    ·exact h.2.2⟩
  rw [e, show 4 - 1 = 3 from rfl, rv3]
  unfold rd rdN
  rw [if_neg (by omega), if_neg (by omega), if_neg (by omega), if_neg (by omega), if_pos h2]
  obtain ⟨v, hv⟩ : ∃ v, 64 * (64 * (64 * (gB D 0 - 240) + (gB D 1 - 128)) + (gB D 2 - 128)) + (gB D 3 - 128) = v:=⟨_, rfl⟩
  rw [hv]
  split
  ·left; refine ⟨?_, ?_, ?_, ?_, ?_, rfl⟩ <;> omega
  ·right; refine ⟨?_, rfl⟩; omega
end Go.Vc
namespace Go.Proofs.YtglnmjflpkeclaaGreatDoor
open Go Go.Vc Go.Lib
section
variable {w : World}
set_option maxRecDepth 100000 in
theorem Read_ok {p : Option Addr} {l c i0 : Nat} {bs : List UInt8} {J : Int -> Int -> World -> Prop} (h : Bytes w p l bs) (hi0 : i0 < l) (hm : l <= 140737488355328)
  (K : J ((rd (bs.drop i0)).1 : Int) ((rd (bs.drop i0)).2 : Int) w) : Zz0 Tryz.prog Ydw #[.slice p l c, .int .i64 (i0 : Int)] w [.one (.int .i64), .one (.int .i64)] J:=by
 refine c_ref01_Read ?_
 have hbl:=h.len
 have hD : (bs.drop i0).length = l - i0:=by rw [length_drop, hbl]
 have gat : ∀ (j : Nat) (b : UInt8), bs[i0 + j]? = some b -> gB (bs.drop i0) j = b.toNat:=fun j b hb => by rw [gB_drop]; exact YhE hb
 generalize hDg : bs.drop i0 = D at *
 have lt:=fun j => YcF D j
 refine Ycb h (by omega) (by omega) fun b0 hb0 => ?_
 rw [Int.toNat_natCast] at hb0
 rw [<- gat 0 b0 hb0]
 have l0:=lt 0
 rw [Zzb (by omega) (by omega)]
 have K0 : rd D = (0, 0) -> J 0 0 w:=fun e => by rw [e] at K; exact K
 refine Zz7 fun J7 hJ7 => ?_
 have k7 : ∀ (n base least : Nat), ((n = 2 /\ base = 192 /\ least = 128 /\ 192 <= gB D 0 /\ gB D 0 < 224) \/ (n = 3 /\ base = 224 /\ least = 2048 /\ 224 <= gB D 0 /\ gB D 0 < 240) \/ (n = 4 /\ base = 240 /\ least = 65536 /\ 240 <= gB D 0 /\ gB D 0 < 248)) ->
   J7 (n : Int) (w64 ((gB D 0 : Int) - base)) (least : Int) w:=by
  intro n base least hcase
  have hf:=rd_form hcase
  have hn : 2 <= n /\ n <= 4:=by omega
  have hb : base <= gB D 0:=by omega
  have hbig : least <= 65536:=by omega
  clear hcase
  subst hJ7
  dsimp only
  rw [Zzb (n:=(i0 : Int) + n) (by omega) (by omega), Zzb (n:=(gB D 0 : Int) - base) (by omega) (by omega)]
  refine Zz4 (fun hlong => K0 ?_) (fun hlong => ?_)
  ·rcases hf with hf | hf
   ·omega
   ·exact hf.2
  have hr0 : (gB D 0 : Int) - base = ((Ybx (gB D) base 0 : Nat) : Int):=by rw [runV_zero]; omega
  refine ⟨fun r i w' m => w' = w /\ ∃ k : Nat, i = (k + 1 : Nat) /\ k + 1 <= n /\ m = n - k /\ (∀ j, 1 <= j -> j <= k -> 128 <= gB D j /\ gB D j <= 191) /\ r = ((Ybx (gB D) base k : Nat) : Int),
   ⟨_, rfl, 0, rfl, by omega, rfl, fun j a b => absurd (Nat.le_trans a b) (by decide), hr0⟩, ?_⟩
  rintro r i w' m ⟨rfl, k, rfl, hk, rfl, hC, rfl⟩
  have hV:=runV_le (gB D) base lt k
  have hV3 : 64 ^ k <= 64 ^ 3:=Nat.pow_le_pow_right (by decide) (by omega)
  refine Zz4 (fun hlt => ?_) (fun hlt => ?_)
  ·rw [Zzb (n:=(i0 : Int) + ((k + 1 : Nat) : Int)) (by omega) (by omega)]
   refine Ycb h (by omega) (by omega) fun b hb' => ?_
   rw [show ((i0 : Int) + ((k + 1 : Nat) : Int)).toNat = i0 + (k + 1) by omega] at hb'
   rw [<- gat (k + 1) b hb']
   have lk:=lt (k + 1)
   rw [Zzb (n:=((gB D (k + 1) : Nat) : Int)) (by omega) (by omega)]
   refine Zz7 fun J72 hJ72 => ?_
   have bad : ¬ (128 <= gB D (k + 1) /\ gB D (k + 1) <= 191) -> J72 true w':=fun hbad => by
    subst hJ72
    refine K0 ?_
    rcases hf with hf | hf
    ·exact absurd (hf.2.1 (k + 1) (by omega) (by omega)) hbad
    ·exact hf.2
   refine Zz4 (fun hlo => bad (by omega)) (fun hlo => ?_)
   by_cases hhi : gB D (k + 1) > 191
   ·rw [decide_eq_true (by omega)]; exact bad (by omega)
   rw [decide_eq_false (by omega)]
   clear bad
   subst hJ72
   refine ⟨n - (k + 1), by omega, rfl, k + 1, ?_, by omega, rfl, fun j a b => ?_, ?_⟩
   ·rw [Zzb] <;> omega
   ·by_cases hj : j = k + 1
    ·subst hj; omega
    ·exact hC j a (by omega)
   ·rw [Yee]
    rw [Zzb (n:=64 * ((Ybx (gB D) base k : Nat) : Int)) (by omega) (by omega), Zzb (n:=64 * ((Ybx (gB D) base k : Nat) : Int) + ((gB D (k + 1) : Nat) : Int)) (by omega) (by omega), Zzb (by omega) (by omega)]
    omega
  ·have hkn : k + 1 = n:=by omega
   subst hkn
   have hC' : ∀ j, 1 <= j -> j < k + 1 -> 128 <= gB D j /\ gB D j <= 191:=fun j a b => hC j a (by omega)
   have hlen : k + 1 <= D.length:=by omega
   simp only [Nat.add_sub_cancel] at hf
   refine Zz7 fun J92 hJ92 => ?_
   have bad : ¬ (least <= Ybx (gB D) base k /\ Ybx (gB D) base k <= 1114111 /\ ¬ (55296 <= Ybx (gB D) base k /\ Ybx (gB D) base k <= 57343)) -> J92 true w':=fun hbad => by
    subst hJ92
    refine K0 ?_
    rcases hf with hf | hf
    ·exact absurd ⟨hf.2.2.1, hf.2.2.2.1, hf.2.2.2.2.1⟩ hbad
    ·exact hf.2
   have good : least <= Ybx (gB D) base k -> Ybx (gB D) base k <= 1114111 -> ¬ (55296 <= Ybx (gB D) base k /\ Ybx (gB D) base k <= 57343) -> J92 false w':=fun a1 a2 a3 => by
    subst hJ92
    rcases hf with hf | hf
    ·rw [hf.2.2.2.2.2] at K; exact K
    ·exact absurd ⟨hlen, hC', a1, a2, a3⟩ hf.1
   refine Zz4 (fun h1 => bad (by omega)) (fun h1 => ?_)
   refine Zz4 (fun h2 => bad (by omega)) (fun h2 => ?_)
   refine Zz4 (fun h3 => ?_) (fun h3 => good (by omega) (by omega) (by omega))
   by_cases h4 : Ybx (gB D) base k <= 57343
   ·rw [decide_eq_true (by omega)]; exact bad (by omega)
   ·rw [decide_eq_false (by omega)]; exact good (by omega) (by omega) (by omega)
 clear hJ7
 refine Zz4 (fun ha => ?_) (fun ha => ?_)
 ·have e : rd D = (gB D 0, 1):=rd_ascii D (by omega)
  rw [e] at K; exact K
 refine Zz7 fun J22 hJ22 => ?_
 have k22 : ∀ b, (b = true ↔ (192 <= gB D 0 /\ gB D 0 < 224)) -> J22 b w:=by
  intro b hb; subst hJ22
  refine Yan hb (fun hh => k7 2 192 128 (by omega)) (fun n22 => ?_)
  refine Zz7 fun J31 hJ31 => ?_
  have k31 : ∀ b, (b = true ↔ (224 <= gB D 0 /\ gB D 0 < 240)) -> J31 b w:=by
   intro b hb; subst hJ31
   refine Yan hb (fun hh => k7 3 224 2048 (by omega)) (fun n31 => ?_)
   refine Zz7 fun J40 hJ40 => ?_
   have k40 : ∀ b, (b = true ↔ (240 <= gB D 0 /\ gB D 0 < 248)) -> J40 b w:=by
    intro b hb; subst hJ40
    refine Yan hb (fun hh => k7 4 240 65536 (by omega)) (fun n40 => K0 ?_)
    unfold rd rdN
    repeat' split
    all_goals first | rfl | (exfalso; omega)
   exact Zz4 (fun hh => k40 _ (bD (by omega))) (fun hh => k40 _ (bF (by omega)))
  exact Zz4 (fun hh => k31 _ (bD (by omega))) (fun hh => k31 _ (bF (by omega)))
 exact Zz4 (fun hh => k22 _ (bD (by omega))) (fun hh => k22 _ (bF (by omega)))
theorem Next_ok {p : Option Addr} {l c : Nat} {at_ : Int} {bs : List UInt8} {J : Int -> Int -> Int -> World -> Prop} (h : Bytes w p l bs) (hlc : l <= c) (hm : l <= 140737488355328) (T : Tabs w)
  (K : ∀ w', Chg No w w' -> J (nxt bs at_).1 (nxt bs at_).2.1 (nxt bs at_).2.2 w') : Zz0 Tryz.prog Ycx #[.slice p l c, .int .i64 at_] w [.one (.int .i32), .one (.int .i64), .one (.int .i64)] J:=by
 refine c_char_Next ?_
 have hbl:=h.len
 refine Zz7 fun J16 hJ16 => ?_
 have k16 : ∀ b, (b = true ↔ (at_ < 0 \/ (bs.length : Int) <= at_)) -> J16 b w:=by
  intro b hb; subst hJ16
  refine Yan hb (fun hh => ?_) (fun hin => ?_)
  ·have:=K w (Chg.refl _ _); unfold nxt at this; simp only [if_pos hh] at this; exact this
  unfold nxt at K
  simp only [if_neg hin] at K
  obtain ⟨i, rfl⟩ : ∃ i : Nat, at_ = i:=⟨at_.toNat, by omega⟩
  simp only [Int.toNat_natCast] at K
  refine cutB h (i:=i) (j:=l) (by omega) (Nat.le_refl _) hlc rfl rfl fun q' hq hq0 => ?_
  rw [take_of_length_le (by rw [length_drop]; omega)] at hq
  refine YfU hq (by omega) T fun w2 hc2 => ?_
  have hne : bs.drop i ≠ []:=by intro e; have:=congrArg length e; rw [length_drop] at this; simp at this; omega
  have h4:=rd_four (bs.drop i)
  generalize bs.drop i = D at *
  by_cases hk : (rd D).2 = 0
  ·have hd : dec D = (65533, 1):=by rw [YeV, if_pos hk]
   have K':=K w2 hc2
   rw [if_pos hk] at K'
   rw [hd]
   refine Zz7 fun J24 hJ24 => ?_
   have go : J24 true w2:=by subst hJ24; exact K'
   exact go
  ·rw [dec_of_rd hk]
   refine Zz7 fun J24 hJ24 => ?_
   have hnf : J24 false w2:=by
    subst hJ24
    refine IsChar_ok fun w4 hc4 => ?_
    have K':=K w4 (hc2.trans0 hc4)
    rw [if_neg hk] at K'
    refine Zzm (fun he => ?_) (fun he => ?_)
    ·rw [if_pos he] at K'; exact K'
    ·rw [if_neg (by rw [he]; simp)] at K'
     simp only at K'
     rw [Zzb (by omega) (by omega)]
     exact K'
   clear hJ24
   refine Zzd (fun he => ?_) (fun _ => hnf)
   have:=rd_fffd D (by omega)
   rw [decide_eq_false (by omega)]; exact hnf
 clear hJ16
 exact Zz4 (fun hh => k16 _ (bT (by omega))) (fun hh => k16 _ (bD (by omega)))
theorem FaultC_ok {p : Option Addr} {l c : Nat} {bs : List UInt8} {J : Int -> Int -> World -> Prop} (h : Bytes w p l bs) (hlc : l <= c) (hm : l <= 140737488355328) (T : Tabs w)
  (K : ∀ w', Chg No w w' -> J ((flt 0 bs).1 : Int) ((flt 0 bs).2 : Int) w') : Zz0 Tryz.prog YbL #[.slice p l c] w [.one (.int .i64), .one (.int .i64)] J:=by
 refine c_char_Fault ?_
 have hbl:=h.len
 refine ⟨fun x w' m => ∃ i : Nat, x = i /\ i <= l /\ m = l - i /\ Chg No w w' /\ flt i (bs.drop i) = flt 0 bs, ⟨_, 0, rfl, Nat.zero_le _, rfl, Chg.refl _ _, rfl⟩, ?_⟩
 rintro x w' m ⟨i, rfl, hi, rfl, hc, he⟩
 refine Zz4 (fun hlt => ?_) (fun hlt => ?_)
 ·refine Next_ok (h.chg hc (off_no _)) hlc hm (T.chg hc) fun w2 hc2 => ?_
  have hcc:=hc.trans0 hc2
  have hne : bs.drop i ≠ []:=by intro e; have:=congrArg length e; rw [length_drop] at this; simp at this; omega
  have hle:=Yfy _ hne
  rw [length_drop, hbl] at hle
  have en : ¬ ((i : Int) < 0 \/ (bs.length : Int) <= (i : Int)):=by omega
  unfold nxt
  simp only [if_neg en, Int.toNat_natCast]
  by_cases hk : (rd (bs.drop i)).2 = 0
  ·rw [if_pos hk]
   have e:=YhG (i:=i) hne hk
   rw [<- he, e] at K
   exact K _ hcc
  rw [if_neg hk]
  cases hch : chr (rd (bs.drop i)).1 with
  | false =>
   rw [if_pos rfl]
   have e:=Ygb (i:=i) hne hk hch
   rw [<- he, e] at K
   exact K _ hcc
  | true =>
   rw [if_neg (by simp)]
   refine ⟨l - (i + (rd (bs.drop i)).2), by omega, i + (rd (bs.drop i)).2, by simp, by omega, rfl, hcc, ?_⟩
   rw [<- he, YbM hne hk hch, drop_drop]
 ·have : i = l:=by omega
  subst this
  rw [drop_of_length_le (by omega), Yga] at he
  rw [<- he] at K
  exact K _ hc
end
end Go.Proofs.YtglnmjflpkeclaaGreatDoor
namespace Go.Vc
open Go Go.Lib
theorem setBlk_at {w : World} {b : Nat} {o : Obj} (h : b < w.heap.size) : (setBlk w b o).heap[b]? = some o:=by
 unfold setBlk; simp [h]
theorem YhC : ∀ l : List UInt8, indexByte l 58 = match colon l with | none => -1 | some i => (i : Int)
 | [] => by simp [indexByte, colon]
 | b :: r => by
  unfold indexByte colon
  by_cases h : b = 58
  ·subst h; simp
  ·have ih:=YhC r
   rw [if_neg h, if_neg (by simpa using h)]
   cases hc : colon r with
   | none => rw [hc] at ih; simp only at ih; simp [ih]
   | some i => rw [hc] at ih; simp only at ih; simp [ih]
theorem Yeq {bs : List UInt8} {i : Nat} (h : i < bs.length) : bs.drop i ≠ []:=by
 intro e; have:=congrArg length e; rw [length_drop] at this; simp at this; omega
def nmAt (bs : List UInt8) (i : Nat) : Bool:=if i = 0 then isSt (rd bs).1 && prt bs else prt (bs.drop i)
theorem nmAt_end {bs : List UInt8} (h : bs ≠ []) : nmAt bs bs.length = true:=by
 unfold nmAt
 rw [if_neg (by have:=length_pos_iff.2 h; omega), drop_of_length_le (Nat.le_refl _), Yg2]
theorem nmAt_step {bs : List UInt8} {i : Nat} (h : i < bs.length) (hk : (rd (bs.drop i)).2 ≠ 0) (hp : isPt (rd (bs.drop i)).1 = true) (hs : i = 0 -> isSt (rd (bs.drop i)).1 = true) : nmAt bs i = nmAt bs (i + (rd (bs.drop i)).2):=by
 have e : prt (bs.drop i) = prt (bs.drop (i + (rd (bs.drop i)).2)):=by rw [Yby (Yeq h) hk, hp, Bool.true_and, drop_drop]
 unfold nmAt
 rw [if_neg (show ¬ i + (rd (bs.drop i)).2 = 0 by omega), <- e]
 split
 ·next h0 => subst h0; have:=hs rfl; rw [drop_zero] at this ⊢; rw [this, Bool.true_and]
 ·rfl
theorem nmAt_bad {bs : List UInt8} {i : Nat} (h : i < bs.length) (hk : (rd (bs.drop i)).2 = 0) : nmAt bs i = false:=by
 unfold nmAt
 split
 ·next h0 => subst h0; rw [drop_zero] at hk; rw [Yeg (by intro e; rw [e] at h; simp at h) hk, Bool.and_false]
 ·exact Yeg (Yeq h) hk
theorem nmAt_part {bs : List UInt8} {i : Nat} (h : i < bs.length) (hp : isPt (rd (bs.drop i)).1 = false) : nmAt bs i = false:=by
 by_cases hk : (rd (bs.drop i)).2 = 0
 ·exact nmAt_bad h hk
 have e : prt (bs.drop i) = false:=by rw [Yby (Yeq h) hk, hp, Bool.false_and]
 unfold nmAt
 split
 ·next h0 => subst h0; rw [drop_zero] at e; rw [e, Bool.and_false]
 ·exact e
theorem nmAt_start {bs : List UInt8} (hs : isSt (rd (bs.drop 0)).1 = false) : nmAt bs 0 = false:=by
 unfold nmAt
 rw [drop_zero] at hs
 rw [if_pos rfl, hs, Bool.false_and]
theorem nm_at (bs : List UInt8) : nm bs = (decide (bs ≠ []) && decide (bs.length <= 100) && nmAt bs 0):=by
 unfold nm nmAt
 rw [if_pos rfl, Bool.and_assoc (decide _ && decide _)]
end Go.Vc
namespace Go.Proofs.YtglnmjflpkeclaaGreatDoor
open Go Go.Vc Go.Lib
section
variable {w : World}
theorem cvB {s : ByteArray} {K : Option Addr -> Nat -> Nat -> World -> Prop} (k : ∀ b c w', Bytes w' (some ⟨b, 0, none⟩) s.size (bl s) -> w.heap.size <= b -> Chg No w w' -> K (some ⟨b, 0, none⟩) s.size c w') :
    cvJ Tryz.prog Zz8 Zzj (.string s) w K:=by
  refine ⟨_, _, _, _, Lib.run_convert_string_bytes (P:=Tryz.prog) w Zz8 Zzj Zzs s (u := .string) (by kernel_rfl) (by kernel_rfl) (by kernel_rfl), k _ _ _ ⟨by rw [Zyc, Zzn, Nat.mul_one], .inr ⟨_, rfl, ?_⟩⟩ (Nat.le_refl _) ?_⟩
  · intro j v hv
    unfold bcells at hv
    rw [List.getElem?_map, Option.map_eq_some_iff] at hv
    obtain ⟨b, hb, rfl⟩:=hv
    have hj : j < s.size:=by rw [<- Zzn]; exact (List.getElem?_eq_some_iff.1 hb).1
    have:=Lib.bytesWorld_cell w Zzs s j hj
    rw [Addr.add_mk, Nat.zero_add, this, List.getD_eq_getElem?_getD, hb]; rfl
  · exact ⟨rfl, rfl, rfl, by rw [Lib.bytesWorld_size]; omega, fun b hb _ => Lib.bytesWorld_at_old w Zzs s b hb⟩
set_option maxRecDepth 100000 in
theorem YeK {s : ByteArray} {J : Bool -> World -> Prop} (T : Tabs w) (K : ∀ w', Chg No w w' -> J (nm (bl s)) w') : Zz0 Tryz.prog Zq6 #[.string s] w [.one .bool] J:=by
 refine c_char_Name ?_
 refine Zz7 fun J16 hJ16 => ?_
 have k16 : ∀ b w1, Chg No w w1 -> (b = true ↔ (bl s = [] \/ 100 < s.size \/ vld (bl s) = false)) -> J16 b w1:=by
  intro b w1 hc1 hb; subst hJ16
  refine Yan hb (fun hh => ?_) (fun hn => ?_)
  ·have e : nm (bl s) = false:=by
    unfold nm
    rcases hh with h | h | h
    ·simp [h]
    ·rw [show decide ((bl s).length <= 100) = false from decide_eq_false (by rw [Zzn]; omega)]; simp
    ·cases hp : prt (bl s) with
     | false => simp
     | true => rw [prt_vld _ hp] at h; cases h
   rw [<- e]; exact K w1 hc1
  ·have hne : bl s ≠ []:=fun e => hn (.inl e)
   have hlen:=Zzn s
   have hv : vld (bl s) = true:=by cases h : vld (bl s) with | true => rfl | false => exact absurd (.inr (.inr h)) hn
   have hnm : nm (bl s) = nmAt (bl s) 0:=by
    rw [nm_at, decide_eq_true hne, decide_eq_true (show (bl s).length <= 100 by omega)]; rfl
   rw [hnm] at K
   refine newB_i fun b18 w2 hb18 hw2 => ?_
   have hc2 : Chg No w w2:=by rw [hw2]; exact hc1.alloc _
   have hh2 : w2.heap[b18]? = some (.stringIter s 0):=by rw [hb18, hw2]; exact heap_alloc_new w1 _
   have hfr : w.heap.size <= b18:=by rw [hb18]; exact hc1.size
   refine ⟨fun w' m => ∃ i : Nat, Chg No w w' /\ w'.heap[b18]? = some (.stringIter s i) /\ i <= s.size /\ m = s.size - i /\ vld ((bl s).drop i) = true /\ nmAt (bl s) i = nmAt (bl s) 0, ⟨_, 0, hc2, hh2, Nat.zero_le _, rfl, by rw [drop_zero]; exact hv, rfl⟩, ?_⟩
   rintro w3 m ⟨i, hc3, hh3, hi, rfl, hvi, hat⟩
   refine ⟨s, i, hh3, fun hlt => ?_, fun hge => ?_⟩
   ·have hlt' : i < (bl s).length:=by omega
    have hk : (rd ((bl s).drop i)).2 ≠ 0:=fun h => by rw [vld_bad (Yeq hlt') h] at hvi; cases hvi
    rw [decode_dec, dec_of_rd hk]
    have hle:=Yfy _ (Yeq hlt')
    rw [length_drop] at hle
    generalize hw4 : setBlk w3 b18 (.stringIter s (i + (rd ((bl s).drop i)).2)) = w4
    have hc4 : Chg No w w4:=by rw [<- hw4]; exact hc3.setBlk _ _ (fun h => by omega)
    have hh4 : w4.heap[b18]? = some (.stringIter s (i + (rd ((bl s).drop i)).2)):=by rw [<- hw4]; exact setBlk_at (Zy4 hh3)
    refine Zz7 fun J34 hJ34 => ?_
    have k34 : ∀ b w6, Chg No w4 w6 -> (b = true ↔ ((i = 0 /\ isSt (rd ((bl s).drop i)).1 = false) \/ isPt (rd ((bl s).drop i)).1 = false)) -> J34 b w6:=by
     intro b w6 hc6 hb; subst hJ34
     have hc:=hc4.trans0 hc6
     refine Yan hb (fun hh => ?_) (fun hn2 => ?_)
     ·have e : nmAt (bl s) 0 = false:=by
       rw [<- hat]
       rcases hh with ⟨h0, h⟩ | h
       ·subst h0; exact nmAt_start h
       ·exact nmAt_part hlt' h
      rw [<- e]; exact K _ hc
     ·have hp : isPt (rd ((bl s).drop i)).1 = true:=by cases h : isPt (rd ((bl s).drop i)).1 with | true => rfl | false => exact absurd (.inr h) hn2
      have hs : i = 0 -> isSt (rd ((bl s).drop i)).1 = true:=fun h0 => by cases h : isSt (rd ((bl s).drop i)).1 with | true => rfl | false => exact absurd (.inl ⟨h0, h⟩) hn2
      exact ⟨_, by omega, i + (rd ((bl s).drop i)).2, hc, hc6.heap hh4 (fun f => f), by omega, rfl, by rw [<- drop_drop, <- YgO (Yeq hlt') hk]; exact hvi, by rw [<- nmAt_step hlt' hk hp hs]; exact hat⟩
    clear hJ34
    refine Zzd (fun h0 => ?_) (fun h0 => ?_)
    ·have h0 : i = 0:=by omega
     refine Ygm fun w7 hc7 => ?_
     refine Zzm (fun hs => k34 _ _ hc7 (bT (.inl ⟨h0, hs⟩))) (fun hs => ?_)
     refine Yi9 fun w8 hc8 => k34 _ _ (hc7.trans0 hc8) ?_
     rw [Bool.not_eq_true']
     exact ⟨fun h => .inr h, fun h => h.elim (fun h => by rw [hs] at h; cases h.2) id⟩
    ·refine Yi9 fun w8 hc8 => k34 _ _ hc8 ?_
     rw [Bool.not_eq_true']
     exact ⟨fun h => .inr h, fun h => h.elim (fun h => absurd h.1 (by omega)) id⟩
   ·have : i = (bl s).length:=by omega
    rw [this, nmAt_end hne] at hat
    rw [<- hat] at K
    exact K _ hc3
 clear hJ16
 rw [Ya1, Ya1, show bl ⟨#[]⟩ = [] from rfl]
 refine Zz9 (fun h => k16 _ _ (Chg.refl _ _) (bT (.inl (by simpa using h)))) (fun h1 => ?_)
 have h1 : bl s ≠ []:=by simpa using h1
 refine Zz4 (fun h => k16 _ _ (Chg.refl _ _) (bT (.inr (.inl (by omega))))) (fun h2 => ?_)
 refine ValidString_ok T fun w10 hc10 => k16 _ _ hc10 ?_
 rw [Bool.not_eq_true']
 exact ⟨fun h => .inr (.inr h), fun h => h.elim (fun h => absurd h h1) fun h => h.elim (fun h => absurd h (by omega)) id⟩
set_option maxRecDepth 100000 in
theorem NameR_ok {s : ByteArray} {J : Bool -> World -> Prop} (hm : s.size <= 140737488355328) (K : ∀ w', Chg No w w' -> J (nm (bl s)) w') : Zz0 Tryz.prog YbK #[.string s] w [.one .bool] J:=by
 refine c_ref01_Name ?_
 refine cvB fun bq c w1 hB _ hc1 => ?_
 have hlen:=Zzn s
 refine Zz7 fun J16 hJ16 => ?_
 have k16 : ∀ b, (b = true ↔ (bl s = [] \/ 100 < s.size)) -> J16 b w1:=by
  intro b hb; subst hJ16
  refine Yan hb (fun hh => ?_) (fun hn => ?_)
  ·have e : nm (bl s) = false:=by
    rw [nm_at]
    rcases hh with h | h
    ·simp [h]
    ·rw [show decide ((bl s).length <= 100) = false from decide_eq_false (by omega)]; simp
   rw [<- e]; exact K w1 hc1
  ·have hne : bl s ≠ []:=fun e => hn (.inl e)
   have hnm : nm (bl s) = nmAt (bl s) 0:=by
    rw [nm_at, decide_eq_true hne, decide_eq_true (show (bl s).length <= 100 by omega)]; rfl
   rw [hnm] at K
   refine ⟨fun x w' m => ∃ i : Nat, x = i /\ w' = w1 /\ i <= s.size /\ m = s.size - i /\ nmAt (bl s) i = nmAt (bl s) 0, ⟨_, 0, rfl, rfl, Nat.zero_le _, rfl, rfl⟩, ?_⟩
   rintro x w3 m ⟨i, rfl, rfl, hi, rfl, hat⟩
   refine Zz4 (fun hlt => ?_) (fun hge => ?_)
   ·have hlt' : i < (bl s).length:=by omega
    refine Read_ok hB (by omega) hm ?_
    have hle:=Yfy _ (Yeq hlt')
    rw [length_drop] at hle
    refine Zz7 fun J42 hJ42 => ?_
    have bad : nmAt (bl s) 0 = false -> J42 true w3:=fun e => by subst hJ42; rw [<- e]; exact K _ hc1
    have good : (rd ((bl s).drop i)).2 ≠ 0 -> isPt (rd ((bl s).drop i)).1 = true -> (i = 0 -> isSt (rd ((bl s).drop i)).1 = true) -> J42 false w3:=fun hk hp hs => by
     subst hJ42
     exact ⟨_, by omega, i + (rd ((bl s).drop i)).2, by rw [Zzb (by omega) (by omega)]; simp, rfl, by omega, rfl, by rw [<- nmAt_step hlt' hk hp hs]; exact hat⟩
    clear hJ42
    refine Zzd (fun hk => bad (by rw [<- hat]; exact nmAt_bad hlt' (by omega))) (fun hk => ?_)
    refine Part_ok ?_
    refine Zzm (fun hp => bad (by rw [<- hat]; exact nmAt_part hlt' hp)) (fun hp => ?_)
    refine Zzd (fun h0 => ?_) (fun h0 => good (by omega) hp (fun h => by omega))
    have h0 : i = 0:=by omega
    refine Start_ok ?_
    cases hs : isSt (rd ((bl s).drop i)).1 with
    | true => exact good (by omega) hp (fun _ => hs)
    | false =>
     refine bad ?_
     rw [<- hat]; subst h0; exact nmAt_start hs
   ·have : i = (bl s).length:=by omega
    rw [this, nmAt_end hne] at hat
    rw [<- hat] at K
    exact K _ hc1
 clear hJ16
 have hz : bl s = [] ↔ s.size = 0:=by rw [<- hlen]; exact length_eq_zero_iff.symm
 refine Zzd (fun h => k16 _ (bT (.inl (hz.2 (by omega))))) (fun h => k16 _ (bD ?_))
 rw [hz]; omega
theorem IndexByte_ok {s : ByteArray} {J : Int -> World -> Prop} (k : J (indexByte (bl s) 58) w) : Zz0 Tryz.prog Zzz #[.string s, .int .u8 58] w [.one (.int .i64)] J:=by
 refine ZxH ?_
 refine ⟨_, w, ?_, indexByte (bl s) 58, rfl, k⟩
 rw [run_callFunc_extern (fn:=Tryz.prog.funcs[Zye]!) (by kernel_rfl) (by kernel_rfl) (by kernel_rfl) (by kernel_rfl) (e:=Extern.BytealgIndexByte.indexByte) (by kernel_rfl), Lib.run_indexByteString]
 rfl
theorem Index_ok {s : ByteArray} {J : Int -> World -> Prop} (k : J (indexByte (bl s) 58) w) : Zz0 Tryz.prog ZyP #[.string s, .string ⟨#[58]⟩] w [.one (.int .i64)] J:=by
 refine YbP ?_
 refine Zz7 fun J16 hJ16 => ?_
 refine Zzd (fun h => absurd h (by decide)) (fun _ => ?_)
 rw [Ya1, Ya1, show bl ⟨#[58]⟩ = [58] from rfl]
 have k16 : ∀ b, (b = true ↔ bl s = [58]) -> J16 b w:=by
  intro b hb; subst hJ16
  refine Yan hb (fun hh => ?_) (fun hn => ?_)
  ·rw [hh] at k; exact k
  ·refine Zzd (fun _ => ?_) (fun h => absurd rfl h)
   refine Zyl (i:=0) (by decide) ?_
   exact IndexByte_ok k
 clear hJ16
 exact k16 _ (by rw [beq_iff_eq]; exact eq_comm)
theorem Cut_ok {s : ByteArray} {J : ByteArray -> ByteArray -> Bool -> World -> Prop} (hm : s.size <= 9223372036854775806)
    (k0 : colon (bl s) = none -> ∀ w', Chg No w w' -> J s ⟨#[]⟩ false w')
    (k1 : ∀ i a b, colon (bl s) = some i -> bl a = (bl s).take i -> bl b = (bl s).drop (i + 1) -> a.size <= s.size -> b.size <= s.size -> ∀ w', Chg No w w' -> J a b true w') :
    Zz0 Tryz.prog YcK #[.string s, .string ⟨#[58]⟩] w [.one .str, .one .str, .one .bool] J:=by
  refine c_strings_Cut ?_
  refine Yck ?_
  refine Index_ok ?_
  rw [YhC]
  have hlen:=Zzn s
  cases hc : colon (bl s) with
  | none =>
    simp only
    refine Zz4 (fun h => absurd h (by decide)) fun _ => k0 hc _ (Chg.refl _ _)
  | some i =>
    simp only
    have hi : i < (bl s).length:=(List.getElem?_eq_some_iff.1 (Yda.1 hc).1).1
    refine Zz4 (fun _ => ?_) (fun h => absurd (Int.natCast_nonneg i) h)
    refine slStr_take (by omega) fun a ha za => ?_
    rw [show ((⟨#[58]⟩ : ByteArray).size : Int) = 1 from rfl, Zzb (by omega) (by omega), show (i : Int) + 1 = ((i + 1 : Nat) : Int) from rfl]
    refine Zyw (by omega) fun b hb zb => ?_
    exact k1 i a b hc ha hb (by omega) (by omega) _ (Chg.refl No w).drew
def Spl (s a b : ByteArray) (ok : Bool) : Prop:=(bl a, bl b, ok) = spl (bl s)
theorem YfS {s : ByteArray} {J : ByteArray -> ByteArray -> Bool -> World -> Prop} (hm : s.size <= 9223372036854775806) (T : Tabs w)
  (K : ∀ a b ok w', Chg No w w' -> Spl s a b ok -> J a b ok w') : Zz0 Tryz.prog ZqN #[.string s] w [.one .str, .one .str, .one .bool] J:=by
 refine c_char_Split ?_
 have e0 : bl ⟨#[]⟩ = []:=rfl
 refine Cut_ok hm (fun hc w1 hc1 => ?_) (fun i a b hc ha hb za zb w1 hc1 => ?_)
 ·refine Zz7 fun J12 hJ12 => ?_
  subst hJ12
  refine Zzm (fun _ => ?_) (fun h => by cases h)
  refine YeK (T.chg hc1) fun w6 hc6 => ?_
  have hcc:=hc1.trans0 hc6
  refine Zz9 (fun hn => K _ _ _ _ hcc ?_) (fun hn => ?_)
  ·unfold Spl spl; rw [hc]; simp only [hn, if_true, e0]
  ·refine Zz7 fun J20 hJ20 => ?_
   subst hJ20
   refine Zz9 (fun h => by cases h) (fun _ => ?_)
   refine Zz9 (fun h => by cases h) (fun _ => K _ _ _ _ hcc ?_)
   unfold Spl spl; rw [hc]; simp [hn, e0]
 ·refine Zz7 fun J12 hJ12 => ?_
  subst hJ12
  refine Zzm (fun h => by cases h) (fun _ => ?_)
  refine Zz9 (fun h => by cases h) (fun _ => ?_)
  refine Zz7 fun J20 hJ20 => ?_
  have k20 : ∀ x w2, Chg No w w2 -> (x = (nm (bl a) && nm (bl b))) -> J20 x w2:=by
   intro x w2 hc2 hx; subst hJ20
   refine Zz9 (fun h => K _ _ _ _ hc2 ?_) (fun h => K _ _ _ _ hc2 ?_)
   ·unfold Spl spl; rw [hc]; simp only; rw [<- ha, <- hb, <- hx, h]; rfl
   ·unfold Spl spl; rw [hc]; simp only; rw [<- ha, <- hb, <- hx, h]; rfl
  clear hJ20
  refine Zz9 (fun _ => ?_) (fun h => by cases h)
  refine YeK (T.chg hc1) fun w4 hc4 => ?_
  refine Zz9 (fun hn => ?_) (fun hn => k20 _ _ (hc1.trans0 hc4) (by rw [hn, Bool.false_and]))
  refine YeK ((T.chg hc1).chg hc4) fun w5 hc5 => k20 _ _ ((hc1.trans0 hc4).trans0 hc5) (by rw [hn, Bool.true_and])
end
end Go.Proofs.YtglnmjflpkeclaaGreatDoor
namespace Go.Vc
open Go Go.Lib
def prv (bs : List UInt8) (i : Nat) : Bool:=decide (0 < i /\ bs[i - 1]? = some 13)
def chunk (b : UInt8) (p : Bool) : List UInt8:=if b = 13 then [10] else if b = 10 /\ p = true then [] else [b]
theorem prv_succ {bs : List UInt8} {i : Nat} {b : UInt8} (h : bs[i]? = some b) : prv bs (i + 1) = decide (b = 13):=by
 unfold prv
 rw [Nat.add_sub_cancel, h]
 simp
theorem Yb4 (b : UInt8) (p : Bool) (r : List UInt8) : lns p (b :: r) = chunk b p ++ lns (decide (b = 13)) r:=by
 unfold chunk
 rw [lns]
 by_cases h : b = 13
 ·simp [h]
 ·by_cases h2 : b = 10 /\ p = true
  ·simp [h, h2]
  ·simp only [if_neg h, if_neg h2, decide_eq_false h]; rfl
theorem lns_at {bs : List UInt8} {i : Nat} {b : UInt8} (h : bs[i]? = some b) : lns (prv bs i) (bs.drop i) = chunk b (prv bs i) ++ lns (prv bs (i + 1)) (bs.drop (i + 1)):=by
  obtain ⟨hi, rfl⟩:=List.getElem?_eq_some_iff.1 h
  rw [List.drop_eq_getElem_cons hi, Yb4, prv_succ h]
theorem lns_len : ∀ (p : Bool) (bs : List UInt8), (lns p bs).length <= bs.length
 | _, [] => Nat.le_refl _
 | p, b :: r => by
  rw [Yb4, length_append, length_cons]
  have:=lns_len (decide (b = 13)) r
  have : (chunk b p).length <= 1:=by
   unfold chunk
   repeat' split
   all_goals simp
  omega
end Go.Vc
namespace Go.Proofs.YtglnmjflpkeclaaGreatDoor
open Go Go.Vc Go.Lib
section
variable {w : World}
theorem appG {w0 wa : World} {p q : Option Addr} {l c m c2 : Nat} {xs ys : List UInt8} {K : Option Addr -> Nat -> Nat -> World -> Prop} (hr : Row wa Zzs 1 p l c (bcells xs)) (hb : Bytes wa q m ys) (hn : q = none -> m = 0) (hlm : l + m <= 140737488355328)
  (hf : fresh w0 p) (hc : Chg No w0 wa) (k : ∀ p' c' w', Row w' Zzs 1 p' (l + m) c' (bcells (xs ++ ys)) -> fresh w0 p' -> Chg No w0 w' -> K p' (l + m) c' w') :
  YeJ Tryz.prog Zzj Zzj (.slice p l c) (.slice q m c2) wa K:=by
 refine YbR slT_u8 hr hb (Yf6 _) hn (by omega) (by simp only [maxLen]; omega) fun p' c' w' hr' hc' hf' => ?_
 refine k p' c' w' (by simpa [bcells] using hr') ?_ (hc.trans hc' fun b hb ⟨a, ha, e⟩ => by have:=hf a ha; omega)
 rcases hf' with rfl | hf'
 ·exact hf
 ·intro a ha; have:=hf' a ha; have:=hc.size; omega
theorem app1 {w0 wa : World} {p : Option Addr} {l c : Nat} {xs : List UInt8} {b : UInt8} {v : Int} {K : Option Addr -> Nat -> Nat -> World -> Prop} (hr : Row wa Zzs 1 p l c (bcells xs)) (hv : v = (b.toNat : Int)) (hlm : l + 1 <= 140737488355328)
  (hf : fresh w0 p) (hc : Chg No w0 wa) (k : ∀ p' c' w', Row w' Zzs 1 p' (l + 1) c' (bcells (xs ++ [b])) -> fresh w0 p' -> Chg No w0 w' -> K p' (l + 1) c' w') :
  newB wa (.cells ⟨[.int .u8 v]⟩ Zzs) fun b36 w5 => YeJ Tryz.prog Zzj Zzj (.slice p l c) (.slice (some ⟨b36, 0, none⟩) 1 1) w5 K:=by
 subst hv
 refine newRow (sz:=1) (n:=1) rfl (by decide) fun b2 w2 hr2 _ hc2 => ?_
 exact appG (ys:=[b]) (hr.chg hc2 (off_no _)) hr2.sl (by simp) hlm hf (hc.trans0 hc2) k
theorem LinesC_ok {p : Option Addr} {l c : Nat} {bs : List UInt8} {J : Option Addr -> Nat -> Nat -> World -> Prop} (h : Bytes w p l bs) (hm : l <= 140737488355328)
  (K : ∀ p' l' c' w', Row w' Zzs 1 p' l' c' (bcells (lns false bs)) -> fresh w p' -> Chg No w w' -> J p' l' c' w') : Zz0 Tryz.prog YdA #[.slice p l c] w [.one .slice] J:=by
 refine c_char_Lines ?_
 have hbl:=h.len
 rw [zeroC_u8]
 refine (Hp.start w No).mkS rfl (by omega) (by omega) (by omega) (by omega) fun b8 w1 H1 hb8 hc1 => ?_
 rw [Int.toNat_natCast]
 rw [show (replicate (l : Int).toNat (#[.int .u8 0] : Array Value).toList).flatten = [] ++ bcells (replicate l 0) from by rw [Int.toNat_natCast]; simp [bcells, flatten_replicate_singleton]] at H1
 have hrow : Row w1 Zzs 1 (some ⟨b8, 0, none⟩) 0 l (bcells []):=H1.asRow 0 rfl (rest:=bcells (replicate l 0)) rfl (by simp [bcells]) (Nat.zero_le _) (by simp only [maxLen]; omega) (by simp [bcells])
 refine ⟨fun q m d x w' t => ∃ (i : Nat) (out : List UInt8), x = i /\ i <= l /\ t = l - i /\ Row w' Zzs 1 q m d (bcells out) /\ fresh w q /\ Chg No w w' /\ out ++ lns (prv bs i) (bs.drop i) = lns false bs /\ m <= i,
  ⟨_, 0, [], rfl, Nat.zero_le _, rfl, hrow, by rintro a ⟨⟩; exact hb8, hc1, rfl, Nat.le_refl _⟩, ?_⟩
 rintro q m d x w2 t ⟨i, out, rfl, hi, rfl, hr, hf, hc, hout, hmi⟩
 refine Zz4 (fun hlt => ?_) (fun hge => ?_)
 ·refine Zz7 fun J3 hJ3 => ?_
  have hB:=h.chg hc (off_no _)
  refine Ycb hB (by omega) hlt fun b hb => ?_
  rw [Int.toNat_natCast] at hb
  have hstep:=lns_at hb
  have k3 : ∀ q' m' d' w3 ch, ch = chunk b (prv bs i) -> Row w3 Zzs 1 q' m' d' (bcells (out ++ ch)) -> fresh w q' -> Chg No w w3 -> m' <= i + 1 -> J3 q' m' d' w3:=by
   intro q' m' d' w3 ch e hr' hf' hc' hm'; subst hJ3
   exact ⟨l - (i + 1), by omega, i + 1, out ++ ch, by rw [Zzb] <;> omega, by omega, rfl, hr', hf', hc', by rw [e, append_assoc, <- hstep]; exact hout, hm'⟩
  clear hJ3
  refine Zz7 fun J5 hJ5 => ?_
  have k5 : ∀ (c5 : UInt8), chunk b (prv bs i) = [c5] -> J5 (c5.toNat : Int) w2:=by
   intro c5 e; subst hJ5
   exact app1 hr rfl (by omega) hf hc fun q' d' w3 hr' hf' hc' => k3 _ _ _ _ [c5] e.symm hr' hf' hc' (by omega)
  clear hJ5
  refine Zz7 fun J16 hJ16 => ?_
  have k16 : ∀ x, (x = true ↔ (b = 10 /\ prv bs i = true)) -> J16 x w2:=by
   intro x hx; subst hJ16
   refine Yan hx (fun hh => k3 _ _ _ _ [] ?_ (by rw [append_nil]; exact hr) hf hc (by omega)) (fun hn => ?_)
   ·unfold chunk; rw [if_neg (by rw [hh.1]; decide), if_pos hh]
   ·refine Zzd (fun h13 => ?_) (fun h13 => ?_)
    ·have : b = 13:=UInt8.toNat_inj.1 (Int.ofNat_inj.1 h13)
     exact k5 10 (by unfold chunk; rw [if_pos this])
    ·have : b ≠ 13:=fun e => h13 (by rw [e]; rfl)
     exact k5 b (by unfold chunk; rw [if_neg this, if_neg hn])
  clear hJ16
  refine Zzd (fun h10 => ?_) (fun h10 => ?_)
  ·have h10 : b = 10:=UInt8.toNat_inj.1 (Int.ofNat_inj.1 h10)
   refine Zz4 (fun hp => ?_) (fun hp => k16 _ (bF fun hh => ?_))
   ·rw [Zzb (by omega) (by omega)]
    refine Ycb hB (by omega) (by omega) fun b' hb' => ?_
    rw [show ((i : Int) - 1).toNat = i - 1 by omega] at hb'
    refine k16 _ (bQ ?_)
    unfold prv
    rw [hb', decide_eq_true_eq]
    exact ⟨fun e => ⟨h10, by omega, by rw [show b' = 13 from UInt8.toNat_inj.1 (Int.ofNat_inj.1 e)]⟩, fun e => by cases e.2.2; rfl⟩
   ·have:=of_decide_eq_true hh.2
    omega
  ·refine k16 _ (bF fun hh => h10 (by rw [hh.1]; rfl))
 ·have : i = bs.length:=by omega
  rw [this, drop_of_length_le (Nat.le_refl _)] at hout
  have e : lns (prv bs bs.length) [] = []:=rfl
  rw [e, append_nil] at hout
  subst hout
  exact K _ _ _ _ hr hf hc
end
end Go.Proofs.YtglnmjflpkeclaaGreatDoor
namespace Go.Vc
open Go Go.Lib
def YeN (c : Nat) : List UInt8 :=
 if c < 128 then [UInt8.ofNat c]
 else if c < 2048 then [UInt8.ofNat (192 + c / 64), UInt8.ofNat (128 + c % 64)]
 else if c < 65536 then [UInt8.ofNat (224 + c / 4096), UInt8.ofNat (128 + c / 64 % 64), UInt8.ofNat (128 + c % 64)]
 else [UInt8.ofNat (240 + c / 262144), UInt8.ofNat (128 + c / 4096 % 64), UInt8.ofNat (128 + c / 64 % 64), UInt8.ofNat (128 + c % 64)]
theorem bl_encode (r : Int) : bl (Utf8.encode r) = YeN (if Utf8.valid r then r.toNat else 65533):=by
 unfold Utf8.encode YeN Utf8.runeError
 simp only
 repeat' split
 all_goals first | rfl | (exfalso; omega)
theorem YgZ (c : Nat) : 1 <= (YeN c).length /\ (YeN c).length <= 4:=by
 unfold YeN
 repeat' split
 all_goals simp
theorem ZxK {n : Nat} (h : n < 256) : (UInt8.ofNat n).toNat = n:=by simp [UInt8.toNat_ofNat']; omega
theorem Ydr (b : UInt8) (r : List UInt8) : gB (b :: r) 0 = b.toNat:=rfl
theorem YeE (a b : UInt8) (r : List UInt8) : gB (a :: b :: r) 1 = b.toNat:=rfl
theorem YgW (a b c : UInt8) (r : List UInt8) : gB (a :: b :: c :: r) 2 = c.toNat:=rfl
theorem gB_cons3 (a b c d : UInt8) (r : List UInt8) : gB (a :: b :: c :: d :: r) 3 = d.toNat:=rfl
theorem rd_enc (c : Nat) (hv : c < 55296 \/ (57344 <= c /\ c <= 1114111)) (rest : List UInt8) : rd (YeN c ++ rest) = (c, (YeN c).length):=by
 unfold YeN
 by_cases h1 : c < 128
 ·rw [if_pos h1]
  have e:=ZzI (UInt8.ofNat c) rest (by rw [ZxK (by omega)]; exact h1)
  rw [ZxK (by omega)] at e
  exact e
 rw [if_neg h1]
 by_cases h2 : c < 2048
 ·rw [if_pos h2]
  unfold rd
  simp only [cons_append, nil_append, Ydr, YeE, length_cons, length_nil]
  rw [ZxK (by omega), ZxK (by omega)]
  unfold rdN
  rw [if_neg (by omega), if_neg (by omega), if_pos (by omega), if_pos (by refine ⟨?_, ?_, ?_⟩ <;> omega)]
  exact Prod.ext (by show (_ : Nat) = _; omega) rfl
 rw [if_neg h2]
 by_cases h3 : c < 65536
 ·rw [if_pos h3]
  unfold rd
  simp only [cons_append, nil_append, Ydr, YeE, YgW, length_cons, length_nil]
  rw [ZxK (by omega), ZxK (by omega), ZxK (by omega)]
  unfold rdN
  rw [if_neg (by omega), if_neg (by omega), if_neg (by omega), if_pos (by omega), if_pos (by refine ⟨?_, ?_, ?_, ?_, ?_⟩ <;> omega)]
  exact Prod.ext (by show (_ : Nat) = _; omega) rfl
 rw [if_neg h3]
 unfold rd
 simp only [cons_append, nil_append, Ydr, YeE, YgW, gB_cons3, length_cons, length_nil]
 rw [ZxK (by omega), ZxK (by omega), ZxK (by omega), ZxK (by omega)]
 unfold rdN
 rw [if_neg (by omega), if_neg (by omega), if_neg (by omega), if_neg (by omega), if_pos (by omega), if_pos (by refine ⟨?_, ?_, ?_, ?_, ?_, ?_⟩ <;> omega)]
 exact Prod.ext (by show (_ : Nat) = _; omega) rfl
theorem valid_iff (r : Int) : Utf8.valid r = true ↔ (0 <= r /\ r < 55296) \/ (57344 <= r /\ r <= 1114111):=by
 unfold Utf8.valid
 simp only [Bool.or_eq_true, Bool.and_eq_true, decide_eq_true_eq]
theorem YhH : ∀ (bs : List UInt8) (s : Nat), ((flt s bs).2 = 0 /\ flt s bs = (0, 0) /\ flt 0 bs = (0, 0)) \/ ((flt s bs).2 ≠ 0 /\ flt s bs = (s + (flt 0 bs).1, (flt 0 bs).2)):=by
 refine Yfz ?_ ?_ ?_
 ·intro s; left; simp [Yga]
 ·intro bs h hk s; right; simp [YhG h hk]
 ·intro bs h hk ih s
  cases hc : chr (rd bs).1 with
  | false => right; simp [Ygb h hk hc]
  | true =>
   rw [YbM h hk hc, YbM (i:=0) h hk hc]
   have h1:=ih (s + (rd bs).2)
   have h2:=ih (0 + (rd bs).2)
   rcases h1 with ⟨a1, a2, a3⟩ | ⟨a1, a2⟩
   ·rcases h2 with ⟨b1, b2, b3⟩ | ⟨b1, b2⟩
    ·left; exact ⟨a1, a2, b2⟩
    ·rw [b2, a3] at b1; simp at b1
   ·rcases h2 with ⟨b1, b2, b3⟩ | ⟨b1, b2⟩
    ·rw [a2, b3] at a1; simp at a1
    ·right
     rw [a2, b2]
     refine ⟨by rw [a2] at a1; exact a1, ?_⟩
     simp only [Prod.mk.injEq, and_true]; omega
theorem flt_ge (bs : List UInt8) (s : Nat) (h : (flt s bs).2 ≠ 0) : s <= (flt s bs).1:=by
 rcases YhH bs s with ⟨a, _⟩ | ⟨_, e⟩
 ·exact absurd a h
 ·rw [e]; simp
theorem drop_append_rd (xs bs : List UInt8) (h : (rd xs).2 <= xs.length) : (xs ++ bs).drop (rd xs).2 = xs.drop (rd xs).2 ++ bs:=drop_append_of_le_length h
theorem flt_join (bs : List UInt8) : ∀ (xs : List UInt8) (s : Nat), ((flt s xs).2 = 21 /\ flt s (xs ++ bs) = flt s xs) \/ ((flt s xs).2 = 20 /\ ((flt s (xs ++ bs)).2 = 0 \/ (flt s xs).1 <= (flt s (xs ++ bs)).1)) \/ (flt s xs = (0, 0) /\ flt s (xs ++ bs) = flt (s + xs.length) bs):=by
 refine Yfz ?_ ?_ ?_
 ·intro s; right; right; simp [Yga]
 ·intro xs h hk s
  right; left
  rw [YhG h hk]
  refine ⟨rfl, ?_⟩
  by_cases h0 : (flt s (xs ++ bs)).2 = 0
  ·exact .inl h0
  ·exact .inr (flt_ge _ _ h0)
 ·intro xs h hk ih s
  have hle:=Yfy xs h
  have e:=Yhm xs bs hk h
  have hne : xs ++ bs ≠ []:=by simp [h]
  cases hc : chr (rd xs).1 with
  | false =>
   left
   rw [Ygb h hk hc, Ygb hne (by rw [e]; exact hk) (by rw [e]; exact hc)]
   exact ⟨rfl, rfl⟩
  | true =>
   rw [YbM h hk hc, YbM hne (by rw [e]; exact hk) (by rw [e]; exact hc), e, drop_append_rd _ _ hle]
   have:=ih (s + (rd xs).2)
   rw [length_drop, show s + (rd xs).2 + (xs.length - (rd xs).2) = s + xs.length by omega] at this
   exact this
theorem lns_no13 : ∀ (p : Bool) (bs : List UInt8), (13 : UInt8) ∉ lns p bs
 | _, [] => by simp [lns]
 | p, b :: r => by
  rw [Yb4, mem_append, not_or]
  refine ⟨?_, lns_no13 _ r⟩
  unfold chunk
  split
  ·decide
  ·next h =>
   split
   ·simp
   ·simp [Ne.symm h]
theorem YgU : ∀ (bs : List UInt8), (13 : UInt8) ∉ bs -> lns false bs = bs
 | [], _ => rfl
 | b :: r, h => by
  simp only [mem_cons, not_or] at h
  rw [Yb4, show decide (b = 13) = false from decide_eq_false (Ne.symm h.1), YgU r h.2]
  unfold chunk
  rw [if_neg (Ne.symm h.1), if_neg (by simp)]; rfl
theorem lns_half : ∀ (p : Bool) (bs : List UInt8), bs.length <= 2 * (lns p bs).length + (if p then 1 else 0)
 | _, [] => by simp
 | p, b :: r => by
  rw [Yb4, length_append, length_cons]
  have ih:=lns_half (decide (b = 13)) r
  unfold chunk
  by_cases h : b = 13
  ·rw [if_pos h]
   simp only [h, decide_true, if_true] at ih ⊢
   simp only [length_cons, length_nil]
   omega
  ·rw [if_neg h]
   simp only [h, decide_false] at ih ⊢
   by_cases h2 : b = 10 /\ p = true
   ·rw [if_pos h2, h2.2]
    simp at ih ⊢; omega
   ·rw [if_neg h2]
    simp at ih ⊢; omega
theorem lns_append (bs : List UInt8) : ∀ (p : Bool) (xs : List UInt8), lns p (xs ++ bs) = lns p xs ++ lns (match xs.getLast? with | some b => decide (b = 13) | none => p) bs
 | p, [] => by simp [lns]
 | p, b :: r => by
  rw [cons_append, Yb4, Yb4, lns_append bs (decide (b = 13)) r, append_assoc]
  congr 3
  cases hr : r with
  | nil => simp
  | cons c r' =>
   have : (b :: c :: r').getLast? = (c :: r').getLast? := getLast?_cons_cons
   rw [this]
   cases hl : (c :: r').getLast? with
   | none => simp at hl
   | some x => rfl
theorem lns_head {bs : List UInt8} (h : bs[0]? ≠ some 10) : lns true bs = lns false bs:=by
 cases bs with
 | nil => rfl
 | cons b r =>
  have hb : b ≠ 10:=fun e => h (by rw [e]; rfl)
  rw [Yb4, Yb4]
  unfold chunk
  simp [hb]
theorem lns_joins {xs bs : List UInt8} (h : ¬ (xs[xs.length - 1]? = some 13 /\ bs[0]? = some 10)) : lns false (xs ++ bs) = lns false xs ++ lns false bs:=by
 rw [lns_append]
 congr 1
 rw [getLast?_eq_getElem?]
 cases hl : xs[xs.length - 1]? with
 | none => rfl
 | some x =>
  simp only
  by_cases hx : x = 13
  ·subst hx
   rw [decide_eq_true rfl]
   exact lns_head fun e => h ⟨hl, e⟩
  ·rw [decide_eq_false hx]
end Go.Vc
end
section
namespace Go.Vc
open Go Go.RowKit
section
variable {w : World} {α : Type} {f : α -> List Value} {sz : Nat} {e : TypeId}
theorem Row.stE {p : Option Addr} {l c : Nat} {L : List α} (hE : Ygo f sz L) (hr : Row w e sz p l c (rows f L)) {i : Int} (h0 : 0 <= i) (h1 : i < l) {x : α} (hx : (f x).length = sz) (h1x : one1 (f x)) (hsz : 0 < sz) {K : World -> Prop}
  (k : ∀ w', Row w' e sz p l c (rows f (L.set i.toNat x)) -> Chg (isB p) w w' -> K w') : ZzS p l i fun a => stN w (a.add (i.toNat * sz)) ⟨f x⟩ sz K:=by
 obtain ⟨b, rest, rfl, hh, hle, hmax, hlen⟩:=hr.some0 (by omega)
 have hll:=hr.sl.row hE hsz
 have hlt : i.toNat < L.length:=by omega
 refine Ygv h0 h1 ?_
 rw [Addr.add_mk, Nat.zero_add]
 have H:=(Hp.start w (isB (some ⟨b, 0, none⟩))).add hh (by simp) (fun _ => ⟨_, rfl, rfl⟩)
 have hrl : (rows f L).length = L.length * sz:=Yag hE
 have hfit : i.toNat * sz + sz <= (rows f L).length:=by
  rw [hrl, <- Nat.succ_mul]; exact Nat.mul_le_mul_right _ hlt
 refine H.stN 0 rfl (off:=i.toNat * sz) hx (by rw [length_append]; omega) h1x fun w' H' hc => ?_
 have e1 : splice (rows f L ++ rest) (i.toNat * sz) (f x) = rows f (L.set i.toNat x) ++ rest:=by
  rw [splice_append (by rw [hx]; exact hfit), Yhh hE hlt hx]
 simp only [set_cons_zero] at H'
 rw [e1] at H'
 have hE':=hE.set hx i.toNat
 exact k w' (H'.asRow 0 rfl rfl (by rw [Yag hE', length_set, hll]) hle hmax (by rw [length_append, Yag hE', length_set, <- hrl, <- length_append]; exact hlen)) H'.chg
theorem clr_row {P : Program} {t : TypeId} {by_ : Nat} {z : Array Value} (T : SlT P t e sz by_ z) (hz1 : one1 z.toList) {p : Option Addr} {l c i : Nat} {A Z : List Value} (hr : Row w e sz p l c (A ++ Z)) (hA : A.length = i * sz) (hi : i < l) {K : World -> Prop}
  (k : ∀ w', Row w' e sz p i c A -> Chg (isB p) w w' -> K w') :
  slS p l c sz (some (i : Int)) none none fun q m d => clrJ P t (.slice q m d) w K:=by
 obtain ⟨b, rest, rfl, hh, hle, hmax, hlen⟩:=hr.some0 (by omega)
 obtain ⟨ti, v, hti, hz, hsz, hby, hv⟩:=T.info
 refine ⟨i, l, c, rfl, rfl, rfl, by omega, hle, Nat.le_refl _, ?_⟩
 rw [if_neg (show ¬ c = i by omega)]
 simp only [Option.map_some, Addr.add_mk, Nat.zero_add]
 obtain ⟨m, hm⟩ : ∃ m, l - i = m + 1:=⟨l - i - 1, by omega⟩
 have hl:=hr.len
 rw [length_append, hA] at hl
 have hZ : Z.length = (l - i) * sz:=by rw [Nat.sub_mul]; omega
 have hbig : i * sz + (l - i) * sz <= (A ++ Z ++ rest).length:=by
  rw [length_append, length_append, hA, hZ]; omega
 generalize hcs : A ++ Z ++ rest = cs at *
 have hzl : ((replicate (l - i) z.toList).flatten).length = (l - i) * sz:=by
  rw [length_flatten, map_replicate, sum_replicate_nat, Array.length_toList, T.hz]
 have hone : one1 (replicate (l - i) z.toList).flatten:=by
  intro x hx
  obtain ⟨y, hy, hxy⟩:=mem_flatten.1 hx
  rw [(mem_replicate.1 hy).2] at hxy
  exact hz1 x hxy
 have hcan : ∀ j, j < ((replicate (l - i) z.toList).flatten).length -> canW w ((⟨b, i * sz, none⟩ : Addr).add (0 + j)):=by
  intro j hj
  rw [hzl] at hj
  rw [Addr.add_mk]
  exact ⟨⟨cs[i * sz + (0 + j)]'(by omega), by rw [cell_of_row w b _ _ e (0, 0) hh]; simp⟩, frozen_of_row w b _ _ e hh⟩
 have hrun:=Ya4 (P:=P) _ 0 w ⟨b, i * sz, none⟩ hone hcan
 refine ⟨setCells w ⟨b, i * sz, none⟩ 0 (replicate (l - i) z.toList).flatten, fun ty => ?_, ?_⟩
 ·have hzc : (Builtin.zeroCells v.cells (m + 1)).toList = (replicate (l - i) z.toList).flatten:=by
   unfold Builtin.zeroCells
   rw [hv, zrow_eq z (m + 1), hm]
  rw [hm] at hrun ⊢
  rw [hm] at hzc
  simp only [Builtin.clear_, getElem?_toArray, getElem?_cons_zero, Sem.run_bind, run_underlying T.hu, Result.andThen_ok, zeroValue, typeInfo, run_program, hti, hz, Sem.run_pure, hzc, hrun]
 ·rw [Yed _ 0 (i * sz) cs w hh (by rw [hzl]; omega)]
  have e1 : cs.take (i * sz + 0) ++ (replicate (l - i) z.toList).flatten ++ cs.drop (i * sz + 0 + (replicate (l - i) z.toList).flatten.length) = A ++ ((replicate (l - i) z.toList).flatten ++ rest):=by
   rw [<- hcs, hzl, Nat.add_zero, append_assoc A Z rest, <- hA, take_left, append_assoc]
   congr 2
   rw [<- drop_drop, drop_left, <- hZ, drop_left]
  rw [e1]
  have H:=(Hp.start w (isB (some ⟨b, 0, none⟩))).add hh (by simp) (fun _ => ⟨_, rfl, rfl⟩)
  have H':=H.row 0 rfl (A ++ ((replicate (l - i) z.toList).flatten ++ rest))
  simp only [set_cons_zero] at H'
  refine k _ (H'.asRow 0 rfl rfl hA (by omega) hmax ?_) H'.chg
  rw [<- hlen, <- hcs]
  simp only [length_append, hzl, hZ]; omega
end
end Go.Vc
end
section
namespace Go.Vc
open Go Go.Lib
abbrev Pr:=ByteArray × ByteArray
def pr (x : Pr) : List Value:=[.string x.1, .string x.2]
theorem YdC (L : List Pr) : Ygo pr 2 L:=fun _ _ => rfl
theorem YaZ (x : Pr) : one1 (pr x):=Ya5 rfl (Ya5 rfl YeB)
theorem one1_prs (L : List Pr) : one1 (rows pr L):=one1_rows fun x _ => YaZ x
def Zqf : ByteArray:=⟨#[120, 109, 108, 110, 115]⟩
def kXml : ByteArray:=⟨#[120, 109, 108]⟩
def kE : ByteArray:=⟨#[]⟩
def kSX : ByteArray:=⟨#[104, 116, 116, 112, 58, 47, 47, 119, 119, 119, 46, 119, 51, 46, 111, 114, 103, 47, 50, 48, 48, 48, 47, 120, 109, 108, 110, 115, 47]⟩
def Zys : ByteArray:=⟨#[104, 116, 116, 112, 58, 47, 47, 119, 119, 119, 46, 119, 51, 46, 111, 114, 103, 47, 88, 77, 76, 47, 49, 57, 57, 56, 47, 110, 97, 109, 101, 115, 112, 97, 99, 101]⟩
theorem Ycl (x y : ByteArray) : (x.toList == y.toList) = decide (x = y):=by
 rw [Ya1, Ya1, Bool.eq_iff_iff, beq_iff_eq, decide_eq_true_eq]
 exact ⟨Zqt, fun h => by rw [h]⟩
def mkB (l : List UInt8) : ByteArray:=⟨l.toArray⟩
theorem ZzH (l : List UInt8) : bl (mkB l) = l:=by simp [bl, mkB]
theorem Ybv (s : ByteArray) : mkB (bl s) = s:=Zqt (ZzH _)
theorem mkB_eq {l : List UInt8} {s : ByteArray} (h : bl s = l) : mkB l = s:=by rw [<- h, Ybv]
theorem spl_xmlns : (spl (bl Zqf)).1 = []:=by
 unfold spl
 rw [show colon (bl Zqf) = none from by decide]
 simp only
 split <;> rfl
def decl (x : Pr) : Option ByteArray:=if x.1 = Zqf then some kE else if (spl (bl x.1)).2.2 = true /\ (spl (bl x.1)).1 = bl Zqf then some (mkB (spl (bl x.1)).2.1) else none
def memB (p : ByteArray) (l : List ByteArray) : Bool:=l.any fun x => decide (x = p)
theorem memB_iff {p : ByteArray} {l : List ByteArray} : memB p l = true ↔ p ∈ l:=by
 unfold memB
 rw [any_eq_true]
 exact ⟨fun ⟨x, h1, h2⟩ => of_decide_eq_true h2 ▸ h1, fun h => ⟨p, h, decide_eq_true rfl⟩⟩
def Yco (p u : ByteArray) : Int :=
 if p = Zqf \/ u = kSX \/ (decide (p = kXml) ≠ decide (u = Zys)) then 29 else if p ≠ kE /\ u = kE then 28 else if u.size > 100 then 6 else 0
def Zzl (B : List Pr) (p : ByteArray) : ByteArray × Bool:=if p = kXml then (Zys, true) else match B.find? (fun b => decide (b.1 = p)) with | some b => (b.2, true) | none => (kE, decide (p = kE))
def YaR (bound : ByteArray -> ByteArray × Bool) (q : ByteArray) : Pr × Int :=
 if (spl (bl q)).2.2 = false then ((kE, kE), 24)
 else if mkB (spl (bl q)).1 = Zqf then ((kE, kE), 29)
 else if (bound (mkB (spl (bl q)).1)).2 = false then ((kE, kE), 28)
 else (((bound (mkB (spl (bl q)).1)).1, mkB (spl (bl q)).2.1), 0)
def putP (B : List Pr) (p u : ByteArray) : List Pr:=B.filter (fun b => !decide (b.1 = p)) ++ (if p ≠ kXml /\ u ≠ kE then [(p, u)] else [])
def ZyD : List Pr -> List ByteArray -> List Pr -> List Pr × Int
 | [], _, B => (B, 0)
 | x :: L, had, B => match decl x with
  | none => ZyD L had B
  | some p => if Yco p x.2 ≠ 0 then ([], Yco p x.2) else if memB p had = true then ([], 27) else ZyD L (had ++ [p]) (putP B p x.2)
def strs (l : List ByteArray) : List Value:=l.map .string
theorem ZzK (l : List ByteArray) : (strs l).length = l.length:=by simp [strs]
theorem Yhr (l : List ByteArray) : one1 (strs l):=by
 intro v hv; obtain ⟨b, _, rfl⟩:=mem_map.1 hv; rfl
def str1 (s : ByteArray) : List Value:=[.string s]
theorem rows_str1 (l : List ByteArray) : rows str1 l = strs l:=by
 induction l with
 | nil => rfl
 | cons b bs ih => rw [YaB, ih]; rfl
theorem even_str1 (L : List ByteArray) : Ygo str1 1 L:=fun _ _ => rfl
theorem Yhb {w : World} {p : Option Addr} {l : Nat} {xs : List ByteArray} {i : Int} {K : ByteArray -> Prop} (h : Sl w p l 1 (strs xs)) (h0 : 0 <= i) (h1 : i < l) (k : ∀ s, xs[i.toNat]? = some s -> K s) : ZzS p l i fun a => ldStr w (a.add (i.toNat * 1)) K:=by
 rw [<- rows_str1] at h
 exact ZzT h (even_str1 xs) (by decide) h0 h1 fun a s _ hs hc => ⟨s, ZzG hc, k s hs⟩
theorem pr_i {w : World} {p : Option Addr} {l : Nat} {xs : List Pr} {i : Int} {K : Addr -> Prop} (h : Sl w p l 2 (rows pr xs)) (h0 : 0 <= i) (h1 : i < l) (k : ∀ (a : Addr) x, xs[i.toNat]? = some x -> w.cell? (a.add (i.toNat * 2)) = some (.string x.1) -> w.cell? ((a.add (i.toNat * 2)).add 1) = some (.string x.2) -> K a) : ZzS p l i K :=
 ZzT h (YdC xs) (by decide) h0 h1 fun a x _ hx hc => k a x hx (ZzG hc) (Yfh hc 1 rfl)
end Go.Vc
namespace Go.Proofs.YtglnmjflpkeclaaGreatDoor
open Go Go.Vc Go.Lib
theorem YcX : SlT Tryz.prog Zyn Zz8 1 16 #[.string ByteArray.empty]:=SlT.of (by kernel_rfl) (by kernel_rfl) rfl (by decide)
theorem slT_bind : SlT Tryz.prog Zq3 Zzp 2 32 #[.string ByteArray.empty, .string ByteArray.empty]:=SlT.of (by kernel_rfl) (by kernel_rfl) rfl (by decide)
theorem YeY : Zy2 Tryz.prog Zzh = #[.slice none 0 0]:=by kernel_rfl
theorem YfV : Zy2 Tryz.prog Zzo = #[.string ByteArray.empty, .string ByteArray.empty]:=by kernel_rfl
theorem zeroC_bind : Zy2 Tryz.prog Zzp = #[.string ByteArray.empty, .string ByteArray.empty]:=by kernel_rfl
theorem Ye8 : Zy2 Tryz.prog Zz8 = #[.string ByteArray.empty]:=by kernel_rfl
theorem YfW : Zy2 Tryz.prog Zyr = #[.string ByteArray.empty, .string ByteArray.empty]:=by kernel_rfl
theorem YfH {w0 : World} {p : Option Addr} (h : fresh w0 p) : ∀ b, b < w0.heap.size -> isB p b -> No b:=by
 rintro b hb ⟨a, ha, rfl⟩
 have:=h a ha; omega
section
variable {w : World}
theorem New_ok {J : Option Addr -> Nat -> Nat -> World -> Prop} (k : ∀ w', Chg No w w' -> J none 0 0 w') : Zz0 Tryz.prog Yem #[] w [.agg [.slice]] J:=by
 refine c_scope_New ?_
 rw [YeY]
 refine (Hp.start w No).newB fun b0 w1 H1 _ _ => ?_
 refine H1.stN 0 rfl (off:=0) rfl (by simp) (Ya5 rfl YeB) fun w2 H2 _ => ?_
 refine H2.ldS 0 rfl (off:=0) rfl ?_
 exact k w2 H2.chg
theorem DeclP_ok {x : Pr} {J : ByteArray -> Bool -> World -> Prop} (hs : x.1.size <= 9223372036854775806) (T : Tabs w) (K : ∀ p w', Chg No w w' -> (∀ y, decl x = some y -> p = y) -> J p (decl x).isSome w') :
  Zz0 Tryz.prog ZqM #[.agg ⟨[.string x.1, .string x.2]⟩] w [.one .str, .one .bool] J:=by
 refine YgL ?_
 refine (Hp.start w No).newB fun b1 w1 H1 _ hc1 => ?_
 refine H1.ldStr 0 rfl (off:=0) rfl ?_
 refine YfS hs (T.chg hc1) fun a b ok w2 hc2 hsp => ?_
 have H2:=H1.step0 hc2
 unfold Spl at hsp
 have ea : bl a = (spl (bl x.1)).1:=congrArg Prod.fst hsp
 have eb : bl b = (spl (bl x.1)).2.1:=congrArg (fun z => z.2.1) hsp
 have eo : ok = (spl (bl x.1)).2.2:=congrArg (fun z => z.2.2) hsp
 refine Zz7 fun J14 hJ14 => ?_
 have k14 : ∀ c, (c = true ↔ ((spl (bl x.1)).2.2 = true /\ (spl (bl x.1)).1 = bl Zqf)) -> J14 c w2:=by
  intro c hcc; subst hJ14
  refine Yan hcc (fun hh => ?_) (fun hn => ?_)
  ·have hne : x.1 ≠ Zqf:=fun e => by rw [e, spl_xmlns] at hh; exact absurd hh.2 (by decide)
   have e : decl x = some b:=by unfold decl; rw [if_neg hne, if_pos hh, mkB_eq eb]
   have:=K b w2 H2.chg (fun y hy => by rw [e] at hy; exact Option.some.inj hy)
   rw [e] at this; exact this
  ·refine H2.ldStr 0 rfl (off:=0) rfl ?_
   rw [show (⟨#[120, 109, 108, 110, 115]⟩ : ByteArray) = Zqf from rfl, Ycl]
   refine Zz4 (fun he => ?_) (fun hne => ?_)
   ·have e : decl x = some kE:=by unfold decl; rw [if_pos he]
    have:=K kE w2 H2.chg (fun y hy => by rw [e] at hy; exact Option.some.inj hy)
    rw [e] at this; exact this
   ·have e : decl x = none:=by unfold decl; rw [if_neg hne, if_neg hn]
    have:=K kE w2 H2.chg (fun y hy => by rw [e] at hy; cases hy)
    rw [e] at this; exact this
 clear hJ14
 refine Zz9 (fun ht => k14 _ ?_) (fun hf => k14 false (bF fun h => by rw [<- eo, hf] at h; cases h.1))
 rw [show (⟨#[120, 109, 108, 110, 115]⟩ : ByteArray) = Zqf from rfl, Ycl]
 refine bD ?_
 rw [<- ea, <- eo, ht]
 exact ⟨fun e => ⟨rfl, by rw [e]⟩, fun e => Zqt e.2⟩
theorem Wrong_ok {p u : ByteArray} {J : Int -> World -> Prop} (k : J (Yco p u) w) : Zz0 Tryz.prog YcL #[.string p, .string u] w [.one (.int .i64)] J:=by
 refine c_scope_wrong ?_
 rw [show (⟨#[120, 109, 108, 110, 115]⟩ : ByteArray) = Zqf from rfl, show (⟨#[120, 109, 108]⟩ : ByteArray) = kXml from rfl, show (⟨#[]⟩ : ByteArray) = kE from rfl,
  show (⟨#[104, 116, 116, 112, 58, 47, 47, 119, 119, 119, 46, 119, 51, 46, 111, 114, 103, 47, 50, 48, 48, 48, 47, 120, 109, 108, 110, 115, 47]⟩ : ByteArray) = kSX from rfl,
  show (⟨#[104, 116, 116, 112, 58, 47, 47, 119, 119, 119, 46, 119, 51, 46, 111, 114, 103, 47, 88, 77, 76, 47, 49, 57, 57, 56, 47, 110, 97, 109, 101, 115, 112, 97, 99, 101]⟩ : ByteArray) = Zys from rfl]
 simp only [Ycl]
 unfold Yco at k
 refine Zz7 fun J5 hJ5 => ?_
 have k5 : ∀ b, (b = true ↔ (p = Zqf \/ u = kSX \/ (decide (p = kXml) ≠ decide (u = Zys)))) -> J5 b w:=by
  intro b hb; subst hJ5
  refine Yan hb (fun hh => by rw [if_pos hh] at k; exact k) (fun hn => ?_)
  rw [if_neg hn] at k
  refine Zz7 fun J15 hJ15 => ?_
  have k15 : ∀ b, (b = true ↔ (p ≠ kE /\ u = kE)) -> J15 b w:=by
   intro b hb; subst hJ15
   refine Yan hb (fun hh => by rw [if_pos hh] at k; exact k) (fun hn => ?_)
   rw [if_neg hn] at k
   refine Zz4 (fun h => by rw [if_pos (by omega)] at k; exact k) (fun h => by rw [if_neg (by omega)] at k; exact k)
  clear hJ15
  refine Zzm (fun h => k15 _ (bD ⟨fun e => ⟨of_decide_eq_false h, e⟩, fun e => e.2⟩)) (fun h => k15 false (bF fun e => e.1 (of_decide_eq_true h)))
 clear hJ5
 refine Zz4 (fun h => k5 _ (bD ⟨fun e => .inl e, fun _ => h⟩)) (fun h1 => ?_)
 refine Zz4 (fun h => k5 _ (bD ⟨fun e => .inr (.inl e), fun _ => h⟩)) (fun h2 => ?_)
 refine k5 _ ?_
 rw [Bool.not_eq_true', beq_eq_false_iff_ne]
 exact ⟨fun e => .inr (.inr e), fun e => e.resolve_left h1 |>.resolve_left h2⟩
theorem SIndex_ok {p : Option Addr} {l c : Nat} {xs : List ByteArray} {v : ByteArray} {J : Bool -> World -> Prop} (h : Sl w p l 1 (strs xs)) (hm : l <= 140737488355328) (k : J (memB v xs) w) :
    Zz0 Tryz.prog Zyd #[.slice p l c, .string v] w [.one .bool] J:=by
  refine Yay ?_
  refine Yb3 ?_
  have hl : xs.length = l:=by have:=h.1; rw [ZzK] at this; omega
  refine ⟨fun x w' t => ∃ i : Nat, x = i /\ i <= l /\ t = l - i /\ w' = w /\ v ∉ xs.take i, ⟨_, 0, rfl, Nat.zero_le _, rfl, rfl, by simp⟩, ?_⟩
  rintro x w' t ⟨i, rfl, hi, rfl, rfl, hno⟩
  refine Zz4 (fun hlt => ?_) (fun hge => ?_)
  · refine Yhb h (by omega) hlt fun s hs => ?_
    rw [Int.toNat_natCast] at hs
    rw [Ycl]
    refine Zz4 (fun he => ?_) (fun hne => ?_)
    · rw [show memB v xs = true from memB_iff.2 (by rw [he]; exact List.mem_of_getElem? hs)] at k
      show J (decide ((i : Int) >= 0)) w'
      rw [show decide ((i : Int) >= 0) = true from decide_eq_true (by omega)]
      exact k
    · refine ⟨_, by omega, i + 1, by rw [Zzb] <;> omega, by omega, rfl, rfl, ?_⟩
      obtain ⟨h1, h2⟩:=List.getElem?_eq_some_iff.1 hs
      rw [List.take_succ_eq_append_getElem h1, h2, List.mem_append, not_or]
      exact ⟨hno, fun hm => hne (List.mem_singleton.1 hm)⟩
  · have : i = l:=by omega
    subst this
    rw [List.take_of_length_le (by omega)] at hno
    rw [show memB v xs = false from by cases hb : memB v xs with | false => rfl | true => exact absurd (memB_iff.1 hb) hno] at k
    show J (decide ((-1 : Int) >= 0)) w'
    exact k
theorem BindClone_ok {p : Option Addr} {l c : Nat} {B : List Pr} {J : Option Addr -> Nat -> Nat -> World -> Prop} (h : Sl w p l 2 (rows pr B)) (hp : p = none -> l = 0) (hm : l <= 1000000000)
  (k : ∀ p' c' w', Row w' Zzp 2 p' l c' (rows pr B) -> fresh w p' -> Chg No w w' -> J p' l c' w') :
  Zz0 Tryz.prog Zy1 #[.slice p l c] w [.one .slice] J :=
 ZqD (clone_cond slT_bind h (one1_prs B) hp (by omega) (by simp only [maxLen]; omega) k)
theorem Clos_ok {b : Pr} {cp : Addr} {p : ByteArray} {J : Bool -> World -> Prop} (hc : w.cell? cp = some (.string p)) (k : ∀ w', Chg No w w' -> J (decide (b.1 = p)) w') :
  Zz0 Tryz.prog Zxk #[.agg ⟨[.string b.1, .string b.2]⟩, .pointer (some cp)] w [.one .bool] J:=by
 refine YeP ?_
 refine (Hp.start w No).newB fun b1 w1 H1 _ hc1 => ?_
 refine H1.ldStr 0 rfl (off:=0) rfl ?_
 refine ZzB (hc1.cell hc (fun h => h)) ?_
 rw [Ycl]
 exact k w1 hc1
theorem Ybo {α : Type} {P : α -> Bool} {L : List α} {i : Nat} {x : α} (h : L[i]? = some x) : (L.take (i + 1)).filter P = (L.take i).filter P ++ (if P x then [x] else []):=by
  obtain ⟨h1, h2⟩:=List.getElem?_eq_some_iff.1 h
  rw [List.take_succ_eq_append_getElem h1, List.filter_append, h2]
  congr 1
  cases hx : P x <;> simp [hx]
theorem BindIdx_ok {p : Option Addr} {l c : Nat} {B : List Pr} {cp : Addr} {v : ByteArray} {J : Int -> World -> Prop} (h : Sl w p l 2 (rows pr B)) (hm : l <= 1000000000) (hcp : w.cell? cp = some (.string v))
    (k0 : (∀ b ∈ B, b.1 ≠ v) -> ∀ w', Chg No w w' -> J (-1) w') (k1 : ∀ (i : Nat) b, B[i]? = some b -> b.1 = v -> (∀ b ∈ B.take i, b.1 ≠ v) -> ∀ w', Chg No w w' -> J i w') :
    Zz0 Tryz.prog ZzR #[.slice p l c, .func (.func 119) #[] #[.pointer (some cp)]] w [.one (.int .i64)] J:=by
  refine Zx0 ?_
  have hl:=h.row (YdC B) (by decide)
  refine ⟨fun x w' t => ∃ i : Nat, x = i /\ i <= l /\ t = l - i /\ Chg No w w' /\ ∀ b ∈ B.take i, b.1 ≠ v, ⟨_, 0, rfl, Nat.zero_le _, rfl, Chg.refl _ _, by simp⟩, ?_⟩
  rintro x w1 t ⟨i, rfl, hi, rfl, hc, hno⟩
  refine Zz4 (fun hlt => ?_) (fun hge => ?_)
  · refine pr_i (h.chg hc (off_no _)) (by omega) hlt fun a y hy h1 h2 => ?_
    rw [Int.toNat_natCast] at hy
    refine ZzB h1 (ZzB h2 ?_)
    refine Clos_ok (hc.cell hcp (fun h => h)) fun w2 hc2 => ?_
    refine Zz4 (fun he => k1 i y hy he hno w2 (hc.trans0 hc2)) (fun hne => ?_)
    refine ⟨_, by omega, i + 1, by rw [Zzb] <;> omega, by omega, rfl, hc.trans0 hc2, ?_⟩
    obtain ⟨g1, g2⟩:=List.getElem?_eq_some_iff.1 hy
    intro b hb
    rw [List.take_succ_eq_append_getElem g1, List.mem_append] at hb
    rcases hb with hb | hb
    · exact hno b hb
    · rw [List.mem_singleton.1 hb, g2]; exact hne
  · have : i = l:=by omega
    subst this
    rw [List.take_of_length_le (by omega)] at hno
    exact k0 hno w1 hc
theorem Del_ok {p : Option Addr} {l c : Nat} {B : List Pr} {cp : Addr} {v : ByteArray} {J : Option Addr -> Nat -> Nat -> World -> Prop} (h : Row w Zzp 2 p l c (rows pr B)) (hm : l <= 1000000000) (hcp : w.cell? cp = some (.string v)) (tcp : typ w cp.block = some Zz8)
    (k : ∀ l' w', Row w' Zzp 2 p l' c (rows pr (B.filter fun b => !decide (b.1 = v))) -> Chg (isB p) w w' -> l' <= l -> J p l' c w') :
    Zz0 Tryz.prog ZzM #[.slice p l c, .func (.func 119) #[] #[.pointer (some cp)]] w [.one .slice] J:=by
  refine ZyY ?_
  have hl:=h.sl.row (YdC B) (by decide)
  have nocp : ∀ {w'}, Row w' Zzp 2 p l c (rows pr B) -> True:=fun _ => trivial
  have offcp : ∀ b, isB p b -> ¬ b = cp.block:=by
    rintro b ⟨a, ha, rfl⟩ e
    have:=h.typ a ha
    rw [e, tcp] at this
    exact absurd this (by decide)
  refine BindIdx_ok h.sl hm hcp (fun hno w1 hc1 => ?_) (fun r y hy hyv hno w1 hc1 => ?_)
  · refine Zz9 (fun _ => ?_) (fun h => absurd h (by decide))
    have e : (B.filter fun b => !decide (b.1 = v)) = B:=List.filter_eq_self.2 fun b hb => by simp [hno b hb]
    refine k l w1 ?_ (hc1.mono fun _ _ h => h.elim) (Nat.le_refl _)
    rw [e]; exact h.chg hc1 (off_no _)
  · have hr1:=h.chg hc1 (off_no _)
    obtain ⟨hrl, ey⟩:=List.getElem?_eq_some_iff.1 hy
    refine Zzd (fun h => by omega) fun _ => ?_
    have e1 : w64 ((r : Int) + 1) = ((r + 1 : Nat) : Int):=by rw [Zzb] <;> omega
    rw [e1]
    refine ⟨fun x y w' t => ∃ (i j : Nat) (X : List Pr), x = i /\ y = j /\ i < j /\ j <= l /\ t = l - j /\ Chg (isB p) w w' /\ Row w' Zzp 2 p l c (rows pr X) /\ X.length = l /\ X.take i = ((B.take j).filter fun b => !decide (b.1 = v)) /\ X.drop j = B.drop j,
      ⟨_, r, r + 1, B, rfl, rfl, by omega, by omega, rfl, hc1.mono fun _ _ h => h.elim, hr1, hl, ?_, rfl⟩, ?_⟩
    · rw [Ybo hy]
      have e2 : ((B.take r).filter fun b => !decide (b.1 = v)) = B.take r:=List.filter_eq_self.2 fun b hb => by simp [hno b hb]
      rw [e2, hyv]; simp
    rintro x y w2 t ⟨i, j, X, rfl, rfl, hij, hj, rfl, hc2, hr2, hXl, hXt, hXd⟩
    refine Zz4 (fun hlt => ?_) (fun hge => ?_)
    · refine Zz7 fun J5 hJ5 => ?_
      have hBj : B[j]? = some B[j]:=List.getElem?_eq_getElem (by omega)
      have hXj : X[j]? = B[j]? := by
        have:=congrArg (fun z => z[0]?) hXd
        simpa using this
      have k5 : ∀ (i' : Nat) w3 X', i' <= j -> Chg (isB p) w w3 -> Row w3 Zzp 2 p l c (rows pr X') -> X'.length = l -> X'.take i' = ((B.take (j + 1)).filter fun b => !decide (b.1 = v)) -> X'.drop (j + 1) = B.drop (j + 1) -> J5 (i' : Int) w3:=by
        intro i' w3 X' h0 h1 h2 h3 h4 h5; subst hJ5
        exact ⟨_, by omega, i', j + 1, X', rfl, by rw [Zzb] <;> omega, by omega, by omega, rfl, h1, h2, h3, h4, h5⟩
      clear hJ5
      refine pr_i hr2.sl (by omega) hlt fun a z hz h1 h2 => ?_
      rw [Int.toNat_natCast, hXj, hBj] at hz
      cases hz
      refine ZzB h1 (ZzB h2 ?_)
      rw [zeroC_bind]
      refine (Hp.start w2 No).newB fun b7 w4 H4 hb7 hc4 => ?_
      refine H4.stN 0 rfl (off:=0) rfl (by simp) (YaZ _) fun w5 H5 hc5 => ?_
      have e5 : splice [Value.string ByteArray.empty, Value.string ByteArray.empty] 0 (pr B[j]) = pr B[j]:=ZyK rfl
      have H5' : Hp w2 No w5 [⟨b7, pr B[j], Zzp⟩]:=by rw [<- e5]; exact H5
      refine H5'.ldStr 0 rfl (off:=0) rfl ?_
      refine H5'.ldStr 0 rfl (off:=1) rfl ?_
      have cpc : ∀ {w'}, Chg (isB p) w w' -> w'.cell? cp = some (.string v):=fun hc => hc.cell hcp fun hb => offcp _ hb rfl
      refine Clos_ok (cpc (hc2.trans0 H5'.chg)) fun w6 hc6 => ?_
      have H6:=H5'.step0 hc6
      have hr6:=hr2.chg H6.chg (off_no _)
      have hc06:=hc2.trans0 H6.chg
      refine Zzm (fun hkeep => ?_) (fun hdel => ?_)
      · refine H6.ldStr 0 rfl (off:=0) rfl ?_
        refine H6.ldStr 0 rfl (off:=1) rfl ?_
        refine Row.stE (YdC X) hr6 (by omega) (by omega) (x:=B[j]) rfl (YaZ _) (by decide) fun w7 hr7 hc7 => ?_
        rw [Int.toNat_natCast] at hr7
        have ei : w64 ((i : Int) + 1) = ((i + 1 : Nat) : Int):=by rw [Zzb] <;> omega
        rw [ei]
        refine k5 (i + 1) w7 _ (by omega) (hc06.trans hc7 fun _ _ h => h) hr7 (by rw [List.length_set]; exact hXl) ?_ ?_
        · rw [Ybo hBj, <- hXt]
          have hk : (!decide (B[j].1 = v)) = true:=by rw [hkeep]; rfl
          rw [hk]
          have hs : (X.set i B[j])[i]? = some B[j]:=by rw [List.getElem?_set_self (by omega)]
          obtain ⟨g1, g2⟩:=List.getElem?_eq_some_iff.1 hs
          rw [List.take_succ_eq_append_getElem g1, g2, List.take_set_of_le (Nat.le_refl _)]; rfl
        · rw [List.drop_set_of_lt (by omega)]
          have:=congrArg (List.drop 1) hXd
          rw [List.drop_drop, List.drop_drop] at this
          exact this
      · refine k5 i w6 X (by omega) hc06 hr6 hXl ?_ ?_
        · rw [Ybo hBj, <- hXt]
          have hk : (!decide (B[j].1 = v)) = false:=by rw [hdel]; rfl
          rw [hk]; simp
        · have:=congrArg (List.drop 1) hXd
          rw [List.drop_drop, List.drop_drop] at this
          exact this
    · have hjl : j = l:=by omega
      subst hjl
      have hXt' : X.take i = B.filter fun b => !decide (b.1 = v):=by rw [hXt, List.take_of_length_le (by omega)]
      have hsplit : rows pr X = rows pr (X.take i) ++ rows pr (X.drop i):=by rw [<- Zyx, List.take_append_drop]
      rw [hsplit, hXt'] at hr2
      have hfl : (rows pr (B.filter fun b => !decide (b.1 = v))).length = i * 2:=by
        rw [Yag (YdC _), <- hXt', List.length_take, hXl]; congr 1; omega
      refine clr_row slT_bind (Ya5 rfl (Ya5 rfl YeB)) hr2 hfl (by omega) fun w8 hr8 hc8 => ?_
      have hle:=hr2.le
      refine slS_pre (hr2.at0 (by omega)) (by omega) (by omega) ?_
      exact k i w8 hr8 (hc2.trans hc8 fun _ _ h => h) (by omega)
end
end Go.Proofs.YtglnmjflpkeclaaGreatDoor
end
section
namespace Go.Proofs.YtglnmjflpkeclaaGreatDoor
open Go Go.Vc Go.Lib
theorem OnceDo_ok {w0 w : World} {S : Nat -> Prop} {Γ : List Blk} {b : Nat} {rest : List Value} {e : TypeId} (H : Hp w0 S w (⟨b, .int .u32 0 :: .int .i32 0 :: rest, e⟩ :: Γ)) {J : World -> Prop}
  (hb : ∀ w1, Hp w0 S w1 (⟨b, .int .u32 0 :: .int .i32 1 :: rest, e⟩ :: Γ) -> Zz0 Tryz.prog ZyO #[.pointer (some ⟨b, 0, none⟩)] w1 [] fun w' => ∃ rest' Γ', Hp w0 S w' (⟨b, .int .u32 0 :: .int .i32 1 :: rest', e⟩ :: Γ') /\ ∀ w'', Hp w0 S w'' (⟨b, .int .u32 1 :: .int .i32 0 :: rest', e⟩ :: Γ') -> Chg (fun x => x = b) w' w'' -> J w'') :
  Zz0 Tryz.prog Yel #[.pointer (some ⟨b, 0, none⟩), .func (.func 138) #[.pointer (some ⟨b, 0, none⟩)] #[]] w [] J:=by
 refine c_sync_Once_Do ?_
 refine Calls.mono (loadM ⟨b, 0, none⟩ w (H.cell 0 rfl rfl)) fun e' w' he => ?_
 obtain ⟨rfl, rfl⟩:=he
 refine ⟨false, rfl, ?_⟩
 refine Zz9 (fun _ => ?_) (fun h => by cases h)
 refine Calls.mono (doSlow_ok H (R:=J) fun w1 H1 => ?_) fun e' w' he => he
 exact Calls.mono (hb w1 H1) fun e' w' he => he
theorem YeX {w : World} {p : Option Addr} {l c : Nat} {os : List ByteArray} {J : Option Addr -> World -> Prop} (h : Sl w p l 1 (strs os)) (hl : l % 2 = 0) (hm : l <= 1000) (h0 : l ≠ 0)
  (K : ∀ b bq rest q w', Hp w No w' [⟨b, [.int .u32 0, .int .i32 0, .int .u32 0, .nilIface, .slice (some ⟨bq, 0, none⟩) l q], ZzQ⟩, ⟨bq, strs os ++ rest, Zz8⟩] -> Fit (strs os) rest l q 1 -> J (some ⟨b, 0, none⟩) w') :
  Zz0 Tryz.prog Zx7 #[.slice p l c] w [.one .ptr] J:=by
 refine Yes ?_
 refine ⟨by decide, ?_⟩
 have hmod : (Int.tmod (l : Int) 2 == 1) = false:=by
  have : Int.tmod (l : Int) 2 = ((l % 2 : Nat) : Int):=rfl
  rw [this, hl]; rfl
 rw [hmod]
 refine Zz9 (fun h => by cases h) (fun _ => ?_)
 refine YbR YcX (Row.nil w Zz8 1) h (Yhr _) (fun e => ?_) (by omega) (by simp only [maxLen]; omega) fun p' c' w' hr hc hf => ?_
 ·obtain ⟨a, ha, _⟩:=h.at h0
  rw [e] at ha; cases ha
 rw [nil_append, Nat.zero_add] at *
 obtain ⟨bq, rest, rfl, hq, hF⟩:=hr.fit (fun e => by have:=hr.none0 e; omega)
 have hfr : w.heap.size <= bq:=by
  rcases hf with hf | hf
  ·cases hf
  ·exact hf ⟨bq, 0, none⟩ rfl
 have hc' : Chg No w w':=hc.mono fun b hb hS => by
  obtain ⟨z, hz, _⟩:=hS; cases hz
 have H1 : Hp w No w' [⟨bq, strs os ++ rest, Zz8⟩]:=(Hp.of_chg hc').add hq (by simp) (fun h => by omega)
 refine H1.newB fun b w'' H2 hb hc2 => ?_
 exact K b bq rest c' w'' H2 hF
end Go.Proofs.YtglnmjflpkeclaaGreatDoor
namespace Go.Proofs.YtglnmjflpkeclaaGreatDoor
open Go Go.Vc Go.Lib
set_option maxRecDepth 100000 in
set_option maxHeartbeats 1600000 in
theorem Replace_hand {w : World} {b : Nat} {s : ByteArray} {R : Ending -> World -> Prop}
  (h1 : Calls Tryz.prog 137 #[.pointer (some ⟨b, 0, none⟩), .func (.func 138) #[.pointer (some ⟨b, 0, none⟩)] #[]] w fun e w1 => e = .returned (.tuple #[]) /\ ∃ bB, w1.cell? ⟨b, 3, none⟩ = some (.iface Zzu (.pointer (some ⟨bB, 0, none⟩))) /\
   Calls Tryz.prog 275 #[.pointer (some ⟨bB, 0, none⟩), .string s] w1 fun e w2 => ∃ r, e = .returned (.string r) /\ R (.returned (.string r)) w2) :
  Calls Tryz.prog 90 #[.pointer (some ⟨b, 0, none⟩), .string s] w R:=by
 have hm : ∀ (bB : Nat) (w : World), Sem.run Tryz.prog (method 431 Zzu (Value.pointer (some ⟨bB, 0, none⟩)) "Replace") w = .ok (275, Value.pointer (some ⟨bB, 0, none⟩)) w:=fun bB w => by kernel_rfl
 go_enter Tryz.func90, Tryz.ntmps90
 go_wp2_with (first
  | (go_at_call 137; refine h1.mono ?_; rintro e w1 ⟨rfl, bB, hc, h2⟩)
  | (go_at_call 275; refine h2.mono ?_; rintro e w2 ⟨r, rfl, hR⟩))
 exact hR
end Go.Proofs.YtglnmjflpkeclaaGreatDoor
namespace Go.Vc
open Go Go.Lib
abbrev BP:=UInt8 × List UInt8
def Zx2 (ps : List BP) (c : UInt8) : Option (List UInt8):=(ps.find? fun p => decide (p.1 = c)).map Prod.snd
def olds (ps : List BP) : List ByteArray:=ps.flatMap fun p => [mkB [p.1], mkB p.2]
theorem Yhs : ∀ {ps : List BP} {j : Nat} {p : BP}, ps[j]? = some p -> (olds ps)[2 * j]? = some (mkB [p.1]) /\ (olds ps)[2 * j + 1]? = some (mkB p.2)
 | [], _, _, h => by simp at h
 | q :: ps, 0, p, h => by simp at h; subst h; exact ⟨rfl, rfl⟩
 | q :: ps, j + 1, p, h => by
  rw [getElem?_cons_succ] at h
  obtain ⟨a, b⟩:=Yhs h
  have e : olds (q :: ps) = mkB [q.1] :: mkB q.2 :: olds ps:=rfl
  rw [e, show 2 * (j + 1) = 2 * j + 1 + 1 from by omega, getElem?_cons_succ, getElem?_cons_succ, getElem?_cons_succ, getElem?_cons_succ]
  exact ⟨a, b⟩
theorem lookT_cons (p : BP) (ps : List BP) (c : UInt8) : Zx2 (p :: ps) c = if p.1 = c then some p.2 else Zx2 ps c:=by
 unfold Zx2
 rw [find?_cons]
 by_cases h : p.1 = c
 ·rw [decide_eq_true h, if_pos h]; rfl
 ·rw [decide_eq_false h, if_neg h]
def TCell (w : World) (v : Value) (o : Option (List UInt8)) : Prop:=match o with
 | none => v = .slice none 0 0
 | some bs => ∃ a l c, v = .slice (some a) l c /\ Bytes w (some a) l bs /\ l = bs.length /\ ∃ e, typ w a.block = some e /\ e = 5
theorem TCell.chg {w w' : World} {S : Nat -> Prop} {v : Value} {o : Option (List UInt8)} (h : TCell w v o) (hc : Chg S w w') (hn : ∀ b, S b -> typ w b ≠ some 5) : TCell w' v o:=by
 unfold TCell at *
 cases o with
 | none => exact h
 | some bs =>
  obtain ⟨a, l, c, h1, h2, h3, e, h4, rfl⟩:=h
  have hna : ¬ S a.block:=fun hS => hn _ hS h4
  exact ⟨a, l, c, h1, h2.chg hc (fun x hx => by cases hx; exact hna), h3, _, Zxh hc h4 hna, rfl⟩
theorem Yhd (b : UInt8) : (mkB [b]).size = 1:=rfl
end Go.Vc
namespace Go.Proofs.YtglnmjflpkeclaaGreatDoor
open Go Go.Vc Go.Lib
section
variable {w : World}
theorem cvB2 {s : ByteArray} {K : Option Addr -> Nat -> Nat -> World -> Prop} (k : ∀ b c w', Bytes w' (some ⟨b, 0, none⟩) s.size (bl s) -> typ w' b = some Zzs -> w.heap.size <= b -> Chg No w w' -> K (some ⟨b, 0, none⟩) s.size c w') :
    cvJ Tryz.prog Zz8 Zzj (.string s) w K:=by
  refine ⟨_, _, _, _, Lib.run_convert_string_bytes (P:=Tryz.prog) w Zz8 Zzj Zzs s (u := .string) (by kernel_rfl) (by kernel_rfl) (by kernel_rfl), k _ _ _ ⟨by rw [Zyc, Zzn, Nat.mul_one], .inr ⟨_, rfl, ?_⟩⟩ ?_ (Nat.le_refl _) ?_⟩
  · intro j v hv
    unfold bcells at hv
    rw [List.getElem?_map, Option.map_eq_some_iff] at hv
    obtain ⟨b, hb, rfl⟩:=hv
    have hj : j < s.size:=by rw [<- Zzn]; exact (List.getElem?_eq_some_iff.1 hb).1
    have:=Lib.bytesWorld_cell w Zzs s j hj
    rw [Addr.add_mk, Nat.zero_add, this, List.getD_eq_getElem?_getD, hb]; rfl
  · unfold typ; rw [Lib.bytesWorld_at_new]
  · exact ⟨rfl, rfl, rfl, by rw [Lib.bytesWorld_size]; omega, fun b hb _ => Lib.bytesWorld_at_old w Zzs s b hb⟩
theorem zeroC_bsr : Zy2 Tryz.prog Zzg = ⟨replicate 257 (.slice none 0 0)⟩:=by kernel_rfl
structure Table (w : World) (ps : List BP) (C : List Value) (ks : List UInt8) : Prop where
 len : C.length = 256
 cell : ∀ (c : UInt8) v, C[c.toNat]? = some v -> TCell w v (Zx2 ps c)
 keys : ∀ c, c ∈ ks ↔ Zx2 ps c ≠ none
 nd : ks.Nodup
 le : ks.length <= ps.length
theorem Table.chg {w w' : World} {ps : List BP} {C : List Value} {ks : List UInt8} {S : Nat -> Prop} (h : Table w ps C ks) (hc : Chg S w w') (hn : ∀ b, S b -> typ w b ≠ some 5) : Table w' ps C ks :=
 ⟨h.len, fun c v hv => (h.cell c v hv).chg hc hn, h.keys, h.nd, h.le⟩
def singles (ks : List UInt8) : List ByteArray:=ks.map fun k => mkB [k]
set_option maxRecDepth 100000 in
theorem build_ok {ps : List BP} {b bq q : Nat} {rest : List Value} {rb0 rb1 rb2 rb3 : Value} {J : Value -> World -> Prop} {w0 : World}
  (H : Hp w0 No w [⟨b, [rb0, rb1, rb2, rb3, .slice (some ⟨bq, 0, none⟩) (2 * ps.length) q], ZzQ⟩, ⟨bq, strs (olds ps) ++ rest, Zz8⟩]) (F : Fit (strs (olds ps)) rest (2 * ps.length) q 1)
  (h2 : 2 <= ps.length) (hm : ps.length <= 100) (h1 : ∀ p, ps[0]? = some p -> p.2.length ≠ 1) (hs : ∀ p ∈ ps, p.2.length <= 100)
  (K : ∀ bB bt C ks rt tc w', Hp w0 No w' [⟨bB, C ++ [.slice (some ⟨bt, 0, none⟩) ks.length tc], Zzg⟩, ⟨bt, strs (singles ks) ++ rt, Zz8⟩, ⟨b, [rb0, rb1, rb2, rb3, .slice (some ⟨bq, 0, none⟩) (2 * ps.length) q], ZzQ⟩, ⟨bq, strs (olds ps) ++ rest, Zz8⟩] -> Fit (strs (singles ks)) rt ks.length tc 1 -> Table w' ps C ks -> J (.iface Zzu (.pointer (some ⟨bB, 0, none⟩))) w') :
  Zz0 Tryz.prog ZxA #[.pointer (some ⟨b, 0, none⟩)] w [.one .val] J:=by
 refine Ydb ?_
 rw [zeroC_bsr]
 refine H.ldS 0 rfl (off:=4) rfl ?_
 refine Zz7 fun J28 hJ28 => ?_
 have hgo : J28 false w:=by
  subst hJ28
  refine Zz9 (fun h => by cases h) (fun _ => ?_)
  refine ⟨fun flag i w' t => ∃ j : Nat, i = ((2 * j : Nat) : Int) /\ j <= ps.length /\ t = ps.length - j /\ w' = w /\ (j = 0 \/ flag = false), ⟨_, 0, rfl, Nat.zero_le _, rfl, rfl, .inl rfl⟩, ?_⟩
  rintro flag i w3 t ⟨j, rfl, hj, ht, rfl, hfl⟩
  refine Zz4 (fun hlt => ?_) (fun hge => ?_)
  ·have hjl : j < ps.length:=by omega
   obtain ⟨o1, o2⟩:=Yhs (getElem?_eq_getElem hjl)
   refine Zz7 fun J4 hJ4 => ?_
   have k4 : ∀ fl, (fl = false) -> J4 fl w3:=by
    intro fl hfl'; subst hJ4
    exact ⟨_, by omega, j + 1, by rw [Zzb] <;> omega, by omega, rfl, rfl, .inr hfl'⟩
   clear hJ4
   refine Yhb (H.slAt 1 rfl F) (by omega) (by omega) fun s1 hs1 => ?_
   rw [Int.toNat_natCast, o1] at hs1
   obtain rfl:=Option.some.inj hs1
   refine Zzi (fun h => absurd (by rw [Yhd]; rfl) h) fun _ => ?_
   have e1 : w64 (((2 * j : Nat) : Int) + 1) = ((2 * j + 1 : Nat) : Int):=by rw [Zzb] <;> omega
   rw [e1]
   refine Yhb (H.slAt 1 rfl F) (by omega) (by omega) fun s2 hs2 => ?_
   rw [Int.toNat_natCast, o2] at hs2
   obtain rfl:=Option.some.inj hs2
   refine Zzi (fun _ => k4 false rfl) fun he => ?_
   rcases hfl with rfl | rfl
   ·exfalso
    refine h1 _ (getElem?_eq_getElem hjl) ?_
    have : (mkB ps[0].2).size = ps[0].2.length:=by rw [<- Zzn, ZzH]
    omega
   ·exact k4 false rfl
  ·have hjn : j = ps.length:=by omega
   rcases hfl with rfl | rfl
   ·omega
   refine Zz9 (fun h => by cases h) (fun _ => ⟨by decide, ?_⟩)
   have ediv : w64 (Int.tdiv (((2 * ps.length : Nat) : Int)) 2) = ((ps.length : Nat) : Int):=by
    have : Int.tdiv (((2 * ps.length : Nat) : Int)) 2 = ((2 * ps.length / 2 : Nat) : Int):=rfl
    rw [this, Zzb] <;> omega
   rw [ediv]
   refine H.mkS (z:=Zy2 Tryz.prog Zz8) (by rw [Ye8]; rfl) (by decide) (by omega) (by omega) (by omega) fun b94 w12 H12 hb94 hc12 => ?_
   refine H12.newB fun b11 w13 H13 hb11 hc13 => ?_
   refine H13.stN (n:=257) (vs:=replicate 256 (.slice none 0 0) ++ [.slice (some ⟨b94, 0, none⟩) 0 ps.length]) 0 rfl (off:=0) rfl (by simp) ?_ fun w14 H14 hc14 => ?_
   ·intro v hv
    rcases mem_append.1 hv with h | h
    ·rw [(mem_replicate.1 h).2]; rfl
    ·rw [mem_singleton.1 h]; rfl
   simp only [set_cons_zero] at H14
   rw [ZyK (by simp)] at H14
   -- the table grows from its end
   refine ⟨fun i w' t => ∃ (j bt : Nat) (C : List Value) (ks : List UInt8) (rt : List Value) (tc : Nat), i = (2 * j : Nat) - 2 /\ j <= ps.length /\ t = j /\ Hp w0 No w' [⟨b11, C ++ [.slice (some ⟨bt, 0, none⟩) ks.length tc], Zzg⟩, ⟨bt, strs (singles ks) ++ rt, Zz8⟩, ⟨b, [rb0, rb1, rb2, rb3, .slice (some ⟨bq, 0, none⟩) (2 * ps.length) q], ZzQ⟩, ⟨bq, strs (olds ps) ++ rest, Zz8⟩] /\ Fit (strs (singles ks)) rt ks.length tc 1 /\ Table w' (ps.drop j) C ks,
    ⟨_, ps.length, b94, replicate 256 (.slice none 0 0), [], (replicate (ps.length : Int).toNat (Zy2 Tryz.prog Zz8).toList).flatten, ps.length, ?_, Nat.le_refl _, rfl, H14, ?_, ?_⟩, ?_⟩
   ·rw [Zzb] <;> omega
   ·refine ⟨rfl, Nat.zero_le _, by simp only [maxLen]; omega, ?_⟩
    rw [Ye8]
    simp [strs, singles]
   ·rw [drop_length]
    refine ⟨by simp, fun c v hv => ?_, by simp [Zx2], nodup_nil, Nat.zero_le _⟩
    have:=mem_of_getElem? hv
    rw [(mem_replicate.1 this).2]; rfl
   rintro i w15 t ⟨j, bt, C, ks, rt, tc, rfl, hj, ht, H15, F15, T15⟩
   refine Zz4 (fun hge2 => ?_) (fun hlt => ?_)
   ·have hjl : j - 1 < ps.length:=by omega
    obtain ⟨o1, o2⟩:=Yhs (getElem?_eq_getElem hjl)
    generalize hp : ps[j - 1] = kv at o1 o2
    have hdrop : ps.drop (j - 1) = kv :: ps.drop j:=by
     rw [drop_eq_getElem_cons hjl, hp, show j - 1 + 1 = j from by omega]
    have hvs : kv.2.length <= 100:=hs kv (hp ▸ getElem_mem hjl)
    have ei : ((2 * j : Nat) : Int) - 2 = ((2 * (j - 1) : Nat) : Int):=by omega
    rw [ei]
    refine Yhb (H15.slAt 3 rfl F) (by omega) (by omega) fun s1 hs1 => ?_
    rw [Int.toNat_natCast, o1] at hs1
    obtain rfl:=Option.some.inj hs1
    refine ⟨kv.1, by decide, rfl, ?_⟩
    have e1 : w64 (((2 * (j - 1) : Nat) : Int) + 1) = ((2 * (j - 1) + 1 : Nat) : Int):=by rw [Zzb] <;> omega
    rw [e1]
    refine Yhb (H15.slAt 3 rfl F) (by omega) (by omega) fun s2 hs2 => ?_
    rw [Int.toNat_natCast, o2] at hs2
    obtain rfl:=Option.some.inj hs2
    have hk:=kv.1.toNat_lt
    refine Zz7 fun J0 hJ0 => ?_
    have k0 : ∀ bt' ks' rt' tc' w16, Hp w0 No w16 [⟨b11, C ++ [.slice (some ⟨bt', 0, none⟩) ks'.length tc'], Zzg⟩, ⟨bt', strs (singles ks') ++ rt', Zz8⟩, ⟨b, [rb0, rb1, rb2, rb3, .slice (some ⟨bq, 0, none⟩) (2 * ps.length) q], ZzQ⟩, ⟨bq, strs (olds ps) ++ rest, Zz8⟩] -> Fit (strs (singles ks')) rt' ks'.length tc' 1 -> (∀ (c : UInt8) v, C[c.toNat]? = some v -> TCell w16 v (Zx2 (ps.drop j) c)) -> (∀ c, c ∈ ks' ↔ Zx2 (ps.drop (j - 1)) c ≠ none) -> ks'.Nodup -> ks'.length <= (ps.drop (j - 1)).length -> J0 w16:=by
     intro bt' ks' rt' tc' w16 g1 g2 g3 g4 g5 g6; subst hJ0
     refine cvB2 fun bv cv w17 hbv htv hbv2 hc17 => ?_
     have H17:=g1.step0 hc17
     refine ⟨by omega, by omega, ?_⟩
     simp only [ZzC, Addr.add_mk, Int.toNat_natCast]
     refine H17.stV 0 rfl (off:=0 + kv.1.toNat * 1) (by have:=T15.len; simp; omega) fun w18 H18 hc18 => ?_
     have eset : (C ++ [Value.slice (some ⟨bt', 0, none⟩) ks'.length tc']).set (0 + kv.1.toNat * 1) (.slice (some ⟨bv, 0, none⟩) (mkB kv.2).size cv) = C.set kv.1.toNat (.slice (some ⟨bv, 0, none⟩) (mkB kv.2).size cv) ++ [Value.slice (some ⟨bt', 0, none⟩) ks'.length tc']:=by
      rw [Nat.zero_add, Nat.mul_one, set_append_left _ _ (by have:=T15.len; omega)]
     simp only [set_cons_zero] at H18
     rw [eset] at H18
     have hn18 : ∀ x, x = b11 -> typ w17 x ≠ some 5:=by
      rintro x rfl h
      rw [Zzy (H17.get 0 rfl)] at h
      exact absurd h (by decide)
     refine ⟨_, by omega, j - 1, bt', _, ks', rt', tc', by rw [Zzb] <;> omega, by omega, rfl, H18, g2, ⟨by rw [length_set]; exact T15.len, fun c v hv => ?_, g4, g5, g6⟩⟩
     rw [hdrop, lookT_cons]
     by_cases hc : kv.1 = c
     ·rw [if_pos hc]
      subst hc
      rw [getElem?_set_self (by have:=T15.len; omega)] at hv
      obtain rfl:=Option.some.inj hv
      have hsz : (mkB kv.2).size = kv.2.length:=by rw [<- Zzn, ZzH]
      rw [ZzH] at hbv
      exact TCell.chg (o:=some kv.2) ⟨_, _, _, rfl, hbv, hsz, _, htv, rfl⟩ hc18 hn18
     ·rw [if_neg hc]
      have hne : kv.1.toNat ≠ c.toNat:=fun e => hc (UInt8.toNat_inj.1 e)
      rw [getElem?_set_ne hne] at hv
      exact ((g3 c v hv).chg hc17 (fun _ h => h.elim)).chg hc18 hn18
    clear hJ0
    have hCk : kv.1.toNat < C.length:=by have:=T15.len; omega
    have hcell:=T15.cell kv.1 _ (getElem?_eq_getElem hCk)
    refine ⟨by omega, by omega, ?_⟩
    simp only [ZzC, Addr.add_mk, Int.toNat_natCast]
    have hget : (C ++ [Value.slice (some ⟨bt, 0, none⟩) ks.length tc])[0 + kv.1.toNat * 1]? = some C[kv.1.toNat]:=by
     rw [Nat.zero_add, Nat.mul_one, getElem?_append_left hCk, getElem?_eq_getElem hCk]
    have hlk : ∀ c, Zx2 (ps.drop (j - 1)) c ≠ none ↔ kv.1 = c \/ Zx2 (ps.drop j) c ≠ none:=by
     intro c
     rw [hdrop, lookT_cons]
     by_cases hc : kv.1 = c
     ·rw [if_pos hc]; simp [hc]
     ·rw [if_neg hc]; simp [hc]
    have hdl : (ps.drop (j - 1)).length = (ps.drop j).length + 1:=by rw [hdrop]; rfl
    cases hlook : Zx2 (ps.drop j) kv.1 with
    | some bs =>
     rw [hlook] at hcell
     obtain ⟨a, l, c, hv, _⟩:=hcell
     rw [hv] at hget
     refine H15.ldS 0 rfl (off:=0 + kv.1.toNat * 1) hget ?_
     refine Zz9 (fun h => by cases h) (fun _ => ?_)
     refine k0 bt ks rt tc w15 H15 F15 T15.cell (fun c => ?_) T15.nd (by rw [hdl]; have:=T15.le; omega)
     rw [T15.keys, hlk]
     exact ⟨.inr, fun h => by
      rcases h with rfl | h
      ·rw [hlook]; simp
      ·exact h⟩
    | none =>
     rw [hlook] at hcell
     have hv : C[kv.1.toNat] = .slice none 0 0:=hcell
     rw [hv] at hget
     refine H15.ldS 0 rfl (off:=0 + kv.1.toNat * 1) hget ?_
     refine Zz9 (fun _ => ?_) (fun h => by cases h)
     have h256 : (C ++ [Value.slice (some ⟨bt, 0, none⟩) ks.length tc])[256]? = some (.slice (some ⟨bt, 0, none⟩) ks.length tc):=by
      rw [getElem?_append_right (by rw [T15.len]; omega), T15.len]; rfl
     refine H15.ldS 0 rfl (off:=256) h256 ?_
     refine newRow (e:=Zzs) (cs:=bcells [kv.1]) (sz:=1) (n:=1) rfl (by decide) fun b121 w19 hr19 _ hc19 => ?_
     refine Zq2 hr19.bytes ?_
     refine newRow (e:=Zz8) (cs:=strs [mkB [kv.1]]) (sz:=1) (n:=1) rfl (by decide) fun b123 w20 hr20 _ hc20 => ?_
     have H20:=(H15.step0 hc19).step0 hc20
     have T20:=(T15.chg hc19 (fun _ h => h.elim)).chg hc20 (fun _ h => h.elim)
     have hkl:=T15.le
     have hpl : (ps.drop j).length <= ps.length:=by rw [length_drop]; omega
     refine H20.appG YcX 1 rfl F15 hr20.sl (Yhr _) (by simp) (by omega) (by simp only [maxLen]; omega) fun b' rest' c' w21 H21 F21 _ hc21 => ?_
     have T21:=T20.chg hc21 (by
      rintro x rfl h
      rw [Zzy (H20.get 1 rfl)] at h
      exact absurd h (by decide))
     refine H21.stV 0 rfl (off:=256) (by have:=T15.len; simp; omega) fun w22 H22 hc22 => ?_
     have T22:=T21.chg hc22 (by
      rintro x rfl h
      rw [Zzy (H21.get 0 rfl)] at h
      exact absurd h (by decide))
     have eset : (C ++ [Value.slice (some ⟨bt, 0, none⟩) ks.length tc]).set 256 (.slice (some ⟨b', 0, none⟩) (ks.length + 1) c') = C ++ [Value.slice (some ⟨b', 0, none⟩) (ks.length + 1) c']:=by
      rw [set_append_right _ _ (by rw [T15.len]; omega), T15.len]; rfl
     have esing : strs (singles ks) ++ strs [mkB [kv.1]] = strs (singles (ks ++ [kv.1])):=by simp [strs, singles]
     simp only [set_cons_zero, set_cons_succ] at H22
     rw [eset, esing] at H22
     rw [esing] at F21
     have elen : (ks ++ [kv.1]).length = ks.length + 1:=by simp
     rw [<- elen] at H22 F21
     refine k0 b' (ks ++ [kv.1]) rest' c' w22 H22 F21 T22.cell (fun c => ?_) ?_ (by rw [hdl, elen]; omega)
     ·rw [hlk, <- T15.keys, mem_append, mem_singleton]
      exact ⟨fun h => h.elim .inr (fun e => .inl e.symm), fun h => h.elim (fun e => .inr e.symm) .inl⟩
     ·refine nodup_append.2 ⟨T15.nd, by simp, fun x hx y hy e => ?_⟩
      rw [mem_singleton.1 hy] at e
      subst e
      exact (T15.keys _).1 hx hlook
   ·have hj0 : j = 0:=by omega
    subst hj0
    rw [drop_zero] at T15
    exact K b11 bt C ks rt tc w15 H15 F15 T15
 refine Zz9 (fun h => ?_) (fun _ => hgo)
 simp at h; omega
end
end Go.Proofs.YtglnmjflpkeclaaGreatDoor
end
section
namespace Go.Proofs.YtglnmjflpkeclaaGreatDoor
open Go Go.Vc
theorem c_refer_Expand {a : Option Addr} {b c : Nat} {d : Int} {w : World} {J : Int -> Int -> Int -> World -> Prop} (h :
 Zzf (fun (u : Bool) (v : World) =>
 Zz1 u (
 J (0 : Int) (0 : Int) (1 : Int) v) (
 slS a b c 1 (some d) none none fun e f g =>
 Zz0 Tryz.prog Zxo #[.slice e f g, .int .u8 59] v [.one (.int .i64)] fun i j =>
 Zz1 (decide (i < (0 : Int))) (
 J (0 : Int) (0 : Int) (22 : Int) j) (
 slS a b c 1 (some (w64 (d + (1 : Int)))) (some (w64 (d + i))) none fun k l m =>
 bytesOf j k l fun n =>
 Zz0 Tryz.prog YcM #[.string ⟨n.toArray⟩] j [.one (.int .i32), .one (.int .i64)] fun o p q =>
 Zz1 (p != (0 : Int)) (
 J (0 : Int) (0 : Int) p q) (
 J o (w64 ((w64 (d + i)) + (1 : Int))) (0 : Int) q)))) fun r =>
 Zz1 (decide (d < (0 : Int))) (
 r true w) (
 Zz1 (decide (d >= (b : Int))) (
 r true w) (
 ZzS a b d fun s =>
 ldI .u8 w ((s.add (d.toNat * 1))) fun t =>
 r (t != (38 : Int)) w))) : Zz0 Tryz.prog Yc4 #[.slice a b c, .int .i64 d] w [.one (.int .i32), .one (.int .i64), .one (.int .i64)] J:=Zz3 Tryz.func184 (.s .o (.s (.j [(24, .bool)] .o (.c (.s .o .o) .o)) (.s .o (.s (.s .o (.c (.s .o .o) .o)) (.s .o (.s (.s .o (.c (.s .o .o) .o)) (.s .o .o))))))) (Eq.mpr (by kernel_rfl) h)
theorem c_refer_meant {a : ByteArray} {w : World} {J : Int -> Int -> World -> Prop} (h :
 Zz1 (a.toList == (⟨#[108, 116]⟩ : ByteArray).toList) (
 J (60 : Int) (0 : Int) w) (
 Zz1 (a.toList == (⟨#[103, 116]⟩ : ByteArray).toList) (
 J (62 : Int) (0 : Int) w) (
 Zz1 (a.toList == (⟨#[97, 109, 112]⟩ : ByteArray).toList) (
 J (38 : Int) (0 : Int) w) (
 Zz1 (a.toList == (⟨#[97, 112, 111, 115]⟩ : ByteArray).toList) (
 J (39 : Int) (0 : Int) w) (
 Zz1 (a.toList == (⟨#[113, 117, 111, 116]⟩ : ByteArray).toList) (
 J (34 : Int) (0 : Int) w) (
 Zz0 Tryz.prog ZyS #[.string a, .string ⟨#[35]⟩] w [.one .str, .one .bool] fun b c d =>
 Zzf (fun (u : ByteArray) (v : Int) (x : World) =>
 Zzf (fun (y : Bool) (z : World) =>
 Zz1 y (
 J (0 : Int) (22 : Int) z) (
 cvJ Tryz.prog Zz8 Zzj (.string u) z fun e f g i =>
 ∃ ad : Int -> Int -> World -> Nat -> Prop, (∃ ae, ad (0 : Int) (0 : Int) i ae) /\ ∀ (aa : Int) (ab : Int) (ac : World) (ae : Nat), ad aa ab ac ae -> (
 Zz1 (decide (ab < (f : Int))) (
 ZzS e f ab fun j =>
 ldI .u8 ac ((j.add (ab.toNat * 1))) fun k =>
 Zz0 Tryz.prog Yb7 #[.int .u8 k] ac [.one (.int .i64)] fun l m =>
 Zz1 (decide (l >= v)) (
 J (0 : Int) (22 : Int) m) (
 ∃ af, af < ae /\ ad (if (1114112 : Int) < (w64 ((w64 (aa * v)) + l)) then (1114112 : Int) else (w64 ((w64 (aa * v)) + l))) (w64 (ab + (1 : Int))) m af)) (
 Zz0 Tryz.prog Yaa #[.int .i32 (IntKind.i32.wrap aa)] ac [.one .bool] fun n o =>
 Zz1 (!n) (
 J (0 : Int) (21 : Int) o) (
 J (IntKind.i32.wrap aa) (0 : Int) o))))) fun p =>
 Zz1 (!c) (
 p true x) (
 p (u.toList == (⟨#[]⟩ : ByteArray).toList) x)) fun q =>
 Zz0 Tryz.prog ZyS #[.string b, .string ⟨#[120]⟩] d [.one .str, .one .bool] fun r s t =>
 Zz1 s (
 q r (16 : Int) t) (
 q b (10 : Int) t))))))) : Zz0 Tryz.prog YcM #[.string a] w [.one (.int .i32), .one (.int .i64)] J:=Zz3 Tryz.func206 (.s .o (.s (.s .o (.b (.s .o (.c (.s .o .o) (.s .o (.c (.s .o .o) (.s .o (.c (.s .o .o) (.s .o (.c (.s .o .o) (.s .o (.c (.s .o .o) .o)))))))))))) (.s .o (.s .o (.j [(4, .str), (6, .int .i64)] (.s .o (.s .o (.c .o .o))) (.s (.j [(41, .bool)] .o (.c (.s .o .o) .o)) (.s .o (.s (.s .o (.b (.l [(9, .int .i64), (45, .int .i64)] (.s .o (.s (.c .o .o) (.s (.b (.s .o (.s .o (.s (.s .o (.c (.s .o .o) .o)) .o)))) .o)))))) (.s (.s .o (.c (.s .o .o) .o)) (.s .o .o)))))))))) (Eq.mpr (by kernel_rfl) h)
theorem c_refer_digit {a : Int} {w : World} {J : Int -> World -> Prop} (h :
 Zzf (fun (e : Bool) (f : World) =>
 Zz1 e (
 J (w64 (IntKind.u8.wrap (a - (48 : Int)))) f) (
 Zzf (fun (g : Bool) (i : World) =>
 Zz1 g (
 J (w64 ((w64 (IntKind.u8.wrap (a - (97 : Int)))) + (10 : Int))) i) (
 Zzf (fun (j : Bool) (k : World) =>
 Zz1 j (
 J (w64 ((w64 (IntKind.u8.wrap (a - (65 : Int)))) + (10 : Int))) k) (
 J (99 : Int) k)) fun b =>
 Zz1 (decide (a >= (65 : Int))) (
 b (decide (a <= (70 : Int))) i) (
 b false i))) fun c =>
 Zz1 (decide (a >= (97 : Int))) (
 c (decide (a <= (102 : Int))) f) (
 c false f))) fun d =>
 Zz1 (decide (a >= (48 : Int))) (
 d (decide (a <= (57 : Int))) w) (
 d false w)) : Zz0 Tryz.prog Yb7 #[.int .u8 a] w [.one (.int .i64)] J:=Zz3 Tryz.func221 (.s .o (.s (.b (.j [(3, .bool)] .o (.c (.s .o .o) (.j [(13, .bool)] .o (.c (.s .o .o) (.j [(24, .bool)] .o (.c (.s .o .o) .o))))))) (.s .o .o))) (Eq.mpr (by kernel_rfl) h)
theorem c_refer_read {a : Option Addr} {b c : Nat} {d : Bool} {w : World} {J : ByteArray -> Int -> Int -> World -> Prop} (h :
 ∃ az : Option Addr -> Nat -> Nat -> Int -> World -> Nat -> Prop, (∃ a0, az none 0 0 (0 : Int) w a0) /\ ∀ (ak : Option Addr) (al : Nat) (am : Nat) (an : Int) (ao : World) (a0 : Nat), az ak al am an ao a0 -> (
 Zz1 (decide (an < (b : Int))) (
 Zz0 Tryz.prog Ycx #[.slice a b c, .int .i64 an] ao [.one (.int .i32), .one (.int .i64), .one (.int .i64)] fun e f g i =>
 Zzf (fun (ap : Int) (aq : Int) (ar : World) =>
 cvStrJ Tryz.prog T_int32 Zz8 (.int .i32 ap) ar fun j k =>
 YeJ Tryz.prog Zzj Zz8 (.slice ak al am) (.string j) k fun l m n o =>
 ∃ a1, a1 < a0 /\ az l m n aq o a1) fun p =>
 Zz1 (g != (0 : Int)) (
 J ⟨#[]⟩ an g i) (
 Zzf (fun (au : Bool) (av : World) =>
 Zz1 au (
 J ⟨#[]⟩ an (23 : Int) av) (
 Zz1 (e == (38 : Int)) (
 Zz0 Tryz.prog Yc4 #[.slice a b c, .int .i64 an] av [.one (.int .i32), .one (.int .i64), .one (.int .i64)] fun q r s t =>
 Zz1 (s != (0 : Int)) (
 J ⟨#[]⟩ an s t) (
 p q r t)) (
 Zzf (fun (ax : Bool) (ay : World) =>
 Zz1 ax (
 p (32 : Int) f ay) (
 p e f ay)) fun u =>
 Zz1 d (
 Zz1 (e == (9 : Int)) (
 u true av) (
 Zz1 (e == (10 : Int)) (
 u true av) (
 u (e == (13 : Int)) av))) (
 u false av)))) fun v =>
 Zz1 (e == (60 : Int)) (
 v true i) (
 Zz1 (!d) (
 slS a b c 1 (some an) none none fun x y z =>
 newB i (.cells ⟨[.int .u8 93, .int .u8 93, .int .u8 62]⟩ Zzs) fun aa ab =>
 cvJ Tryz.prog Zzj Zzj (.slice (some ⟨aa, 0, none⟩) 3 3) ab fun ac ad ae af =>
 Zz0 Tryz.prog ZyM #[.slice x y z, .slice ac ad ae] af [.one .bool] fun ag ai =>
 v ag ai) (
 v false i)))) (
 bytesOf ao ak al fun aj =>
 J ⟨aj.toArray⟩ (0 : Int) (0 : Int) ao))) : Zz0 Tryz.prog YbJ #[.slice a b c, .bool d] w [.one .str, .one (.int .i64), .one (.int .i64)] J:=Zz3 Tryz.func148 (.s .o (.s .o (.s (.s .o (.b (.l [(7, .slice), (8, .int .i64)] (.s (.s .o (.c .o .o)) (.b (.s .o (.j [(9, .int .i32), (10, .int .i64)] (.b (.s .o (.c (.s .o .o) (.j [(28, .bool)] .o (.c (.s .o .o) (.s .o (.c (.s .o (.s .o (.c (.s .o .o) .o))) (.j [(58, .bool)] .o (.c .o .o))))))))) (.s .o .o)))))))) (.s .o .o)))) (Eq.mpr (by kernel_rfl) h)
theorem YgM {a : Option Addr} {b c : Nat} {w : World} {J : ByteArray -> Int -> Int -> World -> Prop} (h :
 Zz0 Tryz.prog YbJ #[.slice a b c, .bool false] w [.one .str, .one (.int .i64), .one (.int .i64)] fun d e f g =>
 J d e f g) : Zz0 Tryz.prog Yb0 #[.slice a b c] w [.one .str, .one (.int .i64), .one (.int .i64)] J:=Zz3 Tryz.func105 (.s .o (.s .o .o)) (Eq.mpr (by kernel_rfl) h)
theorem Ygh {a : Option Addr} {b c : Nat} {w : World} {J : ByteArray -> Int -> Int -> World -> Prop} (h :
 Zz0 Tryz.prog YbJ #[.slice a b c, .bool true] w [.one .str, .one (.int .i64), .one (.int .i64)] fun d e f g =>
 J d e f g) : Zz0 Tryz.prog YaI #[.slice a b c] w [.one .str, .one (.int .i64), .one (.int .i64)] J:=Zz3 Tryz.func103 (.s .o (.s .o .o)) (Eq.mpr (by kernel_rfl) h)
theorem Ygj {a : Option Addr} {b c : Nat} {d : Int} {w : World} {J : Int -> World -> Prop} (h :
 extJ Tryz.prog Zqg #[.slice a b c, .int .u8 d] w [.one (.int .i64)] fun e f =>
 J e f) : Zz0 Tryz.prog Zxo #[.slice a b c, .int .u8 d] w [.one (.int .i64)] J:=Zz3 Tryz.func104 (.s .o (.s .o .o)) (Eq.mpr (by kernel_rfl) h)
theorem Ygk {a : Option Addr} {b c : Nat} {d : Option Addr} {e f : Nat} {w : World} {J : Bool -> World -> Prop} (h :
 Zzf (fun (n : Bool) (o : World) =>
 J n o) fun g =>
 Zz1 (decide ((b : Int) >= (e : Int))) (
 slS a b c 1 none (some (e : Int)) none fun i j k =>
 Zz0 Tryz.prog YeU #[.slice i j k, .slice d e f] w [.one .bool] fun l m =>
 g l m) (
 g false w)) : Zz0 Tryz.prog ZyM #[.slice a b c, .slice d e f] w [.one .bool] J:=Zz3 Tryz.func67 (.s .o (.j [(4, .bool)] .o .o)) (Eq.mpr (by kernel_rfl) h)
theorem c_bytes_Equal {a : Option Addr} {b c : Nat} {d : Option Addr} {e f : Nat} {w : World} {J : Bool -> World -> Prop} (h :
 bytesOf w a b fun g =>
 bytesOf w d e fun i =>
 J ((⟨g.toArray⟩ : ByteArray).toList == (⟨i.toArray⟩ : ByteArray).toList) w) : Zz0 Tryz.prog YeU #[.slice a b c, .slice d e f] w [.one .bool] J:=Zz3 Tryz.func126 (.s .o (.s .o .o)) (Eq.mpr (by kernel_rfl) h)
theorem Yfl {a b : ByteArray} {w : World} {J : ByteArray -> Bool -> World -> Prop} (h :
 Zz0 Tryz.prog Zxn #[.string a, .string b] w [.one .str, .one .bool] fun c d e =>
 J c d e) : Zz0 Tryz.prog ZyS #[.string a, .string b] w [.one .str, .one .bool] J:=Zz3 Tryz.func144 (.s .o (.s .o .o)) (Eq.mpr (by kernel_rfl) h)
theorem YaV {a b : ByteArray} {w : World} {J : ByteArray -> Bool -> World -> Prop} (h :
 Zz0 Tryz.prog Zym #[.string a, .string b] w [.one .bool] fun c d =>
 Zz1 (!c) (
 J a false d) (
 YaO a (some (b.size : Int)) none fun e =>
 J e true d)) : Zz0 Tryz.prog Zxn #[.string a, .string b] w [.one .str, .one .bool] J:=Zz3 Tryz.func182 (.s .o (.s (.s .o (.c (.s .o .o) .o)) (.s .o .o))) (Eq.mpr (by kernel_rfl) h)
theorem YaU {a b : ByteArray} {w : World} {J : Bool -> World -> Prop} (h :
 Zzf (fun (e : Bool) (f : World) =>
 J e f) fun c =>
 Zz1 (decide ((a.size : Int) >= (b.size : Int))) (
 YaO a none (some (b.size : Int)) fun d =>
 c (d.toList == b.toList) w) (
 c false w)) : Zz0 Tryz.prog Zym #[.string a, .string b] w [.one .bool] J:=Zz3 Tryz.func205 (.s .o (.j [(4, .bool)] .o .o)) (Eq.mpr (by kernel_rfl) h)
end Go.Proofs.YtglnmjflpkeclaaGreatDoor
end
