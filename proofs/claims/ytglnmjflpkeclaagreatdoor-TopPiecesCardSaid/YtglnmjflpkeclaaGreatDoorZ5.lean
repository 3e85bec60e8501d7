/- What the statement needs, part 5. -/
import Derived.Test.YtglnmjflpkeclaaGreatDoorZ4
set_option linter.unusedSectionVars false
set_option linter.unusedVariables false
set_option linter.unusedSimpArgs false
set_option maxRecDepth 100000
open List
section
namespace Go.Vc
open Go Go.Lib
def NV.giv (J : Int -> ByteArray -> ByteArray -> Option Addr -> Nat -> Nat -> Option Addr -> Nat -> Nat -> ByteArray -> World -> Prop) (w : World) : NV -> Prop
 | .mk k u l t ap al ac _ kp kl kc _ => J k u l ap al ac kp kl kc t w
theorem meaL_append : ∀ a b : List NV, NV.meaL (a ++ b) = NV.meaL a + NV.meaL b
 | [], _ => by simp [NV.meaL]
 | x :: r, b => by simp only [cons_append, NV.meaL, meaL_append r b]; omega
end Go.Vc
namespace Go.Proofs.YtglnmjflpkeclaaGreatDoor
open Go Go.Vc Go.Lib
section
end
end Go.Proofs.YtglnmjflpkeclaaGreatDoor
namespace Go.Vc
open Go Go.Lib
def YbQ : Option Addr -> List Nat
 | none => []
 | some a => [a.block]
mutual
/-- The blocks in which a tree lies. -/
def NV.bs : NV -> List Nat
 | .mk _ _ _ _ ap _ _ _ kp _ _ ks => YbQ ap ++ (YbQ kp ++ NV.bsL ks)
def NV.bsL : List NV -> List Nat
 | [] => []
 | x :: r => x.bs ++ NV.bsL r
end
theorem bsL_append : ∀ a b : List NV, NV.bsL (a ++ b) = NV.bsL a ++ NV.bsL b
 | [], _ => rfl
 | x :: r, b => by simp only [cons_append, NV.bsL, bsL_append r b, append_assoc]
theorem bsL_mem {x : NV} {b : Nat} : ∀ {ks : List NV}, x ∈ ks -> b ∈ x.bs -> b ∈ NV.bsL ks
 | y :: r, h, hb => by
  simp only [NV.bsL, mem_append]
  rcases mem_cons.1 h with rfl | h
  ·exact .inl hb
  ·exact .inr (bsL_mem h hb)
end Go.Vc
namespace Go.Proofs.YtglnmjflpkeclaaGreatDoor
open Go Go.Vc Go.Lib
inductive Own (w : World) : NV -> Prop
 | mk {k : Int} {u l t : ByteArray} {ap : Option Addr} {al ac : Nat} {ats : List At} {kp : Option Addr} {kl kc : Nat} {ks : List NV}
   (ha : Row w ZzO 3 ap al ac (rows atc ats)) (hk : Row w Zz5 6 kp kl kc (rows NV.cells ks)) (hks : ∀ x ∈ ks, Own w x) : Own w (.mk k u l t ap al ac ats kp kl kc ks)
theorem Own.ok {w : World} : ∀ {v : NV}, Own w v -> NV.Ok w v:=by
 intro v
 induction v using NV.ind with
 | h k u l t ap al ac ats kp kl kc ks ih =>
  intro h
  cases h with
  | mk ha hk hks => exact .mk ha.sl ha.none0 ha.le.1 hk.sl hk.none0 hk.le.1 fun x hx => ih x hx (hks x hx)
theorem Own.lt {w : World} : ∀ {v : NV}, Own w v -> ∀ b ∈ v.bs, b < w.heap.size:=by
 intro v
 induction v using NV.ind with
 | h k u l t ap al ac ats kp kl kc ks ih =>
  intro h b hb
  cases h with
  | mk ha hk hks =>
   have hL : ∀ L : List NV, (∀ x ∈ L, x ∈ ks) -> b ∈ NV.bsL L -> b < w.heap.size:=by
    intro L
    induction L with
    | nil => intro _ h; simp [NV.bsL] at h
    | cons x r ihr =>
     intro hs h
     simp only [NV.bsL, mem_append] at h
     rcases h with h | h
     ·exact ih x (hs x mem_cons_self) (hks x (hs x mem_cons_self)) b h
     ·exact ihr (fun y hy => hs y (mem_cons_of_mem _ hy)) h
   simp only [NV.bs, mem_append] at hb
   rcases hb with hb | hb | hb
   ·cases ap with
    | none => simp [YbQ] at hb
    | some a => rw [mem_singleton.1 hb]; exact ha.lt a rfl
   ·cases kp with
    | none => simp [YbQ] at hb
    | some a => rw [mem_singleton.1 hb]; exact hk.lt a rfl
   ·exact hL ks (fun _ h => h) hb
theorem Own.chg {w w' : World} {S : Nat -> Prop} (hc : Chg S w w') : ∀ {v : NV}, Own w v -> (∀ b ∈ v.bs, ¬ S b) -> Own w' v:=by
 intro v
 induction v using NV.ind with
 | h k u l t ap al ac ats kp kl kc ks ih =>
  intro h hn
  cases h with
  | mk ha hk hks =>
   simp only [NV.bs, mem_append] at hn
   refine .mk (ha.chg hc fun a e => ?_) (hk.chg hc fun a e => ?_) fun x hx => ih x hx (hks x hx) fun b hb => hn b (.inr (.inr (bsL_mem hx hb)))
   ·subst e; exact hn _ (.inl (mem_singleton.2 rfl))
   ·subst e; exact hn _ (.inr (.inl (mem_singleton.2 rfl)))
section
end
end Go.Proofs.YtglnmjflpkeclaaGreatDoor
namespace Go.Proofs.YtglnmjflpkeclaaGreatDoor
open Go Go.Vc Go.Lib
section
end
end Go.Proofs.YtglnmjflpkeclaaGreatDoor
namespace Go.Proofs.YtglnmjflpkeclaaGreatDoor
open Go Go.Vc Go.Lib
section
variable {w : World}
end
end Go.Proofs.YtglnmjflpkeclaaGreatDoor
namespace Go.Proofs.YtglnmjflpkeclaaGreatDoor
open Go Go.Vc Go.Lib
section
end
end Go.Proofs.YtglnmjflpkeclaaGreatDoor
namespace Go.Vc
open Go Go.Lib
end Go.Vc
namespace Go.Proofs.YtglnmjflpkeclaaGreatDoor
open Go Go.Vc Go.Lib
section
variable {w : World}
end
end Go.Proofs.YtglnmjflpkeclaaGreatDoor
end
section
namespace Go.Vc
open Go Go.Lib
structure OV where
 v : NV
 raw : ByteArray
 bp : Option Addr
 bc : Nat
 B : List Pr
def OV.cells (o : OV) : List Value:=o.v.cells ++ [.string o.raw, .slice o.bp o.B.length o.bc]
theorem cells6 (v : NV) : v.cells.length = 6:=by cases v; rfl
theorem YhL (L : List OV) : Ygo OV.cells 8 L:=fun x _ => by simp [OV.cells, cells6]
theorem one1_ov (x : OV) : one1 x.cells:=by
 intro v hv
 unfold OV.cells at hv
 rcases mem_append.1 hv with hv | hv
 ·exact Zqe x.v v hv
 ·simp only [mem_cons, not_mem_nil, or_false] at hv
  rcases hv with rfl | rfl <;> rfl
def NV.kids : NV -> List NV | .mk _ _ _ _ _ _ _ _ _ _ _ ks => ks
def NV.kadd (v : NV) (kp : Option Addr) (kc : Nat) (n : NV) : NV:=match v with | .mk k u l t ap al ac ats _ kl _ ks => .mk k u l t ap al ac ats kp (kl + 1) kc (ks ++ [n])
theorem flatP_set : ∀ (L : List (List Nat)) (i : Nat) (x y : List Nat), L.flatten.Nodup -> L[i]? = some x -> y.Nodup -> (∀ b ∈ y, b ∈ x \/ ∀ z ∈ L, b ∉ z) -> (L.set i y).flatten.Nodup
 | [], _, _, _, _, h, _, _ => by simp at h
 | z :: M, 0, x, y, hnd, h, hy, hb => by
  simp only [getElem?_cons_zero, Option.some.injEq] at h
  subst h
  simp only [flatten_cons] at hnd
  obtain ⟨h1, h2, h3⟩:=nodup_append.1 hnd
  simp only [set_cons_zero, flatten_cons]
  refine nodup_append.2 ⟨hy, h2, fun b hby c hc e => ?_⟩
  subst e
  rcases hb b hby with hz | hz
  ·exact h3 b hz b hc rfl
  ·obtain ⟨s, hs, hbs⟩:=mem_flatten.1 hc
   exact hz s (mem_cons_of_mem _ hs) hbs
 | z :: M, i + 1, x, y, hnd, h, hy, hb => by
  simp only [getElem?_cons_succ] at h
  simp only [flatten_cons] at hnd
  obtain ⟨h1, h2, h3⟩:=nodup_append.1 hnd
  simp only [set_cons_succ, flatten_cons]
  refine nodup_append.2 ⟨h1, flatP_set M i x y h2 h hy fun b hby => (hb b hby).imp id fun hz s hs => hz s (mem_cons_of_mem _ hs), fun b hbz c hc e => ?_⟩
  subst e
  obtain ⟨s, hs, hbs⟩:=mem_flatten.1 hc
  rcases mem_or_eq_of_mem_set hs with hs | rfl
  ·exact h3 b hbz b (mem_flatten.2 ⟨s, hs, hbs⟩) rfl
  ·rcases hb b hbs with hx | hz
   ·exact h3 b hbz b (mem_flatten.2 ⟨x, mem_of_getElem? h, hx⟩) rfl
   ·exact hz z mem_cons_self hbz
theorem flatP_ne : ∀ (L : List (List Nat)) (i j : Nat) (x y : List Nat), L.flatten.Nodup -> L[i]? = some x -> L[j]? = some y -> i ≠ j -> ∀ b ∈ x, b ∉ y
 | [], _, _, _, _, _, h, _, _, _, _ => by simp at h
 | z :: M, 0, 0, _, _, _, _, _, h, _, _ => absurd rfl h
 | z :: M, 0, j + 1, x, y, hnd, hi, hj, _, b, hb => fun hby => by
  simp only [getElem?_cons_zero, Option.some.injEq] at hi
  simp only [getElem?_cons_succ] at hj
  subst hi
  simp only [flatten_cons] at hnd
  exact (nodup_append.1 hnd).2.2 b hb b (mem_flatten.2 ⟨y, mem_of_getElem? hj, hby⟩) rfl
 | z :: M, i + 1, 0, x, y, hnd, hi, hj, _, b, hb => fun hby => by
  simp only [getElem?_cons_zero, Option.some.injEq] at hj
  simp only [getElem?_cons_succ] at hi
  subst hj
  simp only [flatten_cons] at hnd
  exact (nodup_append.1 hnd).2.2 b hby b (mem_flatten.2 ⟨x, mem_of_getElem? hi, hb⟩) rfl
 | z :: M, i + 1, j + 1, x, y, hnd, hi, hj, hne, b, hb => by
  simp only [getElem?_cons_succ] at hi hj
  simp only [flatten_cons] at hnd
  exact flatP_ne M i j x y (nodup_append.1 hnd).2.1 hi hj (by omega) b hb
def bsF (F : List OV) : List Nat:=F.flatMap fun o => o.v.bs
theorem YbU (a b : List OV) : bsF (a ++ b) = bsF a ++ bsF b:=by simp [bsF]
theorem Row.stC {w : World} {e : TypeId} {sz l c : Nat} {p : Option Addr} {xs : List Value} (hr : Row w e sz p l c xs) {k : Nat} {v : Value} {b : Nat} (hp : p = some ⟨b, 0, none⟩) (hk : k < xs.length) {K : World -> Prop}
  (go : ∀ w', Row w' e sz p l c (xs.set k v) -> Chg (isB p) w w' -> K w') : stV w ⟨b, k, none⟩ v K:=by
 rcases hr.2 with ⟨h0, _⟩ | ⟨b', rest, hp', hh, h1, h2, h3⟩
 ·rw [h0] at hp; cases hp
 rw [hp] at hp'
 cases hp'
 refine ((Hp.start w (isB p)).add hh (by simp) (fun _ => ⟨_, hp, rfl⟩)).stV 0 rfl (by rw [length_append]; omega) fun w' H hc => ?_
 simp only [set_cons_zero] at H
 rw [set_append_left _ _ hk] at H
 refine go w' ⟨by rw [length_set]; exact hr.1, .inr ⟨b, rest, hp, H.get 0 rfl, h1, h2, ?_⟩⟩ H.chg
 rw [<- h3, length_append, length_append, length_set]
theorem splice_getP {cs vs : List Value} {off : Nat} (ho : off + vs.length <= cs.length) (j : Nat) : (splice cs off vs)[j]? = if off <= j /\ j < off + vs.length then vs[j - off]? else cs[j]? := by
 unfold splice
 by_cases h1 : j < off
 ·rw [if_neg (by omega), append_assoc, getElem?_append_left (by rw [length_take]; omega), getElem?_take_of_lt h1]
 ·by_cases h2 : j < off + vs.length
  ·rw [if_pos ⟨by omega, h2⟩, getElem?_append_left (by rw [length_append, length_take]; omega), getElem?_append_right (by rw [length_take]; omega), length_take]
   congr 1; omega
  ·rw [if_neg (by omega), getElem?_append_right (by rw [length_append, length_take]; omega), length_append, length_take, getElem?_drop]
   congr 1; omega
theorem Row.stE2 {w : World} {α : Type} {f : α -> List Value} {sz : Nat} {e : TypeId} {p : Option Addr} {l c b i : Nat} {L : List α} (hE : Ygo f sz L) (hr : Row w e sz p l c (rows f L)) (hp : p = some ⟨b, 0, none⟩) (hi : i < l) {x : α} (hx : (f x).length = sz) (h1x : one1 (f x)) (hsz : 0 < sz) {K : World -> Prop}
  (k : ∀ w', Row w' e sz p l c (rows f (L.set i x)) -> Chg (isB p) w w' -> K w') : stN w ⟨b, i * sz, none⟩ ⟨f x⟩ sz K:=by
 have h:=Row.stE hE hr (i:=(i : Int)) (by omega) (by omega) hx h1x hsz (K:=K) k
 rw [hp] at h
 have h3:=h.2.2
 simp only [ZzC, Int.toNat_natCast, Addr.add_mk, Nat.zero_add] at h3
 exact h3
theorem rows_setC {α : Type} {f : α -> List Value} {k : Nat} {L : List α} (hE : Ygo f k L) {i j : Nat} {x y : α} {v : Value} (hi : L[i]? = some x) (hj : j < k) (hy : (f x).set j v = f y) : (rows f L).set (i * k + j) v = rows f (L.set i y):=by
  have hx:=hE x (List.mem_of_getElem? hi)
  have hy2 : (f y).length = k:=by rw [<- hy, List.length_set]; exact hx
  have hil:=(List.getElem?_eq_some_iff.1 hi).1
  rw [<- Yhh hE hil hy2]
  refine List.ext_getElem? fun m => ?_
  have hlen:=Yag hE
  have hsl : (i + 1) * k <= L.length * k:=Nat.mul_le_mul_right _ hil
  rw [Nat.succ_mul] at hsl
  rw [splice_getP (by rw [hlen, hy2]; exact hsl), List.getElem?_set, hy2]
  by_cases h1 : i * k + j = m
  · subst h1
    rw [if_pos rfl, if_pos (by rw [hlen]; omega), if_pos (by omega), <- hy, Nat.add_sub_cancel_left, List.getElem?_set, if_pos rfl, if_pos (by omega)]
  · rw [if_neg h1]
    by_cases h2 : i * k <= m /\ m < i * k + k
    · rw [if_pos h2, <- hy, List.getElem?_set, if_neg (by omega), <- rows_at hE hi (j:=m - i * k) (by omega)]
      congr 1; omega
    · rw [if_neg h2]
end Go.Vc
namespace Go.Proofs.YtglnmjflpkeclaaGreatDoor
open Go Go.Vc Go.Lib
structure RdS (N0 : Nat) (w : World) (r : Nat) (op : Option Addr) (oc : Nat) (F : List OV) (n : Nat) (d : Bool) : Prop where
 cell : w.heap[r]? = some (.cells ⟨[.slice op F.length oc, .int .i64 (n : Int), .bool d]⟩ YcU (0, 0))
 row : Row w Zyh 8 op F.length oc (rows OV.cells F)
 own : ∀ o ∈ F, Own w o.v
 nd : (bsF F).Nodup
 sc : ∀ o ∈ F, Sl w o.bp o.B.length 2 (rows pr o.B) /\ (o.bp = none -> o.B.length = 0) /\ ∀ a, o.bp = some a -> typ w a.block = some Zzp
 ne : F ≠ []
 few : F.length <= 100
 lo : N0 <= r /\ (∀ a, op = some a -> N0 <= a.block) /\ ∀ z ∈ bsF F, N0 <= z
section
variable {N0 : Nat} {w w' : World} {r : Nat} {op : Option Addr} {oc : Nat} {F : List OV} {n : Nat} {d : Bool}
theorem Yg5 {w : World} : ∀ {v : NV}, Own w v -> ∀ b ∈ v.bs, typ w b = some ZzO \/ typ w b = some Zz5:=by
 intro v
 induction v using NV.ind with
 | h k u l t ap al ac ats kp kl kc ks ih =>
  intro h b hb
  cases h with
  | mk ha hk hks =>
   simp only [NV.bs, mem_append] at hb
   rcases hb with hb | hb | hb
   ·cases ap with
    | none => simp [YbQ] at hb
    | some a => rw [mem_singleton.1 hb]; exact .inl (ha.typ a rfl)
   ·cases kp with
    | none => simp [YbQ] at hb
    | some a => rw [mem_singleton.1 hb]; exact .inr (hk.typ a rfl)
   ·have hL : ∀ L : List NV, (∀ x ∈ L, x ∈ ks) -> b ∈ NV.bsL L -> typ w b = some ZzO \/ typ w b = some Zz5:=by
     intro L
     induction L with
     | nil => intro _ h; simp [NV.bsL] at h
     | cons x r ihL =>
      intro hx hm
      simp only [NV.bsL, mem_append] at hm
      rcases hm with hm | hm
      ·exact ih x (hx x mem_cons_self) (hks x (hx x mem_cons_self)) b hm
      ·exact ihL (fun y hy => hx y (mem_cons_of_mem _ hy)) hm
    exact hL ks (fun _ h => h) hb
theorem RdS.chg {S : Nat -> Prop} (h : RdS N0 w r op oc F n d) (hc : Chg S w w') (hr : ¬ S r) (h1 : ∀ x, S x -> typ w x ≠ some Zyh /\ typ w x ≠ some Zzp) (h2 : ∀ b ∈ bsF F, ¬ S b) : RdS N0 w' r op oc F n d:=by
 refine ⟨hc.heap h.cell hr, h.row.chg hc fun a ha hS => (h1 _ hS).1 (h.row.typ a ha), fun o ho => (h.own o ho).chg hc fun b hb => h2 b (mem_flatMap.2 ⟨o, ho, hb⟩), h.nd, fun o ho => ?_, h.ne, h.few, h.lo⟩
 obtain ⟨s1, s2, s3⟩:=h.sc o ho
 have ho2 : off o.bp S:=fun a ha hS => (h1 _ hS).2 (s3 a ha)
 exact ⟨s1.chg hc ho2, s2, fun a ha => Zxh hc (s3 a ha) (ho2 a ha)⟩
theorem RdS.chg0 (h : RdS N0 w r op oc F n d) (hc : Chg No w w') : RdS N0 w' r op oc F n d:=h.chg hc (fun f => f) (fun _ f => f.elim) (fun _ _ f => f)
theorem RdS.c0 (h : RdS N0 w r op oc F n d) : w.cell? ⟨r, 0, none⟩ = some (.slice op F.length oc):=Ybp h.cell rfl
theorem RdS.c1 (h : RdS N0 w r op oc F n d) : w.cell? ⟨r, 1, none⟩ = some (.int .i64 (n : Int)):=Ybp h.cell rfl
theorem RdS.c2 (h : RdS N0 w r op oc F n d) : w.cell? ⟨r, 2, none⟩ = some (.bool d):=Ybp h.cell rfl
theorem RdS.pos (h : RdS N0 w r op oc F n d) : 0 < F.length:=length_pos_iff.2 h.ne
theorem RdS.at (h : RdS N0 w r op oc F n d) : ∃ b, op = some ⟨b, 0, none⟩:=h.row.at0 (by have:=h.pos; omega)
theorem RdS.cells {b j : Nat} {o : OV} (h : RdS N0 w r op oc F n d) (hb : op = some ⟨b, 0, none⟩) (ho : F[j]? = some o) : ZzV w ⟨b, j * 8, none⟩ o.cells:=by
  have hj:=(List.getElem?_eq_some_iff.1 ho).1
  obtain ⟨a, ha, hc⟩:=h.row.sl.at (by have:=h.pos; omega)
  rw [hb] at ha
  cases ha
  have h1:=ZyZ 8 (ZqC (j * 8) hc)
  rw [Yfw (YhL F) ho, Addr.add_mk, Nat.zero_add] at h1
  exact h1
theorem Yi6 {b : Nat} {J : Option Addr -> World -> Prop} (h : RdS N0 w r op oc F n d) (hb : op = some ⟨b, 0, none⟩) (K : ∀ w', RdS N0 w' r op oc F n d -> Chg No w w' -> J (some ⟨b, (F.length - 1) * 8, none⟩) w') :
  Zz0 Tryz.prog ZzU #[.pointer (some ⟨r, 0, none⟩)] w [.one .ptr] J:=by
 refine Yev ?_
 have hd:=h.chg0 (Zy0 w)
 have hpos:=h.pos
 have hfew:=h.few
 refine Yd4 hd.c0 (Yd4 hd.c0 ?_)
 have e : w64 (((F.length : Nat) : Int) - (1 : Int)) = ((F.length - 1 : Nat) : Int):=by rw [Zzb] <;> omega
 rw [e, hb]
 refine ⟨by omega, by omega, ?_⟩
 simp only [ZzC, Int.toNat_natCast, Addr.add_mk, Nat.zero_add]
 exact K _ hd (Zy0 w)
def PS (N0 : Nat) (w : World) : Nat -> Prop:=fun x => N0 <= x /\ typ w x ≠ some Zze
theorem PS.trans {a : World} (h : Chg (PS N0 a) a w) (k : Chg (PS N0 w) w w') : Chg (PS N0 a) a w':=by
 refine h.trans k fun x hx ⟨h1, h2⟩ => ⟨h1, fun e => h2 ?_⟩
 exact Zxh h e (fun hS => hS.2 e)
theorem PS.no {a : World} (h : Chg No a w) : Chg (PS N0 a) a w:=h.mono fun _ _ f => f.elim
theorem PS.own {a : World} {b : Nat} {e : TypeId} (h : Chg (fun x => x = b) a w) (hb : N0 <= b) (ht : typ a b = some e) (he : e ≠ Zze) : Chg (PS N0 a) a w :=
 h.mono fun x _ e2 => by subst e2; exact ⟨hb, by rw [ht]; exact fun e3 => he (Option.some.inj e3)⟩
def zeroV0 : NV := .mk 0 kE kE kE none 0 0 [] none 0 0 []
theorem bsF_eq (F : List OV) : bsF F = (F.map fun o => o.v.bs).flatten:=by simp [bsF, flatMap]
theorem KidAdd {b bx : Nat} {o : OV} {x : NV} {k0 : Int} {u0 l0 t0 : ByteArray} {xp yp : Option Addr} {xl xc yl yc : Nat} {ats0 : List At} {ks0 : List NV} {J0 : World -> Prop} (h : RdS N0 w r op oc F n d) (hb : op = some ⟨b, 0, none⟩) (ho : F[F.length - 1]? = some o)
  (hxe : x = .mk k0 u0 l0 t0 xp xl xc ats0 yp yl yc ks0) (hx : Own w x) (hxn : x.bs.Nodup) (hxd : ∀ z ∈ x.bs, z ∉ bsF F /\ N0 <= z) (hbx : w.heap[bx]? = some (.cells ⟨x.cells⟩ Zz5 (0, 0))) (hlen : o.v.kids.length <= 100000)
  (K : ∀ w' kp' kc', RdS N0 w' r op oc (F.set (F.length - 1) { o with v:=o.v.kadd kp' kc' x }) n d -> Chg (PS N0 w) w w' -> J0 w') :
  ldS w ⟨b, (F.length - 1) * 8 + 4, none⟩ fun x16p x16l x16c =>
  ldI .i64 w ⟨bx, 0, none⟩ fun x17_0 => ldStr w ⟨bx, 1, none⟩ fun x17_1 => ldStr w ⟨bx, 2, none⟩ fun x17_2 => ldS w ⟨bx, 3, none⟩ fun x17_3p x17_3l x17_3c => ldS w ⟨bx, 4, none⟩ fun x17_4p x17_4l x17_4c => ldStr w ⟨bx, 5, none⟩ fun x17_5 =>
  Array.size (⟨[.int .i64 (0 : Int), .string ⟨#[]⟩, .string ⟨#[]⟩, .slice none 0 0, .slice none 0 0, .string ⟨#[]⟩]⟩ : Array Value) = 6 /\
  newB w (.cells ⟨[.int .i64 (0 : Int), .string ⟨#[]⟩, .string ⟨#[]⟩, .slice none 0 0, .slice none 0 0, .string ⟨#[]⟩]⟩ Zz5) fun b19 w5 =>
  ZzV w5 ⟨bx, 0, none⟩ [.int .i64 x17_0, .string x17_1, .string x17_2, .slice x17_3p x17_3l x17_3c, .slice x17_4p x17_4l x17_4c, .string x17_5] /\
  w5.cell? ⟨b, (F.length - 1) * 8 + 4, none⟩ = some (.slice x16p x16l x16c) /\
  YeJ Tryz.prog Zyo Zyo (.slice x16p x16l x16c) (.slice (some ⟨b19, 0, none⟩) 1 1) w5 fun q20p q20l q20c w6 =>
  ZzS q20p q20l ((x16l : Nat) : Int) fun a21 =>
  (stN w6 ((a21.add (((x16l : Nat) : Int).toNat * 6))) ⟨[.int .i64 x17_0, .string x17_1, .string x17_2, .slice x17_3p x17_3l x17_3c, .slice x17_4p x17_4l x17_4c, .string x17_5]⟩ 6 fun w7 =>
   stV w7 ⟨b, (F.length - 1) * 8 + 4, none⟩ (.slice q20p q20l q20c) fun w8 => J0 w8) /\
  (stV w6 ⟨b, (F.length - 1) * 8 + 4, none⟩ (.slice q20p q20l q20c) fun w9 =>
   stN w9 ((a21.add (((x16l : Nat) : Int).toNat * 6))) ⟨[.int .i64 x17_0, .string x17_1, .string x17_2, .slice x17_3p x17_3l x17_3c, .slice x17_4p x17_4l x17_4c, .string x17_5]⟩ 6 fun w10 => J0 w10):=by
 subst hxe
 obtain ⟨ov, oraw, obp, obc, oB⟩:=o
 have hpos:=h.pos
 have hfew:=h.few
 have hcs:=h.cells hb ho
 have howo:=h.own _ (mem_of_getElem? ho)
 have hjF : F.length - 1 < F.length:=by omega
 cases ov with
 | mk k u l t ap al ac ats kp kl kc ks =>
 have hsl : w.cell? ⟨b, (F.length - 1) * 8 + 4, none⟩ = some (.slice kp kl kc):=by
  have:=hcs 4 (.slice kp kl kc) rfl
  rwa [Addr.add_mk] at this
 simp only [NV.kids] at hlen
 cases howo with
 | mk ha hk hks =>
 have hkl:=hk.sl.row (Zzw ks) (by decide)
 refine Yd4 hsl ?_
 refine ⟨_, Ybp hbx rfl, _, Ybp hbx rfl, _, Ybp hbx rfl, _, _, _, Ybp hbx rfl, _, _, _, Ybp hbx rfl, _, Ybp hbx rfl, rfl, ?_⟩
 refine newRow (n:=1) (sz:=6) rfl (by decide) fun b19 w5 hrow hb19 hc5 => ?_
 have hbx5:=hc5.heap hbx (fun f => f)
 refine ⟨Ybc (off:=0) hbx5, hc5.cell hsl (fun f => f), ?_⟩
 have hk5:=hk.chg hc5 (off_no _)
 refine Ycc slT_node hk5 hrow.sl (Zqe zeroV0) (by simp) (by omega) (by unfold maxLen; omega) fun q c' w6 hr6 hc6 hf6 => ?_
 have er : rows NV.cells ks ++ [.int .i64 0, .string ⟨#[]⟩, .string ⟨#[]⟩, .slice none 0 0, .slice none 0 0, .string ⟨#[]⟩] = rows NV.cells (ks ++ [zeroV0]):=by rw [Zyx]; rfl
 rw [er] at hr6
 obtain ⟨bq, hq⟩:=hr6.at0 (by omega)
 refine ⟨by omega, by omega, ?_⟩
 rw [hq]
 simp only [ZzC, Int.toNat_natCast, Addr.add_mk, Nat.zero_add]
 have hqS : ∀ z, isB q z -> z ∈ YbQ kp \/ w5.heap.size <= z:=by
  rintro z ⟨a, ha, rfl⟩
  rcases hf6 with rfl | ⟨hf6, _⟩
  ·rw [ha]; exact .inl (mem_singleton.2 rfl)
  ·exact .inr (hf6 a ha)
 have kpB : ∀ z, isB kp z -> z ∈ YbQ kp:=by rintro z ⟨a, rfl, rfl⟩; exact mem_singleton.2 rfl
 have tb : typ w b = some Zyh:=h.row.typ _ hb
 have kpT : ∀ z ∈ YbQ kp, typ w z = some Zz5:=by
  intro z hz
  cases kp with
  | none => simp [YbQ] at hz
  | some a => rw [mem_singleton.1 hz]; exact hk.typ a rfl
 have s5:=hc5.size
 have c6 : Chg (fun z => z ∈ YbQ kp \/ z = b) w w6:=hc5.pre (hc6.mono fun z _ hz => .inl (kpB z hz))
 have S:=fun z => z ∈ YbQ kp \/ z = b
 have hrow6 : Row w6 Zyh 8 op F.length oc (rows OV.cells F):=(h.row.chg hc5 (off_no _)).chg hc6 fun a ha e => by
  have h1:=kpT _ (kpB _ e)
  rw [hb] at ha; cases ha
  rw [tb] at h1; revert h1; decide
 have hmemo : ({ v := .mk k u l t ap al ac ats kp kl kc ks, raw:=oraw, bp:=obp, bc:=obc, B:=oB } : OV) ∈ F:=mem_of_getElem? ho
 have hkpF : ∀ z ∈ YbQ kp, z ∈ bsF F:=fun z hz => mem_flatMap.2 ⟨_, hmemo, by simp only [NV.bs]; exact mem_append_right _ (mem_append_left _ hz)⟩
 have fin : ∀ w8 : World, Row w8 Zz5 6 q (kl + 1) c' (rows NV.cells (ks ++ [.mk k0 u0 l0 t0 xp xl xc ats0 yp yl yc ks0])) -> Row w8 Zyh 8 op F.length oc ((rows OV.cells F).set ((F.length - 1) * 8 + 4) (.slice q (kl + 1) c')) ->
   Chg (fun z => z ∈ YbQ kp \/ z = b) w w8 -> J0 w8:=by
  intro w8 hr8 hp8 c8
  have hset : rows OV.cells (F.set (F.length - 1) { v:=NV.kadd (.mk k u l t ap al ac ats kp kl kc ks) q c' (.mk k0 u0 l0 t0 xp xl xc ats0 yp yl yc ks0), raw:=oraw, bp:=obp, bc:=obc, B:=oB }) = (rows OV.cells F).set ((F.length - 1) * 8 + 4) (.slice q (kl + 1) c') :=
   (rows_setC (YhL F) ho (by decide) rfl).symm
  have oldB : ∀ z, z < w.heap.size -> z ∈ bsF F -> z ∉ YbQ kp -> ¬ (z ∈ YbQ kp \/ z = b):=by
   rintro z _ hz hn (h1 | h1)
   ·exact hn h1
   ·subst h1
    obtain ⟨o2, ho2, hz2⟩:=mem_flatMap.1 hz
    have h2:=Yg5 (h.own o2 ho2) z hz2
    rw [tb] at h2
    rcases h2 with h2 | h2 <;> exact absurd (Option.some.inj h2) (by decide)
  have hndL:=h.nd
  rw [bsF_eq] at hndL
  have hio : (F.map fun o => o.v.bs)[F.length - 1]? = some (NV.mk k u l t ap al ac ats kp kl kc ks).bs:=by rw [getElem?_map, ho]; rfl
  have hob : (NV.mk k u l t ap al ac ats kp kl kc ks).bs = YbQ ap ++ (YbQ kp ++ NV.bsL ks):=by simp only [NV.bs]
  have hoN : (YbQ ap ++ (YbQ kp ++ NV.bsL ks)).Nodup:=by
   rw [<- hob]
   have : (NV.mk k u l t ap al ac ats kp kl kc ks).bs.Sublist (F.map fun o => o.v.bs).flatten:=sublist_flatten_of_mem (mem_of_getElem? hio)
   exact List.Pairwise.sublist this hndL
  obtain ⟨nA, nR, dA⟩:=nodup_append.1 hoN
  obtain ⟨nK, nL, dK⟩:=nodup_append.1 nR
  have hlo:=h.lo
  have hqb : ∀ z ∈ YbQ q, z ∈ YbQ kp \/ w5.heap.size <= z:=fun z hz => hqS z (by rw [hq] at hz ⊢; exact ⟨_, rfl, (mem_singleton.1 hz).symm⟩)
  have hmF : ∀ {z : Nat}, z ∈ YbQ ap ++ (YbQ kp ++ NV.bsL ks) -> z ∈ bsF F:=fun hz => mem_flatMap.2 ⟨_, hmemo, by rw [<- hob] at hz; exact hz⟩
  have hltF : ∀ z ∈ bsF F, z < w.heap.size:=fun z hz => by
   obtain ⟨o2, ho2, hz2⟩:=mem_flatMap.1 hz
   exact (h.own o2 ho2).lt z hz2
  have hxlt:=hx.lt
  have hnb : (NV.kadd (.mk k u l t ap al ac ats kp kl kc ks) q c' (.mk k0 u0 l0 t0 xp xl xc ats0 yp yl yc ks0)).bs = YbQ ap ++ (YbQ q ++ (NV.bsL ks ++ (NV.mk k0 u0 l0 t0 xp xl xc ats0 yp yl yc ks0).bs)):=by
   simp only [NV.kadd, NV.bs, bsL_append, NV.bsL, append_nil]
  have hsplit : ∀ z ∈ (NV.kadd (.mk k u l t ap al ac ats kp kl kc ks) q c' (.mk k0 u0 l0 t0 xp xl xc ats0 yp yl yc ks0)).bs, z ∈ (NV.mk k u l t ap al ac ats kp kl kc ks).bs \/ (z ∈ YbQ q /\ w5.heap.size <= z) \/ z ∈ (NV.mk k0 u0 l0 t0 xp xl xc ats0 yp yl yc ks0).bs:=by
   intro z hz
   rw [hnb] at hz
   rw [hob]
   rcases mem_append.1 hz with hz | hz
   ·exact .inl (mem_append_left _ hz)
   ·rcases mem_append.1 hz with hz | hz
    ·rcases hqb z hz with h1 | h1
     ·exact .inl (mem_append_right _ (mem_append_left _ h1))
     ·exact .inr (.inl ⟨hz, h1⟩)
    ·rcases mem_append.1 hz with hz | hz
     ·exact .inl (mem_append_right _ (mem_append_right _ hz))
     ·exact .inr (.inr hz)
  have hbs' : bsF (F.set (F.length - 1) { v:=NV.kadd (.mk k u l t ap al ac ats kp kl kc ks) q c' (.mk k0 u0 l0 t0 xp xl xc ats0 yp yl yc ks0), raw:=oraw, bp:=obp, bc:=obc, B:=oB }) = ((F.map fun o => o.v.bs).set (F.length - 1) (NV.kadd (.mk k u l t ap al ac ats kp kl kc ks) q c' (.mk k0 u0 l0 t0 xp xl xc ats0 yp yl yc ks0)).bs).flatten:=by
   rw [bsF_eq, map_set]
  have newF : ∀ z ∈ bsF (F.set (F.length - 1) { v:=NV.kadd (.mk k u l t ap al ac ats kp kl kc ks) q c' (.mk k0 u0 l0 t0 xp xl xc ats0 yp yl yc ks0), raw:=oraw, bp:=obp, bc:=obc, B:=oB }), z ∈ bsF F \/ w5.heap.size <= z \/ z ∈ (NV.mk k0 u0 l0 t0 xp xl xc ats0 yp yl yc ks0).bs:=by
   intro z hz
   obtain ⟨o2, ho2, hz2⟩:=mem_flatMap.1 hz
   rcases mem_or_eq_of_mem_set ho2 with ho2 | rfl
   ·exact .inl (mem_flatMap.2 ⟨o2, ho2, hz2⟩)
   ·rcases hsplit z hz2 with h1 | h1 | h1
    ·exact .inl (mem_flatMap.2 ⟨_, hmemo, h1⟩)
    ·exact .inr (.inl h1.2)
    ·exact .inr (.inr h1)
  have rS : ¬ (r ∈ YbQ kp \/ r = b):=by
   rintro (h1 | h1)
   ·have:=kpT r h1
    rw [Zzy h.cell] at this; exact absurd (Option.some.inj this) (by decide)
   ·have:=tb
    rw [<- h1, Zzy h.cell] at this
    exact absurd (Option.some.inj this) (by decide)
  have offB : ∀ {v : NV}, Own w v -> ∀ z ∈ v.bs, z ∉ YbQ kp -> ¬ (z ∈ YbQ kp \/ z = b):=by
   rintro v hv z hz hn (h1 | h1)
   ·exact hn h1
   ·subst h1
    have h2:=Yg5 hv z hz
    rw [tb] at h2
    rcases h2 with h2 | h2 <;> exact absurd (Option.some.inj h2) (by decide)
  have ow : Own w (.mk k u l t ap al ac ats kp kl kc ks) := .mk ha hk hks
  have s0 : N0 <= w.heap.size:=Nat.le_trans hlo.1 (Nat.le_of_lt (Zy4 h.cell))
  refine K w8 q c' ⟨?_, ?_, ?_, ?_, ?_, ?_, ?_, ?_⟩ ?_
  ·rw [length_set]; exact c8.heap h.cell rS
  ·rw [length_set, hset]; exact hp8
  ·intro o2 ho2
   obtain ⟨m, hm⟩:=mem_iff_getElem?.1 ho2
   rw [getElem?_set] at hm
   by_cases hjm : F.length - 1 = m
   ·rw [if_pos hjm, if_pos hjF] at hm
    cases hm
    refine .mk (ha.chg c8 fun a e => ?_) hr8 fun y hy => ?_
    ·have hz : a.block ∈ YbQ ap:=by subst e; exact mem_singleton.2 rfl
     exact offB ow _ (by rw [hob]; exact mem_append_left _ hz) (fun h2 => dA _ hz _ (mem_append_left _ h2) rfl)
    ·rcases mem_append.1 hy with hy | hy
     ·exact (hks y hy).chg c8 fun z hz => offB (hks y hy) z hz fun h2 => dK _ h2 _ (bsL_mem hy hz) rfl
     ·rw [mem_singleton.1 hy]
      exact hx.chg c8 fun z hz => offB hx z hz fun h2 => (hxd z hz).1 (hkpF z h2)
   ·rw [if_neg hjm] at hm
    have hmem:=mem_of_getElem? hm
    refine (h.own o2 hmem).chg c8 fun z hz => offB (h.own o2 hmem) z hz fun h2 => ?_
    exact flatP_ne _ _ _ _ _ hndL hio (by rw [getElem?_map, hm]; rfl) hjm z (by rw [hob]; exact mem_append_right _ (mem_append_left _ h2)) hz
  ·rw [hbs']
   refine flatP_set _ _ _ _ hndL hio ?_ fun z hz => ?_
   ·rw [hnb]
    refine nodup_append.2 ⟨nA, nodup_append.2 ⟨?_, nodup_append.2 ⟨nL, hxn, ?_⟩, ?_⟩, ?_⟩
    ·rw [hq]; simp [YbQ]
    ·intro a ha2 c hc2 e
     subst e
     exact (hxd a hc2).1 (hmF (mem_append_right _ (mem_append_right _ ha2)))
    ·intro a ha2 c hc2 e
     subst e
     rcases hqb a ha2 with h1 | h1
     ·rcases mem_append.1 hc2 with h2 | h2
      ·exact dK a h1 a h2 rfl
      ·exact (hxd a h2).1 (hkpF a h1)
     ·rcases mem_append.1 hc2 with h2 | h2
      ·have:=hltF a (hmF (mem_append_right _ (mem_append_right _ h2))); omega
      ·have:=hxlt a h2; omega
    ·intro a ha2 c hc2 e
     subst e
     rcases mem_append.1 hc2 with h2 | h2
     ·rcases hqb a h2 with h1 | h1
      ·exact dA a ha2 a (mem_append_left _ h1) rfl
      ·have:=hltF a (hmF (mem_append_left _ ha2)); omega
     ·rcases mem_append.1 h2 with h2 | h2
      ·exact dA a ha2 a (mem_append_right _ h2) rfl
      ·exact (hxd a h2).1 (hmF (mem_append_left _ ha2))
   ·have inF : ∀ {y : List Nat}, y ∈ F.map (fun o => o.v.bs) -> z ∈ y -> z ∈ bsF F:=fun {y} hy hzy => by
     obtain ⟨o2, ho2, rfl⟩:=mem_map.1 hy
     exact mem_flatMap.2 ⟨o2, ho2, hzy⟩
    rcases hsplit z hz with h1 | h1 | h1
    ·exact .inl h1
    ·exact .inr fun y hy hzy => by have:=hltF z (inF hy hzy); omega
    ·exact .inr fun y hy hzy => (hxd z h1).1 (inF hy hzy)
  ·intro o2 ho2
   have key : ∀ o3 ∈ F, Sl w8 o3.bp o3.B.length 2 (rows pr o3.B) /\ (o3.bp = none -> o3.B.length = 0) /\ ∀ a, o3.bp = some a -> typ w8 a.block = some Zzp:=by
    intro o3 ho3
    obtain ⟨s1, s2, s3⟩:=h.sc o3 ho3
    have ho4 : off o3.bp (fun z => z ∈ YbQ kp \/ z = b):=by
     intro a ha2 hS
     have h1:=s3 a ha2
     rcases hS with hS | hS
     ·rw [kpT _ hS] at h1; exact absurd (Option.some.inj h1) (by decide)
     ·rw [hS, tb] at h1; exact absurd (Option.some.inj h1) (by decide)
    exact ⟨s1.chg c8 ho4, s2, fun a ha2 => Zxh c8 (s3 a ha2) (ho4 a ha2)⟩
   rcases mem_or_eq_of_mem_set ho2 with ho2 | rfl
   ·exact key o2 ho2
   ·exact key { v := .mk k u l t ap al ac ats kp kl kc ks, raw:=oraw, bp:=obp, bc:=obc, B:=oB } hmemo
  ·intro e; have:=congrArg length e; rw [length_set, length_nil] at this; omega
  ·rw [length_set]; exact h.few
  ·refine ⟨hlo.1, hlo.2.1, fun z hz => ?_⟩
   rcases newF z hz with h1 | h1 | h1
   ·exact hlo.2.2 z h1
   ·omega
   ·exact (hxd z h1).2
  ·refine c8.mono fun z _ hz => ?_
   rcases hz with hz | hz
   ·exact ⟨hlo.2.2 z (hkpF z hz), by rw [kpT z hz]; decide⟩
   ·subst hz; exact ⟨hlo.2.1 _ hb, by rw [tb]; decide⟩
 have eset : (ks ++ [zeroV0]).set kl (.mk k0 u0 l0 t0 xp xl xc ats0 yp yl yc ks0) = ks ++ [.mk k0 u0 l0 t0 xp xl xc ats0 yp yl yc ks0]:=by
  rw [<- hkl, set_append_right _ _ (Nat.le_refl _), Nat.sub_self]; rfl
 have hcl : (F.length - 1) * 8 + 4 < (rows OV.cells F).length:=by rw [Yag (YhL F)]; omega
 have tq6 : ∀ a, q = some a -> typ w6 a.block = some Zz5:=hr6.typ
 have tb6 : typ w6 b = some Zyh:=hrow6.typ _ hb
 have opq : off op (isB q):=fun a ha ⟨a2, ha2, e⟩ => by
  rw [hb] at ha; cases ha
  have:=tq6 a2 ha2
  rw [e, tb6] at this; exact absurd (Option.some.inj this) (by decide)
 have qop : off q (isB op):=fun a ha ⟨a2, ha2, e⟩ => by
  rw [hb] at ha2; cases ha2
  have:=tq6 a ha
  dsimp only at e
  rw [<- e, tb6] at this; exact absurd (Option.some.inj this) (by decide)
 have s6:=hc6.size
 have cq : ∀ {w7 w8 : World}, Chg (fun z => z ∈ YbQ kp \/ z = b) w w7 -> Chg (isB q) w7 w8 -> Chg (fun z => z ∈ YbQ kp \/ z = b) w w8:=fun h1 h2 => h1.trans h2 fun z hz hb2 => by
  rcases hqS z hb2 with h3 | h3
  ·exact .inl h3
  ·omega
 have co : ∀ {w7 w8 : World}, Chg (fun z => z ∈ YbQ kp \/ z = b) w w7 -> Chg (isB op) w7 w8 -> Chg (fun z => z ∈ YbQ kp \/ z = b) w w8:=fun h1 h2 => h1.trans h2 fun z hz ⟨a, ha, e⟩ => by
  rw [hb] at ha; cases ha; exact .inr e.symm
 refine ⟨?_, ?_⟩
 ·refine Row.stE2 (Zzw _) hr6 hq (by omega) (x := .mk k0 u0 l0 t0 xp xl xc ats0 yp yl yc ks0) rfl (Zqe _) (by decide) fun w7 hr7 hc7 => ?_
  rw [eset] at hr7
  refine Row.stC (hrow6.chg hc7 opq) hb hcl fun w8 hp8 hc8 => ?_
  exact fin w8 (hr7.chg hc8 qop) (by rw [hq]; exact hp8) (co (cq c6 hc7) hc8)
 ·refine Row.stC hrow6 hb hcl fun w7 hp7 hc7 => ?_
  refine Row.stE2 (Zzw _) (hr6.chg hc7 qop) hq (by omega) (x := .mk k0 u0 l0 t0 xp xl xc ats0 yp yl yc ks0) rfl (Zqe _) (by decide) fun w8 hr8 hc8 => ?_
  rw [eset] at hr8
  exact fin w8 hr8 (by rw [<- hq] at hp7; exact hp7.chg hc8 (fun a ha ⟨a2, ha2, e⟩ => opq a ha ⟨a2, ha2, e⟩)) (cq (co c6 hc7) hc8)
theorem RdS.st1 {m : Int} {n' : Nat} {K : World -> Prop} (h : RdS N0 w r op oc F n d) (hm : m = (n' : Int)) (k : ∀ w', RdS N0 w' r op oc F n' d -> Chg (fun x => x = r) w w' -> K w') : stV w ⟨r, 1, none⟩ (.int .i64 m) K:=by
 subst hm
 refine stB h.cell (by simp) fun w' hh hc => k w' ?_ hc
 have tr:=Zzy h.cell
 refine ⟨hh, h.row.chg hc fun a ha e => ?_, fun o ho => (h.own o ho).chg hc fun z hz e => ?_, h.nd, fun o ho => ?_, h.ne, h.few, h.lo⟩
 ·have:=h.row.typ a ha
  rw [e, tr] at this; exact absurd (Option.some.inj this) (by decide)
 ·subst e
  rcases Yg5 (h.own o ho) z hz with h2 | h2 <;> (rw [tr] at h2; exact absurd (Option.some.inj h2) (by decide))
 ·obtain ⟨s1, s2, s3⟩:=h.sc o ho
  have ho4 : off o.bp (fun z => z = r):=by
   intro a ha2 hS
   have h1:=s3 a ha2
   rw [hS, tr] at h1; exact absurd (Option.some.inj h1) (by decide)
  exact ⟨s1.chg hc ho4, s2, fun a ha2 => Zxh hc (s3 a ha2) (ho4 a ha2)⟩
theorem Put_ok {o : OV} {k0 : Int} {l0 t0 : ByteArray} {J : Int -> World -> Prop} (h : RdS N0 w r op oc F n d) (ho : F[F.length - 1]? = some o) (hlen : o.v.kids.length <= 100000) (hn : n <= 1000000)
  (K0 : 8192 < t0.size -> ∀ w', Chg (PS N0 w) w w' -> J 5 w')
  (K1 : ¬ 8192 < t0.size -> ∀ w' kp' kc', RdS N0 w' r op oc (F.set (F.length - 1) { o with v:=o.v.kadd kp' kc' (.mk k0 kE l0 t0 none 0 0 [] none 0 0 []) }) (n + 1) d -> Chg (PS N0 w) w w' -> J 0 w') :
  Zz0 Tryz.prog ZyA #[.pointer (some ⟨r, 0, none⟩), .agg ⟨[.int .i64 k0, .string kE, .string l0, .slice none 0 0, .slice none 0 0, .string t0]⟩] w [.one (.int .i64)] J:=by
 refine Yew ?_
 obtain ⟨b, hb⟩:=h.at
 refine (Hp.start w No).newB fun b3 w1 H1 hb3 hc1 => ?_
 refine H1.ldStr 0 rfl (off:=5) rfl ?_
 refine Zz4 (fun hbig => ?_) (fun hsm => ?_)
 ·exact K0 (by omega) w1 (PS.no hc1)
 have h1:=h.chg0 hc1
 refine Yi6 h1 hb fun w2 h2 hc2 => ?_
 refine Zz7 fun J0 hJ0 => ?_
 simp only [ZzC, Addr.add_mk, Nat.zero_add]
 have h2d:=h2.chg0 (Zy0 w2)
 have c2:=(hc1.trans0 hc2).trans0 (Zy0 w2)
 have hbx:=(hc2.trans0 (Zy0 w2)).heap (H1.get 0 rfl) (fun f => f)
 have hx : Own w2.drew (.mk k0 kE l0 t0 none 0 0 [] none 0 0 []) := .mk (Row.nil _ _ _) (Row.nil _ _ _) (by simp)
 have hxb : (NV.mk k0 kE l0 t0 none 0 0 [] none 0 0 []).bs = []:=by simp [NV.bs, NV.bsL, YbQ]
 refine KidAdd h2d hb ho rfl hx (by rw [hxb]; exact nodup_nil) (by rw [hxb]; simp) hbx hlen fun w3 kp' kc' h3 hc3 => ?_
 subst hJ0
 refine ZxJ h3.c1 ?_
 refine h3.st1 (n':=n + 1) (by rw [Zzb] <;> omega) fun w4 h4 hc4 => ?_
 have c3 : Chg (PS N0 w) w w3:=PS.trans (PS.no c2) hc3
 exact K1 (by omega) w4 kp' kc' h4 (PS.trans c3 (PS.own hc4 h3.lo.1 (Zzy h3.cell) (by decide)))
end
end Go.Proofs.YtglnmjflpkeclaaGreatDoor
end
section
namespace Go.Proofs.YtglnmjflpkeclaaGreatDoor
open Go Go.Vc Go.Lib
structure RdP (N0 : Nat) (w : World) (r : Nat) (op : Option Addr) (oc : Nat) (F : List OV) : Prop where
 row : Row w Zyh 8 op F.length oc (rows OV.cells F)
 own : ∀ o ∈ F, Own w o.v
 nd : (bsF F).Nodup
 sc : ∀ o ∈ F, Sl w o.bp o.B.length 2 (rows pr o.B) /\ (o.bp = none -> o.B.length = 0) /\ ∀ a, o.bp = some a -> typ w a.block = some Zzp
 ne : F ≠ []
 few : F.length <= 100
 lo : N0 <= r /\ (∀ a, op = some a -> N0 <= a.block) /\ ∀ z ∈ bsF F, N0 <= z
section
variable {N0 : Nat} {w w' : World} {r : Nat} {op : Option Addr} {oc : Nat} {F : List OV} {n : Nat} {d : Bool}
theorem RdS.p (h : RdS N0 w r op oc F n d) : RdP N0 w r op oc F:=⟨h.row, h.own, h.nd, h.sc, h.ne, h.few, h.lo⟩
theorem RdP.st {cs : List Value} {k : Nat} {v : Value} {n' : Nat} {d' : Bool} {K : World -> Prop} (hh : w.heap[r]? = some (.cells ⟨cs⟩ YcU (0, 0))) (hk : k < cs.length) (hcs : cs.set k v = [.slice op F.length oc, .int .i64 (n' : Int), .bool d']) (h : RdP N0 w r op oc F)
  (go : ∀ w', RdS N0 w' r op oc F n' d' -> Chg (fun x => x = r) w w' -> Chg (PS N0 w) w w' -> K w') : stV w ⟨r, k, none⟩ v K:=by
 refine stB hh hk fun w' hh' hc => ?_
 have tr:=Zzy hh
 rw [hcs] at hh'
 refine go w' ⟨hh', h.row.chg hc fun a ha e => ?_, fun o ho => (h.own o ho).chg hc fun z hz e => ?_, h.nd, fun o ho => ?_, h.ne, h.few, h.lo⟩ hc (PS.own hc h.lo.1 tr (by decide))
 ·have:=h.row.typ a ha
  rw [e, tr] at this; exact absurd (Option.some.inj this) (by decide)
 ·subst e
  rcases Yg5 (h.own o ho) z hz with h2 | h2 <;> (rw [tr] at h2; exact absurd (Option.some.inj h2) (by decide))
 ·obtain ⟨s1, s2, s3⟩:=h.sc o ho
  have ho4 : off o.bp (fun z => z = r):=by
   intro a ha2 hS
   have h1:=s3 a ha2
   rw [hS, tr] at h1; exact absurd (Option.some.inj h1) (by decide)
  exact ⟨s1.chg hc ho4, s2, fun a ha2 => Zxh hc (s3 a ha2) (ho4 a ha2)⟩
theorem Row.shrink {w : World} {e : TypeId} {sz l l' c : Nat} {p : Option Addr} {A Z : List Value} (h : Row w e sz p l c (A ++ Z)) (hA : A.length = l' * sz) (hl : l' <= l) (h0 : l ≠ 0) : Row w e sz p l' c A:=by
 obtain ⟨b, rest, hp, hh, h1, h2, h3⟩:=h.some0 h0
 exact ⟨hA, .inr ⟨b, Z ++ rest, hp, by rw [<- append_assoc]; exact hh, by omega, h2, by rw [<- append_assoc]; exact h3⟩⟩
theorem ownP0 {v : NV} (h : Own w v) (hc : Chg No w w') : Own w' v:=h.chg hc fun _ _ h => h
theorem ZqQ (o : OV) : bsF [o] = o.v.bs:=by simp [bsF]
theorem Close_ok {G : List OV} {o1 o2 : OV} {J : World -> Prop} (h : RdS N0 w r op oc (G ++ [o1, o2]) n d) (hlen : o1.v.kids.length <= 100000)
  (K : ∀ w' kp' kc', RdS N0 w' r op oc (G ++ [{ o1 with v:=o1.v.kadd kp' kc' o2.v }]) n (d || decide (G = [])) -> Chg (PS N0 w) w w' -> J w') :
  Zz0 Tryz.prog ZyH #[.pointer (some ⟨r, 0, none⟩)] w [] J:=by
 refine YdJ ?_
 obtain ⟨b, hb⟩:=h.at
 have hFl : (G ++ [o1, o2]).length = G.length + 2:=by simp
 have hfew:=h.few
 have ho2 : (G ++ [o1, o2])[(G ++ [o1, o2]).length - 1]? = some o2:=by rw [hFl, getElem?_append_right (by omega), show G.length + 2 - 1 - G.length = 1 by omega]; rfl
 have hm2 : o2 ∈ G ++ [o1, o2]:=mem_of_getElem? ho2
 refine Yi6 h hb fun w1 h1 hc1 => ?_
 have hcs:=h1.cells hb ho2
 have hcs6 : ZzV w1 ⟨b, ((G ++ [o1, o2]).length - 1) * 8, none⟩ o2.v.cells:=by
  have:=ZyZ 6 hcs
  have e : o2.cells.take 6 = o2.v.cells:=take_left' (cells6 _)
  rwa [e] at this
 simp only [ZzC]
 obtain ⟨ov, oraw, obp, obc, oB⟩:=o2
 cases ov with
 | mk k u l t ap al ac ats kp kl kc ks =>
 refine Ydl (Hp.start w1 No) hcs6 fun b2 w3 H3 hb2 hc3 => ?_
 have h3:=(h1.chg0 hc3).chg0 (Zy0 w3)
 have c3:=(hc1.trans0 hc3).trans0 (Zy0 w3)
 have hbx:=(Zy0 w3).heap (H3.get 0 rfl) (fun f => f)
 refine Yd4 h3.c0 (Yd4 h3.c0 ?_)
 have e1 : w64 ((((G ++ [o1, { v := .mk k u l t ap al ac ats kp kl kc ks, raw:=oraw, bp:=obp, bc:=obc, B:=oB }]).length : Nat) : Int) - (1 : Int)) = ((G.length + 1 : Nat) : Int):=by rw [hFl, Zzb] <;> omega
 rw [e1]
 have hle:=h3.row.le
 refine slS_pre ⟨b, hb⟩ (by omega) (by omega) ?_
 have hrow2 : Row w3.drew Zyh 8 op (G ++ [o1]).length oc (rows OV.cells (G ++ [o1])):=by
  have hr:=h3.row
  have e2 : rows OV.cells (G ++ [o1, { v := .mk k u l t ap al ac ats kp kl kc ks, raw:=oraw, bp:=obp, bc:=obc, B:=oB }]) = rows OV.cells (G ++ [o1]) ++ rows OV.cells [{ v := .mk k u l t ap al ac ats kp kl kc ks, raw:=oraw, bp:=obp, bc:=obc, B:=oB }]:=by
   rw [<- Zyx, append_assoc]; rfl
  rw [e2] at hr
  exact Row.shrink hr (Yag (YhL _)) (by simp) (by rw [hFl]; omega)
 have hbsF : bsF (G ++ [o1, { v := .mk k u l t ap al ac ats kp kl kc ks, raw:=oraw, bp:=obp, bc:=obc, B:=oB }]) = bsF (G ++ [o1]) ++ (NV.mk k u l t ap al ac ats kp kl kc ks).bs:=by
  rw [show G ++ [o1, { v := .mk k u l t ap al ac ats kp kl kc ks, raw:=oraw, bp:=obp, bc:=obc, B:=oB }] = (G ++ [o1]) ++ [{ v := .mk k u l t ap al ac ats kp kl kc ks, raw:=oraw, bp:=obp, bc:=obc, B:=oB }] by simp, YbU, ZqQ]
 have hnd:=h3.nd
 rw [hbsF] at hnd
 obtain ⟨nd1, nd2, nd3⟩:=nodup_append.1 hnd
 have hsub : ∀ o ∈ G ++ [o1], o ∈ G ++ [o1, { v := .mk k u l t ap al ac ats kp kl kc ks, raw:=oraw, bp:=obp, bc:=obc, B:=oB }]:=by
  intro o ho
  rcases mem_append.1 ho with ho | ho
  ·exact mem_append_left _ ho
  ·rw [mem_singleton.1 ho]; simp
 have hlo:=h3.lo
 have P : RdP N0 w3.drew r op oc (G ++ [o1]):=⟨hrow2, fun o ho => h3.own o (hsub o ho), nd1, fun o ho => h3.sc o (hsub o ho), by simp, by simp; omega, hlo.1, hlo.2.1, fun z hz => hlo.2.2 z (by rw [hbsF]; exact mem_append_left _ hz)⟩
 refine P.st (k:=0) (n':=n) (d':=d) h3.cell (by simp) (by simp) fun w4 h4 hr4 hc4 => ?_
 have hx3:=h3.own _ (hm2)
 have c4 : Chg (PS N0 w) w w4:=PS.trans (PS.no c3) hc4
 have tr3:=Zzy h3.cell
 have hx4 : Own w4 (.mk k u l t ap al ac ats kp kl kc ks):=by
  refine hx3.chg hr4 fun z hz e => ?_
  subst e
  rcases Yg5 hx3 z hz with h2 | h2 <;> (rw [tr3] at h2; exact absurd (Option.some.inj h2) (by decide))
 have hbx4 : w4.heap[b2]? = some (.cells ⟨(NV.mk k u l t ap al ac ats kp kl kc ks).cells⟩ Zz5 (0, 0)) :=
  hr4.heap hbx fun e => by rw [e] at hbx; have:=Zzy hbx; rw [tr3] at this; exact absurd (Option.some.inj this) (by decide)
 refine Yi6 h4 hb fun w5 h5 hc5 => ?_
 refine Zz7 fun J0 hJ0 => ?_
 simp only [ZzC, Addr.add_mk, Nat.zero_add]
 have h5d:=h5.chg0 (Zy0 w5)
 have c5:=hc5.trans0 (Zy0 w5)
 have ho1 : (G ++ [o1])[(G ++ [o1]).length - 1]? = some o1:=by simp
 refine KidAdd h5d hb ho1 rfl (ownP0 hx4 c5) nd2 (fun z hz => ⟨fun hz2 => nd3 z hz2 z hz rfl, hlo.2.2 z (by rw [hbsF]; exact mem_append_right _ hz)⟩) (c5.heap hbx4 (fun f => f)) hlen fun w6 kp' kc' h6 hc6 => ?_
 have c6 : Chg (PS N0 w) w w6:=PS.trans (PS.trans c4 (PS.no c5)) hc6
 have eset : (G ++ [o1]).set ((G ++ [o1]).length - 1) { o1 with v:=o1.v.kadd kp' kc' (.mk k u l t ap al ac ats kp kl kc ks) } = G ++ [{ o1 with v:=o1.v.kadd kp' kc' (.mk k u l t ap al ac ats kp kl kc ks) }]:=by simp
 rw [eset] at h6
 subst hJ0
 refine ldB_i h6.c2 ?_
 refine Zz9 (fun hd => ?_) (fun hd => ?_)
 ·subst hd
  refine h6.p.st (k:=2) (n':=n) (d':=true) h6.cell (by simp) (by simp) fun w7 h7 _ hc7 => ?_
  exact K w7 kp' kc' h7 (PS.trans c6 hc7)
 ·subst hd
  refine Yd4 h6.c0 ?_
  have e5 : ((((G ++ [{ o1 with v:=o1.v.kadd kp' kc' (.mk k u l t ap al ac ats kp kl kc ks) }]).length : Nat) : Int) == (1 : Int)) = decide (G = []):=by
   rw [Bool.eq_iff_iff]
   cases G with
   | nil => simp
   | cons a r => simp; omega
  rw [e5]
  refine h6.p.st (k:=2) (n':=n) (d':=decide (G = [])) h6.cell (by simp) (by simp) fun w7 h7 _ hc7 => ?_
  exact K w7 kp' kc' h7 (PS.trans c6 hc7)
end
end Go.Proofs.YtglnmjflpkeclaaGreatDoor
namespace Go.Vc
open Go Go.Lib
def OV.opn (o : OV) : Opn:=⟨o.v.nd.kind, (o.v.nd.uri, o.v.nd.loc), o.v.nd.attrs, o.v.kids.map NV.nd, o.raw, o.B⟩
def ZqG (G : List OV) (o : OV) (n : Nat) (d : Bool) : PSt:=⟨o.opn, G.reverse.map OV.opn, n, d⟩
theorem opn_nd {o : OV} (h : o.v.nd.text = kE) : o.opn.nd = o.v.nd:=by
 obtain ⟨v, raw, bp, bc, B⟩:=o
 cases v with
 | mk k u l t ap al ac ats kp kl kc ks =>
  simp only [NV.nd, Nd.text] at h
  subst h
  simp only [OV.opn, Opn.nd, NV.nd, Nd.kind, Nd.uri, Nd.loc, Nd.attrs, NV.kids, Yf7]
theorem kadd_opn (o : OV) (kp : Option Addr) (kc : Nat) (x : NV) : ({ o with v:=o.v.kadd kp kc x } : OV).opn = o.opn.add x.nd:=by
 obtain ⟨v, raw, bp, bc, B⟩:=o
 cases v with
 | mk k u l t ap al ac ats kp0 kl kc0 ks =>
  simp only [OV.opn, Opn.add, NV.kadd, NV.nd, Nd.kind, Nd.uri, Nd.loc, Nd.attrs, NV.kids, map_append, map_cons, map_nil]
theorem kadd_text (v : NV) (kp : Option Addr) (kc : Nat) (x : NV) : (v.kadd kp kc x).nd.text = v.nd.text:=by cases v; rfl
theorem kadd_kids (v : NV) (kp : Option Addr) (kc : Nat) (x : NV) : (v.kadd kp kc x).kids = v.kids ++ [x]:=by cases v; rfl
theorem kadd_len (v : NV) (kp : Option Addr) (kc : Nat) (x : NV) : (v.kadd kp kc x).kids.length = v.kids.length + 1:=by cases v; simp [NV.kadd, NV.kids]
end Go.Vc
namespace Go.Proofs.YtglnmjflpkeclaaGreatDoor
open Go Go.Vc Go.Lib
structure RdI (N0 : Nat) (w : World) (r : Nat) (op : Option Addr) (oc : Nat) (G : List OV) (o : OV) (n : Nat) (d : Bool) : Prop where
 s : RdS N0 w r op oc (G ++ [o]) n d
 tx : ∀ x ∈ G ++ [o], x.v.nd.text = kE
 ct : ((G ++ [o]).map fun x => x.v.kids.length).sum + (G ++ [o]).length <= n + 1
 nn : n <= 2001
 bn : ∀ i x, (G ++ [o])[i]? = some x -> x.B.length <= 100000 * (i + 1)
section
variable {N0 : Nat} {w w' : World} {r : Nat} {op : Option Addr} {oc : Nat} {G : List OV} {o : OV} {n : Nat} {d : Bool}
theorem RdI.last (h : RdI N0 w r op oc G o n d) : (G ++ [o])[(G ++ [o]).length - 1]? = some o:=by simp
theorem set_last (G : List OV) (o o' : OV) : (G ++ [o]).set ((G ++ [o]).length - 1) o' = G ++ [o']:=by simp
theorem RdI.kl (h : RdI N0 w r op oc G o n d) : o.v.kids.length <= 2002:=by
 have:=h.ct
 have:=h.nn
 rw [map_append, sum_append] at *
 simp at *
 omega
theorem RdI.chg0 (h : RdI N0 w r op oc G o n d) (hc : Chg No w w') : RdI N0 w' r op oc G o n d:=⟨h.s.chg0 hc, h.tx, h.ct, h.nn, h.bn⟩
theorem RdI.add {o' : OV} {n' : Nat} {d' : Bool} {op' : Option Addr} {oc' : Nat} (h : RdI N0 w r op oc G o n d) (h' : RdS N0 w' r op' oc' (G ++ [o']) n' d') (ht : o'.v.nd.text = o.v.nd.text) (hk : o'.v.kids.length <= o.v.kids.length + (n' - n)) (hB : o'.B = o.B) (hn : n <= n') (hn' : n' <= 2001) : RdI N0 w' r op' oc' G o' n' d':=by
 refine ⟨h', fun x hx => ?_, ?_, hn', fun i x hx => ?_⟩
 ·rcases mem_append.1 hx with hx | hx
  ·exact h.tx x (mem_append_left _ hx)
  ·rw [mem_singleton.1 hx, ht]; exact h.tx o (by simp)
 ·have:=h.ct
  simp only [map_append, sum_append, map_cons, map_nil, sum_cons, sum_nil, length_append, length_cons, length_nil] at *
  omega
 ·rw [getElem?_append] at hx
  split at hx
  ·next hi => exact h.bn i x (by rw [getElem?_append, if_pos hi]; exact hx)
  ·next hi =>
   obtain ⟨h0, rfl⟩ : i - G.length = 0 /\ o' = x:=by
    cases hj : i - G.length with
    | zero => rw [hj] at hx; simp at hx; exact ⟨rfl, hx⟩
    | succ k => rw [hj] at hx; simp at hx
   rw [hB]
   exact h.bn i o (by rw [getElem?_append, if_neg hi, h0]; rfl)
theorem PutI_ok {k0 : Int} {l0 t0 : ByteArray} {J : Int -> World -> Prop} (h : RdI N0 w r op oc G o n d) (hn : n <= 2000)
  (K0 : putM (.mk k0 kE l0 t0 [] []) (ZqG G o n d) = .error 5 -> ∀ w', Chg (PS N0 w) w w' -> J 5 w')
  (K1 : ∀ w' o', putM (.mk k0 kE l0 t0 [] []) (ZqG G o n d) = .ok (ZqG G o' (n + 1) d) -> RdI N0 w' r op oc G o' (n + 1) d -> (∀ y ∈ o'.v.kids, y ∈ o.v.kids \/ y.nd.text.size <= 8192) -> Chg (PS N0 w) w w' -> J 0 w') :
  Zz0 Tryz.prog ZyA #[.pointer (some ⟨r, 0, none⟩), .agg ⟨[.int .i64 k0, .string kE, .string l0, .slice none 0 0, .slice none 0 0, .string t0]⟩] w [.one (.int .i64)] J:=by
 refine Put_ok h.s h.last (by have:=h.kl; omega) (by omega) (fun hb w' hc => ?_) (fun hb w' kp' kc' h' hc => ?_)
 ·exact K0 (by unfold putM; rw [if_pos (show 8192 < (Nd.mk k0 kE l0 t0 [] []).text.size from hb)]) w' hc
 ·rw [set_last] at h'
  refine K1 w' _ ?_ (h.add h' (kadd_text _ _ _ _) (by rw [kadd_len]; omega) rfl (by omega) (by omega)) (fun y hy => by
   rw [kadd_kids] at hy
   rcases mem_append.1 hy with hy | hy
   ·exact .inl hy
   ·rw [mem_singleton.1 hy]; exact .inr (by show t0.size <= 8192; omega)) hc
  unfold putM
  rw [if_neg (show ¬ 8192 < (Nd.mk k0 kE l0 t0 [] []).text.size from hb)]
  unfold ZqG
  rw [kadd_opn]
  rfl
theorem bsL_set : ∀ {ks : List NV} {i : Nat} {y y' : NV}, ks[i]? = some y -> y'.bs = y.bs -> NV.bsL (ks.set i y') = NV.bsL ks
 | [], _, _, _, h, _ => by simp at h
 | x :: r, 0, y, y', h, e => by
  simp only [getElem?_cons_zero, Option.some.injEq] at h
  subst h
  simp only [set_cons_zero, NV.bsL, e]
 | x :: r, i + 1, y, y', h, e => by
  simp only [getElem?_cons_succ] at h
  simp only [set_cons_succ, NV.bsL, bsL_set h e]
theorem RdI.kset {k : Int} {u l t : ByteArray} {ap kp : Option Addr} {al ac kl kc : Nat} {ats : List At} {ks ks' : List NV} {oraw : ByteArray} {obp : Option Addr} {obc : Nat} {oB : List Pr}
  (h : RdI N0 w r op oc G ⟨.mk k u l t ap al ac ats kp kl kc ks, oraw, obp, obc, oB⟩ n d) (hr : Row w' Zz5 6 kp kl kc (rows NV.cells ks')) (hc : Chg (isB kp) w w') (hbs : NV.bsL ks' = NV.bsL ks) (hown : ∀ y ∈ ks', Own w y) (hlen : ks'.length = ks.length) :
  RdI N0 w' r op oc G ⟨.mk k u l t ap al ac ats kp kl kc ks', oraw, obp, obc, oB⟩ n d /\ Chg (PS N0 w) w w':=by
 have hmem : (⟨.mk k u l t ap al ac ats kp kl kc ks, oraw, obp, obc, oB⟩ : OV) ∈ G ++ [⟨.mk k u l t ap al ac ats kp kl kc ks, oraw, obp, obc, oB⟩]:=by simp
 have how:=h.s.own _ hmem
 have hbF : bsF (G ++ [(⟨.mk k u l t ap al ac ats kp kl kc ks', oraw, obp, obc, oB⟩ : OV)]) = bsF (G ++ [⟨.mk k u l t ap al ac ats kp kl kc ks, oraw, obp, obc, oB⟩]):=by
  rw [YbU, YbU, ZqQ, ZqQ]; simp only [NV.bs, hbs]
 have hob : (NV.mk k u l t ap al ac ats kp kl kc ks).bs = YbQ ap ++ (YbQ kp ++ NV.bsL ks):=by simp only [NV.bs]
 have hnd:=h.s.nd
 rw [YbU, ZqQ, hob] at hnd
 obtain ⟨nG, nO, dG⟩:=nodup_append.1 hnd
 obtain ⟨nA, nR, dA⟩:=nodup_append.1 nO
 obtain ⟨nK, nL, dK⟩:=nodup_append.1 nR
 cases how with
 | mk ha hk hks =>
 have kpB : ∀ z, isB kp z -> z ∈ YbQ kp:=by rintro z ⟨a, rfl, rfl⟩; exact mem_singleton.2 rfl
 have kpT : ∀ z, isB kp z -> typ w z = some Zz5:=by rintro z ⟨a, rfl, rfl⟩; exact hk.typ a rfl
 have tyN : ∀ {z : Nat} {e : TypeId}, typ w z = some e -> e ≠ Zz5 -> ¬ isB kp z:=fun h1 h2 h3 => by
  have:=kpT _ h3
  rw [h1] at this; exact h2 (Option.some.inj this)
 have hkpF : ∀ z, isB kp z -> z ∈ bsF (G ++ [⟨.mk k u l t ap al ac ats kp kl kc ks, oraw, obp, obc, oB⟩]):=fun z hz => by
  rw [YbU, ZqQ, hob]; exact mem_append_right _ (mem_append_right _ (mem_append_left _ (kpB z hz)))
 refine ⟨⟨⟨?_, ?_, ?_, ?_, ?_, by simp, ?_, ?_⟩, ?_, ?_, h.nn, fun i x hx => ?_⟩, ?_⟩
 ·have:=hc.heap h.s.cell (tyN (Zzy h.s.cell) (by decide))
  simpa using this
 ·have h1:=h.s.row.chg hc fun a ha2 => tyN (h.s.row.typ a ha2) (by decide)
  have e : rows OV.cells (G ++ [(⟨.mk k u l t ap al ac ats kp kl kc ks', oraw, obp, obc, oB⟩ : OV)]) = rows OV.cells (G ++ [⟨.mk k u l t ap al ac ats kp kl kc ks, oraw, obp, obc, oB⟩]):=by rw [Zyx, Zyx]; rfl
  rw [e]
  simpa using h1
 ·intro o2 ho2
  rcases mem_append.1 ho2 with ho2 | ho2
  ·refine (h.s.own o2 (mem_append_left _ ho2)).chg hc fun z hz hS => ?_
   exact dG z (mem_flatMap.2 ⟨o2, ho2, hz⟩) z (mem_append_right _ (mem_append_left _ (kpB z hS))) rfl
  ·rw [mem_singleton.1 ho2]
   refine .mk (ha.chg hc fun a e hS => ?_) hr fun y hy => (hown y hy).chg hc fun z hz hS => ?_
   ·subst e; exact dA _ (mem_singleton.2 rfl) _ (mem_append_left _ (kpB _ hS)) rfl
   ·have : z ∈ NV.bsL ks:=by rw [<- hbs]; exact bsL_mem hy hz
    exact dK z (kpB z hS) z this rfl
 ·rw [hbF]; exact h.s.nd
 ·intro o2 ho2
  have key : ∀ o3 ∈ G ++ [(⟨.mk k u l t ap al ac ats kp kl kc ks, oraw, obp, obc, oB⟩ : OV)], Sl w' o3.bp o3.B.length 2 (rows pr o3.B) /\ (o3.bp = none -> o3.B.length = 0) /\ ∀ a, o3.bp = some a -> typ w' a.block = some Zzp:=by
   intro o3 ho3
   obtain ⟨s1, s2, s3⟩:=h.s.sc o3 ho3
   have ho4 : off o3.bp (isB kp):=fun a ha2 => tyN (s3 a ha2) (by decide)
   exact ⟨s1.chg hc ho4, s2, fun a ha2 => Zxh hc (s3 a ha2) (ho4 a ha2)⟩
  rcases mem_append.1 ho2 with ho2 | ho2
  ·exact key o2 (mem_append_left _ ho2)
  ·rw [mem_singleton.1 ho2]
   exact key ⟨.mk k u l t ap al ac ats kp kl kc ks, oraw, obp, obc, oB⟩ hmem
 ·have:=h.s.few; simpa using this
 ·rw [hbF]; exact h.s.lo
 ·intro x hx
  rcases mem_append.1 hx with hx | hx
  ·exact h.tx x (mem_append_left _ hx)
  ·rw [mem_singleton.1 hx]
   have:=h.tx _ hmem
   simpa [NV.nd, Nd.text] using this
 ·have:=h.ct
  simp only [map_append, map_cons, map_nil, NV.kids, length_append, length_cons, length_nil, hlen] at this ⊢
  exact this
 ·rw [getElem?_append] at hx
  split at hx
  ·next hi => exact h.bn i x (by rw [getElem?_append, if_pos hi]; exact hx)
  ·next hi =>
   cases hj : i - G.length with
   | zero =>
    rw [hj] at hx
    simp at hx
    subst hx
    exact h.bn i ⟨.mk k u l t ap al ac ats kp kl kc ks, oraw, obp, obc, oB⟩ (by rw [getElem?_append, if_neg hi, hj]; rfl)
   | succ k => rw [hj] at hx; simp at hx
 ·exact hc.mono fun z _ hz => ⟨h.s.lo.2.2 z (hkpF z hz), by rw [kpT z hz]; decide⟩
theorem ws_in (b : UInt8) : ([32, 9, 10, 13] : List UInt8).contains b = Yfq b:=u8_all (P:=fun b => ([32, 9, 10, 13] : List UInt8).contains b = Yfq b) (by decide +kernel) b
theorem PText_ok {k0 a0 r0 : Int} {refs : Nat} {n0 t0 : ByteArray} {pp : Option Addr} {pl pc : Nat} {J : Int -> World -> Prop} (h : RdI N0 w r op oc G o n d) (hn : n <= 2000) (hr0 : r0 = (refs : Int)) (ht0 : t0.size <= 100000)
  (hts : ∀ x ∈ o.v.kids, x.nd.text.size <= 100000)
  (K0 : ∀ e, Yh8 k0 refs t0 (ZqG G o n d) = .error e -> e ≠ 0 -> ∀ w', Chg (PS N0 w) w w' -> J e w')
  (K1 : ∀ w' o' n', Yh8 k0 refs t0 (ZqG G o n d) = .ok (ZqG G o' n' d) -> RdI N0 w' r op oc G o' n' d -> n <= n' -> (∀ y ∈ o'.v.kids, y ∈ o.v.kids \/ y.nd.text.size <= 8192) -> Chg (PS N0 w) w w' -> J 0 w') :
  Zz0 Tryz.prog ZqZ #[.pointer (some ⟨r, 0, none⟩), .agg ⟨[.int .i64 k0, .int .i64 a0, .string n0, .slice pp pl pc, .string t0, .int .i64 r0]⟩] w [.one (.int .i64)] J:=by
 subst hr0
 refine Ye4 ?_
 obtain ⟨b, hb⟩:=h.s.at
 have hFl : (G ++ [o]).length = G.length + 1:=by simp
 have hkl:=h.kl
 refine (Hp.start w No).newB fun b3 w1 H1 hb3 hc1 => ?_
 have h1:=h.chg0 hc1
 refine Yd4 h1.s.c0 ?_
 have hrest : (ZqG G o n d).rest = [] ↔ G = []:=by simp [ZqG]
 refine Zzd (fun he => ?_) (fun he => ?_)
 ·have hG : G = []:=by
   cases G with
   | nil => rfl
   | cons a r => rw [hFl] at he; simp at he; omega
  have hm : Yh8 k0 refs t0 (ZqG G o n d) = if k0 = 6 \/ 0 < refs \/ (bl t0).all Yfq = false then .error 30 else .ok (ZqG G o n d):=by unfold Yh8; rw [if_pos (hrest.2 hG)]
  refine Zz7 fun J26 hJ => ?_
  have fin : ∀ (x : Bool) (w2 : World), (x = true ↔ (k0 = 6 \/ 0 < refs \/ (bl t0).all Yfq = false)) -> Chg No w w2 -> J26 x w2:=by
   intro x w2 hx hc2
   subst hJ
   refine Zz9 (fun h0 => ?_) (fun h0 => ?_)
   ·exact K0 30 (by rw [hm, if_pos (hx.1 h0)]) (by decide) w2 (PS.no hc2)
   ·exact K1 w2 o n (by rw [hm, if_neg (fun e => by rw [hx.2 e] at h0; cases h0)]) (h.chg0 hc2) (Nat.le_refl _) (fun y hy => .inl hy) (PS.no hc2)
  clear hJ
  refine H1.ldI 0 rfl (off:=0) rfl ?_
  refine Zzd (fun h6 => fin true w1 ⟨fun _ => .inl h6, fun _ => rfl⟩ hc1) (fun h6 => ?_)
  refine H1.ldI 0 rfl (off:=5) rfl ?_
  refine Zz4 (fun hr => fin true w1 ⟨fun _ => .inr (.inl (by omega)), fun _ => rfl⟩ hc1) (fun hr => ?_)
  refine H1.ldStr 0 rfl (off:=4) rfl ?_
  refine Trim_ok (by omega) (by decide) (fun j b hb => ?_) fun w3 hc3 => ?_
  ·have hm:=mem_of_getElem? hb
   have : ∀ x ∈ ([32, 9, 10, 13] : List UInt8), x.toNat < 128:=by decide
   exact this b hm
  ·rw [mkB_nil, show bl ⟨#[32, 9, 10, 13]⟩ = [32, 9, 10, 13] from rfl, all_mem ws_in]
   refine fin _ w3 ?_ (hc1.trans0 hc3)
   constructor
   ·intro e; exact .inr (.inr (by simpa using e))
   ·rintro (e | e | e)
    ·exact absurd e h6
    ·omega
    ·rw [e]; rfl
 have hG : G ≠ []:=by rintro rfl; simp at he
 have hm : Yh8 k0 refs t0 (ZqG G o n d) = if t0 = kE then .ok (ZqG G o n d) else match Ybr (o.v.kids.map NV.nd) t0 with
   | some (ks, x) => if 8192 < x.size then .error 5 else .ok { ZqG G o n d with top:={ (ZqG G o n d).top with kids:=ks } }
   | none => putM (YdV t0) (ZqG G o n d):=by
  unfold Yh8; rw [if_neg (fun e => hG (hrest.1 e))]; rfl
 refine Yi6 h1.s hb fun w4 h4 hc4 => ?_
 have c4:=hc1.trans0 hc4
 have H4:=H1.step0 hc4
 have h4I:=h.chg0 c4
 have hcs:=h4.cells hb h.last
 simp only [ZzC, Addr.add_mk, Nat.zero_add]
 obtain ⟨ov, oraw, obp, obc, oB⟩:=o
 cases ov with
 | mk k u l t ap al ac ats kp kl kc ks =>
 have hsl:=hcs 4 (.slice kp kl kc) rfl
 rw [Addr.add_mk] at hsl
 have howo:=h4.own _ (mem_of_getElem? h.last)
 refine Yd4 hsl ?_
 refine H4.ldStr 0 rfl (off:=4) rfl ?_
 rw [Ycl]
 refine Zz4 (fun h0 => ?_) (fun h0 => ?_)
 ·exact K1 w4 _ n (by rw [hm, if_pos (show t0 = kE from h0)]) h4I (Nat.le_refl _) (fun y hy => .inl hy) (PS.no c4)
 rw [if_neg (show ¬ t0 = kE from h0)] at hm
 cases howo with
 | mk ha hk hks =>
 have hkl2:=hk.sl.row (Zzw ks) (by decide)
 simp only [NV.kids] at hkl hm hts
 have e1 : kl ≠ 0 -> w64 (((kl : Nat) : Int) - (1 : Int)) = ((kl - 1 : Nat) : Int):=fun h0 => by rw [Zzb] <;> omega
 refine Zz7 fun J40 hJ40 => ?_
 have kT : Ybr (ks.map NV.nd) t0 = none -> ∀ w5, Chg No w4 w5 -> J40 true w5:=by
  intro hnone w5 hc5
  subst hJ40
  refine Zz9 (fun _ => ?_) (fun h => by cases h)
  have H5:=H4.step0 hc5
  have h5:=h4I.chg0 hc5
  have c5:=c4.trans0 hc5
  rw [hnone] at hm
  dsimp only at hm
  refine H5.ldStr 0 rfl (off:=4) rfl ?_
  refine PutI_ok h5 hn (fun hp w6 hc6 => ?_) (fun w6 o' hp h6 hky hc6 => ?_)
  ·exact K0 5 (by rw [hm]; exact hp) (by decide) w6 (PS.trans (PS.no c5) hc6)
  ·exact K1 w6 o' (n + 1) (by rw [hm]; exact hp) h6 (by omega) hky (PS.trans (PS.no c5) hc6)
 have kF : ∀ y, ks.getLast? = some y -> y.nd.kind = 3 -> ∀ w5, Chg No w4 w5 -> J40 false w5:=by
  intro y hy hy3 w5 hc5
  subst hJ40
  refine Zz9 (fun h => by cases h) (fun _ => ?_)
  have hne : ks ≠ []:=by rintro rfl; simp at hy
  have hl0 : 0 < ks.length:=length_pos_iff.2 hne
  have hyi : ks[kl - 1]? = some y:=by rw [<- hkl2, <- getLast?_eq_getElem?]; exact hy
  have hym:=mem_of_getElem? hyi
  have hyt:=hts y hym
  cases y with
  | mk yk yu yl yt yap yal yac yas ykp ykl ykc yks =>
  simp only [NV.nd, Nd.kind] at hy3
  subst hy3
  simp only [NV.nd, Nd.text] at hyt
  have hadd : Ybr (ks.map NV.nd) t0 = some ((ks.map NV.nd).dropLast ++ [.mk 3 yu yl (yt ++ t0) yas (NV.ndL yks)], yt ++ t0):=by
   unfold Ybr
   rw [getLast?_map, hy]
   simp only [Option.map_some, NV.nd, if_true]
  rw [hadd] at hm
  dsimp only at hm
  have c5:=(c4.trans0 hc5).trans0 (Zy0 w5)
  have cd:=hc5.trans0 (Zy0 w5)
  have h5:=h4I.chg0 cd
  have H5:=H4.step0 cd
  have hsl5:=cd.cell hsl (fun f => f)
  have hk5:=hk.chg cd (off_no _)
  refine Yd4 hsl5 ?_
  rw [e1 (by omega)]
  obtain ⟨bk, hbk⟩:=hk5.at0 (by omega)
  subst hbk
  have hyc : ZzV w5.drew ⟨bk, (kl - 1) * 6, none⟩ (NV.mk 3 yu yl yt yap yal yac yas ykp ykl ykc yks).cells:=by
   obtain ⟨a, ha2, hc⟩:=hk5.sl.at (by omega)
   cases ha2
   have h1:=ZyZ 6 (ZqC ((kl - 1) * 6) hc)
   rw [Yfw (Zzw ks) hyi, Addr.add_mk, Nat.zero_add] at h1
   exact h1
  refine ⟨by omega, by omega, ?_⟩
  simp only [ZzC, Int.toNat_natCast, Addr.add_mk, Nat.zero_add]
  have hyt5:=hyc 5 (.string yt) rfl
  rw [Addr.add_mk] at hyt5
  refine ZzB hyt5 ?_
  refine H5.ldStr 0 rfl (off:=4) rfl ?_
  refine ⟨by omega, by omega, by omega, ?_⟩
  simp only [ZzC, Int.toNat_natCast, Addr.add_mk, Nat.zero_add]
  refine Row.stC hk5 rfl (by rw [Yag (Zzw ks)]; omega) fun w7 hr7 hc7 => ?_
  have hset : (rows NV.cells ks).set ((kl - 1) * 6 + 5) (.string (yt ++ t0)) = rows NV.cells (ks.set (kl - 1) (.mk 3 yu yl (yt ++ t0) yap yal yac yas ykp ykl ykc yks)) :=
   rows_setC (Zzw ks) hyi (by decide) rfl
  rw [hset] at hr7
  have hbse : (NV.mk 3 yu yl (yt ++ t0) yap yal yac yas ykp ykl ykc yks).bs = (NV.mk 3 yu yl yt yap yal yac yas ykp ykl ykc yks).bs:=by simp only [NV.bs]
  have hown5:=h5.s.own _ (mem_of_getElem? h.last)
  cases hown5 with
  | mk ha5 hkk5 hks5 =>
  have hyo : Own w5.drew (.mk 3 yu yl (yt ++ t0) yap yal yac yas ykp ykl ykc yks):=by
   cases hks5 _ hym with
   | mk q1 q2 q3 => exact .mk q1 q2 q3
  obtain ⟨h7, c7⟩:=h5.kset hr7 hc7 (bsL_set hyi hbse) (fun z hz => by
   rcases mem_or_eq_of_mem_set hz with hz | rfl
   ·exact hks5 z hz
   ·exact hyo) (by rw [length_set])
  have c7' : Chg (PS N0 w) w w7:=PS.trans (PS.no c5) c7
  have hsl7 : w7.cell? ⟨b, ((G ++ [({ v := .mk k u l t ap al ac ats (some ⟨bk, 0, none⟩) kl kc ks, raw:=oraw, bp:=obp, bc:=obc, B:=oB } : OV)]).length - 1) * 8 + 4, none⟩ = some (.slice (some ⟨bk, 0, none⟩) kl kc):=by
   have h8:=h7.s.cells hb h7.last 4 (.slice (some ⟨bk, 0, none⟩) kl kc) rfl
   rw [Addr.add_mk] at h8
   simpa using h8
  refine Yd4 hsl7 ?_
  have hyc7 : ZzV w7 ⟨bk, (kl - 1) * 6, none⟩ (NV.mk 3 yu yl (yt ++ t0) yap yal yac yas ykp ykl ykc yks).cells:=by
   obtain ⟨a, ha2, hc⟩:=hr7.sl.at (by omega)
   cases ha2
   have h1:=ZyZ 6 (ZqC ((kl - 1) * 6) hc)
   rw [Yfw (Zzw _) (show (ks.set (kl - 1) (.mk 3 yu yl (yt ++ t0) yap yal yac yas ykp ykl ykc yks))[kl - 1]? = some (.mk 3 yu yl (yt ++ t0) yap yal yac yas ykp ykl ykc yks) by rw [getElem?_set, if_pos rfl, if_pos (by omega)]), Addr.add_mk, Nat.zero_add] at h1
   exact h1
  refine ⟨by omega, by omega, ?_⟩
  simp only [ZzC, Int.toNat_natCast, Addr.add_mk, Nat.zero_add]
  have hyt7:=hyc7 5 (.string (yt ++ t0)) rfl
  rw [Addr.add_mk] at hyt7
  refine ZzB hyt7 ?_
  have emap : (ks.set (kl - 1) (.mk 3 yu yl (yt ++ t0) yap yal yac yas ykp ykl ykc yks)).map NV.nd = (ks.map NV.nd).dropLast ++ [.mk 3 yu yl (yt ++ t0) yas (NV.ndL yks)]:=by
   rw [map_set, <- hkl2]
   have hl1 : (ks.map NV.nd).length - 1 = ks.length - 1:=by rw [length_map]
   rw [<- hl1]
   have hne2 : ks.map NV.nd ≠ []:=by simpa using hne
   conv => lhs; arg 1; rw [<- dropLast_concat_getLast hne2]
   rw [set_append_right _ _ (by rw [length_dropLast]; exact Nat.le_refl _), length_dropLast, Nat.sub_self]
   simp only [set_cons_zero, NV.nd]
  refine Zz4 (fun hbig => ?_) (fun hsm => ?_)
  ·exact K0 5 (by rw [hm, if_pos (by omega)]) (by decide) w7 c7'
  ·refine K1 w7 _ n ?_ h7 (Nat.le_refl _) (fun z hz => ?_) c7'
   ·rw [hm, if_neg (by omega)]
    unfold ZqG OV.opn
    simp only [NV.kids, emap, NV.nd, Nd.kind, Nd.uri, Nd.loc, Nd.attrs]
   ·rcases mem_or_eq_of_mem_set hz with hz | rfl
    ·exact .inl hz
    ·exact .inr (by show (yt ++ t0).size <= 8192; omega)
 clear hJ40
 refine Zz4 (fun hneg => ?_) (fun hpos => ?_)
 ·have hk0 : ks = []:=by
   cases ks with
   | nil => rfl
   | cons a r => exfalso; rw [length_cons] at hkl2; rw [e1 (by omega)] at hneg; omega
  exact kT (by rw [hk0]; rfl) w4 (Chg.refl _ _)
 ·have hk0 : kl ≠ 0:=by
   rintro rfl
   exact hpos (by decide)
  have hne : ks ≠ []:=by rintro rfl; simp at hkl2; omega
  refine Yd4 hsl ?_
  rw [e1 hk0]
  refine ZzT hk.sl (Zzw ks) (by decide) (by omega) (by omega) fun a y _ hy hcy => ?_
  rw [Int.toNat_natCast] at hy hcy
  have hyl : ks.getLast? = some y:=by rw [getLast?_eq_getElem?, hkl2]; exact hy
  cases y with
  | mk yk yu yl yt yap yal yac yas ykp ykl ykc yks =>
  rw [Int.toNat_natCast]
  refine ZxJ (ZzG hcy) ?_
  by_cases h3 : yk = 3
  ·subst h3
   exact kF _ hyl rfl w4 (Chg.refl _ _)
  ·have e3 : (yk != (3 : Int)) = true:=by simpa using h3
   rw [e3]
   refine kT ?_ w4 (Chg.refl _ _)
   unfold Ybr
   rw [getLast?_map, hyl]
   simp only [Option.map_some, NV.nd]
   rw [if_neg h3]
end
end Go.Proofs.YtglnmjflpkeclaaGreatDoor
end
section
namespace Go.Vc
open Go Go.Lib
theorem ins_perm (a : At) : ∀ L : List At, (insA a L).Perm (a :: L)
 | [] => List.Perm.refl _
 | b :: r => by
  unfold insA
  split
  ·exact ((ins_perm a r).cons b).trans (List.Perm.swap a b r)
  ·exact List.Perm.refl _
theorem ins_asc (a : At) : ∀ L : List At, Asc L -> (∀ b ∈ L, nameOf b ≠ nameOf a) -> Asc (insA a L)
 | [], _, _ => by unfold insA; exact pairwise_singleton _ _
 | b :: r, h, hn => by
  have hb:=pairwise_cons.1 h
  unfold insA
  split
  ·next hlt =>
   refine pairwise_cons.2 ⟨fun x hx => ?_, ins_asc a r hb.2 fun c hc => hn c (mem_cons_of_mem _ hc)⟩
   rcases mem_cons.1 ((ins_perm a r).mem_iff.1 hx) with rfl | hx
   ·exact hlt
   ·exact hb.1 x hx
  ·next hlt =>
   have hab : aLt a b = true:=by
    unfold aLt at hlt ⊢
    rcases Yhv (nameOf a) (nameOf b) with h1 | h1 | h1
    ·exact h1
    ·exact absurd h1.symm (hn b mem_cons_self)
    ·exact absurd h1 hlt
   refine pairwise_cons.2 ⟨fun x hx => ?_, h⟩
   rcases mem_cons.1 hx with rfl | hx
   ·exact hab
   ·have h2:=hb.1 x hx
    unfold aLt at hab h2 ⊢
    exact YfD hab h2
theorem srt_spec : ∀ L : List At, (names L).Nodup -> Asc (srtA L) /\ (srtA L).Perm L
 | [], _ => ⟨List.Pairwise.nil, List.Perm.refl _⟩
 | a :: r, h => by
  simp only [names, map_cons, nodup_cons] at h
  obtain ⟨h1, h2⟩:=srt_spec r h.2
  unfold srtA
  refine ⟨ins_asc a _ h1 fun b hb e => h.1 (mem_map.2 ⟨b, h2.mem_iff.1 hb, e⟩), (ins_perm a _).trans (h2.cons a)⟩
theorem srt_eq {X Y : List At} (hp : X.Perm Y) (hX : Asc X) : X = srtA Y /\ (names Y).Nodup:=by
 have hn : (names Y).Nodup:=(perm_names hp).1 (Yi5 hX)
 obtain ⟨h1, h2⟩:=srt_spec Y hn
 exact ⟨asc_uniq hX h1 (hp.trans h2.symm), hn⟩
end Go.Vc
namespace Go.Proofs.YtglnmjflpkeclaaGreatDoor
open Go Go.Vc Go.Lib
section
variable {N0 : Nat} {w w' : World} {r : Nat} {op : Option Addr} {oc : Nat} {G : List OV} {o : OV} {n : Nat} {d : Bool}
theorem slT_open : SlT Tryz.prog Yce Zyh 8 144 #[.int .i64 0, .string ByteArray.empty, .string ByteArray.empty, .slice none 0 0, .slice none 0 0, .string ByteArray.empty, .string ByteArray.empty, .slice none 0 0]:=SlT.of (by kernel_rfl) (by kernel_rfl) rfl (by decide)
set_option maxHeartbeats 400000 in
theorem Begin_ok {k0 a0 r0 : Int} {n0 t0 : ByteArray} {pp : Option Addr} {pc : Nat} {pairs : List Pr} {J : Int -> World -> Prop} (T : TT w) (h : RdI N0 w r op oc G o n d) (hn : n <= 2000) (hp : Row w Zzo 2 pp pairs.length pc (rows pr pairs)) (hpl : pairs.length <= 100000) (hps : ∀ x ∈ pairs, x.1.size <= 1000000) (hn0 : n0.size <= 1000000)
  (K0 : ∀ e, YaX n0 pairs (ZqG G o n d) = .error e -> e ≠ 0 -> ∀ w', Chg (PS N0 w) w w' -> J e w')
  (K1 : ∀ w' op' oc' o', YaX n0 pairs (ZqG G o n d) = .ok (ZqG (G ++ [o]) o' (n + 1) d) -> RdI N0 w' r op' oc' (G ++ [o]) o' (n + 1) d -> o'.v.kids = [] -> Chg (PS N0 w) w w' -> J 0 w') :
  Zz0 Tryz.prog Zxl #[.pointer (some ⟨r, 0, none⟩), .agg ⟨[.int .i64 k0, .int .i64 a0, .string n0, .slice pp pairs.length pc, .string t0, .int .i64 r0]⟩] w [.one (.int .i64)] J:=by
 refine YdK ?_
 obtain ⟨b, hb⟩:=h.s.at
 have hFl : (G ++ [o]).length = G.length + 1:=by simp
 have hrest : (ZqG G o n d).rest = [] ↔ G = []:=by simp [ZqG]
 have hrl : (ZqG G o n d).rest.length = G.length:=by simp [ZqG]
 have hmo : o ∈ G ++ [o]:=by simp
 have hbn:=h.bn G.length o (by rw [getElem?_append_right (Nat.le_refl _), Nat.sub_self]; rfl)
 have hfew:=h.s.few
 rw [hFl] at hfew
 refine (Hp.start w No).newB fun b3 w1 H1 hb3 hc1 => ?_
 refine Zz7 fun J11 hJ11 => ?_
 have k11 : ∀ x : Bool, (x = true ↔ (G = [] /\ d = true)) -> J11 x w1:=by
  intro x hx
  subst hJ11
  have hm : YaX n0 pairs (ZqG G o n d) = if x = true then .error 30 else if 32 < G.length then .error 31
   else if (ZyD pairs [] o.B).2 ≠ 0 then .error (ZyD pairs [] o.B).2
   else if (YaR (Zzl (ZyD pairs [] o.B).1) n0).2 ≠ 0 then .error (YaR (Zzl (ZyD pairs [] o.B).1) n0).2
   else if (Zyb (Zzl (ZyD pairs [] o.B).1) pairs []).2 ≠ 0 then .error (Zyb (Zzl (ZyD pairs [] o.B).1) pairs []).2
   else if ¬ (names (Zyb (Zzl (ZyD pairs [] o.B).1) pairs []).1).Nodup then .error 27
   else if YdX (srtA (Zyb (Zzl (ZyD pairs [] o.B).1) pairs []).1) = true then .error 5
   else .ok { top:=⟨2, (YaR (Zzl (ZyD pairs [] o.B).1) n0).1, srtA (Zyb (Zzl (ZyD pairs [] o.B).1) pairs []).1, [], n0, (ZyD pairs [] o.B).1⟩, rest:=(ZqG G o n d).top :: (ZqG G o n d).rest, nodes:=n + 1, done:=d }:=by
   have e1 : ((ZqG G o n d).rest = [] /\ (ZqG G o n d).done = true) ↔ x = true:=by rw [hrest]; exact hx.symm
   unfold YaX
   simp only [e1, hrl]
   rfl
  refine Zz9 (fun h0 => ?_) (fun h0 => ?_)
  ·exact K0 30 (by rw [hm, if_pos h0]) (by decide) w1 (PS.no hc1)
  rw [if_neg (by rw [h0]; decide)] at hm
  have h1:=h.chg0 hc1
  refine Yd4 h1.s.c0 ?_
  have e1 : w64 ((((G ++ [o]).length : Nat) : Int) - (1 : Int)) = (G.length : Int):=by rw [hFl, Zzb] <;> omega
  rw [e1]
  refine Zz4 (fun hdeep => ?_) (fun hdeep => ?_)
  ·exact K0 31 (by rw [hm, if_pos (by omega)]) (by decide) w1 (PS.no hc1)
  rw [if_neg (by omega)] at hm
  obtain ⟨B', hB'⟩ : ∃ B', ZyD pairs [] o.B = B':=⟨_, rfl⟩
  rw [hB'] at hm
  refine Zz7 fun J5 hJ5 => ?_
  have k5 : ∀ (b5 : Nat) (w3 : World) (bp : Option Addr) (bl_ bc : Nat), Hp w No w3 [⟨b5, [.slice bp bl_ bc], Zzh⟩, ⟨b3, [.int .i64 k0, .int .i64 a0, .string n0, .slice pp pairs.length pc, .string t0, .int .i64 r0], Zze⟩] ->
    Row w3 Zzp 2 bp bl_ bc (rows pr B'.1) -> fresh w bp -> bl_ <= o.B.length + pairs.length -> J5 (some ⟨b5, 0, none⟩) B'.2 w3:=by
   intro b5 w3 bp bl_ bc H3 hrB hfB hBl
   subst hJ5
   have h3:=h.chg0 H3.chg
   have hbl : bl_ = B'.1.length:=(hrB.sl.row (YdC _) (by decide)).symm
   refine Zzi (fun hne => ?_) (fun h0 => ?_)
   ·exact K0 _ (by rw [hm, if_pos hne]) hne w3 (PS.no H3.chg)
   rw [if_neg (by omega)] at hm
   simp only [ZzC]
   refine H3.ldS 0 rfl (off:=0) rfl ?_
   refine H3.ldStr 1 rfl (off:=2) rfl ?_
   refine Element_ok hrB.sl (by omega) (by omega) (T.chg H3.chg).tabs fun w4 hc4 => ?_
   have H4:=H3.step0 hc4
   rw [YfW]
   refine H4.newB fun b7 w5 H5 hb7 hc5 => ?_
   refine H5.stN 0 rfl (off:=0) rfl (by simp) (YaZ (YaR (Zzl B'.1) n0).1) fun w6 H6 hc6 => ?_
   simp only [set_cons_zero] at H6
   have c36 : Chg No w3 w6:=hc4.trans0 (hc5.trans hc6 fun z hz e => by subst e; omega)
   refine Zzi (fun hne => ?_) (fun h0 => ?_)
   ·exact K0 _ (by rw [hm, if_pos hne]) hne w6 (PS.no H6.chg)
   rw [if_neg (by omega)] at hm
   refine H6.ldS 1 rfl (off:=0) rfl ?_
   refine H6.ldS 2 rfl (off:=3) rfl ?_
   have hrB6:=hrB.chg c36 (off_no _)
   have hp6:=hp.chg H6.chg (off_no _)
   refine Attrs_ok hrB6.sl (by omega) hp6.sl (fun x hx => by have:=hps x hx; omega) (by omega) (T.chg H6.chg).tabs (fun hne w7 hc7 => ?_) (fun h0 hdup w7 hc7 => ?_) (fun h0 X hperm hasc ap al al_ w7 hra hfa hc7 => ?_)
   ·refine Zzi (fun _ => ?_) (fun hh => absurd hh hne)
    exact K0 _ (by rw [hm, if_pos hne]) hne w7 (PS.no (H6.chg.trans0 hc7))
   ·refine Zzi (fun _ => ?_) (fun hh => absurd hh (by decide))
    refine K0 27 ?_ (by decide) w7 (PS.no (H6.chg.trans0 hc7))
    rw [hm, if_neg (by omega), if_pos (show ¬ (names (Zyb (Zzl B'.1) pairs []).1).Nodup from hdup)]
   ·refine Zzi (fun hh => absurd rfl hh) (fun _ => ?_)
    obtain ⟨hX, hnd⟩:=srt_eq hperm hasc
    rw [if_neg (by omega), if_neg (by simpa using hnd), <- hX] at hm
    have H7:=H6.step0 hc7
    have hal:=hra.sl.row (YaK X) (by decide)
    refine ⟨fun x w' m => ∃ k : Nat, x = k /\ k <= al /\ m = al - k /\ Chg No w7 w' /\ (k ≠ 0 -> X.length <= 64) /\ ∀ a ∈ X.take k, a.2.2.size <= 8192, ⟨_, 0, rfl, Nat.zero_le _, rfl, Chg.refl _ _, fun h => absurd rfl h, by simp⟩, ?_⟩
    rintro x8 w8 m ⟨k, rfl, hk, rfl, hc8, h64, hsz⟩
    have hra8:=hra.chg hc8 (off_no _)
    have H8:=H7.step0 hc8
    have big : YdX X = true -> ∀ w', Chg No w w' -> J 5 w':=fun hg w' hc => K0 5 (by rw [hm, if_pos hg]) (by decide) w' (PS.no hc)
    refine Zz4 (fun hlt => ?_) (fun hge => ?_)
    ·refine ZzT hra8.sl (YaK X) (by decide) (by omega) hlt fun ad y _ hy hcy => ?_
     rw [Int.toNat_natCast] at hy hcy
     rw [Int.toNat_natCast]
     have hym:=mem_of_getElem? hy
     refine ldAttr hcy ?_
     rw [zeroC_attr]
     refine (Hp.start w8 No).newB fun b10 w9 H9 hb10 hc9 => ?_
     refine H9.stN 0 rfl (off:=0) rfl (by simp) (Yg7 y) fun w10 H10 hc10 => ?_
     simp only [set_cons_zero] at H10
     refine Zz7 fun J80 hJ80 => ?_
     have hne : X ≠ []:=by rintro rfl; simp at hym
     refine Zz4 (fun h6 => ?_) (fun h6 => ?_)
     ·subst hJ80
      refine Zz9 (fun _ => ?_) (fun h => by cases h)
      refine big ?_ w10 ((H7.chg.trans0 hc8).trans0 H10.chg)
      unfold YdX
      rw [decide_eq_true hne, decide_eq_true (show 64 < X.length by omega)]; rfl
     ·refine H10.ldStr 0 rfl (off:=2) rfl ?_
      subst hJ80
      refine Zz4 (fun h8 => ?_) (fun h8 => ?_)
      ·refine big ?_ w10 ((H7.chg.trans0 hc8).trans0 H10.chg)
       unfold YdX
       rw [decide_eq_true hne, Bool.true_and, Bool.or_eq_true]
       exact .inr (any_eq_true.2 ⟨y, hym, decide_eq_true (by omega)⟩)
      ·refine ⟨_, by omega, k + 1, by rw [Zzb] <;> omega, by omega, rfl, hc8.trans0 H10.chg, fun _ => by omega, fun a ha => ?_⟩
       rw [Yaf hy] at ha
       rcases mem_append.1 ha with ha | ha
       ·exact hsz a ha
       ·rw [mem_singleton.1 ha]; omega
    ·have hk2 : k = al:=by omega
     subst hk2
     rw [take_of_length_le (by omega)] at hsz
     have hgr : YdX X = false:=by
      unfold YdX
      by_cases hne : X = []
      ·rw [decide_eq_false (by simpa using hne)]; rfl
      ·have : k ≠ 0:=fun e => hne (eq_nil_of_length_eq_zero (by omega))
       have h64':=h64 this
       rw [decide_eq_false (show ¬ 64 < X.length by omega), Bool.false_or]
       have : X.any (fun a => decide (8192 < a.2.2.size)) = false:=by
        rw [any_eq_false]; intro a ha; have:=hsz a ha; simp; omega
       rw [this, Bool.and_false]
     rw [if_neg (by rw [hgr]; decide)] at hm
     have H8d:=H8.drew
     have h8:=h.chg0 H8d.chg
     refine Yd4 h8.s.c0 ?_
     refine H8d.ldStr 0 rfl (off:=0) rfl ?_
     refine H8d.ldStr 0 rfl (off:=1) rfl ?_
     refine ⟨rfl, ?_⟩
     refine H8d.ldStr 2 rfl (off:=2) rfl ?_
     refine H8d.ldS 1 rfl (off:=0) rfl ?_
     refine ⟨rfl, rfl, rfl, ?_⟩
     obtain ⟨en, hen⟩ : ∃ en, (YaR (Zzl B'.1) n0).1 = en:=⟨_, rfl⟩
     rw [hen] at hm ⊢
     subst hbl
     have hrow8:=h8.s.row
     refine newRow (n:=1) (sz:=8) (cs:=OV.cells ⟨.mk 2 en.1 en.2 kE ap k al_ X none 0 0 [], n0, bp, bc, B'.1⟩) rfl (by decide) fun b94 w12 hrow hb94 hc12 => ?_
     have c812:=(Zy0 w8).trans0 hc12
     have h12:=h8.chg0 hc12
     have c12 : Chg No w w12:=H8d.chg.trans0 hc12
     refine ⟨h12.s.c0, ?_⟩
     refine Ycc slT_open h12.s.row hrow.sl (one1_ov _) (by simp) (by omega) (by unfold maxLen; omega) fun p' c' w13 hr13 hc13 hf13 => ?_
     obtain ⟨O', hO'⟩ : ∃ O' : OV, O' = ⟨.mk 2 en.1 en.2 kE ap k al_ X none 0 0 [], n0, bp, bc, B'.1⟩:=⟨_, rfl⟩
     rw [<- hO'] at hr13
     have topen : ∀ a, op = some a -> typ w12 a.block = some Zyh:=h12.s.row.typ
     have offO : ∀ {z : Nat} {e : TypeId}, typ w12 z = some e -> e ≠ Zyh -> ¬ isB op z:=fun h1 h2 ⟨a, ha, e⟩ => by
      have:=topen a ha
      rw [e, h1] at this; exact h2 (Option.some.inj this)
     have hra12:=(hra8.chg c812 (off_no _))
     have hra13:=hra12.chg hc13 fun a ha => offO (hra12.typ a ha) (by decide)
     have hrB12:=hrB.chg ((c36.trans0 hc7).trans0 (hc8.trans0 c812)) (off_no _)
     have hrB13:=hrB12.chg hc13 fun a ha => offO (hrB12.typ a ha) (by decide)
     have hown13 : ∀ x ∈ G ++ [o], Own w13 x.v:=fun x hx => (h12.s.own x hx).chg hc13 fun z hz => by
      rcases Yg5 (h12.s.own x hx) z hz with h2 | h2
      ·exact offO h2 (by decide)
      ·exact offO h2 (by decide)
     have hbsO : O'.v.bs = YbQ ap:=by rw [hO']; simp [NV.bs, NV.bsL, YbQ]
     have hbs' : bsF ((G ++ [o]) ++ [O']) = bsF (G ++ [o]) ++ YbQ ap:=by rw [YbU, ZqQ, hbsO]
     have hfap : ∀ z ∈ YbQ ap, w6.heap.size <= z:=by
      intro z hz
      cases ap with
      | none => simp [YbQ] at hz
      | some a => rw [mem_singleton.1 hz]; exact hfa a rfl
     have hlt0 : ∀ z ∈ bsF (G ++ [o]), z < w.heap.size:=fun z hz => by
      obtain ⟨o2, ho2, hz2⟩:=mem_flatMap.1 hz
      exact (h.s.own o2 ho2).lt z hz2
     have s6:=H6.chg.size
     have hN0 : N0 <= w.heap.size:=Nat.le_trans h.s.lo.1 (Nat.le_of_lt (Zy4 h.s.cell))
     have s12:=c12.size
     have hlen' : ((G ++ [o]) ++ [O']).length = (G ++ [o]).length + 1:=by rw [length_append]; rfl
     have P : RdP N0 w13 r p' c' ((G ++ [o]) ++ [O']):=by
      refine ⟨?_, fun x hx => ?_, ?_, fun x hx => ?_, by simp, by rw [hlen', hFl]; omega, h.s.lo.1, fun a ha => ?_, fun z hz => ?_⟩
      ·have e8 : rows OV.cells [O'] = O'.cells:=by simp [rows]
       rw [hlen', Zyx, e8]; exact hr13
      ·rcases mem_append.1 hx with hx | hx
       ·exact hown13 x hx
       ·rw [mem_singleton.1 hx, hO']
        exact .mk hra13 (Row.nil _ _ _) (by simp)
      ·rw [hbs']
       refine nodup_append.2 ⟨h.s.nd, ?_, fun a ha c hc e => ?_⟩
       ·cases ap <;> simp [YbQ]
       ·subst e; have:=hlt0 a ha; have:=hfap a hc; omega
      ·rcases mem_append.1 hx with hx | hx
       ·obtain ⟨s1, s2, s3⟩:=h12.s.sc x hx
        have ho4 : off x.bp (isB op):=fun a ha2 => offO (s3 a ha2) (by decide)
        exact ⟨s1.chg hc13 ho4, s2, fun a ha2 => Zxh hc13 (s3 a ha2) (ho4 a ha2)⟩
       ·rw [mem_singleton.1 hx, hO']
        exact ⟨hrB13.sl, fun e => hrB13.none0 e, hrB13.typ⟩
      ·rcases hf13 with rfl | ⟨hf13, _⟩
       ·exact h.s.lo.2.1 a ha
       ·have:=hf13 a ha; omega
      ·rw [hbs'] at hz
       rcases mem_append.1 hz with hz | hz
       ·exact h.s.lo.2.2 z hz
       ·have:=hfap z hz; omega
     have hcell13:=hc13.heap h12.s.cell (offO (Zzy h12.s.cell) (by decide))
     have c13 : Chg (PS N0 w) w w13:=PS.trans (PS.no c12) (hc13.mono fun z _ hz => by
      obtain ⟨a, ha, e⟩:=hz
      subst e
      exact ⟨h.s.lo.2.1 a ha, by rw [topen a ha]; decide⟩)
     refine P.st (k:=0) (n':=n) (d':=d) hcell13 (by simp) (by simp only [set_cons_zero, hlen']) fun w14 h14 _ hc14 => ?_
     simp only [Addr.add_mk, Nat.zero_add]
     refine ZxJ h14.c1 ?_
     refine h14.p.st (k:=1) (n':=n + 1) (d':=d) h14.cell (by simp) (by rw [Zzb (by omega) (by omega)]; simp) fun w15 h15 _ hc15 => ?_
     refine K1 w15 p' c' O' ?_ ⟨h15, fun x hx => ?_, ?_, by omega, fun i x hx => ?_⟩ (by rw [hO']; rfl) (PS.trans (PS.trans c13 hc14) hc15)
     ·rw [hm, hO']
      simp only [ZqG, reverse_append, reverse_cons, reverse_nil, nil_append, cons_append, map_cons, OV.opn, NV.nd, Nd.kind, Nd.uri, Nd.loc, Nd.attrs, NV.kids, map_nil]
     ·rcases mem_append.1 hx with hx | hx
      ·exact h.tx x hx
      ·rw [mem_singleton.1 hx, hO']; rfl
     ·have h1:=h.ct
      have hk0 : O'.v.kids.length = 0:=by rw [hO']; rfl
      have e9 : (((G ++ [o]) ++ [O']).map fun x => x.v.kids.length).sum = ((G ++ [o]).map fun x => x.v.kids.length).sum:=by
       rw [map_append, sum_append]
       simp only [map_cons, map_nil, hk0, sum_cons, sum_nil, Nat.add_zero]
      rw [e9, hlen']
      omega
     ·rw [getElem?_append] at hx
      split at hx
      ·exact h.bn i x hx
      ·next hi =>
       cases hj : i - (G ++ [o]).length with
       | zero =>
        rw [hj] at hx
        simp at hx
        subst hx
        rw [hO']
        dsimp only
        rw [hFl] at hj hi
        omega
       | succ k => rw [hj] at hx; simp at hx
  clear hJ5
  have hd1:=Zy0 w1
  have H1d:=H1.drew
  have h1d:=h1.chg0 hd1
  have e0 : Zy2 Tryz.prog Zzh = ⟨[.slice none 0 0]⟩:=YeY
  rw [e0]
  refine H1d.ldS 0 rfl (off:=3) rfl ?_
  have openT : ∀ {w2 : World} {Γ : List Blk} (_ : Hp w No w2 Γ) {J' : Option Addr -> Nat -> Nat -> Int -> World -> Prop}, (∀ p' l' c' w3, Row w3 Zzp 2 p' l' c' (rows pr B'.1) -> fresh w2 p' -> Chg No w2 w3 -> l' <= o.B.length + pairs.length -> J' p' l' c' B'.2 w3) ->
    Zz0 Tryz.prog Zyz #[.agg ⟨[.slice o.bp o.B.length o.bc]⟩, .slice pp pairs.length pc] w2 [.agg [.slice], .one (.int .i64)] J':=by
   intro w2 Γ H2 J' k
   obtain ⟨s1, s2, s3⟩:=(h.chg0 H2.chg).s.sc o hmo
   refine Open_ok s1 s2 (hp.chg H2.chg (off_no _)).sl (fun x hx => by have:=hps x hx; omega) (by omega) (T.chg H2.chg).tabs fun p' l' c' w3 hr hf hc hl => ?_
   rw [hB'] at hr ⊢
   exact k p' l' c' w3 hr hf hc hl
  have bcell : ∀ {w2 : World} {Γ : List Blk} (_ : Hp w No w2 Γ), ZzV w2 ⟨b, ((G ++ [o]).length - 1) * 8 + 7, none⟩ [.slice o.bp o.B.length o.bc]:=by
   intro w2 Γ H2
   have h1:=ZqC 7 ((h.chg0 H2.chg).s.cells hb h.last)
   rw [Addr.add_mk] at h1
   have e : o.cells.drop 7 = [.slice o.bp o.B.length o.bc]:=by
    unfold OV.cells
    rw [show o.v.cells ++ [.string o.raw, .slice o.bp o.B.length o.bc] = (o.v.cells ++ [.string o.raw]) ++ [.slice o.bp o.B.length o.bc] by simp, drop_left' (by rw [length_append, cells6]; rfl)]
   rw [e] at h1
   exact h1
  refine ⟨?_, ?_⟩
  ·refine Yi6 h1d.s hb fun w16 h16 hc16 => ?_
   have H16:=H1d.step0 hc16
   refine ⟨H16.cell 0 rfl rfl, ?_⟩
   simp only [ZzC, Addr.add_mk, Nat.zero_add]
   refine Yd4 (ZzG (bcell H16)) ?_
   refine ⟨?_, ?_⟩
   ·refine openT H16 fun p' l' c' w17 hr hf hc hl => ?_
    have H17:=H16.step0 hc
    refine H17.newB fun b5 w18 H18 hb5 hc18 => ?_
    refine ⟨bcell H18, H18.cell 1 rfl rfl, ?_⟩
    refine H18.stN 0 rfl (off:=0) (vs:=[.slice p' l' c']) rfl (by simp) (by intro v hv; simp at hv; subst hv; rfl) fun w19 H19 hc19 => ?_
    simp only [set_cons_zero] at H19
    have hr18:=hr.chg hc18 (off_no _)
    refine k5 b5 w19 p' l' c' H19 (hr18.chg hc19 fun a ha e => ?_) (Yav H16.chg.size hf) hl
    have:=hr18.typ a ha
    rw [e, Zzy (H18.get 0 rfl)] at this
    exact absurd (Option.some.inj this) (by decide)
   ·refine H16.newB fun b5 w18 H18 hb5 hc18 => ?_
    refine ⟨bcell H18, H18.cell 1 rfl rfl, ?_⟩
    refine openT H18 fun p' l' c' w17 hr hf hc hl => ?_
    have H17:=H18.step0 hc
    refine H17.stN 0 rfl (off:=0) (vs:=[.slice p' l' c']) rfl (by simp) (by intro v hv; simp at hv; subst hv; rfl) fun w19 H19 hc19 => ?_
    simp only [set_cons_zero] at H19
    refine k5 b5 w19 p' l' c' H19 (hr.chg hc19 fun a ha e => ?_) (Yav H18.chg.size hf) hl
    have:=hr.typ a ha
    rw [e, Zzy (H17.get 0 rfl)] at this
    exact absurd (Option.some.inj this) (by decide)
  ·refine H1d.newB fun b5 w18 H18 hb5 hc18 => ?_
   refine ⟨H18.cell 1 rfl rfl, ?_⟩
   refine Yi6 (h.chg0 H18.chg).s hb fun w16 h16 hc16 => ?_
   have H16:=H18.step0 hc16
   refine ⟨H16.cell 1 rfl rfl, ?_⟩
   simp only [ZzC, Addr.add_mk, Nat.zero_add]
   refine Yd4 (ZzG (bcell H16)) ?_
   refine openT H16 fun p' l' c' w17 hr hf hc hl => ?_
   have H17:=H16.step0 hc
   refine H17.stN 0 rfl (off:=0) (vs:=[.slice p' l' c']) rfl (by simp) (by intro v hv; simp at hv; subst hv; rfl) fun w19 H19 hc19 => ?_
   simp only [set_cons_zero] at H19
   refine k5 b5 w19 p' l' c' H19 (hr.chg hc19 fun a ha e => ?_) (Yav H16.chg.size hf) hl
   have:=hr.typ a ha
   rw [e, Zzy (H17.get 0 rfl)] at this
   exact absurd (Option.some.inj this) (by decide)
 clear hJ11
 have h1:=h.chg0 hc1
 refine Yd4 h1.s.c0 ?_
 refine Zzd (fun he => ?_) (fun he => ?_)
 ·have hG : G = []:=by
   cases G with
   | nil => rfl
   | cons a r => rw [hFl] at he; simp at he; omega
  refine ldB_i h1.s.c2 ?_
  exact k11 d ⟨fun h => ⟨hG, h⟩, fun h => h.2⟩
 ·refine k11 false ⟨fun h => (by cases h), fun h => ?_⟩
  rw [h.1] at he; simp at he
end
end Go.Proofs.YtglnmjflpkeclaaGreatDoor
end
section
namespace Go.Vc
open Go Go.Lib
theorem toks_good {N : Nat} {B : List UInt8} (hB : Zxd B) (h13 : (13 : UInt8) ∉ B) : ∀ {k : Nat} {pre r : List UInt8} {acc L : List TokQ}, Ybh N k r acc = .ok L -> B = pre ++ r -> (∀ t ∈ acc, TokG t) ->
  (∀ t ∈ L, TokG t) /\ (L.map YdG).sum <= (acc.map YdG).sum + 35 * r.length
 | 0, _, _, _, _, h, _, _ => by simp [Ybh] at h
 | k + 1, pre, r, acc, L, h, he, ha => by
  unfold Ybh at h
  split at h
  ·simp only [Except.ok.injEq] at h
   rw [<- h]; exact ⟨ha, by omega⟩
  ·next hne =>
   split at h
   ·cases h
   ·next t r2 ht =>
    obtain ⟨hg, ⟨s, hs⟩, hc⟩:=tok_good hB h13 he hne ht
    have hg2 : TokG { t with at_:=N - r.length }:=⟨hg.cmt, hg.ins, hg.txt, hg.val⟩
    have hc2 : YdG { t with at_:=N - r.length } = YdG t:=rfl
    obtain ⟨h1, h2⟩:=toks_good hB h13 h (pre:=pre ++ s) (by rw [he, hs]; simp) (fun x hx => by
     rcases mem_append.1 hx with hx | hx
     ·exact ha x hx
     ·rw [mem_singleton.1 hx]; exact hg2)
    refine ⟨h1, ?_⟩
    rw [map_append, sum_append, map_singleton, sum_singleton, hc2] at h2
    omega
theorem Yhn (b : List UInt8) : (Zyv b).length <= b.length:=by
 have h1 : ∀ (p : Bool) (x : List UInt8), (lns p x).length <= x.length:=Go.Vc.lns_len
 have h2:=h1 false (if bomL.isPrefixOf b = true then b.drop 3 else b)
 unfold Zyv
 split at h2
 ·rw [if_pos (by assumption)]; rw [length_drop] at h2; omega
 ·rw [if_neg (by assumption)]; omega
theorem all_good {b : List UInt8} {L : List TokQ} (h : allR b = .ok L) : (∀ t ∈ L, TokG t) /\ (L.map YdG).sum <= 2293760:=by
 unfold allR at h
 split at h
 ·cases h
 next hb =>
 split at h
 ·cases h
 next hf =>
 obtain ⟨h1, h2⟩:=toks_good (B:=Zyv b) (by unfold Zxd; omega) (lns_no13 _ _) h (pre:=[]) rfl (by simp)
 have:=Yhn b
 simp only [map_nil, sum_nil] at h2
 exact ⟨h1, by omega⟩
def SpcG (u : ByteArray) : Prop:=u.size <= 100 /\ Zxd (bl u) /\ u ≠ kXMLNS
def BindG (B : List Pr) : Prop := ∀ b ∈ B, SpcG b.2 /\ b.2 ≠ kE
theorem spcG_E : SpcG kE:=⟨by decide, Yc7, by decide⟩
theorem spcG_xml : SpcG Zys:=⟨by decide, Zqr (by decide), by decide⟩
theorem kSX_eq : kSX = kXMLNS:=rfl
theorem Yhq : ∀ {L : List Pr} {had : List ByteArray} {B : List Pr}, BindG B -> (∀ p ∈ L, Zxd (bl p.2)) -> (ZyD L had B).2 = 0 -> BindG (ZyD L had B).1
 | [], _, _, hB, _, _ => hB
 | x :: L, had, B, hB, hL, h => by
  unfold ZyD at h ⊢
  have hr : ∀ p ∈ L, Zxd (bl p.2):=fun p hp => hL p (by simp [hp])
  cases hd : decl x with
  | none => rw [hd] at h; exact Yhq hB hr h
  | some p =>
   rw [hd] at h
   simp only at h ⊢
   by_cases hw : Yco p x.2 ≠ 0
   ·rw [if_pos hw] at h; exact absurd h hw
   rw [if_neg hw] at h ⊢
   by_cases hm : memB p had = true
   ·rw [if_pos hm] at h; cases h
   rw [if_neg hm] at h ⊢
   refine Yhq ?_ hr h
   have hw0 : Yco p x.2 = 0:=by simpa using hw
   have hsp : SpcG x.2:=by
    unfold Yco at hw0
    split at hw0
    ·cases hw0
    ·next h1 =>
     split at hw0
     ·cases hw0
     ·split at hw0
      ·cases hw0
      ·next h3 => exact ⟨by omega, hL x (by simp), fun e => h1 (.inr (.inl (by rw [kSX_eq]; exact e)))⟩
   intro b hb
   unfold putP at hb
   rcases mem_append.1 hb with hb | hb
   ·exact hB b (mem_filter.1 hb).1
   ·split at hb
    ·next h2 => rw [mem_singleton.1 hb]; exact ⟨hsp, h2.2⟩
    ·cases hb
theorem bound_good {B : List Pr} (hB : BindG B) (p : ByteArray) : SpcG (Zzl B p).1 /\ (p ≠ kE -> (Zzl B p).2 = true -> (Zzl B p).1 ≠ kE):=by
 unfold Zzl
 by_cases hx : p = kXml
 ·rw [if_pos hx]; exact ⟨spcG_xml, fun _ _ => by decide⟩
 ·rw [if_neg hx]
  cases hf : B.find? (fun b => decide (b.1 = p)) with
  | none => exact ⟨spcG_E, fun h1 h2 => absurd (of_decide_eq_true h2) h1⟩
  | some b =>
   have:=hB b (mem_of_find?_eq_some hf)
   exact ⟨this.1, fun _ _ => this.2⟩
theorem YhU {n : Pr} (h1 : nm (bl n.2) = true) (h2 : SpcG n.1) : Zqc n = true:=by
 unfold Zqc
 rw [h1, decide_eq_true h2.1, ZqB.2 h2.2.1, decide_eq_true h2.2.2]; rfl
theorem qn_len {q p l : List UInt8} (h : QN q p l) : l.length <= q.length /\ 1 <= l.length:=by
 have:=length_pos_iff.2 (YbX h.1)
 obtain ⟨hl, ⟨rfl, rfl⟩ | ⟨hp, rfl⟩⟩:=h
 ·exact ⟨Nat.le_refl _, this⟩
 ·simp only [length_append, length_cons]; omega
theorem elem_good {B : List Pr} (hB : BindG B) {q : ByteArray} (h : (YaR (Zzl B) q).2 = 0) : Zqc (YaR (Zzl B) q).1 = true /\ (YaR (Zzl B) q).1.2.size <= q.size:=by
 unfold YaR at h ⊢
 by_cases h1 : (spl (bl q)).2.2 = false
 ·rw [if_pos h1] at h; cases h
 rw [if_neg h1] at h ⊢
 by_cases h2 : mkB (spl (bl q)).1 = Zqf
 ·rw [if_pos h2] at h; cases h
 rw [if_neg h2] at h ⊢
 by_cases h3 : (Zzl B (mkB (spl (bl q)).1)).2 = false
 ·rw [if_pos h3] at h; cases h
 rw [if_neg h3]
 have hq:=qn_spl (q:=bl q) (by simpa using h1)
 have hlen:=qn_len hq
 rw [Zzn] at hlen
 exact ⟨YhU (by rw [ZzH]; exact hq.1) (bound_good hB _).1, by show (mkB _).size <= _; rw [Zyi]; exact hlen.1⟩
def AttG (a : At) : Prop:=YdM a = true /\ Zxd (bl a.2.2)
theorem attr_good {B : List Pr} (hB : BindG B) {x : Pr} (hd : decl x = none) (hf : Zxd (bl x.2)) (h : (attr1 (Zzl B) x).2 = 0) : AttG (attr1 (Zzl B) x).1 /\ ZxI (attr1 (Zzl B) x).1 <= pairC x:=by
 unfold attr1 at h ⊢
 by_cases h1 : (spl (bl x.1)).2.2 = false
 ·rw [if_pos h1] at h; cases h
 rw [if_neg h1] at h ⊢
 have hq:=qn_spl (q:=bl x.1) (by simpa using h1)
 have hlen:=(qn_len hq).1
 rw [Zzn] at hlen
 have hnm : nm (bl (mkB (spl (bl x.1)).2.1)) = true:=by rw [ZzH]; exact hq.1
 have hsz : (mkB (spl (bl x.1)).2.1).size <= x.1.size:=by rw [Zyi]; exact hlen
 by_cases h2 : (spl (bl x.1)).1 = []
 ·rw [if_pos h2]
  refine ⟨⟨?_, hf⟩, ?_⟩
  ·unfold YdM
   rw [YhU (n:=nameOf (kE, mkB (spl (bl x.1)).2.1, x.2)) hnm spcG_E, Bool.true_and]
   have : ¬ ((kE : ByteArray) = ZzN /\ mkB (spl (bl x.1)).2.1 = kXn):=by
    rintro ⟨_, e⟩
    have hx : x.1 = Zqf:=by
     obtain ⟨_, ⟨_, e2⟩ | ⟨hp, _⟩⟩:=hq
     ·refine Zqt (e2.trans ?_)
      rw [<- ZzH (spl (bl x.1)).2.1, e]; rfl
     ·rw [h2] at hp; exact absurd rfl (YbX hp)
    unfold decl at hd
    rw [if_pos hx] at hd; cases hd
   simp only [this, decide_false, Bool.not_false]
  ·show 1 + kE.size + (mkB (spl (bl x.1)).2.1).size + x.2.size <= 101 + x.1.size + x.2.size
   have : kE.size = 0:=rfl
   omega
 ·rw [if_neg h2] at h ⊢
  by_cases h3 : (Zzl B (mkB (spl (bl x.1)).1)).2 = false
  ·rw [if_pos h3] at h; cases h
  rw [if_neg h3]
  have hb:=bound_good hB (mkB (spl (bl x.1)).1)
  have hne:=hb.2 (fun e => h2 (by rw [<- ZzH (spl (bl x.1)).1, e]; rfl)) (by simpa using h3)
  refine ⟨⟨?_, hf⟩, ?_⟩
  ·unfold YdM
   rw [YhU (n:=nameOf ((Zzl B (mkB (spl (bl x.1)).1)).1, mkB (spl (bl x.1)).2.1, x.2)) hnm hb.1, Bool.true_and]
   have : ¬ ((Zzl B (mkB (spl (bl x.1)).1)).1 = ZzN /\ mkB (spl (bl x.1)).2.1 = kXn):=fun e => hne e.1
   simp only [this, decide_false, Bool.not_false]
  ·show 1 + (Zzl B (mkB (spl (bl x.1)).1)).1.size + (mkB (spl (bl x.1)).2.1).size + x.2.size <= 101 + x.1.size + x.2.size
   have:=hb.1.1
   omega
theorem Ygl {B : List Pr} (hB : BindG B) : ∀ {L : List Pr} {acc : List At}, (∀ p ∈ L, Zxd (bl p.2)) -> (∀ a ∈ acc, AttG a) -> (Zyb (Zzl B) L acc).2 = 0 ->
  (∀ a ∈ (Zyb (Zzl B) L acc).1, AttG a) /\ ((Zyb (Zzl B) L acc).1.map ZxI).sum <= (acc.map ZxI).sum + (L.map pairC).sum
 | [], acc, _, ha, _ => ⟨ha, by simp [Zyb]⟩
 | x :: L, acc, hL, ha, h => by
  unfold Zyb at h ⊢
  have hr : ∀ p ∈ L, Zxd (bl p.2):=fun p hp => hL p (by simp [hp])
  rw [map_cons, sum_cons]
  by_cases hd : (decl x).isSome = true
  ·rw [if_pos hd] at h ⊢
   have:=Ygl hB hr ha h
   exact ⟨this.1, by omega⟩
  rw [if_neg hd] at h ⊢
  by_cases h1 : (attr1 (Zzl B) x).2 ≠ 0
  ·rw [if_pos h1] at h; exact absurd h h1
  rw [if_neg h1] at h ⊢
  have hd' : decl x = none:=by cases hq : decl x with
   | none => rfl
   | some p => rw [hq] at hd; exact absurd rfl hd
  have ag:=attr_good hB hd' (hL x (by simp)) (by simpa using h1)
  have:=Ygl hB hr (fun a hm => by
   rcases mem_append.1 hm with hm | hm
   ·exact ha a hm
   ·rw [mem_singleton.1 hm]; exact ag.1) h
  refine ⟨this.1, ?_⟩
  have h2:=this.2
  rw [map_append, sum_append, map_singleton, sum_singleton] at h2
  omega
structure OpnG (o : Opn) (above : Nat) : Prop where
 kids : ∀ x ∈ o.kids, Ycn x /\ YfE o.kind x.kind = true /\ Ych (above : Nat) x = false
 two : ZzP o.kids = false
 el : o.kind = 2 -> Zqc o.name = true /\ (∀ a ∈ o.attrs, AttG a) /\ ascB o.attrs = true /\ YdX o.attrs = false
 doc : o.kind = 1 -> o.name = (kE, kE) /\ o.attrs = []
 binds : BindG o.binds
def StackG : Opn -> List Opn -> Prop
 | o, [] => o.kind = 1 /\ OpnG o 0
 | o, p :: r => o.kind = 2 /\ r.length <= 32 /\ OpnG o (r.length + 1) /\ StackG p r
def opnM (o : Opn) : Nat:=(if o.kind = 2 then 1 + o.name.1.size + o.name.2.size + (o.attrs.map ZxI).sum else 0) + Nd.meaNL o.kids
def stM : Opn -> List Opn -> Nat
 | o, [] => opnM o
 | o, p :: r => opnM o + stM p r
def stK : Opn -> List Opn -> Nat
 | o, [] => (Nd.flatL o.kids).length
 | o, p :: r => (Nd.flatL o.kids).length + 1 + stK p r
def YcY : Opn -> List Opn -> Nat
 | o, [] => o.kids.countP fun k => decide (k.kind = 2)
 | _, p :: r => YcY p r
structure InvP (c : Nat) (s : PSt) : Prop where
 stack : StackG s.top s.rest
 nodes : s.nodes = stK s.top s.rest
 mea : stM s.top s.rest <= c
 roots : YcY s.top s.rest = if s.done = true then 1 else 0
 done : s.rest ≠ [] -> s.done = false
theorem StackG.top {o : Opn} {r : List Opn} (h : StackG o r) : OpnG o r.length /\ (r = [] -> o.kind = 1) /\ (r ≠ [] -> o.kind = 2):=by
 cases r with
 | nil => exact ⟨h.2, fun _ => h.1, fun e => absurd rfl e⟩
 | cons p r => exact ⟨h.2.2.1, fun e => absurd e (by simp), fun _ => h.1⟩
theorem YbN : ∀ a b : List Nd, Nd.flatL (a ++ b) = Nd.flatL a ++ Nd.flatL b
 | [], _ => rfl
 | x :: r, b => by simp [Nd.flatL, YbN r b]
theorem YhI (n : Nd) : Nd.flatL [n] = n.flat:=by simp [Nd.flatL]
theorem two_snoc : ∀ {ks : List Nd} {n : Nd}, ZzP ks = false -> (n.kind = 3 -> Yi8 ks) -> ZzP (ks ++ [n]) = false
 | [], n, _, _ => rfl
 | [a], n, h, hn => by
  simp only [cons_append, nil_append, ZzP, Bool.or_false]
  by_cases h3 : n.kind = 3
  ·have : a.kind ≠ 3:=hn h3 a rfl
   simp [this]
  ·simp [h3]
 | a :: b :: r, n, h, hn => by
  simp only [ZzP, Bool.or_eq_false_iff] at h
  have ih:=two_snoc (ks:=b :: r) (n:=n) h.2 (fun h3 x hx => hn h3 x (by rw [getLast?_cons_cons]; exact hx))
  simp only [cons_append, ZzP, Bool.or_eq_false_iff] at ih ⊢
  exact ⟨h.1, ih⟩
theorem two_swap : ∀ {a : List Nd} {x y : Nd}, ZzP (a ++ [x]) = false -> y.kind = x.kind -> ZzP (a ++ [y]) = false
 | [], _, _, _, _ => rfl
 | [a], x, y, h, e => by
  simp only [cons_append, nil_append, ZzP] at h ⊢
  rw [e]; exact h
 | a :: b :: r, x, y, h, e => by
  simp only [cons_append, ZzP, Bool.or_eq_false_iff] at h ⊢
  exact ⟨h.1, two_swap (a:=b :: r) h.2 e⟩
theorem add_top {o : Opn} {above : Nat} {n : Nd} (h : OpnG o above) (hg : Ycn n) (hm : YfE o.kind n.kind = true) (hd : Ych (above : Nat) n = false) (h2 : n.kind = 3 -> Yi8 o.kids) : OpnG (o.add n) above:=by
 refine ⟨fun x hx => ?_, two_snoc h.two h2, h.el, h.doc, h.binds⟩
 rcases mem_append.1 hx with hx | hx
 ·exact h.kids x hx
 ·rw [mem_singleton.1 hx]; exact ⟨hg, hm, hd⟩
theorem YfZ {o o' : Opn} {r : List Opn} (h : StackG o r) (hk : o'.kind = o.kind) (ho : OpnG o' r.length) : StackG o' r:=by
 cases r with
 | nil => exact ⟨hk.trans h.1, ho⟩
 | cons p r => exact ⟨hk.trans h.1, h.2.1, ho, h.2.2.2⟩
theorem stM_eq (o : Opn) (r : List Opn) : stM o r = opnM o + (match r with | [] => 0 | p :: q => stM p q):=by cases r <;> simp [stM]
theorem stK_eq (o : Opn) (r : List Opn) : stK o r = (Nd.flatL o.kids).length + (match r with | [] => 0 | p :: q => 1 + stK p q):=by cases r <;> simp [stK, Nat.add_assoc]
theorem opnM_add (o : Opn) (n : Nd) : opnM (o.add n) = opnM o + n.meaN:=by
 unfold opnM Opn.add
 simp only [Yei, Nd.meaNL]
 omega
theorem rootsS_add {o : Opn} {r : List Opn} {n : Nd} (h : n.kind ≠ 2) : YcY (o.add n) r = YcY o r:=by
 cases r with
 | nil => simp [YcY, Opn.add, countP_append, h]
 | cons p r => rfl
theorem InvP.put {c : Nat} {s : PSt} (h : InvP c s) {n : Nd} (hg : Ycn n) (hm : YfE s.top.kind n.kind = true) (hd : Ych (s.rest.length : Nat) n = false) (h2 : n.kind = 3 -> Yi8 s.top.kids) (hne : n.kind ≠ 2) (hf : n.flat.length = 1) :
  InvP (c + n.meaN) { s with top:=s.top.add n, nodes:=s.nodes + 1 }:=by
 refine ⟨YfZ h.stack rfl (add_top h.stack.top.1 hg hm hd h2), ?_, ?_, ?_, h.done⟩
 ·show s.nodes + 1 = stK (s.top.add n) s.rest
  rw [h.nodes, stK_eq, stK_eq (s.top.add n)]
  simp only [Opn.add, YbN, YhI, length_append, hf]
  omega
 ·show stM (s.top.add n) s.rest <= c + n.meaN
  have:=h.mea
  rw [stM_eq] at this ⊢
  rw [opnM_add]; omega
 ·show YcY (s.top.add n) s.rest = _
  rw [rootsS_add hne]; exact h.roots
theorem node1 {k : Int} {u l t : ByteArray} {ats : List At} (h : NodeG (.mk k u l t ats [])) : Ycn (.mk k u l t ats []) /\ (Nd.mk k u l t ats []).flat.length = 1:=by
 refine ⟨fun x hx => ?_, rfl⟩
 simp only [Nd.flat, Nd.flatL, mem_singleton] at hx
 rw [hx]; exact h
theorem text_good {t : ByteArray} (h : t ≠ kE) (hf : Zxd (bl t)) (hs : ¬ 8192 < t.size) : NodeG (YdV t):=by
 refine ⟨rfl, ?_, rfl, ?_, rfl, ?_⟩
 ·show (decide (64 < 0) || decide (8192 < t.size) || false) = false
  simp [hs]
 ·show (YdB t && true) = true
  rw [ZqB.2 hf]; rfl
 ·show (!false && Yb9 3 t) = true
  unfold Yb9
  rw [if_pos rfl, show decide (t ≠ ZzN) = true from decide_eq_true h]; rfl
theorem cmt_good {t : ByteArray} (h : Yb9 4 t = true) (hf : Zxd (bl t)) (hs : ¬ 8192 < t.size) : NodeG (.mk 4 kE kE t [] []):=by
 refine ⟨rfl, ?_, rfl, ?_, rfl, ?_⟩
 ·show (decide (64 < 0) || decide (8192 < t.size) || false) = false
  simp [hs]
 ·show (YdB t && true) = true
  rw [ZqB.2 hf]; rfl
 ·show (!false && Yb9 4 t) = true
  rw [h]; rfl
theorem ins_good {l t : ByteArray} (hl : nm (bl l) = true) (hx : Ydq (bl l) = false) (h : Yb9 5 t = true) (hf : Zxd (bl t)) (hs : ¬ 8192 < t.size) : NodeG (.mk 5 kE l t [] []):=by
 refine ⟨rfl, ?_, ?_, ?_, rfl, ?_⟩
 ·show (decide (64 < 0) || decide (8192 < t.size) || false) = false
  simp [hs]
 ·show ((true || _) && true && (false || (nm (bl l) && !Ydq (bl l)))) = true
  rw [hl, hx]; rfl
 ·show (YdB t && true) = true
  rw [ZqB.2 hf]; rfl
 ·show (!false && Yb9 5 t) = true
  rw [h]; rfl
theorem YfM {k : Int} {u l t : ByteArray} {ats : List At} {a : Int} (h : k ≠ 2) : Ych a (.mk k u l t ats []) = false:=by
 rw [Ych, if_neg h]; rfl
theorem putM_inv {c : Nat} {s s' : PSt} {n : Nd} (h : InvP c s) (hp : putM n s = .ok s') (hn : ¬ 8192 < n.text.size -> InvP (c + n.meaN) { s with top:=s.top.add n, nodes:=s.nodes + 1 }) : InvP (c + n.meaN) s':=by
 unfold putM at hp
 split at hp
 ·cases hp
 ·next hs =>
  simp only [Except.ok.injEq] at hp
  rw [<- hp]; exact hn hs
theorem top_may {s : PSt} {c : Nat} (h : InvP c s) {k : Int} (hk : k = 2 \/ k = 4 \/ k = 5) : YfE s.top.kind k = true:=by
 have:=h.stack.top
 unfold YfE
 refine decide_eq_true ?_
 by_cases hr : s.rest = []
 ·have:=this.2.1 hr; omega
 ·have:=this.2.2 hr; omega
theorem addText_some {ks ks' : List Nd} {t x : ByteArray} (h : Ybr ks t = some (ks', x)) : ∃ a u l y ats s, ks = a ++ [.mk 3 u l y ats s] /\ ks' = a ++ [.mk 3 u l x ats s] /\ x = y ++ t:=by
 unfold Ybr at h
 cases hl : ks.getLast? with
 | none => rw [hl] at h; simp at h
 | some z =>
  cases z with
  | mk k u l y ats s =>
   rw [hl] at h
   simp only at h
   split at h
   ·next hk =>
    simp only [Option.some.injEq, Prod.mk.injEq] at h
    subst hk
    refine ⟨ks.dropLast, u, l, y, ats, s, ?_, by rw [<- h.1, <- h.2], h.2.symm⟩
    obtain ⟨ys, e⟩:=getLast?_eq_some_iff.1 hl
    rw [e]; simp
   ·cases h
theorem addText_none' {ks : List Nd} {t : ByteArray} (h : Ybr ks t = none) : Yi8 ks:=by
 intro x hx h3
 unfold Ybr at h
 rw [hx] at h
 cases x with
 | mk k u l y ats s =>
  simp only [Nd.kind] at h3
  simp only at h
  rw [if_pos h3] at h; cases h
theorem textM_inv {c : Nat} {s s' : PSt} {k : Int} {refs : Nat} {t : ByteArray} (h : InvP c s) (hf : Zxd (bl t)) (hp : Yh8 k refs t s = .ok s') : InvP (c + (1 + t.size)) s':=by
 have wk : ∀ {d : Nat}, c <= d -> InvP d s:=fun hd => ⟨h.stack, h.nodes, by have:=h.mea; omega, h.roots, h.done⟩
 unfold Yh8 at hp
 split at hp
 ·split at hp
  ·cases hp
  ·simp only [Except.ok.injEq] at hp
   rw [<- hp]; exact wk (by omega)
 ·next hr =>
  have htop:=h.stack.top
  have h2:=htop.2.2 hr
  split at hp
  ·simp only [Except.ok.injEq] at hp
   rw [<- hp]; exact wk (by omega)
  ·next hne =>
   split at hp
   ·next ks x hadd =>
    split at hp
    ·cases hp
    ·next hsz =>
     simp only [Except.ok.injEq] at hp
     obtain ⟨a, u, l, y, ats, z, e1, e2, e3⟩:=addText_some hadd
     have hlast:=htop.1.kids (.mk 3 u l y ats z) (by rw [e1]; simp)
     obtain ⟨rfl, rfl, rfl, rfl⟩:=Yfa hlast.1.self.kind (.inl rfl)
     have hy:=textQ_3 hlast.1.self.textq
     have hfx : Zxd (bl x):=by rw [e3, YaM]; exact Zqs hlast.1.self.fine_text hf
     have hxne : x ≠ kE:=by
      intro e
      have:=congrArg bl (e3.symm.trans e)
      rw [YaM] at this
      have h0:=(append_eq_nil_iff.1 (this.trans (rfl : bl kE = []))).1
      exact hy (Zqt (h0.trans (rfl : bl kE = []).symm))
     have hgx : NodeG (YdV x):=text_good hxne hfx hsz
     have hg:=node1 (ats:=[]) hgx
     rw [<- hp]
     have hsize : x.size = y.size + t.size:=by rw [e3, size_append]
     refine ⟨YfZ h.stack rfl ⟨fun q hq => ?_, ?_, htop.1.el, htop.1.doc, htop.1.binds⟩, ?_, ?_, ?_, h.done⟩
     ·simp only at hq
      rw [e2] at hq
      rcases mem_append.1 hq with hq | hq
      ·exact htop.1.kids q (by rw [e1]; simp [hq])
      ·rw [mem_singleton.1 hq]
       exact ⟨hg.1, hlast.2.1, YfM (by decide)⟩
     ·show ZzP ks = false
      rw [e2]
      have:=htop.1.two
      rw [e1] at this
      exact two_swap this rfl
     ·show s.nodes = stK { s.top with kids:=ks } s.rest
      rw [h.nodes, stK_eq, stK_eq { s.top with kids:=ks }, e1]
      simp only [e2, YbN, YhI, length_append, Nd.flat, Nd.flatL]
      rfl
     ·show stM { s.top with kids:=ks } s.rest <= _
      have:=h.mea
      rw [stM_eq] at this ⊢
      unfold opnM at this ⊢
      rw [e1] at this
      simp only [e2, Yei, Nd.meaNL, Nd.meaN, map_nil, sum_nil] at this ⊢
      omega
     ·show YcY { s.top with kids:=ks } s.rest = _
      have:=h.roots
      cases hrest : s.rest with
      | nil => exact absurd hrest hr
      | cons p q => rw [hrest] at this; exact this
   ·next hadd =>
    have e : (YdV t).meaN = 1 + t.size:=by
     unfold YdV
     simp only [Nd.meaN, Nd.meaNL, YcD, map_nil, sum_nil]
     omega
    rw [<- e]
    refine putM_inv h hp fun hs => ?_
    have hg:=node1 (ats:=[]) (text_good hne hf hs)
    refine h.put hg.1 ?_ (YfM (by decide)) (fun _ => addText_none' hadd) (by simp [YdV, Nd.kind]) hg.2
    show YfE s.top.kind 3 = true
    unfold YfE
    exact decide_eq_true (by omega)
theorem close_inv {c : Nat} {s : PSt} (h : InvP c s) (hr : s.rest ≠ []) : InvP c (Yc9 s):=by
 cases s with
 | mk o rest nodes done =>
  cases rest with
  | nil => exact absurd rfl hr
  | cons p r =>
   have hd:=h.done hr
   obtain ⟨hk, hdp, ho, hst⟩:=h.stack
   simp only at hd
   subst hd
   have hp:=hst.top
   have hel:=ho.el hk
   have hkid : ∀ x ∈ o.kids, Ycn x:=fun x hx => (ho.kids x hx).1
   have hself : NodeG o.nd:=by
    have eo : o.nd = .mk 2 o.name.1 o.name.2 kE o.attrs o.kids:=by unfold Opn.nd; rw [hk]
    have hgr:=hel.2.2.2
    refine ⟨?_, ?_, ?_, ?_, ?_, ?_⟩
    ·rw [eo]
     show (o.kids.all (fun k => YfE 2 k.kind) && true) = true
     rw [Bool.and_true, all_eq_true]
     intro x hx
     have:=(ho.kids x hx).2.1
     rwa [hk] at this
    ·rw [eo]
     show (decide (64 < o.attrs.length) || decide (8192 < kE.size) || o.attrs.any (fun a => decide (8192 < a.2.2.size))) = false
     unfold YdX at hgr
     by_cases hne : o.attrs = []
     ·rw [hne]; rfl
     ·simp only [hne, ne_eq, not_false_eq_true, decide_true, Bool.true_and, Bool.or_eq_false_iff] at hgr
      rw [hgr.1, hgr.2]; rfl
    ·rw [eo]
     show ((false || Zqc (o.name.1, o.name.2)) && o.attrs.all YdM && (true || _)) = true
     have e1 : Zqc (o.name.1, o.name.2) = true:=hel.1
     have e2 : o.attrs.all YdM = true:=all_eq_true.2 fun a ha => (hel.2.1 a ha).1
     rw [e1, e2]; rfl
    ·rw [eo]
     show (YdB kE && o.attrs.all (fun a => YdB a.2.2)) = true
     have e2 : o.attrs.all (fun a => YdB a.2.2) = true:=all_eq_true.2 fun a ha => ZqB.2 (hel.2.1 a ha).2
     rw [e2, ZqB.2 Yc7]; rfl
    ·rw [eo]; exact hel.2.2.1
    ·rw [eo]
     show (!ZzP o.kids && Yb9 2 kE) = true
     rw [ho.two]; rfl
   have hgood : Ycn o.nd:=by
    intro x hx
    rcases Zxp.1 hx with rfl | ⟨y, hy, hxy⟩
    ·exact hself
    ·exact hkid y hy x hxy
   have hmk : YfE p.kind o.nd.kind = true:=by
    show YfE p.kind o.kind = true
    rw [hk]
    unfold YfE
    refine decide_eq_true ?_
    by_cases hr2 : r = []
    ·have:=hp.2.1 hr2; omega
    ·have:=hp.2.2 hr2; omega
   have hdeep : Ych (r.length : Nat) o.nd = false:=by
    unfold Opn.nd
    rw [hk, Ych, if_pos rfl, if_neg (by omega), YeG, any_eq_false]
    intro x hx
    have:=(ho.kids x hx).2.2
    push_cast at this
    rw [this]; decide
   have ek : o.nd.kind = 2:=hk
   have emea : o.nd.meaN = opnM o:=by
    unfold opnM Opn.nd
    rw [if_pos hk, Nd.meaN, YcD]; omega
   have efl : o.nd.flat.length = 1 + (Nd.flatL o.kids).length:=by
    unfold Opn.nd
    rw [Nd.flat, length_cons]; omega
   refine ⟨YfZ hst rfl (add_top hp.1 hgood hmk hdeep (fun e => by rw [ek] at e; cases e)), ?_, ?_, ?_, ?_⟩
   ·show nodes = stK (p.add o.nd) r
    have:=h.nodes
    simp only [stK] at this
    rw [this, stK_eq p r, stK_eq (p.add o.nd)]
    simp only [Opn.add, YbN, YhI, length_append, efl]
    omega
   ·show stM (p.add o.nd) r <= c
    have:=h.mea
    simp only [stM] at this
    rw [stM_eq p r] at this
    rw [stM_eq, opnM_add, emea]
    omega
   ·show YcY (p.add o.nd) r = if (false || r.isEmpty) = true then 1 else 0
    have:=h.roots
    simp only [YcY] at this
    cases r with
    | nil =>
     simp only [YcY] at this ⊢
     simp only [Opn.add, countP_append, ek, this]
     simp [countP_cons, ek]
    | cons q r' =>
     simp only [YcY] at this ⊢
     rw [this]; rfl
   ·intro hr2
    show (false || r.isEmpty) = false
    cases r with
    | nil => exact absurd rfl hr2
    | cons q r' => rfl
theorem begin_inv {c : Nat} {s s' : PSt} {name : ByteArray} {pairs : List Pr} (h : InvP c s) (hf : ∀ p ∈ pairs, Zxd (bl p.2)) (hb : YaX name pairs s = .ok s') : InvP (c + (102 + name.size + (pairs.map pairC).sum)) s' /\ s'.rest ≠ []:=by
 unfold YaX at hb
 split at hb
 ·cases hb
 next h1 =>
 split at hb
 ·cases hb
 next h2 =>
 split at hb
 ·cases hb
 next h3 =>
 split at hb
 ·cases hb
 next h4 =>
 split at hb
 ·cases hb
 next h5 =>
 split at hb
 ·cases hb
 next h6 =>
 split at hb
 ·cases hb
 next h7 =>
 simp only [Except.ok.injEq] at hb
 have h3:=Decidable.not_not.1 h3
 have h4:=Decidable.not_not.1 h4
 have h5:=Decidable.not_not.1 h5
 have h6:=Decidable.not_not.1 h6
 have hB:=Yhq h.stack.top.1.binds hf h3
 have hE:=elem_good hB h4
 have hA:=Ygl hB hf (acc:=[]) (by simp) h5
 obtain ⟨hasc, hperm⟩:=srt_spec _ h6
 have hsum : ((srtA (Zyb (Zzl (ZyD pairs [] s.top.binds).1) pairs []).1).map ZxI).sum <= (pairs.map pairC).sum:=by
  rw [(hperm.map ZxI).sum_nat]
  have:=hA.2
  simpa using this
 have hdn : s.done = false:=by
  cases hd : s.done with
  | false => rfl
  | true =>
   by_cases hr : s.rest = []
   ·exact absurd ⟨hr, hd⟩ h1
   ·rw [h.done hr] at hd; cases hd
 have hcal : SpcG (YaR (Zzl (ZyD pairs [] s.top.binds).1) name).1.1:=by
  have:=hE.1
  unfold Zqc at this
  simp only [Bool.and_eq_true, decide_eq_true_eq] at this
  exact ⟨this.1.1.2, ZqB.1 this.1.2, this.2⟩
 rw [<- hb]
 refine ⟨⟨⟨rfl, by simpa using h2, ⟨by simp, rfl, fun _ => ⟨hE.1, fun a ha => hA.1 a (hperm.mem_iff.1 ha), ?_, by simpa using h7⟩, fun e => by simp at e, hB⟩, h.stack⟩, ?_, ?_, ?_, fun _ => hdn⟩, by simp⟩
 ·have : ∀ {X : List At}, Asc X -> ascB X = true:=by
   intro X
   induction X with
   | nil => intro _; rfl
   | cons a r ih =>
    intro hX
    have h8:=pairwise_cons.1 hX
    cases r with
    | nil => rfl
    | cons b r' => simp only [ascB, h8.1 b (by simp), ih h8.2, Bool.and_self]
  exact this hasc
 ·show s.nodes + 1 = stK _ (s.top :: s.rest)
  simp only [stK, Nd.flatL, length_nil]
  rw [h.nodes]; omega
 ·show stM _ (s.top :: s.rest) <= _
  simp only [stM, opnM, Nd.meaNL, if_true]
  have:=h.mea
  have:=hcal.1
  have:=hE.2
  omega
 ·show YcY _ (s.top :: s.rest) = _
  exact h.roots
theorem YhP {t : TokQ} (h : ¬ (t.kind = 2 \/ t.kind = 4)) : YdG t = 1 + t.name.size + t.text.size:=if_neg h
theorem InvP.weak {c d : Nat} {s : PSt} (h : InvP c s) (hd : c <= d) : InvP d s:=⟨h.stack, h.nodes, by have:=h.mea; omega, h.roots, h.done⟩
theorem take_inv {c : Nat} {s s' : PSt} {t : TokQ} (h : InvP c s) (hg : TokG t) (ht : Zxe t s = .ok s') : InvP (c + YdG t) s':=by
 unfold Zxe at ht
 split at ht
 ·next h7 =>
  rw [YhP (by omega)]
  have e : (Nd.mk 4 kE kE t.text [] []).meaN = 1 + t.text.size:=by
   simp only [Nd.meaN, Nd.meaNL, YcD, map_nil, sum_nil]
   omega
  have:=putM_inv h ht fun hs => by
   have hgd:=node1 (cmt_good (hg.cmt h7).1 (hg.cmt h7).2 hs)
   exact h.put hgd.1 (top_may h (by simp [Nd.kind])) (YfM (by decide)) (fun e => by simp [Nd.kind] at e) (by simp [Nd.kind]) hgd.2
  rw [e] at this
  exact this.weak (by omega)
 split at ht
 ·next h8 =>
  rw [YhP (by omega)]
  have e : (Nd.mk 5 kE t.name t.text [] []).meaN = 1 + t.name.size + t.text.size:=by
   simp only [Nd.meaN, Nd.meaNL, YcD, map_nil, sum_nil]
   omega
  obtain ⟨g1, g2, g3, g4⟩:=hg.ins h8
  have:=putM_inv h ht fun hs => by
   have hgd:=node1 (ins_good g1 g2 g3 g4 hs)
   exact h.put hgd.1 (top_may h (by simp [Nd.kind])) (YfM (by decide)) (fun e => by simp [Nd.kind] at e) (by simp [Nd.kind]) hgd.2
  rw [e] at this
  exact this
 split at ht
 ·next h56 =>
  rw [YhP (by omega)]
  exact (textM_inv h (hg.txt h56) ht).weak (by omega)
 split at ht
 ·next h2 =>
  have:=begin_inv h (hg.val (.inl h2)) ht
  unfold YdG
  rw [if_pos (.inl h2)]
  exact this.1
 split at ht
 ·next h4 =>
  unfold YdG
  rw [if_pos (.inr h4)]
  split at ht
  ·next s1 hb =>
   simp only [Except.ok.injEq] at ht
   have:=begin_inv h (hg.val (.inr h4)) hb
   rw [<- ht]
   exact close_inv this.1 this.2
  ·cases ht
 split at ht
 ·split at ht
  ·cases ht
  ·next hn =>
   simp only [Except.ok.injEq] at ht
   rw [<- ht]
   exact (close_inv h fun e => hn (.inl e)).weak (by omega)
 ·simp only [Except.ok.injEq] at ht
  rw [<- ht]
  exact h.weak (by omega)
theorem takes_inv : ∀ {T : List TokQ} {c : Nat} {s s' : PSt}, InvP c s -> s.nodes <= 2000 -> (∀ t ∈ T, TokG t) -> ZyQ T s = .ok s' -> InvP (c + (T.map YdG).sum) s' /\ s'.nodes <= 2000
 | [], c, s, s', h, hn, _, ht => by
  simp only [ZyQ, Except.ok.injEq] at ht
  rw [<- ht]; exact ⟨h.weak (by simp), hn⟩
 | t :: T, c, s, s', h, hn, hg, ht => by
  rw [ZyQ, YgF] at ht
  cases h1 : Zxe t s with
  | error e => rw [h1] at ht; simp at ht
  | ok s1 =>
   rw [h1] at ht
   simp only at ht
   by_cases h2 : 2000 < s1.nodes
   ·rw [if_pos h2] at ht; simp at ht
   ·rw [if_neg h2] at ht
    have:=takes_inv (take_inv h (hg t (by simp)) h1) (by omega) (fun x hx => hg x (by simp [hx])) ht
    rw [map_cons, sum_cons, <- Nat.add_assoc]
    exact this
theorem start_inv : InvP 0 ZxO:=⟨⟨rfl, ⟨by simp [ZxO], rfl, fun e => by simp [ZxO] at e, fun _ => ⟨rfl, rfl⟩, fun b hb => by simp [ZxO] at hb⟩⟩, rfl, by simp [ZxO, stM, opnM, Nd.meaNL], rfl, fun e => absurd rfl e⟩
theorem Yho {b : List UInt8} {d : Nd} (h : Ybu b = .ok d) : Right d /\ d.meaN <= 2293761:=by
 unfold Ybu at h
 split at h
 ·cases h
 next L hL =>
 obtain ⟨hg, hc⟩:=all_good hL
 split at h
 ·cases h
 next s hs =>
 obtain ⟨hi, hn⟩:=takes_inv start_inv (by decide) hg hs
 split at h
 ·cases h
 next hr =>
 split at h
 ·cases h
 next hd =>
 simp only [Except.ok.injEq] at h
 have hr:=Decidable.not_not.1 hr
 have hd : s.done = true:=by simpa using hd
 have hst:=hi.stack.top
 rw [hr] at hst
 have hk:=hst.2.1 rfl
 have ho:=hst.1
 obtain ⟨e1, e2⟩:=ho.doc hk
 have hn1:=hi.nodes
 have hm1:=hi.mea
 have hr1:=hi.roots
 rw [hr] at hn1 hm1 hr1
 simp only [stK] at hn1
 simp only [stM] at hm1
 simp only [YcY, hd, if_true] at hr1
 have ed : d = .mk 1 kE kE kE [] s.top.kids:=by rw [<- h]; unfold Opn.nd; rw [hk, e1, e2]
 have hkid : ∀ x ∈ s.top.kids, Ycn x:=fun x hx => (ho.kids x hx).1
 have hself : NodeG d:=by
  rw [ed]
  refine ⟨?_, rfl, rfl, by show (YdB kE && true) = true; rw [ZqB.2 Yc7]; rfl, rfl, ?_⟩
  ·show (s.top.kids.all (fun k => YfE 1 k.kind) && true) = true
   rw [Bool.and_true, all_eq_true]
   intro x hx
   have:=(ho.kids x hx).2.1
   rwa [hk] at this
  ·show (!ZzP s.top.kids && Yb9 1 kE) = true
   rw [ho.two]; rfl
 have hgood : Ycn d:=by
  intro x hx
  rcases Zxp.1 hx with rfl | ⟨y, hy, hxy⟩
  ·exact hself
  ·rw [ed] at hy; exact hkid y hy x hxy
 refine ⟨⟨by rw [ed]; rfl, fun x hx => (hgood x hx).kind, ?_, ?_, fun x hx => (hgood x hx).great, fun x hx => (hgood x hx).name, fun x hx => (hgood x hx).chars, fun x hx => (hgood x hx).order, fun x hx => (hgood x hx).text, ?_⟩, ?_⟩
 ·rw [ed, Ych, if_neg (by decide), YeG, any_eq_false]
  intro x hx
  have:=(ho.kids x hx).2.2
  rw [show ((([] : List Opn).length : Nat) : Int) = 0 from rfl] at this
  rw [this]; decide
 ·rw [ed, Nd.flat, length_cons]; omega
 ·rw [ed]; exact hr1
 ·rw [ed, Nd.meaN]
  unfold opnM at hm1
  rw [if_neg (by omega)] at hm1
  simp only [YcD, map_nil, sum_nil]
  omega
end Go.Vc
end
section
namespace Go.Proofs.YtglnmjflpkeclaaGreatDoor
open Go Go.Vc
theorem YgN {a : Int} {b c : ByteArray} {d : Option Addr} {e f : Nat} {g : Option Addr} {i j : Nat} {k : ByteArray} {w : World} {J : Option Addr -> Nat -> Nat -> World -> Prop} (h :
 newB w (.cells ⟨[.int .i64 a, .string b, .string c, .slice d e f, .slice g i j, .string k]⟩ Zz5) fun l m =>
 ldI .i64 m ⟨l, 0, none⟩ fun n =>
 ldStr m ⟨l, 1, none⟩ fun o =>
 ldStr m ⟨l, 2, none⟩ fun p =>
 ldS m ⟨l, 3, none⟩ fun q r s =>
 ldS m ⟨l, 4, none⟩ fun t u v =>
 ldStr m ⟨l, 5, none⟩ fun x =>
 Zz0 Tryz.prog YcI #[.agg ⟨[.int .i64 n, .string o, .string p, .slice q r s, .slice t u v, .string x]⟩] m [.one .slice] fun y z aa ab =>
 Zz0 Tryz.prog Zy7 #[.slice y z aa, .func (.func 48) #[] #[]] ab [.one .slice] fun ac ad ae af =>
 J ac ad ae af) : Zz0 Tryz.prog Yb1 #[.agg ⟨[.int .i64 a, .string b, .string c, .slice d e f, .slice g i j, .string k]⟩] w [.one .slice] J:=Zz3 Tryz.func18 (.s .o (.s .o .o)) (Eq.mpr (by kernel_rfl) h)
theorem YfQ {a : ByteArray} {w : World} {J : Bool -> World -> Prop} (h :
 J (a.toList == (⟨#[104, 116, 116, 112, 58, 47, 47, 119, 119, 119, 46, 119, 51, 46, 111, 114, 103, 47, 88, 77, 76, 47, 49, 57, 57, 56, 47, 110, 97, 109, 101, 115, 112, 97, 99, 101]⟩ : ByteArray).toList) w) : Zz0 Tryz.prog Zqb #[.string a] w [.one .bool] J:=Zz3 Tryz.func48 (.s .o (.s .o .o)) (Eq.mpr (by kernel_rfl) h)
theorem c_canon_Write {a : Int} {b c : ByteArray} {d : Option Addr} {e f : Nat} {g : Option Addr} {i j : Nat} {k : ByteArray} {w : World} {J : Option Addr -> Nat -> Nat -> Int -> World -> Prop} (h :
 newB w (.cells ⟨[.int .i64 a, .string b, .string c, .slice d e f, .slice g i j, .string k]⟩ Zz5) fun l m =>
 ldI .i64 m ⟨l, 0, none⟩ fun n =>
 ldStr m ⟨l, 1, none⟩ fun o =>
 ldStr m ⟨l, 2, none⟩ fun p =>
 ldS m ⟨l, 3, none⟩ fun q r s =>
 ldS m ⟨l, 4, none⟩ fun t u v =>
 ldStr m ⟨l, 5, none⟩ fun x =>
 Zz0 Tryz.prog Ydu #[.agg ⟨[.int .i64 n, .string o, .string p, .slice q r s, .slice t u v, .string x]⟩] m [.one (.int .i64)] fun y z =>
 Zz1 (y != (0 : Int)) (
 J none 0 0 y z) (
 ldI .i64 z ⟨l, 0, none⟩ fun aa =>
 ldStr z ⟨l, 1, none⟩ fun ab =>
 ldStr z ⟨l, 2, none⟩ fun ac =>
 ldS z ⟨l, 3, none⟩ fun ad ae af =>
 ldS z ⟨l, 4, none⟩ fun ag ai aj =>
 ldStr z ⟨l, 5, none⟩ fun ak =>
 Zz0 Tryz.prog Yb1 #[.agg ⟨[.int .i64 aa, .string ab, .string ac, .slice ad ae af, .slice ag ai aj, .string ak]⟩] z [.one .slice] fun al am an ao =>
 newB ao (.cells ⟨[.pointer none, .slice none 0 0, .slice al am an]⟩ Zyk) fun ap aq =>
 ldS aq ⟨l, 4, none⟩ fun ar au av =>
 ∃ bz : Int -> World -> Nat -> Prop, (∃ b0, bz (0 : Int) aq b0) /\ ∀ b1 b2 b0, bz b1 b2 b0 -> (
 Zz1 (decide (b1 < (au : Int))) (
 ZzS ar au b1 fun ax =>
 ldI .i64 b2 ((ax.add (b1.toNat * 6))) fun ay =>
 ldStr b2 (((ax.add (b1.toNat * 6)).add 1)) fun az =>
 ldStr b2 (((ax.add (b1.toNat * 6)).add 2)) fun a0 =>
 ldS b2 (((ax.add (b1.toNat * 6)).add 3)) fun a1 a2 a3 =>
 ldS b2 (((ax.add (b1.toNat * 6)).add 4)) fun a4 a5 a6 =>
 ldStr b2 (((ax.add (b1.toNat * 6)).add 5)) fun a7 =>
 newB b2 (.cells (Zy2 Tryz.prog Zz5) Zz5) fun a8 a9 =>
 stN a9 ⟨a8, 0, none⟩ ⟨[.int .i64 ay, .string az, .string a0, .slice a1 a2 a3, .slice a4 a5 a6, .string a7]⟩ 6 fun ba =>
 ldI .i64 ba ⟨a8, 0, none⟩ fun bb =>
 ldStr ba ⟨a8, 1, none⟩ fun bc =>
 ldStr ba ⟨a8, 2, none⟩ fun bd =>
 ldS ba ⟨a8, 3, none⟩ fun be bf bg =>
 ldS ba ⟨a8, 4, none⟩ fun bi bj bk =>
 ldStr ba ⟨a8, 5, none⟩ fun bl =>
 Zz0 Tryz.prog Zy8 #[.pointer (some ⟨ap, 0, none⟩), .agg ⟨[.int .i64 bb, .string bc, .string bd, .slice be bf bg, .slice bi bj bk, .string bl]⟩, .bool true] ba [] fun bm =>
 Zz0 Tryz.prog ZyX #[.pointer (some ⟨ap, 0, none⟩), .int .u8 10] bm [.one .val] fun bn bo =>
 ∃ b3, b3 < b0 /\ bz (w64 (b1 + (1 : Int))) bo b3) (
 Zz0 Tryz.prog Zqn #[.pointer (some ⟨ap, 0, none⟩)] b2 [.one (.int .i64)] fun bp bq =>
 Zz1 (decide (bp > (65536 : Int))) (
 J none 0 0 (6 : Int) bq) (
 Zz0 Tryz.prog Ya6 #[.pointer (some ⟨ap, 0, none⟩)] bq [.one .str] fun br bs =>
 cvJ Tryz.prog Zz8 Zzj (.string br) bs fun bt bu bv bx =>
 J bt bu bv (0 : Int) bx))))) : Zz0 Tryz.prog Zql #[.agg ⟨[.int .i64 a, .string b, .string c, .slice d e f, .slice g i j, .string k]⟩] w [.one .slice, .one (.int .i64)] J:=Zz3 Tryz.func7 (.s .o (.s (.s .o (.s .o (.c (.s .o .o) .o))) (.s .o (.s (.s .o (.b (.l [(20, .int .i64)] (.s .o (.s (.c .o .o) (.s (.b (.s .o (.s .o .o))) .o)))))) (.s (.s .o (.c (.s .o .o) .o)) (.s .o .o)))))) (Eq.mpr (by kernel_rfl) h)
theorem Yex {a : Addr} {b : Option Addr} {c d : Nat} {w : World} {J : World -> Prop} (h :
 ∃ k : Int -> World -> Nat -> Prop, (∃ l, k (0 : Int) w l) /\ ∀ m n l, k m n l -> (
 Zz1 (decide (m < (c : Int))) (
 ZzS b c m fun e =>
 ldStr n ((e.add (m.toNat * 1))) fun f =>
 Zz0 Tryz.prog ZyF #[.pointer (some a), .string f] n [.one (.int .i64), .one .val] fun g i j =>
 ∃ o, o < l /\ k (w64 (m + (1 : Int))) j o) (
 J n))) : Zz0 Tryz.prog Zzr #[.pointer (some a), .slice b c d] w [] J:=Zz3 Tryz.func49 (.s .o (.b (.l [(8, .int .i64)] (.s .o (.s (.c .o .o) (.s (.b (.s .o .o)) .o)))))) (Eq.mpr (by kernel_rfl) h)
theorem Ye7 {a : Addr} {b c : ByteArray} {w : World} {J : ByteArray -> World -> Prop} (h :
 newB w (.cells ⟨[.string b, .string c]⟩ Zyr) fun d e =>
 ldStr e ⟨d, 0, none⟩ fun f =>
 Zz1 (f.toList == (⟨#[]⟩ : ByteArray).toList) (
 ldStr e ⟨d, 1, none⟩ fun g =>
 J g e) (
 Zz1 (f.toList == (⟨#[104, 116, 116, 112, 58, 47, 47, 119, 119, 119, 46, 119, 51, 46, 111, 114, 103, 47, 88, 77, 76, 47, 49, 57, 57, 56, 47, 110, 97, 109, 101, 115, 112, 97, 99, 101]⟩ : ByteArray).toList) (
 ldStr e ⟨d, 1, none⟩ fun i =>
 (((⟨#[120, 109, 108, 58]⟩ : ByteArray).size + i.size : Nat) : Int) <= 9223372036854775807 /\
 J ((⟨#[120, 109, 108, 58]⟩ : ByteArray) ++ i) e) (
 ldS e.drew ((a.add 2)) fun j k l =>
 ldStr e.drew ⟨d, 0, none⟩ fun m =>
 Zz0 Tryz.prog ZyG #[.slice j k l, .string m] e.drew [.one (.int .i64), .one .bool] fun n o p =>
 ldStr p.drew ⟨d, 1, none⟩ fun q =>
 Zz0 Tryz.prog ZqA #[.int .i64 n] p.drew [.one .str] fun r s =>
 s.cell? ⟨d, 1, none⟩ = some (.string q) /\
 ((r.size + (⟨#[58]⟩ : ByteArray).size : Nat) : Int) <= 9223372036854775807 /\
 (((r ++ (⟨#[58]⟩ : ByteArray)).size + q.size : Nat) : Int) <= 9223372036854775807 /\
 J ((r ++ (⟨#[58]⟩ : ByteArray)) ++ q) s))) : Zz0 Tryz.prog ZyV #[.pointer (some a), .agg ⟨[.string b, .string c]⟩] w [.one .str] J:=Zz3 Tryz.func91 (.s .o (.s (.s .o (.b (.s .o (.c (.s .o .o) (.s .o (.c (.s .o .o) .o)))))) (.s (.d (.take 0 (.take 1 (.take 2 (.take 3 (.take 4 (.take 5 (.eff 6 (.take 7 (.take 8 (.take 9 (.take 10 (.take 11 .done))))) .none)))))))) (.s (.d (.take 0 (.take 3 (.take 4 (.eff 1 (.take 2 (.take 5 (.take 6 .done))) .none))))) .o)))) (Eq.mpr (by kernel_rfl) h)
theorem c_canon_prefix {a : Int} {w : World} {J : ByteArray -> World -> Prop} (h :
 Zz0 Tryz.prog YhF #[.int .i64 (w64 (a + (1 : Int)))] w [.one .str] fun b c =>
 (((⟨#[110]⟩ : ByteArray).size + b.size : Nat) : Int) <= 9223372036854775807 /\
 J ((⟨#[110]⟩ : ByteArray) ++ b) c) : Zz0 Tryz.prog ZqA #[.int .i64 a] w [.one .str] J:=Zz3 Tryz.func92 (.s .o (.s .o .o)) (Eq.mpr (by kernel_rfl) h)
theorem Ye6 {a : Addr} {b : Int} {c d : ByteArray} {e : Option Addr} {f g : Nat} {i : Option Addr} {j k : Nat} {l : ByteArray} {m : Bool} {w : World} {J : World -> Prop} (h :
 newB w (.cells ⟨[.int .i64 b, .string c, .string d, .slice e f g, .slice i j k, .string l]⟩ Zz5) fun n o =>
 ldI .i64 o ⟨n, 0, none⟩ fun p =>
 Zz1 (p == (3 : Int)) (
 ldStr o ⟨n, 5, none⟩ fun q =>
 Zz0 Tryz.prog Ydv #[.string q] o [.one .str] fun r s =>
 newB s (.cells ⟨[.string r]⟩ Zz8) fun t u =>
 Zz0 Tryz.prog Zzr #[.pointer (some a), .slice (some ⟨t, 0, none⟩) 1 1] u [] fun v =>
 J v) (
 Zz1 (p == (4 : Int)) (
 ldStr o ⟨n, 5, none⟩ fun x =>
 newB o (.cells ⟨[.string ⟨#[60, 33, 45, 45]⟩, .string x, .string ⟨#[45, 45, 62]⟩]⟩ Zz8) fun y z =>
 Zz0 Tryz.prog Zzr #[.pointer (some a), .slice (some ⟨y, 0, none⟩) 3 3] z [] fun aa =>
 J aa) (
 Zz1 (p == (5 : Int)) (
 ldStr o ⟨n, 2, none⟩ fun ab =>
 newB o (.cells ⟨[.string ⟨#[60, 63]⟩, .string ab]⟩ Zz8) fun ac ad =>
 Zz0 Tryz.prog Zzr #[.pointer (some a), .slice (some ⟨ac, 0, none⟩) 2 2] ad [] fun ae =>
 Zzf (fun (a3 : World) =>
 newB a3 (.cells ⟨[.string ⟨#[63, 62]⟩]⟩ Zz8) fun af ag =>
 Zz0 Tryz.prog Zzr #[.pointer (some a), .slice (some ⟨af, 0, none⟩) 1 1] ag [] fun ai =>
 J ai) fun aj =>
 ldStr ae ⟨n, 5, none⟩ fun ak =>
 Zz1 (!(ak.toList == (⟨#[]⟩ : ByteArray).toList)) (
 ldStr ae ⟨n, 5, none⟩ fun al =>
 newB ae (.cells ⟨[.string ⟨#[32]⟩, .string al]⟩ Zz8) fun am an =>
 Zz0 Tryz.prog Zzr #[.pointer (some a), .slice (some ⟨am, 0, none⟩) 2 2] an [] fun ao =>
 aj ao) (
 aj ae)) (
 Zz1 (p == (2 : Int)) (
 ldI .i64 o ⟨n, 0, none⟩ fun ap =>
 ldStr o ⟨n, 1, none⟩ fun aq =>
 ldStr o ⟨n, 2, none⟩ fun ar =>
 ldS o ⟨n, 3, none⟩ fun au av ax =>
 ldS o ⟨n, 4, none⟩ fun ay az a0 =>
 ldStr o ⟨n, 5, none⟩ fun a1 =>
 Zz0 Tryz.prog Zqa #[.pointer (some a), .agg ⟨[.int .i64 ap, .string aq, .string ar, .slice au av ax, .slice ay az a0, .string a1]⟩, .bool m] o [] fun a2 =>
 J a2) (
 J o))))) : Zz0 Tryz.prog Zy8 #[.pointer (some a), .agg ⟨[.int .i64 b, .string c, .string d, .slice e f g, .slice i j k, .string l]⟩, .bool m] w [] J:=Zz3 Tryz.func19 (.s .o (.s .o (.b (.s .o (.c .o (.s .o (.c .o (.s .o (.c (.s .o (.j [] (.s .o (.c .o .o)) .o)) (.s .o (.c .o .o))))))))))) (Eq.mpr (by kernel_rfl) h)
theorem YcT {a : Addr} {b : Int} {c d : ByteArray} {e : Option Addr} {f g : Nat} {i : Option Addr} {j k : Nat} {l : ByteArray} {m : Bool} {w : World} {J : World -> Prop} (h :
 newB w (.cells ⟨[.int .i64 b, .string c, .string d, .slice e f g, .slice i j k, .string l]⟩ Zz5) fun n o =>
 ldStr o ⟨n, 1, none⟩ fun p =>
 ldStr o ⟨n, 2, none⟩ fun q =>
 Zz0 Tryz.prog ZyV #[.pointer (some a), .agg ⟨[.string p, .string q]⟩] o [.one .str] fun r s =>
 newB s (.cells ⟨[.string ⟨#[60]⟩, .string r]⟩ Zz8) fun t u =>
 Zz0 Tryz.prog Zzr #[.pointer (some a), .slice (some ⟨t, 0, none⟩) 2 2] u [] fun v =>
 ldS v ((a.add 2)) fun x y z =>
 ∃ ca : Int -> World -> Nat -> Prop, (∃ cb, ca (0 : Int) v cb) /\ ∀ cc cd cb, ca cc cd cb -> (
 Zz1 (decide (cc < (y : Int))) (
 Zzf (fun (b9 : World) =>
 ∃ ce, ce < cb /\ ca (w64 (cc + (1 : Int))) b9 ce) fun aa =>
 ZzS x y cc fun ab =>
 ldStr cd ((ab.add (cc.toNat * 1))) fun ac =>
 Zz1 m (
 Zz0 Tryz.prog ZqA #[.int .i64 cc] cd [.one .str] fun ad ae =>
 Zz0 Tryz.prog Zqk #[.string ac] ae [.one .str] fun af ag =>
 newB ag (.cells ⟨[.string ⟨#[32, 120, 109, 108, 110, 115, 58]⟩, .string ad, .string ⟨#[61, 34]⟩, .string af, .string ⟨#[34]⟩]⟩ Zz8) fun ai aj =>
 Zz0 Tryz.prog Zzr #[.pointer (some a), .slice (some ⟨ai, 0, none⟩) 5 5] aj [] fun ak =>
 aa ak) (
 aa cd)) (
 ldS cd ⟨n, 3, none⟩ fun al am an =>
 ∃ cf : Int -> World -> Nat -> Prop, (∃ cb, cf (0 : Int) cd cb) /\ ∀ cg ci cj, cf cg ci cj -> (
 Zz1 (decide (cg < (am : Int))) (
 ZzS al am cg fun ao =>
 ldStr ci ((ao.add (cg.toNat * 3))) fun ap =>
 ldStr ci (((ao.add (cg.toNat * 3)).add 1)) fun aq =>
 ldStr ci (((ao.add (cg.toNat * 3)).add 2)) fun ar =>
 newB ci (.cells (Zy2 Tryz.prog ZzO) ZzO) fun au av =>
 stN av ⟨au, 0, none⟩ ⟨[.string ap, .string aq, .string ar]⟩ 3 fun ax =>
 ldStr ax.drew ⟨au, 0, none⟩ fun ay =>
 ldStr ax.drew ⟨au, 1, none⟩ fun az =>
 ldStr ax.drew ⟨au, 2, none⟩ fun a0 =>
 Zz0 Tryz.prog ZyV #[.pointer (some a), .agg ⟨[.string ay, .string az]⟩] ax.drew [.one .str] fun a1 a2 =>
 a2.cell? ⟨au, 2, none⟩ = some (.string a0) /\
 Zz0 Tryz.prog Zqk #[.string a0] a2 [.one .str] fun a3 a4 =>
 newB a4 (.cells ⟨[.string ⟨#[32]⟩, .string a1, .string ⟨#[61, 34]⟩, .string a3, .string ⟨#[34]⟩]⟩ Zz8) fun a5 a6 =>
 Zz0 Tryz.prog Zzr #[.pointer (some a), .slice (some ⟨a5, 0, none⟩) 5 5] a6 [] fun a7 =>
 ∃ ce, ce < cj /\ cf (w64 (cg + (1 : Int))) a7 ce) (
 newB ci (.cells ⟨[.string ⟨#[62]⟩]⟩ Zz8) fun a8 a9 =>
 Zz0 Tryz.prog Zzr #[.pointer (some a), .slice (some ⟨a8, 0, none⟩) 1 1] a9 [] fun ba =>
 ldS ba ⟨n, 4, none⟩ fun bb bc bd =>
 ∃ ck : Int -> World -> Nat -> Prop, (∃ cb, ck (0 : Int) ba cb) /\ ∀ cl cm cn, ck cl cm cn -> (
 Zz1 (decide (cl < (bc : Int))) (
 ZzS bb bc cl fun be =>
 ldI .i64 cm ((be.add (cl.toNat * 6))) fun bf =>
 ldStr cm (((be.add (cl.toNat * 6)).add 1)) fun bg =>
 ldStr cm (((be.add (cl.toNat * 6)).add 2)) fun bi =>
 ldS cm (((be.add (cl.toNat * 6)).add 3)) fun bj bk bl =>
 ldS cm (((be.add (cl.toNat * 6)).add 4)) fun bm bn bo =>
 ldStr cm (((be.add (cl.toNat * 6)).add 5)) fun bp =>
 newB cm (.cells (Zy2 Tryz.prog Zz5) Zz5) fun bq br =>
 stN br ⟨bq, 0, none⟩ ⟨[.int .i64 bf, .string bg, .string bi, .slice bj bk bl, .slice bm bn bo, .string bp]⟩ 6 fun bs =>
 ldI .i64 bs ⟨bq, 0, none⟩ fun bt =>
 ldStr bs ⟨bq, 1, none⟩ fun bu =>
 ldStr bs ⟨bq, 2, none⟩ fun bv =>
 ldS bs ⟨bq, 3, none⟩ fun bx bz b0 =>
 ldS bs ⟨bq, 4, none⟩ fun b1 b2 b3 =>
 ldStr bs ⟨bq, 5, none⟩ fun b4 =>
 Zz0 Tryz.prog Zy8 #[.pointer (some a), .agg ⟨[.int .i64 bt, .string bu, .string bv, .slice bx bz b0, .slice b1 b2 b3, .string b4]⟩, .bool false] bs [] fun b5 =>
 ∃ ce, ce < cn /\ ck (w64 (cl + (1 : Int))) b5 ce) (
 newB cm (.cells ⟨[.string ⟨#[60, 47]⟩, .string r, .string ⟨#[62]⟩]⟩ Zz8) fun b6 b7 =>
 Zz0 Tryz.prog Zzr #[.pointer (some a), .slice (some ⟨b6, 0, none⟩) 3 3] b7 [] fun b8 =>
 J b8))))))) : Zz0 Tryz.prog Zqa #[.pointer (some a), .agg ⟨[.int .i64 b, .string c, .string d, .slice e f g, .slice i j k, .string l]⟩, .bool m] w [] J:=Zz3 Tryz.func51 (.s .o (.s .o (.s .o (.s (.s .o (.b (.l [(26, .int .i64)] (.s .o (.s (.c .o .o) (.j [] (.b (.s .o (.s .o (.c .o .o)))) .o)))))) (.s (.s .o (.b (.l [(43, .int .i64)] (.s .o (.s (.c .o .o) (.s (.b (.s .o (.d (.take 0 (.take 1 (.take 2 (.take 3 (.take 5 (.take 6 (.eff 4 (.eff 7 (.eff 8 (.eff 9 .done .none) .none) .none) .none)))))))))) .o)))))) (.s .o (.s (.s .o (.b (.l [(64, .int .i64)] (.s .o (.s (.c .o .o) (.s (.b (.s .o .o)) .o)))))) .o))))))) (Eq.mpr (by kernel_rfl) h)
theorem Ybd {a : Addr} {b : Int} {w : World} {J : Value -> World -> Prop} (h :
 Zz0 Tryz.prog ZyW #[.pointer (some a)] w [] fun c =>
 ldS c ((a.add 1)) fun d e f =>
 newB c (.cells ⟨[.int .u8 b]⟩ Zzs) fun g i =>
 YeJ Tryz.prog Zzj Zzj (.slice d e f) (.slice (some ⟨g, 0, none⟩) 1 1) i fun j k l m =>
 stV m ((a.add 1)) (.slice j k l) fun n =>
 J .nilIface n) : Zz0 Tryz.prog ZyX #[.pointer (some a), .int .u8 b] w [.one .val] J:=Zz3 Tryz.func20 (.s .o (.s .o (.s .o (.s .o .o)))) (Eq.mpr (by kernel_rfl) h)
theorem YaS {a : Addr} {b : ByteArray} {w : World} {J : Int -> Value -> World -> Prop} (h :
 Zz0 Tryz.prog ZyW #[.pointer (some a)] w [] fun c =>
 ldS c ((a.add 1)) fun d e f =>
 YeJ Tryz.prog Zzj Zz8 (.slice d e f) (.string b) c fun g i j k =>
 stV k ((a.add 1)) (.slice g i j) fun l =>
 J (b.size : Int) .nilIface l) : Zz0 Tryz.prog ZyF #[.pointer (some a), .string b] w [.one (.int .i64), .one .val] J:=Zz3 Tryz.func88 (.s .o (.s .o (.s .o (.s .o .o)))) (Eq.mpr (by kernel_rfl) h)
theorem Ydc {a : Addr} {w : World} {J : Int -> World -> Prop} (h :
 ldS w ((a.add 1)) fun b c d =>
 J (c : Int) w) : Zz0 Tryz.prog Zqn #[.pointer (some a)] w [.one (.int .i64)] J:=Zz3 Tryz.func21 (.s .o (.s .o .o)) (Eq.mpr (by kernel_rfl) h)
-- strings_Builder_String:n0: builtin unsafeSliceData
-- strings_Builder_copyCheck:n0: convert {'k': 'unsafePointer', 'str': 'unsafe.Pointer', 'size': 1, 'bytes': 8} ('ptr', ('some', ('a', 'b0')))
theorem Zqh {a : Option Addr} {b c : Nat} {w : World} {J : Option Addr -> Nat -> Nat -> World -> Prop} (h :
 Zz0 Tryz.prog Zy9 #[.slice a b c, .func (.func 48) #[] #[]] w [.one (.int .i64)] fun d e =>
 Zz1 (d == (-1 : Int)) (
 J a b c e) (
 ∃ aa : Int -> Int -> World -> Nat -> Prop, (∃ ab, aa d (w64 (d + (1 : Int))) e ab) /\ ∀ (u : Int) (v : Int) (x : World) (ab : Nat), aa u v x ab -> (
 Zz1 (decide (v < (b : Int))) (
 Zzf (fun (y : Int) (z : World) =>
 ∃ ac, ac < ab /\ aa y (w64 (v + (1 : Int))) z ac) fun f =>
 ZzS a b v fun g =>
 ldStr x ((g.add (v.toNat * 1))) fun i =>
 Zz0 Tryz.prog Zqb #[.string i] x [.one .bool] fun j k =>
 Zz1 (!j) (
 ZzS a b u fun l =>
 stV k ((l.add (u.toNat * 1))) (.string i) fun m =>
 f (w64 (u + (1 : Int))) m) (
 f u k)) (
 slS a b c 1 (some u) none none fun n o p =>
 clrJ Tryz.prog Zyn (.slice n o p) x fun q =>
 slS a b c 1 none (some u) none fun r s t =>
 J r s t q)))) : Zz0 Tryz.prog Zy7 #[.slice a b c, .func (.func 48) #[] #[]] w [.one .slice] J:=Zz3 Tryz.func46 (.s .o (.s .o (.s (.s .o (.c (.s .o .o) .o)) (.s (.s .o (.b (.l [(5, .int .i64), (6, .int .i64)] (.s (.s .o (.c .o .o)) (.j [(5, .int .i64)] (.b (.s .o (.s .o (.c (.s .o .o) .o)))) .o))))) (.s .o (.s .o .o)))))) (Eq.mpr (by kernel_rfl) h)
theorem Zqq {a : Option Addr} {b c : Nat} {w : World} {J : Int -> World -> Prop} (h :
 ∃ i : Int -> World -> Nat -> Prop, (∃ j, i (0 : Int) w j) /\ ∀ k l j, i k l j -> (
 Zz1 (decide (k < (b : Int))) (
 ZzS a b k fun d =>
 ldStr l ((d.add (k.toNat * 1))) fun e =>
 Zz0 Tryz.prog Zqb #[.string e] l [.one .bool] fun f g =>
 Zz1 f (
 J k g) (
 ∃ m, m < j /\ i (w64 (k + (1 : Int))) g m)) (
 J (-1 : Int) l))) : Zz0 Tryz.prog Zy9 #[.slice a b c, .func (.func 48) #[] #[]] w [.one (.int .i64)] J:=Zz3 Tryz.func84 (.s .o (.s (.s .o (.b (.l [(8, .int .i64)] (.s .o (.s (.c .o .o) (.s (.b (.s .o (.s .o (.c (.s .o .o) .o)))) .o)))))) (.s .o .o))) (Eq.mpr (by kernel_rfl) h)
end Go.Proofs.YtglnmjflpkeclaaGreatDoor
end
section
namespace Go.Vc
open Go Go.Lib
theorem appJ_strN {P : Program} {t u e : TypeId} (ht : P.underlying t = some (.slice e)) (hu : P.underlying u = some .string) (hI : ∃ i : TypeInfo, P.info? e = some i /\ i.zero = some (.int .u8 0) /\ i.size = 1 /\ i.bytes = 1)
  {m : Nat} {w : World} {p : Option Addr} {l c : Nat} {xs : List UInt8} {s : ByteArray} {K : Option Addr -> Nat -> Nat -> World -> Prop} (h : Row w e 1 p l c (bcells xs)) (hlm : l + s.size <= 140737488355328)
  (hf : ∀ a, p = some a -> m <= a.block) (hc : m <= w.heap.size) (k : ∀ p' c' w', Row w' e 1 p' (l + s.size) c' (bcells (xs ++ bl s)) -> (∀ a, p' = some a -> m <= a.block) -> Chg (isB p) w w' -> K p' (l + s.size) c' w') :
  YeJ P t u (.slice p l c) (.string s) w K:=by
 obtain ⟨i, hi, hz, hsz, hby⟩:=hI
 have hown:=h.owns
 have hxl : (bcells xs).length = l:=by have:=h.1; omega
 obtain ⟨v', w', hr, ho, hg, hnil⟩:=Lib.run_append_own_string (P:=P) w 0 t u 0 e i ht hu hi hz hsz hby (.slice p l c) l (bcells xs) hown s (by simp only [maxLen]; omega) hlm (Nat.zero_le _)
 have hcg : Chg (isB p) w w':=Chg.of_grown hg (fun b hb => by
  cases p with
  | none => simp [Value.ownBlock] at hb
  | some x => simp [Value.ownBlock] at hb; exact ⟨x, rfl, hb⟩)
 obtain ⟨p', c', rfl, hrow⟩:=Row.of_owns ho
 have hce : bcells xs ++ Lib.strCells s = bcells (xs ++ bl s):=by
  unfold bcells Lib.strCells
  rw [map_append]
 rw [hce] at hrow
 refine ⟨p', l + s.size, c', w', fun ty => hr, k p' c' w' hrow ?_ hcg⟩
 have hnew : ∀ q, Value.slice p' (l + s.size) c' = q -> (∃ cc, q = .slice (some ⟨w.heap.size, 0, none⟩) (l + s.size) cc) -> ∀ a, p' = some a -> m <= a.block:=by
  rintro q hq ⟨cc, hcc⟩ a ha
  rw [hcc] at hq
  injection hq with e1
  rw [ha] at e1
  injection e1 with e2
  rw [e2]
  exact hc
 rcases h.2 with ⟨rfl, rfl, rfl⟩ | ⟨b, rest, rfl, hh, hlc, hcm, hcs⟩
 ·have hx : xs = []:=eq_nil_of_length_eq_zero (by simpa [bcells] using hxl)
  by_cases h0 : s.size = 0
  ·have:=hnil.2 ⟨rfl, h0⟩
   injection this with e1
   intro a ha; rw [ha] at e1; cases e1
  ·have hr2:=run_append_nil_string (P:=P) w t u 0 e i (.int .u8 0) ht hu hi hz s (by omega) (by omega) (by rw [hby]; omega)
   rw [hr] at hr2
   injection hr2 with e1 e2
   exact hnew _ e1 ⟨_, by rw [Nat.zero_add]⟩
 ·by_cases hroom : l + s.size <= c
  ·have hr2:=Lib.run_append_room_string (P:=P) w t u 0 e i ht hu hi hsz b l c ⟨bcells xs ++ rest⟩ hh s hroom (by simp only [size_toArray]; omega)
   rw [hr] at hr2
   injection hr2 with e1 e2
   injection e1 with e3
   intro a ha; rw [ha] at e3
   exact hf a e3.symm
  ·have holds : ∀ j u, (bcells xs)[j]? = some u -> w.cell? ((⟨b, 0, none⟩ : Addr).add j) = some u:=by
    have:=h.sl
    rcases this.2 with h0 | ⟨a', ha, hc'⟩
    ·intro j u hu
     have hn : bcells xs = []:=eq_nil_of_length_eq_zero (by omega)
     rw [hn] at hu; simp at hu
    ·cases ha; exact hc'
   have hr2:=Lib.run_append_grow_string (P:=P) w t u 0 e i (.int .u8 0) ht hu hi hz ⟨b, 0, none⟩ l c (bcells xs) (by rw [hsz]; exact h.1) holds s (by omega) (by omega) (growslice_fits (by omega) (by rw [hby]; omega))
   rw [hr] at hr2
   injection hr2 with e1 e2
   exact hnew _ e1 ⟨_, rfl⟩
end Go.Vc
namespace Go.Proofs
open Go.Shelf Go.RowKit
def ren240 : Ren:=⟨fun | 240 => 52 | 276 => 94 | n => n, fun | 70 => 62 | 72 => 64 | 164 => 127 | 37 => 22 | n => n, fun n => n⟩
theorem lays240 : Lays.n240 Tryz.prog ren240 where
 mixed:=by kernel_rfl
 f240:=by kernel_rfl
 f276:=by kernel_rfl
 t0:=by kernel_rfl
 a0:=fun w => by kernel_rfl
 z0:=fun w => by kernel_rfl
 v0:=fun w => by kernel_rfl
 t4:=by kernel_rfl
 a4:=fun w => by kernel_rfl
 z4:=fun w => by kernel_rfl
 v4:=fun w => by kernel_rfl
 t9:=by kernel_rfl
 a9:=fun w => by kernel_rfl
 z9:=fun w => by kernel_rfl
 v9:=fun w => by kernel_rfl
 t20:=by kernel_rfl
 a20:=fun w => by kernel_rfl
 z20:=fun w => by kernel_rfl
 v20:=fun w => by kernel_rfl
 t70:=by kernel_rfl
 a70:=fun w => by kernel_rfl
 z70:=fun w => by kernel_rfl
 v70:=fun w => by kernel_rfl
 t72:=by kernel_rfl
 a72:=fun w => by kernel_rfl
 z72:=fun w => by kernel_rfl
 v72:=fun w => by kernel_rfl
 t164:=by kernel_rfl
 a164:=fun w => by kernel_rfl
 z164:=fun w => by kernel_rfl
 v164:=fun w => by kernel_rfl
def Tryz.lays169_ren : Go.Shelf.Ren:=⟨fun | 169 => 22 | n => n, fun | 70 => 62 | 9 => 9 | 0 => 0 | 72 => 64 | 37 => 22 | 127 => 97 | 3 => 3 | 5 => 5 | n => n, fun | n => n⟩
theorem Tryz.lays169 : Go.Proofs.Lays.n169 Tryz.prog Tryz.lays169_ren where
 mixed:=by kernel_rfl
 f169:=by kernel_rfl
 t0:=by kernel_rfl
 a0:=fun w => by kernel_rfl
 z0:=fun w => by kernel_rfl
 v0:=fun w => by kernel_rfl
 t3:=by kernel_rfl
 a3:=fun w => by kernel_rfl
 z3:=fun w => by kernel_rfl
 v3:=fun w => by kernel_rfl
 t9:=by kernel_rfl
 a9:=fun w => by kernel_rfl
 z9:=fun w => by kernel_rfl
 v9:=fun w => by kernel_rfl
 t37:=by kernel_rfl
 a37:=fun w => by kernel_rfl
 z37:=fun w => by kernel_rfl
 v37:=fun w => by kernel_rfl
 t70:=by kernel_rfl
 a70:=fun w => by kernel_rfl
 z70:=fun w => by kernel_rfl
 v70:=fun w => by kernel_rfl
 t72:=by kernel_rfl
 a72:=fun w => by kernel_rfl
 z72:=fun w => by kernel_rfl
 v72:=fun w => by kernel_rfl
 t127:=by kernel_rfl
 a127:=fun w => by kernel_rfl
 z127:=fun w => by kernel_rfl
 v127:=fun w => by kernel_rfl
section
variable {P : Program} {ρ : Ren}
set_option maxHeartbeats 1000000 in
set_option maxRecDepth 100000 in
theorem cc_fresh (L : Lays.n240 P ρ) (X : (P.info? (ρ.t 72)).map (·.size) = some 2) {T : TypeId} {n : Nat} (hn : 0 < n) (hl : liesAt P P.depth T (n / P.cellsOf T) 0 (ρ.t 72) 1 = true) (b : Nat) (w : World) (h0 : w.cell? ⟨b, 0, none⟩ = some (.pointer none)) (hsh : w.shape? b = some (T, n)) (hfz : w.frozen? ⟨b, 0, none⟩ = false) :
  Calls P (ρ.f 240) #[.pointer (some ⟨b, 0, none⟩)] w fun e w' => e = .returned (.tuple #[]) /\ w' = w.setCell ⟨b, 0, none⟩ (.pointer (some ⟨b, 0, none⟩)):=by
 obtain ⟨j, hj, hjs⟩:=Option.map_eq_some_iff.1 X
 have mixed:=L.mixed
 have t72:=L.t72; have a72:=L.a72; have z72:=L.z72; have v72:=L.v72; have u72:=run_underlying L.t72
 have t70:=L.t70; have a70:=L.a70; have z70:=L.z70; have v70:=L.v70; have u70:=run_underlying L.t70
 have t9:=L.t9; have a9:=L.a9; have z9:=L.z9; have v9:=L.v9; have u9:=run_underlying L.t9
 have t4:=L.t4; have a4:=L.a4; have z4:=L.z4; have v4:=L.v4; have u4:=run_underlying L.t4
 have t164:=L.t164; have a164:=L.a164; have z164:=L.z164; have v164:=L.v164; have u164:=run_underlying L.t164
 go_enter L.f240, Body.n240_ntmps ρ
 go_wp2
 rw [Lib.run_to_unsafe w ⟨b, 0, none⟩ L.t70 L.t164 hj (by rw [hjs]; decide) hsh hn]
 simp only [Result.andThen]
 rw [Oper.upon_value]
 go_wp2
 rw [run_callFunc_extern L.f276 (by kernel_rfl) (by kernel_rfl) (by kernel_rfl) (e:=Extern.AbiNoEscape.same) (by kernel_rfl)]
 rw [Lib.run_noEscape]
 simp only [Result.andThen]
 rw [Oper.upon_value]
 go_wp2
 rw [Lib.run_from_unsafe w ⟨b, 0, none⟩ L.t164 L.t70 hj hsh hl]
 simp only [Result.andThen]
 rw [Oper.upon_value]
 go_wp2
 go_end0
 exact ⟨rfl, rfl⟩
end
end Go.Proofs
namespace Go.Proofs.YtglnmjflpkeclaaGreatDoor
open Go Go.Vc Go.Lib Go.Shelf
theorem sizeBld : (Tryz.prog.info? Ydj).map (·.size) = some 2:=by kernel_rfl
theorem liesBld : liesAt Tryz.prog Tryz.prog.depth Zyk (3 / Tryz.prog.cellsOf Zyk) 0 Ydj 1 = true:=by kernel_rfl
theorem x72 : Builder.X72 Tryz.prog ren240:=⟨by kernel_rfl, by kernel_rfl⟩
section
variable {w w' : World} {b : Nat} {l : List UInt8} {q pp : Option Addr} {n c pl pc : Nat}
theorem CC_ok {u : Option Addr} {J : World -> Prop} (hh : w.heap[b]? = some (.cells ⟨[.pointer u, .slice q n c, .slice pp pl pc]⟩ Zyk (0, 0))) (hu : u = none \/ u = some ⟨b, 0, none⟩)
  (K : ∀ w', w'.heap[b]? = some (.cells ⟨[.pointer (some ⟨b, 0, none⟩), .slice q n c, .slice pp pl pc]⟩ Zyk (0, 0)) -> Chg (fun x => x = b) w w' -> J w') :
  Zz0 Tryz.prog ZyW #[.pointer (some ⟨b, 0, none⟩)] w [] J:=by
 have H:=(Hp.start w (fun x => x = b)).add hh (by simp) (fun _ => rfl)
 rcases hu with rfl | rfl
 ·refine Calls.mono (cc_fresh lays240 sizeBld (n:=3) (by decide) liesBld b w (H.cell 0 rfl rfl) (by simp [World.shape?, hh]) (Lib.frozen_of_heap hh 0)) fun e w' he => ?_
  obtain ⟨rfl, rfl⟩:=he
  have h1:=H.stV 0 rfl (off:=0) (v := .pointer (some ⟨b, 0, none⟩)) (K:=fun w1 => w1.heap[b]? = some (.cells ⟨[.pointer (some ⟨b, 0, none⟩), .slice q n c, .slice pp pl pc]⟩ Zyk (0, 0)) /\ Chg (fun x => x = b) w w1) (by simp) (fun w1 H1 c1 => ⟨H1.get 0 rfl, c1⟩)
  exact ⟨rfl, K _ h1.2.1 h1.2.2⟩
 ·refine Calls.mono (Any.Builder_copyCheck_used lays240 x72 b w (H.cell 0 rfl rfl)) fun e w' he => ?_
  obtain ⟨rfl, rfl⟩:=he
  exact ⟨rfl, K _ hh (Chg.refl _ _)⟩
def Wr (w : World) (b : Nat) (l : List UInt8) (pp : Option Addr) (pl pc : Nat) : Prop :=
 ∃ u q c, w.heap[b]? = some (.cells ⟨[.pointer u, .slice q l.length c, .slice pp pl pc]⟩ Zyk (0, 0)) /\ (u = none \/ u = some ⟨b, 0, none⟩) /\ Row w Zzs 1 q l.length c (bcells l) /\ ∀ a, q = some a -> b + 1 <= a.block
def WS (b : Nat) (w : World) : Nat -> Prop:=fun x => x = b \/ (b < x /\ typ w x = some Zzs)
theorem WS.trans {a : World} (h : Chg (WS b a) a w) (k : Chg (WS b w) w w') : Chg (WS b a) a w':=by
 refine h.trans k fun x hx hw => ?_
 rcases hw with e | ⟨h1, h2⟩
 ·exact .inl e
 ·by_cases hS : WS b a x
  ·exact hS
  ·refine .inr ⟨h1, ?_⟩
   have:=h.keep x hx hS
   unfold typ at h2 ⊢
   rw [this] at h2
   exact h2
theorem WS.no {a : World} (h : Chg No a w) : Chg (WS b a) a w:=h.mono fun _ _ f => f.elim
theorem Wr.chg0 (h : Wr w b l pp pl pc) (hc : Chg No w w') : Wr w' b l pp pl pc:=by
 obtain ⟨u, q, c, hh, hu, hr, hq⟩:=h
 exact ⟨u, q, c, hc.heap hh (fun f => f), hu, hr.chg hc (off_no _), hq⟩
theorem Wr.c2 (h : Wr w b l pp pl pc) : w.cell? ⟨b, 2, none⟩ = some (.slice pp pl pc):=by
 obtain ⟨u, q, c, hh, _⟩:=h
 rw [Lib.cell_of_heap hh]; rfl
theorem WriteS_ok {s : ByteArray} {J : Int -> Value -> World -> Prop} (h : Wr w b l pp pl pc) (hl : l.length + s.size <= 140737488355328)
  (K : ∀ w', Wr w' b (l ++ bl s) pp pl pc -> Chg (WS b w) w w' -> J (s.size : Int) .nilIface w') :
  Zz0 Tryz.prog ZyF #[.pointer (some ⟨b, 0, none⟩), .string s] w [.one (.int .i64), .one .val] J:=by
 obtain ⟨u, q, c, hh, hu, hr, hq⟩:=h
 refine YaS ?_
 simp only [Addr.add_mk, Nat.zero_add]
 refine CC_ok hh hu fun w1 hh1 hc1 => ?_
 have hr1:=hr.chg hc1 fun a ha e => by have:=hq a ha; omega
 refine ⟨_, _, _, (by rw [Lib.cell_of_heap hh1]; rfl : w1.cell? ⟨b, 1, none⟩ = some (.slice q l.length c)), ?_⟩
 refine appJ_strN (m:=b + 1) (by kernel_rfl) (by kernel_rfl) u8info hr1 hl hq (by have:=Zy4 hh1; omega) fun p' c' w2 hr2 hq2 hc2 => ?_
 have hh2:=hc2.heap hh1 fun ⟨a, ha, e⟩ => by have:=hq a ha; omega
 have H2:=(Hp.start w2 (fun x => x = b)).add hh2 (by simp) (fun _ => rfl)
 refine H2.stV 0 rfl (off:=1) (by simp) fun w3 H3 hc3 => ?_
 refine K w3 ⟨some ⟨b, 0, none⟩, p', c', ?_, .inr rfl, ?_, hq2⟩ ?_
 ·have:=H3.get 0 rfl
  simpa [Zzn] using this
 ·have:=hr2.chg hc3 fun a ha e => by have:=hq2 a ha; omega
  simpa [Zzn] using this
 ·have k1 : Chg (WS b w) w w1:=hc1.mono fun x _ e => .inl e
  have k2 : Chg (WS b w1) w1 w2:=hc2.mono fun x _ ⟨a, ha, e⟩ => .inr ⟨by have:=hq a ha; omega, by rw [<- e]; exact hr1.typ a ha⟩
  have k3 : Chg (WS b w2) w2 w3:=hc3.mono fun x _ e => .inl e
  exact WS.trans (WS.trans k1 k2) k3
theorem WriteB_ok {v : UInt8} {J : Value -> World -> Prop} (h : Wr w b l pp pl pc) (hl : l.length + 1 <= 140737488355328)
  (K : ∀ w', Wr w' b (l ++ [v]) pp pl pc -> Chg (WS b w) w w' -> J .nilIface w') :
  Zz0 Tryz.prog ZyX #[.pointer (some ⟨b, 0, none⟩), .int .u8 (v.toNat : Int)] w [.one .val] J:=by
 obtain ⟨u, q, c, hh, hu, hr, hq⟩:=h
 refine Ybd ?_
 simp only [Addr.add_mk, Nat.zero_add]
 refine CC_ok hh hu fun w1 hh1 hc1 => ?_
 have hr1:=hr.chg hc1 fun a ha e => by have:=hq a ha; omega
 refine ⟨_, _, _, (by rw [Lib.cell_of_heap hh1]; rfl : w1.cell? ⟨b, 1, none⟩ = some (.slice q l.length c)), ?_⟩
 refine newRow (n:=1) (sz:=1) (e:=Zzs) (cs:=bcells [v]) rfl (by decide) fun bb w2 hrow hbb hc2 => ?_
 have hr2:=hr1.chg hc2 (off_no _)
 refine YbR slT_u8 hr2 hrow.sl (Yf6 _) (fun e => by cases e) (by omega) (by simp only [maxLen]; omega) fun p' c' w3 hr3 hc3 hf3 => ?_
 have hh2:=hc2.heap hh1 (fun f => f)
 have hh3:=hc3.heap hh2 fun ⟨a, ha, e⟩ => by have:=hq a ha; omega
 have hq3 : ∀ a, p' = some a -> b + 1 <= a.block:=by
  intro a ha
  rcases hf3 with rfl | hf
  ·exact hq a ha
  ·have:=hf a ha
   have:=Zy4 hh2
   omega
 have H2:=(Hp.start w3 (fun x => x = b)).add hh3 (by simp) (fun _ => rfl)
 refine H2.stV 0 rfl (off:=1) (by simp) fun w4 H3 hc4 => ?_
 refine K w4 ⟨some ⟨b, 0, none⟩, p', c', ?_, .inr rfl, ?_, hq3⟩ ?_
 ·have:=H3.get 0 rfl
  simpa using this
 ·have:=hr3.chg hc4 fun a ha e => by have:=hq3 a ha; omega
  simpa [bcells] using this
 ·have k1 : Chg (WS b w) w w1:=hc1.mono fun x _ e => .inl e
  have k2 : Chg (WS b w2) w2 w3:=hc3.mono fun x _ ⟨a, ha, e⟩ => .inr ⟨by have:=hq a ha; omega, by rw [<- e]; exact hr2.typ a ha⟩
  have k3 : Chg (WS b w3) w3 w4:=hc4.mono fun x _ e => .inl e
  exact WS.trans (WS.trans (k1.trans0 hc2) k2) k3
theorem Wr.off {e : TypeId} {sz pl' c' : Nat} {p : Option Addr} {xs : List Value} (h : Wr w b l pp pl pc) (hr : Row w e sz p pl' c' xs) (h1 : e ≠ Zzs) (h2 : e ≠ Zyk) : Vc.off p (WS b w):=by
 obtain ⟨u, q, c, hh, _⟩:=h
 intro a ha hw
 have ht:=hr.typ a ha
 rcases hw with e1 | ⟨_, e1⟩
 ·rw [e1, Zzy hh] at ht
  exact h2 (Option.some.inj ht).symm
 ·rw [ht] at e1
  exact h1 (Option.some.inj e1)
theorem Put_ok' {p : Option Addr} {m c : Nat} {X : List ByteArray} {J : World -> Prop} (h : Wr w b l pp pl pc) (hX : Row w Zz8 1 p m c (strs X)) (hl : l.length + (X.flatMap bl).length <= 140737488355328) (hm : m <= 1000)
  (K : ∀ w', Wr w' b (l ++ X.flatMap bl) pp pl pc -> Chg (WS b w) w w' -> J w') :
  Zz0 Tryz.prog Zzr #[.pointer (some ⟨b, 0, none⟩), .slice p m c] w [] J:=by
 refine Yex ?_
 have hXl : X.length = m:=by have:=hX.len; rw [ZzK] at this; omega
 refine ⟨fun x w1 n => ∃ k, x = (k : Nat) /\ k <= m /\ n = m - k /\ Wr w1 b (l ++ (X.take k).flatMap bl) pp pl pc /\ Row w1 Zz8 1 p m c (strs X) /\ Chg (WS b w) w w1, ⟨_, 0, rfl, by omega, rfl, by simpa using h, hX, Chg.refl _ _⟩, ?_⟩
 rintro x w1 n ⟨k, rfl, hk, rfl, h1, hX1, hc1⟩
 refine Zz4 (fun hlt => ?_) (fun hge => ?_)
 ·refine Yhb hX1.sl (by omega) (by omega) fun s hs => ?_
  have hs' : X[k]? = some s:=by simpa using hs
  have e : (X.take (k + 1)).flatMap bl = (X.take k).flatMap bl ++ bl s:=by rw [take_add_one, hs']; simp
  have hle : ((X.take (k + 1)).flatMap bl).length <= (X.flatMap bl).length:=by
   conv => rhs; rw [<- take_append_drop (k + 1) X, flatMap_append, length_append]
   omega
  rw [e, length_append, Zzn] at hle
  refine WriteS_ok h1 (by rw [length_append]; omega) fun w2 h2 hc2 => ?_
  refine ⟨_, by omega, k + 1, by rw [Zzb] <;> omega, by omega, rfl, ?_, hX1.chg hc2 (h1.off hX1 (by decide) (by decide)), WS.trans hc1 hc2⟩
  rw [e, <- append_assoc]
  exact h2
 ·have : k = X.length:=by omega
  rw [this, take_length] at h1
  exact K w1 h1 hc1
theorem BLen_ok {J : Int -> World -> Prop} (h : Wr w b l pp pl pc) (K : J (l.length : Int) w) : Zz0 Tryz.prog Zqn #[.pointer (some ⟨b, 0, none⟩)] w [.one (.int .i64)] J:=by
 obtain ⟨u, q, c, hh, hu, hr, hq⟩:=h
 refine Ydc ?_
 simp only [Addr.add_mk, Nat.zero_add]
 exact ⟨_, _, _, (by rw [Lib.cell_of_heap hh]; rfl : w.cell? ⟨b, 1, none⟩ = some (.slice q l.length c)), K⟩
end
end Go.Proofs.YtglnmjflpkeclaaGreatDoor
end
section
namespace Go.Proofs
open Go.Shelf
def Tryz.lays171_ren : Go.Shelf.Ren:=⟨fun | 171 => 140 | 243 => 180 | 246 => 204 | 283 => 217 | 284 => 218 | 285 => 219 | 286 => 220 | 129 => 175 | 317 => 233 | 318 => 234 | 319 => 235 | 320 => 236 | 337 => 244 | 338 => 245 | n => n, fun | 3 => 3 | 9 => 9 | 2 => 2 | 4 => 4 | 171 => 281 | 0 => 0 | 53 => 228 | 37 => 22 | 5 => 5 | 173 => 283 | 212 => 296 | 51 => 175 | 20 => 20 | 213 => 297 | 46 => 171 | 232 => 301 | 233 => 302 | n => n, fun | 17 => 6 | 18 => 7 | 19 => 8 | n => n⟩
theorem Tryz.lays171 : Go.Proofs.LaysM.n171 Tryz.prog Tryz.lays171_ren where
 mixed:=by kernel_rfl
 f129:=by kernel_rfl
 f171:=by kernel_rfl
 f243:=by kernel_rfl
 f246:=by kernel_rfl
 f283:=by kernel_rfl
 f284:=by kernel_rfl
 f285:=by kernel_rfl
 f286:=by kernel_rfl
 f317:=by kernel_rfl
 f318:=by kernel_rfl
 f319:=by kernel_rfl
 f320:=by kernel_rfl
 f337:=by kernel_rfl
 f338:=by kernel_rfl
 t0:=by kernel_rfl
 a0:=fun w => by kernel_rfl
 z0:=fun w => by kernel_rfl
 v0:=fun w => by kernel_rfl
 t2:=by kernel_rfl
 a2:=fun w => by kernel_rfl
 z2:=fun w => by kernel_rfl
 v2:=fun w => by kernel_rfl
 t3:=by kernel_rfl
 a3:=fun w => by kernel_rfl
 z3:=fun w => by kernel_rfl
 v3:=fun w => by kernel_rfl
 t4:=by kernel_rfl
 a4:=fun w => by kernel_rfl
 z4:=fun w => by kernel_rfl
 v4:=fun w => by kernel_rfl
 t5:=by kernel_rfl
 a5:=fun w => by kernel_rfl
 z5:=fun w => by kernel_rfl
 v5:=fun w => by kernel_rfl
 t9:=by kernel_rfl
 a9:=fun w => by kernel_rfl
 z9:=fun w => by kernel_rfl
 v9:=fun w => by kernel_rfl
 t20:=by kernel_rfl
 a20:=fun w => by kernel_rfl
 z20:=fun w => by kernel_rfl
 v20:=fun w => by kernel_rfl
 t37:=by kernel_rfl
 a37:=fun w => by kernel_rfl
 z37:=fun w => by kernel_rfl
 v37:=fun w => by kernel_rfl
 t46:=by kernel_rfl
 a46:=fun w => by kernel_rfl
 z46:=fun w => by kernel_rfl
 v46:=fun w => by kernel_rfl
 t51:=by kernel_rfl
 a51:=fun w => by kernel_rfl
 z51:=fun w => by kernel_rfl
 v51:=fun w => by kernel_rfl
 t53:=by kernel_rfl
 a53:=fun w => by kernel_rfl
 z53:=fun w => by kernel_rfl
 v53:=fun w => by kernel_rfl
 t171:=by kernel_rfl
 a171:=fun w => by kernel_rfl
 z171:=fun w => by kernel_rfl
 v171:=fun w => by kernel_rfl
 t173:=by kernel_rfl
 a173:=fun w => by kernel_rfl
 z173:=fun w => by kernel_rfl
 v173:=fun w => by kernel_rfl
 t212:=by kernel_rfl
 a212:=fun w => by kernel_rfl
 z212:=fun w => by kernel_rfl
 v212:=fun w => by kernel_rfl
 t213:=by kernel_rfl
 a213:=fun w => by kernel_rfl
 z213:=fun w => by kernel_rfl
 t232:=by kernel_rfl
 a232:=fun w => by kernel_rfl
 z232:=fun w => by kernel_rfl
 v232:=fun w => by kernel_rfl
 t233:=by kernel_rfl
 a233:=fun w => by kernel_rfl
 z233:=fun w => by kernel_rfl
 v233:=fun w => by kernel_rfl
 g17:=by kernel_rfl
 g18:=by kernel_rfl
 g19:=by kernel_rfl
 i0:=by kernel_rfl
 i2:=by kernel_rfl
 i3:=by kernel_rfl
 i4:=by kernel_rfl
 i5:=by kernel_rfl
 i9:=by kernel_rfl
 i20:=by kernel_rfl
 i37:=by kernel_rfl
 i46:=by kernel_rfl
 i51:=by kernel_rfl
 i53:=by kernel_rfl
 i171:=by kernel_rfl
 i173:=by kernel_rfl
 i212:=by kernel_rfl
 i232:=by kernel_rfl
 i233:=by kernel_rfl
 m17:=by kernel_rfl
 m18:=by kernel_rfl
 m19:=by kernel_rfl
def Tryz.lays26_ren : Go.Shelf.Ren:=⟨fun | 26 => 139 | 33 => 171 | 34 => 179 | 38 => 159 | n => n, fun | 24 => 60 | 9 => 9 | 3 => 3 | 4 => 4 | 40 => 171 | 0 => 0 | n => n, fun | n => n⟩
theorem Tryz.lays26 : Go.Proofs.Lays2.n26 Tryz.prog Tryz.lays26_ren where
 mixed:=by kernel_rfl
 f26:=by kernel_rfl
 f33:=by kernel_rfl
 f34:=by kernel_rfl
 f38:=by kernel_rfl
 t0:=by kernel_rfl
 a0:=fun w => by kernel_rfl
 z0:=fun w => by kernel_rfl
 v0:=fun w => by kernel_rfl
 t3:=by kernel_rfl
 a3:=fun w => by kernel_rfl
 z3:=fun w => by kernel_rfl
 v3:=fun w => by kernel_rfl
 t4:=by kernel_rfl
 a4:=fun w => by kernel_rfl
 z4:=fun w => by kernel_rfl
 v4:=fun w => by kernel_rfl
 t9:=by kernel_rfl
 a9:=fun w => by kernel_rfl
 z9:=fun w => by kernel_rfl
 v9:=fun w => by kernel_rfl
 t24:=by kernel_rfl
 a24:=fun w => by kernel_rfl
 z24:=fun w => by kernel_rfl
 v24:=fun w => by kernel_rfl
 t40:=by kernel_rfl
 a40:=fun w => by kernel_rfl
 z40:=fun w => by kernel_rfl
 v40:=fun w => by kernel_rfl
end Go.Proofs
namespace Go.Vc
open Go Go.Lib
theorem decD_eq (n : Nat) : Yh0 n = Lib.decDigits n:=by
 induction n using Nat.strongRecOn with
 | ind n ih =>
  unfold Yh0 Lib.decDigits
  split
  ·rfl
  ·rw [ih (n / 10) (by omega)]
theorem findU_at {X : List ByteArray} {u : ByteArray} (hs : SAsc X) (hu : u ∈ X) : ∃ h : Yb2 X u < X.length, X[Yb2 X u] = u /\ (∀ t (ht : t < X.length), t < Yb2 X u -> sLt X[t] u = true) /\ ∀ t (ht : t < X.length), Yb2 X u <= t -> sLt X[t] u = false:=by
 have h : Yb2 X u < X.length:=findIdx_lt_length_of_exists ⟨u, hu, by simp⟩
 have e : X[Yb2 X u] = u:=by
  have:=findIdx_getElem (p:=fun x => decide (x = u)) (xs:=X) (w:=h)
  unfold Yb2
  simpa using this
 have hp:=pairwise_iff_getElem.1 hs
 refine ⟨h, e, fun t ht hlt => ?_, fun t ht hge => ?_⟩
 ·have:=hp t (Yb2 X u) ht h hlt
  rw [e] at this
  exact this
 ·rcases Nat.lt_or_ge (Yb2 X u) t with hlt | hle
  ·have:=hp (Yb2 X u) t h ht hlt
   rw [e] at this
   exact sLt_asym this
  ·have : t = Yb2 X u:=by omega
   subst this
   rw [e]
   exact Ybj u
end Go.Vc
namespace Go.Proofs.YtglnmjflpkeclaaGreatDoor
open Go Go.Vc Go.Lib Go.Shelf
def P10 (w : World) : Prop:=Lib.TabIs Tryz.prog w "internal/strconv.uint64pow10" .u64 Lib.pow10Tab
section
variable {w w' : World}
theorem chg_growN (w : World) (k : Nat) (os : Array Obj) : Chg No w (Go.Sort.grow (w.drewN k) os):=by
 refine ⟨rfl, rfl, rfl, ?_, fun b hb _ => ?_⟩
 ·show w.heap.size <= (w.heap ++ os).size
  rw [Array.size_append]; omega
 ·show (w.heap ++ os)[b]? = w.heap[b]?
  exact Array.getElem?_append_left hb
theorem P10.chg {S : Nat -> Prop} (h : P10 w) (hc : Chg S w w') (hS : ∀ g, Tryz.prog.globalNamed "internal/strconv.uint64pow10" = some g -> ¬ S g) : P10 w':=by
 unfold P10 Lib.TabIs World.var? at h ⊢
 obtain ⟨g, hg, h1⟩:=Option.bind_eq_some_iff.1 h
 rw [hg]
 show (match w'.heap[g]? with | some (.cells cs _ _) => some cs | _ => none) = _
 have hlt : g < w.heap.size:=by
  rcases Nat.lt_or_ge g w.heap.size with hl | hl
  ·exact hl
  ·rw [Array.getElem?_eq_none hl] at h1
   cases h1
 rw [hc.keep g hlt (hS g hg)]
 exact h1
theorem P10.chg0 (h : P10 w) (hc : Chg No w w') : P10 w':=h.chg hc fun _ _ f => f
theorem Prefix_ok {k : Nat} {J : ByteArray -> World -> Prop} (T : P10 w) (hk : k <= 1000000000) (K : ∀ w', Chg No w w' -> J (mkB (Ycf k)) w') :
  Zz0 Tryz.prog ZqA #[.int .i64 (k : Int)] w [.one .str] J:=by
 refine c_canon_prefix ?_
 have e : w64 ((k : Int) + 1) = ((k + 1 : Nat) : Int):=by rw [Zzb] <;> omega
 rw [e]
 refine Calls.mono (Any.strconv_Itoa Tryz.lays171 ((k + 1 : Nat) : Int) (by omega) (by omega) w T) fun e w' he => ?_
 obtain ⟨rfl, q, os, rfl⟩:=he
 have e2 : Lib.itoa ((k + 1 : Nat) : Int) = Yh0 (k + 1):=by
  unfold Lib.itoa
  rw [if_neg (by omega), decD_eq]
  rfl
 rw [e2]
 refine ⟨_, rfl, ?_⟩
 have hz : (⟨#[110]⟩ : ByteArray) ++ (⟨(Yh0 (k + 1)).toArray⟩ : ByteArray) = mkB (Ycf k):=by
  apply Zqt
  rw [YaM, ZzH]
  rfl
 have hlen:=Lib.itoa_length_le ((k + 1 : Nat) : Int) (by omega) (by omega)
 rw [e2] at hlen
 refine ⟨?_, ?_⟩
 ·have e3 : (⟨(Yh0 (k + 1)).toArray⟩ : ByteArray).size = (Yh0 (k + 1)).length:=rfl
  rw [e3]
  have e4 : (⟨#[110]⟩ : ByteArray).size = 1:=rfl
  rw [e4]
  omega
 ·rw [hz]
  exact K _ (chg_growN w q os)
theorem Bin_ok {p : Option Addr} {n c : Nat} {X : List ByteArray} {u : ByteArray} {J : Int -> Bool -> World -> Prop} (h : Row w Zz8 1 p n c (strs X)) (hs : SAsc X) (hu : u ∈ X) (hm : n <= 1000000000)
  (K : ∀ bo w', Chg No w w' -> J (Yb2 X u : Nat) bo w') :
  Zz0 Tryz.prog ZyG #[.slice p n c, .string u] w [.one (.int .i64), .one .bool] J:=by
 have hXl : X.length = n:=by have:=h.len; rw [ZzK] at this; omega
 obtain ⟨hlt, he, h1, h2⟩:=findU_at hs hu
 obtain ⟨b, rest, rfl, hh, hlc, hcm, hcs⟩:=h.some0 (by omega)
 obtain ⟨Sx, hSx⟩ : ∃ Sx : Nat -> ByteArray, Sx = fun t => if ht : t < X.length then X[t] else u:=⟨_, rfl⟩
 have hcell : ∀ j, j < n -> w.cell? ⟨b, 0 + j, none⟩ = some (.string (Sx j)):=by
  intro j hj
  have hj' : j < X.length:=by omega
  rw [Nat.zero_add, Lib.cell_of_heap hh, hSx]
  dsimp only
  rw [dif_pos hj']
  have : (strs X ++ rest)[j]? = some (.string X[j]):=by
   rw [getElem?_append_left (by rw [ZzK]; omega)]
   simp [strs, hj']
  simpa using this
 have hk : bsGo (fun t => Op.bytesLess (Sx t).toList u.toList) n 0 n = Yb2 X u:=by
  refine bsGo_spec _ _ (fun t ht => ?_) (fun t ht => ?_) n 0 n (by omega) (by omega) (by omega)
  ·have ht' : t < X.length:=by omega
   rw [hSx]; dsimp only; rw [dif_pos ht']
   exact h1 t ht' ht
  ·rw [hSx]; dsimp only
   split
   ·next ht' => exact h2 t ht' ht
   ·exact Ybj u
 refine Calls.mono (Any2.slices_BinarySearch_string Tryz.lays26 b 0 n c Sx u w (by omega) hcell) fun e w' he' => ?_
 obtain ⟨rfl, q, rfl⟩:=he'
 rw [hk]
 exact ⟨_, _, rfl, K _ _ (chg_drewN w q)⟩
theorem QName_ok {b : Nat} {L : List UInt8} {pp : Option Addr} {pl pc : Nat} {P : List ByteArray} {u l : ByteArray} {J : ByteArray -> World -> Prop} (T : P10 w) (h : Wr w b L pp pl pc) (hP : Row w Zz8 1 pp pl pc (strs P)) (hs : SAsc P) (hm : pl <= 1000000000)
  (hu : u = kE \/ u = Zys \/ u ∈ P) (hl : l.size <= 1000000000) (K : ∀ w', Chg No w w' -> J (mkB (ZzW P (u, l))) w') :
  Zz0 Tryz.prog ZyV #[.pointer (some ⟨b, 0, none⟩), .agg ⟨[.string u, .string l]⟩] w [.one .str] J:=by
 refine Ye7 ?_
 refine (Hp.start w No).newB fun b3 w1 H1 hb3 hc1 => ?_
 refine H1.ldStr 0 rfl rfl ?_
 refine Zz9 (fun h1 => ?_) (fun h1 => ?_)
 ·have e : u = kE:=by rw [Ycl] at h1; exact of_decide_eq_true h1
  refine H1.ldStr 0 rfl rfl ?_
  have e2 : mkB (ZzW P (u, l)) = l:=by unfold ZzW; rw [if_pos e, Ybv]
  rw [<- e2]
  exact K w1 hc1
 have n1 : u ≠ kE:=fun e => by rw [Ycl] at h1; exact of_decide_eq_false h1 e
 refine Zz9 (fun h2 => ?_) (fun h2 => ?_)
 ·have e : u = Zys:=by rw [Ycl] at h2; exact of_decide_eq_true h2
  refine H1.ldStr 0 rfl rfl ?_
  have e4 : (⟨#[120, 109, 108, 58]⟩ : ByteArray).size = 4:=rfl
  refine ⟨by rw [e4]; omega, ?_⟩
  have e2 : mkB (ZzW P (u, l)) = (⟨#[120, 109, 108, 58]⟩ : ByteArray) ++ l:=by
   apply Zqt
   unfold ZzW
   rw [if_neg n1, if_pos e, ZzH, YaM]
  rw [<- e2]
  exact K w1 hc1
 have n2 : u ≠ Zys:=fun e => by rw [Ycl] at h2; exact of_decide_eq_false h2 e
 have hu' : u ∈ P:=by
  rcases hu with e | e | e
  ·exact absurd e n1
  ·exact absurd e n2
  ·exact e
 have H2:=H1.drew
 have h2':=(h.chg0 hc1.drew)
 refine ⟨_, _, _, by simpa [Addr.add_mk] using h2'.c2, ?_⟩
 refine H2.ldStr 0 rfl rfl ?_
 refine Bin_ok (hP.chg hc1.drew (off_no _)) hs hu' hm fun bo w2 hc2 => ?_
 have H3:=(H2.step0 hc2).drew
 refine H3.ldStr 0 rfl rfl ?_
 have hfl:=(findU_at hs hu').1
 have hPl : P.length = pl:=by have:=hP.len; rw [ZzK] at this; omega
 refine Prefix_ok (T.chg0 H3.chg) (by omega) fun w3 hc3 => ?_
 have H4:=H3.step0 hc3
 have hpl : (mkB (Ycf (Yb2 P u))).size <= 22:=by
  rw [Zyi]
  have:=Lib.itoa_length_le ((Yb2 P u + 1 : Nat) : Int) (by omega) (by omega)
  have e2 : Lib.itoa ((Yb2 P u + 1 : Nat) : Int) = Yh0 (Yb2 P u + 1):=by
   unfold Lib.itoa
   rw [if_neg (by omega), decD_eq]
   rfl
  rw [e2] at this
  unfold Ycf
  rw [length_cons]
  omega
 have e1 : (⟨#[58]⟩ : ByteArray).size = 1:=rfl
 have e3 : (mkB (Ycf (Yb2 P u)) ++ (⟨#[58]⟩ : ByteArray)).size = (mkB (Ycf (Yb2 P u))).size + 1:=by rw [ByteArray.size_append, e1]
 refine ⟨H4.cell 0 rfl rfl, by rw [e1]; omega, by rw [e3]; omega, ?_⟩
 have e2 : mkB (ZzW P (u, l)) = (mkB (Ycf (Yb2 P u)) ++ (⟨#[58]⟩ : ByteArray)) ++ l:=by
  apply Zqt
  unfold ZzW
  rw [if_neg n1, if_neg n2, ZzH, YaM, YaM, ZzH]
 rw [<- e2]
 exact K w3 H4.chg
end
end Go.Proofs.YtglnmjflpkeclaaGreatDoor
end
section
namespace Go.Vc
open Go Go.Lib
theorem YdE : ∀ (k : Nat) (X Y : List ByteArray), Zxq k (X ++ Y) = Zxq k X ++ Zxq (k + X.length) Y
 | k, [], Y => by simp [Zxq]
 | k, u :: X, Y => by
  rw [cons_append, Zxq, Zxq, YdE (k + 1) X Y, append_assoc, length_cons]
  congr 3
  omega
theorem declsW_step {P : List ByteArray} {k : Nat} {u : ByteArray} (h : P[k]? = some u) : Zxq 0 (P.take (k + 1)) = Zxq 0 (P.take k) ++ declW k u:=by
  have hk : k < P.length:=(List.getElem?_eq_some_iff.1 h).1
  rw [List.take_add_one, h, YdE]
  simp [Zxq, Nat.min_eq_left (Nat.le_of_lt hk)]
theorem YdL (P : List ByteArray) : ∀ X Y : List At, Zqi P (X ++ Y) = Zqi P X ++ Zqi P Y
 | [], Y => by simp [Zqi]
 | a :: X, Y => by rw [cons_append, Zqi, Zqi, YdL P X Y, append_assoc]
theorem attrsW_step {P : List ByteArray} {X : List At} {k : Nat} {a : At} (h : X[k]? = some a) : Zqi P (X.take (k + 1)) = Zqi P (X.take k) ++ attrW P a:=by
 rw [take_add_one, h, YdL]
 simp [Zqi]
theorem Ydk (P : List ByteArray) : ∀ X Y : List Nd, ZyL P (X ++ Y) = ZyL P X ++ ZyL P Y
 | [], Y => by simp [ZyL]
 | a :: X, Y => by rw [cons_append, ZyL, ZyL, Ydk P X Y, append_assoc]
theorem nodesW_step {P : List ByteArray} {X : List Nd} {k : Nat} {a : Nd} (h : X[k]? = some a) : ZyL P (X.take (k + 1)) = ZyL P (X.take k) ++ Zy3 P false a:=by
 rw [take_add_one, h, Ydk]
 simp [ZyL]
end Go.Vc
namespace Go.Proofs.YtglnmjflpkeclaaGreatDoor
open Go Go.Vc Go.Lib Go.Shelf
section
variable {w w' : World} {b : Nat} {l : List UInt8} {pp : Option Addr} {pl pc : Nat}
theorem YcV {X : List ByteArray} {n : Nat} {J : World -> Prop} (h : Wr w b l pp pl pc) (hX : X.length = n) (hn : n <= 1000) (hl : l.length + (X.flatMap bl).length <= 140737488355328)
  (K : ∀ w', Wr w' b (l ++ X.flatMap bl) pp pl pc -> Chg (WS b w) w w' -> J w') :
  newB w (.cells ⟨strs X⟩ Zz8) fun b1 w1 => Zz0 Tryz.prog Zzr #[.pointer (some ⟨b, 0, none⟩), .slice (some ⟨b1, 0, none⟩) n n] w1 [] fun w2 => J w2:=by
 refine newRow (n:=n) (sz:=1) (e:=Zz8) (cs:=strs X) (by rw [ZzK]; omega) (by simp only [maxLen]; omega) fun b1 w1 hr hb hc => ?_
 exact Put_ok' (h.chg0 hc) hr hl hn fun w2 h2 hc2 => K w2 h2 (WS.trans (WS.no hc) hc2)
theorem WS.from0 {w0 : World} (h : Chg No w0 w) (hb : w0.heap.size <= b) (hc : Chg (WS b w) w w') : Chg No w0 w' :=
 h.trans hc fun z hz hw => by rcases hw with e | ⟨e, _⟩ <;> omega
theorem WS.box {cs : List Value} {e : TypeId} {x : Nat} (h : Wr w b l pp pl pc) (hh : w.heap[x]? = some (.cells ⟨cs⟩ e (0, 0))) (h1 : e ≠ Zzs) (h2 : e ≠ Zyk) : ¬ WS b w x:=by
 obtain ⟨u, q, c, hw, _⟩:=h
 intro hx
 have ht:=Zzy hh
 rcases hx with e1 | ⟨_, e1⟩
 ·rw [e1, Zzy hw] at ht
  exact h2 (Option.some.inj ht).symm
 ·rw [ht] at e1
  exact h1 (Option.some.inj e1)
theorem NodeK_ok {P : List ByteArray} {k : Int} {u lo t : ByteArray} {ap kp : Option Addr} {al ac kl kc : Nat} {ats : List At} {ks : List Nd} {top : Bool} {J : World -> Prop} (h : Wr w b l pp pl pc)
  (ht : t.size <= 10000000) (hl : l.length + (Zy3 P top (.mk k u lo t ats ks)).length <= 140737488355328)
  (elem : k = 2 -> ∀ w1, Wr w1 b l pp pl pc -> Chg No w w1 -> ∀ J' : World -> Prop, (∀ w', Wr w' b (l ++ Zy3 P top (.mk k u lo t ats ks)) pp pl pc -> Chg (WS b w1) w1 w' -> J' w') ->
   Zz0 Tryz.prog Zqa #[.pointer (some ⟨b, 0, none⟩), .agg ⟨[.int .i64 k, .string u, .string lo, .slice ap al ac, .slice kp kl kc, .string t]⟩, .bool top] w1 [] J')
  (K : ∀ w', Wr w' b (l ++ Zy3 P top (.mk k u lo t ats ks)) pp pl pc -> Chg (WS b w) w w' -> J w') :
  Zz0 Tryz.prog Zy8 #[.pointer (some ⟨b, 0, none⟩), .agg ⟨[.int .i64 k, .string u, .string lo, .slice ap al ac, .slice kp kl kc, .string t]⟩, .bool top] w [] J:=by
 refine Ye6 ?_
 refine (Hp.start w No).newB fun b4 w1 H1 hb4 hc1 => ?_
 have h1:=h.chg0 hc1
 have fin : ∀ w', Wr w' b (l ++ Zy3 P top (.mk k u lo t ats ks)) pp pl pc -> Chg (WS b w1) w1 w' -> J w':=fun w' h' hc' => K w' h' (WS.trans (WS.no hc1) hc')
 refine H1.ldI 0 rfl rfl ?_
 refine Zzd (fun hk => ?_) (fun hk3 => ?_)
 ·refine H1.ldStr 0 rfl rfl ?_
  refine Text_ok (by omega) fun w2 hc2 => ?_
  have eW : Zy3 P top (.mk k u lo t ats ks) = subst txtP (bl t):=by rw [Zy3, if_pos hk]
  refine YcV (X:=[mkB (subst txtP (bl t))]) (h1.chg0 hc2) rfl (by decide) ?_ fun w4 h4 hc4 => fin w4 ?_ (WS.trans (WS.no hc2) hc4)
  ·rw [eW] at hl
   simpa [ZzH] using hl
  ·rw [eW]
   simpa [ZzH] using h4
 refine Zzd (fun hk => ?_) (fun hk4 => ?_)
 ·refine H1.ldStr 0 rfl rfl ?_
  have eW : Zy3 P top (.mk k u lo t ats ks) = [(⟨#[60, 33, 45, 45]⟩ : ByteArray), t, ⟨#[45, 45, 62]⟩].flatMap bl:=by
   rw [Zy3, if_neg hk3, if_pos hk]
   simp [flatMap, bl]
  refine YcV (X:=[⟨#[60, 33, 45, 45]⟩, t, ⟨#[45, 45, 62]⟩]) h1 rfl (by decide) (by rw [<- eW]; exact hl) fun w4 h4 hc4 => fin w4 ?_ hc4
  rw [eW]
  exact h4
 refine Zzd (fun hk => ?_) (fun hk5 => ?_)
 ·refine H1.ldStr 0 rfl rfl ?_
  have eW : Zy3 P top (.mk k u lo t ats ks) = ([(⟨#[60, 63]⟩ : ByteArray), lo].flatMap bl ++ (if t ≠ kE then [(⟨#[32]⟩ : ByteArray), t] else []).flatMap bl) ++ [(⟨#[63, 62]⟩ : ByteArray)].flatMap bl:=by
   rw [Zy3, if_neg hk3, if_neg hk4, if_pos hk]
   by_cases ht0 : t = kE
   ·simp [flatMap, bl, ht0]
   ·simp [flatMap, bl, ht0]
  rw [eW] at hl fin
  have hlen : ([(⟨#[60, 63]⟩ : ByteArray), lo].flatMap bl).length + ((if t ≠ kE then [(⟨#[32]⟩ : ByteArray), t] else []).flatMap bl).length + ([(⟨#[63, 62]⟩ : ByteArray)].flatMap bl).length + l.length <= 140737488355328:=by
   simp only [length_append] at hl
   omega
  refine YcV (X:=[⟨#[60, 63]⟩, lo]) h1 rfl (by decide) (by omega) fun w8 h8 hc8 => ?_
  have hbox:=H1.get 0 rfl
  have hbox8:=hc8.heap hbox (WS.box h1 hbox (by decide) (by decide))
  refine Zz7 fun J0 hJ0 => ?_
  have k0 : ∀ w9, Wr w9 b ((l ++ [(⟨#[60, 63]⟩ : ByteArray), lo].flatMap bl) ++ (if t ≠ kE then [(⟨#[32]⟩ : ByteArray), t] else []).flatMap bl) pp pl pc -> Chg (WS b w1) w1 w9 -> J0 w9:=by
   intro w9 h9 hc9
   rw [hJ0]
   refine YcV (X:=[⟨#[63, 62]⟩]) h9 rfl (by decide) (by simp only [length_append]; omega) fun w11 h11 hc11 => fin w11 ?_ (WS.trans hc9 hc11)
   rw [<- append_assoc, <- append_assoc]
   exact h11
  refine ⟨t, by rw [Lib.cell_of_heap hbox8]; rfl, ?_⟩
  refine Zzm (fun hx => ?_) (fun hx => ?_)
  ·have ht0 : t ≠ kE:=fun e => by rw [Ycl] at hx; exact of_decide_eq_false hx e
   refine ⟨t, by rw [Lib.cell_of_heap hbox8]; rfl, ?_⟩
   rw [if_pos ht0] at k0 hlen
   exact YcV (X:=[⟨#[32]⟩, t]) h8 rfl (by decide) (by simp only [length_append]; omega) fun w13 h13 hc13 => k0 w13 h13 (WS.trans hc8 hc13)
  ·have ht0 : t = kE:=by rw [Ycl] at hx; exact of_decide_eq_true hx
   rw [if_neg (by simp [ht0])] at k0
   exact k0 w8 (by simpa using h8) hc8
 refine Zzd (fun hk => ?_) (fun hk2 => ?_)
 ·refine YcC H1 0 rfl ?_
  exact elem hk w1 h1 hc1 _ fin
 ·refine fin w1 ?_ (Chg.refl _ _)
  rw [Zy3, if_neg hk3, if_neg hk4, if_neg hk5, if_neg hk2, append_nil]
  exact h1
end
end Go.Proofs.YtglnmjflpkeclaaGreatDoor
end
section
namespace Go.Proofs.YtglnmjflpkeclaaGreatDoor
open Go Go.Vc Go.Lib Go.Shelf
section
variable {w w' : World} {b : Nat} {l : List UInt8} {pp : Option Addr} {pl pc : Nat}
structure Env (w0 : World) (b : Nat) (P : List ByteArray) (pp : Option Addr) (pl pc : Nat) : Prop where
 row : Row w0 Zz8 1 pp pl pc (strs P)
 asc : SAsc P
 tab : P10 w0
 hb : w0.heap.size <= b
 hm : pl <= 10000000
 us : ∀ u ∈ P, u.size <= 10000000
theorem Decls_ok {w0 : World} {P : List ByteArray} {top : Bool} {J : World -> Prop} (E : Env w0 b P pp pl pc) (h : Wr w b l pp pl pc) (hc : Chg No w0 w) (hl : l.length + (if top = true then Zxq 0 P else []).length <= 140737488355328)
  (K : ∀ w', Wr w' b (l ++ (if top = true then Zxq 0 P else [])) pp pl pc -> Chg (WS b w) w w' -> J w') :
  ∃ I_26 : Int -> World -> Nat -> Prop, (∃ m : Nat, I_26 (0 : Int) w m) /\ ∀ (x26 : Int) (w5 : World) (m : Nat), I_26 x26 w5 m -> (
   Zz1 (decide (x26 < ((pl : Nat) : Int))) (
   Zzf (fun (w6 : World) => ∃ m' : Nat, m' < m /\ I_26 (w64 (x26 + (1 : Int))) w6 m') fun J_0 =>
   ZzS pp pl x26 fun a29 =>
   ldStr w5 ((a29.add (x26.toNat * 1))) fun x30 =>
   Zz1 top (
   Zz0 Tryz.prog ZqA #[.int .i64 x26] w5 [.one .str] fun (r34 : ByteArray) (w7 : World) =>
   Zz0 Tryz.prog Zqk #[.string x30] w7 [.one .str] fun (r36 : ByteArray) (w8 : World) =>
   newB w8 (.cells ⟨[.string ⟨#[32, 120, 109, 108, 110, 115, 58]⟩, .string r34, .string ⟨#[61, 34]⟩, .string r36, .string ⟨#[34]⟩]⟩ Zz8) fun b37 w9 =>
   Zz0 Tryz.prog Zzr #[.pointer (some ⟨b, 0, none⟩), .slice (some ⟨b37, 0, none⟩) 5 5] w9 [] fun (w10 : World) =>
   J_0 w10) (
   J_0 w5)) (J w5)):=by
 have hPl : P.length = pl:=by have:=E.row.len; rw [ZzK] at this; omega
 have hpm:=E.hm
 refine ⟨fun x w1 n => ∃ k, x = (k : Nat) /\ k <= pl /\ n = pl - k /\ Wr w1 b (l ++ (if top = true then Zxq 0 (P.take k) else [])) pp pl pc /\ Chg (WS b w) w w1, ⟨_, 0, rfl, by omega, rfl, by cases top <;> simpa [Zxq] using h, Chg.refl _ _⟩, ?_⟩
 rintro x w1 n ⟨k, rfl, hk, rfl, h1, hc1⟩
 have hc01:=WS.from0 hc E.hb hc1
 refine Zz4 (fun hlt => ?_) (fun hge => ?_)
 ·refine Zz7 fun J0 hJ0 => ?_
  refine Yhb (E.row.chg hc01 (off_no _)).sl (by omega) (by omega) fun s hs => ?_
  have hs' : P[k]? = some s:=by simpa using hs
  have st:=declsW_step hs'
  cases top with
  | false =>
   refine Zz9 (fun e => absurd e (by decide)) fun _ => ?_
   rw [hJ0]
   exact ⟨_, by omega, k + 1, by rw [Zzb] <;> omega, by omega, rfl, by simpa using h1, hc1⟩
  | true =>
   refine Zz9 (fun _ => ?_) (fun e => absurd e (by decide))
   simp only [if_true] at h1 hl
   have hle : (Zxq 0 (P.take (k + 1))).length <= (Zxq 0 P).length:=by
    conv => rhs; rw [<- take_append_drop (k + 1) P, YdE, length_append]
    omega
   refine Prefix_ok (E.tab.chg0 hc01) (by have:=E.hm; omega) fun w2 hc2 => ?_
   refine Quote_ok (E.us s (mem_of_getElem? hs')) fun w3 hc3 => ?_
   have hc13:=hc2.trans0 hc3
   have eW : declW k s = [(⟨#[32, 120, 109, 108, 110, 115, 58]⟩ : ByteArray), mkB (Ycf k), ⟨#[61, 34]⟩, mkB (subst YgQ (bl s)), ⟨#[34]⟩].flatMap bl:=by
    unfold declW
    simp [flatMap, ZzH, bl]
   rw [st, length_append, eW] at hle
   refine YcV (X:=[⟨#[32, 120, 109, 108, 110, 115, 58]⟩, mkB (Ycf k), ⟨#[61, 34]⟩, mkB (subst YgQ (bl s)), ⟨#[34]⟩]) (h1.chg0 hc13) rfl (by decide) (by rw [length_append]; omega) fun w4 h4 hc4 => ?_
   rw [hJ0]
   refine ⟨_, by omega, k + 1, by rw [Zzb] <;> omega, by omega, rfl, ?_, WS.trans hc1 (WS.trans (WS.no hc13) hc4)⟩
   simp only [if_true]
   rw [st, eW, <- append_assoc]
   exact h4
 ·have e : k = P.length:=by omega
  rw [e, take_length] at h1
  exact K w1 h1 hc1
theorem AttrsW_ok {w0 : World} {P : List ByteArray} {ap : Option Addr} {al : Nat} {ats : List At} {J : World -> Prop} (E : Env w0 b P pp pl pc) (h : Wr w b l pp pl pc) (hc : Chg No w0 w) (ha : Sl w0 ap al 3 (rows atc ats)) (hal : al <= 10000000)
  (hn : ∀ a ∈ ats, (a.1 = kE \/ a.1 = Zys \/ a.1 ∈ P) /\ a.2.1.size <= 10000000 /\ a.2.2.size <= 10000000) (hl : l.length + (Zqi P ats).length <= 140737488355328)
  (K : ∀ w', Wr w' b (l ++ Zqi P ats) pp pl pc -> Chg (WS b w) w w' -> J w') :
  ∃ I_43 : Int -> World -> Nat -> Prop, (∃ m : Nat, I_43 (0 : Int) w m) /\ ∀ (x43 : Int) (w11 : World) (m_1 : Nat), I_43 x43 w11 m_1 -> (
   Zz1 (decide (x43 < ((al : Nat) : Int))) (
   ZzS ap al x43 fun a45 =>
   ldStr w11 ((a45.add (x43.toNat * 3))) fun x46_0 =>
   ldStr w11 (((a45.add (x43.toNat * 3)).add 1)) fun x46_1 =>
   ldStr w11 (((a45.add (x43.toNat * 3)).add 2)) fun x46_2 =>
   newB w11 (.cells (Zy2 Tryz.prog ZzO) ZzO) fun b10 w12 =>
   stN w12 ⟨b10, 0, none⟩ ⟨[.string x46_0, .string x46_1, .string x46_2]⟩ 3 fun w13 =>
   ldStr w13.drew ⟨b10, 0, none⟩ fun x50_0 =>
   ldStr w13.drew ⟨b10, 1, none⟩ fun x50_1 =>
   ldStr w13.drew ⟨b10, 2, none⟩ fun x53 =>
   Zz0 Tryz.prog ZyV #[.pointer (some ⟨b, 0, none⟩), .agg ⟨[.string x50_0, .string x50_1]⟩] w13.drew [.one .str] fun (r51 : ByteArray) (w14 : World) =>
   w14.cell? ⟨b10, 2, none⟩ = some (.string x53) /\
   Zz0 Tryz.prog Zqk #[.string x53] w14 [.one .str] fun (r54 : ByteArray) (w15 : World) =>
   newB w15 (.cells ⟨[.string ⟨#[32]⟩, .string r51, .string ⟨#[61, 34]⟩, .string r54, .string ⟨#[34]⟩]⟩ Zz8) fun b55 w16 =>
   Zz0 Tryz.prog Zzr #[.pointer (some ⟨b, 0, none⟩), .slice (some ⟨b55, 0, none⟩) 5 5] w16 [] fun (w17 : World) =>
   ∃ m' : Nat, m' < m_1 /\ I_43 (w64 (x43 + (1 : Int))) w17 m') (J w11)):=by
 have hAl : ats.length = al:=ha.row (YaK _) (by decide)
 have hpm:=E.hm
 rw [Yh2]
 refine ⟨fun x w1 n => ∃ k, x = (k : Nat) /\ k <= al /\ n = al - k /\ Wr w1 b (l ++ Zqi P (ats.take k)) pp pl pc /\ Chg (WS b w) w w1, ⟨_, 0, rfl, by omega, rfl, by simpa [Zqi] using h, Chg.refl _ _⟩, ?_⟩
 rintro x w1 n ⟨k, rfl, hk, rfl, h1, hc1⟩
 have hc01:=WS.from0 hc E.hb hc1
 refine Zz4 (fun hlt => ?_) (fun hge => ?_)
 ·refine ZzT (ha.chg hc01 (off_no _)) (YaK _) (by decide) (by omega) (by omega) fun a x hpa hx hcl => ?_
  have hx' : ats[k]? = some x:=by rw [<- hx]; congr 1
  obtain ⟨hn1, hn2, hn3⟩:=hn x (mem_of_getElem? hx')
  have st:=attrsW_step (P:=P) hx'
  refine ⟨_, ZzG hcl, _, hcl 1 _ rfl, _, hcl 2 _ rfl, ?_⟩
  refine (Hp.start w1 No).newB fun b10 w2 H2 hb10 hc2 => ?_
  refine H2.stN 0 rfl (off:=0) rfl (by simp) (Yg7 x) fun w3 H3 hc3 => ?_
  simp only [set_cons_zero] at H3
  rw [ZyK (by simp)] at H3
  have H4:=H3.drew
  refine H4.ldStr 0 rfl rfl ?_
  refine H4.ldStr 0 rfl rfl ?_
  refine H4.ldStr 0 rfl rfl ?_
  have hc04:=hc01.trans0 H4.chg
  refine QName_ok (E.tab.chg0 hc04) (h1.chg0 H4.chg) (E.row.chg hc04 (off_no _)) E.asc (by omega) hn1 (by omega) fun w5 hc5 => ?_
  have H5:=H4.step0 hc5
  refine ⟨H5.cell 0 rfl rfl, ?_⟩
  refine Quote_ok hn3 fun w6 hc6 => ?_
  have hc16:=H5.chg.trans0 hc6
  have eW : attrW P x = [(⟨#[32]⟩ : ByteArray), mkB (ZzW P (x.1, x.2.1)), ⟨#[61, 34]⟩, mkB (subst YgQ (bl x.2.2)), ⟨#[34]⟩].flatMap bl:=by
   unfold attrW
   simp [flatMap, ZzH, bl, nameOf]
  have hle : (Zqi P (ats.take (k + 1))).length <= (Zqi P ats).length:=by
   conv => rhs; rw [<- take_append_drop (k + 1) ats, YdL, length_append]
   omega
  rw [st, length_append, eW] at hle
  refine YcV (X:=[⟨#[32]⟩, mkB (ZzW P (x.1, x.2.1)), ⟨#[61, 34]⟩, mkB (subst YgQ (bl x.2.2)), ⟨#[34]⟩]) (h1.chg0 hc16) rfl (by decide) (by rw [length_append]; omega) fun w7 h7 hc7 => ?_
  refine ⟨_, by omega, k + 1, by rw [Zzb] <;> omega, by omega, rfl, ?_, WS.trans hc1 (WS.trans (WS.no hc16) hc7)⟩
  rw [st, eW, <- append_assoc]
  exact h7
 ·have e : k = ats.length:=by omega
  rw [e, take_length] at h1
  exact K w1 h1 hc1
theorem KidsW_ok {w0 : World} {P : List ByteArray} {kp : Option Addr} {kl : Nat} {ks : List NV} {J : World -> Prop} (hb : w0.heap.size <= b) (h : Wr w b l pp pl pc) (hc : Chg No w0 w) (hk0 : Sl w0 kp kl 6 (rows NV.cells ks)) (hkl : kl <= 10000000)
  (hl : l.length + (ZyL P (ks.map NV.nd)).length <= 140737488355328)
  (kid : ∀ x ∈ ks, ∀ (w1 : World) (L : List UInt8) (J' : World -> Prop), Wr w1 b L pp pl pc -> Chg No w0 w1 -> L.length + (Zy3 P false x.nd).length <= 140737488355328 -> (∀ w', Wr w' b (L ++ Zy3 P false x.nd) pp pl pc -> Chg (WS b w1) w1 w' -> J' w') ->
   Zz0 Tryz.prog Zy8 #[.pointer (some ⟨b, 0, none⟩), .agg ⟨x.cells⟩, .bool false] w1 [] J')
  (K : ∀ w', Wr w' b (l ++ ZyL P (ks.map NV.nd)) pp pl pc -> Chg (WS b w) w w' -> J w') :
  ∃ I_64 : Int -> World -> Nat -> Prop, (∃ m : Nat, I_64 (0 : Int) w m) /\ ∀ (x64 : Int) (w20 : World) (m_2 : Nat), I_64 x64 w20 m_2 -> (
   Zz1 (decide (x64 < ((kl : Nat) : Int))) (
   ZzS kp kl x64 fun a66 =>
   ldI .i64 w20 ((a66.add (x64.toNat * 6))) fun x67_0 =>
   ldStr w20 (((a66.add (x64.toNat * 6)).add 1)) fun x67_1 =>
   ldStr w20 (((a66.add (x64.toNat * 6)).add 2)) fun x67_2 =>
   ldS w20 (((a66.add (x64.toNat * 6)).add 3)) fun x67_3p x67_3l x67_3c =>
   ldS w20 (((a66.add (x64.toNat * 6)).add 4)) fun x67_4p x67_4l x67_4c =>
   ldStr w20 (((a66.add (x64.toNat * 6)).add 5)) fun x67_5 =>
   newB w20 (.cells (Zy2 Tryz.prog Zz5) Zz5) fun b12 w21 =>
   stN w21 ⟨b12, 0, none⟩ ⟨[.int .i64 x67_0, .string x67_1, .string x67_2, .slice x67_3p x67_3l x67_3c, .slice x67_4p x67_4l x67_4c, .string x67_5]⟩ 6 fun w22 =>
   ldI .i64 w22 ⟨b12, 0, none⟩ fun x69_0 =>
   ldStr w22 ⟨b12, 1, none⟩ fun x69_1 =>
   ldStr w22 ⟨b12, 2, none⟩ fun x69_2 =>
   ldS w22 ⟨b12, 3, none⟩ fun x69_3p x69_3l x69_3c =>
   ldS w22 ⟨b12, 4, none⟩ fun x69_4p x69_4l x69_4c =>
   ldStr w22 ⟨b12, 5, none⟩ fun x69_5 =>
   Zz0 Tryz.prog Zy8 #[.pointer (some ⟨b, 0, none⟩), .agg ⟨[.int .i64 x69_0, .string x69_1, .string x69_2, .slice x69_3p x69_3l x69_3c, .slice x69_4p x69_4l x69_4c, .string x69_5]⟩, .bool false] w22 [] fun (w23 : World) =>
   ∃ m' : Nat, m' < m_2 /\ I_64 (w64 (x64 + (1 : Int))) w23 m') (J w20)):=by
 have hKl : ks.length = kl:=hk0.row (fun x _ => cells6 x) (by decide)
 rw [YcW]
 refine ⟨fun x w1 n => ∃ k, x = (k : Nat) /\ k <= kl /\ n = kl - k /\ Wr w1 b (l ++ ZyL P ((ks.map NV.nd).take k)) pp pl pc /\ Chg (WS b w) w w1, ⟨_, 0, rfl, by omega, rfl, by simpa [ZyL] using h, Chg.refl _ _⟩, ?_⟩
 rintro x w1 n ⟨k, rfl, hk, rfl, h1, hc1⟩
 have hc01:=WS.from0 hc hb hc1
 refine Zz4 (fun hlt => ?_) (fun hge => ?_)
 ·refine ZzT (hk0.chg hc01 (off_no _)) (fun x _ => cells6 x) (by decide) (by omega) (by omega) fun a x hpa hx hcl => ?_
  have hx' : ks[k]? = some x:=by rw [<- hx]; congr 1
  have hxm:=mem_of_getElem? hx'
  have hxn : (ks.map NV.nd)[k]? = some x.nd:=by simp [hx']
  have st:=nodesW_step (P:=P) hxn
  have hle : (ZyL P ((ks.map NV.nd).take (k + 1))).length <= (ZyL P (ks.map NV.nd)).length:=by
   conv => rhs; rw [<- take_append_drop (k + 1) (ks.map NV.nd), Ydk, length_append]
   omega
  rw [st, length_append] at hle
  have kx:=kid x hxm
  obtain ⟨vk, vu, vl, vt, vap, val, vac, vats, vkp, vkl, vkc, vks⟩:=x
  have hcl' : ZzV w1 (a.add ((k : Int).toNat * 6)) [.int .i64 vk, .string vu, .string vl, .slice vap val vac, .slice vkp vkl vkc, .string vt]:=hcl
  refine ⟨_, ZzG hcl', _, hcl' 1 _ rfl, _, hcl' 2 _ rfl, _, _, _, hcl' 3 _ rfl, _, _, _, hcl' 4 _ rfl, _, hcl' 5 _ rfl, ?_⟩
  refine (Hp.start w1 No).newB fun b12 w2 H2 hb12 hc2 => ?_
  refine H2.stN 0 rfl (off:=0) rfl (by simp) (Zqe (.mk vk vu vl vt vap val vac vats vkp vkl vkc vks)) fun w3 H3 hc3 => ?_
  simp only [set_cons_zero] at H3
  rw [ZyK (by simp)] at H3
  refine YcC H3 0 rfl ?_
  refine kx w3 (l ++ ZyL P ((ks.map NV.nd).take k)) _ (h1.chg0 H3.chg) (hc01.trans0 H3.chg) (by rw [length_append]; omega) fun w4 h4 hc4 => ?_
  refine ⟨_, by omega, k + 1, by rw [Zzb] <;> omega, by omega, rfl, ?_, WS.trans hc1 (WS.trans (WS.no H3.chg) hc4)⟩
  rw [st, <- append_assoc]
  exact h4
 ·have e : k = (ks.map NV.nd).length:=by rw [length_map]; omega
  rw [e, take_length] at h1
  exact K w1 h1 hc1
def Nmd (P : List ByteArray) (v : NV) : Prop := ∀ s ∈ v.nd.spc, s = Zys \/ s ∈ P
theorem neB_or {P : List ByteArray} {u : ByteArray} (h : ∀ s ∈ neB u, s = Zys \/ s ∈ P) : u = kE \/ u = Zys \/ u ∈ P:=by
 by_cases e : u = kE
 ·exact .inl e
 ·exact .inr (h u (by have e2 : ¬ u = ZzN:=e; simp [neB, e2]))
end
end Go.Proofs.YtglnmjflpkeclaaGreatDoor
end
section
namespace Go.Proofs.YtglnmjflpkeclaaGreatDoor
open Go Go.Vc Go.Lib Go.Shelf
section
variable {w w' : World} {b : Nat} {l : List UInt8} {pp : Option Addr} {pl pc : Nat}
theorem spcL_kid {x : NV} : ∀ {ks : List NV}, x ∈ ks -> ∀ s ∈ x.nd.spc, s ∈ Nd.spcL (NV.ndL ks)
 | [], h, _, _ => by simp at h
 | y :: r, h, s, hs => by
  simp only [NV.ndL, Nd.spcL, mem_append]
  rcases mem_cons.1 h with rfl | h
  ·exact .inl hs
  ·exact .inr (spcL_kid h s hs)
theorem at_mea {a : At} {ats : List At} (h : a ∈ ats) : ZxI a <= (ats.map ZxI).sum:=Yhx ZxI h
theorem ats_len : ∀ ats : List At, ats.length <= (ats.map ZxI).sum
 | [] => by simp
 | a :: r => by
  have h1:=ats_len r
  have h2 : ZxI a = 1 + a.1.size + a.2.1.size + a.2.2.size:=rfl
  simp only [map_cons, sum_cons, length_cons]
  omega
theorem ks_len : ∀ ks : List NV, ks.length <= NV.meaL ks
 | [] => by simp
 | a :: r => by
  have h1:=ks_len r
  have h2:=mea_pos a
  simp only [NV.meaL, length_cons]
  omega
theorem NodeA_ok {w0 : World} {P : List ByteArray} (E : Env w0 b P pp pl pc) : ∀ (v : NV), v.Ok w0 -> v.mea <= 10000000 -> Nmd P v -> ∀ (top : Bool) (w1 : World) (L : List UInt8) (J : World -> Prop), Wr w1 b L pp pl pc -> Chg No w0 w1 -> L.length + (Zy3 P top v.nd).length <= 140737488355328 ->
  (∀ w', Wr w' b (L ++ Zy3 P top v.nd) pp pl pc -> Chg (WS b w1) w1 w' -> J w') ->
  Zz0 Tryz.prog Zy8 #[.pointer (some ⟨b, 0, none⟩), .agg ⟨v.cells⟩, .bool top] w1 [] J:=by
 intro v
 induction v using NV.ind with
 | h k u lo t ap al ac ats kp kl kc ks ih =>
 intro hok hmea hnm top w1 L J h hc0 hl K
 obtain ⟨ha, hn, hac, hk, hkn, hkc, hks⟩:=hok
 have hm2:=hmea
 simp only [NV.mea] at hm2
 rw [NV.nd] at hl K
 have hAl : ats.length = al:=ha.row (YaK _) (by decide)
 have hKl : ks.length = kl:=hk.row (fun x _ => cells6 x) (by decide)
 refine NodeK_ok h (by omega) hl (fun hk2 w2 h2 hc2 J' K' => ?_) K
 subst hk2
 refine YcT ?_
 refine (Hp.start w2 No).newB fun b4 w3 H3 hb4 hc3 => ?_
 have hnmU : u = kE \/ u = Zys \/ u ∈ P:=neB_or fun s hs => hnm s (by simp only [NV.nd, Nd.spc, mem_append]; exact .inl (.inl hs))
 have hnmA : ∀ a ∈ ats, (a.1 = kE \/ a.1 = Zys \/ a.1 ∈ P) /\ a.2.1.size <= 10000000 /\ a.2.2.size <= 10000000:=fun a hm => by
  have h1:=at_mea hm
  have h2 : ZxI a = 1 + a.1.size + a.2.1.size + a.2.2.size:=rfl
  refine ⟨neB_or fun s hs => hnm s ?_, ?_, ?_⟩
  ·simp only [NV.nd, Nd.spc, mem_append]
   exact .inl (.inr (mem_flatMap.2 ⟨a, hm, hs⟩))
  ·omega
  ·omega
 have hkidN : ∀ x ∈ ks, Nmd P x:=fun x hx s hs => hnm s (by simp only [NV.nd, Nd.spc, mem_append]; exact .inr (spcL_kid hx s hs))
 refine H3.ldStr 0 rfl rfl ?_
 refine H3.ldStr 0 rfl rfl ?_
 have hc03:=(hc0.trans0 hc2).trans0 hc3
 refine QName_ok (E.tab.chg0 hc03) (h2.chg0 hc3) (E.row.chg hc03 (off_no _)) E.asc (by have:=E.hm; omega) hnmU (by omega) fun w5 hc5 => ?_
 have H5:=H3.step0 hc5
 have hc05:=hc03.trans0 hc5
 have eW : Zy3 P top (.mk 2 u lo t ats (NV.ndL ks)) = [(⟨#[60]⟩ : ByteArray), mkB (ZzW P (u, lo))].flatMap bl ++ (if top = true then Zxq 0 P else []) ++ Zqi P ats ++ [(⟨#[62]⟩ : ByteArray)].flatMap bl ++ ZyL P (ks.map NV.nd) ++ [(⟨#[60, 47]⟩ : ByteArray), mkB (ZzW P (u, lo)), ⟨#[62]⟩].flatMap bl:=by
  rw [Zy3, if_neg (by decide), if_neg (by decide), if_neg (by decide), if_pos rfl, Yf7]
  simp [flatMap, ZzH, bl]
 rw [eW] at hl K'
 simp only [length_append] at hl
 refine YcV (X:=[⟨#[60]⟩, mkB (ZzW P (u, lo))]) (h2.chg0 (hc3.trans0 hc5)) rfl (by decide) (by omega) fun w6 h6 hc6 => ?_
 have hc06:=WS.from0 hc05 E.hb hc6
 have hbox:=H5.get 0 rfl
 have hbox6:=hc6.heap hbox (WS.box (h2.chg0 (hc3.trans0 hc5)) hbox (by decide) (by decide))
 refine ⟨_, _, _, by simpa [Addr.add_mk] using h6.c2, ?_⟩
 refine Decls_ok E h6 hc06 (by simp only [length_append]; omega) fun w7 h7 hc7 => ?_
 have hc07:=WS.from0 hc06 E.hb hc7
 have hbox7:=hc7.heap hbox6 (WS.box h6 hbox6 (by decide) (by decide))
 refine ⟨ap, al, ac, by rw [Lib.cell_of_heap hbox7]; rfl, ?_⟩
 have hAs:=(YaK ats)
 refine AttrsW_ok E h7 hc07 ha (by have:=ats_len ats; omega) hnmA (by simp only [length_append]; omega) fun w8 h8 hc8 => ?_
 have hc08:=WS.from0 hc07 E.hb hc8
 have hbox8:=hc8.heap hbox7 (WS.box h7 hbox7 (by decide) (by decide))
 refine YcV (X:=[⟨#[62]⟩]) h8 rfl (by decide) (by simp only [length_append]; omega) fun w9 h9 hc9 => ?_
 have hc09:=WS.from0 hc08 E.hb hc9
 have hbox9:=hc9.heap hbox8 (WS.box h8 hbox8 (by decide) (by decide))
 refine ⟨kp, kl, kc, by rw [Lib.cell_of_heap hbox9]; rfl, ?_⟩
 refine KidsW_ok E.hb h9 hc09 hk (by have:=ks_len ks; omega) (by simp only [length_append]; omega) (fun x hx w' L' J2 hw hc' hl' k2 => ih x hx (hks x hx) (by have:=Yf8 hx; omega) (hkidN x hx) false w' L' J2 hw hc' hl' k2) fun w10 h10 hc10 => ?_
 refine YcV (X:=[⟨#[60, 47]⟩, mkB (ZzW P (u, lo)), ⟨#[62]⟩]) h10 rfl (by decide) (by simp only [length_append]; omega) fun w11 h11 hc11 => ?_
 refine K' w11 ?_ (WS.trans (WS.trans (WS.trans (WS.trans (WS.trans (WS.trans (WS.no (hc3.trans0 hc5)) hc6) hc7) hc8) hc9) hc10) hc11)
 simpa only [append_assoc] using h11
end
end Go.Proofs.YtglnmjflpkeclaaGreatDoor
end
section
namespace Go.Vc
open Go
theorem Row.stS {w : World} {e : TypeId} {p : Option Addr} {l c : Nat} {xs : List ByteArray} (hr : Row w e 1 p l c (strs xs)) {i : Int} (h0 : 0 <= i) (h1 : i < l) {v : ByteArray} {K : World -> Prop}
  (k : ∀ w', Row w' e 1 p l c (strs (xs.set i.toNat v)) -> Chg (isB p) w w' -> K w') : ZzS p l i fun a => stV w (a.add (i.toNat * 1)) (.string v) K:=by
 obtain ⟨b, rest, rfl, hh, hle, hmax, hlen⟩:=hr.some0 (by omega)
 have hl:=hr.len
 rw [ZzK, Nat.mul_one] at hl
 refine Ygv h0 h1 ?_
 rw [Addr.add_mk, Nat.zero_add, Nat.mul_one]
 have H:=(Hp.start w (isB (some ⟨b, 0, none⟩))).add hh (by simp) (fun _ => ⟨_, rfl, rfl⟩)
 refine H.stV 0 rfl (off:=i.toNat) (by rw [length_append, ZzK]; omega) fun w' H' hc => ?_
 have e : (strs xs ++ rest).set i.toNat (Value.string v) = strs (xs.set i.toNat v) ++ rest:=by
  rw [set_append_left _ _ (by rw [ZzK]; omega)]
  unfold strs
  rw [<- map_set]
 simp only [set_cons_zero] at H'
 rw [e] at H'
 exact k w' (H'.asRow 0 rfl rfl (by rw [ZzK, length_set]; omega) hle hmax (by rw [<- hlen]; simp [strs])) H'.chg
end Go.Vc
namespace Go.Proofs.YtglnmjflpkeclaaGreatDoor
open Go Go.Vc Go.Lib Go.Shelf
section
variable {w w' : World} {p : Option Addr} {l c : Nat} {X : List ByteArray}
theorem IsXml_ok {s : ByteArray} {J : Bool -> World -> Prop} (K : J (decide (s = Zys)) w) : Zz0 Tryz.prog Zqb #[.string s] w [.one .bool] J:=by
 refine YfQ ?_
 rw [Ycl]
 exact K
theorem IndexX_ok {J : Int -> World -> Prop} (h : Sl w p l 1 (strs X)) (hm : l <= 1000000000) (K0 : Zys ∉ X -> J (-1) w) (K1 : ∀ k : Nat, X[k]? = some Zys -> (∀ j, j < k -> X[j]? ≠ some Zys) -> J (k : Int) w) :
    Zz0 Tryz.prog Zy9 #[.slice p l c, .func (.func 48) #[] #[]] w [.one (.int .i64)] J:=by
  refine Zqq ?_
  have hXl : X.length = l:=by have:=h.len; rw [ZzK] at this; omega
  refine ⟨fun x w1 n => ∃ k, x = (k : Nat) /\ k <= l /\ n = l - k /\ w1 = w /\ ∀ j, j < k -> X[j]? ≠ some Zys, ⟨_, 0, rfl, by omega, rfl, rfl, fun j hj => by omega⟩, ?_⟩
  rintro x w1 n ⟨k, rfl, hk, rfl, rfl, hno⟩
  refine Zz4 (fun hlt => ?_) (fun hge => ?_)
  · refine Yhb h (by omega) (by omega) fun s hs => ?_
    have hs' : X[k]? = some s:=by simpa using hs
    refine IsXml_ok ?_
    refine Zz4 (fun e => ?_) (fun e => ?_)
    · subst e
      exact K1 k hs' hno
    · refine ⟨_, by omega, k + 1, by rw [Zzb] <;> omega, by omega, rfl, rfl, fun j hj => ?_⟩
      rcases Nat.lt_or_eq_of_le (Nat.le_of_lt_succ hj) with h1 | h1
      · exact hno j h1
      · rw [h1, hs']
        exact fun h2 => e (Option.some.inj h2)
  · refine K0 fun hm => ?_
    obtain ⟨j, hj⟩:=List.mem_iff_getElem?.1 hm
    have:=(List.getElem?_eq_some_iff.1 hj).1
    exact hno j (by omega) hj
theorem DelX_ok {J : Option Addr -> Nat -> Nat -> World -> Prop} (h : Row w Zz8 1 p l c (strs X)) (hs : SAsc X) (hm : l <= 1000000000)
    (K : ∀ (P : List ByteArray) w', SAsc P -> (∀ s, s ∈ P ↔ s ∈ X /\ s ≠ Zys) -> Row w' Zz8 1 p P.length c (strs P) -> P.length <= l -> Chg (isB p) w w' -> J p P.length c w') :
    Zz0 Tryz.prog Zy7 #[.slice p l c, .func (.func 48) #[] #[]] w [.one .slice] J:=by
  refine Zqh ?_
  have hXl : X.length = l:=by have:=h.len; rw [ZzK] at this; omega
  have hp:=List.pairwise_iff_getElem.1 hs
  refine IndexX_ok h.sl hm (fun hno => ?_) (fun k hk hbef => ?_)
  · refine Zzd (fun _ => ?_) (fun e => absurd rfl e)
    rw [<- hXl]
    refine K X w hs (fun s => ⟨fun hm => ⟨hm, fun e => hno (e ▸ hm)⟩, fun hm => hm.1⟩) (by rw [hXl]; exact h) (by omega) (Chg.refl _ _)
  refine Zzd (fun e => by omega) (fun _ => ?_)
  obtain ⟨hkl, hke⟩:=List.getElem?_eq_some_iff.1 hk
  have hne : ∀ j (hj : j < X.length), j ≠ k -> X[j] ≠ Zys:=by
    intro j hj hjk e
    rcases Nat.lt_or_ge j k with h1 | h1
    · have:=hp j k hj hkl h1
      rw [e, hke, Ybj] at this
      cases this
    · have:=hp k j hkl hj (by omega)
      rw [e, hke, Ybj] at this
      cases this
  obtain ⟨Z, hZ⟩ : ∃ Z, Z = X.eraseIdx k:=⟨_, rfl⟩
  have hZl : Z.length = l - 1:=by rw [hZ, List.length_eraseIdx, if_pos hkl, hXl]
  have hZg : ∀ t, Z[t]? = if t < k then X[t]? else X[t + 1]? := fun t => by rw [hZ, List.getElem?_eraseIdx]
  refine ⟨fun i j w1 n => ∃ q Y, i = ((q : Nat) : Int) /\ j = ((q + 1 : Nat) : Int) /\ k <= q /\ q + 1 <= l /\ n = l - q /\ Row w1 Zz8 1 p l c (strs Y) /\ Y.length = l /\ (∀ t, t < q -> Y[t]? = Z[t]?) /\ (∀ t, q <= t -> Y[t]? = X[t]?) /\ Chg (isB p) w w1,
    ⟨_, k, X, rfl, by rw [Zzb] <;> omega, Nat.le_refl _, by omega, rfl, h, hXl, fun t ht => by rw [hZg, if_pos ht], fun _ _ => rfl, Chg.refl _ _⟩, ?_⟩
  rintro i j w1 n ⟨q, Y, rfl, rfl, hkq, hql, rfl, hr, hYl, hY1, hY2, hc1⟩
  refine Zz4 (fun hlt => ?_) (fun hge => ?_)
  · refine Zz7 fun J5 hJ5 => ?_
    refine Yhb hr.sl (by omega) (by omega) fun s hs1 => ?_
    have hs' : X[q + 1]? = some s:=by rw [<- hY2 (q + 1) (by omega), <- hs1]; congr 1
    obtain ⟨hql2, hqe⟩:=List.getElem?_eq_some_iff.1 hs'
    refine IsXml_ok ?_
    have hsx : s ≠ Zys:=by rw [<- hqe]; exact hne (q + 1) hql2 (by omega)
    rw [decide_eq_false hsx]
    refine Zz9 (fun _ => ?_) (fun e => absurd e (by decide))
    refine Row.stS hr (by omega) (by omega) fun w2 hr2 hc2 => ?_
    rw [hJ5]
    refine ⟨_, by omega, q + 1, Y.set q s, by rw [Zzb] <;> omega, by rw [Zzb] <;> omega, by omega, by omega, rfl, by simpa using hr2, by rw [List.length_set, hYl], fun t ht => ?_, fun t ht => ?_, hc1.trans hc2 fun _ _ h => h⟩
    · rw [List.getElem?_set]
      by_cases htq : q = t
      · subst htq
        rw [if_pos rfl, if_pos (by omega), hZg, if_neg (by omega), hs']
      · rw [if_neg htq]
        exact hY1 t (by omega)
    · rw [List.getElem?_set, if_neg (by omega)]
      exact hY2 t (by omega)
  · have hq : q = l - 1:=by omega
    have hYZ : Y = Z ++ Y.drop q:=by
      conv => lhs; rw [<- List.take_append_drop q Y]
      congr 1
      apply List.ext_getElem?
      intro t
      rw [List.getElem?_take]
      split
      · next ht => exact hY1 t ht
      · next ht => rw [List.getElem?_eq_none (by omega)]
    have hr' : Row w1 Zz8 1 p l c (strs Z ++ strs (Y.drop q)):=by
      have e : strs Y = strs Z ++ strs (Y.drop q):=(congrArg strs hYZ).trans (by unfold strs; rw [List.map_append])
      rw [<- e]; exact hr
    obtain ⟨pb, hpb⟩:=hr.at0 (by omega)
    refine clr_row YcX (by intro v hv; simp at hv; subst hv; rfl) hr' (by rw [ZzK]; omega) (by omega) fun w2 hr2 hc2 => ?_
    refine slS_pre ⟨pb, hpb⟩ (by have:=hr.le; omega) (by have:=hr.le; omega) ?_
    have hql' : q = Z.length:=by omega
    rw [hql'] at hr2 ⊢
    refine K Z w2 (hZ ▸ List.Pairwise.sublist (List.eraseIdx_sublist _ _) hs) (fun s => ⟨fun hz => ?_, fun ⟨hx, hn⟩ => ?_⟩) hr2 (by omega) (hc1.trans hc2 fun _ _ h => h)
    · obtain ⟨t, ht⟩:=List.mem_iff_getElem?.1 hz
      rw [hZg] at ht
      split at ht
      · next h1 =>
        obtain ⟨h2, h3⟩:=List.getElem?_eq_some_iff.1 ht
        exact ⟨h3 ▸ List.getElem_mem h2, h3 ▸ hne t h2 (by omega)⟩
      · next h1 =>
        obtain ⟨h2, h3⟩:=List.getElem?_eq_some_iff.1 ht
        exact ⟨h3 ▸ List.getElem_mem h2, h3 ▸ hne (t + 1) h2 (by omega)⟩
    · obtain ⟨t, ht⟩:=List.mem_iff_getElem?.1 hx
      rcases Nat.lt_trichotomy t k with h1 | h1 | h1
      · exact List.mem_iff_getElem?.2 ⟨t, by rw [hZg, if_pos h1]; exact ht⟩
      · subst h1
        rw [hk] at ht
        exact absurd (Option.some.inj ht).symm hn
      · exact List.mem_iff_getElem?.2 ⟨t - 1, by rw [hZg, if_neg (by omega), show t - 1 + 1 = t by omega]; exact ht⟩
theorem Prefixes_ok {x : NV} {J : Option Addr -> Nat -> Nat -> World -> Prop} (hx : x.Ok w) (hm : x.mea <= 10000000)
  (K : ∀ (P : List ByteArray) p c w', SAsc P -> (∀ s, s ∈ P ↔ s ∈ x.nd.spc /\ s ≠ Zys) -> Row w' Zz8 1 p P.length c (strs P) -> P.length <= 10000000 -> fresh w p -> Chg No w w' -> J p P.length c w') :
  Zz0 Tryz.prog Yb1 #[.agg ⟨x.cells⟩] w [.one .slice] J:=by
 cases x with
 | mk k u lo t ap al ac ats kp kl kc ks =>
 refine YgN ?_
 refine (Hp.start w No).newB fun b w1 H1 hb hc1 => ?_
 refine YcC H1 0 rfl ?_
 refine Spaces_row (x := .mk k u lo t ap al ac ats kp kl kc ks) (hx.chg0 hc1) hm fun Y p c w2 hasc hmem hr hle hf hc2 => ?_
 refine DelX_ok hr hasc (by omega) fun P w3 hasc3 hmem3 hr3 hle3 hc3 => ?_
 have s1:=hc1.size
 refine K P p c w3 hasc3 (fun s => (hmem3 s).trans (and_congr_left' (hmem s))) hr3 (by omega) (fun a ha => by have:=hf a ha; omega) ((hc1.trans0 hc2).trans hc3 fun z hz ⟨a, ha, e⟩ => by have:=hf a ha; omega)
end
end Go.Proofs.YtglnmjflpkeclaaGreatDoor
end
section
namespace Go.Vc
open Go Go.Lib
theorem chg_freeze (w : World) (g n : Nat) : Chg (fun x => x = g) w (w.freeze ⟨g, 0, none⟩ n):=by
 unfold World.freeze
 split
 ·exact Chg.refl _ _
 ·refine ⟨rfl, rfl, rfl, by simp, fun k hk hne => ?_⟩
  simp only [Array.getElem?_modify]
  rw [if_neg (fun e => hne e.symm)]
end Go.Vc
namespace Go.Proofs
open Go.Shelf Go.RowKit Go.Vc
section
variable {P : Program} {ρ : Ren}
set_option maxHeartbeats 2000000 in
set_option maxRecDepth 100000 in
theorem bstr (L : Lays.n169 P ρ) (h5 : P.cellsOf (ρ.t 5) = 1) (b g cap : Nat) (l : List UInt8) (rest : List Value) (w : World) (c1 : w.cell? ⟨b, 1, none⟩ = some (.slice (some ⟨g, 0, none⟩) l.length cap)) (hg : w.heap[g]? = some (.cells ⟨Lib.byteCells l ++ rest⟩ (ρ.t 5) (0, 0))) (h0 : l ≠ []) (hlc : l.length <= cap) (hcm : cap <= maxLen) :
    Calls P (ρ.f 169) #[.pointer (some ⟨b, 0, none⟩)] w fun e w' => e = .returned (.string ⟨l.toArray⟩) /\ Chg (fun x => x = g) w w':=by
  have hl0 : l.length ≠ 0:=by simpa using h0
  have c1 : w.drew.cell? ⟨b, 1, none⟩ = some (.slice (some ⟨g, 0, none⟩) l.length cap):=c1
  have hSD : (Builtin.unsafeSliceData_ #[(ρ.t 37)] (ρ.t 127) #[.slice (some ⟨g, 0, none⟩) l.length cap]).run P w.drew = .ok (.pointer (some ⟨g, 0, none⟩)) w.drew :=
    Lib.run_unsafeSliceData_row _ _ _ _ _ _ (by omega)
  have hUS : (Builtin.unsafeString_ #[(ρ.t 127), (ρ.t 3)] (ρ.t 9) #[.pointer (some ⟨g, 0, none⟩), .int .i64 l.length]).run P w.drew = .ok (.string ⟨l.toArray⟩) (w.drew.freeze ⟨g, 0, none⟩ l.length):=by
    refine Lib.run_unsafeString_row w.drew (ρ.t 127) (ρ.t 3) (ρ.t 9) (ρ.t 5) L.t127 h5 g (Lib.byteCells l ++ rest).length (by have hg' : w.drew.heap[g]? = some (.cells ⟨Lib.byteCells l ++ rest⟩ (ρ.t 5) (0, 0)):=hg; simp [World.shape?, hg']) l h0 (by rw [List.length_append, Lib.byteCells_length]; omega) (by unfold maxLen at hcm; omega) ?_
    intro j x hx
    have hg' : w.drew.heap[g]? = some (.cells ⟨Lib.byteCells l ++ rest⟩ (ρ.t 5) (0, 0)):=hg
    have hj : j < l.length:=(List.getElem?_eq_some_iff.1 hx).1
    rw [Addr.add_mk, Nat.zero_add, Lib.cell_of_heap hg']
    have : (Lib.byteCells l ++ rest)[j]? = some (.int .u8 x.toNat):=by
      rw [List.getElem?_append_left (by rw [Lib.byteCells_length]; exact hj)]
      simp [Lib.byteCells, hx]
    simpa using this
  have mixed:=L.mixed
  have t72:=L.t72; have a72:=L.a72; have z72:=L.z72; have v72:=L.v72; have u72:=run_underlying L.t72
  have t70:=L.t70; have a70:=L.a70; have z70:=L.z70; have v70:=L.v70; have u70:=run_underlying L.t70
  have t37:=L.t37; have a37:=L.a37; have z37:=L.z37; have v37:=L.v37; have u37:=run_underlying L.t37
  have t127:=L.t127; have a127:=L.a127; have z127:=L.z127; have v127:=L.v127; have u127:=run_underlying L.t127
  have t3:=L.t3; have a3:=L.a3; have z3:=L.z3; have v3:=L.v3; have u3:=run_underlying L.t3
  have t9:=L.t9; have a9:=L.a9; have z9:=L.z9; have v9:=L.v9; have u9:=run_underlying L.t9
  have hfr : Chg (fun x => x = g) w (w.drew.freeze ⟨g, 0, none⟩ l.length):=(Chg.refl (fun x => x = g) w).drew.trans (chg_freeze w.drew g l.length) fun _ _ h => h
  go_enter L.f169, Body.n169_ntmps ρ
  go_wp2
  go_region_o
  all_goals (go_wp2; go_ret; exact ⟨rfl, hfr⟩)
end
end Go.Proofs
end
section
namespace Go.Vc
open Go Go.Lib
theorem Yec (P : List ByteArray) : ∀ X Y : List Nd, Zq7 P (X ++ Y) = Zq7 P X ++ Zq7 P Y
 | [], Y => by simp [Zq7]
 | a :: X, Y => by rw [cons_append, Zq7, Zq7, Yec P X Y]; simp
theorem topsW_step {P : List ByteArray} {X : List Nd} {k : Nat} {a : Nd} (h : X[k]? = some a) : Zq7 P (X.take (k + 1)) = Zq7 P (X.take k) ++ Zy3 P true a ++ [10]:=by
 rw [take_add_one, h, Yec]
 simp [Zq7]
theorem tops_ne {P : List ByteArray} {d : Nd} (h : Right d) : Zq7 P d.kids ≠ []:=by
 have:=h.roots
 unfold Yhj at this
 cases hk : d.kids with
 | nil => rw [hk] at this; simp at this
 | cons x r => simp [Zq7]
end Go.Vc
namespace Go.Proofs.YtglnmjflpkeclaaGreatDoor
open Go Go.Vc Go.Lib Go.Shelf
section
variable {w w' : World} {b : Nat} {l : List UInt8} {pp : Option Addr} {pl pc : Nat}
theorem BStr_ok {J : ByteArray -> World -> Prop} (h : Wr w b l pp pl pc) (h0 : l ≠ []) (K : ∀ w', Chg (WS b w) w w' -> J (mkB l) w') : Zz0 Tryz.prog Ya6 #[.pointer (some ⟨b, 0, none⟩)] w [.one .str] J:=by
 obtain ⟨u, q, c, hh, hu, hr, hq⟩:=h
 have hlen:=length_pos_iff.2 h0
 rcases hr.2 with ⟨rfl, e, _⟩ | ⟨g, rest, rfl, hg, hlc, hcm, _⟩
 ·omega
 refine Calls.mono (bstr Tryz.lays169 (by kernel_rfl) b g c l rest w (by rw [Lib.cell_of_heap hh]; rfl) hg h0 hlc hcm) fun e w' he => ?_
 obtain ⟨rfl, hc⟩:=he
 refine ⟨_, rfl, K w' (hc.mono fun x _ e => ?_)⟩
 subst e
 have hgt:=hr.typ _ rfl
 have:=hq _ rfl
 exact .inr ⟨this, hgt⟩
theorem cvBf {s : ByteArray} {K : Option Addr -> Nat -> Nat -> World -> Prop} (k : ∀ b c w', Bytes w' (some ⟨b, 0, none⟩) s.size (bl s) -> s.size <= c -> w.heap.size <= b -> Chg No w w' -> K (some ⟨b, 0, none⟩) s.size c w') :
    cvJ Tryz.prog Zz8 Zzj (.string s) w K:=by
  refine ⟨_, _, _, _, Lib.run_convert_string_bytes (P:=Tryz.prog) w Zz8 Zzj Zzs s (u := .string) (by kernel_rfl) (by kernel_rfl) (by kernel_rfl), k _ _ _ ⟨by rw [Zyc, Zzn, Nat.mul_one], .inr ⟨_, rfl, ?_⟩⟩ (grownCap_ge _ _ _ _) (Nat.le_refl _) ?_⟩
  · intro j v hv
    unfold bcells at hv
    rw [List.getElem?_map, Option.map_eq_some_iff] at hv
    obtain ⟨b, hb, rfl⟩:=hv
    have hj : j < s.size:=by rw [<- Zzn]; exact (List.getElem?_eq_some_iff.1 hb).1
    have:=Lib.bytesWorld_cell w Zzs s j hj
    rw [Addr.add_mk, Nat.zero_add, this, List.getD_eq_getElem?_getD, hb]; rfl
  · exact ⟨rfl, rfl, rfl, by rw [Lib.bytesWorld_size]; omega, fun b hb _ => Lib.bytesWorld_at_old w Zzs s b hb⟩
theorem Wr.start {w0 : World} (hb : w.heap[b]? = some (.cells ⟨[.pointer none, .slice none 0 0, .slice pp pl pc]⟩ Zyk (0, 0))) : Wr w b [] pp pl pc :=
 ⟨none, none, 0, hb, .inl rfl, ⟨rfl, .inl ⟨rfl, rfl, rfl⟩⟩, fun a e => by cases e⟩
theorem Write_ok {x : NV} {J : Option Addr -> Nat -> Nat -> Int -> World -> Prop} (T : TT w) (T10 : P10 w) (hx : x.Ok w) (hm : x.mea <= 10000000)
  (K0 : ∀ w', YgA x.nd ≠ 0 -> Chg No w w' -> J none 0 0 (YgA x.nd) w')
  (K1 : ∀ (P : List ByteArray) w', Right x.nd -> SAsc P -> (∀ s, s ∈ P ↔ s ∈ x.nd.spc /\ s ≠ Zys) -> P.length <= 10000000 -> 65536 < (Zq7 P x.nd.kids).length -> Chg No w w' -> J none 0 0 6 w')
  (K2 : ∀ (P : List ByteArray) b c w', Right x.nd -> SAsc P -> (∀ s, s ∈ P ↔ s ∈ x.nd.spc /\ s ≠ Zys) -> P.length <= 10000000 -> (Zq7 P x.nd.kids).length <= 65536 -> Bytes w' (some ⟨b, 0, none⟩) (Zq7 P x.nd.kids).length (Zq7 P x.nd.kids) -> (Zq7 P x.nd.kids).length <= c -> w.heap.size <= b -> Chg No w w' ->
   J (some ⟨b, 0, none⟩) (Zq7 P x.nd.kids).length c 0 w') :
  Zz0 Tryz.prog Zql #[.agg ⟨x.cells⟩] w [.one .slice, .one (.int .i64)] J:=by
 have hx0:=hx
 have hm0:=hm
 obtain ⟨k, u, lo, t, ap, al, ac, ats, kp, kl, kc, ks⟩:=x
 refine c_canon_Write ?_
 refine (Hp.start w No).newB fun b1 w1 H1 hb1 hc1 => ?_
 refine YcC H1 0 rfl ?_
 refine Check_ok (x := .mk k u lo t ap al ac ats kp kl kc ks) (T.chg hc1) (hx.chg0 hc1) hm fun w2 hc2 => ?_
 have H2:=H1.step0 hc2
 refine Zzi (fun hne => ?_) (fun he => ?_)
 ·exact K0 w2 hne H2.chg
 have hR:=YhS.1 he
 refine YcC H2 0 rfl ?_
 refine Prefixes_ok (x := .mk k u lo t ap al ac ats kp kl kc ks) (hx.chg0 H2.chg) hm fun P pp pc w3 hasc hmem hrow hple hf hc3 => ?_
 obtain ⟨hP2, hsp⟩:=right_pfx hR hmem hple
 have H3:=H2.step0 hc3
 have hP100 : ∀ v ∈ P, v.size <= 100:=fun v hv => (hP2.all v hv).2.2.2
 refine (Hp.start w3 No).newB fun b16 w4 H4 hb16 hc4 => ?_
 have hc34:=H3.chg.trans0 hc4
 have hW : Wr w4 b16 [] pp P.length pc:=Wr.start (w0:=w) (H4.get 0 rfl)
 have E : Env w3 b16 P pp P.length pc:=⟨hrow, hasc, T10.chg0 H3.chg, hb16, hple, fun v hv => by have:=hP100 v hv; omega⟩
 have hbox4:=hc4.heap (H3.get 0 rfl) (fun f => f)
 have hW16 : ∀ z, w.heap.size <= z \/ ¬ (z = b16):=fun z => by
  have:=H3.chg.size
  by_cases e : z = b16
  ·left; omega
  ·exact .inr e
 refine ⟨kp, kl, kc, by rw [Lib.cell_of_heap hbox4]; rfl, ?_⟩
 obtain ⟨ha, hn, hac, hk0, hkn, hkc, hks⟩:=hx
 have hKl : ks.length = kl:=hk0.row (fun x _ => cells6 x) (by decide)
 have hkm : kl <= 10000000:=by have:=ks_len ks; simp only [NV.mea] at hm; omega
 have hksz : NV.meaL ks <= 10000000:=by simp only [NV.mea] at hm; omega
 have e1 : (NV.mk k u lo t ap al ac ats kp kl kc ks).nd.kids = ks.map NV.nd:=by simp only [NV.nd, Nd.kids, Yf7]
 rw [e1] at K1 K2
 have hDl:=decls_wlen P 0 (by omega) hP100
 have hlenT : (Zq7 P (ks.map NV.nd)).length <= 140737488355328:=by
  have h1:=tops_wlen hple (ks.map NV.nd)
  rw [<- Yf7, mea_ndL, Yf7] at h1
  have hr:=hR.roots
  unfold Yhj at hr
  rw [e1] at hr
  rw [hr, Nat.one_mul] at h1
  omega
 rw [YcW]
 refine ⟨fun x w1 n => ∃ k, x = (k : Nat) /\ k <= kl /\ n = kl - k /\ Wr w1 b16 (Zq7 P ((ks.map NV.nd).take k)) pp P.length pc /\ Chg (WS b16 w4) w4 w1, ⟨_, 0, rfl, by omega, rfl, by simpa [Zq7] using hW, Chg.refl _ _⟩, ?_⟩
 rintro x w5 n ⟨i, rfl, hi, rfl, h5, hc5⟩
 have hc05:=WS.from0 hc4 hb16 hc5
 have hk3:=hk0.chg hc34 (off_no _)
 refine Zz4 (fun hlt => ?_) (fun hge => ?_)
 ·refine ZzT (hk0.chg (H3.chg.trans0 hc05) (off_no _)) (fun x _ => cells6 x) (by decide) (by omega) (by omega) fun a x hpa hx hcl => ?_
  have hx' : ks[i]? = some x:=by rw [<- hx]; congr 1
  have hxm:=mem_of_getElem? hx'
  have hxn : (ks.map NV.nd)[i]? = some x.nd:=by simp [hx']
  have st:=topsW_step (P:=P) hxn
  have hle : (Zq7 P ((ks.map NV.nd).take (i + 1))).length <= (Zq7 P (ks.map NV.nd)).length:=by
   conv => rhs; rw [<- take_append_drop (i + 1) (ks.map NV.nd), Yec, length_append]
   omega
  rw [st, length_append, length_append, length_singleton] at hle
  have hxok:=hks x hxm
  have hxmea : x.mea <= 10000000:=by have:=Yf8 hxm; omega
  have hnmd : Nmd P x:=fun s hs => spc_kids hsp (x:=x.nd) (by rw [e1]; exact mem_map.2 ⟨x, hxm, rfl⟩) s hs
  have kx:=NodeA_ok E x (hxok.chg0 H3.chg) hxmea hnmd true
  obtain ⟨vk, vu, vl, vt, vap, val, vac, vats, vkp, vkl, vkc, vks⟩:=x
  have hcl' : ZzV w5 (a.add ((i : Int).toNat * 6)) [.int .i64 vk, .string vu, .string vl, .slice vap val vac, .slice vkp vkl vkc, .string vt]:=hcl
  refine ⟨_, ZzG hcl', _, hcl' 1 _ rfl, _, hcl' 2 _ rfl, _, _, _, hcl' 3 _ rfl, _, _, _, hcl' 4 _ rfl, _, hcl' 5 _ rfl, ?_⟩
  refine (Hp.start w5 No).newB fun b12 w6 H6 hb12 hc6 => ?_
  refine H6.stN 0 rfl (off:=0) rfl (by simp) (Zqe (.mk vk vu vl vt vap val vac vats vkp vkl vkc vks)) fun w7 H7 hc7 => ?_
  simp only [set_cons_zero] at H7
  rw [ZyK (by simp)] at H7
  refine YcC H7 0 rfl ?_
  refine kx w7 (Zq7 P ((ks.map NV.nd).take i)) _ (h5.chg0 H7.chg) (hc05.trans0 H7.chg) (by omega) fun w8 h8 hc8 => ?_
  refine WriteB_ok (v:=10) h8 (by rw [length_append]; omega) fun w9 h9 hc9 => ?_
  refine ⟨_, by omega, i + 1, by rw [Zzb] <;> omega, by omega, rfl, ?_, WS.trans hc5 (WS.trans (WS.trans (WS.no H7.chg) hc8) hc9)⟩
  rw [st]
  exact h9
 ·have e : i = (ks.map NV.nd).length:=by rw [length_map]; omega
  rw [e, take_length] at h5
  refine BLen_ok h5 ?_
  have hcw : Chg No w w5:=H3.chg.trans0 hc05
  refine Zz4 (fun hbig => ?_) (fun hsm => ?_)
  ·exact K1 P w5 hR hasc hmem hple (by omega) hcw
  refine BStr_ok h5 (by have:=tops_ne (P:=P) hR; rwa [e1] at this) fun w6 hc6 => ?_
  have hc06 : Chg No w3 w6:=WS.from0 hc05 hb16 hc6
  refine cvBf fun b7 c7 w7 hbt hc7 hb7 hch7 => ?_
  have hs : (mkB (Zq7 P (ks.map NV.nd))).size = (Zq7 P (ks.map NV.nd)).length:=Zyi _
  rw [hs] at hbt hc7 ⊢
  rw [ZzH] at hbt
  have:=H3.chg.size
  have:=hc06.size
  exact K2 P b7 c7 w7 hR hasc hmem hple (by omega) hbt hc7 (by omega) ((H3.chg.trans0 hc06).trans0 hch7)
end
end Go.Proofs.YtglnmjflpkeclaaGreatDoor
end
section
namespace Go.Proofs.YtglnmjflpkeclaaGreatDoor
open Go Go.Vc Go.Lib
section
variable {N0 : Nat} {w w' : World} {r : Nat} {op : Option Addr} {oc : Nat} {G : List OV} {o : OV} {n : Nat} {d : Bool}
def KT (F : List OV) : Prop := ∀ x ∈ F, ∀ y ∈ x.v.kids, y.nd.text.size <= 8192
theorem KT.last {o' : OV} (h : KT (G ++ [o])) (hk : ∀ y ∈ o'.v.kids, y ∈ o.v.kids \/ y.nd.text.size <= 8192) : KT (G ++ [o']):=by
 intro x hx y hy
 rcases mem_append.1 hx with hx | hx
 ·exact h x (mem_append_left _ hx) y hy
 ·rw [mem_singleton.1 hx] at hy
  rcases hk y hy with h1 | h1
  ·exact h o (by simp) y h1
  ·exact h1
theorem CloseI_ok {G0 : List OV} {o1 : OV} {J : World -> Prop} (h : RdI N0 w r op oc (G0 ++ [o1]) o n d) (kt : KT ((G0 ++ [o1]) ++ [o]))
  (K : ∀ w' o1', Yc9 (ZqG (G0 ++ [o1]) o n d) = ZqG G0 o1' n (d || decide (G0 = [])) -> RdI N0 w' r op oc G0 o1' n (d || decide (G0 = [])) -> KT (G0 ++ [o1']) -> Chg (PS N0 w) w w' -> J w') :
  Zz0 Tryz.prog ZyH #[.pointer (some ⟨r, 0, none⟩)] w [] J:=by
 have e0 : (G0 ++ [o1]) ++ [o] = G0 ++ [o1, o]:=by simp
 have hs:=h.s
 rw [e0] at hs
 have hct:=h.ct
 simp only [map_append, sum_append, map_cons, map_nil, sum_cons, sum_nil, length_append, length_cons, length_nil] at hct
 have hnn:=h.nn
 have htx : o.v.nd.text = kE:=h.tx o (by simp)
 refine Close_ok hs (by omega) fun w' kp' kc' h' hc => ?_
 refine K w' _ ?_ ⟨h', fun x hx => ?_, ?_, hnn, fun i x hx => ?_⟩ ?_ hc
 ·unfold Yc9 ZqG
  simp only [reverse_append, reverse_cons, reverse_nil, nil_append, cons_append, map_cons]
  rw [kadd_opn, opn_nd htx]
  congr 1
  cases G0 with
  | nil => simp
  | cons a s => simp
 ·rcases mem_append.1 hx with hx | hx
  ·exact h.tx x (mem_append_left _ (mem_append_left _ hx))
  ·rw [mem_singleton.1 hx]
   have:=h.tx o1 (by simp)
   dsimp only
   rw [kadd_text, this]
 ·simp only [map_append, sum_append, map_cons, map_nil, sum_cons, sum_nil, length_append, length_cons, length_nil, kadd_len]
  omega
 ·rw [getElem?_append] at hx
  split at hx
  ·next hi => exact h.bn i x (by rw [append_assoc, getElem?_append, if_pos hi]; exact hx)
  ·next hi =>
   cases hj : i - G0.length with
   | zero =>
    rw [hj] at hx
    simp at hx
    subst hx
    exact h.bn i o1 (by rw [append_assoc, getElem?_append, if_neg hi, hj]; rfl)
   | succ k => rw [hj] at hx; simp at hx
 ·intro x hx y hy
  rcases mem_append.1 hx with hx | hx
  ·exact kt x (mem_append_left _ (mem_append_left _ hx)) y hy
  ·rw [mem_singleton.1 hx] at hy
   dsimp only at hy
   rw [kadd_kids] at hy
   rcases mem_append.1 hy with hy | hy
   ·exact kt o1 (by simp) y hy
   ·rw [mem_singleton.1 hy, htx]; decide
theorem Take_ok {x : TkV} {J : Int -> World -> Prop} (T : TT w) (h : RdI N0 w r op oc G o n d) (kt : KT (G ++ [o])) (hn : n <= 2000) (hp : Row w Zzo 2 x.pp x.pairs.length x.pc (rows pr x.pairs)) (hpl : x.pairs.length <= 100000) (hps : ∀ y ∈ x.pairs, y.1.size <= 1000000) (hn0 : x.name.size <= 1000000) (ht0 : x.text.size <= 100000)
  (K0 : ∀ e, YgF x.tok (ZqG G o n d) = .error e -> e ≠ 0 -> ∀ w', Chg (PS N0 w) w w' -> J e w')
  (K1 : ∀ w' op' oc' G' o' n' d', YgF x.tok (ZqG G o n d) = .ok (ZqG G' o' n' d') -> RdI N0 w' r op' oc' G' o' n' d' -> KT (G' ++ [o']) -> n' <= 2000 -> Chg (PS N0 w) w w' -> J 0 w') :
  Zz0 Tryz.prog Ya0 #[.pointer (some ⟨r, 0, none⟩), .agg ⟨x.cells⟩] w [.one (.int .i64)] J:=by
 obtain ⟨xk, xa, xn, xpp, xpc, xps, xt, xr⟩:=x
 dsimp only at hp hpl hps hn0 ht0
 have hts : ∀ y ∈ o.v.kids, y.nd.text.size <= 100000:=fun y hy => by have:=kt o (by simp) y hy; omega
 refine Ye5 ?_
 refine (Hp.start w No).newB fun b3 w1 H1 hb3 hc1 => ?_
 have h1:=h.chg0 hc1
 refine Zz7 fun J5 hJ5 => ?_
 have hM : YgF (TkV.tok ⟨xk, xa, xn, xpp, xpc, xps, xt, xr⟩) (ZqG G o n d) = match Zxe (TkV.tok ⟨xk, xa, xn, xpp, xpc, xps, xt, xr⟩) (ZqG G o n d) with
   | .error e => .error e | .ok s' => if 2000 < s'.nodes then .error 5 else .ok s':=rfl
 have finE : ∀ e w2, Zxe (TkV.tok ⟨xk, xa, xn, xpp, xpc, xps, xt, xr⟩) (ZqG G o n d) = .error e -> e ≠ 0 -> Chg (PS N0 w) w w2 -> J5 e w2:=by
  intro e w2 he hne hc
  subst hJ5
  refine Zz7 fun J73 hJ => ?_
  subst hJ
  refine Zzd (fun hh => absurd hh hne) (fun _ => ?_)
  refine Zz9 (fun h => by cases h) (fun _ => ?_)
  exact K0 e (by rw [hM, he]) hne w2 hc
 have finO : ∀ w2 op' oc' G' o' n' d', Zxe (TkV.tok ⟨xk, xa, xn, xpp, xpc, xps, xt, xr⟩) (ZqG G o n d) = .ok (ZqG G' o' n' d') -> RdI N0 w2 r op' oc' G' o' n' d' -> KT (G' ++ [o']) -> Chg (PS N0 w) w w2 -> J5 0 w2:=by
  intro w2 op' oc' G' o' n' d' he h' kt' hc
  subst hJ5
  refine Zz7 fun J73 hJ => ?_
  subst hJ
  refine Zzd (fun _ => ?_) (fun hh => absurd rfl hh)
  simp only [Addr.add_mk, Nat.zero_add]
  refine ZxJ h'.s.c1 ?_
  rw [he] at hM
  dsimp only at hM
  refine Zz4 (fun hb => ?_) (fun hb => ?_)
  ·exact K0 5 (by rw [hM, if_pos (show 2000 < (ZqG G' o' n' d').nodes from by show 2000 < n'; omega)]) (by decide) w2 hc
  ·exact K1 w2 op' oc' G' o' n' d' (by rw [hM, if_neg (show ¬ 2000 < (ZqG G' o' n' d').nodes from by show ¬ 2000 < n'; omega)]) h' kt' (by omega) hc
 have hrest : (ZqG G o n d).rest = [] ↔ G = []:=by simp [ZqG]
 have e3 : J5 = J5:=rfl
 refine H1.ldI 0 rfl (off:=0) rfl ?_
 refine Zzd (fun h7 => ?_) (fun h7 => ?_)
 ·have ht : Zxe (TkV.tok ⟨xk, xa, xn, xpp, xpc, xps, xt, xr⟩) (ZqG G o n d) = putM (.mk 4 kE kE xt [] []) (ZqG G o n d):=by unfold Zxe; rw [if_pos (show (TkV.tok ⟨xk, xa, xn, xpp, xpc, xps, xt, xr⟩).kind = 7 from h7)]; rfl
  refine H1.ldStr 0 rfl (off:=4) rfl ?_
  refine PutI_ok h1 hn (fun he w4 hc4 => ?_) (fun w4 o' he h4 hk hc4 => ?_)
  ·exact finE 5 w4 (by rw [ht]; exact he) (by decide) (PS.trans (PS.no hc1) hc4)
  ·exact finO w4 _ _ _ _ _ _ (by rw [ht]; exact he) h4 (kt.last hk) (PS.trans (PS.no hc1) hc4)
 refine Zzd (fun h8 => ?_) (fun h8 => ?_)
 ·have ht : Zxe (TkV.tok ⟨xk, xa, xn, xpp, xpc, xps, xt, xr⟩) (ZqG G o n d) = putM (.mk 5 kE xn xt [] []) (ZqG G o n d):=by
   unfold Zxe; rw [if_neg (show ¬ (TkV.tok ⟨xk, xa, xn, xpp, xpc, xps, xt, xr⟩).kind = 7 from h7), if_pos (show (TkV.tok ⟨xk, xa, xn, xpp, xpc, xps, xt, xr⟩).kind = 8 from h8)]; rfl
  refine H1.ldStr 0 rfl (off:=2) rfl ?_
  refine H1.ldStr 0 rfl (off:=4) rfl ?_
  refine ⟨rfl, ?_⟩
  refine PutI_ok h1 hn (fun he w4 hc4 => ?_) (fun w4 o' he h4 hk hc4 => ?_)
  ·exact finE 5 w4 (by rw [ht]; exact he) (by decide) (PS.trans (PS.no hc1) hc4)
  ·exact finO w4 _ _ _ _ _ _ (by rw [ht]; exact he) h4 (kt.last hk) (PS.trans (PS.no hc1) hc4)
 have ht1 : Zxe (TkV.tok ⟨xk, xa, xn, xpp, xpc, xps, xt, xr⟩) (ZqG G o n d) = if xk = 5 \/ xk = 6 then Yh8 xk xr xt (ZqG G o n d)
   else if xk = 2 then YaX xn xps (ZqG G o n d)
   else if xk = 4 then (match YaX xn xps (ZqG G o n d) with | .ok s' => .ok (Yc9 s') | .error e => .error e)
   else if xk = 3 then (if (ZqG G o n d).rest = [] \/ (ZqG G o n d).top.raw ≠ xn then .error 26 else .ok (Yc9 (ZqG G o n d)))
   else .ok (ZqG G o n d):=by
  unfold Zxe
  rw [if_neg (show ¬ (TkV.tok ⟨xk, xa, xn, xpp, xpc, xps, xt, xr⟩).kind = 7 from h7), if_neg (show ¬ (TkV.tok ⟨xk, xa, xn, xpp, xpc, xps, xt, xr⟩).kind = 8 from h8)]
  rfl
 refine Zz7 fun J25 hJ25 => ?_
 have k25 : ∀ b : Bool, (b = true ↔ (xk = 5 \/ xk = 6)) -> J25 b w1:=by
  intro b hb
  subst hJ25
  refine Zz9 (fun h5 => ?_) (fun h5 => ?_)
  ·rw [if_pos (hb.1 h5)] at ht1
   refine ⟨_, H1.cell 0 rfl rfl, _, H1.cell 0 rfl rfl, _, H1.cell 0 rfl rfl, _, _, _, H1.cell 0 rfl rfl, _, H1.cell 0 rfl rfl, _, H1.cell 0 rfl rfl, ?_⟩
   refine PText_ok (refs:=xr) h1 hn rfl ht0 hts (fun e he hne w4 hc4 => ?_) (fun w4 o' n' he h4 hnn hk hc4 => ?_)
   ·exact finE e w4 (by rw [ht1]; exact he) hne (PS.trans (PS.no hc1) hc4)
   ·exact finO w4 _ _ _ _ _ _ (by rw [ht1]; exact he) h4 (kt.last hk) (PS.trans (PS.no hc1) hc4)
  rw [if_neg (fun e => by rw [hb.2 e] at h5; cases h5)] at ht1
  have hp1:=hp.chg hc1 (off_no _)
  refine Zzd (fun h2 => ?_) (fun h2 => ?_)
  ·rw [if_pos h2] at ht1
   refine ⟨_, H1.cell 0 rfl rfl, _, H1.cell 0 rfl rfl, _, H1.cell 0 rfl rfl, _, _, _, H1.cell 0 rfl rfl, _, H1.cell 0 rfl rfl, _, H1.cell 0 rfl rfl, ?_⟩
   refine Begin_ok (T.chg hc1) h1 hn hp1 hpl hps hn0 (fun e he hne w4 hc4 => ?_) (fun w4 op' oc' o' he h4 hk hc4 => ?_)
   ·exact finE e w4 (by rw [ht1]; exact he) hne (PS.trans (PS.no hc1) hc4)
   ·refine finO w4 _ _ _ _ _ _ (by rw [ht1]; exact he) h4 (fun x hx y hy => ?_) (PS.trans (PS.no hc1) hc4)
    rcases mem_append.1 hx with hx | hx
    ·exact kt x hx y hy
    ·rw [mem_singleton.1 hx, hk] at hy; cases hy
  rw [if_neg h2] at ht1
  refine Zzd (fun h4 => ?_) (fun h4 => ?_)
  ·rw [if_pos h4] at ht1
   refine ⟨_, H1.cell 0 rfl rfl, _, H1.cell 0 rfl rfl, _, H1.cell 0 rfl rfl, _, _, _, H1.cell 0 rfl rfl, _, H1.cell 0 rfl rfl, _, H1.cell 0 rfl rfl, ?_⟩
   refine Begin_ok (T.chg hc1) h1 hn hp1 hpl hps hn0 (fun e he hne w4 hc4 => ?_) (fun w4 op' oc' o' he h4 hk hc4 => ?_)
   ·refine Zzd (fun hh => absurd hh hne) (fun _ => ?_)
    exact finE e w4 (by rw [ht1, he]) hne (PS.trans (PS.no hc1) hc4)
   ·refine Zzd (fun _ => ?_) (fun hh => absurd rfl hh)
    rw [he] at ht1
    dsimp only at ht1
    refine CloseI_ok h4 (fun x hx y hy => ?_) fun w5 o1' he5 h5 kt5 hc5 => ?_
    ·rcases mem_append.1 hx with hx | hx
     ·exact kt x hx y hy
     ·rw [mem_singleton.1 hx, hk] at hy; cases hy
    ·rw [he5] at ht1
     exact finO w5 _ _ _ _ _ _ ht1 h5 kt5 (PS.trans (PS.trans (PS.no hc1) hc4) hc5)
  rw [if_neg h4] at ht1
  refine Zzd (fun h3 => ?_) (fun h3 => ?_)
  ·rw [if_pos h3] at ht1
   refine Zz7 fun J62 hJ62 => ?_
   have k62 : ∀ (x : Bool) (w2 : World), (x = true ↔ ((ZqG G o n d).rest = [] \/ (ZqG G o n d).top.raw ≠ xn)) -> Chg No w w2 -> J62 x w2:=by
    intro x w2 hx hc2
    subst hJ62
    refine Zz9 (fun hx1 => ?_) (fun hx0 => ?_)
    ·rw [if_pos (hx.1 hx1)] at ht1
     exact K0 26 (by rw [hM, ht1]) (by decide) w2 (PS.no hc2)
    ·have hcl : ¬ ((ZqG G o n d).rest = [] \/ (ZqG G o n d).top.raw ≠ xn):=fun e => by rw [hx.2 e] at hx0; cases hx0
     rw [if_neg hcl] at ht1
     have hG : G ≠ []:=fun e => hcl (.inl (hrest.2 e))
     obtain ⟨G0, o1, rfl⟩ : ∃ G0 o1, G = G0 ++ [o1]:=⟨G.dropLast, G.getLast hG, (dropLast_concat_getLast hG).symm⟩
     refine CloseI_ok (h.chg0 hc2) kt fun w5 o1' he5 h5 kt5 hc5 => ?_
     rw [he5] at ht1
     exact finO w5 _ _ _ _ _ _ ht1 h5 kt5 (PS.trans (PS.no hc2) hc5)
   clear hJ62
   have hd:=Zy0 w1
   have h1d:=h1.chg0 hd
   have H1d:=H1.drew
   have c1d:=hc1.trans0 hd
   refine Yd4 h1d.s.c0 ?_
   refine Zzd (fun he => ?_) (fun he => ?_)
   ·refine k62 true _ ⟨fun _ => .inl (hrest.2 ?_), fun _ => rfl⟩ c1d
    cases G with
    | nil => rfl
    | cons a s => simp at he; omega
   ·have hG : G ≠ []:=by rintro rfl; simp at he
    obtain ⟨bb, hbb⟩:=h1d.s.at
    refine H1d.ldStr 0 rfl (off:=2) rfl ?_
    refine Yi6 h1d.s hbb fun w13 h13 hc13 => ?_
    have H13:=H1d.step0 hc13
    refine ⟨H13.cell 0 rfl rfl, ?_⟩
    simp only [ZzC, Addr.add_mk, Nat.zero_add]
    have hraw:=h13.cells hbb h.last 6 (.string o.raw) (by unfold OV.cells; rw [getElem?_append_right (by rw [cells6]; exact Nat.le_refl _), cells6]; rfl)
    rw [Addr.add_mk] at hraw
    refine ZzB hraw ?_
    rw [Ycl]
    refine k62 _ w13 ?_ (c1d.trans0 hc13)
    have e9 : (ZqG G o n d).top.raw = o.raw:=rfl
    rw [e9]
    constructor
    ·intro e
     refine .inr ?_
     simpa using e
    ·rintro (e | e)
     ·exact absurd (hrest.1 e) hG
     ·simpa using e
  rw [if_neg h3] at ht1
  exact finO w1 _ _ _ _ _ _ ht1 h1 kt (PS.no hc1)
 clear hJ25
 refine Zzd (fun h5 => ?_) (fun h5 => ?_)
 ·exact k25 _ ⟨fun _ => .inl h5, fun _ => by simpa using h5⟩
 ·refine k25 _ ⟨fun e => .inr (by simpa using e), fun e => ?_⟩
  rcases e with e | e
  ·exact absurd e h5
  ·simpa using e
end
end Go.Proofs.YtglnmjflpkeclaaGreatDoor
end
section
namespace Go.Proofs.YtglnmjflpkeclaaGreatDoor
open Go Go.Vc Go.Lib
section
variable {w w' : World}
theorem tok_cells {w : World} {a : Addr} {x : TkV} (hc : ZzV w a x.cells) {K : Int -> Int -> ByteArray -> Option Addr -> Nat -> Nat -> ByteArray -> Int -> Prop} (k : K x.kind x.at_ x.name x.pp x.pairs.length x.pc x.text x.refs) :
  ldI .i64 w a fun x0 => ldI .i64 w (a.add 1) fun x1 => ldStr w (a.add 2) fun x2 => ldS w (a.add 3) fun p3 l3 c3 => ldStr w (a.add 4) fun x4 => ldI .i64 w (a.add 5) fun x5 => K x0 x1 x2 p3 l3 c3 x4 x5 :=
 ⟨_, ZzG hc, _, hc 1 _ rfl, _, hc 2 _ rfl, _, _, _, hc 3 _ rfl, _, hc 4 _ rfl, _, hc 5 _ rfl, k⟩
theorem Ybw : ∀ (l1 l2 : List TokQ) (s : PSt), ZyQ (l1 ++ l2) s = match ZyQ l1 s with | .error e => .error e | .ok s' => ZyQ l2 s'
 | [], _, _ => rfl
 | t :: l1, l2, s => by
  simp only [cons_append, ZyQ]
  cases YgF t s with
  | error e => rfl
  | ok s' => exact Ybw l1 l2 s'
theorem Parse_ok {p : Option Addr} {l c : Nat} {bs : List UInt8} {J : Int -> ByteArray -> ByteArray -> Option Addr -> Nat -> Nat -> Option Addr -> Nat -> Nat -> ByteArray -> Int -> Int -> World -> Prop} (T : TT w) (h : Bytes w p l bs) (hlc : l <= c)
  (K0 : ∀ at_ e, Ybu bs = .error (at_, e) -> e ≠ 0 -> ∀ w', Chg No w w' -> J 0 kE kE none 0 0 none 0 0 kE (at_ : Int) e w')
  (K1 : ∀ v, Ybu bs = .ok v.nd -> ∀ w', Own w' v -> v.bs.Nodup -> (∀ z ∈ v.bs, w.heap.size <= z) -> Chg No w w' -> v.giv (fun a b c p l d1 q m n t w => J a b c p l d1 q m n t 0 0 w) w') :
  Zz0 Tryz.prog ZxB #[.slice p l c] w [.agg [.int .i64, .str, .str, .slice, .slice, .str], .one (.int .i64), .one (.int .i64)] J:=by
 refine c_parse_Parse ?_
 rw [YcW, zeroC_tok]
 refine (Hp.start w No).newB fun b2 w1 H1 hb2 hc1 => ?_
 have b2w : w.heap.size <= b2:=hb2
 have err : ∀ (at_ e : Int) (w2 : World) (cs : List Value), w2.heap[b2]? = some (.cells ⟨cs⟩ Zz5 (0, 0)) -> cs.length = 6 -> Chg No w w2 -> (∀ w', Chg No w w' -> J 0 kE kE none 0 0 none 0 0 kE at_ e w') ->
   stN w2 ⟨b2, 0, none⟩ ⟨[.int .i64 (0 : Int), .string ByteArray.empty, .string ByteArray.empty, .slice none 0 0, .slice none 0 0, .string ByteArray.empty]⟩ 6 fun w3 =>
   ldI .i64 w3 ⟨b2, 0, none⟩ fun r_0 => ldStr w3 ⟨b2, 1, none⟩ fun r_1 => ldStr w3 ⟨b2, 2, none⟩ fun r_2 => ldS w3 ⟨b2, 3, none⟩ fun r_3p r_3l r_3c => ldS w3 ⟨b2, 4, none⟩ fun r_4p r_4l r_4c => ldStr w3 ⟨b2, 5, none⟩ fun r_5 => J r_0 r_1 r_2 r_3p r_3l r_3c r_4p r_4l r_4c r_5 at_ e w3:=by
  intro at_ e w2 cs hh hl hc k
  refine ((Hp.start w2 (fun x => x = b2)).add hh (by simp) (fun _ => rfl)).stN 0 rfl (off:=0) rfl (by omega) (Zqe zeroV0) fun w3 H3 hc3 => ?_
  simp only [set_cons_zero] at H3
  rw [ZyK (by simp [hl])] at H3
  exact ⟨_, H3.cell 0 rfl rfl, _, H3.cell 0 rfl rfl, _, H3.cell 0 rfl rfl, _, _, _, H3.cell 0 rfl rfl, _, _, _, H3.cell 0 rfl rfl, _, H3.cell 0 rfl rfl, k w3 (hc.trans hc3 fun z hz e => by subst e; omega)⟩
 refine All_ok (T.chg hc1) (h.chg hc1 (off_no _)) hlc (fun at_ e he hne w2 hc2 => ?_) (fun L he hL p' c' w2 hrL hpL hc2 => ?_)
 ·refine Zzi (fun _ => ?_) (fun hh => absurd hh hne)
  refine err at_ e w2 _ (hc2.heap (H1.get 0 rfl) (fun f => f)) rfl (hc1.trans0 hc2) fun w' hc => K0 at_ e ?_ hne w' hc
  unfold Ybu; rw [he]
 refine Zzi (fun hh => absurd rfl hh) (fun _ => ?_)
 have hsm:=allR_small he
 have hPM : Ybu bs = match ZyQ (L.map TkV.tok) ZxO with
   | .error e => .error e
   | .ok s => if s.rest ≠ [] then .error ((Zyv bs).length, 26) else if s.done = false then .error ((Zyv bs).length, 30) else .ok s.top.nd:=by
  unfold Ybu; rw [he]; rfl
 have H2:=H1.step0 hc2
 refine New_ok fun w4 hc4 => ?_
 refine ⟨rfl, rfl, rfl, ?_⟩
 have H4:=H2.step0 hc4
 have N0w : w.heap.size <= w4.heap.size:=H4.chg.size
 obtain ⟨N0, hN0⟩ : ∃ N0, w4.heap.size = N0:=⟨_, rfl⟩
 obtain ⟨o0, ho0⟩ : ∃ o0 : OV, o0 = ⟨.mk 1 kE kE kE none 0 0 [] none 0 0 [], kE, none, 0, []⟩:=⟨_, rfl⟩
 refine newRow (n:=1) (sz:=8) (cs:=rows OV.cells [⟨.mk 1 kE kE kE none 0 0 [] none 0 0 [], kE, none, 0, []⟩]) rfl (by decide) fun b26 w5 hrow hb26 hc5 => ?_
 rw [<- ho0] at hrow
 have H5:=H4.step0 hc5
 refine (Hp.start w5 No).newB fun b28 w6 H6 hb28 hc6 => ?_
 have H6':=H5.step0 hc6
 have s5:=hc5.size
 have hR : RdI N0 w6 b28 (some ⟨b26, 0, none⟩) 1 [] o0 0 false:=by
  refine ⟨⟨H6.get 0 rfl, hrow.chg hc6 (off_no _), fun x hx => ?_, ?_, fun x hx => ?_, by simp, by simp, by omega, ?_, fun z hz => ?_⟩, fun x hx => ?_, ?_, by omega, fun i x hx => ?_⟩
  ·rw [mem_singleton.1 hx, ho0]; exact .mk (Row.nil _ _ _) (Row.nil _ _ _) (by simp)
  ·rw [nil_append, ZqQ, ho0]; simp [NV.bs, NV.bsL, YbQ]
  ·rw [mem_singleton.1 hx, ho0]; exact ⟨Sl.nil _ _ _, fun _ => rfl, by rintro a ⟨⟩⟩
  ·rintro a ⟨⟩; dsimp only; omega
  ·rw [nil_append, ZqQ, ho0] at hz; simp [NV.bs, NV.bsL, YbQ] at hz
  ·rw [mem_singleton.1 hx, ho0]; rfl
  ·rw [ho0]; simp [NV.kids]
  ·have : x = o0:=by
    cases i with
    | zero => simp at hx; exact hx.symm
    | succ k => simp at hx
   rw [this, ho0]; simp
 have hst0 : ZqG [] o0 0 false = ZxO:=by rw [ho0]; rfl
 have c6 : Chg No w w6:=H6'.chg
 have hrL6:=hrL.chg ((hc4.trans0 hc5).trans0 hc6) (off_no _)
 have hN6 : N0 <= w6.heap.size:=by have:=hc6.size; omega
 have b2N : b2 < N0:=by rw [<- hN0]; exact H4.lt 0 rfl
 have hpN : ∀ x ∈ L, ∀ a, x.pp = some a -> a.block < N0:=fun x hx a ha => by
  have h1:=(hpL x hx).lt a ha
  have:=hc4.size
  omega
 have hb2w : w6.heap[b2]? = some (.cells ⟨_⟩ Zz5 (0, 0)):=H6'.get 0 rfl
 have hm : l <= 100000000:=by
  have : ¬ 65536 < bs.length:=fun hb => by unfold allR at he; rw [if_pos hb] at he; cases he
  have:=h.len
  omega
 refine ⟨fun x w7 m => ∃ k G o n d op oc, x = (k : Nat) /\ k <= L.length /\ m = L.length - k /\ RdI N0 w7 b28 op oc G o n d /\ KT (G ++ [o]) /\ n <= 2000 /\ ZyQ ((L.take k).map TkV.tok) ZxO = .ok (ZqG G o n d) /\ w7.heap[b2]? = some (.cells ⟨[.int .i64 (0 : Int), .string ByteArray.empty, .string ByteArray.empty, .slice none 0 0, .slice none 0 0, .string ByteArray.empty]⟩ Zz5 (0, 0)) /\ Row w7 Zze 6 p' L.length c' (rows TkV.cells L) /\ (∀ x ∈ L, Row w7 Zzo 2 x.pp x.pairs.length x.pc (rows pr x.pairs)) /\ N0 <= w7.heap.size /\ Chg No w w7,
  ⟨_, 0, [], o0, 0, false, _, _, rfl, by omega, rfl, hR, ?_, by omega, ?_, hb2w, hrL6, fun x hx => (hpL x hx).chg ((hc4.trans0 hc5).trans0 hc6) (off_no _), hN6, c6⟩, ?_⟩
 ·intro x hx y hy
  rw [nil_append, mem_singleton] at hx
  rw [hx, ho0] at hy
  simp [NV.kids] at hy
 ·rw [hst0]; rfl
 rintro x w7 m ⟨k, G, o, n, d, op, oc, rfl, hkl, rfl, hR, hKT, hn, htk, hb2c, hrT, hrP, hN7, hcw⟩
 refine Zz4 (fun hlt => ?_) (fun hge => ?_)
 ·have hkL : k < L.length:=by omega
  refine ZzT hrT.sl (even_tk L) (by decide) (by omega) (by omega) fun a x hpa hx hcl => ?_
  have hx' : L[k]? = some x:=by rw [<- hx]; congr 1
  have hxm : x ∈ L:=mem_of_getElem? hx'
  refine tok_cells hcl ?_
  refine (Hp.start w7 No).newB fun b10 w8 H8 hb10 hc8 => ?_
  refine H8.stN 0 rfl (off:=0) rfl (by simp) (one1_tk x) fun w9 H9 hc9 => ?_
  simp only [set_cons_zero] at H9
  rw [ZyK (by simp)] at H9
  refine H9.ldI 0 rfl rfl ?_
  refine H9.ldI 0 rfl rfl ?_
  refine H9.ldStr 0 rfl rfl ?_
  refine H9.ldS 0 rfl rfl ?_
  refine H9.ldStr 0 rfl rfl ?_
  refine H9.ldI 0 rfl rfl ?_
  have c79 : Chg No w7 w9:=H9.chg
  have s79:=c79.size
  have cw9:=hcw.trans0 c79
  have hsx:=hsm x.tok (mem_map_of_mem hxm)
  have hb10' : N0 <= b10:=by omega
  have hb10h:=H9.get 0 rfl
  have hb2h:=c79.heap hb2c (fun f => f)
  have noP : ∀ (w' : World), Chg (PS N0 w9) w9 w' -> Chg No w w':=fun w' hc => cw9.trans hc fun z hz hp => absurd hp.1 (by omega)
  have hdrop : (L.take (k + 1)).map TkV.tok = (L.take k).map TkV.tok ++ [x.tok]:=by
   rw [take_add_one, hx']; simp
  have hall : L.map TkV.tok = ((L.take k).map TkV.tok ++ [x.tok]) ++ (L.drop (k + 1)).map TkV.tok:=by
   rw [<- hdrop, <- map_append, take_append_drop]
  have bytyp : typ w9 b10 = some Zze:=by unfold typ; rw [hb10h]
  refine Take_ok (x:=x) (T.chg cw9) (hR.chg0 c79) hKT hn ((hrP x hxm).chg c79 (off_no _)) ?_ ?_ ?_ ?_ (fun e hte hne w10 hc10 => ?_) (fun w10 op' oc' G' o' n' d' hte hR' hKT' hn' hc10 => ?_)
  ·have h1 : x.pairs.length <= 65536:=hsx.len
   omega
  ·intro y hy
   have h1:=hsx.pairs y hy
   omega
  ·have h1 : x.name.size <= 65536:=hsx.name
   omega
  ·have h1 : x.text.size <= 65536:=hsx.text
   omega
  ·refine Zzi (fun _ => ?_) (fun hh => absurd hh hne)
   have hb10w:=(hc10.heap hb10h (fun f => f.2 bytyp))
   have hb2w':=(hc10.heap hb2h (fun f => absurd f.1 (by omega)))
   have Hd:=((Hp.start w10.drew (fun x => x = b2 \/ x = b10)).add (b:=b10) hb10w (by simp) (fun _ => Or.inr rfl)).add (b:=b2) hb2w' (by simp; omega) (fun _ => Or.inl rfl)
   refine Hd.ldI 1 rfl rfl ?_
   refine Hd.stN 0 rfl (off:=0) rfl (by simp) (Zqe zeroV0) fun w11 H11 hc11 => ?_
   simp only [set_cons_zero] at H11
   rw [ZyK (by simp)] at H11
   refine ⟨H11.cell 1 rfl rfl, _, H11.cell 0 rfl rfl, _, H11.cell 0 rfl rfl, _, H11.cell 0 rfl rfl, _, _, _, H11.cell 0 rfl rfl, _, _, _, H11.cell 0 rfl rfl, _, H11.cell 0 rfl rfl, ?_⟩
   refine K0 x.at_ e ?_ hne w11 ((noP w10 hc10).drew.trans H11.chg fun z hz hp => ?_)
   ·rw [hPM, hall, Ybw, Ybw, htk]
    simp only [ZyQ, hte]
    rfl
   ·rcases hp with rfl | rfl <;> omega
  ·refine Zzi (fun hh => absurd rfl hh) (fun _ => ?_)
   have hc7 : Chg No w w10:=noP w10 hc10
   refine ⟨_, by omega, k + 1, G', o', n', d', op', oc', by rw [Zzb] <;> omega, by omega, rfl, hR', hKT', hn', ?_, hc10.heap hb2h (fun f => absurd f.1 (by omega)), ?_, fun y hy => ?_, ?_, hc7⟩
   ·rw [hdrop, Ybw, htk]
    simp only [ZyQ, hte]
   ·refine (hrT.chg c79 (off_no _)).chg hc10 fun a ha hp => ?_
    exact hp.2 ((hrT.chg c79 (off_no _)).typ a ha)
   ·refine ((hrP y hy).chg c79 (off_no _)).chg hc10 fun a ha hp => ?_
    have h1:=hpN y hy a ha
    have h2:=hp.1
    omega
   ·have:=hc10.size
    omega
 ·have hk : k = L.length:=by omega
  rw [hk, take_length] at htk
  rw [htk] at hPM
  dsimp only at hPM
  refine ⟨_, _, _, hR.s.c0, ?_⟩
  refine Zz4 (fun hop => ?_) (fun hop => ?_)
  ·refine Plain_ok (h.chg hcw (off_no _)) hlc hm fun p2 c2 w12 _ _ hc12 => ?_
   refine err _ _ w12 _ (hc12.heap hb2c (fun f => f)) rfl (hcw.trans0 hc12) fun w' hc => K0 _ 26 ?_ (by decide) w' hc
   rw [hPM, if_pos]
   simp only [ZqG, length_append, length_cons, length_nil] at hop ⊢
   cases G with
   | nil => simp at hop
   | cons => simp
  refine ⟨_, hR.s.c2, ?_⟩
  have hG : G = []:=by
   cases G with
   | nil => rfl
   | cons a s => simp at hop; omega
  subst hG
  rw [if_neg (by simp [ZqG])] at hPM
  refine Zz9 (fun hd => ?_) (fun hd => ?_)
  ·refine Plain_ok (h.chg hcw (off_no _)) hlc hm fun p2 c2 w12 _ _ hc12 => ?_
   refine err _ _ w12 _ (hc12.heap hb2c (fun f => f)) rfl (hcw.trans0 hc12) fun w' hc => K0 _ 30 ?_ (by decide) w' hc
   rw [hPM, if_pos]
   simpa [ZqG] using hd
  rw [if_neg (by simpa [ZqG] using hd)] at hPM
  refine ⟨_, _, _, hR.s.c0, ?_⟩
  obtain ⟨ob, hob⟩:=hR.s.at
  refine ZzT hR.s.row.sl (YhL _) (by decide) (by decide) (by simp) fun a x hpa hx hcl => ?_
  have hxo : x = o:=by simpa using hx.symm
  subst hxo
  have hat : a = ⟨ob, 0, none⟩:=by rw [hob] at hpa; exact (Option.some.inj hpa).symm
  obtain ⟨v, oraw, obp, obc, oB⟩:=x
  have hown:=hR.s.own _ (by simp : (⟨v, oraw, obp, obc, oB⟩ : OV) ∈ [] ++ [_])
  have hnd:=hR.s.nd
  have hlo:=hR.s.lo.2.2
  have htx:=hR.tx _ (by simp : (⟨v, oraw, obp, obc, oB⟩ : OV) ∈ [] ++ [_])
  rw [nil_append, ZqQ] at hnd hlo
  have hop : (ZqG [] ⟨v, oraw, obp, obc, oB⟩ n d).top.nd = v.nd:=opn_nd htx
  rw [hop] at hPM
  dsimp only at hown hnd hlo
  obtain ⟨vk, vu, vl, vt, vap, val, vac, vats, vkp, vkl, vkc, vks⟩:=v
  have hcl' : ZzV w7 (a.add ((0 : Int).toNat * 8)) ([.int .i64 vk, .string vu, .string vl, .slice vap val vac, .slice vkp vkl vkc, .string vt] ++ [.string oraw, .slice obp oB.length obc]):=hcl
  refine ⟨_, ZzG hcl', _, hcl' 1 _ rfl, _, hcl' 2 _ rfl, _, _, _, hcl' 3 _ rfl, _, _, _, hcl' 4 _ rfl, _, hcl' 5 _ rfl, ?_⟩
  refine ((Hp.start w7 (fun x => x = b2)).add hb2c (by simp) (fun _ => rfl)).stN 0 rfl (off:=0) rfl (by simp) (Zqe (.mk vk vu vl vt vap val vac vats vkp vkl vkc vks)) fun w16 H16 hc16 => ?_
  simp only [set_cons_zero] at H16
  rw [ZyK (by simp)] at H16
  refine ⟨_, H16.cell 0 rfl rfl, _, H16.cell 0 rfl rfl, _, H16.cell 0 rfl rfl, _, _, _, H16.cell 0 rfl rfl, _, _, _, H16.cell 0 rfl rfl, _, H16.cell 0 rfl rfl, ?_⟩
  refine K1 (.mk vk vu vl vt vap val vac vats vkp vkl vkc vks) hPM w16 (hown.chg H16.chg fun z hz e => ?_) hnd (fun z hz => ?_) (hcw.trans H16.chg fun z hz e => ?_)
  ·have:=hlo z hz
   omega
  ·have:=hlo z hz
   omega
  ·subst e
   omega
end
end Go.Proofs.YtglnmjflpkeclaaGreatDoor
end
