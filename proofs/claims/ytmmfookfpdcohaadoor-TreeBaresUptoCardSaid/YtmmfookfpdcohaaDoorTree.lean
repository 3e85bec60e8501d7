/-
  Trees of nodes: plain, and as they lie in memory.
-/
import Derived.Test.YtmmfookfpdcohaaDoorBase
import Derived.Test.YtmmfookfpdcohaaDoorHpx
import Derived.Test.YtmmfookfpdcohaaDoorSortW
set_option linter.unusedVariables false
set_option linter.unusedSimpArgs false
namespace Go.Vc
open Go Go.Lib
/-- A plain tree. -/
inductive Nd where
  | mk (kind : Int) (uri loc text : ByteArray) (attrs : List At) (kids : List Nd)
/-- A tree as it lies in memory: each node with its lists' addresses. -/
inductive NV where
  | mk (kind : Int) (uri loc text : ByteArray) (ap : Option Addr) (al ac : Nat) (attrs : List At) (kp : Option Addr) (kl kc : Nat) (kids : List NV)
theorem NV.ind {P : NV → Prop} (h : ∀ k u l t ap al ac ats kp kl kc ks, (∀ x ∈ ks, P x) → P (.mk k u l t ap al ac ats kp kl kc ks)) (v : NV) : P v :=
  NV.rec (motive_1 := P) (motive_2 := fun ks => ∀ x ∈ ks, P x) (fun k u l t ap al ac ats kp kl kc ks ih => h k u l t ap al ac ats kp kl kc ks ih) (by simp)
    (fun x r hx hr y hy => by rcases List.mem_cons.1 hy with rfl | hy; · exact hx
                              · exact hr y hy) v
theorem Nd.ind {P : Nd → Prop} (h : ∀ k u l t ats ks, (∀ x ∈ ks, P x) → P (.mk k u l t ats ks)) (v : Nd) : P v :=
  Nd.rec (motive_1 := P) (motive_2 := fun ks => ∀ x ∈ ks, P x) (fun k u l t ats ks ih => h k u l t ats ks ih) (by simp)
    (fun x r hx hr y hy => by rcases List.mem_cons.1 hy with rfl | hy; · exact hx
                              · exact hr y hy) v
def NV.cells : NV → List Value
  | .mk k u l t ap al ac _ kp kl kc _ => [.int .i64 k, .string u, .string l, .slice ap al ac, .slice kp kl kc, .string t]
theorem even_node (L : List NV) : Even NV.cells 6 L := fun x _ => by cases x; rfl
theorem one1_node (x : NV) : one1 x.cells := by
  cases x
  intro v hv
  simp only [NV.cells, List.mem_cons, List.not_mem_nil, or_false] at hv
  rcases hv with rfl | rfl | rfl | rfl | rfl | rfl <;> rfl
mutual
def NV.nd : NV → Nd
  | .mk k u l t _ _ _ ats _ _ _ ks => .mk k u l t ats (NV.ndL ks)
def NV.ndL : List NV → List Nd
  | [] => []
  | x :: r => x.nd :: NV.ndL r
end
theorem ndL_map : ∀ ks, NV.ndL ks = ks.map NV.nd
  | [] => rfl
  | x :: r => by simp [NV.ndL, ndL_map r]
def atSize (a : At) : Nat := 1 + a.1.size + a.2.1.size + a.2.2.size
mutual
def NV.mea : NV → Nat
  | .mk _ u l t _ _ _ ats _ _ _ ks => 1 + u.size + l.size + t.size + (ats.map atSize).sum + NV.meaL ks
def NV.meaL : List NV → Nat
  | [] => 0
  | x :: r => x.mea + NV.meaL r
end
theorem meaL_sum : ∀ ks, NV.meaL ks = (ks.map NV.mea).sum
  | [] => rfl
  | x :: r => by simp [NV.meaL, meaL_sum r]
theorem mem_sum {α : Type} (f : α → Nat) : ∀ {l : List α} {x : α}, x ∈ l → f x ≤ (l.map f).sum
  | y :: l, x, h => by
    rw [List.map_cons, List.sum_cons]
    rcases List.mem_cons.1 h with rfl | h
    · omega
    · have := mem_sum f h; omega
theorem mea_kid {x : NV} {ks : List NV} (h : x ∈ ks) : x.mea ≤ NV.meaL ks := by rw [meaL_sum]; exact mem_sum NV.mea h
theorem mea_pos (v : NV) : 1 ≤ v.mea := by cases v; simp only [NV.mea]; omega
theorem len_meaL : ∀ ks : List NV, ks.length ≤ NV.meaL ks
  | [] => Nat.le_refl _
  | x :: r => by have := len_meaL r; have := mea_pos x; simp only [NV.meaL, List.length_cons]; omega
theorem len_atSum : ∀ ats : List At, ats.length ≤ (ats.map atSize).sum
  | [] => Nat.le_refl _
  | x :: r => by
    have := len_atSum r
    rw [List.map_cons, List.sum_cons, List.length_cons]
    unfold atSize at *; omega
/-- What memory holds of a tree. -/
inductive NV.Ok (w : World) : NV → Prop
  | mk {k : Int} {u l t : ByteArray} {ap : Option Addr} {al ac : Nat} {ats : List At} {kp : Option Addr} {kl kc : Nat} {ks : List NV}
      (ha : Sl w ap al 3 (rows atc ats)) (hn : ap = none → al = 0) (hac : al ≤ ac) (hk : Sl w kp kl 6 (rows NV.cells ks)) (hkn : kp = none → kl = 0) (hkc : kl ≤ kc) (hks : ∀ x ∈ ks, NV.Ok w x) : NV.Ok w (.mk k u l t ap al ac ats kp kl kc ks)
/-- The slices of a tree lie off some blocks. -/
inductive NV.Off (S : Nat → Prop) : NV → Prop
  | mk {k : Int} {u l t : ByteArray} {ap : Option Addr} {al ac : Nat} {ats : List At} {kp : Option Addr} {kl kc : Nat} {ks : List NV}
      (ha : off ap S) (hk : off kp S) (hks : ∀ x ∈ ks, NV.Off S x) : NV.Off S (.mk k u l t ap al ac ats kp kl kc ks)
theorem NV.off_no (v : NV) : NV.Off No v := by
  induction v using NV.ind with
  | h k u l t ap al ac ats kp kl kc ks ih => exact .mk (Vc.off_no _) (Vc.off_no _) ih
theorem NV.Ok.chg {w w' : World} {S : Nat → Prop} (hc : Chg S w w') : ∀ {v : NV}, NV.Ok w v → NV.Off S v → NV.Ok w' v := by
  intro v
  induction v using NV.ind with
  | h k u l t ap al ac ats kp kl kc ks ih =>
    intro h ho
    cases h with
    | mk ha hn hac hk hkn hkc hks =>
      cases ho with
      | mk oa ok oks => exact .mk (ha.chg hc oa) hn hac (hk.chg hc ok) hkn hkc fun x hx => ih x hx (hks x hx) (oks x hx)
theorem NV.Ok.chg0 {w w' : World} {v : NV} (h : NV.Ok w v) (hc : Chg No w w') : NV.Ok w' v := h.chg hc v.off_no
/-! All nodes, each ahead of its kids. -/
mutual
def NV.flat : NV → List NV
  | .mk k u l t ap al ac ats kp kl kc ks => .mk k u l t ap al ac ats kp kl kc ks :: NV.flatL ks
def NV.flatL : List NV → List NV
  | [] => []
  | x :: r => x.flat ++ NV.flatL r
end
mutual
def Nd.flat : Nd → List Nd
  | .mk k u l t ats ks => .mk k u l t ats ks :: Nd.flatL ks
def Nd.flatL : List Nd → List Nd
  | [] => []
  | x :: r => x.flat ++ Nd.flatL r
end
theorem flatL_append : ∀ a b : List NV, NV.flatL (a ++ b) = NV.flatL a ++ NV.flatL b
  | [], _ => rfl
  | x :: r, b => by simp [NV.flatL, flatL_append r b]
mutual
theorem flat_len : ∀ v : NV, v.flat.length ≤ v.mea
  | .mk k u l t ap al ac ats kp kl kc ks => by
    have := flatL_len ks
    simp only [NV.flat, NV.mea, List.length_cons]; omega
theorem flatL_len : ∀ ks : List NV, (NV.flatL ks).length ≤ NV.meaL ks
  | [] => Nat.le_refl _
  | x :: r => by
    have := flat_len x; have := flatL_len r
    simp only [NV.flatL, NV.meaL, List.length_append]; omega
end
mutual
theorem flat_nd : ∀ v : NV, v.flat.map NV.nd = v.nd.flat
  | .mk k u l t ap al ac ats kp kl kc ks => by
    have := flatL_nd ks
    simp only [NV.flat, NV.nd, Nd.flat, List.map_cons, this]
theorem flatL_nd : ∀ ks : List NV, (NV.flatL ks).map NV.nd = Nd.flatL (NV.ndL ks)
  | [] => rfl
  | x :: r => by
    have := flat_nd x; have := flatL_nd r
    simp only [NV.flatL, NV.ndL, Nd.flatL, List.map_append, *]
end
theorem flat_mem {v x : NV} (h : x ∈ v.flat) : ∀ {w : World}, NV.Ok w v → NV.Ok w x := by
  intro w
  induction v using NV.ind with
  | h k u l t ap al ac ats kp kl kc ks ih =>
    intro hv
    simp only [NV.flat, List.mem_cons] at h
    rcases h with rfl | h
    · exact hv
    · cases hv with
      | mk ha hn hac hk hkn hkc hks =>
        have key : ∀ ks' : List NV, (∀ y ∈ ks', y ∈ ks) → x ∈ NV.flatL ks' → NV.Ok w x := by
          intro ks'
          induction ks' with
          | nil => intro _ h; cases h
          | cons y r ihr =>
            intro hs h
            simp only [NV.flatL, List.mem_append] at h
            rcases h with h | h
            · exact ih y (hs y (by simp)) h (hks y (hs y (by simp)))
            · exact ihr (fun z hz => hs z (by simp [hz])) h
        exact key ks (fun y hy => hy) h
theorem flat_mea {v x : NV} (h : x ∈ v.flat) : x.mea ≤ v.mea := by
  induction v using NV.ind with
  | h k u l t ap al ac ats kp kl kc ks ih =>
    simp only [NV.flat, List.mem_cons] at h
    rcases h with rfl | h
    · exact Nat.le_refl _
    · have key : ∀ ks' : List NV, (∀ y ∈ ks', y ∈ ks) → x ∈ NV.flatL ks' → x.mea ≤ NV.meaL ks' := by
        intro ks'
        induction ks' with
        | nil => intro _ h; cases h
        | cons y r ihr =>
          intro hs h
          simp only [NV.flatL, List.mem_append] at h
          simp only [NV.meaL]
          rcases h with h | h
          · have := ih y (hs y (by simp)) h; omega
          · have := ihr (fun z hz => hs z (by simp [hz])) h; omega
      have := key ks (fun y hy => hy) h
      simp only [NV.mea]; omega
end Go.Vc

