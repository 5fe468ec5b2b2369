/- Voyages, calls, legs: what they are, how they lie in memory, what a way is. No condition. -/
import Derived.Test.YtlicmhgpldmliaaOwn
import Derived.Test.YtlicmhgpldmliaaMore
import Derived.Test.YtlicmhgpldmliaaStep
import Derived.Test.YtlicmhgpldmliaaTMap
import Derived.Test.YtlicmhgpldmliaaFr
import Derived.Test.YtlicmhgpldmliaaNames
namespace Go.Proofs.Ytlicmhgpldmliaa.kit
open Go.RowKit
set_option linter.unusedVariables false

theorem sz_alloc (w : World) (o : Obj) : (w.alloc o).heap.size = w.heap.size + 1 := Array.size_push _
structure Cl where
  port : ByteArray
  cut : Int
  arr : Int
  dep : Int
def clC (x : Cl) : List Value := [.string x.port, .int .i64 x.cut, .int .i64 x.arr, .int .i64 x.dep]
theorem cl_len (x : Cl) : (clC x).length = 4 := rfl
structure Vy where
  ship : ByteArray
  A : Option Addr
  n : Nat
  c : Nat
  cs : List Cl
def vyC (x : Vy) : List Value := [.string x.ship, .slice x.A x.n x.c]
theorem vy_len (x : Vy) : (vyC x).length = 2 := rfl
theorem vy_one (xs : List Vy) : ∀ u ∈ xs.flatMap vyC, u.oneCell' = true := by
  intro u hu
  obtain ⟨x, _, hx⟩ := List.mem_flatMap.1 hu
  simp [vyC] at hx
  rcases hx with rfl | rfl <;> rfl
structure Lg where
  v : Nat
  f : Nat
  t : Nat
def lgC (x : Lg) : List Value := [.int .i64 x.v, .int .i64 x.f, .int .i64 x.t]
theorem lg_len (x : Lg) : (lgC x).length = 3 := rfl
theorem lg_one (xs : List Lg) : ∀ u ∈ xs.flatMap lgC, u.oneCell' = true := by
  intro u hu
  obtain ⟨x, _, hx⟩ := List.mem_flatMap.1 hu
  simp [lgC] at hx
  rcases hx with rfl | rfl | rfl <;> rfl
/-- The calls of each voyage lie there. -/
def Lie (W : World) (vs : List Vy) : Prop := ∀ v ∈ vs, SliceOf W 4 clC v.A v.n v.cs
theorem Lie.below {W W' : World} {vs : List Vy} (h : Lie W vs) (hb : Below W.heap.size W W') : Lie W' vs := fun v hv => (h v hv).below hb
theorem Lie.fr {W W' : World} {vs : List Vy} {S : Nat → Prop} (h : Lie W vs) (hf : Fr S W W') (hn : ∀ v ∈ vs, ∀ b off, v.A = some ⟨b, off, none⟩ → ¬ S b) : Lie W' vs := fun v hv => (h v hv).fr hf (hn v hv)
/-- What a call of a voyage that may be is like. -/
def DayOK (d : Int) : Prop := 0 ≤ d ∧ d ≤ 1048576
def ClOK (x : Cl) : Prop := nameB x.port.data.toList = true ∧ DayOK x.cut ∧ DayOK x.arr ∧ DayOK x.dep ∧ x.arr ≤ x.dep ∧ x.cut ≤ x.dep
def VyOK (v : Vy) : Prop := nameB v.ship.data.toList = true ∧ (∀ (i : Nat) (x : Cl), v.cs[i]? = some x → ClOK x) ∧ (∀ (i : Nat) (x y : Cl), v.cs[i]? = some x → v.cs[i + 1]? = some y → (y.port.toList == x.port.toList) = false ∧ x.dep ≤ y.arr) ∧ 1 ≤ v.cs.length
/-- Behind a call each other one lies later. -/
theorem VyOK.later {v : Vy} (h : VyOK v) : ∀ (k i : Nat) (x y : Cl), v.cs[i]? = some x → v.cs[i + k + 1]? = some y → x.dep ≤ y.arr
  | 0, i, x, y, hx, hy => (h.2.2.1 i x y hx hy).2
  | k + 1, i, x, y, hx, hy => by
    have hlt := (List.getElem?_eq_some_iff.1 hy).1
    obtain ⟨z, hz⟩ : ∃ z, v.cs[i + k + 1]? = some z := ⟨_, List.getElem?_eq_getElem (by omega)⟩
    have h1 := VyOK.later h k i x z hx hz
    have h2 := (h.2.2.1 (i + k + 1) z y hz (by rw [← hy]; congr 1)).2
    have h3 := (h.2.1 _ z hz).2.2.2.2.1
    omega
/-- The calls of a leg, where it is one. -/
def legA (vs : List Vy) (l : Lg) : Option (Vy × Cl × Cl) := (vs[l.v]?).bind fun v => (v.cs[l.f]?).bind fun a => (v.cs[l.t]?).bind fun b => if l.f < l.t then some (v, a, b) else none
theorem legA_some {vs : List Vy} {l : Lg} {v : Vy} {a b : Cl} : legA vs l = some (v, a, b) ↔ vs[l.v]? = some v ∧ v.cs[l.f]? = some a ∧ v.cs[l.t]? = some b ∧ l.f < l.t := by
  unfold legA
  constructor
  · intro h
    simp only [Option.bind_eq_some_iff] at h
    obtain ⟨v', h1, a', h2, b', h3, h4⟩ := h
    split at h4
    · rename_i h5
      injection h4 with h4
      injection h4 with h6 h4
      injection h4 with h7 h8
      subst h6 h7 h8
      exact ⟨h1, h2, h3, h5⟩
    · cases h4
  · rintro ⟨h1, h2, h3, h4⟩
    simp [h1, h2, h3, h4]
/-- The legs are a way from 'from' at day 'ready' to p, there at day d; n of them at most. -/
inductive WayP (vs : List Vy) (fr : ByteArray) (ready ch : Int) : List Lg → ByteArray → Int → Prop
  | here : WayP vs fr ready ch [] fr ready
  | on {ls : List Lg} {q : ByteArray} {d : Int} {l : Lg} {v : Vy} {a b : Cl} (h : WayP vs fr ready ch ls q d) (hl : legA vs l = some (v, a, b)) (hv : VyOK v) (ha : a.port = q) (hc : (if q = fr then d else d + ch) ≤ a.cut) (hb : b.port ≠ fr) : WayP vs fr ready ch (ls ++ [l]) b.port b.arr
end Go.Proofs.Ytlicmhgpldmliaa.kit
