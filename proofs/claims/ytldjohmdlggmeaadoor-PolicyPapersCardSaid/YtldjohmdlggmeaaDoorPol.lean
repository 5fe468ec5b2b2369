/- Policies: what may be, what is paid, in plain words. No condition. -/
import Derived.Test.YtldjohmdlggmeaaDoorNames
namespace Go.Proofs.YtldjohmdlggmeaaDoor.kit
open Go.RowKit
set_option linter.unusedVariables false

structure Pol where
  ins : ByteArray
  fr : ByteArray
  dst : ByteArray
  sum : Int
  own : Int
  cA : Option Addr
  cn : Nat
  cc : Nat
  first : Int
  last : Int
  share : Int
  causes : List Int
def intC (x : Int) : List Value := [.int .i64 x]
/-- What the cells of a policy are worth in a world: its texts are no longer than a text may be, its causes lie there. -/
structure Pol.ok (p : Pol) (w : World) : Prop where
  i : p.ins.size ≤ maxLen
  f : p.fr.size ≤ maxLen
  t : p.dst.size ≤ maxLen
  n : p.cn ≤ maxLen
  nc : p.cn ≤ p.cc
  c : SliceOf w 1 intC p.cA p.cn p.causes
theorem Pol.ok.below {p : Pol} {w w' : World} (h : p.ok w) (hb : Below w.heap.size w w') : p.ok w' := ⟨h.i, h.f, h.t, h.n, h.nc, h.c.below hb⟩

/-- Numbers that rise, each above p, from 0 to a greatest one. -/
def risesF (top : Int) : Int → List Int → Bool
  | _, [] => true
  | p, x :: xs => decide (p < x ∧ 0 ≤ x ∧ x ≤ top) && risesF top x xs
theorem rises_step {top : Int} {k : Nat} {xs : List Int} {p x : Int} (hx : xs[k]? = some x) : risesF top p (xs.drop k) = (decide (p < x ∧ 0 ≤ x ∧ x ≤ top) && risesF top x (xs.drop (k + 1))) := by
  obtain ⟨hk, hx⟩ := List.getElem?_eq_some_iff.1 hx
  rw [List.drop_eq_getElem_cons hk, hx, risesF]
theorem rises_end {top p : Int} {xs : List Int} {k : Nat} (h : xs.length ≤ k) : risesF top p (xs.drop k) = true := by rw [List.drop_eq_nil_of_le h]; rfl
def prevF (xs : List Int) (k : Nat) : Int := if k = 0 then -1 else xs.getD (k - 1) 0
theorem prev_succ {xs : List Int} {k : Nat} {x : Int} (hx : xs[k]? = some x) : prevF xs (k + 1) = x := by
  unfold prevF
  rw [if_neg (by omega), Nat.add_sub_cancel, List.getD_eq_getElem?_getD, hx]; rfl
def causesB (xs : List Int) : Bool := decide (xs.length ≤ 64) && risesF 1048576 (-1) xs
def inr (x lo hi : Int) : Bool := decide (lo ≤ x ∧ x ≤ hi)
def mayP (p : Pol) : Bool :=
  nameB p.ins.data.toList && nameB p.fr.data.toList && nameB p.dst.data.toList && inr p.sum 1 1099511627776 && inr p.own 0 p.sum && inr p.share 1 1000 &&
    inr p.first 0 1048576 && inr p.last p.first 1048576 && causesB p.causes
theorem may_iff {p : Pol} (h : mayP p = true) : (1 ≤ p.sum ∧ p.sum ≤ 1099511627776) ∧ (0 ≤ p.own ∧ p.own ≤ p.sum) ∧ (1 ≤ p.share ∧ p.share ≤ 1000) ∧ (0 ≤ p.first ∧ p.first ≤ 1048576) ∧ (p.first ≤ p.last ∧ p.last ≤ 1048576) ∧ causesB p.causes = true := by
  simp only [mayP, inr, Bool.and_eq_true, decide_eq_true_eq] at h
  obtain ⟨⟨⟨⟨⟨⟨⟨⟨_, _⟩, _⟩, h1⟩, h2⟩, h3⟩, h4⟩, h5⟩, h6⟩ := h
  exact ⟨h1, h2, h3, h4, h5, h6⟩
def longB (p : Pol) : Bool := decide (100 < p.ins.size) || decide (100 < p.fr.size) || decide (100 < p.dst.size) || decide (100 < p.cn)

/-! what is paid -/
def fineB (p : Pol) (v : Int) : Bool := mayP p && inr v 1 1099511627776
def insV (p : Pol) (v : Int) : Int := min v p.sum
def partV (p : Pol) (l v : Int) : Int := min l v * insV p v / v
def payV (p : Pol) (l v : Int) : Int := max (partV p l v - p.own) 0 * p.share / 1000
def paysB (p : Pol) (l v : Int) : Bool := fineB p v && inr l 0 1099511627776
section
variable {p : Pol} {l v : Int}
theorem part_bd (hv : 1 ≤ v) (hl : 0 ≤ l) (hs : 1 ≤ p.sum) : 0 ≤ partV p l v ∧ partV p l v ≤ l ∧ partV p l v ≤ v ∧ partV p l v ≤ insV p v := by
  have hi : 1 ≤ insV p v ∧ insV p v ≤ v := by unfold insV; omega
  have hm : 0 ≤ min l v ∧ min l v ≤ v ∧ min l v ≤ l := by omega
  unfold partV
  generalize insV p v = i at *
  generalize min l v = m at *
  have h0 : 0 ≤ m * i / v := Int.ediv_nonneg (Int.mul_nonneg hm.1 (by omega)) (by omega)
  have h1 : m * i / v ≤ i := Int.ediv_le_of_le_mul (by omega) (by rw [Int.mul_comm]; exact Int.mul_le_mul_of_nonneg_left hm.2.1 (by omega))
  have h2 : m * i / v ≤ m := Int.ediv_le_of_le_mul (by omega) (Int.mul_le_mul_of_nonneg_left hi.2 hm.1)
  exact ⟨h0, by omega, by omega, h1⟩
theorem thou_le {n s : Int} (hn : 0 ≤ n) (hs : 0 ≤ s ∧ s ≤ 1000) : 0 ≤ n * s / 1000 ∧ n * s / 1000 ≤ n := by
  have h1 : 0 ≤ n * s := Int.mul_nonneg hn hs.1
  have h2 : n * s ≤ n * 1000 := Int.mul_le_mul_of_nonneg_left hs.2 hn
  omega
theorem pay_bd (hv : 1 ≤ v) (hl : 0 ≤ l) (hm : mayP p = true) : 0 ≤ payV p l v ∧ payV p l v ≤ l ∧ payV p l v ≤ v ∧ payV p l v ≤ insV p v := by
  obtain ⟨h1, h2, h3, _⟩ := may_iff hm
  have hp := part_bd hv hl h1.1
  have := thou_le (n := max (partV p l v - p.own) 0) (s := p.share) (by omega) (by omega)
  unfold payV
  omega
theorem ins_bd (hv : 1 ≤ v) (hs : 1 ≤ p.sum) : 1 ≤ insV p v ∧ insV p v ≤ v ∧ insV p v ≤ p.sum := by unfold insV; omega
/-- A greater loss has no lesser part. -/
theorem part_mono {m : Int} (hv : 1 ≤ v) (hl : 0 ≤ l) (hs : 1 ≤ p.sum) (hm : l ≤ m) : partV p l v ≤ partV p m v := by
  have hi := ins_bd (p := p) hv hs
  unfold partV
  exact Int.ediv_le_ediv (by omega) (Int.mul_le_mul_of_nonneg_right (by omega) (by omega))
theorem thou_mono {a b s : Int} (h : a ≤ b) (hs : 0 ≤ s) : a * s / 1000 ≤ b * s / 1000 := Int.ediv_le_ediv (by omega) (Int.mul_le_mul_of_nonneg_right h hs)
theorem pay_more {m : Int} (hv : 1 ≤ v) (hl : 0 ≤ l) (hp : mayP p = true) (hm : l ≤ m) : payV p l v ≤ payV p m v := by
  obtain ⟨h1, h2, h3, _⟩ := may_iff hp
  have := part_mono (p := p) hv hl h1.1 hm
  exact thou_mono (by omega) (by omega)
theorem pay_own {o : Int} (hp : mayP p = true) (ho : 0 ≤ o) : payV { p with own := p.own + o } l v ≤ payV p l v := by
  obtain ⟨h1, h2, h3, _⟩ := may_iff hp
  refine thou_mono ?_ (by show 0 ≤ p.share; omega)
  show max (partV p l v - (p.own + o)) 0 ≤ max (partV p l v - p.own) 0
  omega
theorem pay_whole (hv : 1 ≤ v) (hl : 0 ≤ l) (hs : v ≤ p.sum) : payV { p with own := 0, share := 1000 } l v = min l v := by
  show max (min l v * min v p.sum / v - 0) 0 * 1000 / 1000 = min l v
  have e : min l v * v / v = min l v := Int.mul_ediv_cancel _ (by omega)
  rw [show min v p.sum = v by omega, e]
  omega
theorem may_own {o : Int} (hp : mayP p = true) (h0 : 0 ≤ o) (h1 : o ≤ p.sum) : mayP { p with own := o } = true := by
  simp only [mayP, inr, Bool.and_eq_true, decide_eq_true_eq] at hp ⊢
  exact ⟨⟨⟨⟨⟨⟨⟨⟨hp.1.1.1.1.1.1.1.1, hp.1.1.1.1.1.1.1.2⟩, hp.1.1.1.1.1.1.2⟩, hp.1.1.1.1.1.2⟩, ⟨h0, h1⟩⟩, hp.1.1.1.2⟩, hp.1.1.2⟩, hp.1.2⟩, hp.2⟩
theorem may_share {s s' : Int} (h0 : 1 ≤ s ∧ s ≤ 1000) (h1 : 1 ≤ s' ∧ s' ≤ 1000) : mayP { p with share := s } = mayP { p with share := s' } := by
  simp only [mayP, inr, h0, h1]
/-- Two shares, together the whole. -/
theorem thou_two {x s : Int} (hx : 0 ≤ x) : x * s / 1000 + x * (1000 - s) / 1000 ≤ x * 1000 / 1000 ∧ x * 1000 / 1000 - 1 ≤ x * s / 1000 + x * (1000 - s) / 1000 := by
  have e : x * (1000 - s) = x * 1000 - x * s := Int.mul_sub x 1000 s
  rw [e]
  generalize x * s = y
  omega
end

/-! the document's long division, by twenty bits -/
theorem scaled_eq (a b c : Nat) (hc : 0 < c) : let h := a * (b / 1048576); let l := a * (b % 1048576)
    a * b / c = h * 1048576 / c + l / c + (if c ≤ h * 1048576 % c + l % c then 1 else 0) := by
  intro h l
  have e : a * b = h * 1048576 + l := by
    show a * b = a * (b / 1048576) * 1048576 + a * (b % 1048576)
    rw [Nat.mul_assoc, ← Nat.mul_add]
    congr 1
    omega
  rw [e]
  generalize h * 1048576 = x
  have h1 := Nat.div_add_mod x c
  have h2 := Nat.div_add_mod l c
  have m1 := Nat.mod_lt x hc
  have m2 := Nat.mod_lt l hc
  have e2 : x + l = c * (x / c + l / c) + (x % c + l % c) := by rw [Nat.mul_add]; omega
  rw [e2, Nat.mul_add_div hc]
  by_cases hh : c ≤ x % c + l % c
  · have e3 : (x % c + l % c) / c = 1 := by
      rw [Nat.div_eq_iff hc]; omega
    rw [if_pos hh, e3]
  · have e3 : (x % c + l % c) / c = 0 := Nat.div_eq_of_lt (by omega)
    rw [if_neg hh, e3]
theorem dbl_step (x c : Nat) (hc : 0 < c) : 2 * x / c = 2 * (x / c) + (if c ≤ 2 * (x % c) then 1 else 0) ∧ 2 * x % c = (if c ≤ 2 * (x % c) then 2 * (x % c) - c else 2 * (x % c)) := by
  have h1 := Nat.div_add_mod x c
  have m1 := Nat.mod_lt x hc
  have e2 : 2 * x = c * (2 * (x / c)) + 2 * (x % c) := by rw [Nat.mul_left_comm]; omega
  constructor
  · rw [e2, Nat.mul_add_div hc]
    by_cases hh : c ≤ 2 * (x % c)
    · have e3 : 2 * (x % c) / c = 1 := by
        rw [Nat.div_eq_iff hc]; omega
      rw [if_pos hh, e3]
    · have e3 : 2 * (x % c) / c = 0 := Nat.div_eq_of_lt (by omega)
      rw [if_neg hh, e3]
  · rw [e2, Nat.mul_add_mod]
    by_cases hh : c ≤ 2 * (x % c)
    · rw [if_pos hh, Nat.mod_eq_sub_mod hh, Nat.mod_eq_of_lt (by omega)]
    · rw [if_neg hh, Nat.mod_eq_of_lt (by omega)]
end Go.Proofs.YtldjohmdlggmeaaDoor.kit
