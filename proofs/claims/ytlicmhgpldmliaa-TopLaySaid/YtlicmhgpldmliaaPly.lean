/- Stretches made of numbers, one behind the other: plain words. No condition. -/
import Derived.Test.YtlicmhgpldmliaaPlain4
import Derived.Test.YtlicmhgpldmliaaSplit
namespace Go.Proofs.Ytlicmhgpldmliaa
open Go.Proofs.Ytlicmhgpldmliaa.kit
set_option linter.unusedVariables false
def mkS : Int → List Int → List Str
  | _, [] => []
  | h, n :: r => ⟨h, h + 1 + n % 20, n % 3⟩ :: mkS (h + 1 + n % 20) r
def hourS : Int → List Int → Int
  | h, [] => h
  | h, n :: r => hourS (h + 1 + n % 20) r
theorem mkS_snoc (n : Int) : ∀ (h : Int) (l : List Int), mkS h (l ++ [n]) = mkS h l ++ [⟨hourS h l, hourS h l + 1 + n % 20, n % 3⟩] ∧ hourS h (l ++ [n]) = hourS h l + 1 + n % 20
  | h, [] => ⟨rfl, rfl⟩
  | h, x :: r => by
    have := mkS_snoc n (h + 1 + x % 20) r
    simp only [List.cons_append, mkS, hourS]
    rw [this.1, this.2]
    exact ⟨rfl, rfl⟩
theorem mkS_len : ∀ (h : Int) (l : List Int), (mkS h l).length = l.length
  | _, [] => rfl
  | h, n :: r => by simp only [mkS, List.length_cons]; rw [mkS_len]
theorem hourS_bd : ∀ (h : Int) (l : List Int), h ≤ hourS h l ∧ hourS h l ≤ h + 20 * l.length
  | h, [] => by simp [hourS]
  | h, n :: r => by
    have := hourS_bd (h + 1 + n % 20) r
    simp only [hourS, List.length_cons]
    omega
theorem mkS_right : ∀ (h : Int) (l : List Int), 0 ≤ h → h + 20 * l.length ≤ 1048576 → ∀ x ∈ mkS h l, x.right
  | h, [], _, _, x, hx => by simp [mkS] at hx
  | h, n :: r, h0, h1, x, hx => by
    simp only [mkS, List.mem_cons] at hx
    simp only [List.length_cons] at h1
    rcases hx with rfl | hx
    · unfold Str.right; dsimp only; omega
    · exact mkS_right _ r (by omega) (by omega) x hx
theorem mkS_chain : ∀ (h : Int) (l : List Int), Chain h (mkS h l)
  | h, [] => trivial
  | h, n :: r => ⟨rfl, mkS_chain _ r⟩
theorem mkS_good (h : Int) (l : List Int) (h0 : 0 ≤ h) (h1 : h + 20 * l.length ≤ 1048576) : Good (mkS h l) := by
  cases l with
  | nil => exact trivial
  | cons n r => exact good_of _ _ (mkS_right h (n :: r) h0 h1) (mkS_chain _ r)
theorem good_front : ∀ (a b : List Str), Good (a ++ b) → Good a
  | [], _, _ => trivial
  | x :: r, b, h => ⟨h.1, fun y hy => h.2.1 y (by
      cases r with
      | nil => cases hy
      | cons z t => exact hy), good_front r b h.2.2⟩
theorem pb {a b : Int} (h0 : 0 ≤ a) (h1 : a ≤ 255) (h2 : 0 ≤ b) (h3 : b ≤ 2097152) : 0 ≤ a * b ∧ a * b ≤ 534773760 := by
  refine ⟨Int.mul_nonneg h0 h2, ?_⟩
  have := Int.mul_le_mul h1 h3 h2 (by omega : (0 : Int) ≤ 255)
  omega
structure Small (l : Lay) : Prop where
  f : 0 ≤ l.free ∧ l.free ≤ 255
  a : 0 ≤ l.late ∧ l.late ≤ 255
  s : 0 ≤ l.soon ∧ l.soon ≤ 255
theorem small_may {l : Lay} (h : Small l) : l.may = true := by
  have := h.f; have := h.a; have := h.s
  unfold Lay.may
  exact decide_eq_true (by omega)
theorem money_small {l : Lay} (h : Small l) {U : Int} (h0 : 0 ≤ U) (h1 : U ≤ 2097152) : (moneyOf l U).2 = 0 := by
  have hf := h.f; have ha := h.a; have hs := h.s
  have hb : sumOf l U ≤ 1099511627776 ∧ -1099511627776 ≤ sumOf l U := by
    unfold sumOf
    split
    · have := pb ha.1 ha.2 (show 0 ≤ U - 2 * l.free by omega) (by omega)
      omega
    · have := pb hs.1 hs.2 (show 0 ≤ -(U - 2 * l.free) by omega) (by omega)
      omega
  unfold moneyOf
  rw [if_neg (by omega)]
/-- What the top's law asks of the program's answers. -/
structure TopL (l : Lay) (at_ : Int) (xs : List Str) (U P m n : Int) : Prop where
  used : usedV l xs = (U, 0)
  split : splitV l at_ xs = (P, U - P, 0)
  again : usedV l (joined at_ xs) = (U, 0)
  part : usedV l (cutA at_ xs) = (P, 0)
  more : moneyV l xs = (m, 0)
  less : moneyV l (cutA at_ xs) = (n, 0)
  le : n ≤ m
  bd : 0 ≤ P ∧ P ≤ U ∧ U ≤ 2097152
theorem topL {l : Lay} (hl : Small l) (at_ : Int) (ns : List Int) (hn : ns.length ≤ 12) : ∃ U P m n, TopL l at_ (mkS 0 ns) U P m n := by
  have hm := small_may hl
  have hg := mkS_good 0 ns (by omega) (by omega)
  have hln := mkS_len 0 ns
  obtain ⟨xs, hxs⟩ : ∃ xs, mkS 0 ns = xs := ⟨_, rfl⟩
  rw [hxs] at hg hln ⊢
  have hF : 0 ≤ 2 * l.free := by have := hl.f; omega
  have hlen := cut_len at_ xs
  obtain ⟨jg, _, jl⟩ := joined_good at_ xs hg
  have hca := good_front (cutA at_ xs) (cutB at_ xs) jg
  have ck : ∀ ys, Good ys → ys.length ≤ 100 → wr l ys = 0 := fun ys hy hy2 => by
    have := chk_good ys 0 0 hy (fun h => absurd h (by omega)) (by omega)
    unfold wr
    rw [if_pos hm, this]
  have w1 := ck xs hg (by omega)
  have w2 := ck _ jg (by omega)
  have w3 := ck _ hca (by omega)
  have hck : (chk 0 0 xs).2 = 0 := (wr_ok w1).2
  obtain ⟨u0, u1⟩ := usesF_top hck (2 * l.free)
  obtain ⟨c1, c2, c3⟩ := usesF_cut (F := 2 * l.free) hF at_ xs (good_right _ hg)
  have e2 : moneyV l xs = moneyOf l (usesF (2 * l.free) xs) := by unfold moneyV; rw [if_pos w1]
  have e3 : moneyV l (cutA at_ xs) = moneyOf l (usesF (2 * l.free) (cutA at_ xs)) := by unfold moneyV; rw [if_pos w3]
  have m1 := money_small hl u0 u1
  have m2 := money_small hl c2 (by omega)
  refine ⟨_, _, _, _, ⟨by unfold usedV; rw [if_pos w1], by unfold splitV; rw [if_pos w1], by unfold usedV; rw [if_pos w2, usesF_joined hF at_ xs hg], by unfold usedV; rw [if_pos w3], by rw [e2, ← m1], by rw [e3, ← m2], ?_, c2, c3, u1⟩⟩
  rcases money_more l hm c2 c3 u1 with h | h | h
  · exact absurd m2 h
  · exact absurd m1 h
  · exact h
end Go.Proofs.Ytlicmhgpldmliaa
