/- What a name is, and the contracts of the functions that ask it. No condition. -/
import Derived.Test.YtdanjegnhdpnlaaGreatDoorKit
namespace Go.Proofs.YtdanjegnhdpnlaaGreatDoor.kit
open Go.RowKit
set_option linter.unusedVariables false

/-- A sign of a name. -/
def okc (c : UInt8) : Bool := decide ((97 ≤ (c.toNat : Int) ∧ (c.toNat : Int) ≤ 122) ∨ (48 ≤ (c.toNat : Int) ∧ (c.toNat : Int) ≤ 57) ∨ (c.toNat : Int) = 45)
theorem okc_cases (c : UInt8) : ((c.toNat : Int) < 45 ∧ ((c.toNat : Int) == 45) = false ∧ ((c.toNat : Int) != 45) = true ∧ okc c = false) ∨ ((45 ≤ (c.toNat : Int) ∧ (c.toNat : Int) ≤ 45) ∧ ((c.toNat : Int) == 45) = true ∧ ((c.toNat : Int) != 45) = false ∧ okc c = true) ∨
    ((45 < (c.toNat : Int) ∧ (c.toNat : Int) < 48) ∧ ((c.toNat : Int) == 45) = false ∧ ((c.toNat : Int) != 45) = true ∧ okc c = false) ∨ ((48 ≤ (c.toNat : Int) ∧ (c.toNat : Int) ≤ 57) ∧ ((c.toNat : Int) == 45) = false ∧ ((c.toNat : Int) != 45) = true ∧ okc c = true) ∨
    ((57 < (c.toNat : Int) ∧ (c.toNat : Int) < 97) ∧ ((c.toNat : Int) == 45) = false ∧ ((c.toNat : Int) != 45) = true ∧ okc c = false) ∨ ((97 ≤ (c.toNat : Int) ∧ (c.toNat : Int) ≤ 122) ∧ ((c.toNat : Int) == 45) = false ∧ ((c.toNat : Int) != 45) = true ∧ okc c = true) ∨
    (122 < (c.toNat : Int) ∧ ((c.toNat : Int) == 45) = false ∧ ((c.toNat : Int) != 45) = true ∧ okc c = false) := by
  unfold okc
  simp only [decide_eq_true_eq, decide_eq_false_iff_not, beq_eq_false_iff_ne, bne_iff_ne, beq_iff_eq, bne_eq_false_iff_eq, ne_eq]
  omega
/-- All signs are a name's. -/
def allok (l : List UInt8) : Bool := l.all okc
/-- A name. -/
def nameB (l : List UInt8) : Bool := decide (1 ≤ l.length ∧ l.length ≤ 16) && allok l
theorem allok_snoc (l : List UInt8) (c : UInt8) (h : allok l = true) (hc : okc c = true) : allok (l ++ [c]) = true := by
  unfold allok at h ⊢
  rw [List.all_append, h]; simp [hc]
theorem take_snoc (s : ByteArray) (k : Nat) (h : k < s.size) : s.data.toList.take (k + 1) = s.data.toList.take k ++ [s[k]] := by
  rw [List.take_succ_eq_append_getElem (by simpa using h)]; rfl
theorem len_list (s : ByteArray) : s.data.toList.length = s.size := by rw [Array.length_toList]; rfl
theorem all_bad {s : ByteArray} {k : Nat} (h : k < s.size) (hb : okc s[k] = false) : allok s.data.toList = false := by
  unfold allok
  rw [List.all_eq_false]
  exact ⟨s[k], by
    have : s.data.toList[k]? = some s[k] := by rw [List.getElem?_eq_getElem (by rw [len_list]; exact h)]; rfl
    exact List.mem_of_getElem? this, by simp [hb]⟩

end Go.Proofs.YtdanjegnhdpnlaaGreatDoor.kit
