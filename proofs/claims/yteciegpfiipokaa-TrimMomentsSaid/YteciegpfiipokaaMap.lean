/- The map of taken slots: what it holds, read and written. No condition. -/
import Derived.Test.YteciegpfiipokaaBase
import Derived.Maps.Own
import Derived.Maps.Views
import Derived.DeepKeys4
namespace Go.Proofs.Yteciegpfiipokaa
open Go.RowKit Go.Proofs.Yteciegpfiipokaa.kit Go.Maps Go.WideMaps
set_option linter.unusedVariables false

theorem laidOut : laidOutB Try.prog = true := by kernel_rfl
abbrev Sl := Int × Int × Int
def slV (x : Sl) : Value := .agg #[.int .i64 x.1, .int .i64 x.2.1, .int .i64 x.2.2]
def slI (x : Sl) : Prop := I64 x.1 ∧ I64 x.2.1 ∧ I64 x.2.2
theorem slRow : (38 : TypeId) < Try.prog.types.size := of_decide_eq_true (by kernel_rfl)
theorem slWide : (match Try.prog.underlying 38 with | some (.array _ _) | some (.struct _) => true | _ => false) = true := by rw [Try.underlying38]
theorem slKeyed : Keyed Try.prog 38 := Keyed.of_law (deep_law_laid laidOut (m := 2) (by omega) slRow (by kernel_rfl) slWide)
theorem slCells : Try.prog.cellsOf 38 = 3 := by kernel_rfl
theorem inCells : Try.prog.cellsOf 3 = 1 := by kernel_rfl
theorem slType : Try.prog.keyType 38 = true := by kernel_rfl
theorem wf_of_i64 {n : Int} (h : I64 n) : (Lit.int .i64 n).wf = true := by
  unfold I64 at h
  simp [Lit.wf, IntKind.min, IntKind.max, IntKind.signed, IntKind.bits]
  omega
theorem slKey (x : Sl) (h : slI x) : ∃ kl, keyOf Try.prog 38 (slV x) = some kl := by
  obtain ⟨n, hn⟩ : ∃ n, Try.prog.types.size = n + 1 := Nat.exists_eq_succ_of_ne_zero (Nat.pos_iff_ne_zero.1 (Nat.lt_of_le_of_lt (Nat.zero_le _) slRow))
  have hf : (slV x).formed Try.prog 38 = true := by simp [slV, Value.formed, Try.underlying38, slCells]
  obtain ⟨a, b, c⟩ := x
  obtain ⟨h1, h2, h3⟩ := h
  have w1 := wf_of_i64 h1
  have w2 := wf_of_i64 h2
  have w3 := wf_of_i64 h3
  simp only at w1 w2 w3
  unfold keyOf
  simp only [Try.underlying38, slType, hf, hn]
  simp [Program.keyLits, Try.underlying38, Try.underlying3, slV, Value.cells, slCells, inCells, w1, w2, w3]

/-- Block b is a map of at most n slots, just those of l. -/
def MapIs (w : World) (b n : Nat) (l : List Sl) : Prop := ∃ D : DataW Unit, w.ownsMap Try.prog 38 (plainElem Try.prog 4) b n D ∧ IsMap D ∧
  ∀ x kl, keyOf Try.prog 38 (slV x) = some kl → D.atKey kl (.lit (.bool false)) = .lit (.bool (l.contains x))
theorem MapIs.made (w : World) : MapIs (w.alloc (.map #[] 0)) w.heap.size 0 [] :=
  ⟨.map [], World.ownsMap_made w _ _ _, isMap_empty, fun _ _ _ => rfl⟩
theorem MapIs.kept {w w' : World} {row : Option Nat} {b n : Nat} {l : List Sl} (h : MapIs w b n l) (hg : w.grownBy w' row) (hne : some b ≠ row) : MapIs w' b n l := by
  obtain ⟨D, h1, h2, h3⟩ := h
  exact ⟨D, h1.kept hg hne, h2, h3⟩
theorem MapIs.look {w : World} {b n : Nat} {l : List Sl} (h : MapIs w b n l) (x : Sl) (hx : slI x) :
    (Instr.lookup 60 (.map (some b)) (slV x) false).run Try.prog w = .ok (.bool (l.contains x)) w := by
  obtain ⟨D, h1, h2, h3⟩ := h
  obtain ⟨kl, hk⟩ := slKey x hx
  obtain ⟨v, ps, hr, hv⟩ := h1.lookup slKeyed Try.underlying60 (z := .bool false) (by kernel_rfl) (plainElem_bool Try.underlying4 false) hk
  rw [h3 x kl hk] at hv
  have : v = .bool (l.contains x) := by
    unfold plainElem at hv
    rw [Try.underlying4] at hv
    cases v <;> simp at hv
    simp [hv.1]
  rw [hr, this]
theorem MapIs.put {w : World} {b n : Nat} {l : List Sl} (h : MapIs w b n l) (hn : n < maxLen) (x : Sl) (hx : slI x) :
    ∃ w', (Instr.mapUpdate 60 (.map (some b)) (slV x) (.bool true)).run Try.prog w = .ok () w' ∧ MapIs w' b (n + 1) (x :: l) ∧ w.grownBy w' (some b) := by
  obtain ⟨D, h1, h2, h3⟩ := h
  obtain ⟨kl, hk⟩ := slKey x hx
  obtain ⟨w', hr, ho, hg⟩ := h1.update slKeyed Try.underlying60 hn hk (plainElem_bool Try.underlying4 true)
  refine ⟨w', hr, ⟨_, ho, h2.put _ _, fun y kl' hk' => ?_⟩, hg⟩
  by_cases e : kl' = kl
  · subst e
    have : slV y = slV x := slKeyed.inj hk' hk
    have e1 : y = x := by
      obtain ⟨a, b, c⟩ := y
      obtain ⟨a', b', c'⟩ := x
      simp [slV] at this
      simp [this]
    subst e1
    rw [atKey_put_same h2 (slKeyed.key hk)]
    simp
  · rw [atKey_put_other e, h3 y kl' hk']
    have : y ≠ x := by
      rintro rfl
      rw [hk] at hk'
      exact e (Option.some.inj hk').symm
    simp [this]
end Go.Proofs.Yteciegpfiipokaa
