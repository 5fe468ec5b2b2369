/- The last day of a credit, in numbers. No condition. -/
import Derived.Test.YtfiflmgjcmmomaaLateC
import Derived.Laws.Tables
namespace Go.Proofs.Ytfiflmgjcmmomaa
open Go.RowKit Go.Proofs.Ytfiflmgjcmmomaa.kit Go.Proofs.Ytfiflmgjcmmomaa.cal
set_option linter.unusedVariables false

theorem next_bd {c : Cal} {d : Int} (h : (nextV c d).2 = true) : isDayB d = true ∧ d ≤ (nextV c d).1 ∧ (nextV c d).1 ≤ 1048576 := by
  unfold nextV at h ⊢
  cases hd : isDayB d
  · rw [hd] at h; simp at h
  · rw [hd] at h
    have hd' : 0 ≤ d ∧ d ≤ 1048576 := of_decide_eq_true hd
    simp only [if_true] at h ⊢
    have := up_bd c _ 1 (by omega) (by omega) h
    exact ⟨by first | trivial | rfl, by omega, by omega⟩
def lastR (la ex wi : Int) : Cr := ⟨⟨#[]⟩, ⟨#[]⟩, ⟨#[]⟩, ⟨#[]⟩, ⟨#[]⟩, ⟨#[]⟩, ⟨#[]⟩, ⟨#[]⟩, 0, 0, 0, la, ex, wi, 0, false, false, none, 0, 0⟩
def endV (c : Cal) (ex s wi : Int) : Int := if (nextV c (s + wi)).2 = true then min (nextV c ex).1 (nextV c (s + wi)).1 else (nextV c ex).1
section
variable {c : Cal} {ex s wi : Int} (hok : (nextV c ex).2 = true) (hs : 0 ≤ s ∧ s ≤ (nextV c ex).1) (hw : 0 ≤ wi ∧ wi ≤ 1048576)
include hok hs hw
theorem end_bd : s ≤ endV c ex s wi ∧ endV c ex s wi ≤ 1048576 ∧ shipV c s wi (nextV c ex).1 = endV c ex s wi := by
  have h1 := next_bd hok
  unfold endV shipV
  by_cases h : (nextV c (s + wi)).2 = true
  · have h2 := next_bd h
    rw [if_pos h]
    refine ⟨by omega, by omega, ?_⟩
    by_cases hl : (nextV c (s + wi)).1 ≤ (nextV c ex).1
    · rw [if_pos ⟨h, hl⟩]; omega
    · rw [if_neg (fun h' => hl h'.2)]; omega
  · rw [if_neg h, if_neg (fun h' => h h'.1)]
    exact ⟨by omega, by omega, rfl⟩
theorem last_five (la pr : Int) (hla : 0 ≤ la ∧ la ≤ s) (hp : 0 ≤ pr ∧ pr ≤ 1048576) : fiveDays (lastR la ex wi) s pr = true := by
  have h1 := next_bd hok
  have day : ∀ x : Int, 0 ≤ x → x ≤ 1048576 → isDayB x = true := fun x h h' => decide_eq_true ⟨h, h'⟩
  rw [five_eq]
  show (isDayB s && (isDayB pr && (isDayB la && (isDayB ex && isDayB wi)))) = true
  rw [day s (by omega) (by omega), day pr (by omega) (by omega), day la (by omega) (by omega), h1.1, day wi (by omega) (by omega)]
  rfl
theorem last_ok : lateV c (lastR s ex wi) s (endV c ex s wi) = 0 := by
  have hb := end_bd hok hs hw
  rw [lateV_eq, if_pos (last_five hok hs hw s _ (by omega) (by omega))]
  show (if (nextV c ex).2 = true then if endV c ex s wi < s then 6 else if s < s then 11 else if shipV c s wi (nextV c ex).1 < endV c ex s wi then 11 else 0 else 4) = (0 : Int)
  rw [if_pos hok, if_neg (by omega), if_neg (by omega), if_neg (by omega)]
theorem last_next (h : endV c ex s wi < 1048576) : lateV c (lastR s ex wi) s (endV c ex s wi + 1) = 11 := by
  have hb := end_bd hok hs hw
  rw [lateV_eq, if_pos (last_five hok hs hw s _ (by omega) (by omega))]
  show (if (nextV c ex).2 = true then if endV c ex s wi + 1 < s then 6 else if s < s then 11 else if shipV c s wi (nextV c ex).1 < endV c ex s wi + 1 then 11 else 0 else 4) = (11 : Int)
  rw [if_pos hok, if_neg (by omega), if_neg (by omega), if_pos (by omega)]
theorem last_early (h : s ≠ 0) : lateV c (lastR (s - 1) ex wi) s (endV c ex s wi) = 11 := by
  have hb := end_bd hok hs hw
  rw [lateV_eq, if_pos (last_five hok hs hw (s - 1) _ (by omega) (by omega))]
  show (if (nextV c ex).2 = true then if endV c ex s wi < s then 6 else if s - 1 < s then 11 else if shipV c s wi (nextV c ex).1 < endV c ex s wi then 11 else 0 else 4) = (11 : Int)
  rw [if_pos hok, if_neg (by omega), if_pos (by omega)]
theorem last_order (h : s ≠ 0) : lateV c (lastR s ex wi) s (s - 1) = 6 := by
  have hb := end_bd hok hs hw
  rw [lateV_eq, if_pos (last_five hok hs hw s _ (by omega) (by omega))]
  show (if (nextV c ex).2 = true then if s - 1 < s then 6 else if s < s then 11 else if shipV c s wi (nextV c ex).1 < s - 1 then 11 else 0 else 4) = (6 : Int)
  rw [if_pos hok, if_pos (by omega)]
end
/-- A credit of three fields, built in one step. -/
theorem build_cr (s ex wi : Int) (w : World) : (Instr.build 42 #[(10, .int .i64 s), (11, .int .i64 ex), (12, .int .i64 wi)]).run Try.prog w = .ok (.agg #[.string { data := #[] }, .string { data := #[] }, .string { data := #[] }, .string { data := #[] }, .string { data := #[] }, .string { data := #[] }, .string { data := #[] }, .string { data := #[] }, .int .i64 0, .int .i64 0, .int .i64 0, .int .i64 s, .int .i64 ex, .int .i64 wi, .int .i64 0, .bool false, .bool false, .slice none 0 0]) w := run_build w _ _ _ (by kernel_rfl)
end Go.Proofs.Ytfiflmgjcmmomaa
