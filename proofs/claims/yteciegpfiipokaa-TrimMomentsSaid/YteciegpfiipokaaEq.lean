/- Two slots held against one another. No condition. -/
import Derived.Test.YteciegpfiipokaaMap
import Derived.Laws.StructEq
namespace Go.Proofs.Yteciegpfiipokaa
open Go.RowKit Go.Proofs.Yteciegpfiipokaa.kit
set_option linter.unusedVariables false

theorem slFields : Try.prog.underlying 38 = some (.struct (Try.prog.fieldsOf 38)) := by kernel_rfl
theorem slStood : Try.prog.stoodInHeld 38 = false := by kernel_rfl
theorem slGuard : Try.prog.eqGuardType Try.prog.depth 38 = false := by kernel_rfl
theorem len3 {α : Type} {l : List α} (h : l.length = 3) : ∃ a b c, l = [a, b, c] := by
  rcases l with _ | ⟨a, _ | ⟨b, _ | ⟨c, _ | ⟨d, l⟩⟩⟩⟩
  all_goals first | exact ⟨_, _, _, rfl⟩ | (simp at h)
theorem eqSlot (a b c a' b' c' : Int) (w : World) : (binOp .eql 38 (.agg #[.int .i64 a, .int .i64 b, .int .i64 c]) (.agg #[.int .i64 a', .int .i64 b', .int .i64 c'])).run Try.prog w = .ok (.bool (((a, b, c) : Sl) == (a', b', c'))) w := by
  rw [run_eql_struct, show (10000 : Nat) = 9999 + 1 from rfl, run_equalIn_struct _ _ _ _ _ slFields slStood]
  have hf : (Try.prog.fieldsOf 38).toList.map (fun f => (f.name, f.type, f.offset)) = [("Bay", 3, 0), ("Row", 3, 1), ("Tier", 3, 2)] := by kernel_rfl
  generalize (Try.prog.fieldsOf 38).toList = l at hf
  obtain ⟨f1, f2, f3, rfl⟩ := len3 (show l.length = 3 by have := congrArg List.length hf; simpa using this)
  simp only [List.map_cons, List.map_nil, List.cons.injEq, Prod.mk.injEq, and_true] at hf
  obtain ⟨⟨h1, h2, h3⟩, ⟨h4, h5, h6⟩, h7, h8, h9⟩ := hf
  have q : ∀ (x y : Int), (Op.equalIn 9999 3 (.int .i64 x) (.int .i64 y)).run Try.prog w = .ok (x == y) w := fun x y => run_equalIn_int w 9998 _ _ _ _ _ Try.underlying3
  have hp : ∀ (x y z : Int), (part 3 #[.int .i64 x, .int .i64 y, .int .i64 z] 0).run Try.prog w = .ok (.int .i64 x) w ∧ (part 3 #[.int .i64 x, .int .i64 y, .int .i64 z] 1).run Try.prog w = .ok (.int .i64 y) w ∧ (part 3 #[.int .i64 x, .int .i64 y, .int .i64 z] 2).run Try.prog w = .ok (.int .i64 z) w :=
    fun x y z => ⟨by kernel_rfl, by kernel_rfl, by kernel_rfl⟩
  simp only [Op.eqFields, h1, h2, h3, h4, h5, h6, h7, h8, h9, Sem.run_bind, Sem.run_ite, (hp _ _ _).1, (hp _ _ _).2.1, (hp _ _ _).2.2, q, Result.andThen_ok]
  cases e1 : a == a' <;> cases e2 : b == b' <;> cases e3 : c == c' <;> simp_all
theorem eqSlotGuard (xs ys : Array Value) (x y : Operand) (w : World) : (eqGuard .eql 38 x y (.agg xs) (.agg ys)).run Try.prog w = .ok () w := run_eqGuard_agg w _ _ _ _ _ _ slGuard
end Go.Proofs.Yteciegpfiipokaa
