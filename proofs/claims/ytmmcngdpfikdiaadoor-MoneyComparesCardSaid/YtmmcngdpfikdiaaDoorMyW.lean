/- Money held against money; the chapter's examples. Condition: the table of powers of ten. -/
import Derived.Test.YtmmcngdpfikdiaaDoorMyParse
import Derived.Test.YtmmcngdpfikdiaaDoorMyS2
import Derived.Laws.StructEq
namespace Go.Proofs.YtmmcngdpfikdiaaDoor.kit
open Go.RowKit Go.PlainAid
set_option linter.unusedVariables false

theorem moFields : Tryd.prog.underlying 23 = some (.struct (Tryd.prog.fieldsOf 23)) := by kernel_rfl
theorem moStood : Tryd.prog.stoodInHeld 23 = false := by kernel_rfl
theorem moGuard : Tryd.prog.eqGuardType Tryd.prog.depth 23 = false := by kernel_rfl
theorem len2 {α : Type} {l : List α} (h : l.length = 2) : ∃ a b, l = [a, b] := by
  rcases l with _ | ⟨a, _ | ⟨b, _ | ⟨c, l⟩⟩⟩
  all_goals first | exact ⟨_, _, rfl⟩ | (simp at h)
theorem eqMon (a b : Mon) (w : World) : (binOp .eql 23 (.agg #[.string a.cur, .int .i64 a.amt]) (.agg #[.string b.cur, .int .i64 b.amt])).run Tryd.prog w = .ok (.bool ((a.cur.toList == b.cur.toList) && (a.amt == b.amt))) w := by
  rw [run_eql_struct, show (10000 : Nat) = 9999 + 1 from rfl, run_equalIn_struct _ _ _ _ _ moFields moStood]
  have hf : (Tryd.prog.fieldsOf 23).toList.map (fun f => (f.name, f.type, f.offset)) = [("Currency", 9, 0), ("Amount", 2, 1)] := by kernel_rfl
  generalize (Tryd.prog.fieldsOf 23).toList = l at hf
  obtain ⟨f1, f2, rfl⟩ := len2 (show l.length = 2 by have := congrArg List.length hf; simpa using this)
  simp only [List.map_cons, List.map_nil, List.cons.injEq, Prod.mk.injEq, and_true] at hf
  obtain ⟨⟨h1, h2, h3⟩, h4, h5, h6⟩ := hf
  have q : ∀ (x y : Int), (Op.equalIn 9999 2 (.int .i64 x) (.int .i64 y)).run Tryd.prog w = .ok (x == y) w := fun x y => run_equalIn_int w 9998 _ _ _ _ _ Tryd.underlying2
  have qs : ∀ (x y : ByteArray), (Op.equalIn 9999 9 (.string x) (.string y)).run Tryd.prog w = .ok (x.toList == y.toList) w := fun x y => run_equalIn_string w 9998 _ _ _ Tryd.underlying9
  have hp : ∀ (x : ByteArray) (y : Int), (part 9 #[.string x, .int .i64 y] 0).run Tryd.prog w = .ok (.string x) w ∧ (part 2 #[.string x, .int .i64 y] 1).run Tryd.prog w = .ok (.int .i64 y) w :=
    fun x y => ⟨by kernel_rfl, by kernel_rfl⟩
  simp only [Op.eqFields, h1, h2, h3, h4, h5, h6, Sem.run_bind, Sem.run_ite, (hp _ _).1, (hp _ _).2, q, qs, Result.andThen_ok]
  cases e1 : a.cur.toList == b.cur.toList <;> cases e2 : a.amt == b.amt <;> simp_all
theorem eqMonGuard (xs ys : Array Value) (x y : Operand) (w : World) : (eqGuard .eql 23 x y (.agg xs) (.agg ys)).run Tryd.prog w = .ok () w := run_eqGuard_agg w _ _ _ _ _ _ moGuard
theorem scale_A : scaleV ⟨⟨#[85, 83, 68]⟩, -10⟩ 1 4 2 = (⟨⟨#[85, 83, 68]⟩, -3⟩, true) := by
  unfold scaleV
  rw [if_pos (by decide +kernel), if_pos (by decide +kernel)]
  exact congrArg (fun v => ((⟨⟨#[85, 83, 68]⟩, v⟩ : Mon), true)) (by decide +kernel)
theorem dec_A : Lib.decDigits 7 = [55] ∧ Lib.decDigits 0 = [48] := ⟨dec_small (by omega), dec_small (by omega)⟩
theorem text_A : textV ⟨⟨#[85, 83, 68]⟩, -5⟩ = ⟨#[85, 83, 68, 32, 45, 48, 46, 48, 53]⟩ := by
  unfold textV
  rw [if_pos (by decide +kernel), show digV (Mon.mk ⟨#[85, 83, 68]⟩ (-5)).cur = 2 by decide +kernel]
  unfold bodyL
  rw [show (Mon.mk ⟨#[85, 83, 68]⟩ (-5)).amt.natAbs / 10 ^ 2 = 0 by decide +kernel, dec_A.2]
  decide +kernel
theorem text_B : textV ⟨⟨#[74, 80, 89]⟩, 7⟩ = ⟨#[74, 80, 89, 32, 55]⟩ := by
  unfold textV
  rw [if_pos (by decide +kernel), show digV (Mon.mk ⟨#[74, 80, 89]⟩ 7).cur = 0 by decide +kernel]
  unfold bodyL
  rw [show (Mon.mk ⟨#[74, 80, 89]⟩ 7).amt.natAbs / 10 ^ 0 = 7 by decide +kernel, dec_A.1]
  decide +kernel
theorem parse_A : parseV ⟨#[74, 80, 89, 32, 55]⟩ = (⟨⟨#[74, 80, 89]⟩, 7⟩, 0) := by
  have hM : parseM ⟨#[74, 80, 89, 32, 55]⟩ = ⟨⟨#[74, 80, 89]⟩, 7⟩ := by
    have h1 : (⟨#[74, 80, 89, 32, 55]⟩ : ByteArray).extract 0 3 = ⟨#[74, 80, 89]⟩ := by decide +kernel
    have h2 : (if bt ⟨#[74, 80, 89, 32, 55]⟩ 4 = 45 then -(accF ⟨#[74, 80, 89, 32, 55]⟩ ((⟨#[74, 80, 89, 32, 55]⟩ : ByteArray).size - 4)) else accF ⟨#[74, 80, 89, 32, 55]⟩ ((⟨#[74, 80, 89, 32, 55]⟩ : ByteArray).size - 4)) = 7 := by decide +kernel
    unfold parseM
    rw [h1, h2]
  unfold parseV
  rw [hM, if_pos ⟨by decide, by decide, by decide +kernel, text_B⟩]
set_option maxRecDepth 100000 in
set_option maxHeartbeats 3200000 in
theorem awake_any (w : World) (ht : PowTab w) : Calls Tryd.prog 13 #[] w fun e w' => e = .returned (.bool true) ∧ Below w.heap.size w w' := by
  have HT := Lib.hid (Lib.tabBelow_of_tabIs ht)
  have HS := Lib.hid (fun w => scale2 ⟨⟨#[85, 83, 68]⟩, -10⟩ 1 4 w (by decide) (by unfold I64; omega) (by unfold I64; omega))
  rw [scale_A] at HS
  have HP := Lib.hid (fun w ht => parse_any ⟨#[74, 80, 89, 32, 55]⟩ w (by decide) ht)
  rw [parse_A] at HP
  have HX := Lib.hid (fun w ht => text_any ⟨⟨#[85, 83, 68]⟩, -5⟩ w (by decide) ht)
  rw [text_A] at HX
  have q1 := eqMon
  have q2 := eqMonGuard
  clear ht
  go_enter Tryd.func13, Tryd.ntmps13
  go_wp2_with fail
  refine (HS.out _).mono ?_
  rintro e w1 ⟨rfl, hb1⟩
  have hB2 : Below w.heap.size w (w1.alloc (.cells #[.string ⟨#[85, 83, 68]⟩, .int .i64 (-3)] 23)) := hb1.alloc hb1.size _
  have hM2 : Blk (w1.alloc (.cells #[.string ⟨#[85, 83, 68]⟩, .int .i64 (-3)] 23)) w1.heap.size 23 #[.string ⟨#[85, 83, 68]⟩, .int .i64 (-3)] := Blk.new _ _ _
  clear hb1
  go_wp2_with fail
  refine (HP.out _ (HT.out.on hB2).here).mono ?_
  rintro e w3 ⟨rfl, hb3⟩
  have hB3 := hB2.trans (hb3.mono hB2.size)
  have hM3 := hM2.below hb3 hM2.lt
  have hB4 : Below w.heap.size w (w3.alloc (.cells #[.string ⟨#[74, 80, 89]⟩, .int .i64 7] 23)) := hB3.alloc hB3.size _
  have hM4 := hM3.alloc (.cells #[.string ⟨#[74, 80, 89]⟩, .int .i64 7] 23)
  have hP4 : Blk (w3.alloc (.cells #[.string ⟨#[74, 80, 89]⟩, .int .i64 7] 23)) w3.heap.size 23 #[.string ⟨#[74, 80, 89]⟩, .int .i64 7] := Blk.new _ _ _
  have m0 := hM4.cell 0; have m1 := hM4.cell 1
  simp only [List.getElem?_toArray, List.getElem?_cons_zero, List.getElem?_cons_succ] at m0 m1
  clear hB2 hM2 hb3 hB3 hM3
  go_wp2_with fail
  refine (HX.out _ (HT.out.on hB4).here).mono ?_
  rintro e w5 ⟨rfl, hb5⟩
  have hB5 := hB4.trans (hb5.mono hB4.size)
  have hP5 := hP4.below hb5 hP4.lt
  have p0 := hP5.cell 0; have p1 := hP5.cell 1
  simp only [List.getElem?_toArray, List.getElem?_cons_zero, List.getElem?_cons_succ] at p0 p1
  go_wp2_with fail
  go_ret
  exact ⟨ret_bool (by simp), hB5⟩
end Go.Proofs.YtmmcngdpfikdiaaDoor.kit
