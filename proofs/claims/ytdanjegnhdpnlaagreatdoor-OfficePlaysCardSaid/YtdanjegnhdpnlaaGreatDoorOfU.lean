/- An office: how far a deal is; two rows of letters that say the same are one. No condition. -/
import Derived.Test.YtdanjegnhdpnlaaGreatDoorOfT
import Derived.Laws.StructEq
namespace Go.Proofs.YtdanjegnhdpnlaaGreatDoor.kit
open Go.RowKit Go.PlainAid
set_option linter.unusedVariables false
set_option linter.unusedSimpArgs false
def stateV (ds : ByteArray → Option Dl) (st : ByteArray → St) (k : ByteArray) : Int := match ds k with
  | none => -1
  | some _ => (st k).st
set_option maxRecDepth 100000 in
theorem state_any (lo hi o mb n : Nat) (nm bank : ByteArray) (kind : Int) (m : ByteArray → Option Nat) (ds : ByteArray → Option Dl) (st : ByteArray → St) (k : ByteArray) (w : World) (h : Off w lo hi o nm bank kind mb n m ds st) :
    Calls Tryz.prog 11 #[(.pointer (some ⟨o, 0, none⟩)), .string k] w fun e w' => e = .returned (.int .i64 (stateV ds st k)) ∧ w = w' := by
  have HZ := Lib.hid h
  have c3 := h.blk.cell 3
  simp only [List.getElem?_toArray, List.getElem?_cons_zero, List.getElem?_cons_succ] at c3
  have hlk := h.map.look keyStr (P := Tryz.prog) (mty := 73) Tryz.underlying73 Tryz.underlying9 _ zero_de k true
  simp only [if_true] at hlk
  clear h
  cases hm : m k with
  | none =>
    rw [hm] at hlk
    simp only [Option.map_none, Option.getD_none, Option.isSome_none] at hlk
    have HV : Hid (stateV ds st k = -1) := Lib.hid (by unfold stateV; rw [HZ.out.none_ _ hm])
    clear hm
    go_enter Tryz.func11, Tryz.ntmps11
    go_wp2_with fail
    go_ret
    exact ⟨by rw [HV.out]; rfl, rfl⟩
  | some p =>
    rw [hm] at hlk
    simp only [Option.map_some, Option.getD_some, Option.isSome_some, ptC] at hlk
    obtain ⟨d, bx, A, nb, c, hd, rfl, hD, _⟩ := HZ.out.deal _ _ hm
    have HV : Hid (stateV ds st k = (st k).st) := Lib.hid (by unfold stateV; rw [hd])
    have c17 := Blk.cell hD 17
    simp only [List.getElem?_toArray, List.getElem?_cons_zero, List.getElem?_cons_succ] at c17
    clear hm hd hD
    go_enter Tryz.func11, Tryz.ntmps11
    go_wp2_with fail
    go_ret
    exact ⟨by rw [HV.out]; rfl, rfl⟩
theorem fdFields : Tryz.prog.underlying 123 = some (.struct (Tryz.prog.fieldsOf 123)) := by kernel_rfl
theorem fdStood : Tryz.prog.stoodInHeld 123 = false := by kernel_rfl
theorem fdGuard : Tryz.prog.eqGuardType Tryz.prog.depth 123 = false := by kernel_rfl
theorem neFd (a b : ByteArray) (w : World) : (binOp .neq 123 (.agg #[.string a, .string b]) (.agg #[.string a, .string b])).run Tryz.prog w = .ok (.bool false) w := by
  rw [run_neq_struct, show (10000 : Nat) = 9999 + 1 from rfl, run_equalIn_struct _ _ _ _ _ fdFields fdStood]
  have hf : (Tryz.prog.fieldsOf 123).toList.map (fun f => (f.name, f.type, f.offset)) = [("Name", 9, 0), ("Value", 9, 1)] := by kernel_rfl
  generalize (Tryz.prog.fieldsOf 123).toList = l at hf
  obtain ⟨f1, f2, rfl⟩ := len2 (show l.length = 2 by have := congrArg List.length hf; simpa using this)
  simp only [List.map_cons, List.map_nil, List.cons.injEq, Prod.mk.injEq, and_true] at hf
  obtain ⟨⟨h1, h2, h3⟩, h4, h5, h6⟩ := hf
  have qs : ∀ (x y : ByteArray), (Op.equalIn 9999 9 (.string x) (.string y)).run Tryz.prog w = .ok (decide (x = y)) w := fun x y => by rw [← eq_str]; exact run_equalIn_string w 9998 _ _ _ Tryz.underlying9
  have hp : ∀ (x y : ByteArray), (part 9 #[.string x, .string y] 0).run Tryz.prog w = .ok (.string x) w ∧ (part 9 #[.string x, .string y] 1).run Tryz.prog w = .ok (.string y) w :=
    fun x y => ⟨by kernel_rfl, by kernel_rfl⟩
  simp only [Op.eqFields, h1, h2, h3, h4, h5, h6, Sem.run_bind, Sem.run_ite, (hp _ _).1, (hp _ _).2, qs, Result.andThen_ok]
  simp
theorem neFdGuard (x y : Operand) (xs ys : Array Value) (w : World) : (eqGuard .neq 123 x y (.agg xs) (.agg ys)).run Tryz.prog w = .ok () w := run_eqGuard_agg w _ _ _ _ _ _ fdGuard
theorem mnFields : Tryz.prog.underlying 50 = some (.struct (Tryz.prog.fieldsOf 50)) := by kernel_rfl
theorem mnStood : Tryz.prog.stoodInHeld 50 = false := by kernel_rfl
theorem mnGuard : Tryz.prog.eqGuardType Tryz.prog.depth 50 = false := by kernel_rfl
theorem neMn (a : ByteArray) (b : Int) (w : World) : (binOp .neq 50 (.agg #[.string a, .int .i64 b]) (.agg #[.string a, .int .i64 b])).run Tryz.prog w = .ok (.bool false) w := by
  rw [run_neq_struct, show (10000 : Nat) = 9999 + 1 from rfl, run_equalIn_struct _ _ _ _ _ mnFields mnStood]
  have hf : (Tryz.prog.fieldsOf 50).toList.map (fun f => (f.name, f.type, f.offset)) = [("Currency", 9, 0), ("Amount", 2, 1)] := by kernel_rfl
  generalize (Tryz.prog.fieldsOf 50).toList = l at hf
  obtain ⟨f1, f2, rfl⟩ := len2 (show l.length = 2 by have := congrArg List.length hf; simpa using this)
  simp only [List.map_cons, List.map_nil, List.cons.injEq, Prod.mk.injEq, and_true] at hf
  obtain ⟨⟨h1, h2, h3⟩, h4, h5, h6⟩ := hf
  have qs : ∀ (x y : ByteArray), (Op.equalIn 9999 9 (.string x) (.string y)).run Tryz.prog w = .ok (decide (x = y)) w := fun x y => by rw [← eq_str]; exact run_equalIn_string w 9998 _ _ _ Tryz.underlying9
  have q : ∀ (x y : Int), (Op.equalIn 9999 2 (.int .i64 x) (.int .i64 y)).run Tryz.prog w = .ok (x == y) w := fun x y => run_equalIn_int w 9998 _ _ _ _ _ Tryz.underlying2
  have hp : ∀ (x : ByteArray) (y : Int), (part 9 #[.string x, .int .i64 y] 0).run Tryz.prog w = .ok (.string x) w ∧ (part 2 #[.string x, .int .i64 y] 1).run Tryz.prog w = .ok (.int .i64 y) w :=
    fun x y => ⟨by kernel_rfl, by kernel_rfl⟩
  simp only [Op.eqFields, h1, h2, h3, h4, h5, h6, Sem.run_bind, Sem.run_ite, (hp _ _).1, (hp _ _).2, qs, q, Result.andThen_ok]
  simp
theorem neMnGuard (x y : Operand) (xs ys : Array Value) (w : World) : (eqGuard .neq 50 x y (.agg xs) (.agg ys)).run Tryz.prog w = .ok () w := run_eqGuard_agg w _ _ _ _ _ _ mnGuard
set_option maxRecDepth 100000 in
set_option maxHeartbeats 3200000 in
theorem same5_any (A B : Option Addr) (n c c' : Nat) (xs : List Fd) (w : World) (hA : SliceOf w 2 fdC A n xs) (hB : SliceOf w 2 fdC B n xs) (hn : n ≤ 100) :
    Calls Tryz.prog 66 #[.slice A n c, .slice B n c'] w fun e w' => e = .returned (.bool true) ∧ Below w.heap.size w w' := by
  have H1 := Lib.hid hA
  have H2 := Lib.hid hB
  have t3 : ((n : Int) != (n : Int)) = false := by simp
  have qg := neFdGuard
  have qe := neFd
  clear hA hB
  go_enter Tryz.func66, Tryz.ntmps66
  go_wp2_with fail
  go_loopw [5] (fun i wr => ∃ j r : Nat, j ≤ n ∧ i = .int .i64 j ∧ wr = w.drewN r) (fun i _ => n - (intOf i).toNat)
  case atStart => exact ⟨0, 0, by omega, rfl, rfl⟩
  case round =>
    obtain ⟨j, r, hj, rfl, rfl⟩ := hrel
    by_cases hlt : j < n
    · obtain ⟨b, off, x, hA, hx, c0, c1⟩ := get_fd H1.out hlt
      obtain ⟨b', off', y, hB, hy, e0, e1⟩ := get_fd H2.out hlt
      have hxy : x = y := Option.some.inj (hx.symm.trans hy)
      subst hxy hA hB
      clear hx hy
      go_wp2_with fail
      go_quiet (fail)
      go_wp2_with fail
      go_round
      case rel => exact ⟨j + 1, r + nq, by omega, by go_num, by simp [World.drewN]⟩
      case measure => simp [intOf]; omega
    · go_wp2_with fail
      go_ret
      exact ⟨rfl, below_drewN (Below.refl _ _) _⟩
set_option maxRecDepth 100000 in
set_option maxHeartbeats 3200000 in
theorem alike_any (k : Int) (nm is : ByteArray) (A : Option Addr) (n c : Nat) (B : Option Addr) (d : Nat) (fs : List Fd) (w : World) (h1 : SliceOf w 2 fdC A n fs) (h2 : SliceOf w 2 fdC B n fs) (hm : n ≤ 100) :
    Calls Tryz.prog 52 #[.agg #[.int .i64 k, .string nm, .string is, .slice A n c], .agg #[.int .i64 k, .string nm, .string is, .slice B n d]] w fun e w' => e = .returned (.bool true) ∧ Below w.heap.size w w' := by
  have hB0 : Below w.heap.size w ((w.alloc (.cells #[.int .i64 k, .string nm, .string is, .slice A n c] 109)).alloc (.cells #[.int .i64 k, .string nm, .string is, .slice B n d] 109)) := two_alloc _ _ _
  have hp0 : Blk ((w.alloc (.cells #[.int .i64 k, .string nm, .string is, .slice A n c] 109)).alloc (.cells #[.int .i64 k, .string nm, .string is, .slice B n d] 109)) w.heap.size 109 #[.int .i64 k, .string nm, .string is, .slice A n c] := (Blk.new _ _ _).alloc _
  have hq0 : Blk ((w.alloc (.cells #[.int .i64 k, .string nm, .string is, .slice A n c] 109)).alloc (.cells #[.int .i64 k, .string nm, .string is, .slice B n d] 109)) (w.heap.size + 1) 109 #[.int .i64 k, .string nm, .string is, .slice B n d] := blk_second _ _ _ _
  have a0 := hp0.cell 0; have a1 := hp0.cell 1; have a2 := hp0.cell 2; have a3 := hp0.cell 3
  have b0 := hq0.cell 0; have b1 := hq0.cell 1; have b2 := hq0.cell 2; have b3 := hq0.cell 3
  simp only [List.getElem?_toArray, List.getElem?_cons_zero, List.getElem?_cons_succ] at a0 a1 a2 a3 b0 b1 b2 b3
  have HS := Lib.hid (same5_any A B n c d fs _ (h1.below hB0) (h2.below hB0) hm)
  have HB := Lib.hid hB0
  have t0 : (k == k) = true := by simp
  have t1 : (nm.toList == nm.toList) = true := by simp
  have t2 : (is.toList == is.toList) = true := by simp
  clear hp0 hq0 h1 h2 hB0
  go_enter Tryz.func52, Tryz.ntmps52
  go_wp2_with fail
  refine HS.out.mono ?_
  rintro e w1 ⟨rfl, hb1⟩
  go_wp2_with fail
  go_ret
  exact ⟨rfl, HB.out.trans (hb1.mono HB.out.size)⟩
end Go.Proofs.YtdanjegnhdpnlaaGreatDoor.kit
