/- Papers: their fields, held against one another; fields made of texts. No condition. -/
import Derived.Test.YtldjohmdlggmeaaDoorPaA
import Derived.Test.YtldjohmdlggmeaaDoorOwn
import Derived.Test.YtldjohmdlggmeaaDoorTail
import Derived.Laws.StructEq
namespace Go.Proofs.YtldjohmdlggmeaaDoor.kit
open Go.RowKit Go.PlainAid
set_option linter.unusedVariables false

abbrev Fd := ByteArray × ByteArray
def fdC (x : Fd) : List Value := [.string x.1, .string x.2]
def strC (s : ByteArray) : List Value := [.string s]
theorem fdFields : Tryd.prog.underlying 48 = some (.struct (Tryd.prog.fieldsOf 48)) := by kernel_rfl
theorem fdStood : Tryd.prog.stoodInHeld 48 = false := by kernel_rfl
theorem fdGuard : Tryd.prog.eqGuardType Tryd.prog.depth 48 = false := by kernel_rfl
theorem len2 {α : Type} {l : List α} (h : l.length = 2) : ∃ a b, l = [a, b] := by
  rcases l with _ | ⟨a, _ | ⟨b, _ | ⟨c, l⟩⟩⟩
  all_goals first | exact ⟨_, _, rfl⟩ | (simp at h)
theorem neFd (a b : ByteArray) (w : World) : (binOp .neq 48 (.agg #[.string a, .string b]) (.agg #[.string a, .string b])).run Tryd.prog w = .ok (.bool false) w := by
  rw [run_neq_struct, show (10000 : Nat) = 9999 + 1 from rfl, run_equalIn_struct _ _ _ _ _ fdFields fdStood]
  have hf : (Tryd.prog.fieldsOf 48).toList.map (fun f => (f.name, f.type, f.offset)) = [("Name", 9, 0), ("Value", 9, 1)] := by kernel_rfl
  generalize (Tryd.prog.fieldsOf 48).toList = l at hf
  obtain ⟨f1, f2, rfl⟩ := len2 (show l.length = 2 by have := congrArg List.length hf; simpa using this)
  simp only [List.map_cons, List.map_nil, List.cons.injEq, Prod.mk.injEq, and_true] at hf
  obtain ⟨⟨h1, h2, h3⟩, h4, h5, h6⟩ := hf
  have qs : ∀ (x y : ByteArray), (Op.equalIn 9999 9 (.string x) (.string y)).run Tryd.prog w = .ok (decide (x = y)) w := fun x y => by rw [← eq_str]; exact run_equalIn_string w 9998 _ _ _ Tryd.underlying9
  have hp : ∀ (x y : ByteArray), (part 9 #[.string x, .string y] 0).run Tryd.prog w = .ok (.string x) w ∧ (part 9 #[.string x, .string y] 1).run Tryd.prog w = .ok (.string y) w :=
    fun x y => ⟨by kernel_rfl, by kernel_rfl⟩
  simp only [Op.eqFields, h1, h2, h3, h4, h5, h6, Sem.run_bind, Sem.run_ite, (hp _ _).1, (hp _ _).2, qs, Result.andThen_ok]
  simp
theorem neFdGuard (x y : Operand) (xs ys : Array Value) (w : World) : (eqGuard .neq 48 x y (.agg xs) (.agg ys)).run Tryd.prog w = .ok () w := run_eqGuard_agg w _ _ _ _ _ _ fdGuard
theorem get_fd {w : World} {A : Option Addr} {n : Nat} {xs : List Fd} (h : SliceOf w 2 fdC A n xs) {k : Nat} (hk : k < n) : ∃ b off x, A = some ⟨b, off, none⟩ ∧ xs[k]? = some x ∧ w.cell? ⟨b, off + k * 2, none⟩ = some (.string x.1) ∧ w.cell? ⟨b, off + k * 2 + 1, none⟩ = some (.string x.2) := by
  have hl := h.len
  obtain ⟨x, hxk⟩ : ∃ x, xs[k]? = some x := ⟨_, List.getElem?_eq_getElem (by omega)⟩
  obtain ⟨b, off, rfl, hb, hc⟩ := h.at_ (by omega)
  exact ⟨b, off, x, rfl, hxk, by simpa using hc k _ hxk 0 _ rfl, by have := hc k _ hxk 1 _ rfl; rwa [← Nat.add_assoc] at this⟩
set_option maxRecDepth 100000 in
set_option maxHeartbeats 3200000 in
theorem docs_any (k : Int) (nm is : ByteArray) (A : Option Addr) (n c : Nat) (B : Option Addr) (d : Nat) (fs : List Fd) (w : World) (h1 : SliceOf w 2 fdC A n fs) (h2 : SliceOf w 2 fdC B n fs) (hm : n ≤ 100) :
    Calls Tryd.prog 11 #[.agg #[.int .i64 k, .string nm, .string is, .slice A n c], .agg #[.int .i64 k, .string nm, .string is, .slice B n d]] w fun e w' => e = .returned (.bool true) ∧ Below w.heap.size w w' := by
  have hB0 : Below w.heap.size w ((w.alloc (.cells #[.int .i64 k, .string nm, .string is, .slice A n c] 29)).alloc (.cells #[.int .i64 k, .string nm, .string is, .slice B n d] 29)) := two_alloc _ _ _
  have hp0 : Blk ((w.alloc (.cells #[.int .i64 k, .string nm, .string is, .slice A n c] 29)).alloc (.cells #[.int .i64 k, .string nm, .string is, .slice B n d] 29)) w.heap.size 29 #[.int .i64 k, .string nm, .string is, .slice A n c] := (Blk.new _ _ _).alloc _
  have hq0 : Blk ((w.alloc (.cells #[.int .i64 k, .string nm, .string is, .slice A n c] 29)).alloc (.cells #[.int .i64 k, .string nm, .string is, .slice B n d] 29)) (w.heap.size + 1) 29 #[.int .i64 k, .string nm, .string is, .slice B n d] := blk_second _ _ _ _
  have a0 := hp0.cell 0; have a1 := hp0.cell 1; have a2 := hp0.cell 2; have a3 := hp0.cell 3
  have b0 := hq0.cell 0; have b1 := hq0.cell 1; have b2 := hq0.cell 2; have b3 := hq0.cell 3
  simp only [List.getElem?_toArray, List.getElem?_cons_zero, List.getElem?_cons_succ] at a0 a1 a2 a3 b0 b1 b2 b3
  have H1 := Lib.hid (h1.below hB0)
  have H2 := Lib.hid (h2.below hB0)
  have t0 : (k != k) = false := by simp
  have t1 : (nm.toList != nm.toList) = false := by simp
  have t2 : (is.toList != is.toList) = false := by simp
  have t3 : ((n : Int) != (n : Int)) = false := by simp
  have qg := neFdGuard
  have qe := neFd
  clear hp0 hq0 h1 h2
  go_enter Tryd.func11, Tryd.ntmps11
  go_wp2_with fail
  go_loopw [5] (fun i wr => ∃ j r : Nat, j ≤ n ∧ i = .int .i64 j ∧ wr = ((w.alloc (.cells #[.int .i64 k, .string nm, .string is, .slice A n c] 29)).alloc (.cells #[.int .i64 k, .string nm, .string is, .slice B n d] 29)).drewN r) (fun i _ => n - (intOf i).toNat)
  case atStart => exact ⟨0, 0, by omega, rfl, rfl⟩
  case round =>
    obtain ⟨j, r, hj, rfl, rfl⟩ := hrel
    by_cases hlt : j < n
    · obtain ⟨b, off, x, hA, hx, c0, c1⟩ := get_fd H1.out hlt
      obtain ⟨b', off', y, hB, hy, e0, e1⟩ := get_fd H2.out hlt
      have hxy : x = y := Option.some.inj (hx.symm.trans hy)
      subst hxy hA hB
      clear hx hy
      go_wp2_with fail
      go_quiet (fail)
      go_wp2_with fail
      go_round
      case rel => exact ⟨j + 1, r + nq, by omega, by go_num, by simp [World.drewN]⟩
      case measure => simp [intOf]; omega
    · go_wp2_with fail
      go_ret
      exact ⟨rfl, below_drewN hB0 _⟩
end Go.Proofs.YtldjohmdlggmeaaDoor.kit
