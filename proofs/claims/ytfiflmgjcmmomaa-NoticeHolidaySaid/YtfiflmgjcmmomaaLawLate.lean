/- NoticeLate: the law. No condition. -/
import Derived.Test.YtfiflmgjcmmomaaLateC
import Derived.Laws.Rows
namespace Go.Proofs.Ytfiflmgjcmmomaa
open Go.RowKit Go.Proofs.Ytfiflmgjcmmomaa.kit Go.Proofs.Ytfiflmgjcmmomaa.cal
set_option linter.unusedVariables false
theorem quiet_load {P : Program} {o : Oper} {a : Act} {C : World → Prop} {K : Act → Prop} (ty : TypeId) (x : Operand) (ho : o.op = .load ty x) (ad : Addr) (hx : a.eval x = .pointer (some ad)) (v : Value)
    (h : ∀ w, C w → (loadVar ty ad).run P w = .ok v w) (hk : K (a.put o.dst v)) : o.quiet P a C K :=
  ⟨v, fun w hc => by
    unfold Oper.quietAt execOp
    simp only [ho, hx, Instr.loadAt, Instr.sureAddr, Sem.run_bind, Sem.run_pure, Result.andThen_ok, h w hc]
    exact ⟨rfl, rfl⟩, hk⟩

set_option maxHeartbeats 800000 in
theorem noticeLate_walk (c : Cal) (A1 : Option Addr) (n1 c1 : Nat) (A2 : Option Addr) (n2 c2 : Nat) (r : Cr) (sh pr : Int) (w : World) (h1 : SliceOf w 1 intC A1 n1 c.rest) (h2 : SliceOf w 1 intC A2 n2 c.hol) (m1 : n1 ≤ maxLen) (m2 : n2 ≤ maxLen) :
    Calls Try.prog 7 #[.agg #[.slice A1 n1 c1, .slice A2 n2 c2], .agg #[.string r.s0, .string r.s1, .string r.s2, .string r.s3, .string r.s4, .string r.s5, .string r.s6, .string r.cur, .int .i64 r.am, .int .i64 r.ab, .int .i64 r.be, .int .i64 r.la, .int .i64 r.ex, .int .i64 r.wi, .int .i64 r.te, .bool r.pa, .bool r.ch, .slice r.nA r.nn r.nc], .int .i64 sh, .int .i64 pr] w fun e w' => e = .returned (.bool true) ∧ Below w.heap.size w w' := by
  have H1 := Lib.hid h1
  have H2 := Lib.hid h2
  have l1 := h1.len
  have l2 := h2.len
  clear h1 h2
  have hB0 : Below w.heap.size w ((w.alloc (.cells #[.slice A1 n1 c1, .slice A2 n2 c2] 24)).alloc (.cells #[.string r.s0, .string r.s1, .string r.s2, .string r.s3, .string r.s4, .string r.s5, .string r.s6, .string r.cur, .int .i64 r.am, .int .i64 r.ab, .int .i64 r.be, .int .i64 r.la, .int .i64 r.ex, .int .i64 r.wi, .int .i64 r.te, .bool r.pa, .bool r.ch, .slice r.nA r.nn r.nc] 42)) := ((Below.refl _ _).alloc (Nat.le_refl _) _).alloc (by simp only [size_alloc]; omega) _
  have hk0 : Blk ((w.alloc (.cells #[.slice A1 n1 c1, .slice A2 n2 c2] 24)).alloc (.cells #[.string r.s0, .string r.s1, .string r.s2, .string r.s3, .string r.s4, .string r.s5, .string r.s6, .string r.cur, .int .i64 r.am, .int .i64 r.ab, .int .i64 r.be, .int .i64 r.la, .int .i64 r.ex, .int .i64 r.wi, .int .i64 r.te, .bool r.pa, .bool r.ch, .slice r.nA r.nn r.nc] 42)) w.heap.size 24 #[.slice A1 n1 c1, .slice A2 n2 c2] := Blk.more (Blk.new _ _ _) _
  have hj0 : Blk ((w.alloc (.cells #[.slice A1 n1 c1, .slice A2 n2 c2] 24)).alloc (.cells #[.string r.s0, .string r.s1, .string r.s2, .string r.s3, .string r.s4, .string r.s5, .string r.s6, .string r.cur, .int .i64 r.am, .int .i64 r.ab, .int .i64 r.be, .int .i64 r.la, .int .i64 r.ex, .int .i64 r.wi, .int .i64 r.te, .bool r.pa, .bool r.ch, .slice r.nA r.nn r.nc] 42)) (w.heap.size + 1) 42 #[.string r.s0, .string r.s1, .string r.s2, .string r.s3, .string r.s4, .string r.s5, .string r.s6, .string r.cur, .int .i64 r.am, .int .i64 r.ab, .int .i64 r.be, .int .i64 r.la, .int .i64 r.ex, .int .i64 r.wi, .int .i64 r.te, .bool r.pa, .bool r.ch, .slice r.nA r.nn r.nc] := Blk.newAt _ _ (by simp only [size_alloc])
  go_enter Try.func7, Try.ntmps7
  go_wp2_with fail
  refine (awake_any _).mono ?_
  rintro e w1 ⟨rfl, hb1⟩
  have hj1 := hj0.below hb1 hj0.lt
  have hB1 := hB0.trans (hb1.mono hB0.size)
  have hk1 := hk0.below hb1 hk0.lt
  clear hB0 hk0 hb1
  have a0 := hk1.cell 0; have a1 := hk1.cell 1; simp only [List.getElem?_toArray, List.getElem?_cons_zero, List.getElem?_cons_succ] at a0 a1
  clear hj0
  cases hf : fewB n1 n2
  · have F := Lib.hid hf
    clear hf
    go_wp2_with fail
    refine (few_any A1 n1 c1 A2 n2 c2 _ m1 m2).mono ?_
    rw [F.out]
    rintro e w2 ⟨rfl, hb2⟩
    clear a0 a1
    have hB2 := hB1.trans (hb2.mono hB1.size)
    have hk2 := hk1.below hb2 hk1.lt
    clear hB1 hk1 hb2
    have a0 := hk2.cell 0; have a1 := hk2.cell 1; simp only [List.getElem?_toArray, List.getElem?_cons_zero, List.getElem?_cons_succ] at a0 a1
    go_wp2_with fail
    go_ret
    exact ⟨rfl, hB2⟩
  have F := Lib.hid hf
  clear hf
  go_wp2_with fail
  refine (few_any A1 n1 c1 A2 n2 c2 _ m1 m2).mono ?_
  rw [F.out]
  rintro e w2 ⟨rfl, hb2⟩
  have hj2 := hj1.below hb2 hj1.lt
  clear a0 a1
  have hB2 := hB1.trans (hb2.mono hB1.size)
  have hk2 := hk1.below hb2 hk1.lt
  clear hB1 hk1 hb2
  clear hj1
  have a0 := hk2.cell 0; have a1 := hk2.cell 1; simp only [List.getElem?_toArray, List.getElem?_cons_zero, List.getElem?_cons_succ] at a0 a1
  have p0 := wof_cell a0; have p1 := wof_cell a1
  have HB : Hid (∀ x : BW w2, Below w.heap.size w (wof x)) := fun x => hB2.trans ((wof_below x).mono hB2.size)
  obtain ⟨C, hC⟩ : ∃ C : Array Value, #[.string r.s0, .string r.s1, .string r.s2, .string r.s3, .string r.s4, .string r.s5, .string r.s6, .string r.cur, .int .i64 r.am, .int .i64 r.ab, .int .i64 r.be, .int .i64 r.la, .int .i64 r.ex, .int .i64 r.wi, .int .i64 r.te, .bool r.pa, .bool r.ch, .slice r.nA r.nn r.nc] = C := ⟨_, rfl⟩
  have HL : Hid (∀ x : BW w2, (loadVar 42 ⟨w.heap.size + 1, 0, none⟩).run Try.prog (wof x) = .ok (.agg C) (wof x)) := fun x => by
    have hj := hj2.below (wof_below x) hj2.lt
    rw [hC] at hj
    exact run_loadVar_row (wof x) (w.heap.size + 1) 42 42 C (0, 0) _ hj Try.underlying42 rfl (by rw [← hC]; kernel_rfl)
  obtain ⟨V, hV⟩ : ∃ V, lateV c r sh pr = V := ⟨_, rfl⟩
  have HV := Lib.hid hV
  clear hV
  have QA : Hid (∀ x : BW w2, Calls Try.prog 22 #[.agg #[.slice A1 n1 c1, .slice A2 n2 c2], .agg C, .int .i64 sh, .int .i64 pr] (wof x) fun e w' => e = .returned (.int .i64 V) ∧ Below (wof x).heap.size (wof x) w') := fun x => by
    have := late_any c A1 n1 c1 A2 n2 c2 r sh pr (wof x) (H1.out.below (HB.out x)) (H2.out.below (HB.out x)) m1 m2
    rw [HV.out, hC] at this
    exact this
  have QR : Hid (∀ x : BW w2, Calls Try.prog 23 #[.agg #[.slice A1 n1 c1, .slice A2 n2 c2], .agg C, .int .i64 sh, .int .i64 pr] (wof x) fun e w' => e = .returned (.int .i64 V) ∧ Below (wof x).heap.size (wof x) w') := fun x => by
    have := rlate_any c A1 n1 c1 A2 n2 c2 r sh pr (wof x) (H1.out.below (HB.out x)) (H2.out.below (HB.out x)) m1 m2
    rw [HV.out, hC] at this
    exact this
  clear hC hj2
  go_wp2_with fail
  refine wp_region_quiet_below (by kernel_rfl) (by kernel_rfl) ?_
  repeat (first | (go_big_quiet_want; refine quiet_load 42 _ rfl ⟨w.heap.size + 1, 0, none⟩ rfl (.agg C) (by rintro _ ⟨x, rfl⟩; exact HL.out x) ?_; simp [Act.put]; go_big_quiet_on) | go_big_quiet_step ((first | (go_at_call 22; exact quiet_below (QA.out _)) | (go_at_call 23; exact quiet_below (QR.out _)))))
  refine wpQuiet_nil ?_
  intro w7 hb7
  go_wp2_with fail
  go_ret
  exact ⟨ret_bool (by simp), hB2.trans (hb7.mono hB2.size)⟩
end Go.Proofs.Ytfiflmgjcmmomaa
