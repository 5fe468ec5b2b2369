/- The document's Do: call 2. No condition. -/
import Derived.Test.YteannbphaodadaaDgC
namespace Go.Proofs.Yteannbphaodadaa.kit
open Go.RowKit Go.PlainAid Go.Maps
set_option linter.unusedVariables false

set_option maxRecDepth 100000 in
set_option maxHeartbeats 6400000 in
theorem rdo2_any (g : Nat) (A : Option Addr) (n c : Nat) (b : Bl) (s t : ByteArray) (on : Int) (w : World) (hb : IsRef w g A n c b) (hs : s.size ≤ maxLen) (ht : t.size ≤ maxLen) (hlen : b.pas.length < 1000) :
    Calls Try.prog 26 #[(.pointer (some ⟨g, 0, none⟩)), .int .i64 2, .string s, .string t, .int .i64 on] w (DoPost g A b 2 s t on w) := by
  have HB := Lib.hid hb
  have st0 := hb.st0
  have z2 : w.cell? ⟨g, 2, none⟩ = some (.string b.d.dre) := hb.blk.cell 2
  have z6 : w.cell? ⟨g, 6, none⟩ = some (.int .i64 b.d.kind) := hb.blk.cell 6
  have z9 : w.cell? ⟨g, 9, none⟩ = some (.int .i64 b.st) := hb.blk.cell 9
  have z10 : w.cell? ⟨g, 10, none⟩ = some (.bool b.acc) := hb.blk.cell 10
  have z11 : w.cell? ⟨g, 11, none⟩ = some (.string b.hol) := hb.blk.cell 11
  have z12 : w.cell? ⟨g, 12, none⟩ = some (.slice A n c) := hb.blk.cell 12
  have z13 : w.cell? ⟨g, 13, none⟩ = some (.int .i64 b.last) := hb.blk.cell 13
  have y9 := hb.blk.frozen 9; have y10 := hb.blk.frozen 10; have y11 := hb.blk.frozen 11; have y12 := hb.blk.frozen 12; have y13 := hb.blk.frozen 13
  have hgw : g < w.heap.size := hb.blk.lt
  clear hb
  have HC : Hid (codeV b 2 s t on = stepV b s on (canV b 2) (whoV b 2 s)) := Lib.hid (code_eq b 2 s t on (by omega)).symm
  cases e0 : nmB s
  · have E : Hid (1 = codeV b 2 s t on) := Lib.hid (by (rw [HC.out]; unfold stepV; simp [e0]))
    clear HC
    go_enter Try.func26, Try.ntmps26
    go_wp2_with (first | (go_at_call 15; (with_reducible refine (rnm_any _ _ (by assumption)).mono ?_); rintro e w' ⟨rfl, rfl⟩))
    go_ret
    exact do_err HB.out E.out (by omega) (Below.refl _ _)
  by_cases o1 : on < 0
  · have i1 : isDay on = false := decide_eq_false (by omega)
    have E : Hid (1 = codeV b 2 s t on) := Lib.hid (by (rw [HC.out]; unfold stepV; simp [i1]))
    clear HC
    go_enter Try.func26, Try.ntmps26
    go_wp2_with (first | (go_at_call 15; (with_reducible refine (rnm_any _ _ (by assumption)).mono ?_); rintro e w' ⟨rfl, rfl⟩))
    go_ret
    exact do_err HB.out E.out (by omega) (Below.refl _ _)
  by_cases o2 : 1048576 < on
  · have i1 : isDay on = false := decide_eq_false (by omega)
    have E : Hid (1 = codeV b 2 s t on) := Lib.hid (by (rw [HC.out]; unfold stepV; simp [i1]))
    clear HC
    go_enter Try.func26, Try.ntmps26
    go_wp2_with (first | (go_at_call 15; (with_reducible refine (rnm_any _ _ (by assumption)).mono ?_); rintro e w' ⟨rfl, rfl⟩))
    go_ret
    exact do_err HB.out E.out (by omega) (Below.refl _ _)
  have i1 : isDay on = true := decide_eq_true (by omega)
  by_cases l1 : on < b.last
  · have E : Hid (6 = codeV b 2 s t on) := Lib.hid (by (rw [HC.out]; unfold stepV; simp [e0, i1, l1]))
    clear HC
    go_enter Try.func26, Try.ntmps26
    go_wp2_with (first | (go_at_call 15; (with_reducible refine (rnm_any _ _ (by assumption)).mono ?_); rintro e w' ⟨rfl, rfl⟩))
    go_ret
    exact do_err HB.out E.out (by omega) (Below.refl _ _)
  have hcv : canV b 2 = (decide (b.st = 1 ∨ b.st = 3) || (decide (b.st = 0) && decide (b.d.kind = 0))) := by unfold canV; rw [if_neg (by omega), if_neg (by omega)]
  by_cases t3 : b.st = 3
  · have T3 : (b.st == 3) = true := by rw [t3]; rfl
    have T1 : (b.st == 1) = false := by rw [t3]; rfl
    have c1 : canV b 2 = true := by rw [hcv, t3]; rfl
    have hw : whoV b 2 s = memS (liaV b) s := by unfold whoV; rw [if_neg (by omega), if_pos ⟨rfl, t3⟩]
    cases m1 : memS (liaV b) s
    · have E : Hid (8 = codeV b 2 s t on) := Lib.hid (by (rw [HC.out]; unfold stepV; simp [e0, i1, l1, c1, hw, m1]))
      clear HC hcv hw c1
      have M1 := Lib.hid m1
      clear m1
      go_enter Try.func26, Try.ntmps26
      go_wp2_with (first | (go_at_call 15; (with_reducible refine (rnm_any _ _ (by assumption)).mono ?_); rintro e w' ⟨rfl, rfl⟩))
      go_quiet (fail)
      go_wp2_with fail
      refine (rliable_any g A n c b _ (HB.out.drewN _)).mono ?_
      rintro e w5 ⟨v, rfl, A5, c5, rfl, hs5, hb5⟩
      have HB5 : Hid (Below w.heap.size w w5) := Lib.hid ((below_drewN (Below.refl w.heap.size w) nq).trans hb5)
      have HI5 := Lib.hid (HB.out.below HB5.out)
      have HS5 := Lib.hid hs5
      clear hs5 hb5 z2 z6 z9 z10 z11 z12 z13 y9 y10 y11 y12 y13
      have z9 : w5.cell? ⟨g, 9, none⟩ = some (.int .i64 b.st) := HI5.out.blk.cell 9
      have z13 : w5.cell? ⟨g, 13, none⟩ = some (.int .i64 b.last) := HI5.out.blk.cell 13
      have y9 := HI5.out.blk.frozen 9
      have y13 := HI5.out.blk.frozen 13
      go_wp2_with fail
      refine (rin_any A5 _ c5 (liaV b) s w5 HS5.out (by have := lia_len b; unfold maxLen; omega)).mono ?_
      rw [M1.out]
      rintro e w6 ⟨rfl, rfl⟩
      go_wp2_with fail
      go_ret
      exact do_err HB.out E.out (by omega) HB5.out
    · have E : Hid (0 = codeV b 2 s t on) := Lib.hid (by (rw [HC.out]; unfold stepV; simp [e0, i1, l1, c1, hw, m1]))
      have hn : Hid (nextV b 2 s t on = { b with st := 2, last := on }) := Lib.hid (by unfold nextV; rw [← E.out, if_pos rfl]; rfl)
      clear HC hcv hw c1
      have M1 := Lib.hid m1
      clear m1
      go_enter Try.func26, Try.ntmps26
      go_wp2_with (first | (go_at_call 15; (with_reducible refine (rnm_any _ _ (by assumption)).mono ?_); rintro e w' ⟨rfl, rfl⟩))
      go_quiet (fail)
      go_wp2_with fail
      refine (rliable_any g A n c b _ (HB.out.drewN _)).mono ?_
      rintro e w5 ⟨v, rfl, A5, c5, rfl, hs5, hb5⟩
      have HB5 : Hid (Below w.heap.size w w5) := Lib.hid ((below_drewN (Below.refl w.heap.size w) nq).trans hb5)
      have HI5 := Lib.hid (HB.out.below HB5.out)
      have HS5 := Lib.hid hs5
      clear hs5 hb5 z2 z6 z9 z10 z11 z12 z13 y9 y10 y11 y12 y13
      have z9 : w5.cell? ⟨g, 9, none⟩ = some (.int .i64 b.st) := HI5.out.blk.cell 9
      have z13 : w5.cell? ⟨g, 13, none⟩ = some (.int .i64 b.last) := HI5.out.blk.cell 13
      have y9 := HI5.out.blk.frozen 9
      have y13 := HI5.out.blk.frozen 13
      go_wp2_with fail
      refine (rin_any A5 _ c5 (liaV b) s w5 HS5.out (by have := lia_len b; unfold maxLen; omega)).mono ?_
      rw [M1.out]
      rintro e w6 ⟨rfl, rfl⟩
      go_wp2_with fail
      go_ret
      exact ⟨A, n, c, ret_int E.out, by rw [hn.out]; exact HI5.out.set2 (b' := { b with st := 2, last := on }) rfl rfl rfl HB.out.hol (by simp), ((Turn.of_below HB5.out (by omega)).set_ 13 _).set_ 9 _, Fresh.same A n w⟩
  have T3 : (b.st == 3) = false := by simpa using t3
  have hw : whoV b 2 s = decide (s = b.d.dre) := by unfold whoV; rw [if_neg (by omega), if_neg (fun h => t3 h.2)]
  have qw := eq_str s b.d.dre
  by_cases q0 : b.st = 1
  · have T1 : (b.st == 1) = true := by rw [q0]; rfl
    have c1 : canV b 2 = true := by rw [hcv, q0]; rfl
    by_cases w1 : s = b.d.dre
    rotate_left
    · have W1 : (s.toList == b.d.dre.toList) = false := by rw [qw]; exact decide_eq_false w1
      have w2 : whoV b 2 s = false := by rw [hw]; exact decide_eq_false w1
      clear qw w1 hw
      have E : Hid (8 = codeV b 2 s t on) := Lib.hid (by (rw [HC.out]; unfold stepV; simp [e0, i1, l1, c1, w2]))
      clear HC
      go_enter Try.func26, Try.ntmps26
      go_wp2_with (first | (go_at_call 15; (with_reducible refine (rnm_any _ _ (by assumption)).mono ?_); rintro e w' ⟨rfl, rfl⟩))
      go_quiet (fail)
      go_wp2_with fail
      go_ret
      exact do_err HB.out E.out (by omega) (below_drewN (Below.refl _ _) _)
    have W1 : (s.toList == b.d.dre.toList) = true := by rw [qw]; exact decide_eq_true w1
    have w2 : whoV b 2 s = true := by rw [hw]; exact decide_eq_true w1
    have E : Hid (0 = codeV b 2 s t on) := Lib.hid (by (rw [HC.out]; unfold stepV; simp [e0, i1, l1, c1, w2]))
    have hn : Hid (nextV b 2 s t on = { b with st := 2, last := on }) := Lib.hid (by unfold nextV; rw [← E.out, if_pos rfl]; rfl)
    clear qw w1 hw HC w2 c1 hcv
    go_enter Try.func26, Try.ntmps26
    go_wp2_with (first | (go_at_call 15; (with_reducible refine (rnm_any _ _ (by assumption)).mono ?_); rintro e w' ⟨rfl, rfl⟩))
    go_quiet (fail)
    go_wp2_with fail
    go_ret
    exact ⟨A, n, c, ret_int E.out, by rw [hn.out]; exact (HB.out.drewN _).set2 (b' := { b with st := 2, last := on }) rfl rfl rfl HB.out.hol (by simp), (((Turn.refl g g w).drewN _).set_ 13 _).set_ 9 _, Fresh.same A n w⟩
  have T1 : (b.st == 1) = false := by simpa using q0
  by_cases q1 : b.st = 0
  rotate_left
  · have T0 : (b.st == 0) = false := by simpa using q1
    have c1 : canV b 2 = false := by rw [hcv, decide_eq_false (p := b.st = 1 ∨ b.st = 3) (by omega), decide_eq_false q1]; rfl
    have E : Hid (9 = codeV b 2 s t on) := Lib.hid (by (rw [HC.out]; unfold stepV; simp [e0, i1, l1, c1]))
    clear HC
    go_enter Try.func26, Try.ntmps26
    go_wp2_with (first | (go_at_call 15; (with_reducible refine (rnm_any _ _ (by assumption)).mono ?_); rintro e w' ⟨rfl, rfl⟩))
    go_quiet (fail)
    go_wp2_with fail
    go_ret
    exact do_err HB.out E.out (by omega) (below_drewN (Below.refl _ _) _)
  have T0 : (b.st == 0) = true := by rw [q1]; rfl
  by_cases q2 : b.d.kind = 0
  rotate_left
  · have K1 : (b.d.kind == 0) = false := by simpa using q2
    have c1 : canV b 2 = false := by rw [hcv, decide_eq_false (p := b.st = 1 ∨ b.st = 3) (by omega), decide_eq_false q2]; simp
    have E : Hid (9 = codeV b 2 s t on) := Lib.hid (by (rw [HC.out]; unfold stepV; simp [e0, i1, l1, c1]))
    clear HC
    go_enter Try.func26, Try.ntmps26
    go_wp2_with (first | (go_at_call 15; (with_reducible refine (rnm_any _ _ (by assumption)).mono ?_); rintro e w' ⟨rfl, rfl⟩))
    go_quiet (fail)
    go_wp2_with fail
    go_ret
    exact do_err HB.out E.out (by omega) (below_drewN (Below.refl _ _) _)
  have K1 : (b.d.kind == 0) = true := by rw [q2]; rfl
  have c1 : canV b 2 = true := by rw [hcv, q1, q2]; rfl
  by_cases w1 : s = b.d.dre
  rotate_left
  · have W1 : (s.toList == b.d.dre.toList) = false := by rw [qw]; exact decide_eq_false w1
    have w2 : whoV b 2 s = false := by rw [hw]; exact decide_eq_false w1
    clear qw w1 hw
    have E : Hid (8 = codeV b 2 s t on) := Lib.hid (by (rw [HC.out]; unfold stepV; simp [e0, i1, l1, c1, w2]))
    clear HC
    go_enter Try.func26, Try.ntmps26
    go_wp2_with (first | (go_at_call 15; (with_reducible refine (rnm_any _ _ (by assumption)).mono ?_); rintro e w' ⟨rfl, rfl⟩))
    go_quiet (fail)
    go_wp2_with fail
    go_ret
    exact do_err HB.out E.out (by omega) (below_drewN (Below.refl _ _) _)
  have W1 : (s.toList == b.d.dre.toList) = true := by rw [qw]; exact decide_eq_true w1
  have w2 : whoV b 2 s = true := by rw [hw]; exact decide_eq_true w1
  have E : Hid (0 = codeV b 2 s t on) := Lib.hid (by (rw [HC.out]; unfold stepV; simp [e0, i1, l1, c1, w2]))
  have hn : Hid (nextV b 2 s t on = { b with st := 2, last := on }) := Lib.hid (by unfold nextV; rw [← E.out, if_pos rfl]; rfl)
  clear qw w1 hw HC w2 c1 hcv
  go_enter Try.func26, Try.ntmps26
  go_wp2_with (first | (go_at_call 15; (with_reducible refine (rnm_any _ _ (by assumption)).mono ?_); rintro e w' ⟨rfl, rfl⟩))
  go_quiet (fail)
  go_wp2_with fail
  go_ret
  exact ⟨A, n, c, ret_int E.out, by rw [hn.out]; exact (HB.out.drewN _).set2 (b' := { b with st := 2, last := on }) rfl rfl rfl HB.out.hol (by simp), (((Turn.refl g g w).drewN _).set_ 13 _).set_ 9 _, Fresh.same A n w⟩
end Go.Proofs.Yteannbphaodadaa.kit
