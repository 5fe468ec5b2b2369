/- The document's Do: call 0. No condition. -/
import Derived.Test.YteannbphaodadaaDgC
namespace Go.Proofs.Yteannbphaodadaa.kit
open Go.RowKit Go.PlainAid Go.Maps
set_option linter.unusedVariables false

set_option maxRecDepth 100000 in
set_option maxHeartbeats 6400000 in
theorem rdo0_any (g : Nat) (A : Option Addr) (n c : Nat) (b : Bl) (s t : ByteArray) (on : Int) (w : World) (hb : IsRef w g A n c b) (hs : s.size ≤ maxLen) (ht : t.size ≤ maxLen) (hlen : b.pas.length < 1000) :
    Calls Try.prog 26 #[(.pointer (some ⟨g, 0, none⟩)), .int .i64 0, .string s, .string t, .int .i64 on] w (DoPost g A b 0 s t on w) := by
  have HB := Lib.hid hb
  have st0 := hb.st0
  have z2 : w.cell? ⟨g, 2, none⟩ = some (.string b.d.dre) := hb.blk.cell 2
  have z6 : w.cell? ⟨g, 6, none⟩ = some (.int .i64 b.d.kind) := hb.blk.cell 6
  have z9 : w.cell? ⟨g, 9, none⟩ = some (.int .i64 b.st) := hb.blk.cell 9
  have z10 : w.cell? ⟨g, 10, none⟩ = some (.bool b.acc) := hb.blk.cell 10
  have z11 : w.cell? ⟨g, 11, none⟩ = some (.string b.hol) := hb.blk.cell 11
  have z12 : w.cell? ⟨g, 12, none⟩ = some (.slice A n c) := hb.blk.cell 12
  have z13 : w.cell? ⟨g, 13, none⟩ = some (.int .i64 b.last) := hb.blk.cell 13
  have y9 := hb.blk.frozen 9; have y10 := hb.blk.frozen 10; have y11 := hb.blk.frozen 11; have y12 := hb.blk.frozen 12; have y13 := hb.blk.frozen 13
  have hgw : g < w.heap.size := hb.blk.lt
  clear hb
  have HC : Hid (codeV b 0 s t on = stepV b s on (canV b 0) (whoV b 0 s)) := Lib.hid (code_eq b 0 s t on (by omega)).symm
  cases e0 : nmB s
  · have E : Hid (1 = codeV b 0 s t on) := Lib.hid (by (rw [HC.out]; unfold stepV; simp [e0]))
    clear HC
    go_enter Try.func26, Try.ntmps26
    go_wp2_with (first | (go_at_call 15; (with_reducible refine (rnm_any _ _ (by assumption)).mono ?_); rintro e w' ⟨rfl, rfl⟩))
    go_ret
    exact do_err HB.out E.out (by omega) (Below.refl _ _)
  by_cases o1 : on < 0
  · have i1 : isDay on = false := decide_eq_false (by omega)
    have E : Hid (1 = codeV b 0 s t on) := Lib.hid (by (rw [HC.out]; unfold stepV; simp [i1]))
    clear HC
    go_enter Try.func26, Try.ntmps26
    go_wp2_with (first | (go_at_call 15; (with_reducible refine (rnm_any _ _ (by assumption)).mono ?_); rintro e w' ⟨rfl, rfl⟩))
    go_ret
    exact do_err HB.out E.out (by omega) (Below.refl _ _)
  by_cases o2 : 1048576 < on
  · have i1 : isDay on = false := decide_eq_false (by omega)
    have E : Hid (1 = codeV b 0 s t on) := Lib.hid (by (rw [HC.out]; unfold stepV; simp [i1]))
    clear HC
    go_enter Try.func26, Try.ntmps26
    go_wp2_with (first | (go_at_call 15; (with_reducible refine (rnm_any _ _ (by assumption)).mono ?_); rintro e w' ⟨rfl, rfl⟩))
    go_ret
    exact do_err HB.out E.out (by omega) (Below.refl _ _)
  have i1 : isDay on = true := decide_eq_true (by omega)
  by_cases l1 : on < b.last
  · have E : Hid (6 = codeV b 0 s t on) := Lib.hid (by (rw [HC.out]; unfold stepV; simp [e0, i1, l1]))
    clear HC
    go_enter Try.func26, Try.ntmps26
    go_wp2_with (first | (go_at_call 15; (with_reducible refine (rnm_any _ _ (by assumption)).mono ?_); rintro e w' ⟨rfl, rfl⟩))
    go_ret
    exact do_err HB.out E.out (by omega) (Below.refl _ _)
  by_cases k1 : b.d.kind = 0
  · have K1 : (b.d.kind == 0) = true := by rw [k1]; rfl
    have c1 : canV b 0 = false := by unfold canV; rw [if_pos rfl, decide_eq_true k1]; simp
    by_cases s1 : b.st = 0
    · have S1 : (b.st == 0) = true := by rw [s1]; rfl
      have E : Hid (9 = codeV b 0 s t on) := Lib.hid (by (rw [HC.out]; unfold stepV; simp [e0, i1, l1, c1]))
      clear HC
      go_enter Try.func26, Try.ntmps26
      go_wp2_with (first | (go_at_call 15; (with_reducible refine (rnm_any _ _ (by assumption)).mono ?_); rintro e w' ⟨rfl, rfl⟩))
      go_quiet (fail)
      go_wp2_with fail
      go_ret
      exact do_err HB.out E.out (by omega) (below_drewN (Below.refl _ _) _)
    · have S1 : (b.st == 0) = false := by simpa using s1
      have E : Hid (9 = codeV b 0 s t on) := Lib.hid (by (rw [HC.out]; unfold stepV; simp [e0, i1, l1, c1]))
      clear HC
      go_enter Try.func26, Try.ntmps26
      go_wp2_with (first | (go_at_call 15; (with_reducible refine (rnm_any _ _ (by assumption)).mono ?_); rintro e w' ⟨rfl, rfl⟩))
      go_quiet (fail)
      go_wp2_with fail
      go_ret
      exact do_err HB.out E.out (by omega) (below_drewN (Below.refl _ _) _)
  have K1 : (b.d.kind == 0) = false := by simpa using k1
  by_cases s1 : b.st = 0
  rotate_left
  · have S1 : (b.st == 0) = false := by simpa using s1
    have c1 : canV b 0 = false := by unfold canV; rw [if_pos rfl, decide_eq_false s1]; simp
    have E : Hid (9 = codeV b 0 s t on) := Lib.hid (by (rw [HC.out]; unfold stepV; simp [e0, i1, l1, c1]))
    clear HC
    go_enter Try.func26, Try.ntmps26
    go_wp2_with (first | (go_at_call 15; (with_reducible refine (rnm_any _ _ (by assumption)).mono ?_); rintro e w' ⟨rfl, rfl⟩))
    go_quiet (fail)
    go_wp2_with fail
    go_ret
    exact do_err HB.out E.out (by omega) (below_drewN (Below.refl _ _) _)
  have S1 : (b.st == 0) = true := by rw [s1]; rfl
  have c1 : canV b 0 = true := by unfold canV; rw [if_pos rfl, decide_eq_true s1, decide_eq_false k1]; rfl
  have qw := eq_str s b.d.dre
  have hw : whoV b 0 s = decide (s = b.d.dre) := by unfold whoV; rw [if_neg (by omega), if_neg (by omega)]
  by_cases w1 : s = b.d.dre
  rotate_left
  · have W1 : (s.toList == b.d.dre.toList) = false := by rw [qw]; exact decide_eq_false w1
    have w2 : whoV b 0 s = false := by rw [hw]; exact decide_eq_false w1
    clear qw w1 hw
    have E : Hid (8 = codeV b 0 s t on) := Lib.hid (by (rw [HC.out]; unfold stepV; simp [e0, i1, l1, c1, w2]))
    clear HC
    go_enter Try.func26, Try.ntmps26
    go_wp2_with (first | (go_at_call 15; (with_reducible refine (rnm_any _ _ (by assumption)).mono ?_); rintro e w' ⟨rfl, rfl⟩))
    go_quiet (fail)
    go_wp2_with fail
    go_ret
    exact do_err HB.out E.out (by omega) (below_drewN (Below.refl _ _) _)
  have W1 : (s.toList == b.d.dre.toList) = true := by rw [qw]; exact decide_eq_true w1
  have w2 : whoV b 0 s = true := by rw [hw]; exact decide_eq_true w1
  have E : Hid (0 = codeV b 0 s t on) := Lib.hid (by (rw [HC.out]; unfold stepV; simp [e0, i1, l1, c1, w2]))
  clear qw w1 hw HC w2 c1
  have hn : Hid (nextV b 0 s t on = { b with st := 1, acc := true, last := on }) := Lib.hid (by unfold nextV; rw [← E.out, if_pos rfl]; rfl)
  go_enter Try.func26, Try.ntmps26
  go_wp2_with (first | (go_at_call 15; (with_reducible refine (rnm_any _ _ (by assumption)).mono ?_); rintro e w' ⟨rfl, rfl⟩))
  go_quiet (fail)
  go_wp2_with fail
  go_ret
  exact ⟨A, n, c, ret_int E.out, by rw [hn.out]; exact (HB.out.drewN _).set3 (b' := { b with st := 1, acc := true, last := on }) rfl rfl rfl HB.out.hol (by simp), ((((Turn.refl g g w).drewN _).set_ 13 _).set_ 9 _).set_ 10 _, Fresh.same A n w⟩
end Go.Proofs.Yteannbphaodadaa.kit
