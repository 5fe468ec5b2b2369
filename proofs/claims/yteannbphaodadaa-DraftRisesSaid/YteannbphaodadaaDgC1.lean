/- The document's Do: call 1. No condition. -/
import Derived.Test.YteannbphaodadaaDgC
namespace Go.Proofs.Yteannbphaodadaa.kit
open Go.RowKit Go.PlainAid Go.Maps
set_option linter.unusedVariables false

set_option maxRecDepth 100000 in
set_option maxHeartbeats 6400000 in
theorem rdo1_any (g : Nat) (A : Option Addr) (n c : Nat) (b : Bl) (s t : ByteArray) (on : Int) (w : World) (hb : IsRef w g A n c b) (hs : s.size ≤ maxLen) (ht : t.size ≤ maxLen) (hlen : b.pas.length < 1000) :
    Calls Try.prog 26 #[(.pointer (some ⟨g, 0, none⟩)), .int .i64 1, .string s, .string t, .int .i64 on] w (DoPost g A b 1 s t on w) := by
  have HB := Lib.hid hb
  have st0 := hb.st0
  have z2 : w.cell? ⟨g, 2, none⟩ = some (.string b.d.dre) := hb.blk.cell 2
  have z6 : w.cell? ⟨g, 6, none⟩ = some (.int .i64 b.d.kind) := hb.blk.cell 6
  have z9 : w.cell? ⟨g, 9, none⟩ = some (.int .i64 b.st) := hb.blk.cell 9
  have z10 : w.cell? ⟨g, 10, none⟩ = some (.bool b.acc) := hb.blk.cell 10
  have z11 : w.cell? ⟨g, 11, none⟩ = some (.string b.hol) := hb.blk.cell 11
  have z12 : w.cell? ⟨g, 12, none⟩ = some (.slice A n c) := hb.blk.cell 12
  have z13 : w.cell? ⟨g, 13, none⟩ = some (.int .i64 b.last) := hb.blk.cell 13
  have y9 := hb.blk.frozen 9; have y10 := hb.blk.frozen 10; have y11 := hb.blk.frozen 11; have y12 := hb.blk.frozen 12; have y13 := hb.blk.frozen 13
  have hgw : g < w.heap.size := hb.blk.lt
  clear hb
  have HC : Hid (codeV b 1 s t on = if (nmB t && !decide (t = s)) = false then 1 else stepV b s on (canV b 1) (whoV b 1 s)) := Lib.hid (by unfold codeV; simp)
  cases e0 : nmB s
  · have E : Hid (1 = codeV b 1 s t on) := Lib.hid (by (rw [HC.out]; unfold stepV; simp [e0]))
    clear HC
    go_enter Try.func26, Try.ntmps26
    go_wp2_with (first | (go_at_call 15; (with_reducible refine (rnm_any _ _ (by assumption)).mono ?_); rintro e w' ⟨rfl, rfl⟩))
    go_ret
    exact do_err HB.out E.out (by omega) (Below.refl _ _)
  by_cases o1 : on < 0
  · have i1 : isDay on = false := decide_eq_false (by omega)
    have E : Hid (1 = codeV b 1 s t on) := Lib.hid (by (rw [HC.out]; unfold stepV; simp [i1]))
    clear HC
    go_enter Try.func26, Try.ntmps26
    go_wp2_with (first | (go_at_call 15; (with_reducible refine (rnm_any _ _ (by assumption)).mono ?_); rintro e w' ⟨rfl, rfl⟩))
    go_ret
    exact do_err HB.out E.out (by omega) (Below.refl _ _)
  by_cases o2 : 1048576 < on
  · have i1 : isDay on = false := decide_eq_false (by omega)
    have E : Hid (1 = codeV b 1 s t on) := Lib.hid (by (rw [HC.out]; unfold stepV; simp [i1]))
    clear HC
    go_enter Try.func26, Try.ntmps26
    go_wp2_with (first | (go_at_call 15; (with_reducible refine (rnm_any _ _ (by assumption)).mono ?_); rintro e w' ⟨rfl, rfl⟩))
    go_ret
    exact do_err HB.out E.out (by omega) (Below.refl _ _)
  have i1 : isDay on = true := decide_eq_true (by omega)
  have q1 := eq_str t s
  cases e1 : nmB t
  · have E : Hid (1 = codeV b 1 s t on) := Lib.hid (by (rw [HC.out, e1]; rfl))
    clear HC
    go_enter Try.func26, Try.ntmps26
    go_wp2_with (first | (go_at_call 15; (with_reducible refine (rnm_any _ _ (by assumption)).mono ?_); rintro e w' ⟨rfl, rfl⟩))
    go_ret
    exact do_err HB.out E.out (by omega) (Below.refl _ _)
  by_cases e2 : t = s
  · have d1 : (t.toList == s.toList) = true := by rw [q1]; exact decide_eq_true e2
    have E : Hid (1 = codeV b 1 s t on) := Lib.hid (by (rw [HC.out, decide_eq_true e2]; simp))
    clear HC
    go_enter Try.func26, Try.ntmps26
    go_wp2_with (first | (go_at_call 15; (with_reducible refine (rnm_any _ _ (by assumption)).mono ?_); rintro e w' ⟨rfl, rfl⟩))
    go_ret
    exact do_err HB.out E.out (by omega) (Below.refl _ _)
  have d1 : (t.toList == s.toList) = false := by rw [q1]; exact decide_eq_false e2
  have HC1 : Hid (codeV b 1 s t on = stepV b s on (canV b 1) (whoV b 1 s)) := Lib.hid (by rw [HC.out, e1, decide_eq_false e2, if_neg (by simp)])
  clear HC q1
  have HC := HC1
  clear HC1
  by_cases l1 : on < b.last
  · have E : Hid (6 = codeV b 1 s t on) := Lib.hid (by (rw [HC.out]; unfold stepV; simp [e0, i1, l1]))
    clear HC
    go_enter Try.func26, Try.ntmps26
    go_wp2_with (first | (go_at_call 15; (with_reducible refine (rnm_any _ _ (by assumption)).mono ?_); rintro e w' ⟨rfl, rfl⟩))
    go_ret
    exact do_err HB.out E.out (by omega) (Below.refl _ _)
  by_cases s1 : b.st ≤ 1
  rotate_left
  · have S1 : decide (b.st ≤ 1) = false := decide_eq_false s1
    have c1 : canV b 1 = false := by unfold canV; rw [if_neg (by omega), if_pos (by omega)]; exact decide_eq_false (by omega)
    by_cases k1 : b.d.kind = 0
    · have K1 : (b.d.kind == 0) = true := by rw [k1]; rfl
      have E : Hid (9 = codeV b 1 s t on) := Lib.hid (by (rw [HC.out]; unfold stepV; simp [e0, i1, l1, c1]))
      clear HC
      go_enter Try.func26, Try.ntmps26
      go_wp2_with (first | (go_at_call 15; (with_reducible refine (rnm_any _ _ (by assumption)).mono ?_); rintro e w' ⟨rfl, rfl⟩))
      go_quiet (fail)
      go_wp2_with fail
      go_ret
      exact do_err HB.out E.out (by omega) (below_drewN (Below.refl _ _) _)
    · have K1 : (b.d.kind == 0) = false := by simpa using k1
      have E : Hid (9 = codeV b 1 s t on) := Lib.hid (by (rw [HC.out]; unfold stepV; simp [e0, i1, l1, c1]))
      clear HC
      go_enter Try.func26, Try.ntmps26
      go_wp2_with (first | (go_at_call 15; (with_reducible refine (rnm_any _ _ (by assumption)).mono ?_); rintro e w' ⟨rfl, rfl⟩))
      go_quiet (fail)
      go_wp2_with fail
      go_ret
      exact do_err HB.out E.out (by omega) (below_drewN (Below.refl _ _) _)
  have S1 : decide (b.st ≤ 1) = true := decide_eq_true s1
  have c1 : canV b 1 = true := by unfold canV; rw [if_neg (by omega), if_pos (by omega)]; exact decide_eq_true (by omega)
  have qw := eq_str s b.hol
  have hw : whoV b 1 s = decide (s = b.hol) := by unfold whoV; rw [if_pos (by omega)]
  by_cases w1 : s = b.hol
  rotate_left
  · have W1 : (s.toList == b.hol.toList) = false := by rw [qw]; exact decide_eq_false w1
    have w2 : whoV b 1 s = false := by rw [hw]; exact decide_eq_false w1
    clear qw w1 hw
    by_cases k1 : b.d.kind = 0
    · have K1 : (b.d.kind == 0) = true := by rw [k1]; rfl
      have E : Hid (8 = codeV b 1 s t on) := Lib.hid (by (rw [HC.out]; unfold stepV; simp [e0, i1, l1, c1, w2]))
      clear HC
      go_enter Try.func26, Try.ntmps26
      go_wp2_with (first | (go_at_call 15; (with_reducible refine (rnm_any _ _ (by assumption)).mono ?_); rintro e w' ⟨rfl, rfl⟩))
      go_quiet (fail)
      go_wp2_with fail
      go_ret
      exact do_err HB.out E.out (by omega) (below_drewN (Below.refl _ _) _)
    · have K1 : (b.d.kind == 0) = false := by simpa using k1
      have E : Hid (8 = codeV b 1 s t on) := Lib.hid (by (rw [HC.out]; unfold stepV; simp [e0, i1, l1, c1, w2]))
      clear HC
      go_enter Try.func26, Try.ntmps26
      go_wp2_with (first | (go_at_call 15; (with_reducible refine (rnm_any _ _ (by assumption)).mono ?_); rintro e w' ⟨rfl, rfl⟩))
      go_quiet (fail)
      go_wp2_with fail
      go_ret
      exact do_err HB.out E.out (by omega) (below_drewN (Below.refl _ _) _)
  have W1 : (s.toList == b.hol.toList) = true := by rw [qw]; exact decide_eq_true w1
  have w2 : whoV b 1 s = true := by rw [hw]; exact decide_eq_true w1
  have E : Hid (0 = codeV b 1 s t on) := Lib.hid (by (rw [HC.out]; unfold stepV; simp [e0, i1, l1, c1, w2]))
  clear qw w1 hw HC w2 c1
  have hn : Hid (nextV b 1 s t on = { b with pas := b.pas ++ [s], hol := t, last := on }) := Lib.hid (by unfold nextV; rw [← E.out, if_pos rfl]; rfl)
  obtain ⟨i0, hi, hz0, hz1, hz2⟩ := info_parts infoStr
  have hl := HB.out.sl.len
  cases K1 : (b.d.kind == 0)
  all_goals
    go_enter Try.func26, Try.ntmps26
    go_wp2_with (first | (go_at_call 15; (with_reducible refine (rnm_any _ _ (by assumption)).mono ?_); rintro e w' ⟨rfl, rfl⟩))
    go_quiet (fail)
    go_upto_region 29 with (fail)
    have HIW : Hid (IsRef ((w.drewN nq).setCell ⟨g, 13, none⟩ (.int .i64 on)) g A n c { b with last := on }) := Lib.hid ((HB.out.drewN nq).set1 (b' := { b with last := on }) rfl rfl rfl HB.out.hol st0)
    have HTW : Hid (Turn g g w ((w.drewN nq).setCell ⟨g, 13, none⟩ (.int .i64 on))) := Lib.hid (((Turn.refl g g w).drewN _).set_ 13 _)
    generalize (w.drewN nq).setCell ⟨g, 13, none⟩ (.int .i64 on) = V at HIW HTW ⊢
    clear z2 z6 z9 z10 z11 z12 z13 y9 y10 y11 y12 y13
    have hgV : g < V.heap.size := HIW.out.blk.lt
    have z12 : V.cell? ⟨g, 12, none⟩ = some (.slice A n c) := HIW.out.blk.cell 12
    go_wp2_with (first | (at_builtin; refine wpList_append_any_s (V.alloc (.cells #[] 9)) rfl (.tmp 140) (.tmp 144) 26 rfl V.heap.size 9 i0 _ 1 16 Try.underlying26 hi hz0 hz1 hz2 rfl (by omega) (.slice (some ⟨V.heap.size, 0, none⟩) 0 0) 0 [] rfl (own_first0 V) _ A n _ (b.pas.flatMap strC) rfl (((HIW.out.sl.below (one_alloc V _)).reads (fun _ => rfl))) (str_one _) (by unfold maxLen; omega) (by omega) (size_first0 V _) ?_; intro A9 c9 w9 hown1 hg1 hloc1; have hB9 := grown_emp0 (one_alloc V _) hg1 (Nat.le_refl _); simp only [Nat.zero_add, List.nil_append] at hown1; have HB9 := Lib.hid hB9; have HO9 := Lib.hid hown1; clear hown1 hg1 hloc1 hB9) | (at_builtin; refine wpList_append_any_s (w9.alloc (.cells #[.string s] 9)) rfl (.tmp 145) (.tmp 147) 26 rfl V.heap.size 9 i0 _ 1 16 Try.underlying26 hi hz0 hz1 hz2 rfl (by omega) (.slice A9 n c9) n _ rfl (HO9.out.alloc _) _ (some ⟨w9.heap.size, 0, none⟩) 1 1 [.string s] rfl ((SliceOf.blk (en := strC) (Blk.new_at _ 9 #[.string s] _ rfl) [s] rfl (fun _ => rfl) rfl).reads (fun _ => rfl)) (by simp [Value.oneCell']) (by unfold maxLen; omega) (by omega) (HB9.out.alloc HB9.out.size _).size ?_; intro A8 c8 w8 hown2 hg2 hloc2; have hB8 : Below V.heap.size V w8 := (HB9.out.alloc HB9.out.size _).grown hg2 (HB9.out.alloc HB9.out.size _).size (fun j hj => (HO9.out.lt j hj).1); rw [flat_snoc] at hown2; have HB8 := Lib.hid hB8; have HO8 := Lib.hid hown2; clear hown2 hg2 hloc2 hB8; have HI8 := Lib.hid (HIW.out.below HB8.out); have x11 : w8.cell? ⟨g, 11, none⟩ = some (.string b.hol) := HI8.out.blk.cell 11; have x12 : w8.cell? ⟨g, 12, none⟩ = some (.slice A n c) := HI8.out.blk.cell 12; have v11 := HI8.out.blk.frozen 11; have v12 := HI8.out.blk.frozen 12))
    go_ret
    exact ⟨A8, n + 1, c8, ret_int E.out, by rw [hn.out]; exact HIW.out.more HO8.out rfl HB8.out hs ht hlen, ((HTW.out.trans (Turn.of_below HB8.out (by omega))).set_ 12 _).set_ 11 _, fun x off ex => .inr ⟨Nat.le_trans HTW.out.size (own_new HO8.out x off ex), Nat.succ_pos _⟩⟩
end Go.Proofs.Yteannbphaodadaa.kit
