/- trim.sum: the moments of the loads, and whether they fit. No condition. -/
import Derived.Test.YteciegpfiipokaaMom
namespace Go.Proofs.Yteciegpfiipokaa
open Go.RowKit Go.Proofs.Yteciegpfiipokaa.kit
set_option linter.unusedVariables false

theorem MapIs.same {w w' : World} {b n : Nat} {l : List Sl} (h : MapIs w b n l) (hh : w'.heap[b]? = w.heap[b]?) : MapIs w' b n l := by
  obtain ⟨D, ⟨es, clock, hb, F, hs, hD⟩, h2, h3⟩ := h
  exact ⟨D, ⟨es, clock, hh.trans hb, F, hs, hD⟩, h2, h3⟩
theorem MapIs.lt {w : World} {b n : Nat} {l : List Sl} (h : MapIs w b n l) : b < w.heap.size := by
  obtain ⟨D, h1, _⟩ := h
  exact h1.lt
theorem MapIs.below {w w' : World} {b n : Nat} {l : List Sl} (h : MapIs w b n l) (hb : Below w.heap.size w w') : MapIs w' b n l := h.same (hb.block b h.lt)
theorem MapIs.alloc {w : World} {b n : Nat} {l : List Sl} (h : MapIs w b n l) (o : Obj) : MapIs (w.alloc o) b n l := h.same (Below.heap_alloc w o b h.lt)
theorem MapIs.far {w : World} {b n : Nat} {l : List Sl} (h : MapIs w b n l) {p : Addr} (hp : b ≠ p.block) (u : Value) : MapIs (w.setCell p u) b n l := h.same (Below.heap_setCell w p u b hp)
theorem MapIs.look3 {w : World} {b n : Nat} {l : List Sl} (h : MapIs w b n l) (x y z : Int) (hx : slI (x, y, z)) :
    (Instr.lookup 60 (.map (some b)) (.agg #[.int .i64 x, .int .i64 y, .int .i64 z]) false).run Try.prog w = .ok (.bool (l.contains (x, y, z))) w := h.look (x, y, z) hx
theorem MapIs.ne_blk {w : World} {b n g : Nat} {l : List Sl} {t : TypeId} {cs : Array Value} (h : MapIs w b n l) (hg : Blk w g t cs) : b ≠ g := by
  rintro rfl
  obtain ⟨D, ⟨es, clock, hb, _⟩, _⟩ := h
  unfold Blk at hg
  rw [hb] at hg
  cases hg
theorem wpList_put (w : World) {ops : Array Oper} {rest : List Oper} {o : Oper} {a : Act} {Q : Exit → Act → World → Prop}
    (hg : o.guard = none) (m x v : Operand) (hop : o.op = Op.mapUpdate 60 m x v) (b n : Nat) (l : List Sl) (hm : a.eval m = .map (some b)) (h : MapIs w b n l) (hn : n < maxLen)
    (s : Sl) (hx : a.eval x = slV s) (hv : a.eval v = .bool true) (hs : slI s)
    (hK : ∀ w', MapIs w' b (n + 1) (s :: l) → w.grownBy w' (some b) → wpList Try.prog ops Q rest (a.put o.dst undef) w') : wpList Try.prog ops Q (o :: rest) a w := by
  refine wpList_plain hg fun K' hK' => ?_
  obtain ⟨w', hrun, r1, r2⟩ := h.put hn s hs
  unfold Oper.wp
  simp [execOp, hop, hm, hx, hv, hrun, Result.andThen]
  exact hK' _ _ (hK w' r1 r2)

theorem set4 {w : World} {g : Nat} {t : TypeId} {a b c d : Value} (h : Blk w g t #[a, b, c, d]) (a' b' c' d' : Value) :
    Blk ((((w.setCell ⟨g, 0, none⟩ a').setCell ⟨g, 1, none⟩ b').setCell ⟨g, 2, none⟩ c').setCell ⟨g, 3, none⟩ d') g t #[a', b', c', d'] := by
  have := (((h.set_ 0 a').set_ 1 b').set_ 2 c').set_ 3 d'
  simpa using this

set_option maxRecDepth 100000 in
set_option maxHeartbeats 1600000 in
theorem sum_any (s : Ship) (hn : s.nm.size ≤ maxLen) (A : Option Addr) (n c : Nat) (xs : List Load) (w : World) (hx : SliceOf w 7 Load.cells A n xs) (hm : n ≤ maxLen) :
    Calls Try.prog 21 #[.agg #[.string s.nm, .int .i64 s.ba, .int .i64 s.ro, .int .i64 s.ti, .int .i64 s.st, .int .i64 s.tr, .int .i64 s.li, .int .i64 s.up, .int .i64 s.mo], .slice A n c] w
      fun e w' => e = .returned (.tuple #[.agg #[.int .i64 (sumV s xs).1.1, .int .i64 (sumV s xs).1.2.1, .int .i64 (sumV s xs).1.2.2.1, .int .i64 (sumV s xs).1.2.2.2], .bool (sumV s xs).2]) ∧ Below w.heap.size w w' := by
  have HX := Lib.hid hx
  have hB0 : Below w.heap.size w ((w.alloc (.cells #[.string s.nm, .int .i64 s.ba, .int .i64 s.ro, .int .i64 s.ti, .int .i64 s.st, .int .i64 s.tr, .int .i64 s.li, .int .i64 s.up, .int .i64 s.mo] 23)).alloc (.cells #[.int .i64 0, .int .i64 0, .int .i64 0, .int .i64 0] 50)) :=
    ((Below.refl _ _).alloc (Nat.le_refl _) _).alloc (by simp) _
  have hk0 : Blk ((w.alloc (.cells #[.string s.nm, .int .i64 s.ba, .int .i64 s.ro, .int .i64 s.ti, .int .i64 s.st, .int .i64 s.tr, .int .i64 s.li, .int .i64 s.up, .int .i64 s.mo] 23)).alloc (.cells #[.int .i64 0, .int .i64 0, .int .i64 0, .int .i64 0] 50)) w.heap.size 23 #[.string s.nm, .int .i64 s.ba, .int .i64 s.ro, .int .i64 s.ti, .int .i64 s.st, .int .i64 s.tr, .int .i64 s.li, .int .i64 s.up, .int .i64 s.mo] := (Blk.new _ _ _).alloc _
  have hr0 : Blk ((w.alloc (.cells #[.string s.nm, .int .i64 s.ba, .int .i64 s.ro, .int .i64 s.ti, .int .i64 s.st, .int .i64 s.tr, .int .i64 s.li, .int .i64 s.up, .int .i64 s.mo] 23)).alloc (.cells #[.int .i64 0, .int .i64 0, .int .i64 0, .int .i64 0] 50)) (w.heap.size + 1) 50 #[.int .i64 0, .int .i64 0, .int .i64 0, .int .i64 0] := Blk.new_at _ _ _ _ (by simp)
  go_enter Try.func21, Try.ntmps21
  go_wp2_with fail
  refine (bayMay_any s hn _).mono ?_
  rintro e w1 ⟨rfl, hb1⟩
  have hB1 := hB0.trans (hb1.mono hB0.size)
  have hk1 := hk0.below hb1 hk0.lt
  have hr1 := hr0.below hb1 hr0.lt
  clear hB0 hk0 hr0 hb1
  have r0 := hr1.cell 0; have r1 := hr1.cell 1; have r2 := hr1.cell 2; have r3 := hr1.cell 3
  have z0 := hr1.frozen 0; have z1 := hr1.frozen 1; have z2 := hr1.frozen 2; have z3 := hr1.frozen 3
  simp at r0 r1 r2 r3
  cases hmay : s.may
  · have e0 : Hid (sumV s xs = ((0, 0, 0, 0), false)) := Lib.hid (by simp [sumV, fitB, hmay])
    clear hx
    go_wp2_with fail
    have q := set4 hr1 (.int .i64 0) (.int .i64 0) (.int .i64 0) (.int .i64 0)
    have q0 := q.cell 0; have q1 := q.cell 1; have q2 := q.cell 2; have q3 := q.cell 3
    simp only [List.getElem?_toArray, List.getElem?_cons_zero, List.getElem?_cons_succ] at q0 q1 q2 q3
    refine bodyPost_ret (v := .tuple #[.agg #[.int .i64 0, .int .i64 0, .int .i64 0, .int .i64 0], .bool false]) (by simp [results, Try.results21, go_sem, q0, q1, q2, q3]) rfl ⟨by rw [e0.out], (((hB1.setCell (by simp) _).setCell (by simp) _).setCell (by simp) _).setCell (by simp) _⟩
  obtain ⟨d0, d1, d2, d3, d4, d5⟩ := dims_of hmay
  have hM := Lib.hid hmay
  by_cases hbig : 4096 < n
  · have e0 : Hid (sumV s xs = ((0, 0, 0, 0), false)) := Lib.hid (by have := hx.len; simp [sumV, fitB]; omega)
    have hbig' : (4096 : Int) < (n : Int) := by omega
    clear hx hmay
    go_wp2_with fail
    have q := set4 hr1 (.int .i64 0) (.int .i64 0) (.int .i64 0) (.int .i64 0)
    have q0 := q.cell 0; have q1 := q.cell 1; have q2 := q.cell 2; have q3 := q.cell 3
    simp only [List.getElem?_toArray, List.getElem?_cons_zero, List.getElem?_cons_succ] at q0 q1 q2 q3
    refine bodyPost_ret (v := .tuple #[.agg #[.int .i64 0, .int .i64 0, .int .i64 0, .int .i64 0], .bool false]) (by simp [results, Try.results21, go_sem, q0, q1, q2, q3]) rfl ⟨by rw [e0.out], (((hB1.setCell (by simp) _).setCell (by simp) _).setCell (by simp) _).setCell (by simp) _⟩
  have hbig' : ¬ (4096 : Int) < (n : Int) := by omega
  have hmm := @run_makeMap Try.prog
  have hS : Hid (sumV s xs = if pre s [] xs then (momF s xs, true) else ((0, 0, 0, 0), false)) := Lib.hid (by have := hx.len; unfold sumV fitB; rw [hmay, show decide (xs.length ≤ 4096) = true by simp; omega]; simp)
  have hxl : xs.length = n := hx.len
  clear hx hmay
  go_wp2_with fail
  have hsz1 := hr1.lt
  go_loopw [23] (fun i wr => ∃ (k : Nat) (L C U M : Int) (seen : List Sl), k ≤ n ∧ i = .int .i64 k ∧ -(k * 32505856) ≤ L ∧ L ≤ k * 32505856 ∧ -(k * 32505856) ≤ C ∧ C ≤ k * 32505856 ∧ 0 ≤ U ∧ U ≤ k * 32505856 ∧ 0 ≤ M ∧ M ≤ k * 1048576 ∧
      Below w.heap.size w wr ∧ Blk wr w.heap.size 23 #[.string s.nm, .int .i64 s.ba, .int .i64 s.ro, .int .i64 s.ti, .int .i64 s.st, .int .i64 s.tr, .int .i64 s.li, .int .i64 s.up, .int .i64 s.mo] ∧
      Blk wr (w.heap.size + 1) 50 #[.int .i64 0, .int .i64 0, .int .i64 0, .int .i64 0] ∧ Blk wr w1.heap.size 50 #[.int .i64 L, .int .i64 C, .int .i64 U, .int .i64 M] ∧ MapIs wr (w1.heap.size + 1) k seen ∧
      Hid (pre s seen (xs.drop k) = pre s [] xs) ∧ Hid ((xs.drop k).foldl (addM s) (L, C, U, M) = momF s xs)) (fun i _ => n - (intOf i).toNat)
  case atStart => exact ⟨0, 0, 0, 0, 0, [], by omega, rfl, by omega, by omega, by omega, by omega, by omega, by omega, by omega, by omega, (hB1.alloc hB1.size _).alloc (by simp; have := hB1.size; omega) _, (hk1.alloc _).alloc _, (hr1.alloc _).alloc _, (Blk.new _ _ _).alloc _, by simpa using MapIs.made (w1.alloc (.cells #[.int .i64 0, .int .i64 0, .int .i64 0, .int .i64 0] 50)), Lib.hid rfl, Lib.hid rfl⟩
  case round =>
    obtain ⟨k, L, C, U, M, seen, hk, rfl, bL0, bL1, bC0, bC1, bU0, bU1, bM0, bM1, hbel, hks, hrs, hms, hmap, hpre, hmom⟩ := hrel
    have a0 := hks.cell 0; have a1 := hks.cell 1; have a2 := hks.cell 2; have a3 := hks.cell 3; have a4 := hks.cell 4; have a5 := hks.cell 5; have a6 := hks.cell 6; have a7 := hks.cell 7; have a8 := hks.cell 8
    have m0 := hms.cell 0; have m1 := hms.cell 1; have m2 := hms.cell 2; have m3 := hms.cell 3
    have y0 := hms.frozen 0; have y1 := hms.frozen 1; have y2 := hms.frozen 2; have y3 := hms.frozen 3
    have r0 := hrs.cell 0; have r1 := hrs.cell 1; have r2 := hrs.cell 2; have r3 := hrs.cell 3
    have z0 := hrs.frozen 0; have z1 := hrs.frozen 1; have z2 := hrs.frozen 2; have z3 := hrs.frozen 3
    simp only [List.getElem?_toArray, List.getElem?_cons_zero, List.getElem?_cons_succ] at a0 a1 a2 a3 a4 a5 a6 a7 a8 m0 m1 m2 m3 r0 r1 r2 r3
    by_cases hlt : k < n
    · obtain ⟨⟨xb, xr, xt, xbox, xwe, xcl, xpo⟩, hx⟩ : ∃ x, xs[k]? = some x := ⟨_, List.getElem?_eq_getElem (by omega)⟩
      obtain ⟨b0, off, rfl, hb0, hc⟩ := HX.out.at_ (by omega)
      have c0 : wr.cell? ⟨b0, off + k * 7, none⟩ = some (.int .i64 xb) := (hbel.cell hb0).trans (hc k _ hx 0 _ rfl)
      have c1 : wr.cell? ⟨b0, off + k * 7 + 1, none⟩ = some (.int .i64 xr) := (hbel.cell hb0).trans (hc k _ hx 1 _ rfl)
      have c2 : wr.cell? ⟨b0, off + k * 7 + 2, none⟩ = some (.int .i64 xt) := (hbel.cell hb0).trans (hc k _ hx 2 _ rfl)
      have c3 : wr.cell? ⟨b0, off + k * 7 + 3, none⟩ = some (.string xbox) := (hbel.cell hb0).trans (hc k _ hx 3 _ rfl)
      have c4 : wr.cell? ⟨b0, off + k * 7 + 4, none⟩ = some (.int .i64 xwe) := (hbel.cell hb0).trans (hc k _ hx 4 _ rfl)
      have c5 : wr.cell? ⟨b0, off + k * 7 + 5, none⟩ = some (.int .i64 xcl) := (hbel.cell hb0).trans (hc k _ hx 5 _ rfl)
      have c6 : wr.cell? ⟨b0, off + k * 7 + 6, none⟩ = some (.int .i64 xpo) := (hbel.cell hb0).trans (hc k _ hx 6 _ rfl)
      have HP := Lib.hid ((pre_step (s := s) (seen := seen) hx).symm.trans hpre.out)
      have HM := Lib.hid ((mom_step (s := s) (m := (L, C, U, M)) hx).symm.trans hmom.out)
      have HC := Lib.hid hc
      clear hx hpre hmom hc
      have hkl := hks.alloc (.cells #[.int .i64 xb, .int .i64 xr, .int .i64 xt, .string xbox, .int .i64 xwe, .int .i64 xcl, .int .i64 xpo] 40)
      have hnl := Blk.new wr 40 #[.int .i64 xb, .int .i64 xr, .int .i64 xt, .string xbox, .int .i64 xwe, .int .i64 xcl, .int .i64 xpo]
      have hBl := hbel.alloc hbel.size (.cells #[.int .i64 xb, .int .i64 xr, .int .i64 xt, .string xbox, .int .i64 xwe, .int .i64 xcl, .int .i64 xpo] 40)
      have hrl := hrs.alloc (.cells #[.int .i64 xb, .int .i64 xr, .int .i64 xt, .string xbox, .int .i64 xwe, .int .i64 xcl, .int .i64 xpo] 40)
      have hml := hms.alloc (.cells #[.int .i64 xb, .int .i64 xr, .int .i64 xt, .string xbox, .int .i64 xwe, .int .i64 xcl, .int .i64 xpo] 40)
      have hpl := hmap.alloc (.cells #[.int .i64 xb, .int .i64 xr, .int .i64 xt, .string xbox, .int .i64 xwe, .int .i64 xcl, .int .i64 xpo] 40)
      clear a0 a1 a2 a3 a4 a5 a6 a7 a8 m0 m1 m2 m3 y0 y1 y2 y3 r0 r1 r2 r3 z0 z1 z2 z3
      have a0 := hkl.cell 0; have a1 := hkl.cell 1; have a2 := hkl.cell 2; have a3 := hkl.cell 3; have a4 := hkl.cell 4; have a5 := hkl.cell 5; have a6 := hkl.cell 6; have a7 := hkl.cell 7; have a8 := hkl.cell 8
      simp only [List.getElem?_toArray, List.getElem?_cons_zero, List.getElem?_cons_succ] at a0 a1 a2 a3 a4 a5 a6 a7 a8
      cases eon : onS s.ba s.ro s.ti xb xr xt
      · have E := Lib.hid eon
        clear eon
        go_wp2_with fail
        refine (isOn_any s xb xr xt _).mono ?_
        rw [E.out]
        rintro e w2 ⟨rfl, hb2⟩
        have hk2 := hkl.below hb2 hkl.lt
        have hr2 := hrl.below hb2 hrl.lt
        have hm2 := hml.below hb2 hml.lt
        have hn2 := hnl.below hb2 hnl.lt
        have hp2 := hpl.below hb2
        have hB2 := hBl.trans (hb2.mono hBl.size)
        clear a0 a1 a2 a3 a4 a5 a6 a7 a8 hkl hrl hml hnl hpl hBl hb2
        have r0 := hr2.cell 0; have r1 := hr2.cell 1; have r2 := hr2.cell 2; have r3 := hr2.cell 3
        have z0 := hr2.frozen 0; have z1 := hr2.frozen 1; have z2 := hr2.frozen 2; have z3 := hr2.frozen 3
        have n0 := hn2.cell 0; have n1 := hn2.cell 1; have n2 := hn2.cell 2; have n4 := hn2.cell 4
        simp only [List.getElem?_toArray, List.getElem?_cons_zero, List.getElem?_cons_succ] at r0 r1 r2 r3 n0 n1 n2 n4
        have e0 : Hid (sumV s xs = ((0, 0, 0, 0), false)) := Lib.hid (by rw [hS.out, ← HP.out]; simp [okB, Load.sl, E.out])
        go_wp2_with fail
        have q := set4 hr2 (.int .i64 0) (.int .i64 0) (.int .i64 0) (.int .i64 0)
        have q0 := q.cell 0; have q1 := q.cell 1; have q2 := q.cell 2; have q3 := q.cell 3
        simp only [List.getElem?_toArray, List.getElem?_cons_zero, List.getElem?_cons_succ] at q0 q1 q2 q3
        refine bodyPost_ret (v := .tuple #[.agg #[.int .i64 0, .int .i64 0, .int .i64 0, .int .i64 0], .bool false]) (by simp [results, Try.results21, go_sem, q0, q1, q2, q3]) rfl ⟨by rw [e0.out], (((hB2.setCell (by simp) _).setCell (by simp) _).setCell (by simp) _).setCell (by simp) _⟩
      obtain ⟨o0, o1, o2, o3, o4, o5⟩ := on_of eon
      have E := Lib.hid eon
      clear eon
      by_cases v0 : 1 ≤ xwe
      case neg =>
        have V := Lib.hid v0
        go_wp2_with fail
        refine (isOn_any s xb xr xt _).mono ?_
        rw [E.out]
        rintro e w2 ⟨rfl, hb2⟩
        have hk2 := hkl.below hb2 hkl.lt
        have hr2 := hrl.below hb2 hrl.lt
        have hm2 := hml.below hb2 hml.lt
        have hn2 := hnl.below hb2 hnl.lt
        have hp2 := hpl.below hb2
        have hB2 := hBl.trans (hb2.mono hBl.size)
        clear a0 a1 a2 a3 a4 a5 a6 a7 a8 hkl hrl hml hnl hpl hBl hb2
        have r0 := hr2.cell 0; have r1 := hr2.cell 1; have r2 := hr2.cell 2; have r3 := hr2.cell 3
        have z0 := hr2.frozen 0; have z1 := hr2.frozen 1; have z2 := hr2.frozen 2; have z3 := hr2.frozen 3
        have n0 := hn2.cell 0; have n1 := hn2.cell 1; have n2 := hn2.cell 2; have n4 := hn2.cell 4
        simp only [List.getElem?_toArray, List.getElem?_cons_zero, List.getElem?_cons_succ] at r0 r1 r2 r3 n0 n1 n2 n4
        have e0 : Hid (sumV s xs = ((0, 0, 0, 0), false)) := Lib.hid (by rw [hS.out, ← HP.out]; have v := V.out; simp [okB, Load.sl]; intros; first | omega | (simp at v; contradiction))
        go_wp2_with fail
        have q := set4 hr2 (.int .i64 0) (.int .i64 0) (.int .i64 0) (.int .i64 0)
        have q0 := q.cell 0; have q1 := q.cell 1; have q2 := q.cell 2; have q3 := q.cell 3
        simp only [List.getElem?_toArray, List.getElem?_cons_zero, List.getElem?_cons_succ] at q0 q1 q2 q3
        refine bodyPost_ret (v := .tuple #[.agg #[.int .i64 0, .int .i64 0, .int .i64 0, .int .i64 0], .bool false]) (by simp [results, Try.results21, go_sem, q0, q1, q2, q3]) rfl ⟨by rw [e0.out], (((hB2.setCell (by simp) _).setCell (by simp) _).setCell (by simp) _).setCell (by simp) _⟩
      by_cases v1 : xwe ≤ 1048576
      case neg =>
        have V := Lib.hid v1
        go_wp2_with fail
        refine (isOn_any s xb xr xt _).mono ?_
        rw [E.out]
        rintro e w2 ⟨rfl, hb2⟩
        have hk2 := hkl.below hb2 hkl.lt
        have hr2 := hrl.below hb2 hrl.lt
        have hm2 := hml.below hb2 hml.lt
        have hn2 := hnl.below hb2 hnl.lt
        have hp2 := hpl.below hb2
        have hB2 := hBl.trans (hb2.mono hBl.size)
        clear a0 a1 a2 a3 a4 a5 a6 a7 a8 hkl hrl hml hnl hpl hBl hb2
        have r0 := hr2.cell 0; have r1 := hr2.cell 1; have r2 := hr2.cell 2; have r3 := hr2.cell 3
        have z0 := hr2.frozen 0; have z1 := hr2.frozen 1; have z2 := hr2.frozen 2; have z3 := hr2.frozen 3
        have n0 := hn2.cell 0; have n1 := hn2.cell 1; have n2 := hn2.cell 2; have n4 := hn2.cell 4
        simp only [List.getElem?_toArray, List.getElem?_cons_zero, List.getElem?_cons_succ] at r0 r1 r2 r3 n0 n1 n2 n4
        have e0 : Hid (sumV s xs = ((0, 0, 0, 0), false)) := Lib.hid (by rw [hS.out, ← HP.out]; have v := V.out; simp [okB, Load.sl]; intros; first | omega | (simp at v; contradiction))
        go_wp2_with fail
        have q := set4 hr2 (.int .i64 0) (.int .i64 0) (.int .i64 0) (.int .i64 0)
        have q0 := q.cell 0; have q1 := q.cell 1; have q2 := q.cell 2; have q3 := q.cell 3
        simp only [List.getElem?_toArray, List.getElem?_cons_zero, List.getElem?_cons_succ] at q0 q1 q2 q3
        refine bodyPost_ret (v := .tuple #[.agg #[.int .i64 0, .int .i64 0, .int .i64 0, .int .i64 0], .bool false]) (by simp [results, Try.results21, go_sem, q0, q1, q2, q3]) rfl ⟨by rw [e0.out], (((hB2.setCell (by simp) _).setCell (by simp) _).setCell (by simp) _).setCell (by simp) _⟩
      cases ec : seen.contains (xb, xr, xt)
      case true =>
        have V := Lib.hid ec
        go_wp2_with fail
        refine (isOn_any s xb xr xt _).mono ?_
        rw [E.out]
        rintro e w2 ⟨rfl, hb2⟩
        have hk2 := hkl.below hb2 hkl.lt
        have hr2 := hrl.below hb2 hrl.lt
        have hm2 := hml.below hb2 hml.lt
        have hn2 := hnl.below hb2 hnl.lt
        have hp2 := hpl.below hb2
        have hB2 := hBl.trans (hb2.mono hBl.size)
        clear a0 a1 a2 a3 a4 a5 a6 a7 a8 hkl hrl hml hnl hpl hBl hb2
        have r0 := hr2.cell 0; have r1 := hr2.cell 1; have r2 := hr2.cell 2; have r3 := hr2.cell 3
        have z0 := hr2.frozen 0; have z1 := hr2.frozen 1; have z2 := hr2.frozen 2; have z3 := hr2.frozen 3
        have n0 := hn2.cell 0; have n1 := hn2.cell 1; have n2 := hn2.cell 2; have n4 := hn2.cell 4
        simp only [List.getElem?_toArray, List.getElem?_cons_zero, List.getElem?_cons_succ] at r0 r1 r2 r3 n0 n1 n2 n4
        have hl := hp2.look3 xb xr xt ⟨⟨by simp only; omega, by simp only; omega⟩, ⟨by simp only; omega, by simp only; omega⟩, ⟨by simp only; omega, by simp only; omega⟩⟩
        rw [V.out] at hl
        clear ec
        have e0 : Hid (sumV s xs = ((0, 0, 0, 0), false)) := Lib.hid (by rw [hS.out, ← HP.out]; have v := V.out; simp [okB, Load.sl]; intros; first | omega | (simp at v; contradiction))
        go_wp2_with fail
        have q := set4 hr2 (.int .i64 0) (.int .i64 0) (.int .i64 0) (.int .i64 0)
        have q0 := q.cell 0; have q1 := q.cell 1; have q2 := q.cell 2; have q3 := q.cell 3
        simp only [List.getElem?_toArray, List.getElem?_cons_zero, List.getElem?_cons_succ] at q0 q1 q2 q3
        refine bodyPost_ret (v := .tuple #[.agg #[.int .i64 0, .int .i64 0, .int .i64 0, .int .i64 0], .bool false]) (by simp [results, Try.results21, go_sem, q0, q1, q2, q3]) rfl ⟨by rw [e0.out], (((hB2.setCell (by simp) _).setCell (by simp) _).setCell (by simp) _).setCell (by simp) _⟩
      have V := Lib.hid ec
      go_wp2_with fail
      refine (isOn_any s xb xr xt _).mono ?_
      rw [E.out]
      rintro e w2 ⟨rfl, hb2⟩
      have hk2 := hkl.below hb2 hkl.lt
      have hr2 := hrl.below hb2 hrl.lt
      have hm2 := hml.below hb2 hml.lt
      have hn2 := hnl.below hb2 hnl.lt
      have hp2 := hpl.below hb2
      have hB2 := hBl.trans (hb2.mono hBl.size)
      clear a0 a1 a2 a3 a4 a5 a6 a7 a8 hkl hrl hml hnl hpl hBl hb2
      have r0 := hr2.cell 0; have r1 := hr2.cell 1; have r2 := hr2.cell 2; have r3 := hr2.cell 3
      have z0 := hr2.frozen 0; have z1 := hr2.frozen 1; have z2 := hr2.frozen 2; have z3 := hr2.frozen 3
      have n0 := hn2.cell 0; have n1 := hn2.cell 1; have n2 := hn2.cell 2; have n4 := hn2.cell 4
      simp only [List.getElem?_toArray, List.getElem?_cons_zero, List.getElem?_cons_succ] at r0 r1 r2 r3 n0 n1 n2 n4
      have hl := hp2.look3 xb xr xt ⟨⟨by simp only; omega, by simp only; omega⟩, ⟨by simp only; omega, by simp only; omega⟩, ⟨by simp only; omega, by simp only; omega⟩⟩
      rw [V.out] at hl
      clear ec
      obtain ⟨w3, hput, hp3, hg3⟩ := hp2.put (by unfold maxLen; omega) (xb, xr, xt) ⟨⟨by simp only; omega, by simp only; omega⟩, ⟨by simp only; omega, by simp only; omega⟩, ⟨by simp only; omega, by simp only; omega⟩⟩
      simp only [slV] at hput
      have hne := hp2.ne_blk hk2
      have hne2 := hp2.ne_blk hr2
      have hne3 := hp2.ne_blk hm2
      have hne4 := hp2.ne_blk hn2
      have hk3 := hk2.grown hg3 (by simp; omega)
      have hr3 := hr2.grown hg3 (by simp; omega)
      have hm3 := hm2.grown hg3 (by simp)
      have hn3 := hn2.grown hg3 (by simp; omega)
      have hB3 : Below w.heap.size w w3 := hB2.grown hg3 hB2.size (fun j h => by cases h; omega)
      have a1 := hk3.cell 1; have a2 := hk3.cell 2
      have n0' := hn3.cell 0; have n1' := hn3.cell 1; have n2' := hn3.cell 2; have n4' := hn3.cell 4
      have m0 := hm3.cell 0; have m1 := hm3.cell 1; have m2 := hm3.cell 2; have m3 := hm3.cell 3
      have y0 := hm3.frozen 0; have y1 := hm3.frozen 1; have y2 := hm3.frozen 2; have y3 := hm3.frozen 3
      simp only [List.getElem?_toArray, List.getElem?_cons_zero, List.getElem?_cons_succ] at a1 a2 n0' n1' n2' n4' m0 m1 m2 m3
      have bL := mul_bd (q := 2 * xb - s.ba + 1) (K := 31) v0 v1 (by omega) (by omega) (by omega)
      have bC := mul_bd (q := 2 * xr - s.ro + 1) (K := 31) v0 v1 (by omega) (by omega) (by omega)
      have bU := mul_bd0 (q := xt) (K := 31) v0 v1 o4 (by omega) (by omega)
      obtain ⟨bL2, bL3⟩ := bL
      obtain ⟨bC2, bC3⟩ := bC
      obtain ⟨bU2, bU3⟩ := bU
      go_wp2_with fail
      go_roundw
      case rel =>
        refine ⟨k + 1, L + xwe * (2 * xb - s.ba + 1), C + xwe * (2 * xr - s.ro + 1), U + xwe * xt, M + xwe, (xb, xr, xt) :: seen, by omega, by go_num, by omega, by omega, by omega, by omega, by omega, by omega, by omega, by omega,
          (((hB3.setCell (by simp; omega) _).setCell (by simp; omega) _).setCell (by simp; omega) _).setCell (by simp; omega) _,
          (((hk3.far (by simp; omega) _).far (by simp; omega) _).far (by simp; omega) _).far (by simp; omega) _,
          (((hr3.far (by simp; omega) _).far (by simp; omega) _).far (by simp; omega) _).far (by simp; omega) _,
          set4 hm3 _ _ _ _, (((hp3.far (by simp) _).far (by simp) _).far (by simp) _).far (by simp) _, Lib.hid ?_, Lib.hid HM.out⟩
        rw [← HP.out]
        have e1 : okB s seen ⟨xb, xr, xt, xbox, xwe, xcl, xpo⟩ = true := by
          have v := V.out
          unfold okB
          simp only [Load.sl, E.out, V.out, v0, v1, decide_true, Bool.and_self, Bool.not_false]
        rw [e1]
        simp [Load.sl]
      case measure => simp [intOf]; omega
    · have hkn : k = n := by omega
      have e0 : Hid (sumV s xs = ((L, C, U, M), true)) := Lib.hid (by rw [hS.out, ← hpre.out, ← hmom.out, List.drop_eq_nil_of_le (by omega)]; simp [pre])
      go_wp2_with fail
      have q := set4 hrs (.int .i64 L) (.int .i64 C) (.int .i64 U) (.int .i64 M)
      have q0 := q.cell 0; have q1 := q.cell 1; have q2 := q.cell 2; have q3 := q.cell 3
      simp only [List.getElem?_toArray, List.getElem?_cons_zero, List.getElem?_cons_succ] at q0 q1 q2 q3
      refine bodyPost_ret (v := .tuple #[.agg #[.int .i64 L, .int .i64 C, .int .i64 U, .int .i64 M], .bool true]) (by simp [results, Try.results21, go_sem, q0, q1, q2, q3]) rfl ⟨by rw [e0.out], (((hbel.setCell (by simp) _).setCell (by simp) _).setCell (by simp) _).setCell (by simp) _⟩
end Go.Proofs.Yteciegpfiipokaa
