/- DraftRises: the law. No condition. -/
import Derived.Test.YteannbphaodadaaDu
import Derived.Test.YteannbphaodadaaBookB
import Derived.Test.YteannbphaodadaaCalArg
namespace Go.Proofs.Yteannbphaodadaa.kit
open Go.RowKit Go.PlainAid Go.Maps Go.Proofs.Yteannbphaodadaa.cal
set_option linter.unusedVariables false
theorem due_ok {c : Cal} {d : Dr} (h : (dueV c d).2 = true) : mayD d = true ∧ (cal.nextV c (d.fr + d.days)).2 = true ∧ (dueV c d).1 = (cal.nextV c (d.fr + d.days)).1 := by
  unfold dueV at h ⊢
  cases hm : mayD d
  · rw [hm] at h; simp at h
  · rw [hm] at h
    simp only [if_true] at h ⊢
    exact ⟨by first | trivial | rfl, h, by first | trivial | rfl⟩
theorem due_low {c : Cal} {d : Dr} (h : (dueV c d).2 = true) : d.fr + d.days ≤ (dueV c d).1 := by
  obtain ⟨_, h1, h2⟩ := due_ok h
  rw [h2]
  exact (next_in h1).2.2.2.1
theorem due_mono {c : Cal} {d d' : Dr} (h : (dueV c d).2 = true) (h' : (dueV c d').2 = true) (hl : d.fr + d.days ≤ d'.fr + d'.days) : (dueV c d).1 ≤ (dueV c d').1 := by
  obtain ⟨_, h1, h2⟩ := due_ok h
  obtain ⟨_, h3, h4⟩ := due_ok h'
  rw [h2, h4]
  exact next_mono h1 h3 hl
/-- Two drafts made as copies of one. -/
def TwoD (d : Dr) (W : World) (v u : Value) (wx : World) : Prop :=
  ∃ p q, v = (.pointer (some ⟨p, 0, none⟩)) ∧ u = (.pointer (some ⟨q, 0, none⟩)) ∧ p ≠ q ∧ W.heap.size ≤ p ∧ W.heap.size ≤ q ∧ Blk wx p 25 #[.string d.num, .string d.drw, .string d.dre, .string d.pay, .string d.cur, .int .i64 d.amt, .int .i64 d.kind, .int .i64 d.days, .int .i64 d.fr] ∧ Blk wx q 25 #[.string d.num, .string d.drw, .string d.dre, .string d.pay, .string d.cur, .int .i64 d.amt, .int .i64 d.kind, .int .i64 d.days, .int .i64 d.fr] ∧ Below W.heap.size W wx
/-- A box for a draft, made since; full: it holds d. -/
def boxD (W : World) (B : Nat) (v : Value) (full : Bool) (d : Dr) : Prop := ∃ (g : Nat) (cs : Array Value), v = (.pointer (some ⟨g, 0, none⟩)) ∧ B ≤ g ∧ Blk W g 25 cs ∧ cs.size = 9 ∧ (full = true → cs = #[.string d.num, .string d.drw, .string d.dre, .string d.pay, .string d.cur, .int .i64 d.amt, .int .i64 d.kind, .int .i64 d.days, .int .i64 d.fr])
structure TJ (w3 : World) (d : Dr) (gd : Nat) (done : Nat → Bool) (vs : Nat → Value) (W : World) : Prop where
  bel : Below w3.heap.size w3 W
  kd : Blk W gd 25 #[.string d.num, .string d.drw, .string d.dre, .string d.pay, .string d.cur, .int .i64 d.amt, .int .i64 d.kind, .int .i64 d.days, .int .i64 d.fr]
  v0 : done 0 = true → vs 0 = .agg #[.string d.num, .string d.drw, .string d.dre, .string d.pay, .string d.cur, .int .i64 d.amt, .int .i64 d.kind, .int .i64 d.days, .int .i64 d.fr]
  v1 : done 1 = true → vs 1 = .agg #[.string d.num, .string d.drw, .string d.dre, .string d.pay, .string d.cur, .int .i64 d.amt, .int .i64 d.kind, .int .i64 d.days, .int .i64 d.fr]
  v2 : done 2 = true → boxD W w3.heap.size (vs 2) (done 4) d
  v3 : done 3 = true → boxD W w3.heap.size (vs 3) (done 5) d
  ne : done 2 = true → done 3 = true → vs 2 ≠ vs 3
  d4 : done 4 = true → done 2 = true
  d5 : done 5 = true → done 3 = true
section
variable {w3 W W' : World} {d : Dr} {gd : Nat} {done : Nat → Bool} {vs : Nat → Value}
theorem boxD.below {B : Nat} {v : Value} {f : Bool} (h : boxD W B v f d) (hb : Below W.heap.size W W') : boxD W' B v f d := by
  obtain ⟨g, cs, h1, h2, h3, h4, h5⟩ := h
  exact ⟨g, cs, h1, h2, h3.below hb h3.lt, h4, h5⟩
theorem boxD.far {B g : Nat} {cells : Array Value} {v : Value} {f : Bool} (h : boxD W B v f d) (hne : v ≠ (.pointer (some ⟨g, 0, none⟩))) : boxD (W.setRow g cells) B v f d := by
  obtain ⟨g', cs, h1, h2, h3, h4, h5⟩ := h
  exact ⟨g', cs, h1, h2, (setRow_other W g g' cells (fun e => hne (by rw [h1, e]))).trans h3, h4, h5⟩
theorem TJ.at0 (h : TJ w3 d gd done vs W) : TJ w3 d gd (upDn done 0) (upVs vs 0 (.agg #[.string d.num, .string d.drw, .string d.dre, .string d.pay, .string d.cur, .int .i64 d.amt, .int .i64 d.kind, .int .i64 d.days, .int .i64 d.fr])) W :=
  ⟨h.bel, h.kd, fun _ => rfl, by simpa [upDn, upVs] using h.v1, by simpa [upDn, upVs] using h.v2, by simpa [upDn, upVs] using h.v3, by simpa [upDn, upVs] using h.ne, by simpa [upDn] using h.d4, by simpa [upDn] using h.d5⟩
theorem TJ.at1 (h : TJ w3 d gd done vs W) : TJ w3 d gd (upDn done 1) (upVs vs 1 (.agg #[.string d.num, .string d.drw, .string d.dre, .string d.pay, .string d.cur, .int .i64 d.amt, .int .i64 d.kind, .int .i64 d.days, .int .i64 d.fr])) W :=
  ⟨h.bel, h.kd, by simpa [upDn, upVs] using h.v0, fun _ => rfl, by simpa [upDn, upVs] using h.v2, by simpa [upDn, upVs] using h.v3, by simpa [upDn, upVs] using h.ne, by simpa [upDn] using h.d4, by simpa [upDn] using h.d5⟩
theorem TJ.at2 (h : TJ w3 d gd done vs W) (hn : done 2 = false) : TJ w3 d gd (upDn done 2) (upVs vs 2 ((.pointer (some ⟨W.heap.size, 0, none⟩)))) (W.alloc (.cells #[.string ByteArray.empty, .string ByteArray.empty, .string ByteArray.empty, .string ByteArray.empty, .string ByteArray.empty, .int .i64 0, .int .i64 0, .int .i64 0, .int .i64 0] 25)) := by
  have h4 : done 4 = false := by
    cases q : done 4
    · rfl
    · have := h.d4 q; rw [hn] at this; cases this
  have hb := one_alloc W (.cells #[.string ByteArray.empty, .string ByteArray.empty, .string ByteArray.empty, .string ByteArray.empty, .string ByteArray.empty, .int .i64 0, .int .i64 0, .int .i64 0, .int .i64 0] 25)
  refine ⟨h.bel.trans (hb.mono h.bel.size), h.kd.below hb h.kd.lt, by simpa [upDn, upVs] using h.v0, by simpa [upDn, upVs] using h.v1, ?_, fun q => ?_, ?_, fun _ => by simp [upDn], by simpa [upDn] using h.d5⟩
  · intro _
    exact ⟨W.heap.size, _, by simp [upVs], h.bel.size, Blk.new _ _ _, rfl, fun q => by simp [upDn, h4] at q⟩
  · have := (h.v3 (by simpa [upDn] using q)).below hb
    simpa [upDn, upVs] using this
  · intro _ q
    obtain ⟨g, cs, h1, h2, h3, _⟩ := h.v3 (by simpa [upDn] using q)
    have := h3.lt
    simp only [upVs, if_true, show ¬ (3 : Nat) = 2 by omega, if_false, h1]
    intro e
    injection e with e
    injection e with e
    injection e with e
    omega
theorem TJ.at3 (h : TJ w3 d gd done vs W) (hn : done 3 = false) : TJ w3 d gd (upDn done 3) (upVs vs 3 ((.pointer (some ⟨W.heap.size, 0, none⟩)))) (W.alloc (.cells #[.string ByteArray.empty, .string ByteArray.empty, .string ByteArray.empty, .string ByteArray.empty, .string ByteArray.empty, .int .i64 0, .int .i64 0, .int .i64 0, .int .i64 0] 25)) := by
  have h5 : done 5 = false := by
    cases q : done 5
    · rfl
    · have := h.d5 q; rw [hn] at this; cases this
  have hb := one_alloc W (.cells #[.string ByteArray.empty, .string ByteArray.empty, .string ByteArray.empty, .string ByteArray.empty, .string ByteArray.empty, .int .i64 0, .int .i64 0, .int .i64 0, .int .i64 0] 25)
  refine ⟨h.bel.trans (hb.mono h.bel.size), h.kd.below hb h.kd.lt, by simpa [upDn, upVs] using h.v0, by simpa [upDn, upVs] using h.v1, fun q => ?_, ?_, ?_, by simpa [upDn] using h.d4, fun _ => by simp [upDn]⟩
  · have := (h.v2 (by simpa [upDn] using q)).below hb
    simpa [upDn, upVs] using this
  · intro _
    exact ⟨W.heap.size, _, by simp [upVs], h.bel.size, Blk.new _ _ _, rfl, fun q => by simp [upDn, h5] at q⟩
  · intro q _
    obtain ⟨g, cs, h1, h2, h3, _⟩ := h.v2 (by simpa [upDn] using q)
    have := h3.lt
    simp only [upVs, if_true, show ¬ (2 : Nat) = 3 by omega, if_false, h1]
    intro e
    injection e with e
    injection e with e
    injection e with e
    omega
theorem TJ.at4 (h : TJ w3 d gd done vs W) (hgd : gd < w3.heap.size) (h2 : done 2 = true) : ∃ (g : Nat) (old : Array Value), vs 2 = (.pointer (some ⟨g, 0, none⟩)) ∧ Blk W g 25 old ∧ old.size = 9 ∧ TJ w3 d gd (upDn done 4) (upVs vs 4 undef) (W.setRow g #[.string d.num, .string d.drw, .string d.dre, .string d.pay, .string d.cur, .int .i64 d.amt, .int .i64 d.kind, .int .i64 d.days, .int .i64 d.fr]) := by
  obtain ⟨g, cs, b1, b2, b3, b4, _⟩ := h.v2 h2
  have hn : Blk (W.setRow g #[.string d.num, .string d.drw, .string d.dre, .string d.pay, .string d.cur, .int .i64 d.amt, .int .i64 d.kind, .int .i64 d.days, .int .i64 d.fr]) g 25 #[.string d.num, .string d.drw, .string d.dre, .string d.pay, .string d.cur, .int .i64 d.amt, .int .i64 d.kind, .int .i64 d.days, .int .i64 d.fr] := setRow_heap W g _ _ _ (0, 0) b3
  refine ⟨g, cs, b1, b3, b4, ?_, ?_, by simpa [upDn, upVs] using h.v0, by simpa [upDn, upVs] using h.v1, fun q => ?_, fun q => ?_, by simpa [upDn, upVs] using h.ne, fun _ => by simpa [upDn] using h2, by simpa [upDn] using h.d5⟩
  · exact h.bel.trans ⟨rfl, rfl, rfl, by simp [World.setRow], fun j hj => setRow_other W g j _ (by omega)⟩
  · exact (setRow_other W g gd _ (by omega)).trans h.kd
  · exact ⟨g, _, by simpa [upVs] using b1, b2, hn, rfl, fun _ => rfl⟩
  · have q' : done 3 = true := by simpa [upDn] using q
    have := (h.v3 q').far (cells := #[.string d.num, .string d.drw, .string d.dre, .string d.pay, .string d.cur, .int .i64 d.amt, .int .i64 d.kind, .int .i64 d.days, .int .i64 d.fr]) (g := g) (fun e => h.ne h2 q' (by rw [b1, e]))
    simpa [upDn, upVs] using this
theorem TJ.at5 (h : TJ w3 d gd done vs W) (hgd : gd < w3.heap.size) (h3 : done 3 = true) : ∃ (g : Nat) (old : Array Value), vs 3 = (.pointer (some ⟨g, 0, none⟩)) ∧ Blk W g 25 old ∧ old.size = 9 ∧ TJ w3 d gd (upDn done 5) (upVs vs 5 undef) (W.setRow g #[.string d.num, .string d.drw, .string d.dre, .string d.pay, .string d.cur, .int .i64 d.amt, .int .i64 d.kind, .int .i64 d.days, .int .i64 d.fr]) := by
  obtain ⟨g, cs, b1, b2, b3, b4, _⟩ := h.v3 h3
  have hn : Blk (W.setRow g #[.string d.num, .string d.drw, .string d.dre, .string d.pay, .string d.cur, .int .i64 d.amt, .int .i64 d.kind, .int .i64 d.days, .int .i64 d.fr]) g 25 #[.string d.num, .string d.drw, .string d.dre, .string d.pay, .string d.cur, .int .i64 d.amt, .int .i64 d.kind, .int .i64 d.days, .int .i64 d.fr] := setRow_heap W g _ _ _ (0, 0) b3
  refine ⟨g, cs, b1, b3, b4, ?_, ?_, by simpa [upDn, upVs] using h.v0, by simpa [upDn, upVs] using h.v1, fun q => ?_, fun q => ?_, by simpa [upDn, upVs] using h.ne, by simpa [upDn] using h.d4, fun _ => by simpa [upDn] using h3⟩
  · exact h.bel.trans ⟨rfl, rfl, rfl, by simp [World.setRow], fun j hj => setRow_other W g j _ (by omega)⟩
  · exact (setRow_other W g gd _ (by omega)).trans h.kd
  · have q' : done 2 = true := by simpa [upDn] using q
    have := (h.v2 q').far (cells := #[.string d.num, .string d.drw, .string d.dre, .string d.pay, .string d.cur, .int .i64 d.amt, .int .i64 d.kind, .int .i64 d.days, .int .i64 d.fr]) (g := g) (fun e => h.ne q' h3 (by rw [b1, e]))
    simpa [upDn, upVs] using this
  · exact ⟨g, _, by simpa [upVs] using b1, b2, hn, rfl, fun _ => rfl⟩
end
end Go.Proofs.Yteannbphaodadaa.kit
namespace Go.Proofs.Yteannbphaodadaa
open Go.RowKit Go.PlainAid Go.Maps Go.Proofs.Yteannbphaodadaa.kit Go.Proofs.Yteannbphaodadaa.cal
set_option linter.unusedVariables false
set_option maxRecDepth 100000 in
set_option maxHeartbeats 6400000 in
theorem draftRises_walk (c : Cal) (A1 : Option Addr) (n1 c1 : Nat) (A2 : Option Addr) (n2 c2 : Nat) (d : Dr) (m : Int) (w : World) (h1 : SliceOf w 1 intC A1 n1 c.rest) (h2 : SliceOf w 1 intC A2 n2 c.hol) (m1 : n1 ≤ maxLen) (m2 : n2 ≤ maxLen) (hd : d.ok) (hm : (Lit.int .i64 m).wf = true) :
    Calls Try.prog 8 #[.agg #[.slice A1 n1 c1, .slice A2 n2 c2], .agg #[.string d.num, .string d.drw, .string d.dre, .string d.pay, .string d.cur, .int .i64 d.amt, .int .i64 d.kind, .int .i64 d.days, .int .i64 d.fr], .int .i64 m] w fun e w' => e = .returned (.bool true) ∧ Below w.heap.size w w' := by
  have H1 := Lib.hid h1
  have H2 := Lib.hid h2
  have HD := Lib.hid hd
  clear h1 h2 hd hm
  have hB0 : Below w.heap.size w ((w.alloc (.cells #[.slice A1 n1 c1, .slice A2 n2 c2] 60)).alloc (.cells #[.string d.num, .string d.drw, .string d.dre, .string d.pay, .string d.cur, .int .i64 d.amt, .int .i64 d.kind, .int .i64 d.days, .int .i64 d.fr] 25)) := two_alloc _ _ _
  have hkc0 : Blk ((w.alloc (.cells #[.slice A1 n1 c1, .slice A2 n2 c2] 60)).alloc (.cells #[.string d.num, .string d.drw, .string d.dre, .string d.pay, .string d.cur, .int .i64 d.amt, .int .i64 d.kind, .int .i64 d.days, .int .i64 d.fr] 25)) w.heap.size 60 #[.slice A1 n1 c1, .slice A2 n2 c2] := (Blk.new _ _ _).alloc _
  have hkd0 : Blk ((w.alloc (.cells #[.slice A1 n1 c1, .slice A2 n2 c2] 60)).alloc (.cells #[.string d.num, .string d.drw, .string d.dre, .string d.pay, .string d.cur, .int .i64 d.amt, .int .i64 d.kind, .int .i64 d.days, .int .i64 d.fr] 25)) (w.heap.size + 1) 25 #[.string d.num, .string d.drw, .string d.dre, .string d.pay, .string d.cur, .int .i64 d.amt, .int .i64 d.kind, .int .i64 d.days, .int .i64 d.fr] := blk_second _ _ _ _
  have b0 := hkc0.cell 0; have b1 := hkc0.cell 1
  simp only [List.getElem?_toArray, List.getElem?_cons_zero, List.getElem?_cons_succ] at b0 b1
  have a0 := hkd0.cell 0; have a1 := hkd0.cell 1; have a2 := hkd0.cell 2; have a3 := hkd0.cell 3; have a4 := hkd0.cell 4; have a5 := hkd0.cell 5; have a6 := hkd0.cell 6; have a7 := hkd0.cell 7; have a8 := hkd0.cell 8
  simp only [List.getElem?_toArray, List.getElem?_cons_zero, List.getElem?_cons_succ] at a0 a1 a2 a3 a4 a5 a6 a7 a8
  go_enter Try.func8, Try.ntmps8
  go_wp2_with fail
  refine (awake_any _).mono ?_
  rintro e w1 ⟨rfl, hb1⟩
  have hB1 := hB0.trans (hb1.mono hB0.size)
  have hkc1 := hkc0.below hb1 hkc0.lt
  have hkd1 := hkd0.below hb1 hkd0.lt
  clear b0 b1 a0 a1 a2 a3 a4 a5 a6 a7 a8
  clear hB0 hkc0 hkd0 hb1
  have b0 := hkc1.cell 0; have b1 := hkc1.cell 1
  simp only [List.getElem?_toArray, List.getElem?_cons_zero, List.getElem?_cons_succ] at b0 b1
  have a0 := hkd1.cell 0; have a1 := hkd1.cell 1; have a2 := hkd1.cell 2; have a3 := hkd1.cell 3; have a4 := hkd1.cell 4; have a5 := hkd1.cell 5; have a6 := hkd1.cell 6; have a7 := hkd1.cell 7; have a8 := hkd1.cell 8
  simp only [List.getElem?_toArray, List.getElem?_cons_zero, List.getElem?_cons_succ] at a0 a1 a2 a3 a4 a5 a6 a7 a8
  go_wp2_with fail
  refine (long_any d _ HD.out).mono ?_
  rintro e w2 ⟨⟨v, rfl⟩, hb2⟩
  have hB2 := hB1.trans (hb2.mono hB1.size)
  have hkc2 := hkc1.below hb2 hkc1.lt
  have hkd2 := hkd1.below hb2 hkd1.lt
  clear b0 b1 a0 a1 a2 a3 a4 a5 a6 a7 a8
  clear hB1 hkc1 hkd1 hb2
  have b0 := hkc2.cell 0; have b1 := hkc2.cell 1
  simp only [List.getElem?_toArray, List.getElem?_cons_zero, List.getElem?_cons_succ] at b0 b1
  have a0 := hkd2.cell 0; have a1 := hkd2.cell 1; have a2 := hkd2.cell 2; have a3 := hkd2.cell 3; have a4 := hkd2.cell 4; have a5 := hkd2.cell 5; have a6 := hkd2.cell 6; have a7 := hkd2.cell 7; have a8 := hkd2.cell 8
  simp only [List.getElem?_toArray, List.getElem?_cons_zero, List.getElem?_cons_succ] at a0 a1 a2 a3 a4 a5 a6 a7 a8
  by_cases hv : v = true
  · subst hv
    go_wp2_with fail
    go_ret
    exact ⟨rfl, hB2⟩
  obtain rfl : v = false := by simpa using hv
  clear hv
  by_cases g1 : 20 < n1
  · go_wp2_with fail
    go_ret
    exact ⟨rfl, hB2⟩
  by_cases g2 : 60 < n2
  · go_wp2_with fail
    go_ret
    exact ⟨rfl, hB2⟩
  by_cases g3 : m < 0
  · go_wp2_with fail
    go_ret
    exact ⟨rfl, hB2⟩
  by_cases g4 : 1000 < m
  · go_wp2_with fail
    go_ret
    exact ⟨rfl, hB2⟩
  go_wp2_with fail
  refine (due_any c A1 n1 c1 A2 n2 c2 d w2 (H1.out.below hB2) (H2.out.below hB2) m1 m2 HD.out).mono ?_
  rintro e w3 ⟨rfl, hb3⟩
  have hB3 := hB2.trans (hb3.mono hB2.size)
  have hkc3 := hkc2.below hb3 hkc2.lt
  have hkd3 := hkd2.below hb3 hkd2.lt
  clear b0 b1 a0 a1 a2 a3 a4 a5 a6 a7 a8
  clear hB2 hkc2 hkd2 hb3
  have b0 := hkc3.cell 0; have b1 := hkc3.cell 1
  simp only [List.getElem?_toArray, List.getElem?_cons_zero, List.getElem?_cons_succ] at b0 b1
  have a0 := hkd3.cell 0; have a1 := hkd3.cell 1; have a2 := hkd3.cell 2; have a3 := hkd3.cell 3; have a4 := hkd3.cell 4; have a5 := hkd3.cell 5; have a6 := hkd3.cell 6; have a7 := hkd3.cell 7; have a8 := hkd3.cell 8
  simp only [List.getElem?_toArray, List.getElem?_cons_zero, List.getElem?_cons_succ] at a0 a1 a2 a3 a4 a5 a6 a7 a8
  obtain ⟨N, hN⟩ : ∃ N, (dueV c d).1 = N := ⟨_, rfl⟩
  obtain ⟨K, hK⟩ : ∃ K, (dueV c d).2 = K := ⟨_, rfl⟩
  have HN := Lib.hid hN
  have HK := Lib.hid hK
  rw [hN, hK]
  clear hN hK
  go_upto_region 6 with (fail)
  go_cut [9, 10] (fun v u wx => TwoD d w3 v u wx)
  case first =>
    refine wp_region_book2 (TJ w3 d (w.heap.size + 1)) (by kernel_rfl) (by kernel_rfl) ?_ ?_ ?_
    · exact ⟨(Below.refl w3.heap.size w3).drew, hkd3.drew, fun h => (by cases h), fun h => (by cases h), fun h => (by cases h), fun h => (by cases h), fun h => (by cases h), fun h => (by cases h), fun h => (by cases h)⟩
    · refine ⟨?_, ?_, ?_, ?_, ?_, ?_, trivial⟩
      all_goals intro done vs ac W hnd hdep hJ hE hsz
      · have e : ac.eval (.tmp 4) = .pointer (some ⟨w.heap.size + 1, 0, none⟩) := (hE 4 (by simp)).trans (by simp [evF, Act.eval])
        exact wp_load_row 25 _ rfl _ e 25 _ (0, 0) _ hJ.kd Try.underlying25 rfl (by kernel_rfl) ⟨_, rfl, hJ.at0⟩
      · have e : ac.eval (.tmp 4) = .pointer (some ⟨w.heap.size + 1, 0, none⟩) := (hE 4 (by simp)).trans (by simp [evF, Act.eval])
        exact wp_load_row 25 _ rfl _ e 25 _ (0, 0) _ hJ.kd Try.underlying25 rfl (by kernel_rfl) ⟨_, rfl, hJ.at1⟩
      · exact wp_alloc_z 25 rfl #[.string ByteArray.empty, .string ByteArray.empty, .string ByteArray.empty, .string ByteArray.empty, .string ByteArray.empty, .int .i64 0, .int .i64 0, .int .i64 0, .int .i64 0] (by kernel_rfl) ⟨_, rfl, hJ.at2 hnd⟩
      · exact wp_alloc_z 25 rfl #[.string ByteArray.empty, .string ByteArray.empty, .string ByteArray.empty, .string ByteArray.empty, .string ByteArray.empty, .int .i64 0, .int .i64 0, .int .i64 0, .int .i64 0] (by kernel_rfl) ⟨_, rfl, hJ.at3 hnd⟩
      · simp [Region.binds] at hdep
        obtain ⟨g, old, q1, q2, q3, q4⟩ := hJ.at4 hkd3.lt (by simp [hdep])
        have e : ac.eval (.tmp 9) = (.pointer (some ⟨g, 0, none⟩)) := (hE 9 (by simp)).trans (by simp [evF, hdep, q1])
        have e' : ac.eval (.tmp 45) = .agg #[.string d.num, .string d.drw, .string d.dre, .string d.pay, .string d.cur, .int .i64 d.amt, .int .i64 d.kind, .int .i64 d.days, .int .i64 d.fr] := (hE 45 (by simp)).trans (by simp [evF, hdep, hJ.v0])
        exact wp_store_row 25 _ _ rfl g #[.string d.num, .string d.drw, .string d.dre, .string d.pay, .string d.cur, .int .i64 d.amt, .int .i64 d.kind, .int .i64 d.days, .int .i64 d.fr] e e' 25 old q2 (by kernel_rfl) (by rw [q3]; rfl) (by simp [Value.oneCell']) ⟨_, rfl, q4⟩
      · simp [Region.binds] at hdep
        obtain ⟨g, old, q1, q2, q3, q4⟩ := hJ.at5 hkd3.lt (by simp [hdep])
        have e : ac.eval (.tmp 10) = (.pointer (some ⟨g, 0, none⟩)) := (hE 10 (by simp)).trans (by simp [evF, hdep, q1])
        have e' : ac.eval (.tmp 46) = .agg #[.string d.num, .string d.drw, .string d.dre, .string d.pay, .string d.cur, .int .i64 d.amt, .int .i64 d.kind, .int .i64 d.days, .int .i64 d.fr] := (hE 46 (by simp)).trans (by simp [evF, hdep, hJ.v1])
        exact wp_store_row 25 _ _ rfl g #[.string d.num, .string d.drw, .string d.dre, .string d.pay, .string d.cur, .int .i64 d.amt, .int .i64 d.kind, .int .i64 d.days, .int .i64 d.fr] e e' 25 old q2 (by kernel_rfl) (by rw [q3]; rfl) (by simp [Value.oneCell']) ⟨_, rfl, q4⟩
    · intro done vs W hall hJ
      have hx2 := hJ.v2 (hall 2 (by simp))
      have hx3 := hJ.v3 (hall 3 (by simp))
      have hne := hJ.ne (hall 2 (by simp)) (hall 3 (by simp))
      rw [hall 4 (by simp)] at hx2
      rw [hall 5 (by simp)] at hx3
      obtain ⟨p, cs, p1, p2, p3, _, p5⟩ := hx2
      obtain ⟨q, cs', q1, q2, q3, _, q5⟩ := hx3
      have p6 := p5 rfl
      have q6 := q5 rfl
      subst p6 q6
      have hpq : p ≠ q := fun e => hne (by rw [p1, q1, e])
      have HTW : Hid (TwoD d w3 ((.pointer (some ⟨p, 0, none⟩))) ((.pointer (some ⟨q, 0, none⟩))) W) := Lib.hid ⟨p, q, rfl, rfl, hpq, p2, q2, p3, q3, hJ.bel⟩
      simp only [fillA, Act.put, List.setIfInBounds_toArray, List.set_cons_zero, List.set_cons_succ, if_true, p1, q1]
      clear hJ hall p5 q5 p1 q1 p3 q3 hne hkc3 hkd3 hB3 b0 b1 a0 a1 a2 a3 a4 a5 a6 a7 a8
      go_wp2_with fail
      go_meet
      exact HTW.out
  case rest =>
    obtain ⟨p, q, rfl, rfl, hpq, hp, hq, hkp, hkq, hb4⟩ := hcut
    obtain ⟨X, hX⟩ : ∃ X, IntKind.i64.wrap (d.fr + m) = X := ⟨_, rfl⟩
    obtain ⟨Y, hY⟩ : ∃ Y, IntKind.i64.wrap (d.days + m) = Y := ⟨_, rfl⟩
    have np : w.heap.size ≠ p := by have := hkc3.lt; omega
    have np1 : w.heap.size + 1 ≠ p := by have := hkd3.lt; omega
    have nq : w.heap.size ≠ q := by have := hkc3.lt; omega
    have nq1 : w.heap.size + 1 ≠ q := by have := hkd3.lt; omega
    have hwp : w.heap.size ≤ p := Nat.le_trans hB3.size hp
    have hwq : w.heap.size ≤ q := Nat.le_trans hB3.size hq
    have hB4 := hB3.trans (hb4.mono hB3.size)
    have hkc4 := hkc3.below hb4 hkc3.lt
    have hkd4 := hkd3.below hb4 hkd3.lt
    clear b0 b1 a0 a1 a2 a3 a4 a5 a6 a7 a8
    clear hB3 hkc3 hkd3 hb4
    have b0 := hkc4.cell 0; have b1 := hkc4.cell 1
    simp only [List.getElem?_toArray, List.getElem?_cons_zero, List.getElem?_cons_succ] at b0 b1
    have a0 := hkd4.cell 0; have a1 := hkd4.cell 1; have a2 := hkd4.cell 2; have a3 := hkd4.cell 3; have a4 := hkd4.cell 4; have a5 := hkd4.cell 5; have a6 := hkd4.cell 6; have a7 := hkd4.cell 7; have a8 := hkd4.cell 8
    simp only [List.getElem?_toArray, List.getElem?_cons_zero, List.getElem?_cons_succ] at a0 a1 a2 a3 a4 a5 a6 a7 a8
    have p8 := hkp.cell 8; have q7 := hkq.cell 7; have fp := hkp.frozen 8; have fq := hkq.frozen 7
    simp only [List.getElem?_toArray, List.getElem?_cons_zero, List.getElem?_cons_succ] at p8 q7
    go_upto_region 9 with (fail)
    have gp : Blk ((wc.setCell ⟨p, 8, none⟩ (.int .i64 X)).setCell ⟨q, 7, none⟩ (.int .i64 Y)) p 25 (#[.string d.num, .string d.drw, .string d.dre, .string d.pay, .string d.cur, .int .i64 d.amt, .int .i64 d.kind, .int .i64 d.days, .int .i64 d.fr].setIfInBounds 8 (.int .i64 X)) := Blk.far (hkp.set_ 8 _) hpq _
    have gq : Blk ((wc.setCell ⟨p, 8, none⟩ (.int .i64 X)).setCell ⟨q, 7, none⟩ (.int .i64 Y)) q 25 (#[.string d.num, .string d.drw, .string d.dre, .string d.pay, .string d.cur, .int .i64 d.amt, .int .i64 d.kind, .int .i64 d.days, .int .i64 d.fr].setIfInBounds 7 (.int .i64 Y)) := Blk.set_ (Blk.far hkq (fun e => hpq e.symm) _) 7 _
    have gc : Blk ((wc.setCell ⟨p, 8, none⟩ (.int .i64 X)).setCell ⟨q, 7, none⟩ (.int .i64 Y)) w.heap.size 60 #[.slice A1 n1 c1, .slice A2 n2 c2] := Blk.far (Blk.far hkc4 np _) nq _
    have gd : Blk ((wc.setCell ⟨p, 8, none⟩ (.int .i64 X)).setCell ⟨q, 7, none⟩ (.int .i64 Y)) (w.heap.size + 1) 25 #[.string d.num, .string d.drw, .string d.dre, .string d.pay, .string d.cur, .int .i64 d.amt, .int .i64 d.kind, .int .i64 d.days, .int .i64 d.fr] := Blk.far (Blk.far hkd4 np1 _) nq1 _
    have hB5 : Below w.heap.size w ((wc.setCell ⟨p, 8, none⟩ (.int .i64 X)).setCell ⟨q, 7, none⟩ (.int .i64 Y)) := (hB4.setCell hwp _).setCell hwq _
    generalize (wc.setCell ⟨p, 8, none⟩ (.int .i64 X)).setCell ⟨q, 7, none⟩ (.int .i64 Y) = W at gp gq gc gd hB5 ⊢
    clear p8 q7 fp fq hkp hkq hkc4 hkd4 hB4 b0 b1 a0 a1 a2 a3 a4 a5 a6 a7 a8 np np1 nq nq1
    have b0 := gc.cell 0; have b1 := gc.cell 1
    have a0 := gd.cell 0; have a1 := gd.cell 1; have a2 := gd.cell 2; have a3 := gd.cell 3; have a4 := gd.cell 4; have a5 := gd.cell 5; have a6 := gd.cell 6; have a7 := gd.cell 7; have a8 := gd.cell 8
    simp only [List.getElem?_toArray, List.getElem?_cons_zero, List.getElem?_cons_succ] at b0 b1 a0 a1 a2 a3 a4 a5 a6 a7 a8
    have HX := Lib.hid hX
    have HY := Lib.hid hY
    clear hX hY
    cases K
    · go_wp2_with fail
      go_ret
      exact ⟨rfl, hB5⟩
    obtain ⟨hmay, hnx, hnv⟩ := due_ok HK.out
    obtain ⟨r0, r1, r2, r3⟩ := may_days hmay
    have hlow := due_low HK.out
    rw [HN.out] at hlow
    have eX : X = d.fr + m := by rw [← HX.out]; exact IntWalk.i64_in _ (by omega)
    have eY : Y = d.days + m := by rw [← HY.out]; exact IntWalk.i64_in _ (by omega)
    have EX := Lib.hid eX
    have EY := Lib.hid eY
    have c0 := gp.cell 0; have c1' := gp.cell 1; have c2' := gp.cell 2; have c3 := gp.cell 3; have c4 := gp.cell 4; have c5 := gp.cell 5; have c6 := gp.cell 6; have c7 := gp.cell 7; have c8 := gp.cell 8
    have d0' := gq.cell 0; have d1' := gq.cell 1; have d2' := gq.cell 2; have d3' := gq.cell 3; have d4' := gq.cell 4; have d5' := gq.cell 5; have d6' := gq.cell 6; have d7' := gq.cell 7; have d8' := gq.cell 8
    simp only [List.setIfInBounds_toArray, List.set_cons_zero, List.set_cons_succ] at c0 c1' c2' c3 c4 c5 c6 c7 c8 d0' d1' d2' d3' d4' d5' d6' d7' d8'
    simp only [List.getElem?_toArray, List.getElem?_cons_zero, List.getElem?_cons_succ] at c0 c1' c2' c3 c4 c5 c6 c7 c8 d0' d1' d2' d3' d4' d5' d6' d7' d8'
    have nf : ¬ (1048576 : Int) < d.fr := by omega
    have LO := Lib.hid hlow
    have R := Lib.hid (⟨r0, r1, r2, r3⟩ : 0 ≤ d.fr ∧ d.fr ≤ 1048576 ∧ 0 ≤ d.days ∧ d.days ≤ 1000)
    have OK1 : Hid (Dr.ok { d with fr := X }) := Lib.hid ⟨HD.out.n, HD.out.w, HD.out.e, HD.out.p, HD.out.c⟩
    have OK2 : Hid (Dr.ok { d with days := Y }) := Lib.hid ⟨HD.out.n, HD.out.w, HD.out.e, HD.out.p, HD.out.c⟩
    clear hmay hnx hnv hlow eX eY r0 r1 r2 r3 gc gd
    have GP := Lib.hid gp
    have GQ := Lib.hid gq
    have GC := Lib.hid hB5
    clear gp gq hB5
    go_wp2_with fail
    refine (due_any c A1 n1 c1 A2 n2 c2 { d with fr := X } W (H1.out.below GC.out) (H2.out.below GC.out) m1 m2 OK1.out).mono ?_
    rintro e w5 ⟨rfl, hb5⟩
    have HB6 := Lib.hid (GC.out.trans (hb5.mono GC.out.size))
    have b0' := cell_kept hb5 b0; have b1' := cell_kept hb5 b1
    have a7' := cell_kept hb5 a7; have a8' := cell_kept hb5 a8
    have p7' := cell_kept hb5 c7; have p8' := cell_kept hb5 c8
    have q0' := cell_kept hb5 d0'; have q1' := cell_kept hb5 d1'; have q2' := cell_kept hb5 d2'; have q3' := cell_kept hb5 d3'; have q4' := cell_kept hb5 d4'; have q5' := cell_kept hb5 d5'; have q6' := cell_kept hb5 d6'; have q7' := cell_kept hb5 d7'; have q8' := cell_kept hb5 d8'
    clear hb5 b0 b1 a0 a1 a2 a3 a4 a5 a6 a7 a8 c0 c1' c2' c3 c4 c5 c6 c7 c8 d0' d1' d2' d3' d4' d5' d6' d7' d8'
    obtain ⟨Na, hNa⟩ : ∃ N, (dueV c { d with fr := X }).1 = N := ⟨_, rfl⟩
    obtain ⟨Ka, hKa⟩ : ∃ K, (dueV c { d with fr := X }).2 = K := ⟨_, rfl⟩
    have HNa := Lib.hid hNa
    have HKa := Lib.hid hKa
    rw [hNa, hKa]
    clear hNa hKa
    go_wp2_with fail
    refine (due_any c A1 n1 c1 A2 n2 c2 { d with days := Y } w5 (H1.out.below HB6.out) (H2.out.below HB6.out) m1 m2 OK2.out).mono ?_
    rintro e w6 ⟨rfl, hb6⟩
    have HB7 := Lib.hid (HB6.out.trans (hb6.mono HB6.out.size))
    have a7 := cell_kept hb6 a7'; have a8 := cell_kept hb6 a8'
    have p7 := cell_kept hb6 p7'; have p8 := cell_kept hb6 p8'
    clear hb6 b0' b1' a7' a8' p7' p8' q0' q1' q2' q3' q4' q5' q6' q7' q8'
    obtain ⟨Nb, hNb⟩ : ∃ N, (dueV c { d with days := Y }).1 = N := ⟨_, rfl⟩
    obtain ⟨Kb, hKb⟩ : ∃ K, (dueV c { d with days := Y }).2 = K := ⟨_, rfl⟩
    have HNb := Lib.hid hNb
    have HKb := Lib.hid hKb
    rw [hNb, hKb]
    clear hNb hKb
    obtain ⟨r0, r1, r2, r3⟩ := R.out
    have eX := EX.out
    have eY := EY.out
    have hlo := LO.out
    have w1' : IntKind.i64.wrap (d.fr + d.days) = d.fr + d.days := IntWalk.i64_in _ (by omega)
    have w2' : IntKind.i64.wrap (X + d.days) = X + d.days := IntWalk.i64_in _ (by omega)
    have FA : Ka = true → N ≤ Na ∧ X + d.days ≤ Na := fun h => by
      subst h
      have t1 := due_low HKa.out
      have t2 := due_mono HK.out HKa.out (show d.fr + d.days ≤ X + d.days by omega)
      rw [HNa.out] at t1 t2
      rw [HN.out] at t2
      exact ⟨t2, t1⟩
    have FB : Kb = true → N ≤ Nb := fun h => by
      subst h
      have t2 := due_mono HK.out HKb.out (show d.fr + d.days ≤ d.fr + Y by omega)
      rw [HNb.out, HN.out] at t2
      exact t2
    have t1 : decide (d.fr + d.days ≤ N) = true := decide_eq_true hlo
    clear eX eY hlo
    cases Ka <;> cases Kb
    · clear FA FB
      go_wp2_with fail
      go_ret
      exact ⟨rfl, HB7.out⟩
    · have t2 : decide (N ≤ Nb) = true := decide_eq_true (FB rfl)
      clear FA FB
      go_wp2_with fail
      go_ret
      exact ⟨rfl, HB7.out⟩
    · have t3 : decide (N ≤ Na) = true := decide_eq_true (FA rfl).1
      have t4 : decide (X + d.days ≤ Na) = true := decide_eq_true (FA rfl).2
      clear FA FB
      go_wp2_with fail
      go_ret
      exact ⟨rfl, HB7.out⟩
    · have t2 : decide (N ≤ Nb) = true := decide_eq_true (FB rfl)
      have t3 : decide (N ≤ Na) = true := decide_eq_true (FA rfl).1
      have t4 : decide (X + d.days ≤ Na) = true := decide_eq_true (FA rfl).2
      clear FA FB
      go_wp2_with fail
      go_ret
      exact ⟨rfl, HB7.out⟩
end Go.Proofs.Yteannbphaodadaa
