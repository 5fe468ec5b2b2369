/- NoticeHoliday: the law. No condition. -/
import Derived.Test.YtfiflmgjcmmomaaLawLate
import Derived.Test.YtfiflmgjcmmomaaAnswer
import Derived.Test.YtfiflmgjcmmomaaBoE
import Derived.Deep.DeepCutAuto
namespace Go.Proofs.Ytfiflmgjcmmomaa
open Go.RowKit Go.Proofs.Ytfiflmgjcmmomaa.kit Go.Proofs.Ytfiflmgjcmmomaa.cal
set_option linter.unusedVariables false

theorem up_sub {c m : Cal} (h : ∀ d, restB c d = true → restB m d = true) (k : Nat) : ∀ (n n' : Int), (k : Int) ≤ 1048577 → 1 ≤ n → n ≤ n' → (upF m k n').2 = true → (upF c k n).2 = true ∧ (upF c k n).1 ≤ (upF m k n').1 := by
  induction k with
  | zero => intro n n' _ _ _ h'; simp [upF] at h'
  | succ k ih =>
    intro n n' hk h1 h2 h'
    have hb := up_bd m (k + 1) n' (by omega) (by omega) h'
    unfold upF at h' hb ⊢
    cases hr : restB c (1048576 - (k : Int))
    · simp only [Bool.false_eq_true, if_false]
      by_cases e : n = 1
      · subst e
        rw [if_neg (by omega)]
        refine ⟨rfl, ?_⟩
        have := hb.1
        simp only
        omega
      · rw [if_pos (by omega)]
        cases hm : restB m (1048576 - (k : Int))
        · rw [hm] at h'
          simp only [Bool.false_eq_true, if_false] at h' ⊢
          rw [if_pos (by omega)] at h' ⊢
          exact ih (n - 1) (n' - 1) (by omega) (by omega) (by omega) h'
        · rw [hm] at h'
          simp only [if_true] at h' ⊢
          rw [if_pos (by omega)] at h' ⊢
          exact ih (n - 1) n' (by omega) (by omega) (by omega) h'
    · have hm := h _ hr
      rw [hm] at h' ⊢
      simp only [if_true] at h' ⊢
      rw [if_pos (by omega)] at h'
      rw [if_pos (by omega), if_pos (by omega)]
      exact ih n n' (by omega) h1 h2 h'
section
variable {c m : Cal} (h : ∀ d, restB c d = true → restB m d = true)
include h
theorem next_sub {d : Int} (h' : (nextV m d).2 = true) : (nextV c d).2 = true ∧ (nextV c d).1 ≤ (nextV m d).1 := by
  unfold nextV at h' ⊢
  cases hd : isDayB d
  · rw [hd] at h'; simp at h'
  · rw [hd] at h'
    have hd' : 0 ≤ d ∧ d ≤ 1048576 := of_decide_eq_true hd
    simp only [if_true] at h' ⊢
    exact up_sub h _ 1 1 (by omega) (by omega) (by omega) h'
theorem dl_sub {d : Int} (h' : (dlV m d).2 = true) : (dlV c d).2 = true ∧ (dlV c d).1 ≤ (dlV m d).1 := by
  unfold dlV addV at h' ⊢
  cases hd : isDayB d
  · rw [hd] at h'; simp at h'
  · rw [hd] at h'
    have hd' : 0 ≤ d ∧ d ≤ 1048576 := of_decide_eq_true hd
    simp only [if_true] at h' ⊢
    exact up_sub h _ 5 5 (by omega) (by omega) (by omega) h'
theorem answer_sub {p a : Int} {fs ts : List Fa} (hm : (dlV m p).2 = true) (h1 : answerV c p a fs ts = 1) : answerV m p a fs ts = 1 := by
  unfold answerV at h1 ⊢
  have hs := dl_sub h hm
  split at h1
  · cases h1
  · rename_i h0
    rw [if_neg h0]
    split at h1
    · rename_i h2
      rw [if_pos ⟨hm, by omega, h2.2.2.1, h2.2.2.2⟩]
    · cases h1
theorem late_sub {r : Cr} {sh pr : Int} (h1 : lateV c r sh pr = 0) : lateV m r sh pr ≠ 11 := by
  rw [lateV_eq] at h1 ⊢
  by_cases h5 : fiveDays r sh pr = true
  · rw [if_pos h5] at h1 ⊢
    by_cases hm : (nextV m r.ex).2 = true
    · have hs := next_sub h hm
      rw [if_pos hs.1] at h1
      rw [if_pos hm]
      by_cases g1 : pr < sh
      · rw [if_pos g1]; decide
      rw [if_neg g1] at h1 ⊢
      by_cases g2 : r.la < sh
      · rw [if_pos g2] at h1; cases h1
      rw [if_neg g2] at h1 ⊢
      by_cases g3 : shipV c sh r.wi (nextV c r.ex).1 < pr
      · rw [if_pos g3] at h1; cases h1
      have g4 : ¬ shipV m sh r.wi (nextV m r.ex).1 < pr := by
        unfold shipV at g3 ⊢
        by_cases k1 : (nextV m (sh + r.wi)).2 = true ∧ (nextV m (sh + r.wi)).1 ≤ (nextV m r.ex).1
        · have ks := next_sub h k1.1
          rw [if_pos k1]
          by_cases k2 : (nextV c (sh + r.wi)).2 = true ∧ (nextV c (sh + r.wi)).1 ≤ (nextV c r.ex).1
          · rw [if_pos k2] at g3; omega
          · rw [if_neg k2] at g3
            have : ¬ (nextV c (sh + r.wi)).1 ≤ (nextV c r.ex).1 := fun e => k2 ⟨ks.1, e⟩
            omega
        · rw [if_neg k1]
          by_cases k2 : (nextV c (sh + r.wi)).2 = true ∧ (nextV c (sh + r.wi)).1 ≤ (nextV c r.ex).1
          · rw [if_pos k2] at g3; omega
          · rw [if_neg k2] at g3; omega
      rw [if_neg g4]; decide
    · rw [if_neg hm]; decide
  · rw [if_neg h5]; decide
end
theorem good_len (c : Cal) : (goodC c).rest.length ≤ c.rest.length ∧ (goodC c).hol.length ≤ c.hol.length := by
  unfold goodC
  split <;> simp
theorem more_sub {c : Cal} (d : Int) (h1 : c.rest.length ≤ 20) (h2 : c.hol.length ≤ 60) : ∀ x, restB c x = true → restB (bothV c ⟨[], [d]⟩) x = true := by
  intro x hx
  have g1 := good_len c
  have g2 := good_len ⟨[], [d]⟩
  have l1 := mrg_len (xs := c.rest) (ys := c.rest) _ (goodC c).rest (goodC ⟨[], [d]⟩).rest (Nat.le_refl _)
  have l2 := mrg_len (xs := c.rest) (ys := c.rest) _ (goodC c).hol (goodC ⟨[], [d]⟩).hol (Nat.le_refl _)
  simp at g2
  rw [both_rests (by simp [g2.1] at l1 ⊢; omega) (by omega), hx]
  rfl
def fx : Fa := (1, 0, ⟨#[]⟩, 0)
theorem fx_ok : ∀ y ∈ [fx], faI y := by
  intro y hy
  rw [List.mem_singleton.1 hy]
  exact ⟨⟨by decide, by decide⟩, ⟨by decide, by decide⟩, by unfold maxLen; exact Nat.zero_le _, ⟨by decide, by decide⟩⟩
theorem kept {W w' : World} {p : Addr} {v : Value} (hb : Below W.heap.size W w') (h : W.cell? p = some v) : w'.cell? p = some v := (hb.cell (World.block_lt_of_cell? W p h)).trans h
set_option maxRecDepth 100000 in
set_option maxHeartbeats 6400000 in
theorem noticeHoliday_walk (c : Cal) (A1 : Option Addr) (n1 c1 : Nat) (A2 : Option Addr) (n2 c2 : Nat) (hd : Int) (r : Cr) (sh p a : Int) (w : World) (h1 : SliceOf w 1 intC A1 n1 c.rest) (h2 : SliceOf w 1 intC A2 n2 c.hol) (m1 : n1 ≤ maxLen) (m2 : n2 ≤ maxLen) :
    Calls Try.prog 9 #[.agg #[.slice A1 n1 c1, .slice A2 n2 c2], .int .i64 hd, .agg #[.string r.s0, .string r.s1, .string r.s2, .string r.s3, .string r.s4, .string r.s5, .string r.s6, .string r.cur, .int .i64 r.am, .int .i64 r.ab, .int .i64 r.be, .int .i64 r.la, .int .i64 r.ex, .int .i64 r.wi, .int .i64 r.te, .bool r.pa, .bool r.ch, .slice r.nA r.nn r.nc], .int .i64 sh, .int .i64 p, .int .i64 a] w fun e w' => e = .returned (.bool true) ∧ Below w.heap.size w w' := by
  have H1 := Lib.hid h1
  have H2 := Lib.hid h2
  have l1 := h1.len
  have l2 := h2.len
  clear h1 h2
  have hB0 : Below w.heap.size w ((w.alloc (.cells #[.slice A1 n1 c1, .slice A2 n2 c2] 24)).alloc (.cells #[.string r.s0, .string r.s1, .string r.s2, .string r.s3, .string r.s4, .string r.s5, .string r.s6, .string r.cur, .int .i64 r.am, .int .i64 r.ab, .int .i64 r.be, .int .i64 r.la, .int .i64 r.ex, .int .i64 r.wi, .int .i64 r.te, .bool r.pa, .bool r.ch, .slice r.nA r.nn r.nc] 42)) := ((Below.refl _ _).alloc (Nat.le_refl _) _).alloc (by simp only [size_alloc]; omega) _
  have hk0 : Blk ((w.alloc (.cells #[.slice A1 n1 c1, .slice A2 n2 c2] 24)).alloc (.cells #[.string r.s0, .string r.s1, .string r.s2, .string r.s3, .string r.s4, .string r.s5, .string r.s6, .string r.cur, .int .i64 r.am, .int .i64 r.ab, .int .i64 r.be, .int .i64 r.la, .int .i64 r.ex, .int .i64 r.wi, .int .i64 r.te, .bool r.pa, .bool r.ch, .slice r.nA r.nn r.nc] 42)) w.heap.size 24 #[.slice A1 n1 c1, .slice A2 n2 c2] := Blk.more (Blk.new _ _ _) _
  have hj0 : Blk ((w.alloc (.cells #[.slice A1 n1 c1, .slice A2 n2 c2] 24)).alloc (.cells #[.string r.s0, .string r.s1, .string r.s2, .string r.s3, .string r.s4, .string r.s5, .string r.s6, .string r.cur, .int .i64 r.am, .int .i64 r.ab, .int .i64 r.be, .int .i64 r.la, .int .i64 r.ex, .int .i64 r.wi, .int .i64 r.te, .bool r.pa, .bool r.ch, .slice r.nA r.nn r.nc] 42)) (w.heap.size + 1) 42 #[.string r.s0, .string r.s1, .string r.s2, .string r.s3, .string r.s4, .string r.s5, .string r.s6, .string r.cur, .int .i64 r.am, .int .i64 r.ab, .int .i64 r.be, .int .i64 r.la, .int .i64 r.ex, .int .i64 r.wi, .int .i64 r.te, .bool r.pa, .bool r.ch, .slice r.nA r.nn r.nc] := Blk.newAt _ _ (by simp only [size_alloc])
  go_enter Try.func9, Try.ntmps9
  go_wp2_with fail
  refine (awake_any _).mono ?_
  rintro e w1 ⟨rfl, hb1⟩
  have hj1 := hj0.below hb1 hj0.lt
  have hB1 := hB0.trans (hb1.mono hB0.size)
  have hk1 := hk0.below hb1 hk0.lt
  clear hB0 hk0 hb1
  have a0 := hk1.cell 0; have a1 := hk1.cell 1; simp only [List.getElem?_toArray, List.getElem?_cons_zero, List.getElem?_cons_succ] at a0 a1
  clear hj0
  cases hf : fewB n1 n2
  · have F := Lib.hid hf
    clear hf
    go_wp2_with fail
    refine (few_any A1 n1 c1 A2 n2 c2 _ m1 m2).mono ?_
    rw [F.out]
    rintro e w2 ⟨rfl, hb2⟩
    clear a0 a1
    have hB2 := hB1.trans (hb2.mono hB1.size)
    have hk2 := hk1.below hb2 hk1.lt
    clear hB1 hk1 hb2
    have a0 := hk2.cell 0; have a1 := hk2.cell 1; simp only [List.getElem?_toArray, List.getElem?_cons_zero, List.getElem?_cons_succ] at a0 a1
    go_wp2_with fail
    go_ret
    exact ⟨rfl, hB2⟩
  have hfw : n1 ≤ 20 ∧ n2 ≤ 60 := by unfold fewB at hf; simp at hf; omega
  have F := Lib.hid hf
  clear hf
  go_wp2_with fail
  refine (few_any A1 n1 c1 A2 n2 c2 _ m1 m2).mono ?_
  rw [F.out]
  rintro e w2 ⟨rfl, hb2⟩
  have hj2 := hj1.below hb2 hj1.lt
  clear a0 a1
  have hB2 := hB1.trans (hb2.mono hB1.size)
  have hk2 := hk1.below hb2 hk1.lt
  clear hB1 hk1 hb2
  clear hj1
  have a0 := hk2.cell 0; have a1 := hk2.cell 1; simp only [List.getElem?_toArray, List.getElem?_cons_zero, List.getElem?_cons_succ] at a0 a1
  cases hmy : mayB c
  · have F2 := Lib.hid hmy
    clear hmy
    go_wp2_with fail
    refine (may_any c A1 n1 c1 A2 n2 c2 _ (H1.out.below hB2) (H2.out.below hB2) m1 m2).mono ?_
    rw [F2.out]
    rintro e w3 ⟨rfl, hb3⟩
    clear a0 a1
    have hB3 := hB2.trans (hb3.mono hB2.size)
    have hk3 := hk2.below hb3 hk2.lt
    clear hB2 hk2 hb3
    have a0 := hk3.cell 0; have a1 := hk3.cell 1; simp only [List.getElem?_toArray, List.getElem?_cons_zero, List.getElem?_cons_succ] at a0 a1
    go_wp2_with fail
    go_ret
    exact ⟨rfl, hB3⟩
  have F2 := Lib.hid hmy
  clear hmy
  go_wp2_with fail
  refine (may_any c A1 n1 c1 A2 n2 c2 _ (H1.out.below hB2) (H2.out.below hB2) m1 m2).mono ?_
  rw [F2.out]
  rintro e w3 ⟨rfl, hb3⟩
  have hj3 := hj2.below hb3 hj2.lt
  clear a0 a1
  have hB3 := hB2.trans (hb3.mono hB2.size)
  have hk3 := hk2.below hb3 hk2.lt
  clear hB2 hk2 hb3
  clear hj2
  have a0 := hk3.cell 0; have a1 := hk3.cell 1; simp only [List.getElem?_toArray, List.getElem?_cons_zero, List.getElem?_cons_succ] at a0 a1
  have HSUB := Lib.hid (more_sub (c := c) hd (by omega) (by omega))
  obtain ⟨M, hM⟩ : ∃ M, bothV c ⟨[], [hd]⟩ = M := ⟨_, rfl⟩
  have HBH := Lib.hid (one_alloc w3 (.cells #[.int .i64 hd] 3))
  have HH := Lib.hid (SliceOf.blk (en := intC) (Blk.new_at w3 3 #[.int .i64 hd] _ rfl) [hd] rfl (fun _ => rfl) rfl)
  go_wp2_with fail
  have HBO := Lib.hid (both_any c ⟨[], [hd]⟩ A1 n1 c1 A2 n2 c2 none 0 0 (some ⟨w3.heap.size, 0, none⟩) 1 1 (w3.alloc (.cells #[.int .i64 hd] 3)) (H1.out.below (hB3.trans (HBH.out.mono hB3.size))) (H2.out.below (hB3.trans (HBH.out.mono hB3.size))) SliceOf.none_ HH.out hfw.1 hfw.2 (by omega) (by omega))
  refine HBO.out.mono ?_
  rintro e w4 ⟨B1, k1, j1, B2, k2, j2, rfl, s1, s2, u1, u2, hb4⟩
  rw [hM] at s1 s2 HSUB
  have hb4' := HBH.out.trans (hb4.mono HBH.out.size)
  have hj4 := hj3.below hb4' hj3.lt
  have hk4 := hk3.below hb4' hk3.lt
  have hB4 := hB3.trans (hb4'.mono hB3.size)
  clear a0 a1
  clear HBO HH HBH hM hb4 hb4' hj3 hk3 hB3
  go_upto_region 6 with (refine stop_store 24 _ _ rfl ?_; refine wpList_store_new rfl 24 _ _ rfl _ rfl rfl (by kernel_rfl) rfl rfl ?_)
  have hBG : Below w.heap.size w (w4.alloc (.cells #[.slice B1 k1 j1, .slice B2 k2 j2] 24)) := hB4.alloc hB4.size _
  have hkG : Blk (w4.alloc (.cells #[.slice B1 k1 j1, .slice B2 k2 j2] 24)) w.heap.size 24 #[.slice A1 n1 c1, .slice A2 n2 c2] := Blk.more hk4 _
  have hjG : Blk (w4.alloc (.cells #[.slice B1 k1 j1, .slice B2 k2 j2] 24)) (w.heap.size + 1) 42 #[.string r.s0, .string r.s1, .string r.s2, .string r.s3, .string r.s4, .string r.s5, .string r.s6, .string r.cur, .int .i64 r.am, .int .i64 r.ab, .int .i64 r.be, .int .i64 r.la, .int .i64 r.ex, .int .i64 r.wi, .int .i64 r.te, .bool r.pa, .bool r.ch, .slice r.nA r.nn r.nc] := Blk.more hj4 _
  have hmG : Blk (w4.alloc (.cells #[.slice B1 k1 j1, .slice B2 k2 j2] 24)) w4.heap.size 24 #[.slice B1 k1 j1, .slice B2 k2 j2] := Blk.new _ _ _
  have S1 := Lib.hid (s1.below (one_alloc w4 (.cells #[.slice B1 k1 j1, .slice B2 k2 j2] 24)))
  have S2 := Lib.hid (s2.below (one_alloc w4 (.cells #[.slice B1 k1 j1, .slice B2 k2 j2] 24)))
  clear s1 s2 hk4 hj4 hB4
  obtain ⟨G, hG⟩ : ∃ G, w4.heap.size = G := ⟨_, rfl⟩
  rw [hG] at hmG ⊢
  clear hG
  generalize w4.alloc (.cells #[.slice B1 k1 j1, .slice B2 k2 j2] 24) = wG at hBG hkG hjG hmG S1 S2 ⊢
  have HBG := Lib.hid hBG
  have HJ := Lib.hid hjG
  have z0 := hkG.cell 0; have z1 := hkG.cell 1; have y0 := hmG.cell 0; have y1 := hmG.cell 1
  simp only [List.getElem?_toArray, List.getElem?_cons_zero, List.getElem?_cons_succ] at z0 z1 y0 y1
  have C0 := Lib.hid z0; have C1 := Lib.hid z1; have D0 := Lib.hid y0; have D1 := Lib.hid y1
  have HG0 := Lib.hid (Below.refl wG.heap.size wG)
  clear hBG hkG hjG hmG
  obtain ⟨Da, hDa⟩ : ∃ x, (dlV c p).1 = x := ⟨_, rfl⟩
  obtain ⟨Oa, hOa⟩ : ∃ x, (dlV c p).2 = x := ⟨_, rfl⟩
  obtain ⟨Dm, hDm⟩ : ∃ x, (dlV M p).1 = x := ⟨_, rfl⟩
  obtain ⟨Om, hOm⟩ : ∃ x, (dlV M p).2 = x := ⟨_, rfl⟩
  obtain ⟨Na, hNa⟩ : ∃ x, (nextV c p).1 = x := ⟨_, rfl⟩
  obtain ⟨Pa, hPa⟩ : ∃ x, (nextV c p).2 = x := ⟨_, rfl⟩
  obtain ⟨Nm, hNm⟩ : ∃ x, (nextV M p).1 = x := ⟨_, rfl⟩
  obtain ⟨Pm, hPm⟩ : ∃ x, (nextV M p).2 = x := ⟨_, rfl⟩
  have HD := Lib.hid (fun h => dl_sub HSUB.out (d := p) h)
  have HN := Lib.hid (fun h => next_sub HSUB.out (d := p) h)
  rw [hDa, hOa, hDm, hOm] at HD
  rw [hNa, hPa, hNm, hPm] at HN
  have HOm := Lib.hid hOm
  go_wp2_with fail
  refine (deadline_any c A1 n1 c1 A2 n2 c2 p wG (H1.out.below (HBG.out.trans (HG0.out.mono HBG.out.size))) (H2.out.below (HBG.out.trans (HG0.out.mono HBG.out.size))) m1 m2).mono ?_
  (rw [hDa, hOa])
  rintro e w5 ⟨rfl, hb5⟩
  have HG5 := Lib.hid (HG0.out.trans (hb5.mono HG0.out.size))
  clear z0 z1 y0 y1 hb5
  have z0 := kept HG5.out C0.out; have z1 := kept HG5.out C1.out; have y0 := kept HG5.out D0.out; have y1 := kept HG5.out D1.out
  go_wp2_with fail
  refine (deadline_any M B1 k1 j1 B2 k2 j2 p w5 (S1.out.below HG5.out) (S2.out.below HG5.out) (by unfold maxLen; omega) (by unfold maxLen; omega)).mono ?_
  (rw [hDm, hOm])
  rintro e w6 ⟨rfl, hb6⟩
  have HG6 := Lib.hid (HG5.out.trans (hb6.mono HG5.out.size))
  clear z0 z1 y0 y1 hb6
  have z0 := kept HG6.out C0.out; have z1 := kept HG6.out C1.out; have y0 := kept HG6.out D0.out; have y1 := kept HG6.out D1.out
  go_wp2_with fail
  refine (expiry_any c A1 n1 c1 A2 n2 c2 p w6 (H1.out.below (HBG.out.trans (HG6.out.mono HBG.out.size))) (H2.out.below (HBG.out.trans (HG6.out.mono HBG.out.size))) m1 m2).mono ?_
  (rw [hNa, hPa])
  rintro e w7 ⟨rfl, hb7⟩
  have HG7 := Lib.hid (HG6.out.trans (hb7.mono HG6.out.size))
  clear z0 z1 y0 y1 hb7
  have z0 := kept HG7.out C0.out; have z1 := kept HG7.out C1.out; have y0 := kept HG7.out D0.out; have y1 := kept HG7.out D1.out
  go_wp2_with fail
  refine (expiry_any M B1 k1 j1 B2 k2 j2 p w7 (S1.out.below HG7.out) (S2.out.below HG7.out) (by unfold maxLen; omega) (by unfold maxLen; omega)).mono ?_
  (rw [hNm, hPm])
  rintro e w8 ⟨rfl, hb8⟩
  have HG8 := Lib.hid (HG7.out.trans (hb8.mono HG7.out.size))
  clear z0 z1 y0 y1 hb8
  have z0 := kept HG8.out C0.out; have z1 := kept HG8.out C1.out; have y0 := kept HG8.out D0.out; have y1 := kept HG8.out D1.out
  clear hDa hOa hDm hOm hNa hPa hNm hPm
  go_upto_region 10 with (fail)
  go_cut [83] (fun v wx => v = .bool false ∧ wx = w8)
  case first =>
    cases Om <;> cases Pm
    · go_wp2_with fail
      go_meet
      exact ⟨rfl, rfl⟩
    · obtain ⟨rfl, h2⟩ := HN.out rfl
      have t2 : decide (Nm < Na) = false := decide_eq_false (by omega)
      clear h2
      go_wp2_with fail
      go_meet
      exact ⟨rfl, rfl⟩
    · obtain ⟨rfl, h1⟩ := HD.out rfl
      have t1 : decide (Dm < Da) = false := decide_eq_false (by omega)
      clear h1
      go_wp2_with fail
      go_meet
      exact ⟨rfl, rfl⟩
    · obtain ⟨rfl, h1⟩ := HD.out rfl
      obtain ⟨rfl, h2⟩ := HN.out rfl
      have t1 : decide (Dm < Da) = false := decide_eq_false (by omega)
      have t2 : decide (Nm < Na) = false := decide_eq_false (by omega)
      clear h1 h2
      go_wp2_with fail
      go_meet
      exact ⟨rfl, rfl⟩
  case rest =>
    obtain ⟨rfl, hw⟩ := hcut
    have hw := hw.symm
    subst hw
    have HF0 := Lib.hid (SliceOf.blk (en := faC) (Blk.new_at w8 36 #[.int .i64 1, .int .i64 0, .string ⟨#[]⟩, .int .i64 0] _ rfl) [fx] rfl fa_len rfl)
    have HG9 : Hid (Below wG.heap.size wG (w8.alloc (.cells #[.int .i64 1, .int .i64 0, .string ⟨#[]⟩, .int .i64 0] 36))) := Lib.hid (HG8.out.alloc HG8.out.size _)
    go_upto_region 13 with (fail)
    obtain ⟨g8, hg8⟩ : ∃ g8, w8.heap.size = g8 := ⟨_, rfl⟩
    rw [hg8] at HF0 ⊢
    clear hg8 z0 z1 y0 y1
    generalize w8.alloc (.cells #[.int .i64 1, .int .i64 0, .string ⟨#[]⟩, .int .i64 0] 36) = w9 at HF0 HG9 ⊢
    have z0 := kept HG9.out C0.out; have z1 := kept HG9.out C1.out; have y0 := kept HG9.out D0.out; have y1 := kept HG9.out D1.out
    obtain ⟨V1, hV1⟩ : ∃ x, answerV c p a [fx] [fx] = x := ⟨_, rfl⟩
    obtain ⟨V2, hV2⟩ : ∃ x, answerV M p a [fx] [fx] = x := ⟨_, rfl⟩
    have HAN := Lib.hid (fun h1 h2 => answer_sub HSUB.out (p := p) (a := a) (fs := [fx]) (ts := [fx]) h1 h2)
    rw [hV1, hV2, HOm.out] at HAN
    have HV1 := Lib.hid hV1; have HV2 := Lib.hid hV2
    have HFI := Lib.hid fx_ok
    clear hV1 hV2
    go_cut [104] (fun v wx => v = .bool false ∧ Below w9.heap.size w9 wx)
    case first =>
      cases Om
      · go_wp2_with fail
        go_meet
        exact ⟨rfl, Below.refl _ _⟩
      · go_wp2_with fail
        refine (answer_any c A1 n1 c1 A2 n2 c2 p a _ 1 1 [fx] _ 1 1 [fx] w9 (H1.out.below (HBG.out.trans (HG9.out.mono HBG.out.size))) (H2.out.below (HBG.out.trans (HG9.out.mono HBG.out.size))) m1 m2 HF0.out HF0.out HFI.out HFI.out (by omega) (by omega)).mono ?_
        rw [HV1.out]
        rintro e w10 ⟨rfl, hb10⟩
        have HK10 := Lib.hid hb10
        have HG10 := Lib.hid (HG9.out.trans (hb10.mono HG9.out.size))
        clear z0 z1 y0 y1 hb10
        have z0 := kept HG10.out C0.out; have z1 := kept HG10.out C1.out; have y0 := kept HG10.out D0.out; have y1 := kept HG10.out D1.out
        by_cases h1 : V1 = 1
        · have e2 := HAN.out (by first | exact trivial | rfl) h1
          subst h1 e2
          have HF1 := Lib.hid (HF0.out.below HK10.out)
          go_wp2_with fail
          refine (answer_any M B1 k1 j1 B2 k2 j2 p a _ 1 1 [fx] _ 1 1 [fx] w10 (S1.out.below HG10.out) (S2.out.below HG10.out) (by unfold maxLen; omega) (by unfold maxLen; omega) HF1.out HF1.out HFI.out HFI.out (by omega) (by omega)).mono ?_
          rw [HV2.out]
          rintro e w11 ⟨rfl, hb11⟩
          have HK11 := Lib.hid (HK10.out.trans (hb11.mono HK10.out.size))
          clear hb11
          go_wp2_with fail
          go_meet
          exact ⟨rfl, HK11.out⟩
        · have t1 : (V1 == 1) = false := by simpa using h1
          clear h1
          go_wp2_with fail
          go_meet
          exact ⟨rfl, HK10.out⟩
    case rest =>
      obtain ⟨rfl, hw⟩ := hcut
      have HG12 := Lib.hid (HG9.out.trans (hw.mono HG9.out.size))
      clear z0 z1 y0 y1 hw
      have z0 := kept HG12.out C0.out; have z1 := kept HG12.out C1.out; have y0 := kept HG12.out D0.out; have y1 := kept HG12.out D1.out
      have hj := HJ.out.below HG12.out HJ.out.lt
      obtain ⟨L1, hL1⟩ : ∃ x, lateV c r sh p = x := ⟨_, rfl⟩
      obtain ⟨L2, hL2⟩ : ∃ x, lateV M r sh p = x := ⟨_, rfl⟩
      have HLT := Lib.hid (fun h => late_sub HSUB.out (r := r) (sh := sh) (pr := p) h)
      rw [hL1, hL2] at HLT
      have HL1 := Lib.hid hL1; have HL2 := Lib.hid hL2
      clear hL1 hL2
      go_wp2_with (first | go_skip | (refine stop_load 42 _ rfl ?_; refine wpList_load_want rfl 42 _ rfl (w.heap.size + 1) rfl 42 _ _ hj Try.underlying42 rfl (by kernel_rfl) ?_))
      refine (late_any c A1 n1 c1 A2 n2 c2 r sh p wc (H1.out.below (HBG.out.trans (HG12.out.mono HBG.out.size))) (H2.out.below (HBG.out.trans (HG12.out.mono HBG.out.size))) m1 m2).mono ?_
      rw [HL1.out]
      rintro e w13 ⟨rfl, hb13⟩
      have hj' := hj.below hb13 hj.lt
      clear hj
      have HG13 := Lib.hid (HG12.out.trans (hb13.mono HG12.out.size))
      clear z0 z1 y0 y1 hb13
      have z0 := kept HG13.out C0.out; have z1 := kept HG13.out C1.out; have y0 := kept HG13.out D0.out; have y1 := kept HG13.out D1.out
      by_cases h1 : L1 = 0
      · have e2 := HLT.out h1
        subst h1
        have t2 : (L2 != 11) = true := by simpa using e2
        clear e2
        go_wp2_with (first | go_skip | (refine stop_load 42 _ rfl ?_; refine wpList_load_want rfl 42 _ rfl (w.heap.size + 1) rfl 42 _ _ hj' Try.underlying42 rfl (by kernel_rfl) ?_))
        refine (late_any M B1 k1 j1 B2 k2 j2 r sh p w13 (S1.out.below HG13.out) (S2.out.below HG13.out) (by unfold maxLen; omega) (by unfold maxLen; omega)).mono ?_
        rw [HL2.out]
        rintro e w14 ⟨rfl, hb14⟩
        have HG14 := Lib.hid (HG13.out.trans (hb14.mono HG13.out.size))
        clear hb14
        go_wp2_with fail
        go_ret
        exact ⟨rfl, HBG.out.trans (HG14.out.mono HBG.out.size)⟩
      · have t1 : (L1 != 0) = true := by simpa using h1
        clear h1
        go_wp2_with fail
        go_ret
        exact ⟨rfl, HBG.out.trans (HG13.out.mono HBG.out.size)⟩
end Go.Proofs.Ytfiflmgjcmmomaa
