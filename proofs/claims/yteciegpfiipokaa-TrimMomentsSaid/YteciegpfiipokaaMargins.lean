/- trim.margins. No condition. -/
import Derived.Test.YteciegpfiipokaaRMom
import Derived.Test.YteciegpfiipokaaSum
import Derived.StillTailTactics
namespace Go.Proofs.Yteciegpfiipokaa
open Go.RowKit Go.Proofs.Yteciegpfiipokaa.kit
set_option linter.unusedVariables false

def sTrim : ByteArray := ⟨#[116, 114, 105, 109]⟩
def sList : ByteArray := ⟨#[108, 105, 115, 116]⟩
def sUp : ByteArray := ⟨#[117, 112]⟩
def sMost : ByteArray := ⟨#[109, 111, 115, 116]⟩
/-- The four margins. -/
structure Marg where
  t : Int
  l : Int
  u : Int
  m : Int
def margOf (s : Ship) (m : Mom) : Marg := ⟨s.tr * m.2.2.2 - absF m.1, s.li * m.2.2.2 - absF m.2.1, s.up * m.2.2.2 - m.2.2.1, s.mo - m.2.2.2⟩
theorem prod_bd {a b : Int} (h0 : 0 ≤ a) (h1 : a ≤ 1048576) (h2 : 0 ≤ b) (h3 : b ≤ 4294967296) : 0 ≤ a * b ∧ a * b ≤ 4503599627370496 := by
  refine ⟨Int.mul_nonneg h0 h2, ?_⟩
  have := Int.mul_le_mul h1 h3 h2 (by omega : (0 : Int) ≤ 1048576)
  omega
theorem set8 {w : World} {g : Nat} {t : TypeId} {a b c d e f i j : Value} (h : Blk w g t #[a, b, c, d, e, f, i, j]) (a' b' c' d' e' f' i' j' : Value) :
    Blk ((((((((w.setCell ⟨g, 0, none⟩ a').setCell ⟨g, 1, none⟩ b').setCell ⟨g, 2, none⟩ c').setCell ⟨g, 3, none⟩ d').setCell ⟨g, 4, none⟩ e').setCell ⟨g, 5, none⟩ f').setCell ⟨g, 6, none⟩ i').setCell ⟨g, 7, none⟩ j') g t #[a', b', c', d', e', f', i', j'] := by
  have := (((((((h.set_ 0 a').set_ 1 b').set_ 2 c').set_ 3 d').set_ 4 e').set_ 5 f').set_ 6 i').set_ 7 j'
  simpa using this

set_option maxRecDepth 100000 in
set_option maxHeartbeats 1600000 in
theorem margins_any (s : Ship) (hmay : s.may = true) (L C U M : Int) (bL : -200000000000 ≤ L ∧ L ≤ 200000000000) (bC : -200000000000 ≤ C ∧ C ≤ 200000000000) (bU : 0 ≤ U ∧ U ≤ 200000000000) (bM : 0 ≤ M ∧ M ≤ 4294967296) (w : World) :
    Calls Try.prog 24 #[.agg #[.string s.nm, .int .i64 s.ba, .int .i64 s.ro, .int .i64 s.ti, .int .i64 s.st, .int .i64 s.tr, .int .i64 s.li, .int .i64 s.up, .int .i64 s.mo], .agg #[.int .i64 L, .int .i64 C, .int .i64 U, .int .i64 M]] w
      fun e w' => e = .returned (.agg #[.string ⟨#[116, 114, 105, 109]⟩, .int .i64 (margOf s (L, C, U, M)).t, .string ⟨#[108, 105, 115, 116]⟩, .int .i64 (margOf s (L, C, U, M)).l, .string ⟨#[117, 112]⟩, .int .i64 (margOf s (L, C, U, M)).u, .string ⟨#[109, 111, 115, 116]⟩, .int .i64 (margOf s (L, C, U, M)).m]) ∧ Below w.heap.size w w' := by
  obtain ⟨s0, s1, s2, s3, s4, s5, s6, s7⟩ := bounds_of hmay
  obtain ⟨bL0, bL1⟩ := bL
  obtain ⟨bC0, bC1⟩ := bC
  obtain ⟨bU0, bU1⟩ := bU
  obtain ⟨bM0, bM1⟩ := bM
  obtain ⟨p0, p1⟩ := prod_bd s0 s1 bM0 bM1
  obtain ⟨p2, p3⟩ := prod_bd s2 s3 bM0 bM1
  obtain ⟨p4, p5⟩ := prod_bd s4 s5 bM0 bM1
  obtain ⟨A, hA⟩ : ∃ A, absF L = A := ⟨_, rfl⟩
  obtain ⟨B, hB⟩ : ∃ B, absF C = B := ⟨_, rfl⟩
  have aA := abs_bd (n := L)
  have aB := abs_bd (n := C)
  rw [hA] at aA
  rw [hB] at aB
  obtain ⟨aA0, aA1⟩ := aA
  obtain ⟨aB0, aB1⟩ := aB
  have qL := fun w => (size_any L ⟨by omega, by omega⟩ w).mono (fun e w' (h : e = _ ∧ w = w') => (⟨h.1, h.2.symm⟩ : e = _ ∧ w' = w))
  have qC := fun w => (size_any C ⟨by omega, by omega⟩ w).mono (fun e w' (h : e = _ ∧ w = w') => (⟨h.1, h.2.symm⟩ : e = _ ∧ w' = w))
  rw [hA] at qL
  rw [hB] at qC
  have aA2 : A ≤ 200000000000 := by omega
  have aB2 : B ≤ 200000000000 := by omega
  have QL := Lib.hid qL; have QC := Lib.hid qC
  have hm : margOf s (L, C, U, M) = ⟨s.tr * M - A, s.li * M - B, s.up * M - U, s.mo - M⟩ := by simp [margOf, hA, hB]
  rw [hm]
  clear hm qL qC hA hB aA1 aB1
  go_enter Try.func24, Try.ntmps24
  go_wp2_with fail
  have hk : Blk (((w.alloc (.cells #[.string s.nm, .int .i64 s.ba, .int .i64 s.ro, .int .i64 s.ti, .int .i64 s.st, .int .i64 s.tr, .int .i64 s.li, .int .i64 s.up, .int .i64 s.mo] 23)).alloc (.cells #[.int .i64 L, .int .i64 C, .int .i64 U, .int .i64 M] 50)).alloc (.cells #[.string ⟨#[]⟩, .int .i64 0, .string ⟨#[]⟩, .int .i64 0, .string ⟨#[]⟩, .int .i64 0, .string ⟨#[]⟩, .int .i64 0] 56)) w.heap.size 23 #[.string s.nm, .int .i64 s.ba, .int .i64 s.ro, .int .i64 s.ti, .int .i64 s.st, .int .i64 s.tr, .int .i64 s.li, .int .i64 s.up, .int .i64 s.mo] := ((Blk.new _ _ _).alloc _).alloc _
  have hm : Blk (((w.alloc (.cells #[.string s.nm, .int .i64 s.ba, .int .i64 s.ro, .int .i64 s.ti, .int .i64 s.st, .int .i64 s.tr, .int .i64 s.li, .int .i64 s.up, .int .i64 s.mo] 23)).alloc (.cells #[.int .i64 L, .int .i64 C, .int .i64 U, .int .i64 M] 50)).alloc (.cells #[.string ⟨#[]⟩, .int .i64 0, .string ⟨#[]⟩, .int .i64 0, .string ⟨#[]⟩, .int .i64 0, .string ⟨#[]⟩, .int .i64 0] 56)) (w.heap.size + 1) 50 #[.int .i64 L, .int .i64 C, .int .i64 U, .int .i64 M] := (Blk.new_at _ _ _ _ (by simp)).alloc _
  have hr : Blk (((w.alloc (.cells #[.string s.nm, .int .i64 s.ba, .int .i64 s.ro, .int .i64 s.ti, .int .i64 s.st, .int .i64 s.tr, .int .i64 s.li, .int .i64 s.up, .int .i64 s.mo] 23)).alloc (.cells #[.int .i64 L, .int .i64 C, .int .i64 U, .int .i64 M] 50)).alloc (.cells #[.string ⟨#[]⟩, .int .i64 0, .string ⟨#[]⟩, .int .i64 0, .string ⟨#[]⟩, .int .i64 0, .string ⟨#[]⟩, .int .i64 0] 56)) (w.heap.size + 1 + 1) 56 #[.string ⟨#[]⟩, .int .i64 0, .string ⟨#[]⟩, .int .i64 0, .string ⟨#[]⟩, .int .i64 0, .string ⟨#[]⟩, .int .i64 0] := Blk.new_at _ _ _ _ (by simp)
  have hB : Below w.heap.size w (((w.alloc (.cells #[.string s.nm, .int .i64 s.ba, .int .i64 s.ro, .int .i64 s.ti, .int .i64 s.st, .int .i64 s.tr, .int .i64 s.li, .int .i64 s.up, .int .i64 s.mo] 23)).alloc (.cells #[.int .i64 L, .int .i64 C, .int .i64 U, .int .i64 M] 50)).alloc (.cells #[.string ⟨#[]⟩, .int .i64 0, .string ⟨#[]⟩, .int .i64 0, .string ⟨#[]⟩, .int .i64 0, .string ⟨#[]⟩, .int .i64 0] 56)) := (((Below.refl _ _).alloc (Nat.le_refl _) _).alloc (by simp) _).alloc (by simp; omega) _
  generalize (((w.alloc (.cells #[.string s.nm, .int .i64 s.ba, .int .i64 s.ro, .int .i64 s.ti, .int .i64 s.st, .int .i64 s.tr, .int .i64 s.li, .int .i64 s.up, .int .i64 s.mo] 23)).alloc (.cells #[.int .i64 L, .int .i64 C, .int .i64 U, .int .i64 M] 50)).alloc (.cells #[.string ⟨#[]⟩, .int .i64 0, .string ⟨#[]⟩, .int .i64 0, .string ⟨#[]⟩, .int .i64 0, .string ⟨#[]⟩, .int .i64 0] 56)) = W at *
  refine wp_region_still_tail 36 (by kernel_rfl) (by kernel_rfl) ?_
  simp only [List.take_succ_cons, List.take_zero, List.drop_succ_cons, List.drop_zero]
  change wpStill _ _ W.drew (fun a' => wpList _ _ _ _ a' W.drew) _ _
  replace hk := hk.drew; replace hm := hm.drew; replace hr := hr.drew; replace hB := hB.drew
  generalize W.drew = W at *
  have a5 := hk.cell 5; have a6 := hk.cell 6; have a7 := hk.cell 7; have a8 := hk.cell 8
  have m0 := hm.cell 0; have m1 := hm.cell 1; have m2 := hm.cell 2; have m3 := hm.cell 3
  have r0 := hr.cell 0; have r1 := hr.cell 1; have r2 := hr.cell 2; have r3 := hr.cell 3; have r4 := hr.cell 4; have r5 := hr.cell 5; have r6 := hr.cell 6; have r7 := hr.cell 7
  have z0 := hr.frozen 0; have z1 := hr.frozen 1; have z2 := hr.frozen 2; have z3 := hr.frozen 3; have z4 := hr.frozen 4; have z5 := hr.frozen 5; have z6 := hr.frozen 6; have z7 := hr.frozen 7
  simp only [List.getElem?_toArray, List.getElem?_cons_zero, List.getElem?_cons_succ] at a5 a6 a7 a8 m0 m1 m2 m3 r0 r1 r2 r3 r4 r5 r6 r7
  have wr1 : IntKind.i64.wrap (s.tr * M) = s.tr * M := IntWalk.i64_in _ (by omega)
  have wr2 : IntKind.i64.wrap (s.li * M) = s.li * M := IntWalk.i64_in _ (by omega)
  have wr3 : IntKind.i64.wrap (s.up * M) = s.up * M := IntWalk.i64_in _ (by omega)
  have wr4 : IntKind.i64.wrap (s.tr * M - A) = s.tr * M - A := IntWalk.i64_in _ (by omega)
  have wr5 : IntKind.i64.wrap (s.li * M - B) = s.li * M - B := IntWalk.i64_in _ (by omega)
  have wr6 : IntKind.i64.wrap (s.up * M - U) = s.up * M - U := IntWalk.i64_in _ (by omega)
  have wr7 : IntKind.i64.wrap (s.mo - M) = s.mo - M := IntWalk.i64_in _ (by omega)
  repeat (first | still_step | still_call (QL.out _) | still_call (QC.out _))
  refine wpStill_nil ?_
  clear wr1 wr2 wr3 wr4 wr5 wr6 wr7
  go_wp2_with fail
  have q := set8 hr (.string ⟨#[116, 114, 105, 109]⟩) (.int .i64 (s.tr * M - A)) (.string ⟨#[108, 105, 115, 116]⟩) (.int .i64 (s.li * M - B)) (.string ⟨#[117, 112]⟩) (.int .i64 (s.up * M - U)) (.string ⟨#[109, 111, 115, 116]⟩) (.int .i64 (s.mo - M))
  have q0 := q.cell 0; have q1 := q.cell 1; have q2 := q.cell 2; have q3 := q.cell 3; have q4 := q.cell 4; have q5 := q.cell 5; have q6 := q.cell 6; have q7 := q.cell 7
  simp only [List.getElem?_toArray, List.getElem?_cons_zero, List.getElem?_cons_succ] at q0 q1 q2 q3 q4 q5 q6 q7
  refine bodyPost_ret (v := .agg #[.string ⟨#[116, 114, 105, 109]⟩, .int .i64 (s.tr * M - A), .string ⟨#[108, 105, 115, 116]⟩, .int .i64 (s.li * M - B), .string ⟨#[117, 112]⟩, .int .i64 (s.up * M - U), .string ⟨#[109, 111, 115, 116]⟩, .int .i64 (s.mo - M)]) (by simp [results, Try.results24, go_sem, q0, q1, q2, q3, q4, q5, q6, q7]) rfl ⟨rfl, ?_⟩
  exact (((((((hB.setCell (by simp; omega) _).setCell (by simp; omega) _).setCell (by simp; omega) _).setCell (by simp; omega) _).setCell (by simp; omega) _).setCell (by simp; omega) _).setCell (by simp; omega) _).setCell (by simp; omega) _
end Go.Proofs.Yteciegpfiipokaa
