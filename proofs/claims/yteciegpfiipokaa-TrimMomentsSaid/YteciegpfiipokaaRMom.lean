/- supercargoref14.Moments and Size, trim.size. No condition. -/
import Derived.Test.YteciegpfiipokaaMom
import Derived.Handy
namespace Go.Proofs.Yteciegpfiipokaa
open Go.RowKit Go.Proofs.Yteciegpfiipokaa.kit
set_option linter.unusedVariables false

/-- A number without its sign, where it has one. -/
def absF (n : Int) : Int := if n < 0 then -n else n
theorem rsize_any (n : Int) (h : -9000000000000000000 ≤ n ∧ n ≤ 9000000000000000000) (w : World) : Calls Try.prog 14 #[.int .i64 n] w fun e w' => e = .returned (.int .i64 (absF n)) ∧ w = w' := by
  obtain ⟨h1, h2⟩ := h
  by_cases hn : n < 0
  all_goals
    go_enter Try.func14, Try.ntmps14
    go_wp2
    go_ret
    exact ⟨ret_int (by unfold absF; first | rw [if_pos hn] | rw [if_neg (by omega)]), rfl⟩
theorem size_any (n : Int) (h : -9000000000000000000 ≤ n ∧ n ≤ 9000000000000000000) (w : World) : Calls Try.prog 23 #[.int .i64 n] w fun e w' => e = .returned (.int .i64 (absF n)) ∧ w = w' := by
  obtain ⟨h1, h2⟩ := h
  by_cases hn : n < 0
  all_goals
    go_enter Try.func23, Try.ntmps23
    go_wp2
    go_ret
    exact ⟨ret_int (by unfold absF; first | rw [if_pos hn] | rw [if_neg (by omega)]), rfl⟩
theorem abs_bd {n : Int} : 0 ≤ absF n ∧ (absF n = n ∨ absF n = -n) := by unfold absF; split <;> omega

/-- A load lies on the ship, and weighs something. -/
def inB (s : Ship) (x : Load) : Prop := 0 ≤ x.b ∧ x.b < s.ba ∧ 0 ≤ x.r ∧ x.r < s.ro ∧ 0 ≤ x.t ∧ x.t < s.ti ∧ 1 ≤ x.we ∧ x.we ≤ 1048576
theorem fit_may {s : Ship} {xs : List Load} (h : fitB s xs = true) : s.may = true ∧ xs.length ≤ 4096 ∧ pre s [] xs = true := by
  unfold fitB at h
  simpa [and_assoc] using h
theorem pre_in {s : Ship} (hs : s.may = true) : ∀ {xs : List Load} {seen : List Sl}, pre s seen xs = true → ∀ x ∈ xs, inB s x
  | [], _, _, x, hx => by simp at hx
  | y :: ys, seen, h, x, hx => by
    simp only [pre, Bool.and_eq_true] at h
    rcases List.mem_cons.1 hx with rfl | hx
    · have := h.1
      simp only [okB, Bool.and_eq_true, decide_eq_true_eq] at this
      obtain ⟨⟨⟨h1, h2⟩, h3⟩, _⟩ := this
      have := on_of h1
      have := dims_of hs
      unfold inB
      omega
    · exact pre_in hs h.2 x hx

set_option maxHeartbeats 1600000 in
theorem rmoments_any (s : Ship) (A : Option Addr) (n c : Nat) (xs : List Load) (w : World) (hx : SliceOf w 7 Load.cells A n xs) (hm : n ≤ 4096) (hfit : fitB s xs = true) :
    Calls Try.prog 13 #[.agg #[.string s.nm, .int .i64 s.ba, .int .i64 s.ro, .int .i64 s.ti, .int .i64 s.st, .int .i64 s.tr, .int .i64 s.li, .int .i64 s.up, .int .i64 s.mo], .slice A n c] w
      fun e w' => ∃ g, e = .returned (.slice (some ⟨g, 0, none⟩) 4 4) ∧ w.heap.size ≤ g ∧ Blk w' g 2 #[.int .i64 (momF s xs).1, .int .i64 (momF s xs).2.1, .int .i64 (momF s xs).2.2.1, .int .i64 (momF s xs).2.2.2] ∧ Below w.heap.size w w' := by
  have HX := Lib.hid hx
  obtain ⟨hmay, hlen, hpre⟩ := fit_may hfit
  obtain ⟨d0, d1, d2, d3, d4, d5⟩ := dims_of hmay
  have HI := Lib.hid (pre_in hmay hpre)
  have hxl : xs.length = n := hx.len
  have hB0 : Below w.heap.size w (w.alloc (.cells #[.string s.nm, .int .i64 s.ba, .int .i64 s.ro, .int .i64 s.ti, .int .i64 s.st, .int .i64 s.tr, .int .i64 s.li, .int .i64 s.up, .int .i64 s.mo] 23)) := (Below.refl _ _).alloc (Nat.le_refl _) _
  have hk0 : Blk (w.alloc (.cells #[.string s.nm, .int .i64 s.ba, .int .i64 s.ro, .int .i64 s.ti, .int .i64 s.st, .int .i64 s.tr, .int .i64 s.li, .int .i64 s.up, .int .i64 s.mo] 23)) w.heap.size 23 #[.string s.nm, .int .i64 s.ba, .int .i64 s.ro, .int .i64 s.ti, .int .i64 s.st, .int .i64 s.tr, .int .i64 s.li, .int .i64 s.up, .int .i64 s.mo] := Blk.new _ _ _
  clear hx hmay hlen hpre hfit
  go_enter Try.func13, Try.ntmps13
  go_wp2_with fail
  go_loopw [5, 6, 7, 8, 9] (fun vl vc vu vm i wr => ∃ (k : Nat) (L C U M : Int), k ≤ n ∧ i = .int .i64 k ∧ vl = .int .i64 L ∧ vc = .int .i64 C ∧ vu = .int .i64 U ∧ vm = .int .i64 M ∧ -(k * 32505856) ≤ L ∧ L ≤ k * 32505856 ∧ -(k * 32505856) ≤ C ∧ C ≤ k * 32505856 ∧ 0 ≤ U ∧ U ≤ k * 32505856 ∧ 0 ≤ M ∧ M ≤ k * 1048576 ∧
      Below w.heap.size w wr ∧ Blk wr w.heap.size 23 #[.string s.nm, .int .i64 s.ba, .int .i64 s.ro, .int .i64 s.ti, .int .i64 s.st, .int .i64 s.tr, .int .i64 s.li, .int .i64 s.up, .int .i64 s.mo] ∧
      Hid ((xs.drop k).foldl (addM s) (L, C, U, M) = momF s xs)) (fun _ _ _ _ i _ => n - (intOf i).toNat)
  case atStart => exact ⟨0, 0, 0, 0, 0, by omega, rfl, rfl, rfl, rfl, rfl, by omega, by omega, by omega, by omega, by omega, by omega, by omega, by omega, hB0, hk0, Lib.hid rfl⟩
  case round =>
    obtain ⟨k, L, C, U, M, hk, rfl, rfl, rfl, rfl, rfl, bL0, bL1, bC0, bC1, bU0, bU1, bM0, bM1, hbel, hks, hmom⟩ := hrel
    clear hB0 hk0
    have a1 := hks.cell 1; have a2 := hks.cell 2
    simp only [List.getElem?_toArray, List.getElem?_cons_zero, List.getElem?_cons_succ] at a1 a2
    by_cases hlt : k < n
    · obtain ⟨⟨xb, xr, xt, xbox, xwe, xcl, xpo⟩, hx⟩ : ∃ x, xs[k]? = some x := ⟨_, List.getElem?_eq_getElem (by omega)⟩
      obtain ⟨b0, off, rfl, hb0, hc⟩ := HX.out.at_ (by omega)
      have c0 : wr.cell? ⟨b0, off + k * 7, none⟩ = some (.int .i64 xb) := (hbel.cell hb0).trans (hc k _ hx 0 _ rfl)
      have c1 : wr.cell? ⟨b0, off + k * 7 + 1, none⟩ = some (.int .i64 xr) := (hbel.cell hb0).trans (hc k _ hx 1 _ rfl)
      have c2 : wr.cell? ⟨b0, off + k * 7 + 2, none⟩ = some (.int .i64 xt) := (hbel.cell hb0).trans (hc k _ hx 2 _ rfl)
      have c4 : wr.cell? ⟨b0, off + k * 7 + 4, none⟩ = some (.int .i64 xwe) := (hbel.cell hb0).trans (hc k _ hx 4 _ rfl)
      obtain ⟨o0, o1, o2, o3, o4, o5, o6, o7⟩ : inB s _ := HI.out _ (List.mem_of_getElem? hx)
      simp only at o0 o1 o2 o3 o4 o5 o6 o7
      have HM := Lib.hid ((mom_step (s := s) (m := (L, C, U, M)) hx).symm.trans hmom.out)
      clear hx hmom hc
      have kn : (k : Int) < (n : Int) := by omega
      have k0 : (0 : Int) ≤ (k : Int) := by omega
      have bL := mul_bd (q := 2 * xb - s.ba + 1) (K := 31) o6 o7 (by omega) (by omega) (by omega)
      have bC := mul_bd (q := 2 * xr - s.ro + 1) (K := 31) o6 o7 (by omega) (by omega) (by omega)
      have bU := mul_bd0 (q := xt) (K := 31) o6 o7 o4 (by omega) (by omega)
      obtain ⟨bL2, bL3⟩ := bL
      obtain ⟨bC2, bC3⟩ := bC
      obtain ⟨bU2, bU3⟩ := bU
      go_wp2_with fail
      go_quiet (fail)
      go_wp2_with fail
      go_quiet (fail)
      go_wp2_with fail
      go_roundw
      case rel =>
        exact ⟨k + 1, L + xwe * (2 * xb - s.ba + 1), C + xwe * (2 * xr - s.ro + 1), U + xwe * xt, M + xwe, by omega, by go_num, by go_num, by go_num, by go_num, by go_num, by omega, by omega, by omega, by omega, by omega, by omega, by omega, by omega, below_drewN hbel _, hks.drewN _, Lib.hid HM.out⟩
      case measure => simp [intOf]; omega
    · have hkn : k = n := by omega
      have e0 : Hid ((L, C, U, M) = momF s xs) := Lib.hid (by rw [← hmom.out, List.drop_eq_nil_of_le (by omega)]; rfl)
      go_wp2_with fail
      go_ret
      refine ⟨wr.heap.size, rfl, hbel.size, ?_, hbel.alloc hbel.size _⟩
      rw [← e0.out]
      exact Blk.new _ _ _
end Go.Proofs.Yteciegpfiipokaa
