/- The tables that the rows list, a setup and letters as arguments. No condition. -/
import Derived.Test.YtdanjegnhdpnlaaDoorOfS
import Derived.Test.YtdanjegnhdpnlaaDoorOfQ
import Derived.Stop.LaidErr
namespace Go.Proofs.YtdanjegnhdpnlaaDoor
open Go.RowKit Go.Proofs.YtdanjegnhdpnlaaDoor.kit
open Go.ChangeShapes Go.WideShapes Go.ChangeAt
set_option linter.unusedVariables false
set_option maxRecDepth 100000
theorem own : ownKnob Tryd.prog.godebug = none := by kernel_rfl
theorem laidOut : laidOutB Tryd.prog = true := by kernel_rfl
theorem leavesSu : leavesAt Tryd.prog 6 29 = [(0, 22), (1, 23), (2, 24), (3, 25), (4, 25)] := by kernel_rfl
theorem cellsSu : Tryd.prog.cellsOf 29 = 5 := by kernel_rfl
theorem listSu {cs : List Value} {c0 c1 c2 c3 c4 : Value} (h : cs.length = 5) (h0 : cs[0]? = some c0) (h1 : cs[1]? = some c1) (h2 : cs[2]? = some c2) (h3 : cs[3]? = some c3) (h4 : cs[4]? = some c4) : cs = [c0, c1, c2, c3, c4] := by
  match cs, h with
  | [x0, x1, x2, x3, x4], _ => simp at h0 h1 h2 h3 h4; rw [h0, h1, h2, h3, h4]
structure SuIn (W : World) (s : Su) (ps : List Pty) (xs : List Dx) : Prop where
  p : SliceOf W 3 ptyC s.pA s.pn ps
  d : SliceOf W 17 dxC s.dA s.dn xs
  x : ∀ x ∈ xs, DxIn W x
  pn : s.pn ≤ maxLen
  dn : s.dn ≤ maxLen
section
variable {H : Type} {enc : TypeId × Value → H} {W : World} {base : Nat} {spare : Nat → Bool} {held : Bool}
theorem open_su (m : Nat) (cs : List Value) (x : DataW H × List MemPlace) (h : DataW.trod enc Tryd.prog W base spare held m 29 cs = some x) (hs : Small Tryd.prog 29 x.1) : ∃ (s : Su) (ps : List Pty) (xs : List Dx), cs = (#[.slice s.pA s.pn s.pc, .slice s.dA s.dn s.dc, .slice s.fA s.fn s.fc, .slice s.rA s.rn s.rc, .slice s.hA s.hn s.hc]).toList ∧ SuIn W s ps xs := by
  obtain ⟨m0, y0, en0, es0⟩ := trod_leavesS 6 h hs (0, 22) (by rw [leavesSu]; simp)
  obtain ⟨A0, l0, c0, ps, he0, hl0, hc0, hs0, _, _⟩ := open_sliceS ptyC (fun _ => True) Tryd.underlying22 cellsPt (by omega) open_pt en0 es0
  obtain ⟨m1, y1, en1, es1⟩ := trod_leavesS 6 h hs (1, 23) (by rw [leavesSu]; simp)
  obtain ⟨A1, l1, c1, xs, he1, hl1, hc1, hs1, hx1, _⟩ := open_sliceS dxC (DxIn W) Tryd.underlying23 cellsDl (by omega) open_dl en1 es1
  obtain ⟨m2, y2, en2, _⟩ := trod_leavesS 6 h hs (2, 24) (by rw [leavesSu]; simp)
  obtain ⟨A2, n2, c2, he2⟩ := any_slice Tryd.underlying24 en2
  obtain ⟨m3, y3, en3, _⟩ := trod_leavesS 6 h hs (3, 25) (by rw [leavesSu]; simp)
  obtain ⟨A3, n3, c3, he3⟩ := any_slice Tryd.underlying25 en3
  obtain ⟨m4, y4, en4, _⟩ := trod_leavesS 6 h hs (4, 25) (by rw [leavesSu]; simp)
  obtain ⟨A4, n4, c4, he4⟩ := any_slice Tryd.underlying25 en4
  obtain ⟨_, _, _, _, hlen, _⟩ := DataW.trod_struct Tryd.underlying29 h
  exact ⟨⟨A0, l0, c0, A1, l1, c1, A2, n2, c2, A3, n3, c3, A4, n4, c4⟩, ps, xs, listSu (hlen.trans cellsSu) (one_at he0) (one_at he1) (one_at he2) (one_at he3) (one_at he4), ⟨hs0, hs1, hx1, Nat.le_trans hl0 hc0, Nat.le_trans hl1 hc1⟩⟩
theorem small_at {ts : List TypeId} {ds : List (DataW H)} (hsz : (DataW.weightsEach Tryd.prog ts ds).all (· ≤ reachBytes) = true) {j : Nat} {t : TypeId} {d : DataW H} (ht : ts[j]? = some t) (hd : ds[j]? = some d) : Small Tryd.prog t d :=
  fun k hk => of_decide_eq_true (List.all_eq_true.1 hsz _ (DataW.weights_mem_each ht hd k hk))
theorem open_su_arg {v : Value} {d : DataW H} {p : List MemPlace} (hz : Small Tryd.prog 29 d) (hv : Value.okWide Tryd.prog W .any base 29 v) (h : DataW.Trod enc Tryd.prog W 0 spare held 29 v d p) : ∃ (s : Su) (ps : List Pty) (xs : List Dx), v = .agg #[.slice s.pA s.pn s.pc, .slice s.dA s.dn s.dc, .slice s.fA s.fn s.fc, .slice s.rA s.rn s.rc, .slice s.hA s.hn s.hc] ∧ SuIn W s ps xs := by
  obtain ⟨cs, rfl, _⟩ := okWide_struct Tryd.underlying29 hv
  obtain ⟨m, hm⟩ := h
  obtain ⟨s, ps, xs, hr, wr⟩ := open_su m _ _ hm hz
  refine ⟨s, ps, xs, ?_, wr⟩
  have : cs = #[.slice s.pA s.pn s.pc, .slice s.dA s.dn s.dc, .slice s.fA s.fn s.fc, .slice s.rA s.rn s.rc, .slice s.hA s.hn s.hc] := by
    apply Array.toList_inj.1
    simpa [Value.cells] using hr
  rw [this]
theorem open_lts_arg {v : Value} {d : DataW H} {p : List MemPlace} (hz : Small Tryd.prog 30 d) (hv : Value.okWide Tryd.prog W .any base 30 v) (h : DataW.Trod enc Tryd.prog W 0 spare held 30 v d p) :
    ∃ A n c ls, v = .slice A n c ∧ n ≤ maxLen ∧ SliceOf W 14 ltC A n ls ∧ ∀ l ∈ ls, I64 l.amt := by
  obtain ⟨a, n, c, rfl⟩ := okWide_slice Tryd.underlying30 hv
  obtain ⟨m, hm⟩ := h
  obtain ⟨A, l, c', xs, he, hl, hc, hs, hw, _⟩ := open_sliceS ltC (fun l : kit.Lt => I64 l.amt) Tryd.underlying30 cellsLt (by omega) open_lt hm hz
  simp [Value.cells] at he
  obtain ⟨rfl, rfl, rfl⟩ := he
  exact ⟨_, _, _, xs, rfl, Nat.le_trans hl hc, hs, hw⟩
end
theorem gPow : Tryd.prog.globalNamed "internal/strconv.uint64pow10" = some 2 := by kernel_rfl
theorem tab2 {W : World} (h : laidMet Tryd.prog [("internal/strconv.uint64pow10", Rows.laid_internal_strconv_uint64pow10)] W) : Lib.TabIs Tryd.prog W "internal/strconv.uint64pow10" .u64 Lib.pow10Tab :=
  Lib.tabIs_of_head (t := 112) (e := 89) gPow (by kernel_rfl) Tryd.underlying112 Tryd.underlying89 (by kernel_rfl) (by kernel_rfl) (rest := []) h
end Go.Proofs.YtdanjegnhdpnlaaDoor
