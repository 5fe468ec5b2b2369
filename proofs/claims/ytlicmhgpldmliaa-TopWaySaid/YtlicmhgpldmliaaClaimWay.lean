/- TopWay: the step from its walk to the given row. No condition. -/
import Derived.Test.YtlicmhgpldmliaaWyQ
import Derived.Test.YtlicmhgpldmliaaLtP
namespace Go.Proofs.Ytlicmhgpldmliaa
open Go.RowKit Go.Proofs.Ytlicmhgpldmliaa.kit
open Go.ChangeShapes Go.WideShapes Go.ChangeAt
set_option linter.unusedVariables false
set_option maxRecDepth 100000
theorem own : ownKnob Try.prog.godebug = none := by kernel_rfl
theorem leavesCl : leavesAt Try.prog 6 50 = [(0, 9), (1, 3), (2, 3), (3, 3)] := by kernel_rfl
theorem cellsCl : Try.prog.cellsOf 50 = 4 := by kernel_rfl
theorem leavesVy : leavesAt Try.prog 6 48 = [(0, 9), (1, 46)] := by kernel_rfl
theorem cellsVy : Try.prog.cellsOf 48 = 2 := by kernel_rfl
theorem listCl {cs : List Value} {c0 c1 c2 c3 : Value} (h : cs.length = 4) (h0 : cs[0]? = some c0) (h1 : cs[1]? = some c1) (h2 : cs[2]? = some c2) (h3 : cs[3]? = some c3) : cs = [c0, c1, c2, c3] := by
  match cs, h with
  | [x0, x1, x2, x3], _ => simp at h0 h1 h2 h3; rw [h0, h1, h2, h3]
theorem listVy {cs : List Value} {c0 c1 : Value} (h : cs.length = 2) (h0 : cs[0]? = some c0) (h1 : cs[1]? = some c1) : cs = [c0, c1] := by
  match cs, h with
  | [x0, x1], _ => simp at h0 h1; rw [h0, h1]
section
variable {H : Type} {enc : TypeId × Value → H} {W : World} {base : Nat} {spare : Nat → Bool} {held : Bool}
theorem open_cl (m : Nat) (cs : List Value) (x : DataW H × List MemPlace) (h : DataW.trod enc Try.prog W base spare held m 50 cs = some x) : ∃ a : kit.Cl, cs = clC a ∧ a.port.size ≤ maxLen := by
  obtain ⟨a0, e0, w0⟩ := leaf_string (o := 0) (u := 9) h 6 (by rw [leavesCl]; simp) Try.underlying9
  obtain ⟨a1, e1, w1⟩ := leaf_int (o := 1) (u := 3) (k := .i64) h 6 (by rw [leavesCl]; simp) Try.underlying3
  obtain ⟨a2, e2, w2⟩ := leaf_int (o := 2) (u := 3) (k := .i64) h 6 (by rw [leavesCl]; simp) Try.underlying3
  obtain ⟨a3, e3, w3⟩ := leaf_int (o := 3) (u := 3) (k := .i64) h 6 (by rw [leavesCl]; simp) Try.underlying3
  obtain ⟨_, _, _, _, hlen, _⟩ := DataW.trod_struct Try.underlying50 h
  exact ⟨⟨a0, a1, a2, a3⟩, listCl (hlen.trans cellsCl) e0 e1 e2 e3, w0⟩
/-- What a voyage that was handed in is like. -/
def VyIn (W : World) (v : kit.Vy) : Prop := (v.n ≤ maxLen ∧ v.ship.size ≤ maxLen ∧ ∀ x ∈ v.cs, x.port.size ≤ maxLen) ∧ SliceOf W 4 clC v.A v.n v.cs
theorem open_vy (m : Nat) (cs : List Value) (x : DataW H × List MemPlace) (h : DataW.trod enc Try.prog W base spare held m 48 cs = some x) : ∃ a : kit.Vy, cs = vyC a ∧ VyIn W a := by
  obtain ⟨a0, e0, w0⟩ := leaf_string (o := 0) (u := 9) h 6 (by rw [leavesVy]; simp) Try.underlying9
  obtain ⟨mm, y, en⟩ := leaf_any (o := 1) (u := 46) h 6 (by rw [leavesVy]; simp)
  obtain ⟨A, l, c, xs, he, hl, hc, hs, hw⟩ := open_sliceOf clC (fun x : kit.Cl => x.port.size ≤ maxLen) Try.underlying46 cellsCl (by omega) open_cl en
  obtain ⟨_, _, _, _, hlen, _⟩ := DataW.trod_struct Try.underlying48 h
  exact ⟨⟨a0, A, l, c, xs⟩, listVy (hlen.trans cellsVy) e0 (one_at he), ⟨Nat.le_trans hl hc, w0, hw⟩, hs⟩
theorem open_vys_cell (m : Nat) (cs : List Value) (x : DataW H × List MemPlace) (h : DataW.trod enc Try.prog W base spare held m 45 cs = some x) :
    ∃ A n c xs, cs = [.slice A n c] ∧ n ≤ c ∧ c ≤ maxLen ∧ SliceOf W 2 vyC A n xs ∧ ∀ y ∈ xs, VyIn W y :=
  open_sliceOf vyC (VyIn W) Try.underlying45 cellsVy (by omega) open_vy h
theorem open_vys_arg {v : Value} {d : DataW H} {p : List MemPlace} (hv : Value.okWide Try.prog W .any base 45 v) (h : DataW.Trod enc Try.prog W 0 spare held 45 v d p) :
    ∃ A n c xs, v = .slice A n c ∧ n ≤ c ∧ c ≤ maxLen ∧ SliceOf W 2 vyC A n xs ∧ ∀ y ∈ xs, VyIn W y := by
  obtain ⟨a, n, c, rfl⟩ := okWide_slice Try.underlying45 hv
  obtain ⟨m, hm⟩ := h
  obtain ⟨A, l, c', xs, he, hl, hc, hs, hw⟩ := open_vys_cell m _ _ hm
  simp [Value.cells] at he
  obtain ⟨rfl, rfl, rfl⟩ := he
  exact ⟨_, _, _, xs, rfl, hl, hc, hs, hw⟩
end
set_option maxRecDepth 100000 in
theorem topWay_lifted (os : Os) (started : os.Started) (H : Type) (enc : TypeId × Value → H) :
    ReturnsInHanded {} Try.checked os 4 .any (Rows.topWaySpec.pre6 enc Try.prog Try.f4 Rows.topWayRow.domain false) (Rows.topWaySpec.post enc Try.prog Try.f4 false true false false) := by
  refine returnsInHanded_of_change (C := Try.checked) own started (by kernel_rfl) Try.func4
    (ChangeSpec.witness6 (enc := enc) (C := Try.checked) false ⟨#[], #[.slice none 0 0, .int .u8 0, .int .u8 0], []⟩ 8 (by kernel_rfl) (by kernel_rfl) (by kernel_rfl) (by kernel_rfl)) ?_
  intro W base args ds gs before hval0 hW hcnd _
  have hval : ∀ (j : Nat) t v, Try.f4.params[j]? = some t → args[j]? = some v → Value.okWide Try.prog W .any base t v := hval0
  have hW' : DataW.Whole enc Try.prog Try.f4.params.toList Rows.topWaySpec.vars false W args.toList ds gs before := hW
  obtain ⟨p, q, hA0, hV, rfl, hfz, hnd⟩ := hW
  have hA : DataW.TrodAll enc Try.prog W 0 (fun _ => true) true Try.f4.params.toList args.toList ds p := hA0
  rw [Try.params4] at hA hval
  obtain ⟨v0, vs0, d0, ds0, p0, q0, hargs, rfl, rfl, h0, r0⟩ := trodAll_cons hA
  obtain ⟨v1, vs1, d1, ds1, p1, q1, rfl, rfl, rfl, h1, r1⟩ := trodAll_cons r0
  obtain ⟨v2, vs2, d2, ds2, p2, q2, rfl, rfl, rfl, h2, r2⟩ := trodAll_cons r1
  obtain ⟨rfl, rfl, rfl⟩ := trodAll_nil r2
  obtain rfl : args = #[v0, v1, v2] := by cases args; simp_all
  obtain ⟨rfl, rfl⟩ := trodVars_none hV
  obtain ⟨A, n, c, xs, rfl, hnc, hcm, hx, hxu⟩ := open_vys_arg (hval 0 45 v0 rfl rfl) h0
  obtain ⟨rd, rfl, rfl, rfl, w_rd⟩ := open_int Try.underlying5 (hval 1 5 v1 rfl rfl) h1
  obtain ⟨ch, rfl, rfl, rfl, w_ch⟩ := open_int Try.underlying5 (hval 2 5 v2 rfl rfl) h2
  exact closed laidOut (by kernel_rfl) rfl Try.underlying4 rfl rfl hW' (topWay_walk A n c xs rd ch W hx (fun v hv => (hxu v hv).2) (u8_of_wf w_rd) (u8_of_wf w_ch) (Nat.le_trans hnc hcm) (fun v hv => (hxu v hv).1))

theorem topWay_holds : Rows.TopWaySaid :=
  OpenClaim.holds_of_wide 4 Try.f4 rfl rfl rfl rfl rfl rfl rfl ⟨rfl, rfl, rfl, rfl, rfl⟩ rfl rfl rfl rfl rfl (by kernel_rfl) Try.func4 (by kernel_rfl)
    (of_decide_eq_true (by kernel_rfl)) (by unfold Func.isWrapper; first | (rw [if_pos (by decide +kernel)]; kernel_rfl) | (rw [if_neg (by decide +kernel)]; exact ⟨rfl, rfl⟩))
    (fun os started H enc _ => topWay_lifted os started H enc)
end Go.Proofs.Ytlicmhgpldmliaa
