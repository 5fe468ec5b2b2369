/- Openers of an office's arguments: boxes, deals, letters, a setup. No condition. -/
import Derived.Test.YtdanjegnhdpnlaaDoorOfR
import Derived.Test.YtdanjegnhdpnlaaDoorOfO
namespace Go.Proofs.YtdanjegnhdpnlaaDoor
open Go.RowKit Go.Proofs.YtdanjegnhdpnlaaDoor.kit
open Go.ChangeShapes Go.WideShapes Go.ChangeAt
set_option linter.unusedVariables false
set_option maxRecDepth 100000
section
variable {H : Type} {enc : TypeId × Value → H} {W : World} {base : Nat} {spare : Nat → Bool} {held : Bool}
theorem leaf_stringS {m o : Nat} {t u : TypeId} {cs : List Value} {x : DataW H × List MemPlace} (h : DataW.trod enc Tryd.prog W base spare held m t cs = some x) (hs : Small Tryd.prog t x.1) (n : Nat) (hm : (o, u) ∈ leavesAt Tryd.prog n t) (hu : Tryd.prog.underlying u = some .string) : ∃ s : ByteArray, cs[o]? = some (.string s) ∧ s.size ≤ reachBytes := by
  obtain ⟨m', y, hy, hys⟩ := trod_leavesS n h hs _ hm
  obtain ⟨a, ha, hx, _⟩ := DataW.trod_string hu hy
  refine ⟨a, one_at ha, ?_⟩
  rw [hx] at hys
  have := hys a.data.toList.length (by dsimp only; rw [DataW.weights]; exact List.mem_singleton.2 rfl)
  have e : a.data.toList.length = a.data.size := Array.length_toList
  rw [e] at this
  exact this
theorem reach_max : reachBytes ≤ maxLen := by decide
theorem reach_47 : reachBytes ≤ 140737488355328 := by decide
theorem leavesLo : leavesAt Tryd.prog 6 62 = [(0, 9), (1, 3)] := by kernel_rfl
theorem cellsLo : Tryd.prog.cellsOf 62 = 2 := by kernel_rfl
theorem listLo {cs : List Value} {c0 c1 : Value} (h : cs.length = 2) (h0 : cs[0]? = some c0) (h1 : cs[1]? = some c1) : cs = [c0, c1] := by
  match cs, h with
  | [x0, x1], _ => simp at h0 h1; rw [h0, h1]
theorem leavesBx : leavesAt Tryd.prog 6 59 = [(0, 9), (1, 3), (2, 57)] := by kernel_rfl
theorem cellsBx : Tryd.prog.cellsOf 59 = 3 := by kernel_rfl
theorem listBx {cs : List Value} {c0 c1 c2 : Value} (h : cs.length = 3) (h0 : cs[0]? = some c0) (h1 : cs[1]? = some c1) (h2 : cs[2]? = some c2) : cs = [c0, c1, c2] := by
  match cs, h with
  | [x0, x1, x2], _ => simp at h0 h1 h2; rw [h0, h1, h2]
theorem leavesPt : leavesAt Tryd.prog 6 47 = [(0, 9), (1, 9), (2, 3)] := by kernel_rfl
theorem cellsPt : Tryd.prog.cellsOf 47 = 3 := by kernel_rfl
theorem listPt {cs : List Value} {c0 c1 c2 : Value} (h : cs.length = 3) (h0 : cs[0]? = some c0) (h1 : cs[1]? = some c1) (h2 : cs[2]? = some c2) : cs = [c0, c1, c2] := by
  match cs, h with
  | [x0, x1, x2], _ => simp at h0 h1 h2; rw [h0, h1, h2]
theorem leavesDl : leavesAt Tryd.prog 6 50 = [(0, 9), (1, 9), (2, 9), (3, 9), (4, 9), (5, 9), (6, 9), (7, 9), (8, 9), (9, 9), (10, 2), (11, 48), (12, 3), (13, 3), (14, 3), (15, 3), (16, 3)] := by kernel_rfl
theorem cellsDl : Tryd.prog.cellsOf 50 = 17 := by kernel_rfl
theorem listDl {cs : List Value} {c0 c1 c2 c3 c4 c5 c6 c7 c8 c9 c10 c11 c12 c13 c14 c15 c16 : Value} (h : cs.length = 17) (h0 : cs[0]? = some c0) (h1 : cs[1]? = some c1) (h2 : cs[2]? = some c2) (h3 : cs[3]? = some c3) (h4 : cs[4]? = some c4) (h5 : cs[5]? = some c5) (h6 : cs[6]? = some c6) (h7 : cs[7]? = some c7) (h8 : cs[8]? = some c8) (h9 : cs[9]? = some c9) (h10 : cs[10]? = some c10) (h11 : cs[11]? = some c11) (h12 : cs[12]? = some c12) (h13 : cs[13]? = some c13) (h14 : cs[14]? = some c14) (h15 : cs[15]? = some c15) (h16 : cs[16]? = some c16) : cs = [c0, c1, c2, c3, c4, c5, c6, c7, c8, c9, c10, c11, c12, c13, c14, c15, c16] := by
  match cs, h with
  | [x0, x1, x2, x3, x4, x5, x6, x7, x8, x9, x10, x11, x12, x13, x14, x15, x16], _ => simp at h0 h1 h2 h3 h4 h5 h6 h7 h8 h9 h10 h11 h12 h13 h14 h15 h16; rw [h0, h1, h2, h3, h4, h5, h6, h7, h8, h9, h10, h11, h12, h13, h14, h15, h16]
theorem leavesLt : leavesAt Tryd.prog 6 41 = [(0, 9), (1, 9), (2, 3), (3, 3), (4, 3), (5, 9), (6, 9), (7, 9), (8, 3), (9, 3), (10, 9), (11, 2), (12, 38), (13, 39)] := by kernel_rfl
theorem cellsLt : Tryd.prog.cellsOf 41 = 14 := by kernel_rfl
theorem listLt {cs : List Value} {c0 c1 c2 c3 c4 c5 c6 c7 c8 c9 c10 c11 c12 c13 : Value} (h : cs.length = 14) (h0 : cs[0]? = some c0) (h1 : cs[1]? = some c1) (h2 : cs[2]? = some c2) (h3 : cs[3]? = some c3) (h4 : cs[4]? = some c4) (h5 : cs[5]? = some c5) (h6 : cs[6]? = some c6) (h7 : cs[7]? = some c7) (h8 : cs[8]? = some c8) (h9 : cs[9]? = some c9) (h10 : cs[10]? = some c10) (h11 : cs[11]? = some c11) (h12 : cs[12]? = some c12) (h13 : cs[13]? = some c13) : cs = [c0, c1, c2, c3, c4, c5, c6, c7, c8, c9, c10, c11, c12, c13] := by
  match cs, h with
  | [x0, x1, x2, x3, x4, x5, x6, x7, x8, x9, x10, x11, x12, x13], _ => simp at h0 h1 h2 h3 h4 h5 h6 h7 h8 h9 h10 h11 h12 h13; rw [h0, h1, h2, h3, h4, h5, h6, h7, h8, h9, h10, h11, h12, h13]
theorem open_lo (m : Nat) (cs : List Value) (x : DataW H × List MemPlace) (h : DataW.trod enc Tryd.prog W base spare held m 62 cs = some x) (hs : Small Tryd.prog 62 x.1) : ∃ a : kit.Lo, cs = loC a ∧ True := by
  obtain ⟨a0, e0, w0⟩ := leaf_string (o := 0) (u := 9) h 6 (by rw [leavesLo]; simp) Tryd.underlying9
  obtain ⟨a1, e1, w1⟩ := leaf_int (o := 1) (u := 3) (k := .i64) h 6 (by rw [leavesLo]; simp) Tryd.underlying3
  obtain ⟨_, _, _, _, hlen, _⟩ := DataW.trod_struct Tryd.underlying62 h
  exact ⟨(a0, a1), listLo (hlen.trans cellsLo) e0 e1, trivial⟩
theorem bytesLo : Tryd.prog.bytesOf 62 = 24 := by kernel_rfl
theorem bytesBx : Tryd.prog.bytesOf 59 = 48 := by kernel_rfl
theorem open_bx (m : Nat) (cs : List Value) (x : DataW H × List MemPlace) (h : DataW.trod enc Tryd.prog W base spare held m 59 cs = some x) (hs : Small Tryd.prog 59 x.1) : ∃ a : kit.Bx, cs = bxC a ∧ LotOK W a := by
  obtain ⟨a0, e0, w0⟩ := leaf_string (o := 0) (u := 9) h 6 (by rw [leavesBx]; simp) Tryd.underlying9
  obtain ⟨a1, e1, w1⟩ := leaf_int (o := 1) (u := 3) (k := .i64) h 6 (by rw [leavesBx]; simp) Tryd.underlying3
  obtain ⟨mm, y, en, ens⟩ := trod_leavesS 6 h hs (2, 57) (by rw [leavesBx]; simp)
  obtain ⟨A, l, c, xs, he, hl, hc, hsl, hw, hb⟩ := open_sliceS loC (fun _ => True) Tryd.underlying57 cellsLo (by omega) open_lo en ens
  rw [bytesLo] at hb
  obtain ⟨_, _, _, _, hlen, _⟩ := DataW.trod_struct Tryd.underlying59 h
  exact ⟨⟨a0, a1, A, l, c⟩, listBx (hlen.trans cellsBx) e0 e1 (one_at he), Nat.le_trans hb reach_47, xs, hsl⟩
def DxIn (W : World) (x : Dx) : Prop := BoxOK W x ∧ x.d.ok
theorem open_dl (m : Nat) (cs : List Value) (x : DataW H × List MemPlace) (h : DataW.trod enc Tryd.prog W base spare held m 50 cs = some x) (hs : Small Tryd.prog 50 x.1) : ∃ a : kit.Dx, cs = dxC a ∧ DxIn W a := by
  obtain ⟨a0, e0, w0⟩ := leaf_stringS (o := 0) (u := 9) h hs 6 (by rw [leavesDl]; simp) Tryd.underlying9
  obtain ⟨a1, e1, w1⟩ := leaf_string (o := 1) (u := 9) h 6 (by rw [leavesDl]; simp) Tryd.underlying9
  obtain ⟨a2, e2, w2⟩ := leaf_string (o := 2) (u := 9) h 6 (by rw [leavesDl]; simp) Tryd.underlying9
  obtain ⟨a3, e3, w3⟩ := leaf_string (o := 3) (u := 9) h 6 (by rw [leavesDl]; simp) Tryd.underlying9
  obtain ⟨a4, e4, w4⟩ := leaf_string (o := 4) (u := 9) h 6 (by rw [leavesDl]; simp) Tryd.underlying9
  obtain ⟨a5, e5, w5⟩ := leaf_string (o := 5) (u := 9) h 6 (by rw [leavesDl]; simp) Tryd.underlying9
  obtain ⟨a6, e6, w6⟩ := leaf_string (o := 6) (u := 9) h 6 (by rw [leavesDl]; simp) Tryd.underlying9
  obtain ⟨a7, e7, w7⟩ := leaf_string (o := 7) (u := 9) h 6 (by rw [leavesDl]; simp) Tryd.underlying9
  obtain ⟨a8, e8, w8⟩ := leaf_string (o := 8) (u := 9) h 6 (by rw [leavesDl]; simp) Tryd.underlying9
  obtain ⟨a9, e9, w9⟩ := leaf_string (o := 9) (u := 9) h 6 (by rw [leavesDl]; simp) Tryd.underlying9
  obtain ⟨a10, e10, w10⟩ := leaf_int (o := 10) (u := 2) (k := .i64) h 6 (by rw [leavesDl]; simp) Tryd.underlying2
  obtain ⟨mm, y, en, ens⟩ := trod_leavesS 6 h hs (11, 48) (by rw [leavesDl]; simp)
  obtain ⟨A, l, c, xs, he, hl, hc, hsl, hw, hb⟩ := open_sliceS bxC (LotOK W) Tryd.underlying48 cellsBx (by omega) open_bx en ens
  rw [bytesBx] at hb
  obtain ⟨a12, e12, w12⟩ := leaf_int (o := 12) (u := 3) (k := .i64) h 6 (by rw [leavesDl]; simp) Tryd.underlying3
  obtain ⟨a13, e13, w13⟩ := leaf_int (o := 13) (u := 3) (k := .i64) h 6 (by rw [leavesDl]; simp) Tryd.underlying3
  obtain ⟨a14, e14, w14⟩ := leaf_int (o := 14) (u := 3) (k := .i64) h 6 (by rw [leavesDl]; simp) Tryd.underlying3
  obtain ⟨a15, e15, w15⟩ := leaf_int (o := 15) (u := 3) (k := .i64) h 6 (by rw [leavesDl]; simp) Tryd.underlying3
  obtain ⟨a16, e16, w16⟩ := leaf_int (o := 16) (u := 3) (k := .i64) h 6 (by rw [leavesDl]; simp) Tryd.underlying3
  obtain ⟨_, _, _, _, hlen, _⟩ := DataW.trod_struct Tryd.underlying50 h
  exact ⟨⟨⟨a0, a1, a2, a3, a4, a5, a6, a7, a8, a9, a10, a12, a13, a14, a15, a16⟩, A, l, c⟩, listDl (hlen.trans cellsDl) e0 e1 e2 e3 e4 e5 e6 e7 e8 e9 e10 (one_at he) e12 e13 e14 e15 e16, ⟨Nat.le_trans hb reach_47, xs, hsl, hw⟩, ⟨Nat.le_trans w0 reach_47, w9, i64_of_wf w10, i64_of_wf w16⟩⟩
theorem open_pt (m : Nat) (cs : List Value) (x : DataW H × List MemPlace) (h : DataW.trod enc Tryd.prog W base spare held m 47 cs = some x) (hs : Small Tryd.prog 47 x.1) : ∃ a : kit.Pty, cs = ptyC a ∧ True := by
  obtain ⟨a0, e0, w0⟩ := leaf_string (o := 0) (u := 9) h 6 (by rw [leavesPt]; simp) Tryd.underlying9
  obtain ⟨a1, e1, w1⟩ := leaf_string (o := 1) (u := 9) h 6 (by rw [leavesPt]; simp) Tryd.underlying9
  obtain ⟨a2, e2, w2⟩ := leaf_int (o := 2) (u := 3) (k := .i64) h 6 (by rw [leavesPt]; simp) Tryd.underlying3
  obtain ⟨_, _, _, _, hlen, _⟩ := DataW.trod_struct Tryd.underlying47 h
  exact ⟨⟨a0, a1, a2⟩, listPt (hlen.trans cellsPt) e0 e1 e2, trivial⟩
theorem any_slice {m : Nat} {t e : TypeId} {cs : List Value} {x : DataW H × List MemPlace} (ht : Tryd.prog.underlying t = some (.slice e)) (h : DataW.trod enc Tryd.prog W base spare held m t cs = some x) : ∃ A l c, cs = [.slice A l c] := by
  rcases Deep.open_slice ht h with ⟨rfl, _⟩ | ⟨a, len, cap, M, n, D, Pl, rfl, _⟩
  · exact ⟨none, 0, 0, rfl⟩
  · exact ⟨_, _, _, rfl⟩
theorem open_lt (m : Nat) (cs : List Value) (x : DataW H × List MemPlace) (h : DataW.trod enc Tryd.prog W base spare held m 41 cs = some x) (hs : Small Tryd.prog 41 x.1) : ∃ a : kit.Lt, cs = ltC a ∧ I64 a.amt := by
  obtain ⟨a0, e0, w0⟩ := leaf_string (o := 0) (u := 9) h 6 (by rw [leavesLt]; simp) Tryd.underlying9
  obtain ⟨a1, e1, w1⟩ := leaf_string (o := 1) (u := 9) h 6 (by rw [leavesLt]; simp) Tryd.underlying9
  obtain ⟨a2, e2, w2⟩ := leaf_int (o := 2) (u := 3) (k := .i64) h 6 (by rw [leavesLt]; simp) Tryd.underlying3
  obtain ⟨a3, e3, w3⟩ := leaf_int (o := 3) (u := 3) (k := .i64) h 6 (by rw [leavesLt]; simp) Tryd.underlying3
  obtain ⟨a4, e4, w4⟩ := leaf_int (o := 4) (u := 3) (k := .i64) h 6 (by rw [leavesLt]; simp) Tryd.underlying3
  obtain ⟨a5, e5, w5⟩ := leaf_string (o := 5) (u := 9) h 6 (by rw [leavesLt]; simp) Tryd.underlying9
  obtain ⟨a6, e6, w6⟩ := leaf_string (o := 6) (u := 9) h 6 (by rw [leavesLt]; simp) Tryd.underlying9
  obtain ⟨a7, e7, w7⟩ := leaf_string (o := 7) (u := 9) h 6 (by rw [leavesLt]; simp) Tryd.underlying9
  obtain ⟨a8, e8, w8⟩ := leaf_int (o := 8) (u := 3) (k := .i64) h 6 (by rw [leavesLt]; simp) Tryd.underlying3
  obtain ⟨a9, e9, w9⟩ := leaf_int (o := 9) (u := 3) (k := .i64) h 6 (by rw [leavesLt]; simp) Tryd.underlying3
  obtain ⟨a10, e10, w10⟩ := leaf_string (o := 10) (u := 9) h 6 (by rw [leavesLt]; simp) Tryd.underlying9
  obtain ⟨a11, e11, w11⟩ := leaf_int (o := 11) (u := 2) (k := .i64) h 6 (by rw [leavesLt]; simp) Tryd.underlying2
  obtain ⟨m1, y1, en1, _⟩ := trod_leavesS 6 h hs (12, 38) (by rw [leavesLt]; simp)
  obtain ⟨A1, n1, c1, he1⟩ := any_slice Tryd.underlying38 en1
  obtain ⟨m2, y2, en2, _⟩ := trod_leavesS 6 h hs (13, 39) (by rw [leavesLt]; simp)
  obtain ⟨A2, n2, c2, he2⟩ := any_slice Tryd.underlying39 en2
  obtain ⟨_, _, _, _, hlen, _⟩ := DataW.trod_struct Tryd.underlying41 h
  exact ⟨⟨a0, a1, a2, a3, a4, a5, a6, a7, a8, a9, a10, a11, A1, n1, c1, A2, n2, c2⟩, listLt (hlen.trans cellsLt) e0 e1 e2 e3 e4 e5 e6 e7 e8 e9 e10 e11 (one_at he1) (one_at he2), i64_of_wf w11⟩
end
end Go.Proofs.YtdanjegnhdpnlaaDoor
