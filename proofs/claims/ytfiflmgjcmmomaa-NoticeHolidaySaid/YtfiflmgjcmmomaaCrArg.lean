/- A credit as an argument, opened. No condition. -/
import Derived.Test.YtfiflmgjcmmomaaLate
import Derived.Test.YtfiflmgjcmmomaaCalArg
namespace Go.Proofs.Ytfiflmgjcmmomaa
open Go.RowKit Go.Proofs.Ytfiflmgjcmmomaa.kit Go.Proofs.Ytfiflmgjcmmomaa.cal
open Go.ChangeShapes Go.WideShapes Go.ChangeAt
set_option linter.unusedVariables false
def crI (r : Cr) : Prop := I64 r.am ∧ I64 r.ab ∧ I64 r.be ∧ I64 r.la ∧ I64 r.ex ∧ I64 r.wi ∧ I64 r.te
theorem leavesCr : leavesAt Try.prog 6 42 = [(0, 9), (1, 9), (2, 9), (3, 9), (4, 9), (5, 9), (6, 9), (7, 9), (8, 2), (9, 3), (10, 3), (11, 3), (12, 3), (13, 3), (14, 3), (15, 4), (16, 4), (17, 40)] := by kernel_rfl
theorem cellsCr : Try.prog.cellsOf 42 = 18 := by kernel_rfl
theorem listCr {cs : List Value} {c0 c1 c2 c3 c4 c5 c6 c7 c8 c9 c10 c11 c12 c13 c14 c15 c16 c17 : Value} (h : cs.length = 18) (h0 : cs[0]? = some c0) (h1 : cs[1]? = some c1) (h2 : cs[2]? = some c2) (h3 : cs[3]? = some c3) (h4 : cs[4]? = some c4) (h5 : cs[5]? = some c5) (h6 : cs[6]? = some c6) (h7 : cs[7]? = some c7) (h8 : cs[8]? = some c8) (h9 : cs[9]? = some c9) (h10 : cs[10]? = some c10) (h11 : cs[11]? = some c11) (h12 : cs[12]? = some c12) (h13 : cs[13]? = some c13) (h14 : cs[14]? = some c14) (h15 : cs[15]? = some c15) (h16 : cs[16]? = some c16) (h17 : cs[17]? = some c17) : cs = [c0, c1, c2, c3, c4, c5, c6, c7, c8, c9, c10, c11, c12, c13, c14, c15, c16, c17] := by
  match cs, h with
  | [x0, x1, x2, x3, x4, x5, x6, x7, x8, x9, x10, x11, x12, x13, x14, x15, x16, x17], _ => simp at h0 h1 h2 h3 h4 h5 h6 h7 h8 h9 h10 h11 h12 h13 h14 h15 h16 h17; rw [h0, h1, h2, h3, h4, h5, h6, h7, h8, h9, h10, h11, h12, h13, h14, h15, h16, h17]
section
variable {H : Type} {enc : TypeId × Value → H} {W : World} {base : Nat} {spare : Nat → Bool} {held : Bool}
theorem open_cr (m : Nat) (cs : List Value) (x : DataW H × List MemPlace) (h : DataW.trod enc Try.prog W base spare held m 42 cs = some x) : ∃ r : Cr, cs = (#[.string r.s0, .string r.s1, .string r.s2, .string r.s3, .string r.s4, .string r.s5, .string r.s6, .string r.cur, .int .i64 r.am, .int .i64 r.ab, .int .i64 r.be, .int .i64 r.la, .int .i64 r.ex, .int .i64 r.wi, .int .i64 r.te, .bool r.pa, .bool r.ch, .slice r.nA r.nn r.nc] : Array Value).toList ∧ crI r := by
  obtain ⟨a0, e0, w0⟩ := leaf_string (o := 0) (u := 9) h 6 (by rw [leavesCr]; simp) Try.underlying9
  obtain ⟨a1, e1, w1⟩ := leaf_string (o := 1) (u := 9) h 6 (by rw [leavesCr]; simp) Try.underlying9
  obtain ⟨a2, e2, w2⟩ := leaf_string (o := 2) (u := 9) h 6 (by rw [leavesCr]; simp) Try.underlying9
  obtain ⟨a3, e3, w3⟩ := leaf_string (o := 3) (u := 9) h 6 (by rw [leavesCr]; simp) Try.underlying9
  obtain ⟨a4, e4, w4⟩ := leaf_string (o := 4) (u := 9) h 6 (by rw [leavesCr]; simp) Try.underlying9
  obtain ⟨a5, e5, w5⟩ := leaf_string (o := 5) (u := 9) h 6 (by rw [leavesCr]; simp) Try.underlying9
  obtain ⟨a6, e6, w6⟩ := leaf_string (o := 6) (u := 9) h 6 (by rw [leavesCr]; simp) Try.underlying9
  obtain ⟨a7, e7, w7⟩ := leaf_string (o := 7) (u := 9) h 6 (by rw [leavesCr]; simp) Try.underlying9
  obtain ⟨a8, e8, w8⟩ := leaf_int (o := 8) (u := 2) (k := .i64) h 6 (by rw [leavesCr]; simp) Try.underlying2
  obtain ⟨a9, e9, w9⟩ := leaf_int (o := 9) (u := 3) (k := .i64) h 6 (by rw [leavesCr]; simp) Try.underlying3
  obtain ⟨a10, e10, w10⟩ := leaf_int (o := 10) (u := 3) (k := .i64) h 6 (by rw [leavesCr]; simp) Try.underlying3
  obtain ⟨a11, e11, w11⟩ := leaf_int (o := 11) (u := 3) (k := .i64) h 6 (by rw [leavesCr]; simp) Try.underlying3
  obtain ⟨a12, e12, w12⟩ := leaf_int (o := 12) (u := 3) (k := .i64) h 6 (by rw [leavesCr]; simp) Try.underlying3
  obtain ⟨a13, e13, w13⟩ := leaf_int (o := 13) (u := 3) (k := .i64) h 6 (by rw [leavesCr]; simp) Try.underlying3
  obtain ⟨a14, e14, w14⟩ := leaf_int (o := 14) (u := 3) (k := .i64) h 6 (by rw [leavesCr]; simp) Try.underlying3
  obtain ⟨a15, e15⟩ := leaf_bool (o := 15) (u := 4) h 6 (by rw [leavesCr]; simp) Try.underlying4
  obtain ⟨a16, e16⟩ := leaf_bool (o := 16) (u := 4) h 6 (by rw [leavesCr]; simp) Try.underlying4
  obtain ⟨mm, y, en⟩ := leaf_any (o := 17) (u := 40) h 6 (by rw [leavesCr]; simp)
  obtain ⟨A, n, c, e17⟩ : ∃ A n c, cs[17]? = some (.slice A n c) := by
    rcases DataW.trod_slice Try.underlying40 en with ⟨h1, _⟩ | ⟨a, len, cap, _, _, _, _, h1, _⟩
    · exact ⟨_, _, _, one_at h1⟩
    · exact ⟨_, _, _, one_at h1⟩
  obtain ⟨_, _, _, _, hlen, _⟩ := DataW.trod_struct Try.underlying42 h
  exact ⟨⟨a0, a1, a2, a3, a4, a5, a6, a7, a8, a9, a10, a11, a12, a13, a14, a15, a16, A, n, c⟩, listCr (hlen.trans cellsCr) e0 e1 e2 e3 e4 e5 e6 e7 e8 e9 e10 e11 e12 e13 e14 e15 e16 e17, i64_of_wf w8, i64_of_wf w9, i64_of_wf w10, i64_of_wf w11, i64_of_wf w12, i64_of_wf w13, i64_of_wf w14⟩
theorem open_cr_arg {v : Value} {d : DataW H} {p : List MemPlace} (hv : Value.okWide Try.prog W .any base 42 v) (h : DataW.Trod enc Try.prog W 0 spare held 42 v d p) : ∃ r : Cr, v = .agg #[.string r.s0, .string r.s1, .string r.s2, .string r.s3, .string r.s4, .string r.s5, .string r.s6, .string r.cur, .int .i64 r.am, .int .i64 r.ab, .int .i64 r.be, .int .i64 r.la, .int .i64 r.ex, .int .i64 r.wi, .int .i64 r.te, .bool r.pa, .bool r.ch, .slice r.nA r.nn r.nc] ∧ crI r := by
  obtain ⟨cs, rfl, _⟩ := okWide_struct Try.underlying42 hv
  obtain ⟨m, hm⟩ := h
  obtain ⟨r, hr, wr⟩ := open_cr m _ _ hm
  refine ⟨r, ?_, wr⟩
  have : cs = #[.string r.s0, .string r.s1, .string r.s2, .string r.s3, .string r.s4, .string r.s5, .string r.s6, .string r.cur, .int .i64 r.am, .int .i64 r.ab, .int .i64 r.be, .int .i64 r.la, .int .i64 r.ex, .int .i64 r.wi, .int .i64 r.te, .bool r.pa, .bool r.ch, .slice r.nA r.nn r.nc] := by
    apply Array.toList_inj.1
    simpa [Value.cells] using hr
  rw [this]
end
end Go.Proofs.Ytfiflmgjcmmomaa
