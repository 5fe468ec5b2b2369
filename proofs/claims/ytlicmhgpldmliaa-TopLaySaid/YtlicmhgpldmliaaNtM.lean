/- Debts that may be: the program. No condition. -/
import Derived.Test.YtlicmhgpldmliaaCur
import Derived.Test.YtlicmhgpldmliaaNameA
import Derived.Test.YtlicmhgpldmliaaMore
import Derived.Test.YtlicmhgpldmliaaStep
namespace Go.Proofs.Ytlicmhgpldmliaa.kit
open Go.RowKit Go.PlainAid
set_option linter.unusedVariables false
abbrev Db := ByteArray × ByteArray × ByteArray × Int
def dbC (x : Db) : List Value := [.string x.1, .string x.2.1, .string x.2.2.1, .int .i64 x.2.2.2]
structure DbOk (x : Db) : Prop where
  f : nameB x.1.data.toList = true
  t : nameB x.2.1.data.toList = true
  ne : x.1 ≠ x.2.1
  m : mayM x.2.2.1 x.2.2.2 = true
  p : 1 ≤ x.2.2.2
theorem mayM_size {s : ByteArray} {n : Int} (h : mayM s n = true) : s.size ≤ maxLen := by
  unfold mayM curB at h
  simp only [Bool.and_eq_true, decide_eq_true_eq] at h
  have := h.1.1
  unfold maxLen; omega
theorem name_size {s : ByteArray} (h : nameB s.data.toList = true) : s.size ≤ maxLen := by
  unfold nameB at h
  rw [Bool.and_eq_true, decide_eq_true_eq, len_list] at h
  have := h.1.2
  unfold maxLen; omega
set_option maxHeartbeats 1600000 in
theorem dmay_ok (x : Db) (h : DbOk x) (w : World) : Calls Try.prog 91 #[.agg #[.string x.1, .string x.2.1, .string x.2.2.1, .int .i64 x.2.2.2]] w fun e w' => e = .returned (.bool true) ∧ Below w.heap.size w w' := by
  obtain ⟨f, t, c, n⟩ := x
  obtain ⟨h1, h2, h3, h4, h5⟩ := h
  dsimp only at h1 h2 h3 h4 h5 ⊢
  have HF := Lib.hid (fun W => name_any f W (name_size h1))
  have HT := Lib.hid (fun W => name_any t W (name_size h2))
  have HM := Lib.hid (fun W => money_any c n W (mayM_size h4))
  rw [h1] at HF
  rw [h2] at HT
  rw [h4] at HM
  have hB0 : Below w.heap.size w (w.alloc (.cells #[.string f, .string t, .string c, .int .i64 n] 118)) := one_alloc _ _
  have hk0 : Blk (w.alloc (.cells #[.string f, .string t, .string c, .int .i64 n] 118)) w.heap.size 118 #[.string f, .string t, .string c, .int .i64 n] := Blk.new _ _ _
  have a0 := hk0.cell 0; have a1 := hk0.cell 1; have a2 := hk0.cell 2; have a3 := hk0.cell 3
  simp only [List.getElem?_toArray, List.getElem?_cons_zero, List.getElem?_cons_succ] at a0 a1 a2 a3
  have t0 : (f.toList == t.toList) = false := by rw [eq_str]; exact decide_eq_false h3
  have t1 : (f.toList != t.toList) = true := by rw [bne, t0]; rfl
  have d1 : decide ((1 : Int) ≤ n) = true := decide_eq_true h5
  clear h1 h2 h3 h4 h5
  go_enter Try.func91, Try.ntmps91
  go_wp2_with fail
  refine (HF.out _).mono ?_
  rintro e w' ⟨rfl, rfl⟩
  go_wp2_with fail
  refine (HT.out _).mono ?_
  rintro e w' ⟨rfl, rfl⟩
  go_wp2_with fail
  refine (HM.out _).mono ?_
  rintro e w1 ⟨rfl, hb1⟩
  have HB1 := Lib.hid (hB0.trans (hb1.mono hB0.size))
  go_wp2_with fail
  go_ret
  exact ⟨rfl, HB1.out⟩
theorem dno_ok (x : Db) (h : DbOk x) (w : World) : Calls Try.prog 90 #[.agg #[.string x.1, .string x.2.1, .string x.2.2.1, .int .i64 x.2.2.2]] w fun e w' => e = .returned (.bool false) ∧ Below w.heap.size w w' := by
  have HC := Lib.hid (fun W => dmay_ok x h W)
  clear h
  have hB0 : Below w.heap.size w (w.alloc (.cells #[.string x.1, .string x.2.1, .string x.2.2.1, .int .i64 x.2.2.2] 118)) := one_alloc _ _
  have hk0 : Blk (w.alloc (.cells #[.string x.1, .string x.2.1, .string x.2.2.1, .int .i64 x.2.2.2] 118)) w.heap.size 118 #[.string x.1, .string x.2.1, .string x.2.2.1, .int .i64 x.2.2.2] := Blk.new _ _ _
  have a0 := hk0.cell 0; have a1 := hk0.cell 1; have a2 := hk0.cell 2; have a3 := hk0.cell 3
  simp only [List.getElem?_toArray, List.getElem?_cons_zero, List.getElem?_cons_succ] at a0 a1 a2 a3
  go_enter Try.func90, Try.ntmps90
  go_wp2_with fail
  refine (HC.out _).mono ?_
  rintro e w1 ⟨rfl, hb1⟩
  have HB1 := Lib.hid (hB0.trans (hb1.mono hB0.size))
  go_wp2_with fail
  go_ret
  exact ⟨rfl, HB1.out⟩
theorem get_db {w : World} {A : Option Addr} {n : Nat} {xs : List Db} (h : SliceOf w 4 dbC A n xs) {k : Nat} (hk : k < n) : ∃ b off x, A = some ⟨b, off, none⟩ ∧ xs[k]? = some x ∧ w.cell? ⟨b, off + k * 4, none⟩ = some (.string x.1) ∧ w.cell? ⟨b, off + k * 4 + 1, none⟩ = some (.string x.2.1) ∧ w.cell? ⟨b, off + k * 4 + 2, none⟩ = some (.string x.2.2.1) ∧ w.cell? ⟨b, off + k * 4 + 3, none⟩ = some (.int .i64 x.2.2.2) := by
  have hl := h.len
  obtain ⟨x, hxk⟩ : ∃ x, xs[k]? = some x := ⟨_, List.getElem?_eq_getElem (by omega)⟩
  obtain ⟨b, off, rfl, hb, hc⟩ := h.at_ (by omega)
  exact ⟨b, off, x, rfl, hxk, by simpa using hc k _ hxk 0 _ rfl, by have := hc k _ hxk 1 _ rfl; rwa [← Nat.add_assoc] at this, by have := hc k _ hxk 2 _ rfl; rwa [← Nat.add_assoc] at this, by have := hc k _ hxk 3 _ rfl; rwa [← Nat.add_assoc] at this⟩
set_option maxHeartbeats 1600000 in
theorem index_no (A : Option Addr) (n c : Nat) (xs : List Db) (w : World) (hx : SliceOf w 4 dbC A n xs) (hm : n ≤ 4096) (ho : ∀ x ∈ xs, DbOk x) :
    Calls Try.prog 96 #[.slice A n c, .func (.func 90) #[] #[]] w fun e w' => e = .returned (.int .i64 (-1)) ∧ Below w.heap.size w w' := by
  have H := Lib.hid hx
  have HO := Lib.hid ho
  clear hx ho
  go_enter Try.func96, Try.ntmps96
  go_wp2_with fail
  go_loopw [8] (fun i wr => ∃ k : Nat, k ≤ n ∧ i = .int .i64 k ∧ Hid (Below w.heap.size w wr)) (fun i _ => n - (intOf i).toNat)
  case atStart => exact ⟨0, by omega, rfl, Lib.hid (Below.refl _ _)⟩
  case round =>
    obtain ⟨k, hk, rfl, hbw⟩ := hrel
    by_cases hlt : k < n
    · obtain ⟨b, off, x, rfl, hxk, a0, a1, a2, a3⟩ := get_db (H.out.below hbw.out) hlt
      have HC := Lib.hid (dno_ok x (HO.out x (List.mem_of_getElem? hxk)) wr)
      have i0 : (k : Int) < (n : Int) := by omega
      clear hxk
      go_wp2_with fail
      refine HC.out.mono ?_
      rintro e w1 ⟨rfl, hb1⟩
      have HB1 := Lib.hid (hbw.out.trans (hb1.mono hbw.out.size))
      go_wp2_with fail
      exact ⟨⟨k + 1, by omega, by go_num, HB1⟩, by simp [intOf]; omega⟩
    · have i0 : ¬ ((k : Int) < (n : Int)) := by omega
      go_wp2_with fail
      go_ret
      exact ⟨rfl, hbw.out⟩
theorem mayAll_ok (A : Option Addr) (n c : Nat) (xs : List Db) (w : World) (hx : SliceOf w 4 dbC A n xs) (hm : n ≤ 4096) (ho : ∀ x ∈ xs, DbOk x) :
    Calls Try.prog 79 #[.slice A n c] w fun e w' => e = .returned (.bool true) ∧ Below w.heap.size w w' := by
  have HC := Lib.hid (index_no A n c xs w hx hm ho)
  have hc : Hid (Calls Try.prog 89 #[.slice A n c, .func (.func 90) #[] #[]] w fun e w' => e = .returned (.bool false) ∧ Below w.heap.size w w') := Lib.hid (by
    go_enter Try.func89, Try.ntmps89
    go_wp2_with fail
    refine HC.out.mono ?_
    rintro e w1 ⟨rfl, hb1⟩
    go_wp2_with fail
    go_ret
    exact ⟨rfl, hb1⟩)
  have d1 : decide ((n : Int) ≤ 4096) = true := decide_eq_true (by omega)
  clear hx ho HC
  go_enter Try.func79, Try.ntmps79
  go_wp2_with fail
  refine hc.out.mono ?_
  rintro e w1 ⟨rfl, hb1⟩
  go_wp2_with fail
  go_ret
  exact ⟨rfl, hb1⟩
end Go.Proofs.Ytlicmhgpldmliaa.kit
