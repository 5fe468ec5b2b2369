/- The document's new bill; the same texts; a bill's state and holder; what a deed is. No condition. -/
import Derived.Test.YteannbphaodadaaDgC
import Derived.Test.YteannbphaodadaaDfB
namespace Go.Proofs.Yteannbphaodadaa.kit
open Go.RowKit Go.PlainAid Go.Maps
set_option linter.unusedVariables false

/-- A deed. -/
structure De where
  call : Int
  by_ : ByteArray
  to_ : ByteArray
  day : Int
structure De.ok (x : De) : Prop where
  b : x.by_.size ≤ maxLen
  t : x.to_.size ≤ maxLen
def deC (x : De) : List Value := [.int .i64 x.call, .string x.by_, .string x.to_, .int .i64 x.day]
/-- A bool. -/
def IsB (e : Ending) : Prop := ∃ v : Bool, e = .returned (.bool v)
/-- A bool; if false no more than so many. -/
def HvyP (n most : Nat) (e : Ending) : Prop := ∃ v : Bool, e = .returned (.bool v) ∧ (v = false → n ≤ most)
def codeD (b : Bl) (x : De) : Int := if 0 ≤ x.call ∧ x.call ≤ 3 then codeV b x.call x.by_ x.to_ x.day else -1
def nextD (b : Bl) (x : De) : Bl := if 0 ≤ x.call ∧ x.call ≤ 3 then nextV b x.call x.by_ x.to_ x.day else b
theorem build_rf (d : Dr) (w : World) : (Instr.build 56 #[(0, .agg #[.string d.num, .string d.drw, .string d.dre, .string d.pay, .string d.cur, .int .i64 d.amt, .int .i64 d.kind, .int .i64 d.days, .int .i64 d.fr]), (3, .string d.pay), (5, .int .i64 d.fr)]).run Try.prog w = .ok (.agg #[.string (newV d).d.num, .string (newV d).d.drw, .string (newV d).d.dre, .string (newV d).d.pay, .string (newV d).d.cur, .int .i64 (newV d).d.amt, .int .i64 (newV d).d.kind, .int .i64 (newV d).d.days, .int .i64 (newV d).d.fr, .int .i64 (newV d).st, .bool (newV d).acc, .string (newV d).hol, .slice none 0 0, .int .i64 (newV d).last]) w := run_build w _ _ _ (by kernel_rfl)
set_option maxRecDepth 100000 in
set_option maxHeartbeats 3200000 in
theorem rnew_any (d : Dr) (w : World) (hd : d.ok) : Calls Try.prog 23 #[.agg #[.string d.num, .string d.drw, .string d.dre, .string d.pay, .string d.cur, .int .i64 d.amt, .int .i64 d.kind, .int .i64 d.days, .int .i64 d.fr]] w fun e w' => ∃ g, e = .returned ((.pointer (some ⟨g, 0, none⟩))) ∧ IsRef w' g none 0 0 (newV d) ∧ w.heap.size ≤ g ∧ Below w.heap.size w w' := by
  have HD := Lib.hid hd
  have hbl := build_rf d
  clear hd
  have hB0 : Below w.heap.size w (w.alloc (.cells #[.string d.num, .string d.drw, .string d.dre, .string d.pay, .string d.cur, .int .i64 d.amt, .int .i64 d.kind, .int .i64 d.days, .int .i64 d.fr] 25)) := (Below.refl _ _).alloc (Nat.le_refl _) _
  have hk0 : Blk (w.alloc (.cells #[.string d.num, .string d.drw, .string d.dre, .string d.pay, .string d.cur, .int .i64 d.amt, .int .i64 d.kind, .int .i64 d.days, .int .i64 d.fr] 25)) w.heap.size 25 #[.string d.num, .string d.drw, .string d.dre, .string d.pay, .string d.cur, .int .i64 d.amt, .int .i64 d.kind, .int .i64 d.days, .int .i64 d.fr] := Blk.new _ _ _
  have a0 := hk0.cell 0; have a1 := hk0.cell 1; have a2 := hk0.cell 2; have a3 := hk0.cell 3; have a4 := hk0.cell 4; have a5 := hk0.cell 5; have a6 := hk0.cell 6; have a7 := hk0.cell 7; have a8 := hk0.cell 8; simp only [List.getElem?_toArray, List.getElem?_cons_zero, List.getElem?_cons_succ] at a0 a1 a2 a3 a4 a5 a6 a7 a8
  go_enter Try.func23, Try.ntmps23
  go_wp2_with fail
  go_ret
  have hsz : (w.alloc (.cells #[.string d.num, .string d.drw, .string d.dre, .string d.pay, .string d.cur, .int .i64 d.amt, .int .i64 d.kind, .int .i64 d.days, .int .i64 d.fr] 25)).heap.size = w.heap.size + 1 := size_alloc _ _
  refine ⟨_, rfl, ⟨Blk.new_at _ 56 #[.string (newV d).d.num, .string (newV d).d.drw, .string (newV d).d.dre, .string (newV d).d.pay, .string (newV d).d.cur, .int .i64 (newV d).d.amt, .int .i64 (newV d).d.kind, .int .i64 (newV d).d.days, .int .i64 (newV d).d.fr, .int .i64 (newV d).st, .bool (newV d).acc, .string (newV d).hol, .slice none 0 0, .int .i64 (newV d).last] _ (by simp), SliceOf.none_, Nat.le_refl _, by unfold maxLen; omega, (fun x off e => by cases e), HD.out, HD.out.p, fun s hs => (by cases hs), by show (0 : Nat) ≤ 1000; omega, by show (0 : Int) ≤ 0; omega⟩, ?_, hB0.alloc hB0.size _⟩
  omega
set_option maxRecDepth 100000 in
set_option maxHeartbeats 1600000 in
theorem texts_any (A : Option Addr) (n c : Nat) (xs : List ByteArray) (A2 : Option Addr) (n2 c2 : Nat) (ys : List ByteArray) (w : World)
    (h1 : SliceOf w 1 strC A n xs) (h2 : SliceOf w 1 strC A2 n2 ys) (m1 : n ≤ maxLen) (m2 : n2 ≤ maxLen) :
    Calls Try.prog 18 #[.slice A n c, .slice A2 n2 c2] w fun e w' => e = .returned (.bool (decide (xs = ys))) ∧ Below w.heap.size w w' := by
  have H1 := Lib.hid h1
  have H2 := Lib.hid h2
  have l1 := h1.len
  have l2 := h2.len
  unfold maxLen at m1 m2
  clear h1 h2
  by_cases hn : n = n2
  rotate_left
  · have e0 : Hid (false = decide (xs = ys)) := Lib.hid (by rw [decide_eq_false]; rintro rfl; omega)
    have d0 : ((n : Int) != (n2 : Int)) = true := by simp; omega
    have d0n : (n != n2) = true := by simpa using hn
    clear hn
    go_enter Try.func18, Try.ntmps18
    go_wp2_with fail
    go_ret
    exact ⟨ret_bool e0.out, Below.refl _ _⟩
  subst hn
  go_enter Try.func18, Try.ntmps18
  go_wp2_with fail
  go_loopw [5] (fun i wr => ∃ k q : Nat, k ≤ n ∧ i = .int .i64 k ∧ wr = w.drewN q ∧ Hid (xs.take k = ys.take k)) (fun i _ => n - (intOf i).toNat)
  case atStart => exact ⟨0, 0, by omega, rfl, rfl, Lib.hid rfl⟩
  case round =>
    obtain ⟨k, q, hk, rfl, rfl, ht⟩ := hrel
    by_cases hlt : k < n
    · obtain ⟨b, off, x, rfl, hx, c0⟩ := get_str H1.out hlt
      obtain ⟨b', off', y, rfl, hy, c1⟩ := get_str H2.out hlt
      have HX := Lib.hid hx
      have HY := Lib.hid hy
      clear hx hy
      have q1 := eq_str x y
      by_cases hxy : x = y
      · have d1 : (x.toList == y.toList) = true := by rw [q1]; exact decide_eq_true hxy
        have d2 : (x.toList != y.toList) = false := by rw [bne, q1, decide_eq_true hxy]; rfl
        have HT : Hid (xs.take (k + 1) = ys.take (k + 1)) := Lib.hid (by rw [takeS HX.out, takeS HY.out, ht.out, hxy])
        clear q1 hxy
        go_wp2_with fail
        go_quiet (fail)
        go_wp2_with fail
        go_round
        case rel => exact ⟨k + 1, q + nq, by omega, by go_num, by simp [World.drewN], HT⟩
        case measure => simp [intOf]; omega
      · have d1 : (x.toList == y.toList) = false := by rw [q1]; exact decide_eq_false hxy
        have d2 : (x.toList != y.toList) = true := by rw [bne, q1, decide_eq_false hxy]; rfl
        have e0 : Hid (false = decide (xs = ys)) := Lib.hid (by
          rw [decide_eq_false]
          rintro rfl
          exact hxy (Option.some.inj (HX.out.symm.trans HY.out)))
        clear q1 hxy
        go_wp2_with fail
        go_quiet (fail)
        go_wp2_with fail
        go_ret
        exact ⟨ret_bool e0.out, below_drewN (below_drewN (Below.refl _ _) _) _⟩
    · have e0 : Hid (true = decide (xs = ys)) := Lib.hid (by
        have h := ht.out
        rw [List.take_of_length_le (by omega), List.take_of_length_le (by omega)] at h
        rw [decide_eq_true h])
      go_wp2_with fail
      go_ret
      exact ⟨ret_bool e0.out, below_drewN (Below.refl _ _) _⟩
theorem state_any (g mb : Nat) (b : Bl) (w : World) (hb : IsBill w g mb b) : Calls Try.prog 21 #[(.pointer (some ⟨g, 0, none⟩))] w fun e w' => e = .returned (.int .i64 b.st) ∧ w = w' := by
  have z9 : w.cell? ⟨g, 9, none⟩ = some (.int .i64 b.st) := hb.blk.cell 9
  clear hb
  go_enter Try.func21, Try.ntmps21
  go_wp2_with fail
  go_ret
  exact ⟨rfl, rfl⟩
theorem holder_any (g mb : Nat) (b : Bl) (w : World) (hb : IsBill w g mb b) : Calls Try.prog 17 #[(.pointer (some ⟨g, 0, none⟩))] w fun e w' => e = .returned (.string b.hol) ∧ w = w' := by
  have z11 : w.cell? ⟨g, 11, none⟩ = some (.string b.hol) := hb.blk.cell 11
  clear hb
  go_enter Try.func17, Try.ntmps17
  go_wp2_with fail
  go_ret
  exact ⟨rfl, rfl⟩
set_option maxRecDepth 100000 in
set_option maxHeartbeats 1600000 in
theorem long_any (d : Dr) (w : World) (hd : d.ok) : Calls Try.prog 10 #[.agg #[.string d.num, .string d.drw, .string d.dre, .string d.pay, .string d.cur, .int .i64 d.amt, .int .i64 d.kind, .int .i64 d.days, .int .i64 d.fr]] w fun e w' => IsB e ∧ Below w.heap.size w w' := by
  have z1 := hd.n; have z2 := hd.w; have z3 := hd.e; have z4 := hd.p; have z5 := hd.c
  unfold maxLen at z1 z2 z3 z4 z5
  clear hd
  have hB0 : Below w.heap.size w (w.alloc (.cells #[.string d.num, .string d.drw, .string d.dre, .string d.pay, .string d.cur, .int .i64 d.amt, .int .i64 d.kind, .int .i64 d.days, .int .i64 d.fr] 25)) := (Below.refl _ _).alloc (Nat.le_refl _) _
  have hk0 : Blk (w.alloc (.cells #[.string d.num, .string d.drw, .string d.dre, .string d.pay, .string d.cur, .int .i64 d.amt, .int .i64 d.kind, .int .i64 d.days, .int .i64 d.fr] 25)) w.heap.size 25 #[.string d.num, .string d.drw, .string d.dre, .string d.pay, .string d.cur, .int .i64 d.amt, .int .i64 d.kind, .int .i64 d.days, .int .i64 d.fr] := Blk.new _ _ _
  have a0 := hk0.cell 0; have a1 := hk0.cell 1; have a2 := hk0.cell 2; have a3 := hk0.cell 3; have a4 := hk0.cell 4; have a5 := hk0.cell 5; have a6 := hk0.cell 6; have a7 := hk0.cell 7; have a8 := hk0.cell 8; simp only [List.getElem?_toArray, List.getElem?_cons_zero, List.getElem?_cons_succ] at a0 a1 a2 a3 a4 a5 a6 a7 a8
  by_cases h1 : 100 < d.num.size
  · go_enter Try.func10, Try.ntmps10
    go_wp2_with fail
    go_ret
    exact ⟨⟨_, rfl⟩, hB0⟩
  by_cases h2 : 100 < d.drw.size
  · go_enter Try.func10, Try.ntmps10
    go_wp2_with fail
    go_ret
    exact ⟨⟨_, rfl⟩, hB0⟩
  by_cases h3 : 100 < d.dre.size
  · go_enter Try.func10, Try.ntmps10
    go_wp2_with fail
    go_ret
    exact ⟨⟨_, rfl⟩, hB0⟩
  by_cases h4 : 100 < d.pay.size
  · go_enter Try.func10, Try.ntmps10
    go_wp2_with fail
    go_ret
    exact ⟨⟨_, rfl⟩, hB0⟩
  by_cases h5 : 100 < d.cur.size
  · go_enter Try.func10, Try.ntmps10
    go_wp2_with fail
    go_ret
    exact ⟨⟨_, rfl⟩, hB0⟩
  go_enter Try.func10, Try.ntmps10
  go_wp2_with fail
  go_ret
  exact ⟨⟨_, rfl⟩, hB0⟩
theorem get_de {w : World} {A : Option Addr} {n : Nat} {xs : List De} (h : SliceOf w 4 deC A n xs) {k : Nat} (hk : k < n) : ∃ b off x, A = some ⟨b, off, none⟩ ∧ xs[k]? = some x ∧ w.cell? ⟨b, off + k * 4, none⟩ = some (.int .i64 x.call) ∧ w.cell? ⟨b, off + k * 4 + 1, none⟩ = some (.string x.by_) ∧ w.cell? ⟨b, off + k * 4 + 2, none⟩ = some (.string x.to_) ∧ w.cell? ⟨b, off + k * 4 + 3, none⟩ = some (.int .i64 x.day) := by
  have hl := h.len
  obtain ⟨x, hxk⟩ : ∃ x, xs[k]? = some x := ⟨_, List.getElem?_eq_getElem (by omega)⟩
  obtain ⟨b, off, rfl, hb, hc⟩ := h.at_ (by omega)
  exact ⟨b, off, x, rfl, hxk, by simpa using hc k _ hxk 0 _ rfl, by have := hc k _ hxk 1 _ rfl; rwa [← Nat.add_assoc] at this, by have := hc k _ hxk 2 _ rfl; rwa [← Nat.add_assoc] at this, by have := hc k _ hxk 3 _ rfl; rwa [← Nat.add_assoc] at this⟩
set_option maxRecDepth 100000 in
set_option maxHeartbeats 1600000 in
theorem heavy_any (A : Option Addr) (n c : Nat) (xs : List De) (most : Nat) (w : World) (h : SliceOf w 4 deC A n xs) (hw : ∀ x ∈ xs, x.ok) (m1 : n ≤ maxLen) (m2 : most ≤ 100) :
    Calls Try.prog 22 #[.slice A n c, .int .i64 most] w fun e w' => HvyP n most e ∧ w = w' := by
  have H := Lib.hid h
  have HW := Lib.hid hw
  have hl := h.len
  unfold maxLen at m1
  clear h hw
  by_cases hn : most < n
  · go_enter Try.func22, Try.ntmps22
    go_wp2_with fail
    go_ret
    exact ⟨⟨_, rfl, (fun h => by cases h)⟩, rfl⟩
  have hn' : n ≤ most := by omega
  go_enter Try.func22, Try.ntmps22
  go_wp2_with fail
  go_loop [5] (fun i => ∃ k : Nat, k ≤ n ∧ i = .int .i64 k) (fun i => n - (intOf i).toNat)
  case atStart => exact ⟨0, by omega, rfl⟩
  case round =>
    obtain ⟨k, hk, rfl⟩ := hrel
    by_cases hlt : k < n
    · obtain ⟨b, off, x, rfl, hx, c0, c1, c2, c3⟩ := get_de H.out hlt
      have hx2 := HW.out x (List.mem_of_getElem? hx)
      have y1 := hx2.b
      have y2 := hx2.t
      unfold maxLen at y1 y2
      clear hx hx2
      by_cases g1 : 100 < x.by_.size
      · go_wp2_with fail
        go_ret
        exact ⟨⟨_, rfl, fun _ => hn'⟩, rfl⟩
      by_cases g2 : 100 < x.to_.size
      · go_wp2_with fail
        go_ret
        exact ⟨⟨_, rfl, fun _ => hn'⟩, rfl⟩
      go_wp2_with fail
      go_round
      case rel => exact ⟨k + 1, by omega, by go_num⟩
      case measure => simp [intOf]; omega
    · go_wp2_with fail
      go_ret
      exact ⟨⟨_, rfl, fun _ => hn'⟩, rfl⟩
end Go.Proofs.Yteannbphaodadaa.kit
