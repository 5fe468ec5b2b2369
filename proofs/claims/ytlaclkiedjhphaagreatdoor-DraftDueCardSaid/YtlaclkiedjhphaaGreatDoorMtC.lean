/- A draft's text: the program. Condition: the table of powers of ten. -/
import Derived.Test.YtlaclkiedjhphaaGreatDoorMtB
import Derived.Test.YtlaclkiedjhphaaGreatDoorDgT
import Derived.Test.YtlaclkiedjhphaaGreatDoorDec
import Derived.Test.YtlaclkiedjhphaaGreatDoorTail
import Derived.Lib.Join
namespace Go.Proofs.YtlaclkiedjhphaaGreatDoor.kit
open Go.RowKit Go.PlainAid
set_option linter.unusedVariables false

def itS (n : Int) : ByteArray := bstr (Lib.itoa n)
theorem itoa_any (n : Int) (h : I64 n) (w : World) (ht : PowTab w) : Calls Tryz.prog 30 #[.int .i64 n] w fun e w' => e = .returned (.string (itS n)) ∧ Below w.heap.size w w' :=
  (Tryz.strconv_Itoa n h.1 h.2 w ht).mono fun e w' h => ⟨h.1, by obtain ⟨k, os, rfl⟩ := h.2; exact Lib.below_grow _ _ (Nat.le_refl _) _ _⟩
theorem itS_nat (n : Nat) : itS (n : Int) = bstr (Lib.decDigits n) := by unfold itS; rw [itoa_nat]
theorem itS_size {n : Int} (h0 : 0 ≤ n) (h1 : n ≤ 1048576) : (itS n).size ≤ 2000000 := by
  obtain ⟨m, rfl⟩ : ∃ m : Nat, n = m := ⟨n.toNat, by omega⟩
  rw [itS_nat, size_bstr]
  have := dec_le m
  omega
theorem rdig_int (n : Int) (h0 : 0 ≤ n) (h1 : n ≤ 1099511627776) (w : World) : Calls Tryz.prog 13 #[.int .i64 n] w fun e w' => e = .returned (.string (itS n)) ∧ Below w.heap.size w w' := by
  obtain ⟨m, rfl⟩ : ∃ m : Nat, n = m := ⟨n.toNat, by omega⟩
  rw [itS_nat]
  exact rdig_any m w (by omega)
def joinW (xs : List ByteArray) : ByteArray := bstr (Lib.join (xs.map (·.data.toList)) [32])
theorem join_len (M : Nat) : ∀ (xs : List (List UInt8)), (∀ x ∈ xs, x.length ≤ M) → (Lib.joinTail [32] xs).length ≤ xs.length * (M + 1)
  | [], _ => by simp [Lib.joinTail]
  | x :: xs, h => by
    have h1 := h x (List.mem_cons_self ..)
    have h2 := join_len M xs (fun y hy => h y (List.mem_cons_of_mem _ hy))
    unfold Lib.joinTail at h2 ⊢
    simp only [List.map_cons, List.flatten_cons, List.length_append, List.length_cons, List.length_nil] at h2 ⊢
    rw [Nat.succ_mul]
    omega
theorem joinW_any (b n c : Nat) (xs : List ByteArray) (w : World) (h : SliceOf w 1 strC (some ⟨b, 0, none⟩) n xs) (hn : n ≤ 100) (h0 : 0 < n) (hc : n ≤ c) (hs : ∀ x ∈ xs, x.size ≤ 2000000) :
    Calls Tryz.prog 29 #[.slice (some ⟨b, 0, none⟩) n c, .string ⟨#[32]⟩] w fun e w' => e = .returned (.string (joinW xs)) ∧ Below w.heap.size w w' := by
  have hl := h.len
  obtain ⟨b', off, e, hb, hcc⟩ := h.at_ h0
  injection e with e
  injection e with e1 e2
  subst e1 e2
  have hj : (Lib.join (xs.map (·.data.toList)) [32]).length ≤ 140737488355328 := by
    cases xs with
    | nil => simp [Lib.join_nil]
    | cons x xs =>
      rw [List.map_cons, Lib.join_cons, List.length_append]
      have h1 := hs x (List.mem_cons_self ..)
      rw [← len_list] at h1
      have h2 := join_len 2000000 (xs.map (·.data.toList)) (fun y hy => by
        obtain ⟨z, hz, rfl⟩ := List.mem_map.1 hy
        have := hs z (List.mem_cons_of_mem _ hz)
        rw [← len_list] at this
        exact this)
      rw [List.length_map] at h2
      simp only [List.length_cons] at hl
      have : xs.length * (2000000 + 1) ≤ 100 * (2000000 + 1) := Nat.mul_le_mul_right _ (by omega)
      omega
  have := Tryz.strings_Join b 0 c xs ⟨#[32]⟩ w (fun j x hx => by have := hcc j x hx 0 _ rfl; simpa using this) hb (by omega) (by omega) hj
  rw [hl] at this
  exact this
theorem join8 (a b c d e f g h : ByteArray) : joinW [a, b, c, d, e, f, g, h] = a ++ (⟨#[32]⟩ : ByteArray) ++ b ++ (⟨#[32]⟩ : ByteArray) ++ c ++ (⟨#[32]⟩ : ByteArray) ++ d ++ (⟨#[32]⟩ : ByteArray) ++ e ++ (⟨#[32]⟩ : ByteArray) ++ f ++ (⟨#[32]⟩ : ByteArray) ++ g ++ (⟨#[32]⟩ : ByteArray) ++ h := by
  apply list_inj
  unfold joinW
  rw [data_bstr]
  simp only [app_list, List.map_cons, List.map_nil, Lib.join_cons, Lib.joinTail, List.flatten_cons, List.flatten_nil, List.append_assoc, List.append_nil]
def kindS (k : Int) : ByteArray := if k = 1 then ⟨#[97, 102, 116, 101, 114, 45, 115, 105, 103, 104, 116]⟩ else if k = 2 then ⟨#[97, 102, 116, 101, 114, 45, 100, 97, 116, 101]⟩ else ⟨#[115, 105, 103, 104, 116]⟩
def dmon (d : Dr) : Mon := ⟨d.cur, d.amt⟩
def dtxV (d : Dr) : ByteArray := joinW [d.num, d.drw, d.dre, d.pay, textV (dmon d), kindS d.kind, itS d.days, itS d.fr]
structure DrB (d : Dr) : Prop where
  n : d.num.size ≤ 16
  w : d.drw.size ≤ 16
  e : d.dre.size ≤ 16
  p : d.pay.size ≤ 16
  m : (textV (dmon d)).size ≤ 30
  k : 0 ≤ d.kind ∧ d.kind ≤ 2
  f : 0 ≤ d.fr ∧ d.fr ≤ 1048576
  y : 0 ≤ d.days ∧ d.days ≤ 1000
theorem nmB_size {s : ByteArray} (h : nmB s = true) : s.size ≤ 16 := by
  unfold nmB nameB at h
  rw [Bool.and_eq_true, decide_eq_true_eq, len_list] at h
  exact h.1.2
theorem textV_size {m : Mon} (h : mayM m.cur m.amt = true) : (textV m).size ≤ 30 := by
  have hc := cur_size (mayM_iff.1 h).1
  have ha := (mayM_iff.1 h).2
  unfold textV
  rw [if_pos h, size_app, size_app, size_app, size_bstr]
  have h1 : (sgnS m.amt).size ≤ 1 := by unfold sgnS; split <;> decide
  have h2 : (⟨#[32]⟩ : ByteArray).size = 1 := rfl
  have h3 : (bodyL (digV m.cur) m.amt.natAbs).length ≤ 20 := by
    unfold bodyL
    have hd := digV_cases m.cur
    have hl := dec_len (m.amt.natAbs / 10 ^ digV m.cur) (Nat.le_trans (Nat.div_le_self _ _) (by omega))
    rw [List.length_append]
    split
    · simp; omega
    · rw [List.length_cons, digsW_len]; omega
  omega
theorem may_b {d : Dr} (h : mayD d = true) : DrB d := by
  have hh := h
  rw [mayD_eq] at hh
  simp only [Bool.and_eq_true] at hh
  obtain ⟨h1, h2, h3, h4, _, _, h7, _, h9, h10⟩ := hh
  have hk : (d.kind = 0 ∨ d.kind = 1 ∨ d.kind = 2) ∧ 0 ≤ d.days ∧ d.days ≤ 1000 := by
    unfold kindB at h10
    split at h10
    · have := of_decide_eq_true h10; omega
    · have := of_decide_eq_true h10; omega
  unfold isDay at h9
  have h9 := of_decide_eq_true h9
  exact ⟨nmB_size h1, nmB_size h2, nmB_size h3, nmB_size h4, textV_size h7, by omega, by omega, hk.2⟩
theorem dtext_no (d : Dr) (w : World) (hd : d.ok) (hm : mayD d = false) : Calls Tryz.prog 11 #[.agg #[.string d.num, .string d.drw, .string d.dre, .string d.pay, .string d.cur, .int .i64 d.amt, .int .i64 d.kind, .int .i64 d.days, .int .i64 d.fr]] w fun e w' => e = .returned (.string ⟨#[]⟩) ∧ Below w.heap.size w w' := by
  have HD := Lib.hid hd
  have HM := Lib.hid hm
  clear hd hm
  have hB0 : Below w.heap.size w (w.alloc (.cells #[.string d.num, .string d.drw, .string d.dre, .string d.pay, .string d.cur, .int .i64 d.amt, .int .i64 d.kind, .int .i64 d.days, .int .i64 d.fr] 28)) := (Below.refl _ _).alloc (Nat.le_refl _) _
  have hk0 : Blk (w.alloc (.cells #[.string d.num, .string d.drw, .string d.dre, .string d.pay, .string d.cur, .int .i64 d.amt, .int .i64 d.kind, .int .i64 d.days, .int .i64 d.fr] 28)) w.heap.size 28 #[.string d.num, .string d.drw, .string d.dre, .string d.pay, .string d.cur, .int .i64 d.amt, .int .i64 d.kind, .int .i64 d.days, .int .i64 d.fr] := Blk.new _ _ _
  have a0 := hk0.cell 0; have a1 := hk0.cell 1; have a2 := hk0.cell 2; have a3 := hk0.cell 3; have a4 := hk0.cell 4; have a5 := hk0.cell 5; have a6 := hk0.cell 6; have a7 := hk0.cell 7; have a8 := hk0.cell 8; simp only [List.getElem?_toArray, List.getElem?_cons_zero, List.getElem?_cons_succ] at a0 a1 a2 a3 a4 a5 a6 a7 a8
  go_enter Tryz.func11, Tryz.ntmps11
  go_wp2_with fail
  refine (mayD_any d _ HD.out).mono ?_
  rw [HM.out]
  rintro e w1 ⟨rfl, hb1⟩
  have HB1 := Lib.hid (hB0.trans (hb1.mono hB0.size))
  go_wp2_with fail
  go_ret
  exact ⟨rfl, HB1.out⟩
theorem bs8 (a0 a1 a2 a3 a4 a5 a6 a7 : ByteArray) (w : World) : (Instr.buildSlice 35 8 #[(0, .string a0), (1, .string a1), (2, .string a2), (3, .string a3), (4, .string a4), (5, .string a5), (6, .string a6), (7, .string a7)]).run Tryz.prog w = .ok (.slice (some ⟨w.heap.size, 0, none⟩) 8 8) (w.alloc (.cells #[.string a0, .string a1, .string a2, .string a3, .string a4, .string a5, .string a6, .string a7] 9)) := by kernel_rfl
set_option maxRecDepth 100000 in
set_option maxHeartbeats 6400000 in
theorem dtext_ok (d : Dr) (w : World) (hd : d.ok) (hm : mayD d = true) (ht : PowTab w) : Calls Tryz.prog 11 #[.agg #[.string d.num, .string d.drw, .string d.dre, .string d.pay, .string d.cur, .int .i64 d.amt, .int .i64 d.kind, .int .i64 d.days, .int .i64 d.fr]] w fun e w' => e = .returned (.string (dtxV d)) ∧ Below w.heap.size w w' := by
  have HD := Lib.hid hd
  have HM := Lib.hid hm
  have HT := Lib.hid (Lib.tabBelow_of_tabIs ht)
  have hB := may_b hm
  have HI := Lib.hid (⟨⟨by have := hB.y; omega, by have := hB.y; omega⟩, ⟨by have := hB.f; omega, by have := hB.f; omega⟩⟩ : I64 d.days ∧ I64 d.fr)
  have hE : joinW [d.num, d.drw, d.dre, d.pay, textV (dmon d), kindS d.kind, itS d.days, itS d.fr] = dtxV d := rfl
  have hS : ∀ x ∈ [d.num, d.drw, d.dre, d.pay, textV (dmon d), kindS d.kind, itS d.days, itS d.fr], x.size ≤ 2000000 := by
    have hkk : (kindS d.kind).size ≤ 20 := by
      unfold kindS
      split
      · decide
      · split <;> decide
    have h1 := itS_size hB.y.1 (by have := hB.y; omega)
    have h2 := itS_size hB.f.1 hB.f.2
    have := hB.n; have := hB.w; have := hB.e; have := hB.p; have := hB.m
    intro x hx
    simp only [List.mem_cons, List.not_mem_nil, or_false] at hx
    rcases hx with rfl | rfl | rfl | rfl | rfl | rfl | rfl | rfl <;> omega
  obtain ⟨TV, hTV⟩ : ∃ T, textV (dmon d) = T := ⟨_, rfl⟩
  obtain ⟨ID, hID⟩ : ∃ T, itS d.days = T := ⟨_, rfl⟩
  obtain ⟨IF, hIF⟩ : ∃ T, itS d.fr = T := ⟨_, rfl⟩
  rw [hTV, hID, hIF] at hE hS
  clear hd hm ht hB
  have hB0 : Below w.heap.size w (w.alloc (.cells #[.string d.num, .string d.drw, .string d.dre, .string d.pay, .string d.cur, .int .i64 d.amt, .int .i64 d.kind, .int .i64 d.days, .int .i64 d.fr] 28)) := (Below.refl _ _).alloc (Nat.le_refl _) _
  have hk0 : Blk (w.alloc (.cells #[.string d.num, .string d.drw, .string d.dre, .string d.pay, .string d.cur, .int .i64 d.amt, .int .i64 d.kind, .int .i64 d.days, .int .i64 d.fr] 28)) w.heap.size 28 #[.string d.num, .string d.drw, .string d.dre, .string d.pay, .string d.cur, .int .i64 d.amt, .int .i64 d.kind, .int .i64 d.days, .int .i64 d.fr] := Blk.new _ _ _
  have a0 := hk0.cell 0; have a1 := hk0.cell 1; have a2 := hk0.cell 2; have a3 := hk0.cell 3; have a4 := hk0.cell 4; have a5 := hk0.cell 5; have a6 := hk0.cell 6; have a7 := hk0.cell 7; have a8 := hk0.cell 8; simp only [List.getElem?_toArray, List.getElem?_cons_zero, List.getElem?_cons_succ] at a0 a1 a2 a3 a4 a5 a6 a7 a8
  by_cases h1 : d.kind = 1
  · have t1 : (d.kind == 1) = true := by simpa using h1
    rw [show kindS d.kind = (⟨#[97, 102, 116, 101, 114, 45, 115, 105, 103, 104, 116]⟩ : ByteArray) by unfold kindS; rw [if_pos h1]] at hE hS
    clear h1
    go_enter Tryz.func11, Tryz.ntmps11
    go_wp2_with fail
    refine (mayD_any d _ HD.out).mono ?_
    rw [HM.out]
    rintro e w1 ⟨rfl, hb1⟩
    have hB1 := hB0.trans (hb1.mono hB0.size)
    have hk1 := hk0.below hb1 hk0.lt
    clear a0 a1 a2 a3 a4 a5 a6 a7 a8
    clear hB0 hk0 hb1
    have a0 := hk1.cell 0; have a1 := hk1.cell 1; have a2 := hk1.cell 2; have a3 := hk1.cell 3; have a4 := hk1.cell 4; have a5 := hk1.cell 5; have a6 := hk1.cell 6; have a7 := hk1.cell 7; have a8 := hk1.cell 8; simp only [List.getElem?_toArray, List.getElem?_cons_zero, List.getElem?_cons_succ] at a0 a1 a2 a3 a4 a5 a6 a7 a8
    have p0 := wof_cell a0; have p1 := wof_cell a1; have p2 := wof_cell a2; have p3 := wof_cell a3; have p4 := wof_cell a4; have p5 := wof_cell a5; have p6 := wof_cell a6; have p7 := wof_cell a7; have p8 := wof_cell a8
    have QT := Lib.hid (fun (x : BW w1) => text_any (dmon d) (wof x) HD.out.c (HT.out.on (hB1.trans ((wof_below x).mono hB1.size))).here)
    have QI := Lib.hid (fun (x : BW w1) => itoa_any d.days HI.out.1 (wof x) (HT.out.on (hB1.trans ((wof_below x).mono hB1.size))).here)
    have QJ := Lib.hid (fun (x : BW w1) => itoa_any d.fr HI.out.2 (wof x) (HT.out.on (hB1.trans ((wof_below x).mono hB1.size))).here)
    rw [hTV] at QT
    rw [hID] at QI
    rw [hIF] at QJ
    have HE := Lib.hid hE
    have HS := Lib.hid hS
    clear hTV hID hIF hE hS
    go_wp2_with fail
    refine wp_region_quiet_below_tail 18 (by kernel_rfl) (by kernel_rfl) ?_
    simp only [List.take_succ_cons, List.take_zero, List.drop_succ_cons, List.drop_zero]
    repeat (go_big_quiet_step ((first | (go_at_call 12; exact quiet_below (QT.out _)) | (go_at_call 30; first | exact quiet_below (QI.out _) | exact quiet_below (QJ.out _)))))
    refine wpQuiet_nil ?_
    intro w4 hb4
    have hB4 := hB1.trans (hb4.mono hB1.size)
    clear p0 p1 p2 p3 p4 p5 p6 p7 p8 hk1 hB1 hb4
    clear a0 a1 a2 a3 a4 a5 a6 a7 a8
    have hbs := bs8
    go_wp2_with fail
    have hs5 : SliceOf (w4.alloc (.cells #[.string d.num, .string d.drw, .string d.dre, .string d.pay, .string TV, .string (⟨#[97, 102, 116, 101, 114, 45, 115, 105, 103, 104, 116]⟩ : ByteArray), .string ID, .string IF] 9)) 1 strC (some ⟨w4.heap.size, 0, none⟩) 8 [d.num, d.drw, d.dre, d.pay, TV, (⟨#[97, 102, 116, 101, 114, 45, 115, 105, 103, 104, 116]⟩ : ByteArray), ID, IF] := SliceOf.blk (en := strC) (Blk.new_at w4 9 _ _ rfl) _ rfl (fun _ => rfl) rfl
    refine (joinW_any w4.heap.size 8 8 _ _ hs5 (by omega) (by omega) (Nat.le_refl _) HS.out).mono ?_
    rintro e w5 ⟨rfl, hb5⟩
    have hB5 := (hB4.alloc hB4.size (.cells #[.string d.num, .string d.drw, .string d.dre, .string d.pay, .string TV, .string (⟨#[97, 102, 116, 101, 114, 45, 115, 105, 103, 104, 116]⟩ : ByteArray), .string ID, .string IF] 9)).trans (hb5.mono (by rw [show (w4.alloc (.cells #[.string d.num, .string d.drw, .string d.dre, .string d.pay, .string TV, .string (⟨#[97, 102, 116, 101, 114, 45, 115, 105, 103, 104, 116]⟩ : ByteArray), .string ID, .string IF] 9)).heap.size = w4.heap.size + 1 from Array.size_push _]; have := hB4.size; omega))
    go_wp2_with fail
    go_ret
    exact ⟨ret_string HE.out, hB5⟩
  · by_cases h2 : d.kind = 2
    · have t1 : (d.kind == 1) = false := by simpa using h1
      have t2 : (d.kind == 2) = true := by simpa using h2
      rw [show kindS d.kind = (⟨#[97, 102, 116, 101, 114, 45, 100, 97, 116, 101]⟩ : ByteArray) by unfold kindS; rw [if_neg h1, if_pos h2]] at hE hS
      clear h1 h2
      go_enter Tryz.func11, Tryz.ntmps11
      go_wp2_with fail
      refine (mayD_any d _ HD.out).mono ?_
      rw [HM.out]
      rintro e w1 ⟨rfl, hb1⟩
      have hB1 := hB0.trans (hb1.mono hB0.size)
      have hk1 := hk0.below hb1 hk0.lt
      clear a0 a1 a2 a3 a4 a5 a6 a7 a8
      clear hB0 hk0 hb1
      have a0 := hk1.cell 0; have a1 := hk1.cell 1; have a2 := hk1.cell 2; have a3 := hk1.cell 3; have a4 := hk1.cell 4; have a5 := hk1.cell 5; have a6 := hk1.cell 6; have a7 := hk1.cell 7; have a8 := hk1.cell 8; simp only [List.getElem?_toArray, List.getElem?_cons_zero, List.getElem?_cons_succ] at a0 a1 a2 a3 a4 a5 a6 a7 a8
      have p0 := wof_cell a0; have p1 := wof_cell a1; have p2 := wof_cell a2; have p3 := wof_cell a3; have p4 := wof_cell a4; have p5 := wof_cell a5; have p6 := wof_cell a6; have p7 := wof_cell a7; have p8 := wof_cell a8
      have QT := Lib.hid (fun (x : BW w1) => text_any (dmon d) (wof x) HD.out.c (HT.out.on (hB1.trans ((wof_below x).mono hB1.size))).here)
      have QI := Lib.hid (fun (x : BW w1) => itoa_any d.days HI.out.1 (wof x) (HT.out.on (hB1.trans ((wof_below x).mono hB1.size))).here)
      have QJ := Lib.hid (fun (x : BW w1) => itoa_any d.fr HI.out.2 (wof x) (HT.out.on (hB1.trans ((wof_below x).mono hB1.size))).here)
      rw [hTV] at QT
      rw [hID] at QI
      rw [hIF] at QJ
      have HE := Lib.hid hE
      have HS := Lib.hid hS
      clear hTV hID hIF hE hS
      go_wp2_with fail
      refine wp_region_quiet_below_tail 18 (by kernel_rfl) (by kernel_rfl) ?_
      simp only [List.take_succ_cons, List.take_zero, List.drop_succ_cons, List.drop_zero]
      repeat (go_big_quiet_step ((first | (go_at_call 12; exact quiet_below (QT.out _)) | (go_at_call 30; first | exact quiet_below (QI.out _) | exact quiet_below (QJ.out _)))))
      refine wpQuiet_nil ?_
      intro w4 hb4
      have hB4 := hB1.trans (hb4.mono hB1.size)
      clear p0 p1 p2 p3 p4 p5 p6 p7 p8 hk1 hB1 hb4
      clear a0 a1 a2 a3 a4 a5 a6 a7 a8
      have hbs := bs8
      go_wp2_with fail
      have hs5 : SliceOf (w4.alloc (.cells #[.string d.num, .string d.drw, .string d.dre, .string d.pay, .string TV, .string (⟨#[97, 102, 116, 101, 114, 45, 100, 97, 116, 101]⟩ : ByteArray), .string ID, .string IF] 9)) 1 strC (some ⟨w4.heap.size, 0, none⟩) 8 [d.num, d.drw, d.dre, d.pay, TV, (⟨#[97, 102, 116, 101, 114, 45, 100, 97, 116, 101]⟩ : ByteArray), ID, IF] := SliceOf.blk (en := strC) (Blk.new_at w4 9 _ _ rfl) _ rfl (fun _ => rfl) rfl
      refine (joinW_any w4.heap.size 8 8 _ _ hs5 (by omega) (by omega) (Nat.le_refl _) HS.out).mono ?_
      rintro e w5 ⟨rfl, hb5⟩
      have hB5 := (hB4.alloc hB4.size (.cells #[.string d.num, .string d.drw, .string d.dre, .string d.pay, .string TV, .string (⟨#[97, 102, 116, 101, 114, 45, 100, 97, 116, 101]⟩ : ByteArray), .string ID, .string IF] 9)).trans (hb5.mono (by rw [show (w4.alloc (.cells #[.string d.num, .string d.drw, .string d.dre, .string d.pay, .string TV, .string (⟨#[97, 102, 116, 101, 114, 45, 100, 97, 116, 101]⟩ : ByteArray), .string ID, .string IF] 9)).heap.size = w4.heap.size + 1 from Array.size_push _]; have := hB4.size; omega))
      go_wp2_with fail
      go_ret
      exact ⟨ret_string HE.out, hB5⟩
    · have t1 : (d.kind == 1) = false := by simpa using h1
      have t2 : (d.kind == 2) = false := by simpa using h2
      rw [show kindS d.kind = (⟨#[115, 105, 103, 104, 116]⟩ : ByteArray) by unfold kindS; rw [if_neg h1, if_neg h2]] at hE hS
      clear h1 h2
      go_enter Tryz.func11, Tryz.ntmps11
      go_wp2_with fail
      refine (mayD_any d _ HD.out).mono ?_
      rw [HM.out]
      rintro e w1 ⟨rfl, hb1⟩
      have hB1 := hB0.trans (hb1.mono hB0.size)
      have hk1 := hk0.below hb1 hk0.lt
      clear a0 a1 a2 a3 a4 a5 a6 a7 a8
      clear hB0 hk0 hb1
      have a0 := hk1.cell 0; have a1 := hk1.cell 1; have a2 := hk1.cell 2; have a3 := hk1.cell 3; have a4 := hk1.cell 4; have a5 := hk1.cell 5; have a6 := hk1.cell 6; have a7 := hk1.cell 7; have a8 := hk1.cell 8; simp only [List.getElem?_toArray, List.getElem?_cons_zero, List.getElem?_cons_succ] at a0 a1 a2 a3 a4 a5 a6 a7 a8
      have p0 := wof_cell a0; have p1 := wof_cell a1; have p2 := wof_cell a2; have p3 := wof_cell a3; have p4 := wof_cell a4; have p5 := wof_cell a5; have p6 := wof_cell a6; have p7 := wof_cell a7; have p8 := wof_cell a8
      have QT := Lib.hid (fun (x : BW w1) => text_any (dmon d) (wof x) HD.out.c (HT.out.on (hB1.trans ((wof_below x).mono hB1.size))).here)
      have QI := Lib.hid (fun (x : BW w1) => itoa_any d.days HI.out.1 (wof x) (HT.out.on (hB1.trans ((wof_below x).mono hB1.size))).here)
      have QJ := Lib.hid (fun (x : BW w1) => itoa_any d.fr HI.out.2 (wof x) (HT.out.on (hB1.trans ((wof_below x).mono hB1.size))).here)
      rw [hTV] at QT
      rw [hID] at QI
      rw [hIF] at QJ
      have HE := Lib.hid hE
      have HS := Lib.hid hS
      clear hTV hID hIF hE hS
      go_wp2_with fail
      refine wp_region_quiet_below_tail 18 (by kernel_rfl) (by kernel_rfl) ?_
      simp only [List.take_succ_cons, List.take_zero, List.drop_succ_cons, List.drop_zero]
      repeat (go_big_quiet_step ((first | (go_at_call 12; exact quiet_below (QT.out _)) | (go_at_call 30; first | exact quiet_below (QI.out _) | exact quiet_below (QJ.out _)))))
      refine wpQuiet_nil ?_
      intro w4 hb4
      have hB4 := hB1.trans (hb4.mono hB1.size)
      clear p0 p1 p2 p3 p4 p5 p6 p7 p8 hk1 hB1 hb4
      clear a0 a1 a2 a3 a4 a5 a6 a7 a8
      have hbs := bs8
      go_wp2_with fail
      have hs5 : SliceOf (w4.alloc (.cells #[.string d.num, .string d.drw, .string d.dre, .string d.pay, .string TV, .string (⟨#[115, 105, 103, 104, 116]⟩ : ByteArray), .string ID, .string IF] 9)) 1 strC (some ⟨w4.heap.size, 0, none⟩) 8 [d.num, d.drw, d.dre, d.pay, TV, (⟨#[115, 105, 103, 104, 116]⟩ : ByteArray), ID, IF] := SliceOf.blk (en := strC) (Blk.new_at w4 9 _ _ rfl) _ rfl (fun _ => rfl) rfl
      refine (joinW_any w4.heap.size 8 8 _ _ hs5 (by omega) (by omega) (Nat.le_refl _) HS.out).mono ?_
      rintro e w5 ⟨rfl, hb5⟩
      have hB5 := (hB4.alloc hB4.size (.cells #[.string d.num, .string d.drw, .string d.dre, .string d.pay, .string TV, .string (⟨#[115, 105, 103, 104, 116]⟩ : ByteArray), .string ID, .string IF] 9)).trans (hb5.mono (by rw [show (w4.alloc (.cells #[.string d.num, .string d.drw, .string d.dre, .string d.pay, .string TV, .string (⟨#[115, 105, 103, 104, 116]⟩ : ByteArray), .string ID, .string IF] 9)).heap.size = w4.heap.size + 1 from Array.size_push _]; have := hB4.size; omega))
      go_wp2_with fail
      go_ret
      exact ⟨ret_string HE.out, hB5⟩
end Go.Proofs.YtlaclkiedjhphaaGreatDoor.kit
