/- The money of a text: the program. Condition: the table of powers of ten. -/
import Derived.Test.YtmmcngdpfikdiaaDoorMyTextW
namespace Go.Proofs.YtmmcngdpfikdiaaDoor.kit
open Go.RowKit Go.PlainAid
set_option linter.unusedVariables false

def accF (s : ByteArray) : Nat → Int
  | 0 => 0
  | k + 1 => if 48 ≤ bt s (k + 4) ∧ bt s (k + 4) ≤ 57 then accF s k * 10 + (bt s (k + 4) - 48) else accF s k
theorem accF_in {s : ByteArray} {k : Nat} (h : 48 ≤ bt s (k + 4) ∧ bt s (k + 4) ≤ 57) : accF s (k + 1) = accF s k * 10 + (bt s (k + 4) - 48) := by unfold accF; rw [if_pos h]; cases k <;> rfl
theorem accF_out {s : ByteArray} {k : Nat} (h : ¬ (48 ≤ bt s (k + 4) ∧ bt s (k + 4) ≤ 57)) : accF s (k + 1) = accF s k := by conv => lhs; unfold accF; rw [if_neg h]
theorem accF_nn (s : ByteArray) : ∀ k, 0 ≤ accF s k
  | 0 => by simp [accF]
  | k + 1 => by
    have := accF_nn s k
    by_cases h : 48 ≤ bt s (k + 4) ∧ bt s (k + 4) ≤ 57
    · rw [accF_in h]; omega
    · rw [accF_out h]; exact this
theorem accF_up (s : ByteArray) : ∀ (j k : Nat), accF s k ≤ accF s (k + j)
  | 0, k => Int.le_refl _
  | j + 1, k => by
    have h1 := accF_up s j k
    have h2 := accF_nn s (k + j)
    by_cases h : 48 ≤ bt s (k + j + 4) ∧ bt s (k + j + 4) ≤ 57
    · rw [← Nat.add_assoc, accF_in h]; omega
    · rw [← Nat.add_assoc, accF_out h]; exact h1
def parseM (s : ByteArray) : Mon := ⟨s.extract 0 3, if bt s 4 = 45 then -(accF s (s.size - 4)) else accF s (s.size - 4)⟩
def parseV (s : ByteArray) : Mon × Int := if 5 ≤ s.size ∧ s.size ≤ 32 ∧ bt s 3 = 32 ∧ textV (parseM s) = s then (parseM s, 0) else (noM, 2)
theorem parse_big {s : ByteArray} {k : Nat} (h5 : 5 ≤ s.size) (hk : k ≤ s.size - 4) (h : 1099511627776 < accF s k) : parseV s = (noM, 2) := by
  have h1 := accF_up s (s.size - 4 - k) k
  rw [show k + (s.size - 4 - k) = s.size - 4 by omega] at h1
  have hm : mayM (parseM s) = false := by
    cases e : mayM (parseM s)
    · rfl
    · have := (may_iff.1 e).2
      unfold parseM at this
      simp only [] at this
      by_cases h45 : bt s 4 = 45
      · rw [if_pos h45] at this; omega
      · rw [if_neg h45] at this; omega
  have ht : textV (parseM s) = ⟨#[]⟩ := by unfold textV; rw [hm, if_neg (by simp)]
  unfold parseV
  rw [ht, if_neg]
  rintro ⟨_, _, _, h⟩
  rw [← h] at h5
  have : (⟨#[]⟩ : ByteArray).size = 0 := rfl
  omega
theorem ret_si {r : Mon × Int} {a : Mon} {b : Int} {k : IntKind} (h : r = (a, b)) : Ending.returned (.tuple #[.agg #[.string a.cur, .int .i64 a.amt], .int k b]) = .returned (.tuple #[.agg #[.string r.1.cur, .int .i64 r.1.amt], .int k r.2]) := by rw [h]
set_option maxRecDepth 100000 in
set_option maxHeartbeats 6400000 in
theorem parse_any (s : ByteArray) (w : World) (hs : s.size ≤ maxLen) (ht : PowTab w) :
    Calls Tryd.prog 16 #[.string s] w fun e w' => e = .returned (.tuple #[.agg #[.string (parseV s).1.cur, .int .i64 (parseV s).1.amt], .int .i64 (parseV s).2]) ∧ Below w.heap.size w w' := by
  unfold maxLen at hs
  have HT := Lib.hid (Lib.tabBelow_of_tabIs ht)
  have hR0 : Blk (w.alloc (.cells #[.string ⟨#[]⟩, .int .i64 0] 23)) w.heap.size 23 #[.string ⟨#[]⟩, .int .i64 0] := Blk.new _ _ _
  have hB0 : Below w.heap.size w (w.alloc (.cells #[.string ⟨#[]⟩, .int .i64 0] 23)) := (Below.refl _ _).alloc (Nat.le_refl _) _
  have r0 := hR0.cell 0; have r1 := hR0.cell 1; have f0 := hR0.frozen 0; have f1 := hR0.frozen 1
  simp only [List.getElem?_toArray, List.getElem?_cons_zero, List.getElem?_cons_succ] at r0 r1
  clear ht
  by_cases h5 : s.size < 5
  · have e1 : Hid (parseV s = (noM, 2)) := Lib.hid (by unfold parseV; rw [if_neg (by omega)])
    have d0 : decide ((s.size : Int) < 5) = true := decide_eq_true (by omega)
    have d0n : decide (s.size < 5) = true := decide_eq_true h5
    go_enter Tryd.func16, Tryd.ntmps16
    go_wp2_with (refine stop_store 23 _ _ rfl ?_; refine wpList_store_blk rfl 23 _ _ rfl #[.string noM.cur, .int .i64 noM.amt] rfl rfl hR0 (by kernel_rfl) rfl rfl ?_; intro w9 hR9 hk9 hb9)
    have hB9 := hb9 _ _ hB0 (by omega)
    clear r0 r1 f0 f1
    have r0 := hR9.cell 0; have r1 := hR9.cell 1; have f0 := hR9.frozen 0; have f1 := hR9.frozen 1
    simp only [List.getElem?_toArray, List.getElem?_cons_zero, List.getElem?_cons_succ] at r0 r1
    refine bodyPost_ret (v := .tuple #[.agg #[.string noM.cur, .int .i64 noM.amt], .int .i64 2]) (by simp [results, Tryd.results16, go_sem, r0, r1]) rfl ⟨ret_si e1.out, hB9⟩
  have d0 : decide ((s.size : Int) < 5) = false := decide_eq_false (by omega)
  have d0n : decide (s.size < 5) = false := decide_eq_false h5
  by_cases h32 : 32 < s.size
  · have e1 : Hid (parseV s = (noM, 2)) := Lib.hid (by unfold parseV; rw [if_neg (by omega)])
    have d1 : decide ((32 : Int) < (s.size : Int)) = true := decide_eq_true (by omega)
    have d1n : decide (32 < s.size) = true := decide_eq_true h32
    go_enter Tryd.func16, Tryd.ntmps16
    go_wp2_with (refine stop_store 23 _ _ rfl ?_; refine wpList_store_blk rfl 23 _ _ rfl #[.string noM.cur, .int .i64 noM.amt] rfl rfl hR0 (by kernel_rfl) rfl rfl ?_; intro w9 hR9 hk9 hb9)
    have hB9 := hb9 _ _ hB0 (by omega)
    clear r0 r1 f0 f1
    have r0 := hR9.cell 0; have r1 := hR9.cell 1; have f0 := hR9.frozen 0; have f1 := hR9.frozen 1
    simp only [List.getElem?_toArray, List.getElem?_cons_zero, List.getElem?_cons_succ] at r0 r1
    refine bodyPost_ret (v := .tuple #[.agg #[.string noM.cur, .int .i64 noM.amt], .int .i64 2]) (by simp [results, Tryd.results16, go_sem, r0, r1]) rfl ⟨ret_si e1.out, hB9⟩
  have d1 : decide ((32 : Int) < (s.size : Int)) = false := decide_eq_false (by omega)
  have d1n : decide (32 < s.size) = false := decide_eq_false h32
  have hb := get_bt s
  by_cases h3 : bt s 3 = 32
  rotate_left
  · have e1 : Hid (parseV s = (noM, 2)) := Lib.hid (by unfold parseV; rw [if_neg (fun h => h3 h.2.2.1)])
    have d2 : (bt s 3 != 32) = true := by simpa using h3
    clear h3
    go_enter Tryd.func16, Tryd.ntmps16
    go_wp2_with (refine stop_store 23 _ _ rfl ?_; refine wpList_store_blk rfl 23 _ _ rfl #[.string noM.cur, .int .i64 noM.amt] rfl rfl hR0 (by kernel_rfl) rfl rfl ?_; intro w9 hR9 hk9 hb9)
    have hB9 := hb9 _ _ hB0 (by omega)
    clear r0 r1 f0 f1
    have r0 := hR9.cell 0; have r1 := hR9.cell 1; have f0 := hR9.frozen 0; have f1 := hR9.frozen 1
    simp only [List.getElem?_toArray, List.getElem?_cons_zero, List.getElem?_cons_succ] at r0 r1
    refine bodyPost_ret (v := .tuple #[.agg #[.string noM.cur, .int .i64 noM.amt], .int .i64 2]) (by simp [results, Tryd.results16, go_sem, r0, r1]) rfl ⟨ret_si e1.out, hB9⟩
  have d2 : (bt s 3 != 32) = false := by simpa using h3
  obtain ⟨n, hn⟩ : ∃ n, s.size = n + 4 := ⟨s.size - 4, by omega⟩
  have HN := Lib.hid hn
  have HNN := Lib.hid (accF_nn s)
  have HIN := Lib.hid (fun k => accF_in (s := s) (k := k))
  have HOUT := Lib.hid (fun k => accF_out (s := s) (k := k))
  have HBIG := Lib.hid (fun k => parse_big (s := s) (k := k) (by omega))
  have HPV : Hid (parseV s = if textV (parseM s) = s then (parseM s, 0) else (noM, 2)) := Lib.hid (by
    unfold parseV
    by_cases h : textV (parseM s) = s
    · rw [if_pos h, if_pos ⟨by omega, by omega, h3, h⟩]
    · rw [if_neg h, if_neg (fun hh => h hh.2.2.2)])
  obtain ⟨X, hX⟩ : ∃ X, (bt s 4 == 45) = X := ⟨_, rfl⟩
  have HX := Lib.hid hX
  clear h3 hn
  have hn32 : s.size ≤ 32 := by omega
  go_enter Tryd.func16, Tryd.ntmps16
  go_wp2_with fail
  go_loop [5, 6] (fun a i => ∃ k : Nat, k + 4 ≤ s.size ∧ i = .int .i64 ((k : Int) + 4) ∧ a = .int .i64 (accF s k) ∧ Hid (accF s k ≤ 1099511627776)) (fun _ i => s.size - (intOf i).toNat)
  case atStart => exact ⟨0, by omega, rfl, rfl, Lib.hid (by simp [accF])⟩
  case round =>
    obtain ⟨k, hk, rfl, rfl, hmx⟩ := hrel
    have nn := HNN.out k
    have mx := hmx.out
    by_cases hlt : k + 4 < s.size
    · by_cases hdg : 48 ≤ bt s (k + 4) ∧ bt s (k + 4) ≤ 57
      · have hin := HIN.out k hdg
        have hd1 := hdg.1
        have hd2 := hdg.2
        obtain ⟨Z, hZ⟩ : ∃ Z, accF s k * 10 + (bt s (k + 4) - 48) = Z := ⟨_, rfl⟩
        rw [hZ] at hin
        have HIN2 := Lib.hid hin
        have hZ0 : 0 ≤ Z ∧ Z ≤ 20000000000000 := by omega
        clear hin hdg
        by_cases hb2 : 1099511627776 < Z
        · have e1 : Hid (parseV s = (noM, 2)) := Lib.hid (HBIG.out (k + 1) (by omega) (by rw [HIN2.out]; exact hb2))
          have db : decide (1099511627776 < Z) = true := decide_eq_true hb2
          go_wp2_with (refine stop_store 23 _ _ rfl ?_; refine wpList_store_blk rfl 23 _ _ rfl #[.string noM.cur, .int .i64 noM.amt] rfl rfl hR0 (by kernel_rfl) rfl rfl ?_; intro w9 hR9 hk9 hb9)
          have hB9 := hb9 _ _ hB0 (by omega)
          clear r0 r1 f0 f1
          have r0 := hR9.cell 0; have r1 := hR9.cell 1; have f0 := hR9.frozen 0; have f1 := hR9.frozen 1
          simp only [List.getElem?_toArray, List.getElem?_cons_zero, List.getElem?_cons_succ] at r0 r1
          refine bodyPost_ret (v := .tuple #[.agg #[.string noM.cur, .int .i64 noM.amt], .int .i64 2]) (by simp [results, Tryd.results16, go_sem, r0, r1]) rfl ⟨ret_si e1.out, hB9⟩
        · have HMX : Hid (accF s (k + 1) ≤ 1099511627776) := Lib.hid (by rw [HIN2.out]; omega)
          have db : decide (1099511627776 < Z) = false := decide_eq_false hb2
          go_wp2_with fail
          go_round
          case rel => exact ⟨k + 1, by omega, by go_num, by rw [HIN2.out], HMX⟩
          case measure => simp [intOf]; omega
      · have hout := Lib.hid (HOUT.out k hdg)
        have HMX : Hid (accF s (k + 1) ≤ 1099511627776) := Lib.hid (by rw [hout.out]; exact mx)
        by_cases hlo : bt s (k + 4) < 48
        · have dl : decide (bt s (k + 4) < 48) = true := decide_eq_true hlo
          clear hdg
          go_wp2_with fail
          go_round
          case rel => exact ⟨k + 1, by omega, by go_num, by rw [hout.out], HMX⟩
          case measure => simp [intOf]; omega
        · have dl : decide (bt s (k + 4) < 48) = false := decide_eq_false hlo
          have dh : decide (57 < bt s (k + 4)) = true := decide_eq_true (by omega)
          clear hdg
          go_wp2_with fail
          go_round
          case rel => exact ⟨k + 1, by omega, by go_num, by rw [hout.out], HMX⟩
          case measure => simp [intOf]; omega
    · obtain ⟨Z, hZ⟩ : ∃ Z, accF s k = Z := ⟨_, rfl⟩
      have hkn : k = s.size - 4 := by omega
      have hPM : parseM s = ⟨s.extract 0 3, if X = true then -Z else Z⟩ := by
        unfold parseM
        rw [← hkn, hZ, ← HX.out]
        simp
      rw [hZ] at mx nn ⊢
      have HPM := Lib.hid hPM
      have hc3 : (s.extract 0 3).size ≤ maxLen := by unfold maxLen; rw [ByteArray.size_extract]; omega
      clear hPM hZ hmx hX
      cases X
      · have HPM2 : Hid (parseM s = ⟨s.extract 0 3, Z⟩) := Lib.hid (by rw [HPM.out, if_neg (by simp)])
        have hB1 : Below w.heap.size w ((w.alloc (.cells #[.string ⟨#[]⟩, .int .i64 0] 23)).alloc (.cells #[.string (s.extract 0 3), .int .i64 Z] 23)) := hB0.alloc hB0.size _
        have hR1 := hR0.alloc (.cells #[.string (s.extract 0 3), .int .i64 Z] 23)
        have hS1 : Blk ((w.alloc (.cells #[.string ⟨#[]⟩, .int .i64 0] 23)).alloc (.cells #[.string (s.extract 0 3), .int .i64 Z] 23)) (w.heap.size + 1) 23 #[.string (s.extract 0 3), .int .i64 Z] := Blk.newAt _ _ (by simp only [size_alloc])
        have q1 := eq_str (textV ⟨s.extract 0 3, Z⟩) s
        by_cases htx : textV ⟨s.extract 0 3, Z⟩ = s
        · rw [decide_eq_true htx] at q1
          have e1 : Hid (parseV s = (⟨s.extract 0 3, Z⟩, 0)) := Lib.hid (by rw [HPV.out, HPM2.out, if_pos htx])
          clear htx
          go_wp2_with fail
          refine (text_any ⟨s.extract 0 3, Z⟩ _ hc3 (HT.out.on hB1).here).mono ?_
          rintro e w2 ⟨rfl, hb2⟩
          have hB2 := hB1.trans (hb2.mono hB1.size)
          have hR2 := hR1.below hb2 hR1.lt
          have hS2 := hS1.below hb2 hS1.lt
          clear r0 r1 f0 f1 hR1 hS1 hB1 hb2
          have r0 := hR2.cell 0; have r1 := hR2.cell 1; have f0 := hR2.frozen 0; have f1 := hR2.frozen 1
          simp only [List.getElem?_toArray, List.getElem?_cons_zero, List.getElem?_cons_succ] at r0 r1
          have s0 := hS2.cell 0; have s1' := hS2.cell 1
          simp only [List.getElem?_toArray, List.getElem?_cons_zero, List.getElem?_cons_succ] at s0 s1'
          go_wp2_with (refine stop_store 23 _ _ rfl ?_; refine wpList_store_blk rfl 23 _ _ rfl #[.string (Mon.mk (s.extract 0 3) Z).cur, .int .i64 (Mon.mk (s.extract 0 3) Z).amt] rfl rfl hR2 (by kernel_rfl) rfl rfl ?_; intro w9 hR9 hk9 hb9)
          have hB9 := hb9 _ _ hB2 (by omega)
          clear r0 r1 f0 f1
          have r0 := hR9.cell 0; have r1 := hR9.cell 1; have f0 := hR9.frozen 0; have f1 := hR9.frozen 1
          simp only [List.getElem?_toArray, List.getElem?_cons_zero, List.getElem?_cons_succ] at r0 r1
          refine bodyPost_ret (v := .tuple #[.agg #[.string (Mon.mk (s.extract 0 3) Z).cur, .int .i64 (Mon.mk (s.extract 0 3) Z).amt], .int .i64 0]) (by simp [results, Tryd.results16, go_sem, r0, r1]) rfl ⟨ret_si e1.out, hB9⟩
        · rw [decide_eq_false htx] at q1
          have e1 : Hid (parseV s = (noM, 2)) := Lib.hid (by rw [HPV.out, HPM2.out, if_neg htx])
          clear htx
          go_wp2_with fail
          refine (text_any ⟨s.extract 0 3, Z⟩ _ hc3 (HT.out.on hB1).here).mono ?_
          rintro e w2 ⟨rfl, hb2⟩
          have hB2 := hB1.trans (hb2.mono hB1.size)
          have hR2 := hR1.below hb2 hR1.lt
          have hS2 := hS1.below hb2 hS1.lt
          clear r0 r1 f0 f1 hR1 hS1 hB1 hb2
          have r0 := hR2.cell 0; have r1 := hR2.cell 1; have f0 := hR2.frozen 0; have f1 := hR2.frozen 1
          simp only [List.getElem?_toArray, List.getElem?_cons_zero, List.getElem?_cons_succ] at r0 r1
          have s0 := hS2.cell 0; have s1' := hS2.cell 1
          simp only [List.getElem?_toArray, List.getElem?_cons_zero, List.getElem?_cons_succ] at s0 s1'
          go_wp2_with (refine stop_store 23 _ _ rfl ?_; refine wpList_store_blk rfl 23 _ _ rfl #[.string noM.cur, .int .i64 noM.amt] rfl rfl hR2 (by kernel_rfl) rfl rfl ?_; intro w9 hR9 hk9 hb9)
          have hB9 := hb9 _ _ hB2 (by omega)
          clear r0 r1 f0 f1
          have r0 := hR9.cell 0; have r1 := hR9.cell 1; have f0 := hR9.frozen 0; have f1 := hR9.frozen 1
          simp only [List.getElem?_toArray, List.getElem?_cons_zero, List.getElem?_cons_succ] at r0 r1
          refine bodyPost_ret (v := .tuple #[.agg #[.string noM.cur, .int .i64 noM.amt], .int .i64 2]) (by simp [results, Tryd.results16, go_sem, r0, r1]) rfl ⟨ret_si e1.out, hB9⟩
      · have HPM2 : Hid (parseM s = ⟨s.extract 0 3, -Z⟩) := Lib.hid (by rw [HPM.out, if_pos rfl])
        have w1 : wrap64 (-Z) = -Z := w64_id ⟨by omega, by omega⟩
        have hB1 : Below w.heap.size w ((w.alloc (.cells #[.string ⟨#[]⟩, .int .i64 0] 23)).alloc (.cells #[.string (s.extract 0 3), .int .i64 (-Z)] 23)) := hB0.alloc hB0.size _
        have hR1 := hR0.alloc (.cells #[.string (s.extract 0 3), .int .i64 (-Z)] 23)
        have hS1 : Blk ((w.alloc (.cells #[.string ⟨#[]⟩, .int .i64 0] 23)).alloc (.cells #[.string (s.extract 0 3), .int .i64 (-Z)] 23)) (w.heap.size + 1) 23 #[.string (s.extract 0 3), .int .i64 (-Z)] := Blk.newAt _ _ (by simp only [size_alloc])
        have q1 := eq_str (textV ⟨s.extract 0 3, (-Z)⟩) s
        by_cases htx : textV ⟨s.extract 0 3, (-Z)⟩ = s
        · rw [decide_eq_true htx] at q1
          have e1 : Hid (parseV s = (⟨s.extract 0 3, (-Z)⟩, 0)) := Lib.hid (by rw [HPV.out, HPM2.out, if_pos htx])
          clear htx
          go_wp2_with fail
          refine (text_any ⟨s.extract 0 3, (-Z)⟩ _ hc3 (HT.out.on hB1).here).mono ?_
          rintro e w2 ⟨rfl, hb2⟩
          have hB2 := hB1.trans (hb2.mono hB1.size)
          have hR2 := hR1.below hb2 hR1.lt
          have hS2 := hS1.below hb2 hS1.lt
          clear r0 r1 f0 f1 hR1 hS1 hB1 hb2
          have r0 := hR2.cell 0; have r1 := hR2.cell 1; have f0 := hR2.frozen 0; have f1 := hR2.frozen 1
          simp only [List.getElem?_toArray, List.getElem?_cons_zero, List.getElem?_cons_succ] at r0 r1
          have s0 := hS2.cell 0; have s1' := hS2.cell 1
          simp only [List.getElem?_toArray, List.getElem?_cons_zero, List.getElem?_cons_succ] at s0 s1'
          go_wp2_with (refine stop_store 23 _ _ rfl ?_; refine wpList_store_blk rfl 23 _ _ rfl #[.string (Mon.mk (s.extract 0 3) (-Z)).cur, .int .i64 (Mon.mk (s.extract 0 3) (-Z)).amt] rfl rfl hR2 (by kernel_rfl) rfl rfl ?_; intro w9 hR9 hk9 hb9)
          have hB9 := hb9 _ _ hB2 (by omega)
          clear r0 r1 f0 f1
          have r0 := hR9.cell 0; have r1 := hR9.cell 1; have f0 := hR9.frozen 0; have f1 := hR9.frozen 1
          simp only [List.getElem?_toArray, List.getElem?_cons_zero, List.getElem?_cons_succ] at r0 r1
          refine bodyPost_ret (v := .tuple #[.agg #[.string (Mon.mk (s.extract 0 3) (-Z)).cur, .int .i64 (Mon.mk (s.extract 0 3) (-Z)).amt], .int .i64 0]) (by simp [results, Tryd.results16, go_sem, r0, r1]) rfl ⟨ret_si e1.out, hB9⟩
        · rw [decide_eq_false htx] at q1
          have e1 : Hid (parseV s = (noM, 2)) := Lib.hid (by rw [HPV.out, HPM2.out, if_neg htx])
          clear htx
          go_wp2_with fail
          refine (text_any ⟨s.extract 0 3, (-Z)⟩ _ hc3 (HT.out.on hB1).here).mono ?_
          rintro e w2 ⟨rfl, hb2⟩
          have hB2 := hB1.trans (hb2.mono hB1.size)
          have hR2 := hR1.below hb2 hR1.lt
          have hS2 := hS1.below hb2 hS1.lt
          clear r0 r1 f0 f1 hR1 hS1 hB1 hb2
          have r0 := hR2.cell 0; have r1 := hR2.cell 1; have f0 := hR2.frozen 0; have f1 := hR2.frozen 1
          simp only [List.getElem?_toArray, List.getElem?_cons_zero, List.getElem?_cons_succ] at r0 r1
          have s0 := hS2.cell 0; have s1' := hS2.cell 1
          simp only [List.getElem?_toArray, List.getElem?_cons_zero, List.getElem?_cons_succ] at s0 s1'
          go_wp2_with (refine stop_store 23 _ _ rfl ?_; refine wpList_store_blk rfl 23 _ _ rfl #[.string noM.cur, .int .i64 noM.amt] rfl rfl hR2 (by kernel_rfl) rfl rfl ?_; intro w9 hR9 hk9 hb9)
          have hB9 := hb9 _ _ hB2 (by omega)
          clear r0 r1 f0 f1
          have r0 := hR9.cell 0; have r1 := hR9.cell 1; have f0 := hR9.frozen 0; have f1 := hR9.frozen 1
          simp only [List.getElem?_toArray, List.getElem?_cons_zero, List.getElem?_cons_succ] at r0 r1
          refine bodyPost_ret (v := .tuple #[.agg #[.string noM.cur, .int .i64 noM.amt], .int .i64 2]) (by simp [results, Tryd.results16, go_sem, r0, r1]) rfl ⟨ret_si e1.out, hB9⟩
end Go.Proofs.YtmmcngdpfikdiaaDoor.kit
