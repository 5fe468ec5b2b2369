/- The document's paper of a policy that may be. No condition. -/
import Derived.Test.YtldjohmdlggmeaaDoorPaH
namespace Go.Proofs.YtldjohmdlggmeaaDoor.kit
open Go.RowKit Go.PlainAid
set_option linter.unusedVariables false

theorem digs_any (n : Int) (h0 : 0 ≤ n) (h1 : n ≤ 1099511627776) (w : World) : Calls Tryd.prog 22 #[.int .i64 n] w fun e w' => e = .returned (.string (itS n)) ∧ Below w.heap.size w w' := by
  obtain ⟨m, rfl⟩ : ∃ m : Nat, n = m := ⟨n.toNat, by omega⟩
  rw [itS_nat]
  go_enter Tryd.func22, Tryd.ntmps22
  go_wp2_with fail
  refine (rdig_any m _ (by omega)).mono ?_
  rintro e w1 ⟨rfl, hb1⟩
  go_wp2_with fail
  go_ret
  exact ⟨rfl, hb1⟩
theorem joinS_nil : joinS [] = ByteArray.empty := rfl
theorem joinS_one (x : ByteArray) : joinS [x] = x := by
  unfold joinS
  rw [List.map_cons, List.map_nil, Lib.join_cons]
  simp only [Lib.joinTail, List.map_nil, List.flatten_nil, List.append_nil]
  exact bstr_list x
theorem joinS_more (y : ByteArray) (ys : List ByteArray) (x : ByteArray) : joinS (y :: ys ++ [x]) = joinS (y :: ys) ++ ⟨#[44]⟩ ++ x := by
  unfold joinS
  simp only [List.cons_append, List.map_cons, List.map_append, List.map_nil, Lib.join_cons]
  apply list_inj
  rw [app_list, app_list, data_bstr, data_bstr]
  simp [Lib.joinTail]
theorem joinS_size (M : Nat) : ∀ (xs : List ByteArray), (∀ x ∈ xs, x.size ≤ M) → (joinS xs).size ≤ xs.length * (M + 1)
  | [], _ => by rw [joinS_nil]; simp
  | x :: xs, h => by
    unfold joinS
    rw [size_bstr, List.map_cons, Lib.join_cons, List.length_append]
    have h1 := h x (List.mem_cons_self ..)
    rw [← len_list] at h1
    have h2 := join_len M (xs.map (·.data.toList)) (fun y hy => by
      obtain ⟨z, hz, rfl⟩ := List.mem_map.1 hy
      have := h z (List.mem_cons_of_mem _ hz)
      rw [← len_list] at this
      exact this)
    rw [List.length_map] at h2
    rw [List.length_cons, Nat.succ_mul]
    omega
theorem take_k {α : Type} {xs : List α} {k : Nat} {x : α} (h : xs[k]? = some x) : xs.take (k + 1) = xs.take k ++ [x] := by rw [List.take_add_one, h]; rfl
theorem bs8f (a0 a1 a2 a3 a4 a5 a6 a7 : ByteArray) (w : World) : (Instr.buildSlice 27 8 #[(0, .agg #[.string ⟨#[102, 114, 111, 109]⟩, .string a0]), (1, .agg #[.string ⟨#[116, 111]⟩, .string a1]), (2, .agg #[.string ⟨#[115, 117, 109]⟩, .string a2]), (3, .agg #[.string ⟨#[111, 119, 110]⟩, .string a3]), (4, .agg #[.string ⟨#[115, 104, 97, 114, 101]⟩, .string a4]), (5, .agg #[.string ⟨#[102, 105, 114, 115, 116]⟩, .string a5]), (6, .agg #[.string ⟨#[108, 97, 115, 116]⟩, .string a6]), (7, .agg #[.string ⟨#[99, 97, 117, 115, 101, 115]⟩, .string a7])]).run Tryd.prog w = .ok (.slice (some ⟨w.heap.size, 0, none⟩) 8 8) (w.alloc (.cells #[.string ⟨#[102, 114, 111, 109]⟩, .string a0, .string ⟨#[116, 111]⟩, .string a1, .string ⟨#[115, 117, 109]⟩, .string a2, .string ⟨#[111, 119, 110]⟩, .string a3, .string ⟨#[115, 104, 97, 114, 101]⟩, .string a4, .string ⟨#[102, 105, 114, 115, 116]⟩, .string a5, .string ⟨#[108, 97, 115, 116]⟩, .string a6, .string ⟨#[99, 97, 117, 115, 101, 115]⟩, .string a7] 48)) := by kernel_rfl
/-- What the document's Doc gives. -/
def RDocIs (w : World) (nm ins : ByteArray) (FS : List Fd) (e : Ending) (w' : World) : Prop :=
  ∃ A c, e = .returned (.agg #[.int .i64 3, .string nm, .string ins, .slice A 8 c]) ∧ SliceOf w' 2 fdC A 8 FS ∧ Below w.heap.size w w'
set_option maxRecDepth 100000 in
set_option maxHeartbeats 12800000 in
theorem rdoc_ok (p : Pol) (nm : ByteArray) (w : World) (hp : p.ok w) (hm : mayP p = true) :
    Calls Tryd.prog 12 #[.agg #[.string p.ins, .string p.fr, .string p.dst, .int .i64 p.sum, .int .i64 p.own, .slice p.cA p.cn p.cc, .int .i64 p.first, .int .i64 p.last, .int .i64 p.share], .string nm] w (RDocIs w nm p.ins (fsV p.fr p.dst p.sum p.own p.share p.first p.last (joinS (p.causes.map itS)))) := by
  have hmi := may_iff hm
  have hC := hp.c
  have hnc := hp.nc
  clear hm hp
  obtain ⟨ins, fr, dst, sum, own, cA, cn, cc, first, last, share, causes⟩ := p
  dsimp only at hmi hC hnc ⊢
  have HC := Lib.hid hC
  have hl := hC.len
  obtain ⟨b1, b2, b3, b4, b5, b6⟩ := hmi
  unfold causesB at b6
  rw [Bool.and_eq_true, decide_eq_true_eq] at b6
  have hcn : cn ≤ 64 := by omega
  have HRI := Lib.hid (rises_mem b6.2)
  have HI := Lib.hid (by refine ⟨⟨?_, ?_⟩, ⟨?_, ?_⟩, ⟨?_, ?_⟩, ⟨?_, ?_⟩, ?_, ?_⟩ <;> omega : (0 ≤ sum ∧ sum ≤ 1099511627776) ∧ (0 ≤ own ∧ own ≤ 1099511627776) ∧ (0 ≤ share ∧ share ≤ 1099511627776) ∧ (0 ≤ first ∧ first ≤ 1099511627776) ∧ (0 ≤ last ∧ last ≤ 1099511627776))
  clear hC b1 b2 b3 b4 b5 b6
  have hB0 : Below w.heap.size w ((w.alloc (.cells #[.string ins, .string fr, .string dst, .int .i64 sum, .int .i64 own, .slice cA cn cc, .int .i64 first, .int .i64 last, .int .i64 share] 24)).alloc (.cells #[.int .i64 0, .string ⟨#[]⟩, .string ⟨#[]⟩, .slice none 0 0] 29)) := two_alloc _ _ _
  have hp0 : Blk ((w.alloc (.cells #[.string ins, .string fr, .string dst, .int .i64 sum, .int .i64 own, .slice cA cn cc, .int .i64 first, .int .i64 last, .int .i64 share] 24)).alloc (.cells #[.int .i64 0, .string ⟨#[]⟩, .string ⟨#[]⟩, .slice none 0 0] 29)) w.heap.size 24 #[.string ins, .string fr, .string dst, .int .i64 sum, .int .i64 own, .slice cA cn cc, .int .i64 first, .int .i64 last, .int .i64 share] := (Blk.new _ _ _).alloc _
  have hr0 : Blk ((w.alloc (.cells #[.string ins, .string fr, .string dst, .int .i64 sum, .int .i64 own, .slice cA cn cc, .int .i64 first, .int .i64 last, .int .i64 share] 24)).alloc (.cells #[.int .i64 0, .string ⟨#[]⟩, .string ⟨#[]⟩, .slice none 0 0] 29)) (w.heap.size + 1) 29 #[.int .i64 0, .string ⟨#[]⟩, .string ⟨#[]⟩, .slice none 0 0] := blk_second _ _ _ _
  have HS0 : Hid ((((w.alloc (.cells #[.string ins, .string fr, .string dst, .int .i64 sum, .int .i64 own, .slice cA cn cc, .int .i64 first, .int .i64 last, .int .i64 share] 24)).alloc (.cells #[.int .i64 0, .string ⟨#[]⟩, .string ⟨#[]⟩, .slice none 0 0] 29))).heap.size = w.heap.size + 2) := Lib.hid (by rw [size_alloc, size_alloc])
  have HB0 := Lib.hid hB0
  have HP0 := Lib.hid hp0
  have HR0 := Lib.hid hr0
  clear hB0 hp0 hr0
  go_enter Tryd.func12, Tryd.ntmps12
  go_wp2_with fail
  go_loopw [5, 6] (fun s i wr => ∃ (k : Nat) (S : ByteArray), k ≤ cn ∧ s = .string S ∧ i = .int .i64 k ∧ Hid (joinS ((causes.take k).map itS) = S) ∧ Hid (Below (w.heap.size + 2) ((w.alloc (.cells #[.string ins, .string fr, .string dst, .int .i64 sum, .int .i64 own, .slice cA cn cc, .int .i64 first, .int .i64 last, .int .i64 share] 24)).alloc (.cells #[.int .i64 0, .string ⟨#[]⟩, .string ⟨#[]⟩, .slice none 0 0] 29)) wr)) (fun _ i _ => cn - (intOf i).toNat)
  case atStart => exact ⟨0, _, by omega, rfl, rfl, Lib.hid joinS_nil, Lib.hid (Below.refl _ _)⟩
  case round =>
    obtain ⟨k, S, hk, rfl, rfl, hS, hkw⟩ := hrel
    have hlt2 : w.heap.size + 2 ≤ wr.heap.size := by have := hkw.out.size; have := HS0.out; omega
    have HWR := Lib.hid (HB0.out.trans (hkw.out.mono (Nat.le_add_right _ _)))
    have HP1 := Lib.hid (HP0.out.below hkw.out (by omega))
    have HR1 := Lib.hid (HR0.out.below hkw.out (by omega))
    have a5 := HP1.out.cell 5
    simp only [List.getElem?_toArray, List.getElem?_cons_zero, List.getElem?_cons_succ] at a5
    have hSs : S.size ≤ 140000000 := by
      have h1 := joinS_size 2000000 ((causes.take k).map itS) (fun x hx => by
        obtain ⟨y, hy, rfl⟩ := List.mem_map.1 hx
        have := HRI.out y (List.mem_of_mem_take hy)
        exact itS_size this.1 this.2)
      rw [hS.out, List.length_map, List.length_take] at h1
      have : min k causes.length * (2000000 + 1) ≤ 64 * (2000000 + 1) := Nat.mul_le_mul_right _ (by omega)
      omega
    by_cases hlt : k < cn
    · obtain ⟨b, off, x, rfl, hx, x0⟩ := get_int (HC.out.below HWR.out) hlt
      have hxb := HRI.out x (List.mem_of_getElem? hx)
      have hxs := itS_size hxb.1 hxb.2
      have HX := Lib.hid hx
      have HIT := Lib.hid (digs_any x (by omega) (by omega) wr)
      have i0 : (0 : Int) ≤ (k : Int) := by omega
      have i1 : (k : Int) < (cn : Int) := by omega
      have HT := Lib.hid (take_k hx)
      generalize hX : itS x = X at hxs HIT
      have HXX := Lib.hid hX
      clear hx hX
      by_cases h0 : k = 0
      · subst h0
        rw [Nat.add_zero] at x0
        have d0 : decide ((0 : Int) < ((0 : Nat) : Int)) = false := rfl
        have hS0 : S = ByteArray.empty := by rw [← hS.out]; rfl
        go_wp2_with fail
        refine HIT.out.mono ?_
        rintro e w3 ⟨rfl, hb3⟩
        have HW3 := Lib.hid (hkw.out.trans (hb3.mono hlt2))
        clear hb3 x0 a5
        go_wp2_with fail
        exact ⟨⟨1, _, by omega, rfl, by go_num, Lib.hid (by rw [HT.out, List.map_append, List.take_zero, List.map_nil, List.nil_append, List.map_cons, List.map_nil, joinS_one, HXX.out]; first | done | (rw [hS0]; first | done | simp)), HW3⟩, by simp [intOf]; omega⟩
      · have d0 : decide ((0 : Int) < (k : Int)) = true := decide_eq_true (by omega)
        go_wp2_with fail
        refine HIT.out.mono ?_
        rintro e w3 ⟨rfl, hb3⟩
        have HW3 := Lib.hid (hkw.out.trans (hb3.mono hlt2))
        clear hb3 x0 a5
        go_wp2_with fail
        exact ⟨⟨k + 1, _, by omega, rfl, by go_num, Lib.hid (by
          obtain ⟨y, ys, hys⟩ : ∃ y ys, (causes.take k).map itS = y :: ys := by
            rcases hq : (causes.take k).map itS with _ | ⟨y, ys⟩
            · have := congrArg List.length hq
              rw [List.length_map, List.length_take, List.length_nil] at this
              omega
            · exact ⟨y, ys, rfl⟩
          rw [HT.out, List.map_append, hys, List.map_cons, List.map_nil, joinS_more, ← hys, hS.out, HXX.out]), HW3⟩, by simp [intOf]; omega⟩
    · have hkn : cn = k := by omega
      subst hkn
      obtain ⟨J, hJJ⟩ : ∃ J, joinS (causes.map itS) = J := ⟨_, rfl⟩
      have hSJ : S = J := by rw [← hS.out, ← hJJ, List.take_of_length_le (by omega)]
      subst hSJ
      have HJJ := Lib.hid hJJ
      clear hJJ hS hlt
      go_wp2_with fail
      refine wp_region_book2 (fun done vs W => Cst [(0, .string nm), (1, (.pointer (some ⟨w.heap.size, 0, none⟩))), (2, .string ins), (3, (.pointer (some ⟨w.heap.size, 1, none⟩))), (4, .string fr), (5, .agg #[.string ⟨#[102, 114, 111, 109]⟩, .string fr]), (6, (.pointer (some ⟨w.heap.size, 2, none⟩))), (7, .string dst), (8, .agg #[.string ⟨#[116, 111]⟩, .string dst]), (9, (.pointer (some ⟨w.heap.size, 3, none⟩))), (10, .int .i64 sum), (11, .string (itS sum)), (12, .agg #[.string ⟨#[115, 117, 109]⟩, .string (itS sum)]), (13, (.pointer (some ⟨w.heap.size, 4, none⟩))), (14, .int .i64 own), (15, .string (itS own)), (16, .agg #[.string ⟨#[111, 119, 110]⟩, .string (itS own)]), (17, (.pointer (some ⟨w.heap.size, 8, none⟩))), (18, .int .i64 share), (19, .string (itS share)), (20, .agg #[.string ⟨#[115, 104, 97, 114, 101]⟩, .string (itS share)]), (21, (.pointer (some ⟨w.heap.size, 6, none⟩))), (22, .int .i64 first), (23, .string (itS first)), (24, .agg #[.string ⟨#[102, 105, 114, 115, 116]⟩, .string (itS first)]), (25, (.pointer (some ⟨w.heap.size, 7, none⟩))), (26, .int .i64 last), (27, .string (itS last)), (28, .agg #[.string ⟨#[108, 97, 115, 116]⟩, .string (itS last)]), (29, .string S), (30, .agg #[.string ⟨#[99, 97, 117, 115, 101, 115]⟩, .string S])] done vs ∧ DIp w (w.heap.size + 1) #[.string ins, .string fr, .string dst, .int .i64 sum, .int .i64 own, .slice cA cn cc, .int .i64 first, .int .i64 last, .int .i64 share] none 0 [] (txV fr dst sum own share first last S) (fsV fr dst sum own share first last S) nm ins false (done 31) (done 32) (done 33) undef (vs 31) (vs 32) W) (by kernel_rfl) (by kernel_rfl) ?_ ?_ ?_
      · exact ⟨Cst.none_ _ _, ⟨HWR.out.drew, HP1.out.drew, SliceOf.none_, ⟨_, HR1.out.drew, rfl, fun h => (by cases h)⟩, fun h => (by cases h), fun h => (by cases h), fun h => (by cases h), fun _ => rfl⟩⟩
      · refine ⟨?_, ?_, ?_, ?_, ?_, ?_, ?_, ?_, ?_, ?_, ?_, ?_, ?_, ?_, ?_, ?_, ?_, ?_, ?_, ?_, ?_, ?_, ?_, ?_, ?_, ?_, ?_, ?_, ?_, ?_, ?_, ?_, ?_, ?_, trivial⟩
        all_goals intro done vs ac W1 hnd hdep hJ hE hsz
        all_goals have ec : ∀ v : Value, ac.eval (.const v) = v := fun _ => rfl
        all_goals simp [Region.binds] at hdep

        · have e : ac.eval (.tmp 1) = .string nm := (hE 1 (by simp)).trans (by simp [evF, Act.eval])
          exact wp_value (.string nm) (by unfold execOp; simp only [e]; rfl) ⟨_, rfl, ⟨hJ.1.up 0 (.string nm) (by simp), hJ.2⟩⟩
        · have e : ac.eval (.tmp 2) = (.pointer (some ⟨w.heap.size, 0, none⟩)) := (hE 2 (by simp)).trans (by simp [evF, Act.eval])
          exact wp_value (.pointer (some ⟨w.heap.size, 0, none⟩)) (by unfold execOp; simp only [e]; kernel_rfl) ⟨_, rfl, ⟨hJ.1.up 1 ((.pointer (some ⟨w.heap.size, 0, none⟩))) (by simp), hJ.2⟩⟩
        · have e : ac.eval (.tmp 27) = (.pointer (some ⟨w.heap.size, 0, none⟩)) := (hE 27 (by simp)).trans (by simp [evF, hdep, hJ.1 (1, (.pointer (some ⟨w.heap.size, 0, none⟩))) (by simp) hdep])
          (have hc : W1.cell? ⟨w.heap.size, 0, none⟩ = some (.string ins) := hJ.2.pk.cell 0; exact wp_value (.string ins) (by unfold execOp; simp only [e]; go_simp) ⟨_, rfl, ⟨hJ.1.up 2 (.string ins) (by simp), hJ.2⟩⟩)
        · have e : ac.eval (.tmp 2) = (.pointer (some ⟨w.heap.size, 0, none⟩)) := (hE 2 (by simp)).trans (by simp [evF, Act.eval])
          exact wp_value (.pointer (some ⟨w.heap.size, 1, none⟩)) (by unfold execOp; simp only [e]; kernel_rfl) ⟨_, rfl, ⟨hJ.1.up 3 ((.pointer (some ⟨w.heap.size, 1, none⟩))) (by simp), hJ.2⟩⟩
        · have e : ac.eval (.tmp 29) = (.pointer (some ⟨w.heap.size, 1, none⟩)) := (hE 29 (by simp)).trans (by simp [evF, hdep, hJ.1 (3, (.pointer (some ⟨w.heap.size, 1, none⟩))) (by simp) hdep])
          (have hc : W1.cell? ⟨w.heap.size, 1, none⟩ = some (.string fr) := hJ.2.pk.cell 1; exact wp_value (.string fr) (by unfold execOp; simp only [e]; go_simp) ⟨_, rfl, ⟨hJ.1.up 4 (.string fr) (by simp), hJ.2⟩⟩)
        · have e30 : ac.eval (.tmp 30) = .string fr := (hE 30 (by simp)).trans (by simp [evF, hdep, hJ.1 (4, .string fr) (by simp) (by simp [hdep])])
          exact wp_value (.agg #[.string ⟨#[102, 114, 111, 109]⟩, .string fr]) (by unfold execOp; simp [e30, ec]; kernel_rfl) ⟨_, rfl, ⟨hJ.1.up 5 (.agg #[.string ⟨#[102, 114, 111, 109]⟩, .string fr]) (by simp), hJ.2⟩⟩
        · have e : ac.eval (.tmp 2) = (.pointer (some ⟨w.heap.size, 0, none⟩)) := (hE 2 (by simp)).trans (by simp [evF, Act.eval])
          exact wp_value (.pointer (some ⟨w.heap.size, 2, none⟩)) (by unfold execOp; simp only [e]; kernel_rfl) ⟨_, rfl, ⟨hJ.1.up 6 ((.pointer (some ⟨w.heap.size, 2, none⟩))) (by simp), hJ.2⟩⟩
        · have e : ac.eval (.tmp 32) = (.pointer (some ⟨w.heap.size, 2, none⟩)) := (hE 32 (by simp)).trans (by simp [evF, hdep, hJ.1 (6, (.pointer (some ⟨w.heap.size, 2, none⟩))) (by simp) hdep])
          (have hc : W1.cell? ⟨w.heap.size, 2, none⟩ = some (.string dst) := hJ.2.pk.cell 2; exact wp_value (.string dst) (by unfold execOp; simp only [e]; go_simp) ⟨_, rfl, ⟨hJ.1.up 7 (.string dst) (by simp), hJ.2⟩⟩)
        · have e33 : ac.eval (.tmp 33) = .string dst := (hE 33 (by simp)).trans (by simp [evF, hdep, hJ.1 (7, .string dst) (by simp) (by simp [hdep])])
          exact wp_value (.agg #[.string ⟨#[116, 111]⟩, .string dst]) (by unfold execOp; simp [e33, ec]; kernel_rfl) ⟨_, rfl, ⟨hJ.1.up 8 (.agg #[.string ⟨#[116, 111]⟩, .string dst]) (by simp), hJ.2⟩⟩
        · have e : ac.eval (.tmp 2) = (.pointer (some ⟨w.heap.size, 0, none⟩)) := (hE 2 (by simp)).trans (by simp [evF, Act.eval])
          exact wp_value (.pointer (some ⟨w.heap.size, 3, none⟩)) (by unfold execOp; simp only [e]; kernel_rfl) ⟨_, rfl, ⟨hJ.1.up 9 ((.pointer (some ⟨w.heap.size, 3, none⟩))) (by simp), hJ.2⟩⟩
        · have e : ac.eval (.tmp 35) = (.pointer (some ⟨w.heap.size, 3, none⟩)) := (hE 35 (by simp)).trans (by simp [evF, hdep, hJ.1 (9, (.pointer (some ⟨w.heap.size, 3, none⟩))) (by simp) hdep])
          (have hc : W1.cell? ⟨w.heap.size, 3, none⟩ = some (.int .i64 sum) := hJ.2.pk.cell 3; exact wp_value (.int .i64 sum) (by unfold execOp; simp only [e]; go_simp) ⟨_, rfl, ⟨hJ.1.up 10 (.int .i64 sum) (by simp), hJ.2⟩⟩)
        · have e : ac.eval (.tmp 36) = .int .i64 sum := (hE 36 (by simp)).trans (by simp [evF, hdep, hJ.1 (10, .int .i64 sum) (by simp) (by simp [hdep])])
          (refine wp_call_fn 22 _ _ rfl (enters_fn Tryd.func22 (by kernel_rfl) rfl) #[.int .i64 sum] (by simp [e]) ?_; refine (digs_any sum HI.out.1.1 HI.out.1.2 W1).mono ?_; rintro e9 w9 ⟨rfl, hb⟩; exact ⟨_, rfl, _, rfl, ⟨hJ.1.up 11 (.string (itS sum)) (by simp), hJ.2.below hb⟩⟩)
        · have e37 : ac.eval (.tmp 37) = .string (itS sum) := (hE 37 (by simp)).trans (by simp [evF, hdep, hJ.1 (11, .string (itS sum)) (by simp) (by simp [hdep])])
          exact wp_value (.agg #[.string ⟨#[115, 117, 109]⟩, .string (itS sum)]) (by unfold execOp; simp [e37, ec]; kernel_rfl) ⟨_, rfl, ⟨hJ.1.up 12 (.agg #[.string ⟨#[115, 117, 109]⟩, .string (itS sum)]) (by simp), hJ.2⟩⟩
        · have e : ac.eval (.tmp 2) = (.pointer (some ⟨w.heap.size, 0, none⟩)) := (hE 2 (by simp)).trans (by simp [evF, Act.eval])
          exact wp_value (.pointer (some ⟨w.heap.size, 4, none⟩)) (by unfold execOp; simp only [e]; kernel_rfl) ⟨_, rfl, ⟨hJ.1.up 13 ((.pointer (some ⟨w.heap.size, 4, none⟩))) (by simp), hJ.2⟩⟩
        · have e : ac.eval (.tmp 39) = (.pointer (some ⟨w.heap.size, 4, none⟩)) := (hE 39 (by simp)).trans (by simp [evF, hdep, hJ.1 (13, (.pointer (some ⟨w.heap.size, 4, none⟩))) (by simp) hdep])
          (have hc : W1.cell? ⟨w.heap.size, 4, none⟩ = some (.int .i64 own) := hJ.2.pk.cell 4; exact wp_value (.int .i64 own) (by unfold execOp; simp only [e]; go_simp) ⟨_, rfl, ⟨hJ.1.up 14 (.int .i64 own) (by simp), hJ.2⟩⟩)
        · have e : ac.eval (.tmp 40) = .int .i64 own := (hE 40 (by simp)).trans (by simp [evF, hdep, hJ.1 (14, .int .i64 own) (by simp) (by simp [hdep])])
          (refine wp_call_fn 22 _ _ rfl (enters_fn Tryd.func22 (by kernel_rfl) rfl) #[.int .i64 own] (by simp [e]) ?_; refine (digs_any own HI.out.2.1.1 HI.out.2.1.2 W1).mono ?_; rintro e9 w9 ⟨rfl, hb⟩; exact ⟨_, rfl, _, rfl, ⟨hJ.1.up 15 (.string (itS own)) (by simp), hJ.2.below hb⟩⟩)
        · have e41 : ac.eval (.tmp 41) = .string (itS own) := (hE 41 (by simp)).trans (by simp [evF, hdep, hJ.1 (15, .string (itS own)) (by simp) (by simp [hdep])])
          exact wp_value (.agg #[.string ⟨#[111, 119, 110]⟩, .string (itS own)]) (by unfold execOp; simp [e41, ec]; kernel_rfl) ⟨_, rfl, ⟨hJ.1.up 16 (.agg #[.string ⟨#[111, 119, 110]⟩, .string (itS own)]) (by simp), hJ.2⟩⟩
        · have e : ac.eval (.tmp 2) = (.pointer (some ⟨w.heap.size, 0, none⟩)) := (hE 2 (by simp)).trans (by simp [evF, Act.eval])
          exact wp_value (.pointer (some ⟨w.heap.size, 8, none⟩)) (by unfold execOp; simp only [e]; kernel_rfl) ⟨_, rfl, ⟨hJ.1.up 17 ((.pointer (some ⟨w.heap.size, 8, none⟩))) (by simp), hJ.2⟩⟩
        · have e : ac.eval (.tmp 43) = (.pointer (some ⟨w.heap.size, 8, none⟩)) := (hE 43 (by simp)).trans (by simp [evF, hdep, hJ.1 (17, (.pointer (some ⟨w.heap.size, 8, none⟩))) (by simp) hdep])
          (have hc : W1.cell? ⟨w.heap.size, 8, none⟩ = some (.int .i64 share) := hJ.2.pk.cell 8; exact wp_value (.int .i64 share) (by unfold execOp; simp only [e]; go_simp) ⟨_, rfl, ⟨hJ.1.up 18 (.int .i64 share) (by simp), hJ.2⟩⟩)
        · have e : ac.eval (.tmp 44) = .int .i64 share := (hE 44 (by simp)).trans (by simp [evF, hdep, hJ.1 (18, .int .i64 share) (by simp) (by simp [hdep])])
          (refine wp_call_fn 22 _ _ rfl (enters_fn Tryd.func22 (by kernel_rfl) rfl) #[.int .i64 share] (by simp [e]) ?_; refine (digs_any share HI.out.2.2.1.1 HI.out.2.2.1.2 W1).mono ?_; rintro e9 w9 ⟨rfl, hb⟩; exact ⟨_, rfl, _, rfl, ⟨hJ.1.up 19 (.string (itS share)) (by simp), hJ.2.below hb⟩⟩)
        · have e45 : ac.eval (.tmp 45) = .string (itS share) := (hE 45 (by simp)).trans (by simp [evF, hdep, hJ.1 (19, .string (itS share)) (by simp) (by simp [hdep])])
          exact wp_value (.agg #[.string ⟨#[115, 104, 97, 114, 101]⟩, .string (itS share)]) (by unfold execOp; simp [e45, ec]; kernel_rfl) ⟨_, rfl, ⟨hJ.1.up 20 (.agg #[.string ⟨#[115, 104, 97, 114, 101]⟩, .string (itS share)]) (by simp), hJ.2⟩⟩
        · have e : ac.eval (.tmp 2) = (.pointer (some ⟨w.heap.size, 0, none⟩)) := (hE 2 (by simp)).trans (by simp [evF, Act.eval])
          exact wp_value (.pointer (some ⟨w.heap.size, 6, none⟩)) (by unfold execOp; simp only [e]; kernel_rfl) ⟨_, rfl, ⟨hJ.1.up 21 ((.pointer (some ⟨w.heap.size, 6, none⟩))) (by simp), hJ.2⟩⟩
        · have e : ac.eval (.tmp 47) = (.pointer (some ⟨w.heap.size, 6, none⟩)) := (hE 47 (by simp)).trans (by simp [evF, hdep, hJ.1 (21, (.pointer (some ⟨w.heap.size, 6, none⟩))) (by simp) hdep])
          (have hc : W1.cell? ⟨w.heap.size, 6, none⟩ = some (.int .i64 first) := hJ.2.pk.cell 6; exact wp_value (.int .i64 first) (by unfold execOp; simp only [e]; go_simp) ⟨_, rfl, ⟨hJ.1.up 22 (.int .i64 first) (by simp), hJ.2⟩⟩)
        · have e : ac.eval (.tmp 48) = .int .i64 first := (hE 48 (by simp)).trans (by simp [evF, hdep, hJ.1 (22, .int .i64 first) (by simp) (by simp [hdep])])
          (refine wp_call_fn 22 _ _ rfl (enters_fn Tryd.func22 (by kernel_rfl) rfl) #[.int .i64 first] (by simp [e]) ?_; refine (digs_any first HI.out.2.2.2.1.1 HI.out.2.2.2.1.2 W1).mono ?_; rintro e9 w9 ⟨rfl, hb⟩; exact ⟨_, rfl, _, rfl, ⟨hJ.1.up 23 (.string (itS first)) (by simp), hJ.2.below hb⟩⟩)
        · have e49 : ac.eval (.tmp 49) = .string (itS first) := (hE 49 (by simp)).trans (by simp [evF, hdep, hJ.1 (23, .string (itS first)) (by simp) (by simp [hdep])])
          exact wp_value (.agg #[.string ⟨#[102, 105, 114, 115, 116]⟩, .string (itS first)]) (by unfold execOp; simp [e49, ec]; kernel_rfl) ⟨_, rfl, ⟨hJ.1.up 24 (.agg #[.string ⟨#[102, 105, 114, 115, 116]⟩, .string (itS first)]) (by simp), hJ.2⟩⟩
        · have e : ac.eval (.tmp 2) = (.pointer (some ⟨w.heap.size, 0, none⟩)) := (hE 2 (by simp)).trans (by simp [evF, Act.eval])
          exact wp_value (.pointer (some ⟨w.heap.size, 7, none⟩)) (by unfold execOp; simp only [e]; kernel_rfl) ⟨_, rfl, ⟨hJ.1.up 25 ((.pointer (some ⟨w.heap.size, 7, none⟩))) (by simp), hJ.2⟩⟩
        · have e : ac.eval (.tmp 51) = (.pointer (some ⟨w.heap.size, 7, none⟩)) := (hE 51 (by simp)).trans (by simp [evF, hdep, hJ.1 (25, (.pointer (some ⟨w.heap.size, 7, none⟩))) (by simp) hdep])
          (have hc : W1.cell? ⟨w.heap.size, 7, none⟩ = some (.int .i64 last) := hJ.2.pk.cell 7; exact wp_value (.int .i64 last) (by unfold execOp; simp only [e]; go_simp) ⟨_, rfl, ⟨hJ.1.up 26 (.int .i64 last) (by simp), hJ.2⟩⟩)
        · have e : ac.eval (.tmp 52) = .int .i64 last := (hE 52 (by simp)).trans (by simp [evF, hdep, hJ.1 (26, .int .i64 last) (by simp) (by simp [hdep])])
          (refine wp_call_fn 22 _ _ rfl (enters_fn Tryd.func22 (by kernel_rfl) rfl) #[.int .i64 last] (by simp [e]) ?_; refine (digs_any last HI.out.2.2.2.2.1 HI.out.2.2.2.2.2 W1).mono ?_; rintro e9 w9 ⟨rfl, hb⟩; exact ⟨_, rfl, _, rfl, ⟨hJ.1.up 27 (.string (itS last)) (by simp), hJ.2.below hb⟩⟩)
        · have e53 : ac.eval (.tmp 53) = .string (itS last) := (hE 53 (by simp)).trans (by simp [evF, hdep, hJ.1 (27, .string (itS last)) (by simp) (by simp [hdep])])
          exact wp_value (.agg #[.string ⟨#[108, 97, 115, 116]⟩, .string (itS last)]) (by unfold execOp; simp [e53, ec]; kernel_rfl) ⟨_, rfl, ⟨hJ.1.up 28 (.agg #[.string ⟨#[108, 97, 115, 116]⟩, .string (itS last)]) (by simp), hJ.2⟩⟩
        · have e : ac.eval (.tmp 5) = .string S := (hE 5 (by simp)).trans (by simp [evF, Act.eval])
          exact wp_value (.string S) (by unfold execOp; simp only [e]; rfl) ⟨_, rfl, ⟨hJ.1.up 29 (.string S) (by simp), hJ.2⟩⟩
        · have e55 : ac.eval (.tmp 55) = .string S := (hE 55 (by simp)).trans (by simp [evF, hdep, hJ.1 (29, .string S) (by simp) (by simp [hdep])])
          exact wp_value (.agg #[.string ⟨#[99, 97, 117, 115, 101, 115]⟩, .string S]) (by unfold execOp; simp [e55, ec]; kernel_rfl) ⟨_, rfl, ⟨hJ.1.up 30 (.agg #[.string ⟨#[99, 97, 117, 115, 101, 115]⟩, .string S]) (by simp), hJ.2⟩⟩
        · have e31 : ac.eval (.tmp 31) = .agg #[.string ⟨#[102, 114, 111, 109]⟩, .string fr] := (hE 31 (by simp)).trans (by simp [evF, hdep, hJ.1 (5, .agg #[.string ⟨#[102, 114, 111, 109]⟩, .string fr]) (by simp) (by simp [hdep])])
          have e34 : ac.eval (.tmp 34) = .agg #[.string ⟨#[116, 111]⟩, .string dst] := (hE 34 (by simp)).trans (by simp [evF, hdep, hJ.1 (8, .agg #[.string ⟨#[116, 111]⟩, .string dst]) (by simp) (by simp [hdep])])
          have e38 : ac.eval (.tmp 38) = .agg #[.string ⟨#[115, 117, 109]⟩, .string (itS sum)] := (hE 38 (by simp)).trans (by simp [evF, hdep, hJ.1 (12, .agg #[.string ⟨#[115, 117, 109]⟩, .string (itS sum)]) (by simp) (by simp [hdep])])
          have e42 : ac.eval (.tmp 42) = .agg #[.string ⟨#[111, 119, 110]⟩, .string (itS own)] := (hE 42 (by simp)).trans (by simp [evF, hdep, hJ.1 (16, .agg #[.string ⟨#[111, 119, 110]⟩, .string (itS own)]) (by simp) (by simp [hdep])])
          have e46 : ac.eval (.tmp 46) = .agg #[.string ⟨#[115, 104, 97, 114, 101]⟩, .string (itS share)] := (hE 46 (by simp)).trans (by simp [evF, hdep, hJ.1 (20, .agg #[.string ⟨#[115, 104, 97, 114, 101]⟩, .string (itS share)]) (by simp) (by simp [hdep])])
          have e50 : ac.eval (.tmp 50) = .agg #[.string ⟨#[102, 105, 114, 115, 116]⟩, .string (itS first)] := (hE 50 (by simp)).trans (by simp [evF, hdep, hJ.1 (24, .agg #[.string ⟨#[102, 105, 114, 115, 116]⟩, .string (itS first)]) (by simp) (by simp [hdep])])
          have e54 : ac.eval (.tmp 54) = .agg #[.string ⟨#[108, 97, 115, 116]⟩, .string (itS last)] := (hE 54 (by simp)).trans (by simp [evF, hdep, hJ.1 (28, .agg #[.string ⟨#[108, 97, 115, 116]⟩, .string (itS last)]) (by simp) (by simp [hdep])])
          have e56 : ac.eval (.tmp 56) = .agg #[.string ⟨#[99, 97, 117, 115, 101, 115]⟩, .string S] := (hE 56 (by simp)).trans (by simp [evF, hdep, hJ.1 (30, .agg #[.string ⟨#[99, 97, 117, 115, 101, 115]⟩, .string S]) (by simp) (by simp [hdep])])
          have h := hJ.2
          rw [hnd] at h
          obtain ⟨cs, r1, _⟩ := hJ.2.rk
          refine wp_buildSlice 27 48 8 _ rfl #[(0, .agg #[.string ⟨#[102, 114, 111, 109]⟩, .string fr]), (1, .agg #[.string ⟨#[116, 111]⟩, .string dst]), (2, .agg #[.string ⟨#[115, 117, 109]⟩, .string (itS sum)]), (3, .agg #[.string ⟨#[111, 119, 110]⟩, .string (itS own)]), (4, .agg #[.string ⟨#[115, 104, 97, 114, 101]⟩, .string (itS share)]), (5, .agg #[.string ⟨#[102, 105, 114, 115, 116]⟩, .string (itS first)]), (6, .agg #[.string ⟨#[108, 97, 115, 116]⟩, .string (itS last)]), (7, .agg #[.string ⟨#[99, 97, 117, 115, 101, 115]⟩, .string S])] (by simp [e31, e34, e38, e42, e46, e50, e54, e56]) _ (bs8f fr dst (itS sum) (itS own) (itS share) (itS first) (itS last) S W1) ⟨_, rfl, ⟨hJ.1.up 31 _ (by simp), h.fields_ (one_alloc W1 _) (fun x off e => by have := r1.lt; injection e with e; injection e with e1 e2; omega) (SliceOf.blk (en := fdC) (Blk.new_at W1 48 _ _ rfl) (fsV fr dst sum own share first last S) rfl (fun _ => rfl) rfl)⟩⟩
        · have e26 : ac.eval (.tmp 26) = .string nm := (hE 26 (by simp)).trans (by simp [evF, hdep, hJ.1 (0, .string nm) (by simp) (by simp [hdep])])
          have e28 : ac.eval (.tmp 28) = .string ins := (hE 28 (by simp)).trans (by simp [evF, hdep, hJ.1 (2, .string ins) (by simp) (by simp [hdep])])
          obtain ⟨A, c, x1, x2, x3⟩ := hJ.2.s25 (by simp [hdep])
          have h := hJ.2
          rw [hnd, show done 31 = true by simp [hdep]] at h
          have e57 : ac.eval (.tmp 57) = .slice A 8 c := (hE 57 (by simp)).trans (by simp [evF, hdep, x2])
          refine wp_value (.agg #[.int .i64 3, .string nm, .string ins, vs 31]) (by unfold execOp; rw [x2]; simp [e26, e28, e57, ec]; kernel_rfl) ⟨_, rfl, ⟨hJ.1.up 32 _ (by simp), ?_⟩⟩
          show DIp _ _ _ _ _ _ _ _ _ _ false (done 31) true (done 33) undef (vs 31) _ W1
          rw [show done 31 = true by simp [hdep]]
          exact h.built
        · have h := hJ.2
          have d25 : done 31 = true := (hJ.2.s26 (by simp [hdep])).1
          rw [hnd, d25, show done 32 = true by simp [hdep]] at h
          obtain ⟨old, cells, q1, q2, q3, q4, q5, q6⟩ := h.stored (Nat.lt_succ_self _) (fun x off e => by cases e)
          have e : ac.eval (.tmp 4) = (.pointer (some ⟨w.heap.size + 1, 0, none⟩)) := (hE 4 (by simp)).trans (by simp [evF, Act.eval])
          have e' : ac.eval (.tmp 58) = .agg cells := (hE 58 (by simp)).trans (by simp [evF, hdep, q1])
          refine wp_store_row 29 _ _ rfl (w.heap.size + 1) cells e e' 29 old q2 (by rw [q4]; kernel_rfl) (by rw [q3, q4]) q5 ⟨_, rfl, ⟨hJ.1.up 33 _ (by simp), ?_⟩⟩
          show DIp _ _ _ _ _ _ _ _ _ _ false (done 31) (done 32) true undef (vs 31) (vs 32) _
          rw [d25, show done 32 = true by simp [hdep]]
          exact q6
      · intro done vs W hall hJ
        obtain ⟨A, c, x1, x2, x3⟩ := hJ.2.s25 (hall 31 (by simp))
        obtain ⟨_, y2⟩ := hJ.2.s26 (hall 32 (by simp))
        obtain ⟨cs, r1, r2, r3⟩ := hJ.2.rk
        obtain ⟨_, z2⟩ := r3 (hall 33 (by simp))
        rw [y2, x2] at z2
        injection z2 with z2
        subst z2
        have HBW := Lib.hid hJ.2.bw
        have X3 := Lib.hid x3
        have q0 := r1.cell 0; have q1 := r1.cell 1; have q2 := r1.cell 2; have q3 := r1.cell 3
        simp only [List.getElem?_toArray, List.getElem?_cons_zero, List.getElem?_cons_succ] at q0 q1 q2 q3
        simp only [fillA, Act.put, List.setIfInBounds_toArray, List.set_cons_zero, List.set_cons_succ, if_true]
        clear hJ hall x1 x2 x3 y2 r1 r2 r3
        go_wp2_with fail
        refine bodyPost_ret (v := .agg #[.int .i64 3, .string nm, .string ins, .slice A 8 c]) (by simp [results, Tryd.results12, go_sem, q0, q1, q2, q3]) rfl ?_
        exact ⟨A, c, rfl, by rw [HJJ.out]; exact X3.out, HBW.out⟩
end Go.Proofs.YtldjohmdlggmeaaDoor.kit
