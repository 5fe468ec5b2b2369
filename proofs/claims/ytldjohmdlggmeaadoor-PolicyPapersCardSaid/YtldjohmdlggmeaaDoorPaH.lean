/- policy.Doc of one that may be. Condition: the table of powers of ten. -/
import Derived.Test.YtldjohmdlggmeaaDoorPaG
import Derived.Test.YtldjohmdlggmeaaDoorDec
namespace Go.Proofs.YtldjohmdlggmeaaDoor.kit
open Go.RowKit Go.PlainAid
set_option linter.unusedVariables false

theorem rises_mem {top : Int} : ∀ {xs : List Int} {p : Int}, risesF top p xs = true → ∀ x ∈ xs, 0 ≤ x ∧ x ≤ top
  | [], _, _, x, hx => by simp at hx
  | y :: ys, p, h, x, hx => by
    simp only [risesF, Bool.and_eq_true, decide_eq_true_eq] at h
    rcases List.mem_cons.1 hx with rfl | hx
    · exact ⟨h.1.2.1, h.1.2.2⟩
    · exact rises_mem h.2 x hx
theorem itS_size {n : Int} (h0 : 0 ≤ n) (h1 : n ≤ 1048576) : (itS n).size ≤ 2000000 := by
  obtain ⟨m, rfl⟩ : ∃ m : Nat, n = m := ⟨n.toNat, by omega⟩
  rw [itS_nat, size_bstr]
  have := dec_le m
  omega
theorem take16 (a0 a1 a2 a3 a4 a5 a6 a7 a8 a9 a10 a11 a12 a13 a14 a15 : ByteArray) : pairF ([a0, a1, a2, a3, a4, a5, a6, a7, a8, a9, a10, a11, a12, a13, a14, a15].take (2 * 8)) = [(a0, a1), (a2, a3), (a4, a5), (a6, a7), (a8, a9), (a10, a11), (a12, a13), (a14, a15)] := rfl
theorem mk_any (n : Nat) (hn : n ≤ 64) (w : World) : ∃ cs : Array Value, cs.size = n ∧ (Instr.makeSlice 40 (.int .i64 (n : Int)) (.int .i64 (n : Int))).run Tryd.prog w = .ok (.slice (some ⟨w.heap.size, 0, none⟩) n n) (w.alloc (.cells cs 9)) := by
  obtain ⟨i0, hi, hz0, hz1, hz2⟩ := info_parts (show (Tryd.prog.info? 9).map (fun i => (i.zero, i.size, i.bytes)) = some (some (.string ByteArray.empty), 1, 16) by kernel_rfl)
  have h := run_make (P := Tryd.prog) w 40 9 i0 _ Tryd.underlying40 hi hz0 .i64 .i64 (n : Int) (n : Int) (by omega) (Int.le_refl _) (by rw [hz2]; omega) (by omega)
  simp only [Int.toNat_natCast] at h
  exact ⟨_, by rw [size_madeCells, hz1, Nat.mul_one], h⟩
/-- What policy.Doc gives. -/
def DocIs (w : World) (nm ins : ByteArray) (FS : List Fd) (e : Ending) (w' : World) : Prop :=
  ∃ A c, e = .returned (.tuple #[.agg #[.int .i64 3, .string nm, .string ins, .slice A 8 c], .int .i64 0]) ∧ SliceOf w' 2 fdC A 8 FS ∧ Below w.heap.size w w'
set_option maxRecDepth 100000 in
set_option maxHeartbeats 12800000 in
theorem doc_ok (p : Pol) (nm : ByteArray) (w : World) (hp : p.ok w) (hn : nm.size ≤ maxLen) (hm : mayP p = true) (hnm : nameB nm.data.toList = true) (ht : PowTab w) :
    Calls Tryd.prog 6 #[.agg #[.string p.ins, .string p.fr, .string p.dst, .int .i64 p.sum, .int .i64 p.own, .slice p.cA p.cn p.cc, .int .i64 p.first, .int .i64 p.last, .int .i64 p.share], .string nm] w (DocIs w nm p.ins (fsV p.fr p.dst p.sum p.own p.share p.first p.last (joinS (p.causes.map itS)))) := by
  have HM := Lib.hid (fun (W : World) (hb : Below w.heap.size w W) => may_any p W (hp.below hb))
  have HNM := Lib.hid (fun (W : World) => name_any nm W hn)
  have HTB := Lib.hid (Lib.tabBelow_of_tabIs ht)
  have hmi := may_iff hm
  rw [hm] at HM
  rw [hnm] at HNM
  have hC := hp.c
  have hnc := hp.nc
  clear hm hnm ht hp hn
  obtain ⟨ins, fr, dst, sum, own, cA, cn, cc, first, last, share, causes⟩ := p
  dsimp only at HM hmi hC hnc ⊢
  have HC := Lib.hid hC
  have hl := hC.len
  obtain ⟨b1, b2, b3, b4, b5, b6⟩ := hmi
  unfold causesB at b6
  rw [Bool.and_eq_true, decide_eq_true_eq] at b6
  have hcn : cn ≤ 64 := by omega
  have HRI := Lib.hid (rises_mem b6.2)
  have hI1 : I64 sum := ⟨by omega, by omega⟩
  have hI2 : I64 own := ⟨by omega, by omega⟩
  have hI3 : I64 share := ⟨by omega, by omega⟩
  have hI4 : I64 first := ⟨by omega, by omega⟩
  have hI5 : I64 last := ⟨by omega, by omega⟩
  have HI := Lib.hid (⟨hI1, hI2, hI3, hI4, hI5⟩ : I64 sum ∧ I64 own ∧ I64 share ∧ I64 first ∧ I64 last)
  clear hC b1 b2 b3 b4 b5 b6 hI1 hI2 hI3 hI4 hI5
  have hB0 : Below w.heap.size w ((w.alloc (.cells #[.string ins, .string fr, .string dst, .int .i64 sum, .int .i64 own, .slice cA cn cc, .int .i64 first, .int .i64 last, .int .i64 share] 24)).alloc (.cells #[.int .i64 0, .string ⟨#[]⟩, .string ⟨#[]⟩, .slice none 0 0] 29)) := two_alloc _ _ _
  have hp0 : Blk ((w.alloc (.cells #[.string ins, .string fr, .string dst, .int .i64 sum, .int .i64 own, .slice cA cn cc, .int .i64 first, .int .i64 last, .int .i64 share] 24)).alloc (.cells #[.int .i64 0, .string ⟨#[]⟩, .string ⟨#[]⟩, .slice none 0 0] 29)) w.heap.size 24 #[.string ins, .string fr, .string dst, .int .i64 sum, .int .i64 own, .slice cA cn cc, .int .i64 first, .int .i64 last, .int .i64 share] := (Blk.new _ _ _).alloc _
  have hr0 : Blk ((w.alloc (.cells #[.string ins, .string fr, .string dst, .int .i64 sum, .int .i64 own, .slice cA cn cc, .int .i64 first, .int .i64 last, .int .i64 share] 24)).alloc (.cells #[.int .i64 0, .string ⟨#[]⟩, .string ⟨#[]⟩, .slice none 0 0] 29)) (w.heap.size + 1) 29 #[.int .i64 0, .string ⟨#[]⟩, .string ⟨#[]⟩, .slice none 0 0] := blk_second _ _ _ _
  have a0 := hp0.cell 0; have a1 := hp0.cell 1; have a2 := hp0.cell 2; have a3 := hp0.cell 3; have a4 := hp0.cell 4; have a5 := hp0.cell 5; have a6 := hp0.cell 6; have a7 := hp0.cell 7; have a8 := hp0.cell 8
  simp only [List.getElem?_toArray, List.getElem?_cons_zero, List.getElem?_cons_succ] at a0 a1 a2 a3 a4 a5 a6 a7 a8
  go_enter Tryd.func6, Tryd.ntmps6
  go_wp2_with fail
  refine (HM.out _ hB0).mono ?_
  rintro e w1 ⟨rfl, hb1⟩
  have HB1 := Lib.hid (hB0.trans (hb1.mono hB0.size))
  have HP1 := Lib.hid (hp0.below hb1 hp0.lt)
  have HR1 := Lib.hid (hr0.below hb1 hr0.lt)
  have c5 := cell_kept hb1 a5
  have hlt1 : w.heap.size + 1 < w1.heap.size := HR1.out.lt
  clear a0 a1 a2 a3 a4 a5 a6 a7 a8 hp0 hr0 hB0 hb1
  go_wp2_with fail
  refine (HNM.out _).mono ?_
  rintro e w2 ⟨rfl, rfl⟩
  obtain ⟨C0, hC0, hmk⟩ := mk_any cn hcn w1
  have HK0 := Lib.hid (Blk.new w1 9 C0)
  have HB0' := Lib.hid (one_alloc w1 (.cells C0 9))
  have HC0 := Lib.hid hC0
  have d5 := cell_kept HB0'.out c5
  obtain ⟨g, hg⟩ : ∃ g, w1.heap.size = g := ⟨_, rfl⟩
  rw [hg] at HK0 hmk hlt1 HB0'
  have HG := Lib.hid hg
  clear hC0 hg
  go_wp2_with fail
  go_loopw [25] (fun i wr => ∃ (k : Nat) (cs : Array Value), k ≤ cn ∧ i = .int .i64 k ∧ Hid (Blk wr g 9 cs) ∧ Hid (cs.size = cn) ∧ Hid (∀ j x, j < k → causes[j]? = some x → cs[j]? = some (.string (itS x))) ∧ Hid (Below g w1 wr)) (fun i _ => cn - (intOf i).toNat)
  case atStart => exact ⟨0, C0, by omega, rfl, HK0, HC0, Lib.hid (fun j x h => by omega), HB0'⟩
  case round =>
    obtain ⟨k, cs, hk, rfl, hkb, hks, hkc, hkw⟩ := hrel
    have hwr : Below w.heap.size w wr := HB1.out.trans (hkw.out.mono (by have := HB1.out.size; have := HG.out; omega))
    have HWR := Lib.hid hwr
    clear hwr
    by_cases hlt : k < cn
    · obtain ⟨b, off, x, rfl, hx, x0⟩ := get_int (HC.out.below HWR.out) hlt
      have hxb := HRI.out x (List.mem_of_getElem? hx)
      have HX := Lib.hid hx
      have HIT := Lib.hid (itoa_any x ⟨by omega, by omega⟩ wr (HTB.out.on HWR.out).here)
      have i0 : (0 : Int) ≤ (k : Int) := by omega
      have i1 : (k : Int) < (cn : Int) := by omega
      clear hx
      go_wp2_with fail
      refine HIT.out.mono ?_
      rintro e w3 ⟨rfl, hb3⟩
      have hk3 := hkb.out.below hb3 hkb.out.lt
      have q0 : w3.cell? ⟨g, k, none⟩ = some (cs[k]'(by have := hks.out; omega)) := by rw [hk3.cell k]; exact Array.getElem?_eq_getElem (by have := hks.out; omega)
      have f0 := hk3.frozen k
      have HK3 := Lib.hid (hk3.set_ k (.string (itS x)))
      have HW3 := Lib.hid ((hkw.out.trans (hb3.mono (by have := hkb.out.lt; omega))).setCell (p := ⟨g, k, none⟩) (Nat.le_refl g) (.string (itS x)))
      clear hk3 hb3 x0
      go_wp2_with fail
      exact ⟨⟨k + 1, _, by omega, by go_num, HK3, Lib.hid (by rw [Array.size_setIfInBounds]; exact hks.out), Lib.hid (fun j y hj hy => by
        by_cases e : j = k
        · subst e
          rw [HX.out] at hy
          injection hy with hy
          subst hy
          rw [Array.getElem?_setIfInBounds_self, if_pos (by have := hks.out; omega)]
        · rw [Array.getElem?_setIfInBounds_ne (fun h => e h.symm)]
          exact hkc.out j y (by omega) hy), HW3⟩, by simp [intOf]; omega⟩
    · have hkn : cn = k := by omega
      subst hkn
      have HT : Hid (SliceOf wr 1 strC (some ⟨g, 0, none⟩) cn (causes.map itS)) := Lib.hid ⟨by rw [List.length_map]; exact hl, .inr ⟨g, 0, rfl, hkb.out.lt, fun i x hx j v hv => by
        rw [List.getElem?_map] at hx
        obtain ⟨y, hy, rfl⟩ := Option.map_eq_some_iff.1 hx
        have hi := (List.getElem?_eq_some_iff.1 hy).1
        have hj : j = 0 := by
          have := (List.getElem?_eq_some_iff.1 hv).1
          simp [strC] at this
          exact this
        subst hj
        simp [strC] at hv
        subst hv
        rw [hkb.out.cell]
        simpa using hkc.out i y (by omega) hy⟩⟩
      have HTS : Hid (∀ x ∈ causes.map itS, x.size ≤ 2000000) := Lib.hid (fun x hx => by
        obtain ⟨y, hy, rfl⟩ := List.mem_map.1 hx
        have := HRI.out y hy
        exact itS_size this.1 this.2)
      have HP2 := Lib.hid (HP1.out.below hkw.out (by have := hlt1; omega))
      have HR2 := Lib.hid (HR1.out.below hkw.out hlt1)
      obtain ⟨J, hJJ⟩ : ∃ J, joinS (causes.map itS) = J := ⟨_, rfl⟩
      rw [hJJ]
      have HJJ := Lib.hid hJJ
      clear hJJ hkb hks hkc c5 d5 hmk HK0 HB0' hlt
      go_wp2_with fail
      refine wp_region_book2 (fun done vs W => Cst [(0, .string nm), (1, (.pointer (some ⟨w.heap.size, 0, none⟩))), (2, .string ins), (3, (.pointer (some ⟨w.heap.size, 1, none⟩))), (4, .string fr), (5, (.pointer (some ⟨w.heap.size, 2, none⟩))), (6, .string dst), (7, (.pointer (some ⟨w.heap.size, 3, none⟩))), (8, .int .i64 sum), (9, .string (itS sum)), (10, (.pointer (some ⟨w.heap.size, 4, none⟩))), (11, .int .i64 own), (12, .string (itS own)), (13, (.pointer (some ⟨w.heap.size, 8, none⟩))), (14, .int .i64 share), (15, .string (itS share)), (16, (.pointer (some ⟨w.heap.size, 6, none⟩))), (17, .int .i64 first), (18, .string (itS first)), (19, (.pointer (some ⟨w.heap.size, 7, none⟩))), (20, .int .i64 last), (21, .string (itS last)), (22, .slice (some ⟨g, 0, none⟩) cn cn), (23, .string J), (28, .int .i64 0)] done vs ∧ DIp w (w.heap.size + 1) #[.string ins, .string fr, .string dst, .int .i64 sum, .int .i64 own, .slice cA cn cc, .int .i64 first, .int .i64 last, .int .i64 share] (some ⟨g, 0, none⟩) cn (causes.map itS) (txV fr dst sum own share first last J) (fsV fr dst sum own share first last J) nm ins (done 24) (done 25) (done 26) (done 27) (vs 24) (vs 25) (vs 26) W) (by kernel_rfl) (by kernel_rfl) ?_ ?_ ?_
      · exact ⟨Cst.none_ _ _, ⟨HWR.out.drew, HP2.out.drew, HT.out.below (below_drewN (Below.refl _ _) 1), ⟨_, HR2.out.drew, rfl, fun h => (by cases h)⟩, fun h => (by cases h), fun h => (by cases h), fun h => (by cases h), fun _ => rfl⟩⟩
      · refine ⟨?_, ?_, ?_, ?_, ?_, ?_, ?_, ?_, ?_, ?_, ?_, ?_, ?_, ?_, ?_, ?_, ?_, ?_, ?_, ?_, ?_, ?_, ?_, ?_, ?_, ?_, ?_, ?_, ?_, trivial⟩
        all_goals intro done vs ac W1 hnd hdep hJ hE hsz
        all_goals have ec : ∀ v : Value, ac.eval (.const v) = v := fun _ => rfl
        all_goals simp [Region.binds] at hdep

        · have e : ac.eval (.tmp 1) = .string nm := (hE 1 (by simp)).trans (by simp [evF, Act.eval])
          exact wp_value (.string nm) (by unfold execOp; simp only [e]; rfl) ⟨_, rfl, ⟨hJ.1.up 0 (.string nm) (by simp), hJ.2⟩⟩
        · have e : ac.eval (.tmp 2) = (.pointer (some ⟨w.heap.size, 0, none⟩)) := (hE 2 (by simp)).trans (by simp [evF, Act.eval])
          exact wp_value (.pointer (some ⟨w.heap.size, 0, none⟩)) (by unfold execOp; simp only [e]; kernel_rfl) ⟨_, rfl, ⟨hJ.1.up 1 ((.pointer (some ⟨w.heap.size, 0, none⟩))) (by simp), hJ.2⟩⟩
        · have e : ac.eval (.tmp 37) = (.pointer (some ⟨w.heap.size, 0, none⟩)) := (hE 37 (by simp)).trans (by simp [evF, hdep, hJ.1 (1, (.pointer (some ⟨w.heap.size, 0, none⟩))) (by simp) hdep])
          (have hc : W1.cell? ⟨w.heap.size, 0, none⟩ = some (.string ins) := hJ.2.pk.cell 0; exact wp_value (.string ins) (by unfold execOp; simp only [e]; go_simp) ⟨_, rfl, ⟨hJ.1.up 2 (.string ins) (by simp), hJ.2⟩⟩)
        · have e : ac.eval (.tmp 2) = (.pointer (some ⟨w.heap.size, 0, none⟩)) := (hE 2 (by simp)).trans (by simp [evF, Act.eval])
          exact wp_value (.pointer (some ⟨w.heap.size, 1, none⟩)) (by unfold execOp; simp only [e]; kernel_rfl) ⟨_, rfl, ⟨hJ.1.up 3 ((.pointer (some ⟨w.heap.size, 1, none⟩))) (by simp), hJ.2⟩⟩
        · have e : ac.eval (.tmp 39) = (.pointer (some ⟨w.heap.size, 1, none⟩)) := (hE 39 (by simp)).trans (by simp [evF, hdep, hJ.1 (3, (.pointer (some ⟨w.heap.size, 1, none⟩))) (by simp) hdep])
          (have hc : W1.cell? ⟨w.heap.size, 1, none⟩ = some (.string fr) := hJ.2.pk.cell 1; exact wp_value (.string fr) (by unfold execOp; simp only [e]; go_simp) ⟨_, rfl, ⟨hJ.1.up 4 (.string fr) (by simp), hJ.2⟩⟩)
        · have e : ac.eval (.tmp 2) = (.pointer (some ⟨w.heap.size, 0, none⟩)) := (hE 2 (by simp)).trans (by simp [evF, Act.eval])
          exact wp_value (.pointer (some ⟨w.heap.size, 2, none⟩)) (by unfold execOp; simp only [e]; kernel_rfl) ⟨_, rfl, ⟨hJ.1.up 5 ((.pointer (some ⟨w.heap.size, 2, none⟩))) (by simp), hJ.2⟩⟩
        · have e : ac.eval (.tmp 41) = (.pointer (some ⟨w.heap.size, 2, none⟩)) := (hE 41 (by simp)).trans (by simp [evF, hdep, hJ.1 (5, (.pointer (some ⟨w.heap.size, 2, none⟩))) (by simp) hdep])
          (have hc : W1.cell? ⟨w.heap.size, 2, none⟩ = some (.string dst) := hJ.2.pk.cell 2; exact wp_value (.string dst) (by unfold execOp; simp only [e]; go_simp) ⟨_, rfl, ⟨hJ.1.up 6 (.string dst) (by simp), hJ.2⟩⟩)
        · have e : ac.eval (.tmp 2) = (.pointer (some ⟨w.heap.size, 0, none⟩)) := (hE 2 (by simp)).trans (by simp [evF, Act.eval])
          exact wp_value (.pointer (some ⟨w.heap.size, 3, none⟩)) (by unfold execOp; simp only [e]; kernel_rfl) ⟨_, rfl, ⟨hJ.1.up 7 ((.pointer (some ⟨w.heap.size, 3, none⟩))) (by simp), hJ.2⟩⟩
        · have e : ac.eval (.tmp 43) = (.pointer (some ⟨w.heap.size, 3, none⟩)) := (hE 43 (by simp)).trans (by simp [evF, hdep, hJ.1 (7, (.pointer (some ⟨w.heap.size, 3, none⟩))) (by simp) hdep])
          (have hc : W1.cell? ⟨w.heap.size, 3, none⟩ = some (.int .i64 sum) := hJ.2.pk.cell 3; exact wp_value (.int .i64 sum) (by unfold execOp; simp only [e]; go_simp) ⟨_, rfl, ⟨hJ.1.up 8 (.int .i64 sum) (by simp), hJ.2⟩⟩)
        · have e : ac.eval (.tmp 44) = .int .i64 sum := (hE 44 (by simp)).trans (by simp [evF, hdep, hJ.1 (8, .int .i64 sum) (by simp) (by simp [hdep])])
          (refine wp_call_fn 18 _ _ rfl (enters_fn Tryd.func18 (by kernel_rfl) rfl) #[.int .i64 sum, .int .i64 10] (by simp [e, ec]) ?_; refine (fint_any sum HI.out.1 W1 (HTB.out.on hJ.2.bw).here).mono ?_; rintro e9 w9 ⟨rfl, hb⟩; exact ⟨_, rfl, _, rfl, ⟨hJ.1.up 9 (.string (itS sum)) (by simp), hJ.2.below hb⟩⟩)
        · have e : ac.eval (.tmp 2) = (.pointer (some ⟨w.heap.size, 0, none⟩)) := (hE 2 (by simp)).trans (by simp [evF, Act.eval])
          exact wp_value (.pointer (some ⟨w.heap.size, 4, none⟩)) (by unfold execOp; simp only [e]; kernel_rfl) ⟨_, rfl, ⟨hJ.1.up 10 ((.pointer (some ⟨w.heap.size, 4, none⟩))) (by simp), hJ.2⟩⟩
        · have e : ac.eval (.tmp 46) = (.pointer (some ⟨w.heap.size, 4, none⟩)) := (hE 46 (by simp)).trans (by simp [evF, hdep, hJ.1 (10, (.pointer (some ⟨w.heap.size, 4, none⟩))) (by simp) hdep])
          (have hc : W1.cell? ⟨w.heap.size, 4, none⟩ = some (.int .i64 own) := hJ.2.pk.cell 4; exact wp_value (.int .i64 own) (by unfold execOp; simp only [e]; go_simp) ⟨_, rfl, ⟨hJ.1.up 11 (.int .i64 own) (by simp), hJ.2⟩⟩)
        · have e : ac.eval (.tmp 47) = .int .i64 own := (hE 47 (by simp)).trans (by simp [evF, hdep, hJ.1 (11, .int .i64 own) (by simp) (by simp [hdep])])
          (refine wp_call_fn 18 _ _ rfl (enters_fn Tryd.func18 (by kernel_rfl) rfl) #[.int .i64 own, .int .i64 10] (by simp [e, ec]) ?_; refine (fint_any own HI.out.2.1 W1 (HTB.out.on hJ.2.bw).here).mono ?_; rintro e9 w9 ⟨rfl, hb⟩; exact ⟨_, rfl, _, rfl, ⟨hJ.1.up 12 (.string (itS own)) (by simp), hJ.2.below hb⟩⟩)
        · have e : ac.eval (.tmp 2) = (.pointer (some ⟨w.heap.size, 0, none⟩)) := (hE 2 (by simp)).trans (by simp [evF, Act.eval])
          exact wp_value (.pointer (some ⟨w.heap.size, 8, none⟩)) (by unfold execOp; simp only [e]; kernel_rfl) ⟨_, rfl, ⟨hJ.1.up 13 ((.pointer (some ⟨w.heap.size, 8, none⟩))) (by simp), hJ.2⟩⟩
        · have e : ac.eval (.tmp 49) = (.pointer (some ⟨w.heap.size, 8, none⟩)) := (hE 49 (by simp)).trans (by simp [evF, hdep, hJ.1 (13, (.pointer (some ⟨w.heap.size, 8, none⟩))) (by simp) hdep])
          (have hc : W1.cell? ⟨w.heap.size, 8, none⟩ = some (.int .i64 share) := hJ.2.pk.cell 8; exact wp_value (.int .i64 share) (by unfold execOp; simp only [e]; go_simp) ⟨_, rfl, ⟨hJ.1.up 14 (.int .i64 share) (by simp), hJ.2⟩⟩)
        · have e : ac.eval (.tmp 50) = .int .i64 share := (hE 50 (by simp)).trans (by simp [evF, hdep, hJ.1 (14, .int .i64 share) (by simp) (by simp [hdep])])
          (refine wp_call_fn 16 _ _ rfl (enters_fn Tryd.func16 (by kernel_rfl) rfl) #[.int .i64 share] (by simp [e]) ?_; refine (itoa_any share HI.out.2.2.1 W1 (HTB.out.on hJ.2.bw).here).mono ?_; rintro e9 w9 ⟨rfl, hb⟩; exact ⟨_, rfl, _, rfl, ⟨hJ.1.up 15 (.string (itS share)) (by simp), hJ.2.below hb⟩⟩)
        · have e : ac.eval (.tmp 2) = (.pointer (some ⟨w.heap.size, 0, none⟩)) := (hE 2 (by simp)).trans (by simp [evF, Act.eval])
          exact wp_value (.pointer (some ⟨w.heap.size, 6, none⟩)) (by unfold execOp; simp only [e]; kernel_rfl) ⟨_, rfl, ⟨hJ.1.up 16 ((.pointer (some ⟨w.heap.size, 6, none⟩))) (by simp), hJ.2⟩⟩
        · have e : ac.eval (.tmp 52) = (.pointer (some ⟨w.heap.size, 6, none⟩)) := (hE 52 (by simp)).trans (by simp [evF, hdep, hJ.1 (16, (.pointer (some ⟨w.heap.size, 6, none⟩))) (by simp) hdep])
          (have hc : W1.cell? ⟨w.heap.size, 6, none⟩ = some (.int .i64 first) := hJ.2.pk.cell 6; exact wp_value (.int .i64 first) (by unfold execOp; simp only [e]; go_simp) ⟨_, rfl, ⟨hJ.1.up 17 (.int .i64 first) (by simp), hJ.2⟩⟩)
        · have e : ac.eval (.tmp 53) = .int .i64 first := (hE 53 (by simp)).trans (by simp [evF, hdep, hJ.1 (17, .int .i64 first) (by simp) (by simp [hdep])])
          (refine wp_call_fn 16 _ _ rfl (enters_fn Tryd.func16 (by kernel_rfl) rfl) #[.int .i64 first] (by simp [e]) ?_; refine (itoa_any first HI.out.2.2.2.1 W1 (HTB.out.on hJ.2.bw).here).mono ?_; rintro e9 w9 ⟨rfl, hb⟩; exact ⟨_, rfl, _, rfl, ⟨hJ.1.up 18 (.string (itS first)) (by simp), hJ.2.below hb⟩⟩)
        · have e : ac.eval (.tmp 2) = (.pointer (some ⟨w.heap.size, 0, none⟩)) := (hE 2 (by simp)).trans (by simp [evF, Act.eval])
          exact wp_value (.pointer (some ⟨w.heap.size, 7, none⟩)) (by unfold execOp; simp only [e]; kernel_rfl) ⟨_, rfl, ⟨hJ.1.up 19 ((.pointer (some ⟨w.heap.size, 7, none⟩))) (by simp), hJ.2⟩⟩
        · have e : ac.eval (.tmp 55) = (.pointer (some ⟨w.heap.size, 7, none⟩)) := (hE 55 (by simp)).trans (by simp [evF, hdep, hJ.1 (19, (.pointer (some ⟨w.heap.size, 7, none⟩))) (by simp) hdep])
          (have hc : W1.cell? ⟨w.heap.size, 7, none⟩ = some (.int .i64 last) := hJ.2.pk.cell 7; exact wp_value (.int .i64 last) (by unfold execOp; simp only [e]; go_simp) ⟨_, rfl, ⟨hJ.1.up 20 (.int .i64 last) (by simp), hJ.2⟩⟩)
        · have e : ac.eval (.tmp 56) = .int .i64 last := (hE 56 (by simp)).trans (by simp [evF, hdep, hJ.1 (20, .int .i64 last) (by simp) (by simp [hdep])])
          (refine wp_call_fn 16 _ _ rfl (enters_fn Tryd.func16 (by kernel_rfl) rfl) #[.int .i64 last] (by simp [e]) ?_; refine (itoa_any last HI.out.2.2.2.2 W1 (HTB.out.on hJ.2.bw).here).mono ?_; rintro e9 w9 ⟨rfl, hb⟩; exact ⟨_, rfl, _, rfl, ⟨hJ.1.up 21 (.string (itS last)) (by simp), hJ.2.below hb⟩⟩)
        · have e : ac.eval (.tmp 6) = .slice (some ⟨g, 0, none⟩) cn cn := (hE 6 (by simp)).trans (by simp [evF, Act.eval])
          exact wp_value (.slice (some ⟨g, 0, none⟩) cn cn) (by unfold execOp; simp only [e]; rfl) ⟨_, rfl, ⟨hJ.1.up 22 (.slice (some ⟨g, 0, none⟩) cn cn) (by simp), hJ.2⟩⟩
        · have e : ac.eval (.tmp 58) = .slice (some ⟨g, 0, none⟩) cn cn := (hE 58 (by simp)).trans (by simp [evF, hdep, hJ.1 (22, .slice (some ⟨g, 0, none⟩) cn cn) (by simp) (by simp [hdep])])
          have hjo := join_any (some ⟨g, 0, none⟩) cn cn (causes.map itS) W1 hJ.2.tk (by omega) (Nat.le_refl _) HTS.out
          rw [HJJ.out] at hjo
          (refine wp_call_fn 19 _ _ rfl (enters_fn Tryd.func19 (by kernel_rfl) rfl) #[.slice (some ⟨g, 0, none⟩) cn cn, .string ⟨#[44]⟩] (by simp [e, ec]) ?_; refine (hjo).mono ?_; rintro e9 w9 ⟨rfl, hb⟩; exact ⟨_, rfl, _, rfl, ⟨hJ.1.up 23 (.string J) (by simp), hJ.2.below hb⟩⟩)
        · have e40 : ac.eval (.tmp 40) = .string fr := (hE 40 (by simp)).trans (by simp [evF, hdep, hJ.1 (4, .string fr) (by simp) (by simp [hdep])])
          have e42 : ac.eval (.tmp 42) = .string dst := (hE 42 (by simp)).trans (by simp [evF, hdep, hJ.1 (6, .string dst) (by simp) (by simp [hdep])])
          have e45 : ac.eval (.tmp 45) = .string (itS sum) := (hE 45 (by simp)).trans (by simp [evF, hdep, hJ.1 (9, .string (itS sum)) (by simp) (by simp [hdep])])
          have e48 : ac.eval (.tmp 48) = .string (itS own) := (hE 48 (by simp)).trans (by simp [evF, hdep, hJ.1 (12, .string (itS own)) (by simp) (by simp [hdep])])
          have e51 : ac.eval (.tmp 51) = .string (itS share) := (hE 51 (by simp)).trans (by simp [evF, hdep, hJ.1 (15, .string (itS share)) (by simp) (by simp [hdep])])
          have e54 : ac.eval (.tmp 54) = .string (itS first) := (hE 54 (by simp)).trans (by simp [evF, hdep, hJ.1 (18, .string (itS first)) (by simp) (by simp [hdep])])
          have e57 : ac.eval (.tmp 57) = .string (itS last) := (hE 57 (by simp)).trans (by simp [evF, hdep, hJ.1 (21, .string (itS last)) (by simp) (by simp [hdep])])
          have e59 : ac.eval (.tmp 59) = .string J := (hE 59 (by simp)).trans (by simp [evF, hdep, hJ.1 (23, .string J) (by simp) (by simp [hdep])])
          obtain ⟨cs, r1, _⟩ := hJ.2.rk
          refine wp_buildSlice 40 9 16 _ rfl #[(0, .string ⟨#[102, 114, 111, 109]⟩), (1, .string fr), (2, .string ⟨#[116, 111]⟩), (3, .string dst), (4, .string ⟨#[115, 117, 109]⟩), (5, .string (itS sum)), (6, .string ⟨#[111, 119, 110]⟩), (7, .string (itS own)), (8, .string ⟨#[115, 104, 97, 114, 101]⟩), (9, .string (itS share)), (10, .string ⟨#[102, 105, 114, 115, 116]⟩), (11, .string (itS first)), (12, .string ⟨#[108, 97, 115, 116]⟩), (13, .string (itS last)), (14, .string ⟨#[99, 97, 117, 115, 101, 115]⟩), (15, .string J)] (by simp [e40, e42, e45, e48, e51, e54, e57, e59, ec]) #[.string ⟨#[102, 114, 111, 109]⟩, .string fr, .string ⟨#[116, 111]⟩, .string dst, .string ⟨#[115, 117, 109]⟩, .string (itS sum), .string ⟨#[111, 119, 110]⟩, .string (itS own), .string ⟨#[115, 104, 97, 114, 101]⟩, .string (itS share), .string ⟨#[102, 105, 114, 115, 116]⟩, .string (itS first), .string ⟨#[108, 97, 115, 116]⟩, .string (itS last), .string ⟨#[99, 97, 117, 115, 101, 115]⟩, .string J] (bs16 ⟨#[102, 114, 111, 109]⟩ fr ⟨#[116, 111]⟩ dst ⟨#[115, 117, 109]⟩ (itS sum) ⟨#[111, 119, 110]⟩ (itS own) ⟨#[115, 104, 97, 114, 101]⟩ (itS share) ⟨#[102, 105, 114, 115, 116]⟩ (itS first) ⟨#[108, 97, 115, 116]⟩ (itS last) ⟨#[99, 97, 117, 115, 101, 115]⟩ J W1) ⟨_, rfl, ⟨hJ.1.up 24 _ (by simp), hJ.2.made r1.lt _ (SliceOf.blk (en := strC) (Blk.new_at W1 9 _ _ rfl) (txV fr dst sum own share first last J) rfl (fun _ => rfl) rfl)⟩⟩
        · have h := hJ.2
          rw [hnd] at h
          obtain ⟨g2, h1, h2, h3⟩ := hJ.2.s24 (by simp [hdep])
          obtain ⟨cs, r1, _⟩ := hJ.2.rk
          have e : ac.eval (.tmp 60) = .slice (some ⟨g2, 0, none⟩) 16 16 := (hE 60 (by simp)).trans (by simp [evF, hdep, h2])
          refine wp_call_fn 17 _ _ rfl (enters_fn Tryd.func17 (by kernel_rfl) rfl) #[.slice (some ⟨g2, 0, none⟩) 16 16] (by simp [e]) ?_
          refine (fields_any (some ⟨g2, 0, none⟩) 16 8 16 (txV fr dst sum own share first last J) W1 h3 rfl (by omega)).mono ?_
          rintro e9 w9 ⟨B, d, rfl, hs9, hA9, hb9⟩
          exact ⟨_, rfl, _, rfl, ⟨hJ.1.up 25 _ (by simp), h.fields_ hb9 (fun x off e => by have := hA9 x off e; have := r1.lt; omega) hs9⟩⟩
        · have e36 : ac.eval (.tmp 36) = .string nm := (hE 36 (by simp)).trans (by simp [evF, hdep, hJ.1 (0, .string nm) (by simp) (by simp [hdep])])
          have e38 : ac.eval (.tmp 38) = .string ins := (hE 38 (by simp)).trans (by simp [evF, hdep, hJ.1 (2, .string ins) (by simp) (by simp [hdep])])
          obtain ⟨A, c, x1, x2, x3⟩ := hJ.2.s25 (by simp [hdep])
          have h := hJ.2
          rw [hnd, show done 25 = true by simp [hdep]] at h
          have e61 : ac.eval (.tmp 61) = .slice A 8 c := (hE 61 (by simp)).trans (by simp [evF, hdep, x2])
          refine wp_value (.agg #[.int .i64 3, .string nm, .string ins, vs 25]) (by unfold execOp; rw [x2]; simp [e36, e38, e61, ec]; kernel_rfl) ⟨_, rfl, ⟨hJ.1.up 26 _ (by simp), ?_⟩⟩
          show DIp _ _ _ _ _ _ _ _ _ _ (done 24) (done 25) true (done 27) (vs 24) (vs 25) _ W1
          rw [show done 25 = true by simp [hdep]]
          exact h.built
        · have h := hJ.2
          have d25 : done 25 = true := (hJ.2.s26 (by simp [hdep])).1
          rw [hnd, d25, show done 26 = true by simp [hdep]] at h
          obtain ⟨old, cells, q1, q2, q3, q4, q5, q6⟩ := h.stored (Nat.lt_succ_self _) (fun x off e => by injection e with e; injection e with e1 e2; omega)
          have e : ac.eval (.tmp 4) = (.pointer (some ⟨w.heap.size + 1, 0, none⟩)) := (hE 4 (by simp)).trans (by simp [evF, Act.eval])
          have e' : ac.eval (.tmp 62) = .agg cells := (hE 62 (by simp)).trans (by simp [evF, hdep, q1])
          refine wp_store_row 29 _ _ rfl (w.heap.size + 1) cells e e' 29 old q2 (by rw [q4]; kernel_rfl) (by rw [q3, q4]) q5 ⟨_, rfl, ⟨hJ.1.up 27 _ (by simp), ?_⟩⟩
          show DIp _ _ _ _ _ _ _ _ _ _ (done 24) (done 25) (done 26) true (vs 24) (vs 25) (vs 26) _
          rw [d25, show done 26 = true by simp [hdep]]
          exact q6
        · exact wp_value (.int .i64 0) (by unfold execOp; rfl) ⟨_, rfl, ⟨hJ.1.up 28 (.int .i64 0) (by simp), hJ.2⟩⟩
      · intro done vs W hall hJ
        obtain ⟨A, c, x1, x2, x3⟩ := hJ.2.s25 (hall 25 (by simp))
        obtain ⟨_, y2⟩ := hJ.2.s26 (hall 26 (by simp))
        obtain ⟨cs, r1, r2, r3⟩ := hJ.2.rk
        obtain ⟨_, z2⟩ := r3 (hall 27 (by simp))
        have e5 := hJ.1 (28, .int .i64 0) (by simp) (hall 28 (by simp))
        rw [y2, x2] at z2
        injection z2 with z2
        subst z2
        have HBW := Lib.hid hJ.2.bw
        have X3 := Lib.hid x3
        have q0 := r1.cell 0; have q1 := r1.cell 1; have q2 := r1.cell 2; have q3 := r1.cell 3
        simp only [List.getElem?_toArray, List.getElem?_cons_zero, List.getElem?_cons_succ] at q0 q1 q2 q3
        simp only [fillA, Act.put, List.setIfInBounds_toArray, List.set_cons_zero, List.set_cons_succ, if_true, e5]
        clear hJ hall x1 x2 x3 y2 r1 r2 r3 e5
        go_wp2_with fail
        refine bodyPost_ret (v := .tuple #[.agg #[.int .i64 3, .string nm, .string ins, .slice A 8 c], .int .i64 0]) (by simp [results, Tryd.results6, go_sem, q0, q1, q2, q3]) rfl ?_
        exact ⟨A, c, rfl, by rw [HJJ.out]; exact X3.out, HBW.out⟩
end Go.Proofs.YtldjohmdlggmeaaDoor.kit
