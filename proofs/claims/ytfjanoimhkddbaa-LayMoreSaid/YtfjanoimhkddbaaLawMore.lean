/- LayMore: with more free hours no more is late, and it expires no earlier; an hour more at the end never uses less, and nobody pays less for it. No condition. -/
import Derived.Test.YtfjanoimhkddbaaLawStays
import Derived.Test.YtfjanoimhkddbaaLawCuts
import Derived.Deep.RegionLaw
import Derived.Deep.DeepCutAuto
namespace Go.Proofs.Ytfjanoimhkddbaa
open Go.RowKit Go.Proofs.Ytfjanoimhkddbaa.kit
set_option linter.unusedVariables false

theorem own_empty {w : World} {g B : Nat} (h : Blk w g 47 #[]) (hB : B ≤ g) : w.ownsRow B 47 3 (.slice (some ⟨g, 0, none⟩) 0 0) 0 [] :=
  ⟨rfl, .inr ⟨g, 0, #[], rfl, hB, h, Nat.le_refl _, Nat.zero_le _, rfl, rfl⟩⟩
theorem own_drew {w : World} {B : Nat} {e : TypeId} {size n : Nat} {v : Value} {ys : List Value} (h : w.ownsRow B e size v n ys) : w.drew.ownsRow B e size v n ys := h
theorem reads_drew {w : World} {B size n : Nat} {A : Option Addr} {xs : List Value} (h : Reads w B size A n xs) : Reads w.drew B size A n xs := h
theorem grown_emp {W X w9 : World} {g : Nat} (hbel : Below W.heap.size W X) (hg : X.drew.grownBy w9 (Value.slice (some ⟨g, 0, none⟩) 0 0).ownBlock) (hg' : W.heap.size ≤ g) : Below W.heap.size W w9 :=
  hbel.drew.grown hg hbel.size (fun k hk => by simp [Value.ownBlock] at hk; omega)
theorem size_first (W : World) (o : Obj) : W.heap.size ≤ (W.alloc o).drew.heap.size := ((Below.refl W.heap.size W).alloc (Nat.le_refl _) o).size
theorem size_second (W : World) (o o' : Obj) : W.heap.size ≤ ((W.alloc o).alloc o').drew.heap.size := ((((Below.refl W.heap.size W).alloc (Nat.le_refl _) o)).alloc (by simp) o').size
theorem two_alloc (W : World) (o o' : Obj) : Below W.heap.size W ((W.alloc o).alloc o') := ((Below.refl _ _).alloc (Nat.le_refl _) _).alloc (by simp) _
theorem blk_emp {X w9 : World} {g k : Nat} {t : TypeId} {cs : Array Value} (h : Blk X k t cs) (hg : X.drew.grownBy w9 (Value.slice (some ⟨g, 0, none⟩) 0 0).ownBlock) (hne : k ≠ g) : Blk w9 k t cs :=
  Blk.grown (w := X.drew) h hg (by simp [Value.ownBlock]; omega)
theorem own_first (W : World) : (W.alloc (.cells #[] 47)).drew.ownsRow W.heap.size 47 3 (.slice (some ⟨W.heap.size, 0, none⟩) 0 0) 0 [] := own_drew (own_empty (Blk.new _ _ _) (Nat.le_refl _))
theorem own_first' (W : World) (o : Obj) : ((W.alloc (.cells #[] 47)).alloc o).drew.ownsRow W.heap.size 47 3 (.slice (some ⟨W.heap.size, 0, none⟩) 0 0) 0 [] := own_drew (own_empty ((Blk.new _ _ _).alloc _) (Nat.le_refl _))
theorem own_second (W : World) (o : Obj) : ((W.alloc o).alloc (.cells #[] 47)).drew.ownsRow W.heap.size 47 3 (.slice (some ⟨W.heap.size + 1, 0, none⟩) 0 0) 0 [] := own_drew (own_empty (Blk.new_at _ _ _ _ (by simp)) (by omega))
theorem blk_second (W : World) (o : Obj) (t : TypeId) (cs : Array Value) : Blk ((W.alloc o).alloc (.cells cs t)) (W.heap.size + 1) t cs := Blk.new_at _ _ _ _ (by simp)
/-- What 'append(append([]T{}, s...), x)' leaves. -/
def Longer (W : World) (xs : List Str) (n : Nat) (v : Value) (w' : World) : Prop := ∃ A c, v = .slice A n c ∧ SliceOf w' 3 Str.cells A n xs ∧ Below W.heap.size W w'

theorem longer_mk {W W1 w' : World} {xs : List Str} {y : Str} {v : Value} {n : Nat} (hn : xs.length = n) (h : w'.ownsRow W.heap.size 47 3 v (n + 1) (xs.flatMap Str.cells ++ y.cells)) (hb : Below W.heap.size W w') : Longer W (xs ++ [y]) (n + 1) v w' := by
  obtain ⟨A, c, hv⟩ : ∃ A c, v = .slice A (n + 1) c := by
    rcases h.2 with ⟨_, h0⟩ | ⟨g, cap, cur, hv, _⟩
    · omega
    · exact ⟨_, _, hv⟩
  subst hv
  exact ⟨A, c, rfl, SliceOf.of_own_s h cells_len (by simp) (by simp [hn]), hb⟩

theorem longer_of {W w' : World} {xs : List Str} {f t ha : Int} {v : Value} {n : Nat} (hn : xs.length = n) (h : w'.ownsRow W.heap.size 47 3 v (0 + n + 1) (([] ++ xs.flatMap Str.cells) ++ [.int .i64 f, .int .i64 t, .int .i64 ha])) (hb : Below W.heap.size W w') : Longer W (xs ++ [⟨f, t, ha⟩]) (n + 1) v w' := by
  rw [List.nil_append, Nat.zero_add] at h
  exact longer_mk (W1 := W) (y := ⟨f, t, ha⟩) hn h hb

set_option maxRecDepth 100000 in
set_option maxHeartbeats 1600000 in
theorem layMore_ok (l : Lay) (more : Int) (b off n c : Nat) (x : Str) (r : List Str) (halves : Int) (hh : I64 halves) (hm0 : 0 ≤ more ∧ more ≤ 1000) (hfree : l.free ≤ 524288) (hw : wr l (x :: r) = 0) (hlong : long (x :: r) 2000 = false) (w : World) (hx : SliceOf w 3 Str.cells (some ⟨b, off, none⟩) n (x :: r)) (hn : n ≤ 30) (hb : b < w.heap.size)
    (hc : ∀ i y, (x :: r)[i]? = some y → ∀ j v, y.cells[j]? = some v → w.cell? ⟨b, off + (i * 3 + j), none⟩ = some v) :
    Calls Try.prog 6 #[.agg #[.int .i64 l.free, .int .i64 l.late, .int .i64 l.soon], .int .i64 more, .slice (some ⟨b, off, none⟩) n c, .int .i64 halves] w fun e w' => e = .returned (.bool true) ∧ Below w.heap.size w w' := by
  obtain ⟨i0, hi, hz0, hz1, hz2⟩ := info_parts infoS
  have HX := Lib.hid hx
  have hm : n ≤ maxLen := by unfold maxLen; omega
  obtain ⟨m0, m1⟩ := hm0
  obtain ⟨h0, h1⟩ := hh
  obtain ⟨hl, hk⟩ := wr_ok hw
  have hf : 0 ≤ l.free ∧ l.free ≤ 1048576 ∧ 0 ≤ l.late ∧ l.late ≤ 1099511627776 ∧ 0 ≤ l.soon ∧ l.soon ≤ 1099511627776 := by simp [Lay.may] at hl; omega
  obtain ⟨f0, f1, f2, f3, f4, f5⟩ := hf
  have hlw : (Lay.mk (l.free + more) l.late l.soon).may = true := by simp [Lay.may]; omega
  have hww : wr ⟨l.free + more, l.late, l.soon⟩ (x :: r) = 0 := by unfold wr; rw [if_pos hlw]; exact hk
  have hg := good_chk hk
  have hr := good_right _ hg
  have hk' : ((chk 0 0 (x :: r)).2 != 0) = false := by simp [hk]
  obtain ⟨la0, la1⟩ := good_last x r hg
  obtain ⟨x0, x1, x2, x3, x4⟩ := hg.1
  have hnr : n = r.length + 1 := by rw [← hx.len]; rfl
  obtain ⟨y, hy, hyl⟩ := getLast_of x r
  have c1 : w.cell? ⟨b, off + (n - 1) * 3 + 1, none⟩ = some (.int .i64 (lastOf x r)) := by
    have := hc _ _ hy 1 _ rfl
    rw [hyl] at this
    rw [hnr]
    exact this
  have hwide := usesF_wide (F := 2 * l.free) (G := 2 * (l.free + more)) (by omega) (by omega) (x :: r) hr
  have e1 : usedV l (x :: r) = (usesF (2 * l.free) (x :: r), 0) := by unfold usedV; rw [if_pos hw]
  have e1w : usedV ⟨l.free + more, l.late, l.soon⟩ (x :: r) = (usesF (2 * (l.free + more)) (x :: r), 0) := by unfold usedV; rw [if_pos hww]
  have e2 : expV l (x :: r) = optV (expF (2 * l.free) (2 * l.free) 0 (x :: r)) := by unfold expV; rw [if_pos hw]
  have e2w : expV ⟨l.free + more, l.late, l.soon⟩ (x :: r) = optV (expF (2 * (l.free + more)) (2 * (l.free + more)) 0 (x :: r)) := by unfold expV; rw [if_pos hww]
  have e3 : moneyV l (x :: r) = moneyOf l (usesF (2 * l.free) (x :: r)) := by unfold moneyV; rw [if_pos hw]
  obtain ⟨u0, u1⟩ := usesF_top hk (2 * l.free)
  have HE1 := Lib.hid e1; have HE1w := Lib.hid e1w; have HE2 := Lib.hid e2; have HE2w := Lib.hid e2w; have HE3 := Lib.hid e3
  have HG := Lib.hid hg; have HR := Lib.hid hr; have HL := Lib.hid hl; have HNR := Lib.hid hnr; have HLEN := Lib.hid hx.len
  have HEXP : Hid (∀ k, expF (2 * (l.free + more)) (2 * (l.free + more)) 0 (x :: r) = some k → _) := fun k hk => expF_wide (F := 2 * l.free) (G := 2 * (l.free + more)) (by omega) (by omega) x r hg hk
  have n1 : (0 : Int) ≤ (n : Int) - 1 := by omega
  have n2 : (n : Int) - 1 < (n : Int) := by omega
  have n4 : ¬ (n : Int) < 1 := by omega
  have n5 : ¬ (30 : Int) < (n : Int) := by omega
  obtain ⟨L, HLs⟩ : ∃ L, Hid (L = lastOf x r) := ⟨_, rfl⟩
  rw [← HLs.out] at la0 la1 c1
  clear hl hk hw hww hlw hg hr hnr hy hyl e1 e1w e2 e2w e3 hc hx
  obtain ⟨hB0, hk0⟩ := boxed w l
  go_enter Try.func6, Try.ntmps6
  go_wp2_with fail
  refine (awake_any _).mono ?_
  rintro e w1 ⟨rfl, hb1⟩
  have hB1 : Below w.heap.size w w1 := hB0.trans (hb1.mono (by simp))
  have hk1 := hk0.below hb1 hk0.lt
  clear hB0 hk0 hb1
  go_wp2_with fail
  refine (long_any 2000 (by omega) _ _ _ (x :: r) _ (HX.out.below hB1) hm).mono ?_
  rintro e w2 ⟨rfl, hb2⟩
  have hB2 : Below w.heap.size w w2 := hB1.trans (hb2.mono hB1.size)
  have hk2 := hk1.below hb2 hk1.lt
  clear hB1 hk1 hb2
  have a0 := hk2.cell 0; have a1 := hk2.cell 1; have a2 := hk2.cell 2; simp at a0 a1 a2
  have hm1' : ¬ (1000 : Int) < more := by omega
  have hm0' : ¬ more < 0 := by omega
  have hfr' : ¬ (524288 : Int) < l.free := by omega
  go_wp2_with fail
  refine (rmay_any l _).mono ?_
  rintro e w3 ⟨rfl, hb3⟩
  have hl' := HL.out
  have hB3 : Below w.heap.size w w3 := hB2.trans (hb3.mono hB2.size)
  have hk3 := hk2.below hb3 hk2.lt
  clear hB2 hk2 hb3 a0 a1 a2
  go_wp2_with fail
  refine (rcheck_any _ _ _ (x :: r) _ (HX.out.below hB3) hm).mono ?_
  rintro e w4 ⟨rfl, hb4⟩
  clear hl'
  have hB4 : Below w.heap.size w w4 := hB3.trans (hb4.mono hB3.size)
  have hk4 := hk3.below hb4 hk3.lt
  clear hB3 hk3 hb4
  have a0 := hk4.cell 0; have a1 := hk4.cell 1; have a2 := hk4.cell 2; simp at a0 a1 a2
  have z4 := hk4.lt
  go_wp2_with fail
  -- Used(l)
  obtain ⟨W, hW⟩ : ∃ W, W = w4.alloc (.cells #[.int .i64 (l.free + more), .int .i64 l.late, .int .i64 l.soon] 23) := ⟨_, rfl⟩
  have hBW : Below w.heap.size w W := by rw [hW]; exact hB4.alloc hB4.size _
  have hkW : Blk W w.heap.size 23 #[.int .i64 l.free, .int .i64 l.late, .int .i64 l.soon] := by rw [hW]; exact hk4.alloc _
  have hjW : Blk W w4.heap.size 23 #[.int .i64 (l.free + more), .int .i64 l.late, .int .i64 l.soon] := by rw [hW]; exact Blk.new _ _ _
  obtain ⟨g, hgg⟩ : ∃ g, g = w4.heap.size := ⟨_, rfl⟩
  rw [← hW, ← hgg]
  rw [← hgg] at hjW
  clear hW hgg a0 a1 a2 z4 hB4 hk4
  refine (used_any l _ _ _ (x :: r) _ (HX.out.below hBW) hm).mono ?_
  rw [HE1.out]
  rintro e w5 ⟨rfl, hb5⟩
  have hB5 : Below w.heap.size w w5 := hBW.trans (hb5.mono hBW.size)
  have hk5 := hkW.below hb5 hkW.lt
  have hj5 := hjW.below hb5 hjW.lt
  clear hBW hkW hjW hb5
  have a0 := hj5.cell 0; have a1 := hj5.cell 1; have a2 := hj5.cell 2; simp at a0 a1 a2
  go_wp2_with fail
  refine (used_any ⟨l.free + more, l.late, l.soon⟩ _ _ _ (x :: r) _ (HX.out.below hB5) hm).mono ?_
  rw [HE1w.out]
  rintro e w6 ⟨rfl, hb6⟩
  have hB6 : Below w.heap.size w w6 := hB5.trans (hb6.mono hB5.size)
  have hk6 := hk5.below hb6 hk5.lt
  have hj6 := hj5.below hb6 hj5.lt
  clear hB5 hk5 hj5 hb6 a0 a1 a2
  have a0 := hk6.cell 0; have a1 := hk6.cell 1; have a2 := hk6.cell 2; simp at a0 a1 a2
  go_wp2_with fail
  refine (exp_any l _ _ _ (x :: r) _ (HX.out.below hB6) hm).mono ?_
  rw [HE2.out]
  rintro e w7 ⟨rfl, hb7⟩
  have hB7 : Below w.heap.size w w7 := hB6.trans (hb7.mono hB6.size)
  have hk7 := hk6.below hb7 hk6.lt
  have hj7 := hj6.below hb7 hj6.lt
  clear hB6 hk6 hj6 hb7 a0 a1 a2
  have a0 := hj7.cell 0; have a1 := hj7.cell 1; have a2 := hj7.cell 2; simp at a0 a1 a2
  go_wp2_with fail
  refine (exp_any ⟨l.free + more, l.late, l.soon⟩ _ _ _ (x :: r) _ (HX.out.below hB7) hm).mono ?_
  rw [HE2w.out]
  rintro e w8 ⟨rfl, hb8⟩
  have hB8 : Below w.heap.size w w8 := hB7.trans (hb8.mono hB7.size)
  have hk8 := hk7.below hb8 hk7.lt
  clear hB7 hk7 hj7 hb8 a0 a1 a2
  have q1 := (hB8.cell hb).trans c1
  have hbr : b < w8.heap.size := Nat.lt_of_lt_of_le hb hB8.size
  have hba : ¬ usesF (2 * l.free) (x :: r) < usesF (2 * (l.free + more)) (x :: r) := by omega
  clear hwide
  -- whether they expire
  obtain ⟨h, ok, k, is, hoe, hoew, hok⟩ : ∃ h ok k is, optV (expF (2 * l.free) (2 * l.free) 0 (x :: r)) = (h, ok) ∧ optV (expF (2 * (l.free + more)) (2 * (l.free + more)) 0 (x :: r)) = (k, is) ∧ (is = true → ok = true ∧ h ≤ k) := by
    refine ⟨_, _, _, _, rfl, rfl, fun hi => ?_⟩
    cases he : expF (2 * (l.free + more)) (2 * (l.free + more)) 0 (x :: r) with
    | none => rw [he] at hi; cases hi
    | some k =>
      obtain ⟨h, he', hle⟩ := HEXP.out k he
      rw [he']
      exact ⟨rfl, hle⟩
  rw [hoe, hoew]
  have HOK := Lib.hid hok
  clear hoe hoew hok
  have hcase : (is = false) ∨ (is = true ∧ ok = true ∧ ¬ k < h) := by
    cases is
    · exact .inl rfl
    · obtain ⟨e1, e2⟩ := HOK.out rfl
      exact .inr ⟨rfl, e1, by omega⟩
  clear HOK HEXP HE2 HE2w HE1w
  have hkk : Hid (∃ y : Str, y = ⟨L, L + 1, halves⟩) := ⟨_, rfl⟩
  rcases hcase with rfl | ⟨rfl, rfl, hkh⟩
  all_goals
    go_upto_region 18 with (fail)
    have hXB : Blk (w8.alloc (.cells #[.int .i64 L, .int .i64 (L + 1), .int .i64 halves] 47)) w8.heap.size 47 #[.int .i64 L, .int .i64 (L + 1), .int .i64 halves] := Blk.new _ _ _
    have hB9 : Below w.heap.size w (w8.alloc (.cells #[.int .i64 L, .int .i64 (L + 1), .int .i64 halves] 47)) := hB8.alloc hB8.size _
    have hk9 := hk8.alloc (.cells #[.int .i64 L, .int .i64 (L + 1), .int .i64 halves] 47)
    have hsz9 : w8.heap.size + 1 = (w8.alloc (.cells #[.int .i64 L, .int .i64 (L + 1), .int .i64 halves] 47)).heap.size := by simp
    obtain ⟨g, hg⟩ : ∃ g, g = w8.heap.size := ⟨_, rfl⟩
    rw [← hg] at hXB hsz9 ⊢
    generalize w8.alloc (.cells #[.int .i64 L, .int .i64 (L + 1), .int .i64 halves] 47) = W at *
    clear hg q1 hbr hB8 hk8
    have b0 := hXB.cell 0; have b1 := hXB.cell 1; have b2 := hXB.cell 2; simp at b0 b1 b2
    have HS := Lib.hid (HX.out.below hB9)
    have hgl : g < W.heap.size := by omega
    clear hsz9
    go_cut [22] (fun v wx => Longer W ((x :: r) ++ [⟨L, L + 1, halves⟩]) (n + 1) v wx)
    case first =>
      have hq0 : 0 < 3 := by omega
      have hq1 : 0 + n ≤ maxLen := by unfold maxLen; omega
      have hq2 : (0 + n) * 24 ≤ 140737488355328 := by omega
      have hq3 : 0 + n + 1 ≤ maxLen := by unfold maxLen; omega
      have hq4 : (0 + n + 1) * 24 ≤ 140737488355328 := by omega
      have hq5 : ∀ u ∈ [Value.int .i64 L, .int .i64 (L + 1), .int .i64 halves], u.oneCell' = true := by simp [Value.oneCell']
      go_region_law (first
        | (refine step_append_any _ rfl (.tmp 133) (.tmp 134) 24 rfl W.heap.size 47 i0 _ 3 24 Try.underlying24 hi hz0 hz1 hz2 rfl hq0 (.slice (some ⟨W.heap.size, 0, none⟩) 0 0) 0 [] ?_ ?_ W.heap.size (some ⟨b, off, none⟩) n c ((x :: r).flatMap Str.cells) ?_ ?_ (cells_one _) hq1 hq2 ?_ ?_; rfl; exact own_first W; rfl; exact reads_drew (((HS.out.reads cells_len).below ((Below.refl _ _).alloc (Nat.le_refl _) _))); exact size_first _ _; intro v1 w9 hown1 hg1 hloc1; have HB9 : Hid (Below W.heap.size W w9) := grown_emp ((Below.refl _ _).alloc (Nat.le_refl _) _) hg1 (Nat.le_refl _); have HO1 := Lib.hid hown1; have d0 := (HB9.out.cell (p := ⟨g, 0, none⟩) hgl).trans b0; have d1 := (HB9.out.cell (p := ⟨g, 1, none⟩) hgl).trans b1; have d2 := (HB9.out.cell (p := ⟨g, 2, none⟩) hgl).trans b2; clear hown1 hg1 hloc1)
        | (refine step_append_any _ rfl (.tmp 133) (.tmp 134) 24 rfl W.heap.size 47 i0 _ 3 24 Try.underlying24 hi hz0 hz1 hz2 rfl hq0 (.slice (some ⟨W.heap.size, 0, none⟩) 0 0) 0 [] ?_ ?_ W.heap.size (some ⟨b, off, none⟩) n c ((x :: r).flatMap Str.cells) ?_ ?_ (cells_one _) hq1 hq2 ?_ ?_; rfl; exact own_first' W _; rfl; exact reads_drew (((HS.out.reads cells_len).below (two_alloc W _ _))); exact size_second _ _ _; intro v1 w9 hown1 hg1 hloc1; have HB9 : Hid (Below W.heap.size W w9) := grown_emp (two_alloc W _ _) hg1 (Nat.le_refl _); have HO1 := Lib.hid hown1; have d0 := (HB9.out.cell (p := ⟨g, 0, none⟩) hgl).trans b0; have d1 := (HB9.out.cell (p := ⟨g, 1, none⟩) hgl).trans b1; have d2 := (HB9.out.cell (p := ⟨g, 2, none⟩) hgl).trans b2; have HXB : Hid (Blk w9 (W.heap.size + 1) 47 #[.int .i64 L, .int .i64 (L + 1), .int .i64 halves]) := blk_emp (blk_second W _ _ _) hg1 (Nat.succ_ne_self _); clear hown1 hg1 hloc1)
        | (refine step_append_any _ rfl (.tmp 133) (.tmp 134) 24 rfl W.heap.size 47 i0 _ 3 24 Try.underlying24 hi hz0 hz1 hz2 rfl hq0 (.slice (some ⟨W.heap.size + 1, 0, none⟩) 0 0) 0 [] ?_ ?_ W.heap.size (some ⟨b, off, none⟩) n c ((x :: r).flatMap Str.cells) ?_ ?_ (cells_one _) hq1 hq2 ?_ ?_; rfl; exact own_second W _; rfl; exact reads_drew (((HS.out.reads cells_len).below (two_alloc W _ _))); exact size_second _ _ _; intro v1 w9 hown1 hg1 hloc1; have HB9 : Hid (Below W.heap.size W w9) := grown_emp (two_alloc W _ _) hg1 (Nat.le_succ _); have HO1 := Lib.hid hown1; have d0 := (HB9.out.cell (p := ⟨g, 0, none⟩) hgl).trans b0; have d1 := (HB9.out.cell (p := ⟨g, 1, none⟩) hgl).trans b1; have d2 := (HB9.out.cell (p := ⟨g, 2, none⟩) hgl).trans b2; have HXC : Hid (Blk w9 W.heap.size 47 #[.int .i64 L, .int .i64 (L + 1), .int .i64 halves]) := blk_emp ((Blk.new W _ _).alloc _) hg1 (Nat.ne_of_lt (Nat.lt_succ_self _)); clear hown1 hg1 hloc1)
        | (refine step_append_any _ rfl (.tmp 135) (.tmp 137) 24 rfl W.heap.size 47 i0 _ 3 24 Try.underlying24 hi hz0 hz1 hz2 rfl hq0 v1 (0 + n) _ ?_ (HO1.out.alloc _) _ (some ⟨w9.heap.size, 0, none⟩) 1 1 [.int .i64 L, .int .i64 (L + 1), .int .i64 halves] ?_ ((SliceOf.blk (en := Str.cells) (Blk.new w9 47 #[.int .i64 L, .int .i64 (L + 1), .int .i64 halves]) [⟨L, L + 1, halves⟩] rfl cells_len rfl).reads cells_len) hq5 hq3 hq4 ?_ ?_; rfl; rfl; exact (HB9.out.alloc HB9.out.size _).size; intro v2 w10 hown2 hg2 hloc2; have HE : Hid (Longer W ((x :: r) ++ [⟨L, L + 1, halves⟩]) (n + 1) v2 w10) := longer_of HLEN.out hown2 ((HB9.out.alloc HB9.out.size _).grown hg2 ((HB9.out.alloc HB9.out.size _).size) (fun k hk => (HO1.out.lt k hk).1)); clear hown2 hg2 hloc2)
        | (refine step_append_any _ rfl (.tmp 135) (.tmp 137) 24 rfl W.heap.size 47 i0 _ 3 24 Try.underlying24 hi hz0 hz1 hz2 rfl hq0 v1 (0 + n) _ ?_ (HO1.out) _ (some ⟨W.heap.size + 1, 0, none⟩) 1 1 [.int .i64 L, .int .i64 (L + 1), .int .i64 halves] ?_ ((SliceOf.blk (en := Str.cells) HXB.out [⟨L, L + 1, halves⟩] rfl cells_len rfl).reads cells_len) hq5 hq3 hq4 ?_ ?_; rfl; rfl; exact HB9.out.size; intro v2 w10 hown2 hg2 hloc2; have HE : Hid (Longer W ((x :: r) ++ [⟨L, L + 1, halves⟩]) (n + 1) v2 w10) := longer_of HLEN.out hown2 ((HB9.out).grown hg2 (HB9.out.size) (fun k hk => (HO1.out.lt k hk).1)); clear hown2 hg2 hloc2)
        | (refine step_append_any _ rfl (.tmp 135) (.tmp 137) 24 rfl W.heap.size 47 i0 _ 3 24 Try.underlying24 hi hz0 hz1 hz2 rfl hq0 v1 (0 + n) _ ?_ (HO1.out) _ (some ⟨W.heap.size, 0, none⟩) 1 1 [.int .i64 L, .int .i64 (L + 1), .int .i64 halves] ?_ ((SliceOf.blk (en := Str.cells) HXC.out [⟨L, L + 1, halves⟩] rfl cells_len rfl).reads cells_len) hq5 hq3 hq4 ?_ ?_; rfl; rfl; exact HB9.out.size; intro v2 w10 hown2 hg2 hloc2; have HE : Hid (Longer W ((x :: r) ++ [⟨L, L + 1, halves⟩]) (n + 1) v2 w10) := longer_of HLEN.out hown2 ((HB9.out).grown hg2 (HB9.out.size) (fun k hk => (HO1.out.lt k hk).1)); clear hown2 hg2 hloc2))
      all_goals (go_wp2_with fail; go_meet; exact HE.out)
    case rest =>
      obtain ⟨A3, c3, rfl, hs3, hb3⟩ := hcut
      have HS3 := Lib.hid hs3
      have hB10 : Below w.heap.size w wc := hB9.trans (hb3.mono hB9.size)
      have hk10 := hk9.below hb3 hk9.lt
      clear hs3 hb3 hXB hB9 hk9 HS b0 b1 b2 hgl
      have hm' : n + 1 ≤ maxLen := by unfold maxLen; omega
      have a0 := hk10.cell 0; have a1 := hk10.cell 1; have a2 := hk10.cell 2; simp at a0 a1 a2
      by_cases hy : (Str.mk L (L + 1) halves).bad = true
      · have hk1 : (chk 0 0 ((x :: r) ++ [⟨L, L + 1, halves⟩])).2 = 1 := chk_append x r _ 0 0 HG.out (fun h => absurd h (by omega)) HLs.out hy (by have := HNR.out; omega)
        have e4 : usedV l ((x :: r) ++ [⟨L, L + 1, halves⟩]) = (0, 1) := by
          have hw : wr l ((x :: r) ++ [⟨L, L + 1, halves⟩]) = 1 := by unfold wr; rw [if_pos HL.out]; exact hk1
          unfold usedV; rw [hw]; rfl
        have hyb : halves < 0 ∨ 2 < halves ∨ L = 1048576 := by simp [Str.bad] at hy; omega
        clear hk1 hy
        go_wp2_with fail
        refine (used_any l _ _ _ ((x :: r) ++ [⟨L, L + 1, halves⟩]) _ HS3.out hm').mono ?_
        rw [e4]
        rintro e w11 ⟨rfl, hb11⟩
        have hB11 := hB10.trans (hb11.mono hB10.size)
        clear e4 hb11 hB10 hk10 a0 a1 a2
        rcases hyb with hyb | hyb | hyb
        · go_wp2_with fail
          go_ret
          exact ⟨rfl, hB11⟩
        · have hyc : ¬ halves < 0 := by omega
          go_wp2_with fail
          go_ret
          exact ⟨rfl, hB11⟩
        · have hyd : (L == 1048576) = true := by simp [hyb]
          clear hyb
          go_wp2_with fail
          all_goals go_ret
          all_goals exact ⟨by first | rfl | simp, hB11⟩
      · have hyr : Str.right ⟨L, L + 1, halves⟩ := by simp [Str.bad] at hy; exact ⟨by simp only; omega, by simp only; omega, by simp only; omega, by simp only; omega, by simp only; omega⟩
        have hg2 := good_append x r _ HG.out hyr HLs.out
        have hk2 : (chk 0 0 ((x :: r) ++ [⟨L, L + 1, halves⟩])).2 = 0 := by
          rw [chk_good _ 0 0 hg2 (fun h => absurd h (by omega)) (by have := HLEN.out; simp at this ⊢; omega)]
        have hw2 : wr l ((x :: r) ++ [⟨L, L + 1, halves⟩]) = 0 := by unfold wr; rw [if_pos HL.out]; exact hk2
        have e4 : usedV l ((x :: r) ++ [⟨L, L + 1, halves⟩]) = (usesF (2 * l.free) ((x :: r) ++ [⟨L, L + 1, halves⟩]), 0) := by unfold usedV; rw [if_pos hw2]
        have e5 : moneyV l ((x :: r) ++ [⟨L, L + 1, halves⟩]) = moneyOf l (usesF (2 * l.free) ((x :: r) ++ [⟨L, L + 1, halves⟩])) := by unfold moneyV; rw [if_pos hw2]
        obtain ⟨v0, v1⟩ := usesF_more (F := 2 * l.free) (by omega) (x :: r) ⟨L, L + 1, halves⟩ HR.out hyr rfl
        have v2 := (usesF_top hk2 (2 * l.free)).2
        have hmon := money_more l HL.out u0 v0 v2
        have H4 := Lib.hid e4
        have H5 := Lib.hid e5
        clear e4 e5 hw2 hk2 hg2 hyr hy
        generalize usesF (2 * l.free) ((x :: r) ++ [⟨L, L + 1, halves⟩]) = V at *
        generalize usesF (2 * l.free) (x :: r) = U at *
        obtain ⟨ma, mb, hma⟩ : ∃ a b, Hid (moneyOf l U = (a, b)) := ⟨_, _, rfl⟩
        obtain ⟨na, nb, hna⟩ : ∃ a b, Hid (moneyOf l V = (a, b)) := ⟨_, _, rfl⟩
        rw [hma.out, hna.out] at hmon
        simp only at hmon
        go_wp2_with fail
        refine (used_any l _ _ _ ((x :: r) ++ [⟨L, L + 1, halves⟩]) _ HS3.out hm').mono ?_
        rw [H4.out]
        rintro e w11 ⟨rfl, hb11⟩
        have hB11 := hB10.trans (hb11.mono hB10.size)
        have hk11 := hk10.below hb11 hk10.lt
        have HS4 := Lib.hid (HS3.out.below hb11)
        clear hb11 hB10 hk10 a0 a1 a2
        have a0 := hk11.cell 0; have a1 := hk11.cell 1; have a2 := hk11.cell 2; simp at a0 a1 a2
        go_wp2_with fail
        refine (money_any l _ _ _ (x :: r) _ (HX.out.below hB11) hm).mono ?_
        rw [HE3.out, hma.out]
        rintro e w12 ⟨rfl, hb12⟩
        have hB12 := hB11.trans (hb12.mono hB11.size)
        have hk12 := hk11.below hb12 hk11.lt
        have HS5 := Lib.hid (HS4.out.below hb12)
        clear hb12 hB11 hk11 a0 a1 a2
        have a0 := hk12.cell 0; have a1 := hk12.cell 1; have a2 := hk12.cell 2; simp at a0 a1 a2
        go_wp2_with fail
        refine (money_any l _ _ _ ((x :: r) ++ [⟨L, L + 1, halves⟩]) _ HS5.out hm').mono ?_
        rw [H5.out, hna.out]
        rintro e w13 ⟨rfl, hb13⟩
        have hB13 := hB12.trans (hb13.mono hB12.size)
        clear hb13 hB12 hk12 a0 a1 a2
        rcases hmon with hmon | hmon | hmon
        · have hmon' : (mb != 0) = true := by simp [hmon]
          clear hmon
          go_wp2_with fail
          go_ret
          exact ⟨rfl, hB13⟩
        · have hmon' : (nb != 0) = true := by simp [hmon]
          clear hmon
          by_cases hmb : mb = 0
          · have hmb' : (mb != 0) = false := by simp [hmb]
            clear hmb
            go_wp2_with fail
            go_ret
            exact ⟨rfl, hB13⟩
          · have hmb' : (mb != 0) = true := by simp [hmb]
            clear hmb
            go_wp2_with fail
            go_ret
            exact ⟨rfl, hB13⟩
        · by_cases hmb : mb = 0
          · have hmb' : (mb != 0) = false := by simp [hmb]
            clear hmb
            by_cases hnb : nb = 0
            · have hnb' : (nb != 0) = false := by simp [hnb]
              clear hnb
              go_wp2_with fail
              go_ret
              exact ⟨rfl, hB13⟩
            · have hnb' : (nb != 0) = true := by simp [hnb]
              clear hnb
              go_wp2_with fail
              go_ret
              exact ⟨rfl, hB13⟩
          · have hmb' : (mb != 0) = true := by simp [hmb]
            clear hmb
            go_wp2_with fail
            go_ret
            exact ⟨rfl, hB13⟩

set_option maxRecDepth 100000 in
set_option maxHeartbeats 1600000 in
theorem layMore_walk (l : Lay) (more : Int) (A : Option Addr) (n c : Nat) (xs : List Str) (halves : Int) (hh : I64 halves) (w : World) (hx : SliceOf w 3 Str.cells A n xs) (hm : n ≤ maxLen) :
    Calls Try.prog 6 #[.agg #[.int .i64 l.free, .int .i64 l.late, .int .i64 l.soon], .int .i64 more, .slice A n c, .int .i64 halves] w fun e w' => e = .returned (.bool true) ∧ Below w.heap.size w w' := by
  by_cases hall : n ≤ 30 ∧ 1 ≤ n ∧ long xs 2000 = false ∧ wr l xs = 0 ∧ 0 ≤ more ∧ more ≤ 1000 ∧ l.free ≤ 524288
  · obtain ⟨h1, h2, h3, h4, h5, h6, h7⟩ := hall
    obtain ⟨b, off, rfl, hb, hc⟩ := hx.at_ (by omega)
    cases xs with
    | nil => have := hx.len; simp at this; omega
    | cons x r => exact layMore_ok l more b off n c x r halves hh ⟨h5, h6⟩ h7 h4 h3 w hx h1 hb hc
  have HX := Lib.hid hx
  obtain ⟨hB0, hk0⟩ := boxed w l
  have HALL := Lib.hid hall
  clear hall hx
  go_enter Try.func6, Try.ntmps6
  go_wp2_with fail
  refine (awake_any _).mono ?_
  rintro e w1 ⟨rfl, hb1⟩
  have hB1 : Below w.heap.size w w1 := hB0.trans (hb1.mono (by simp))
  have hk1 := hk0.below hb1 hk0.lt
  clear hB0 hk0 hb1
  by_cases hn0 : n < 1
  · have hn' : (n : Int) < 1 := by omega
    go_wp2_with fail
    go_ret
    exact ⟨rfl, hB1⟩
  have hn0' : ¬ (n : Int) < 1 := by omega
  by_cases hn : 30 < n
  · have hn' : (30 : Int) < (n : Int) := by omega
    go_wp2_with fail
    go_ret
    exact ⟨rfl, hB1⟩
  have hn' : ¬ (30 : Int) < (n : Int) := by omega
  go_wp2_with fail
  refine (long_any 2000 (by omega) _ _ _ xs _ (HX.out.below hB1) hm).mono ?_
  rintro e w2 ⟨rfl, hb2⟩
  have hB2 : Below w.heap.size w w2 := hB1.trans (hb2.mono hB1.size)
  have hk2 := hk1.below hb2 hk1.lt
  clear hB1 hk1 hb2
  by_cases hlong : long xs 2000 = true
  · go_wp2_with fail
    go_ret
    exact ⟨rfl, hB2⟩
  have hlong' : long xs 2000 = false := by simpa using hlong
  clear hlong
  have a0 := hk2.cell 0; have a1 := hk2.cell 1; have a2 := hk2.cell 2; simp at a0 a1 a2
  by_cases m0 : more < 0
  · go_wp2_with fail
    go_ret
    exact ⟨rfl, hB2⟩
  by_cases m1 : 1000 < more
  · go_wp2_with fail
    go_ret
    exact ⟨rfl, hB2⟩
  by_cases m2 : 524288 < l.free
  · go_wp2_with fail
    go_ret
    exact ⟨rfl, hB2⟩
  go_wp2_with fail
  refine (rmay_any l _).mono ?_
  rintro e w3 ⟨rfl, hb3⟩
  have hB3 : Below w.heap.size w w3 := hB2.trans (hb3.mono hB2.size)
  clear hk2 hb3 a0 a1 a2 hB2
  by_cases hl : l.may = true
  · have hk : (chk 0 0 xs).2 ≠ 0 := fun h => HALL.out ⟨by omega, by omega, hlong', by unfold wr; rw [if_pos hl]; exact h, by omega, by omega, by omega⟩
    have hk' : ((chk 0 0 xs).2 != 0) = true := by simp [hk]
    clear hk
    go_wp2_with fail
    refine (rcheck_any _ _ _ xs _ (HX.out.below hB3) hm).mono ?_
    rintro e w4 ⟨rfl, hb4⟩
    go_wp2_with fail
    go_ret
    exact ⟨rfl, hB3.trans (hb4.mono hB3.size)⟩
  · have hl' : l.may = false := by simpa using hl
    clear hl
    go_wp2_with fail
    go_ret
    exact ⟨rfl, hB3⟩
end Go.Proofs.Ytfjanoimhkddbaa
