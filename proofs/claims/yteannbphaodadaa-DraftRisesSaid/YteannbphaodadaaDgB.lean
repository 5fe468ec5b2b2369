/- The document's bill; who is liable by it. No condition. -/
import Derived.Test.YteannbphaodadaaDgA
import Derived.Deep.RegionLaw
import Derived.Deep.RegionHeld3
import Derived.Deep.DeepCutAuto
import Derived.Test.YteannbphaodadaaMore
namespace Go.Proofs.Yteannbphaodadaa.kit
open Go.RowKit Go.PlainAid Go.Maps
set_option linter.unusedVariables false

/-- The document's bill. -/
structure IsRef (w : World) (g : Nat) (A : Option Addr) (n c : Nat) (b : Bl) : Prop where
  blk : Blk w g 56 #[.string b.d.num, .string b.d.drw, .string b.d.dre, .string b.d.pay, .string b.d.cur, .int .i64 b.d.amt, .int .i64 b.d.kind, .int .i64 b.d.days, .int .i64 b.d.fr, .int .i64 b.st, .bool b.acc, .string b.hol, .slice A n c, .int .i64 b.last]
  sl : SliceOf w 1 strC A n b.pas
  nc : n ≤ c
  cm : c ≤ maxLen
  ap : ∀ x off, A = some ⟨x, off, none⟩ → x ≠ g
  dok : b.d.ok
  hol : b.hol.size ≤ maxLen
  pas : ∀ s ∈ b.pas, s.size ≤ maxLen
  len : b.pas.length ≤ 1000
  st0 : 0 ≤ b.st
theorem IsRef.below {w w' : World} {g n c : Nat} {A : Option Addr} {b : Bl} (h : IsRef w g A n c b) (hb : Below w.heap.size w w') : IsRef w' g A n c b :=
  ⟨h.blk.below hb h.blk.lt, h.sl.below hb, h.nc, h.cm, h.ap, h.dok, h.hol, h.pas, h.len, h.st0⟩
theorem cell_kept {W w' : World} {p : Addr} {v : Value} (hb : Below W.heap.size W w') (h : W.cell? p = some v) : w'.cell? p = some v := (hb.cell (World.block_lt_of_cell? W p h)).trans h
theorem own_slice {w : World} {base n : Nat} {e : TypeId} {C : Nat} {v : Value} {ys : List Value} (h : w.ownsRow base e C v n ys) : ∃ A c, v = .slice A n c := by
  rcases h.2 with ⟨hv, h0⟩ | ⟨g, cap, cur, hv, _⟩
  · exact ⟨none, 0, by rw [hv, h0]⟩
  · exact ⟨_, _, hv⟩
/-- A list of the call's own. -/
def OwnL (W : World) (xs : List ByteArray) (n : Nat) (v : Value) (w' : World) : Prop := ∃ A c, v = .slice A n c ∧ w'.ownsRow W.heap.size 9 1 (.slice A n c) n (xs.flatMap strC) ∧ Below W.heap.size W w'
theorem flat_snoc (l : List ByteArray) (x : ByteArray) : l.flatMap strC ++ [.string x] = (l ++ [x]).flatMap strC := by
  rw [List.flatMap_append]
  rfl
theorem liaF_take {h : ByteArray} {l : List ByteArray} {k : Nat} {x : ByteArray} (hx : l[k]? = some x) : liaF h (l.take (k + 1)) = addS h (liaF h (l.take k)) x := by
  unfold liaF
  rw [takeS hx, List.foldl_append]
  rfl
theorem liaF_len (h : ByteArray) (l : List ByteArray) : (liaF h l).length ≤ l.length := by
  have := fold_len h l []
  unfold liaF
  simpa using this
set_option maxRecDepth 100000 in
set_option maxHeartbeats 6400000 in
theorem rliable_any (g : Nat) (A : Option Addr) (n c : Nat) (b : Bl) (w : World) (hb : IsRef w g A n c b) :
    Calls Try.prog 44 #[(.pointer (some ⟨g, 0, none⟩))] w fun e w' => ∃ v, e = .returned v ∧ Made w 1 strC (liaV b) (liaV b).length v w' := by
  have HB := Lib.hid hb
  have hl := hb.sl.len
  have hlen := hb.len
  obtain ⟨i0, hi, hz0, hz1, hz2⟩ := info_parts infoStr
  have z1 : w.cell? ⟨g, 1, none⟩ = some (.string b.d.drw) := hb.blk.cell 1
  have z2 : w.cell? ⟨g, 2, none⟩ = some (.string b.d.dre) := hb.blk.cell 2
  have z9 : w.cell? ⟨g, 9, none⟩ = some (.int .i64 b.st) := hb.blk.cell 9
  have z10 : w.cell? ⟨g, 10, none⟩ = some (.bool b.acc) := hb.blk.cell 10
  have z11 : w.cell? ⟨g, 11, none⟩ = some (.string b.hol) := hb.blk.cell 11
  have z12 : w.cell? ⟨g, 12, none⟩ = some (.slice A n c) := hb.blk.cell 12
  have hgw : g < w.heap.size := hb.blk.lt
  clear hb
  by_cases hst : b.st = 2
  · have e0 : Hid (liaV b = []) := Lib.hid (by unfold liaV; rw [if_pos hst])
    have d0 : (b.st == 2) = true := by rw [hst]; rfl
    clear hst
    go_enter Try.func44, Try.ntmps44
    go_wp2_with fail
    go_ret
    exact ⟨_, rfl, _, 0, by rw [e0.out]; rfl, by rw [e0.out]; exact SliceOf.none_, one_alloc _ _⟩
  have d0 : (b.st == 2) = false := by simpa using hst
  have HST : Hid (liaV b = liaF b.hol (owers b)) := Lib.hid (by unfold liaV; rw [if_neg hst])
  clear hst
  cases hacc : b.acc
  · rw [hacc] at z10
    have HACC := Lib.hid hacc
    clear hacc
    go_enter Try.func44, Try.ntmps44
    go_upto_region 4 with (fail)
    have HS := Lib.hid (HB.out.sl.below (one_alloc w (.cells #[] 9)))
    have HBW := Lib.hid (one_alloc w (.cells #[] 9))
    have y1 := cell_kept (one_alloc w (.cells #[] 9)) z1
    have y2 := cell_kept (one_alloc w (.cells #[] 9)) z2
    have y10 := cell_kept (one_alloc w (.cells #[] 9)) z10
    have y11 := cell_kept (one_alloc w (.cells #[] 9)) z11
    have y12 := cell_kept (one_alloc w (.cells #[] 9)) z12
    clear z1 z2 z9 z10 z11 z12
    generalize w.alloc (.cells #[] 9) = W at HS HBW y1 y2 y10 y11 y12 ⊢
    have hgW : g < W.heap.size := World.block_lt_of_cell? W _ y1
    go_cut [4] (fun v wx => OwnL W (b.pas ++ [b.d.drw]) (n + 1) v wx)
    case first =>
      have hq0 : 0 < 1 := by omega
      have hq1 : 0 + n ≤ maxLen := by unfold maxLen; omega
      have hq2 : (0 + n) * 16 ≤ 140737488355328 := by omega
      have hq3 : 0 + n + 1 ≤ maxLen := by unfold maxLen; omega
      have hq4 : (0 + n + 1) * 16 ≤ 140737488355328 := by omega
      have hq5 : ∀ u ∈ ([.string b.d.drw] : List Value), u.oneCell' = true := by simp [Value.oneCell']
      go_region_held3 (fun x => x.cell? ⟨g, 12, none⟩ = some (.slice A n c) ∧ x.cell? ⟨g, 1, none⟩ = some (.string b.d.drw)) (go_keep) (first | (refine step_append_any _ rfl (.tmp 13) (.tmp 17) 26 rfl W.heap.size 9 i0 _ 1 16 Try.underlying26 hi hz0 hz1 hz2 rfl hq0 (.slice (some ⟨W.heap.size, 0, none⟩) 0 0) 0 [] ?_ ?_ W.heap.size A n c (b.pas.flatMap strC) ?_ ?_ (str_one _) hq1 hq2 ?_ ?_; rfl; exact own_first W; rfl; exact reads_drew ((HS.out.reads (fun _ => rfl)).below (one_alloc _ _)); exact size_first _ _; intro v1 w9 hown1 hg1 hloc1; have HB9 : Hid (Below W.heap.size W w9) := grown_emp (one_alloc _ _) hg1 (Nat.le_refl _); have HO1 := Lib.hid hown1; (have y1' := cell_kept HB9.out y1; have y12' := cell_kept HB9.out y12; have hg9 : g < w9.heap.size := World.block_lt_of_cell? w9 _ y1'); clear hown1 hg1 hloc1) | (refine step_append_any _ rfl (.tmp 13) (.tmp 17) 26 rfl W.heap.size 9 i0 _ 1 16 Try.underlying26 hi hz0 hz1 hz2 rfl hq0 (.slice (some ⟨W.heap.size, 0, none⟩) 0 0) 0 [] ?_ ?_ W.heap.size A n c (b.pas.flatMap strC) ?_ ?_ (str_one _) hq1 hq2 ?_ ?_; rfl; exact own_first' W _; rfl; exact reads_drew ((HS.out.reads (fun _ => rfl)).below (two_alloc W _ _)); exact size_second _ _ _; intro v1 w9 hown1 hg1 hloc1; have HB9 : Hid (Below W.heap.size W w9) := grown_emp (two_alloc W _ _) hg1 (Nat.le_refl _); have HO1 := Lib.hid hown1; (have y1' := cell_kept HB9.out y1; have y12' := cell_kept HB9.out y12; have hg9 : g < w9.heap.size := World.block_lt_of_cell? w9 _ y1'); have HXB : Hid (Blk w9 (W.heap.size + 1) 9 (List.toArray ([.string b.d.drw] : List Value))) := blk_emp (blk_second W _ _ _) hg1 (Nat.succ_ne_self _); clear hown1 hg1 hloc1) | (refine step_append_any _ rfl (.tmp 13) (.tmp 17) 26 rfl W.heap.size 9 i0 _ 1 16 Try.underlying26 hi hz0 hz1 hz2 rfl hq0 (.slice (some ⟨W.heap.size + 1, 0, none⟩) 0 0) 0 [] ?_ ?_ W.heap.size A n c (b.pas.flatMap strC) ?_ ?_ (str_one _) hq1 hq2 ?_ ?_; rfl; exact own_second W _; rfl; exact reads_drew ((HS.out.reads (fun _ => rfl)).below (two_alloc W _ _)); exact size_second _ _ _; intro v1 w9 hown1 hg1 hloc1; have HB9 : Hid (Below W.heap.size W w9) := grown_emp (two_alloc W _ _) hg1 (Nat.le_succ _); have HO1 := Lib.hid hown1; (have y1' := cell_kept HB9.out y1; have y12' := cell_kept HB9.out y12; have hg9 : g < w9.heap.size := World.block_lt_of_cell? w9 _ y1'); have HXC : Hid (Blk w9 W.heap.size 9 (List.toArray ([.string b.d.drw] : List Value))) := blk_emp ((Blk.new W _ _).alloc _) hg1 (Nat.ne_of_lt (Nat.lt_succ_self _)); clear hown1 hg1 hloc1) | (refine step_append_any _ rfl (.tmp 18) (.tmp 24) 26 rfl W.heap.size 9 i0 _ 1 16 Try.underlying26 hi hz0 hz1 hz2 rfl hq0 v1 (0 + n) _ ?_ (HO1.out.alloc _) _ (some ⟨w9.heap.size, 0, none⟩) 1 1 [.string b.d.drw] ?_ ((SliceOf.blk (en := strC) (Blk.new w9 9 (List.toArray ([.string b.d.drw] : List Value))) [b.d.drw] rfl (fun _ => rfl) rfl).reads (fun _ => rfl)) hq5 hq3 hq4 ?_ ?_; rfl; rfl; exact (HB9.out.alloc HB9.out.size _).size; intro v2 w10 hown2 hg2 hloc2; have HB10 : Hid (Below W.heap.size W w10) := Lib.hid ((HB9.out.alloc HB9.out.size _).grown hg2 (HB9.out.alloc HB9.out.size _).size (fun j hj => (HO1.out.lt j hj).1)); rw [show 0 + n + 1 = n + 1 by omega, show [] ++ b.pas.flatMap strC ++ [.string b.d.drw] = (b.pas ++ [b.d.drw]).flatMap strC by (rw [List.flatMap_append]; rfl)] at hown2; obtain ⟨A2, c2, rfl⟩ := own_slice hown2; have HO2 := Lib.hid hown2; clear hown2 hg2 hloc2; (have y1'' := cell_kept HB10.out y1; have y12'' := cell_kept HB10.out y12)) | (refine step_append_any _ rfl (.tmp 18) (.tmp 24) 26 rfl W.heap.size 9 i0 _ 1 16 Try.underlying26 hi hz0 hz1 hz2 rfl hq0 v1 (0 + n) _ ?_ HO1.out _ (some ⟨W.heap.size + 1, 0, none⟩) 1 1 [.string b.d.drw] ?_ ((SliceOf.blk (en := strC) HXB.out [b.d.drw] rfl (fun _ => rfl) rfl).reads (fun _ => rfl)) hq5 hq3 hq4 ?_ ?_; rfl; rfl; exact HB9.out.size; intro v2 w10 hown2 hg2 hloc2; have HB10 : Hid (Below W.heap.size W w10) := Lib.hid (HB9.out.grown hg2 HB9.out.size (fun j hj => (HO1.out.lt j hj).1)); rw [show 0 + n + 1 = n + 1 by omega, show [] ++ b.pas.flatMap strC ++ [.string b.d.drw] = (b.pas ++ [b.d.drw]).flatMap strC by (rw [List.flatMap_append]; rfl)] at hown2; obtain ⟨A2, c2, rfl⟩ := own_slice hown2; have HO2 := Lib.hid hown2; clear hown2 hg2 hloc2; (have y1'' := cell_kept HB10.out y1; have y12'' := cell_kept HB10.out y12)) | (refine step_append_any _ rfl (.tmp 18) (.tmp 24) 26 rfl W.heap.size 9 i0 _ 1 16 Try.underlying26 hi hz0 hz1 hz2 rfl hq0 v1 (0 + n) _ ?_ HO1.out _ (some ⟨W.heap.size, 0, none⟩) 1 1 [.string b.d.drw] ?_ ((SliceOf.blk (en := strC) HXC.out [b.d.drw] rfl (fun _ => rfl) rfl).reads (fun _ => rfl)) hq5 hq3 hq4 ?_ ?_; rfl; rfl; exact HB9.out.size; intro v2 w10 hown2 hg2 hloc2; have HB10 : Hid (Below W.heap.size W w10) := Lib.hid (HB9.out.grown hg2 HB9.out.size (fun j hj => (HO1.out.lt j hj).1)); rw [show 0 + n + 1 = n + 1 by omega, show [] ++ b.pas.flatMap strC ++ [.string b.d.drw] = (b.pas ++ [b.d.drw]).flatMap strC by (rw [List.flatMap_append]; rfl)] at hown2; obtain ⟨A2, c2, rfl⟩ := own_slice hown2; have HO2 := Lib.hid hown2; clear hown2 hg2 hloc2; (have y1'' := cell_kept HB10.out y1; have y12'' := cell_kept HB10.out y12)))
      all_goals (go_wp2_with fail; go_meet; exact ⟨_, _, rfl, HO2.out, HB10.out⟩)
    case rest =>
      obtain ⟨A2, c2, rfl, hO2, hB2⟩ := hcut
      have x2 := cell_kept hB2 y2
      have x10 := cell_kept hB2 y10
      have x11 := cell_kept hB2 y11
      have HO2 := Lib.hid hO2
      have HB2 := Lib.hid hB2
      have HBA := Lib.hid (HBW.out.trans (hB2.mono HBW.out.size))
      clear y1 y2 y10 y12 hO2 hB2
      have HOW : Hid (owers b = b.pas ++ [b.d.drw]) := Lib.hid (by unfold owers; rw [HACC.out]; rfl)
      have HALL := Lib.hid (SliceOf.of_own_s HO2.out (fun _ => rfl) rfl (by rw [List.length_append, hl]; rfl) : SliceOf wc 1 strC A2 (n + 1) (b.pas ++ [b.d.drw]))
      have w11 := x11
      obtain ⟨WA, hWA⟩ : ∃ WA : World, WA = wc := ⟨_, rfl⟩
      subst hWA
      go_wp2_with fail
      go_loopw [3, 5] (fun o i wr => ∃ (k m : Nat) (A' : Option Addr) (c' : Nat), k ≤ (n + 1) ∧ i = .int .i64 k ∧ o = .slice A' m c' ∧ m ≤ c' ∧ Hid (c' ≤ maxLen) ∧ Hid (SliceOf wr 1 strC A' m (liaF b.hol ((b.pas ++ [b.d.drw]).take k))) ∧ Hid (Below WA.heap.size WA wr) ∧ Below w.heap.size w wr) (fun _ i _ => (n + 1) - (intOf i).toNat)
      case atStart => exact ⟨0, 0, _, _, by omega, rfl, rfl, Nat.le_refl _, Lib.hid (Nat.zero_le _), Lib.hid SliceOf.none_, Lib.hid (Below.refl _ _), HBA.out⟩
      case round =>
        obtain ⟨k, m, A', c', hk, rfl, rfl, hmc, hcm, ho, ha, hBw⟩ := hrel
        have HAL := Lib.hid (HALL.out.below ha.out)
        have hm1 := ho.out.len
        have hm2 := liaF_len b.hol ((b.pas ++ [b.d.drw]).take k)
        have hm3 := List.length_take_le k (b.pas ++ [b.d.drw])
        by_cases hlt : k < (n + 1)
        · obtain ⟨p, off, x, rfl, hx, q0⟩ := get_str HAL.out hlt
          have HX := Lib.hid (liaF_take (h := b.hol) hx)
          have q1 := eq_str x b.hol
          have x11 := cell_kept ha.out w11
          clear hx
          by_cases hxh : x = b.hol
          · have d1 : (x.toList == b.hol.toList) = true := by rw [q1, decide_eq_true hxh]
            have d2 : (x.toList != b.hol.toList) = false := by rw [bne, q1, decide_eq_true hxh]; rfl
            have e1 : Hid (liaF b.hol ((b.pas ++ [b.d.drw]).take (k + 1)) = liaF b.hol ((b.pas ++ [b.d.drw]).take k)) := Lib.hid (by rw [HX.out]; unfold addS; rw [if_pos hxh])
            clear q1 hxh HX
            go_wp2_with fail
            go_quiet (fail)
            go_wp2_with fail
            exact ⟨⟨k + 1, m, A', c', by omega, by go_num, rfl, hmc, hcm, Lib.hid (by rw [e1.out]; exact ho.out.below (below_drewN (Below.refl _ _) _)), Lib.hid (below_drewN ha.out _), below_drewN hBw _⟩, by simp [intOf]; omega⟩
          · have d1 : (x.toList == b.hol.toList) = false := by rw [q1, decide_eq_false hxh]
            have d2 : (x.toList != b.hol.toList) = true := by rw [bne, q1, decide_eq_false hxh]; rfl
            have e1 : Hid (liaF b.hol ((b.pas ++ [b.d.drw]).take (k + 1)) = putS (liaF b.hol ((b.pas ++ [b.d.drw]).take k)) x) := Lib.hid (by rw [HX.out]; unfold addS; rw [if_neg hxh])
            clear q1 hxh HX
            go_wp2_with fail
            go_quiet (fail)
            go_wp2_with fail
            refine (rput_any A' m c' (liaF b.hol ((b.pas ++ [b.d.drw]).take k)) x _ (ho.out.below (below_drewN (Below.refl _ _) _)) (by omega) hmc hcm.out).mono ?_
            rintro e w7 ⟨A7, m7, c7, rfl, u1, u2, u3, u4⟩
            have HS7 : Hid (SliceOf w7 1 strC A7 m7 (liaF b.hol ((b.pas ++ [b.d.drw]).take (k + 1)))) := Lib.hid (by rw [e1.out]; exact u3)
            have HB7 : Hid (Below w.heap.size w w7) := Lib.hid ((below_drewN hBw nq).trans (u4.mono (below_drewN hBw nq).size))
            have HA7 : Hid (Below WA.heap.size WA w7) := Lib.hid ((below_drewN ha.out nq).trans (u4.mono (below_drewN ha.out nq).size))
            have HC7 := Lib.hid u2
            clear u2 u3 u4 e1 ho hBw
            go_wp2_with fail
            exact ⟨⟨k + 1, m7, A7, c7, by omega, by go_num, rfl, u1, HC7, HS7, HA7, HB7.out⟩, by simp [intOf]; omega⟩
        · have hkn : k = (n + 1) := by omega
          have e1 : Hid (liaF b.hol ((b.pas ++ [b.d.drw]).take k) = liaV b) := Lib.hid (by rw [HST.out, HOW.out, List.take_of_length_le (by rw [HAL.out.len]; omega)])
          have e2 : Hid (m = (liaV b).length) := Lib.hid (by rw [← hm1, e1.out])
          have HBF := Lib.hid hBw
          go_wp2_with fail
          go_ret
          exact ⟨_, rfl, A', c', by rw [← e2.out]; rfl, by rw [← e2.out, ← e1.out]; exact ho.out, HBF.out⟩
  · rw [hacc] at z10
    have HACC := Lib.hid hacc
    clear hacc
    go_enter Try.func44, Try.ntmps44
    go_upto_region 4 with (fail)
    have HS := Lib.hid (HB.out.sl.below (one_alloc w (.cells #[] 9)))
    have HBW := Lib.hid (one_alloc w (.cells #[] 9))
    have y1 := cell_kept (one_alloc w (.cells #[] 9)) z1
    have y2 := cell_kept (one_alloc w (.cells #[] 9)) z2
    have y10 := cell_kept (one_alloc w (.cells #[] 9)) z10
    have y11 := cell_kept (one_alloc w (.cells #[] 9)) z11
    have y12 := cell_kept (one_alloc w (.cells #[] 9)) z12
    clear z1 z2 z9 z10 z11 z12
    generalize w.alloc (.cells #[] 9) = W at HS HBW y1 y2 y10 y11 y12 ⊢
    have hgW : g < W.heap.size := World.block_lt_of_cell? W _ y1
    go_cut [4] (fun v wx => OwnL W (b.pas ++ [b.d.drw]) (n + 1) v wx)
    case first =>
      have hq0 : 0 < 1 := by omega
      have hq1 : 0 + n ≤ maxLen := by unfold maxLen; omega
      have hq2 : (0 + n) * 16 ≤ 140737488355328 := by omega
      have hq3 : 0 + n + 1 ≤ maxLen := by unfold maxLen; omega
      have hq4 : (0 + n + 1) * 16 ≤ 140737488355328 := by omega
      have hq5 : ∀ u ∈ ([.string b.d.drw] : List Value), u.oneCell' = true := by simp [Value.oneCell']
      go_region_held3 (fun x => x.cell? ⟨g, 12, none⟩ = some (.slice A n c) ∧ x.cell? ⟨g, 1, none⟩ = some (.string b.d.drw)) (go_keep) (first | (refine step_append_any _ rfl (.tmp 13) (.tmp 17) 26 rfl W.heap.size 9 i0 _ 1 16 Try.underlying26 hi hz0 hz1 hz2 rfl hq0 (.slice (some ⟨W.heap.size, 0, none⟩) 0 0) 0 [] ?_ ?_ W.heap.size A n c (b.pas.flatMap strC) ?_ ?_ (str_one _) hq1 hq2 ?_ ?_; rfl; exact own_first W; rfl; exact reads_drew ((HS.out.reads (fun _ => rfl)).below (one_alloc _ _)); exact size_first _ _; intro v1 w9 hown1 hg1 hloc1; have HB9 : Hid (Below W.heap.size W w9) := grown_emp (one_alloc _ _) hg1 (Nat.le_refl _); have HO1 := Lib.hid hown1; (have y1' := cell_kept HB9.out y1; have y12' := cell_kept HB9.out y12; have hg9 : g < w9.heap.size := World.block_lt_of_cell? w9 _ y1'); clear hown1 hg1 hloc1) | (refine step_append_any _ rfl (.tmp 13) (.tmp 17) 26 rfl W.heap.size 9 i0 _ 1 16 Try.underlying26 hi hz0 hz1 hz2 rfl hq0 (.slice (some ⟨W.heap.size, 0, none⟩) 0 0) 0 [] ?_ ?_ W.heap.size A n c (b.pas.flatMap strC) ?_ ?_ (str_one _) hq1 hq2 ?_ ?_; rfl; exact own_first' W _; rfl; exact reads_drew ((HS.out.reads (fun _ => rfl)).below (two_alloc W _ _)); exact size_second _ _ _; intro v1 w9 hown1 hg1 hloc1; have HB9 : Hid (Below W.heap.size W w9) := grown_emp (two_alloc W _ _) hg1 (Nat.le_refl _); have HO1 := Lib.hid hown1; (have y1' := cell_kept HB9.out y1; have y12' := cell_kept HB9.out y12; have hg9 : g < w9.heap.size := World.block_lt_of_cell? w9 _ y1'); have HXB : Hid (Blk w9 (W.heap.size + 1) 9 (List.toArray ([.string b.d.drw] : List Value))) := blk_emp (blk_second W _ _ _) hg1 (Nat.succ_ne_self _); clear hown1 hg1 hloc1) | (refine step_append_any _ rfl (.tmp 13) (.tmp 17) 26 rfl W.heap.size 9 i0 _ 1 16 Try.underlying26 hi hz0 hz1 hz2 rfl hq0 (.slice (some ⟨W.heap.size + 1, 0, none⟩) 0 0) 0 [] ?_ ?_ W.heap.size A n c (b.pas.flatMap strC) ?_ ?_ (str_one _) hq1 hq2 ?_ ?_; rfl; exact own_second W _; rfl; exact reads_drew ((HS.out.reads (fun _ => rfl)).below (two_alloc W _ _)); exact size_second _ _ _; intro v1 w9 hown1 hg1 hloc1; have HB9 : Hid (Below W.heap.size W w9) := grown_emp (two_alloc W _ _) hg1 (Nat.le_succ _); have HO1 := Lib.hid hown1; (have y1' := cell_kept HB9.out y1; have y12' := cell_kept HB9.out y12; have hg9 : g < w9.heap.size := World.block_lt_of_cell? w9 _ y1'); have HXC : Hid (Blk w9 W.heap.size 9 (List.toArray ([.string b.d.drw] : List Value))) := blk_emp ((Blk.new W _ _).alloc _) hg1 (Nat.ne_of_lt (Nat.lt_succ_self _)); clear hown1 hg1 hloc1) | (refine step_append_any _ rfl (.tmp 18) (.tmp 24) 26 rfl W.heap.size 9 i0 _ 1 16 Try.underlying26 hi hz0 hz1 hz2 rfl hq0 v1 (0 + n) _ ?_ (HO1.out.alloc _) _ (some ⟨w9.heap.size, 0, none⟩) 1 1 [.string b.d.drw] ?_ ((SliceOf.blk (en := strC) (Blk.new w9 9 (List.toArray ([.string b.d.drw] : List Value))) [b.d.drw] rfl (fun _ => rfl) rfl).reads (fun _ => rfl)) hq5 hq3 hq4 ?_ ?_; rfl; rfl; exact (HB9.out.alloc HB9.out.size _).size; intro v2 w10 hown2 hg2 hloc2; have HB10 : Hid (Below W.heap.size W w10) := Lib.hid ((HB9.out.alloc HB9.out.size _).grown hg2 (HB9.out.alloc HB9.out.size _).size (fun j hj => (HO1.out.lt j hj).1)); rw [show 0 + n + 1 = n + 1 by omega, show [] ++ b.pas.flatMap strC ++ [.string b.d.drw] = (b.pas ++ [b.d.drw]).flatMap strC by (rw [List.flatMap_append]; rfl)] at hown2; obtain ⟨A2, c2, rfl⟩ := own_slice hown2; have HO2 := Lib.hid hown2; clear hown2 hg2 hloc2; (have y1'' := cell_kept HB10.out y1; have y12'' := cell_kept HB10.out y12)) | (refine step_append_any _ rfl (.tmp 18) (.tmp 24) 26 rfl W.heap.size 9 i0 _ 1 16 Try.underlying26 hi hz0 hz1 hz2 rfl hq0 v1 (0 + n) _ ?_ HO1.out _ (some ⟨W.heap.size + 1, 0, none⟩) 1 1 [.string b.d.drw] ?_ ((SliceOf.blk (en := strC) HXB.out [b.d.drw] rfl (fun _ => rfl) rfl).reads (fun _ => rfl)) hq5 hq3 hq4 ?_ ?_; rfl; rfl; exact HB9.out.size; intro v2 w10 hown2 hg2 hloc2; have HB10 : Hid (Below W.heap.size W w10) := Lib.hid (HB9.out.grown hg2 HB9.out.size (fun j hj => (HO1.out.lt j hj).1)); rw [show 0 + n + 1 = n + 1 by omega, show [] ++ b.pas.flatMap strC ++ [.string b.d.drw] = (b.pas ++ [b.d.drw]).flatMap strC by (rw [List.flatMap_append]; rfl)] at hown2; obtain ⟨A2, c2, rfl⟩ := own_slice hown2; have HO2 := Lib.hid hown2; clear hown2 hg2 hloc2; (have y1'' := cell_kept HB10.out y1; have y12'' := cell_kept HB10.out y12)) | (refine step_append_any _ rfl (.tmp 18) (.tmp 24) 26 rfl W.heap.size 9 i0 _ 1 16 Try.underlying26 hi hz0 hz1 hz2 rfl hq0 v1 (0 + n) _ ?_ HO1.out _ (some ⟨W.heap.size, 0, none⟩) 1 1 [.string b.d.drw] ?_ ((SliceOf.blk (en := strC) HXC.out [b.d.drw] rfl (fun _ => rfl) rfl).reads (fun _ => rfl)) hq5 hq3 hq4 ?_ ?_; rfl; rfl; exact HB9.out.size; intro v2 w10 hown2 hg2 hloc2; have HB10 : Hid (Below W.heap.size W w10) := Lib.hid (HB9.out.grown hg2 HB9.out.size (fun j hj => (HO1.out.lt j hj).1)); rw [show 0 + n + 1 = n + 1 by omega, show [] ++ b.pas.flatMap strC ++ [.string b.d.drw] = (b.pas ++ [b.d.drw]).flatMap strC by (rw [List.flatMap_append]; rfl)] at hown2; obtain ⟨A2, c2, rfl⟩ := own_slice hown2; have HO2 := Lib.hid hown2; clear hown2 hg2 hloc2; (have y1'' := cell_kept HB10.out y1; have y12'' := cell_kept HB10.out y12)))
      all_goals (go_wp2_with fail; go_meet; exact ⟨_, _, rfl, HO2.out, HB10.out⟩)
    case rest =>
      obtain ⟨A2, c2, rfl, hO2, hB2⟩ := hcut
      have x2 := cell_kept hB2 y2
      have x10 := cell_kept hB2 y10
      have x11 := cell_kept hB2 y11
      have HO2 := Lib.hid hO2
      have HB2 := Lib.hid hB2
      have HBA := Lib.hid (HBW.out.trans (hB2.mono HBW.out.size))
      clear y1 y2 y10 y12 hO2 hB2
      obtain ⟨W3, hW3⟩ : ∃ W3 : World, W3 = wc := ⟨_, rfl⟩
      subst hW3
      go_upto_region 7 with (at_builtin; (refine wpList_append_any_s (W3.alloc (.cells #[.string b.d.dre] 9)) rfl (.tmp 30) (.tmp 36) 26 rfl W.heap.size 9 i0 _ 1 16 Try.underlying26 hi hz0 hz1 hz2 rfl (by omega) (.slice A2 (n + 1) c2) (n + 1) _ rfl (HO2.out.alloc _) _ (some ⟨W3.heap.size, 0, none⟩) 1 1 [.string b.d.dre] rfl ((SliceOf.blk (en := strC) (Blk.new_at _ 9 #[.string b.d.dre] _ rfl) [b.d.dre] rfl (fun _ => rfl) rfl).reads (fun _ => rfl)) (by simp [Value.oneCell']) (by unfold maxLen; omega) (by omega) (HB2.out.alloc HB2.out.size _).size ?_); intro A8 c8 w8 hown2 hg2 hloc2; have hB8 : Below W.heap.size W w8 := (HB2.out.alloc HB2.out.size _).grown hg2 (HB2.out.alloc HB2.out.size _).size (fun j hj => (HO2.out.lt j hj).1); rw [flat_snoc] at hown2; have HB8 := Lib.hid hB8; have HO8 := Lib.hid hown2; clear hown2 hg2 hloc2 hB8)
      have HOW : Hid (owers b = (b.pas ++ [b.d.drw]) ++ [b.d.dre]) := Lib.hid (by unfold owers; rw [HACC.out]; simp)
      have HALL := Lib.hid (SliceOf.of_own_s HO8.out (fun _ => rfl) rfl (by rw [List.length_append, List.length_append, hl]; rfl) : SliceOf w8 1 strC A8 (n + 1 + 1) ((b.pas ++ [b.d.drw]) ++ [b.d.dre]))
      have w11 := cell_kept HB8.out y11
      obtain ⟨WA, hWA⟩ : ∃ WA : World, WA = w8 := ⟨_, rfl⟩
      subst hWA
      clear HBA
      have HBA := Lib.hid (HBW.out.trans (HB8.out.mono HBW.out.size))
      go_wp2_with fail
      go_loopw [3, 5] (fun o i wr => ∃ (k m : Nat) (A' : Option Addr) (c' : Nat), k ≤ (n + 1 + 1) ∧ i = .int .i64 k ∧ o = .slice A' m c' ∧ m ≤ c' ∧ Hid (c' ≤ maxLen) ∧ Hid (SliceOf wr 1 strC A' m (liaF b.hol (((b.pas ++ [b.d.drw]) ++ [b.d.dre]).take k))) ∧ Hid (Below WA.heap.size WA wr) ∧ Below w.heap.size w wr) (fun _ i _ => (n + 1 + 1) - (intOf i).toNat)
      case atStart => exact ⟨0, 0, _, _, by omega, rfl, rfl, Nat.le_refl _, Lib.hid (Nat.zero_le _), Lib.hid SliceOf.none_, Lib.hid (Below.refl _ _), HBA.out⟩
      case round =>
        obtain ⟨k, m, A', c', hk, rfl, rfl, hmc, hcm, ho, ha, hBw⟩ := hrel
        have HAL := Lib.hid (HALL.out.below ha.out)
        have hm1 := ho.out.len
        have hm2 := liaF_len b.hol (((b.pas ++ [b.d.drw]) ++ [b.d.dre]).take k)
        have hm3 := List.length_take_le k ((b.pas ++ [b.d.drw]) ++ [b.d.dre])
        by_cases hlt : k < (n + 1 + 1)
        · obtain ⟨p, off, x, rfl, hx, q0⟩ := get_str HAL.out hlt
          have HX := Lib.hid (liaF_take (h := b.hol) hx)
          have q1 := eq_str x b.hol
          have x11 := cell_kept ha.out w11
          clear hx
          by_cases hxh : x = b.hol
          · have d1 : (x.toList == b.hol.toList) = true := by rw [q1, decide_eq_true hxh]
            have d2 : (x.toList != b.hol.toList) = false := by rw [bne, q1, decide_eq_true hxh]; rfl
            have e1 : Hid (liaF b.hol (((b.pas ++ [b.d.drw]) ++ [b.d.dre]).take (k + 1)) = liaF b.hol (((b.pas ++ [b.d.drw]) ++ [b.d.dre]).take k)) := Lib.hid (by rw [HX.out]; unfold addS; rw [if_pos hxh])
            clear q1 hxh HX
            go_wp2_with fail
            go_quiet (fail)
            go_wp2_with fail
            exact ⟨⟨k + 1, m, A', c', by omega, by go_num, rfl, hmc, hcm, Lib.hid (by rw [e1.out]; exact ho.out.below (below_drewN (Below.refl _ _) _)), Lib.hid (below_drewN ha.out _), below_drewN hBw _⟩, by simp [intOf]; omega⟩
          · have d1 : (x.toList == b.hol.toList) = false := by rw [q1, decide_eq_false hxh]
            have d2 : (x.toList != b.hol.toList) = true := by rw [bne, q1, decide_eq_false hxh]; rfl
            have e1 : Hid (liaF b.hol (((b.pas ++ [b.d.drw]) ++ [b.d.dre]).take (k + 1)) = putS (liaF b.hol (((b.pas ++ [b.d.drw]) ++ [b.d.dre]).take k)) x) := Lib.hid (by rw [HX.out]; unfold addS; rw [if_neg hxh])
            clear q1 hxh HX
            go_wp2_with fail
            go_quiet (fail)
            go_wp2_with fail
            refine (rput_any A' m c' (liaF b.hol (((b.pas ++ [b.d.drw]) ++ [b.d.dre]).take k)) x _ (ho.out.below (below_drewN (Below.refl _ _) _)) (by omega) hmc hcm.out).mono ?_
            rintro e w7 ⟨A7, m7, c7, rfl, u1, u2, u3, u4⟩
            have HS7 : Hid (SliceOf w7 1 strC A7 m7 (liaF b.hol (((b.pas ++ [b.d.drw]) ++ [b.d.dre]).take (k + 1)))) := Lib.hid (by rw [e1.out]; exact u3)
            have HB7 : Hid (Below w.heap.size w w7) := Lib.hid ((below_drewN hBw nq).trans (u4.mono (below_drewN hBw nq).size))
            have HA7 : Hid (Below WA.heap.size WA w7) := Lib.hid ((below_drewN ha.out nq).trans (u4.mono (below_drewN ha.out nq).size))
            have HC7 := Lib.hid u2
            clear u2 u3 u4 e1 ho hBw
            go_wp2_with fail
            exact ⟨⟨k + 1, m7, A7, c7, by omega, by go_num, rfl, u1, HC7, HS7, HA7, HB7.out⟩, by simp [intOf]; omega⟩
        · have hkn : k = (n + 1 + 1) := by omega
          have e1 : Hid (liaF b.hol (((b.pas ++ [b.d.drw]) ++ [b.d.dre]).take k) = liaV b) := Lib.hid (by rw [HST.out, HOW.out, List.take_of_length_le (by rw [HAL.out.len]; omega)])
          have e2 : Hid (m = (liaV b).length) := Lib.hid (by rw [← hm1, e1.out])
          have HBF := Lib.hid hBw
          go_wp2_with fail
          go_ret
          exact ⟨_, rfl, A', c', by rw [← e2.out]; rfl, by rw [← e2.out, ← e1.out]; exact ho.out, HBF.out⟩
end Go.Proofs.Yteannbphaodadaa.kit
