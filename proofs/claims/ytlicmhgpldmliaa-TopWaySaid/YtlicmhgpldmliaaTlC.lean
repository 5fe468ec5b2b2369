/- An end of a link: what is sure, what is acked, what is sent. No condition. -/
import Derived.Test.YtlicmhgpldmliaaTlB
namespace Go.Proofs.Ytlicmhgpldmliaa.kit
open Go.RowKit
set_option linter.unusedVariables false

theorem sure_got (s o : ByteArray) (v : Value) (sent got sure : Int) (gm g : Nat) (ow : Bool) (w : World) (hk : Blk w g 90 #[.string s, .string o, v, .int .i64 sent, .int .i64 got, .int .i64 sure, .map (some gm), .bool ow]) (h1 : 0 ≤ sure ∧ sure ≤ got) :
    Calls Try.prog 12 #[(.pointer (some ⟨g, 0, none⟩)), .int .i64 got] w fun e w' => e = .returned (.int .i64 got) ∧ Blk w' g 90 #[.string s, .string o, v, .int .i64 sent, .int .i64 got, .int .i64 got, .map (some gm), .bool (ow || decide (sure < got))] ∧ Fr (fun k => k = g) w w' := by
  have HK := Lib.hid hk
  have e0 := hk.cell 0; have e1 := hk.cell 1; have e2 := hk.cell 2; have e3 := hk.cell 3; have e4 := hk.cell 4; have e5 := hk.cell 5; have e6 := hk.cell 6; have e7 := hk.cell 7
  simp only [List.getElem?_toArray, List.getElem?_cons_zero, List.getElem?_cons_succ] at e0 e1 e2 e3 e4 e5 e6 e7
  have f5 := hk.frozen 5; have f7 := hk.frozen 7
  have hmin : min got got = got := Int.min_self got
  clear hk
  by_cases hlt : sure < got
  · have hd : Hid ((ow || decide (sure < got)) = true) := Lib.hid (by rw [decide_eq_true hlt]; simp)
    rw [hd.out]
    go_enter Try.func12, Try.ntmps12
    go_wp2_with fail
    go_ret
    exact ⟨rfl, (HK.out.set_ 5 (.int .i64 got)).set_ 7 (.bool true), ((Fr.refl (fun k => k = g) w).setCell (p := ⟨g, 5, none⟩) (.inl rfl) _).setCell (p := ⟨g, 7, none⟩) (.inl rfl) _⟩
  · have hs : sure = got := by omega
    have hd : Hid ((ow || decide (sure < got)) = ow) := Lib.hid (by rw [decide_eq_false hlt]; simp)
    rw [hd.out]
    subst hs
    clear hd
    go_enter Try.func12, Try.ntmps12
    go_wp2_with fail
    go_ret
    exact ⟨rfl, HK.out, Fr.refl _ _⟩
/-- Letters that a clone copies. -/
theorem clone_lts (b off n c : Nat) (xs : List Lr) (w : World) (hx : SliceOf w 14 ltC (some ⟨b, off, none⟩) n xs) (hm : n ≤ 4096) :
    Calls Try.prog 55 #[.slice (some ⟨b, off, none⟩) n c] w fun e w' => ∃ v, e = .returned v ∧ w'.ownsRow w.heap.size 32 14 v n (xs.flatMap ltC) ∧ Below w.heap.size w w' := by
  have q : ∀ (w : World) (a : Option Addr) (n c n' c' : Nat), (binOp .eql 26 (.slice a n c) (.slice none n' c')).run Try.prog w = .ok (.bool a.isNone) w := fun w a n c n' c' => Lib.run_eql_slice_nil w _ _ a n c n' c' Try.underlying26
  have HR := Lib.hid ((hx.below (one_alloc w (.cells #[] 32))).reads lt_len)
  have HO := Lib.hid (own_first0 (e := 32) (C := 14) w)
  have HB := Lib.hid (one_alloc w (.cells #[] 32))
  have hbs : (Instr.buildSlice 26 0 #[]).run Try.prog w = .ok (.slice (some ⟨w.heap.size, 0, none⟩) 0 0) (w.alloc (.cells #[] 32)) := by kernel_rfl
  obtain ⟨i0, hi, hz0, hz1, hz2⟩ := info_parts infoLt
  have HS : Hid (w.heap.size ≤ (w.alloc (.cells #[] 32)).heap.size) := Lib.hid (size_first0 _ _)
  clear hx
  go_enter Try.func55, Try.ntmps55
  go_wp2_with (at_builtin; refine wpList_append_any_s _ rfl (.tmp 5) (.tmp 6) 26 rfl w.heap.size 32 i0 _ 14 192 Try.underlying26 hi hz0 hz1 hz2 rfl (by omega) _ 0 [] rfl HO.out _ (some ⟨b, off, none⟩) n c (xs.flatMap ltC) rfl HR.out (lts_one xs) (by unfold maxLen; omega) (by omega) HS.out ?_; intro A9 c9 w9 hown9 hg9 hl9; have HB9 := Lib.hid (grown_emp0 HB.out hg9 (Nat.le_refl _)); have HO9 := Lib.hid hown9; clear hown9 hg9 hl9)
  go_ret
  exact ⟨_, rfl, by simpa using HO9.out, HB9.out⟩
/-- A row of letters of one's own, as a slice: its address opens. -/
theorem own_addr {w : World} {B n : Nat} {v : Value} {xs : List Lr} (h : w.ownsRow B 32 14 v n (xs.flatMap ltC)) (hn : 0 < n) : ∃ b c, v = .slice (some ⟨b, 0, none⟩) n c ∧ n ≤ c ∧ B ≤ b ∧ c ≤ maxLen := by
  rcases h.2 with ⟨_, h0⟩ | ⟨g, cap, cur, hv, hb, _, hc, hm, _⟩
  · omega
  · exact ⟨g, cap, hv, hc, hb, hm⟩
theorem own_lower {w : World} {B B' n : Nat} {e : TypeId} {C : Nat} {v : Value} {ys : List Value} (h : w.ownsRow B' e C v n ys) (hB : B ≤ B') : w.ownsRow B e C v n ys := by
  refine ⟨h.1, ?_⟩
  rcases h.2 with h0 | ⟨g, cap, cur, hv, hb, rest⟩
  · exact .inl h0
  · exact .inr ⟨g, cap, cur, hv, Nat.le_trans hB hb, rest⟩
/-- A row lies as it lay when a cell of an end is set. -/
theorem own_set {w : World} {B n g : Nat} {v : Value} {ys : List Value} {cs : Array Value} (h : w.ownsRow B 32 14 v n ys) (hk : Blk w g 90 cs) (i : Nat) (u : Value) : (w.setCell ⟨g, i, none⟩ u).ownsRow B 32 14 v n ys :=
  own_fr h ((Fr.refl (fun k => k = g) w).setCell (p := ⟨g, i, none⟩) (.inl rfl) u) (fun k hkk e => own_blk_ne h hk (by decide) (by rw [hkk, e]))
def NewRow (w : World) (v v' : Value) : Prop := v'.ownBlock = v.ownBlock ∨ ∀ b, v'.ownBlock = some b → w.heap.size ≤ b
set_option maxRecDepth 100000 in
set_option maxHeartbeats 3200000 in
theorem acked_drop (B : Nat) (s o : ByteArray) (v : Value) (xs : List Lr) (sent got sure n : Int) (gm g : Nat) (ow : Bool) (w : World) (hk : Blk w g 90 #[.string s, .string o, v, .int .i64 sent, .int .i64 got, .int .i64 sure, .map (some gm), .bool ow]) (hv : w.ownsRow B 32 14 v xs.length (xs.flatMap ltC)) (hB : B ≤ w.heap.size) (h1 : 0 ≤ sent ∧ sent ≤ 1048576) (h2 : xs.length ≤ 4096) (hn : n ≤ sent) (hx : (xs.length : Int) ≤ sent) :
    Calls Try.prog 31 #[(.pointer (some ⟨g, 0, none⟩)), .int .i64 n] w fun e w' => ∃ v' r, e = .returned (.int .i64 r) ∧ Blk w' g 90 #[.string s, .string o, v', .int .i64 sent, .int .i64 got, .int .i64 sure, .map (some gm), .bool ow] ∧ w'.ownsRow B 32 14 v' (xs.drop (n - (sent - xs.length)).toNat).length ((xs.drop (n - (sent - xs.length)).toNat).flatMap ltC) ∧ NewRow w v v' ∧ Fr (fun k => k = g) w w' := by
  have HK := Lib.hid hk
  have HV := Lib.hid hv
  have HBB := Lib.hid hB
  obtain ⟨A, c, rfl⟩ := own_slice hv
  have HA := Lib.hid (acked_any s o A xs.length c sent got sure gm g ow w hk h1 h2)
  obtain ⟨N, hN⟩ : ∃ N, xs.length = N := ⟨_, rfl⟩
  rw [hN] at HA HK HV h2 hx ⊢
  by_cases hle : n ≤ sent - N
  · have e0 : Hid ((n - (sent - (N : Int))).toNat = 0) := Lib.hid (by omega)
    rw [e0.out, List.drop_zero, hN]
    clear hk hv hB
    go_enter Try.func31, Try.ntmps31
    go_wp2_with fail
    refine HA.out.mono ?_
    rintro e w1 ⟨rfl, hb1⟩
    have HB1 := Lib.hid hb1
    clear hb1
    go_wp2_with fail
    go_ret
    exact ⟨_, _, rfl, HK.out.below HB1.out HK.out.lt, own_kept_below HV.out HB1.out, .inl rfl, (Fr.refl _ _).on HB1.out⟩
  · obtain ⟨k, hkk⟩ : ∃ k : Nat, n - (sent - (N : Int)) = k := ⟨(n - (sent - (N : Int))).toNat, by omega⟩
    have hkN : k ≤ N := by omega
    have hk0 : 0 < k := by omega
    obtain ⟨b, c', hbv, hNc, hBb, hcm⟩ := own_addr (xs := xs) HV.out (by omega)
    injection hbv with hA1 _ hc1
    subst hA1 hc1
    have hw1 : IntKind.i64.wrap (n - (sent - (N : Int))) = (k : Int) := by rw [hkk]; exact IntWalk.i64_in _ (by omega)
    have hmin : min (k : Int) (N : Int) = (k : Int) := by omega
    have hlen : (xs.drop k).length = N - k := by rw [List.length_drop, hN]
    have e0 : Hid ((n - (sent - (N : Int))).toNat = k) := Lib.hid (by omega)
    rw [e0.out, hlen]
    have HX := Lib.hid ((SliceOf.of_own_s HV.out lt_len rfl hN).drop_ hkN hNc)
    have t0 : ¬ n ≤ sent - (N : Int) := hle
    have t1 : (0 : Int) ≤ (k : Int) := by omega
    have t2 : (k : Int) ≤ (N : Int) := by omega
    have t3 : (N : Int) ≤ (c : Int) := by omega
    by_cases hck : c = k
    · rw [if_pos hck] at HX
      have hck' := hck.symm
      subst hck'
      clear hck
      have hNk : N - k = 0 := by omega
      rw [hNk] at HX ⊢
      clear hk hv hB hle
      go_enter Try.func31, Try.ntmps31
      go_wp2_with fail
      refine HA.out.mono ?_
      rintro e w1 ⟨rfl, hb1⟩
      have HB1 := Lib.hid hb1
      have HK1 := Lib.hid (HK.out.below hb1 HK.out.lt)
      have HX1 := Lib.hid (HX.out.below hb1)
      have HQ : Hid (∀ x : BW w1, Calls Try.prog 34 #[(.pointer (some ⟨g, 0, none⟩))] (wof x) fun e w' => e = .returned (.int .i64 (sent - N)) ∧ Below (wof x).heap.size (wof x) w') := Lib.hid (fun x => acked_any s o _ N _ sent got sure gm g ow (wof x) (HK1.out.below (wof_below x) HK1.out.lt) h1 h2)
      have e0 := HK1.out.cell 0; have e1 := HK1.out.cell 1; have e2 := HK1.out.cell 2; have e3 := HK1.out.cell 3; have e4 := HK1.out.cell 4; have e5 := HK1.out.cell 5; have e6 := HK1.out.cell 6; have e7 := HK1.out.cell 7
      simp only [List.getElem?_toArray, List.getElem?_cons_zero, List.getElem?_cons_succ] at e0 e1 e2 e3 e4 e5 e6 e7
      have c2 := wof_cell e2
      clear hb1
      go_wp2_with fail
      refine wp_region_quiet_below (by kernel_rfl) (by kernel_rfl) ?_
      repeat (go_big_quiet_step ((go_at_call 34; exact quiet_below (HQ.out _))))
      refine wpQuiet_nil ?_
      intro w2 hb2
      have HB2 := Lib.hid (HB1.out.trans (hb2.mono HB1.out.size))
      have HK2 := Lib.hid (HK1.out.below hb2 HK1.out.lt)
      have HX2 := Lib.hid (HX1.out.below hb2)
      clear e0 e1 e2 e3 e4 e5 e6 e7
      clear c2 hb2 HQ
      have e0 := HK2.out.cell 0; have e1 := HK2.out.cell 1; have e2 := HK2.out.cell 2; have e3 := HK2.out.cell 3; have e4 := HK2.out.cell 4; have e5 := HK2.out.cell 5; have e6 := HK2.out.cell 6; have e7 := HK2.out.cell 7
      simp only [List.getElem?_toArray, List.getElem?_cons_zero, List.getElem?_cons_succ] at e0 e1 e2 e3 e4 e5 e6 e7
      go_wp2_with fail
      refine (clone_lts b (0) (0) (0) (xs.drop k) _ HX2.out (by omega)).mono ?_
      rintro e w3 ⟨v', rfl, hv3, hb3⟩
      have HK3 := Lib.hid (HK2.out.below hb3 HK2.out.lt)
      have HB3 := Lib.hid (HB2.out.trans (hb3.mono HB2.out.size))
      have HV3 := Lib.hid hv3
      have HS2 := Lib.hid (Nat.le_trans HBB.out HB2.out.size)
      have HN2 := Lib.hid HB2.out.size
      obtain ⟨A3, c3, rfl⟩ := own_slice hv3
      clear e0 e1 e2 e3 e4 e5 e6 e7
      clear hb3 hv3
      have e0 := HK3.out.cell 0; have e1 := HK3.out.cell 1; have e2 := HK3.out.cell 2; have e3 := HK3.out.cell 3; have e4 := HK3.out.cell 4; have e5 := HK3.out.cell 5; have e6 := HK3.out.cell 6; have e7 := HK3.out.cell 7
      simp only [List.getElem?_toArray, List.getElem?_cons_zero, List.getElem?_cons_succ] at e0 e1 e2 e3 e4 e5 e6 e7
      have f2 := HK3.out.frozen 2
      go_wp2_with fail
      go_ret
      refine ⟨.slice A3 (0) c3, _, rfl, HK3.out.set_ 2 _, ?_, .inr (fun q hq => Nat.le_trans HN2.out ((HV3.out.lt q hq).1)), ((Fr.refl (fun k => k = g) w).on HB3.out).setCell (p := ⟨g, 2, none⟩) (.inl rfl) _⟩
      have h4 : w3.ownsRow B 32 14 (.slice A3 (0) c3) (0) ((xs.drop k).flatMap ltC) := own_lower HV3.out HS2.out
      exact own_set h4 HK3.out _ _
    · rw [if_neg hck] at HX
      have HX' : Hid (SliceOf w 14 ltC (some ⟨b, k * 14, none⟩) (N - k) (xs.drop k)) := Lib.hid (by have := HX.out; simpa [addr_add] using this)
      clear HX
      have HX := HX'
      clear HX'
      clear hk hv hB hle
      go_enter Try.func31, Try.ntmps31
      go_wp2_with fail
      refine HA.out.mono ?_
      rintro e w1 ⟨rfl, hb1⟩
      have HB1 := Lib.hid hb1
      have HK1 := Lib.hid (HK.out.below hb1 HK.out.lt)
      have HX1 := Lib.hid (HX.out.below hb1)
      have HQ : Hid (∀ x : BW w1, Calls Try.prog 34 #[(.pointer (some ⟨g, 0, none⟩))] (wof x) fun e w' => e = .returned (.int .i64 (sent - N)) ∧ Below (wof x).heap.size (wof x) w') := Lib.hid (fun x => acked_any s o _ N _ sent got sure gm g ow (wof x) (HK1.out.below (wof_below x) HK1.out.lt) h1 h2)
      have e0 := HK1.out.cell 0; have e1 := HK1.out.cell 1; have e2 := HK1.out.cell 2; have e3 := HK1.out.cell 3; have e4 := HK1.out.cell 4; have e5 := HK1.out.cell 5; have e6 := HK1.out.cell 6; have e7 := HK1.out.cell 7
      simp only [List.getElem?_toArray, List.getElem?_cons_zero, List.getElem?_cons_succ] at e0 e1 e2 e3 e4 e5 e6 e7
      have c2 := wof_cell e2
      clear hb1
      go_wp2_with fail
      refine wp_region_quiet_below (by kernel_rfl) (by kernel_rfl) ?_
      repeat (go_big_quiet_step ((go_at_call 34; exact quiet_below (HQ.out _))))
      refine wpQuiet_nil ?_
      intro w2 hb2
      have HB2 := Lib.hid (HB1.out.trans (hb2.mono HB1.out.size))
      have HK2 := Lib.hid (HK1.out.below hb2 HK1.out.lt)
      have HX2 := Lib.hid (HX1.out.below hb2)
      clear e0 e1 e2 e3 e4 e5 e6 e7
      clear c2 hb2 HQ
      have e0 := HK2.out.cell 0; have e1 := HK2.out.cell 1; have e2 := HK2.out.cell 2; have e3 := HK2.out.cell 3; have e4 := HK2.out.cell 4; have e5 := HK2.out.cell 5; have e6 := HK2.out.cell 6; have e7 := HK2.out.cell 7
      simp only [List.getElem?_toArray, List.getElem?_cons_zero, List.getElem?_cons_succ] at e0 e1 e2 e3 e4 e5 e6 e7
      go_wp2_with fail
      refine (clone_lts b (k * 14) (N - k) (c - k) (xs.drop k) _ HX2.out (by omega)).mono ?_
      rintro e w3 ⟨v', rfl, hv3, hb3⟩
      have HK3 := Lib.hid (HK2.out.below hb3 HK2.out.lt)
      have HB3 := Lib.hid (HB2.out.trans (hb3.mono HB2.out.size))
      have HV3 := Lib.hid hv3
      have HS2 := Lib.hid (Nat.le_trans HBB.out HB2.out.size)
      have HN2 := Lib.hid HB2.out.size
      obtain ⟨A3, c3, rfl⟩ := own_slice hv3
      clear e0 e1 e2 e3 e4 e5 e6 e7
      clear hb3 hv3
      have e0 := HK3.out.cell 0; have e1 := HK3.out.cell 1; have e2 := HK3.out.cell 2; have e3 := HK3.out.cell 3; have e4 := HK3.out.cell 4; have e5 := HK3.out.cell 5; have e6 := HK3.out.cell 6; have e7 := HK3.out.cell 7
      simp only [List.getElem?_toArray, List.getElem?_cons_zero, List.getElem?_cons_succ] at e0 e1 e2 e3 e4 e5 e6 e7
      have f2 := HK3.out.frozen 2
      go_wp2_with fail
      go_ret
      refine ⟨.slice A3 (N - k) c3, _, rfl, HK3.out.set_ 2 _, ?_, .inr (fun q hq => Nat.le_trans HN2.out ((HV3.out.lt q hq).1)), ((Fr.refl (fun k => k = g) w).on HB3.out).setCell (p := ⟨g, 2, none⟩) (.inl rfl) _⟩
      have h4 : w3.ownsRow B 32 14 (.slice A3 (N - k) c3) (N - k) ((xs.drop k).flatMap ltC) := own_lower HV3.out HS2.out
      exact own_set h4 HK3.out _ _
end Go.Proofs.Ytlicmhgpldmliaa.kit
