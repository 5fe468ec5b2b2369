/- Whether papers are too late, by the program: its five checks, each a closure. No condition. -/
import Derived.Test.YtfiflmgjcmmomaaNotC
namespace Go.Proofs.Ytfiflmgjcmmomaa
open Go.RowKit Go.Proofs.Ytfiflmgjcmmomaa.kit Go.Proofs.Ytfiflmgjcmmomaa.cal
set_option linter.unusedVariables false

structure Cr where
  s0 : ByteArray
  s1 : ByteArray
  s2 : ByteArray
  s3 : ByteArray
  s4 : ByteArray
  s5 : ByteArray
  s6 : ByteArray
  cur : ByteArray
  am : Int
  ab : Int
  be : Int
  la : Int
  ex : Int
  wi : Int
  te : Int
  pa : Bool
  ch : Bool
  nA : Option Addr
  nn : Nat
  nc : Nat

def allDays (l : List Int) : Bool := l.all isDayB
theorem days_take {l : List Int} {k : Nat} {x : Int} (hx : l[k]? = some x) : allDays (l.take (k + 1)) = (allDays (l.take k) && isDayB x) := by
  unfold allDays
  rw [List.take_add_one, hx, List.all_append]
  simp
theorem days_bad {l : List Int} {k : Nat} {x : Int} (hx : l[k]? = some x) (h : isDayB x = false) : allDays l = false := by
  unfold allDays
  rw [List.all_eq_false]
  exact ⟨x, List.mem_of_getElem? hx, by simp [h]⟩
set_option maxHeartbeats 800000 in
theorem nisDay_any (A : Option Addr) (n c : Nat) (xs : List Int) (w : World) (hx : SliceOf w 1 intC A n xs) (hm : n ≤ 4096) :
    Calls Try.prog 35 #[.slice A n c] w fun e w' => e = .returned (.bool (allDays xs)) ∧ w = w' := by
  have HX := Lib.hid hx
  have hxl := hx.len
  clear hx
  go_enter Try.func35, Try.ntmps35
  go_wp2_with fail
  go_loop [7] (fun i => ∃ k : Nat, k ≤ n ∧ i = .int .i64 k ∧ Hid (allDays (xs.take k) = true)) (fun i => n - (intOf i).toNat)
  case atStart => exact ⟨0, Nat.zero_le _, rfl, Lib.hid rfl⟩
  case round =>
    obtain ⟨k, hk, rfl, hd⟩ := hrel
    by_cases hlt : k < n
    · obtain ⟨x, hxk⟩ : ∃ x, xs[k]? = some x := ⟨_, List.getElem?_eq_getElem (by omega)⟩
      obtain ⟨b, off, rfl, hb, hc⟩ := HX.out.at_ (by omega)
      have c0 : w.cell? ⟨b, off + k, none⟩ = some (.int .i64 x) := by simpa using hc k _ hxk 0 _ rfl
      have HS := Lib.hid (days_take hxk)
      have HK := Lib.hid hxk
      clear hc hxk
      by_cases q0 : x < 0
      · have e0 : Hid (allDays xs = false) := Lib.hid (days_bad HK.out (by unfold isDayB; exact decide_eq_false (by omega)))
        go_wp2_with fail
        go_ret
        exact ⟨ret_bool e0.out.symm, rfl⟩
      by_cases q1 : 1048576 < x
      · have e0 : Hid (allDays xs = false) := Lib.hid (days_bad HK.out (by unfold isDayB; exact decide_eq_false (by omega)))
        go_wp2_with fail
        go_ret
        exact ⟨ret_bool e0.out.symm, rfl⟩
      · have e0 : Hid (allDays (xs.take (k + 1)) = true) := Lib.hid (by rw [HS.out, hd.out]; unfold isDayB; rw [decide_eq_true (by omega)]; rfl)
        go_wp2_with fail
        go_round
        case rel => exact ⟨k + 1, by omega, by go_num, e0⟩
        case measure => simp [intOf]; omega
    · have e0 : Hid (allDays xs = true) := Lib.hid (by have := hd.out; rwa [List.take_of_length_le (by omega)] at this)
      go_wp2_with fail
      go_ret
      exact ⟨ret_bool e0.out.symm, rfl⟩

/-- The last day for a shipment. -/
def shipV (c : Cal) (sh wi last : Int) : Int := if (nextV c (sh + wi)).2 = true ∧ (nextV c (sh + wi)).1 ≤ last then (nextV c (sh + wi)).1 else last
theorem shipment_any (c : Cal) (A1 : Option Addr) (n1 c1 : Nat) (A2 : Option Addr) (n2 c2 : Nat) (sh wi last : Int) (hs : -2000000 ≤ sh ∧ sh ≤ 2000000) (hw : -2000000 ≤ wi ∧ wi ≤ 2000000) (w : World) (h1 : SliceOf w 1 intC A1 n1 c.rest) (h2 : SliceOf w 1 intC A2 n2 c.hol) (m1 : n1 ≤ maxLen) (m2 : n2 ≤ maxLen) :
    Calls Try.prog 40 #[.agg #[.slice A1 n1 c1, .slice A2 n2 c2], .int .i64 sh, .int .i64 wi, .int .i64 last] w fun e w' => e = .returned (.int .i64 (shipV c sh wi last)) ∧ Below w.heap.size w w' := by
  obtain ⟨s0, s1⟩ := hs
  obtain ⟨w0, w1'⟩ := hw
  have H1 := Lib.hid h1
  have H2 := Lib.hid h2
  have l1 := h1.len
  have l2 := h2.len
  clear h1 h2
  have hB0 : Below w.heap.size w (w.alloc (.cells #[.slice A1 n1 c1, .slice A2 n2 c2] 24)) := (Below.refl _ _).alloc (Nat.le_refl _) _
  have hk0 : Blk (w.alloc (.cells #[.slice A1 n1 c1, .slice A2 n2 c2] 24)) w.heap.size 24 #[.slice A1 n1 c1, .slice A2 n2 c2] := Blk.new _ _ _
  obtain ⟨N, hN⟩ : ∃ N, (nextV c (sh + wi)).1 = N := ⟨_, rfl⟩
  obtain ⟨ok, hok⟩ : ∃ ok, (nextV c (sh + wi)).2 = ok := ⟨_, rfl⟩
  have e0 : shipV c sh wi last = if ok = true ∧ N ≤ last then N else last := by unfold shipV; rw [hN, hok]
  have HN := Lib.hid hN; have HO := Lib.hid hok
  rw [e0]
  clear e0 hN hok
  by_cases h : N ≤ last
  · have e1 : Hid ((if ok = true ∧ N ≤ last then N else last) = if ok then N else last) := Lib.hid (by cases ok <;> simp [h])
    rw [e1.out]
    cases ok
    all_goals
      simp only [if_true, if_false, Bool.false_eq_true]
      go_enter Try.func40, Try.ntmps40
      go_wp2_with fail
      refine (next_any c A1 n1 c1 A2 n2 c2 (sh + wi) _ (H1.out.below hB0) (H2.out.below hB0) m1 m2).mono ?_
      rw [HN.out, HO.out]
      rintro e w1 ⟨rfl, hb1⟩
      have hB1 := hB0.trans (hb1.mono hB0.size)
      have hk1 := hk0.below hb1 hk0.lt
      clear hB0 hk0 hb1
      go_wp2_with fail
      go_ret
      exact ⟨rfl, hB1⟩
  · have e1 : Hid ((if ok = true ∧ N ≤ last then N else last) = last) := Lib.hid (if_neg (fun h' => h h'.2))
    rw [e1.out]
    cases ok
    all_goals
      go_enter Try.func40, Try.ntmps40
      go_wp2_with fail
      refine (next_any c A1 n1 c1 A2 n2 c2 (sh + wi) _ (H1.out.below hB0) (H2.out.below hB0) m1 m2).mono ?_
      rw [HN.out, HO.out]
      rintro e w1 ⟨rfl, hb1⟩
      have hB1 := hB0.trans (hb1.mono hB0.size)
      have hk1 := hk0.below hb1 hk0.lt
      clear hB0 hk0 hb1
      go_wp2_with fail
      go_ret
      exact ⟨rfl, hB1⟩

/-- What the closures see. -/
structure Mem (w0 : World) (c : Cal) (A1 : Option Addr) (n1 c1 : Nat) (A2 : Option Addr) (n2 c2 : Nat) (r : Cr) (sh pr : Int) (g : Nat) (w : World) (l : Int) : Prop where
  bel : Below w0.heap.size w0 w
  le : w0.heap.size ≤ g
  cal : Blk w g 24 #[.slice A1 n1 c1, .slice A2 n2 c2]
  cr : Blk w (g + 1) 42 #[.string r.s0, .string r.s1, .string r.s2, .string r.s3, .string r.s4, .string r.s5, .string r.s6, .string r.cur, .int .i64 r.am, .int .i64 r.ab, .int .i64 r.be, .int .i64 r.la, .int .i64 r.ex, .int .i64 r.wi, .int .i64 r.te, .bool r.pa, .bool r.ch, .slice r.nA r.nn r.nc]
  sh_ : Blk w (g + 2) 3 #[.int .i64 sh]
  pr_ : Blk w (g + 3) 3 #[.int .i64 pr]
  last : Blk w (g + 4) 3 #[.int .i64 l]
  chk : Blk w (g + 5) 55 #[.int .i64 1, .func (.func 34) #[] #[.pointer (some ⟨g + 2, 0, none⟩), .pointer (some ⟨g + 3, 0, none⟩), .pointer (some ⟨g + 1, 0, none⟩)], .int .i64 4, .func (.func 36) #[] #[.pointer (some ⟨g, 0, none⟩), .pointer (some ⟨g + 1, 0, none⟩), .pointer (some ⟨g + 4, 0, none⟩)], .int .i64 6, .func (.func 37) #[] #[.pointer (some ⟨g + 3, 0, none⟩), .pointer (some ⟨g + 2, 0, none⟩)], .int .i64 11, .func (.func 38) #[] #[.pointer (some ⟨g + 2, 0, none⟩), .pointer (some ⟨g + 1, 0, none⟩)], .int .i64 11, .func (.func 39) #[] #[.pointer (some ⟨g + 3, 0, none⟩), .pointer (some ⟨g, 0, none⟩), .pointer (some ⟨g + 2, 0, none⟩), .pointer (some ⟨g + 1, 0, none⟩), .pointer (some ⟨g + 4, 0, none⟩)]]
section
variable {w0 : World} {c : Cal} {A1 : Option Addr} {n1 c1 : Nat} {A2 : Option Addr} {n2 c2 : Nat} {r : Cr} {sh pr : Int} {g : Nat} {w w' : World} {l : Int}
theorem Mem.below (h : Mem w0 c A1 n1 c1 A2 n2 c2 r sh pr g w l) (hb : Below w.heap.size w w') : Mem w0 c A1 n1 c1 A2 n2 c2 r sh pr g w' l :=
  ⟨h.bel.trans (hb.mono h.bel.size), h.le, h.cal.below hb h.cal.lt, h.cr.below hb h.cr.lt, h.sh_.below hb h.sh_.lt, h.pr_.below hb h.pr_.lt, h.last.below hb h.last.lt, h.chk.below hb h.chk.lt⟩
theorem Mem.set (h : Mem w0 c A1 n1 c1 A2 n2 c2 r sh pr g w l) (l' : Int) : Mem w0 c A1 n1 c1 A2 n2 c2 r sh pr g (w.setCell ⟨g + 4, 0, none⟩ (.int .i64 l')) l' :=
  ⟨h.bel.setCell (by have := h.le; dsimp only; omega) _, h.le, h.cal.far (by dsimp only; omega) _, h.cr.far (by dsimp only; omega) _, h.sh_.far (by dsimp only; omega) _, h.pr_.far (by dsimp only; omega) _, by have := h.last.set_ 0 (.int .i64 l'); simpa using this, h.chk.far (by dsimp only; omega) _⟩
/-- All blocks but the one of `last` are kept. -/
def Kept (g : Nat) (w w' : World) : Prop := ∀ (b : Nat) (T : TypeId) (cs : Array Value), b ≠ g + 4 → Blk w b T cs → Blk w' b T cs
theorem Kept.of (g : Nat) {w w' : World} (h : Below w.heap.size w w') : Kept g w w' := fun _ _ _ _ hk => hk.below h hk.lt
theorem Kept.set {g : Nat} {w w' : World} (h : Kept g w w') (v : Value) : Kept g w (w'.setCell ⟨g + 4, 0, none⟩ v) := fun b T cs hb hk => (h b T cs hb hk).far (by dsimp only; omega) _
end

def fiveDays (r : Cr) (sh pr : Int) : Bool := allDays [sh, pr, r.la, r.ex, r.wi]
section
variable (w0 : World) (c : Cal) (A1 : Option Addr) (n1 c1 : Nat) (A2 : Option Addr) (n2 c2 : Nat) (r : Cr) (sh pr : Int) (g : Nat) (w : World) (l : Int)
theorem late1 (h : Mem w0 c A1 n1 c1 A2 n2 c2 r sh pr g w l) : Calls Try.prog 34 #[.pointer (some ⟨g + 2, 0, none⟩), .pointer (some ⟨g + 3, 0, none⟩), .pointer (some ⟨g + 1, 0, none⟩)] w fun e w' => e = .returned (.bool (!fiveDays r sh pr)) ∧ Mem w0 c A1 n1 c1 A2 n2 c2 r sh pr g w' l ∧ Kept g w w' := by
  have HM := Lib.hid h
  have k0 := h.cal.cell 0; have k1 := h.cal.cell 1; have k11 := h.cr.cell 11; have k12 := h.cr.cell 12; have k13 := h.cr.cell 13; have ks := h.sh_.cell 0; have kp := h.pr_.cell 0; have kl := h.last.cell 0; have zl := h.last.frozen 0; simp only [List.getElem?_toArray, List.getElem?_cons_zero, List.getElem?_cons_succ] at k0 k1 k11 k12 k13 ks kp kl
  have hB : Below w.heap.size w (w.alloc (.cells #[.int .i64 sh, .int .i64 pr, .int .i64 r.la, .int .i64 r.ex, .int .i64 r.wi] 3)) := (Below.refl _ _).alloc (Nat.le_refl _) _
  clear h
  go_enter Try.func34, Try.ntmps34
  go_wp2_with fail
  refine (nisDay_any _ 5 5 [sh, pr, r.la, r.ex, r.wi] _ (SliceOf.new _ _ _ _ (by simp) _ rfl (fun _ => rfl) rfl) (by omega)).mono ?_
  rintro e w1 ⟨rfl, rfl⟩
  go_wp2_with fail
  go_ret
  exact ⟨rfl, HM.out.below hB, .of g hB⟩
theorem late2 (s1 : SliceOf w0 1 intC A1 n1 c.rest) (s2 : SliceOf w0 1 intC A2 n2 c.hol) (m1 : n1 ≤ maxLen) (m2 : n2 ≤ maxLen) (h : Mem w0 c A1 n1 c1 A2 n2 c2 r sh pr g w l) : Calls Try.prog 36 #[.pointer (some ⟨g, 0, none⟩), .pointer (some ⟨g + 1, 0, none⟩), .pointer (some ⟨g + 4, 0, none⟩)] w fun e w' => e = .returned (.bool (!(nextV c r.ex).2)) ∧ Mem w0 c A1 n1 c1 A2 n2 c2 r sh pr g w' (nextV c r.ex).1 ∧ Kept g w w' := by
  have HM := Lib.hid h
  have H1 := Lib.hid s1; have H2 := Lib.hid s2
  have k0 := h.cal.cell 0; have k1 := h.cal.cell 1; have k11 := h.cr.cell 11; have k12 := h.cr.cell 12; have k13 := h.cr.cell 13; have ks := h.sh_.cell 0; have kp := h.pr_.cell 0; have kl := h.last.cell 0; have zl := h.last.frozen 0; simp only [List.getElem?_toArray, List.getElem?_cons_zero, List.getElem?_cons_succ] at k0 k1 k11 k12 k13 ks kp kl
  clear h s1 s2
  go_enter Try.func36, Try.ntmps36
  go_wp2_with fail
  refine (expiry_any c A1 n1 c1 A2 n2 c2 r.ex _ (H1.out.below HM.out.bel) (H2.out.below HM.out.bel) m1 m2).mono ?_
  rintro e w1 ⟨rfl, hb1⟩
  have h := HM.out.below hb1
  have HM1 := Lib.hid h
  clear k0 k1 k11 k12 k13 ks kp kl zl
  have k0 := h.cal.cell 0; have k1 := h.cal.cell 1; have k11 := h.cr.cell 11; have k12 := h.cr.cell 12; have k13 := h.cr.cell 13; have ks := h.sh_.cell 0; have kp := h.pr_.cell 0; have kl := h.last.cell 0; have zl := h.last.frozen 0; simp only [List.getElem?_toArray, List.getElem?_cons_zero, List.getElem?_cons_succ] at k0 k1 k11 k12 k13 ks kp kl
  clear h
  go_wp2_with fail
  go_ret
  exact ⟨rfl, HM1.out.set _, (Kept.of g hb1).set _⟩
theorem late3 (h : Mem w0 c A1 n1 c1 A2 n2 c2 r sh pr g w l) : Calls Try.prog 37 #[.pointer (some ⟨g + 3, 0, none⟩), .pointer (some ⟨g + 2, 0, none⟩)] w fun e w' => e = .returned (.bool (decide (pr < sh))) ∧ Mem w0 c A1 n1 c1 A2 n2 c2 r sh pr g w' l ∧ Kept g w w' := by
  have HM := Lib.hid h
  have k0 := h.cal.cell 0; have k1 := h.cal.cell 1; have k11 := h.cr.cell 11; have k12 := h.cr.cell 12; have k13 := h.cr.cell 13; have ks := h.sh_.cell 0; have kp := h.pr_.cell 0; have kl := h.last.cell 0; have zl := h.last.frozen 0; simp only [List.getElem?_toArray, List.getElem?_cons_zero, List.getElem?_cons_succ] at k0 k1 k11 k12 k13 ks kp kl
  clear h
  go_enter Try.func37, Try.ntmps37
  go_wp2_with fail
  go_ret
  exact ⟨rfl, HM.out, .of g (Below.refl _ _)⟩
theorem late4 (h : Mem w0 c A1 n1 c1 A2 n2 c2 r sh pr g w l) : Calls Try.prog 38 #[.pointer (some ⟨g + 2, 0, none⟩), .pointer (some ⟨g + 1, 0, none⟩)] w fun e w' => e = .returned (.bool (decide (r.la < sh))) ∧ Mem w0 c A1 n1 c1 A2 n2 c2 r sh pr g w' l ∧ Kept g w w' := by
  have HM := Lib.hid h
  have k0 := h.cal.cell 0; have k1 := h.cal.cell 1; have k11 := h.cr.cell 11; have k12 := h.cr.cell 12; have k13 := h.cr.cell 13; have ks := h.sh_.cell 0; have kp := h.pr_.cell 0; have kl := h.last.cell 0; have zl := h.last.frozen 0; simp only [List.getElem?_toArray, List.getElem?_cons_zero, List.getElem?_cons_succ] at k0 k1 k11 k12 k13 ks kp kl
  clear h
  go_enter Try.func38, Try.ntmps38
  go_wp2_with fail
  go_ret
  exact ⟨rfl, HM.out, .of g (Below.refl _ _)⟩
theorem late5 (s1 : SliceOf w0 1 intC A1 n1 c.rest) (s2 : SliceOf w0 1 intC A2 n2 c.hol) (m1 : n1 ≤ maxLen) (m2 : n2 ≤ maxLen) (hsh : 0 ≤ sh ∧ sh ≤ 1048576) (hwi : 0 ≤ r.wi ∧ r.wi ≤ 1048576) (h : Mem w0 c A1 n1 c1 A2 n2 c2 r sh pr g w l) : Calls Try.prog 39 #[.pointer (some ⟨g + 3, 0, none⟩), .pointer (some ⟨g, 0, none⟩), .pointer (some ⟨g + 2, 0, none⟩), .pointer (some ⟨g + 1, 0, none⟩), .pointer (some ⟨g + 4, 0, none⟩)] w fun e w' => e = .returned (.bool (decide (shipV c sh r.wi l < pr))) ∧ Mem w0 c A1 n1 c1 A2 n2 c2 r sh pr g w' l ∧ Kept g w w' := by
  have HM := Lib.hid h
  have H1 := Lib.hid s1; have H2 := Lib.hid s2
  have k0 := h.cal.cell 0; have k1 := h.cal.cell 1; have k11 := h.cr.cell 11; have k12 := h.cr.cell 12; have k13 := h.cr.cell 13; have ks := h.sh_.cell 0; have kp := h.pr_.cell 0; have kl := h.last.cell 0; have zl := h.last.frozen 0; simp only [List.getElem?_toArray, List.getElem?_cons_zero, List.getElem?_cons_succ] at k0 k1 k11 k12 k13 ks kp kl
  obtain ⟨h0, h1'⟩ := hsh
  obtain ⟨i0, i1⟩ := hwi
  have p0 := wof_cell k0; have p1 := wof_cell k1; have p13 := wof_cell k13; have ps := wof_cell ks; have pp := wof_cell kp; have pl := wof_cell kl
  have QS : Hid (∀ x : BW w, Calls Try.prog 40 #[.agg #[.slice A1 n1 c1, .slice A2 n2 c2], .int .i64 sh, .int .i64 r.wi, .int .i64 l] (wof x) fun e w' => e = .returned (.int .i64 (shipV c sh r.wi l)) ∧ Below (wof x).heap.size (wof x) w') := fun x =>
    shipment_any c A1 n1 c1 A2 n2 c2 sh r.wi l ⟨by omega, by omega⟩ ⟨by omega, by omega⟩ (wof x) (H1.out.below (HM.out.bel.trans ((wof_below x).mono HM.out.bel.size))) (H2.out.below (HM.out.bel.trans ((wof_below x).mono HM.out.bel.size))) m1 m2
  clear h s1 s2
  generalize shipV c sh r.wi l = S at *
  go_enter Try.func39, Try.ntmps39
  go_wp2_with fail
  refine wp_region_quiet_below (by kernel_rfl) (by kernel_rfl) ?_
  repeat (go_big_quiet_step ((go_at_call 40; exact quiet_below (QS.out _))))
  refine wpQuiet_nil ?_
  intro w7 hb7
  go_wp2_with fail
  go_ret
  exact ⟨rfl, HM.out.below hb7, .of g hb7⟩
end
end Go.Proofs.Ytfiflmgjcmmomaa
