/- The row of checks of draws, and what is left, by the program. No condition. -/
import Derived.Test.YtembipmficppnaaOpF
import Derived.Laws.EntriesVeiled
namespace Go.Proofs.Ytembipmficppnaa.kit
open Go.RowKit
set_option linter.unusedVariables false

def firstV : List (Int × Bool) → Int
  | [] => 0
  | (e, b) :: t => if b then e else firstV t
theorem firstV_hit {l : List (Int × Bool)} {k : Nat} {e : Int} {b : Bool} (h : l[k]? = some (e, b)) (hb : b = true) : firstV (l.drop k) = e := by
  rw [List.drop_eq_getElem?_toList_append, h]
  simp [firstV, hb]
theorem firstV_miss {l : List (Int × Bool)} {k : Nat} {e : Int} {b : Bool} (h : l[k]? = some (e, b)) (hb : b = false) : firstV (l.drop k) = firstV (l.drop (k + 1)) := by
  rw [List.drop_eq_getElem?_toList_append, h]
  simp [firstV, hb]
def badsO (p : Pol) (xs : List Dr) : List (Int × Bool) := [(1, !(mayP p && drawsF (-1) xs)), (11, xs.any (lateB p)), (10, decide (p.sum < tot xs))]
theorem openV_two (p : Pol) (xs : List Dr) : (openV p xs).2 = firstV (badsO p xs) := by
  unfold openV badsO firstV firstV firstV firstV
  cases (mayP p && drawsF (-1) xs) <;> cases xs.any (lateB p) <;> by_cases h : p.sum < tot xs <;> simp [h]
theorem openV_bad {p : Pol} {xs : List Dr} (h : (openV p xs).2 ≠ 0) : (openV p xs).1 = 0 := by
  unfold openV at h ⊢
  by_cases h1 : (mayP p && drawsF (-1) xs) = true
  · rw [if_pos h1] at h ⊢
    by_cases h2 : xs.any (lateB p) = true
    · rw [if_pos h2]
    · rw [if_neg h2] at h ⊢
      by_cases h3 : p.sum < tot xs
      · rw [if_pos h3]
      · rw [if_neg h3] at h; exact absurd rfl h
  · rw [if_neg h1]
section
variable (w0 : World) (p : Pol) (A : Option Addr) (n c : Nat) (xs : List Dr) (g : Nat) (w : World)
set_option maxRecDepth 100000 in
set_option maxHeartbeats 3200000 in
theorem first_any (hp : p.ok w0) (hx : SliceOf w0 2 drC A n xs) (hm : n ≤ 1000) (h : OMem w0 p A n c g p.sum w) (hck : Blk w (g + 3) 62 #[.int .i64 1, .func (.func 33) #[] #[.pointer (some ⟨g, 0, none⟩), .pointer (some ⟨g + 1, 0, none⟩)], .int .i64 11, .func (.func 35) #[] #[.pointer (some ⟨g + 1, 0, none⟩), .pointer (some ⟨g, 0, none⟩)], .int .i64 10, .func (.func 38) #[] #[.pointer (some ⟨g + 1, 0, none⟩), .pointer (some ⟨g + 2, 0, none⟩)]]) :
    Calls Try.prog 32 #[.slice (some ⟨g + 3, 0, none⟩) 3 3] w fun e w' => e = .returned (.int .i64 (openV p xs).2) ∧ Below w0.heap.size w0 w' ∧ ((openV p xs).2 = 0 → OMem w0 p A n c g (p.sum - tot xs) w') := by
  have HP := Lib.hid hp; have HX := Lib.hid hx
  have HM0 := Lib.hid h
  have HS : Hid (mayP p = true → 0 ≤ p.sum ∧ p.sum ≤ 1099511627776) := Lib.hid (fun h => by have := (may_iff h).1; omega)
  rw [openV_two]
  clear h hp hx
  go_enter Try.func32, Try.ntmps32
  go_wp2_with fail
  go_loopw [7] (fun i wr => ∃ k : Nat, k ≤ 3 ∧ i = .int .i64 k ∧ Hid (firstV (badsO p xs) = firstV ((badsO p xs).drop k)) ∧ Hid (1 ≤ k → mayP p = true ∧ drawsF (-1) xs = true) ∧ Hid (OMem w0 p A n c g (if k < 3 then p.sum else p.sum - tot xs) wr) ∧ Blk wr (g + 3) 62 #[.int .i64 1, .func (.func 33) #[] #[.pointer (some ⟨g, 0, none⟩), .pointer (some ⟨g + 1, 0, none⟩)], .int .i64 11, .func (.func 35) #[] #[.pointer (some ⟨g + 1, 0, none⟩), .pointer (some ⟨g, 0, none⟩)], .int .i64 10, .func (.func 38) #[] #[.pointer (some ⟨g + 1, 0, none⟩), .pointer (some ⟨g + 2, 0, none⟩)]]) (fun i _ => 3 - (intOf i).toNat)
  case atStart => exact ⟨0, by omega, rfl, Lib.hid rfl, Lib.hid (by omega), HM0, hck⟩
  case round =>
    obtain ⟨k, hk, rfl, hv, hf, HM, hck⟩ := hrel
    have hk' : k = 0 ∨ k = 1 ∨ k = 2 ∨ k = 3 := by omega
    clear hk
    rcases hk' with rfl | rfl | rfl | rfl
    · have kE := hck.cell (0 * 2); have kF := hck.cell (0 * 2 + 1); simp only [List.getElem?_toArray, List.getElem?_cons_zero, List.getElem?_cons_succ, Nat.reduceMul, Nat.reduceAdd] at kE kF
      have hb0 : Below wr.heap.size wr (wr.alloc (.cells #[.int .i64 1, .func (.func 33) #[] #[.pointer (some ⟨g, 0, none⟩), .pointer (some ⟨g + 1, 0, none⟩)]] 62)) := (Below.refl _ _).alloc (Nat.le_refl _) _
      have hn : Blk (wr.alloc (.cells #[.int .i64 1, .func (.func 33) #[] #[.pointer (some ⟨g, 0, none⟩), .pointer (some ⟨g + 1, 0, none⟩)]] 62)) wr.heap.size 62 #[.int .i64 1, .func (.func 33) #[] #[.pointer (some ⟨g, 0, none⟩), .pointer (some ⟨g + 1, 0, none⟩)]] := Blk.new _ _ _
      have HM0 := HM.out
      rw [if_pos (by omega)] at HM0
      have HM1 := Lib.hid (HM0.below hb0)
      have hck1 := hck.alloc (.cells #[.int .i64 1, .func (.func 33) #[] #[.pointer (some ⟨g, 0, none⟩), .pointer (some ⟨g + 1, 0, none⟩)]] 62)
      have hne : wr.heap.size ≠ g + 2 := by have := HM0.left_.lt; omega
      clear hb0 hck HM0 HM
      cases hq : (!(mayP p && drawsF (-1) xs))
      · have ev := Lib.hid (hv.out.trans (firstV_miss (k := 0) rfl hq))
        have HQ := Lib.hid hq
        have hf1 : Hid (1 ≤ 0 + 1 → mayP p = true ∧ drawsF (-1) xs = true) := Lib.hid (fun _ => by first | exact hf.out (by omega) | simpa using hq)
        clear hn
        go_wp2_with fail
        refine (open1 w0 p A n c xs g _ _ HP.out HX.out hm HM1.out).mono ?_
        rw [HQ.out]
        rintro e w1 ⟨rfl, hm, hkp⟩
        have HM2 := Lib.hid hm
        have hck2 := hkp _ _ _ (by omega) hck1
        clear hm hkp hck1 kE kF hq
        go_wp2_with fail
        go_roundw
        case rel => exact ⟨0 + 1, by omega, by go_num, ev, hf1, HM2, hck2⟩
        case measure => simp [intOf]
      · have ev := Lib.hid (hv.out.trans (firstV_hit (k := 0) rfl hq)).symm
        have HQ := Lib.hid hq
        have hz : Hid (firstV (badsO p xs) ≠ 0) := Lib.hid (by rw [← ev.out]; decide)
        clear hq
        go_wp2_with fail
        refine (open1 w0 p A n c xs g _ _ HP.out HX.out hm HM1.out).mono ?_
        rw [HQ.out]
        rintro e w1 ⟨rfl, hm, hkp⟩
        have HB := Lib.hid hm.bel
        have kn := (hkp _ _ _ hne hn).cell 0
        simp only [List.getElem?_toArray, List.getElem?_cons_zero] at kn
        clear hm hkp kE kF hck1
        go_wp2_with fail
        go_ret
        exact ⟨ret_int ev.out, HB.out, fun h => absurd h hz.out⟩
    · have kE := hck.cell (1 * 2); have kF := hck.cell (1 * 2 + 1); simp only [List.getElem?_toArray, List.getElem?_cons_zero, List.getElem?_cons_succ, Nat.reduceMul, Nat.reduceAdd] at kE kF
      have hb0 : Below wr.heap.size wr (wr.alloc (.cells #[.int .i64 11, .func (.func 35) #[] #[.pointer (some ⟨g + 1, 0, none⟩), .pointer (some ⟨g, 0, none⟩)]] 62)) := (Below.refl _ _).alloc (Nat.le_refl _) _
      have hn : Blk (wr.alloc (.cells #[.int .i64 11, .func (.func 35) #[] #[.pointer (some ⟨g + 1, 0, none⟩), .pointer (some ⟨g, 0, none⟩)]] 62)) wr.heap.size 62 #[.int .i64 11, .func (.func 35) #[] #[.pointer (some ⟨g + 1, 0, none⟩), .pointer (some ⟨g, 0, none⟩)]] := Blk.new _ _ _
      have HM0 := HM.out
      rw [if_pos (by omega)] at HM0
      have HM1 := Lib.hid (HM0.below hb0)
      have hck1 := hck.alloc (.cells #[.int .i64 11, .func (.func 35) #[] #[.pointer (some ⟨g + 1, 0, none⟩), .pointer (some ⟨g, 0, none⟩)]] 62)
      have hne : wr.heap.size ≠ g + 2 := by have := HM0.left_.lt; omega
      clear hb0 hck HM0 HM
      cases hq : (xs.any (lateB p))
      · have ev := Lib.hid (hv.out.trans (firstV_miss (k := 1) rfl hq))
        have HQ := Lib.hid hq
        have hf1 : Hid (1 ≤ 1 + 1 → mayP p = true ∧ drawsF (-1) xs = true) := Lib.hid (fun _ => by first | exact hf.out (by omega) | simpa using hq)
        clear hn
        go_wp2_with fail
        refine (open2 w0 p A n c xs g _ _ HX.out hm HM1.out).mono ?_
        rw [HQ.out]
        rintro e w1 ⟨rfl, hm, hkp⟩
        have HM2 := Lib.hid hm
        have hck2 := hkp _ _ _ (by omega) hck1
        clear hm hkp hck1 kE kF hq
        go_wp2_with fail
        go_roundw
        case rel => exact ⟨1 + 1, by omega, by go_num, ev, hf1, HM2, hck2⟩
        case measure => simp [intOf]
      · have ev := Lib.hid (hv.out.trans (firstV_hit (k := 1) rfl hq)).symm
        have HQ := Lib.hid hq
        have hz : Hid (firstV (badsO p xs) ≠ 0) := Lib.hid (by rw [← ev.out]; decide)
        clear hq
        go_wp2_with fail
        refine (open2 w0 p A n c xs g _ _ HX.out hm HM1.out).mono ?_
        rw [HQ.out]
        rintro e w1 ⟨rfl, hm, hkp⟩
        have HB := Lib.hid hm.bel
        have kn := (hkp _ _ _ hne hn).cell 0
        simp only [List.getElem?_toArray, List.getElem?_cons_zero] at kn
        clear hm hkp kE kF hck1
        go_wp2_with fail
        go_ret
        exact ⟨ret_int ev.out, HB.out, fun h => absurd h hz.out⟩
    · have kE := hck.cell (2 * 2); have kF := hck.cell (2 * 2 + 1); simp only [List.getElem?_toArray, List.getElem?_cons_zero, List.getElem?_cons_succ, Nat.reduceMul, Nat.reduceAdd] at kE kF
      have hb0 : Below wr.heap.size wr (wr.alloc (.cells #[.int .i64 10, .func (.func 38) #[] #[.pointer (some ⟨g + 1, 0, none⟩), .pointer (some ⟨g + 2, 0, none⟩)]] 62)) := (Below.refl _ _).alloc (Nat.le_refl _) _
      have hn : Blk (wr.alloc (.cells #[.int .i64 10, .func (.func 38) #[] #[.pointer (some ⟨g + 1, 0, none⟩), .pointer (some ⟨g + 2, 0, none⟩)]] 62)) wr.heap.size 62 #[.int .i64 10, .func (.func 38) #[] #[.pointer (some ⟨g + 1, 0, none⟩), .pointer (some ⟨g + 2, 0, none⟩)]] := Blk.new _ _ _
      have HM0 := HM.out
      rw [if_pos (by omega)] at HM0
      have HM1 := Lib.hid (HM0.below hb0)
      have hck1 := hck.alloc (.cells #[.int .i64 10, .func (.func 38) #[] #[.pointer (some ⟨g + 1, 0, none⟩), .pointer (some ⟨g + 2, 0, none⟩)]] 62)
      have hne : wr.heap.size ≠ g + 2 := by have := HM0.left_.lt; omega
      clear hb0 hck HM0 HM
      cases hq : (decide (p.sum < tot xs))
      · have ev := Lib.hid (hv.out.trans (firstV_miss (k := 2) rfl hq))
        have HQ := Lib.hid hq
        have hf1 : Hid (1 ≤ 2 + 1 → mayP p = true ∧ drawsF (-1) xs = true) := Lib.hid (fun _ => by first | exact hf.out (by omega) | simpa using hq)
        clear hn
        go_wp2_with fail
        refine (open3 w0 p A n c xs g _ _ HX.out hm (HS.out (hf.out (by omega)).1) (fun x hx => by have := draws_in (hf.out (by omega)).2 x hx; omega) HM1.out).mono ?_
        rw [HQ.out]
        rintro e w1 ⟨rfl, hm, hb1, hkp⟩
        have HM2 := Lib.hid (hm (by have := of_decide_eq_false HQ.out; omega))
        have hck2 := hkp _ _ _ (by omega) hck1
        clear hm hkp hck1 kE kF hq
        go_wp2_with fail
        go_roundw
        case rel => exact ⟨2 + 1, by omega, by go_num, ev, hf1, HM2, hck2⟩
        case measure => simp [intOf]
      · have ev := Lib.hid (hv.out.trans (firstV_hit (k := 2) rfl hq)).symm
        have HQ := Lib.hid hq
        have hz : Hid (firstV (badsO p xs) ≠ 0) := Lib.hid (by rw [← ev.out]; decide)
        clear hq
        go_wp2_with fail
        refine (open3 w0 p A n c xs g _ _ HX.out hm (HS.out (hf.out (by omega)).1) (fun x hx => by have := draws_in (hf.out (by omega)).2 x hx; omega) HM1.out).mono ?_
        rw [HQ.out]
        rintro e w1 ⟨rfl, hm, hb1, hkp⟩
        have HB := Lib.hid hb1
        have kn := (hkp _ _ _ hne hn).cell 0
        simp only [List.getElem?_toArray, List.getElem?_cons_zero] at kn
        clear hm hkp kE kF hck1
        go_wp2_with fail
        go_ret
        exact ⟨ret_int ev.out, HB.out, fun h => absurd h hz.out⟩
    · have ev : Hid (0 = firstV (badsO p xs)) := Lib.hid hv.out.symm
      have HB := Lib.hid HM.out.bel
      have HM1 := HM.out
      rw [if_neg (by omega)] at HM1
      have HMF := Lib.hid HM1
      clear HM1 hck
      go_wp2_with fail
      go_ret
      exact ⟨ret_int ev.out, HB.out, fun _ => HMF.out⟩

theorem size_alloc (w : World) (o : Obj) : (w.alloc o).heap.size = w.heap.size + 1 := Array.size_push _
theorem Blk.newAt {w : World} {g : Nat} (t : TypeId) (cs : Array Value) (h : g = w.heap.size) : Blk (w.alloc (.cells cs t)) g t cs := h ▸ Blk.new _ _ _
theorem Blk.more {w : World} {g : Nat} {t : TypeId} {cs : Array Value} (h : Blk w g t cs) (o : Obj) : Blk (w.alloc o) g t cs := h.below ((Below.refl _ _).alloc (Nat.le_refl _) o) h.lt
theorem omem_new (hg : g = w.heap.size) : OMem w p A n c g p.sum (((((w.alloc (.cells #[.string p.ins, .string p.fr, .string p.dst, .int .i64 p.sum, .int .i64 p.own, .slice p.cA p.cn p.cc, .int .i64 p.first, .int .i64 p.last, .int .i64 p.share] 24))).alloc (.cells #[.slice A n c] 39)).alloc (.cells #[.int .i64 p.sum] 2)).alloc (.cells #[.int .i64 1, .func (.func 33) #[] #[.pointer (some ⟨g, 0, none⟩), .pointer (some ⟨g + 1, 0, none⟩)], .int .i64 11, .func (.func 35) #[] #[.pointer (some ⟨g + 1, 0, none⟩), .pointer (some ⟨g, 0, none⟩)], .int .i64 10, .func (.func 38) #[] #[.pointer (some ⟨g + 1, 0, none⟩), .pointer (some ⟨g + 2, 0, none⟩)]] 62)) := by
  subst hg
  refine ⟨?_, Nat.le_refl _, ?_, ?_, ?_⟩
  · refine Below.alloc (Below.alloc (Below.alloc (Below.alloc (Below.refl _ _) ?_ _) ?_ _) ?_ _) ?_ _
    all_goals (try simp only [size_alloc]); omega
  · exact Blk.more (Blk.more (Blk.more (Blk.newAt _ _ rfl) _) _) _
  · exact Blk.more (Blk.more (Blk.newAt _ _ (by simp only [size_alloc])) _) _
  · exact Blk.more (Blk.newAt _ _ (by simp only [size_alloc])) _
set_option maxRecDepth 100000 in
set_option maxHeartbeats 3200000 in
theorem open_any (hp : p.ok w) (hx : SliceOf w 2 drC A n xs) (hm : n ≤ 1000) :
    Calls Try.prog 20 #[.agg #[.string p.ins, .string p.fr, .string p.dst, .int .i64 p.sum, .int .i64 p.own, .slice p.cA p.cn p.cc, .int .i64 p.first, .int .i64 p.last, .int .i64 p.share], .slice A n c] w fun e w' => e = .returned (.tuple #[.int .i64 (openV p xs).1, .int .i64 (openV p xs).2]) ∧ Below w.heap.size w w' := by
  have HF := Lib.hid (first_any w p A n c xs w.heap.size _ hp hx hm (omem_new p A n c w.heap.size w rfl) (Blk.newAt _ _ (by simp only [size_alloc])))
  obtain ⟨E, hE⟩ : ∃ E, (openV p xs).2 = E := ⟨_, rfl⟩
  have H1 : Hid (E ≠ 0 → (openV p xs).1 = 0) := Lib.hid fun h => openV_bad (by rw [hE]; exact h)
  have H2 : Hid (E = 0 → (openV p xs).1 = p.sum - tot xs) := Lib.hid fun h => by rw [(open_ok (by rw [hE]; exact h)).2.2.2.2]
  have HE := Lib.hid hE
  clear hE hx
  by_cases hz : E = 0
  · subst hz
    go_enter Try.func20, Try.ntmps20
    go_wp2_with fail
    refine HF.out.mono ?_
    rw [HE.out]
    rintro e w1 ⟨rfl, hb1, hm1⟩
    have HB := Lib.hid hb1
    have b0 := (hm1 rfl).left_.cell 0
    simp only [List.getElem?_toArray, List.getElem?_cons_zero] at b0
    clear hm1 hb1
    go_wp2_with fail
    go_ret2
    exact ⟨ret_pair (r := (openV p xs)) (by rw [← H2.out (by trivial), ← HE.out]), HB.out⟩
  · go_enter Try.func20, Try.ntmps20
    go_wp2_with fail
    refine HF.out.mono ?_
    rw [HE.out]
    rintro e w1 ⟨rfl, hb1, hm1⟩
    have HB := Lib.hid hb1
    clear hm1 hb1
    go_wp2_with fail
    go_ret2
    exact ⟨ret_pair (r := (openV p xs)) (by rw [← H1.out hz, ← HE.out]), HB.out⟩
end
end Go.Proofs.Ytembipmficppnaa.kit
