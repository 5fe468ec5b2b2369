/- day.Both: the program. No condition. -/
import Derived.Test.YtfiflmgjcmmomaaBoB
import Derived.Test.YtfiflmgjcmmomaaBoD
import Derived.Test.YtfiflmgjcmmomaaStep
import Derived.Deep.RegionHeld3
namespace Go.Proofs.Ytfiflmgjcmmomaa.cal
open Go.RowKit Go.Proofs.Ytfiflmgjcmmomaa.kit
set_option linter.unusedVariables false

/-- What a call of Both gives. -/
def BothPost (w : World) (a b : Cal) (e : Ending) (w' : World) : Prop := ∃ (A : Option Addr) (n c : Nat) (B : Option Addr) (m d : Nat), e = .returned (.agg #[.slice A n c, .slice B m d]) ∧ SliceOf w' 1 intC A n (bothV a b).rest ∧ SliceOf w' 1 intC B m (bothV a b).hol ∧ n ≤ 40 ∧ m ≤ 120 ∧ Below w.heap.size w w'
theorem SliceOf.row {w w' : World} {A : Option Addr} {n g : Nat} {xs : List Int} {t : TypeId} {A1 A2 : Option Addr} {n1 c1 n2 c2 : Nat} (h : SliceOf w 1 intC A n xs) (hg : Blk w g t #[.slice A1 n1 c1, .slice A2 n2 c2]) (hs : w.heap.size ≤ w'.heap.size)
    (hk : ∀ p : Addr, p.block ≠ g → w'.cell? p = w.cell? p) : SliceOf w' 1 intC A n xs := by
  refine ⟨h.len, ?_⟩
  rcases h.cells with h0 | ⟨b, off, rfl, hb, hc⟩
  · exact .inl h0
  · refine .inr ⟨b, off, rfl, by omega, fun i x hx j v hv => ?_⟩
    have h1 := hc i x hx j v hv
    by_cases e : b = g
    · exfalso
      subst e
      rw [hg.cell] at h1
      have hj : j = 0 := by
        have := (List.getElem?_eq_some_iff.1 hv).1
        simp [intC] at this
        exact this
      subst hj
      simp [intC] at hv
      subst hv
      rcases hq : off + (i * 1 + 0) with _ | _ | q
      · rw [hq] at h1; simp at h1
      · rw [hq] at h1; simp at h1
      · rw [hq] at h1; simp at h1
    · exact (hk _ e).trans h1
theorem two_sets {wy : World} {g : Nat} {t : TypeId} {a b : Value} (kb : Blk wy g t #[a, b]) (v0 v1 : Value) :
    Blk ((wy.setCell ⟨g, 0, none⟩ v0).setCell ⟨g, 1, none⟩ v1) g t #[v0, v1] ∧ wy.heap.size ≤ ((wy.setCell ⟨g, 0, none⟩ v0).setCell ⟨g, 1, none⟩ v1).heap.size ∧
    (∀ p : Addr, p.block ≠ g → ((wy.setCell ⟨g, 0, none⟩ v0).setCell ⟨g, 1, none⟩ v1).cell? p = wy.cell? p) ∧
    (∀ k t' cs, k ≠ g → Blk wy k t' cs → Blk ((wy.setCell ⟨g, 0, none⟩ v0).setCell ⟨g, 1, none⟩ v1) k t' cs) ∧
    (∀ B w0, Below B w0 wy → B ≤ g → Below B w0 ((wy.setCell ⟨g, 0, none⟩ v0).setCell ⟨g, 1, none⟩ v1)) := by
  refine ⟨?_, ?_, ?_, ?_, ?_⟩
  · have h1 := (kb.set_ 0 v0).set_ 1 v1
    simpa using h1
  · simp [World.setCell]
  · intro p hp
    rw [World.cell?_setCell_far _ _ _ _ (fun e => hp e.symm), World.cell?_setCell_far _ _ _ _ (fun e => hp e.symm)]
  · intro k t' cs hk h
    exact (h.far hk _).far hk _
  · intro B w0 h hB
    exact (h.setCell hB _).setCell hB _
theorem cell_setRow (w : World) (g : Nat) (cells : Array Value) (p : Addr) (hp : p.block ≠ g) : (w.setRow g cells).cell? p = w.cell? p := by
  unfold World.cell?
  rw [setRow_other w g p.block cells hp]
theorem wpList_store_cal {P : Program} {ops : Array Oper} {rest : List Oper} {o : Oper} {a : Act} {w : World} {Q : Exit → Act → World → Prop} {t : TypeId} {old : Array Value} {g : Nat} (hgd : o.guard = none) (ty : TypeId) (x y : Operand) (ho : o.op = .store ty x y)
    (cells : Array Value) (hx : a.eval x = .pointer (some ⟨g, 0, none⟩)) (hy : a.eval y = .agg cells) (hg : Blk w g t old) (hi : (P.info? ty).map (·.size) = some cells.size)
    (hold : old.size = cells.size) (h1 : onesL cells.toList = true)
    (h : ∀ w', Blk w' g t cells → (∀ k t' cs, k ≠ g → Blk w k t' cs → Blk w' k t' cs) → w.heap.size ≤ w'.heap.size → (∀ p : Addr, p.block ≠ g → w'.cell? p = w.cell? p) → (∀ B w0, Below B w0 w → B ≤ g → Below B w0 w') → wpList P ops Q rest (a.put o.dst undef) w') : wpList P ops Q (o :: rest) a w :=
  wpList_store_row hgd ty x y ho g cells hx hy t old hg hi hold (Array.all_eq_true_iff_forall_mem.2 fun v hv => onesL_all h1 v (by simpa using hv))
    (h _ (setRow_heap w g old cells t (0, 0) hg) (fun k t' cs hk hb => (setRow_other w g k cells hk).trans hb) (by simp [World.setRow]) (fun p hp => cell_setRow w g cells p hp)
      (fun B w0 hb hB => hb.trans ⟨rfl, rfl, rfl, by simp [World.setRow], fun k hk => setRow_other w g k cells (by omega)⟩))
theorem keep_alloc (w : World) (o : Obj) : ∀ p : Addr, p.block < w.heap.size → (w.alloc o).cell? p = w.cell? p := fun p hp => World.cell?_alloc_lt _ _ _ hp
theorem far_of {w x : World} {v : Value} (h : x.cell? ⟨w.heap.size + 1, 0, none⟩ = some v) : x.heap.size ≠ w.heap.size ∧ x.heap.size ≠ w.heap.size + 1 := by
  have := World.block_lt_of_cell? x _ h
  dsimp only at this
  exact ⟨by omega, by omega⟩
theorem cell_kept {W w' : World} {p : Addr} {v : Value} (hb : Below W.heap.size W w') (h : W.cell? p = some v) : w'.cell? p = some v := (hb.cell (World.block_lt_of_cell? W p h)).trans h
set_option maxRecDepth 100000 in
set_option maxHeartbeats 1600000 in
theorem both_any (a b : Cal) (A1 : Option Addr) (n1 c1 : Nat) (A2 : Option Addr) (n2 c2 : Nat) (B1 : Option Addr) (k1 d1 : Nat) (B2 : Option Addr) (k2 d2 : Nat) (w : World)
    (h1 : SliceOf w 1 intC A1 n1 a.rest) (h2 : SliceOf w 1 intC A2 n2 a.hol) (h3 : SliceOf w 1 intC B1 k1 b.rest) (h4 : SliceOf w 1 intC B2 k2 b.hol)
    (m1 : n1 ≤ 20) (m2 : n2 ≤ 60) (m3 : k1 ≤ 20) (m4 : k2 ≤ 60) :
    Calls Try.prog 25 #[.agg #[.slice A1 n1 c1, .slice A2 n2 c2], .agg #[.slice B1 k1 d1, .slice B2 k2 d2]] w (BothPost w a b) := by
  have HMa := Lib.hid (fun (W : World) (hb : Below w.heap.size w W) => may_any a A1 n1 c1 A2 n2 c2 W (h1.below hb) (h2.below hb) (by unfold maxLen; omega) (by unfold maxLen; omega))
  have HMb := Lib.hid (fun (W : World) (hb : Below w.heap.size w W) => may_any b B1 k1 d1 B2 k2 d2 W (h3.below hb) (h4.below hb) (by unfold maxLen; omega) (by unfold maxLen; omega))
  have ga := Lib.hid (good_up a)
  have gb := Lib.hid (good_up b)
  have H1 := Lib.hid h1
  have H2 := Lib.hid h2
  have H3 := Lib.hid h3
  have H4 := Lib.hid h4
  have l1 := h1.len
  have l2 := h2.len
  have l3 := h3.len
  have l4 := h4.len
  clear h1 h2 h3 h4
  have hA0 : Blk (((w.alloc (.cells #[.slice A1 n1 c1, .slice A2 n2 c2] 24)).alloc (.cells #[.slice B1 k1 d1, .slice B2 k2 d2] 24)).alloc (.cells #[.slice none 0 0, .slice none 0 0] 24)) w.heap.size 24 #[.slice A1 n1 c1, .slice A2 n2 c2] := ((Blk.new _ _ _).alloc _).alloc _
  have hC0 : Blk (((w.alloc (.cells #[.slice A1 n1 c1, .slice A2 n2 c2] 24)).alloc (.cells #[.slice B1 k1 d1, .slice B2 k2 d2] 24)).alloc (.cells #[.slice none 0 0, .slice none 0 0] 24)) (w.heap.size + 1) 24 #[.slice B1 k1 d1, .slice B2 k2 d2] := (Blk.new_at _ _ _ _ (by simp)).alloc _
  have hR0 : Blk (((w.alloc (.cells #[.slice A1 n1 c1, .slice A2 n2 c2] 24)).alloc (.cells #[.slice B1 k1 d1, .slice B2 k2 d2] 24)).alloc (.cells #[.slice none 0 0, .slice none 0 0] 24)) (w.heap.size + 1 + 1) 24 #[.slice none 0 0, .slice none 0 0] := Blk.new_at _ _ _ _ (by simp)
  have hB0 : Below w.heap.size w (((w.alloc (.cells #[.slice A1 n1 c1, .slice A2 n2 c2] 24)).alloc (.cells #[.slice B1 k1 d1, .slice B2 k2 d2] 24)).alloc (.cells #[.slice none 0 0, .slice none 0 0] 24)) := (((Below.refl _ _).alloc (Nat.le_refl _) _).alloc (by simp) _).alloc (by simp; omega) _
  have hne : w.heap.size ≠ w.heap.size + 1 := by omega
  have hne2 : w.heap.size + 1 + 1 ≠ w.heap.size := by omega
  have hne3 : w.heap.size + 1 + 1 ≠ w.heap.size + 1 := by omega
  have a0 := (hA0).cell 0; have a1 := (hA0).cell 1
  simp only [List.getElem?_toArray, List.getElem?_cons_zero, List.getElem?_cons_succ] at a0 a1
  have b0 := (hC0).cell 0; have b1 := (hC0).cell 1
  simp only [List.getElem?_toArray, List.getElem?_cons_zero, List.getElem?_cons_succ] at b0 b1
  cases ma : mayB a <;> cases mb : mayB b
  · rw [ma] at HMa
    rw [mb] at HMb
    have ea : goodC a = ⟨[], []⟩ := by unfold goodC; rw [ma]; rfl
    have eb : goodC b = ⟨[], []⟩ := by unfold goodC; rw [mb]; rfl
    have SA1 : Hid (SliceOf w 1 intC none 0 (goodC a).rest) := Lib.hid (by rw [ea]; exact SliceOf.none_)
    have SA2 : Hid (SliceOf w 1 intC none 0 (goodC a).hol) := Lib.hid (by rw [ea]; exact SliceOf.none_)
    have SB1 : Hid (SliceOf w 1 intC none 0 (goodC b).rest) := Lib.hid (by rw [eb]; exact SliceOf.none_)
    have SB2 : Hid (SliceOf w 1 intC none 0 (goodC b).hol) := Lib.hid (by rw [eb]; exact SliceOf.none_)
    clear ma mb ea eb
    go_enter Try.func25, Try.ntmps25
    go_wp2_with fail
    refine (HMa.out _ hB0).mono ?_
    rintro e w1 ⟨rfl, hb1⟩
    have hB1 := hB0.trans (hb1.mono hB0.size)
    have hA1 := hA0.below hb1 hA0.lt
    have hC1 := hC0.below hb1 hC0.lt
    have hR1 := hR0.below hb1 hR0.lt
    clear a0 a1 b0 b1 hA0 hC0 hR0 hB0 hb1
    have a0 := (hA1).cell 0; have a1 := (hA1).cell 1
    simp only [List.getElem?_toArray, List.getElem?_cons_zero, List.getElem?_cons_succ] at a0 a1
    have b0 := (hC1).cell 0; have b1 := (hC1).cell 1
    simp only [List.getElem?_toArray, List.getElem?_cons_zero, List.getElem?_cons_succ] at b0 b1
    go_wp2_with (refine stop_store 24 _ _ rfl ?_; refine wpList_store_cal rfl 24 _ _ rfl #[.slice none 0 0, .slice none 0 0] rfl rfl hA1 (by kernel_rfl) rfl rfl ?_; intro w2 hA2 kn sn cn bn; have hB2 := bn _ _ hB1 (Nat.le_refl _); have hC2 := kn _ _ _ hne.symm hC1; have hR2 := kn _ _ _ hne2 hR1; clear a0 a1 b0 b1 hA1 hB1 hC1 hR1 kn sn cn bn; have hA1 := hA2; have hB1 := hB2; have hC1 := hC2; have hR1 := hR2; clear hA2 hB2 hC2 hR2; have a0 := (hA1).cell 0; have a1 := (hA1).cell 1; simp only [List.getElem?_toArray, List.getElem?_cons_zero, List.getElem?_cons_succ] at a0 a1; have b0 := (hC1).cell 0; have b1 := (hC1).cell 1; simp only [List.getElem?_toArray, List.getElem?_cons_zero, List.getElem?_cons_succ] at b0 b1)
    refine (HMb.out _ hB1).mono ?_
    rintro e w3 ⟨rfl, hb3⟩
    have hB3 := hB1.trans (hb3.mono hB1.size)
    have hA3 := hA1.below hb3 hA1.lt
    have hC3 := hC1.below hb3 hC1.lt
    have hR3 := hR1.below hb3 hR1.lt
    clear a0 a1 b0 b1 hA1 hC1 hR1 hB1 hb3
    have a0 := (hA3).cell 0; have a1 := (hA3).cell 1
    simp only [List.getElem?_toArray, List.getElem?_cons_zero, List.getElem?_cons_succ] at a0 a1
    have b0 := (hC3).cell 0; have b1 := (hC3).cell 1
    simp only [List.getElem?_toArray, List.getElem?_cons_zero, List.getElem?_cons_succ] at b0 b1
    go_wp2_with (refine stop_store 24 _ _ rfl ?_; refine wpList_store_cal rfl 24 _ _ rfl #[.slice none 0 0, .slice none 0 0] rfl rfl hC3 (by kernel_rfl) rfl rfl ?_; intro w3 hC4 kn sn cn bn; have hB4 := bn _ _ hB3 (by omega); have hA4 := kn _ _ _ hne hA3; have hR4 := kn _ _ _ hne3 hR3; clear a0 a1 b0 b1 hA3 hB3 hC3 hR3 kn sn cn bn; have hA3 := hA4; have hB3 := hB4; have hC3 := hC4; have hR3 := hR4; clear hA4 hB4 hC4 hR4; have a0 := (hA3).cell 0; have a1 := (hA3).cell 1; simp only [List.getElem?_toArray, List.getElem?_cons_zero, List.getElem?_cons_succ] at a0 a1; have b0 := (hC3).cell 0; have b1 := (hC3).cell 1; simp only [List.getElem?_toArray, List.getElem?_cons_zero, List.getElem?_cons_succ] at b0 b1)
    go_wp2_with fail
    have J1 := Lib.hid (fun (W : World) (hb : Below w.heap.size w W) (hc : W.cell? ⟨w.heap.size, 0, none⟩ = some (Value.slice none 0 0) ∧ W.cell? ⟨w.heap.size, 1, none⟩ = some (Value.slice none 0 0) ∧ W.cell? ⟨w.heap.size + 1, 0, none⟩ = some (Value.slice none 0 0) ∧ W.cell? ⟨w.heap.size + 1, 1, none⟩ = some (Value.slice none 0 0)) => (joined_any none 0 0 (goodC a).rest none 0 0 (goodC b).rest W (SA1.out.below hb) (SB1.out.below hb) (by omega) (by omega) ga.out.1 gb.out.1).mono (fun (e : Ending) (w' : World) ⟨x1, x2, x3, x4, x5, x6, x7⟩ => (show ∃ A' m c', e = Ending.returned (Value.slice A' m c') ∧ SliceOf w' 1 intC A' m (mrg (goodC a).rest (goodC b).rest) ∧ m ≤ 0 + 0 ∧ Below W.heap.size W w' ∧ Below w.heap.size w w' ∧ w'.cell? ⟨w.heap.size, 0, none⟩ = some (Value.slice none 0 0) ∧ w'.cell? ⟨w.heap.size, 1, none⟩ = some (Value.slice none 0 0) ∧ w'.cell? ⟨w.heap.size + 1, 0, none⟩ = some (Value.slice none 0 0) ∧ w'.cell? ⟨w.heap.size + 1, 1, none⟩ = some (Value.slice none 0 0) from ⟨x1, x2, x3, x4, x5, x6, x7, hb.trans (x7.mono hb.size), cell_kept x7 hc.1, cell_kept x7 hc.2.1, cell_kept x7 hc.2.2.1, cell_kept x7 hc.2.2.2⟩)))
    have J2 := Lib.hid (fun (W : World) (hb : Below w.heap.size w W) (hc : W.cell? ⟨w.heap.size, 0, none⟩ = some (Value.slice none 0 0) ∧ W.cell? ⟨w.heap.size, 1, none⟩ = some (Value.slice none 0 0) ∧ W.cell? ⟨w.heap.size + 1, 0, none⟩ = some (Value.slice none 0 0) ∧ W.cell? ⟨w.heap.size + 1, 1, none⟩ = some (Value.slice none 0 0)) => (joined_any none 0 0 (goodC a).hol none 0 0 (goodC b).hol W (SA2.out.below hb) (SB2.out.below hb) (by omega) (by omega) ga.out.2.1 gb.out.2.1).mono (fun (e : Ending) (w' : World) ⟨x1, x2, x3, x4, x5, x6, x7⟩ => (show ∃ A' m c', e = Ending.returned (Value.slice A' m c') ∧ SliceOf w' 1 intC A' m (mrg (goodC a).hol (goodC b).hol) ∧ m ≤ 0 + 0 ∧ Below W.heap.size W w' ∧ Below w.heap.size w w' ∧ w'.cell? ⟨w.heap.size, 0, none⟩ = some (Value.slice none 0 0) ∧ w'.cell? ⟨w.heap.size, 1, none⟩ = some (Value.slice none 0 0) ∧ w'.cell? ⟨w.heap.size + 1, 0, none⟩ = some (Value.slice none 0 0) ∧ w'.cell? ⟨w.heap.size + 1, 1, none⟩ = some (Value.slice none 0 0) from ⟨x1, x2, x3, x4, x5, x6, x7, hb.trans (x7.mono hb.size), cell_kept x7 hc.1, cell_kept x7 hc.2.1, cell_kept x7 hc.2.2.1, cell_kept x7 hc.2.2.2⟩)))
    obtain ⟨n1w, n2w⟩ := far_of b0
    have hR0n := Nat.ne_of_lt hR3.lt
    go_region_held3 (fun x => x.cell? ⟨w.heap.size, 0, none⟩ = some (.slice none 0 0) ∧ x.cell? ⟨w.heap.size, 1, none⟩ = some (.slice none 0 0) ∧ x.cell? ⟨w.heap.size + 1, 0, none⟩ = some (.slice none 0 0) ∧ x.cell? ⟨w.heap.size + 1, 1, none⟩ = some (.slice none 0 0)) (go_keep)
      (first | (go_at_call 42; (first | (with_reducible refine Calls.mono (J1.out _ (hBy.alloc hBy.size _) (by simp [*])) ?_) | (with_reducible refine Calls.mono (J1.out _ hBy (by simp [*])) ?_) | (with_reducible refine Calls.mono (J1.out _ (hB3.alloc hB3.size _).drew (by simp [*])) ?_) | (with_reducible refine Calls.mono (J1.out _ hB3.drew (by simp [*])) ?_)); rintro e wx ⟨Ex, ex, fx, rfl, hsx, hmx, hbx, hBx, q0, q1, q2, q3⟩; obtain ⟨n1x, n2x⟩ := far_of q2; (first | (with_reducible have kb := kb.below hbx kb.lt) | (with_reducible have kb := (Blk.new _ _ _).below hbx (Blk.new _ _ _).lt) | (with_reducible have kb := ((Blk.new _ _ _).drew).below hbx ((Blk.new _ _ _).drew).lt) | skip); (try (have kc0 := kb.cell 0; have kc1 := kb.cell 1; have kf0 := kb.frozen 0; have kf1 := kb.frozen 1; simp only [List.getElem?_toArray, List.getElem?_cons_zero, List.getElem?_cons_succ] at kc0 kc1)); (first | (with_reducible have hR3 := hR3.below hbx hR3.lt) | (with_reducible have hR3 := hR3.drew.below hbx hR3.drew.lt) | (with_reducible have hR3 := (hR3.alloc _).below hbx (hR3.alloc _).lt) | (with_reducible have hR3 := (hR3.alloc _).drew.below hbx (hR3.alloc _).drew.lt)); have hR3n := Nat.ne_of_lt hR3.lt; (first | (with_reducible have hsy := hsy.below hbx) | (with_reducible have hsy := (hsy.below (one_alloc _ _)).below hbx) | skip)) | (go_at_call 42; (first | (with_reducible refine Calls.mono (J2.out _ (hBx.alloc hBx.size _) (by simp [*])) ?_) | (with_reducible refine Calls.mono (J2.out _ hBx (by simp [*])) ?_) | (with_reducible refine Calls.mono (J2.out _ (hB3.alloc hB3.size _).drew (by simp [*])) ?_) | (with_reducible refine Calls.mono (J2.out _ hB3.drew (by simp [*])) ?_)); rintro e wy ⟨Ey, ey, fy, rfl, hsy, hmy, hby, hBy, q0, q1, q2, q3⟩; obtain ⟨n1y, n2y⟩ := far_of q2; (first | (with_reducible have kb := kb.below hby kb.lt) | (with_reducible have kb := (Blk.new _ _ _).below hby (Blk.new _ _ _).lt) | (with_reducible have kb := ((Blk.new _ _ _).drew).below hby ((Blk.new _ _ _).drew).lt) | skip); (try (have kc0 := kb.cell 0; have kc1 := kb.cell 1; have kf0 := kb.frozen 0; have kf1 := kb.frozen 1; simp only [List.getElem?_toArray, List.getElem?_cons_zero, List.getElem?_cons_succ] at kc0 kc1)); (first | (with_reducible have hR3 := hR3.below hby hR3.lt) | (with_reducible have hR3 := hR3.drew.below hby hR3.drew.lt) | (with_reducible have hR3 := (hR3.alloc _).below hby (hR3.alloc _).lt) | (with_reducible have hR3 := (hR3.alloc _).drew.below hby (hR3.alloc _).drew.lt)); (first | (with_reducible have hsx := hsx.below hby) | (with_reducible have hsx := (hsx.below (one_alloc _ _)).below hby) | skip)))
    · have fB : Below w.heap.size w (wy.alloc (.cells #[.slice Ex ex fx, .slice Ey ey fy] 24)) := hBy.alloc hBy.size _
      have f5 : Blk (wy.alloc (.cells #[.slice Ex ex fx, .slice Ey ey fy] 24)) wy.heap.size 24 #[.slice Ex ex fx, .slice Ey ey fy] := Blk.new _ _ _
      have fR := hR3.alloc (.cells #[.slice Ex ex fx, .slice Ey ey fy] 24)
      have fX := hsx.below (one_alloc wy (.cells #[.slice Ex ex fx, .slice Ey ey fy] 24))
      have fY := hsy.below (one_alloc wy (.cells #[.slice Ex ex fx, .slice Ey ey fy] 24))
      generalize wy.heap.size = g5 at *
      generalize wy.alloc (.cells #[.slice Ex ex fx, .slice Ey ey fy] 24) = Wf at *
      have p0 := (f5).cell 0; have p1 := (f5).cell 1
      simp only [List.getElem?_toArray, List.getElem?_cons_zero, List.getElem?_cons_succ] at p0 p1
      have hey : ey ≤ 120 := by omega
      have hex : ex ≤ 40 := by omega
      have hgt : decide ((4096 : Int) < (ey : Int)) = false := decide_eq_false (by omega)
      have hgtn : decide (4096 < ey) = false := decide_eq_false (by omega)
      have FX := Lib.hid fX
      have FY := Lib.hid fY
      have FB := Lib.hid fB
      have FR := Lib.hid fR
      clear fX fY fB fR f5
      go_wp2_with (refine stop_store 24 _ _ rfl ?_; refine wpList_store_cal rfl 24 _ _ rfl #[.slice Ex ex fx, .slice Ey ey fy] rfl rfl FR.out (by kernel_rfl) rfl rfl ?_; intro nw hn kn sn cn bn)
      have hX := SliceOf.row FX.out FR.out sn cn
      have hY := SliceOf.row FY.out FR.out sn cn
      have hB := bn _ _ FB.out (by omega)
      have r0 := (hn).cell 0; have r1 := (hn).cell 1
      simp only [List.getElem?_toArray, List.getElem?_cons_zero, List.getElem?_cons_succ] at r0 r1
      refine bodyPost_ret (v := .agg #[.slice Ex ex fx, .slice Ey ey fy]) (by simp [results, Try.results25, go_sem, r0, r1]) rfl ?_
      exact ⟨Ex, ex, fx, Ey, ey, fy, rfl, hX, hY, hex, hey, hB⟩
    · have hle : w.heap.size ≤ wx.heap.size := hBx.size
      have hnR : w.heap.size + 1 + 1 ≠ wx.heap.size := hR3n
      generalize wx.heap.size = g5 at *
      obtain ⟨f5, fs, fk, fb, fB0⟩ := two_sets kb (.slice Ex ex fx) (.slice Ey ey fy)
      have fB := fB0 _ _ hBy hle
      have fR := fb _ _ _ hnR hR3
      have fX := SliceOf.row hsx kb fs fk
      have fY := SliceOf.row hsy kb fs fk
      clear fB0 fb fk fs
      generalize ((wy.setCell ⟨g5, 0, none⟩ (.slice Ex ex fx)).setCell ⟨g5, 1, none⟩ (.slice Ey ey fy)) = Wf at *
      have p0 := (f5).cell 0; have p1 := (f5).cell 1
      simp only [List.getElem?_toArray, List.getElem?_cons_zero, List.getElem?_cons_succ] at p0 p1
      have hey : ey ≤ 120 := by omega
      have hex : ex ≤ 40 := by omega
      have hgt : decide ((4096 : Int) < (ey : Int)) = false := decide_eq_false (by omega)
      have hgtn : decide (4096 < ey) = false := decide_eq_false (by omega)
      have FX := Lib.hid fX
      have FY := Lib.hid fY
      have FB := Lib.hid fB
      have FR := Lib.hid fR
      clear fX fY fB fR f5
      go_wp2_with (refine stop_store 24 _ _ rfl ?_; refine wpList_store_cal rfl 24 _ _ rfl #[.slice Ex ex fx, .slice Ey ey fy] rfl rfl FR.out (by kernel_rfl) rfl rfl ?_; intro nw hn kn sn cn bn)
      have hX := SliceOf.row FX.out FR.out sn cn
      have hY := SliceOf.row FY.out FR.out sn cn
      have hB := bn _ _ FB.out (by omega)
      have r0 := (hn).cell 0; have r1 := (hn).cell 1
      simp only [List.getElem?_toArray, List.getElem?_cons_zero, List.getElem?_cons_succ] at r0 r1
      refine bodyPost_ret (v := .agg #[.slice Ex ex fx, .slice Ey ey fy]) (by simp [results, Try.results25, go_sem, r0, r1]) rfl ?_
      exact ⟨Ex, ex, fx, Ey, ey, fy, rfl, hX, hY, hex, hey, hB⟩
    · have hle : w.heap.size ≤ w3.heap.size := hB3.size
      have hnR : w.heap.size + 1 + 1 ≠ w3.heap.size := hR0n
      generalize w3.heap.size = g5 at *
      obtain ⟨f5, fs, fk, fb, fB0⟩ := two_sets kb (.slice Ex ex fx) (.slice Ey ey fy)
      have fB := fB0 _ _ hBy hle
      have fR := fb _ _ _ hnR hR3
      have fX := SliceOf.row hsx kb fs fk
      have fY := SliceOf.row hsy kb fs fk
      clear fB0 fb fk fs
      generalize ((wy.setCell ⟨g5, 0, none⟩ (.slice Ex ex fx)).setCell ⟨g5, 1, none⟩ (.slice Ey ey fy)) = Wf at *
      have p0 := (f5).cell 0; have p1 := (f5).cell 1
      simp only [List.getElem?_toArray, List.getElem?_cons_zero, List.getElem?_cons_succ] at p0 p1
      have hey : ey ≤ 120 := by omega
      have hex : ex ≤ 40 := by omega
      have hgt : decide ((4096 : Int) < (ey : Int)) = false := decide_eq_false (by omega)
      have hgtn : decide (4096 < ey) = false := decide_eq_false (by omega)
      have FX := Lib.hid fX
      have FY := Lib.hid fY
      have FB := Lib.hid fB
      have FR := Lib.hid fR
      clear fX fY fB fR f5
      go_wp2_with (refine stop_store 24 _ _ rfl ?_; refine wpList_store_cal rfl 24 _ _ rfl #[.slice Ex ex fx, .slice Ey ey fy] rfl rfl FR.out (by kernel_rfl) rfl rfl ?_; intro nw hn kn sn cn bn)
      have hX := SliceOf.row FX.out FR.out sn cn
      have hY := SliceOf.row FY.out FR.out sn cn
      have hB := bn _ _ FB.out (by omega)
      have r0 := (hn).cell 0; have r1 := (hn).cell 1
      simp only [List.getElem?_toArray, List.getElem?_cons_zero, List.getElem?_cons_succ] at r0 r1
      refine bodyPost_ret (v := .agg #[.slice Ex ex fx, .slice Ey ey fy]) (by simp [results, Try.results25, go_sem, r0, r1]) rfl ?_
      exact ⟨Ex, ex, fx, Ey, ey, fy, rfl, hX, hY, hex, hey, hB⟩
  · rw [ma] at HMa
    rw [mb] at HMb
    have ea : goodC a = ⟨[], []⟩ := by unfold goodC; rw [ma]; rfl
    have eb : goodC b = b := by unfold goodC; rw [mb]; exact if_pos rfl
    have SA1 : Hid (SliceOf w 1 intC none 0 (goodC a).rest) := Lib.hid (by rw [ea]; exact SliceOf.none_)
    have SA2 : Hid (SliceOf w 1 intC none 0 (goodC a).hol) := Lib.hid (by rw [ea]; exact SliceOf.none_)
    have SB1 : Hid (SliceOf w 1 intC B1 k1 (goodC b).rest) := Lib.hid (by rw [eb]; exact H3.out)
    have SB2 : Hid (SliceOf w 1 intC B2 k2 (goodC b).hol) := Lib.hid (by rw [eb]; exact H4.out)
    clear ma mb ea eb
    go_enter Try.func25, Try.ntmps25
    go_wp2_with fail
    refine (HMa.out _ hB0).mono ?_
    rintro e w1 ⟨rfl, hb1⟩
    have hB1 := hB0.trans (hb1.mono hB0.size)
    have hA1 := hA0.below hb1 hA0.lt
    have hC1 := hC0.below hb1 hC0.lt
    have hR1 := hR0.below hb1 hR0.lt
    clear a0 a1 b0 b1 hA0 hC0 hR0 hB0 hb1
    have a0 := (hA1).cell 0; have a1 := (hA1).cell 1
    simp only [List.getElem?_toArray, List.getElem?_cons_zero, List.getElem?_cons_succ] at a0 a1
    have b0 := (hC1).cell 0; have b1 := (hC1).cell 1
    simp only [List.getElem?_toArray, List.getElem?_cons_zero, List.getElem?_cons_succ] at b0 b1
    go_wp2_with (refine stop_store 24 _ _ rfl ?_; refine wpList_store_cal rfl 24 _ _ rfl #[.slice none 0 0, .slice none 0 0] rfl rfl hA1 (by kernel_rfl) rfl rfl ?_; intro w2 hA2 kn sn cn bn; have hB2 := bn _ _ hB1 (Nat.le_refl _); have hC2 := kn _ _ _ hne.symm hC1; have hR2 := kn _ _ _ hne2 hR1; clear a0 a1 b0 b1 hA1 hB1 hC1 hR1 kn sn cn bn; have hA1 := hA2; have hB1 := hB2; have hC1 := hC2; have hR1 := hR2; clear hA2 hB2 hC2 hR2; have a0 := (hA1).cell 0; have a1 := (hA1).cell 1; simp only [List.getElem?_toArray, List.getElem?_cons_zero, List.getElem?_cons_succ] at a0 a1; have b0 := (hC1).cell 0; have b1 := (hC1).cell 1; simp only [List.getElem?_toArray, List.getElem?_cons_zero, List.getElem?_cons_succ] at b0 b1)
    refine (HMb.out _ hB1).mono ?_
    rintro e w3 ⟨rfl, hb3⟩
    have hB3 := hB1.trans (hb3.mono hB1.size)
    have hA3 := hA1.below hb3 hA1.lt
    have hC3 := hC1.below hb3 hC1.lt
    have hR3 := hR1.below hb3 hR1.lt
    clear a0 a1 b0 b1 hA1 hC1 hR1 hB1 hb3
    have a0 := (hA3).cell 0; have a1 := (hA3).cell 1
    simp only [List.getElem?_toArray, List.getElem?_cons_zero, List.getElem?_cons_succ] at a0 a1
    have b0 := (hC3).cell 0; have b1 := (hC3).cell 1
    simp only [List.getElem?_toArray, List.getElem?_cons_zero, List.getElem?_cons_succ] at b0 b1
    go_wp2_with fail
    have J1 := Lib.hid (fun (W : World) (hb : Below w.heap.size w W) (hc : W.cell? ⟨w.heap.size, 0, none⟩ = some (Value.slice none 0 0) ∧ W.cell? ⟨w.heap.size, 1, none⟩ = some (Value.slice none 0 0) ∧ W.cell? ⟨w.heap.size + 1, 0, none⟩ = some (Value.slice B1 k1 d1) ∧ W.cell? ⟨w.heap.size + 1, 1, none⟩ = some (Value.slice B2 k2 d2)) => (joined_any none 0 0 (goodC a).rest B1 k1 d1 (goodC b).rest W (SA1.out.below hb) (SB1.out.below hb) (by omega) (by omega) ga.out.1 gb.out.1).mono (fun (e : Ending) (w' : World) ⟨x1, x2, x3, x4, x5, x6, x7⟩ => (show ∃ A' m c', e = Ending.returned (Value.slice A' m c') ∧ SliceOf w' 1 intC A' m (mrg (goodC a).rest (goodC b).rest) ∧ m ≤ 0 + k1 ∧ Below W.heap.size W w' ∧ Below w.heap.size w w' ∧ w'.cell? ⟨w.heap.size, 0, none⟩ = some (Value.slice none 0 0) ∧ w'.cell? ⟨w.heap.size, 1, none⟩ = some (Value.slice none 0 0) ∧ w'.cell? ⟨w.heap.size + 1, 0, none⟩ = some (Value.slice B1 k1 d1) ∧ w'.cell? ⟨w.heap.size + 1, 1, none⟩ = some (Value.slice B2 k2 d2) from ⟨x1, x2, x3, x4, x5, x6, x7, hb.trans (x7.mono hb.size), cell_kept x7 hc.1, cell_kept x7 hc.2.1, cell_kept x7 hc.2.2.1, cell_kept x7 hc.2.2.2⟩)))
    have J2 := Lib.hid (fun (W : World) (hb : Below w.heap.size w W) (hc : W.cell? ⟨w.heap.size, 0, none⟩ = some (Value.slice none 0 0) ∧ W.cell? ⟨w.heap.size, 1, none⟩ = some (Value.slice none 0 0) ∧ W.cell? ⟨w.heap.size + 1, 0, none⟩ = some (Value.slice B1 k1 d1) ∧ W.cell? ⟨w.heap.size + 1, 1, none⟩ = some (Value.slice B2 k2 d2)) => (joined_any none 0 0 (goodC a).hol B2 k2 d2 (goodC b).hol W (SA2.out.below hb) (SB2.out.below hb) (by omega) (by omega) ga.out.2.1 gb.out.2.1).mono (fun (e : Ending) (w' : World) ⟨x1, x2, x3, x4, x5, x6, x7⟩ => (show ∃ A' m c', e = Ending.returned (Value.slice A' m c') ∧ SliceOf w' 1 intC A' m (mrg (goodC a).hol (goodC b).hol) ∧ m ≤ 0 + k2 ∧ Below W.heap.size W w' ∧ Below w.heap.size w w' ∧ w'.cell? ⟨w.heap.size, 0, none⟩ = some (Value.slice none 0 0) ∧ w'.cell? ⟨w.heap.size, 1, none⟩ = some (Value.slice none 0 0) ∧ w'.cell? ⟨w.heap.size + 1, 0, none⟩ = some (Value.slice B1 k1 d1) ∧ w'.cell? ⟨w.heap.size + 1, 1, none⟩ = some (Value.slice B2 k2 d2) from ⟨x1, x2, x3, x4, x5, x6, x7, hb.trans (x7.mono hb.size), cell_kept x7 hc.1, cell_kept x7 hc.2.1, cell_kept x7 hc.2.2.1, cell_kept x7 hc.2.2.2⟩)))
    obtain ⟨n1w, n2w⟩ := far_of b0
    have hR0n := Nat.ne_of_lt hR3.lt
    go_region_held3 (fun x => x.cell? ⟨w.heap.size, 0, none⟩ = some (.slice none 0 0) ∧ x.cell? ⟨w.heap.size, 1, none⟩ = some (.slice none 0 0) ∧ x.cell? ⟨w.heap.size + 1, 0, none⟩ = some (.slice B1 k1 d1) ∧ x.cell? ⟨w.heap.size + 1, 1, none⟩ = some (.slice B2 k2 d2)) (go_keep)
      (first | (go_at_call 42; (first | (with_reducible refine Calls.mono (J1.out _ (hBy.alloc hBy.size _) (by simp [*])) ?_) | (with_reducible refine Calls.mono (J1.out _ hBy (by simp [*])) ?_) | (with_reducible refine Calls.mono (J1.out _ (hB3.alloc hB3.size _).drew (by simp [*])) ?_) | (with_reducible refine Calls.mono (J1.out _ hB3.drew (by simp [*])) ?_)); rintro e wx ⟨Ex, ex, fx, rfl, hsx, hmx, hbx, hBx, q0, q1, q2, q3⟩; obtain ⟨n1x, n2x⟩ := far_of q2; (first | (with_reducible have kb := kb.below hbx kb.lt) | (with_reducible have kb := (Blk.new _ _ _).below hbx (Blk.new _ _ _).lt) | (with_reducible have kb := ((Blk.new _ _ _).drew).below hbx ((Blk.new _ _ _).drew).lt) | skip); (try (have kc0 := kb.cell 0; have kc1 := kb.cell 1; have kf0 := kb.frozen 0; have kf1 := kb.frozen 1; simp only [List.getElem?_toArray, List.getElem?_cons_zero, List.getElem?_cons_succ] at kc0 kc1)); (first | (with_reducible have hR3 := hR3.below hbx hR3.lt) | (with_reducible have hR3 := hR3.drew.below hbx hR3.drew.lt) | (with_reducible have hR3 := (hR3.alloc _).below hbx (hR3.alloc _).lt) | (with_reducible have hR3 := (hR3.alloc _).drew.below hbx (hR3.alloc _).drew.lt)); have hR3n := Nat.ne_of_lt hR3.lt; (first | (with_reducible have hsy := hsy.below hbx) | (with_reducible have hsy := (hsy.below (one_alloc _ _)).below hbx) | skip)) | (go_at_call 42; (first | (with_reducible refine Calls.mono (J2.out _ (hBx.alloc hBx.size _) (by simp [*])) ?_) | (with_reducible refine Calls.mono (J2.out _ hBx (by simp [*])) ?_) | (with_reducible refine Calls.mono (J2.out _ (hB3.alloc hB3.size _).drew (by simp [*])) ?_) | (with_reducible refine Calls.mono (J2.out _ hB3.drew (by simp [*])) ?_)); rintro e wy ⟨Ey, ey, fy, rfl, hsy, hmy, hby, hBy, q0, q1, q2, q3⟩; obtain ⟨n1y, n2y⟩ := far_of q2; (first | (with_reducible have kb := kb.below hby kb.lt) | (with_reducible have kb := (Blk.new _ _ _).below hby (Blk.new _ _ _).lt) | (with_reducible have kb := ((Blk.new _ _ _).drew).below hby ((Blk.new _ _ _).drew).lt) | skip); (try (have kc0 := kb.cell 0; have kc1 := kb.cell 1; have kf0 := kb.frozen 0; have kf1 := kb.frozen 1; simp only [List.getElem?_toArray, List.getElem?_cons_zero, List.getElem?_cons_succ] at kc0 kc1)); (first | (with_reducible have hR3 := hR3.below hby hR3.lt) | (with_reducible have hR3 := hR3.drew.below hby hR3.drew.lt) | (with_reducible have hR3 := (hR3.alloc _).below hby (hR3.alloc _).lt) | (with_reducible have hR3 := (hR3.alloc _).drew.below hby (hR3.alloc _).drew.lt)); (first | (with_reducible have hsx := hsx.below hby) | (with_reducible have hsx := (hsx.below (one_alloc _ _)).below hby) | skip)))
    · have fB : Below w.heap.size w (wy.alloc (.cells #[.slice Ex ex fx, .slice Ey ey fy] 24)) := hBy.alloc hBy.size _
      have f5 : Blk (wy.alloc (.cells #[.slice Ex ex fx, .slice Ey ey fy] 24)) wy.heap.size 24 #[.slice Ex ex fx, .slice Ey ey fy] := Blk.new _ _ _
      have fR := hR3.alloc (.cells #[.slice Ex ex fx, .slice Ey ey fy] 24)
      have fX := hsx.below (one_alloc wy (.cells #[.slice Ex ex fx, .slice Ey ey fy] 24))
      have fY := hsy.below (one_alloc wy (.cells #[.slice Ex ex fx, .slice Ey ey fy] 24))
      generalize wy.heap.size = g5 at *
      generalize wy.alloc (.cells #[.slice Ex ex fx, .slice Ey ey fy] 24) = Wf at *
      have p0 := (f5).cell 0; have p1 := (f5).cell 1
      simp only [List.getElem?_toArray, List.getElem?_cons_zero, List.getElem?_cons_succ] at p0 p1
      have hey : ey ≤ 120 := by omega
      have hex : ex ≤ 40 := by omega
      have hgt : decide ((4096 : Int) < (ey : Int)) = false := decide_eq_false (by omega)
      have hgtn : decide (4096 < ey) = false := decide_eq_false (by omega)
      have FX := Lib.hid fX
      have FY := Lib.hid fY
      have FB := Lib.hid fB
      have FR := Lib.hid fR
      clear fX fY fB fR f5
      go_wp2_with (refine stop_store 24 _ _ rfl ?_; refine wpList_store_cal rfl 24 _ _ rfl #[.slice Ex ex fx, .slice Ey ey fy] rfl rfl FR.out (by kernel_rfl) rfl rfl ?_; intro nw hn kn sn cn bn)
      have hX := SliceOf.row FX.out FR.out sn cn
      have hY := SliceOf.row FY.out FR.out sn cn
      have hB := bn _ _ FB.out (by omega)
      have r0 := (hn).cell 0; have r1 := (hn).cell 1
      simp only [List.getElem?_toArray, List.getElem?_cons_zero, List.getElem?_cons_succ] at r0 r1
      refine bodyPost_ret (v := .agg #[.slice Ex ex fx, .slice Ey ey fy]) (by simp [results, Try.results25, go_sem, r0, r1]) rfl ?_
      exact ⟨Ex, ex, fx, Ey, ey, fy, rfl, hX, hY, hex, hey, hB⟩
    · have hle : w.heap.size ≤ wx.heap.size := hBx.size
      have hnR : w.heap.size + 1 + 1 ≠ wx.heap.size := hR3n
      generalize wx.heap.size = g5 at *
      obtain ⟨f5, fs, fk, fb, fB0⟩ := two_sets kb (.slice Ex ex fx) (.slice Ey ey fy)
      have fB := fB0 _ _ hBy hle
      have fR := fb _ _ _ hnR hR3
      have fX := SliceOf.row hsx kb fs fk
      have fY := SliceOf.row hsy kb fs fk
      clear fB0 fb fk fs
      generalize ((wy.setCell ⟨g5, 0, none⟩ (.slice Ex ex fx)).setCell ⟨g5, 1, none⟩ (.slice Ey ey fy)) = Wf at *
      have p0 := (f5).cell 0; have p1 := (f5).cell 1
      simp only [List.getElem?_toArray, List.getElem?_cons_zero, List.getElem?_cons_succ] at p0 p1
      have hey : ey ≤ 120 := by omega
      have hex : ex ≤ 40 := by omega
      have hgt : decide ((4096 : Int) < (ey : Int)) = false := decide_eq_false (by omega)
      have hgtn : decide (4096 < ey) = false := decide_eq_false (by omega)
      have FX := Lib.hid fX
      have FY := Lib.hid fY
      have FB := Lib.hid fB
      have FR := Lib.hid fR
      clear fX fY fB fR f5
      go_wp2_with (refine stop_store 24 _ _ rfl ?_; refine wpList_store_cal rfl 24 _ _ rfl #[.slice Ex ex fx, .slice Ey ey fy] rfl rfl FR.out (by kernel_rfl) rfl rfl ?_; intro nw hn kn sn cn bn)
      have hX := SliceOf.row FX.out FR.out sn cn
      have hY := SliceOf.row FY.out FR.out sn cn
      have hB := bn _ _ FB.out (by omega)
      have r0 := (hn).cell 0; have r1 := (hn).cell 1
      simp only [List.getElem?_toArray, List.getElem?_cons_zero, List.getElem?_cons_succ] at r0 r1
      refine bodyPost_ret (v := .agg #[.slice Ex ex fx, .slice Ey ey fy]) (by simp [results, Try.results25, go_sem, r0, r1]) rfl ?_
      exact ⟨Ex, ex, fx, Ey, ey, fy, rfl, hX, hY, hex, hey, hB⟩
    · have hle : w.heap.size ≤ w3.heap.size := hB3.size
      have hnR : w.heap.size + 1 + 1 ≠ w3.heap.size := hR0n
      generalize w3.heap.size = g5 at *
      obtain ⟨f5, fs, fk, fb, fB0⟩ := two_sets kb (.slice Ex ex fx) (.slice Ey ey fy)
      have fB := fB0 _ _ hBy hle
      have fR := fb _ _ _ hnR hR3
      have fX := SliceOf.row hsx kb fs fk
      have fY := SliceOf.row hsy kb fs fk
      clear fB0 fb fk fs
      generalize ((wy.setCell ⟨g5, 0, none⟩ (.slice Ex ex fx)).setCell ⟨g5, 1, none⟩ (.slice Ey ey fy)) = Wf at *
      have p0 := (f5).cell 0; have p1 := (f5).cell 1
      simp only [List.getElem?_toArray, List.getElem?_cons_zero, List.getElem?_cons_succ] at p0 p1
      have hey : ey ≤ 120 := by omega
      have hex : ex ≤ 40 := by omega
      have hgt : decide ((4096 : Int) < (ey : Int)) = false := decide_eq_false (by omega)
      have hgtn : decide (4096 < ey) = false := decide_eq_false (by omega)
      have FX := Lib.hid fX
      have FY := Lib.hid fY
      have FB := Lib.hid fB
      have FR := Lib.hid fR
      clear fX fY fB fR f5
      go_wp2_with (refine stop_store 24 _ _ rfl ?_; refine wpList_store_cal rfl 24 _ _ rfl #[.slice Ex ex fx, .slice Ey ey fy] rfl rfl FR.out (by kernel_rfl) rfl rfl ?_; intro nw hn kn sn cn bn)
      have hX := SliceOf.row FX.out FR.out sn cn
      have hY := SliceOf.row FY.out FR.out sn cn
      have hB := bn _ _ FB.out (by omega)
      have r0 := (hn).cell 0; have r1 := (hn).cell 1
      simp only [List.getElem?_toArray, List.getElem?_cons_zero, List.getElem?_cons_succ] at r0 r1
      refine bodyPost_ret (v := .agg #[.slice Ex ex fx, .slice Ey ey fy]) (by simp [results, Try.results25, go_sem, r0, r1]) rfl ?_
      exact ⟨Ex, ex, fx, Ey, ey, fy, rfl, hX, hY, hex, hey, hB⟩
  · rw [ma] at HMa
    rw [mb] at HMb
    have ea : goodC a = a := by unfold goodC; rw [ma]; exact if_pos rfl
    have eb : goodC b = ⟨[], []⟩ := by unfold goodC; rw [mb]; rfl
    have SA1 : Hid (SliceOf w 1 intC A1 n1 (goodC a).rest) := Lib.hid (by rw [ea]; exact H1.out)
    have SA2 : Hid (SliceOf w 1 intC A2 n2 (goodC a).hol) := Lib.hid (by rw [ea]; exact H2.out)
    have SB1 : Hid (SliceOf w 1 intC none 0 (goodC b).rest) := Lib.hid (by rw [eb]; exact SliceOf.none_)
    have SB2 : Hid (SliceOf w 1 intC none 0 (goodC b).hol) := Lib.hid (by rw [eb]; exact SliceOf.none_)
    clear ma mb ea eb
    go_enter Try.func25, Try.ntmps25
    go_wp2_with fail
    refine (HMa.out _ hB0).mono ?_
    rintro e w1 ⟨rfl, hb1⟩
    have hB1 := hB0.trans (hb1.mono hB0.size)
    have hA1 := hA0.below hb1 hA0.lt
    have hC1 := hC0.below hb1 hC0.lt
    have hR1 := hR0.below hb1 hR0.lt
    clear a0 a1 b0 b1 hA0 hC0 hR0 hB0 hb1
    have a0 := (hA1).cell 0; have a1 := (hA1).cell 1
    simp only [List.getElem?_toArray, List.getElem?_cons_zero, List.getElem?_cons_succ] at a0 a1
    have b0 := (hC1).cell 0; have b1 := (hC1).cell 1
    simp only [List.getElem?_toArray, List.getElem?_cons_zero, List.getElem?_cons_succ] at b0 b1
    go_wp2_with fail
    refine (HMb.out _ hB1).mono ?_
    rintro e w3 ⟨rfl, hb3⟩
    have hB3 := hB1.trans (hb3.mono hB1.size)
    have hA3 := hA1.below hb3 hA1.lt
    have hC3 := hC1.below hb3 hC1.lt
    have hR3 := hR1.below hb3 hR1.lt
    clear a0 a1 b0 b1 hA1 hC1 hR1 hB1 hb3
    have a0 := (hA3).cell 0; have a1 := (hA3).cell 1
    simp only [List.getElem?_toArray, List.getElem?_cons_zero, List.getElem?_cons_succ] at a0 a1
    have b0 := (hC3).cell 0; have b1 := (hC3).cell 1
    simp only [List.getElem?_toArray, List.getElem?_cons_zero, List.getElem?_cons_succ] at b0 b1
    go_wp2_with (refine stop_store 24 _ _ rfl ?_; refine wpList_store_cal rfl 24 _ _ rfl #[.slice none 0 0, .slice none 0 0] rfl rfl hC3 (by kernel_rfl) rfl rfl ?_; intro w3 hC4 kn sn cn bn; have hB4 := bn _ _ hB3 (by omega); have hA4 := kn _ _ _ hne hA3; have hR4 := kn _ _ _ hne3 hR3; clear a0 a1 b0 b1 hA3 hB3 hC3 hR3 kn sn cn bn; have hA3 := hA4; have hB3 := hB4; have hC3 := hC4; have hR3 := hR4; clear hA4 hB4 hC4 hR4; have a0 := (hA3).cell 0; have a1 := (hA3).cell 1; simp only [List.getElem?_toArray, List.getElem?_cons_zero, List.getElem?_cons_succ] at a0 a1; have b0 := (hC3).cell 0; have b1 := (hC3).cell 1; simp only [List.getElem?_toArray, List.getElem?_cons_zero, List.getElem?_cons_succ] at b0 b1)
    go_wp2_with fail
    have J1 := Lib.hid (fun (W : World) (hb : Below w.heap.size w W) (hc : W.cell? ⟨w.heap.size, 0, none⟩ = some (Value.slice A1 n1 c1) ∧ W.cell? ⟨w.heap.size, 1, none⟩ = some (Value.slice A2 n2 c2) ∧ W.cell? ⟨w.heap.size + 1, 0, none⟩ = some (Value.slice none 0 0) ∧ W.cell? ⟨w.heap.size + 1, 1, none⟩ = some (Value.slice none 0 0)) => (joined_any A1 n1 c1 (goodC a).rest none 0 0 (goodC b).rest W (SA1.out.below hb) (SB1.out.below hb) (by omega) (by omega) ga.out.1 gb.out.1).mono (fun (e : Ending) (w' : World) ⟨x1, x2, x3, x4, x5, x6, x7⟩ => (show ∃ A' m c', e = Ending.returned (Value.slice A' m c') ∧ SliceOf w' 1 intC A' m (mrg (goodC a).rest (goodC b).rest) ∧ m ≤ n1 + 0 ∧ Below W.heap.size W w' ∧ Below w.heap.size w w' ∧ w'.cell? ⟨w.heap.size, 0, none⟩ = some (Value.slice A1 n1 c1) ∧ w'.cell? ⟨w.heap.size, 1, none⟩ = some (Value.slice A2 n2 c2) ∧ w'.cell? ⟨w.heap.size + 1, 0, none⟩ = some (Value.slice none 0 0) ∧ w'.cell? ⟨w.heap.size + 1, 1, none⟩ = some (Value.slice none 0 0) from ⟨x1, x2, x3, x4, x5, x6, x7, hb.trans (x7.mono hb.size), cell_kept x7 hc.1, cell_kept x7 hc.2.1, cell_kept x7 hc.2.2.1, cell_kept x7 hc.2.2.2⟩)))
    have J2 := Lib.hid (fun (W : World) (hb : Below w.heap.size w W) (hc : W.cell? ⟨w.heap.size, 0, none⟩ = some (Value.slice A1 n1 c1) ∧ W.cell? ⟨w.heap.size, 1, none⟩ = some (Value.slice A2 n2 c2) ∧ W.cell? ⟨w.heap.size + 1, 0, none⟩ = some (Value.slice none 0 0) ∧ W.cell? ⟨w.heap.size + 1, 1, none⟩ = some (Value.slice none 0 0)) => (joined_any A2 n2 c2 (goodC a).hol none 0 0 (goodC b).hol W (SA2.out.below hb) (SB2.out.below hb) (by omega) (by omega) ga.out.2.1 gb.out.2.1).mono (fun (e : Ending) (w' : World) ⟨x1, x2, x3, x4, x5, x6, x7⟩ => (show ∃ A' m c', e = Ending.returned (Value.slice A' m c') ∧ SliceOf w' 1 intC A' m (mrg (goodC a).hol (goodC b).hol) ∧ m ≤ n2 + 0 ∧ Below W.heap.size W w' ∧ Below w.heap.size w w' ∧ w'.cell? ⟨w.heap.size, 0, none⟩ = some (Value.slice A1 n1 c1) ∧ w'.cell? ⟨w.heap.size, 1, none⟩ = some (Value.slice A2 n2 c2) ∧ w'.cell? ⟨w.heap.size + 1, 0, none⟩ = some (Value.slice none 0 0) ∧ w'.cell? ⟨w.heap.size + 1, 1, none⟩ = some (Value.slice none 0 0) from ⟨x1, x2, x3, x4, x5, x6, x7, hb.trans (x7.mono hb.size), cell_kept x7 hc.1, cell_kept x7 hc.2.1, cell_kept x7 hc.2.2.1, cell_kept x7 hc.2.2.2⟩)))
    obtain ⟨n1w, n2w⟩ := far_of b0
    have hR0n := Nat.ne_of_lt hR3.lt
    go_region_held3 (fun x => x.cell? ⟨w.heap.size, 0, none⟩ = some (.slice A1 n1 c1) ∧ x.cell? ⟨w.heap.size, 1, none⟩ = some (.slice A2 n2 c2) ∧ x.cell? ⟨w.heap.size + 1, 0, none⟩ = some (.slice none 0 0) ∧ x.cell? ⟨w.heap.size + 1, 1, none⟩ = some (.slice none 0 0)) (go_keep)
      (first | (go_at_call 42; (first | (with_reducible refine Calls.mono (J1.out _ (hBy.alloc hBy.size _) (by simp [*])) ?_) | (with_reducible refine Calls.mono (J1.out _ hBy (by simp [*])) ?_) | (with_reducible refine Calls.mono (J1.out _ (hB3.alloc hB3.size _).drew (by simp [*])) ?_) | (with_reducible refine Calls.mono (J1.out _ hB3.drew (by simp [*])) ?_)); rintro e wx ⟨Ex, ex, fx, rfl, hsx, hmx, hbx, hBx, q0, q1, q2, q3⟩; obtain ⟨n1x, n2x⟩ := far_of q2; (first | (with_reducible have kb := kb.below hbx kb.lt) | (with_reducible have kb := (Blk.new _ _ _).below hbx (Blk.new _ _ _).lt) | (with_reducible have kb := ((Blk.new _ _ _).drew).below hbx ((Blk.new _ _ _).drew).lt) | skip); (try (have kc0 := kb.cell 0; have kc1 := kb.cell 1; have kf0 := kb.frozen 0; have kf1 := kb.frozen 1; simp only [List.getElem?_toArray, List.getElem?_cons_zero, List.getElem?_cons_succ] at kc0 kc1)); (first | (with_reducible have hR3 := hR3.below hbx hR3.lt) | (with_reducible have hR3 := hR3.drew.below hbx hR3.drew.lt) | (with_reducible have hR3 := (hR3.alloc _).below hbx (hR3.alloc _).lt) | (with_reducible have hR3 := (hR3.alloc _).drew.below hbx (hR3.alloc _).drew.lt)); have hR3n := Nat.ne_of_lt hR3.lt; (first | (with_reducible have hsy := hsy.below hbx) | (with_reducible have hsy := (hsy.below (one_alloc _ _)).below hbx) | skip)) | (go_at_call 42; (first | (with_reducible refine Calls.mono (J2.out _ (hBx.alloc hBx.size _) (by simp [*])) ?_) | (with_reducible refine Calls.mono (J2.out _ hBx (by simp [*])) ?_) | (with_reducible refine Calls.mono (J2.out _ (hB3.alloc hB3.size _).drew (by simp [*])) ?_) | (with_reducible refine Calls.mono (J2.out _ hB3.drew (by simp [*])) ?_)); rintro e wy ⟨Ey, ey, fy, rfl, hsy, hmy, hby, hBy, q0, q1, q2, q3⟩; obtain ⟨n1y, n2y⟩ := far_of q2; (first | (with_reducible have kb := kb.below hby kb.lt) | (with_reducible have kb := (Blk.new _ _ _).below hby (Blk.new _ _ _).lt) | (with_reducible have kb := ((Blk.new _ _ _).drew).below hby ((Blk.new _ _ _).drew).lt) | skip); (try (have kc0 := kb.cell 0; have kc1 := kb.cell 1; have kf0 := kb.frozen 0; have kf1 := kb.frozen 1; simp only [List.getElem?_toArray, List.getElem?_cons_zero, List.getElem?_cons_succ] at kc0 kc1)); (first | (with_reducible have hR3 := hR3.below hby hR3.lt) | (with_reducible have hR3 := hR3.drew.below hby hR3.drew.lt) | (with_reducible have hR3 := (hR3.alloc _).below hby (hR3.alloc _).lt) | (with_reducible have hR3 := (hR3.alloc _).drew.below hby (hR3.alloc _).drew.lt)); (first | (with_reducible have hsx := hsx.below hby) | (with_reducible have hsx := (hsx.below (one_alloc _ _)).below hby) | skip)))
    · have fB : Below w.heap.size w (wy.alloc (.cells #[.slice Ex ex fx, .slice Ey ey fy] 24)) := hBy.alloc hBy.size _
      have f5 : Blk (wy.alloc (.cells #[.slice Ex ex fx, .slice Ey ey fy] 24)) wy.heap.size 24 #[.slice Ex ex fx, .slice Ey ey fy] := Blk.new _ _ _
      have fR := hR3.alloc (.cells #[.slice Ex ex fx, .slice Ey ey fy] 24)
      have fX := hsx.below (one_alloc wy (.cells #[.slice Ex ex fx, .slice Ey ey fy] 24))
      have fY := hsy.below (one_alloc wy (.cells #[.slice Ex ex fx, .slice Ey ey fy] 24))
      generalize wy.heap.size = g5 at *
      generalize wy.alloc (.cells #[.slice Ex ex fx, .slice Ey ey fy] 24) = Wf at *
      have p0 := (f5).cell 0; have p1 := (f5).cell 1
      simp only [List.getElem?_toArray, List.getElem?_cons_zero, List.getElem?_cons_succ] at p0 p1
      have hey : ey ≤ 120 := by omega
      have hex : ex ≤ 40 := by omega
      have hgt : decide ((4096 : Int) < (ey : Int)) = false := decide_eq_false (by omega)
      have hgtn : decide (4096 < ey) = false := decide_eq_false (by omega)
      have FX := Lib.hid fX
      have FY := Lib.hid fY
      have FB := Lib.hid fB
      have FR := Lib.hid fR
      clear fX fY fB fR f5
      go_wp2_with (refine stop_store 24 _ _ rfl ?_; refine wpList_store_cal rfl 24 _ _ rfl #[.slice Ex ex fx, .slice Ey ey fy] rfl rfl FR.out (by kernel_rfl) rfl rfl ?_; intro nw hn kn sn cn bn)
      have hX := SliceOf.row FX.out FR.out sn cn
      have hY := SliceOf.row FY.out FR.out sn cn
      have hB := bn _ _ FB.out (by omega)
      have r0 := (hn).cell 0; have r1 := (hn).cell 1
      simp only [List.getElem?_toArray, List.getElem?_cons_zero, List.getElem?_cons_succ] at r0 r1
      refine bodyPost_ret (v := .agg #[.slice Ex ex fx, .slice Ey ey fy]) (by simp [results, Try.results25, go_sem, r0, r1]) rfl ?_
      exact ⟨Ex, ex, fx, Ey, ey, fy, rfl, hX, hY, hex, hey, hB⟩
    · have hle : w.heap.size ≤ wx.heap.size := hBx.size
      have hnR : w.heap.size + 1 + 1 ≠ wx.heap.size := hR3n
      generalize wx.heap.size = g5 at *
      obtain ⟨f5, fs, fk, fb, fB0⟩ := two_sets kb (.slice Ex ex fx) (.slice Ey ey fy)
      have fB := fB0 _ _ hBy hle
      have fR := fb _ _ _ hnR hR3
      have fX := SliceOf.row hsx kb fs fk
      have fY := SliceOf.row hsy kb fs fk
      clear fB0 fb fk fs
      generalize ((wy.setCell ⟨g5, 0, none⟩ (.slice Ex ex fx)).setCell ⟨g5, 1, none⟩ (.slice Ey ey fy)) = Wf at *
      have p0 := (f5).cell 0; have p1 := (f5).cell 1
      simp only [List.getElem?_toArray, List.getElem?_cons_zero, List.getElem?_cons_succ] at p0 p1
      have hey : ey ≤ 120 := by omega
      have hex : ex ≤ 40 := by omega
      have hgt : decide ((4096 : Int) < (ey : Int)) = false := decide_eq_false (by omega)
      have hgtn : decide (4096 < ey) = false := decide_eq_false (by omega)
      have FX := Lib.hid fX
      have FY := Lib.hid fY
      have FB := Lib.hid fB
      have FR := Lib.hid fR
      clear fX fY fB fR f5
      go_wp2_with (refine stop_store 24 _ _ rfl ?_; refine wpList_store_cal rfl 24 _ _ rfl #[.slice Ex ex fx, .slice Ey ey fy] rfl rfl FR.out (by kernel_rfl) rfl rfl ?_; intro nw hn kn sn cn bn)
      have hX := SliceOf.row FX.out FR.out sn cn
      have hY := SliceOf.row FY.out FR.out sn cn
      have hB := bn _ _ FB.out (by omega)
      have r0 := (hn).cell 0; have r1 := (hn).cell 1
      simp only [List.getElem?_toArray, List.getElem?_cons_zero, List.getElem?_cons_succ] at r0 r1
      refine bodyPost_ret (v := .agg #[.slice Ex ex fx, .slice Ey ey fy]) (by simp [results, Try.results25, go_sem, r0, r1]) rfl ?_
      exact ⟨Ex, ex, fx, Ey, ey, fy, rfl, hX, hY, hex, hey, hB⟩
    · have hle : w.heap.size ≤ w3.heap.size := hB3.size
      have hnR : w.heap.size + 1 + 1 ≠ w3.heap.size := hR0n
      generalize w3.heap.size = g5 at *
      obtain ⟨f5, fs, fk, fb, fB0⟩ := two_sets kb (.slice Ex ex fx) (.slice Ey ey fy)
      have fB := fB0 _ _ hBy hle
      have fR := fb _ _ _ hnR hR3
      have fX := SliceOf.row hsx kb fs fk
      have fY := SliceOf.row hsy kb fs fk
      clear fB0 fb fk fs
      generalize ((wy.setCell ⟨g5, 0, none⟩ (.slice Ex ex fx)).setCell ⟨g5, 1, none⟩ (.slice Ey ey fy)) = Wf at *
      have p0 := (f5).cell 0; have p1 := (f5).cell 1
      simp only [List.getElem?_toArray, List.getElem?_cons_zero, List.getElem?_cons_succ] at p0 p1
      have hey : ey ≤ 120 := by omega
      have hex : ex ≤ 40 := by omega
      have hgt : decide ((4096 : Int) < (ey : Int)) = false := decide_eq_false (by omega)
      have hgtn : decide (4096 < ey) = false := decide_eq_false (by omega)
      have FX := Lib.hid fX
      have FY := Lib.hid fY
      have FB := Lib.hid fB
      have FR := Lib.hid fR
      clear fX fY fB fR f5
      go_wp2_with (refine stop_store 24 _ _ rfl ?_; refine wpList_store_cal rfl 24 _ _ rfl #[.slice Ex ex fx, .slice Ey ey fy] rfl rfl FR.out (by kernel_rfl) rfl rfl ?_; intro nw hn kn sn cn bn)
      have hX := SliceOf.row FX.out FR.out sn cn
      have hY := SliceOf.row FY.out FR.out sn cn
      have hB := bn _ _ FB.out (by omega)
      have r0 := (hn).cell 0; have r1 := (hn).cell 1
      simp only [List.getElem?_toArray, List.getElem?_cons_zero, List.getElem?_cons_succ] at r0 r1
      refine bodyPost_ret (v := .agg #[.slice Ex ex fx, .slice Ey ey fy]) (by simp [results, Try.results25, go_sem, r0, r1]) rfl ?_
      exact ⟨Ex, ex, fx, Ey, ey, fy, rfl, hX, hY, hex, hey, hB⟩
  · rw [ma] at HMa
    rw [mb] at HMb
    have ea : goodC a = a := by unfold goodC; rw [ma]; exact if_pos rfl
    have eb : goodC b = b := by unfold goodC; rw [mb]; exact if_pos rfl
    have SA1 : Hid (SliceOf w 1 intC A1 n1 (goodC a).rest) := Lib.hid (by rw [ea]; exact H1.out)
    have SA2 : Hid (SliceOf w 1 intC A2 n2 (goodC a).hol) := Lib.hid (by rw [ea]; exact H2.out)
    have SB1 : Hid (SliceOf w 1 intC B1 k1 (goodC b).rest) := Lib.hid (by rw [eb]; exact H3.out)
    have SB2 : Hid (SliceOf w 1 intC B2 k2 (goodC b).hol) := Lib.hid (by rw [eb]; exact H4.out)
    clear ma mb ea eb
    go_enter Try.func25, Try.ntmps25
    go_wp2_with fail
    refine (HMa.out _ hB0).mono ?_
    rintro e w1 ⟨rfl, hb1⟩
    have hB1 := hB0.trans (hb1.mono hB0.size)
    have hA1 := hA0.below hb1 hA0.lt
    have hC1 := hC0.below hb1 hC0.lt
    have hR1 := hR0.below hb1 hR0.lt
    clear a0 a1 b0 b1 hA0 hC0 hR0 hB0 hb1
    have a0 := (hA1).cell 0; have a1 := (hA1).cell 1
    simp only [List.getElem?_toArray, List.getElem?_cons_zero, List.getElem?_cons_succ] at a0 a1
    have b0 := (hC1).cell 0; have b1 := (hC1).cell 1
    simp only [List.getElem?_toArray, List.getElem?_cons_zero, List.getElem?_cons_succ] at b0 b1
    go_wp2_with fail
    refine (HMb.out _ hB1).mono ?_
    rintro e w3 ⟨rfl, hb3⟩
    have hB3 := hB1.trans (hb3.mono hB1.size)
    have hA3 := hA1.below hb3 hA1.lt
    have hC3 := hC1.below hb3 hC1.lt
    have hR3 := hR1.below hb3 hR1.lt
    clear a0 a1 b0 b1 hA1 hC1 hR1 hB1 hb3
    have a0 := (hA3).cell 0; have a1 := (hA3).cell 1
    simp only [List.getElem?_toArray, List.getElem?_cons_zero, List.getElem?_cons_succ] at a0 a1
    have b0 := (hC3).cell 0; have b1 := (hC3).cell 1
    simp only [List.getElem?_toArray, List.getElem?_cons_zero, List.getElem?_cons_succ] at b0 b1
    go_wp2_with fail
    have J1 := Lib.hid (fun (W : World) (hb : Below w.heap.size w W) (hc : W.cell? ⟨w.heap.size, 0, none⟩ = some (Value.slice A1 n1 c1) ∧ W.cell? ⟨w.heap.size, 1, none⟩ = some (Value.slice A2 n2 c2) ∧ W.cell? ⟨w.heap.size + 1, 0, none⟩ = some (Value.slice B1 k1 d1) ∧ W.cell? ⟨w.heap.size + 1, 1, none⟩ = some (Value.slice B2 k2 d2)) => (joined_any A1 n1 c1 (goodC a).rest B1 k1 d1 (goodC b).rest W (SA1.out.below hb) (SB1.out.below hb) (by omega) (by omega) ga.out.1 gb.out.1).mono (fun (e : Ending) (w' : World) ⟨x1, x2, x3, x4, x5, x6, x7⟩ => (show ∃ A' m c', e = Ending.returned (Value.slice A' m c') ∧ SliceOf w' 1 intC A' m (mrg (goodC a).rest (goodC b).rest) ∧ m ≤ n1 + k1 ∧ Below W.heap.size W w' ∧ Below w.heap.size w w' ∧ w'.cell? ⟨w.heap.size, 0, none⟩ = some (Value.slice A1 n1 c1) ∧ w'.cell? ⟨w.heap.size, 1, none⟩ = some (Value.slice A2 n2 c2) ∧ w'.cell? ⟨w.heap.size + 1, 0, none⟩ = some (Value.slice B1 k1 d1) ∧ w'.cell? ⟨w.heap.size + 1, 1, none⟩ = some (Value.slice B2 k2 d2) from ⟨x1, x2, x3, x4, x5, x6, x7, hb.trans (x7.mono hb.size), cell_kept x7 hc.1, cell_kept x7 hc.2.1, cell_kept x7 hc.2.2.1, cell_kept x7 hc.2.2.2⟩)))
    have J2 := Lib.hid (fun (W : World) (hb : Below w.heap.size w W) (hc : W.cell? ⟨w.heap.size, 0, none⟩ = some (Value.slice A1 n1 c1) ∧ W.cell? ⟨w.heap.size, 1, none⟩ = some (Value.slice A2 n2 c2) ∧ W.cell? ⟨w.heap.size + 1, 0, none⟩ = some (Value.slice B1 k1 d1) ∧ W.cell? ⟨w.heap.size + 1, 1, none⟩ = some (Value.slice B2 k2 d2)) => (joined_any A2 n2 c2 (goodC a).hol B2 k2 d2 (goodC b).hol W (SA2.out.below hb) (SB2.out.below hb) (by omega) (by omega) ga.out.2.1 gb.out.2.1).mono (fun (e : Ending) (w' : World) ⟨x1, x2, x3, x4, x5, x6, x7⟩ => (show ∃ A' m c', e = Ending.returned (Value.slice A' m c') ∧ SliceOf w' 1 intC A' m (mrg (goodC a).hol (goodC b).hol) ∧ m ≤ n2 + k2 ∧ Below W.heap.size W w' ∧ Below w.heap.size w w' ∧ w'.cell? ⟨w.heap.size, 0, none⟩ = some (Value.slice A1 n1 c1) ∧ w'.cell? ⟨w.heap.size, 1, none⟩ = some (Value.slice A2 n2 c2) ∧ w'.cell? ⟨w.heap.size + 1, 0, none⟩ = some (Value.slice B1 k1 d1) ∧ w'.cell? ⟨w.heap.size + 1, 1, none⟩ = some (Value.slice B2 k2 d2) from ⟨x1, x2, x3, x4, x5, x6, x7, hb.trans (x7.mono hb.size), cell_kept x7 hc.1, cell_kept x7 hc.2.1, cell_kept x7 hc.2.2.1, cell_kept x7 hc.2.2.2⟩)))
    obtain ⟨n1w, n2w⟩ := far_of b0
    have hR0n := Nat.ne_of_lt hR3.lt
    go_region_held3 (fun x => x.cell? ⟨w.heap.size, 0, none⟩ = some (.slice A1 n1 c1) ∧ x.cell? ⟨w.heap.size, 1, none⟩ = some (.slice A2 n2 c2) ∧ x.cell? ⟨w.heap.size + 1, 0, none⟩ = some (.slice B1 k1 d1) ∧ x.cell? ⟨w.heap.size + 1, 1, none⟩ = some (.slice B2 k2 d2)) (go_keep)
      (first | (go_at_call 42; (first | (with_reducible refine Calls.mono (J1.out _ (hBy.alloc hBy.size _) (by simp [*])) ?_) | (with_reducible refine Calls.mono (J1.out _ hBy (by simp [*])) ?_) | (with_reducible refine Calls.mono (J1.out _ (hB3.alloc hB3.size _).drew (by simp [*])) ?_) | (with_reducible refine Calls.mono (J1.out _ hB3.drew (by simp [*])) ?_)); rintro e wx ⟨Ex, ex, fx, rfl, hsx, hmx, hbx, hBx, q0, q1, q2, q3⟩; obtain ⟨n1x, n2x⟩ := far_of q2; (first | (with_reducible have kb := kb.below hbx kb.lt) | (with_reducible have kb := (Blk.new _ _ _).below hbx (Blk.new _ _ _).lt) | (with_reducible have kb := ((Blk.new _ _ _).drew).below hbx ((Blk.new _ _ _).drew).lt) | skip); (try (have kc0 := kb.cell 0; have kc1 := kb.cell 1; have kf0 := kb.frozen 0; have kf1 := kb.frozen 1; simp only [List.getElem?_toArray, List.getElem?_cons_zero, List.getElem?_cons_succ] at kc0 kc1)); (first | (with_reducible have hR3 := hR3.below hbx hR3.lt) | (with_reducible have hR3 := hR3.drew.below hbx hR3.drew.lt) | (with_reducible have hR3 := (hR3.alloc _).below hbx (hR3.alloc _).lt) | (with_reducible have hR3 := (hR3.alloc _).drew.below hbx (hR3.alloc _).drew.lt)); have hR3n := Nat.ne_of_lt hR3.lt; (first | (with_reducible have hsy := hsy.below hbx) | (with_reducible have hsy := (hsy.below (one_alloc _ _)).below hbx) | skip)) | (go_at_call 42; (first | (with_reducible refine Calls.mono (J2.out _ (hBx.alloc hBx.size _) (by simp [*])) ?_) | (with_reducible refine Calls.mono (J2.out _ hBx (by simp [*])) ?_) | (with_reducible refine Calls.mono (J2.out _ (hB3.alloc hB3.size _).drew (by simp [*])) ?_) | (with_reducible refine Calls.mono (J2.out _ hB3.drew (by simp [*])) ?_)); rintro e wy ⟨Ey, ey, fy, rfl, hsy, hmy, hby, hBy, q0, q1, q2, q3⟩; obtain ⟨n1y, n2y⟩ := far_of q2; (first | (with_reducible have kb := kb.below hby kb.lt) | (with_reducible have kb := (Blk.new _ _ _).below hby (Blk.new _ _ _).lt) | (with_reducible have kb := ((Blk.new _ _ _).drew).below hby ((Blk.new _ _ _).drew).lt) | skip); (try (have kc0 := kb.cell 0; have kc1 := kb.cell 1; have kf0 := kb.frozen 0; have kf1 := kb.frozen 1; simp only [List.getElem?_toArray, List.getElem?_cons_zero, List.getElem?_cons_succ] at kc0 kc1)); (first | (with_reducible have hR3 := hR3.below hby hR3.lt) | (with_reducible have hR3 := hR3.drew.below hby hR3.drew.lt) | (with_reducible have hR3 := (hR3.alloc _).below hby (hR3.alloc _).lt) | (with_reducible have hR3 := (hR3.alloc _).drew.below hby (hR3.alloc _).drew.lt)); (first | (with_reducible have hsx := hsx.below hby) | (with_reducible have hsx := (hsx.below (one_alloc _ _)).below hby) | skip)))
    · have fB : Below w.heap.size w (wy.alloc (.cells #[.slice Ex ex fx, .slice Ey ey fy] 24)) := hBy.alloc hBy.size _
      have f5 : Blk (wy.alloc (.cells #[.slice Ex ex fx, .slice Ey ey fy] 24)) wy.heap.size 24 #[.slice Ex ex fx, .slice Ey ey fy] := Blk.new _ _ _
      have fR := hR3.alloc (.cells #[.slice Ex ex fx, .slice Ey ey fy] 24)
      have fX := hsx.below (one_alloc wy (.cells #[.slice Ex ex fx, .slice Ey ey fy] 24))
      have fY := hsy.below (one_alloc wy (.cells #[.slice Ex ex fx, .slice Ey ey fy] 24))
      generalize wy.heap.size = g5 at *
      generalize wy.alloc (.cells #[.slice Ex ex fx, .slice Ey ey fy] 24) = Wf at *
      have p0 := (f5).cell 0; have p1 := (f5).cell 1
      simp only [List.getElem?_toArray, List.getElem?_cons_zero, List.getElem?_cons_succ] at p0 p1
      have hey : ey ≤ 120 := by omega
      have hex : ex ≤ 40 := by omega
      have hgt : decide ((4096 : Int) < (ey : Int)) = false := decide_eq_false (by omega)
      have hgtn : decide (4096 < ey) = false := decide_eq_false (by omega)
      have FX := Lib.hid fX
      have FY := Lib.hid fY
      have FB := Lib.hid fB
      have FR := Lib.hid fR
      clear fX fY fB fR f5
      go_wp2_with (refine stop_store 24 _ _ rfl ?_; refine wpList_store_cal rfl 24 _ _ rfl #[.slice Ex ex fx, .slice Ey ey fy] rfl rfl FR.out (by kernel_rfl) rfl rfl ?_; intro nw hn kn sn cn bn)
      have hX := SliceOf.row FX.out FR.out sn cn
      have hY := SliceOf.row FY.out FR.out sn cn
      have hB := bn _ _ FB.out (by omega)
      have r0 := (hn).cell 0; have r1 := (hn).cell 1
      simp only [List.getElem?_toArray, List.getElem?_cons_zero, List.getElem?_cons_succ] at r0 r1
      refine bodyPost_ret (v := .agg #[.slice Ex ex fx, .slice Ey ey fy]) (by simp [results, Try.results25, go_sem, r0, r1]) rfl ?_
      exact ⟨Ex, ex, fx, Ey, ey, fy, rfl, hX, hY, hex, hey, hB⟩
    · have hle : w.heap.size ≤ wx.heap.size := hBx.size
      have hnR : w.heap.size + 1 + 1 ≠ wx.heap.size := hR3n
      generalize wx.heap.size = g5 at *
      obtain ⟨f5, fs, fk, fb, fB0⟩ := two_sets kb (.slice Ex ex fx) (.slice Ey ey fy)
      have fB := fB0 _ _ hBy hle
      have fR := fb _ _ _ hnR hR3
      have fX := SliceOf.row hsx kb fs fk
      have fY := SliceOf.row hsy kb fs fk
      clear fB0 fb fk fs
      generalize ((wy.setCell ⟨g5, 0, none⟩ (.slice Ex ex fx)).setCell ⟨g5, 1, none⟩ (.slice Ey ey fy)) = Wf at *
      have p0 := (f5).cell 0; have p1 := (f5).cell 1
      simp only [List.getElem?_toArray, List.getElem?_cons_zero, List.getElem?_cons_succ] at p0 p1
      have hey : ey ≤ 120 := by omega
      have hex : ex ≤ 40 := by omega
      have hgt : decide ((4096 : Int) < (ey : Int)) = false := decide_eq_false (by omega)
      have hgtn : decide (4096 < ey) = false := decide_eq_false (by omega)
      have FX := Lib.hid fX
      have FY := Lib.hid fY
      have FB := Lib.hid fB
      have FR := Lib.hid fR
      clear fX fY fB fR f5
      go_wp2_with (refine stop_store 24 _ _ rfl ?_; refine wpList_store_cal rfl 24 _ _ rfl #[.slice Ex ex fx, .slice Ey ey fy] rfl rfl FR.out (by kernel_rfl) rfl rfl ?_; intro nw hn kn sn cn bn)
      have hX := SliceOf.row FX.out FR.out sn cn
      have hY := SliceOf.row FY.out FR.out sn cn
      have hB := bn _ _ FB.out (by omega)
      have r0 := (hn).cell 0; have r1 := (hn).cell 1
      simp only [List.getElem?_toArray, List.getElem?_cons_zero, List.getElem?_cons_succ] at r0 r1
      refine bodyPost_ret (v := .agg #[.slice Ex ex fx, .slice Ey ey fy]) (by simp [results, Try.results25, go_sem, r0, r1]) rfl ?_
      exact ⟨Ex, ex, fx, Ey, ey, fy, rfl, hX, hY, hex, hey, hB⟩
    · have hle : w.heap.size ≤ w3.heap.size := hB3.size
      have hnR : w.heap.size + 1 + 1 ≠ w3.heap.size := hR0n
      generalize w3.heap.size = g5 at *
      obtain ⟨f5, fs, fk, fb, fB0⟩ := two_sets kb (.slice Ex ex fx) (.slice Ey ey fy)
      have fB := fB0 _ _ hBy hle
      have fR := fb _ _ _ hnR hR3
      have fX := SliceOf.row hsx kb fs fk
      have fY := SliceOf.row hsy kb fs fk
      clear fB0 fb fk fs
      generalize ((wy.setCell ⟨g5, 0, none⟩ (.slice Ex ex fx)).setCell ⟨g5, 1, none⟩ (.slice Ey ey fy)) = Wf at *
      have p0 := (f5).cell 0; have p1 := (f5).cell 1
      simp only [List.getElem?_toArray, List.getElem?_cons_zero, List.getElem?_cons_succ] at p0 p1
      have hey : ey ≤ 120 := by omega
      have hex : ex ≤ 40 := by omega
      have hgt : decide ((4096 : Int) < (ey : Int)) = false := decide_eq_false (by omega)
      have hgtn : decide (4096 < ey) = false := decide_eq_false (by omega)
      have FX := Lib.hid fX
      have FY := Lib.hid fY
      have FB := Lib.hid fB
      have FR := Lib.hid fR
      clear fX fY fB fR f5
      go_wp2_with (refine stop_store 24 _ _ rfl ?_; refine wpList_store_cal rfl 24 _ _ rfl #[.slice Ex ex fx, .slice Ey ey fy] rfl rfl FR.out (by kernel_rfl) rfl rfl ?_; intro nw hn kn sn cn bn)
      have hX := SliceOf.row FX.out FR.out sn cn
      have hY := SliceOf.row FY.out FR.out sn cn
      have hB := bn _ _ FB.out (by omega)
      have r0 := (hn).cell 0; have r1 := (hn).cell 1
      simp only [List.getElem?_toArray, List.getElem?_cons_zero, List.getElem?_cons_succ] at r0 r1
      refine bodyPost_ret (v := .agg #[.slice Ex ex fx, .slice Ey ey fy]) (by simp [results, Try.results25, go_sem, r0, r1]) rfl ?_
      exact ⟨Ex, ex, fx, Ey, ey, fy, rfl, hX, hY, hex, hey, hB⟩
end Go.Proofs.Ytfiflmgjcmmomaa.cal
