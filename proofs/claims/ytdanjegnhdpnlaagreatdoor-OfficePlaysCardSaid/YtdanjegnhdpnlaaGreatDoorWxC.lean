/- OfficePlays: the law's walk, and its arguments. Condition: the table of powers of ten. -/
import Derived.Test.YtdanjegnhdpnlaaGreatDoorWxB
import Derived.Test.YtdanjegnhdpnlaaGreatDoorWxA
import Derived.Test.YtdanjegnhdpnlaaGreatDoorKit
import Derived.SizedLaws
import Derived.Stop.LaidErr
namespace Go.Proofs.YtdanjegnhdpnlaaGreatDoor.kit
open Go.RowKit Go.PlainAid
set_option linter.unusedVariables false
set_option linter.unusedSimpArgs false
set_option maxRecDepth 100000
set_option maxHeartbeats 12800000
theorem rnew_hi (s : Su) (xs : List Dx) (w : World) (h2 : s.dn ≤ 100) :
    Calls Tryz.prog 17 #[.agg #[.slice s.pA s.pn s.pc, .slice s.dA s.dn s.dc, .slice s.fA s.fn s.fc, .slice s.rA s.rn s.rc, .slice s.hA s.hn s.hc]] w fun e w' => ∃ v, e = .returned v ∧ Below w.heap.size w w' ∧ StHi w.heap.size (List.replicate s.dn 0) (List.replicate s.dn 0) v w' := by
  obtain ⟨pA, pn, pc, dA, dn, dc, fA, fn, fc, rA, rn, rc, hA, hn, hc⟩ := s
  dsimp only at h2 ⊢
  have HB0 : Hid (Below w.heap.size w (((w.alloc (.cells #[.slice pA pn pc, .slice dA dn dc, .slice fA fn fc, .slice rA rn rc, .slice hA hn hc] 29)).alloc (.cells #[.slice none 0 0, .slice none 0 0] 37)).alloc (.cells #[.slice none 0 0, .slice none 0 0] 37))) := Lib.hid ((two_alloc w _ _).alloc (by simp; omega) _)
  have HK0 : Hid (Blk (((w.alloc (.cells #[.slice pA pn pc, .slice dA dn dc, .slice fA fn fc, .slice rA rn rc, .slice hA hn hc] 29)).alloc (.cells #[.slice none 0 0, .slice none 0 0] 37)).alloc (.cells #[.slice none 0 0, .slice none 0 0] 37)) w.heap.size 29 #[.slice pA pn pc, .slice dA dn dc, .slice fA fn fc, .slice rA rn rc, .slice hA hn hc]) := Lib.hid (((Blk.new _ _ _).alloc _).alloc _)
  have HR0 : Hid (Blk (((w.alloc (.cells #[.slice pA pn pc, .slice dA dn dc, .slice fA fn fc, .slice rA rn rc, .slice hA hn hc] 29)).alloc (.cells #[.slice none 0 0, .slice none 0 0] 37)).alloc (.cells #[.slice none 0 0, .slice none 0 0] 37)) (w.heap.size + 1) 37 #[.slice none 0 0, .slice none 0 0]) := Lib.hid ((blk_second _ _ _ _).alloc _)
  have HX0 : Hid (Blk (((w.alloc (.cells #[.slice pA pn pc, .slice dA dn dc, .slice fA fn fc, .slice rA rn rc, .slice hA hn hc] 29)).alloc (.cells #[.slice none 0 0, .slice none 0 0] 37)).alloc (.cells #[.slice none 0 0, .slice none 0 0] 37)) (w.heap.size + 1 + 1) 37 #[.slice none 0 0, .slice none 0 0]) := Lib.hid (Blk.new_at _ _ _ _ (by simp))
  have HZ0 : Hid (w.heap.size + 1 + 1 < ((((w.alloc (.cells #[.slice pA pn pc, .slice dA dn dc, .slice fA fn fc, .slice rA rn rc, .slice hA hn hc] 29)).alloc (.cells #[.slice none 0 0, .slice none 0 0] 37)).alloc (.cells #[.slice none 0 0, .slice none 0 0] 37))).heap.size) := Lib.hid (by simp)
  obtain ⟨i1, hi1, hz0, hz1, hz2⟩ := info_parts infoI
  obtain ⟨i2, hi2, hy0, hy1, hy2⟩ := info_parts infoL
  have hb0 := fun w => st_build0 w
  go_enter Tryz.func17, Tryz.ntmps17
  go_upto_region 2 with ((refine stop_store 37 _ _ rfl ?_; refine wpList_store_new rfl 37 _ _ rfl _ rfl rfl (by kernel_rfl) rfl rfl ?_))
  obtain ⟨w1, hw1⟩ : ∃ W, (((w.alloc (.cells #[.slice pA pn pc, .slice dA dn dc, .slice fA fn fc, .slice rA rn rc, .slice hA hn hc] 29)).alloc (.cells #[.slice none 0 0, .slice none 0 0] 37)).alloc (.cells #[.slice none 0 0, .slice none 0 0] 37)) = W := ⟨_, rfl⟩
  rw [hw1] at HB0 HK0 HR0 HX0 HZ0
  change Code.wp _ _ _ _ (((w.alloc (.cells #[.slice pA pn pc, .slice dA dn dc, .slice fA fn fc, .slice rA rn rc, .slice hA hn hc] 29)).alloc (.cells #[.slice none 0 0, .slice none 0 0] 37)).alloc (.cells #[.slice none 0 0, .slice none 0 0] 37))
  rw [hw1]
  obtain ⟨gs, hg⟩ : ∃ g, w.heap.size = g := ⟨_, rfl⟩
  have HGE := Lib.hid hg
  rw [hg] at HK0 HR0 HX0 HZ0
  simp only [hg]
  clear hw1 hg
  go_wp2_with fail
  go_loopw [4] (fun i wr => ∃ (k : Nat) (v1 v2 : Value), k ≤ dn ∧ i = .int .i64 k ∧ Hid (Blk wr (gs + 1 + 1) 37 #[v1, v2]) ∧ Hid (wr.ownsRow (gs + 3) 3 1 v1 k ((List.replicate k (0 : Int)).flatMap inC)) ∧ Hid (wr.ownsRow (gs + 3) 2 1 v2 k ((List.replicate k (0 : Int)).flatMap inC)) ∧ Hid (Fr (fun q => gs + 2 ≤ q) w1 wr)) (fun i _ => dn - (intOf i).toNat)
  case atStart => exact ⟨0, _, _, by omega, rfl, HX0, Lib.hid ⟨rfl, .inl ⟨rfl, rfl⟩⟩, Lib.hid ⟨rfl, .inl ⟨rfl, rfl⟩⟩, Lib.hid (Fr.refl _ _)⟩
  case round =>
    obtain ⟨k, v1, v2, hk, rfl, HX, HO1, HO2, HF⟩ := hrel
    have HKS := Lib.hid (HK0.out.fr HF.out (by omega))
    have s1 := HKS.out.cell 1
    simp only [List.getElem?_toArray, List.getElem?_cons_zero, List.getElem?_cons_succ] at s1
    have x0 := HX.out.cell 0; have f0 := HX.out.frozen 0
    simp only [List.getElem?_toArray, List.getElem?_cons_zero, List.getElem?_cons_succ] at x0
    have HSZ : Hid (gs + 3 ≤ wr.heap.size) := Lib.hid (by have := HF.out.size; have := HZ0.out; omega)
    by_cases hlt : k < dn
    · have i0 : (k : Int) < (dn : Int) := by omega
      go_upto_region 6 with (at_builtin; refine wpList_append_any_s _ rfl (.tmp 14) (.tmp 15) 25 rfl (gs + 3) 3 i1 _ 1 8 Tryz.underlying25 hi1 hz0 hz1 hz2 rfl (by omega) v1 k _ rfl (HO1.out.alloc _) _ (some ⟨wr.heap.size, 0, none⟩) 1 1 ([(0 : Int)].flatMap inC) rfl (reads_one wr _) (in_one _) (by unfold maxLen; omega) (by omega) (by have := HSZ.out; simp; omega) ?_; intro A9 c9 w9 hown9 hg9 hloc9; have hx9 := (HX.out.alloc (.cells #[.int .i64 0] 3)).grown hg9 (fun e => by have := (HO1.out.lt _ e.symm).1; omega); have HX9 := Lib.hid hx9; have HF9 := Lib.hid ((HF.out.alloc (.cells #[.int .i64 0] 3)).grown hg9 (fun q hq => .inl (by have := (HO1.out.lt _ hq).1; omega))); have HP9 := Lib.hid ((HO2.out.alloc (.cells #[.int .i64 0] 3)).kept hg9 (own_ne2 HO2.out HO1.out (by decide))); rw [rep_snoc] at hown9; have HO9 := Lib.hid hown9; clear x0 f0 hown9 hg9 hloc9; have x0 := hx9.cell 0; have f0 := hx9.frozen 0; simp only [List.getElem?_toArray, List.getElem?_cons_zero, List.getElem?_cons_succ] at x0; clear hx9)
      have HX10 : Hid (Blk (w9.setCell ⟨gs + 1 + 1, 0, none⟩ (.slice A9 (k + 1) c9)) (gs + 1 + 1) 37 #[.slice A9 (k + 1) c9, v2]) := Lib.hid (by have q := HX9.out.set_ 0 (.slice A9 (k + 1) c9); simpa using q)
      have HO10 : Hid ((w9.setCell ⟨gs + 1 + 1, 0, none⟩ (.slice A9 (k + 1) c9)).ownsRow (gs + 3) 3 1 (.slice A9 (k + 1) c9) (k + 1) ((List.replicate (k + 1) (0 : Int)).flatMap inC)) := Lib.hid (own_fr HO9.out ((Fr.refl (fun q => q = gs + 1 + 1) w9).setCell (p := ⟨gs + 1 + 1, 0, none⟩) (.inl rfl) _) (fun q hq e => by have := (HO9.out.lt _ hq).1; omega))
      have HP10 : Hid ((w9.setCell ⟨gs + 1 + 1, 0, none⟩ (.slice A9 (k + 1) c9)).ownsRow (gs + 3) 2 1 v2 k ((List.replicate k (0 : Int)).flatMap inC)) := Lib.hid (own_fr HP9.out ((Fr.refl (fun q => q = gs + 1 + 1) w9).setCell (p := ⟨gs + 1 + 1, 0, none⟩) (.inl rfl) _) (fun q hq e => by have := (HP9.out.lt _ hq).1; omega))
      have HF10 : Hid (Fr (fun q => gs + 2 ≤ q) w1 (w9.setCell ⟨gs + 1 + 1, 0, none⟩ (.slice A9 (k + 1) c9))) := Lib.hid (HF9.out.setCell (p := ⟨gs + 1 + 1, 0, none⟩) (.inl (by simp)) _)
      obtain ⟨wv, hwv⟩ : ∃ W, w9.setCell ⟨gs + 1 + 1, 0, none⟩ (.slice A9 (k + 1) c9) = W := ⟨_, rfl⟩
      rw [hwv] at HX10 HO10 HP10 HF10 ⊢
      clear hwv x0 f0 HX9 HF9 HP9 HO9 HX HO1 HO2 HF s1 HKS
      have y1 := HX10.out.cell 1; have g1 := HX10.out.frozen 1
      simp only [List.getElem?_toArray, List.getElem?_cons_zero, List.getElem?_cons_succ] at y1
      have HSV : Hid (gs + 3 ≤ wv.heap.size) := Lib.hid (by have := HF10.out.size; have := HZ0.out; omega)
      go_wp2_with (at_builtin; refine wpList_append_any_s _ rfl (.tmp 19) (.tmp 20) 35 rfl (gs + 3) 2 i2 _ 1 8 Tryz.underlying35 hi2 hy0 hy1 hy2 rfl (by omega) v2 k _ rfl (HP10.out.alloc _) _ (some ⟨wv.heap.size, 0, none⟩) 1 1 ([(0 : Int)].flatMap inC) rfl (reads_one wv _) (in_one _) (by unfold maxLen; omega) (by omega) (by have := HSV.out; simp; omega) ?_; intro A8 c8 w8 hown8 hg8 hloc8; have hx8 := (HX10.out.alloc (.cells #[.int .i64 0] 2)).grown hg8 (fun e => by have := (HP10.out.lt _ e.symm).1; omega); have HX8 := Lib.hid hx8; have HF8 := Lib.hid ((HF10.out.alloc (.cells #[.int .i64 0] 2)).grown hg8 (fun q hq => .inl (by have := (HP10.out.lt _ hq).1; omega))); have HP8 := Lib.hid ((HO10.out.alloc (.cells #[.int .i64 0] 2)).kept hg8 (own_ne2 HO10.out HP10.out (by decide))); rw [rep_snoc] at hown8; have HO8 := Lib.hid hown8; clear y1 g1 hown8 hg8 hloc8; have y1 := hx8.cell 1; have g1 := hx8.frozen 1; simp only [List.getElem?_toArray, List.getElem?_cons_zero, List.getElem?_cons_succ] at y1; clear hx8)
      have HX11 : Hid (Blk (w8.setCell ⟨gs + 1 + 1, 1, none⟩ (.slice A8 (k + 1) c8)) (gs + 1 + 1) 37 #[.slice A9 (k + 1) c9, .slice A8 (k + 1) c8]) := Lib.hid (by have q := HX8.out.set_ 1 (.slice A8 (k + 1) c8); simpa using q)
      have HO11 : Hid ((w8.setCell ⟨gs + 1 + 1, 1, none⟩ (.slice A8 (k + 1) c8)).ownsRow (gs + 3) 2 1 (.slice A8 (k + 1) c8) (k + 1) ((List.replicate (k + 1) (0 : Int)).flatMap inC)) := Lib.hid (own_fr HO8.out ((Fr.refl (fun q => q = gs + 1 + 1) w8).setCell (p := ⟨gs + 1 + 1, 1, none⟩) (.inl rfl) _) (fun q hq e => by have := (HO8.out.lt _ hq).1; omega))
      have HP11 : Hid ((w8.setCell ⟨gs + 1 + 1, 1, none⟩ (.slice A8 (k + 1) c8)).ownsRow (gs + 3) 3 1 (.slice A9 (k + 1) c9) (k + 1) ((List.replicate (k + 1) (0 : Int)).flatMap inC)) := Lib.hid (own_fr HP8.out ((Fr.refl (fun q => q = gs + 1 + 1) w8).setCell (p := ⟨gs + 1 + 1, 1, none⟩) (.inl rfl) _) (fun q hq e => by have := (HP8.out.lt _ hq).1; omega))
      have HF11 : Hid (Fr (fun q => gs + 2 ≤ q) w1 (w8.setCell ⟨gs + 1 + 1, 1, none⟩ (.slice A8 (k + 1) c8))) := Lib.hid (HF8.out.setCell (p := ⟨gs + 1 + 1, 1, none⟩) (.inl (by simp)) _)
      go_roundw
      case rel => exact ⟨k + 1, _, _, by omega, by go_num, HX11, HP11, HO11, HF11⟩
      case measure => simp [intOf]; omega
    · have i0 : ¬ (k : Int) < (dn : Int) := by omega
      have hkd : k = dn := by omega
      subst hkd
      obtain ⟨A1, c1, rfl⟩ := own_form HO1.out
      obtain ⟨A2, c2, rfl⟩ := own_form HO2.out
      have x1 := HX.out.cell 1
      simp only [List.getElem?_toArray, List.getElem?_cons_zero, List.getElem?_cons_succ] at x1
      have HRW := Lib.hid (HR0.out.fr HF.out (by omega))
      go_wp2_with (refine stop_store 37 _ _ rfl ?_; refine wpList_store_fr rfl 37 _ _ rfl _ rfl rfl HRW.out (by kernel_rfl) rfl rfl ?_; intro w6 hm6 fr6)
      have r0 := hm6.cell 0; have r1 := hm6.cell 1
      simp only [List.getElem?_toArray, List.getElem?_cons_zero, List.getElem?_cons_succ] at r0 r1
      have hb6 : Below w.heap.size w w6 := fr6.bel (HF.out.bel HB0.out (fun q hq => by have := HGE.out; omega) HB0.out.size) (fun q e => by have := HGE.out; omega) (by have := HSZ.out; have := HGE.out; omega)
      have hs6 : StHi w.heap.size (List.replicate k 0) (List.replicate k 0) (.agg #[.slice A1 k c1, .slice A2 k c2]) w6 := by
        have e1 : (List.replicate k (0 : Int)).length = k := List.length_replicate
        refine ⟨A1, c1, A2, c2, by rw [e1], ?_, ?_, fun x off e => (by have := own_new HO1.out x off e; have := HGE.out; omega), fun x off e => (by have := own_new HO2.out x off e; have := HGE.out; omega)⟩
        · rw [e1]; exact SliceOf.of_own_s (own_fr HO1.out fr6 (fun q hq e => by have := (HO1.out.lt _ hq).1; omega)) in_len rfl e1
        · rw [e1]; exact SliceOf.of_own_s (own_fr HO2.out fr6 (fun q hq e => by have := (HO2.out.lt _ hq).1; omega)) in_len rfl e1
      refine bodyPost_ret (v := .agg #[.slice A1 k c1, .slice A2 k c2]) (by simp [results, Tryz.results17, go_sem, r0, r1]) rfl ?_
      exact ⟨_, rfl, hb6, hs6⟩

/-- An office that New made, its memory between lo and hi. -/
def OfAt (base : Nat) (nm : ByteArray) (ps : List Pty) (xs : List Dx) (lo hi : Nat) (v : Value) (W : World) : Prop :=
  ∃ o mb n m, v = (.pointer (some ⟨o, 0, none⟩)) ∧ Off W lo hi o nm (whoV nm ps).2 (whoV nm ps).1 mb n m (dealsOf nm (whoV nm ps).1 xs) (fun _ => ⟨0, 0⟩) ∧ base ≤ lo ∧ hi ≤ W.heap.size
theorem OfAt.below {base lo hi : Nat} {nm : ByteArray} {ps : List Pty} {xs : List Dx} {v : Value} {W W' : World} (h : OfAt base nm ps xs lo hi v W) (hb : Below W.heap.size W W') : OfAt base nm ps xs lo hi v W' := by
  obtain ⟨o, mb, n, m, h1, h2, h3, h4⟩ := h
  exact ⟨o, mb, n, m, h1, h2.below hb, h3, Nat.le_trans h4 hb.size⟩
/-- A state whose rows lie between lo and hi. -/
def StAt (lo hi : Nat) (z : List Int) (v : Value) (W : World) : Prop :=
  ∃ A c B d, v = .agg #[.slice A z.length c, .slice B z.length d] ∧ SliceOf W 1 inC A z.length z ∧ SliceOf W 1 inC B z.length z ∧ (∀ x off, A = some ⟨x, off, none⟩ → lo ≤ x ∧ (0 < z.length → x < hi)) ∧ (∀ x off, B = some ⟨x, off, none⟩ → lo ≤ x ∧ (0 < z.length → x < hi)) ∧ hi ≤ W.heap.size
theorem StAt.below {lo hi : Nat} {z : List Int} {v : Value} {W W' : World} (h : StAt lo hi z v W) (hb : Below W.heap.size W W') : StAt lo hi z v W' := by
  obtain ⟨A, c, B, d, h1, h2, h3, h4, h5, h6⟩ := h
  exact ⟨A, c, B, d, h1, h2.below hb, h3.below hb, h4, h5, Nat.le_trans h6 hb.size⟩
theorem slice_fr0 {w W : World} {S : Nat → Prop} {A : Option Addr} {z : List Int} (hs : SliceOf w 1 inC A z.length z) (h : Fr S w W) (hn : ∀ b off, A = some ⟨b, off, none⟩ → 0 < z.length → ¬ S b) : SliceOf W 1 inC A z.length z := by
  refine ⟨hs.len, ?_⟩
  rcases Nat.eq_zero_or_pos z.length with h0 | h0
  · exact .inl h0
  · obtain ⟨b, off, rfl, hb, hc⟩ := hs.at_ h0
    exact .inr ⟨b, off, rfl, Nat.lt_of_lt_of_le hb h.size, fun i x hx j u hv => cell_fr (hc i x hx j u hv) h (hn b off rfl h0)⟩
theorem StAt.of_hi {W W' : World} {z : List Int} {v : Value} (h : StHi W.heap.size z z v W') : StAt W.heap.size W'.heap.size z v W' := by
  obtain ⟨A, c, B, d, h1, h2, h3, h4, h5⟩ := h
  refine ⟨A, c, B, d, h1, h2, h3, fun x off e => ⟨h4 x off e, fun h0 => ?_⟩, fun x off e => ⟨h5 x off e, fun h0 => ?_⟩, Nat.le_refl _⟩
  · obtain ⟨b, o, e2, hb, _⟩ := h2.at_ h0
    rw [e] at e2; injection e2 with e2; injection e2 with e2
    rw [e2]; exact hb
  · obtain ⟨b, o, e2, hb, _⟩ := h3.at_ h0
    rw [e] at e2; injection e2 with e2; injection e2 with e2
    rw [e2]; exact hb
/-- Its rows lie from hi on. -/
def StLo (hi : Nat) (z : List Int) (v : Value) : Prop := ∀ A c B d, v = .agg #[.slice A z.length c, .slice B z.length d] → (∀ x off, A = some ⟨x, off, none⟩ → hi ≤ x) ∧ ∀ x off, B = some ⟨x, off, none⟩ → hi ≤ x
theorem StLo.of_hi {lo hi : Nat} {z : List Int} {v : Value} {W : World} (h : StHi lo z z v W) (hl : hi ≤ lo) : StLo hi z v := by
  obtain ⟨A, c, B, d, h1, _, _, h4, h5⟩ := h
  intro A' c' B' d' e
  rw [h1] at e
  injection e with e
  injection e with e
  injection e with e1 e
  injection e with e2 _
  injection e1 with e1 _ _
  injection e2 with e2 _ _
  subst e1
  subst e2
  exact ⟨fun x off e => Nat.le_trans hl (h4 x off e), fun x off e => Nat.le_trans hl (h5 x off e)⟩
/-- An office, a state, a block that takes the state. -/
structure PlX (base : Nat) (nm : ByteArray) (ps : List Pty) (xs : List Dx) (z : List Int) (d2 d4 d5 d7 : Bool) (v2 v4 v5 : Value) (W : World) : Prop where
  a : d2 = true → ∃ lo hi, OfAt base nm ps xs lo hi v2 W ∧ (d5 = true → ∀ b, v5 = (.pointer (some ⟨b, 0, none⟩)) → ¬ (lo ≤ b ∧ b < hi)) ∧ (d4 = true → StLo hi z v4)
  b : d4 = true → ∃ lo hi, StAt lo hi z v4 W ∧ (d5 = true → ∀ b, v5 = (.pointer (some ⟨b, 0, none⟩)) → ¬ (lo ≤ b ∧ b < hi))
  c : d5 = true → ∃ b cs, v5 = (.pointer (some ⟨b, 0, none⟩)) ∧ base ≤ b ∧ Blk W b 37 cs ∧ (d7 = false → cs = #[.slice none 0 0, .slice none 0 0]) ∧ (d7 = true → d4 = true ∧ v4 = .agg cs)
  e : d7 = true → d5 = true
  f : d4 = true → d2 = true
section
variable {base : Nat} {nm : ByteArray} {ps : List Pty} {xs : List Dx} {z : List Int} {d2 d4 d5 d7 : Bool} {v2 v4 v5 : Value} {W W' : World}
theorem PlX.start : PlX base nm ps xs z false false false false v2 v4 v5 W := ⟨fun h => (by cases h), fun h => (by cases h), fun h => (by cases h), fun h => (by cases h), fun h => (by cases h)⟩
theorem PlX.on (h : PlX base nm ps xs z d2 d4 d5 d7 v2 v4 v5 W) (hb : Below W.heap.size W W') : PlX base nm ps xs z d2 d4 d5 d7 v2 v4 v5 W' :=
  ⟨fun q => (h.a q).elim fun lo q => q.elim fun hi q => ⟨lo, hi, q.1.below hb, q.2⟩, fun q => (h.b q).elim fun lo q => q.elim fun hi q => ⟨lo, hi, q.1.below hb, q.2⟩,
   fun q => (h.c q).elim fun b q => q.elim fun cs q => ⟨b, cs, q.1, q.2.1, q.2.2.1.below hb q.2.2.1.lt, q.2.2.2⟩, h.e, h.f⟩
theorem PlX.two (h : PlX base nm ps xs z false d4 d5 d7 v2 v4 v5 W) (hb : Below W.heap.size W W') (hB : base ≤ W.heap.size) {v : Value} (hn : NewP W nm ps xs (.returned v) W') : PlX base nm ps xs z true d4 d5 d7 v v4 v5 W' := by
  have h2 := h.on hb
  have h4 : d4 = false := by
    cases d4
    · rfl
    · have := h.f rfl; cases this
  subst h4
  refine ⟨fun _ => ?_, h2.b, h2.c, h2.e, fun q => (by cases q)⟩
  obtain ⟨o, mb, n, m, q1, q2, q3⟩ := hn
  injection q1 with q1
  refine ⟨W.heap.size, W'.heap.size, ⟨o, mb, n, m, q1, q2, hB, Nat.le_refl _⟩, fun q b hv => ?_, fun q => (by cases q)⟩
  obtain ⟨b', cs, e1, _, e3, _⟩ := h.c q
  rw [e1] at hv
  injection hv with hv; injection hv with hv; injection hv with hv
  have := e3.lt
  omega
theorem PlX.four (h : PlX base nm ps xs z true false d5 d7 v2 v4 v5 W) (hb : Below W.heap.size W W') {v : Value} (hn : StHi W.heap.size z z v W') : PlX base nm ps xs z true true d5 d7 v2 v v5 W' := by
  have h2 := h.on hb
  refine ⟨fun _ => ?_, fun _ => ?_, fun q => ?_, h2.e, fun _ => rfl⟩
  · obtain ⟨lo, hi, q1, q2, _⟩ := h2.a rfl
    obtain ⟨lo', hi', q3, _⟩ := h.a rfl
    obtain ⟨lo1, hi1, q4, q5, q6⟩ := h.a rfl
    exact ⟨lo1, hi1, q4.below hb, q5, fun _ => StLo.of_hi hn (by obtain ⟨_, _, _, _, _, _, _, q7⟩ := q4; exact q7)⟩
  · refine ⟨W.heap.size, W'.heap.size, StAt.of_hi hn, fun q b hv => ?_⟩
    obtain ⟨b', cs, e1, _, e3, _⟩ := h.c q
    rw [e1] at hv
    injection hv with hv; injection hv with hv; injection hv with hv
    have := e3.lt
    omega
  · obtain ⟨b, cs, e1, e2, e3, e4, e5⟩ := h2.c q
    exact ⟨b, cs, e1, e2, e3, e4, fun q => (by have := (e5 q).1; cases this)⟩
theorem PlX.five (h : PlX base nm ps xs z d2 d4 false d7 v2 v4 v5 W) (hB : base ≤ W.heap.size) : PlX base nm ps xs z d2 d4 true d7 v2 v4 (.pointer (some ⟨W.heap.size, 0, none⟩)) (W.alloc (.cells #[.slice none 0 0, .slice none 0 0] 37)) := by
  have h7 : d7 = false := by
    cases d7
    · rfl
    · have := h.e rfl; cases this
  subst h7
  have hb := one_alloc W (.cells #[.slice none 0 0, .slice none 0 0] 37)
  refine ⟨fun q => ?_, fun q => ?_, fun _ => ⟨W.heap.size, _, rfl, hB, Blk.new _ _ _, fun _ => rfl, fun q => (by cases q)⟩, fun q => (by cases q), h.f⟩
  · obtain ⟨lo, hi, q1, _, q9⟩ := h.a q
    refine ⟨lo, hi, q1.below hb, fun _ b hv => ?_, q9⟩
    injection hv with hv; injection hv with hv; injection hv with hv
    obtain ⟨_, _, _, _, _, _, _, q4⟩ := q1
    omega
  · obtain ⟨lo, hi, q1, _⟩ := h.b q
    refine ⟨lo, hi, q1.below hb, fun _ b hv => ?_⟩
    injection hv with hv; injection hv with hv; injection hv with hv
    obtain ⟨_, _, _, _, _, _, _, _, _, q4⟩ := q1
    omega
theorem PlX.seven {b : Nat} {cs : Array Value} (h : PlX base nm ps xs z d2 true true false v2 (.agg cs) (.pointer (some ⟨b, 0, none⟩)) W) : PlX base nm ps xs z d2 true true true v2 (.agg cs) (.pointer (some ⟨b, 0, none⟩)) (W.setRow b cs) ∧ Blk W b 37 #[.slice none 0 0, .slice none 0 0] := by
  obtain ⟨b', cs', e1, e2, e3, e4, _⟩ := h.c rfl
  injection e1 with e1; injection e1 with e1; injection e1 with e1
  subst e1
  have hf := fr_row W b cs
  rw [e4 rfl] at e3
  refine ⟨⟨fun q => ?_, fun _ => ?_, fun _ => ⟨b, cs, rfl, e2, setRow_heap W b _ _ _ (0, 0) e3, fun q => (by cases q), fun _ => ⟨rfl, rfl⟩⟩, fun _ => rfl, h.f⟩, e3⟩
  · obtain ⟨lo, hi, ⟨o, mb, n, m, q1, q2, q3, q4⟩, q5, q9⟩ := h.a q
    exact ⟨lo, hi, ⟨o, mb, n, m, q1, q2.fr hf (fun k k1 k2 k3 => q5 rfl b rfl ⟨by omega, by omega⟩), q3, Nat.le_trans q4 hf.size⟩, q5, q9⟩
  · obtain ⟨lo, hi, ⟨A, c, B, d, q1, q2, q3, q4, q5, q6⟩, q7⟩ := h.b rfl
    exact ⟨lo, hi, ⟨A, c, B, d, q1, slice_fr0 q2 hf (fun x off e h0 k3 => q7 rfl b rfl (by have := q4 x off e; have := (q4 x off e).2 h0; omega)), slice_fr0 q3 hf (fun x off e h0 k3 => q7 rfl b rfl (by have := q5 x off e; have := (q5 x off e).2 h0; omega)), q4, q5, Nat.le_trans q6 hf.size⟩, q7⟩
end
/-- What play brings. -/
def PlayP (w : World) (nm : ByteArray) (ps : List Pty) (xs : List Dx) (e : Ending) (w' : World) : Prop :=
  ∃ o mb n m lo hi st A c B d of pa, e = .returned (.tuple #[(.pointer (some ⟨o, 0, none⟩)), .agg #[.slice A xs.length c, .slice B xs.length d], .bool true]) ∧ Below w.heap.size w w' ∧ Off w' lo hi o nm (whoV nm ps).2 (whoV nm ps).1 mb n m (dealsOf nm (whoV nm ps).1 xs) st ∧ SliceOf w' 1 inC A xs.length of ∧ SliceOf w' 1 inC B xs.length pa ∧ RelS nm (whoV nm ps).1 xs of pa st ∧ ∀ z, StIn (st z)
theorem out_docs {kind : Int} {bank : ByteArray} {od : Option Dl} {s : St} {l : Lt} : ∀ x ∈ (outV kind bank od s l).1, ∀ p, x.doc = some p → p.fs.length ≤ 100 := by
  intro x hx p hp
  unfold outV at hx
  cases od with
  | none => cases hx
  | some d =>
    simp only at hx
    unfold takeV declV credV covrV at hx
    repeat' split at hx
    all_goals simp [dutyL, freeL, covL] at hx
    all_goals first | (rcases hx with rfl | rfl <;> simp at hp) | (subst hx; simp at hp) | skip
    · subst hp; simp [covP]
theorem out_in {kind : Int} {bank : ByteArray} {od : Option Dl} {st : ByteArray → St} {k : ByteArray} {l : Lt} (h : ∀ z, StIn (st z)) : ∀ z, StIn (setS st k (outV kind bank od (st k) l).2 z) := by
  intro z
  unfold setS
  split
  · unfold outV
    cases od with
    | none => exact h k
    | some d => exact take_in (h k)
  · exact h z
theorem out_four {kind : Int} {bank : ByteArray} {od : Option Dl} {st : ByteArray → St} {k : ByteArray} {l : Lt} (h : kind = 4 → ∀ z, (st z).paid = 0) : kind = 4 → ∀ z, (setS st k (outV kind bank od (st k) l).2 z).paid = 0 := by
  rintro rfl z
  unfold setS
  split
  · unfold outV
    cases od with
    | none => exact h rfl k
    | some d => exact take_four (h rfl k)
  · exact h rfl z
/-- While letters come. -/
structure PlI (w : World) (nm bank : ByteArray) (K : Int) (mb n' : Nat) (m : ByteArray → Option Nat) (ds : ByteArray → Option Dl) (xs : List Dx) (lo hi o gx : Nat) (st : ByteArray → St) (A : Option Addr) (c : Nat) (B : Option Addr) (d : Nat) (of pa : List Int) (W : World) : Prop where
  bel : Below w.heap.size w W
  hi_ : hi ≤ W.heap.size
  off : Off W lo hi o nm bank K mb n' m ds st
  x : Blk W gx 37 #[.slice A xs.length c, .slice B xs.length d]
  a : SliceOf W 1 inC A xs.length of
  b : SliceOf W 1 inC B xs.length pa
  rel : RelS nm K xs of pa st
  sin : ∀ z, StIn (st z)
  four : K = 4 → ∀ z, (st z).paid = 0
  ra : ∀ y off, A = some ⟨y, off, none⟩ → 0 < xs.length → hi ≤ y ∧ y ≠ gx
  rb : ∀ y off, B = some ⟨y, off, none⟩ → 0 < xs.length → hi ≤ y ∧ y ≠ gx
theorem slice_fr1 {w W : World} {S : Nat → Prop} {A : Option Addr} {n : Nat} {z : List Int} (hs : SliceOf w 1 inC A n z) (h : Fr S w W) (hn : ∀ b off, A = some ⟨b, off, none⟩ → 0 < n → ¬ S b) : SliceOf W 1 inC A n z := by
  have e := hs.len
  subst e
  exact slice_fr0 hs h hn
theorem play_any (s : Su) (nm : ByteArray) (AL : Option Addr) (n c : Nat) (ps : List Pty) (xs : List Dx) (ls : List Lt) (w : World) (h : SuOK w s ps xs) (hl : SliceOf w 14 ltC AL n ls) (hli : ∀ l ∈ ls, I64 l.amt) (hn : n ≤ 30) (ht : PowTab w) :
    Calls Tryz.prog 7 #[.agg #[.slice s.pA s.pn s.pc, .slice s.dA s.dn s.dc, .slice s.fA s.fn s.fc, .slice s.rA s.rn s.rc, .slice s.hA s.hn s.hc], .string nm, .slice AL n c] w (PlayP w nm ps xs) := by
  have HTB := Lib.hid (Lib.tabBelow_of_tabIs ht)
  have HSU := Lib.hid h; have HL := Lib.hid hl; have HLI := Lib.hid hli
  have HSN := Lib.hid h.dn
  have hdl := h.d.len
  obtain ⟨Z, hZ⟩ : ∃ Z, List.replicate s.dn (0 : Int) = Z := ⟨_, rfl⟩
  have HZL := Lib.hid hZ
  have HZN : Hid (Z.length = xs.length) := Lib.hid (by rw [← hZ, List.length_replicate, hdl])
  have HZ0 : Hid (∀ i, i < xs.length → Z[i]? = some 0) := Lib.hid (fun i hi => by rw [← hZ, List.getElem?_replicate, if_pos (by omega)])
  have HB0 : Hid (Below w.heap.size w ((w.alloc (.cells #[.slice s.pA s.pn s.pc, .slice s.dA s.dn s.dc, .slice s.fA s.fn s.fc, .slice s.rA s.rn s.rc, .slice s.hA s.hn s.hc] 29)).alloc (.cells #[.slice none 0 0, .slice none 0 0] 37))) := Lib.hid (two_alloc w _ _)
  have HK0 : Hid (Blk ((w.alloc (.cells #[.slice s.pA s.pn s.pc, .slice s.dA s.dn s.dc, .slice s.fA s.fn s.fc, .slice s.rA s.rn s.rc, .slice s.hA s.hn s.hc] 29)).alloc (.cells #[.slice none 0 0, .slice none 0 0] 37)) w.heap.size 29 #[.slice s.pA s.pn s.pc, .slice s.dA s.dn s.dc, .slice s.fA s.fn s.fc, .slice s.rA s.rn s.rc, .slice s.hA s.hn s.hc]) := Lib.hid ((Blk.new _ _ _).alloc _)
  have HR0 : Hid (Blk ((w.alloc (.cells #[.slice s.pA s.pn s.pc, .slice s.dA s.dn s.dc, .slice s.fA s.fn s.fc, .slice s.rA s.rn s.rc, .slice s.hA s.hn s.hc] 29)).alloc (.cells #[.slice none 0 0, .slice none 0 0] 37)) (w.heap.size + 1) 37 #[.slice none 0 0, .slice none 0 0]) := Lib.hid (blk_second _ _ _ _)
  clear h hl hli ht hZ hdl
  go_enter Tryz.func7, Tryz.ntmps7
  go_upto_region 1 with (fail)
  obtain ⟨w1, hw1⟩ : ∃ W, ((w.alloc (.cells #[.slice s.pA s.pn s.pc, .slice s.dA s.dn s.dc, .slice s.fA s.fn s.fc, .slice s.rA s.rn s.rc, .slice s.hA s.hn s.hc] 29)).alloc (.cells #[.slice none 0 0, .slice none 0 0] 37)) = W := ⟨_, rfl⟩
  obtain ⟨g, hg⟩ : ∃ g, w.heap.size = g := ⟨_, rfl⟩
  have HGE := Lib.hid hg
  rw [hw1] at HB0 HK0 HR0 ⊢
  simp only [hg] at HK0 HR0 ⊢
  clear hw1 hg
  have NGS : ¬ w1.heap.size ≤ g := by have := HR0.out.lt; omega
  refine wp_region_softX [Is (.string nm), Is (.agg #[.slice s.pA s.pn s.pc, .slice s.dA s.dn s.dc, .slice s.fA s.fn s.fc, .slice s.rA s.rn s.rc, .slice s.hA s.hn s.hc]), AnyV, Is (.agg #[.slice s.pA s.pn s.pc, .slice s.dA s.dn s.dc, .slice s.fA s.fn s.fc, .slice s.rA s.rn s.rc, .slice s.hA s.hn s.hc]), AnyV, AnyV, AnyV, AnyV] ⟨stab_is _, stab_is _, stab_anyv, stab_is _, stab_anyv, stab_anyv, stab_anyv, stab_anyv, trivial⟩ (fun k => w1.heap.size ≤ k) ⟨stabf_is _ _, stabf_is _ _, stabf_anyv _, stabf_is _ _, stabf_anyv _, stabf_anyv _, stabf_anyv _, stabf_anyv _, trivial⟩ [false, false, true, false, true, true, true, true] (fun done vs W => PlX w1.heap.size nm ps xs Z (done 2) (done 4) (done 5) (done 7) (vs 2) (vs 4) (vs 5) W ∧ (done 6 = true → done 2 = true ∧ vs 6 = vs 2)) ?_ ?_ (by kernel_rfl) (by kernel_rfl) ?_ ?_
  · intro q_ hq_ done vs v_ W W' h hnd hb
    have n2 : upDn done q_ 2 = done 2 := up_ne done (fun e => by subst e; exact absurd hq_ (by decide))
    have n4 : upDn done q_ 4 = done 4 := up_ne done (fun e => by subst e; exact absurd hq_ (by decide))
    have n5 : upDn done q_ 5 = done 5 := up_ne done (fun e => by subst e; exact absurd hq_ (by decide))
    have n6 : upDn done q_ 6 = done 6 := up_ne done (fun e => by subst e; exact absurd hq_ (by decide))
    have n7 : upDn done q_ 7 = done 7 := up_ne done (fun e => by subst e; exact absurd hq_ (by decide))
    have m2 : upVs vs q_ v_ 2 = vs 2 := upv_ne vs v_ (fun e => by subst e; exact absurd hq_ (by decide))
    have m4 : upVs vs q_ v_ 4 = vs 4 := upv_ne vs v_ (fun e => by subst e; exact absurd hq_ (by decide))
    have m5 : upVs vs q_ v_ 5 = vs 5 := upv_ne vs v_ (fun e => by subst e; exact absurd hq_ (by decide))
    have m6 : upVs vs q_ v_ 6 = vs 6 := upv_ne vs v_ (fun e => by subst e; exact absurd hq_ (by decide))
    rw [n2, n4, n5, n6, n7, m2, m4, m5, m6]
    exact ⟨h.1.on hb, h.2⟩
  · exact ⟨PlX.start, fun h => (by cases h)⟩
  · refine ⟨?_, ?_, ?_, ?_, ?_, ?_, ?_, ?_, trivial⟩
    all_goals intro done vs ac W1 hdep hnd hB hR hX hE
    all_goals try simp only [Nat.zero_add, Nat.reduceAdd] at hnd ⊢
    all_goals have ec : ∀ v : Value, ac.eval (.const v) = v := fun _ => rfl
    all_goals try simp [Region.binds] at hdep
    · have e1 : ac.eval (.tmp 1) = .string nm := (hE 1 (by simp)).trans (by simp [evF, Act.eval])
      exact soft_value (.string nm) (by unfold execOp; simp only [e1, ec]; rfl) rfl
    · have e3 : ac.eval (.tmp 3) = .pointer (some ⟨g, 0, none⟩) := (hE 3 (by simp)).trans (by simp [evF, Act.eval])
      exact wp_load_row 29 _ rfl (g) e3 29 _ (0, 0) _ (HK0.out.fr hB NGS) Tryz.underlying29 rfl (by kernel_rfl) ⟨_, rfl, Below.refl _ _, rfl⟩
    · have d0 : vs 0 = .string nm := hR 0 (by simp [hdep])
      have e15 : ac.eval (.tmp 15) = .string nm := (hE 15 (by simp)).trans (by simp [evF, hdep, d0])
      have d1 : vs 1 = .agg #[.slice s.pA s.pn s.pc, .slice s.dA s.dn s.dc, .slice s.fA s.fn s.fc, .slice s.rA s.rn s.rc, .slice s.hA s.hn s.hc] := hR 1 (by simp [hdep])
      have e16 : ac.eval (.tmp 16) = .agg #[.slice s.pA s.pn s.pc, .slice s.dA s.dn s.dc, .slice s.fA s.fn s.fc, .slice s.rA s.rn s.rc, .slice s.hA s.hn s.hc] := (hE 16 (by simp)).trans (by simp [evF, hdep, d1])
      obtain ⟨hx1, hx2⟩ := hX
      have hbw : Below w.heap.size w W1 := hB.bel HB0.out (fun k hk => Nat.le_trans HB0.out.size hk) HB0.out.size
      have hsu := HSU.out.below hbw
      have hd6 : done 6 = false := not_of (fun h => (hx2 h).1) hnd
      refine wp_call_fn 14 _ _ rfl (enters_fn Tryz.func14 (by kernel_rfl) rfl) #[.string nm, .agg #[.slice s.pA s.pn s.pc, .slice s.dA s.dn s.dc, .slice s.fA s.fn s.fc, .slice s.rA s.rn s.rc, .slice s.hA s.hn s.hc]] (by simp [e15, e16]) ?_
      refine (new_any nm s ps xs W1 hsu).mono ?_
      rintro e9 w9 ⟨o9, mb9, n9, m9, rfl, hO9, hb9⟩
      refine ⟨_, rfl, _, rfl, (Fr.refl _ _).on hb9, ?_, trivial⟩
      obtain ⟨v', hv'⟩ : ∃ v', Value.pointer (some ⟨o9, 0, none⟩) = v' := ⟨_, rfl⟩
      rw [hv']
      have n4 : upDn done 2 4 = done 4 := up_ne done (by decide)
      have n5 : upDn done 2 5 = done 5 := up_ne done (by decide)
      have n6 : upDn done 2 6 = done 6 := up_ne done (by decide)
      have n7 : upDn done 2 7 = done 7 := up_ne done (by decide)
      have m4 : upVs vs 2 v' 4 = vs 4 := upv_ne vs _ (by decide)
      have m5 : upVs vs 2 v' 5 = vs 5 := upv_ne vs _ (by decide)
      have m6 : upVs vs 2 v' 6 = vs 6 := upv_ne vs _ (by decide)
      rw [up_same, upv_same, n4, n5, n6, n7, m4, m5, m6]
      rw [hnd] at hx1
      exact ⟨hx1.two hb9 hB.size ⟨o9, mb9, n9, m9, by rw [hv'], hO9, hb9⟩, fun h => (by rw [hd6] at h; cases h)⟩
    · have e3 : ac.eval (.tmp 3) = .pointer (some ⟨g, 0, none⟩) := (hE 3 (by simp)).trans (by simp [evF, Act.eval])
      exact wp_load_row 29 _ rfl (g) e3 29 _ (0, 0) _ (HK0.out.fr hB NGS) Tryz.underlying29 rfl (by kernel_rfl) ⟨_, rfl, Below.refl _ _, rfl⟩
    · have d3 : vs 3 = .agg #[.slice s.pA s.pn s.pc, .slice s.dA s.dn s.dc, .slice s.fA s.fn s.fc, .slice s.rA s.rn s.rc, .slice s.hA s.hn s.hc] := hR 3 (by simp [hdep])
      have e18 : ac.eval (.tmp 18) = .agg #[.slice s.pA s.pn s.pc, .slice s.dA s.dn s.dc, .slice s.fA s.fn s.fc, .slice s.rA s.rn s.rc, .slice s.hA s.hn s.hc] := (hE 18 (by simp)).trans (by simp [evF, hdep, d3])
      obtain ⟨hx1, hx2⟩ := hX
      refine wp_call_fn 17 _ _ rfl (enters_fn Tryz.func17 (by kernel_rfl) rfl) #[.agg #[.slice s.pA s.pn s.pc, .slice s.dA s.dn s.dc, .slice s.fA s.fn s.fc, .slice s.rA s.rn s.rc, .slice s.hA s.hn s.hc]] (by simp [e18]) ?_
      refine (rnew_hi s xs W1 (by have := HSN.out; omega)).mono ?_
      rintro e9 w9 ⟨v9, rfl, hb9, hs9⟩
      rw [HZL.out] at hs9
      refine ⟨_, rfl, _, rfl, (Fr.refl _ _).on hb9, ?_, trivial⟩
      have n2 : upDn done 4 2 = done 2 := up_ne done (by decide)
      have n5 : upDn done 4 5 = done 5 := up_ne done (by decide)
      have n6 : upDn done 4 6 = done 6 := up_ne done (by decide)
      have n7 : upDn done 4 7 = done 7 := up_ne done (by decide)
      have m2 : upVs vs 4 v9 2 = vs 2 := upv_ne vs _ (by decide)
      have m5 : upVs vs 4 v9 5 = vs 5 := upv_ne vs _ (by decide)
      have m6 : upVs vs 4 v9 6 = vs 6 := upv_ne vs _ (by decide)
      rw [up_same, upv_same, n2, n5, n6, n7, m2, m5, m6]
      rw [hnd, (show done 2 = true by simp [hdep])] at hx1
      rw [show done 2 = true by simp [hdep]]
      exact ⟨hx1.four hb9 hs9, fun h => ⟨rfl, (hx2 h).2⟩⟩
    · obtain ⟨hx1, hx2⟩ := hX
      refine wp_alloc_z 37 rfl #[.slice none 0 0, .slice none 0 0] (by kernel_rfl) ⟨_, rfl, (Fr.refl _ _).alloc _, ?_, trivial⟩
      have n2 : upDn done 5 2 = done 2 := up_ne done (by decide)
      have n4 : upDn done 5 4 = done 4 := up_ne done (by decide)
      have n6 : upDn done 5 6 = done 6 := up_ne done (by decide)
      have n7 : upDn done 5 7 = done 7 := up_ne done (by decide)
      have m2 : upVs vs 5 (.pointer (some ⟨W1.heap.size, 0, none⟩)) 2 = vs 2 := upv_ne vs _ (by decide)
      have m4 : upVs vs 5 (.pointer (some ⟨W1.heap.size, 0, none⟩)) 4 = vs 4 := upv_ne vs _ (by decide)
      have m6 : upVs vs 5 (.pointer (some ⟨W1.heap.size, 0, none⟩)) 6 = vs 6 := upv_ne vs _ (by decide)
      rw [up_same, upv_same, n2, n4, n6, n7, m2, m4, m6]
      rw [hnd] at hx1
      exact ⟨hx1.five hB.size, hx2⟩
    · have d2 : vs 2 = vs 2 := rfl
      have e17 : ac.eval (.tmp 17) = (vs 2) := (hE 17 (by simp)).trans (by simp [evF, hdep, d2])
      obtain ⟨hx1, hx2⟩ := hX
      have hdd : done 2 = true := by simp [hdep]
      refine wp_value (vs 2) (by unfold execOp; simp only [e17]; rfl) ⟨_, rfl, Fr.refl _ _, ?_, trivial⟩
      have n2 : upDn done 6 2 = done 2 := up_ne done (by decide)
      have n4 : upDn done 6 4 = done 4 := up_ne done (by decide)
      have n5 : upDn done 6 5 = done 5 := up_ne done (by decide)
      have n7 : upDn done 6 7 = done 7 := up_ne done (by decide)
      have m2 : upVs vs 6 (vs 2) 2 = vs 2 := upv_ne vs _ (by decide)
      have m4 : upVs vs 6 (vs 2) 4 = vs 4 := upv_ne vs _ (by decide)
      have m5 : upVs vs 6 (vs 2) 5 = vs 5 := upv_ne vs _ (by decide)
      rw [up_same, upv_same, n2, n4, n5, n7, m2, m4, m5]
      exact ⟨hx1, fun _ => ⟨hdd, rfl⟩⟩
    · obtain ⟨b5, cs5, hv5, hc5, _⟩ := (hX.1).c (by simp [hdep])
      have d5 : vs 5 = .pointer (some ⟨b5, 0, none⟩) := hv5
      have e10 : ac.eval (.tmp 10) = .pointer (some ⟨b5, 0, none⟩) := (hE 10 (by simp)).trans (by simp [evF, hdep, d5])
      obtain ⟨lo4, hi4, ⟨A4, c4, B4, k4, hv4, _⟩, _⟩ := (hX.1).b (by simp [hdep])
      have d4 : vs 4 = .agg #[.slice A4 Z.length c4, .slice B4 Z.length k4] := hv4
      have e19 : ac.eval (.tmp 19) = .agg #[.slice A4 Z.length c4, .slice B4 Z.length k4] := (hE 19 (by simp)).trans (by simp [evF, hdep, d4])
      obtain ⟨hx1, hx2⟩ := hX
      have h5 : done 5 = true := by simp [hdep]
      have h4 : done 4 = true := by simp [hdep]
      rw [h5, h4, hnd, d5, d4] at hx1
      obtain ⟨hx3, hk3⟩ := hx1.seven
      refine wp_store_row 37 (.tmp 10) (.tmp 19) rfl b5 #[.slice A4 Z.length c4, .slice B4 Z.length k4] e10 e19 37 _ hk3 (by kernel_rfl) rfl (by simp [Value.oneCell']) ⟨_, rfl, (fr_row _ _ _).mono (fun q hq => by rw [hq]; exact hc5), ?_, trivial⟩
      have n2 : upDn done 7 2 = done 2 := up_ne done (by decide)
      have n4 : upDn done 7 4 = done 4 := up_ne done (by decide)
      have n5 : upDn done 7 5 = done 5 := up_ne done (by decide)
      have n6 : upDn done 7 6 = done 6 := up_ne done (by decide)
      have m2 : upVs vs 7 undef 2 = vs 2 := upv_ne vs _ (by decide)
      have m4 : upVs vs 7 undef 4 = vs 4 := upv_ne vs _ (by decide)
      have m5 : upVs vs 7 undef 5 = vs 5 := upv_ne vs _ (by decide)
      have m6 : upVs vs 7 undef 6 = vs 6 := upv_ne vs _ (by decide)
      rw [up_same, n2, n4, n5, n6, m2, m4, m5, m6]
      rw [h5, h4, d5, d4]
      exact ⟨hx3, hx2⟩
  · intro done vs W hall hB hR hX
    obtain ⟨hx1, hx2⟩ := hX
    rw [hall 2 (by simp), hall 4 (by simp), hall 5 (by simp), hall 7 (by simp)] at hx1
    obtain ⟨lo, hi, ⟨o, mb, n', m, ev2, hof, hlo, hhi⟩, hab, hst⟩ := hx1.a rfl
    obtain ⟨lo4, hi4, ⟨A4, c4, B4, k4, ev4, hsa, hsb, hla, hlb, hh4⟩, hbb⟩ := hx1.b rfl
    obtain ⟨gx, cs, ev5, hgx, hkx, _, hcs⟩ := hx1.c rfl
    have hcs2 := (hcs rfl).2
    rw [ev4] at hcs2
    injection hcs2 with hcs2
    subst hcs2
    have r6 : vs 6 = vs 2 := (hx2 (hall 6 (by simp))).2
    rw [ev2] at r6
    have hst2 := hst rfl A4 c4 B4 k4 ev4
    have HWB := Lib.hid (hB.bel HB0.out (fun k hk => Nat.le_trans HB0.out.size hk) HB0.out.size)
    have HK1 := Lib.hid (HK0.out.fr hB (by have := HR0.out.lt; omega))
    have HR1 := Lib.hid (HR0.out.fr hB (by have := HR0.out.lt; omega))
    have HNG : Hid (¬ (lo ≤ gx ∧ gx < hi)) := Lib.hid (hab rfl gx ev5)
    have HLO : Hid (w.heap.size ≤ lo ∧ g + 1 < lo ∧ g + 1 < gx) := Lib.hid ⟨by have := HB0.out.size; omega, by have := HR0.out.lt; omega, by have := HR0.out.lt; omega⟩
    obtain ⟨K, hK⟩ : ∃ K, (whoV nm ps).1 = K := ⟨_, rfl⟩
    obtain ⟨bank, hbk⟩ : ∃ b, (whoV nm ps).2 = b := ⟨_, rfl⟩
    have HKE := Lib.hid hK; have HBE := Lib.hid hbk
    rw [hK, hbk] at hof
    obtain ⟨ds, hds⟩ : ∃ ds, dealsOf nm K xs = ds := ⟨_, rfl⟩
    have HDE := Lib.hid hds
    rw [hds] at hof
    rw [HZN.out] at hsa hsb hkx hla hlb
    have HI : Hid (PlI w nm bank K mb n' m ds xs lo hi o gx (fun _ => ⟨0, 0⟩) A4 c4 B4 k4 Z Z W) := Lib.hid ⟨HWB.out, hhi, hof, hkx, hsa, hsb,
      ⟨HZN.out, HZN.out, fun z i hz => by
        have hil : i < xs.length := by
          rcases deal_spec nm K xs z with ⟨q1, _⟩ | ⟨j, y, q1, q2, _⟩
          · omega
          · have := (List.getElem?_eq_some_iff.1 q2).1; omega
        exact ⟨HZ0.out i hil, HZ0.out i hil⟩⟩, fun _ => ⟨by decide, by decide, ⟨by decide, by decide⟩⟩, fun _ _ => rfl,
      fun y off e h0 => ⟨hst2.1 y off e, fun q => hbb rfl gx ev5 (by have q1 := hla y off e; have q2 := q1.2 h0; omega)⟩,
      fun y off e h0 => ⟨hst2.2 y off e, fun q => hbb rfl gx ev5 (by have q1 := hlb y off e; have q2 := q1.2 h0; omega)⟩⟩
    clear hR hB hall hx1 hx2 hof hab hst hst2 ev4 hsa hsb hla hlb hh4 hbb hkx hcs hgx hlo hhi hK hbk hds HWB HK0 HR0 HB0
    simp only [fillA, Act.put, List.setIfInBounds_toArray, List.set_cons_zero, List.set_cons_succ, if_true, r6, ev2, ev5]
    clear r6 ev2 ev5
    go_wp2_with fail
    go_loopw [25] (fun i wr => ∃ (k : Nat) (st : ByteArray → St) (A : Option Addr) (cA : Nat) (B : Option Addr) (cB : Nat) (of pa : List Int), k ≤ n ∧ i = .int .i64 k ∧ Hid (PlI w nm bank K mb n' m ds xs lo hi o gx st A cA B cB of pa wr) ∧ Hid (Blk wr g 29 #[.slice s.pA s.pn s.pc, .slice s.dA s.dn s.dc, .slice s.fA s.fn s.fc, .slice s.rA s.rn s.rc, .slice s.hA s.hn s.hc]) ∧ Hid (Blk wr (g + 1) 37 #[.slice none 0 0, .slice none 0 0])) (fun i _ => n - (intOf i).toNat)
    case atStart => exact ⟨0, _, _, _, _, _, _, _, by omega, rfl, HI, HK1, HR1⟩
    case round =>
      clear HI HK1 HR1
      obtain ⟨k, st, A, cA, B, cB, of, pa, hk, rfl, HI, HKS, HKR⟩ := hrel
      have hlen := HL.out.len
      by_cases hlt : k < n
      · obtain ⟨b, off, x, hA, hxk, hc⟩ := el_at (HL.out.below HI.out.bel) hlt
        subst hA
        have HC := Lib.hid hc
        have HAM := Lib.hid (HLI.out x (List.mem_of_getElem? hxk))
        have i0 : (k : Int) < (n : Int) := by omega
        have HX : Hid (Blk (wr.alloc (.cells #[.string x.fr, .string x.to, .int .i64 x.num, .int .i64 x.kind, .int .i64 x.ack, .string x.deal, .string x.text, .string x.party, .int .i64 x.idx, .int .i64 x.day, .string x.cur, .int .i64 x.amt, .slice x.A1 x.n1 x.c1, .slice x.A2 x.n2 x.c2] 57)) wr.heap.size 57 #[.string x.fr, .string x.to, .int .i64 x.num, .int .i64 x.kind, .int .i64 x.ack, .string x.deal, .string x.text, .string x.party, .int .i64 x.idx, .int .i64 x.day, .string x.cur, .int .i64 x.amt, .slice x.A1 x.n1 x.c1, .slice x.A2 x.n2 x.c2]) := Lib.hid (Blk.new _ _ _)
        have hba : Below wr.heap.size wr (wr.alloc (.cells #[.string x.fr, .string x.to, .int .i64 x.num, .int .i64 x.kind, .int .i64 x.ack, .string x.deal, .string x.text, .string x.party, .int .i64 x.idx, .int .i64 x.day, .string x.cur, .int .i64 x.amt, .slice x.A1 x.n1 x.c1, .slice x.A2 x.n2 x.c2] 57)) := one_alloc _ _
        have HBA := Lib.hid hba
        clear hxk hc hba
        go_upto_region 7 with (first | ((refine stop_store 57 _ _ rfl ?_; refine wpList_store_new rfl 57 _ _ rfl _ rfl rfl (by kernel_rfl) rfl rfl ?_)) | (refine stop_load 57 _ rfl ?_; refine wpList_load_at rfl 57 _ rfl b (off + k * 14) rfl (ltC x) _ HC.out Tryz.underlying57 rfl (by kernel_rfl) ?_))
        obtain ⟨w4, hw4⟩ : ∃ W, wr.alloc (.cells #[.string x.fr, .string x.to, .int .i64 x.num, .int .i64 x.kind, .int .i64 x.ack, .string x.deal, .string x.text, .string x.party, .int .i64 x.idx, .int .i64 x.day, .string x.cur, .int .i64 x.amt, .slice x.A1 x.n1 x.c1, .slice x.A2 x.n2 x.c2] 57) = W := ⟨_, rfl⟩
        obtain ⟨gl, hgl⟩ : ∃ g, wr.heap.size = g := ⟨_, rfl⟩
        rw [hw4] at HX HBA
        change Code.wp _ _ _ _ (wr.alloc (.cells #[.string x.fr, .string x.to, .int .i64 x.num, .int .i64 x.kind, .int .i64 x.ack, .string x.deal, .string x.text, .string x.party, .int .i64 x.idx, .int .i64 x.day, .string x.cur, .int .i64 x.amt, .slice x.A1 x.n1 x.c1, .slice x.A2 x.n2 x.c2] 57))
        rw [hw4]
        have HGL := Lib.hid hgl
        rw [hgl] at HX
        simp only [hgl]
        clear hw4 hgl HC
        have HB4 : Hid (Below w.heap.size w w4) := Lib.hid (HI.out.bel.trans (HBA.out.mono HI.out.bel.size))
        have HKS4 := Lib.hid (HKS.out.below HBA.out HKS.out.lt)
        have HKR4 := Lib.hid (HKR.out.below HBA.out HKR.out.lt)
        have HKX4 := Lib.hid (HI.out.x.below HBA.out HI.out.x.lt)
        have x0 := HKX4.out.cell 0; have x1 := HKX4.out.cell 1
        simp only [List.getElem?_toArray, List.getElem?_cons_zero, List.getElem?_cons_succ] at x0 x1
        have HSU4 := Lib.hid (HSU.out.below HB4.out)
        have HRT := Lib.hid (rtake_any s nm ps xs A B cA cB of pa st x k w4 HSU4.out.p HSU4.out.d (by have := HSU4.out.pn; unfold maxLen; omega) HSU4.out.dn (HI.out.a.below HBA.out) (HI.out.b.below HBA.out) (by rw [HKE.out]; exact HI.out.rel) HSU4.out.ok HI.out.sin (by rw [HKE.out]; exact HI.out.four) HAM.out)
        rw [HKE.out, HBE.out, HDE.out] at HRT
        go_wp2_with (first | ((refine stop_load 29 _ rfl ?_; refine wpList_load_want rfl 29 _ rfl g rfl 29 _ _ HKS4.out Tryz.underlying29 rfl (by kernel_rfl) ?_)) | ((refine stop_load 57 _ rfl ?_; refine wpList_load_want rfl 57 _ rfl gl rfl 57 _ _ HX.out Tryz.underlying57 rfl (by kernel_rfl) ?_)))
        refine HRT.out.mono ?_
        rintro e w5 ⟨A5, c5, B5, d5, v5, of5, pa5, rfl, hb5, hs5a, hs5b, hrel5, hol5, hra5, hrb5⟩
        have HS5A := Lib.hid hs5a; have HS5B := Lib.hid hs5b; have HRE5 := Lib.hid hrel5; have HOL5 := Lib.hid hol5; have HRA5 := Lib.hid hra5; have HRB5 := Lib.hid hrb5; have HB45 := Lib.hid hb5
        clear hs5a hs5b hrel5 hol5 hra5 hrb5 hb5 x0 x1 HRT
        have HG5 : Hid (Blk (w5.alloc (.cells #[.slice A5 xs.length c5, .slice B5 xs.length d5] 37)) w5.heap.size 37 #[.slice A5 xs.length c5, .slice B5 xs.length d5]) := Lib.hid (Blk.new _ _ _)
        have HBA5 := Lib.hid (one_alloc w5 (.cells #[.slice A5 xs.length c5, .slice B5 xs.length d5] 37))
        go_upto_region 8 with ((refine stop_store 37 _ _ rfl ?_; refine wpList_store_new rfl 37 _ _ rfl _ rfl rfl (by kernel_rfl) rfl rfl ?_))
        obtain ⟨w6, hw6⟩ : ∃ W, w5.alloc (.cells #[.slice A5 xs.length c5, .slice B5 xs.length d5] 37) = W := ⟨_, rfl⟩
        obtain ⟨g5, hg5⟩ : ∃ g, w5.heap.size = g := ⟨_, rfl⟩
        rw [hw6] at HG5 HBA5
        change Code.wp _ _ _ _ (w5.alloc (.cells #[.slice A5 xs.length c5, .slice B5 xs.length d5] 37))
        rw [hw6]
        have HG5E := Lib.hid hg5
        rw [hg5] at HG5
        simp only [hg5]
        clear hw6 hg5
        have HB46 : Hid (Below w4.heap.size w4 w6) := Lib.hid (HB45.out.trans (HBA5.out.mono HB45.out.size))
        have HBR6 : Hid (Below wr.heap.size wr w6) := Lib.hid (HBA.out.trans (HB46.out.mono HBA.out.size))
        have HB6 : Hid (Below w.heap.size w w6) := Lib.hid (HB4.out.trans (HB46.out.mono HB4.out.size))
        have HX6 := Lib.hid (HX.out.below HB46.out HX.out.lt)
        have HOF6 := Lib.hid (HI.out.off.below HBR6.out)
        have HHI6 : Hid (hi ≤ w6.heap.size) := Lib.hid (Nat.le_trans HI.out.hi_ HBR6.out.size)
        have HTK := Lib.hid (take_any lo hi o mb n' nm bank K m ds st x k w6 HOF6.out HAM.out HHI6.out (fun W hW => HTB.out W (hW.bel HB6.out (fun q hq => Nat.le_trans HLO.out.1 hq.1) HB6.out.size)))
        go_wp2_with ((refine stop_load 57 _ rfl ?_; refine wpList_load_want rfl 57 _ rfl gl rfl 57 _ _ HX6.out Tryz.underlying57 rfl (by kernel_rfl) ?_))
        refine HTK.out.mono ?_
        rintro e w7 ⟨v7, rfl, hv7, hO7, hF7⟩
        have HO7 := Lib.hid hO7; have HF7 := Lib.hid hF7
        have hol7 : OlAt w7 w4.heap.size v5 x.deal k (outV K bank (ds x.deal) (st x.deal) x).1 := (HOL5.out.below HBA5.out).fr hF7 (fun q h1 h2 h3 => by have := HI.out.hi_; have := HBA.out.size; omega)
        have HAL := Lib.hid (all_any x.deal k _ v7 v5 _ _ w7 hv7 hol7 out_docs)
        clear hv7 hol7 hO7 hF7 HTK
        go_wp2_with fail
        refine HAL.out.mono ?_
        rintro e w8 ⟨rfl, hb8⟩
        have HB8 := Lib.hid hb8
        have HLI2 := Lib.hid HI.out.hi_
        have NG5 : ¬ (lo ≤ g5 ∧ g5 < hi) := by have h1 := HG5E.out; have h2 := HB45.out.size; have h3 := HBA.out.size; have h4 := HLI2.out; omega
        have HG8 := Lib.hid ((HG5.out.fr HF7.out NG5).below hb8 (HG5.out.fr HF7.out NG5).lt)
        have hkx6 := HKX4.out.below HB46.out HKX4.out.lt
        have hkx7 := hkx6.fr HF7.out HNG.out
        have HKX8 := Lib.hid (hkx7.below hb8 hkx7.lt)
        have hks6 := HKS4.out.below HB46.out HKS4.out.lt
        have hks7 := hks6.fr HF7.out (by have := HLO.out; omega)
        have HKS8 := Lib.hid (hks7.below hb8 hks7.lt)
        have hkr6 := HKR4.out.below HB46.out HKR4.out.lt
        have hkr7 := hkr6.fr HF7.out (by have := HLO.out; omega)
        have HKR8 := Lib.hid (hkr7.below hb8 hkr7.lt)
        clear hb8 hkx6 hkx7 hks6 hks7 hkr6 hkr7 HAL
        have y0 := HG8.out.cell 0; have y1 := HG8.out.cell 1
        simp only [List.getElem?_toArray, List.getElem?_cons_zero, List.getElem?_cons_succ] at y0 y1
        have hra : ∀ y off, A5 = some ⟨y, off, none⟩ → 0 < xs.length → hi ≤ y ∧ y ≠ gx := fun y off e h0 => by
          rcases HRA5.out y off e with h1 | h1
          · have h2 := HBA.out.size; have h3 := HLI2.out; have h4 := HI.out.x.lt
            omega
          · exact HI.out.ra y off (h1 ▸ e) h0
        have hrb : ∀ y off, B5 = some ⟨y, off, none⟩ → 0 < xs.length → hi ≤ y ∧ y ≠ gx := fun y off e h0 => by
          rcases HRB5.out y off e with h1 | h1
          · have h2 := HBA.out.size; have h3 := HLI2.out; have h4 := HI.out.x.lt
            omega
          · exact HI.out.rb y off (h1 ▸ e) h0
        have HRA := Lib.hid hra; have HRB := Lib.hid hrb
        clear hra hrb
        go_wp2_with (refine stop_store 37 _ _ rfl ?_; refine wpList_store_fr rfl 37 _ _ rfl _ rfl rfl HKX8.out (by kernel_rfl) rfl rfl ?_; intro w9 hm9 fr9; have HM9 := Lib.hid hm9; have FR9 := Lib.hid fr9; clear hm9 fr9)
        have HI9 : Hid (PlI w nm bank K mb n' m ds xs lo hi o gx (setS st x.deal (outV K bank (ds x.deal) (st x.deal) x).2) A5 c5 B5 d5 of5 pa5 w9) := Lib.hid (by
          have hb7 : Below w.heap.size w w7 := HF7.out.bel HB6.out (fun q hq => Nat.le_trans HLO.out.1 hq.1) HB6.out.size
          have hb8 : Below w.heap.size w w8 := hb7.trans (HB8.out.mono hb7.size)
          have hb9 : Below w.heap.size w w9 := FR9.out.bel hb8 (fun q e => by have := HLO.out; have := HGE.out; omega) hb8.size
          have sa6 := HS5A.out.below HBA5.out
          have sa7 := slice_fr1 sa6 HF7.out (fun y off e h0 q => by have := (HRA.out y off e h0).1; omega)
          have sa9 := slice_fr1 (sa7.below HB8.out) FR9.out (fun y off e h0 q => (HRA.out y off e h0).2 q)
          have sb6 := HS5B.out.below HBA5.out
          have sb7 := slice_fr1 sb6 HF7.out (fun y off e h0 q => by have := (HRB.out y off e h0).1; omega)
          have sb9 := slice_fr1 (sb7.below HB8.out) FR9.out (fun y off e h0 q => (HRB.out y off e h0).2 q)
          exact ⟨hb9, Nat.le_trans HHI6.out (Nat.le_trans HF7.out.size (Nat.le_trans HB8.out.size FR9.out.size)), (HO7.out.below HB8.out).fr FR9.out (fun q h1 h2 h3 => HNG.out (by rw [h3] at h1 h2; exact ⟨h1, h2⟩)), HM9.out, sa9, sb9, HRE5.out, out_in HI.out.sin, out_four HI.out.four, HRA.out, HRB.out⟩)
        have HKS9 := Lib.hid (HKS8.out.fr FR9.out (by have := HLO.out; omega))
        have HKR9 := Lib.hid (HKR8.out.fr FR9.out (by have := HLO.out; omega))
        clear y0 y1
        go_roundw
        case rel => (repeat apply Exists.intro); exact ⟨⟨k + 1, _, _, _, _, _, _, _, by omega, by go_num, HI9, HKS9, HKR9⟩, rfl⟩
        case measure => simp [intOf]; omega
      · have i0 : ¬ (k : Int) < (n : Int) := by omega
        have HKX := Lib.hid HI.out.x
        have NGX : ¬ gx = g + 1 := by have := HLO.out; omega
        go_upto_region 12 with (fail)
        try simp only [Act.put, List.setIfInBounds_toArray, List.set_cons_zero, List.set_cons_succ]
        refine wp_region_softX [Is (.pointer (some ⟨o, 0, none⟩)), Is (.agg #[.slice A xs.length cA, .slice B xs.length cB]), Is (.pointer (some ⟨o, 0, none⟩)), AnyV, Is (.bool true)] ⟨stab_is _, stab_is _, stab_is _, stab_anyv, stab_is _, trivial⟩ (fun k => k = g + 1) ⟨stabf_is _ _, stabf_is _ _, stabf_is _ _, stabf_anyv _, stabf_is _ _, trivial⟩ [false, false, false, true, false] (ResX (g + 1) 3 1) (resX_stab rfl) (resX_start HKR.out) (by kernel_rfl) (by kernel_rfl) ?_ ?_
        · refine ⟨?_, ?_, ?_, ?_, ?_, trivial⟩
          all_goals intro done vs ac W1 hdep hnd hB hR hX hE
          all_goals try simp only [Nat.zero_add, Nat.reduceAdd] at hnd ⊢
          all_goals have ec : ∀ v : Value, ac.eval (.const v) = v := fun _ => rfl
          all_goals try simp [Region.binds] at hdep
          · have e9 : ac.eval (.tmp 9) = .pointer (some ⟨o, 0, none⟩) := (hE 9 (by simp)).trans (by simp [evF, Act.eval])
            exact soft_value (.pointer (some ⟨o, 0, none⟩)) (by unfold execOp; simp only [e9, ec]; rfl) rfl
          · have e10 : ac.eval (.tmp 10) = .pointer (some ⟨gx, 0, none⟩) := (hE 10 (by simp)).trans (by simp [evF, Act.eval])
            exact wp_load_row 37 _ rfl (gx) e10 37 _ (0, 0) _ (HKX.out.fr hB NGX) Tryz.underlying37 rfl (by kernel_rfl) ⟨_, rfl, Below.refl _ _, rfl⟩
          · have d0 : vs 0 = .pointer (some ⟨o, 0, none⟩) := hR 0 (by simp [hdep])
            have e50 : ac.eval (.tmp 50) = .pointer (some ⟨o, 0, none⟩) := (hE 50 (by simp)).trans (by simp [evF, hdep, d0])
            exact soft_value (.pointer (some ⟨o, 0, none⟩)) (by unfold execOp; simp only [e50, ec]; rfl) rfl
          · have e7 : ac.eval (.tmp 7) = .pointer (some ⟨g + 1, 0, none⟩) := (hE 7 (by simp)).trans (by simp [evF, Act.eval])
            have d1 : vs 1 = .agg #[.slice A xs.length cA, .slice B xs.length cB] := hR 1 (by simp [hdep])
            have e51 : ac.eval (.tmp 51) = .agg #[.slice A xs.length cA, .slice B xs.length cB] := (hE 51 (by simp)).trans (by simp [evF, hdep, d1])
            refine wp_store_row 37 (.tmp 7) (.tmp 51) rfl (g + 1) #[.slice A xs.length cA, .slice B xs.length cB] e7 e51 37 _ (hX.1 hnd) (by kernel_rfl) rfl (by simp [Value.oneCell']) ⟨_, rfl, fr_row _ _ _, ?_, trivial⟩
            exact resX_put (by simp [hdep]) d1 (by decide) (setRow_heap W1 (g + 1) _ _ _ (0, 0) (hX.1 hnd))
          · exact soft_value (.bool true) (by unfold execOp; simp only [ec]; rfl) rfl
        · intro done vs W hall hB hR hX
          obtain ⟨_, cs, hcs, hbk⟩ := hX.2 (hall 3 (by simp))
          have r1 : vs 1 = .agg #[.slice A xs.length cA, .slice B xs.length cB] := hR 1 (by simp)
          have r2 : vs 2 = (.pointer (some ⟨o, 0, none⟩)) := hR 2 (by simp)
          have r4 : vs 4 = .bool true := hR 4 (by simp)
          rw [r1] at hcs
          injection hcs with hcs
          subst hcs
          have r0 := hbk.cell 0; have r01 := hbk.cell 1
          simp only [List.getElem?_toArray, List.getElem?_cons_zero, List.getElem?_cons_succ] at r0 r01
          have HP : Hid (PlayP w nm ps xs (.returned (.tuple #[(.pointer (some ⟨o, 0, none⟩)), .agg #[.slice A xs.length cA, .slice B xs.length cB], .bool true])) W) := Lib.hid (by
            refine ⟨o, mb, n', m, lo, hi, st, A, cA, B, cB, of, pa, rfl, hB.bel HI.out.bel (fun k e => by have := HGE.out; omega) HI.out.bel.size, ?_, slice_fr1 HI.out.a hB (fun y off e h0 q => by have h1 := (HI.out.ra y off e h0).1; have h2 := HLO.out; have h3 := HI.out.off.ino; omega), slice_fr1 HI.out.b hB (fun y off e h0 q => by have h1 := (HI.out.rb y off e h0).1; have h2 := HLO.out; have h3 := HI.out.off.ino; omega), ?_, HI.out.sin⟩
            · rw [HKE.out, HBE.out, HDE.out]
              exact HI.out.off.fr hB (fun q h1 h2 h3 => by have := HLO.out; omega)
            · rw [HKE.out]
              exact HI.out.rel)
          clear hR hB hX hall hbk
          simp only [fillA, Act.put, List.setIfInBounds_toArray, List.set_cons_zero, List.set_cons_succ, if_true, r2, r4]
          go_wp2_with fail
          refine bodyPost_ret (v := .tuple #[(.pointer (some ⟨o, 0, none⟩)), .agg #[.slice A xs.length cA, .slice B xs.length cB], .bool true]) (by simp [results, Tryz.results7, go_sem, r0, r01]) rfl HP.out
end Go.Proofs.YtdanjegnhdpnlaaGreatDoor.kit

namespace Go.Proofs.YtdanjegnhdpnlaaGreatDoor.kit
open Go.RowKit Go.PlainAid
set_option linter.unusedVariables false
set_option linter.unusedSimpArgs false
set_option maxRecDepth 100000 in
set_option maxHeartbeats 12800000 in
theorem plays_walk (s : Su) (nm : ByteArray) (A : Option Addr) (n c : Nat) (deal : ByteArray) (ps : List Pty) (xs : List Dx) (ls : List Lt) (w : World) (hp : SliceOf w 3 ptyC s.pA s.pn ps) (hd : SliceOf w 17 dxC s.dA s.dn xs) (hbx : ∀ x ∈ xs, BoxOK w x) (hok : ∀ x ∈ xs, x.d.ok) (h1 : s.pn ≤ maxLen) (h2 : s.dn ≤ maxLen)
    (hps : ∀ p ∈ ps, PtSz p) (hxs : ∀ x ∈ xs, DxSz x) (hl : SliceOf w 14 ltC A n ls) (hli : ∀ l ∈ ls, I64 l.amt) (hn : n ≤ maxLen) (ht : PowTab w) :
    Calls Tryz.prog 3 #[.agg #[.slice s.pA s.pn s.pc, .slice s.dA s.dn s.dc, .slice s.fA s.fn s.fc, .slice s.rA s.rn s.rc, .slice s.hA s.hn s.hc], .string nm, .slice A n c, .string deal] w fun e w' => e = .returned (.bool true) ∧ Below w.heap.size w w' := by
  have HTB := Lib.hid (Lib.tabBelow_of_tabIs ht)
  have HP := Lib.hid hp; have HD := Lib.hid hd; have HBX := Lib.hid hbx; have HOK := Lib.hid hok; have HL := Lib.hid hl; have HLI := Lib.hid hli; have HPS := Lib.hid hps; have HXS := Lib.hid hxs
  have H12 := Lib.hid (And.intro h1 (And.intro h2 hn))
  have HB0 := Lib.hid (one_alloc w (.cells #[.slice s.pA s.pn s.pc, .slice s.dA s.dn s.dc, .slice s.fA s.fn s.fc, .slice s.rA s.rn s.rc, .slice s.hA s.hn s.hc] 29))
  have HK0 : Hid (Blk (w.alloc (.cells #[.slice s.pA s.pn s.pc, .slice s.dA s.dn s.dc, .slice s.fA s.fn s.fc, .slice s.rA s.rn s.rc, .slice s.hA s.hn s.hc] 29)) w.heap.size 29 #[.slice s.pA s.pn s.pc, .slice s.dA s.dn s.dc, .slice s.fA s.fn s.fc, .slice s.rA s.rn s.rc, .slice s.hA s.hn s.hc]) := Lib.hid (Blk.new _ _ _)
  clear hp hd hbx hok hl hli h1 h2 hn ht hps hxs
  go_enter Tryz.func3, Tryz.ntmps3
  go_upto_region 1 with (fail)
  generalize Value.agg #[.slice s.pA s.pn s.pc, .slice s.dA s.dn s.dc, .slice s.fA s.fn s.fc, .slice s.rA s.rn s.rc, .slice s.hA s.hn s.hc] = SVX
  obtain ⟨w0, hw0⟩ : ∃ W, w.alloc (.cells #[.slice s.pA s.pn s.pc, .slice s.dA s.dn s.dc, .slice s.fA s.fn s.fc, .slice s.rA s.rn s.rc, .slice s.hA s.hn s.hc] 29) = W := ⟨_, rfl⟩
  obtain ⟨gs, hgs⟩ : ∃ g, w.heap.size = g := ⟨_, rfl⟩
  have HGS := Lib.hid hgs
  rw [hw0] at HB0 HK0 ⊢
  rw [hgs] at HK0
  simp only [hgs]
  clear hw0 hgs
  go_wp2_with ((refine stop_load 29 _ rfl ?_; refine wpList_load_want rfl 29 _ rfl gs rfl 29 _ _ HK0.out Tryz.underlying29 rfl (by kernel_rfl) ?_))
  refine (wide_sz s ps xs w0 (HP.out.below HB0.out) (HD.out.below HB0.out) H12.out.1 H12.out.2.1 HPS.out HXS.out).mono ?_
  rintro e w1 ⟨b1, rfl, hw, hb1⟩
  have HW := Lib.hid hw
  have HB1 := Lib.hid (HB0.out.trans (hb1.mono HB0.out.size))
  have HK1 := Lib.hid (HK0.out.below hb1 HK0.out.lt)
  clear hb1 hw HB0 HK0
  cases b1
  · go_wp2_with fail
    refine (long_any A n c ls w1 (HL.out.below HB1.out) H12.out.2.2).mono ?_
    rintro e w2 ⟨b2, rfl, hlo, hb2⟩
    have HN := Lib.hid hlo
    have HB2 := Lib.hid (HB1.out.trans (hb2.mono HB1.out.size))
    have HK2 := Lib.hid (HK1.out.below hb2 HK1.out.lt)
    clear hb2 hlo HB1 HK1
    cases b2
    · have hw3 : s.pn ≤ 16 ∧ s.dn ≤ 16 ∧ ∀ x ∈ xs, x.d.num.size ≤ 2000 := by first | exact HW.out rfl | exact HW.out trivial
      have hn30 : n ≤ 30 := by first | exact HN.out rfl | exact HN.out trivial
      have HSU : Hid (SuOK w s ps xs) := Lib.hid ⟨HP.out, HD.out, HBX.out, HOK.out, hw3.1, hw3.2.1⟩
      have HNS := Lib.hid hw3.2.2
      have HDL : Hid (xs.length ≤ 16) := Lib.hid (by rw [HD.out.len]; exact hw3.2.1)
      have HPL := Lib.hid (play_any s nm A n c ps xs ls w2 (HSU.out.below HB2.out) (HL.out.below HB2.out) HLI.out hn30 (HTB.out.on HB2.out).here)
      clear hw3 hn30
      go_upto_region 3 with (fail)
      · go_wp2_with fail
        refine (awake_any _ (HTB.out.on (HB2.out)).here).mono ?_
        rintro e w9 ⟨rfl, hb9⟩
        have HB9 := Lib.hid ((HB2.out).trans (hb9.mono (HB2.out).size))
        go_wp2_with fail
        go_ret
        exact ⟨rfl, HB9.out⟩
      · go_wp2_with ((refine stop_load 29 _ rfl ?_; refine wpList_load_want rfl 29 _ rfl gs rfl 29 _ _ HK2.out Tryz.underlying29 rfl (by kernel_rfl) ?_))
        refine HPL.out.mono ?_
        rintro e w3 ⟨o, mb, n', m, lo, hi, st, A3, c3, B3, d3, of, pa, rfl, hb3, hof, hsa, hsb, hrel, hsin⟩
        obtain ⟨K, hK⟩ : ∃ K, (whoV nm ps).1 = K := ⟨_, rfl⟩
        obtain ⟨bank, hbk⟩ : ∃ b, (whoV nm ps).2 = b := ⟨_, rfl⟩
        rw [hK, hbk] at hof
        rw [hK] at hrel
        obtain ⟨ds, hds⟩ : ∃ ds, dealsOf nm K xs = ds := ⟨_, rfl⟩
        rw [hds] at hof
        have hba : Below w3.heap.size w3 (w3.alloc (.cells #[.slice A3 xs.length c3, .slice B3 xs.length d3] 37)) := one_alloc _ _
        have HOF4 := Lib.hid (hof.below hba); have HSA4 := Lib.hid (hsa.below hba); have HSB4 := Lib.hid (hsb.below hba); have HRE := Lib.hid hrel; have HSI := Lib.hid hsin
        have HKE := Lib.hid hK; have HDE := Lib.hid hds
        have HB3 := Lib.hid (HB2.out.trans (hb3.mono HB2.out.size))
        have HB4 : Hid (Below w.heap.size w (w3.alloc (.cells #[.slice A3 xs.length c3, .slice B3 xs.length d3] 37))) := Lib.hid (HB3.out.trans (hba.mono HB3.out.size))
        have HK4 := Lib.hid ((HK2.out.below hb3 HK2.out.lt).below hba (HK2.out.below hb3 HK2.out.lt).lt)
        have HX4 : Hid (Blk (w3.alloc (.cells #[.slice A3 xs.length c3, .slice B3 xs.length d3] 37)) w3.heap.size 37 #[.slice A3 xs.length c3, .slice B3 xs.length d3]) := Lib.hid (Blk.new _ _ _)
        clear hb3 hof hsa hsb hrel hsin hK hbk hds hba HPL HK2
        go_upto_region 4 with ((refine stop_store 37 _ _ rfl ?_; refine wpList_store_new rfl 37 _ _ rfl _ rfl rfl (by kernel_rfl) rfl rfl ?_))
        obtain ⟨w4, hw4⟩ : ∃ W, w3.alloc (.cells #[.slice A3 xs.length c3, .slice B3 xs.length d3] 37) = W := ⟨_, rfl⟩
        obtain ⟨gx, hgx⟩ : ∃ g, w3.heap.size = g := ⟨_, rfl⟩
        rw [hw4] at HOF4 HSA4 HSB4 HB4 HK4 HX4
        change Code.wp _ _ _ _ (w3.alloc (.cells #[.slice A3 xs.length c3, .slice B3 xs.length d3] 37))
        rw [hw4]
        rw [hgx] at HX4
        simp only [hgx]
        clear hw4 hgx
        obtain ⟨D, hD⟩ : ∃ D, dealI nm K xs deal = D := ⟨_, rfl⟩
        have HDI := Lib.hid (rdeal_any s nm deal ps xs w4 (HSU.out.below HB4.out).p (HSU.out.below HB4.out).d H12.out.1 H12.out.2.1)
        rw [HKE.out, hD] at HDI
        have HSPEC := Lib.hid (deal_spec nm K xs deal)
        rw [hD] at HSPEC
        have HDD := Lib.hid hD
        clear hD
        go_wp2_with ((refine stop_load 29 _ rfl ?_; refine wpList_load_want rfl 29 _ rfl gs rfl 29 _ _ HK4.out Tryz.underlying29 rfl (by kernel_rfl) ?_))
        refine HDI.out.mono ?_
        rintro e w5 ⟨rfl, hb5⟩
        have HB5 := Lib.hid (HB4.out.trans (hb5.mono HB4.out.size))
        have HK5 := Lib.hid (HK4.out.below hb5 HK4.out.lt)
        have HX5 := Lib.hid (HX4.out.below hb5 HX4.out.lt)
        have HOF := Lib.hid (HOF4.out.below hb5); have HSA5 := Lib.hid (HSA4.out.below hb5); have HSB5 := Lib.hid (HSB4.out.below hb5)
        have HSU5 := Lib.hid (HSU.out.below HB5.out)
        obtain ⟨l, hl⟩ : ∃ l, numsV nm K xs = l := ⟨_, rfl⟩
        have HLE := Lib.hid hl
        have HLR : Hid (risS l) := Lib.hid (by rw [← hl]; exact nums_ris nm K xs _)
        have HL16 : Hid (l.length ≤ 16) := Lib.hid (by rw [← hl]; exact Nat.le_trans (nums_len nm K xs _) HDL.out)
        have HLM : Hid (∀ z, z ∈ l ↔ (m z).isSome = true) := Lib.hid (fun z => by
          rw [← hl, numsV_mem, HDE.out]
          cases hm : m z with
          | none => rw [HOF.out.none_ z hm]; simp
          | some p =>
            obtain ⟨d, _, _, _, _, q, _⟩ := HOF.out.deal z p hm
            rw [q]; simp)
        have HMS : Hid (∀ k p, m k = some p → k.size ≤ 2000) := Lib.hid (fun k p hm => by
          have q : k ∈ numsV nm K xs := by rw [hl]; exact (HLM.out k).2 (by rw [hm]; rfl)
          obtain ⟨_, x, _, hx, e, _⟩ := numsV_at q
          rw [← e]
          exact HNS.out x (List.mem_of_getElem? hx))
        obtain ⟨T, hT⟩ : ∃ T, textV st l = T := ⟨_, rfl⟩
        have HTE := Lib.hid hT
        obtain ⟨SV, hSV⟩ : ∃ z, stateV ds st deal = z := ⟨_, rfl⟩
        have HSV := Lib.hid hSV
        clear hb5 hl hT hSV HDI HOF4 HSA4 HSB4 HK4 HX4 HB4
        rcases HSPEC.out with ⟨e1, e2⟩ | ⟨i, x, e1, e2, e3, _, e5⟩
        · have hsv : SV = -1 := by rw [← HSV.out]; unfold stateV; rw [← HDE.out, e2]
          subst hsv
          subst e1
          have dn0 : ¬ (0 : Int) ≤ -1 := by omega
          clear e2 HSPEC
          go_upto_region 10 with (fail)
          have HLS : Hid (∀ y : BW w5, (loadVar 29 ⟨gs, 0, none⟩).run Tryz.prog (wof y) = .ok (.agg #[.slice s.pA s.pn s.pc, .slice s.dA s.dn s.dc, .slice s.fA s.fn s.fc, .slice s.rA s.rn s.rc, .slice s.hA s.hn s.hc]) (wof y)) := Lib.hid (fun y => run_loadVar_row (wof y) gs 29 29 #[.slice s.pA s.pn s.pc, .slice s.dA s.dn s.dc, .slice s.fA s.fn s.fc, .slice s.rA s.rn s.rc, .slice s.hA s.hn s.hc] (0, 0) _ (HK5.out.below (wof_below y) HK5.out.lt) Tryz.underlying29 rfl (by kernel_rfl))
          have HLX : Hid (∀ y : BW w5, (loadVar 37 ⟨gx, 0, none⟩).run Tryz.prog (wof y) = .ok (.agg #[.slice A3 xs.length c3, .slice B3 xs.length d3]) (wof y)) := Lib.hid (fun y => run_loadVar_row (wof y) gx 37 37 #[.slice A3 xs.length c3, .slice B3 xs.length d3] (0, 0) _ (HX5.out.below (wof_below y) HX5.out.lt) Tryz.underlying37 rfl (by kernel_rfl))
          have QT : Hid (∀ y : BW w5, Calls Tryz.prog 9 #[(.pointer (some ⟨o, 0, none⟩))] (wof y) fun e w' => e = .returned (.string T) ∧ Below (wof y).heap.size (wof y) w') := Lib.hid (fun y => by
            have q := otext_any lo hi o mb n' nm bank K m ds st l (wof y) (HOF.out.below (wof_below y)) HMS.out HLR.out HLM.out HL16.out HSI.out (HTB.out.on (HB5.out.trans ((wof_below y).mono HB5.out.size))).here
            rw [HTE.out] at q
            exact q)
          have QR : Hid (∀ y : BW w5, Calls Tryz.prog 10 #[.agg #[.slice s.pA s.pn s.pc, .slice s.dA s.dn s.dc, .slice s.fA s.fn s.fc, .slice s.rA s.rn s.rc, .slice s.hA s.hn s.hc], .string nm, .agg #[.slice A3 xs.length c3, .slice B3 xs.length d3]] (wof y) fun e w' => e = .returned (.string T) ∧ Below (wof y).heap.size (wof y) w') := Lib.hid (fun y => by
            have q := rtext_any s nm ps xs A3 B3 xs.length c3 d3 of pa st (wof y) (HSU5.out.p.below (wof_below y)) (HSU5.out.d.below (wof_below y)) (by have := HSU5.out.pn; unfold maxLen; omega) HSU5.out.dn (HSA5.out.below (wof_below y)) (HSB5.out.below (wof_below y)) (by rw [HKE.out]; exact HRE.out.at_) HNS.out HSI.out
            rw [HKE.out, HLE.out, HTE.out] at q
            exact q)
          have QS : Hid (∀ y : BW w5, Calls Tryz.prog 11 #[(.pointer (some ⟨o, 0, none⟩)), .string deal] (wof y) fun e w' => e = .returned (.int .i64 (-1)) ∧ Below (wof y).heap.size (wof y) w') := Lib.hid (fun y => by
            have q := state_any lo hi o mb n' nm bank K m ds st deal (wof y) (HOF.out.below (wof_below y))
            rw [HSV.out] at q
            exact q.mono fun e w' h => ⟨h.1, h.2 ▸ Below.refl _ _⟩)
          have QK : Hid (∀ y : BW w5, Calls Tryz.prog 12 #[(.pointer (some ⟨o, 0, none⟩))] (wof y) fun e w' => e = .returned (.int .i64 K) ∧ Below (wof y).heap.size (wof y) w') := Lib.hid (fun y => (kind_any lo hi o mb n' nm bank K m ds st (wof y) (HOF.out.below (wof_below y))).mono fun e w' h => ⟨h.1, h.2 ▸ Below.refl _ _⟩)
          have QG : Hid (∀ y : BW w5, Calls Tryz.prog 13 #[.agg #[.slice s.pA s.pn s.pc, .slice s.dA s.dn s.dc, .slice s.fA s.fn s.fc, .slice s.rA s.rn s.rc, .slice s.hA s.hn s.hc], .string nm] (wof y) fun e w' => e = .returned (.int .i64 K) ∧ Below (wof y).heap.size (wof y) w') := Lib.hid (fun y => by
            have q := rkind_any s nm ps (wof y) (HSU5.out.p.below (wof_below y)) (by have := HSU5.out.pn; unfold maxLen; omega)
            rw [HKE.out] at q
            exact q)
          have QA : Hid (∀ y : BW w5, Calls Tryz.prog 6 #[] (wof y) fun e w' => e = .returned (.bool true) ∧ Below (wof y).heap.size (wof y) w') := Lib.hid (fun y => awake_any (wof y) (HTB.out.on (HB5.out.trans ((wof_below y).mono HB5.out.size))).here)
          have q1 : (T.toList == T.toList) = true := by simp
          have q2 : (((-1) : Int) == (-1)) = true := by simp
          have q3 : (K == K) = true := by simp
          refine wp_region_quiet_below (by kernel_rfl) (by kernel_rfl) ?_
          repeat (first | (go_big_quiet_want; refine quiet_load 29 _ rfl ⟨gs, 0, none⟩ rfl (.agg #[.slice s.pA s.pn s.pc, .slice s.dA s.dn s.dc, .slice s.fA s.fn s.fc, .slice s.rA s.rn s.rc, .slice s.hA s.hn s.hc]) (by rintro _ ⟨y, rfl⟩; exact HLS.out y) ?_; simp [Act.put]; go_big_quiet_on) | (go_big_quiet_want; refine quiet_load 37 _ rfl ⟨gx, 0, none⟩ rfl (.agg #[.slice A3 xs.length c3, .slice B3 xs.length d3]) (by rintro _ ⟨y, rfl⟩; exact HLX.out y) ?_; simp [Act.put]; go_big_quiet_on) | go_big_quiet_step ((first | (go_at_call 9; exact quiet_below (QT.out _)) | (go_at_call 10; exact quiet_below (QR.out _)) | (go_at_call 11; exact quiet_below (QS.out _)) | (go_at_call 12; exact quiet_below (QK.out _)) | (go_at_call 13; exact quiet_below (QG.out _)) | (go_at_call 6; exact quiet_below (QA.out _)))))
          refine wpQuiet_nil ?_
          intro w7 hb7
          have HB7 := Lib.hid (HB5.out.trans (hb7.mono HB5.out.size))
          go_wp2_with fail
          go_ret
          exact ⟨ret_bool (by simp), HB7.out⟩
        · obtain ⟨f1, _⟩ := HRE.out.at_ deal i (HDD.out.trans e1)
          have hsv : (st deal).st = SV := by rw [← HSV.out]; unfold stateV; rw [← HDE.out, e5]
          have hil : i < xs.length := (List.getElem?_eq_some_iff.1 e2).1
          obtain ⟨bA, oA, eA, _, hcA⟩ := HSA5.out.at_ (by omega)
          have ca : w5.cell? ⟨bA, oA + i, none⟩ = some (.int .i64 SV) := by have q := hcA i _ f1 0 _ rfl; rw [hsv] at q; simpa using q
          have x0 := HX5.out.cell 0
          simp only [List.getElem?_toArray, List.getElem?_cons_zero, List.getElem?_cons_succ] at x0
          rw [eA] at x0
          subst e1
          have dg : (i : Int) ≥ 0 := by omega
          have i0 : (i : Int) < (xs.length : Int) := by omega
          clear f1 hsv e2 e3 e5 eA hcA HSPEC
          go_upto_region 10 with (fail)
          clear ca x0
          have HLS : Hid (∀ y : BW w5, (loadVar 29 ⟨gs, 0, none⟩).run Tryz.prog (wof y) = .ok (.agg #[.slice s.pA s.pn s.pc, .slice s.dA s.dn s.dc, .slice s.fA s.fn s.fc, .slice s.rA s.rn s.rc, .slice s.hA s.hn s.hc]) (wof y)) := Lib.hid (fun y => run_loadVar_row (wof y) gs 29 29 #[.slice s.pA s.pn s.pc, .slice s.dA s.dn s.dc, .slice s.fA s.fn s.fc, .slice s.rA s.rn s.rc, .slice s.hA s.hn s.hc] (0, 0) _ (HK5.out.below (wof_below y) HK5.out.lt) Tryz.underlying29 rfl (by kernel_rfl))
          have HLX : Hid (∀ y : BW w5, (loadVar 37 ⟨gx, 0, none⟩).run Tryz.prog (wof y) = .ok (.agg #[.slice A3 xs.length c3, .slice B3 xs.length d3]) (wof y)) := Lib.hid (fun y => run_loadVar_row (wof y) gx 37 37 #[.slice A3 xs.length c3, .slice B3 xs.length d3] (0, 0) _ (HX5.out.below (wof_below y) HX5.out.lt) Tryz.underlying37 rfl (by kernel_rfl))
          have QT : Hid (∀ y : BW w5, Calls Tryz.prog 9 #[(.pointer (some ⟨o, 0, none⟩))] (wof y) fun e w' => e = .returned (.string T) ∧ Below (wof y).heap.size (wof y) w') := Lib.hid (fun y => by
            have q := otext_any lo hi o mb n' nm bank K m ds st l (wof y) (HOF.out.below (wof_below y)) HMS.out HLR.out HLM.out HL16.out HSI.out (HTB.out.on (HB5.out.trans ((wof_below y).mono HB5.out.size))).here
            rw [HTE.out] at q
            exact q)
          have QR : Hid (∀ y : BW w5, Calls Tryz.prog 10 #[.agg #[.slice s.pA s.pn s.pc, .slice s.dA s.dn s.dc, .slice s.fA s.fn s.fc, .slice s.rA s.rn s.rc, .slice s.hA s.hn s.hc], .string nm, .agg #[.slice A3 xs.length c3, .slice B3 xs.length d3]] (wof y) fun e w' => e = .returned (.string T) ∧ Below (wof y).heap.size (wof y) w') := Lib.hid (fun y => by
            have q := rtext_any s nm ps xs A3 B3 xs.length c3 d3 of pa st (wof y) (HSU5.out.p.below (wof_below y)) (HSU5.out.d.below (wof_below y)) (by have := HSU5.out.pn; unfold maxLen; omega) HSU5.out.dn (HSA5.out.below (wof_below y)) (HSB5.out.below (wof_below y)) (by rw [HKE.out]; exact HRE.out.at_) HNS.out HSI.out
            rw [HKE.out, HLE.out, HTE.out] at q
            exact q)
          have QS : Hid (∀ y : BW w5, Calls Tryz.prog 11 #[(.pointer (some ⟨o, 0, none⟩)), .string deal] (wof y) fun e w' => e = .returned (.int .i64 SV) ∧ Below (wof y).heap.size (wof y) w') := Lib.hid (fun y => by
            have q := state_any lo hi o mb n' nm bank K m ds st deal (wof y) (HOF.out.below (wof_below y))
            rw [HSV.out] at q
            exact q.mono fun e w' h => ⟨h.1, h.2 ▸ Below.refl _ _⟩)
          have QK : Hid (∀ y : BW w5, Calls Tryz.prog 12 #[(.pointer (some ⟨o, 0, none⟩))] (wof y) fun e w' => e = .returned (.int .i64 K) ∧ Below (wof y).heap.size (wof y) w') := Lib.hid (fun y => (kind_any lo hi o mb n' nm bank K m ds st (wof y) (HOF.out.below (wof_below y))).mono fun e w' h => ⟨h.1, h.2 ▸ Below.refl _ _⟩)
          have QG : Hid (∀ y : BW w5, Calls Tryz.prog 13 #[.agg #[.slice s.pA s.pn s.pc, .slice s.dA s.dn s.dc, .slice s.fA s.fn s.fc, .slice s.rA s.rn s.rc, .slice s.hA s.hn s.hc], .string nm] (wof y) fun e w' => e = .returned (.int .i64 K) ∧ Below (wof y).heap.size (wof y) w') := Lib.hid (fun y => by
            have q := rkind_any s nm ps (wof y) (HSU5.out.p.below (wof_below y)) (by have := HSU5.out.pn; unfold maxLen; omega)
            rw [HKE.out] at q
            exact q)
          have QA : Hid (∀ y : BW w5, Calls Tryz.prog 6 #[] (wof y) fun e w' => e = .returned (.bool true) ∧ Below (wof y).heap.size (wof y) w') := Lib.hid (fun y => awake_any (wof y) (HTB.out.on (HB5.out.trans ((wof_below y).mono HB5.out.size))).here)
          have q1 : (T.toList == T.toList) = true := by simp
          have q2 : ((SV : Int) == SV) = true := by simp
          have q3 : (K == K) = true := by simp
          refine wp_region_quiet_below (by kernel_rfl) (by kernel_rfl) ?_
          repeat (first | (go_big_quiet_want; refine quiet_load 29 _ rfl ⟨gs, 0, none⟩ rfl (.agg #[.slice s.pA s.pn s.pc, .slice s.dA s.dn s.dc, .slice s.fA s.fn s.fc, .slice s.rA s.rn s.rc, .slice s.hA s.hn s.hc]) (by rintro _ ⟨y, rfl⟩; exact HLS.out y) ?_; simp [Act.put]; go_big_quiet_on) | (go_big_quiet_want; refine quiet_load 37 _ rfl ⟨gx, 0, none⟩ rfl (.agg #[.slice A3 xs.length c3, .slice B3 xs.length d3]) (by rintro _ ⟨y, rfl⟩; exact HLX.out y) ?_; simp [Act.put]; go_big_quiet_on) | go_big_quiet_step ((first | (go_at_call 9; exact quiet_below (QT.out _)) | (go_at_call 10; exact quiet_below (QR.out _)) | (go_at_call 11; exact quiet_below (QS.out _)) | (go_at_call 12; exact quiet_below (QK.out _)) | (go_at_call 13; exact quiet_below (QG.out _)) | (go_at_call 6; exact quiet_below (QA.out _)))))
          refine wpQuiet_nil ?_
          intro w7 hb7
          have HB7 := Lib.hid (HB5.out.trans (hb7.mono HB5.out.size))
          go_wp2_with fail
          go_ret
          exact ⟨ret_bool (by simp), HB7.out⟩
    · go_wp2_with fail
      refine (awake_any _ (HTB.out.on (HB2.out)).here).mono ?_
      rintro e w9 ⟨rfl, hb9⟩
      have HB9 := Lib.hid ((HB2.out).trans (hb9.mono (HB2.out).size))
      go_wp2_with fail
      go_ret
      exact ⟨rfl, HB9.out⟩
  · go_wp2_with fail
    refine (awake_any _ (HTB.out.on (HB1.out)).here).mono ?_
    rintro e w9 ⟨rfl, hb9⟩
    have HB9 := Lib.hid ((HB1.out).trans (hb9.mono (HB1.out).size))
    go_wp2_with fail
    go_ret
    exact ⟨rfl, HB9.out⟩
end Go.Proofs.YtdanjegnhdpnlaaGreatDoor.kit

namespace Go.Proofs.YtdanjegnhdpnlaaGreatDoor.kit
open Go.RowKit Go.ChangeShapes Go.WideShapes Go.ChangeAt
set_option linter.unusedVariables false
section
variable {H : Type} {enc : TypeId × Value → H} {P : Program}
/-- No part of this datum is greater than can be reached. -/
def Small (P : Program) (t : TypeId) (d : DataW H) : Prop := ∀ k ∈ d.weights P t, k ≤ reachBytes
theorem weightsAll_mem {e : TypeId} : ∀ {l : List (DataW H)} {d : DataW H}, d ∈ l → ∀ n ∈ d.weights P e, n ∈ DataW.weightsAll P e l
  | a :: l, d, hd, n, hn => by
    simp only [DataW.weightsAll, List.mem_append]
    rcases List.mem_cons.1 hd with rfl | hd
    · exact .inl hn
    · exact .inr (weightsAll_mem hd n hn)
theorem trod_leavesS {w : World} {base : Nat} {spare : Nat → Bool} {held : Bool} : ∀ (n : Nat) {m : Nat} {t : TypeId} {cs : List Value} {x : DataW H × List MemPlace},
    DataW.trod enc P w base spare held m t cs = some x → Small P t x.1 → ∀ p ∈ leavesAt P n t, ∃ m' y, DataW.trod enc P w base spare held m' p.2 ((cs.drop p.1).take 1) = some y ∧ Small P p.2 y.1
  | 0, _, _, _, _, _, _, p, hp => by simp [leavesAt] at hp
  | n + 1, m, t, cs, x, h, hs0, p, hp => by
    unfold leavesAt at hp
    split at hp
    · rename_i fs hu
      obtain ⟨xs, m', _, hx0, _, hlen, hf⟩ := DataW.trod_struct hu h
      rw [hx0] at hs0
      obtain ⟨f, hfm, hp⟩ := List.mem_flatMap.1 hp
      obtain ⟨q, hq, rfl⟩ := List.mem_map.1 hp
      obtain ⟨hq, hle⟩ := List.mem_filter.1 hq
      obtain ⟨i, hi, rfl⟩ := List.getElem_of_mem hfm
      have hi' : i < fs.size := by simpa using hi
      have h1 := hf i fs[i] (by simp [hi'])
      have h2 : xs[i]? = some xs[i] := List.getElem?_eq_getElem (by omega)
      rw [h2] at h1
      obtain ⟨m'', y, hy, hys⟩ := trod_leavesS n h1 (fun k hk => hs0 k (by simp only [DataW.weights, hu]; exact DataW.weights_mem_each (j := i) (by simp [hi']) (by simp [h2]) k hk)) q (by simpa using hq)
      refine ⟨m'', y, ?_, hys⟩
      rw [take_one (by simpa using hle)] at hy
      simpa using hy
    · rename_i k e hu
      obtain ⟨xs, m', _, hx0, _, hlen, hf⟩ := DataW.trod_array hu h
      rw [hx0] at hs0
      obtain ⟨i, hfm, hp⟩ := List.mem_flatMap.1 hp
      obtain ⟨q, hq, rfl⟩ := List.mem_map.1 hp
      obtain ⟨hq, hle⟩ := List.mem_filter.1 hq
      have hi : i < k := by simpa using hfm
      have h1 := hf i hi
      have h2 : xs[i]? = some xs[i] := List.getElem?_eq_getElem (by omega)
      rw [h2] at h1
      obtain ⟨m'', y, hy, hys⟩ := trod_leavesS n h1 (fun k hk => hs0 k (by simp only [DataW.weights, hu]; exact weightsAll_mem (List.mem_map.2 ⟨_, List.getElem_mem (by omega), rfl⟩) k hk)) q hq
      refine ⟨m'', y, ?_, hys⟩
      rw [take_one (by simpa using hle)] at hy
      simpa using hy
    · rename_i hs ha
      simp only [List.mem_singleton] at hp
      subst hp
      have hl := trod_one h (fun fs e => hs fs e) (fun n e e' => ha n e e')
      refine ⟨m, x, ?_, hs0⟩
      simp only [List.drop_zero]
      rw [List.take_of_length_le (by omega)]
      exact h

section
variable {w : World} {base : Nat} {spare : Nat → Bool} {held : Bool} {n m : Nat} {t : TypeId} {cs : List Value} {x : DataW H × List MemPlace}
theorem open_sliceS {α : Type} {e : TypeId} {C : Nat} (en : α → List Value) (Wf : α → Prop) (ht : P.underlying t = some (.slice e)) (hC : P.cellsOf e = C) (hC0 : 0 < C)
    (hel : ∀ (m : Nat) (cs : List Value) (x : DataW H × List MemPlace), DataW.trod enc P w base spare held m e cs = some x → Small P e x.1 → ∃ a, cs = en a ∧ Wf a)
    (h : DataW.trod enc P w base spare held m t cs = some x) (hs : Small P t x.1) :
    ∃ A l c xs, cs = [.slice A l c] ∧ l ≤ c ∧ c ≤ maxLen ∧ SliceOf w C en A l xs ∧ (∀ y ∈ xs, Wf y) ∧ l * P.bytesOf e ≤ reachBytes := by
  rcases Deep.open_slice ht h with ⟨rfl, _⟩ | ⟨a, len, cap, M, n, D, Pl, rfl, hb, hl, hm, hM, hx0, hi⟩
  · exact ⟨none, 0, 0, [], rfl, Nat.le_refl _, Nat.zero_le _, ⟨rfl, .inl rfl⟩, by simp, by simp⟩
  · have hsz : len * P.bytesOf e ≤ reachBytes := by
      rw [hx0] at hs
      have := hs ((len + (M - len)) * P.bytesOf e) (by simp [DataW.weights, ht])
      exact Nat.le_trans (Nat.mul_le_mul_right _ (by omega)) this
    have hse : ∀ i, i < len → Small P e (D i) := by
      intro i hi k hk
      rw [hx0] at hs
      refine hs k ?_
      simp only [DataW.weights, ht, List.mem_cons, List.mem_append]
      exact .inr (.inl (weightsAll_mem (List.mem_map.2 ⟨i, by simpa using hi, rfl⟩) k hk))
    have hlM : len ≤ M := by rw [hM]; split <;> omega
    have key : ∀ i, i < len → ∃ y : α, w.cells? base (a.add (i * C)) C = some (en y) ∧ Wf y := by
      intro i hil
      obtain ⟨cs', hc, ht'⟩ := hi i (by omega)
      rw [hC] at hc
      obtain ⟨y, rfl, hy⟩ := hel _ _ _ ht' (hse i hil)
      exact ⟨y, hc, hy⟩
    rcases Nat.eq_zero_or_pos len with rfl | hpos
    · exact ⟨some a, 0, cap, [], rfl, hl, hm, ⟨rfl, .inl rfl⟩, by simp, hsz⟩
    · obtain ⟨y0, hy0, _⟩ := key 0 hpos
      have : Inhabited α := ⟨y0⟩
      obtain ⟨f, hf⟩ := Deep.choose_lt key
      obtain ⟨b, off, spot⟩ := a
      have hspot : spot = none := by
        obtain ⟨_, hlen, hat⟩ := World.cells?_some hy0
        have h0 := hat 0 hC0
        rw [List.getElem?_eq_getElem (by omega)] at h0
        have := World.cell?_spot h0
        simpa [Addr.add] using this
      subst hspot
      refine ⟨some ⟨b, off, none⟩, len, cap, (List.range len).map f, rfl, hl, hm, ⟨by simp, .inr ⟨b, off, rfl, ?_, ?_⟩⟩, ?_, hsz⟩
      · obtain ⟨_, hlen, hat⟩ := World.cells?_some hy0
        have h0 := hat 0 hC0
        rw [List.getElem?_eq_getElem (by omega)] at h0
        simpa [Addr.add] using World.block_lt_of_cell? w _ h0
      · intro i x hx j v hv
        have hil : i < len := by
          have := (List.getElem?_eq_some_iff.1 hx).1
          simpa using this
        simp [hil] at hx
        subst hx
        obtain ⟨hc, _⟩ := hf i hil
        obtain ⟨_, hlen, hat⟩ := World.cells?_some hc
        have hj : j < C := by
          have := (List.getElem?_eq_some_iff.1 hv).1
          omega
        have h1 := hat j hj
        rw [addr_add, addr_add, hv] at h1
        rw [← h1]
        congr 2
        omega
      · intro y hy
        obtain ⟨i, hi', rfl⟩ := List.mem_map.1 hy
        exact (hf i (by simpa using hi')).2
end
end
end Go.Proofs.YtdanjegnhdpnlaaGreatDoor.kit

namespace Go.Proofs.YtdanjegnhdpnlaaGreatDoor
open Go.RowKit Go.Proofs.YtdanjegnhdpnlaaGreatDoor.kit
open Go.ChangeShapes Go.WideShapes Go.ChangeAt
set_option linter.unusedVariables false
set_option maxRecDepth 100000
section
variable {H : Type} {enc : TypeId × Value → H} {W : World} {base : Nat} {spare : Nat → Bool} {held : Bool}
theorem leaf_stringS {m o : Nat} {t u : TypeId} {cs : List Value} {x : DataW H × List MemPlace} (h : DataW.trod enc Tryz.prog W base spare held m t cs = some x) (hs : Small Tryz.prog t x.1) (n : Nat) (hm : (o, u) ∈ leavesAt Tryz.prog n t) (hu : Tryz.prog.underlying u = some .string) : ∃ s : ByteArray, cs[o]? = some (.string s) ∧ s.size ≤ reachBytes := by
  obtain ⟨m', y, hy, hys⟩ := trod_leavesS n h hs _ hm
  obtain ⟨a, ha, hx, _⟩ := DataW.trod_string hu hy
  refine ⟨a, one_at ha, ?_⟩
  rw [hx] at hys
  have := hys a.data.toList.length (by dsimp only; rw [DataW.weights]; exact List.mem_singleton.2 rfl)
  have e : a.data.toList.length = a.data.size := Array.length_toList
  rw [e] at this
  exact this
theorem reach_max : reachBytes ≤ maxLen := by decide
theorem reach_47 : reachBytes ≤ 140737488355328 := by decide
theorem leavesLo : leavesAt Tryz.prog 6 95 = [(0, 9), (1, 3)] := by kernel_rfl
theorem cellsLo : Tryz.prog.cellsOf 95 = 2 := by kernel_rfl
theorem listLo {cs : List Value} {c0 c1 : Value} (h : cs.length = 2) (h0 : cs[0]? = some c0) (h1 : cs[1]? = some c1) : cs = [c0, c1] := by
  match cs, h with
  | [x0, x1], _ => simp at h0 h1; rw [h0, h1]
theorem leavesBx : leavesAt Tryz.prog 6 92 = [(0, 9), (1, 3), (2, 90)] := by kernel_rfl
theorem cellsBx : Tryz.prog.cellsOf 92 = 3 := by kernel_rfl
theorem listBx {cs : List Value} {c0 c1 c2 : Value} (h : cs.length = 3) (h0 : cs[0]? = some c0) (h1 : cs[1]? = some c1) (h2 : cs[2]? = some c2) : cs = [c0, c1, c2] := by
  match cs, h with
  | [x0, x1, x2], _ => simp at h0 h1 h2; rw [h0, h1, h2]
theorem leavesPt : leavesAt Tryz.prog 6 48 = [(0, 9), (1, 9), (2, 3)] := by kernel_rfl
theorem cellsPt : Tryz.prog.cellsOf 48 = 3 := by kernel_rfl
theorem listPt {cs : List Value} {c0 c1 c2 : Value} (h : cs.length = 3) (h0 : cs[0]? = some c0) (h1 : cs[1]? = some c1) (h2 : cs[2]? = some c2) : cs = [c0, c1, c2] := by
  match cs, h with
  | [x0, x1, x2], _ => simp at h0 h1 h2; rw [h0, h1, h2]
theorem leavesDl : leavesAt Tryz.prog 6 53 = [(0, 9), (1, 9), (2, 9), (3, 9), (4, 9), (5, 9), (6, 9), (7, 9), (8, 9), (9, 9), (10, 2), (11, 51), (12, 3), (13, 3), (14, 3), (15, 3), (16, 3)] := by kernel_rfl
theorem cellsDl : Tryz.prog.cellsOf 53 = 17 := by kernel_rfl
theorem listDl {cs : List Value} {c0 c1 c2 c3 c4 c5 c6 c7 c8 c9 c10 c11 c12 c13 c14 c15 c16 : Value} (h : cs.length = 17) (h0 : cs[0]? = some c0) (h1 : cs[1]? = some c1) (h2 : cs[2]? = some c2) (h3 : cs[3]? = some c3) (h4 : cs[4]? = some c4) (h5 : cs[5]? = some c5) (h6 : cs[6]? = some c6) (h7 : cs[7]? = some c7) (h8 : cs[8]? = some c8) (h9 : cs[9]? = some c9) (h10 : cs[10]? = some c10) (h11 : cs[11]? = some c11) (h12 : cs[12]? = some c12) (h13 : cs[13]? = some c13) (h14 : cs[14]? = some c14) (h15 : cs[15]? = some c15) (h16 : cs[16]? = some c16) : cs = [c0, c1, c2, c3, c4, c5, c6, c7, c8, c9, c10, c11, c12, c13, c14, c15, c16] := by
  match cs, h with
  | [x0, x1, x2, x3, x4, x5, x6, x7, x8, x9, x10, x11, x12, x13, x14, x15, x16], _ => simp at h0 h1 h2 h3 h4 h5 h6 h7 h8 h9 h10 h11 h12 h13 h14 h15 h16; rw [h0, h1, h2, h3, h4, h5, h6, h7, h8, h9, h10, h11, h12, h13, h14, h15, h16]
theorem leavesLt : leavesAt Tryz.prog 6 57 = [(0, 9), (1, 9), (2, 3), (3, 3), (4, 3), (5, 9), (6, 9), (7, 9), (8, 3), (9, 3), (10, 9), (11, 2), (12, 54), (13, 55)] := by kernel_rfl
theorem cellsLt : Tryz.prog.cellsOf 57 = 14 := by kernel_rfl
theorem listLt {cs : List Value} {c0 c1 c2 c3 c4 c5 c6 c7 c8 c9 c10 c11 c12 c13 : Value} (h : cs.length = 14) (h0 : cs[0]? = some c0) (h1 : cs[1]? = some c1) (h2 : cs[2]? = some c2) (h3 : cs[3]? = some c3) (h4 : cs[4]? = some c4) (h5 : cs[5]? = some c5) (h6 : cs[6]? = some c6) (h7 : cs[7]? = some c7) (h8 : cs[8]? = some c8) (h9 : cs[9]? = some c9) (h10 : cs[10]? = some c10) (h11 : cs[11]? = some c11) (h12 : cs[12]? = some c12) (h13 : cs[13]? = some c13) : cs = [c0, c1, c2, c3, c4, c5, c6, c7, c8, c9, c10, c11, c12, c13] := by
  match cs, h with
  | [x0, x1, x2, x3, x4, x5, x6, x7, x8, x9, x10, x11, x12, x13], _ => simp at h0 h1 h2 h3 h4 h5 h6 h7 h8 h9 h10 h11 h12 h13; rw [h0, h1, h2, h3, h4, h5, h6, h7, h8, h9, h10, h11, h12, h13]
theorem open_lo (m : Nat) (cs : List Value) (x : DataW H × List MemPlace) (h : DataW.trod enc Tryz.prog W base spare held m 95 cs = some x) (hs : Small Tryz.prog 95 x.1) : ∃ a : kit.Lo, cs = loC a ∧ True := by
  obtain ⟨a0, e0, w0⟩ := leaf_string (o := 0) (u := 9) h 6 (by rw [leavesLo]; simp) Tryz.underlying9
  obtain ⟨a1, e1, w1⟩ := leaf_int (o := 1) (u := 3) (k := .i64) h 6 (by rw [leavesLo]; simp) Tryz.underlying3
  obtain ⟨_, _, _, _, hlen, _⟩ := DataW.trod_struct Tryz.underlying95 h
  exact ⟨(a0, a1), listLo (hlen.trans cellsLo) e0 e1, trivial⟩
theorem bytesLo : Tryz.prog.bytesOf 95 = 24 := by kernel_rfl
theorem bytesBx : Tryz.prog.bytesOf 92 = 48 := by kernel_rfl
theorem open_bx (m : Nat) (cs : List Value) (x : DataW H × List MemPlace) (h : DataW.trod enc Tryz.prog W base spare held m 92 cs = some x) (hs : Small Tryz.prog 92 x.1) : ∃ a : kit.Bx, cs = bxC a ∧ LotOK W a := by
  obtain ⟨a0, e0, w0⟩ := leaf_string (o := 0) (u := 9) h 6 (by rw [leavesBx]; simp) Tryz.underlying9
  obtain ⟨a1, e1, w1⟩ := leaf_int (o := 1) (u := 3) (k := .i64) h 6 (by rw [leavesBx]; simp) Tryz.underlying3
  obtain ⟨mm, y, en, ens⟩ := trod_leavesS 6 h hs (2, 90) (by rw [leavesBx]; simp)
  obtain ⟨A, l, c, xs, he, hl, hc, hsl, hw, hb⟩ := open_sliceS loC (fun _ => True) Tryz.underlying90 cellsLo (by omega) open_lo en ens
  rw [bytesLo] at hb
  obtain ⟨_, _, _, _, hlen, _⟩ := DataW.trod_struct Tryz.underlying92 h
  exact ⟨⟨a0, a1, A, l, c⟩, listBx (hlen.trans cellsBx) e0 e1 (one_at he), Nat.le_trans hb reach_47, xs, hsl⟩
def DxIn (W : World) (x : Dx) : Prop := BoxOK W x ∧ x.d.ok ∧ DxSz x
theorem open_dl (m : Nat) (cs : List Value) (x : DataW H × List MemPlace) (h : DataW.trod enc Tryz.prog W base spare held m 53 cs = some x) (hs : Small Tryz.prog 53 x.1) : ∃ a : kit.Dx, cs = dxC a ∧ DxIn W a := by
  obtain ⟨a0, e0, w0⟩ := leaf_stringS (o := 0) (u := 9) h hs 6 (by rw [leavesDl]; simp) Tryz.underlying9
  obtain ⟨a1, e1, w1⟩ := leaf_stringS (o := 1) (u := 9) h hs 6 (by rw [leavesDl]; simp) Tryz.underlying9
  obtain ⟨a2, e2, w2⟩ := leaf_stringS (o := 2) (u := 9) h hs 6 (by rw [leavesDl]; simp) Tryz.underlying9
  obtain ⟨a3, e3, w3⟩ := leaf_stringS (o := 3) (u := 9) h hs 6 (by rw [leavesDl]; simp) Tryz.underlying9
  obtain ⟨a4, e4, w4⟩ := leaf_stringS (o := 4) (u := 9) h hs 6 (by rw [leavesDl]; simp) Tryz.underlying9
  obtain ⟨a5, e5, w5⟩ := leaf_stringS (o := 5) (u := 9) h hs 6 (by rw [leavesDl]; simp) Tryz.underlying9
  obtain ⟨a6, e6, w6⟩ := leaf_stringS (o := 6) (u := 9) h hs 6 (by rw [leavesDl]; simp) Tryz.underlying9
  obtain ⟨a7, e7, w7⟩ := leaf_stringS (o := 7) (u := 9) h hs 6 (by rw [leavesDl]; simp) Tryz.underlying9
  obtain ⟨a8, e8, w8⟩ := leaf_stringS (o := 8) (u := 9) h hs 6 (by rw [leavesDl]; simp) Tryz.underlying9
  obtain ⟨a9, e9, w9⟩ := leaf_stringS (o := 9) (u := 9) h hs 6 (by rw [leavesDl]; simp) Tryz.underlying9
  obtain ⟨a10, e10, w10⟩ := leaf_int (o := 10) (u := 2) (k := .i64) h 6 (by rw [leavesDl]; simp) Tryz.underlying2
  obtain ⟨mm, y, en, ens⟩ := trod_leavesS 6 h hs (11, 51) (by rw [leavesDl]; simp)
  obtain ⟨A, l, c, xs, he, hl, hc, hsl, hw, hb⟩ := open_sliceS bxC (LotOK W) Tryz.underlying51 cellsBx (by omega) open_bx en ens
  rw [bytesBx] at hb
  obtain ⟨a12, e12, w12⟩ := leaf_int (o := 12) (u := 3) (k := .i64) h 6 (by rw [leavesDl]; simp) Tryz.underlying3
  obtain ⟨a13, e13, w13⟩ := leaf_int (o := 13) (u := 3) (k := .i64) h 6 (by rw [leavesDl]; simp) Tryz.underlying3
  obtain ⟨a14, e14, w14⟩ := leaf_int (o := 14) (u := 3) (k := .i64) h 6 (by rw [leavesDl]; simp) Tryz.underlying3
  obtain ⟨a15, e15, w15⟩ := leaf_int (o := 15) (u := 3) (k := .i64) h 6 (by rw [leavesDl]; simp) Tryz.underlying3
  obtain ⟨a16, e16, w16⟩ := leaf_int (o := 16) (u := 3) (k := .i64) h 6 (by rw [leavesDl]; simp) Tryz.underlying3
  obtain ⟨_, _, _, _, hlen, _⟩ := DataW.trod_struct Tryz.underlying53 h
  exact ⟨⟨⟨a0, a1, a2, a3, a4, a5, a6, a7, a8, a9, a10, a12, a13, a14, a15, a16⟩, A, l, c⟩, listDl (hlen.trans cellsDl) e0 e1 e2 e3 e4 e5 e6 e7 e8 e9 e10 (one_at he) e12 e13 e14 e15 e16, ⟨Nat.le_trans hb reach_47, xs, hsl, hw⟩, ⟨Nat.le_trans w0 reach_47, Nat.le_trans w9 reach_max, i64_of_wf w10, i64_of_wf w16⟩, ⟨Nat.le_trans w0 reach_47, Nat.le_trans w1 reach_47, Nat.le_trans w2 reach_47, Nat.le_trans w3 reach_47, Nat.le_trans w4 reach_47, Nat.le_trans w5 reach_47, Nat.le_trans w6 reach_47, Nat.le_trans w7 reach_47, Nat.le_trans w8 reach_47, Nat.le_trans w9 reach_47⟩⟩
theorem open_pt (m : Nat) (cs : List Value) (x : DataW H × List MemPlace) (h : DataW.trod enc Tryz.prog W base spare held m 48 cs = some x) (hs : Small Tryz.prog 48 x.1) : ∃ a : kit.Pty, cs = ptyC a ∧ PtSz a := by
  obtain ⟨a0, e0, w0⟩ := leaf_stringS (o := 0) (u := 9) h hs 6 (by rw [leavesPt]; simp) Tryz.underlying9
  obtain ⟨a1, e1, w1⟩ := leaf_stringS (o := 1) (u := 9) h hs 6 (by rw [leavesPt]; simp) Tryz.underlying9
  obtain ⟨a2, e2, w2⟩ := leaf_int (o := 2) (u := 3) (k := .i64) h 6 (by rw [leavesPt]; simp) Tryz.underlying3
  obtain ⟨_, _, _, _, hlen, _⟩ := DataW.trod_struct Tryz.underlying48 h
  exact ⟨⟨a0, a1, a2⟩, listPt (hlen.trans cellsPt) e0 e1 e2, Nat.le_trans w0 reach_47, Nat.le_trans w1 reach_47⟩
theorem any_slice {m : Nat} {t e : TypeId} {cs : List Value} {x : DataW H × List MemPlace} (ht : Tryz.prog.underlying t = some (.slice e)) (h : DataW.trod enc Tryz.prog W base spare held m t cs = some x) : ∃ A l c, cs = [.slice A l c] := by
  rcases Deep.open_slice ht h with ⟨rfl, _⟩ | ⟨a, len, cap, M, n, D, Pl, rfl, _⟩
  · exact ⟨none, 0, 0, rfl⟩
  · exact ⟨_, _, _, rfl⟩
theorem open_lt (m : Nat) (cs : List Value) (x : DataW H × List MemPlace) (h : DataW.trod enc Tryz.prog W base spare held m 57 cs = some x) (hs : Small Tryz.prog 57 x.1) : ∃ a : kit.Lt, cs = ltC a ∧ I64 a.amt := by
  obtain ⟨a0, e0, w0⟩ := leaf_string (o := 0) (u := 9) h 6 (by rw [leavesLt]; simp) Tryz.underlying9
  obtain ⟨a1, e1, w1⟩ := leaf_string (o := 1) (u := 9) h 6 (by rw [leavesLt]; simp) Tryz.underlying9
  obtain ⟨a2, e2, w2⟩ := leaf_int (o := 2) (u := 3) (k := .i64) h 6 (by rw [leavesLt]; simp) Tryz.underlying3
  obtain ⟨a3, e3, w3⟩ := leaf_int (o := 3) (u := 3) (k := .i64) h 6 (by rw [leavesLt]; simp) Tryz.underlying3
  obtain ⟨a4, e4, w4⟩ := leaf_int (o := 4) (u := 3) (k := .i64) h 6 (by rw [leavesLt]; simp) Tryz.underlying3
  obtain ⟨a5, e5, w5⟩ := leaf_string (o := 5) (u := 9) h 6 (by rw [leavesLt]; simp) Tryz.underlying9
  obtain ⟨a6, e6, w6⟩ := leaf_string (o := 6) (u := 9) h 6 (by rw [leavesLt]; simp) Tryz.underlying9
  obtain ⟨a7, e7, w7⟩ := leaf_string (o := 7) (u := 9) h 6 (by rw [leavesLt]; simp) Tryz.underlying9
  obtain ⟨a8, e8, w8⟩ := leaf_int (o := 8) (u := 3) (k := .i64) h 6 (by rw [leavesLt]; simp) Tryz.underlying3
  obtain ⟨a9, e9, w9⟩ := leaf_int (o := 9) (u := 3) (k := .i64) h 6 (by rw [leavesLt]; simp) Tryz.underlying3
  obtain ⟨a10, e10, w10⟩ := leaf_string (o := 10) (u := 9) h 6 (by rw [leavesLt]; simp) Tryz.underlying9
  obtain ⟨a11, e11, w11⟩ := leaf_int (o := 11) (u := 2) (k := .i64) h 6 (by rw [leavesLt]; simp) Tryz.underlying2
  obtain ⟨m1, y1, en1, _⟩ := trod_leavesS 6 h hs (12, 54) (by rw [leavesLt]; simp)
  obtain ⟨A1, n1, c1, he1⟩ := any_slice Tryz.underlying54 en1
  obtain ⟨m2, y2, en2, _⟩ := trod_leavesS 6 h hs (13, 55) (by rw [leavesLt]; simp)
  obtain ⟨A2, n2, c2, he2⟩ := any_slice Tryz.underlying55 en2
  obtain ⟨_, _, _, _, hlen, _⟩ := DataW.trod_struct Tryz.underlying57 h
  exact ⟨⟨a0, a1, a2, a3, a4, a5, a6, a7, a8, a9, a10, a11, A1, n1, c1, A2, n2, c2⟩, listLt (hlen.trans cellsLt) e0 e1 e2 e3 e4 e5 e6 e7 e8 e9 e10 e11 (one_at he1) (one_at he2), i64_of_wf w11⟩
end
end Go.Proofs.YtdanjegnhdpnlaaGreatDoor

namespace Go.Proofs.YtdanjegnhdpnlaaGreatDoor
open Go.RowKit Go.Proofs.YtdanjegnhdpnlaaGreatDoor.kit
open Go.ChangeShapes Go.WideShapes Go.ChangeAt
set_option linter.unusedVariables false
set_option maxRecDepth 100000
theorem own : ownKnob Tryz.prog.godebug = none := by kernel_rfl
theorem laidOut : laidOutB Tryz.prog = true := by kernel_rfl
theorem leavesSu : leavesAt Tryz.prog 6 29 = [(0, 22), (1, 23), (2, 24), (3, 25), (4, 25)] := by kernel_rfl
theorem cellsSu : Tryz.prog.cellsOf 29 = 5 := by kernel_rfl
theorem listSu {cs : List Value} {c0 c1 c2 c3 c4 : Value} (h : cs.length = 5) (h0 : cs[0]? = some c0) (h1 : cs[1]? = some c1) (h2 : cs[2]? = some c2) (h3 : cs[3]? = some c3) (h4 : cs[4]? = some c4) : cs = [c0, c1, c2, c3, c4] := by
  match cs, h with
  | [x0, x1, x2, x3, x4], _ => simp at h0 h1 h2 h3 h4; rw [h0, h1, h2, h3, h4]
structure SuIn (W : World) (s : Su) (ps : List Pty) (xs : List Dx) : Prop where
  p : SliceOf W 3 ptyC s.pA s.pn ps
  d : SliceOf W 17 dxC s.dA s.dn xs
  x : ∀ x ∈ xs, DxIn W x
  ps : ∀ p ∈ ps, PtSz p
  pn : s.pn ≤ maxLen
  dn : s.dn ≤ maxLen
section
variable {H : Type} {enc : TypeId × Value → H} {W : World} {base : Nat} {spare : Nat → Bool} {held : Bool}
theorem open_su (m : Nat) (cs : List Value) (x : DataW H × List MemPlace) (h : DataW.trod enc Tryz.prog W base spare held m 29 cs = some x) (hs : Small Tryz.prog 29 x.1) : ∃ (s : Su) (ps : List Pty) (xs : List Dx), cs = (#[.slice s.pA s.pn s.pc, .slice s.dA s.dn s.dc, .slice s.fA s.fn s.fc, .slice s.rA s.rn s.rc, .slice s.hA s.hn s.hc]).toList ∧ SuIn W s ps xs := by
  obtain ⟨m0, y0, en0, es0⟩ := trod_leavesS 6 h hs (0, 22) (by rw [leavesSu]; simp)
  obtain ⟨A0, l0, c0, ps, he0, hl0, hc0, hs0, hx0, _⟩ := open_sliceS ptyC PtSz Tryz.underlying22 cellsPt (by omega) open_pt en0 es0
  obtain ⟨m1, y1, en1, es1⟩ := trod_leavesS 6 h hs (1, 23) (by rw [leavesSu]; simp)
  obtain ⟨A1, l1, c1, xs, he1, hl1, hc1, hs1, hx1, _⟩ := open_sliceS dxC (DxIn W) Tryz.underlying23 cellsDl (by omega) open_dl en1 es1
  obtain ⟨m2, y2, en2, _⟩ := trod_leavesS 6 h hs (2, 24) (by rw [leavesSu]; simp)
  obtain ⟨A2, n2, c2, he2⟩ := any_slice Tryz.underlying24 en2
  obtain ⟨m3, y3, en3, _⟩ := trod_leavesS 6 h hs (3, 25) (by rw [leavesSu]; simp)
  obtain ⟨A3, n3, c3, he3⟩ := any_slice Tryz.underlying25 en3
  obtain ⟨m4, y4, en4, _⟩ := trod_leavesS 6 h hs (4, 25) (by rw [leavesSu]; simp)
  obtain ⟨A4, n4, c4, he4⟩ := any_slice Tryz.underlying25 en4
  obtain ⟨_, _, _, _, hlen, _⟩ := DataW.trod_struct Tryz.underlying29 h
  exact ⟨⟨A0, l0, c0, A1, l1, c1, A2, n2, c2, A3, n3, c3, A4, n4, c4⟩, ps, xs, listSu (hlen.trans cellsSu) (one_at he0) (one_at he1) (one_at he2) (one_at he3) (one_at he4), ⟨hs0, hs1, hx1, hx0, Nat.le_trans hl0 hc0, Nat.le_trans hl1 hc1⟩⟩
theorem small_at {ts : List TypeId} {ds : List (DataW H)} (hsz : (DataW.weightsEach Tryz.prog ts ds).all (· ≤ reachBytes) = true) {j : Nat} {t : TypeId} {d : DataW H} (ht : ts[j]? = some t) (hd : ds[j]? = some d) : Small Tryz.prog t d :=
  fun k hk => of_decide_eq_true (List.all_eq_true.1 hsz _ (DataW.weights_mem_each ht hd k hk))
theorem open_su_arg {v : Value} {d : DataW H} {p : List MemPlace} (hz : Small Tryz.prog 29 d) (hv : Value.okWide Tryz.prog W .any base 29 v) (h : DataW.Trod enc Tryz.prog W 0 spare held 29 v d p) : ∃ (s : Su) (ps : List Pty) (xs : List Dx), v = .agg #[.slice s.pA s.pn s.pc, .slice s.dA s.dn s.dc, .slice s.fA s.fn s.fc, .slice s.rA s.rn s.rc, .slice s.hA s.hn s.hc] ∧ SuIn W s ps xs := by
  obtain ⟨cs, rfl, _⟩ := okWide_struct Tryz.underlying29 hv
  obtain ⟨m, hm⟩ := h
  obtain ⟨s, ps, xs, hr, wr⟩ := open_su m _ _ hm hz
  refine ⟨s, ps, xs, ?_, wr⟩
  have : cs = #[.slice s.pA s.pn s.pc, .slice s.dA s.dn s.dc, .slice s.fA s.fn s.fc, .slice s.rA s.rn s.rc, .slice s.hA s.hn s.hc] := by
    apply Array.toList_inj.1
    simpa [Value.cells] using hr
  rw [this]
theorem open_lts_arg {v : Value} {d : DataW H} {p : List MemPlace} (hz : Small Tryz.prog 30 d) (hv : Value.okWide Tryz.prog W .any base 30 v) (h : DataW.Trod enc Tryz.prog W 0 spare held 30 v d p) :
    ∃ A n c ls, v = .slice A n c ∧ n ≤ maxLen ∧ SliceOf W 14 ltC A n ls ∧ ∀ l ∈ ls, I64 l.amt := by
  obtain ⟨a, n, c, rfl⟩ := okWide_slice Tryz.underlying30 hv
  obtain ⟨m, hm⟩ := h
  obtain ⟨A, l, c', xs, he, hl, hc, hs, hw, _⟩ := open_sliceS ltC (fun l : kit.Lt => I64 l.amt) Tryz.underlying30 cellsLt (by omega) open_lt hm hz
  simp [Value.cells] at he
  obtain ⟨rfl, rfl, rfl⟩ := he
  exact ⟨_, _, _, xs, rfl, Nat.le_trans hl hc, hs, hw⟩
end
theorem gPow : Tryz.prog.globalNamed "internal/strconv.uint64pow10" = some 0 := by kernel_rfl
theorem tab2 {W : World} (h : laidMet Tryz.prog [("internal/strconv.uint64pow10", Rows.laid_internal_strconv_uint64pow10)] W) : Lib.TabIs Tryz.prog W "internal/strconv.uint64pow10" .u64 Lib.pow10Tab :=
  Lib.tabIs_of_head (t := 154) (e := 121) gPow (by kernel_rfl) Tryz.underlying154 Tryz.underlying121 (by kernel_rfl) (by kernel_rfl) (rest := []) h
end Go.Proofs.YtdanjegnhdpnlaaGreatDoor

