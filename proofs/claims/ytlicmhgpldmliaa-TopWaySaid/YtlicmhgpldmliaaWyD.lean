/- Voyages: the search that a way begins with. No condition. -/
import Derived.Test.YtlicmhgpldmliaaWyC
namespace Go.Proofs.Ytlicmhgpldmliaa.kit
open Go.RowKit
set_option linter.unusedVariables false
set_option linter.unusedSimpArgs false
def Vz : Vy := ⟨⟨#[]⟩, none, 0, 0, []⟩
/-- Small enough to be asked about. -/
def Sm (v : Vy) : Prop := v.ship.size ≤ 60 ∧ v.n ≤ 8 ∧ ∀ x ∈ v.cs, x.port.size ≤ 60
/-- Voyages of which those that may not be are nothing. -/
def Sift (vs us : List Vy) : Prop := us.length = vs.length ∧ ∀ (i : Nat) (u : Vy), us[i]? = some u → (u = Vz ∧ ∀ v, vs[i]? = some v → ¬ VyOK v) ∨ (vs[i]? = some u ∧ VyOK u)
def StartP (n : Nat) (fr : ByteArray) (ch : Int) (vs : List Vy) (w : World) (e : Ending) (w' : World) : Prop :=
  ∃ A' c' us, e = .returned (.agg #[.slice A' n c', .string fr, .int .i64 ch]) ∧ n ≤ c' ∧ Sift vs us ∧ SliceOf w' 2 vyC A' n us ∧ Lie w' us ∧ Below w.heap.size w w'
theorem infoVy : (Try.prog.info? 48).map (fun i => (i.zero, i.size, i.bytes)) = some (some (.agg #[.string ⟨#[]⟩, .slice none 0 0]), 2, 40) := by kernel_rfl
theorem vy_at {w : World} {A : Option Addr} {n : Nat} {xs : List Vy} (h : SliceOf w 2 vyC A n xs) {k : Nat} (hk : k < n) : ∃ b off x, A = some ⟨b, off, none⟩ ∧ xs[k]? = some x ∧ ∀ j v, (vyC x)[j]? = some v → w.cell? ⟨b, off + k * 2 + j, none⟩ = some v := by
  have hl := h.len
  obtain ⟨x, hxk⟩ : ∃ x, xs[k]? = some x := ⟨_, List.getElem?_eq_getElem (by omega)⟩
  obtain ⟨b, off, rfl, hb, hc⟩ := h.at_ (by omega)
  exact ⟨b, off, x, rfl, hxk, fun j v hv => by have := hc k _ hxk j v hv; rwa [← Nat.add_assoc] at this⟩
theorem lie_vz (W : World) : SliceOf W 4 clC Vz.A Vz.n Vz.cs := SliceOf.none_
theorem vbuild0 (w : World) : (Instr.build 48 #[]).run Try.prog w = .ok (.agg #[.string ⟨#[]⟩, .slice none 0 0]) w := run_build w _ _ _ (by kernel_rfl)
theorem sbuild (w : World) (fr : ByteArray) (ch : Int) : (Instr.build 94 #[(1, .string fr), (2, .int .i64 ch)]).run Try.prog w = .ok (.agg #[.slice none 0 0, .string fr, .int .i64 ch]) w := run_build w _ _ _ (by kernel_rfl)
theorem vslice (w : World) (s : ByteArray) (A : Option Addr) (n c : Nat) : (Instr.buildSlice 45 1 #[(0, .agg #[.string s, .slice A n c])]).run Try.prog w = .ok (.slice (some ⟨w.heap.size, 0, none⟩) 1 1) (w.alloc (.cells #[.string s, .slice A n c] 48)) := by kernel_rfl
theorem own_sliceV {w : World} {base n : Nat} {e : TypeId} {C : Nat} {v : Value} {ys : List Value} (h : w.ownsRow base e C v n ys) : ∃ A c, v = .slice A n c ∧ n ≤ c := by
  rcases h.2 with ⟨hv, h0⟩ | ⟨g, cap, cur, hv, _, _, hc, _⟩
  · exact ⟨none, 0, by rw [hv, h0], by omega⟩
  · exact ⟨_, _, hv, hc⟩
def UOK (vs : List Vy) (k : Nat) (u : Vy) : Prop := (u = Vz ∧ ∀ v, vs[k]? = some v → ¬ VyOK v) ∨ (vs[k]? = some u ∧ VyOK u)
/-- The round's end: one voyage more. -/
theorem Sift.up {vs us : List Vy} {k : Nat} (h : us.length = k ∧ ∀ (i : Nat) (u : Vy), us[i]? = some u → (u = Vz ∧ ∀ v, vs[i]? = some v → ¬ VyOK v) ∨ (vs[i]? = some u ∧ VyOK u)) {u : Vy} (hu : UOK vs k u) : (us ++ [u]).length = k + 1 ∧ ∀ (i : Nat) (z : Vy), (us ++ [u])[i]? = some z → (z = Vz ∧ ∀ v, vs[i]? = some v → ¬ VyOK v) ∨ (vs[i]? = some z ∧ VyOK z) := by
  refine ⟨by rw [List.length_append, h.1]; rfl, fun i z hz => ?_⟩
  by_cases e : i < us.length
  · rw [List.getElem?_append_left e] at hz
    exact h.2 i z hz
  · rw [List.getElem?_append_right (by omega)] at hz
    have hi : i - us.length = 0 := by
      have := (List.getElem?_eq_some_iff.1 hz).1
      simp at this
      omega
    rw [hi] at hz
    simp at hz
    subst hz
    rw [show i = k by omega]
    exact hu
set_option maxRecDepth 100000 in
set_option maxHeartbeats 6400000 in
theorem start_any (A : Option Addr) (n c : Nat) (vs : List Vy) (fr : ByteArray) (ch : Int) (w : World) (hx : SliceOf w 2 vyC A n vs) (hl : Lie w vs) (hn : n ≤ 6) (hs : ∀ v ∈ vs, Sm v) (hch : 0 ≤ ch ∧ ch ≤ 255) :
    Calls Try.prog 35 #[.slice A n c, .string fr, .int .i64 ch] w (StartP n fr ch vs w) := by
  have HX := Lib.hid hx
  have HLI := Lib.hid hl
  have HSM := Lib.hid hs
  have hmx : max ch 0 = ch := by omega
  have hmn : min ch 1048576 = ch := by omega
  have hb0 := vbuild0
  have hsb := sbuild
  have hvs := vslice
  have HB0 := Lib.hid (two_alloc w (.cells #[.slice none 0 0, .string ⟨#[]⟩, .int .i64 0] 94) (.cells #[.slice none 0 0, .string fr, .int .i64 ch] 94))
  have HR0 := Lib.hid ((Blk.new w 94 #[.slice none 0 0, .string ⟨#[]⟩, .int .i64 0]).alloc (.cells #[.slice none 0 0, .string fr, .int .i64 ch] 94))
  have HS0 := Lib.hid (blk_second w (.cells #[.slice none 0 0, .string ⟨#[]⟩, .int .i64 0] 94) 94 #[.slice none 0 0, .string fr, .int .i64 ch])
  obtain ⟨i0, hi, hz0, hz1, hz2⟩ := info_parts infoVy
  have hq0 : 0 < 2 := by omega
  clear hx hl hs hch
  go_enter Try.func35, Try.ntmps35
  go_upto_region 3 with ((refine stop_store 94 _ _ rfl ?_; refine wpList_store_new rfl 94 _ _ rfl _ rfl rfl (by kernel_rfl) rfl rfl ?_))
  obtain ⟨w1, hw1⟩ : ∃ W, ((w.alloc (.cells #[.slice none 0 0, .string ⟨#[]⟩, .int .i64 0] 94)).alloc (.cells #[.slice none 0 0, .string fr, .int .i64 ch] 94)) = W := ⟨_, rfl⟩
  have HS1 : Hid (w1.heap.size = w.heap.size + 2) := Lib.hid (by rw [← hw1, sz_alloc, sz_alloc])
  rw [hw1] at HB0 HR0 HS0 ⊢
  obtain ⟨g, hg⟩ : ∃ g, w.heap.size = g := ⟨_, rfl⟩
  rw [hg] at HR0 HS0 HS1
  simp only [hg]
  have HG := Lib.hid hg
  clear hw1 hg
  go_loopw [17] (fun i wr => ∃ (k : Nat) (us : List Vy) (sl : Value), k ≤ n ∧ i = .int .i64 k ∧ Hid (us.length = k ∧ ∀ (i : Nat) (u : Vy), us[i]? = some u → (u = Vz ∧ ∀ v, vs[i]? = some v → ¬ VyOK v) ∨ (vs[i]? = some u ∧ VyOK u)) ∧ Hid (∀ z ∈ us, z = Vz ∨ z ∈ vs) ∧ Hid (Blk wr (g + 1) 94 #[sl, .string fr, .int .i64 ch]) ∧ Hid (Blk wr g 94 #[.slice none 0 0, .string ⟨#[]⟩, .int .i64 0]) ∧ Hid (wr.ownsRow (g + 2) 48 2 sl k (us.flatMap vyC)) ∧ Hid (Below w.heap.size w wr) ∧ Hid (g + 2 ≤ wr.heap.size)) (fun i _ => n - (intOf i).toNat)
  case atStart => exact ⟨0, [], .slice none 0 0, by omega, rfl, Lib.hid ⟨rfl, by simp⟩, Lib.hid (by simp), HS0, HR0, Lib.hid (World.ownsRow_nil _ _ _ _), HB0, Lib.hid (by have := HS1.out; omega)⟩
  case round =>
    obtain ⟨k, us, sl, hk, rfl, HUS, HLU, HKw, HRw, HOw, HBw, HSw⟩ := hrel
    obtain ⟨As, cs_, rfl, hcap⟩ := own_sliceV HOw.out
    by_cases hlt : k < n
    · obtain ⟨b, off, v, rfl, hvk, hc⟩ := vy_at (HX.out.below HBw.out) hlt
      have HVK := Lib.hid hvk
      have hmem := List.mem_of_getElem? hvk
      have HSv := Lib.hid (HSM.out v hmem)
      have HLv := Lib.hid ((HLI.out v hmem).below HBw.out)
      obtain ⟨ship, vA, vn, vc, calls⟩ := v
      have d0 := hc 0 _ rfl; have d1 := hc 1 _ rfl
      rw [Nat.add_zero] at d0
      dsimp only at d0 d1
      have hkn : (k : Int) < (n : Int) := by omega
      have HV1 := Lib.hid (Blk.new wr 48 #[.string ship, .slice vA vn vc])
      have HK1 := Lib.hid (HKw.out.alloc (.cells #[.string ship, .slice vA vn vc] 48))
      have HR1 := Lib.hid (HRw.out.alloc (.cells #[.string ship, .slice vA vn vc] 48))
      have HO1 := Lib.hid (HOw.out.alloc (.cells #[.string ship, .slice vA vn vc] 48))
      have HB1 := Lib.hid (HBw.out.alloc HBw.out.size (.cells #[.string ship, .slice vA vn vc] 48))
      have HL1 := Lib.hid (HLv.out.below (one_alloc wr (.cells #[.string ship, .slice vA vn vc] 48)))
      have HS1 : Hid (g + 2 ≤ (wr.alloc (.cells #[.string ship, .slice vA vn vc] 48)).heap.size) := Lib.hid (by rw [sz_alloc]; have := HSw.out; omega)
      have HGV : Hid (g + 2 ≤ wr.heap.size) := Lib.hid HSw.out
      have HNG : Hid (∀ q, (Value.slice As k cs_).ownBlock = some q → q < wr.heap.size) := Lib.hid (fun q hq => (HOw.out.lt q hq).2)
      clear hc hvk hmem HLv HKw HRw HOw HBw HSw
      go_upto_region 5 with ((refine stop_store 48 _ _ rfl ?_; refine wpList_store_new rfl 48 _ _ rfl _ rfl rfl (by kernel_rfl) rfl rfl ?_))
      obtain ⟨w2, hw2⟩ : ∃ W, wr.alloc (.cells #[.string ship, .slice vA vn vc] 48) = W := ⟨_, rfl⟩
      obtain ⟨gv, hgv⟩ : ∃ q, wr.heap.size = q := ⟨_, rfl⟩
      rw [hw2] at HV1 HK1 HR1 HO1 HB1 HL1 HS1 ⊢
      rw [hgv] at HV1 HGV HNG
      simp only [hgv]
      clear hw2 hgv d0 d1
      have y0 := HV1.out.cell 0; have y1 := HV1.out.cell 1
      simp only [List.getElem?_toArray, List.getElem?_cons_zero, List.getElem?_cons_succ] at y0 y1
      go_wp2_with fail
      refine (may_any ⟨ship, vA, vn, vc, calls⟩ _ HSv.out.1 HL1.out HSv.out.2.1 HSv.out.2.2).mono ?_
      rintro e w3 ⟨bb, rfl, hbb, hbn, hb3⟩
      have HVs := Lib.hid (HV1.out.below hb3 HV1.out.lt)
      have HKs := Lib.hid (HK1.out.below hb3 HK1.out.lt)
      have HRs := Lib.hid (HR1.out.below hb3 HR1.out.lt)
      have HOs := Lib.hid (own_kept_below HO1.out hb3)
      have HBs := Lib.hid (HB1.out.trans (hb3.mono HB1.out.size))
      have HSs := Lib.hid (Nat.le_trans HS1.out hb3.size)
      clear hb3 HV1 HK1 HR1 HO1 HB1 HS1 HL1 y0 y1
      by_cases hbt : bb = true
      · subst hbt
        have HU := Lib.hid (show UOK vs k ⟨ship, vA, vn, vc, calls⟩ from .inr ⟨HVK.out, hbb rfl⟩)
        clear hbb hbn
        have HVC := HVs.out.cell 0; have HVD := HVs.out.cell 1
        have HKC := HKs.out.cell 0
        simp only [List.getElem?_toArray, List.getElem?_cons_zero, List.getElem?_cons_succ] at HVC HVD HKC
        have HO3 := Lib.hid (HOs.out.alloc (.cells #[.string ship, .slice vA vn vc] 48))
        have HB3 := Lib.hid (HBs.out.alloc HBs.out.size (.cells #[.string ship, .slice vA vn vc] 48))
        have HK3 := Lib.hid (HKs.out.alloc (.cells #[.string ship, .slice vA vn vc] 48))
        have HR3 := Lib.hid (HRs.out.alloc (.cells #[.string ship, .slice vA vn vc] 48))
        have HSX : Hid (g + 2 ≤ (w3.alloc (.cells #[.string ship, .slice vA vn vc] 48)).heap.size) := Lib.hid (by rw [sz_alloc]; have := HSs.out; omega)
        have HNW := Lib.hid ((SliceOf.new w3 48 #[.string ship, .slice vA vn vc] w3.heap.size rfl [(⟨ship, vA, vn, vc, calls⟩ : Vy)] rfl vy_len rfl).reads vy_len)
        have hq5 := vy_one [(⟨ship, vA, vn, vc, calls⟩ : Vy)]
        have hq3 : k + 1 ≤ maxLen := by unfold maxLen; omega
        have hq4 : (k + 1) * 40 ≤ 140737488355328 := by omega
        have HFZ := Lib.hid (fun (W9 : World) (h : (w3.alloc (.cells #[.string ship, .slice vA vn vc] 48)).grownBy W9 (Value.slice As k cs_).ownBlock) => HK3.out.grown h (fun e => own_blk_ne HO3.out HK3.out (by decide) e.symm))
        have HFY := Lib.hid (fun (W9 : World) (h : (w3.alloc (.cells #[.string ship, .slice vA vn vc] 48)).grownBy W9 (Value.slice As k cs_).ownBlock) => HR3.out.grown h (fun e => own_blk_ne HO3.out HR3.out (by decide) e.symm))
        go_upto_region 8 with (at_builtin; refine wpList_append_any_s _ rfl (.tmp 26) (.tmp 28) 45 rfl (g + 2) 48 i0 _ 2 40 Try.underlying45 hi hz0 hz1 hz2 rfl hq0 _ k _ rfl HO3.out _ (some ⟨w3.heap.size, 0, none⟩) 1 1 ([(⟨ship, vA, vn, vc, calls⟩ : Vy)].flatMap vyC) rfl HNW.out hq5 hq3 hq4 HSX.out ?_; intro A9 c9 w9 hown9 hg9 hl0; have HB9 := Lib.hid (HB3.out.grown hg9 HB3.out.size (fun q hq => by have := (HO3.out.lt q hq).1; have := HG.out; omega)); have HO9 := Lib.hid hown9; have HK9 := Lib.hid (HFZ.out _ hg9); have HR9 := Lib.hid (HFY.out _ hg9); have HS9 : Hid (g + 2 ≤ w9.heap.size) := Lib.hid (Nat.le_trans HSX.out hg9.size); clear hown9 hg9 hl0; have k9 := HK9.out.cell 0; have f9 := HK9.out.frozen 0; simp only [List.getElem?_toArray, List.getElem?_cons_zero] at k9)
        have HUU := Lib.hid (Sift.up HUS.out HU.out)
        have HLL : Hid (∀ z ∈ us ++ [(⟨ship, vA, vn, vc, calls⟩ : Vy)], z = Vz ∨ z ∈ vs) := Lib.hid (fun z hz => by rcases List.mem_append.1 hz with h | h; exact HLU.out z h; simp at h; subst h; exact HU.out.elim (fun q => .inl q.1) (fun q => .inr (List.mem_of_getElem? q.1)))
        have HOE : Hid ((w9.setCell ⟨g + 1, 0, none⟩ (.slice A9 (k + 1) c9)).ownsRow (g + 2) 48 2 (.slice A9 (k + 1) c9) (k + 1) ((us ++ [(⟨ship, vA, vn, vc, calls⟩ : Vy)]).flatMap vyC)) := Lib.hid (own_fr (by rw [List.flatMap_append]; exact HO9.out) ((Fr.refl (fun q => q = g + 1) w9).setCell (p := ⟨g + 1, 0, none⟩) (.inl rfl) _) (fun q hq e => own_blk_ne HO9.out HK9.out (by decide) (by rw [hq, e])))
        have HKE : Hid (Blk (w9.setCell ⟨g + 1, 0, none⟩ (.slice A9 (k + 1) c9)) (g + 1) 94 #[.slice A9 (k + 1) c9, .string fr, .int .i64 ch]) := Lib.hid (by have := HK9.out.set_ 0 (.slice A9 (k + 1) c9); simpa using this)
        have HRE : Hid (Blk (w9.setCell ⟨g + 1, 0, none⟩ (.slice A9 (k + 1) c9)) g 94 #[.slice none 0 0, .string ⟨#[]⟩, .int .i64 0]) := Lib.hid (HR9.out.far (p := ⟨g + 1, 0, none⟩) (by simp) _)
        have HBE : Hid (Below w.heap.size w (w9.setCell ⟨g + 1, 0, none⟩ (.slice A9 (k + 1) c9))) := Lib.hid (HB9.out.setCell (p := ⟨g + 1, 0, none⟩) (by have := HG.out; simp; omega) _)
        have HSE : Hid (g + 2 ≤ (w9.setCell ⟨g + 1, 0, none⟩ (.slice A9 (k + 1) c9)).heap.size) := Lib.hid (by simpa [World.setCell] using HS9.out)
        go_wp2_with fail
        go_roundw
        case rel => exact ⟨k + 1, us ++ [(⟨ship, vA, vn, vc, calls⟩ : Vy)], .slice A9 (k + 1) c9, by omega, by go_num, HUU, HLL, HKE, HRE, HOE, HBE, HSE⟩
        case measure => simp [intOf]; omega
      · have hbf : bb = false := by simpa using hbt
        subst hbf
        have HU := Lib.hid (show UOK vs k Vz from .inl ⟨rfl, fun v hv => by rw [HVK.out] at hv; injection hv with hv; subst hv; exact hbn rfl⟩)
        clear hbb hbt hbn
        go_upto_region 7 with ((refine stop_store 48 _ _ rfl ?_; refine wpList_store_fr rfl 48 _ _ rfl _ rfl rfl HVs.out (by kernel_rfl) rfl rfl ?_; intro w4 hn4 fr4))
        have HV4 := Lib.hid hn4
        have HK4 := Lib.hid (HKs.out.fr fr4 (by have := HGV.out; omega))
        have HR4 := Lib.hid (HRs.out.fr fr4 (by have := HGV.out; omega))
        have HO4 := Lib.hid (own_fr HOs.out fr4 (fun q hq e => by have := HNG.out q hq; omega))
        have HB4 := Lib.hid (fr4.bel HBs.out (fun q e => by have := HGV.out; have := HG.out; omega) HBs.out.size)
        have HS4 := Lib.hid (Nat.le_trans HSs.out fr4.size)
        clear hn4 fr4 HVs HKs HRs HOs HBs HSs
        have HVs := HV4; have HKs := HK4; have HRs := HR4; have HOs := HO4; have HBs := HB4; have HSs := HS4
        clear HV4 HK4 HR4 HO4 HB4 HS4
        have HVC := HVs.out.cell 0; have HVD := HVs.out.cell 1
        have HKC := HKs.out.cell 0
        simp only [List.getElem?_toArray, List.getElem?_cons_zero, List.getElem?_cons_succ] at HVC HVD HKC
        have HO3 := Lib.hid (HOs.out.alloc (.cells #[.string (⟨#[]⟩ : ByteArray), .slice (none : Option Addr) 0 0] 48))
        have HB3 := Lib.hid (HBs.out.alloc HBs.out.size (.cells #[.string (⟨#[]⟩ : ByteArray), .slice (none : Option Addr) 0 0] 48))
        have HK3 := Lib.hid (HKs.out.alloc (.cells #[.string (⟨#[]⟩ : ByteArray), .slice (none : Option Addr) 0 0] 48))
        have HR3 := Lib.hid (HRs.out.alloc (.cells #[.string (⟨#[]⟩ : ByteArray), .slice (none : Option Addr) 0 0] 48))
        have HSX : Hid (g + 2 ≤ (w4.alloc (.cells #[.string (⟨#[]⟩ : ByteArray), .slice (none : Option Addr) 0 0] 48)).heap.size) := Lib.hid (by rw [sz_alloc]; have := HSs.out; omega)
        have HNW := Lib.hid ((SliceOf.new w4 48 #[.string (⟨#[]⟩ : ByteArray), .slice (none : Option Addr) 0 0] w4.heap.size rfl [Vz] rfl vy_len rfl).reads vy_len)
        have hq5 := vy_one [Vz]
        have hq3 : k + 1 ≤ maxLen := by unfold maxLen; omega
        have hq4 : (k + 1) * 40 ≤ 140737488355328 := by omega
        have HFZ := Lib.hid (fun (W9 : World) (h : (w4.alloc (.cells #[.string (⟨#[]⟩ : ByteArray), .slice (none : Option Addr) 0 0] 48)).grownBy W9 (Value.slice As k cs_).ownBlock) => HK3.out.grown h (fun e => own_blk_ne HO3.out HK3.out (by decide) e.symm))
        have HFY := Lib.hid (fun (W9 : World) (h : (w4.alloc (.cells #[.string (⟨#[]⟩ : ByteArray), .slice (none : Option Addr) 0 0] 48)).grownBy W9 (Value.slice As k cs_).ownBlock) => HR3.out.grown h (fun e => own_blk_ne HO3.out HR3.out (by decide) e.symm))
        go_upto_region 8 with (at_builtin; refine wpList_append_any_s _ rfl (.tmp 26) (.tmp 28) 45 rfl (g + 2) 48 i0 _ 2 40 Try.underlying45 hi hz0 hz1 hz2 rfl hq0 _ k _ rfl HO3.out _ (some ⟨w4.heap.size, 0, none⟩) 1 1 ([Vz].flatMap vyC) rfl HNW.out hq5 hq3 hq4 HSX.out ?_; intro A9 c9 w9 hown9 hg9 hl0; have HB9 := Lib.hid (HB3.out.grown hg9 HB3.out.size (fun q hq => by have := (HO3.out.lt q hq).1; have := HG.out; omega)); have HO9 := Lib.hid hown9; have HK9 := Lib.hid (HFZ.out _ hg9); have HR9 := Lib.hid (HFY.out _ hg9); have HS9 : Hid (g + 2 ≤ w9.heap.size) := Lib.hid (Nat.le_trans HSX.out hg9.size); clear hown9 hg9 hl0; have k9 := HK9.out.cell 0; have f9 := HK9.out.frozen 0; simp only [List.getElem?_toArray, List.getElem?_cons_zero] at k9)
        have HUU := Lib.hid (Sift.up HUS.out HU.out)
        have HLL : Hid (∀ z ∈ us ++ [Vz], z = Vz ∨ z ∈ vs) := Lib.hid (fun z hz => by rcases List.mem_append.1 hz with h | h; exact HLU.out z h; simp at h; subst h; exact HU.out.elim (fun q => .inl q.1) (fun q => .inr (List.mem_of_getElem? q.1)))
        have HOE : Hid ((w9.setCell ⟨g + 1, 0, none⟩ (.slice A9 (k + 1) c9)).ownsRow (g + 2) 48 2 (.slice A9 (k + 1) c9) (k + 1) ((us ++ [Vz]).flatMap vyC)) := Lib.hid (own_fr (by rw [List.flatMap_append]; exact HO9.out) ((Fr.refl (fun q => q = g + 1) w9).setCell (p := ⟨g + 1, 0, none⟩) (.inl rfl) _) (fun q hq e => own_blk_ne HO9.out HK9.out (by decide) (by rw [hq, e])))
        have HKE : Hid (Blk (w9.setCell ⟨g + 1, 0, none⟩ (.slice A9 (k + 1) c9)) (g + 1) 94 #[.slice A9 (k + 1) c9, .string fr, .int .i64 ch]) := Lib.hid (by have := HK9.out.set_ 0 (.slice A9 (k + 1) c9); simpa using this)
        have HRE : Hid (Blk (w9.setCell ⟨g + 1, 0, none⟩ (.slice A9 (k + 1) c9)) g 94 #[.slice none 0 0, .string ⟨#[]⟩, .int .i64 0]) := Lib.hid (HR9.out.far (p := ⟨g + 1, 0, none⟩) (by simp) _)
        have HBE : Hid (Below w.heap.size w (w9.setCell ⟨g + 1, 0, none⟩ (.slice A9 (k + 1) c9))) := Lib.hid (HB9.out.setCell (p := ⟨g + 1, 0, none⟩) (by have := HG.out; simp; omega) _)
        have HSE : Hid (g + 2 ≤ (w9.setCell ⟨g + 1, 0, none⟩ (.slice A9 (k + 1) c9)).heap.size) := Lib.hid (by simpa [World.setCell] using HS9.out)
        go_wp2_with fail
        go_roundw
        case rel => exact ⟨k + 1, us ++ [Vz], .slice A9 (k + 1) c9, by omega, by go_num, HUU, HLL, HKE, HRE, HOE, HBE, HSE⟩
        case measure => simp [intOf]; omega
    · have hkn : n = k := by omega
      subst hkn
      have e0 := HKw.out.cell 0; have e1 := HKw.out.cell 1; have e2 := HKw.out.cell 2
      simp only [List.getElem?_toArray, List.getElem?_cons_zero, List.getElem?_cons_succ] at e0 e1 e2
      have HSL := Lib.hid (SliceOf.of_own_s HOw.out vy_len rfl HUS.out.1)
      have HVL := Lib.hid HX.out.len
      go_wp2_with ((refine stop_store 94 _ _ rfl ?_; refine wpList_store_fr rfl 94 _ _ rfl _ rfl rfl HRw.out (by kernel_rfl) rfl rfl ?_; intro w4 hn4 fr4))
      have HB4 := Lib.hid (fr4.bel HBw.out (fun q e => by have := HG.out; omega) HBw.out.size)
      have HL4 : Hid (SliceOf w4 2 vyC As n us) := Lib.hid (HSL.out.fr fr4 (fun b off h e => by subst h; have := (HOw.out.lt b (by simp [Value.ownBlock])).1; omega))
      have HLI4 : Hid (Lie w4 us) := Lib.hid (fun z hz => by
        rcases HLU.out z hz with h | h
        · subst h; exact SliceOf.none_
        · exact (HLI.out z h).below HB4.out)
      have q0 := hn4.cell 0; have q1 := hn4.cell 1; have q2 := hn4.cell 2
      simp only [List.getElem?_toArray, List.getElem?_cons_zero, List.getElem?_cons_succ] at q0 q1 q2
      refine bodyPost_ret (v := .agg #[.slice As n cs_, .string fr, .int .i64 ch]) (by simp [results, Try.results35, go_sem, q0, q1, q2]) rfl ?_
      exact ⟨As, cs_, us, rfl, hcap, ⟨by rw [HUS.out.1, HVL.out], HUS.out.2⟩, HL4.out, HLI4.out, HB4.out⟩
end Go.Proofs.Ytlicmhgpldmliaa.kit
